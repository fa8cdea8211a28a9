import Derived.Shelf.Strings.Builder1
import Derived.Shelf.Strings.Builder2
import Derived.Shelf.Small.Bits
import Derived.Shelf.Small.Wraps
import Derived.Shelf.Strings.BuilderF
import Derived.Shelf.Strings.BuilderK
import Derived.Shelf.Strconv.Itoa0
import Derived.Shelf.Strconv.Itoa1
import Derived.Shelf.LaysM
import Derived.Shelf.Strconv.Itoa2
import Derived.Shelf.Strconv.Itoa3
import Derived.Shelf.Strconv.Itoa4
import Derived.Shelf.Strconv.ParseIntEmpty
import Derived.Shelf.Strconv.Clone
import Derived.Shelf.Strconv.SyntaxError
import Derived.Shelf.LaysC
import Derived.Shelf.Strconv.ToError
import Derived.Shelf.Strconv.Lower
import Derived.Shelf.Strconv.ParseUint10
import Derived.Shelf.Strconv.ParseUint10Empty
import Derived.Shelf.Strconv.ParseUint10Any
import Derived.Shelf.Strconv.ParseInt10
import Derived.Shelf.Strconv.RangeError
import Derived.Shelf.Strconv.ToErrorRange
import Derived.Shelf.Strconv.ParseUintEmpty
import Derived.Shelf.Strconv.ParseUint10b64
import Derived.Shelf.Strconv.ParseUint10b32
import Derived.Shelf.Strconv.ParseUint10b16
import Derived.Shelf.Strconv.ParseUint10b8
import Derived.Shelf.Strconv.ParseUint10At
import Derived.Shelf.Strconv.ParseInt10At64
import Derived.Shelf.Strconv.ParseInt10At32
import Derived.Shelf.Strconv.ParseInt10At16
import Derived.Shelf.Strconv.ParseInt10At8
import Derived.Shelf.Strconv.ParseInt10All
import Derived.Shelf.Strconv.ParseIntPublic10
import Derived.Shelf.Strconv.ErrVarParseInt
import Derived.Shelf.Strings.Search1
import Derived.Shelf.Strings.Search2
import Derived.Shelf.Strings.Search3
import Derived.Shelf.Strings.Shaped
import Derived.Ground.Names2Prog
import Derived.Shelf.Slices.SearchI
import Derived.Ground.SlsfProg
import Derived.Shelf.SlSortCmp.Insertion
import Derived.Shelf.SlSortCmp.SiftDown1
import Derived.Shelf.SlSortCmp.HeapSort1
import Derived.Shelf.SlSortCmp.Insertion1
import Derived.Shelf.SlSortCmp.Median1
import Derived.Shelf.SlSortCmp.Pivot1
import Derived.Shelf.SlSortCmp.ReverseRange1
import Derived.Shelf.SlSortCmp.PartialInsertion1
import Derived.Shelf.SlSortCmp.PartitionEqual1
import Derived.Shelf.SlSortCmp.Partition1
import Derived.Shelf.SlSortCmp.Pdq1
import Derived.Shelf.SlSortCmp.Whole1
import Derived.Shelf.SlSortCmp.NoneTotal
import Derived.Test.YtdjmckjbibfecaaGreatDoorProg
import Derived.Test.YtdjmckjbibfecaaGreatDoorWc
namespace Go.Proofs
open Go.Shelf
def Tryz.laysSlF6_f39_ren:Go.Shelf.Ren:=⟨fun | 6=>39 | 15=>89 | 14=>88 | 28=>146 | 29=>147 | 20=>138 | 21=>139 | 22=>140 | 23=>141 | 24=>142 | 25=>143 | 26=>144 | 27=>145 | 46=>188 | 47=>189 | 48=>190 | 49=>191 | 50=>192 | 57=>208 | n=>n,fun | 22=>72 | 24=>38 | 25=>76 | 3=>3 | 39=>38 | 0=>0 | 53=>130 | 55=>132 | 4=>4 | 46=>166 | 45=>165 | 50=>170 | 5=>5 | 9=>9 | 66=>198 | 70=>202 | 76=>213 | 77=>39 | n=>n,fun | n=>n⟩
theorem Tryz.laysSlF6_f39:Go.Proofs.SlLaysF.n6 Tryz.prog Tryz.laysSlF6_f39_ren:={
 mixed:=by kernel_rfl
 f6:=⟨Tryz.f39.name,by decide,Tryz.func39.trans (congrArg some (by kernel_rfl))⟩
 f14:=⟨Tryz.f88.name,by decide,Tryz.func88.trans (congrArg some (by kernel_rfl))⟩
 f15:=Tryz.func89.trans (congrArg some (by kernel_rfl))
 f20:=⟨Tryz.f138.name,by decide,Tryz.func138.trans (congrArg some (by kernel_rfl))⟩
 f21:=⟨Tryz.f139.name,by decide,Tryz.func139.trans (congrArg some (by kernel_rfl))⟩
 f22:=⟨Tryz.f140.name,by decide,Tryz.func140.trans (congrArg some (by kernel_rfl))⟩
 f23:=⟨Tryz.f141.name,by decide,Tryz.func141.trans (congrArg some (by kernel_rfl))⟩
 f24:=⟨Tryz.f142.name,by decide,Tryz.func142.trans (congrArg some (by kernel_rfl))⟩
 f25:=⟨Tryz.f143.name,by decide,Tryz.func143.trans (congrArg some (by kernel_rfl))⟩
 f26:=⟨Tryz.f144.name,by decide,Tryz.func144.trans (congrArg some (by kernel_rfl))⟩
 f27:=⟨Tryz.f145.name,by decide,Tryz.func145.trans (congrArg some (by kernel_rfl))⟩
 f28:=Tryz.func146.trans (congrArg some (by kernel_rfl))
 f29:=Tryz.func147.trans (congrArg some (by kernel_rfl))
 f46:=⟨Tryz.f188.name,by decide,Tryz.func188.trans (congrArg some (by kernel_rfl))⟩
 f47:=Tryz.func189.trans (congrArg some (by kernel_rfl))
 f48:=Tryz.func190.trans (congrArg some (by kernel_rfl))
 f49:=⟨Tryz.f191.name,by decide,Tryz.func191.trans (congrArg some (by kernel_rfl))⟩
 f50:=⟨Tryz.f192.name,by decide,Tryz.func192.trans (congrArg some (by kernel_rfl))⟩
 f57:=⟨Tryz.f208.name,by decide,Tryz.func208.trans (congrArg some (by kernel_rfl))⟩
 t0:=Tryz.underlying0
 a0:=Tryz.isAgg0
 z0:=Tryz.sizeOf0
 v0:=Tryz.zeroValue0
 t3:=Tryz.underlying3
 a3:=Tryz.isAgg3
 z3:=Tryz.sizeOf3
 v3:=Tryz.zeroValue3
 t4:=Tryz.underlying4
 a4:=Tryz.isAgg4
 z4:=Tryz.sizeOf4
 v4:=Tryz.zeroValue4
 t5:=Tryz.underlying5
 a5:=Tryz.isAgg5
 z5:=Tryz.sizeOf5
 v5:=Tryz.zeroValue5
 t9:=Tryz.underlying9
 a9:=Tryz.isAgg9
 z9:=Tryz.sizeOf9
 v9:=Tryz.zeroValue9
 t22:=Tryz.underlying72
 a22:=Tryz.isAgg72
 z22:=Tryz.sizeOf72
 v22:=Tryz.zeroValue72
 a24:=Tryz.isAgg38
 z24:=Tryz.sizeOf38
 t25:=Tryz.underlying76
 a25:=Tryz.isAgg76
 z25:=Tryz.sizeOf76
 v25:=Tryz.zeroValue76
 t39:=Tryz.underlying38
 a39:=Tryz.isAgg38
 z39:=Tryz.sizeOf38
 v39:=Tryz.zeroValue38
 t45:=Tryz.underlying165
 a45:=Tryz.isAgg165
 z45:=Tryz.sizeOf165
 v45:=Tryz.zeroValue165
 t46:=Tryz.underlying166
 a46:=Tryz.isAgg166
 z46:=Tryz.sizeOf166
 v46:=Tryz.zeroValue166
 t50:=Tryz.underlying170
 a50:=Tryz.isAgg170
 z50:=Tryz.sizeOf170
 v50:=Tryz.zeroValue170
 t53:=Tryz.underlying130
 a53:=Tryz.isAgg130
 z53:=Tryz.sizeOf130
 v53:=Tryz.zeroValue130
 t55:=Tryz.underlying132
 a55:=Tryz.isAgg132
 z55:=Tryz.sizeOf132
 v55:=Tryz.zeroValue132
 t66:=Tryz.underlying198
 a66:=Tryz.isAgg198
 z66:=Tryz.sizeOf198
 v66:=Tryz.zeroValue198
 t70:=Tryz.underlying202
 a70:=Tryz.isAgg202
 z70:=Tryz.sizeOf202
 v70:=Tryz.zeroValue202
 t76:=Tryz.underlying213
 a76:=Tryz.isAgg213
 z76:=Tryz.sizeOf213
 v76:=Tryz.zeroValue213
 t77:=Tryz.underlying39
 a77:=Tryz.isAgg39
 z77:=Tryz.sizeOf39
 v77:=Tryz.zeroValue39 }
open Go.RowKit Go.Lib Go.Sort in
theorem Tryz.slices_SortFunc {α:Type} [Inhabited α] (enc:α->Value) (h1:OneCell enc) (cf:α->α->Int) (hO:SWO (ltOf cf)) (g:Nat) (cb:Array Value) (blk off cap:Nat) (d:Array α) (w:World) (eg:∀args w,(callFunc g args).run Tryz.prog w=.ok (.enter g args) w) (hcmp:CmpLays1 Tryz.prog g cb enc cf blk off d.size w) (hH:Holds enc w blk off d) (hblk:blk<w.heap.size) (hsz:d.size<4611686018427387904) :
  Calls Tryz.prog 39 #[.slice (some ⟨blk,off,none⟩) d.size cap,.func (.func g) #[] cb] w fun e w' =>
   e=.returned (.tuple #[])/\∃d' n os,PermIn 0 d.size d d'/\SortedIn (ltOf cf) 0 d.size d'/\w'=sortWorld enc w blk off n d' os:=Any.slices_SortFunc Tryz.laysSlF6_f39 enc h1 cf hO g cb blk off cap d w eg hcmp hH hblk hsz
end Go.Proofs
namespace Go.Proofs.YtdjmckjbibfecaaGreatDoor
open Go Go.RowKit Go.BigFrame Go.Maps
set_option maxRecDepth 100000
set_option maxHeartbeats 1600000
theorem plcM_set (m a:Nat):plcM 0 m a=(List.range m).filter (setP m a):=by
 rw [plcM_filter,<-List.range_eq_range']
 congr 1
 funext i
 unfold setP
 congr 1
 omega
def natsV (l:List Nat):List Value:=l.map fun (x:Nat)=>Value.int .i64 (x:Int)
def unatsV (l:List Nat):List Value:=l.map fun (x:Nat)=>Value.int .u64 (x:Int)
theorem natsV_app (l m:List Nat):natsV (l++m)=natsV l++natsV m:=List.map_append
theorem unatsV_app (l m:List Nat):unatsV (l++m)=unatsV l++unatsV m:=List.map_append
theorem filt_succ (p:Nat->Bool) (q:Nat):(List.range (q+1)).filter p=(List.range q).filter p++(if p q then [q] else []):=by
 rw [List.range_succ,List.filter_append]
 congr 1
 cases h:p q<;>simp [h]
theorem filt_le (p:Nat->Bool) (q:Nat):((List.range q).filter p).length<=q:=by
 have:=List.length_filter_le p (List.range q)
 simpa using this
theorem Tryz.info3:(Tryz.prog.info? 3).map (fun i=>(i.zero,i.size,i.bytes))=some (some (.int .i64 0),1,8):=by kernel_rfl
theorem Tryz.info38:(Tryz.prog.info? 38).map (fun i=>(i.zero,i.size,i.bytes))=some (some (.int .u64 0),1,8):=by kernel_rfl
theorem places_any (m set:Nat) (w:World) (hm:m<=12) (hset:set<2 ^ m) :
  Calls Tryz.prog 47 #[.int .u64 (set:Int),.int .i64 (m:Int)] w fun e w'=>∃v,e=.returned v/\w'.ownsRow w.heap.size 3 1 v (plcM 0 m set).length (natsV (plcM 0 m set))/\Bz w w':=by
 obtain ⟨i0,hi,hz0,hz1,hz2⟩:=info_parts Tryz.info3
 rw [plcM_set]
 have hsm:set<4096:=Nat.lt_of_lt_of_le hset (Nat.pow_le_pow_right (by omega) hm)
 have hm1:Hid (i0.bytes*m<=281474976710656):=by unfold Hid;rw [hz2];omega
 have hm2:Hid (m<=maxLen):=by unfold Hid maxLen;omega
 have hsm':=hdZ hsm
 clear hsm hset
 go_enter Tryz.func47,Tryz.ntmps47
 go_wp2_with (at_make;go_must (refine wpList_make_own _ rfl _ _ 35 rfl w.heap.size 3 i0 _ 1 Tryz.underlying35 hi hz0 hz1 _ _ _ m rfl rfl rfl hm1.out hm2.out leZ ?_);intro w1 hown hgrow)
 have hB1:Bz w w1:=(Below.refl _ w).grown hgrow leZ (by simp)
 have hown1:=hdZ hown
 clear hown hgrow
 go_loopw [5,10] (fun v i wr=>∃q:Nat,q<=m/\i=.int .i64 q/\Hid (wr.ownsRow w.heap.size 3 1 v ((List.range q).filter (setP m set)).length (natsV ((List.range q).filter (setP m set))))/\Hid (Bz w wr)) (fun _ i _=>m-(intOf i).toNat)
 case atStart=>exact ⟨0,Nat.zero_le _,rfl,hown1,hB1⟩
 case round =>
  obtain ⟨q,hq,rfl,hown2,hB⟩:=hrel
  by_cases hlt:q<m
  ·have hkm:decide (q<m)=true:=dtZ hlt
   obtain ⟨d,hd⟩:∃d,m-1-q=d:=⟨_,rfl⟩
   have hd12:d<12:=by omega
   have hdi:(m:Int)-1-(q:Int)=(d:Int):=by omega
   have hp:=two_pow_lt d hd12
   have hwq:IntKind.u64.wrap (2 ^ d)=((2 ^ d:Nat):Int):=by
    have:=wrapU (2 ^ d) (by omega)
    rw [<-this]
    simp
   obtain ⟨P,hP⟩:∃z:Int,Hid (((2 ^ d:Nat):Int)=z):=⟨_,rfl⟩
   rw [hP.out] at hwq
   obtain ⟨RI,hRI⟩:∃z:Int,Hid (((set &&& 2 ^ d:Nat):Int)=z):=⟨_,rfl⟩
   have hand:bits .and .u64 (set:Int) P=RI:=by rw [<-hP.out,bits_and_u64_nat _ _ (by have:=hsm'.out;omega) (by omega)];exact hRI.out
   have hea:=and_bit set d
   have hsp:setP m set q=set.testBit d:=by unfold setP;rw [hd]
   have hfs:=filt_succ (setP m set) q
   have hfl:=filt_le (setP m set) q
   rw [hsp] at hfs
   have hd0:(0:Int)<=(d:Int):=by omega
   have hd64:(d:Int)<=64:=by omega
   have i1:(q:Int)<(m:Int):=by omega
   have i3:(0:Int)<=(m:Int)-1-(q:Int):=by omega
   have w1':IntKind.i64.wrap ((m:Int)-1)=(m:Int)-1:=IntWalk.i64_in _ (by omega)
   obtain ⟨xs,hxs⟩:∃xs,(List.range q).filter (setP m set)=xs:=⟨_,rfl⟩
   rw [hxs] at hown2 hfs hfl
   obtain ⟨nx,hnx⟩:∃n,xs.length=n:=⟨_,rfl⟩
   rw [hnx] at hown2 hfl
   have hnx':=hdZ hnx
   have hfs':=hdZ hfs
   clear hp hd hsp hxs hnx hfs
   cases ht:set.testBit d with
   | false =>
    have hz:RI=0:=by rw [<-hRI.out,hea,ht];rfl
    rw [hz] at hand
    have hnew:Hid ((List.range (q+1)).filter (setP m set)=xs):=by unfold Hid;rw [hfs'.out,ht];simp
    clear hz hRI hea ht
    go_wp2_with fail
    go_roundw
    case rel=>exact ⟨q+1,by omega,by go_num,by rw [hnew.out,hnx'.out];exact hown2,hB⟩
    case measure=>simp [intOf];omega
   | true =>
    have hpos:2 ^ d≠0:=Nat.ne_of_gt (Nat.two_pow_pos d)
    have hne:¬RI=0:=by rw [<-hRI.out,hea,ht,if_pos rfl];omega
    have hz:(RI==0)=false:=by simpa using hne
    have hz9:(RI != 0)=true:=by simpa using hne
    have hnew:Hid ((List.range (q+1)).filter (setP m set)=xs++[q]):=by unfold Hid;rw [hfs'.out,ht];simp
    have hown3:=hdZ (own_below hown2.out ((Below.refl _ wr).alloc leZ (.cells #[.int .i64 (q:Int)] 3)))
    have hblk3:=hdZ (Blk.new wr 3 #[.int .i64 (q:Int)])
    have hb3:Hid (Bz w (wr.alloc (.cells #[.int .i64 (q:Int)] 3))):=hdZ (hB.out.alloc hB.out.size _)
    have s1:Hid (nx+1<=maxLen):=by unfold Hid maxLen;omega
    have s2:Hid ((nx+1)*8<=140737488355328):=by unfold Hid;omega
    have s3:Hid (w.heap.size<=(wr.alloc (.cells #[.int .i64 (q:Int)] 3)).heap.size):=hdZ hb3.out.size
    clear hRI hea ht hpos
    go_wp2_with (at_builtin;go_must (refine wpList_app2 w.heap.size rfl _ _ 35 rfl 3 i0 _ 1 8 Tryz.underlying35 hi hz0 hz1 hz2 rfl (by decide) _ nx (natsV xs) rfl wr.heap.size 1 #[.int .i64 (q:Int)] rfl hown3.out hblk3.out rfl (by simp [Value.oneCell']) s1.out s2.out s3.out ?_);intro v4 w4 ho4 hb4;have ho4':=hdZ ho4;have hb4':Hid (Bz w w4):=hb3.out.trans hb4;clear ho4 hb4)
    go_roundw
    case rel=>exact ⟨q+1,by omega,by go_num,by rw [hnew.out,List.length_append,hnx'.out,natsV_app];exact ho4',hb4'⟩
    case measure=>simp [intOf];omega
  ·have hkm:decide (q<m)=false:=dfZ hlt
   have hqm:Hid (q=m):=hdZ (by omega)
   go_wp2_with fail
   go_ret
   exact ⟨_,rfl,by have h:=hown2.out;rw [hqm.out] at h;exact h,hB.out⟩
def UAt (w:World) (A:Option Addr) (l:List Nat):Prop:=∀(i x:Nat),l[i]?=some x->∃g off,A=some ⟨g,off,none⟩/\w.cell? ⟨g,off+i,none⟩=some (.int .u64 (x:Int))
theorem own_u {w:World} {B n:Nat} {e:TypeId} {v:Value} {l:List Nat} (h:w.ownsRow B e 1 v n (unatsV l)):∃A c,v=.slice A n c/\UAt w A l:=by
 obtain ⟨A,c,rfl⟩:=own_form h
 refine ⟨A,c,rfl,fun i x hx=>?_⟩
 have hlen:l.length=n:=by have:=h.1;rw [unatsV,List.length_map] at this;omega
 obtain ⟨g,cap,e9,_,_⟩:=own_formS h (by have:=(gsZ.1 hx).1;omega)
 have hA:A=some ⟨g,0,none⟩:=by injection e9
 subst hA
 refine ⟨g,0,rfl,?_⟩
 have:=h.cells (g:=g) rfl i (.int .u64 (x:Int)) (by rw [unatsV,List.getElem?_map,hx];rfl)
 have hadd:(⟨g,0,none⟩:Addr).add i=⟨g,0+i,none⟩:=by unfold Addr.add;split<;>simp_all
 rw [<-hadd];exact this
theorem inset_any (a set b:Nat) (w:World) (ha:a<4096) (hs:set<4096) (hb:w.cell? ⟨b,0,none⟩=some (.int .u64 (set:Int))) :
  Calls Tryz.prog 44 #[.int .u64 (a:Int),.pointer (some ⟨b,0,none⟩)] w fun e w'=>e=.returned (.bool (subB a set))/\w=w':=by
 have hand:bits .and .u64 (a:Int) (set:Int)=((a &&& set:Nat):Int):=bits_and_u64_nat _ _ (by omega) (by omega)
 obtain ⟨R,hR⟩:∃R,a &&& set=R:=⟨_,rfl⟩
 rw [hR] at hand
 have hsub:Hid (subB a set=decide (R=a)):=by unfold Hid subB;rw [hR]
 rw [hsub.out]
 clear hR hsub ha hs
 by_cases h:R=a
 ·subst h
  rw [dtZ rfl]
  go_enter Tryz.func44,Tryz.ntmps44
  go_wp2_with fail
  go_ret
  exact ⟨rfl,rfl⟩
 ·rw [dfZ h]
  have e1:((R:Int)==(a:Int))=false:=by simp;omega
  have e2:¬((R:Int)=(a:Int)):=by omega
  have e3:(R==a)=false:=by simpa using h
  go_enter Tryz.func44,Tryz.ntmps44
  go_wp2_with fail
  go_ret
  exact ⟨rfl,rfl⟩
theorem any_drop {l:List Nat} {k:Nat} {x:Nat} {p:Nat->Bool} (hx:l[k]?=some x):(l.drop k).any p=(p x||(l.drop (k+1)).any p):=by
 obtain ⟨hk,he⟩:=gsZ.1 hx
 rw [List.drop_eq_getElem_cons hk,he,List.any_cons]
theorem index_any2 (A:Option Addr) (n c:Nat) (l:List Nat) (set b:Nat) (w:World) (hn:n<=5000) (hl:Hid (l.length=n)) (hA:Hid (UAt w A l)) (hs:set<4096) (hls:Hid (∀x∈l,x<4096)) (hb:w.cell? ⟨b,0,none⟩=some (.int .u64 (set:Int))) :
  Calls Tryz.prog 94 #[.slice A n c,.func (.func 44) #[] #[.pointer (some ⟨b,0,none⟩)]] w fun e w'=>∃i:Int,e=.returned (.int .i64 i)/\decide (0<=i)=l.any (fun f=>subB f set)/\w=w':=by
 go_enter Tryz.func94,Tryz.ntmps94
 go_wp2_with fail
 go_loopw [8] (fun i wr=>∃k:Nat,k<=n/\i=.int .i64 k/\Hid (l.any (fun f=>subB f set)=(l.drop k).any (fun f=>subB f set))/\w=wr) (fun i _=>n-(intOf i).toNat)
 case atStart=>exact ⟨0,Nat.zero_le _,rfl,rfl,rfl⟩
 case round =>
  obtain ⟨k,hk,rfl,hal,rfl⟩:=hrel
  by_cases hlt:k<n
  ·obtain ⟨x,hx⟩:∃x,l[k]?=some x:=⟨_,gZ (by have:=hl.out;omega)⟩
   have hst:=any_drop (p:=fun f=>subB f set) hx
   obtain ⟨g,off,rfl,hc⟩:=hA.out k x hx
   have hwi:=hdZ (inset_any x set b w (hls.out x (mgZ hx)) hs hb)
   have hkm:decide (k<n)=true:=dtZ hlt
   have i1:(k:Int)<(n:Int):=by omega
   have i2:(0:Int)<=(k:Int):=by omega
   obtain ⟨t,ht⟩:∃t,subB x set=t:=⟨_,rfl⟩
   rw [ht] at hwi hst
   have hst':=hdZ hst
   clear hx hst ht
   cases t with
   | true =>
    go_wp2_with fail
    refine hwi.out.mono ?_
    rintro e w1 ⟨rfl,rfl⟩
    go_wp2_with fail
    go_ret
    exact ⟨k,rfl,by rw [hal.out,hst'.out];simp,rfl⟩
   | false =>
    go_wp2_with fail
    refine hwi.out.mono ?_
    rintro e w1 ⟨rfl,rfl⟩
    go_wp2_with fail
    go_roundw
    case rel=>exact ⟨k+1,by omega,by go_num,hdZ (by rw [hal.out,hst'.out];rfl),by first | trivial | rfl⟩
    case measure=>simp [intOf];omega
  ·have hkm:decide (k<n)=false:=dfZ hlt
   have hend:Hid (l.any (fun f=>subB f set)=false):=by
    unfold Hid
    rw [hal.out,List.drop_eq_nil_of_le (by have:=hl.out;omega)]
    rfl
   go_wp2_with fail
   go_ret
   exact ⟨-1,rfl,by rw [hend.out];rfl,rfl⟩
theorem contains_any (A:Option Addr) (n c:Nat) (l:List Nat) (set b:Nat) (w:World) (hn:n<=5000) (hl:Hid (l.length=n)) (hA:Hid (UAt w A l)) (hs:set<4096) (hls:Hid (∀x∈l,x<4096)) (hb:w.cell? ⟨b,0,none⟩=some (.int .u64 (set:Int))) :
  Calls Tryz.prog 45 #[.slice A n c,.func (.func 44) #[] #[.pointer (some ⟨b,0,none⟩)]] w fun e w'=>e=.returned (.bool (l.any fun f=>subB f set))/\w=w':=by
 have hix:=hdZ (index_any2 A n c l set b w hn hl hA hs hls hb)
 go_enter Tryz.func45,Tryz.ntmps45
 go_wp2_with fail
 refine hix.out.mono ?_
 rintro e w1 ⟨i,rfl,hi,rfl⟩
 have hi':=hdZ hi
 clear hix hi
 go_wp2_with fail
 go_ret
 exact ⟨by rw [<-hi'.out];rfl,rfl⟩
def pa1 (x:Nat):Nat:=(x / 2 &&& 6148914691236517205)+(x &&& 6148914691236517205)
def pa2 (a:Nat):Nat:=(a / 4 &&& 3689348814741910323)+(a &&& 3689348814741910323)
def pa3 (a:Nat):Nat:=a / 16+a &&& 1085102592571150095
def pa4 (a:Nat):Nat:=a+a / 256
def pa5 (a:Nat):Nat:=a+a / 65536
def pa6 (a:Nat):Nat:=a+a / 4294967296
def popN (x:Nat):Nat:=pa6 (pa5 (pa4 (pa3 (pa2 (pa1 x))))) &&& 127
def popOk (x:Nat):Bool:=decide (pa1 x<65536)&&decide (pa2 (pa1 x)<65536)&&decide (pa3 (pa2 (pa1 x))<65536)&&decide (popN x=(plcM 0 12 x).length)
theorem pop_all:(List.range 4096).all popOk=true:=by decide +kernel
theorem pop_ok {x:Nat} (h:x<4096):pa1 x<65536/\pa2 (pa1 x)<65536/\pa3 (pa2 (pa1 x))<65536/\popN x=(plcM 0 12 x).length:=by
 have:=List.all_eq_true.1 pop_all x (List.mem_range.2 h)
 unfold popOk at this
 simp only [Bool.and_eq_true,decide_eq_true_eq] at this
 exact ⟨this.1.1.1,this.1.1.2,this.1.2,this.2⟩
theorem plc_top:∀(d n k x:Nat),x<2 ^ n->(plcM k (n+d) x).length=(plcM k n x).length
 | 0,_,_,_,_=>rfl
 | d+1,n,k,x,h=>by
  have hb:x.testBit (n+d)=false:=Nat.testBit_lt_two_pow (Nat.lt_of_lt_of_le h (Nat.pow_le_pow_right (by omega) (by omega)))
  rw [show n+(d+1)=(n+d)+1 by omega,plcM,hb]
  simp only [Bool.false_eq_true,if_false]
  have e:∀(n k j x:Nat),(plcM k n x).length=(plcM j n x).length:=by
   intro n
   induction n with
   | zero=>intro k j x;rfl
   | succ n ih=>intro k j x;rw [plcM,plcM];split<;>simp [ih (k+1) (j+1) x]
  rw [e _ (k+1) k]
  exact plc_top d n k x h
theorem pop_plc {m x:Nat} (hm:m<=12) (h:x<2 ^ m):popN x=(plcM 0 m x).length:=by
 have hx:x<4096:=Nat.lt_of_lt_of_le h (Nat.pow_le_pow_right (by omega) hm)
 rw [(pop_ok hx).2.2.2]
 have:=plc_top (12-m) m 0 x h
 rwa [show m+(12-m)=12 by omega] at this
theorem wrapU' {v:Int} (n:Nat) (e:v=(n:Int)) (h:n<18446744073709551616):IntKind.u64.wrap v=(n:Int):=by rw [e];exact wrapU n h
theorem ones64_any (x:Nat) (w:World) (hx:x<4096):Calls Tryz.prog 92 #[.int .u64 (x:Int)] w fun e w'=>e=.returned (.int .i64 (popN x:Int))/\w=w':=by
 have h0:(0:Int)<=(x:Int):=by omega
 obtain ⟨o1,o2,o3,_⟩:=pop_ok hx
 have hpop:Hid (popN x=(pa6 (pa5 (pa4 (pa3 (pa2 (pa1 x))))) &&& 127)):=rfl
 obtain ⟨P1,hP1⟩:∃z,x / 2 &&& 6148914691236517205=z:=⟨_,rfl⟩
 obtain ⟨P2,hP2⟩:∃z,x &&& 6148914691236517205=z:=⟨_,rfl⟩
 have b1:bits .and .u64 ((x:Int) / 2) 6148914691236517205=(P1:Int):=by rw [<-hP1];exact bits_and_u64_nat (x / 2) 6148914691236517205 (by omega) (by omega)
 have b2:bits .and .u64 (x:Int) 6148914691236517205=(P2:Int):=by rw [<-hP2];exact bits_and_u64_nat x 6148914691236517205 (by omega) (by omega)
 obtain ⟨A1,hA1⟩:∃z,pa1 x=z:=⟨_,rfl⟩
 have eA1:P1+P2=A1:=by rw [<-hA1,<-hP1,<-hP2];rfl
 rw [hA1] at hpop o1 o2 o3
 have u1:IntKind.u64.wrap ((P1:Int)+(P2:Int))=(A1:Int):=wrapU' A1 (by omega) (by omega)
 obtain ⟨Q1,hQ1⟩:∃z,A1 / 4 &&& 3689348814741910323=z:=⟨_,rfl⟩
 obtain ⟨Q2,hQ2⟩:∃z,A1 &&& 3689348814741910323=z:=⟨_,rfl⟩
 have b3:bits .and .u64 ((A1:Int) / 4) 3689348814741910323=(Q1:Int):=by rw [<-hQ1];exact bits_and_u64_nat (A1 / 4) 3689348814741910323 (by omega) (by omega)
 have b4:bits .and .u64 (A1:Int) 3689348814741910323=(Q2:Int):=by rw [<-hQ2];exact bits_and_u64_nat A1 3689348814741910323 (by omega) (by omega)
 obtain ⟨A2,hA2⟩:∃z,pa2 A1=z:=⟨_,rfl⟩
 have eA2:Q1+Q2=A2:=by rw [<-hA2,<-hQ1,<-hQ2];rfl
 rw [hA2] at hpop o2 o3
 have u2:IntKind.u64.wrap ((Q1:Int)+(Q2:Int))=(A2:Int):=wrapU' A2 (by omega) (by omega)
 obtain ⟨S2,hS2⟩:∃z,A2 / 16+A2=z:=⟨_,rfl⟩
 have u3:IntKind.u64.wrap ((A2:Int) / 16+(A2:Int))=(S2:Int):=wrapU' S2 (by omega) (by omega)
 obtain ⟨A3,hA3⟩:∃z,pa3 A2=z:=⟨_,rfl⟩
 rw [hA3] at hpop o3
 have b5:bits .and .u64 (S2:Int) 1085102592571150095=(A3:Int):=by rw [<-hA3,pa3,hS2];exact bits_and_u64_nat S2 1085102592571150095 (by omega) (by omega)
 obtain ⟨A4,hA4⟩:∃z,pa4 A3=z:=⟨_,rfl⟩
 have u4:IntKind.u64.wrap ((A3:Int)+(A3:Int) / 256)=(A4:Int):=wrapU' A4 (by rw [<-hA4,pa4];omega) (by rw [<-hA4,pa4];omega)
 have o4:A4<131072:=by rw [<-hA4,pa4];omega
 rw [hA4] at hpop
 obtain ⟨A5,hA5⟩:∃z,pa5 A4=z:=⟨_,rfl⟩
 have u5:IntKind.u64.wrap ((A4:Int)+(A4:Int) / 65536)=(A5:Int):=wrapU' A5 (by rw [<-hA5,pa5];omega) (by rw [<-hA5,pa5];omega)
 have o5:A5<262144:=by rw [<-hA5,pa5];omega
 rw [hA5] at hpop
 obtain ⟨A6,hA6⟩:∃z,pa6 A5=z:=⟨_,rfl⟩
 have u6:IntKind.u64.wrap ((A5:Int)+(A5:Int) / 4294967296)=(A6:Int):=wrapU' A6 (by rw [<-hA6,pa6];omega) (by rw [<-hA6,pa6];omega)
 have o6:A6<524288:=by rw [<-hA6,pa6];omega
 rw [hA6] at hpop
 have u7:IntKind.i64.wrap (A6:Int)=(A6:Int):=IntWalk.i64_in _ (by omega)
 obtain ⟨R,hR⟩:∃z,A6 &&& 127=z:=⟨_,rfl⟩
 have b6:bits .and .i64 (A6:Int) 127=(R:Int):=by rw [<-hR];exact bits_and_i64 A6 127 (by omega) (by omega)
 rw [hR] at hpop
 clear hP1 hP2 hA1 eA1 hQ1 hQ2 hA2 eA2 hS2 hA3 hA4 hA5 hA6 hR o1 o2 o3 o4 o5
 go_enter Tryz.func92,Tryz.ntmps92
 go_wp2_with fail
 go_ret
 exact ⟨by rw [hpop.out];rfl,rfl⟩
theorem ones_any (x:Nat) (w:World) (hx:x<4096):Calls Tryz.prog 42 #[.int .u64 (x:Int)] w fun e w'=>e=.returned (.int .i64 (popN x:Int))/\w=w':=by
 have ho:=hdZ (ones64_any x w hx)
 have h0:(0:Int)<=(x:Int):=by omega
 have hx':=hdZ hx
 clear hx
 go_enter Tryz.func42,Tryz.ntmps42
 go_wp2_with fail
 refine ho.out.mono ?_
 rintro e w1 ⟨rfl,rfl⟩
 go_wp2_with fail
 go_ret
 exact ⟨rfl,rfl⟩
open Go.Sort (grow_empty heap_grow_old size_grow size_putRow)
theorem nan_any (x:Int) (w:World):Calls Tryz.prog 93 #[.int .u64 x] w fun e w'=>e=.returned (.bool false)/\w=w':=by
 go_enter Tryz.func93,Tryz.ntmps93
 go_wp2_with fail
 go_ret
 exact ⟨by simp,rfl⟩
theorem compareU_any (x y:Int) (w:World):Calls Tryz.prog 43 #[.int .u64 x,.int .u64 y] w fun e w'=>e=.returned (.int .i64 (Lib.compareInt x y))/\w=w':=by
 obtain ⟨r,hr⟩:=nmZ (Lib.compareInt x y)
 rw [hr.out]
 by_cases h1:x<y
 ·have hr1:Hid (r = -1):=by unfold Hid;rw [<-hr.out,Lib.compareInt,if_pos h1]
  have d1:decide (x<y)=true:=dtZ h1
  go_enter Tryz.func43,Tryz.ntmps43
  go_wp2_with fail
  refine (nan_any x w).mono ?_
  rintro e w1 ⟨rfl,rfl⟩
  go_wp2_with fail
  refine (nan_any y w).mono ?_
  rintro e w1 ⟨rfl,rfl⟩
  go_wp2_with fail
  go_ret
  exact ⟨by rw [hr1.out];rfl,rfl⟩
 ·have d1:decide (x<y)=false:=dfZ h1
  by_cases h2:y<x
  ·have hr1:Hid (r=1):=by unfold Hid;rw [<-hr.out,Lib.compareInt,if_neg h1,if_pos h2]
   have d2:decide (y<x)=true:=dtZ h2
   go_enter Tryz.func43,Tryz.ntmps43
   go_wp2_with fail
   refine (nan_any x w).mono ?_
   rintro e w1 ⟨rfl,rfl⟩
   go_wp2_with fail
   refine (nan_any y w).mono ?_
   rintro e w1 ⟨rfl,rfl⟩
   go_wp2_with fail
   go_ret
   exact ⟨by rw [hr1.out];rfl,rfl⟩
  ·have hr1:Hid (r=0):=by unfold Hid;rw [<-hr.out,Lib.compareInt,if_neg h1,if_neg h2]
   have d2:decide (y<x)=false:=dfZ h2
   go_enter Tryz.func43,Tryz.ntmps43
   go_wp2_with fail
   refine (nan_any x w).mono ?_
   rintro e w1 ⟨rfl,rfl⟩
   go_wp2_with fail
   refine (nan_any y w).mono ?_
   rintro e w1 ⟨rfl,rfl⟩
   go_wp2_with fail
   go_ret
   exact ⟨by rw [hr1.out];rfl,rfl⟩
def cfS (a b:Nat):Int:=if Lib.compareInt (popN a) (popN b)≠0 then Lib.compareInt (popN a) (popN b) else Lib.compareInt b a
theorem cfS_lt (a b:Nat):cfS a b<0 ↔ popN a<popN b\/(popN a=popN b/\b<a):=by
 unfold cfS Lib.compareInt
 split<;>split<;>(try split)<;>(try split)<;>omega
theorem cmpS_any (a b:Nat) (w:World) (ha:a<4096) (hb:b<4096):Calls Tryz.prog 40 #[.int .u64 (a:Int),.int .u64 (b:Int)] w fun e w'=>e=.returned (.int .i64 (cfS a b))/\w=w':=by
 have hcf:Hid (cfS a b=if Lib.compareInt (popN a) (popN b)≠0 then Lib.compareInt (popN a) (popN b) else Lib.compareInt b a):=rfl
 rw [hcf.out]
 have h1:=hdZ (ones_any a w ha)
 have h2:=hdZ (ones_any b w hb)
 have h3:=hdZ (Tryz.cmp_Compare_int (popN a) (popN b) w)
 have h4:=hdZ (compareU_any b a w)
 obtain ⟨C,hC⟩:∃z,Lib.compareInt (popN a) (popN b)=z:=⟨_,rfl⟩
 rw [hC] at h3 ⊢
 clear hcf hC ha hb
 by_cases hz:C=0
 ·subst hz
  rw [if_neg (by simp)]
  go_enter Tryz.func40,Tryz.ntmps40
  go_wp2_with fail
  refine h1.out.mono ?_
  rintro e w1 ⟨rfl,rfl⟩
  go_wp2_with fail
  refine h2.out.mono ?_
  rintro e w1 ⟨rfl,rfl⟩
  go_wp2_with fail
  refine h3.out.mono ?_
  rintro e w1 ⟨rfl,rfl⟩
  go_wp2_with fail
  refine h4.out.mono ?_
  rintro e w1 ⟨rfl,rfl⟩
  go_wp2_with fail
  go_ret
  exact ⟨rfl,rfl⟩
 ·rw [if_pos hz]
  have e1:(C==0)=false:=by simpa using hz
  have e2:(C != 0)=true:=by simpa using hz
  go_enter Tryz.func40,Tryz.ntmps40
  go_wp2_with fail
  refine h1.out.mono ?_
  rintro e w1 ⟨rfl,rfl⟩
  go_wp2_with fail
  refine h2.out.mono ?_
  rintro e w1 ⟨rfl,rfl⟩
  go_wp2_with fail
  refine h3.out.mono ?_
  rintro e w1 ⟨rfl,rfl⟩
  go_wp2_with fail
  go_ret
  exact ⟨rfl,rfl⟩
abbrev Set12:=Fin 4096
def encU (x:Set12):Value:=.int .u64 (x.val:Int)
def cfF (x y:Set12):Int:=cfS x.val y.val
theorem ltF (x y:Set12):ltOf cfF x y=decide (popN x.val<popN y.val\/(popN x.val=popN y.val/\y.val<x.val)):=by
 unfold ltOf cfF
 exact decide_eq_decide.2 (cfS_lt _ _)
theorem swoF:Go.Sort.SWO (ltOf cfF):=by
 refine ⟨fun x=>?_,fun x y z h1 h2=>?_,fun x y z h1 h2=>?_⟩
 ·rw [ltF];simp
 ·rw [ltF] at h1 h2 ⊢
  simp only [decide_eq_true_eq] at h1 h2 ⊢
  omega
 ·rw [ltF] at h1 h2 ⊢
  simp only [decide_eq_false_iff_not] at h1 h2 ⊢
  omega
def setsF (n:Nat):List Set12:=(List.range n).map fun i=>⟨i % 4096,Nat.mod_lt _ (by omega)⟩
theorem setsF_val {n:Nat} (h:n<=4096):(setsF n).map (·.val)=List.range n:=by
 unfold setsF
 rw [List.map_map]
 conv=>rhs;rw [<-List.map_id (List.range n)]
 apply List.map_congr_left
 intro i hi
 have:=List.mem_range.1 hi
 show i % 4096=i
 exact Nat.mod_eq_of_lt (by omega)
theorem sort_any (m:Nat) (hm:m<=12) (B g cap:Nat) (w:World) (own:w.ownsRow B 38 1 (.slice (some ⟨g,0,none⟩) (2 ^ m) cap) (2 ^ m) (unatsV (List.range (2 ^ m)))) :
  Calls Tryz.prog 39 #[.slice (some ⟨g,0,none⟩) (2 ^ m) cap,.func (.func 40) #[] #[]] w fun e w'=>e=.returned (.tuple #[])/\∃ss:List Nat,(∀a,a∈ss ↔ a<2 ^ m)/\ss.Pairwise (aheadP m)/\ss.length=2 ^ m /\
   w'.ownsRow B 38 1 (.slice (some ⟨g,0,none⟩) (2 ^ m) cap) (2 ^ m) (unatsV ss)/\w.grownBy w' (some g):=by
 have hp:2 ^ m<=4096:=Nat.pow_le_pow_right (by omega) hm
 obtain ⟨n,hn⟩:∃n,2 ^ m=n:=⟨_,rfl⟩
 rw [hn] at own hp ⊢
 have hlen:(setsF n).toArray.size=n:=by simp [setsF]
 have hget:∀j,j<n->(setsF n).toArray[j]! = (⟨j % 4096,Nat.mod_lt _ (by omega)⟩:Set12):=fun j hj=>by
  simp [setsF,hj]
 rcases own.2 with ⟨e0,_⟩ | ⟨g',cap',cur,e1,hbg,hg,hnc,hcm,hcs,htake⟩
 ·cases e0
 simp only [Value.slice.injEq,Option.some.injEq,Addr.mk.injEq,true_and,and_true] at e1
 obtain ⟨rfl,rfl⟩:=e1
 have hgl:g<w.heap.size:=(Array.getElem?_eq_some_iff.1 hg).1
 have hHd:Go.Sort.Holds encU w g 0 (setsF n).toArray:=by
  intro j hj
  rw [hlen] at hj
  refine ⟨?_,own.frozenAt _⟩
  rw [Nat.zero_add,own.cellAt j (by omega),hget j hj]
  unfold unatsV encU
  rw [List.getElem?_map,List.getElem?_range hj]
  simp [Nat.mod_eq_of_lt (show j<4096 by omega)]
 have eg:∀args w,(callFunc 40 args).run Tryz.prog w=.ok (.enter 40 args) w:=enters_of Tryz.func40 (by kernel_rfl) rfl
 have hcon:=Tryz.slices_SortFunc encU (fun _=>rfl) cfF swoF 40 #[] g 0 cap (setsF n).toArray w eg (fun mm os dk _ x y=>(cmpS_any x.val y.val _ x.2 y.2).mono fun e w' ⟨he,hw⟩=>⟨he,0,#[],by rw [<-hw,grow_empty];rfl⟩) hHd hgl (by rw [hlen];omega)
 rw [hlen] at hcon
 refine hcon.mono ?_
 rintro e w' ⟨rfl,d',nn,os,hperm,hsort,rfl⟩
 obtain ⟨hs,_,hpm⟩:=hperm
 rw [hlen] at hs
 have hfull:d'.toList.Perm (setsF n):=by
  have h1:d'.extract 0 n=d':=by rw [<-hs];exact Array.extract_size
  have h2:(setsF n).toArray.extract 0 n=(setsF n).toArray:=by
   have h:=Array.extract_size (xs:=(setsF n).toArray)
   rwa [hlen] at h
  rw [h1,h2] at hpm
  simpa using hpm
 have hval:(d'.toList.map (·.val)).Perm (List.range n):=by
  have:=hfull.map (·.val)
  rwa [setsF_val hp] at this
 have hnd:(d'.toList.map (·.val)).Nodup:=hval.nodup_iff.2 List.nodup_range
 refine ⟨rfl,d'.toList.map (·.val),fun a=>by rw [hval.mem_iff,List.mem_range],?_,by simp [hs],?_,?_⟩
 ·rw [List.pairwise_iff_getElem]
  intro i j hi hj hij
  simp only [List.length_map,Array.length_toList] at hi hj
  have hne:(d'.toList.map (·.val))[i]≠(d'.toList.map (·.val))[j]:=List.pairwise_iff_getElem.1 hnd i j _ _ hij
  have hlt:=hsort i j (Nat.zero_le _) hij (by omega)
  rw [ltF] at hlt
  simp only [decide_eq_false_iff_not] at hlt
  rw [getElem!_pos d' i hi,getElem!_pos d' j hj] at hlt
  simp only [List.getElem_map,Array.getElem_toList] at hne ⊢
  have hmem:∀k (hk:k<d'.size),d'[k].val<2 ^ m:=fun k hk=>by
   rw [hn,<-List.mem_range,<-hval.mem_iff]
   exact List.mem_map.2 ⟨d'[k],by simp,rfl⟩
  have p1:=pop_plc hm (hmem i hi)
  have p2:=pop_plc hm (hmem j hj)
  unfold aheadP
  rw [<-p1,<-p2]
  omega
 ·refine ⟨by simp [unatsV,hs],.inr ⟨g,cap,Go.Sort.putCells encU 0 d' cur,rfl,hbg,?_,hnc,hcm,?_,?_⟩⟩
  ·unfold Go.Proofs.sortWorld
   rw [heap_grow_old _ _ (by rw [size_putRow];exact hgl)]
   simp [Go.Sort.putRow,Go.Sort.mapBlock,Go.Sort.ahead,Array.getElem?_modify,hg,Go.Sort.onCells]
  ·unfold Go.Sort.putCells
   simpa using hcs
  ·apply List.ext_getElem?
   intro k
   unfold Go.Sort.putCells unatsV
   by_cases hk:k<n
   ·have hkc:k<cur.size:=by omega
    have hk2:k<d'.size:=by omega
    simp [hk,hkc,hk2,encU]
   ·simp [List.getElem?_take,hk,hs]
 ·refine ⟨rfl,rfl,rfl,by unfold Go.Proofs.sortWorld;rw [size_grow,size_putRow];show w.heap.size<=w.heap.size+_;omega,fun k hk hne=>?_⟩
  unfold Go.Proofs.sortWorld
  rw [heap_grow_old _ _ (by rw [size_putRow];exact hk)]
  have:g≠k:=fun e=>hne (by rw [e])
  simp [Go.Sort.putRow,Go.Sort.mapBlock,Go.Sort.ahead,Array.getElem?_modify,this]
end Go.Proofs.YtdjmckjbibfecaaGreatDoor

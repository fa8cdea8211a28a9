import Derived.Lib.ItoaLen
import Derived.Deep.RegionWith
import Derived.Deep.DeepCutAuto
import Derived.IntWalk
import Derived.Deep.RegionHeld3
import Derived.Test.YtdjmckjbibfecaaGreatDoorFb
import Derived.Test.YtdjmckjbibfecaaGreatDoorFt
import Derived.Test.YtdjmckjbibfecaaGreatDoorFv
import Derived.Test.YtdjmckjbibfecaaGreatDoorKc
import Derived.Test.YtdjmckjbibfecaaGreatDoorQShelf
import Derived.Test.YtdjmckjbibfecaaGreatDoorQXb
import Derived.Test.YtdjmckjbibfecaaGreatDoorTxD
namespace Go.Proofs.YtdjmckjbibfecaaGreatDoor
open Go Go.RowKit Go.BigFrame Go.Maps
theorem flD_put3:∀(l:List Pap) (k:Nat) (x:Pap) (A:Option Addr) (c:Nat) (F:List Fld),l[k]?=some x->(flD l).set (k*4+3) (.slice A F.length c)=flD (l.set k ⟨x.kind,x.number,x.issuer,A,c,F⟩)
 | [],k,x,A,c,F,h=>by simp at h
 | y::l,0,x,A,c,F,h=>by simp at h;subst h;simp [flD,encD]
 | y::l,k+1,x,A,c,F,h=>by
  have:=flD_put3 l k x A c F (by simpa using h)
  rw [show (k+1)*4+3=k*4+3+1+1+1+1 by omega]
  simp only [flD,List.flatMap_cons,encD,List.cons_append,List.nil_append,List.set_cons_succ] at this ⊢
  rw [this]
structure MendG (w0 wr:World) (A:Option Addr) (nn c:Nat) (l:List Pap):Prop where
 below:Bz w0 wr
 own:wr.ownsRow w0.heap.size 61 4 (.slice A nn c) nn (flD l)
 len:l.length=nn
 flds:∀x∈l,FieldsAt wr x.fA x.fields
 away:∀x∈l,x.fields≠[]->∀b off,x.fA=some ⟨b,off,none⟩->A≠some ⟨b,0,none⟩
theorem MendG.on {w0 wr w':World} {A:Option Addr} {nn c:Nat} {l:List Pap} (h:MendG w0 wr A nn c l) (hb:Bz wr w'):MendG w0 w' A nn c l :=
 ⟨h.below.trans (hb.mono h.below.size),own_below h.own hb,h.len,fun x hx=>(h.flds x hx).below hb,h.away⟩
theorem MendG.step {w0 wr w6:World} {g nn c k n2 c2:Nat} {l:List Pap} {x:Pap} {A2:Option Addr} {F:List Fld} (h:MendG w0 wr (some ⟨g,0,none⟩) nn c l) (hx:l[k]?=some x) (hg0:w0.heap.size<=g) (hg1:g<wr.heap.size) (hb:Bz wr w6) (hn:F.length=n2)
  (ho:w6.ownsRow wr.heap.size 108 2 (.slice A2 n2 c2) n2 (flF F)) :
  MendG w0 (w6.setCell ⟨g,k*4+3,none⟩ (.slice A2 n2 c2)) (some ⟨g,0,none⟩) nn c (l.set k ⟨x.kind,x.number,x.issuer,A2,c2,F⟩):=by
 subst hn
 have o6:=own_below h.own hb
 have st:=o6.stored (k*4+3) (.slice A2 F.length c2)
 rw [flD_put3 l k x A2 c2 F hx] at st
 have hA2:F≠[]->∀b off,A2=some ⟨b,off,none⟩->wr.heap.size<=b:=fun hne b off e=>by
  obtain ⟨g',c',e',h1,_⟩:=own_formS ho (List.length_pos_iff.2 hne)
  rw [e] at e'
  simp only [Value.slice.injEq,Option.some.injEq,Addr.mk.injEq,and_true,true_and] at e'
  rw [e'.1.1];exact h1
 obtain ⟨A9,c9,e9,_,hF9⟩:=fields_of_own ho rfl
 simp only [Value.slice.injEq,true_and] at e9
 obtain ⟨rfl,rfl⟩:=e9
 refine ⟨(h.below.trans (hb.mono h.below.size)).setCell hg0 _,st.1,by rw [List.length_set];exact h.len,fun y hy=>?_,fun y hy hne b off e=>?_⟩
 ·rcases List.mem_or_eq_of_mem_set hy with hy | rfl
  ·exact fields_far ((h.flds y hy).below hb) st.2 fun hne b off e hbg=>by
    subst hbg
    exact h.away y hy hne b off e rfl
  ·exact fields_far hF9 st.2 fun hne b off e=>by have:=hA2 hne b off e;omega
 ·rcases List.mem_or_eq_of_mem_set hy with hy | rfl
  ·exact h.away y hy hne b off e
  ·intro hc
   simp only [Option.some.injEq,Addr.mk.injEq,and_true] at hc
   have:=hA2 hne b off e
   omega
theorem MendG.docs {w0 wr:World} {A:Option Addr} {nn c:Nat} {l:List Pap} (h:MendG w0 wr A nn c l) (hk:∀x∈l,x.fields.length<=maxLen/\(-9223372036854775808<=x.kind/\x.kind<=9223372036854775807)):DocsAt wr A l:=by
 obtain ⟨A9,c9,e9,_,hr9⟩:=RowOf.of_own encD_len h.own h.len
 simp only [Value.slice.injEq,true_and] at e9
 obtain ⟨rfl,rfl⟩:=e9
 exact DocsAt.of_row hr9 fun x hx=>⟨h.flds x hx,(hk x hx).1,(hk x hx).2⟩
section
variable {C:Array Value} {A:Option Addr} {nn cc:Nat} {day a:Int} {s v:ByteArray} {b:Bool}
end
structure BndC (S:Nat) (c:Crd) (needs:List Nd):Prop where
 ben:c.beneficiary.size<=S
 app:c.applicant.size<=S
 cur:c.currency.size<=S
 amount : -9223372036854775808<=c.amount/\c.amount<=9223372036854775807
 latest : -9223372036854775808<=c.latest/\c.latest<=9223372036854775807
 base:21<=S
 rule:∀x∈needs,∀u∈partsT x.rule,u.text.size<=12200/\(-9223372036854775808<=u.num/\u.num<=9223372036854775807)
theorem fail_mem {needs:List Nd} {docs:List Pap} {d:Pap} {t:Tree} (h:t∈failL needs docs d):∃x∈needs,t∈partsT x.rule:=by
 unfold failL at h
 obtain ⟨x,hx,ht⟩:=List.mem_flatMap.1 h
 refine ⟨x,hx,?_⟩
 split at ht
 ·exact (List.mem_filter.1 ht).1
 ·cases ht
theorem BndC.more {S S':Nat} {c:Crd} {needs:List Nd} (h:BndC S c needs) (hs:S<=S'):BndC S' c needs :=
 ⟨Nat.le_trans h.ben hs,Nat.le_trans h.app hs,Nat.le_trans h.cur hs,h.amount,h.latest,Nat.le_trans h.base hs,h.rule⟩
set_option maxRecDepth 100000
set_option maxHeartbeats 1600000
def dg (n:Nat):UInt8:=UInt8.ofNat (48+n % 10)
theorem dec_dg (n:Nat):Lib.decDigits n=if n<10 then [dg n] else Lib.decDigits (n / 10)++[dg n]:=by
 by_cases h:n<10
 ·rw [dec_small n h,if_pos h,dg,Nat.mod_eq_of_lt h]
 ·rw [dec_more n h,if_neg h];rfl
theorem conv_dg (W:World) (n:Nat):(convert 33 9 (.slice (some ⟨W.heap.size,0,none⟩) 1 1)).run Tryz.prog (W.alloc (.cells #[.int .u8 (48+(n:Int) % 10)] 5))=.ok (.string ⟨[dg n].toArray⟩) (W.alloc (.cells #[.int .u8 (48+(n:Int) % 10)] 5)):=by
 rw [conv_new W (48+(n:Int) % 10),show (48+(n:Int) % 10).toNat=48+n % 10 by omega]
 rfl
theorem dig28_any (n:Nat) (hn:n<=9223372036854775807) (w:World):Calls Tryz.prog 137 #[.int .i64 n] w fun e w'=>e=.returned (.string ⟨(Lib.decDigits n).toArray⟩)/\Bz w w':=by
 have hc0:=conv_dg w n
 have hd0:Hid (Lib.decDigits n=if n<10 then [dg n] else Lib.decDigits (n / 10)++[dg n]):=dec_dg n
 have hn1:n<10 ^ 20:=by omega
 have hn':=hdZ hn
 obtain ⟨R,hR⟩:=nmZ (Lib.decDigits n)
 rw [hR.out] at hd0 ⊢
 have w1:IntKind.i64.wrap (48+(n:Int) % 10)=48+(n:Int) % 10:=IntWalk.i64_in _ (by omega)
 have w2:IntKind.u8.wrap (48+(n:Int) % 10)=48+(n:Int) % 10:=IntWalk.u8_in _ (by omega)
 have t1:(n:Int).tmod 10=(n:Int) % 10:=IntWalk.rem_in _ _ (by omega)
 clear hn
 go_enter Tryz.func137,Tryz.ntmps137
 go_wp2_with fail
 go_loopg [0,3] 19 (fun gg a v wr=>∃(m:Nat) (s:List UInt8),a=.int .i64 m/\v=.string ⟨s.toArray⟩/\Hid (m<10 ^ (gg+1))/\Hid (R=if m<10 then s else Lib.decDigits (m / 10)++s)/\Hid (s.length+gg=20)/\Hid (m<=9223372036854775807)/\Hid (Bz w wr))
 case atStart=>exact ⟨n,[dg n],rfl,rfl,hn1,hd0,rfl,hn',(Below.refl _ w).alloc leZ _⟩
 case round =>
  clear hd0 hc0 hn1 w1 w2 t1
  obtain ⟨m,s,rfl,rfl,hm,hs,hl,hmm,hB⟩:=hrel
  have hm2:=hmm.out
  by_cases h9:m<10
  ·have i1:decide ((9:Int)<(m:Int))=false:=by simp;omega
   have hr:Hid (R=s):=by unfold Hid;rw [hs.out,if_pos h9]
   go_wp2_with fail
   go_ret
   exact ⟨by rw [hr.out];rfl,hB.out⟩
  ·have i1:decide ((9:Int)<(m:Int))=true:=by simp;omega
   obtain ⟨g,rfl⟩:∃g,gk=g+1:=by
    cases gk with
    | zero=>exact absurd hm.out (by rw [Nat.zero_add,Nat.pow_one];exact h9)
    | succ g=>exact ⟨g,rfl⟩
   obtain ⟨q,hq⟩:=nmZ (m / 10)
   have hqm:q<=m / 10/\m / 10<=q:=by have:=hq.out;omega
   have hc1:=conv_dg wr q
   have e0:Hid (({ data:=#[dg q] }:ByteArray)++{ data:=s.toArray }=⟨([dg q]++s).toArray⟩):=ByteArray.ext (by simp)
   have hl2:=hl.out
   have z1:¬9223372036854775807<1+s.length:=by omega
   have d1:(m:Int).tdiv 10=(q:Int):=by rw [Int.tdiv_eq_ediv_of_nonneg (by omega)];omega
   have w0:IntKind.i64.wrap (q:Int)=(q:Int):=IntWalk.i64_in _ (by omega)
   have t1:(q:Int).tmod 10=(q:Int) % 10:=IntWalk.rem_in _ _ (by omega)
   have w1:IntKind.i64.wrap (48+(q:Int) % 10)=48+(q:Int) % 10:=IntWalk.i64_in _ (by omega)
   have w2:IntKind.u8.wrap (48+(q:Int) % 10)=48+(q:Int) % 10:=IntWalk.u8_in _ (by omega)
   have hs2:Hid (R=if q<10 then [dg q]++s else Lib.decDigits (q / 10)++([dg q]++s)):=by
    unfold Hid
    rw [hs.out,if_neg h9,hq.out,dec_dg]
    split<;>simp
   have hm3:Hid (q<10 ^ (g+1)):=by have h:=hm.out;rw [Nat.pow_succ] at h;unfold Hid;omega
   have hl3:Hid (([dg q]++s).length+g=20):=by unfold Hid;simp;omega
   have hm4:Hid (q<=9223372036854775807):=by unfold Hid;omega
   clear hs hm hmm hl hq
   go_wp2_with fail
   go_roundg g
   case measure=>omega
   case rel=>exact ⟨q,[dg q]++s,rfl,congrArg Value.string e0.out,hm3,hs2,hl3,hm4,hB.out.alloc hB.out.size _⟩
end Go.Proofs.YtdjmckjbibfecaaGreatDoor
namespace Go.Proofs.YtdjmckjbibfecaaGreatDoor.Tx
open Go Go.RowKit Go.BigFrame
set_option maxRecDepth 100000
set_option maxHeartbeats 1600000
def smallF (l:List Flt):Prop:=∀x∈l,-9223372036854775808<=x.paper/\x.paper<=9223372036854775807/\x.field.size<=1100000
structure Words (w:World) (bf bw:Nat) (x:Flt) (a b c d:List UInt8):Prop where
 flt:Blk w bf 54 #[.int .i64 x.paper,.int .i64 x.kind,.string x.field,.int .i64 x.why]
 wrd:Blk w bw 157 #[.string (mkB a),.string (mkB b),.string (mkB c),.string (mkB d)]
 ne:bf≠bw
theorem Words.below {w w':World} {bf bw:Nat} {x:Flt} {a b c d:List UInt8} (h:Words w bf bw x a b c d) (hb:Bz w w'):Words w' bf bw x a b c d :=
 ⟨h.flt.below hb h.flt.lt,h.wrd.below hb h.wrd.lt,h.ne⟩
section
variable {w0 w:World} {bf bw B k:Nat} {x:Flt} {a b c d:List UInt8} {v:Value} {xs:List Value}
def Stage (B k:Nat) (w0 w:World) (bf bw:Nat) (x:Flt) (v:Value) (xs:List Value) (a b c d:List UInt8):Prop :=
 Words w bf bw x a b c d/\w.ownsRow B 9 1 v k xs/\Below B w0 w
theorem Stage.below {w':World} (h:Stage B k w0 w bf bw x v xs a b c d) (hb:Bz w w') (hB:B<=w.heap.size):Stage B k w0 w' bf bw x v xs a b c d :=
 ⟨h.1.below hb,own_below h.2.1 hb,h.2.2.trans (hb.mono hB)⟩
theorem Stage.size (h:Stage B k w0 w bf bw x v xs a b c d):w0.heap.size<=w.heap.size:=h.2.2.size
theorem Stage.set0 (h:Stage B k w0 w bf bw x v xs a b c d) (hB:B<=bw) (s:List UInt8):Stage B k w0 (w.setCell ⟨bw,0,none⟩ (.string (mkB s))) bf bw x v xs s b c d :=
 ⟨⟨h.1.flt.far h.1.ne _,by simpa using h.1.wrd.set_ 0 (.string (mkB s)),h.1.ne⟩,own_set h.2.1 h.1.wrd (by decide),h.2.2.setCell hB _⟩
theorem Stage.set1 (h:Stage B k w0 w bf bw x v xs a b c d) (hB:B<=bw) (s:List UInt8):Stage B k w0 (w.setCell ⟨bw,1,none⟩ (.string (mkB s))) bf bw x v xs a s c d :=
 ⟨⟨h.1.flt.far h.1.ne _,by simpa using h.1.wrd.set_ 1 (.string (mkB s)),h.1.ne⟩,own_set h.2.1 h.1.wrd (by decide),h.2.2.setCell hB _⟩
theorem Stage.set2 (h:Stage B k w0 w bf bw x v xs a b c d) (hB:B<=bw) (s:List UInt8):Stage B k w0 (w.setCell ⟨bw,2,none⟩ (.string (mkB s))) bf bw x v xs a b s d :=
 ⟨⟨h.1.flt.far h.1.ne _,by simpa using h.1.wrd.set_ 2 (.string (mkB s)),h.1.ne⟩,own_set h.2.1 h.1.wrd (by decide),h.2.2.setCell hB _⟩
theorem Stage.set3 (h:Stage B k w0 w bf bw x v xs a b c d) (hB:B<=bw) (s:List UInt8):Stage B k w0 (w.setCell ⟨bw,3,none⟩ (.string (mkB s))) bf bw x v xs a b c s :=
 ⟨⟨h.1.flt.far h.1.ne _,by simpa using h.1.wrd.set_ 3 (.string (mkB s)),h.1.ne⟩,own_set h.2.1 h.1.wrd (by decide),h.2.2.setCell hB _⟩
end
theorem kindL_len (n:Nat):(kindL n).length<=9:=by
 unfold kindL
 match n with
 | 0 | 1 | 2 | 3 | 4 | 5=>decide
 | n+6=>simp
theorem whyL_len (n:Nat):(whyL n).length<=6:=by
 unfold whyL
 match n with
 | 0 | 1 | 2 | 3 | 4 | 5 | 6=>decide
 | n+7=>simp
theorem paperT_len {x:Flt} (h0 : -9223372036854775808<=x.paper) (h1:x.paper<=9223372036854775807):(paperT x).length<=20:=by
 unfold paperT
 split
 ·simp [dash]
 ·exact itoa_len h0 h1
theorem kindT_len (n:Int):(kindT n).length<=9:=by
 unfold kindT
 split
 ·exact kindL_len _
 ·simp [dash]
theorem whyT_len (n:Int):(whyT n).length<=6:=by
 unfold whyT
 split
 ·exact whyL_len _
 ·simp [dash]
theorem fieldT_len {s:ByteArray} (h:s.size<=1100000):(fieldT s).length<=1100000:=by
 unfold fieldT
 split
 ·simp [dash]
 ·have:s.data.toList.length=s.size:=by simp
  omega
theorem oneT_len {x:Flt} (h : -9223372036854775808<=x.paper/\x.paper<=9223372036854775807/\x.field.size<=1100000):(oneT x).length<=1100100:=by
 have h1:=paperT_len h.1 h.2.1
 have h2:=kindT_len x.kind
 have h3:=fieldT_len h.2.2
 have h4:=whyT_len x.why
 unfold oneT
 simp only [List.length_append,List.length_cons,List.length_nil]
 omega
theorem join_len (sep:List UInt8) (m:Nat):∀(l:List (List UInt8)),(∀x∈l,x.length<=m)->(Lib.join l sep).length<=l.length*(m+sep.length)
 | [],_=>by simp [Lib.join,List.intercalate]
 | [x],h=>by have:=h x (by simp);simp [Lib.join,List.intercalate];omega
 | x::y::r,h=>by
  have ih:=join_len sep m (y::r) (fun z hz=>h z (by simp [hz]))
  have hx:=h x (by simp)
  have e:Lib.join (x::y::r) sep=x++sep++Lib.join (y::r) sep:=by simp [Lib.join,List.intercalate,List.intersperse]
  rw [e]
  have e2:(x::y::r).length*(m+sep.length)=(y::r).length*(m+sep.length)+(m+sep.length):=Nat.succ_mul _ _
  rw [e2]
  simp only [List.length_append]
  omega
theorem textF_len {l:List Flt} (h:smallF l):(textF l).length<=l.length*1100102:=by
 have:=join_len [59,32] 1100100 (l.map oneT) (fun x hx=>by
  obtain ⟨y,hy,rfl⟩:=List.mem_map.1 hx
  exact oneT_len (h y hy))
 simpa [textF] using this
theorem words_cat (a b c d:List UInt8):mkB a++⟨#[32]⟩++mkB b++⟨#[32]⟩++mkB c++⟨#[32]⟩++mkB d=mkB (a++[32]++b++[32]++c++[32]++d):=by
 apply ByteArray.ext;simp [mkB]
def StrsAt (w:World) (A:Option Addr) (l:List ByteArray):Prop:=∀k t,l[k]?=some t->∃b off,A=some ⟨b,off,none⟩/\w.cell? ⟨b,off+k,none⟩=some (.string t)
theorem own_strs {w:World} {base m:Nat} {v:Value} {l:List ByteArray} (h:w.ownsRow base 9 1 v m (l.map Value.string)) (hl:l.length=m):∃A' c',v=.slice A' m c'/\m<=c'/\StrsAt w A' l:=by
 rcases h.2 with ⟨rfl,rfl⟩ | ⟨g,cap,cur,rfl,_,_,hnc,_⟩
 ·have:l=[]:=List.eq_nil_of_length_eq_zero hl
  subst this
  exact ⟨_,_,rfl,Nat.le_refl _,by intro k x hk;simp at hk⟩
 ·refine ⟨_,_,rfl,hnc,fun k t hk=>?_⟩
  refine ⟨g,0,rfl,?_⟩
  have:=h.cells (g:=g) rfl k (.string t) (by simp [hk])
  rwa [show Addr.add ⟨g,0,none⟩ k=⟨g,0+k,none⟩ by unfold Addr.add;split<;>simp_all] at this
theorem join_any (A:Option Addr) (n c:Nat) (l:List (List UInt8)) (w:World) (hl:l.length=n) (hA:StrsAt w A (l.map mkB)) (hc:n<=c) (hn:n<=1000) (hlen:(Lib.join l [59,32]).length<=140737488355328) :
  Calls Tryz.prog 130 #[.slice A n c,.string ⟨#[59,32]⟩] w fun e w'=>e=.returned (.string (mkB (Lib.join l [59,32])))/\Bz w w':=by
 subst hl
 have hm:(l.map mkB).map (fun x=>x.data.toList)=l:=by
  rw [List.map_map]
  have:((fun (x:ByteArray)=>x.data.toList) ∘ mkB)=id:=by funext x;simp [mkB]
  rw [this];simp
 match hll:l with
 | [] =>
  refine (Tryz.strings_Join_none A c ⟨#[59,32]⟩ w).mono ?_
  rintro e w' ⟨rfl,rfl⟩
  exact ⟨rfl,Below.refl _ _⟩
 | x::r =>
  rw [<-hll]
  obtain ⟨b,off,rfl,h0⟩:=hA 0 (mkB x) (by rw [hll];rfl)
  have:=Tryz.strings_Join b off c (l.map mkB) ⟨#[59,32]⟩ w (fun j y hj=>by
   obtain ⟨b',off',e,h⟩:=hA j y hj
   simp only [Option.some.injEq,Addr.mk.injEq,and_true] at e
   obtain ⟨rfl,rfl⟩:=e
   exact h) (World.block_lt_of_cell? w _ h0) (by rw [List.length_map];omega) (by rw [List.length_map];exact hc) (by rw [hm];exact hlen)
  rw [hm,List.length_map] at this
  exact this
theorem textE_any (A:Option Addr) (n c:Nat) (l:List Flt) (w:World) (hn:n<=100) (hl:Hid (l.length=n)) (hA:Hid (FaultsAt w A l)) (hS:Hid (smallF l)) (he:Env w) :
  Calls Tryz.prog 78 #[.slice A n c] w fun e w'=>e=.returned (.string (mkB (textF l)))/\Bz w w':=by
 obtain ⟨i0,hi,hz0,hz1,hz2⟩:=info_parts Tryz.info9
 have he':=hdZ he
 clear he
 go_enter Tryz.func78,Tryz.ntmps78
 go_wp2_with ((at_make;refine wpList_make_own _ rfl _ _ 155 rfl w.heap.size 9 i0 (.string ⟨#[]⟩) 1 Tryz.underlying155 hi hz0 hz1 .i64 .i64 _ n rfl rfl rfl (by rw [hz2];omega) (by unfold maxLen;omega) leZ ?_;intro w0 hown0 hgrow0))
 have hB0:Bz w w0:=(Below.refl _ _).grown hgrow0 leZ (by simp)
 have hown0':=hdZ hown0
 clear hown0 hgrow0
 go_loopg [3,5,6,12] n (fun g v _ _ i wr=>∃k:Nat,k<=n/\g=n-k/\i=.int .i64 k/\Hid (wr.ownsRow w.heap.size 9 1 v k (((l.take k).map fun x=>mkB (oneT x)).map Value.string))/\Bz w wr)
 case atStart=>exact ⟨0,Nat.zero_le _,by simp,rfl,by simpa using hown0',hB0⟩
 case round =>
  obtain ⟨k,hk,hg,rfl,hown,hB⟩:=hrel
  have hg':=hdZ hg
  clear hg
  by_cases hlt:k<n
  ·obtain ⟨x,hx⟩:∃x,l[k]?=some x:=⟨_,gZ (by have:=hl.out;omega)⟩
   have hx':=hdZ hx
   clear hx
   obtain ⟨hp1,hp2,hfs⟩:=hS.out x (mgZ hx'.out)
   have hfs':=hdZ hfs
   clear hfs
   obtain ⟨b,off,rfl,h0,h1,h2,h3⟩:=(hA.out.below hB) k x hx'.out
   obtain ⟨pp,kk,ff,ww⟩:=x
   simp only at h0 h1 h2 h3 hp1 hp2
   have hst0:Hid (Stage w.heap.size k w ((wr.alloc (.cells #[.int .i64 pp,.int .i64 kk,.string ff,.int .i64 ww] 54)).alloc (.cells #[.string ⟨#[45]⟩,.string ⟨#[45]⟩,.string ⟨#[45]⟩,.string ⟨#[45]⟩] 157)) wr.heap.size (wr.heap.size+1) ⟨pp,kk,ff,ww⟩ u3 (((l.take k).map fun x=>mkB (oneT x)).map Value.string) (dash) (dash) (dash) (dash)) :=
    ⟨⟨(Blk.new wr 54 _).alloc _,blk_second wr _ 157 _,by omega⟩,(hown.out.alloc _).alloc _,(hB.alloc hB.size _).alloc (by simp;have:=hB.size;omega) _⟩
   have hbw:w.heap.size<=wr.heap.size+1:=by have:=hB.size;omega
   go_upto_if 19 with fail
   clear h0 h1 h2 h3
   go_cut [] (fun wx=>Hid (Stage w.heap.size k w wx wr.heap.size (wr.heap.size+1) ⟨pp,kk,ff,ww⟩ u3 (((l.take k).map fun x=>mkB (oneT x)).map Value.string) (paperT ⟨pp,kk,ff,ww⟩) (dash) (dash) (dash)))
   case first =>
    by_cases hpp:pp = -1
    ·have e1:(pp != -1)=false:=by simp [hpp]
     have hpp':=hdZ hpp
     clear hpp
     go_wp2_with fail
     go_meet
     case rel=>unfold Hid;rw [paperT,if_pos hpp'.out];exact hst0.out
    ·have e1:(pp != -1)=true:=by simp [hpp]
     have hpp':=hdZ hpp
     clear hpp
     go_wp2_with fail
     refine (itoa_any pp _ hp1 hp2 (he'.out.below hst0.out.2.2)).mono ?_
     rintro e w1 ⟨rfl,hb1⟩
     have hst1:=hdZ (hst0.out.below hb1 hst0.out.size)
     obtain ⟨⟨q0,q1,q2,q3⟩,qf⟩:=hst1.out.1.wrd.four
     go_wp2_with fail
     go_meet
     case rel=>unfold Hid;rw [show paperT ⟨pp,kk,ff,ww⟩=Lib.itoa pp by rw [paperT,if_neg hpp'.out]];exact hst1.out.set0 hbw _
   case rest =>
    have hs1:=hcut
    clear hcut
    obtain ⟨wd,rfl⟩:∃wd:World,wd=wc:=⟨_,rfl⟩
    obtain ⟨⟨q0,q1,q2,q3⟩,qf⟩:=hs1.out.1.wrd.four
    obtain ⟨⟨r0,r1,r2,r3⟩,rf⟩:=hs1.out.1.flt.four
    simp only at r0 r1 r2 r3
    go_upto_region 8 with fail
    go_cut [31] (fun s wx=>wd=wx/\s=.bool (decide (0<=kk/\kk<6)))
    case first =>
     go_wp2_with fail
     all_goals
      go_meet
      case rel=>exact ⟨rfl,congrArg Value.bool (by first | exact dec_yes (p:=0<=kk) (by omega) | exact dec_no (p:=0<=kk) (by omega))⟩
    case rest =>
     obtain ⟨rfl,hsl⟩:=hcut
     subst hsl
     go_upto_if 31 with fail
     go_cut [] (fun wx=>Hid (Stage w.heap.size k w wx wr.heap.size (wr.heap.size+1) ⟨pp,kk,ff,ww⟩ u3 (((l.take k).map fun x=>mkB (oneT x)).map Value.string) (paperT ⟨pp,kk,ff,ww⟩) (kindT kk) (dash) (dash)))
     case first =>
      by_cases hpp:0<=kk/\kk<6
      ·have e1:decide (0<=kk/\kk<6)=true:=by simp [hpp]
       obtain ⟨m,rfl⟩:=Int.eq_ofNat_of_zero_le hpp.1
       have hm:m<6:=by omega
       have hpp':=hdZ hpp
       have hcell:=(he'.out.below hs1.out.2.2).kinds m hm
       rw [e1]
       clear hpp e1
       go_wp2_with fail
       go_meet
       case rel=>unfold Hid;rw [show kindT (m:Int)=kindL m by rw [kindT,if_pos hpp'.out];rfl];exact hs1.out.set1 hbw _
      ·have e1:decide (0<=kk/\kk<6)=false:=by simp [hpp]
       have hpp':=hdZ hpp
       rw [e1]
       clear hpp e1
       go_wp2_with fail
       go_meet
       case rel=>unfold Hid;rw [kindT,if_neg hpp'.out];exact hs1.out
     case rest =>
      have hs2:=hcut
      clear hcut
      obtain ⟨wd,rfl⟩:∃wd:World,wd=wc:=⟨_,rfl⟩
      obtain ⟨⟨q0,q1,q2,q3⟩,qf⟩:=hs2.out.1.wrd.four
      obtain ⟨⟨r0,r1,r2,r3⟩,rf⟩:=hs2.out.1.flt.four
      simp only at r0 r1 r2 r3
      go_upto_if 39 with fail
      go_cut [] (fun wx=>Hid (Stage w.heap.size k w wx wr.heap.size (wr.heap.size+1) ⟨pp,kk,ff,ww⟩ u3 (((l.take k).map fun x=>mkB (oneT x)).map Value.string) (paperT ⟨pp,kk,ff,ww⟩) (kindT kk) (fieldT ff) (dash)))
      case first =>
       by_cases hpp:ff.data.toList=[]
       ·have e1:ff.toList=[]:=by rw [ByteArray.toList_eq];exact hpp
        have e2:(!ff.toList.isEmpty)=false:=by simp [e1]
        rw [e2]
        clear e1 e2
        have hpp':=hdZ hpp
        clear hpp
        go_wp2_with fail
        go_meet
        case rel=>unfold Hid;rw [fieldT,if_pos hpp'.out];exact hs2.out
       ·have e1:¬ff.toList=[]:=by rw [ByteArray.toList_eq];exact hpp
        have e2:(!ff.toList.isEmpty)=true:=by simp [e1]
        rw [e2]
        clear e1 e2
        have hpp':=hdZ hpp
        clear hpp
        go_wp2_with fail
        go_meet
        case rel =>
         unfold Hid
         have h3:=hs2.out.set2 hbw ff.data.toList
         rw [show mkB ff.data.toList=ff by cases ff;simp [mkB]] at h3
         rw [fieldT,if_neg hpp'.out];exact h3
      case rest =>
       have hs3:=hcut
       clear hcut
       obtain ⟨wd,rfl⟩:∃wd:World,wd=wc:=⟨_,rfl⟩
       obtain ⟨⟨q0,q1,q2,q3⟩,qf⟩:=hs3.out.1.wrd.four
       obtain ⟨⟨r0,r1,r2,r3⟩,rf⟩:=hs3.out.1.flt.four
       simp only at r0 r1 r2 r3
       go_upto_region 12 with fail
       go_cut [50] (fun s wx=>wd=wx/\s=.bool (decide (0<=ww/\ww<7)))
       case first =>
        go_wp2_with fail
        all_goals
         go_meet
         case rel=>exact ⟨rfl,congrArg Value.bool (by first | exact dec_yes (p:=0<=ww) (by omega) | exact dec_no (p:=0<=ww) (by omega))⟩
       case rest =>
        obtain ⟨rfl,hsl⟩:=hcut
        subst hsl
        go_upto_if 50 with fail
        go_cut [] (fun wx=>Hid (Stage w.heap.size k w wx wr.heap.size (wr.heap.size+1) ⟨pp,kk,ff,ww⟩ u3 (((l.take k).map fun x=>mkB (oneT x)).map Value.string) (paperT ⟨pp,kk,ff,ww⟩) (kindT kk) (fieldT ff) (whyT ww)))
        case first =>
         by_cases hpp:0<=ww/\ww<7
         ·have e1:decide (0<=ww/\ww<7)=true:=by simp [hpp]
          obtain ⟨m,rfl⟩:=Int.eq_ofNat_of_zero_le hpp.1
          have hm:m<7:=by omega
          have hpp':=hdZ hpp
          have hcell:=(he'.out.below hs3.out.2.2).whys m hm
          rw [e1]
          clear hpp e1
          go_wp2_with fail
          go_meet
          case rel=>unfold Hid;rw [show whyT (m:Int)=whyL m by rw [whyT,if_pos hpp'.out];rfl];exact hs3.out.set3 hbw _
         ·have e1:decide (0<=ww/\ww<7)=false:=by simp [hpp]
          have hpp':=hdZ hpp
          rw [e1]
          clear hpp e1
          go_wp2_with fail
          go_meet
          case rel=>unfold Hid;rw [whyT,if_neg hpp'.out];exact hs3.out
        case rest =>
         have hs4:=hcut
         clear hcut
         obtain ⟨wd,rfl⟩:∃wd:World,wd=wc:=⟨_,rfl⟩
         obtain ⟨⟨q0,q1,q2,q3⟩,qf⟩:=hs4.out.1.wrd.four
         obtain ⟨⟨r0,r1,r2,r3⟩,rf⟩:=hs4.out.1.flt.four
         simp only at r0 r1 r2 r3
         have hlenk:Hid (k+1<=maxLen):=by unfold Hid maxLen;omega
         have hbyt:Hid ((k+1)*16<=140737488355328):=by unfold Hid;omega
         have hsz:Hid (w.heap.size<=wd.heap.size):=hs4.out.size
         obtain ⟨a0,ha0⟩:∃a,Hid (a=paperT ⟨pp,kk,ff,ww⟩):=⟨_,rfl⟩
         obtain ⟨a1,ha1⟩:∃a,Hid (a=kindT kk):=⟨_,rfl⟩
         obtain ⟨a2,ha2⟩:∃a,Hid (a=fieldT ff):=⟨_,rfl⟩
         obtain ⟨a3,ha3⟩:∃a,Hid (a=whyT ww):=⟨_,rfl⟩
         rw [<-ha0.out] at q0
         rw [<-ha1.out] at q1
         rw [<-ha2.out] at q2
         rw [<-ha3.out] at q3
         have hcat:Hid (a0++[32]++a1++[32]++a2++[32]++a3=oneT ⟨pp,kk,ff,ww⟩):=by unfold Hid;rw [ha0.out,ha1.out,ha2.out,ha3.out];rfl
         have z0:(mkB a0).size<=20:=by rw [mkB,size_list,ha0.out];exact paperT_len hp1 hp2
         have z1:(mkB a1).size<=9:=by rw [mkB,size_list,ha1.out];exact kindT_len _
         have z2:(mkB a2).size<=1100000:=by rw [mkB,size_list,ha2.out];exact fieldT_len hfs'.out
         have z3:(mkB a3).size<=6:=by rw [mkB,size_list,ha3.out];exact whyT_len _
         have hone:Hid (∀u∈(#[Value.string (mkB a0++⟨#[32]⟩++mkB a1++⟨#[32]⟩++mkB a2++⟨#[32]⟩++mkB a3)]:Array Value).toList,u.oneCell'=true):=by unfold Hid;simp [Value.oneCell']
         go_wp2_with (at_builtin;go_must (refine wpList_app3 w.heap.size rfl (.tmp 56) (.tmp 71) 155 rfl 9 i0 _ 1 16 Tryz.underlying155 hi hz0 hz1 hz2 rfl (by decide) _ k (((l.take k).map fun x=>mkB (oneT x)).map Value.string) rfl wd.heap.size 1 _ rfl (hs4.out.2.1.alloc _) (Blk.new wd 9 _) rfl hone.out hlenk.out hbyt.out (Nat.le_trans hsz.out (by simp)) ?_);intro v5 w5 ho5 hb5 hg5)
         have hB5:Bz w w5:=(hs4.out.2.2.alloc hs4.out.size _).trans hb5
         have ho5':=hdZ ho5
         clear ho5 hg5
         go_wp2_with fail
         go_roundg (n-(k+1))
         case measure=>have:=hg'.out;omega
         case rel =>
          refine ⟨k+1,by omega,rfl,by go_num,?_,hB5⟩
          unfold Hid
          have hh:=ho5'.out
          rw [words_cat,hcat.out] at hh
          obtain ⟨hkl,hke⟩:=gsZ.1 hx'.out
          rw [List.take_succ_eq_append_getElem hkl,hke]
          simpa using hh
  ·obtain rfl:k=n:=by omega
   rw [List.take_of_length_le (by have:=hl.out;omega)] at hown
   obtain ⟨A2,c2,rfl,hc2,hE⟩:=own_strs hown.out (by rw [List.length_map];exact hl.out)
   have hE':=hdZ hE
   clear hE
   go_wp2_with fail
   refine (join_any A2 k c2 (l.map oneT) _ (by rw [List.length_map];exact hl.out) (by rw [List.map_map];exact hE'.out) hc2 (by omega) (by have:=textF_len hS.out;rw [hl.out] at this;unfold textF at this;omega)).mono ?_
   rintro e w1 ⟨rfl,hb1⟩
   go_wp2_with fail
   go_ret
   exact ⟨rfl,hB.trans (hb1.mono hB.size)⟩
theorem word_in (b off c n:Nat) (m:Nat) (t:ByteArray) (w:World) (hm:m<n) (_hn:n<=100) (hc:w.cell? ⟨b,off+m,none⟩=some (.string t)) :
  Calls Tryz.prog 134 #[.slice (some ⟨b,off,none⟩) n c,.int .i64 (m:Int)] w fun e w'=>e=.returned (.string t)/\w=w':=by
 go_enter Tryz.func134,Tryz.ntmps134
 go_wp2
 go_ret
 exact ⟨rfl,rfl⟩
theorem word_out (A:Option Addr) (c n:Nat) (k:Int) (w:World) (hk:k<0\/(n:Int)<=k) (_hn:n<=100) :
  Calls Tryz.prog 134 #[.slice A n c,.int .i64 k] w fun e w'=>e=.returned (.string (mkB dash))/\w=w':=by
 go_enter Tryz.func134,Tryz.ntmps134
 go_wp2
 all_goals first | (exfalso;omega) | (go_ret;exact ⟨rfl,rfl⟩)
abbrev six:Array Value:=#[.string ⟨#[105,110,118,111,105,99,101]⟩,.string ⟨#[112,97,99,107,105,110,103]⟩,.string ⟨#[108,97,100,105,110,103]⟩,.string ⟨#[105,110,115,117,114,97,110,99,101]⟩,.string ⟨#[111,114,105,103,105,110]⟩,.string ⟨#[100,114,97,102,116]⟩]
abbrev seven:Array Value:=#[.string ⟨#[102,105,110,101]⟩,.string ⟨#[108,97,99,107,115]⟩,.string ⟨#[102,97,105,108,115]⟩,.string ⟨#[117,110,108,105,107,101]⟩,.string ⟨#[108,97,116,101]⟩,.string ⟨#[109,117,99,104]⟩,.string ⟨#[102,101,119]⟩]
theorem word_six (g:Nat) (k:Int) (w:World) (h:Blk w g 9 six):Calls Tryz.prog 134 #[.slice (some ⟨g,0,none⟩) 6 6,.int .i64 k] w fun e w'=>e=.returned (.string (mkB (kindT k)))/\w=w':=by
 by_cases hk:0<=k/\k<6
 ·obtain ⟨m,rfl⟩:=Int.eq_ofNat_of_zero_le hk.1
  have hm:m<6:=by omega
  refine (word_in g 0 6 6 m (mkB (kindL m)) w hm (by omega) ?_).mono ?_
  ·rw [Nat.zero_add,h.cell]
   match m,hm with
   | 0,_ | 1,_ | 2,_ | 3,_ | 4,_ | 5,_=>rfl
  ·rintro e w' ⟨rfl,rfl⟩
   exact ⟨by rw [kindT,if_pos hk];rfl,rfl⟩
 ·refine (word_out _ 6 6 k w (by omega) (by omega)).mono ?_
  rintro e w' ⟨rfl,rfl⟩
  exact ⟨by rw [kindT,if_neg hk],rfl⟩
theorem word_seven (g:Nat) (k:Int) (w:World) (h:Blk w g 9 seven):Calls Tryz.prog 134 #[.slice (some ⟨g,0,none⟩) 7 7,.int .i64 k] w fun e w'=>e=.returned (.string (mkB (whyT k)))/\w=w':=by
 by_cases hk:0<=k/\k<7
 ·obtain ⟨m,rfl⟩:=Int.eq_ofNat_of_zero_le hk.1
  have hm:m<7:=by omega
  refine (word_in g 0 7 7 m (mkB (whyL m)) w hm (by omega) ?_).mono ?_
  ·rw [Nat.zero_add,h.cell]
   match m,hm with
   | 0,_ | 1,_ | 2,_ | 3,_ | 4,_ | 5,_ | 6,_=>rfl
  ·rintro e w' ⟨rfl,rfl⟩
   exact ⟨by rw [whyT,if_pos hk];rfl,rfl⟩
 ·refine (word_out _ 7 7 k w (by omega) (by omega)).mono ?_
  rintro e w' ⟨rfl,rfl⟩
  exact ⟨by rw [whyT,if_neg hk],rfl⟩
theorem cat_all (p a b c d:List UInt8):mkB p++mkB a++⟨#[32]⟩++mkB b++⟨#[32]⟩++mkB c++⟨#[32]⟩++mkB d=mkB (p++(a++[32]++b++[32]++c++[32]++d)):=by
 apply ByteArray.ext;simp [mkB]
def preT (l:List Flt) (k:Nat):List UInt8:=if k=0 then [] else textF (l.take k)++[59,32]
theorem join_snoc (sep x:List UInt8):∀(l:List (List UInt8)),l≠[]->Lib.join (l++[x]) sep=Lib.join l sep++sep++x
 | [],h=>absurd rfl h
 | [y],_=>by simp [Lib.join,List.intercalate,List.intersperse]
 | y::z::r,_=>by
  have ih:=join_snoc sep x (z::r) (by simp)
  have e1:Lib.join (y::z::r++[x]) sep=y++sep++Lib.join (z::r++[x]) sep:=by simp [Lib.join,List.intercalate,List.intersperse]
  have e2:Lib.join (y::z::r) sep=y++sep++Lib.join (z::r) sep:=by simp [Lib.join,List.intercalate,List.intersperse]
  rw [e1,e2,ih];simp
theorem text_snoc {l:List Flt} {k:Nat} {x:Flt} (hx:l[k]?=some x):textF (l.take (k+1))=preT l k++oneT x:=by
 obtain ⟨hk,he⟩:=gsZ.1 hx
 rw [List.take_succ_eq_append_getElem hk,he]
 unfold preT textF
 rw [List.map_append]
 by_cases h0:k=0
 ·subst h0;simp [Lib.join,List.intercalate]
 ·rw [if_neg h0]
  have hne:(l.take k).map oneT≠[]:=by
   intro e
   have:=congrArg List.length e
   rw [List.length_map,List.length_take,List.length_nil] at this;omega
  show Lib.join ((l.take k).map oneT++[oneT x]) [59,32]=_
  rw [join_snoc _ _ _ hne]
theorem textR_any (A:Option Addr) (n c:Nat) (l:List Flt) (w:World) (hn:n<=100) (hl:Hid (l.length=n)) (hA:Hid (FaultsAt w A l)) (hS:Hid (smallF l)) :
  Calls Tryz.prog 83 #[.slice A n c] w fun e w'=>e=.returned (.string (mkB (textF l)))/\Bz w w':=by
 go_enter Tryz.func83,Tryz.ntmps83
 go_wp2_with fail
 go_loopg [3,4,5,6] n (fun g s i _ _ wr=>∃k:Nat,k<=n/\g=n-k/\i=.int .i64 k/\s=.string (mkB (textF (l.take k)))/\Bz w wr)
 case atStart=>exact ⟨0,Nat.zero_le _,by simp,rfl,rfl,Below.refl _ _⟩
 case round =>
  obtain ⟨k,hk,hg,rfl,rfl,hB⟩:=hrel
  have hg':=hdZ hg
  clear hg
  have hlenT:(mkB (textF (l.take k))).size<=110010200:=by
   rw [mkB,size_list]
   have h1:=textF_len (l:=l.take k) (fun x hx=>hS.out x (List.mem_of_mem_take hx))
   have h2:(l.take k).length<=100:=by rw [List.length_take];omega
   have h3:(l.take k).length*1100102<=100*1100102:=Nat.mul_le_mul_right _ h2
   omega
  by_cases hlt:k<n
  ·obtain ⟨x,hx⟩:∃x,l[k]?=some x:=⟨_,gZ (by have:=hl.out;omega)⟩
   have hx':=hdZ hx
   clear hx
   obtain ⟨hp1,hp2,hfs⟩:=hS.out x (mgZ hx'.out)
   obtain ⟨b,off,rfl,h0,h1,h2,h3⟩:=(hA.out.below hB) k x hx'.out
   obtain ⟨pp,kk,ff,ww⟩:=x
   simp only at h0 h1 h2 h3 hp1 hp2 hfs
   have hblt:=World.block_lt_of_cell? wr _ h0
   simp only at hblt
   go_upto_if 14 with fail
   go_cut [3] (fun s wx=>wr=wx/\s=.string (mkB (preT l k)))
   case first =>
    by_cases h0k:k=0
    ·subst h0k
     go_wp2_with fail
     go_meet
     case rel=>exact ⟨rfl,rfl⟩
    ·have hkp:0<k:=by omega
     have h0k':=hdZ h0k
     clear h0k
     go_wp2_with fail
     go_meet
     case rel=>exact ⟨rfl,congrArg Value.string (by rw [preT,if_neg h0k'.out];exact cat_mk _ [59,32])⟩
   case rest =>
    obtain ⟨rfl,hs3⟩:=hcut
    subst hs3
    have hpre:(mkB (preT l k)).size<=110010202:=by
     rw [mkB,size_list,preT]
     rw [mkB,size_list] at hlenT
     split
     ·simp
     ·simp;omega
    clear hlenT
    have hxc:=fun (y:Ext wr) (o:Nat)=>y.cell ⟨b,o,none⟩ hblt
    go_wp2_with fail
    refine wp_region_ext (by kernel_rfl) (by kernel_rfl) ?_
    repeat (go_big_quiet_step ((go_at_call 133;exact Calls.ext_of (digits_any pp _ hp1 hp2))))
    refine wpQuiet_nil ?_
    rintro _ ⟨y,rfl⟩
    have g0:=(hxc y _).trans h0
    have g1:=(hxc y _).trans h1
    have g2:=(hxc y _).trans h2
    have g3:=(hxc y _).trans h3
    have hBy:Bz w y.wd:=hB.trans (y.below.mono hB.size)
    obtain ⟨wy,hwy⟩:∃wy,Hid (wy=y.wd):=⟨_,rfl⟩
    rw [<-hwy.out] at g0 g1 g2 g3 hBy ⊢
    clear hxc h0 h1 h2 h3
    go_upto_if 33 with fail
    go_cut [5] (fun s wx=>wy=wx/\s=.string (mkB (paperT ⟨pp,kk,ff,ww⟩)))
    case first =>
     by_cases hpp:pp = -1
     ·have e1:(pp == -1)=true:=by simp [hpp]
      have hpp':=hdZ hpp
      clear hpp
      go_wp2_with fail
      go_meet
      case rel=>exact ⟨rfl,by rw [paperT,if_pos hpp'.out];rfl⟩
     ·have e1:(pp == -1)=false:=by simp [hpp]
      have hpp':=hdZ hpp
      clear hpp
      go_wp2_with fail
      go_meet
      case rel=>exact ⟨rfl,by rw [paperT,if_neg hpp'.out]⟩
    case rest =>
     obtain ⟨rfl,hs5⟩:=hcut
     subst hs5
     go_upto_if 35 with fail
     go_cut [6] (fun s wx=>wy=wx/\s=.string (mkB (fieldT ff)))
     case first =>
      by_cases hpp:ff.data.toList=[]
      ·have e1:ff.toList=[]:=by rw [ByteArray.toList_eq];exact hpp
       have e2:ff.toList.isEmpty=true:=by simp [e1]
       have hpp':=hdZ hpp
       rw [e2]
       clear hpp e1 e2
       go_wp2_with fail
       go_meet
       case rel=>exact ⟨rfl,by rw [fieldT,if_pos hpp'.out];rfl⟩
      ·have e1:¬ff.toList=[]:=by rw [ByteArray.toList_eq];exact hpp
       have e2:ff.toList.isEmpty=false:=by simp [e1]
       have hpp':=hdZ hpp
       rw [e2]
       clear hpp e1 e2
       go_wp2_with fail
       go_meet
       case rel=>exact ⟨rfl,by rw [fieldT,if_neg hpp'.out];cases ff;simp [mkB]⟩
     case rest =>
      obtain ⟨rfl,hs6⟩:=hcut
      subst hs6
      obtain ⟨a0,ha0⟩:∃a,Hid (a=paperT ⟨pp,kk,ff,ww⟩):=⟨_,rfl⟩
      obtain ⟨a2,ha2⟩:∃a,Hid (a=fieldT ff):=⟨_,rfl⟩
      obtain ⟨ap,hap⟩:∃a,Hid (a=preT l k):=⟨_,rfl⟩
      rw [<-ha0.out,<-ha2.out,<-hap.out]
      rw [<-hap.out] at hpre
      have z0:(mkB a0).size<=20:=by rw [mkB,size_list,ha0.out];exact paperT_len hp1 hp2
      have z1:(mkB (kindT kk)).size<=9:=by rw [mkB,size_list];exact kindT_len _
      have z2:(mkB a2).size<=1100000:=by rw [mkB,size_list,ha2.out];exact fieldT_len hfs
      have z3:(mkB (whyT ww)).size<=6:=by rw [mkB,size_list];exact whyT_len _
      have r1:¬9223372036854775807<(mkB ap).size+(mkB a0).size:=by omega
      have r2:¬9223372036854775807<(mkB ap).size+(mkB a0).size+1:=by omega
      have r3:¬9223372036854775807<(mkB ap).size+(mkB a0).size+1+(mkB (kindT kk)).size:=by omega
      have r4:¬9223372036854775807<(mkB ap).size+(mkB a0).size+1+(mkB (kindT kk)).size+1:=by omega
      have r5:¬9223372036854775807<(mkB ap).size+(mkB a0).size+1+(mkB (kindT kk)).size+1+(mkB a2).size:=by omega
      have r6:¬9223372036854775807<(mkB ap).size+(mkB a0).size+1+(mkB (kindT kk)).size+1+(mkB a2).size+1:=by omega
      have r7:¬9223372036854775807<(mkB ap).size+(mkB a0).size+1+(mkB (kindT kk)).size+1+(mkB a2).size+1+(mkB (whyT ww)).size:=by omega
      clear z0 z1 z2 z3 hpre hp1 hp2 hfs hblt
      have w6:∀(W:World) (g:Nat),Blk W g 9 six->Calls Tryz.prog 134 #[.slice (some ⟨g,0,none⟩) 6 6,.int .i64 kk] W fun e w'=>e=.returned (.string (mkB (kindT kk)))/\W=w':=fun W g h=>word_six g kk W h
      have w7:∀(W:World) (g:Nat),Blk W g 9 seven->Calls Tryz.prog 134 #[.slice (some ⟨g,0,none⟩) 7 7,.int .i64 ww] W fun e w'=>e=.returned (.string (mkB (whyT ww)))/\W=w':=fun W g h=>word_seven g ww W h
      go_upto_region 12 with fail
      have hby:b<wy.heap.size:=by have:=World.block_lt_of_cell? wy _ g0;exact this
      go_region_held3 (fun w'=>w'.cell? ⟨b,off+k*4+1,none⟩=some (.int .i64 kk)/\w'.cell? ⟨b,off+k*4+3,none⟩=some (.int .i64 ww)) (go_keep)
        (first | (go_at_call_of 134 (Value.int IntKind.i64 kk);(with_reducible refine (w6 _ _ ?_).mono ?_);(first | (with_reducible exact (Blk.new _ 9 _).drew) | (with_reducible exact ((Blk.new _ 9 _).alloc _).drew) | (with_reducible exact (blk_second _ _ 9 _).drew));rintro e w2 ⟨rfl,rfl⟩) | (go_at_call_of 134 (Value.int IntKind.i64 ww);(with_reducible refine (w7 _ _ ?_).mono ?_);(first | (with_reducible exact (Blk.new _ 9 _).drew) | (with_reducible exact ((Blk.new _ 9 _).alloc _).drew) | (with_reducible exact (blk_second _ _ 9 _).drew));rintro e w2 ⟨rfl,rfl⟩))
      all_goals
       go_wp2_with fail
       go_roundg (n-(k+1))
       case measure=>have:=hg'.out;omega
       case rel =>
        refine ⟨k+1,by omega,rfl,by go_num,?_,?_⟩
        ·rw [text_snoc hx'.out,<-hap.out]
         exact congrArg Value.string ((cat_all ap a0 (kindT kk) a2 (whyT ww)).trans (congrArg mkB (by rw [ha0.out,ha2.out];rfl)))
        ·first | exact ((hBy.alloc hBy.size _).alloc (by simp;have:=hBy.size;omega) _).drew | exact (((hBy.alloc hBy.size _).drew).alloc (by show _<=(wy.alloc _).heap.size;simp;have:=hBy.size;omega) _)
  ·go_wp2_with fail
   go_ret
   exact ⟨by rw [List.take_of_length_le (by have:=hl.out;omega)];rfl,hB⟩
end Go.Proofs.YtdjmckjbibfecaaGreatDoor.Tx
namespace Go.Proofs.YtdjmckjbibfecaaGreatDoor
open Go Go.RowKit Go.BigFrame Go.Maps
mutual
def shT:Tree->Sh.Tree
 | .mk k p f x n A c L=>.mk k p f.data.toList x.data.toList n A c (shL L)
def shL:List Tree->List Sh.Tree
 | []=>[]
 | t::L=>shT t::shL L
end
theorem shL_len:∀L:List Tree,(shL L).length=L.length
 | []=>by rw [shL];rfl
 | t::L=>by rw [shL,List.length_cons,List.length_cons,shL_len L]
theorem bytes_back (f:ByteArray):(⟨f.data.toList.toArray⟩:ByteArray)=f:=by simp
theorem shT_cells (t:Tree):(shT t).cells=t.cells:=by
 obtain ⟨k,p,f,x,n,A,c,L⟩:=t
 rw [shT]
 simp only [Sh.Tree.cells,Tree.cells,shL_len,bytes_back]
mutual
theorem shT_at {w:World}:∀{t:Tree},TreeAt w t->Sh.TreeAt w (fun _=>True) (shT t)
 | .mk k p f x n A c L,h=>by
  rw [TreeAt] at h
  rw [shT,Sh.TreeAt]
  exact ⟨shL_at h.1,by rw [shL_len];exact h.2⟩
theorem shL_at {w:World}:∀{A:Option Addr} {j:Nat} {L:List Tree},RowsAt w A j L->Sh.RowsAt w (fun _=>True) A j (shL L)
 | A,j,[],_=>by rw [shL,Sh.RowsAt];trivial
 | A,j,.mk k p f x n A' c M::L,h=>by
  rw [RowsAt] at h
  rw [shL,Sh.RowsAt]
  refine ⟨?_,shT_at h.2.1,shL_at h.2.2⟩
  obtain ⟨b,off,e,h0,h1,h2,h3,h4,h5⟩:=h.1
  rw [shT]
  refine ⟨b,off,e,trivial,h0,h1,?_,?_,h4,?_⟩
  ·rw [bytes_back];exact h2
  ·rw [bytes_back];exact h3
  ·rw [shL_len];exact h5
end
mutual
theorem sh_size:∀t:Tree,(Sh.szR (Sh.strip (shT t)):Int)+16<=600*wgtT t
 | .mk k p f x n A c L=>by
  have h:=shL_size L
  have e1:f.data.toList.length=f.size:=Array.length_toList
  have e2:x.data.toList.length=x.size:=Array.length_toList
  rw [shT,Sh.strip,Sh.szR,wgtT,e1,e2]
  omega
theorem shL_size:∀L:List Tree,(Sh.szL (Sh.strips (shL L)):Int)<=600*wgtL L
 | []=>by rw [shL,Sh.strips,Sh.szL,wgtL];omega
 | t::L=>by
  have h1:=sh_size t
  have h2:=shL_size L
  rw [shL,Sh.strips,Sh.szL,wgtL]
  omega
end
mutual
theorem partU_wgt:∀t:Tree,∀u∈partsT t,wgtT u<=wgtT t
 | .mk k p f x n A c L,u,hu=>by
  rw [partsT] at hu
  split at hu
  ·have:=partUL_wgt L u hu
   rw [wgtT]
   omega
  ·obtain rfl:=List.mem_singleton.1 hu
   exact Int.le_refl _
theorem partUL_wgt:∀L:List Tree,∀u∈partsL L,wgtT u<=wgtL L
 | [],u,hu=>by rw [partsL] at hu;cases hu
 | t::L,u,hu=>by
  rw [partsL] at hu
  have h1:=wgt_pos t
  have h2:=wgtL_pos L
  rw [wgtL]
  rcases List.mem_append.1 hu with hu | hu
  ·have:=partU_wgt t u hu;omega
  ·have:=partUL_wgt L u hu;omega
end
def shownT (t:Tree):List UInt8:=Sh.shownR (Sh.strip (shT t))
theorem show_short {t u:Tree} (h:sizeT t 200<=60) (hu:u∈partsT t):Sh.szR (Sh.strip (shT u))<=36000:=by
 have e:=size_wgt t 200 (by omega)
 have h1:=partU_wgt t u hu
 have h2:=sh_size u
 omega
theorem shown_len {t:Tree} (h:Sh.szR (Sh.strip (shT t))<=36000):(shownT t).length<=36000:=by
 unfold shownT Sh.shownR
 split
 ·exact Nat.le_trans (Sh.show_len _) h
 ·simp
def joinC (p:List Nat):List UInt8:=Lib.join (p.map fun (i:Nat)=>Lib.itoa (i:Int)) [44]
def coreT (p:List Nat):List UInt8:=[32,40]++joinC p++[41]
def whyP (docs:List Pap) (d:Pap) (f:Flt) (t:Tree):List UInt8 :=
 if (!isAt t.kind&&(holdsT docs d t==f.why))=true then [32,91]++shownT t++[93]++(coresE docs t f.paper).flatMap coreT else []
def whyStep (docs:List Pap) (d:Pap) (f:Flt) (acc:List UInt8) (t:Tree):List UInt8:=acc++whyP docs d f t
def whyF (needs:List Nd) (docs:List Pap) (f:Flt):List UInt8 :=
 Tx.textF [f]++(if wholeB docs.length f=true then (match docs[f.paper.toNat]? with | some d=>(failL needs docs d).flatMap (whyP docs d f) | none=>[]) else [])++[10]
def whyM (needs:List Nd) (docs:List Pap) (l:List Flt):List UInt8:=l.flatMap (whyF needs docs)
theorem whyM_snoc {needs:List Nd} {docs:List Pap} {l:List Flt} {q:Nat} {f:Flt} (h:l[q]?=some f):whyM needs docs (l.take (q+1))=whyM needs docs (l.take q)++whyF needs docs f:=by
 obtain ⟨hj,e⟩:=gsZ.1 h
 rw [List.take_succ_eq_append_getElem hj,e]
 unfold whyM
 rw [List.flatMap_append]
 simp
theorem why_fold (docs:List Pap) (d:Pap) (f:Flt):∀(l:List Tree) (acc:List UInt8),l.foldl (whyStep docs d f) acc=acc++l.flatMap (whyP docs d f)
 | [],acc=>by simp
 | t::l,acc=>by rw [List.foldl_cons,why_fold docs d f l,whyStep,List.flatMap_cons,List.append_assoc]
theorem flat_len {α:Type} (g:α->List UInt8) (m:Nat):∀l:List α,(∀x∈l,(g x).length<=m)->(l.flatMap g).length<=m*l.length
 | [],_=>by simp
 | x::l,h=>by
  have h1:=flat_len g m l fun y hy=>h y (by simp [hy])
  have h2:=h x (by simp)
  rw [List.flatMap_cons,List.length_append,List.length_cons,Nat.mul_add]
  omega
theorem joinC_len {p:List Nat} (h:p.length<=12) (hi:∀i∈p,i<=1000000):(joinC p).length<=252:=by
 have:=Tx.join_len [44] 20 (p.map fun (i:Nat)=>Lib.itoa (i:Int)) (fun x hx=>by
  obtain ⟨i,hi',rfl⟩:=List.mem_map.1 hx
  have:=hi i hi'
  exact itoa_len (by omega) (by omega))
 rw [List.length_map] at this
 unfold joinC
 simp only [List.length_cons,List.length_nil] at this
 omega
theorem core_rows {docs:List Pap} {d:Pap} {t:Tree} {a:Nat} (hd:docs[a]?=some d):(coresE docs t (a:Int)).length<=5000/\∀p∈coresE docs t (a:Int),p.length<=12/\∀i∈p,i<=12:=by
 by_cases h:(atomsT t).length<=12
 ·refine ⟨(coresE_rows h).1,fun p hp=>⟨(coresE_rows h).2 p hp,fun i hi=>?_⟩⟩
  have:=(core_small hd hp).2 i hi
  omega
 ·rw [coresE_long (by omega)]
  exact ⟨by simp,fun p hp=>by cases hp⟩
theorem coresText_len {docs:List Pap} {d:Pap} {t:Tree} {a:Nat} (hd:docs[a]?=some d) (l:List (List Nat)) (hl:∀p∈l,p∈coresE docs t (a:Int)) (hn:l.length<=5000):(l.flatMap coreT).length<=1275000:=by
 have:=flat_len coreT 255 l fun p hp=>by
  obtain ⟨h1,h2⟩:=(core_rows hd).2 p (hl p hp)
  have:=joinC_len h1 fun i hi=>by have:=h2 i hi;omega
  unfold coreT
  simp only [List.length_append,List.length_cons,List.length_nil]
  omega
 omega
theorem whyP_len {docs:List Pap} {d:Pap} {f:Flt} {t:Tree} {a:Nat} (hfa:f.paper=(a:Int)) (hd:docs[a]?=some d) (h:Sh.szR (Sh.strip (shT t))<=36000):(whyP docs d f t).length<=1400000:=by
 unfold whyP
 split
 ·have h1:=shown_len h
  have h2:=coresText_len hd _ (fun p hp=>hp) (core_rows (t:=t) hd).1
  rw [hfa]
  simp only [List.length_append,List.length_cons,List.length_nil]
  omega
 ·simp
theorem fail_short {needs:List Nd} {docs:List Pap} {d:Pap} (hs:∀x∈needs,sizeT x.rule 200<=60):∀u∈failL needs docs d,Sh.szR (Sh.strip (shT u))<=36000:=fun u hu=>by
 obtain ⟨x,hx,h⟩:=fail_mem hu
 exact show_short (hs x hx) h
theorem whyL_len {needs:List Nd} {docs:List Pap} {d:Pap} {f:Flt} {a:Nat} (hfa:f.paper=(a:Int)) (hd:docs[a]?=some d) (hs:∀x∈needs,sizeT x.rule 200<=60) (hF:FewParts needs) (i:Nat):(((failL needs docs d).take i).flatMap (whyP docs d f)).length<=1008000000:=by
 have h1:=flat_len (whyP docs d f) 1400000 ((failL needs docs d).take i) fun u hu=>whyP_len hfa hd (fail_short hs u (List.mem_of_mem_take hu))
 have h2:=failL_len (docs:=docs) (d:=d) hF
 rw [List.length_take] at h1
 omega
theorem whyF_len {needs:List Nd} {docs:List Pap} {f:Flt} (hf:Tight f) (hs:∀x∈needs,sizeT x.rule 200<=60) (hF:FewParts needs):(whyF needs docs f).length<=1100000000:=by
 have h0:=Tx.textF_len (l:=[f]) (fun x hx=>by
  obtain rfl:=List.mem_singleton.1 hx
  exact ⟨hf.2.2.1,hf.2.2.2,by have:=hf.2.1;omega⟩)
 unfold whyF
 simp only [List.length_append,List.length_cons,List.length_nil] at h0 ⊢
 split
 ·rename_i hw
  have h00:0<=f.paper:=by
   unfold wholeB at hw
   simp only [Bool.and_eq_true,decide_eq_true_eq] at hw
   exact hw.1.1
  split
  ·rename_i d hd
   have h2:=whyL_len (f:=f) (a:=f.paper.toNat) (by omega) hd hs hF (failL needs docs d).length
   rw [List.take_length] at h2
   omega
  ·simp only [List.length_nil];omega
 ·simp only [List.length_nil];omega
theorem whyM_len {needs:List Nd} {docs:List Pap} {l:List Flt} (hl:l.length<=20000) (hf:∀x∈l,Tight x) (hs:∀x∈needs,sizeT x.rule 200<=60) (hF:FewParts needs):(whyM needs docs l).length<=22000000000000:=by
 have:=flat_len (whyF needs docs) 1100000000 l fun x hx=>whyF_len (hf x hx) hs hF
 unfold whyM
 omega
end Go.Proofs.YtdjmckjbibfecaaGreatDoor

import Derived.Test.YtdjmckjbibfecaaGreatDoorKa
import Derived.Test.YtdjmckjbibfecaaGreatDoorRa
namespace Go.Proofs.YtdjmckjbibfecaaGreatDoor
open Go Go.RowKit Go.BigFrame Go.Maps
set_option maxRecDepth 100000
set_option maxHeartbeats 1600000
structure TabE (w:World):Prop where
 tx:Tx.Env w
 sh:Sh.Env w
theorem TabE.below {w w':World} (h:TabE w) (hb:Bz w w'):TabE w':=⟨h.tx.below hb,h.sh.below hb⟩
theorem nats_ints (p:List Nat):natsV p=intsV (p.map fun (i:Nat)=>(i:Int)):=by
 unfold natsV intsV
 rw [List.map_map]
 rfl
theorem nats_at {w:World} {B n:Nat} {v:Value} {p:List Nat} (h:w.ownsRow B 3 1 v n (natsV p)):∃A c,v=.slice A n c/\IntsAt w A (p.map fun (i:Nat)=>(i:Int)):=by
 rw [nats_ints] at h
 exact own_ints h
def numsB (p:List Nat):List (List UInt8):=p.map fun (i:Nat)=>Lib.itoa (i:Int)
def numsV (p:List Nat):List Value:=(numsB p).map fun x=>Value.string (mkB x)
theorem numsV_snoc {p:List Nat} {q x:Nat} (h:p[q]?=some x):numsV (p.take (q+1))=numsV (p.take q)++[.string (mkB (Lib.itoa (x:Int)))]:=by
 obtain ⟨hj,e⟩:=gsZ.1 h
 rw [List.take_succ_eq_append_getElem hj,e]
 simp [numsV,numsB]
theorem numsB_snoc {p:List Nat} {q x:Nat} (h:p[q]?=some x):numsB (p.take (q+1))=numsB (p.take q)++[Lib.itoa (x:Int)]:=by
 obtain ⟨hj,e⟩:=gsZ.1 h
 rw [List.take_succ_eq_append_getElem hj,e]
 simp [numsB]
theorem Tryz.infoS9:(Tryz.prog.info? 9).map (fun i=>(i.zero,i.size,i.bytes))=some (some (.string ⟨#[]⟩),1,16):=by kernel_rfl
theorem join44_any (A:Option Addr) (n c:Nat) (l:List (List UInt8)) (w:World) (hl:l.length=n) (hA:Tx.StrsAt w A (l.map mkB)) (hc:n<=c) (hn:n<=1000) (hlen:(Lib.join l [44]).length<=140737488355328) :
  Calls Tryz.prog 130 #[.slice A n c,.string ⟨#[44]⟩] w fun e w'=>e=.returned (.string (mkB (Lib.join l [44])))/\Bz w w':=by
 subst hl
 have hm:(l.map mkB).map (fun x=>x.data.toList)=l:=by
  rw [List.map_map]
  have:((fun (x:ByteArray)=>x.data.toList) ∘ mkB)=id:=by funext x;simp [mkB]
  rw [this];simp
 match hll:l with
 | [] =>
  refine (Tryz.strings_Join_none A c ⟨#[44]⟩ w).mono ?_
  rintro e w' ⟨rfl,rfl⟩
  exact ⟨rfl,Below.refl _ _⟩
 | x::r =>
  rw [<-hll]
  obtain ⟨b,off,rfl,h0⟩:=hA 0 (mkB x) (by rw [hll];rfl)
  have:=Tryz.strings_Join b off c (l.map mkB) ⟨#[44]⟩ w (fun j y hj=>by
   obtain ⟨b',off',e,h⟩:=hA j y hj
   simp only [Option.some.injEq,Addr.mk.injEq,and_true] at e
   obtain ⟨rfl,rfl⟩:=e
   exact h) (World.block_lt_of_cell? w _ h0) (by rw [List.length_map];omega) (by rw [List.length_map];exact hc) (by rw [hm];exact hlen)
  rw [hm,List.length_map] at this
  exact this
theorem joined_any (p:List Nat) (v:Value) (B:Nat) (w:World) (hp:p.length<=12) (hi:∀i∈p,i<=12) (hv:Hid (w.ownsRow B 3 1 v p.length (natsV p))) (he:Hid (TabE w)) :
  Calls Tryz.prog 81 #[v] w fun e w'=>e=.returned (.string (mkB (joinC p)))/\Bz w w':=by
 obtain ⟨iS,iSi,iS0,iS1,iS2⟩:=info_parts Tryz.infoS9
 obtain ⟨A,c,rfl,hA⟩:=nats_at hv.out
 have hjl:=joinC_len hp fun i h=>by have:=hi i h;omega
 have hA':=hdZ hA
 clear hA hv
 have hi':=hdZ hi
 clear hi
 obtain ⟨n,hn⟩:=nmZ (p.length)
 rw [hn.out] at hp ⊢
 have hm1:Hid (iS.bytes*n<=281474976710656):=by unfold Hid;rw [iS2];omega
 have hm2:Hid (n<=maxLen):=by unfold Hid maxLen;omega
 go_enter Tryz.func81,Tryz.ntmps81
 go_wp2_with (at_make;go_must (refine wpList_make_own _ rfl _ _ 155 rfl w.heap.size 9 iS _ 1 Tryz.underlying155 iSi iS0 iS1 _ _ _ n rfl rfl rfl hm1.out hm2.out leZ ?_);intro w1 hown hgrow)
 have hB1:Hid (Bz w w1):=hdZ ((Below.refl _ w).grown hgrow leZ (by simp))
 have hown1:=hdZ hown
 clear hown hgrow
 go_loopw [3,5,11] (fun v _ i wr=>∃q:Nat,q<=n/\i=.int .i64 q/\Hid (wr.ownsRow w.heap.size 9 1 v q (numsV (p.take q)))/\Hid (Bz w wr)) (fun _ _ i _=>n-(intOf i).toNat)
 case atStart=>exact ⟨0,Nat.zero_le _,rfl,by rw [List.take_zero];exact hown1,hB1⟩
 case round =>
  clear hown1 hB1
  obtain ⟨q,hq,rfl,hown,hB⟩:=hrel
  obtain ⟨A9,c9,rfl⟩:=own_form hown.out
  by_cases hlt:q<n
  ·obtain ⟨x,hx⟩:∃x,p[q]?=some x:=⟨_,gZ (by have:=hn.out;omega)⟩
   have hx12:=hi'.out x (mgZ hx)
   have hsn:=hdZ (numsV_snoc hx)
   obtain ⟨b,off,rfl,x0⟩:=(hA'.out.below hB.out) q (x:Int) (by rw [List.getElem?_map,hx];rfl)
   have hit:=hdZ (Tx.itoa_any (x:Int) wr (by omega) (by omega) (he.out.tx.below hB.out))
   have hitl:=itoa_len (n:=(x:Int)) (by omega) (by omega)
   obtain ⟨s,hs⟩:∃z,mkB (Lib.itoa (x:Int))=z:=⟨_,rfl⟩
   rw [hs] at hit hsn
   obtain ⟨i1,i2,hkm⟩:=inZ hlt
   clear hx hs hitl
   go_wp2_with fail
   refine hit.out.mono ?_
   rintro e w5 ⟨rfl,hb5⟩
   have hown5:=hdZ (own_below hown.out hb5)
   have hB5:=btY hB hb5
   obtain ⟨w6,hw6,hb6,-⟩:=newZ w5 9 #[.string s]
   have hblk:Hid (Reads w6 w6.heap.size 1 (some ⟨w5.heap.size,0,none⟩) 1 (#[.string s]:Array Value).toList):=by rw [<-hw6.out];exact hdZ (blk_reads (Blk.new w5 9 #[.string s]) 1 1 rfl)
   have hown6:=hdZ (own_below hown5.out hb6.out)
   have hB6:=btZ hB5 hb6
   have s1:Hid (q+1<=maxLen):=by unfold Hid maxLen;omega
   have s2:Hid ((q+1)*16<=140737488355328):=by unfold Hid;omega
   have s3:=hdZ hB6.out.size
   have s4:Hid (∀v∈(#[.string s]:Array Value).toList,v.oneCell'=true):=hdZ (by simp [Value.oneCell'])
   clear hb5 hit x0
   go_wp2_with (first | rw [hw6.out] | (at_builtin;go_must (refine wpList_append_any _ rfl _ _ 155 rfl w.heap.size 9 iS _ 1 16 Tryz.underlying155 iSi iS0 iS1 iS2 rfl (by decide) _ q (numsV (p.take q)) rfl hown6.out _ (some ⟨w5.heap.size,0,none⟩) 1 1 _ rfl hblk.out s4.out s1.out s2.out s3.out ?_);intro v8 w8 ho8 hg8 hv8;have ho8':=hdZ ho8;have hB8:=hdZ (hB6.out.grown hg8 s3.out (fun j hj=>(hown6.out.lt j hj).1));clear ho8 hg8 hv8))
   go_roundw
   case rel=>exact ⟨q+1,by omega,by go_num,by unfold Hid;rw [hsn.out];exact ho8'.out,hB8⟩
   case measure=>simp [intOf];omega
  ·have hkm:decide (q<n)=false:=dfZ hlt
   have hqn:n=q:=by omega
   subst hqn
   rw [List.take_of_length_le (by rw [hn.out];exact Nat.le_refl _)] at hown
   obtain ⟨A',c',e',hc',hs'⟩:=Tx.own_strs (l:=(numsB p).map mkB) (m:=n) (by rw [List.map_map];exact hown.out) (by rw [List.length_map];unfold numsB;rw [List.length_map];exact hn.out)
   simp only [Value.slice.injEq,true_and] at e'
   obtain ⟨rfl,rfl⟩:=e'
   have hj:=hdZ (join44_any A9 n c9 (numsB p) wr (by unfold numsB;rw [List.length_map];exact hn.out) hs' hc' (by omega) (by show (joinC p).length<=_;omega))
   clear hs'
   go_wp2_with fail
   refine hj.out.mono ?_
   rintro e w5 ⟨rfl,hb5⟩
   have hB5:=btY hB hb5
   clear hb5 hj
   go_wp2_with fail
   go_ret
   exact ⟨rfl,hB5.out⟩
def rowS (p:List Nat):List UInt8:=[40]++Lib.join (numsB p) [44]
theorem rowS_snoc {p:List Nat} {q x:Nat} (h:p[q]?=some x):rowS (p.take (q+1))=(if q=0 then rowS (p.take q) else rowS (p.take q)++[44])++Lib.itoa (x:Int):=by
 unfold rowS
 rw [numsB_snoc h]
 by_cases h0:q=0
 ·subst h0;simp [numsB,Lib.join,List.intercalate]
 ·rw [if_neg h0,Tx.join_snoc _ _ _ (by
   intro e
   have:=congrArg List.length e
   unfold numsB at this
   have hj:=(gsZ.1 h).1
   rw [List.length_map,List.length_take,List.length_nil] at this
   omega)]
  simp
theorem rowS_len {p:List Nat} (h:p.length<=12) (hi:∀i∈p,i<=12) (q:Nat):(mkB (rowS (p.take q))).size<=253:=by
 have h1:=joinC_len (p:=p.take q) (by rw [List.length_take];omega) fun i h=>by have:=hi i (List.mem_of_mem_take h);omega
 rw [mkB,size_list]
 unfold rowS
 rw [List.length_append]
 have:(Lib.join (numsB (p.take q)) [44]).length=(joinC (p.take q)).length:=rfl
 simp only [List.length_cons,List.length_nil]
 omega
theorem row32_any (p:List Nat) (v:Value) (B:Nat) (w:World) (hp:p.length<=12) (hi:∀i∈p,i<=12) (hv:Hid (w.ownsRow B 3 1 v p.length (natsV p))) :
  Calls Tryz.prog 85 #[v] w fun e w'=>e=.returned (.string (mkB ([40]++joinC p++[41])))/\Bz w w':=by
 obtain ⟨A,c,rfl,hA⟩:=nats_at hv.out
 have hrl:=hdZ (rowS_len hp hi)
 have hA':=hdZ hA
 clear hA hv
 have hi':=hdZ hi
 clear hi
 obtain ⟨n,hn⟩:=nmZ (p.length)
 rw [hn.out] at hp ⊢
 go_enter Tryz.func85,Tryz.ntmps85
 go_wp2_with fail
 go_loopw [3,4] (fun s i wr=>∃q:Nat,q<=n/\i=.int .i64 q/\s=.string (mkB (rowS (p.take q)))/\Hid (Bz w wr)) (fun _ i _=>n-(intOf i).toNat)
 case atStart=>exact ⟨0,Nat.zero_le _,rfl,by rw [List.take_zero];rfl,hdZ (Below.refl _ _)⟩
 case round =>
  obtain ⟨q,hq,rfl,rfl,hB⟩:=hrel
  have hz:=hrl.out q
  by_cases hlt:q<n
  ·obtain ⟨x,hx⟩:∃x,p[q]?=some x:=⟨_,gZ (by have:=hn.out;omega)⟩
   have hx12:=hi'.out x (mgZ hx)
   have hsn:=hdZ (rowS_snoc hx)
   obtain ⟨b,off,rfl,x0⟩:=(hA'.out.below hB.out) q (x:Int) (by rw [List.getElem?_map,hx];rfl)
   have hdg:=hdZ (dig28_any x (by omega) wr)
   have hdl:(Lib.decDigits x).length<=20:=by have:=itoa_len (n:=(x:Int)) (by omega) (by omega);rwa [itoa_nat] at this
   have hitn:Hid (Lib.itoa (x:Int)=Lib.decDigits x):=itoa_nat x
   obtain ⟨s,hs⟩:=nmZ ((⟨(Lib.decDigits x).toArray⟩:ByteArray))
   have hsl:s.size<=20:=by rw [<-hs.out,size_list];exact hdl
   rw [hs.out] at hdg
   obtain ⟨i1,i2,hkm⟩:=inZ hlt
   clear hx hdl
   by_cases h0:q=0
   ·have hq0:decide (0<q)=false:=dfZ (by omega)
    have hq1:decide ((0:Int)<(q:Int))=false:=dfZ (by omega)
    have hres:Hid (mkB (rowS (p.take q))++s=mkB (rowS (p.take (q+1)))):=by
     unfold Hid
     rw [hsn.out,if_pos h0,hitn.out,<-hs.out]
     exact cat_mk _ _
    clear hsn h0
    go_wp2_with fail
    all_goals try (exfalso;omega)
    refine hdg.out.mono ?_
    rintro e w5 ⟨rfl,hb5⟩
    have hB5:=btY hB hb5
    clear hb5 hdg x0
    go_wp2_with fail
    go_roundw
    case rel=>exact ⟨q+1,by omega,by go_num,congrArg Value.string hres.out,hB5⟩
    case measure=>simp [intOf];omega
   ·have hq0:decide (0<q)=true:=dtZ (by omega)
    have hq1:decide ((0:Int)<(q:Int))=true:=dtZ (by omega)
    have hres:Hid (mkB (rowS (p.take q))++⟨#[44]⟩++s=mkB (rowS (p.take (q+1)))):=by
     unfold Hid
     rw [hsn.out,if_neg h0,hitn.out,<-hs.out]
     apply ByteArray.ext;simp [mkB]
    have hz2:(mkB (rowS (p.take q))++⟨#[44]⟩).size<=254:=by rw [ByteArray.size_append];show _+1<=_;omega
    clear hsn h0
    go_wp2_with fail
    all_goals try (exfalso;omega)
    refine hdg.out.mono ?_
    rintro e w5 ⟨rfl,hb5⟩
    have hB5:=btY hB hb5
    clear hb5 hdg x0
    go_wp2_with fail
    go_roundw
    case rel=>exact ⟨q+1,by omega,by go_num,congrArg Value.string hres.out,hB5⟩
    case measure=>simp [intOf];omega
  ·have hkm:decide (q<n)=false:=dfZ hlt
   have hfin:Hid (mkB (rowS (p.take q))++⟨#[41]⟩=mkB ([40]++joinC p++[41])):=by
    unfold Hid
    rw [List.take_of_length_le (by rw [hn.out];omega)]
    exact cat_mk _ [41]
   go_wp2_with fail
   go_ret
   exact ⟨congrArg (fun s=>Ending.returned (.string s)) hfin.out,hB.out⟩
set_option maxHeartbeats 6400000
theorem blk_others {W W':World} {gb g:Nat} {t:TypeId} {cs:Array Value} (h:Blk W g t cs) (hK:Lib.OthersKept 5 (some gb) W W') (hg:g≠gb) (ht:t≠5):Blk W' g t cs :=
 hK g _ h (fun e=>hg (Option.some.inj e)) (fun c fz e=>by injection e with _ e2 _;exact ht e2)
theorem own_others {W W':World} {gb B:Nat} {e:TypeId} {size n:Nat} {v:Value} {xs:List Value} (h:W.ownsRow B e size v n xs) (hK:Lib.OthersKept 5 (some gb) W W') (hg:v.ownBlock≠some gb) (ht:e≠5):W'.ownsRow B e size v n xs:=by
 obtain ⟨h1,h0 | ⟨g,cap,cur,hv,hB,hh,r⟩⟩:=h
 ·exact ⟨h1,.inl h0⟩
 ·refine ⟨h1,.inr ⟨g,cap,cur,hv,hB,hK g _ hh (fun e9=>hg ?_) (fun c fz e9=>by injection e9 with _ e2 _;exact ht e2),r⟩⟩
  rw [hv];exact e9
theorem bld_blk {W:World} {B b:Nat} {acc:List UInt8} (h:Bld W B b acc):∃cs,Blk W b 115 cs:=by
 rcases h with ⟨_,v,hv,_⟩ | ⟨_,v,hv,_⟩<;>exact ⟨_,hv⟩
theorem own_ne_bld {W:World} {B B' b n:Nat} {acc:List UInt8} {e:TypeId} {size:Nat} {v:Value} {xs:List Value} (h:W.ownsRow B' e size v n xs) (hb:Bld W B b acc) (ht:e≠115):v.ownBlock≠some b:=by
 obtain ⟨cs,hc⟩:=bld_blk hb
 exact own_blk_ne h hc ht
theorem blk_ne_bld {W:World} {B b g:Nat} {acc:List UInt8} {t:TypeId} {cs:Array Value} (h:Blk W g t cs) (hb:Bld W B b acc) (ht:t≠115):g≠b:=by
 obtain ⟨cs',hc⟩:=bld_blk hb
 exact Blk.ne_ h hc ht
theorem cores_others {W W':World} {gb B:Nat} {v:Value} {L:List (List Nat)} {acc:List UInt8} {B9:Nat} (h:CoresAt W B v L) (hb:Bld W B9 gb acc) (hK:Lib.OthersKept 5 (some gb) W W'):CoresAt W' B v L:=by
 obtain ⟨vs,h1,h2,h3⟩:=h
 exact ⟨vs,h1,own_others h2 hK (own_ne_bld h2 hb (by decide)) (by decide),fun i p x hi hx=>own_others (h3 i p x hi hx) hK (own_ne_bld (h3 i p x hi hx) hb (by decide)) (by decide)⟩
theorem boxT_far {t:TypeId} (h:boxT t):t≠5/\t≠115:=by
 rcases h with rfl | rfl | rfl | rfl | rfl | rfl<;>decide
structure WhyS (w W:World) (C:Array Value) (A:Option Addr) (nn cc g1 gb:Nat) (vF:Value) (BF:Nat) (LF:List Flt) (acc:List UInt8):Prop where
 below:Bz w W
 cred:Blk W w.heap.size 46 C
 docs:Blk W g1 25 #[.slice A nn cc]
 row:W.ownsRow BF 54 4 vF LF.length (fcells LF)
 bld:Bld W gb gb acc
theorem WhyS.on {w W W':World} {C:Array Value} {A:Option Addr} {nn cc g1 gb:Nat} {vF:Value} {BF:Nat} {LF:List Flt} {acc:List UInt8} (h:WhyS w W C A nn cc g1 gb vF BF LF acc) (hb:Bz W W'):WhyS w W' C A nn cc g1 gb vF BF LF acc :=
 ⟨h.below.trans (hb.mono h.below.size),h.cred.below hb h.cred.lt,h.docs.below hb h.docs.lt,own_below h.row hb,h.bld.below hb⟩
theorem WhyS.write {w W W':World} {C:Array Value} {A:Option Addr} {nn cc g1 gb:Nat} {vF:Value} {BF:Nat} {LF:List Flt} {acc acc':List UInt8} (h:WhyS w W C A nn cc g1 gb vF BF LF acc) (hgb:w.heap.size<=gb) (hB:Below gb W W') (hK:Lib.OthersKept 5 (some gb) W W') (hb:Bld W' gb gb acc'):WhyS w W' C A nn cc g1 gb vF BF LF acc' :=
 ⟨h.below.trans (hB.mono hgb),blk_others h.cred hK (blk_ne_bld h.cred h.bld (by decide)) (by decide),blk_others h.docs hK (blk_ne_bld h.docs h.bld (by decide)) (by decide),own_others h.row hK (own_ne_bld h.row h.bld (by decide)) (by decide),hb⟩
theorem frame_write {w W W':World} {gb B9:Nat} {acc:List UInt8} (hb:Bld W B9 gb acc) (hgb:w.heap.size<=gb) (hB:Below gb W W') (hK:Lib.OthersKept 5 (some gb) W W'):LstFr w.heap.size W W' :=
 ⟨fun _=>hB.mono hgb,hB.size,fun _ _ _ h ht=>blk_others h hK (blk_ne_bld h hb (boxT_far ht).2) (boxT_far ht).1⟩
theorem why1_any (t:Tree) (A:Option Addr) (nn cc:Nat) (docs:List Pap) (f:Flt) (a:Nat) (hfa:f.paper=(a:Int)) (d:Pap) (hd0:docs[a]?=some d) (w0 w:World) (C:Array Value) (g1 gb gf:Nat) (hgb:w0.heap.size<=gb) (vF:Value) (BF:Nat) (LF:List Flt) (acc:List UInt8) (hT:Hid (TreeAt w0 t)) (hR:Hid (Room w0 A nn docs)) (he:Hid (TabE w0)) (hAT:(atomsT t).length<=60) (hz:Sh.szR (Sh.strip (shT t))<=36000)
  (hS:Hid (WhyS w0 w C A nn cc g1 gb vF BF LF acc)) (hF:Hid (Blk w gf 54 #[.int .i64 (a:Int),.int .i64 f.kind,.string f.field,.int .i64 f.why])) (hacc:acc.length<=60000000000000) :
  Calls Tryz.prog 79 #[.agg t.cells,.int .i64 (holdsT docs d t),.pointer (some ⟨gf,0,none⟩),.pointer (some ⟨gb,0,none⟩),.pointer (some ⟨g1,0,none⟩)] w fun e w'=>e=.returned (.tuple #[])/\(WhyS w0 w' C A nn cc g1 gb vF BF LF (whyStep docs d f acc t)/\Blk w' gf 54 #[.int .i64 (a:Int),.int .i64 f.kind,.string f.field,.int .i64 f.why])/\LstFr w0.heap.size w w':=by
 have hia:=hdZ (fun W=>isAtom_any t W)
 have hshow:=hdZ (fun (W:World) (h:Bz w0 W)=>Sh.showR_any (shT t) W (fun _=>True) (hdZ (he.out.sh.below h)) (hdZ (shT_at (hT.out.below h))) (hdZ (Nat.le_trans hz (by decide))))
 rw [shT_cells] at hshow
 have hcores:=hdZ (fun (W:World) (h:Bz w0 W)=>cores_any t A nn cc docs (a:Int) W (hdZ (hT.out.below h)) (hdZ (hR.out.below h)) hAT)
 have hrows:=hdZ (core_rows (t:=t) hd0)
 have hctl:=hdZ (fun l h1 h2=>coresText_len (t:=t) hd0 l h1 h2)
 have hshl:=shown_len hz
 obtain ⟨L,hL⟩:=nmZ (coresE docs t (a:Int))
 rw [hL.out] at hcores hrows hctl
 obtain ⟨h,hh⟩:∃z,holdsT docs d t=z:=⟨_,rfl⟩
 have hstep:Hid (∀b bw,isAt t.kind=b->(h==f.why)=bw->whyStep docs d f acc t=acc++if (!b&&bw)=true then [32,91]++shownT t++[93]++L.flatMap coreT else []):=hdZ fun b bw h1 h2=>by unfold whyStep whyP;rw [hfa,hL.out,hh,h1,h2]
 obtain ⟨acc9,hacc9⟩:=nmZ (whyStep docs d f acc t)
 rw [hacc9.out] at hstep ⊢
 rw [hh]
 obtain ⟨SH,hSH⟩:=nmZ (shownT t)
 have hshow2:Hid (∀W,Bz w0 W->Calls Tryz.prog 80 #[.agg t.cells] W fun e w'=>e=.returned (.string (mkB SH))/\Bz W w'):=hdZ fun W h=>by
  have:=hshow.out W h
  rw [<-hSH.out];exact this
 rw [hSH.out] at hstep hshl
 have hshz:(mkB SH).size<=36000:=by rw [mkB,size_list];exact hshl
 clear hshow hSH hacc9 hL
 obtain ⟨k,p,fx,x,n,A9,c,M⟩:=t
 simp only [Tree.cells,Tree.kind] at hia hshow2 hcores hstep ⊢
 obtain ⟨fp,fk,ff,fw⟩:=f
 simp only at hfa hstep hF
 subst hfa
 simp only
 obtain ⟨w1,hw1,hb1,-⟩:=newZ w 24 #[.int .i64 k,.int .i64 p,.string fx,.string x,.int .i64 n,.slice A9 M.length c]
 obtain ⟨gn,hgn⟩:=nmZ (w.heap.size)
 have e0:w.heap.size=gn:=hgn.out
 have hN1:Hid (Blk w1 gn 24 #[.int .i64 k,.int .i64 p,.string fx,.string x,.int .i64 n,.slice A9 M.length c]):=by rw [<-hw1.out,<-hgn.out];exact hdZ (Blk.new _ _ _)
 obtain ⟨q0,q1,q2,q3,q4,q5⟩:=cs6 hN1.out
 have hia1:=hdZ (hia.out w1)
 obtain ⟨b,hb⟩:∃b,isAt k=b:=⟨_,rfl⟩
 obtain ⟨bw,hbw⟩:∃b,(h==fw)=b:=⟨_,rfl⟩
 have hstep':=hdZ (hstep.out b bw hb hbw)
 rw [hb] at hia1
 clear hstep hia
 go_enter Tryz.func79,Tryz.ntmps79
 go_wp2_with (first | rw [hw1.out] | rw [e0])
 refine hia1.out.mono ?_
 rintro e w2 ⟨rfl,hb2⟩
 have hb12:=btY hb1 hb2
 have hN2:=kbY hN1 hb2
 have hS2:=hdZ (hS.out.on hb12.out)
 have hF2:=kbZ hF hb12
 have hFr2:Hid (LstFr w0.heap.size w w2):=hdZ ((lstGiver w0.heap.size).of hb12.out)
 have f3:w2.cell? ⟨gf,3,none⟩=some (.int .i64 fw):=hF2.out.cell 3
 clear q0 q1 q2 q3 q4 q5 hb2 hia1 e0 hN1 hb1 hw1
 cases b with
 | true =>
  have hs:Hid (acc9=acc):=by unfold Hid;rw [hstep'.out];simp
  go_wp2_with fail
  go_end0
  exact ⟨rfl,⟨by rw [hs.out];exact hS2.out,hF2.out⟩,hFr2.out⟩
 | false =>
 cases bw with
 | false =>
  have hs:Hid (acc9=acc):=by unfold Hid;rw [hstep'.out];simp
  go_wp2_with fail
  go_end0
  exact ⟨rfl,⟨by rw [hs.out];exact hS2.out,hF2.out⟩,hFr2.out⟩
 | true =>
 have hs:Hid (acc9=acc++([32,91]++SH++[93])++L.flatMap coreT):=by unfold Hid;rw [hstep'.out];simp
 obtain ⟨q0,q1,q2,q3,q4,q5⟩:=cs6 hN2.out
 have hsh2:=hdZ (hshow2.out w2 hS2.out.below)
 clear hstep' hshow2
 go_wp2_with fail
 refine hsh2.out.mono ?_
 rintro e w3 ⟨rfl,hb3⟩
 have hN3:=kbY hN2 hb3
 have hS3:=hdZ (hS2.out.on hb3)
 have hF3:=kbY hF2 hb3
 have hFr3:Hid (LstFr w0.heap.size w w3):=hdZ ((lstGiver w0.heap.size).trans hFr2.out ((lstGiver w0.heap.size).of hb3))
 have hwr3:Hid (Calls Tryz.prog 77 #[.pointer (some ⟨gb,0,none⟩),.string (⟨#[32,91]⟩++mkB SH++⟨#[93]⟩)] w3 fun e w'=>(∃n,e=.returned (.tuple #[.int .i64 n,.nilIface]))/\Below gb w3 w'/\Lib.OthersKept 5 (some gb) w3 w'/\Bld w' gb gb (acc++([32,91]++SH++[93]))):=by
  have hl:([32,91]++SH++[93]:List UInt8).length<=36003:=by simp only [List.length_append,List.length_cons,List.length_nil];omega
  have:=Sh.write_any gb gb acc ([32,91]++SH++[93]) w3 (hdZ hS3.out.bld) (by omega) (Nat.le_of_lt hS3.out.bld.lt)
  have e:(⟨#[32,91]⟩++mkB SH++⟨#[93]⟩:ByteArray)=⟨([32,91]++SH++[93]).toArray⟩:=by apply ByteArray.ext;simp [mkB]
  rw [e];exact this
 have hz3:(⟨#[32,91]⟩++mkB SH:ByteArray).size<=36002:=by rw [ByteArray.size_append];show 2+_<=_;omega
 clear q0 q1 q2 q3 q4 q5 hb3 hsh2 f3
 go_wp2_with fail
 refine hwr3.out.mono ?_
 rintro e w4 ⟨⟨n4,rfl⟩,hB4,hK4,hb4⟩
 have hS4:=hdZ (hS3.out.write hgb hB4 hK4 hb4)
 have hF4:=hdZ (blk_others hF3.out hK4 (blk_ne_bld hF3.out hS3.out.bld (by decide)) (by decide))
 have hN4:=hdZ (blk_others hN3.out hK4 (blk_ne_bld hN3.out hS3.out.bld (by decide)) (by decide))
 have hFr4:Hid (LstFr w0.heap.size w w4):=hdZ ((lstGiver w0.heap.size).trans hFr3.out (frame_write hS3.out.bld hgb hB4 hK4))
 obtain ⟨q0,q1,q2,q3,q4,q5⟩:=cs6 hN4.out
 have d4:w4.cell? ⟨g1,0,none⟩=some (.slice A nn cc):=hS4.out.docs.cell 0
 have f4:w4.cell? ⟨gf,0,none⟩=some (.int .i64 (a:Int)):=hF4.out.cell 0
 have hco:=hdZ (hcores.out w4 hS4.out.below)
 clear hB4 hK4 hb4 hwr3 hS3 hF3 hN3 hz3 hcores
 go_wp2_with fail
 refine hco.out.mono ?_
 rintro e w5 ⟨v5,rfl,hC5,hb5⟩
 have hS5:=hdZ (hS4.out.on hb5)
 have hF5:=kbY hF4 hb5
 have hFr5:Hid (LstFr w0.heap.size w w5):=hdZ ((lstGiver w0.heap.size).trans hFr4.out ((lstGiver w0.heap.size).of hb5))
 obtain ⟨m,hm⟩:=nmZ (L.length)
 obtain ⟨Ac,ccx,rfl⟩:∃Ac ccx,v5=.slice Ac m ccx:=by
  obtain ⟨vs,_,h2,_⟩:=hC5
  rw [hm.out] at h2
  exact own_form h2
 have hC5':=hdZ hC5
 obtain ⟨B5,hB5⟩:=nmZ (w4.heap.size)
 rw [hB5.out] at hC5'
 have hm5:m<=5000:=by have:=hrows.out.1;rw [hm.out] at this;exact this
 obtain ⟨acc1,hacc1⟩:∃z:List UInt8,Hid (acc++([32,91]++SH++[93])=z):=⟨_,hdZ rfl⟩
 rw [hacc1.out] at hS5 hs
 have hacl:acc1.length<=60000000040000:=by rw [<-hacc1.out];simp only [List.length_append,List.length_cons,List.length_nil];omega
 have hS50:Hid (WhyS w0 w5 C A nn cc g1 gb vF BF LF (acc1++(L.take 0).flatMap coreT)):=by rw [List.take_zero];simpa using hS5
 clear q0 q1 q2 q3 q4 q5 d4 f4 hb5 hC5 hco hS4 hF4 hN4 hFr4 hFr3 hFr2 hN2 hS2 hF2 hS5 hB5 hacc1
 go_wp2_with fail
 go_loopw [8,29] (fun _ i wr=>∃q:Nat,q<=m/\i=.int .i64 q/\Hid (WhyS w0 wr C A nn cc g1 gb vF BF LF (acc1++(L.take q).flatMap coreT))/\Hid (Blk wr gf 54 #[.int .i64 (a:Int),.int .i64 fk,.string ff,.int .i64 fw])/\Hid (CoresAt wr B5 (.slice Ac m ccx) L)/\Hid (LstFr w0.heap.size w wr)) (fun _ i _=>m-(intOf i).toNat)
 case atStart=>exact ⟨0,Nat.zero_le _,rfl,hS50,hF5,hC5',hFr5⟩
 case round =>
  clear hS50 hF5 hC5' hFr5
  obtain ⟨q,hq,rfl,hS6,hF6,hC6,hFr6⟩:=hrel
  by_cases hlt:q<m
  ·obtain ⟨pl,hpl⟩:∃pl,L[q]?=some pl:=⟨_,gZ (by have:=hm.out;omega)⟩
   obtain ⟨vs,hv1,hv2,hv3⟩:=hC6.out
   obtain ⟨y,hy⟩:∃y,vs[q]?=some y:=⟨_,gZ (by have:=hm.out;omega)⟩
   have hyr:=hv3 q pl y hpl hy
   obtain ⟨hp12,hpi⟩:=hrows.out.2 pl (mgZ hpl)
   have hjo:=hdZ (joined_any pl y B5 wr hp12 hpi (hdZ hyr) (hdZ (he.out.below hS6.out.below)))
   have hjl:=joinC_len hp12 fun i h=>by have:=hpi i h;omega
   obtain ⟨g,cap,hvA,hgB,hgl⟩:=own_formS hv2 (by have:=hm.out;omega)
   simp only [Value.slice.injEq] at hvA
   obtain ⟨rfl,-,rfl⟩:=hvA
   have hce:wr.cell? ⟨g,q,none⟩=some y:=by
    rw [hm.out] at hv2
    rw [hv2.cellAt q (by omega)]
    exact hy
   obtain ⟨PL,hPL⟩:=nmZ (pl.length)
   rw [hPL.out] at hyr
   obtain ⟨Ay,cy,rfl⟩:=own_form hyr
   have hsn:Hid ((L.take (q+1)).flatMap coreT=(L.take q).flatMap coreT++coreT pl):=by
    obtain ⟨hj,e⟩:=gsZ.1 hpl
    unfold Hid
    rw [List.take_succ_eq_append_getElem hj,e,List.flatMap_append]
    simp
   have hpart:=hctl.out (L.take q) (fun z hz=>List.mem_of_mem_take hz) (by rw [List.length_take];omega)
   obtain ⟨J,hJ⟩:=nmZ (joinC pl)
   rw [hJ.out] at hjo hjl
   have hsn2:Hid (coreT pl=[32,40]++J++[41]):=by unfold Hid coreT;rw [hJ.out]
   have hJz:(mkB J).size<=252:=by rw [mkB,size_list];exact hjl
   obtain ⟨i1,i2,hkm⟩:=inZ hlt
   clear hpl hv1 hv2 hv3 hy hyr hp12 hpi
   go_wp2_with fail
   refine hjo.out.mono ?_
   rintro e w7 ⟨rfl,hb7⟩
   have hS7:=hdZ (hS6.out.on hb7)
   have hF7:=kbY hF6 hb7
   have hC7:=hdZ (hC6.out.on hb7)
   have hFr7:Hid (LstFr w0.heap.size w w7):=hdZ ((lstGiver w0.heap.size).trans hFr6.out ((lstGiver w0.heap.size).of hb7))
   have hwr7:Hid (Calls Tryz.prog 77 #[.pointer (some ⟨gb,0,none⟩),.string (⟨#[32,40]⟩++mkB J++⟨#[41]⟩)] w7 fun e w'=>(∃n,e=.returned (.tuple #[.int .i64 n,.nilIface]))/\Below gb w7 w'/\Lib.OthersKept 5 (some gb) w7 w'/\Bld w' gb gb (acc1++(L.take (q+1)).flatMap coreT)):=by
    have hl:([32,40]++J++[41]:List UInt8).length<=255:=by simp only [List.length_append,List.length_cons,List.length_nil];omega
    have:=Sh.write_any gb gb (acc1++(L.take q).flatMap coreT) ([32,40]++J++[41]) w7 (hdZ hS7.out.bld) (by rw [List.length_append];omega) (Nat.le_of_lt hS7.out.bld.lt)
    have e:(⟨#[32,40]⟩++mkB J++⟨#[41]⟩:ByteArray)=⟨([32,40]++J++[41]).toArray⟩:=by apply ByteArray.ext;simp [mkB]
    rw [e,hsn.out,hsn2.out,<-List.append_assoc];exact this
   have hz7:(⟨#[32,40]⟩++mkB J:ByteArray).size<=254:=by rw [ByteArray.size_append];show 2+_<=_;omega
   clear hb7 hjo hce hsn hsn2 hpart
   go_wp2_with fail
   refine hwr7.out.mono ?_
   rintro e w8 ⟨⟨n8,rfl⟩,hB8,hK8,hb8⟩
   have hS8:=hdZ (hS7.out.write hgb hB8 hK8 hb8)
   have hF8:=hdZ (blk_others hF7.out hK8 (blk_ne_bld hF7.out hS7.out.bld (by decide)) (by decide))
   have hC8:=hdZ (cores_others hC7.out hS7.out.bld hK8)
   have hFr8:Hid (LstFr w0.heap.size w w8):=hdZ ((lstGiver w0.heap.size).trans hFr7.out (frame_write hS7.out.bld hgb hB8 hK8))
   clear hB8 hK8 hb8 hwr7 hz7
   go_wp2_with fail
   go_roundw
   case rel=>exact ⟨q+1,by omega,by go_num,hS8,hF8,hC8,hFr8⟩
   case measure=>simp [intOf];omega
  ·have hkm:decide (q<m)=false:=dfZ hlt
   rw [List.take_of_length_le (by rw [hm.out];omega)] at hS6
   go_wp2_with fail
   go_end0
   exact ⟨rfl,⟨by rw [hs.out];exact hS6.out,hF6.out⟩,hFr6.out⟩
theorem give_why (w0:World) (A:Option Addr) (nn cc:Nat) (docs:List Pap) (hR:Hid (Room w0 A nn docs)) (he:Hid (TabE w0)) (f:Flt) (a:Nat) (hfa:f.paper=(a:Int)) (d:Pap) (hd0:docs[a]?=some d) (C:Array Value) (g1 gb gf:Nat) (hgb:w0.heap.size<=gb) (vF:Value) (BF:Nat) (LF:List Flt) :
  GiveS w0 w0.heap.size docs d (LstFr w0.heap.size) (fun (acc:List UInt8) W=>WhyS w0 W C A nn cc g1 gb vF BF LF acc/\Blk W gf 54 #[.int .i64 (a:Int),.int .i64 f.kind,.string f.field,.int .i64 f.why]) (fun acc=>acc.length<=60000000000000) (fun t=>(atomsT t).length<=60/\Sh.szR (Sh.strip (shT t))<=36000) (whyStep docs d f) 79 #[.pointer (some ⟨gf,0,none⟩),.pointer (some ⟨gb,0,none⟩),.pointer (some ⟨g1,0,none⟩)] where
 giver:=lstGiver _
 inv:=fun s a b ⟨h,hd⟩ hb=>⟨h.on hb,hd.below hb hd.lt⟩
 call:=fun s t W hT hTt _ hW hok ⟨hL,hD⟩=>why1_any t A nn cc docs f a hfa d hd0 w0 W C g1 gb gf hgb vF BF LF s (hdZ hT) hR he hTt.1 hTt.2 (hdZ hL) (hdZ hD) hok
 enters:=enters_of Tryz.func79 (by kernel_rfl) rfl
end Go.Proofs.YtdjmckjbibfecaaGreatDoor

import Derived.Test.YtdjmckjbibfecaaGreatDoorFv
import Derived.Test.YtdjmckjbibfecaaGreatDoorQShelf
namespace Go.Proofs.YtdjmckjbibfecaaGreatDoor
open Go Go.RowKit Go.BigFrame Go.Maps
structure LstS (AF:Option Addr) (LF:List Flt) (W:World) (B gl gf:Nat) (C:Array Value) (v:Value) (L:List Flt):Prop where
 rest:FaultsAt W AF LF
 off:LF≠[]->∀b o,AF=some ⟨b,o,none⟩->v.ownBlock≠some b/\gl≠b
 box:Blk W gl 47 #[v]
 row:W.ownsRow B 54 4 v L.length (fcells L)
 fault:Blk W gf 54 C
 apart:v.ownBlock≠some gf
def LstFr (base:Nat) (a b:World):Prop:=(base<=a.heap.size->Below base a b)/\a.heap.size<=b.heap.size/\∀(g:Nat) (t:TypeId) (cs:Array Value),Blk a g t cs->boxT t->Blk b g t cs
theorem lstGiver (base:Nat):Giver base (LstFr base) where
 refl W:=⟨fun _=>Below.refl _ W,Nat.le_refl _,fun _ _ _ h _=>h⟩
 trans h k:=⟨fun hb=>(h.1 hb).trans (k.1 (Nat.le_trans hb h.2.1)),Nat.le_trans h.2.1 k.2.1,fun g t cs hB ht=>k.2.2 g t cs (h.2.2 g t cs hB ht) ht⟩
 of h:=⟨fun hb=>h.mono hb,h.size,fun _ _ _ hB _=>hB.below h hB.lt⟩
 low h hb:=h.1 hb
 size h:=h.2.1
 blk h hb ht:=h.2.2 _ _ _ hb ht
theorem LstS.on {AF:Option Addr} {LF:List Flt} {W W':World} {B gl gf:Nat} {C:Array Value} {v:Value} {L:List Flt} (h:LstS AF LF W B gl gf C v L) (hb:Bz W W'):LstS AF LF W' B gl gf C v L :=
 ⟨h.rest.below hb,h.off,h.box.below hb h.box.lt,own_below h.row hb,h.fault.below hb h.fault.lt,h.apart⟩
theorem box_ne {t:TypeId} (h:boxT t):t≠54/\t≠47:=by
 rcases h with rfl | rfl | rfl | rfl | rfl | rfl<;>decide
theorem LstS.put {AF:Option Addr} {LF:List Flt} {W W3 W5:World} {B gl gf:Nat} {C:Array Value} {v v':Value} {L M:List Flt} (h:LstS AF LF W B gl gf C v L) (hg:W.grownBy W3 v.ownBlock) (hv:v'.ownBlock=v.ownBlock\/v'.ownBlock=some W.heap.size)
  (ho:W3.ownsRow B 54 4 v' (L.length+M.length) (fcells L++fcells M)) (hb:Blk W5 gl 47 #[v']) (hbut:But gl W3 W5):LstS AF LF W5 B gl gf C v' (L++M):=by
 have hl3:=Blk.kept h.box hg (own_blk_ne h.row h.box (by decide))
 have hf3:=Blk.kept h.fault hg h.apart
 have hrb:∀k x,LF[k]?=some x->∃b o,AF=some ⟨b,o,none⟩/\b<W.heap.size/\v.ownBlock≠some b/\gl≠b:=fun k x hx=>by
  obtain ⟨b,o,e,h0,_⟩:=h.rest k x hx
  obtain ⟨h1,h2⟩:=h.off (by rintro rfl;simp at hx) b o e
  exact ⟨b,o,e,World.block_lt_of_cell? W _ h0,h1,h2⟩
 refine ⟨fun k x hx=>?_,fun hne b o e=>?_,hb,?_,hf3.but hbut (Blk.ne_ hf3 hl3 (by decide)),?_⟩
 ·obtain ⟨b,o,e,hc⟩:=h.rest k x hx
  obtain ⟨b',o',e',hlt,h1,h2⟩:=hrb k x hx
  rw [e] at e'
  simp only [Option.some.injEq,Addr.mk.injEq,and_true] at e'
  obtain ⟨rfl,rfl⟩:=e'
  have hk:∀p:Addr,p.block=b->W5.cell? p=W.cell? p:=fun p hp=>by
   rw [World.cell?_of_block (w:=W3) (hbut.block p.block (by rw [hp];exact Nat.lt_of_lt_of_le hlt hg.size) (by rw [hp];exact fun e=>h2 e.symm))]
   exact hg.cell_far p (by rw [hp];exact hlt) (by rw [hp];exact fun e=>h1 e.symm)
  refine ⟨b,o,e,?_⟩
  simpa only [hk ⟨b,_,none⟩ rfl] using hc
 ·obtain ⟨x,hx⟩:∃x,LF[0]?=some x:=⟨_,gZ (List.length_pos_iff.2 hne)⟩
  obtain ⟨b',o',e',hlt,h1,h2⟩:=hrb 0 x hx
  rw [e] at e'
  simp only [Option.some.injEq,Addr.mk.injEq,and_true] at e'
  obtain ⟨rfl,rfl⟩:=e'
  refine ⟨?_,h2⟩
  rcases hv with e1 | e1
  ·rw [e1];exact h1
  ·rw [e1]
   intro h9
   injection h9 with h9
   omega
 ·have:=own_but ho hbut hl3 (by decide)
  rw [List.length_append]
  unfold fcells at this ⊢
  rw [List.flatMap_append]
  exact this
 ·rcases hv with e | e
  ·rw [e];exact h.apart
  ·rw [e]
   have:=h.fault.lt
   intro h9
   injection h9 with h9
   omega
theorem LstFr.put {base:Nat} {W W3 W5:World} {B gl:Nat} {v:Value} {n:Nat} {xs:List Value} (hrow:W.ownsRow B 54 4 v n xs) (hbox:Blk W gl 47 #[v]) (hB:base<=B) (hgl:base<=gl) (hg:W.grownBy W3 v.ownBlock) (hbut:But gl W3 W5):LstFr base W W5:=by
 have hl3:=Blk.kept hbox hg (own_blk_ne hrow hbox (by decide))
 refine ⟨fun hb=>?_,Nat.le_trans hg.size hbut.size,fun g t cs hblk ht=>?_⟩
 ·have h1:Below base W W3:=(Below.refl base W).grown hg hb (fun j hj=>Nat.le_trans hB (hrow.lt j hj).1)
  exact h1.trans ⟨hbut.os,hbut.tape,hbut.output,hbut.size,fun k hk=>hbut.block k (Nat.lt_of_lt_of_le hk (Nat.le_trans hb hg.size)) (by omega)⟩
 ·have h3:=Blk.kept hblk hg (own_blk_ne hrow hblk (box_ne ht).1.symm)
  exact h3.but hbut (Blk.ne_ h3 hl3 (box_ne ht).2)
theorem failL_len {needs:List Nd} {docs:List Pap} {d:Pap} (h:FewParts needs):(failL needs docs d).length<=720:=by
 have:∀l:List Nd,(∀x∈l,(partsT x.rule).length<=60)->(l.flatMap fun x=>if x.kind=d.kind then failT docs d (partsT x.rule) else []).length<=60*l.length:=by
  intro l
  induction l with
  | nil=>intro _;simp
  | cons x l ih =>
   intro h
   have h1:=ih fun y hy=>h y (by simp [hy])
   have h2:=h x (by simp)
   rw [List.flatMap_cons,List.length_append,List.length_cons]
   have h3:(if x.kind=d.kind then failT docs d (partsT x.rule) else []).length<=60:=by
    split
    ·exact Nat.le_trans (List.length_filter_le _ _) h2
    ·simp
   omega
 have h4:=this needs h.2
 have h5:=h.1
 unfold failL
 omega
structure LeaS (w W:World) (C:Array Value) (A:Option Addr) (nn cc g1 g2:Nat) (AF:Option Addr) (LF:List Flt) (v:Value) (M:List Flt):Prop where
 below:Bz w W
 cred:Blk W w.heap.size 46 C
 docs:Blk W g1 25 #[.slice A nn cc]
 box:Blk W g2 47 #[v]
 row:W.ownsRow w.heap.size 54 4 v M.length (fcells M)
 rest:FaultsAt W AF LF
 off:LF≠[]->∀b o,AF=some ⟨b,o,none⟩->v.ownBlock≠some b/\g2≠b
theorem LeaS.on {w W W':World} {C:Array Value} {A:Option Addr} {nn cc g1 g2:Nat} {AF:Option Addr} {LF:List Flt} {v:Value} {M:List Flt} (h:LeaS w W C A nn cc g1 g2 AF LF v M) (hb:Bz W W'):LeaS w W' C A nn cc g1 g2 AF LF v M :=
 ⟨h.below.trans (hb.mono h.below.size),h.cred.below hb h.cred.lt,h.docs.below hb h.docs.lt,h.box.below hb h.box.lt,own_below h.row hb,h.rest.below hb,h.off⟩
set_option maxRecDepth 100000
set_option maxHeartbeats 1600000
theorem coarse_any (f:Flt) (A:Option Addr) (n c:Nat) (w:World) :
  Calls Tryz.prog 68 #[f.agg,.slice A n c] w fun e w'=>e=.returned (.bool (wholeB n f))/\Bz w w':=by
 obtain ⟨fp,fk,ff,fw⟩:=f
 simp only [Flt.agg]
 obtain ⟨w0,hw0,hb0,hF0⟩:=newZ w 54 #[.int .i64 fp,.int .i64 fk,.string ff,.int .i64 fw]
 have q0:w0.cell? ⟨w.heap.size,0,none⟩=some (.int .i64 fp):=hF0.out.cell 0
 have q2:w0.cell? ⟨w.heap.size,2,none⟩=some (.string ff):=hF0.out.cell 2
 obtain ⟨W,hW⟩:=nmZ (wholeB n ⟨fp,fk,ff,fw⟩)
 rw [hW.out]
 have hW':Hid (W=(decide (0<=fp)&&decide (fp<(n:Int))&&ff.toList.isEmpty)):=hW.out.symm
 clear hW
 obtain ⟨b1,hb1⟩:∃b,decide (0<=fp)=b:=⟨_,rfl⟩
 obtain ⟨b2,hb2⟩:∃b,decide (fp<(n:Int))=b:=⟨_,rfl⟩
 obtain ⟨b3,hb3⟩:∃b,ff.toList.isEmpty=b:=⟨_,rfl⟩
 rw [hb1,hb2,hb3] at hW'
 go_enter Tryz.func68,Tryz.ntmps68
 cases b1<;>cases b2
 all_goals
  go_wp2_with (rw [hw0.out])
  go_ret
  exact ⟨retBl (by rw [hW'.out,<-hb3];simp),hb0.out⟩
set_option maxHeartbeats 3200000
def lightB (needs:List Nd):Bool:=needs.all fun x=>decide ((atomsT x.rule).length<=6)
theorem light_any (C:Array Value) (nA:Option Addr) (nl nc:Nat) (needs:List Nd) (w:World) (hC17:C[17]?=some (.slice nA nl nc)) (hnl:Hid (needs.length=nl)) (hl:nl<=12) (hN:Hid (NdsAt w nA needs)) (hsz:Hid (∀x∈needs,(atomsT x.rule).length<=60)) :
  Calls Tryz.prog 28 #[.agg C] w fun e w'=>e=.returned (.bool (lightB needs))/\Bz w w':=by
 have hb0:Bz w (w.alloc (.cells C 46)):=(Below.refl _ w).alloc leZ _
 have hblk:=hdZ (Blk.new w 46 C)
 have hb0':=hdZ hb0
 have hC':=hdZ hC17
 have c17:(w.alloc (.cells C 46)).cell? ⟨w.heap.size,17,none⟩=some (.slice nA nl nc):=by rw [hblk.out.cell];exact hC17
 clear hb0 hC17
 go_enter Tryz.func28,Tryz.ntmps28
 go_wp2_with fail
 go_loopw [3] (fun j wr=>∃q:Nat,q<=nl/\j=.int .i64 q/\Hid (lightB needs=(needs.drop q).all fun x=>decide ((atomsT x.rule).length<=6))/\Hid (Bz w wr)/\Hid (Blk wr w.heap.size 46 C)) (fun j _=>nl-(intOf j).toNat)
 case atStart=>exact ⟨0,Nat.zero_le _,rfl,rfl,hb0'.out,hblk.out⟩
 case round =>
  obtain ⟨q,hq,rfl,hsame,hB,hbk⟩:=hrel
  have e17:wr.cell? ⟨w.heap.size,17,none⟩=some (.slice nA nl nc):=by rw [hbk.out.cell];exact hC'.out
  by_cases hlt:q<nl
  ·obtain ⟨x,hx⟩:∃x,needs[q]?=some x:=⟨_,gZ (by have:=hnl.out;omega)⟩
   have hx':=hdZ hx
   have h60:=hsz.out x (mgZ hx)
   clear hx
   obtain ⟨_,hT,_,b,off,rfl,h0,h1,h2⟩:=(hN.out.below hB.out) q x hx'.out
   obtain ⟨kd,ct,t⟩:=x
   simp only at hT h60
   have hat:=hdZ (atomsR_any t wr (hdZ hT) (by omega))
   have hst1:Hid ((atomsT t).length<=6->Hid (lightB needs=(needs.drop (q+1)).all fun x=>decide ((atomsT x.rule).length<=6))):=fun h=>all_yes hsame.out hx'.out (by simpa using h)
   have hst2:Hid (¬(atomsT t).length<=6->lightB needs=false):=fun h=>all_no hsame.out hx'.out (by simpa using h)
   obtain ⟨m,hm⟩:=nmZ ((atomsT t).length)
   rw [hm.out] at hat hst1 hst2 h60
   obtain ⟨tk,tp,tf,tx,tn,tA,tc,tL⟩:=t
   simp only [Tree.cells] at h0 h1 h2 hat
   obtain ⟨g0,g1,g2,g3,g4,g5⟩:=h2
   clear hT
   go_wp2_with fail
   refine hat.out.mono ?_
   rintro e w1 ⟨v1,rfl,ho1,hb1⟩
   obtain ⟨A1,c1,rfl⟩:=own_form ho1
   have hB1:=hdZ (hB.out.trans (hb1.mono hB.out.size))
   have hbk1:=kbY hbk hb1
   clear ho1 hb1 hat g0 g1 g2 g3 g4 g5 h0 h1 e17
   by_cases h6:m<=6
   ·have d1:decide ((6:Int)<(m:Int))=false:=dfZ (by omega)
    have d2:decide (6<m)=false:=dfZ (by omega)
    go_wp2_with fail
    go_roundw
    case rel=>exact ⟨q+1,by omega,by go_num,(hst1.out h6).out,hB1,hbk1⟩
    case measure=>simp [intOf];omega
   ·have d1:decide ((6:Int)<(m:Int))=true:=dtZ (by omega)
    have d2:decide (6<m)=true:=dtZ (by omega)
    go_wp2_with fail
    go_ret
    exact ⟨by rw [hst2.out h6]<;>rfl,hB1.out⟩
  ·have hend:lightB needs=true:=all_end hsame.out (by rw [hnl.out];omega)
   go_wp2_with fail
   go_ret
   exact ⟨by rw [hend]<;>rfl,hB.out⟩
set_option maxHeartbeats 6400000
structure FlS (w W:World) (C:Array Value) (A1:Option Addr) (P:List Tree) (v:Value) (n:Nat) (L:List Tree):Prop where
 below:Bz w W
 row:W.ownsRow w.heap.size 24 6 v n (tcells L)
 cred:Blk W w.heap.size 46 C
 parts:∀r t,P[r]?=some t->CellsAt W A1 r t
 off:P≠[]->∀b o,A1=some ⟨b,o,none⟩->v.ownBlock≠some b
theorem cellsAt_in {W:World} {A1:Option Addr} {r:Nat} {t:Tree} (h:CellsAt W A1 r t):∃b o,A1=some ⟨b,o,none⟩/\b<W.heap.size:=by
 obtain ⟨k,p,f,x,n,A,c,L⟩:=t
 obtain ⟨b,o,e,h0,_⟩:=h
 exact ⟨b,o,e,World.block_lt_of_cell? W _ h0⟩
theorem cellsAt_far {W W':World} {A1:Option Addr} {r:Nat} {t:Tree} {g:Option Nat} (h:CellsAt W A1 r t) (hg:W.grownBy W' g) (hne:∀b o,A1=some ⟨b,o,none⟩->g≠some b):CellsAt W' A1 r t:=by
 obtain ⟨k,p,f,x,n,A,c,L⟩:=t
 obtain ⟨b,o,e,h0,h1,h2,h3,h4,h5⟩:=h
 have hlt:=World.block_lt_of_cell? W _ h0
 have hk:∀q:Addr,q.block=b->W'.cell? q=W.cell? q:=fun q hq=>hg.cell_far q (by rw [hq];exact hlt) (by rw [hq];exact fun e9=>hne b o e e9.symm)
 exact ⟨b,o,e,by rw [hk _ rfl];exact h0,by rw [hk _ rfl];exact h1,by rw [hk _ rfl];exact h2,by rw [hk _ rfl];exact h3,by rw [hk _ rfl];exact h4,by rw [hk _ rfl];exact h5⟩
theorem FlS.on {w W W':World} {C:Array Value} {A1:Option Addr} {P L:List Tree} {v:Value} {n:Nat} (h:FlS w W C A1 P v n L) (hb:Bz W W'):FlS w W' C A1 P v n L :=
 ⟨h.below.trans (hb.mono h.below.size),own_below h.row hb,h.cred.below hb h.cred.lt,fun r t ht=>(h.parts r t ht).below hb,h.off⟩
theorem FlS.put {w W W':World} {C:Array Value} {A1:Option Addr} {P L L':List Tree} {v v':Value} {n n':Nat} (h:FlS w W C A1 P v n L) (hg:W.grownBy W' v.ownBlock) (hv:v'.ownBlock=v.ownBlock\/v'.ownBlock=some W.heap.size) (ho:W'.ownsRow w.heap.size 24 6 v' n' (tcells L')):FlS w W' C A1 P v' n' L':=by
 refine ⟨h.below.grown hg h.below.size (fun j hj=>(h.row.lt j hj).1),ho,Blk.kept h.cred hg (own_blk_ne h.row h.cred (by decide)),fun r t ht=>?_,fun hne b o e=>?_⟩
 ·exact cellsAt_far (h.parts r t ht) hg fun b o e=>h.off (by rintro rfl;simp at ht) b o e
 ·rcases hv with e1 | e1
  ·rw [e1];exact h.off hne b o e
  ·rw [e1]
   obtain ⟨x,hx⟩:∃x,P[0]?=some x:=⟨_,gZ (List.length_pos_iff.2 hne)⟩
   obtain ⟨b',o',e',hlt⟩:=cellsAt_in (h.parts 0 x hx)
   rw [e] at e'
   simp only [Option.some.injEq,Addr.mk.injEq,and_true] at e'
   obtain ⟨rfl,rfl⟩:=e'
   intro h9
   injection h9 with h9
   omega
theorem failT_snoc {docs:List Pap} {d:Pap} {P:List Tree} {k:Nat} {t:Tree} (h:P[k]?=some t):failT docs d (P.take (k+1))=failT docs d (P.take k)++(if holdsT docs d t=0 then [] else [t]):=by
 unfold failT
 rw [List.take_add_one,h,List.filter_append]
 refine congrArg _ ?_
 by_cases h0:holdsT docs d t=0<;>simp [h0]
theorem failR_any (C:Array Value) (nA:Option Addr) (nl nc:Nat) (needs:List Nd) (hC17:Hid (C[17]?=some (.slice nA nl nc))) (hnl:Hid (needs.length=nl)) (A:Option Addr) (nn cc:Nat) (docs:List Pap) (a:Nat) (d:Pap) (hd:Hid (docs[a]?=some d)) (w:World)
  (hN:Hid (NdsAt w nA needs)) (hR:Hid (Room w A nn docs)) (hSm:Hid (∀x∈needs,SmallT x.rule)) (hFP:Hid (FewParts needs)) :
  Calls Tryz.prog 69 #[.agg C,.slice A nn cc,.int .i64 (a:Int)] w fun e w'=>∃v,e=.returned v/\w'.ownsRow w.heap.size 24 6 v (failL needs docs d).length (tcells (failL needs docs d))/\Bz w w':=by
 obtain ⟨iN,iNi,iN0,iN1,iN2⟩:=info_parts Tryz.info24
 have hat:=hdZ hR.out.at_
 have hnl12:nl<=12:=by have:=hFP.out.1;have:=hnl.out;omega
 have hlt9:a<nn:=by have:=(gsZ.1 hd.out).1;have:=hR.out.len;omega
 have hnn9:=hR.out.most
 obtain ⟨w1,hw1⟩:=nmZ ((w.alloc (.cells C 46)).alloc (.cells #[] 24))
 have hs1:(w.alloc (.cells C 46)).heap.size=w.heap.size+1:=by simp
 have hK1:Hid (Blk w1 w.heap.size 46 C):=by rw [<-hw1.out];exact hdZ ((Blk.new _ _ _).alloc _)
 have ho1:Hid (w1.ownsRow w.heap.size 24 6 (.slice (some ⟨w.heap.size+1,0,none⟩) 0 0) 0 (tcells [])):=by
  rw [<-hw1.out,<-hs1]
  exact hdZ (own_mono (own_new _ 24 6) (by simp))
 have hb1:Hid (Bz w w1):=by
  rw [<-hw1.out]
  have h1:=(Below.refl w.heap.size w).alloc leZ (.cells C 46)
  exact h1.alloc h1.size _
 have hF0:failL (needs.take 0) docs d=[]:=by rw [List.take_zero];rfl
 have c17:w1.cell? ⟨w.heap.size,17,none⟩=some (.slice nA nl nc):=(hK1.out.cell 17).trans hC17.out
 go_enter Tryz.func69,Tryz.ntmps69
 go_wp2_with (first | rw [hw1.out] | rw [hs1])
 clear c17
 go_loopw [7,8] (fun v i wr=>∃q:Nat,q<=nl/\i=.int .i64 q/\Hid (wr.ownsRow w.heap.size 24 6 v (failL (needs.take q) docs d).length (tcells (failL (needs.take q) docs d)))/\Hid (Bz w wr)/\Hid (Blk wr w.heap.size 46 C)) (fun _ i _=>nl-(intOf i).toNat)
 case atStart=>exact ⟨0,Nat.zero_le _,rfl,by rw [hF0];exact ho1,hb1,hK1⟩
 case round =>
  clear ho1 hb1 hK1 hw1 hs1 hF0
  obtain ⟨q,hq,rfl,hown,hB,hK⟩:=hrel
  have c17:wr.cell? ⟨w.heap.size,17,none⟩=some (.slice nA nl nc):=(hK.out.cell 17).trans hC17.out
  by_cases hlt:q<nl
  ·skip
   obtain ⟨x,hx⟩:∃x,needs[q]?=some x:=⟨_,gZ (by have:=hnl.out;omega)⟩
   have hTx0:=(hN.out q x hx).2.1
   obtain ⟨_,hTx,_,b,off,rfl,h0,h1,h2⟩:=(hN.out.below hB.out) q x hx
   obtain ⟨b3,f3,rfl,d0,_⟩:=(hat.out.below hB.out) a d hd.out
   have hsn:=hdZ (failL_snoc (docs:=docs) (d:=d) hx)
   have hmem:=mgZ hx
   have hP60:Hid ((partsT x.rule).length<=60):=hdZ (hFP.out.2 x hmem)
   have hSx:=hdZ (hSm.out x hmem)
   have hFl:Hid ((failL (needs.take q) docs d).length<=720):=hdZ (failL_len ⟨by rw [List.length_take];have:=hFP.out.1;omega,fun y hy=>hFP.out.2 y (List.mem_of_mem_take hy)⟩)
   obtain ⟨F,hF⟩:=nmZ (failL (needs.take q) docs d)
   rw [hF.out] at hown hsn hFl
   have hTx':=hdZ hTx
   have i1:(q:Int)<(nl:Int):=by omega
   have i2:(0:Int)<=(q:Int):=by omega
   have i3:(a:Int)<(nn:Int):=by omega
   have i4:(0:Int)<=(a:Int):=by omega
   have hkm:decide (q<nl)=true:=dtZ hlt
   have hpa:=hdZ (fun n=>rparts_any x.rule (wr.drewN n) (hdZ (hTx'.out.below (below_drewN (Below.refl _ _) n))) (hdZ (by have:=hP60.out;omega)))
   have hpt:=hdZ (fun u (hu:u∈partsT x.rule) W (hW:Bz w W)=>stands_in (some ⟨b3,f3,none⟩) nn cc docs a d hd u W (hdZ (parts_all x.rule hSx.out u hu)) (hdZ ((parts_tree x.rule hTx0 u hu).below hW)) (hdZ (hR.out.below hW)))
   clear hx hmem hTx hTx0
   obtain ⟨xk,xc,rule⟩:=x
   obtain ⟨P,hPd⟩:=nmZ (partsT rule)
   simp only at hsn hP60 hpa hpt h0 h1 h2 hSx hTx'
   rw [hPd.out] at hsn hP60 hpa hpt
   obtain ⟨tk,tp,tf,tx,tn,tA,tc,tL⟩:=rule
   simp only [Tree.cells] at hpa h0 h1 h2
   obtain ⟨h2,h3,h4,h5,h6,h7⟩:=h2
   obtain ⟨dk,hdk⟩:∃z,d.kind=z:=⟨_,rfl⟩
   rw [hdk] at hsn d0
   by_cases hk:xk=dk
   ·subst hk
    have z1:(xk != xk)=false:=by simp
    rw [if_pos rfl] at hsn
    clear hSx hTx'
    go_wp2_with fail
    go_quiet (fail)
    go_wp2_with fail
    refine (hpa.out _).mono ?_
    rintro e w5 ⟨v5,rfl,hb5,ho5⟩
    obtain ⟨A1,c1,rfl,hcA⟩:=own_trees ho5 rfl
    have hB5:Hid (Bz w w5):=(below_drewN hB.out _).trans (hb5.mono (below_drewN hB.out _).size)
    have hown5:=hdZ (own_below (own_below hown.out (below_drewN (Below.refl _ _) _)) hb5)
    have hS5:Hid (FlS w w5 C A1 P u7 (F.length+(failT docs d (P.take 0)).length) (F++failT docs d (P.take 0))):=by
     rw [List.take_zero,show failT docs d []=[] from rfl,List.append_nil]
     refine hdZ ⟨hB5.out,hown5.out,(hK.out.below (below_drewN (Below.refl _ _) _) hK.out.lt).below hb5 (hK.out.below (below_drewN (Below.refl _ _) _) hK.out.lt).lt,hcA,fun hne b o e h9=>?_⟩
     obtain ⟨g',c',e',h1',_⟩:=own_formS ho5 (List.length_pos_iff.2 hne)
     rw [e] at e'
     simp only [Value.slice.injEq,Option.some.injEq,Addr.mk.injEq,and_true,true_and] at e'
     have h3':=(hown.out.lt _ h9).2
     have h4':∀n,(wr.drewN n).heap.size=wr.heap.size:=fun _=>rfl
     rw [h4'] at h1'
     omega
    obtain ⟨np,hnp⟩:=nmZ (P.length)
    rw [hnp.out] at hP60 ⊢
    clear hb5 ho5 hcA hB5 hown5 hown hB hK c17 h0 h1 h2 h3 h4 h5 h6 h7 d0 hpa
    go_wp2_with fail
    go_loopw [7,10] (fun v i wx=>∃k:Nat,k<=np/\i=.int .i64 k/\Hid (FlS w wx C A1 P v (F.length+(failT docs d (P.take k)).length) (F++failT docs d (P.take k)))) (fun _ i _=>np-(intOf i).toNat)
    case atStart=>exact ⟨0,Nat.zero_le _,rfl,hS5⟩
    case round =>
     clear hS5
     obtain ⟨k,hk,rfl,hS⟩:=hrel
     by_cases hkn:k<np
     ·skip
      obtain ⟨t,ht⟩:∃t,P[k]?=some t:=⟨_,gZ (by have:=hnp.out;omega)⟩
      have hcl:=hS.out.parts k t ht
      have hst:=hdZ (hpt.out t (mgZ ht) wr hS.out.below)
      have hsk:=hdZ (failT_snoc (docs:=docs) (d:=d) ht)
      have hle:Hid ((failT docs d (P.take k)).length<=60):=hdZ (by
       have h1:=List.length_filter_le (fun u=>decide (holdsT docs d u≠0)) (P.take k)
       rw [List.length_take] at h1
       have h2:=hP60.out
       unfold failT
       omega)
      have hcA:=hdZ (fun W (h:FlS w W C A1 P u7 (F.length+(failT docs d (P.take k)).length) (F++failT docs d (P.take k)))=>h.parts k t ht)
      obtain ⟨G,hG⟩:=nmZ (failT docs d (P.take k))
      rw [hG.out] at hS hsk hle hcA
      obtain ⟨y,hy⟩:∃y,holdsT docs d t=y:=⟨_,rfl⟩
      rw [hy] at hst hsk
      have hone:=hdZ (tcells_one [t])
      have htl:Hid (tcells ((F++G)++[t])=tcells (F++G)++t.cells.toList):=hdZ (by rw [tcells_app];simp [tcells])
      have ht1:Hid (tcells [t]=t.cells.toList):=hdZ (by simp [tcells])
      rw [ht1.out] at hone
      obtain ⟨T,hT⟩:=nmZ (t)
      clear ht hy ht1
      obtain ⟨sk,sp,sf,sx,sn,sA,sc,sL⟩:=t
      rw [hT.out] at hsk
      simp only [Tree.cells] at hst hone htl
      rw [hT.out] at htl
      have hcA':Hid (∀W,FlS w W C A1 P u7 (F.length+G.length) (F++G)->CellsAt W A1 k (.mk sk sp sf sx sn sA sc sL)):=hcA
      obtain ⟨b,off,rfl,g0,g1,g2,g3,g4,g5⟩:=hcl
      have hnp60:np<=60:=hP60.out
      obtain ⟨j1,j2,hkm2⟩:=inZ hkn
      clear hcA hT
      go_wp2_with fail
      refine hst.out.mono ?_
      rintro e w6 ⟨rfl,hb6⟩
      have hS6:=hdZ (hS.out.on hb6)
      obtain ⟨b',off',e',g0',g1',g2',g3',g4',g5'⟩:=hcA'.out w6 hS6.out
      obtain ⟨rfl,rfl⟩:b=b'/\off=off':=by simpa using e'
      clear hb6 hst g0 g1 g2 g3 g4 g5 e' hS hcA'
      by_cases hy0:y=0
      ·have z2:(y != 0)=false:=by simp [hy0]
       rw [if_pos hy0,List.append_nil] at hsk
       go_wp2_with fail
       go_roundw
       case rel=>exact ⟨k+1,by omega,by go_num,by rw [hsk.out];exact hS6⟩
       case measure=>simp [intOf];omega
      ·have z2:(y != 0)=true:=by simpa using hy0
       rw [if_neg hy0] at hsk
       obtain ⟨w7,hw7,hb7,-⟩:=newZ w6 24 #[.int .i64 sk,.int .i64 sp,.string sf,.string sx,.int .i64 sn,.slice sA sL.length sc]
       have hblk:Hid (Reads w7 w7.heap.size 6 (some ⟨w6.heap.size,0,none⟩) 1 (#[.int .i64 sk,.int .i64 sp,.string sf,.string sx,.int .i64 sn,.slice sA sL.length sc]:Array Value).toList):=by rw [<-hw7.out];exact hdZ (blk_reads (Blk.new w6 24 #[.int .i64 sk,.int .i64 sp,.string sf,.string sx,.int .i64 sn,.slice sA sL.length sc]) 6 1 rfl)
       have hS7:=hdZ (hS6.out.on hb7.out)
       obtain ⟨m,hm⟩:=nmZ (F.length+G.length)
       have hm1:m<=780:=by have:=hm.out;have:=hle.out;have:=hFl.out;omega
       rw [hm.out] at hS7
       have s1:Hid (m+1<=maxLen):=by unfold Hid maxLen;omega
       have s2:Hid ((m+1)*80<=140737488355328):=by unfold Hid;omega
       have s3:=hdZ hS7.out.below.size
       have hput:Hid (∀v8 w8,w8.ownsRow w.heap.size 24 6 v8 (m+1) (tcells (F++G)++(#[.int .i64 sk,.int .i64 sp,.string sf,.string sx,.int .i64 sn,.slice sA sL.length sc]:Array Value).toList)->w7.grownBy w8 u7.ownBlock->(v8.ownBlock=u7.ownBlock\/v8.ownBlock=some w7.heap.size)->FlS w w8 C (some ⟨b,off,none⟩) P v8 (F.length+(G++[T]).length) (F++(G++[T]))):=hdZ fun v8 w8 ho hg hv=>by
        rw [<-htl.out,List.append_assoc] at ho
        have e9:F.length+(G++[T]).length=m+1:=by rw [List.length_append];have:=hm.out;simp;omega
        rw [e9]
        exact hS7.out.put hg hv ho
       clear hb7 hS6
       go_wp2_with (first | rw [hw7.out] | (at_builtin;go_must (refine wpList_append_any _ rfl _ _ 22 rfl w.heap.size 24 iN _ 6 80 Tryz.underlying22 iNi iN0 iN1 iN2 rfl (by decide) _ m (tcells (F++G)) rfl hS7.out.row _ (some ⟨w6.heap.size,0,none⟩) 1 1 (#[.int .i64 sk,.int .i64 sp,.string sf,.string sx,.int .i64 sn,.slice sA sL.length sc]:Array Value).toList rfl hblk.out hone.out s1.out s2.out s3.out ?_);intro v8 w8 ho8 hg8 hv8;have hS8:=hdZ (hput.out v8 w8 ho8 hg8 hv8);clear ho8 hg8 hv8))
       go_roundw
       case rel=>exact ⟨k+1,by omega,by go_num,by rw [hsk.out];exact hS8⟩
       case measure=>simp [intOf];omega
     ·have hkm2:decide (k<np)=false:=dfZ hkn
      rw [List.take_of_length_le (by rw [hnp.out];omega)] at hS
      go_wp2_with fail
      go_roundw
      case rel=>exact ⟨q+1,by omega,by go_num,by rw [hsn.out,List.length_append];exact hdZ hS.out.row,hdZ hS.out.below,hdZ hS.out.cred⟩
      case measure=>simp [intOf];omega
   ·have z1:(xk != dk)=true:=by simpa using hk
    rw [if_neg hk,List.append_nil] at hsn
    go_wp2_with fail
    go_quiet (fail)
    go_wp2_with fail
    go_roundw
    case rel=>exact ⟨q+1,by omega,by go_num,by rw [hsn.out];exact hdZ (own_below hown.out (below_drewN (Below.refl _ _) _)),hdZ (below_drewN hB.out _),hdZ (hK.out.below (below_drewN (Below.refl _ _) _) hK.out.lt)⟩
    case measure=>simp [intOf];omega
  ·have hkm:decide (q<nl)=false:=dfZ hlt
   obtain rfl:q=nl:=by omega
   rw [List.take_of_length_le (by have:=hnl.out;omega)] at hown
   go_wp2_with fail
   go_ret
   exact ⟨_,rfl,hown.out,hB.out⟩
end Go.Proofs.YtdjmckjbibfecaaGreatDoor

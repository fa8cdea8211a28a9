import Derived.Test.YtdjmckjbibfecaaGreatDoorWf
namespace Go.Proofs.YtdjmckjbibfecaaGreatDoor
open Go Go.RowKit Go.BigFrame Go.Maps
theorem own_mono {w:World} {B B' n:Nat} {e:TypeId} {size:Nat} {v:Value} {xs:List Value} (h:w.ownsRow B e size v n xs) (hb:B'<=B):w.ownsRow B' e size v n xs:=by
 refine ⟨h.1,?_⟩
 rcases h.2 with h2 | ⟨g,cap,cur,e1,e2,rest⟩
 ·exact .inl h2
 ·exact .inr ⟨g,cap,cur,e1,Nat.le_trans hb e2,rest⟩
theorem own_apart' {w:World} {B B' n n':Nat} {e e':TypeId} {size size':Nat} {v v':Value} {xs xs':List Value} (h:w.ownsRow B e size v n xs) (h':w.ownsRow B' e' size' v' n' xs') (hne:e≠e'):v.ownBlock=none\/v.ownBlock≠v'.ownBlock:=by
 rcases h.2 with ⟨rfl,_⟩ | ⟨g,cap,cur,rfl,_,hh,_⟩
 ·exact .inl rfl
 ·refine .inr fun he=>?_
  simp only [Value.ownBlock] at he
  exact own_blk_ne h' hh (fun g=>hne g.symm) he.symm
theorem own_far {w w':World} {B B' n n':Nat} {e e':TypeId} {size size':Nat} {v v':Value} {xs xs':List Value} (h:w.ownsRow B e size v n xs) (h':w.ownsRow B' e' size' v' n' xs') (hg:w.grownBy w' v'.ownBlock) (hne:e≠e'):w'.ownsRow B e size v n xs :=
 h.kept hg (own_apart' h h' hne)
def intsV (l:List Int):List Value:=l.map fun x=>Value.int .i64 x
theorem own_ints {w:World} {B n:Nat} {e:TypeId} {v:Value} {l:List Int} (h:w.ownsRow B e 1 v n (intsV l)):∃A c,v=.slice A n c/\IntsAt w A l:=by
 obtain ⟨A,c,rfl⟩:=own_form h
 refine ⟨A,c,rfl,fun i x hx=>?_⟩
 have hlen:l.length=n:=by have:=h.1;rw [intsV,List.length_map] at this;omega
 obtain ⟨g,cap,e9,_,_⟩:=own_formS h (by have:=(gsZ.1 hx).1;omega)
 have hA:A=some ⟨g,0,none⟩:=by injection e9
 subst hA
 refine ⟨g,0,rfl,?_⟩
 have:=h.cells (g:=g) rfl i (.int .i64 x) (by rw [intsV,List.getElem?_map,hx];rfl)
 have hadd:(⟨g,0,none⟩:Addr).add i=⟨g,0+i,none⟩:=by unfold Addr.add;split<;>simp_all
 rw [<-hadd];exact this
def CoresAt (w:World) (B:Nat) (v:Value) (L:List (List Nat)):Prop :=
 ∃vs:List Value,vs.length=L.length/\w.ownsRow B 35 1 v L.length vs/\∀(i:Nat) (p:List Nat) (x:Value),L[i]?=some p->vs[i]?=some x->w.ownsRow B 3 1 x p.length (natsV p)
theorem CoresAt.nil (w:World) (B:Nat):CoresAt w B (.slice none 0 0) []:=⟨[],rfl,own_none _ _ _ _,fun i p x h=>by simp at h⟩
theorem CoresAt.on {w w':World} {B:Nat} {v:Value} {L:List (List Nat)} (h:CoresAt w B v L) (hb:Bz w w'):CoresAt w' B v L:=by
 obtain ⟨vs,h1,h2,h3⟩:=h
 exact ⟨vs,h1,own_below h2 hb,fun i p x hi hx=>own_below (h3 i p x hi hx) hb⟩
theorem CoresAt.far {w w':World} {B B' n':Nat} {e':TypeId} {size':Nat} {v v':Value} {xs':List Value} {L:List (List Nat)} (h:CoresAt w B v L) (h':w.ownsRow B' e' size' v' n' xs') (hg:w.grownBy w' v'.ownBlock) (h1:35≠e') (h2:3≠e'):CoresAt w' B v L:=by
 obtain ⟨vs,e1,e2,e3⟩:=h
 exact ⟨vs,e1,own_far e2 h' hg h1,fun i p x hi hx=>own_far (e3 i p x hi hx) h' hg h2⟩
theorem CoresAt.snoc {w w':World} {B:Nat} {v v' x:Value} {vs:List Value} {L:List (List Nat)} {p:List Nat} (hl:vs.length=L.length) (h:w.ownsRow B 35 1 v L.length vs) (h3:∀(i:Nat) (p:List Nat) (x:Value),L[i]?=some p->vs[i]?=some x->w.ownsRow B 3 1 x p.length (natsV p)) (hx:w.ownsRow B 3 1 x p.length (natsV p))
  (h':w'.ownsRow B 35 1 v' (L.length+1) (vs++[x])) (hg:w.grownBy w' v.ownBlock):CoresAt w' B v' (L++[p]):=by
 refine ⟨vs++[x],by simp [hl],by simpa using h',fun i q y hi hy=>?_⟩
 by_cases hlt:i<L.length
 ·rw [List.getElem?_append_left hlt] at hi
  rw [List.getElem?_append_left (by omega)] at hy
  exact own_far (h3 i q y hi hy) h hg (by decide)
 ·have:i=L.length:=by
   have:=(gsZ.1 hi).1
   simp at this;omega
  subst this
  rw [List.getElem?_append_right leZ] at hi
  rw [<-hl,List.getElem?_append_right leZ] at hy
  simp at hi hy
  subst hi;subst hy
  exact own_far hx h hg (by decide)
theorem cellsL_get:∀(l:List Tree) (k i:Nat) (t:Tree) (v:Value),l[k]?=some t->t.cells.toList[i]?=some v->(cellsL l)[k*6+i]?=some v
 | [],k,i,t,v,h,_=>by simp at h
 | u::l,0,i,t,v,h,hv=>by
  simp at h;subst h
  unfold cellsL
  rw [List.flatMap_cons,Nat.zero_mul,Nat.zero_add,List.getElem?_append_left (gsZ.1 hv).1]
  exact hv
 | u::l,k+1,i,t,v,h,hv=>by
  have:=cellsL_get l k i t v (by simpa using h) hv
  have e:=cells_len u
  unfold cellsL at this ⊢
  rw [List.flatMap_cons,List.getElem?_append_right (by rw [e];omega),e,show (k+1)*6+i-6=k*6+i by omega]
  exact this
structure CoreSt (w W:World) (TC:Array Value) (v7:Value) (m:Nat) (AT:List Tree):Prop where
 nb:Blk W w.heap.size 24 TC
 row7:W.ownsRow w.heap.size 24 6 v7 m (cellsL AT)
 below:Bz w W
theorem CoreSt.on {w W W':World} {TC:Array Value} {v7:Value} {m:Nat} {AT:List Tree} (h:CoreSt w W TC v7 m AT) (hb:Bz W W'):CoreSt w W' TC v7 m AT :=
 ⟨h.nb.below hb h.nb.lt,own_below h.row7 hb,h.below.trans (hb.mono h.below.size)⟩
theorem CoreSt.far {w W W':World} {TC:Array Value} {v7 v':Value} {m n':Nat} {AT:List Tree} {e':TypeId} {size':Nat} {xs':List Value} (h:CoreSt w W TC v7 m AT) (h':W.ownsRow w.heap.size e' size' v' n' xs') (hg:W.grownBy W' v'.ownBlock) (hne:24≠e'):CoreSt w W' TC v7 m AT :=
 ⟨Blk.kept h.nb hg (own_blk_ne h' h.nb (fun e=>hne e.symm)),own_far h.row7 h' hg hne,h.below.grown hg h.below.size (fun j hj=>(h'.lt j hj).1)⟩
def stL (docs:List Pap) (d:Pap) (t:Tree):List Int:=(atomsT t).map (holdsT docs d)
def stN (docs:List Pap) (d:Pap) (t:Tree) (i:Nat):Nat:=((stL docs d t)[i]?.getD 0).toNat
theorem stN_lt (docs:List Pap) (d:Pap) (t:Tree) (i:Nat):stN docs d t i<3:=by
 unfold stN
 cases h:(stL docs d t)[i]? with
 | none=>decide
 | some x =>
  unfold stL at h
  rw [List.getElem?_map] at h
  obtain ⟨u,_,rfl⟩:=Option.map_eq_some_iff.1 h
  have:=holdsT_range docs d u
  simp only [Option.getD_some]
  omega
theorem stN_at (docs:List Pap) (d:Pap) (t:Tree) (i:Nat) (hi:i<(stL docs d t).length):(stL docs d t)[i]?=some (stN docs d t i:Int):=by
 unfold stN
 rw [gZ hi]
 have:∃u,(stL docs d t)[i]=holdsT docs d u:=by unfold stL;exact ⟨_,List.getElem_map _⟩
 obtain ⟨u,hu⟩:=this
 have:=holdsT_range docs d u
 simp only [Option.getD_some,hu,Option.some.injEq]
 omega
def coresE (docs:List Pap) (t:Tree) (a:Int):List (List Nat):=match (if 0<=a then docs[a.toNat]? else none) with
 | some d=>if 12<(atomsT t).length\/holdsT docs d t=0 then [] else coresD t (stL docs d t)
 | none=>[]
theorem coresE_out {docs:List Pap} {t:Tree} {a:Int} (h:a<0\/(docs.length:Int)<=a):coresE docs t a=[]:=by
 unfold coresE
 split
 ·rename_i d hd
  split at hd
  ·have:=(gsZ.1 hd).1
   omega
  ·cases hd
 ·rfl
theorem coresE_in {docs:List Pap} {t:Tree} {a:Nat} {d:Pap} (h:docs[a]?=some d):coresE docs t (a:Int)=if 12<(atomsT t).length\/holdsT docs d t=0 then [] else coresD t (stL docs d t):=by
 unfold coresE
 rw [if_pos (by omega)]
 simp [h]
set_option maxRecDepth 100000
set_option maxHeartbeats 3200000
theorem atomR_any (t:Tree) (w:World):Calls Tryz.prog 48 #[.agg t.cells] w fun e w'=>e=.returned (.bool (isAt t.kind))/\Bz w w':=by
 obtain ⟨k,p,f,x,n,A,c,L⟩:=t
 simp only [Tree.cells,Tree.kind]
 obtain ⟨w1,hw1,hb1,hN1⟩:=newZ w 24 #[.int .i64 k,.int .i64 p,.string f,.string x,.int .i64 n,.slice A L.length c]
 have q0:w1.cell? ⟨w.heap.size,0,none⟩=some (.int .i64 k):=hN1.out.cell 0
 by_cases h3:3<=k
 ·have d1:decide ((3:Int)<=k)=true:=dtZ h3
  by_cases h7:k<=7
  ·have d2:decide (k<=7)=true:=dtZ h7
   rw [isAt_yes ⟨h3,h7⟩]
   go_enter Tryz.func48,Tryz.ntmps48
   go_wp2_with (rw [hw1.out])
   go_ret
   exact ⟨rfl,hb1.out⟩
  ·have d2:decide (k<=7)=false:=dfZ h7
   rw [isAt_no (by omega)]
   go_enter Tryz.func48,Tryz.ntmps48
   go_wp2_with (rw [hw1.out])
   go_ret
   exact ⟨rfl,hb1.out⟩
 ·have d1:decide ((3:Int)<=k)=false:=dfZ h3
  rw [isAt_no (by omega)]
  go_enter Tryz.func48,Tryz.ntmps48
  go_wp2_with (rw [hw1.out])
  go_ret
  exact ⟨rfl,hb1.out⟩
theorem own_fresh (w:World) (e:TypeId) (size n:Nat) (cs:Array Value) (hs:cs.size=n*size) (hn:n<=maxLen):(w.alloc (.cells cs e)).ownsRow w.heap.size e size (.slice (some ⟨w.heap.size,0,none⟩) n n) n cs.toList :=
 ⟨by simpa using hs,.inr ⟨_,n,cs,rfl,Nat.le_refl _,heap_alloc_new w _,Nat.le_refl _,hn,hs,List.take_of_length_le (by simp [hs])⟩⟩
theorem own_reads {w:World} {B n:Nat} {e:TypeId} {size:Nat} {A:Option Addr} {c:Nat} {xs:List Value} (h:w.ownsRow B e size (.slice A n c) n xs):Reads w w.heap.size size A n xs:=by
 refine ⟨h.1,fun hn=>?_⟩
 obtain ⟨g,c',e,_,hg⟩:=own_formS h hn
 simp only [Value.slice.injEq,true_and] at e
 obtain ⟨rfl,rfl⟩:=e
 exact ⟨_,rfl,hg,fun j u hj=>h.cells (g:=g) rfl j u hj⟩
theorem cellsL_one (l:List Tree):∀v∈cellsL l,v.oneCell'=true:=by
 intro v hv
 obtain ⟨t,_,h⟩:=List.mem_flatMap.1 hv
 exact cells_one t v h
theorem own_above {w w':World} {B n g:Nat} {e t:TypeId} {size:Nat} {v:Value} {xs:List Value} {cs:Array Value} (h:w.ownsRow B e size v n xs) (hg:g<B) (hb:Blk w g t cs) (hgr:w.grownBy w' v.ownBlock):Blk w' g t cs :=
 Blk.kept hb hgr (fun he=>by have:=(h.lt g he).1;omega)
def AtomsR (t:Tree):Prop:=∀w:World,Hid (TreeAt w t)->(atomsT t).length<=1000->Calls Tryz.prog 14 #[.agg t.cells] w fun e w'=>∃v,e=.returned v/\w'.ownsRow w.heap.size 24 6 v (atomsT t).length (cellsL (atomsT t))/\Bz w w'
theorem atomsR_walk (t:Tree) (ih:Hid (∀u∈t.sub,AtomsR u)):AtomsR t:=by
 intro w hT hle
 obtain ⟨i0,hi,hz0,hz1,hz2⟩:=info_parts Tryz.info24
 obtain ⟨k,p,f,x,n,A,c,L⟩:=t
 have hia:=fun W=>atomR_any (.mk k p f x n A c L) W
 simp only [Tree.cells,Tree.kind] at hia ⊢
 obtain ⟨w1,hw1,hb1,hN1⟩:=newZ w 24 #[.int .i64 k,.int .i64 p,.string f,.string x,.int .i64 n,.slice A L.length c]
 obtain ⟨q0,q1,q2,q3,q4,q5⟩:=cs6 hN1.out
 have hia1:=hdZ (hia w1)
 clear hia
 go_enter Tryz.func14,Tryz.ntmps14
 go_wp2_with (rw [hw1.out])
 refine hia1.out.mono ?_
 rintro e w2 ⟨rfl,hb2⟩
 have hN2:=kbY hN1 hb2
 have hB2:=btY hb1 hb2
 clear hb2 q0 q1 q2 q3 q4 q5 hia1
 obtain ⟨q0,q1,q2,q3,q4,q5⟩:=cs6 hN2.out
 by_cases hk:3<=k/\k<=7
 ·rw [isAt_yes hk]
  have hat:Hid (atomsT (.mk k p f x n A c L)=[.mk k p f x n A c L]):=by unfold Hid;rw [atomsT,if_pos hk]
  obtain ⟨w3,hw3⟩:=nmZ (w2.alloc (.cells #[.int .i64 k,.int .i64 p,.string f,.string x,.int .i64 n,.slice A L.length c] 24))
  have hr3:Hid (w3.ownsRow w2.heap.size 24 6 (.slice (some ⟨w2.heap.size,0,none⟩) 1 1) 1 (#[.int .i64 k,.int .i64 p,.string f,.string x,.int .i64 n,.slice A L.length c]:Array Value).toList):=by rw [<-hw3.out];exact hdZ (own_fresh w2 24 6 1 #[.int .i64 k,.int .i64 p,.string f,.string x,.int .i64 n,.slice A L.length c] rfl (by unfold maxLen;omega))
  have hb3:Hid (Bz w w3):=by rw [<-hw3.out];exact hdZ (hB2.out.alloc hB2.out.size _)
  clear hk hle
  go_wp2_with (rw [hw3.out])
  go_ret
  refine ⟨_,rfl,?_,hb3.out⟩
  rw [hat.out]
  exact own_mono hr3.out hB2.out.size
 rw [isAt_no hk]
 have hrow0:Hid (RowsAt w A 0 L/\L.length<=maxLen):=by have h:=hT.out;rw [TreeAt] at h;exact h
 obtain ⟨nL,hnL⟩:∃m,L.length=m:=⟨_,rfl⟩
 have hnLm:nL<=maxLen:=by rw [<-hnL];exact hrow0.out.2
 have hnL':=hdZ hnL
 rw [hnL] at q5 hN2 ⊢
 clear hnL
 unfold maxLen at hnLm
 obtain ⟨w3,hw3⟩:=nmZ (w2.alloc (.cells #[] 24))
 have hr3:Hid (w3.ownsRow w2.heap.size 24 6 (.slice (some ⟨w2.heap.size,0,none⟩) 0 0) 0 []):=by rw [<-hw3.out];exact hdZ (own_new w2 24 6)
 have hb3:Hid (Bz w2 w3):=by rw [<-hw3.out];exact hdZ ((Below.refl _ w2).alloc leZ _)
 have hN3:=kbZ hN2 hb3
 have hB3:=btZ hB2 hb3
 clear q0 q1 q2 q3 q4 q5
 have q0:w3.cell? ⟨w.heap.size,0,none⟩=some (.int .i64 k):=hN3.out.cell 0
 by_cases h3:0<=k/\k<=2
 ·have hat:atomsT (.mk k p f x n A c L)=atomsL L:=by rw [atomsT,if_neg hk,if_pos h3]
  rw [hat] at hle
  have hat':=hdZ hat
  have hle':=hdZ hle
  have hc:k=0\/k=1\/k=2:=by omega
  have hr4:=hdZ (own_mono hr3.out hN2.out.lt)
  clear hat hk h3 hle hN2 hB2 hr3 hb3
  rcases hc with rfl | rfl | rfl
  all_goals
   go_wp2_with (rw [hw3.out])
   go_loopw [3,4] (fun v i wr=>∃(q m:Nat) (k0:Int),q<=nL/\i=.int .i64 q/\Hid ((atomsL (L.take q)).length=m)/\Hid (wr.ownsRow (w.heap.size+1) 24 6 v m (cellsL (atomsL (L.take q))))/\Hid (Blk wr w.heap.size 24 #[.int .i64 k0,.int .i64 p,.string f,.string x,.int .i64 n,.slice A nL c])/\Hid (Bz w wr)) (fun _ i _=>nL-(intOf i).toNat)
   case atStart=>exact ⟨0,0,_,Nat.zero_le _,rfl,hdZ (by rw [List.take_zero,atomsL];rfl),hdZ (by rw [List.take_zero,atomsL];exact hr4.out),hN3,hB3⟩
   case round =>
    obtain ⟨q,m,k0,hq,rfl,hm,hown,hN,hB⟩:=hrel
    have r0:wr.cell? ⟨w.heap.size,5,none⟩=some (.slice A nL c):=hN.out.cell 5
    clear q0
    by_cases hlt:q<nL
    ·obtain ⟨u,hu⟩:∃u,L[q]?=some u:=⟨_,gZ (by have:=hnL'.out;omega)⟩
     obtain ⟨hcu,htu⟩:=hrow0.out.1.get q u hu
     have hmem:=mgZ hu
     have hstep:Hid (atomsL (L.take (q+1))=atomsL (L.take q)++atomsT u):=hdZ (atomsL_take hu)
     obtain ⟨mu,hmu⟩:=nmZ ((atomsT u).length)
     have hlen2:m+mu<=1000:=by
      have h1:=atomsL_take_le (q+1) L
      rw [hstep.out,List.length_append,hm.out,hmu.out] at h1
      have h2:=hle'.out
      omega
     have hT4:=hdZ (htu.below hB.out)
     have hub:=hB.out
     clear hu htu
     have hcall:=ih.out _ hmem
     unfold AtomsR at hcall
     have hcall:=hcall wr hT4 (by rw [hmu.out];omega)
     rw [hmu.out] at hcall
     obtain ⟨au,hau⟩:=nmZ (atomsT u)
     rw [hau.out] at hcall hstep hmu
     obtain ⟨uk,up,uf,ux,un,uA,uc,uL⟩:=u
     rw [Nat.zero_add] at hcu
     obtain ⟨b,off,rfl,d0,d1,d2,d3,d4,d5⟩:=hcu
     have hbl:b<w.heap.size:=World.block_lt_of_cell? w _ d0
     have key:∀j,wr.cell? ⟨b,j,none⟩=w.cell? ⟨b,j,none⟩:=fun j=>hub.cell hbl
     rw [<-key] at d0 d1 d2 d3 d4 d5
     clear key hub
     simp only [Tree.cells] at hcall
     have hcall':=hdZ hcall
     obtain ⟨i1,i2,hkm⟩:=inZ hlt
     clear hmem hcall hw3
     go_wp2_with fail
     refine hcall'.out.mono ?_
     rintro e w5 ⟨v5,rfl,ho5,hb5⟩
     obtain ⟨A5,c5,rfl⟩:=own_form ho5
     have hown5:=hdZ (own_below hown.out hb5)
     have hN5:=kbY hN hb5
     have hB5:=btY hB hb5
     have hr5:=hdZ (own_reads ho5)
     have hone:Hid (∀v∈cellsL au,v.oneCell'=true):=hdZ (cellsL_one au)
     have s1:Hid (m+mu<=maxLen):=by unfold Hid maxLen;omega
     have s2:Hid ((m+mu)*80<=140737488355328):=by unfold Hid;omega
     have s3:Hid (w.heap.size+1<=w5.heap.size):=hN5.out.lt
     clear hcall' d0 d1 d2 d3 d4 d5 ho5 hb5 r0
     go_wp2_with (at_builtin;go_must (refine wpList_append_any _ rfl _ _ 22 rfl (w.heap.size+1) 24 i0 _ 6 80 Tryz.underlying22 hi hz0 hz1 hz2 rfl (by decide) _ m (cellsL (atomsL (L.take q))) rfl hown5.out _ A5 mu c5 (cellsL au) rfl hr5.out hone.out s1.out s2.out s3.out ?_);intro v6 w6 ho6 hg6 hv6;have ho6':=hdZ ho6;have hN6:=hdZ (own_above hown5.out (Nat.lt_succ_self _) hN5.out hg6);have hB6:=hdZ (hB5.out.grown hg6 hB5.out.size (fun j hj=>Nat.le_of_succ_le (hown5.out.lt j hj).1));clear ho6 hg6 hv6)
     go_roundw
     case rel=>exact ⟨q+1,m+mu,k0,by omega,by go_num,hdZ (by rw [hstep.out,List.length_append,hm.out,hmu.out]),hdZ (by rw [hstep.out,cellsL_app];exact ho6'.out),hN6,hB6⟩
     case measure=>simp [intOf];omega
    ·have hkm:decide (q<nL)=false:=dfZ hlt
     have hall:Hid (L.take q=L):=hdZ (List.take_of_length_le (by have:=hnL'.out;omega))
     go_wp2_with fail
     go_ret
     refine ⟨_,rfl,?_,hB.out⟩
     have h:=hown.out
     rw [<-hm.out,hall.out] at h
     rw [hat'.out]
     exact own_mono h (Nat.le_succ _)
 ·have hat:Hid (atomsT (.mk k p f x n A c L)=[]):=by unfold Hid;rw [atomsT,if_neg hk,if_neg h3]
  have e0:(k==0)=false:=by simp;omega
  have e1:(k==1)=false:=by simp;omega
  have e2:(k==2)=false:=by simp;omega
  clear hk h3 hle
  go_wp2_with (rw [hw3.out])
  go_ret
  refine ⟨_,rfl,?_,hB3.out⟩
  rw [hat.out]
  exact own_mono hr3.out hB2.out.size
theorem atomsR_any:∀t,AtomsR t:=Tree.every fun t ih=>atomsR_walk t (hdZ ih)
theorem has_any (set i:Nat) (w:World) (hs:set<4096) (hi:i<=60):Calls Tryz.prog 50 #[.int .i64 (set:Int),.int .i64 (i:Int)] w fun e w'=>e=.returned (.bool (set.testBit i))/\w=w':=by
 have i1:IntKind.u64.wrap (i:Int)=(i:Int):=wrapU i (by omega)
 have i2:(i:Int)<64:=by omega
 have i3:(i:Int)<=64:=by omega
 have i4:¬(64:Int)<=(i:Int):=by omega
 have hdiv:(set:Int) / 2 ^ i=((set / 2 ^ i:Nat):Int):=by simp
 have hlt:set / 2 ^ i<4096:=Nat.lt_of_le_of_lt (Nat.div_le_self _ _) hs
 obtain ⟨D,hD⟩:∃D,set / 2 ^ i=D:=⟨_,rfl⟩
 rw [hD] at hdiv hlt
 have hand:bits .and .i64 (D:Int) 1=((D &&& 1:Nat):Int):=bits_and_i64 D 1 (by omega) (by omega)
 have htb:set.testBit i=decide (D % 2=1):=by rw [Nat.testBit_eq_decide_div_mod_eq,hD]
 rw [htb]
 rw [Nat.and_one_is_mod] at hand
 obtain ⟨M,hM⟩:∃M,D % 2=M:=⟨_,rfl⟩
 rw [hM] at hand ⊢
 have hfin:((M:Int)==1)=decide (M=1):=by
  by_cases h:M=1
  ·subst h;rfl
  ·rw [dfZ h];simp;omega
 clear hM hD htb
 go_enter Tryz.func50,Tryz.ntmps50
 go_wp2_with fail
 go_ret
 exact ⟨by first | rfl | (rw [hfin]),rfl⟩
theorem greatE_snoc (s:Nat->Int):∀(L:List Tree) (t:Tree) (j:Nat) (a:Int),(greatE s (L++[t]) j a).1=max (greatE s L j a).1 (evalT s t (j+(atomsL L).length)).1
 | [],t,j,a=>by rw [List.nil_append,greatE,greatE,greatE,atomsL];rfl
 | u::L,t,j,a=>by
  rw [List.cons_append,greatE,greatE,greatE_snoc s L t,evalT_next,atomsL,List.length_append,Nat.add_assoc]
theorem leastE_snoc (s:Nat->Int):∀(L:List Tree) (t:Tree) (j:Nat) (a:Int),(leastE s (L++[t]) j a).1=min (leastE s L j a).1 (evalT s t (j+(atomsL L).length)).1
 | [],t,j,a=>by rw [List.nil_append,leastE,leastE,leastE,atomsL];rfl
 | u::L,t,j,a=>by
  rw [List.cons_append,leastE,leastE,leastE_snoc s L t,evalT_next,atomsL,List.length_append,Nat.add_assoc]
theorem take_snoc {L:List Tree} {q:Nat} {u:Tree} (hu:L[q]?=some u):L.take (q+1)=L.take q++[u]:=by
 obtain ⟨hq,e⟩:=gsZ.1 hu
 rw [List.take_succ_eq_append_getElem hq,e]
theorem inR_of {st:List Int} (h:∀x∈st,0<=x/\x<=2) (j n:Nat):inR (atL st) j n:=by
 intro i _ _
 unfold atL
 cases e:st[i]? with
 | none=>simp
 | some x=>simpa using h x (mgZ e)
def EvalR (st:List Int) (sA:Option Addr) (m sc:Nat) (t:Tree):Prop:=∀(j:Nat) (w:World),Hid (TreeAt w t)->Hid (IntsAt w sA st)->j+(atomsT t).length<=m->Calls Tryz.prog 19 #[.agg t.cells,.slice sA m sc,.int .i64 (j:Int)] w fun e w'=>e=.returned (.tuple #[.int .i64 (evalT (atL st) t j).1,.int .i64 ((j+(atomsT t).length:Nat):Int)])/\Bz w w'
theorem eval_walk (st:List Int) (sA:Option Addr) (m sc:Nat) (hm:st.length=m) (hm9:m<=1000) (h02:Hid (∀x∈st,0<=x/\x<=2)) (t:Tree) (ih:Hid (∀u∈t.sub,EvalR st sA m sc u)):EvalR st sA m sc t:=by
 intro j w hT hI hle
 have hm':=hdZ hm
 clear hm
 obtain ⟨V,hV⟩:=nmZ ((evalT (atL st) t j).1)
 obtain ⟨mt,hmt⟩:=nmZ ((atomsT t).length)
 rw [hV.out]
 rw [hmt.out] at hle ⊢
 obtain ⟨k,p,f,x,n,A,c,L⟩:=t
 have hia:=fun W=>atomR_any (.mk k p f x n A c L) W
 simp only [Tree.cells,Tree.kind] at hia ⊢
 obtain ⟨w1,hw1,hb1,hN1⟩:=newZ w 24 #[.int .i64 k,.int .i64 p,.string f,.string x,.int .i64 n,.slice A L.length c]
 obtain ⟨q0,q1,q2,q3,q4,q5⟩:=cs6 hN1.out
 have hia1:=hdZ (hia w1)
 clear hia
 go_enter Tryz.func19,Tryz.ntmps19
 go_wp2_with (rw [hw1.out])
 refine hia1.out.mono ?_
 rintro e w2 ⟨rfl,hb2⟩
 have hN2:=kbY hN1 hb2
 have hB2:=btY hb1 hb2
 have hI2:=hdZ (hI.out.below hB2.out)
 clear hb2 q0 q1 q2 q3 q4 q5 hia1
 by_cases hk:3<=k/\k<=7
 ·rw [isAt_yes hk]
  have h1:mt=1:=by rw [<-hmt.out,atomsT,if_pos hk];rfl
  have hj:j<m:=by omega
  have hx:Hid (st[j]?=some V):=by
   unfold Hid
   rw [<-hV.out,evalT,if_pos hk]
   unfold atL
   rw [gZ (by have:=hm'.out;omega)]
   rfl
  obtain ⟨g,off,rfl,hc⟩:=hI2.out j V hx.out
  have i1:(j:Int)<(m:Int):=by omega
  have i2:(0:Int)<=(j:Int):=by omega
  have i3:IntKind.i64.wrap ((j:Int)+1)=(j:Int)+1:=IntWalk.i64_in _ (by omega)
  have hB2':=hdZ hB2.out
  clear hk hle
  go_wp2_with fail
  go_ret2
  refine ⟨?_,hB2'.out⟩
  subst h1
  simp
 rw [isAt_no hk]
 have hrow0:Hid (RowsAt w A 0 L/\L.length<=maxLen):=by have h:=hT.out;rw [TreeAt] at h;exact h
 obtain ⟨nL,hnL⟩:∃m,L.length=m:=⟨_,rfl⟩
 have hnLm:nL<=maxLen:=by rw [<-hnL];exact hrow0.out.2
 have hnL':=hdZ hnL
 rw [hnL] at hN2 ⊢
 clear hnL
 unfold maxLen at hnLm
 have q0:w2.cell? ⟨w.heap.size,0,none⟩=some (.int .i64 k):=hN2.out.cell 0
 by_cases h3:0<=k/\k<=2
 ·have hat:atomsT (.mk k p f x n A c L)=atomsL L:=by rw [atomsT,if_neg hk,if_pos h3]
  rw [hat] at hmt
  have hV3:Hid (V=if k=0 then (greatE (atL st) L j 0).1 else if k=1 then (leastE (atL st) L j 2).1 else 2-(greatE (atL st) L j 0).1):=by
   unfold Hid
   rw [<-hV.out,evalT,if_neg hk]
   by_cases h0:k=0
   ·rw [if_pos h0,if_pos h0]
   ·rw [if_neg h0,if_neg h0]
    by_cases h1:k=1
    ·rw [if_pos h1,if_pos h1]
    ·rw [if_neg h1,if_neg h1,if_pos (by omega)]
  have hc:k=0\/k=1\/k=2:=by omega
  clear hat hk h3 hV
  obtain ⟨kk,hkk⟩:∃kk,kk=k:=⟨_,rfl⟩
  rcases hc with rfl | rfl | rfl
  all_goals
   go_wp2_with fail
   go_loopw [2,8,9,10] (fun kv gv lv i wr=>∃(q mq:Nat) (G M:Int),q<=nL/\i=.int .i64 q/\Hid ((atomsL (L.take q)).length=mq)/\kv=.int .i64 ((j+mq:Nat):Int)/\gv=.int .i64 G/\lv=.int .i64 M/\Hid (G=(greatE (atL st) (L.take q) j 0).1)/\Hid (M=(leastE (atL st) (L.take q) j 2).1)/\0<=G/\G<=2/\Hid (Blk wr w.heap.size 24 #[.int .i64 kk,.int .i64 p,.string f,.string x,.int .i64 n,.slice A nL c])/\Hid (Bz w wr)) (fun _ _ _ i _=>nL-(intOf i).toNat)
   case atStart=>exact ⟨0,0,0,2,Nat.zero_le _,rfl,hdZ (by rw [List.take_zero,atomsL];rfl),rfl,rfl,rfl,hdZ (by rw [List.take_zero,greatE]),hdZ (by rw [List.take_zero,leastE]),by omega,by omega,by rw [hkk];exact hN2,hB2⟩
   case round =>
    obtain ⟨q,mq,G,M,hq,rfl,hmq,rfl,rfl,rfl,hG,hM,hG0,hG2,hN,hB⟩:=hrel
    have r0:wr.cell? ⟨w.heap.size,5,none⟩=some (.slice A nL c):=hN.out.cell 5
    clear q0
    by_cases hlt:q<nL
    ·obtain ⟨u,hu⟩:∃u,L[q]?=some u:=⟨_,gZ (by have:=hnL'.out;omega)⟩
     obtain ⟨hcu,htu⟩:=hrow0.out.1.get q u hu
     have hmem:=mgZ hu
     have hstep:Hid (atomsL (L.take (q+1))=atomsL (L.take q)++atomsT u):=hdZ (atomsL_take hu)
     obtain ⟨mu,hmu⟩:=nmZ ((atomsT u).length)
     obtain ⟨E,hE⟩:=nmZ ((evalT (atL st) u (j+mq)).1)
     have hE02:0<=E/\E<=2:=by rw [<-hE.out];exact evalT_range u _ (inR_of h02.out _ _)
     have hG9:Hid ((greatE (atL st) (L.take (q+1)) j 0).1=max G E):=by unfold Hid;rw [take_snoc hu,greatE_snoc,hmq.out,hE.out,hG.out]
     have hM9:Hid ((leastE (atL st) (L.take (q+1)) j 2).1=min M E):=by unfold Hid;rw [take_snoc hu,leastE_snoc,hmq.out,hE.out,hM.out]
     have hlen2:mq+mu<=mt:=by
      have h1:=atomsL_take_le (q+1) L
      rw [hstep.out,List.length_append,hmq.out,hmu.out,hmt.out] at h1
      exact h1
     have hT4:=hdZ (htu.below hB.out)
     have hI4:=hdZ (hI.out.below hB.out)
     have hub:=hB.out
     have hmq9:Hid ((atomsL (L.take (q+1))).length=mq+mu):=by unfold Hid;rw [hstep.out,List.length_append,hmq.out,hmu.out]
     clear hu htu
     have hcall:=ih.out _ hmem
     unfold EvalR at hcall
     have hcall:=hcall (j+mq) wr hT4 hI4 (by rw [hmu.out];omega)
     rw [hmu.out,hE.out] at hcall
     clear hstep hmu hE
     obtain ⟨uk,up,uf,ux,un,uA,uc,uL⟩:=u
     rw [Nat.zero_add] at hcu
     obtain ⟨b,off,rfl,d0,d1,d2,d3,d4,d5⟩:=hcu
     have hbl:b<w.heap.size:=World.block_lt_of_cell? w _ d0
     have key:∀j,wr.cell? ⟨b,j,none⟩=w.cell? ⟨b,j,none⟩:=fun j=>hub.cell hbl
     rw [<-key] at d0 d1 d2 d3 d4 d5
     clear key hub
     simp only [Tree.cells] at hcall
     rw [show ((j+mq+mu:Nat):Int)=((j+(mq+mu):Nat):Int) by rw [Nat.add_assoc]] at hcall
     have hcall':=hdZ hcall
     obtain ⟨i1,i2,hkm⟩:=inZ hlt
     obtain ⟨jm,hjm⟩:∃x:Nat,Hid (j+mq=x):=⟨_,rfl⟩
     obtain ⟨jn,hjn⟩:∃x:Nat,Hid (j+(mq+mu)=x):=⟨_,rfl⟩
     rw [hjm.out,hjn.out] at hcall'
     rw [hjm.out]
     clear hmem hcall
     obtain ⟨B1,e1⟩:∃b,decide (G<E)=b:=⟨_,rfl⟩
     obtain ⟨B2,e2⟩:∃b,decide (E<M)=b:=⟨_,rfl⟩
     cases B1<;>cases B2
     all_goals
      have g1:=e1
      have g2:=e2
      simp only [decide_eq_true_eq,decide_eq_false_iff_not] at g1 g2
      go_wp2_with fail
      refine hcall'.out.mono ?_
      rintro e w5 ⟨rfl,hb5⟩
      have hN5:=kbY hN hb5
      have hB5:=btY hB hb5
      clear hb5
      go_wp2_with fail
      go_roundw
      case rel=>exact ⟨q+1,mq+mu,_,_,by omega,by go_num,hmq9,by rw [hjn.out],rfl,rfl,hdZ (by rw [hG9.out];omega),hdZ (by rw [hM9.out];omega),by omega,by omega,hN5,hB5⟩
      case measure=>simp [intOf];omega
    ·have hkm:decide (q<nL)=false:=dfZ hlt
     have hall:Hid (L.take q=L):=hdZ (List.take_of_length_le (by have:=hnL'.out;omega))
     have hcm:Hid (mq=mt):=by unfold Hid;rw [<-hmq.out,hall.out,hmt.out]
     rw [hall.out] at hG hM
     rw [hkk] at hN
     have r1:=hN.out.cell 0
     simp only [List.getElem?_toArray,List.getElem?_cons_zero] at r1
     have w2':IntKind.i64.wrap (2-G)=2-G:=IntWalk.i64_in _ (by omega)
     go_wp2_with fail
     go_ret2
     refine ⟨?_,hB.out⟩
     rw [hV3.out,<-hcm.out]
     simp [hG.out,hM.out]
 ·have hat:Hid (atomsT (.mk k p f x n A c L)=[]):=by unfold Hid;rw [atomsT,if_neg hk,if_neg h3]
  have hV2:Hid (V=2):=by unfold Hid;rw [<-hV.out,evalT,if_neg hk,if_neg (by omega),if_neg (by omega),if_neg (by omega)]
  have hm0:Hid (mt=0):=by unfold Hid;rw [<-hmt.out,hat.out];rfl
  have e0:(k != 0)=true:=by simp;omega
  have e1:(k != 1)=true:=by simp;omega
  have e2:(k != 2)=true:=by simp;omega
  clear hk h3 hle
  go_wp2_with fail
  go_ret2
  exact ⟨by rw [hV2.out,hm0.out];rfl,hB2.out⟩
theorem eval_any (st:List Int) (sA:Option Addr) (m sc:Nat) (hm:st.length=m) (hm9:m<=1000) (h02:Hid (∀x∈st,0<=x/\x<=2)):∀t,EvalR st sA m sc t:=Tree.every fun t ih=>eval_walk st sA m sc hm hm9 h02 t (hdZ ih)
theorem ints_reads {w:World} {A:Option Addr} {l:List Int} {m:Nat} (h:IntsAt w A l) (hl:l.length=m):Reads w w.heap.size 1 A m (intsV l):=by
 refine ⟨by simp [intsV,hl],fun hn=>?_⟩
 obtain ⟨g,off,rfl,hc⟩:=h 0 (l[0]'(by omega)) (gZ _)
 refine ⟨_,rfl,World.block_lt_of_cell? w _ hc,fun j u hj=>?_⟩
 rw [intsV,List.getElem?_map] at hj
 obtain ⟨x,hx,rfl⟩:=Option.map_eq_some_iff.1 hj
 obtain ⟨g',off',e,hc'⟩:=h j x hx
 simp only [Option.some.injEq,Addr.mk.injEq,and_true] at e
 obtain ⟨rfl,rfl⟩:=e
 have hadd:(⟨g,off,none⟩:Addr).add j=⟨g,off+j,none⟩:=by unfold Addr.add;split<;>simp_all
 rw [hadd];exact hc'
theorem take_snocG {α:Type} {L:List α} {q:Nat} {u:α} (hu:L[q]?=some u):L.take (q+1)=L.take q++[u]:=by
 obtain ⟨hq,e⟩:=gsZ.1 hu
 rw [List.take_succ_eq_append_getElem hq,e]
theorem stand_any (A0:Option Addr) (nn c0:Nat) (docs:List Pap) (a:Nat) (d:Pap) (hd:docs[a]?=some d) (l:List Tree) (lA:Option Addr) (m lc B:Nat) (w:World) (hl:l.length=m) (hm9:m<=1000) (hT:Hid (∀u∈l,TreeAt w u)) (hS:Hid (∀u∈l,SmallT u)) (hR:Hid (Room w A0 nn docs)) (hrow:Hid (w.ownsRow B 24 6 (.slice lA m lc) m (cellsL l))) :
  Calls Tryz.prog 18 #[.slice lA m lc,.slice A0 nn c0,.int .i64 (a:Int)] w fun e w'=>∃v,e=.returned v/\w'.ownsRow w.heap.size 3 1 v m (intsV (l.map (holdsT docs d)))/\Bz w w':=by
 obtain ⟨i0,hi,hz0,hz1,hz2⟩:=info_parts Tryz.info3
 have hsl:Hid ((l.map (holdsT docs d)).length=m):=by unfold Hid;rw [List.length_map,hl]
 have hsg:Hid (∀q u,l[q]?=some u->(l.map (holdsT docs d)).take (q+1)=(l.map (holdsT docs d)).take q++[holdsT docs d u]):=hdZ fun q u hu=>take_snocG (by rw [List.getElem?_map,hu];rfl)
 obtain ⟨ST9,hST⟩:=nmZ (l.map (holdsT docs d))
 have hl':=hdZ hl
 have hd':=hdZ hd
 rw [hST.out] at hsl hsg ⊢
 clear hl hd hST
 obtain ⟨w1,hw1⟩:=nmZ (w.alloc (.cells #[] 3))
 have ho1:Hid (w1.ownsRow w.heap.size 3 1 (.slice (some ⟨w.heap.size,0,none⟩) 0 0) 0 []):=by rw [<-hw1.out];exact hdZ (own_new w 3 1)
 have hb1:Hid (Bz w w1):=by rw [<-hw1.out];exact hdZ ((Below.refl _ w).alloc leZ _)
 go_enter Tryz.func18,Tryz.ntmps18
 go_wp2_with (rw [hw1.out])
 go_loopw [7,8] (fun v i wr=>∃q:Nat,q<=m/\i=.int .i64 q/\Hid (wr.ownsRow w.heap.size 3 1 v q (intsV (ST9.take q)))/\Hid (Bz w wr)) (fun _ i _=>m-(intOf i).toNat)
 case atStart=>exact ⟨0,Nat.zero_le _,rfl,by rw [List.take_zero];exact ho1,hb1⟩
 case round =>
  obtain ⟨q,hq,rfl,hown,hB⟩:=hrel
  by_cases hlt:q<m
  ·as_aux_lemma =>
   obtain ⟨u,hu⟩:∃u,l[q]?=some u:=⟨_,gZ (by have:=hl'.out;omega)⟩
   have htk:=hdZ (hsg.out q u hu)
   have huT:=hdZ ((hT.out u (mgZ hu)).below hB.out)
   have huS:=hdZ (hS.out u (mgZ hu))
   have hRr:=hdZ (hR.out.below hB.out)
   have hcall:=stands_in A0 nn c0 docs a d hd'.out u wr huS huT hRr
   have hrr:=own_below hrow.out hB.out
   obtain ⟨g7,c9,e9,hg7,hg7l⟩:=own_formS hrr (by omega)
   obtain rfl:lA=some ⟨g7,0,none⟩:=by injection e9
   have hcl:∀j v,u.cells.toList[j]?=some v->wr.cell? ⟨g7,q*6+j,none⟩=some v:=fun j v hv=>by
    have:=hrr.cells (g:=g7) rfl _ v (cellsL_get l q j u v hu hv)
    have hadd:(⟨g7,0,none⟩:Addr).add (q*6+j)=⟨g7,q*6+j,none⟩:=by unfold Addr.add;split<;>simp_all
    rw [<-hadd];exact this
   obtain ⟨hz9,hhz⟩:∃z,holdsT docs d u=z:=⟨_,rfl⟩
   rw [hhz] at hcall htk
   clear hhz e9 hu hrr
   obtain ⟨uk,up,uf,ux,un,uA,uc,uL⟩:=u
   simp only [Tree.cells] at hcall hcl
   have d0:wr.cell? ⟨g7,q*6,none⟩=some (.int .i64 uk):=hcl 0 _ rfl
   have d1':wr.cell? ⟨g7,q*6+1,none⟩=some (.int .i64 up):=hcl 1 _ rfl
   have d2':wr.cell? ⟨g7,q*6+2,none⟩=some (.string uf):=hcl 2 _ rfl
   have d3':wr.cell? ⟨g7,q*6+3,none⟩=some (.string ux):=hcl 3 _ rfl
   have d4':wr.cell? ⟨g7,q*6+4,none⟩=some (.int .i64 un):=hcl 4 _ rfl
   have d5':wr.cell? ⟨g7,q*6+5,none⟩=some (.slice uA uL.length uc):=hcl 5 _ rfl
   obtain ⟨i1,i2,hkm⟩:=inZ hlt
   have hcall':=hdZ hcall
   clear hcl hcall hw1
   go_wp2_with fail
   refine hcall'.out.mono ?_
   rintro e w6 ⟨rfl,hb6⟩
   have hown6:=own_below hown.out hb6
   have hB6:Bz w w6:=hB.out.trans (hb6.mono hB.out.size)
   clear hb6 hcall' d0 d1' d2' d3' d4' d5'
   have hb7:=(Below.refl w6.heap.size w6).alloc leZ (.cells #[.int .i64 hz9] 3)
   have hB7:Hid (Bz w (w6.alloc (.cells #[.int .i64 hz9] 3))):=hB6.trans (hb7.mono hB6.size)
   have hown7:=hdZ (own_below hown6 hb7)
   have hblk7:=hdZ (blk_reads (Blk.new w6 3 #[.int .i64 hz9]) 1 1 rfl)
   have s1:Hid (q+1<=maxLen):=by unfold Hid maxLen;omega
   have s2:Hid ((q+1)*8<=140737488355328):=by unfold Hid;omega
   have s3:=hdZ hB7.out.size
   have s4:Hid (∀u∈(#[.int .i64 hz9]:Array Value).toList,u.oneCell'=true):=hdZ (by intro u hu;simp at hu;subst hu;rfl)
   clear hb7 hown6 hB6
   go_wp2_with (at_builtin;go_must (refine wpList_append_any _ rfl _ _ 35 rfl w.heap.size 3 i0 _ 1 8 Tryz.underlying35 hi hz0 hz1 hz2 rfl (by decide) _ q (intsV (ST9.take q)) rfl hown7.out _ (some ⟨w6.heap.size,0,none⟩) 1 1 [.int .i64 hz9] rfl hblk7.out s4.out s1.out s2.out s3.out ?_);intro v8 w8 ho8 hg8 hv8;have hB8:=hdZ (hB7.out.grown hg8 s3.out (fun j hj=>(hown7.out.lt j hj).1));have ho8':=hdZ ho8;clear ho8 hg8 hv8)
   go_roundw
   case rel=>exact ⟨q+1,by omega,by go_num,by rw [htk.out];unfold intsV;rw [List.map_append];exact ho8',hB8⟩
   case measure=>simp [intOf];omega
  ·have hkm:decide (q<m)=false:=dfZ hlt
   have hqm:m=q:=by omega
   subst hqm
   rw [List.take_of_length_le (by rw [hsl.out];exact Nat.le_refl _)] at hown
   go_wp2_with fail
   go_ret
   exact ⟨_,rfl,hown.out,hB.out⟩
theorem placesR_any (a m:Nat) (w:World) (ha:a<4096) (hm:m<=12):Calls Tryz.prog 51 #[.int .i64 (a:Int),.int .i64 (m:Int)] w fun e w'=>∃v,e=.returned v/\w'.ownsRow w.heap.size 3 1 v (plcD m a).length (natsV (plcD m a))/\Bz w w':=by
 obtain ⟨i0,hi,hz0,hz1,hz2⟩:=info_parts Tryz.info3
 have hhas:=hdZ (fun (i:Nat) (h:i<=60) (W:World)=>has_any a i W ha h)
 have hpl:Hid (plcD m a=(List.range m).filter fun i=>a.testBit i):=rfl
 rw [hpl.out]
 obtain ⟨w1,hw1⟩:=nmZ (w.alloc (.cells #[] 3))
 have ho1:Hid (w1.ownsRow w.heap.size 3 1 (.slice (some ⟨w.heap.size,0,none⟩) 0 0) 0 []):=by rw [<-hw1.out];exact hdZ (own_new w 3 1)
 have hb1:Hid (Bz w w1):=by rw [<-hw1.out];exact hdZ ((Below.refl _ w).alloc leZ _)
 clear hpl
 go_enter Tryz.func51,Tryz.ntmps51
 go_wp2_with (rw [hw1.out])
 go_loopw [5,6] (fun v i wr=>∃q:Nat,q<=m/\i=.int .i64 q/\Hid (wr.ownsRow w.heap.size 3 1 v ((List.range q).filter fun i=>a.testBit i).length (natsV ((List.range q).filter fun i=>a.testBit i)))/\Hid (Bz w wr)) (fun _ i _=>m-(intOf i).toNat)
 case atStart=>exact ⟨0,Nat.zero_le _,rfl,ho1,hb1⟩
 case round =>
  obtain ⟨q,hq,rfl,hown,hB⟩:=hrel
  by_cases hlt:q<m
  ·as_aux_lemma =>
   have hcall:=hhas.out q (by omega) wr
   have hfs:=filt_succ (fun i=>a.testBit i) q
   have hfl:=filt_le (fun i=>a.testBit i) q
   obtain ⟨xs,hxs⟩:∃xs,(List.range q).filter (fun i=>a.testBit i)=xs:=⟨_,rfl⟩
   rw [hxs] at hown hfs hfl
   obtain ⟨nx,hnx⟩:∃n,xs.length=n:=⟨_,rfl⟩
   rw [hnx] at hown hfl
   have hnx':=hdZ hnx
   obtain ⟨tb,htb⟩:∃b,a.testBit q=b:=⟨_,rfl⟩
   simp only [htb] at hfs hcall
   have hfs':=hdZ hfs
   have hcall':=hdZ hcall
   have i1:(q:Int)<(m:Int):=by omega
   clear hxs hnx hfs htb hcall hw1
   cases tb with
   | false =>
    have hnew:Hid ((List.range (q+1)).filter (fun i=>a.testBit i)=xs):=by unfold Hid;rw [hfs'.out];simp
    go_wp2_with fail
    refine hcall'.out.mono ?_
    rintro e w2 ⟨rfl,rfl⟩
    go_wp2_with fail
    go_roundw
    case rel=>exact ⟨q+1,by omega,by go_num,by rw [hnew.out,hnx'.out];exact hown,hB⟩
    case measure=>simp [intOf];omega
   | true =>
    have hnew:Hid ((List.range (q+1)).filter (fun i=>a.testBit i)=xs++[q]):=by unfold Hid;rw [hfs'.out];simp
    have hown3:=hdZ (own_below hown.out ((Below.refl _ wr).alloc leZ (.cells #[.int .i64 (q:Int)] 3)))
    have hblk3:=hdZ (Blk.new wr 3 #[.int .i64 (q:Int)])
    have hb3:Hid (Bz w (wr.alloc (.cells #[.int .i64 (q:Int)] 3))):=hdZ (hB.out.alloc hB.out.size _)
    have s1:Hid (nx+1<=maxLen):=by unfold Hid maxLen;omega
    have s2:Hid ((nx+1)*8<=140737488355328):=by unfold Hid;omega
    have s3:Hid (w.heap.size<=(wr.alloc (.cells #[.int .i64 (q:Int)] 3)).heap.size):=hdZ hb3.out.size
    go_wp2_with fail
    refine hcall'.out.mono ?_
    rintro e w2 ⟨rfl,rfl⟩
    go_wp2_with (at_builtin;go_must (refine wpList_app2 w.heap.size rfl _ _ 35 rfl 3 i0 _ 1 8 Tryz.underlying35 hi hz0 hz1 hz2 rfl (by decide) _ nx (natsV xs) rfl wr.heap.size 1 #[.int .i64 (q:Int)] rfl hown3.out hblk3.out rfl (by simp [Value.oneCell']) s1.out s2.out s3.out ?_);intro v4 w4 ho4 hb4;have ho4':=hdZ ho4;have hb4':Hid (Bz w w4):=hb3.out.trans hb4;clear ho4 hb4)
    go_roundw
    case rel=>exact ⟨q+1,by omega,by go_num,by rw [hnew.out,List.length_append,hnx'.out,natsV_app];exact ho4',hb4'⟩
    case measure=>simp [intOf];omega
  ·have hkm:decide (q<m)=false:=dfZ hlt
   have hqm:m=q:=by omega
   subst hqm
   go_wp2_with fail
   go_ret
   exact ⟨_,rfl,hown.out,hB.out⟩
theorem nats_cells {w:World} {B n:Nat} {e:TypeId} {A:Option Addr} {c:Nat} {l:List Nat} (h:w.ownsRow B e 1 (.slice A n c) n (natsV l)):IntsAt w A (l.map fun (x:Nat)=>(x:Int)):=by
 have e1:natsV l=intsV (l.map fun (x:Nat)=>(x:Int)):=by simp [natsV,intsV]
 rw [e1] at h
 obtain ⟨A',c',e',hI⟩:=own_ints h
 obtain ⟨rfl,_⟩:A=A'/\c=c':=by simpa using e'
 exact hI
theorem beforeR_any (p q:List Nat) (pA qA:Option Addr) (pn qn pc qc:Nat) (w:World) (hp:p.length=pn) (hq:q.length=qn) (h12:pn<=12) (hpA:Hid (IntsAt w pA (p.map fun (x:Nat)=>(x:Int)))) (hqA:Hid (IntsAt w qA (q.map fun (x:Nat)=>(x:Int)))):Calls Tryz.prog 52 #[.slice pA pn pc,.slice qA qn qc] w fun e w'=>e=.returned (.bool (beforeB p q))/\Bz w w':=by
 obtain ⟨R,hR⟩:=nmZ (beforeB p q)
 rw [hR.out]
 have hp':=hdZ hp
 have hq':=hdZ hq
 by_cases hne:pn=qn
 ·have hRl:R=lexB p q:=by rw [<-hR.out,beforeB,if_pos (by rw [hp,hq];exact hne)]
  have hRl':=hdZ hRl
  clear hp hq hRl hR
  subst hne
  go_enter Tryz.func52,Tryz.ntmps52
  go_wp2_with fail
  go_loopw [5] (fun i wr=>∃j:Nat,j<=pn/\i=.int .i64 j/\Hid (R=lexB (p.drop j) (q.drop j))/\Bz w wr) (fun i _=>pn-(intOf i).toNat)
  case atStart=>exact ⟨0,Nat.zero_le _,rfl,by rw [List.drop_zero,List.drop_zero];exact hRl',Below.refl _ _⟩
  case round =>
   obtain ⟨j,hj,rfl,hx,hB⟩:=hrel
   by_cases hlt:j<pn
   ·obtain ⟨a,ha⟩:∃a,p[j]?=some a:=⟨_,gZ (by have:=hp'.out;omega)⟩
    obtain ⟨b,hb⟩:∃b,q[j]?=some b:=⟨_,gZ (by have:=hq'.out;omega)⟩
    obtain ⟨g1,o1,rfl,x1⟩:=(hpA.out.below hB) j a (by rw [List.getElem?_map,ha];rfl)
    obtain ⟨g2,o2,rfl,x2⟩:=(hqA.out.below hB) j b (by rw [List.getElem?_map,hb];rfl)
    have hpd:p.drop j=a::p.drop (j+1):=by
     obtain ⟨h1,h2⟩:=gsZ.1 ha
     rw [List.drop_eq_getElem_cons h1,h2]
    have hqd:q.drop j=b::q.drop (j+1):=by
     obtain ⟨h1,h2⟩:=gsZ.1 hb
     rw [List.drop_eq_getElem_cons h1,h2]
    have hx2:Hid (R=if a=b then lexB (p.drop (j+1)) (q.drop (j+1)) else decide (a<b)):=by unfold Hid;rw [hx.out,hpd,hqd,lexB]
    obtain ⟨i1,i2,hkm⟩:=inZ hlt
    clear ha hb hpd hqd hx
    by_cases hab:a=b
    ·subst hab
     have hx3:Hid (R=lexB (p.drop (j+1)) (q.drop (j+1))):=by unfold Hid;rw [hx2.out,if_pos rfl]
     clear hx2
     go_wp2_with fail
     go_quiet (fail)
     go_wp2_with fail
     go_roundw
     case rel=>exact ⟨j+1,by omega,by go_num,hx3,below_drewN hB _⟩
     case measure=>simp [intOf];omega
    ·have hx3:Hid (R=decide (a<b)):=by unfold Hid;rw [hx2.out,if_neg hab]
     have z3:¬(a:Int)=(b:Int):=by omega
     have z1:((a:Int) != (b:Int))=true:=by simpa using z3
     have z2:((a:Int)==(b:Int))=false:=by simpa using z3
     clear hx2
     go_wp2_with fail
     go_quiet (fail)
     go_wp2_with fail
     go_quiet (fail)
     go_wp2_with fail
     go_ret
     exact ⟨by rw [hx3.out];simp,below_drewN (below_drewN hB _) _⟩
   ·have hkm:decide (j<pn)=false:=dfZ hlt
    have hx3:Hid (R=false):=by
     unfold Hid
     rw [hx.out,List.drop_of_length_le (by have:=hp'.out;omega)]
     simp [lexB]
    clear hx
    go_wp2_with fail
    go_ret
    exact ⟨by rw [hx3.out];rfl,hB⟩
 ·have hRl:Hid (R=decide (pn<qn)):=by unfold Hid;rw [<-hR.out,beforeB,if_neg (by rw [hp,hq];exact hne),hp,hq]
  have z3:¬(pn:Int)=(qn:Int):=by omega
  have z1:((pn:Int) != (qn:Int))=true:=by simpa using z3
  have z2:((pn:Int)==(qn:Int))=false:=by simpa using z3
  clear hp hq hR
  go_enter Tryz.func52,Tryz.ntmps52
  go_wp2_with fail
  go_ret
  exact ⟨by rw [hRl.out];simp,Below.refl _ _⟩
end Go.Proofs.YtdjmckjbibfecaaGreatDoor

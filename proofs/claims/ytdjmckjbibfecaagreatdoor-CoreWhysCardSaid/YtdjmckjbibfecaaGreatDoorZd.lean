import Derived.Test.YtdjmckjbibfecaaGreatDoorZc
namespace Go.Proofs.YtdjmckjbibfecaaGreatDoor
open Go Go.RowKit Go.BigFrame Go.Maps
set_option maxRecDepth 100000
set_option maxHeartbeats 3200000
def Tree.text:Tree->ByteArray | .mk _ _ _ x _ _ _ _=>x
def Tree.num:Tree->Int | .mk _ _ _ _ n _ _ _=>n
mutual
def allT (Q:Tree->Prop):Tree->Prop
 | .mk k p f x n A c L=>Q (.mk k p f x n A c L)/\allL Q L
def allL (Q:Tree->Prop):List Tree->Prop
 | []=>True
 | t::L=>allT Q t/\allL Q L
end
theorem allL_mem {Q:Tree->Prop}:∀{L:List Tree},allL Q L->∀t∈L,allT Q t
 | [],_,t,h=>by simp at h
 | u::L,h,t,ht=>by
  rw [allL] at h
  rcases List.mem_cons.1 ht with rfl | ht
  ·exact h.1
  ·exact allL_mem h.2 t ht
theorem allL_of {Q:Tree->Prop}:∀{L:List Tree},(∀t∈L,allT Q t)->allL Q L
 | [],_=>by rw [allL];trivial
 | u::L,h=>by
  rw [allL]
  exact ⟨h u (by simp),allL_of fun t ht=>h t (by simp [ht])⟩
theorem allT_here {Q:Tree->Prop}:∀{t:Tree},allT Q t->Q t
 | .mk _ _ _ _ _ _ _ _,h=>by rw [allT] at h;exact h.1
theorem allT_sub {Q:Tree->Prop}:∀{t:Tree},allT Q t->∀u∈t.sub,allT Q u
 | .mk _ _ _ _ _ _ _ _,h=>by rw [allT] at h;exact allL_mem h.2
mutual
theorem Tree.every {Q:Tree->Prop} (h:∀t,(∀u∈t.sub,Q u)->Q t):∀t:Tree,Q t
 | .mk _ _ _ _ _ _ _ L=>h _ (Tree.everyL h L)
theorem Tree.everyL {Q:Tree->Prop} (h:∀t,(∀u∈t.sub,Q u)->Q t):∀L:List Tree,∀u∈L,Q u
 | [],u,hu=>by simp at hu
 | t::L,u,hu=>by
  rcases List.mem_cons.1 hu with e | hu
  ·rw [e];exact Tree.every h t
  ·exact Tree.everyL h L u hu
end
def SmallT:Tree->Prop:=allT fun t=>t.text.size<=4000000
theorem holds_in (A:Option Addr) (nn c:Nat) (docs:List Pap) (a:Nat) (d:Pap) (hd:docs[a]?=some d):∀t:Tree,HoldsC A nn c docs a d t :=
 Tree.every fun t ih=>holds_walk A nn c docs a d hd t ih
def StandsC (A:Option Addr) (nn c:Nat) (docs:List Pap) (a:Nat) (d:Pap) (t:Tree):Prop :=
 ∀w,Hid (SmallT t)->Hid (TreeAt w t)->Hid (Room w A nn docs)->Calls Tryz.prog 56 #[.agg t.cells,.slice A nn c,.int .i64 a] w fun e w'=>e=.returned (.int .i64 (holdsT docs d t))/\Bz w w'
theorem stands_walk (A:Option Addr) (nn c:Nat) (docs:List Pap) (a:Nat) (d:Pap) (hd:Hid (docs[a]?=some d)) (t:Tree) (ih:Hid (∀u∈t.sub,StandsC A nn c docs a d u)):StandsC A nn c docs a d t:=by
 intro w hS hT hR
 have hSu:=hdZ (allT_sub hS.out)
 have hSx:=hdZ (allT_here hS.out)
 obtain ⟨k,p,f,x,n,A',c',L⟩:=t
 simp only [Tree.sub] at ih hSu
 simp only [Tree.cells]
 simp only [Tree.text] at hSx
 obtain ⟨m,hm⟩:=nmZ (L.length)
 rw [hm.out]
 have hnn:=hR.out.most
 have hlt:a<nn:=by have:=(gsZ.1 hd.out).1;have:=hR.out.len;omega
 have hrows:=hdZ (rows_sub hT.out).1
 have hml:m<=9223372036854775807:=by have:=(rows_sub hT.out).2;rw [hm.out] at this;unfold maxLen at this;exact this
 have hb0:Bz w (w.alloc (.cells #[.int .i64 k,.int .i64 p,.string f,.string x,.int .i64 n,.slice A' m c'] 24)):=(Below.refl _ w).alloc leZ _
 have hblk:=hdZ (Blk.new w 24 #[.int .i64 k,.int .i64 p,.string f,.string x,.int .i64 n,.slice A' m c'])
 have hb0':=hdZ hb0
 clear hb0
 by_cases hk3:k=0\/k=1\/k=2
 ·rcases hk3 with rfl | rfl | rfl
  ·go_enter Tryz.func56,Tryz.ntmps56
   go_wp2_with fail
   go_loopw [9,7,8] (fun j s s' wr=>∃(q:Nat) (sv bv:Int),q<=m/\j=.int .i64 q/\s=.int .i64 sv/\s'=.int .i64 bv/\(0<=sv/\sv<=2)/\(0<=bv/\bv<=2)/\Hid (greatT docs d L 0=greatT docs d (L.drop q) sv)/\Hid (leastT docs d L 2=leastT docs d (L.drop q) bv)/\Hid (Bz w wr)/\Hid (Blk wr w.heap.size 24 #[.int .i64 0,.int .i64 p,.string f,.string x,.int .i64 n,.slice A' m c'])) (fun j _ _ _=>m-(intOf j).toNat)
   case atStart=>exact ⟨0,0,2,Nat.zero_le _,rfl,rfl,rfl,by omega,by omega,rfl,rfl,hb0'.out,hblk.out⟩
   case round =>
    obtain ⟨q,sv,bv,hk,rfl,rfl,rfl,⟨hs0,hs2⟩,⟨hv0,hv2⟩,hsame,hsame2,hB,hbk⟩:=hrel
    have e0:=hbk.out.cell 0
    have e5:=hbk.out.cell 5
    simp only [List.getElem?_toArray,List.getElem?_cons_zero,List.getElem?_cons_succ] at e0 e5
    by_cases hlt:q<m
    ·obtain ⟨t,ht⟩:∃x,L[q]?=some x:=⟨_,gZ (by have:=hm.out;omega)⟩
     have hmem:=hdZ (mgZ ht)
     have ht':=hdZ ht
     clear ht
     obtain ⟨hc,hT⟩:=(hrows.out.below hB.out).get q t ht'.out
     have hT':=hdZ hT
     clear hT
     obtain ⟨tk,tp,tf,tx,tn,tA,tc,tL⟩:=t
     obtain ⟨b,off,rfl,h0,h1,h2,h3,h4,h5⟩:=hc
     rw [Nat.zero_add] at h0 h1 h2 h3 h4 h5
     go_wp2_with fail
     refine (ih.out _ hmem.out _ (hSu.out _ hmem.out) hT' (hR.out.below hB.out)).mono ?_
     rintro e w1 ⟨rfl,hb2⟩
     have hB1:=btY hB hb2
     have hbk1:=kbY hbk hb2
     have hrg:=holdsT_range docs d (.mk tk tp tf tx tn tA tc tL)
     obtain ⟨r,hr⟩:=nmZ (holdsT docs d (.mk tk tp tf tx tn tA tc tL))
     rw [hr.out] at hrg ⊢
     obtain ⟨hr0,hr2⟩:=hrg
     clear hb2 e0 e5 h0 h1 h2 h3 h4 h5
     go_wp2_with fail
     go_roundw
     case rel=>exact ⟨q+1,_,_,by omega,by go_num,rfl,rfl,by omega,by omega,great_step hsame.out ht'.out (by rw [hr.out]),least_step hsame2.out ht'.out (by rw [hr.out]),hB1,hbk1⟩
     case measure=>simp [intOf];omega
    ·have hg:Hid (greatT docs d L 0=sv):=by unfold Hid;rw [hsame.out,List.drop_eq_nil_of_le (by have:=hm.out;omega),greatT]
     have hl:Hid (leastT docs d L 2=bv):=by unfold Hid;rw [hsame2.out,List.drop_eq_nil_of_le (by have:=hm.out;omega),leastT]
     go_wp2_with fail
     go_ret
     refine ⟨?_,hB.out⟩
     rw [holdsT]
     first
      | (rw [if_pos rfl,hg.out];rfl)
      | (rw [if_neg (by omega),if_pos rfl,hl.out];rfl)
      | (rw [if_neg (by omega),if_neg (by omega),if_pos rfl,hg.out];rfl)
  ·go_enter Tryz.func56,Tryz.ntmps56
   go_wp2_with fail
   go_loopw [9,7,8] (fun j s s' wr=>∃(q:Nat) (sv bv:Int),q<=m/\j=.int .i64 q/\s=.int .i64 sv/\s'=.int .i64 bv/\(0<=sv/\sv<=2)/\(0<=bv/\bv<=2)/\Hid (greatT docs d L 0=greatT docs d (L.drop q) sv)/\Hid (leastT docs d L 2=leastT docs d (L.drop q) bv)/\Hid (Bz w wr)/\Hid (Blk wr w.heap.size 24 #[.int .i64 1,.int .i64 p,.string f,.string x,.int .i64 n,.slice A' m c'])) (fun j _ _ _=>m-(intOf j).toNat)
   case atStart=>exact ⟨0,0,2,Nat.zero_le _,rfl,rfl,rfl,by omega,by omega,rfl,rfl,hb0'.out,hblk.out⟩
   case round =>
    obtain ⟨q,sv,bv,hk,rfl,rfl,rfl,⟨hs0,hs2⟩,⟨hv0,hv2⟩,hsame,hsame2,hB,hbk⟩:=hrel
    have e0:=hbk.out.cell 0
    have e5:=hbk.out.cell 5
    simp only [List.getElem?_toArray,List.getElem?_cons_zero,List.getElem?_cons_succ] at e0 e5
    by_cases hlt:q<m
    ·obtain ⟨t,ht⟩:∃x,L[q]?=some x:=⟨_,gZ (by have:=hm.out;omega)⟩
     have hmem:=hdZ (mgZ ht)
     have ht':=hdZ ht
     clear ht
     obtain ⟨hc,hT⟩:=(hrows.out.below hB.out).get q t ht'.out
     have hT':=hdZ hT
     clear hT
     obtain ⟨tk,tp,tf,tx,tn,tA,tc,tL⟩:=t
     obtain ⟨b,off,rfl,h0,h1,h2,h3,h4,h5⟩:=hc
     rw [Nat.zero_add] at h0 h1 h2 h3 h4 h5
     go_wp2_with fail
     refine (ih.out _ hmem.out _ (hSu.out _ hmem.out) hT' (hR.out.below hB.out)).mono ?_
     rintro e w1 ⟨rfl,hb2⟩
     have hB1:=btY hB hb2
     have hbk1:=kbY hbk hb2
     have hrg:=holdsT_range docs d (.mk tk tp tf tx tn tA tc tL)
     obtain ⟨r,hr⟩:=nmZ (holdsT docs d (.mk tk tp tf tx tn tA tc tL))
     rw [hr.out] at hrg ⊢
     obtain ⟨hr0,hr2⟩:=hrg
     clear hb2 e0 e5 h0 h1 h2 h3 h4 h5
     go_wp2_with fail
     go_roundw
     case rel=>exact ⟨q+1,_,_,by omega,by go_num,rfl,rfl,by omega,by omega,great_step hsame.out ht'.out (by rw [hr.out]),least_step hsame2.out ht'.out (by rw [hr.out]),hB1,hbk1⟩
     case measure=>simp [intOf];omega
    ·have hg:Hid (greatT docs d L 0=sv):=by unfold Hid;rw [hsame.out,List.drop_eq_nil_of_le (by have:=hm.out;omega),greatT]
     have hl:Hid (leastT docs d L 2=bv):=by unfold Hid;rw [hsame2.out,List.drop_eq_nil_of_le (by have:=hm.out;omega),leastT]
     go_wp2_with fail
     go_ret
     refine ⟨?_,hB.out⟩
     rw [holdsT]
     first
      | (rw [if_pos rfl,hg.out];rfl)
      | (rw [if_neg (by omega),if_pos rfl,hl.out];rfl)
      | (rw [if_neg (by omega),if_neg (by omega),if_pos rfl,hg.out];rfl)
  ·go_enter Tryz.func56,Tryz.ntmps56
   go_wp2_with fail
   go_loopw [9,7,8] (fun j s s' wr=>∃(q:Nat) (sv bv:Int),q<=m/\j=.int .i64 q/\s=.int .i64 sv/\s'=.int .i64 bv/\(0<=sv/\sv<=2)/\(0<=bv/\bv<=2)/\Hid (greatT docs d L 0=greatT docs d (L.drop q) sv)/\Hid (leastT docs d L 2=leastT docs d (L.drop q) bv)/\Hid (Bz w wr)/\Hid (Blk wr w.heap.size 24 #[.int .i64 2,.int .i64 p,.string f,.string x,.int .i64 n,.slice A' m c'])) (fun j _ _ _=>m-(intOf j).toNat)
   case atStart=>exact ⟨0,0,2,Nat.zero_le _,rfl,rfl,rfl,by omega,by omega,rfl,rfl,hb0'.out,hblk.out⟩
   case round =>
    obtain ⟨q,sv,bv,hk,rfl,rfl,rfl,⟨hs0,hs2⟩,⟨hv0,hv2⟩,hsame,hsame2,hB,hbk⟩:=hrel
    have e0:=hbk.out.cell 0
    have e5:=hbk.out.cell 5
    simp only [List.getElem?_toArray,List.getElem?_cons_zero,List.getElem?_cons_succ] at e0 e5
    by_cases hlt:q<m
    ·obtain ⟨t,ht⟩:∃x,L[q]?=some x:=⟨_,gZ (by have:=hm.out;omega)⟩
     have hmem:=hdZ (mgZ ht)
     have ht':=hdZ ht
     clear ht
     obtain ⟨hc,hT⟩:=(hrows.out.below hB.out).get q t ht'.out
     have hT':=hdZ hT
     clear hT
     obtain ⟨tk,tp,tf,tx,tn,tA,tc,tL⟩:=t
     obtain ⟨b,off,rfl,h0,h1,h2,h3,h4,h5⟩:=hc
     rw [Nat.zero_add] at h0 h1 h2 h3 h4 h5
     go_wp2_with fail
     refine (ih.out _ hmem.out _ (hSu.out _ hmem.out) hT' (hR.out.below hB.out)).mono ?_
     rintro e w1 ⟨rfl,hb2⟩
     have hB1:=btY hB hb2
     have hbk1:=kbY hbk hb2
     have hrg:=holdsT_range docs d (.mk tk tp tf tx tn tA tc tL)
     obtain ⟨r,hr⟩:=nmZ (holdsT docs d (.mk tk tp tf tx tn tA tc tL))
     rw [hr.out] at hrg ⊢
     obtain ⟨hr0,hr2⟩:=hrg
     clear hb2 e0 e5 h0 h1 h2 h3 h4 h5
     go_wp2_with fail
     go_roundw
     case rel=>exact ⟨q+1,_,_,by omega,by go_num,rfl,rfl,by omega,by omega,great_step hsame.out ht'.out (by rw [hr.out]),least_step hsame2.out ht'.out (by rw [hr.out]),hB1,hbk1⟩
     case measure=>simp [intOf];omega
    ·have hg:Hid (greatT docs d L 0=sv):=by unfold Hid;rw [hsame.out,List.drop_eq_nil_of_le (by have:=hm.out;omega),greatT]
     have hl:Hid (leastT docs d L 2=bv):=by unfold Hid;rw [hsame2.out,List.drop_eq_nil_of_le (by have:=hm.out;omega),leastT]
     go_wp2_with fail
     go_ret
     refine ⟨?_,hB.out⟩
     rw [holdsT]
     first
      | (rw [if_pos rfl,hg.out];rfl)
      | (rw [if_neg (by omega),if_pos rfl,hl.out];rfl)
      | (rw [if_neg (by omega),if_neg (by omega),if_pos rfl,hg.out];rfl)
 have k0:¬k=0:=fun h=>hk3 (.inl h)
 have k1:¬k=1:=fun h=>hk3 (.inr (.inl h))
 have k2:¬k=2:=fun h=>hk3 (.inr (.inr h))
 clear hk3
 by_cases hk:3<=k/\k<=7
 ·have hat:Hid (holdsT docs d (.mk k p f x n A' c' L)=(match getF d.fields f with | some v=>atomT docs k p x n v | none=>1)):=by
   unfold Hid;rw [holdsT,if_neg k0,if_neg k1,if_neg k2,if_pos hk];rfl
  obtain ⟨bd,offd,rfl,g0,g1,g2,g3,g4,g5,g6⟩:=hR.out.at_ a d hd.out
  have hbd:bd<w.heap.size:=World.block_lt_of_cell? w _ g0
  have hsm:∀v,getF d.fields f=some v->v.size<=4000000:=by
   intro v hv
   obtain ⟨fl,hfl,rfl⟩:=getF_mem hv
   exact hR.out.small d (mgZ hd.out) fl hfl
  have hsm':=hdZ hsm
  obtain ⟨dk,dn,di,fA,fc,fs⟩:=d
  simp only at g0 g1 g2 g3 g4 g5 g6 hat hsm'
  have g4':=hdZ g4
  have g5':=hdZ g5
  clear g4 g5 g6 g0 g1 g2 hsm
  obtain ⟨fm,hfm⟩:=nmZ (fs.length)
  rw [hfm.out] at g3
  have g5'':Hid (fm<=maxLen):=by rw [<-hfm.out];exact g5'.out
  obtain ⟨w0,hw0⟩:∃w0,Hid (w0=w.alloc (.cells #[.int .i64 k,.int .i64 p,.string f,.string x,.int .i64 n,.slice A' m c'] 24)):=⟨_,rfl⟩
  have hk':=hdZ hk
  have ht:k=3\/k=4\/k=5\/k=6\/k=7:=by omega
  clear k0 k1 k2 hk
  rcases ht with rfl | rfl | rfl | rfl | rfl
  ·have b0:=hblk.out
   have bb:=hb0'.out
   rw [<-hw0.out] at b0 bb
   have b0':=hdZ b0
   have bb':=hdZ bb
   have hcell0:∀(y:Ext w0),y.wd.cell? ⟨w.heap.size,2,none⟩=some (.string f):=fun y=>by rw [y.cell _ b0'.out.lt,b0'.out.cell];rfl
   have hcell3:∀(y:Ext w0),y.wd.cell? ⟨bd,offd+a*4+3,none⟩=some (.slice fA fm fc):=fun y=>by
    rw [y.cell _ (by have:=bb'.out.size;show bd<_;omega),bb'.out.cell hbd];exact g3
   clear b0 bb
   go_enter Tryz.func56,Tryz.ntmps56
   go_wp2_with fail
   rw [<-hw0.out]
   refine wp_region_ext (by kernel_rfl) (by kernel_rfl) ?_
   repeat (go_big_quiet_step ((go_at_call 101;exact Calls.ext_of (getR_any fA fm fc fs f _ g5''.out hfm (g4'.out.below (bb'.out.trans ((Ext.below _).mono bb'.out.size)))))))
   refine wpQuiet_nil ?_
   rintro _ ⟨y,rfl⟩
   have hBy:Hid (Bz w y.wd):=bb'.out.trans (y.below.mono bb'.out.size)
   have hby:=hdZ (b0'.out.below y.below b0'.out.lt)
   obtain ⟨wy,hwy⟩:∃wy,Hid (wy=y.wd):=⟨_,rfl⟩
   rw [<-hwy.out] at hBy hby ⊢
   clear hcell0 hcell3
   obtain ⟨r,hr⟩:=nmZ (getF fs f)
   have hgv:Hid (getV fs f=r.getD ⟨#[]⟩):=by unfold Hid getV;rw [hr.out]
   have hgb:Hid (getB fs f=r.isSome):=by unfold Hid getB;rw [hr.out]
   rw [hgv.out,hgb.out]
   cases r with
   | none =>
    go_wp2_with fail
    go_ret
    exact ⟨by rw [hat.out,hr.out];rfl,hBy.out⟩
   | some v =>
    have hvs:=hdZ (hsm'.out v hr.out)
    go_wp2_with fail
    refine (numberR_any v wy).mono ?_
    rintro e w2 ⟨rfl,hb2⟩
    have hB2:=btY hBy hb2
    have hbl:=kbY hby hb2
    have hRo:=hdZ (hR.out.below hB2.out)
    have c0:w2.cell? ⟨w.heap.size,0,none⟩=_:=hbl.out.cell 0
    have c1:w2.cell? ⟨w.heap.size,1,none⟩=_:=hbl.out.cell 1
    have c3:w2.cell? ⟨w.heap.size,3,none⟩=_:=hbl.out.cell 3
    have c4:w2.cell? ⟨w.heap.size,4,none⟩=_:=hbl.out.cell 4
    simp only [List.getElem?_toArray,List.getElem?_cons_zero,List.getElem?_cons_succ] at c0 c1 c3 c4
    clear hb2
    obtain ⟨rn,hrn⟩:=nmZ (numF v.data.toList)
    rw [hrn.out]
    unfold twoN
    have hat2:Hid (atomT docs 3 p x n v=soT (decide (v.toList=x.toList))):=by unfold Hid atomT;rw [if_pos rfl]
    by_cases hq:v.toList=x.toList
    ·have hq1:(v.toList==x.toList)=true:=by simp [hq]
     have hq':=hdZ hq
     clear hq
     go_wp2_with fail
     refine (so_any true _).mono ?_
     rintro e w3 ⟨rfl,rfl⟩
     go_wp2_with fail
     go_ret
     exact ⟨by rw [hat.out,hr.out];show _=Ending.returned (.int .i64 (atomT docs 3 p x n v));rw [hat2.out,dtZ hq'.out];rfl,hB2.out⟩
    ·have hq1:(v.toList==x.toList)=false:=by simp [hq]
     have hq':=hdZ hq
     clear hq
     go_wp2_with fail
     refine (so_any false _).mono ?_
     rintro e w3 ⟨rfl,rfl⟩
     go_wp2_with fail
     go_ret
     exact ⟨by rw [hat.out,hr.out];show _=Ending.returned (.int .i64 (atomT docs 3 p x n v));rw [hat2.out,dfZ hq'.out];rfl,hB2.out⟩
  ·have b0:=hblk.out
   have bb:=hb0'.out
   rw [<-hw0.out] at b0 bb
   have b0':=hdZ b0
   have bb':=hdZ bb
   have hcell0:∀(y:Ext w0),y.wd.cell? ⟨w.heap.size,2,none⟩=some (.string f):=fun y=>by rw [y.cell _ b0'.out.lt,b0'.out.cell];rfl
   have hcell3:∀(y:Ext w0),y.wd.cell? ⟨bd,offd+a*4+3,none⟩=some (.slice fA fm fc):=fun y=>by
    rw [y.cell _ (by have:=bb'.out.size;show bd<_;omega),bb'.out.cell hbd];exact g3
   clear b0 bb
   go_enter Tryz.func56,Tryz.ntmps56
   go_wp2_with fail
   rw [<-hw0.out]
   refine wp_region_ext (by kernel_rfl) (by kernel_rfl) ?_
   repeat (go_big_quiet_step ((go_at_call 101;exact Calls.ext_of (getR_any fA fm fc fs f _ g5''.out hfm (g4'.out.below (bb'.out.trans ((Ext.below _).mono bb'.out.size)))))))
   refine wpQuiet_nil ?_
   rintro _ ⟨y,rfl⟩
   have hBy:Hid (Bz w y.wd):=bb'.out.trans (y.below.mono bb'.out.size)
   have hby:=hdZ (b0'.out.below y.below b0'.out.lt)
   obtain ⟨wy,hwy⟩:∃wy,Hid (wy=y.wd):=⟨_,rfl⟩
   rw [<-hwy.out] at hBy hby ⊢
   clear hcell0 hcell3
   obtain ⟨r,hr⟩:=nmZ (getF fs f)
   have hgv:Hid (getV fs f=r.getD ⟨#[]⟩):=by unfold Hid getV;rw [hr.out]
   have hgb:Hid (getB fs f=r.isSome):=by unfold Hid getB;rw [hr.out]
   rw [hgv.out,hgb.out]
   cases r with
   | none =>
    go_wp2_with fail
    go_ret
    exact ⟨by rw [hat.out,hr.out];rfl,hBy.out⟩
   | some v =>
    have hvs:=hdZ (hsm'.out v hr.out)
    go_wp2_with fail
    refine (numberR_any v wy).mono ?_
    rintro e w2 ⟨rfl,hb2⟩
    have hB2:=btY hBy hb2
    have hbl:=kbY hby hb2
    have hRo:=hdZ (hR.out.below hB2.out)
    have c0:w2.cell? ⟨w.heap.size,0,none⟩=_:=hbl.out.cell 0
    have c1:w2.cell? ⟨w.heap.size,1,none⟩=_:=hbl.out.cell 1
    have c3:w2.cell? ⟨w.heap.size,3,none⟩=_:=hbl.out.cell 3
    have c4:w2.cell? ⟨w.heap.size,4,none⟩=_:=hbl.out.cell 4
    simp only [List.getElem?_toArray,List.getElem?_cons_zero,List.getElem?_cons_succ] at c0 c1 c3 c4
    clear hb2
    obtain ⟨rn,hrn⟩:=nmZ (numF v.data.toList)
    rw [hrn.out]
    unfold twoN
    have hat2:Hid (atomT docs 4 p x n v=soT (Lib.contains v.data.toList x.data.toList)):=by unfold Hid atomT;rw [if_neg (by omega),if_pos rfl]
    go_wp2_with fail
    refine (within_any v x _ hvs.out hSx.out).mono ?_
    rintro e w3 ⟨rfl,rfl⟩
    go_wp2_with fail
    refine (so_any _ _).mono ?_
    rintro e w3 ⟨rfl,rfl⟩
    go_wp2_with fail
    go_ret
    exact ⟨by rw [hat.out,hr.out];show _=Ending.returned (.int .i64 (atomT docs 4 p x n v));rw [hat2.out];rfl,hB2.out⟩
  ·have b0:=hblk.out
   have bb:=hb0'.out
   rw [<-hw0.out] at b0 bb
   have b0':=hdZ b0
   have bb':=hdZ bb
   have hcell0:∀(y:Ext w0),y.wd.cell? ⟨w.heap.size,2,none⟩=some (.string f):=fun y=>by rw [y.cell _ b0'.out.lt,b0'.out.cell];rfl
   have hcell3:∀(y:Ext w0),y.wd.cell? ⟨bd,offd+a*4+3,none⟩=some (.slice fA fm fc):=fun y=>by
    rw [y.cell _ (by have:=bb'.out.size;show bd<_;omega),bb'.out.cell hbd];exact g3
   clear b0 bb
   go_enter Tryz.func56,Tryz.ntmps56
   go_wp2_with fail
   rw [<-hw0.out]
   refine wp_region_ext (by kernel_rfl) (by kernel_rfl) ?_
   repeat (go_big_quiet_step ((go_at_call 101;exact Calls.ext_of (getR_any fA fm fc fs f _ g5''.out hfm (g4'.out.below (bb'.out.trans ((Ext.below _).mono bb'.out.size)))))))
   refine wpQuiet_nil ?_
   rintro _ ⟨y,rfl⟩
   have hBy:Hid (Bz w y.wd):=bb'.out.trans (y.below.mono bb'.out.size)
   have hby:=hdZ (b0'.out.below y.below b0'.out.lt)
   obtain ⟨wy,hwy⟩:∃wy,Hid (wy=y.wd):=⟨_,rfl⟩
   rw [<-hwy.out] at hBy hby ⊢
   clear hcell0 hcell3
   obtain ⟨r,hr⟩:=nmZ (getF fs f)
   have hgv:Hid (getV fs f=r.getD ⟨#[]⟩):=by unfold Hid getV;rw [hr.out]
   have hgb:Hid (getB fs f=r.isSome):=by unfold Hid getB;rw [hr.out]
   rw [hgv.out,hgb.out]
   cases r with
   | none =>
    go_wp2_with fail
    go_ret
    exact ⟨by rw [hat.out,hr.out];rfl,hBy.out⟩
   | some v =>
    have hvs:=hdZ (hsm'.out v hr.out)
    go_wp2_with fail
    refine (numberR_any v wy).mono ?_
    rintro e w2 ⟨rfl,hb2⟩
    have hB2:=btY hBy hb2
    have hbl:=kbY hby hb2
    have hRo:=hdZ (hR.out.below hB2.out)
    have c0:w2.cell? ⟨w.heap.size,0,none⟩=_:=hbl.out.cell 0
    have c1:w2.cell? ⟨w.heap.size,1,none⟩=_:=hbl.out.cell 1
    have c3:w2.cell? ⟨w.heap.size,3,none⟩=_:=hbl.out.cell 3
    have c4:w2.cell? ⟨w.heap.size,4,none⟩=_:=hbl.out.cell 4
    simp only [List.getElem?_toArray,List.getElem?_cons_zero,List.getElem?_cons_succ] at c0 c1 c3 c4
    clear hb2
    obtain ⟨rn,hrn⟩:=nmZ (numF v.data.toList)
    rw [hrn.out]
    unfold twoN
    have hat2:Hid (atomT docs 5 p x n v=soT (match numF v.data.toList with | some m=>decide (m<=n) | none=>false)):=by unfold Hid atomT;rw [if_neg (by omega),if_neg (by omega),if_pos rfl];rfl
    rcases rn with _ | r
    ·go_wp2_with fail
     refine (so_any false _).mono ?_
     rintro e w3 ⟨rfl,rfl⟩
     go_wp2_with fail
     go_ret
     exact ⟨by rw [hat.out,hr.out];show _=Ending.returned (.int .i64 (atomT docs 5 p x n v));rw [hat2.out,hrn.out];rfl,hB2.out⟩
    ·by_cases hle:r<=n
     ·have hle1:decide (r<=n)=true:=by simp [hle]
      go_wp2_with fail
      refine (so_any true _).mono ?_
      rintro e w3 ⟨rfl,rfl⟩
      go_wp2_with fail
      go_ret
      exact ⟨by rw [hat.out,hr.out];show _=Ending.returned (.int .i64 (atomT docs 5 p x n v));rw [hat2.out,hrn.out];simp [soT,hle],hB2.out⟩
     ·have hle1:decide (r<=n)=false:=by simp [hle]
      go_wp2_with fail
      refine (so_any false _).mono ?_
      rintro e w3 ⟨rfl,rfl⟩
      go_wp2_with fail
      go_ret
      exact ⟨by rw [hat.out,hr.out];show _=Ending.returned (.int .i64 (atomT docs 5 p x n v));rw [hat2.out,hrn.out];simp [soT,hle],hB2.out⟩
  ·have b0:=hblk.out
   have bb:=hb0'.out
   rw [<-hw0.out] at b0 bb
   have b0':=hdZ b0
   have bb':=hdZ bb
   have hcell0:∀(y:Ext w0),y.wd.cell? ⟨w.heap.size,2,none⟩=some (.string f):=fun y=>by rw [y.cell _ b0'.out.lt,b0'.out.cell];rfl
   have hcell3:∀(y:Ext w0),y.wd.cell? ⟨bd,offd+a*4+3,none⟩=some (.slice fA fm fc):=fun y=>by
    rw [y.cell _ (by have:=bb'.out.size;show bd<_;omega),bb'.out.cell hbd];exact g3
   clear b0 bb
   go_enter Tryz.func56,Tryz.ntmps56
   go_wp2_with fail
   rw [<-hw0.out]
   refine wp_region_ext (by kernel_rfl) (by kernel_rfl) ?_
   repeat (go_big_quiet_step ((go_at_call 101;exact Calls.ext_of (getR_any fA fm fc fs f _ g5''.out hfm (g4'.out.below (bb'.out.trans ((Ext.below _).mono bb'.out.size)))))))
   refine wpQuiet_nil ?_
   rintro _ ⟨y,rfl⟩
   have hBy:Hid (Bz w y.wd):=bb'.out.trans (y.below.mono bb'.out.size)
   have hby:=hdZ (b0'.out.below y.below b0'.out.lt)
   obtain ⟨wy,hwy⟩:∃wy,Hid (wy=y.wd):=⟨_,rfl⟩
   rw [<-hwy.out] at hBy hby ⊢
   clear hcell0 hcell3
   obtain ⟨r,hr⟩:=nmZ (getF fs f)
   have hgv:Hid (getV fs f=r.getD ⟨#[]⟩):=by unfold Hid getV;rw [hr.out]
   have hgb:Hid (getB fs f=r.isSome):=by unfold Hid getB;rw [hr.out]
   rw [hgv.out,hgb.out]
   cases r with
   | none =>
    go_wp2_with fail
    go_ret
    exact ⟨by rw [hat.out,hr.out];rfl,hBy.out⟩
   | some v =>
    have hvs:=hdZ (hsm'.out v hr.out)
    go_wp2_with fail
    refine (numberR_any v wy).mono ?_
    rintro e w2 ⟨rfl,hb2⟩
    have hB2:=btY hBy hb2
    have hbl:=kbY hby hb2
    have hRo:=hdZ (hR.out.below hB2.out)
    have c0:w2.cell? ⟨w.heap.size,0,none⟩=_:=hbl.out.cell 0
    have c1:w2.cell? ⟨w.heap.size,1,none⟩=_:=hbl.out.cell 1
    have c3:w2.cell? ⟨w.heap.size,3,none⟩=_:=hbl.out.cell 3
    have c4:w2.cell? ⟨w.heap.size,4,none⟩=_:=hbl.out.cell 4
    simp only [List.getElem?_toArray,List.getElem?_cons_zero,List.getElem?_cons_succ] at c0 c1 c3 c4
    clear hb2
    obtain ⟨rn,hrn⟩:=nmZ (numF v.data.toList)
    rw [hrn.out]
    unfold twoN
    have hat2:Hid (atomT docs 6 p x n v=soT (match numF v.data.toList with | some m=>decide (n<=m) | none=>false)):=by unfold Hid atomT;rw [if_neg (by omega),if_neg (by omega),if_neg (by omega),if_pos rfl];rfl
    rcases rn with _ | r
    ·go_wp2_with fail
     refine (so_any false _).mono ?_
     rintro e w3 ⟨rfl,rfl⟩
     go_wp2_with fail
     go_ret
     exact ⟨by rw [hat.out,hr.out];show _=Ending.returned (.int .i64 (atomT docs 6 p x n v));rw [hat2.out,hrn.out];rfl,hB2.out⟩
    ·by_cases hle:n<=r
     ·have hle1:decide (n<=r)=true:=by simp [hle]
      go_wp2_with fail
      refine (so_any true _).mono ?_
      rintro e w3 ⟨rfl,rfl⟩
      go_wp2_with fail
      go_ret
      exact ⟨by rw [hat.out,hr.out];show _=Ending.returned (.int .i64 (atomT docs 6 p x n v));rw [hat2.out,hrn.out];simp [soT,hle],hB2.out⟩
     ·have hle1:decide (n<=r)=false:=by simp [hle]
      go_wp2_with fail
      refine (so_any false _).mono ?_
      rintro e w3 ⟨rfl,rfl⟩
      go_wp2_with fail
      go_ret
      exact ⟨by rw [hat.out,hr.out];show _=Ending.returned (.int .i64 (atomT docs 6 p x n v));rw [hat2.out,hrn.out];simp [soT,hle],hB2.out⟩
  ·have b0:=hblk.out
   have bb:=hb0'.out
   rw [<-hw0.out] at b0 bb
   have b0':=hdZ b0
   have bb':=hdZ bb
   have hcell0:∀(y:Ext w0),y.wd.cell? ⟨w.heap.size,2,none⟩=some (.string f):=fun y=>by rw [y.cell _ b0'.out.lt,b0'.out.cell];rfl
   have hcell3:∀(y:Ext w0),y.wd.cell? ⟨bd,offd+a*4+3,none⟩=some (.slice fA fm fc):=fun y=>by
    rw [y.cell _ (by have:=bb'.out.size;show bd<_;omega),bb'.out.cell hbd];exact g3
   clear b0 bb
   go_enter Tryz.func56,Tryz.ntmps56
   go_wp2_with fail
   rw [<-hw0.out]
   refine wp_region_ext (by kernel_rfl) (by kernel_rfl) ?_
   repeat (go_big_quiet_step ((go_at_call 101;exact Calls.ext_of (getR_any fA fm fc fs f _ g5''.out hfm (g4'.out.below (bb'.out.trans ((Ext.below _).mono bb'.out.size)))))))
   refine wpQuiet_nil ?_
   rintro _ ⟨y,rfl⟩
   have hBy:Hid (Bz w y.wd):=bb'.out.trans (y.below.mono bb'.out.size)
   have hby:=hdZ (b0'.out.below y.below b0'.out.lt)
   obtain ⟨wy,hwy⟩:∃wy,Hid (wy=y.wd):=⟨_,rfl⟩
   rw [<-hwy.out] at hBy hby ⊢
   clear hcell0 hcell3
   obtain ⟨r,hr⟩:=nmZ (getF fs f)
   have hgv:Hid (getV fs f=r.getD ⟨#[]⟩):=by unfold Hid getV;rw [hr.out]
   have hgb:Hid (getB fs f=r.isSome):=by unfold Hid getB;rw [hr.out]
   rw [hgv.out,hgb.out]
   cases r with
   | none =>
    go_wp2_with fail
    go_ret
    exact ⟨by rw [hat.out,hr.out];rfl,hBy.out⟩
   | some v =>
    have hvs:=hdZ (hsm'.out v hr.out)
    go_wp2_with fail
    refine (numberR_any v wy).mono ?_
    rintro e w2 ⟨rfl,hb2⟩
    have hB2:=btY hBy hb2
    have hbl:=kbY hby hb2
    have hRo:=hdZ (hR.out.below hB2.out)
    have c0:w2.cell? ⟨w.heap.size,0,none⟩=_:=hbl.out.cell 0
    have c1:w2.cell? ⟨w.heap.size,1,none⟩=_:=hbl.out.cell 1
    have c3:w2.cell? ⟨w.heap.size,3,none⟩=_:=hbl.out.cell 3
    have c4:w2.cell? ⟨w.heap.size,4,none⟩=_:=hbl.out.cell 4
    simp only [List.getElem?_toArray,List.getElem?_cons_zero,List.getElem?_cons_succ] at c0 c1 c3 c4
    clear hb2
    obtain ⟨rn,hrn⟩:=nmZ (numF v.data.toList)
    rw [hrn.out]
    unfold twoN
    have hat2:Hid (atomT docs 7 p x n v=(match fieldD docs p x with | some u=>soT (decide (v.toList=u.toList)) | none=>1)):=by unfold Hid atomT;rw [if_neg (by omega),if_neg (by omega),if_neg (by omega),if_neg (by omega),if_pos rfl];rfl
    go_wp2_with fail
    refine (fieldR_any _ nn c docs p x _ (by unfold maxLen;omega) hRo.out.len hRo.out.at_).mono ?_
    rintro e w3 ⟨rfl,hb3⟩
    have hB3:=btY hB2 hb3
    obtain ⟨rd,hrd⟩:=nmZ (fieldD docs p x)
    rw [hrd.out]
    clear hb3
    rcases rd with _ | u
    ·unfold two
     go_wp2_with fail
     go_ret
     exact ⟨by rw [hat.out,hr.out];show _=Ending.returned (.int .i64 (atomT docs 7 p x n v));rw [hat2.out,hrd.out];rfl,hB3.out⟩
    ·unfold two
     by_cases hq:v.toList=u.toList
     ·have hq1:(v.toList==u.toList)=true:=by simp [hq]
      have hq':=hdZ hq
      clear hq
      go_wp2_with fail
      refine (so_any true _).mono ?_
      rintro e w3 ⟨rfl,rfl⟩
      go_wp2_with fail
      go_ret
      exact ⟨by rw [hat.out,hr.out];show _=Ending.returned (.int .i64 (atomT docs 7 p x n v));rw [hat2.out,hrd.out];simp [soT,hq'.out],hB3.out⟩
     ·have hq1:(v.toList==u.toList)=false:=by simp [hq]
      have hq':=hdZ hq
      clear hq
      go_wp2_with fail
      refine (so_any false _).mono ?_
      rintro e w3 ⟨rfl,rfl⟩
      go_wp2_with fail
      go_ret
      exact ⟨by rw [hat.out,hr.out];show _=Ending.returned (.int .i64 (atomT docs 7 p x n v));rw [hat2.out,hrd.out];simp [soT,hq'.out],hB3.out⟩
 ·have hat:Hid (holdsT docs d (.mk k p f x n A' c' L)=2):=by
   unfold Hid;rw [holdsT,if_neg k0,if_neg k1,if_neg k2,if_neg hk]
  have k3:¬k=3:=by omega
  have k4:¬k=4:=by omega
  have k5:¬k=5:=by omega
  have k6:¬k=6:=by omega
  have k7:¬k=7:=by omega
  go_enter Tryz.func56,Tryz.ntmps56
  go_wp2_with fail
  go_ret
  exact ⟨by rw [hat.out];rfl,hb0'.out⟩
theorem stands_in (A:Option Addr) (nn c:Nat) (docs:List Pap) (a:Nat) (d:Pap) (hd:docs[a]?=some d):∀t:Tree,StandsC A nn c docs a d t :=
 Tree.every fun t ih=>stands_walk A nn c docs a d hd t ih
end Go.Proofs.YtdjmckjbibfecaaGreatDoor

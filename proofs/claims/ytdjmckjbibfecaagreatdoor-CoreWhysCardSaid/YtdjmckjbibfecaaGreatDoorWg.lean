import Derived.Test.YtdjmckjbibfecaaGreatDoorVc
namespace Go.Proofs.YtdjmckjbibfecaaGreatDoor
open Go Go.RowKit Go.BigFrame Go.Maps
set_option maxRecDepth 100000
set_option maxHeartbeats 6400000
theorem Tryz.info35:(Tryz.prog.info? 35).map (fun i=>(i.zero,i.size,i.bytes))=some (some (.slice none 0 0),1,24):=by kernel_rfl
def setsV (n q:Nat):List Value:=unatsV (List.range q++List.replicate (n-q) 0)
theorem setsV_zero (n:Nat):setsV n 0=List.replicate n (.int .u64 0):=by simp [setsV,unatsV]
theorem setsV_all (n:Nat):setsV n n=unatsV (List.range n):=by simp [setsV]
theorem setsV_get {n q:Nat} (h:q<n):(setsV n q)[q]?=some (.int .u64 0):=by
 rw [setsV,unatsV,List.getElem?_map,List.getElem?_append_right (by simp)]
 simp [List.getElem?_replicate]
 omega
theorem setsV_set {n q:Nat} (h:q<n):(setsV n q).set q (.int .u64 (q:Int))=setsV n (q+1):=by
 have e:n-q=(n-(q+1))+1:=by omega
 rw [setsV,setsV,unatsV_app,unatsV_app,List.set_append_right _ _ (by simp [unatsV]),e,List.range_succ,unatsV_app]
 simp [unatsV,List.replicate_succ]
theorem foundM_step (E:Nat->Bool) (ss:List Nat) (j a:Nat) (h:ss[j]?=some a):foundM E (ss.take (j+1))=stepF E (foundM E (ss.take j)) a:=by
 obtain ⟨hj,e⟩:=gsZ.1 h
 rw [List.take_succ_eq_append_getElem hj,e]
 unfold foundM
 rw [List.foldl_append]
 rfl
theorem foundM_sub (E:Nat->Bool):∀(l F:List Nat),(l.foldl (stepF E) F).Sublist (F++l)
 | [],F=>by simp
 | a::l,F=>by
  have h:=foundM_sub E l (stepF E F a)
  have h2:(stepF E F a).Sublist (F++[a]):=by
   unfold stepF
   split
   ·exact List.Sublist.refl _
   ·exact List.sublist_append_left _ _
  have h3:=h2.append_right l
  rw [List.append_assoc] at h3
  exact h.trans h3
structure Loop3 (m:Nat) (st:List Int) (ss:List Nat) (v8:Value) (gS n2:Nat) (w W:World) (TC:Array Value) (v7:Value) (AT:List Tree) (FF:List Nat) (vf vc:Value):Prop where
 core:CoreSt w W TC v7 m AT
 st:W.ownsRow w.heap.size 3 1 v8 m (intsV st)
 sets:W.ownsRow w.heap.size 38 1 (.slice (some ⟨gS,0,none⟩) n2 n2) n2 (unatsV ss)
 found:W.ownsRow w.heap.size 38 1 vf FF.length (unatsV FF)
 far:vf.ownBlock≠some gS
 cores:CoresAt W w.heap.size vc (FF.map (plcM 0 m))
section
variable {m:Nat} {st:List Int} {ss:List Nat} {v8:Value} {gS n2:Nat} {w W W':World} {TC:Array Value} {v7:Value} {AT:List Tree} {FF:List Nat} {vf vc:Value}
theorem Loop3.on (h:Loop3 m st ss v8 gS n2 w W TC v7 AT FF vf vc) (hb:Bz W W'):Loop3 m st ss v8 gS n2 w W' TC v7 AT FF vf vc :=
 ⟨h.core.on hb,own_below h.st hb,own_below h.sets hb,own_below h.found hb,h.far,h.cores.on hb⟩
theorem Loop3.sets_lt (h:Loop3 m st ss v8 gS n2 w W TC v7 AT FF vf vc):gS<W.heap.size:=(h.sets.lt gS rfl).2
theorem Loop3.find (h:Loop3 m st ss v8 gS n2 w W TC v7 AT FF vf vc) {a:Nat} {v':Value} (h':W'.ownsRow w.heap.size 38 1 v' (FF.length+1) (unatsV FF++[.int .u64 (a:Int)])) (hg:W.grownBy W' vf.ownBlock) (hv:v'.ownBlock=vf.ownBlock\/v'.ownBlock=some W.heap.size) :
  CoreSt w W' TC v7 m AT/\W'.ownsRow w.heap.size 3 1 v8 m (intsV st)/\W'.ownsRow w.heap.size 38 1 (.slice (some ⟨gS,0,none⟩) n2 n2) n2 (unatsV ss)/\W'.ownsRow w.heap.size 38 1 v' (FF++[a]).length (unatsV (FF++[a]))/\v'.ownBlock≠some gS/\CoresAt W' w.heap.size vc (FF.map (plcM 0 m)):=by
 refine ⟨h.core.far h.found hg (by decide),own_far h.st h.found hg (by decide),h.sets.kept hg (.inr fun e=>h.far e.symm),?_,?_,h.cores.far h.found hg (by decide) (by decide)⟩
 ·rw [List.length_append,unatsV_app];exact h'
 ·rcases hv with e | e
  ·rw [e];exact h.far
  ·rw [e]
   have:=h.sets_lt
   intro e'
   injection e' with e'
   omega
end
theorem cores_any (t:Tree) (A0:Option Addr) (nn c0:Nat) (docs:List Pap) (pl:Int) (w:World) (hT:Hid (TreeAt w t)) (hR:Hid (Room w A0 nn docs)) (hAT:(atomsT t).length<=60) :
  Calls Tryz.prog 13 #[.agg t.cells,.slice A0 nn c0,.int .i64 pl] w fun e w'=>∃v,e=.returned v/\CoresAt w' w.heap.size v (coresE docs t pl)/\Bz w w':=by
 obtain ⟨iN,iNi,iN0,iN1,iN2⟩:=info_parts Tryz.info24
 obtain ⟨iI,iIi,iI0,iI1,iI2⟩:=info_parts Tryz.info3
 obtain ⟨iU,iUi,iU0,iU1,iU2⟩:=info_parts Tryz.info38
 obtain ⟨iS,iSi,iS0,iS1,iS2⟩:=info_parts Tryz.info35
 obtain ⟨AT,hATe⟩:=nmZ (atomsT t)
 obtain ⟨CE,hCE⟩:=nmZ (coresE docs t pl)
 obtain ⟨m,hm⟩:∃m,AT.length=m:=⟨_,rfl⟩
 have hm60:m<=60:=by rw [<-hm,<-hATe.out];exact hAT
 have hm':=hdZ hm
 rw [hCE.out]
 have hnn:=hR.out.most
 have hlen:=hdZ hR.out.len
 have hatoms:=hdZ (fun W (h:TreeAt W t)=>atoms_any t W (hdZ h) (by omega))
 have hholds:=hdZ (fun W (h:TreeAt W t) (r:Room W A0 nn docs)=>holds_any A0 nn c0 docs pl t W h r)
 have hex0:Hid (∀(d:Pap) (set:Nat) (sA:Option Addr) (sc:Nat) (W:World),m<=12->IntsAt W sA (stL docs d t)->set<2 ^ m->TreeAt W t->Calls Tryz.prog 46 #[.agg t.cells,.slice sA m sc,.int .u64 (set:Int)] W fun e W'=>e=.returned (.bool (explB t (stN docs d t) m set))/\Bz W W') :=
  hdZ fun d set sA sc W h12 hA hs hTW=>explains_any t m set (stL docs d t) (stN docs d t) sA sc W h12 (by rw [stL,List.length_map,hATe.out,hm]) (stN_lt docs d t) (fun i hi=>stN_at docs d t i (by rw [stL,List.length_map,hATe.out,hm];exact hi)) hA hs (by rw [hATe.out,hm]) hTW
 have hTA:Hid (∀u∈AT,TreeAt w u):=hdZ (fun u hu=>atoms_at hT.out u (by rw [hATe.out];exact hu))
 rw [hATe.out] at hatoms
 obtain ⟨T,hTd⟩:=nmZ (t)
 obtain ⟨k,p,f,x,n,A,c,L⟩:=t
 simp only [Tree.cells] at hatoms hholds hex0 ⊢
 rw [hTd.out] at hT hCE hex0 hholds hatoms hATe
 clear hAT hm
 obtain ⟨w1,hw1,hb1,hN1⟩:=newZ w 24 #[.int .i64 k,.int .i64 p,.string f,.string x,.int .i64 n,.slice A L.length c]
 obtain ⟨q0,q1,q2,q3,q4,q5⟩:=cs6 hN1.out
 have hat1:=hdZ (hatoms.out w1 (hT.out.below hb1.out))
 clear hatoms
 go_enter Tryz.func13,Tryz.ntmps13
 go_wp2_with (rw [hw1.out])
 refine hat1.out.mono ?_
 rintro e w2 ⟨v7,rfl,hrow7,hb2⟩
 obtain ⟨A7,c7,rfl⟩:=own_form hrow7
 rw [hm'.out] at hrow7 ⊢
 have hC2:Hid (CoreSt w w2 #[.int .i64 k,.int .i64 p,.string f,.string x,.int .i64 n,.slice A L.length c] (.slice A7 m c7) m AT):=⟨hN1.out.below hb2 hN1.out.lt,own_mono hrow7 hb1.out.size,hb1.out.trans (hb2.mono hb1.out.size)⟩
 clear hrow7 hb2 hat1 q0 q1 q2 q3 q4 q5
 have nilEnd:Hid (∀W,Bz w W->CE=[]->∃v,Ending.returned (.slice none 0 0)=Ending.returned v/\CoresAt W w.heap.size v CE/\Bz w W):=hdZ fun W hb he=>⟨_,rfl,by rw [he];exact CoresAt.nil _ _,hb⟩
 by_cases hlow:pl<0
 ·have d1:decide (pl<0)=true:=dtZ hlow
  have he:Hid (CE=[]):=by unfold Hid;rw [<-hCE.out];exact coresE_out (.inl hlow)
  clear hlow
  go_wp2_with fail
  go_ret
  exact nilEnd.out _ hC2.out.below he.out
 have d1:decide (pl<0)=false:=dfZ hlow
 by_cases hhi:(nn:Int)<=pl
 ·have d2:decide ((nn:Int)<=pl)=true:=dtZ hhi
  have he:Hid (CE=[]):=by unfold Hid;rw [<-hCE.out];exact coresE_out (.inr (by rw [hlen.out];exact hhi))
  clear hlow hhi
  go_wp2_with fail
  go_ret
  exact nilEnd.out _ hC2.out.below he.out
 have d2:decide ((nn:Int)<=pl)=false:=dfZ hhi
 obtain ⟨a,rfl⟩:∃a:Nat,pl=a:=⟨pl.toNat,by omega⟩
 obtain ⟨d,hd⟩:∃d,docs[a]?=some d:=⟨_,gZ (by have:=hlen.out;omega)⟩
 have hd':=hdZ hd
 have d2n:decide (nn<=a)=false:=dfZ (by omega)
 have d2m:a<nn:=by omega
 have hce:=coresE_in (t:=T) hd
 rw [hATe.out,hm'.out,hCE.out] at hce
 have hce':=hdZ hce
 have hst:∀u,standsA docs u (a:Int)=holdsT docs d u:=fun u=>standsA_in hd
 have hst':=hdZ hst
 clear hd hce hst
 by_cases h12:12<m
 ·have d3:decide ((12:Int)<(m:Int))=true:=dtZ (by omega)
  have d4:decide (12<m)=true:=dtZ h12
  have he:Hid (CE=[]):=by unfold Hid;rw [hce'.out,if_pos (.inl h12)]
  clear hlow hhi h12
  go_wp2_with fail
  go_ret
  exact nilEnd.out _ hC2.out.below he.out
 have d3:decide ((12:Int)<(m:Int))=false:=dfZ (by omega)
 have d4:decide (12<m)=false:=dfZ h12
 obtain ⟨q0,q1,q2,q3,q4,q5⟩:=cs6 hC2.out.nb
 have hh2:=hdZ (hholds.out w2 (hT.out.below hC2.out.below) (hR.out.below hC2.out.below))
 rw [hst'.out] at hh2
 obtain ⟨hv,hhv⟩:∃z,holdsT docs d T=z:=⟨_,rfl⟩
 rw [hhv] at hh2
 rw [hhv] at hce'
 have hm12:m<=12:=by omega
 clear hholds hlow hhi h12 hhv
 by_cases hz:hv=0
 ·subst hz
  have he:Hid (CE=[]):=by unfold Hid;rw [hce'.out,if_pos (.inr rfl)]
  go_wp2_with fail
  refine hh2.out.mono ?_
  rintro e w3 ⟨rfl,hb3⟩
  have hC3:=hdZ (hC2.out.on hb3)
  clear hb3 hh2 q0 q1 q2 q3 q4 q5
  go_wp2_with fail
  go_ret
  exact nilEnd.out _ hC3.out.below he.out
 have z1:(hv==0)=false:=by simpa using hz
 have hce2:Hid (CE=coresD T (stL docs d T)):=by unfold Hid;rw [hce'.out,if_neg (by omega)]
 clear hce' nilEnd
 go_wp2_with fail
 refine hh2.out.mono ?_
 rintro e w3 ⟨rfl,hb3⟩
 have hC3:=hdZ (hC2.out.on hb3)
 clear hb3 hh2 q0 q1 q2 q3 q4 q5 hC2
 have hm1:Hid (iI.bytes*m<=281474976710656):=by unfold Hid;rw [iI2];omega
 have hm2:Hid (m<=maxLen):=by unfold Hid maxLen;omega
 have hbz:Hid (w.heap.size<=w3.heap.size):=hdZ hC3.out.below.size
 obtain ⟨n2,hn2⟩:∃n2,2 ^ m=n2:=⟨_,rfl⟩
 have hn2':=hdZ hn2
 have hp12:n2<=4096:=by rw [<-hn2];exact Nat.pow_le_pow_right (by omega) hm12
 have hsl:Hid ((stL docs d T).length=m):=by unfold Hid;rw [stL,List.length_map,hATe.out,hm'.out]
 have hsg:Hid (∀q u,AT[q]?=some u->(stL docs d T).take (q+1)=(stL docs d T).take q++[holdsT docs d u]):=hdZ fun q u hu=>by
  have h1:(stL docs d T)[q]?=some (holdsT docs d u):=by rw [stL,hATe.out,List.getElem?_map,hu];rfl
  obtain ⟨hq,e⟩:=gsZ.1 h1
  rw [List.take_succ_eq_append_getElem hq,e]
 have hATl:Hid ((atomsT T).length=m):=by unfold Hid;rw [hATe.out,hm'.out]
 clear hn2 hATe hCE
 go_wp2_with (at_make;go_must (refine wpList_make_own _ rfl _ _ 35 rfl w.heap.size 3 iI _ 1 Tryz.underlying35 iIi iI0 iI1 _ _ _ m rfl rfl rfl hm1.out hm2.out hbz.out ?_);intro w4 hown4 hgr4;have hC4:Hid (CoreSt w w4 #[.int .i64 k,.int .i64 p,.string f,.string x,.int .i64 n,.slice A L.length c] (.slice A7 m c7) m AT):=hdZ (hC3.out.on ((Below.refl _ w3).grown hgr4 leZ (by simp)));have hown4':=hdZ hown4;clear hown4 hgr4)
 go_loopw [8,45] (fun v i wr=>∃q:Nat,q<=m/\i=.int .i64 q/\Hid (wr.ownsRow w.heap.size 3 1 v q (intsV ((stL docs d T).take q)))/\Hid (CoreSt w wr #[.int .i64 k,.int .i64 p,.string f,.string x,.int .i64 n,.slice A L.length c] (.slice A7 m c7) m AT)) (fun _ i _=>m-(intOf i).toNat)
 case atStart=>exact ⟨0,Nat.zero_le _,rfl,hown4',hC4⟩
 case round =>
  obtain ⟨q,hq,rfl,hown,hC⟩:=hrel
  by_cases hlt:q<m
  ·as_aux_lemma =>
   obtain ⟨u,hu⟩:∃u,AT[q]?=some u:=⟨_,gZ (by have:=hm'.out;omega)⟩
   have htk:=hdZ (hsg.out q u hu)
   have huT:=hdZ (hTA.out u (mgZ hu))
   obtain ⟨g7,c9,e9,hg7,hg7l⟩:=own_formS hC.out.row7 (by omega)
   obtain rfl:A7=some ⟨g7,0,none⟩:=by injection e9
   have hcl:∀j v,u.cells.toList[j]?=some v->wr.cell? ⟨g7,q*6+j,none⟩=some v:=fun j v hv=>by
    have:=hC.out.row7.cells (g:=g7) rfl _ v (cellsL_get AT q j u v hu hv)
    have hadd:(⟨g7,0,none⟩:Addr).add (q*6+j)=⟨g7,q*6+j,none⟩:=by unfold Addr.add;split<;>simp_all
    rw [<-hadd];exact this
   have hho:=hdZ (fun W (h:TreeAt W u) (r:Room W A0 nn docs)=>holds_any A0 nn c0 docs (a:Int) u W h r)
   rw [hst'.out] at hho
   obtain ⟨hz9,hhz⟩:∃z,holdsT docs d u=z:=⟨_,rfl⟩
   rw [hhz] at hho htk
   clear hhz e9 hu
   obtain ⟨uk,up,uf,ux,un,uA,uc,uL⟩:=u
   simp only [Tree.cells] at hho hcl
   have d0:wr.cell? ⟨g7,q*6,none⟩=some (.int .i64 uk):=hcl 0 _ rfl
   have d1':wr.cell? ⟨g7,q*6+1,none⟩=some (.int .i64 up):=hcl 1 _ rfl
   have d2':wr.cell? ⟨g7,q*6+2,none⟩=some (.string uf):=hcl 2 _ rfl
   have d3':wr.cell? ⟨g7,q*6+3,none⟩=some (.string ux):=hcl 3 _ rfl
   have d4':wr.cell? ⟨g7,q*6+4,none⟩=some (.int .i64 un):=hcl 4 _ rfl
   have d5':wr.cell? ⟨g7,q*6+5,none⟩=some (.slice uA uL.length uc):=hcl 5 _ rfl
   obtain ⟨w5,hw5,hb5,hN5⟩:=newZ wr 24 #[.int .i64 uk,.int .i64 up,.string uf,.string ux,.int .i64 un,.slice uA uL.length uc]
   have hC5:=hdZ (hC.out.on hb5.out)
   have hown5:=hdZ (own_below hown.out hb5.out)
   have hcall:=hdZ (hho.out w5 (huT.out.below hC5.out.below) (hR.out.below hC5.out.below))
   obtain ⟨r0,r1,r2,r3,r4,r5⟩:=cs6 hN5.out
   obtain ⟨i1,i2,hkm⟩:=inZ hlt
   clear hho hcl
   go_wp2_with (rw [hw5.out])
   refine hcall.out.mono ?_
   rintro e w6 ⟨rfl,hb6⟩
   have hC6:=hdZ (hC5.out.on hb6)
   have hown6:=own_below hown5.out hb6
   clear hb6 hcall r0 r1 r2 r3 r4 r5 d0 d1' d2' d3' d4' d5'
   have hb7:=(Below.refl w6.heap.size w6).alloc leZ (.cells #[.int .i64 hz9] 3)
   have hC7:=hdZ (hC6.out.on hb7)
   have hown7:=hdZ (own_below hown6 hb7)
   have hblk7:=hdZ (blk_reads (Blk.new w6 3 #[.int .i64 hz9]) 1 1 rfl)
   have s1:Hid (q+1<=maxLen):=by unfold Hid maxLen;omega
   have s2:Hid ((q+1)*8<=140737488355328):=by unfold Hid;omega
   have s3:=hdZ hC7.out.below.size
   have s4:Hid (∀u∈(#[.int .i64 hz9]:Array Value).toList,u.oneCell'=true):=hdZ (by intro u hu;simp at hu;subst hu;rfl)
   clear hb7 hown6
   go_wp2_with (at_builtin;go_must (refine wpList_append_any _ rfl _ _ 35 rfl w.heap.size 3 iI _ 1 8 Tryz.underlying35 iIi iI0 iI1 iI2 rfl (by decide) _ q (intsV ((stL docs d T).take q)) rfl hown7.out _ (some ⟨w6.heap.size,0,none⟩) 1 1 [.int .i64 hz9] rfl hblk7.out s4.out s1.out s2.out s3.out ?_);intro v8 w8 ho8 hg8 hv8;have hC8:=hdZ (hC7.out.far hown7.out hg8 (by decide));have ho8':=hdZ ho8;clear ho8 hg8 hv8)
   go_roundw
   case rel=>exact ⟨q+1,by omega,by go_num,by rw [htk.out];unfold intsV;rw [List.map_append];exact ho8',hC8⟩
   case measure=>simp [intOf];omega
  ·have hkm:decide (q<m)=false:=dfZ hlt
   have hqm:m=q:=by omega
   subst hqm
   rw [List.take_of_length_le (by rw [hsl.out];exact Nat.le_refl _)] at hown
   have hown':=hown
   obtain ⟨sA,sc,hv8,_⟩:=own_ints hown.out
   subst hv8
   have hws:IntKind.i64.wrap (2 ^ m)=(n2:Int):=by
    have:=IntWalk.i64_in ((2 ^ m:Nat):Int) (by rw [hn2'.out];omega)
    rw [<-hn2'.out,<-this]
    simp
   have hq0:(0:Int)<=(m:Int):=by omega
   have hq64:(m:Int)<=64:=by omega
   have hm3:Hid (iU.bytes*n2<=281474976710656):=by unfold Hid;rw [iU2];omega
   have hm4:Hid (n2<=maxLen):=by unfold Hid maxLen;omega
   have hbz5:Hid (w.heap.size<=wr.heap.size):=hdZ hC.out.below.size
   clear hm1 hm2 hbz hown4' hC4 hsg hC3
   obtain ⟨wo,hwo⟩:∃x,x=wr:=⟨_,rfl⟩
   subst hwo
   go_wp2_with (at_make;go_must (refine wpList_make_full _ rfl _ _ 72 rfl w.heap.size 38 iU _ 1 Tryz.underlying72 iUi iU0 iU1 _ _ _ _ n2 rfl rfl rfl rfl hm3.out hm4.out hbz5.out ?_);intro w5 hown5 hgr5;have hb5:=(Below.refl _ wo).grown hgr5 leZ (by simp);have hC5:=hdZ (hC.out.on hb5);have hst5:=hdZ (own_below hown'.out hb5);have hset5:=hdZ hown5;clear hown5 hgr5 hb5)
   have hg5:Hid (w.heap.size<=wo.heap.size):=hbz5
   obtain ⟨g5,hg5e⟩:∃g,wo.heap.size=g:=⟨_,rfl⟩
   rw [hg5e] at hset5 ⊢
   have hset5':Hid (w5.ownsRow w.heap.size 38 1 (.slice (some ⟨g5,0,none⟩) n2 n2) n2 (setsV n2 0)):=by
    unfold Hid
    have h:=hset5.out
    rw [show (Value.int IntKind.u64 0).cells=#[Value.int IntKind.u64 0] from rfl,Nat.mul_one,toList_madeCells_one] at h
    rw [setsV_zero];exact h
   clear hown hown' hC hset5 hg5e hws hq0 hq64 hm3 hm4 hbz5
   go_loopw [63] (fun i wr=>∃q:Nat,q<=n2/\i=.int .i64 q/\Hid (wr.ownsRow w.heap.size 38 1 (.slice (some ⟨g5,0,none⟩) n2 n2) n2 (setsV n2 q))/\Hid (CoreSt w wr #[.int .i64 k,.int .i64 p,.string f,.string x,.int .i64 n,.slice A L.length c] (.slice A7 m c7) m AT)/\Hid (wr.ownsRow w.heap.size 3 1 (.slice sA m sc) m (intsV (stL docs d T)))) (fun i _=>n2-(intOf i).toNat)
   case atStart=>exact ⟨0,Nat.zero_le _,rfl,hset5',hC5,hst5⟩
   case round =>
    clear hset5' hC5 hst5
    obtain ⟨q,hq,rfl,hset,hC,hst⟩:=hrel
    by_cases hlt:q<n2
    ·as_aux_lemma =>
     obtain ⟨i1,i2,hkm⟩:=inZ hlt
     have hwq:IntKind.u64.wrap (q:Int)=(q:Int):=wrapU q (by omega)
     have hfr:wr.frozen? ⟨g5,q,none⟩=false:=hset.out.frozenAt _
     have hce:wr.cell? ⟨g5,q,none⟩=some (.int .u64 0):=by rw [hset.out.cellAt q (by omega)];exact setsV_get hlt
     have hst9:=hset.out.stored q (.int .u64 (q:Int))
     rw [setsV_set hlt] at hst9
     obtain ⟨wS,hwS⟩:=nmZ (wr.setCell ⟨g5,q,none⟩ (.int .u64 (q:Int)))
     rw [hwS.out] at hst9
     have hC9:=hdZ (hC.out.far hset.out hst9.2 (by decide))
     have hst8:=hdZ (own_far hst.out hset.out hst9.2 (by decide))
     have hset9:=hdZ hst9.1
     clear hst9
     go_wp2_with fail
     rw [hwS.out]
     go_roundw
     case rel=>exact ⟨q+1,by omega,by go_num,hset9,hC9,hst8⟩
     case measure=>simp [intOf];omega
    ·have hkm:decide (q<n2)=false:=dfZ hlt
     have hqn:n2=q:=by omega
     subst hqn
     have hsort:=sort_any m hm12 w.heap.size g5 n2 wr (by rw [hn2'.out,<-setsV_all];exact hset.out)
     rw [hn2'.out] at hsort
     have hsort':=hdZ hsort
     clear hsort
     go_wp2_with fail
     refine hsort'.out.mono ?_
     rintro e w8 ⟨rfl,ss,hmem,hpair,hlen8,hset8,hgr8⟩
     have hC8:=hdZ (hC.out.far hset.out hgr8 (by decide))
     have hst8:=own_far hst.out hset.out hgr8 (by decide)
     have hL:Hid (Loop3 m (stL docs d T) ss (.slice sA m sc) g5 n2 w w8 #[.int .i64 k,.int .i64 p,.string f,.string x,.int .i64 n,.slice A L.length c] (.slice A7 m c7) AT (foundM (explB T (stN docs d T) m) (ss.take 0)) (.slice none 0 0) (.slice none 0 0)):=hdZ ⟨hC8.out,hst8,hset8,own_none _ _ _ _,by simp [Value.ownBlock],CoresAt.nil _ _⟩
     have hmem':=hdZ hmem
     have hpair':=hdZ hpair
     have hlen8':=hdZ hlen8
     clear hsort' hset hC hst hmem hpair hset8 hgr8 hC8 hst8
     obtain ⟨E,hE⟩:=nmZ (explB T (stN docs d T) m)
     rw [hE.out] at hL
     go_wp2_with fail
     go_loopw [13,14,76] (fun vf vc i wr=>∃j:Nat,j<=n2/\i=.int .i64 j/\Hid (Loop3 m (stL docs d T) ss (.slice sA m sc) g5 n2 w wr #[.int .i64 k,.int .i64 p,.string f,.string x,.int .i64 n,.slice A L.length c] (.slice A7 m c7) AT (foundM E (ss.take j)) vf vc)) (fun _ _ i _=>n2-(intOf i).toNat)
     case atStart=>exact ⟨0,Nat.zero_le _,rfl,hL⟩
     case round =>
      clear hL
      obtain ⟨j,hj,rfl,hL⟩:=hrel
      by_cases hlt:j<n2
      ·as_aux_lemma =>
       obtain ⟨a9,ha9⟩:∃a,ss[j]?=some a:=⟨_,gZ (by rw [hlen8'.out];exact hlt)⟩
       have hap:a9<2 ^ m:=by rw [hn2'.out];exact (hmem'.out a9).1 (mgZ ha9)
       have ha12:a9<4096:=by rw [hn2'.out] at hap;omega
       have hstep:=foundM_step E ss j a9 ha9
       have hsubl:=foundM_sub E (ss.take j) []
       have hjn:(ss.take j).length<=4096:=by rw [List.length_take];omega
       obtain ⟨FF,hFF⟩:∃l,foundM E (ss.take j)=l:=⟨_,rfl⟩
       have hsubl':FF.Sublist (ss.take j):=by rw [<-hFF];simpa [foundM] using hsubl
       have hFl:FF.length<=4096:=Nat.le_trans hsubl'.length_le hjn
       have hFm:Hid (∀x∈FF,x<4096):=hdZ fun x hx=>by
        have:=(hmem'.out x).1 (List.mem_of_mem_take (hsubl'.subset hx))
        omega
       rw [hFF] at hL hstep
       have hstep':=hdZ hstep
       obtain ⟨fA,fc,rfl,_⟩:=own_u hL.out.found
       have xs:wr.cell? ⟨g5,j,none⟩=some (.int .u64 (a9:Int)):=by rw [hL.out.sets.cellAt j (by omega),unatsV,List.getElem?_map,ha9];rfl
       obtain ⟨w6,hw6,hb6,hB6⟩:=newZ wr 38 #[.int .u64 (a9:Int)]
       have hL6:=hdZ (hL.out.on hb6.out)
       have hfar:Hid ((Value.slice fA FF.length fc).ownBlock≠some wr.heap.size):=hdZ fun e=>by
        have:=(hL.out.found.lt _ e).2;omega
       have xb:w6.cell? ⟨wr.heap.size,0,none⟩=some (.int .u64 (a9:Int)):=hB6.out.cell 0
       have hcont:Hid (Calls Tryz.prog 45 #[.slice fA FF.length fc,.func (.func 44) #[] #[.pointer (some ⟨wr.heap.size,0,none⟩)]] w6 fun e w'=>e=.returned (.bool (FF.any fun f=>subB f a9))/\w6=w'):=by
        obtain ⟨A',c',e',hU⟩:=own_u hL6.out.found
        obtain ⟨rfl,_⟩:fA=A'/\fc=c':=by simpa using e'
        exact hdZ (contains_any fA FF.length fc FF a9 wr.heap.size w6 (by omega) (hdZ rfl) (hdZ hU) ha12 hFm xb)
       have hexp:Hid (Calls Tryz.prog 46 #[.agg #[.int .i64 k,.int .i64 p,.string f,.string x,.int .i64 n,.slice A L.length c],.slice sA m sc,.int .u64 (a9:Int)] w6 fun e W'=>e=.returned (.bool (E a9))/\Bz w6 W'):=by
        obtain ⟨A',c',e',hI⟩:=own_ints hL6.out.st
        obtain ⟨rfl,_⟩:sA=A'/\sc=c':=by simpa using e'
        have h:=hex0.out d a9 sA sc w6 hm12 hI hap (hT.out.below hL6.out.core.below)
        rw [hE.out] at h
        exact hdZ h
       obtain ⟨cv,hcv⟩:∃z,(FF.any fun f=>subB f a9)=z:=⟨_,rfl⟩
       unfold stepF at hstep'
       rw [hcv] at hcont hstep'
       obtain ⟨ea,hea⟩:∃z,E a9=z:=⟨_,rfl⟩
       rw [hea] at hexp hstep'
       obtain ⟨i1,i2,hkm⟩:=inZ hlt
       obtain ⟨q0,q1,q2,q3,q4,q5⟩:=cs6 hL6.out.core.nb
       clear hcv hea ha9 hFF hstep hsubl hsubl' hex0
       cases cv with
       | true =>
        have hnew:Hid (foundM E (ss.take (j+1))=FF):=by unfold Hid;rw [hstep'.out];rfl
        clear hstep' hexp
        go_wp2_with (rw [hw6.out])
        refine hcont.out.mono ?_
        rintro e w7 ⟨rfl,rfl⟩
        go_wp2_with fail
        go_roundw
        case rel=>exact ⟨j+1,by omega,by go_num,by rw [hnew.out];exact hL6⟩
        case measure=>simp [intOf];omega
       | false =>
        cases ea with
        | false =>
         have hnew:Hid (foundM E (ss.take (j+1))=FF):=by unfold Hid;rw [hstep'.out];rfl
         clear hstep'
         go_wp2_with (rw [hw6.out])
         refine hcont.out.mono ?_
         rintro e w7 ⟨rfl,rfl⟩
         go_wp2_with fail
         refine hexp.out.mono ?_
         rintro e w8 ⟨rfl,hb8⟩
         have hL8:=hdZ (hL6.out.on hb8)
         clear hb8 q0 q1 q2 q3 q4 q5
         go_wp2_with fail
         go_roundw
         case rel=>exact ⟨j+1,by omega,by go_num,by rw [hnew.out];exact hL8⟩
         case measure=>simp [intOf];omega
        | true =>
         have hnew:Hid (foundM E (ss.take (j+1))=FF++[a9]):=by unfold Hid;rw [hstep'.out];rfl
         clear hstep'
         go_wp2_with (rw [hw6.out])
         refine hcont.out.mono ?_
         rintro e w7 ⟨rfl,rfl⟩
         go_wp2_with fail
         refine hexp.out.mono ?_
         rintro e w8 ⟨rfl,hb8⟩
         have hL8:=hdZ (hL6.out.on hb8)
         have hB8:=kbY hB6 hb8
         clear hb8 q0 q1 q2 q3 q4 q5 xb hcont hexp
         have xb8:w8.cell? ⟨wr.heap.size,0,none⟩=some (.int .u64 (a9:Int)):=hB8.out.cell 0
         obtain ⟨w9,hw9,hb9,-⟩:=newZ w8 38 #[.int .u64 (a9:Int)]
         have hr9:Hid (Reads w9 w9.heap.size 1 (some ⟨w8.heap.size,0,none⟩) 1 [.int .u64 (a9:Int)]):=by rw [<-hw9.out];exact hdZ (blk_reads (Blk.new w8 38 #[.int .u64 (a9:Int)]) 1 1 rfl)
         have hL9:=hdZ (hL8.out.on hb9.out)
         have hB9:=kbZ hB8 hb9
         have s1:Hid (FF.length+1<=maxLen):=by unfold Hid maxLen;omega
         have s2:Hid ((FF.length+1)*8<=140737488355328):=by unfold Hid;omega
         have s3:=hdZ hL9.out.core.below.size
         have s4:Hid (∀u∈[Value.int .u64 (a9:Int)],u.oneCell'=true):=hdZ (by intro u hu;simp at hu;subst hu;rfl)
         go_wp2_with (first | rw [hw9.out] | (at_builtin;go_must (refine wpList_append_any _ rfl _ _ 72 rfl w.heap.size 38 iU _ 1 8 Tryz.underlying72 iUi iU0 iU1 iU2 rfl (by decide) _ FF.length (unatsV FF) rfl hL9.out.found _ (some ⟨w8.heap.size,0,none⟩) 1 1 [.int .u64 (a9:Int)] rfl hr9.out s4.out s1.out s2.out s3.out ?_);intro v10 w10 ho10 hg10 hv10;have hF10:=hdZ (hL9.out.find ho10 hg10 hv10);have hB10:=hdZ (Blk.kept hB9.out hg10 hfar.out);have xb10:w10.cell? ⟨wr.heap.size,0,none⟩=some (.int .u64 (a9:Int)):=hB10.out.cell 0;clear ho10 hg10 hv10))
         have hp10:=places_any m a9 w10 hm12 hap
         obtain ⟨PL,hPL⟩:=nmZ (plcM 0 m a9)
         rw [hPL.out] at hp10
         have hp10':=hdZ hp10
         clear hp10 s1 s2 s3 s4 hL9 hB9 hr9 hb9 hL8 hB8 hL6 hB6 hL
         go_wp2_with fail
         refine hp10'.out.mono ?_
         rintro e w11 ⟨v9,rfl,hp11,hb11⟩
         obtain ⟨A9,c9,rfl⟩:=own_form hp11
         obtain ⟨hC10,hst10,hset10,hf10,hfar10,hco10⟩:=hF10.out
         have hC11:=hC10.on hb11
         have hst11:=own_below hst10 hb11
         have hset11:=own_below hset10 hb11
         have hf11:=own_below hf10 hb11
         have hp11':=own_mono hp11 hC10.below.size
         obtain ⟨vs,hvl,hcv11,hcf11⟩:=hco10.on hb11
         obtain ⟨w12,hw12⟩:=nmZ (w11.alloc (.cells #[.slice A9 PL.length c9] 35))
         have hb12:Bz w11 w12:=by rw [<-hw12.out];exact (Below.refl _ w11).alloc leZ _
         have hr12:Hid (Reads w12 w12.heap.size 1 (some ⟨w11.heap.size,0,none⟩) 1 [.slice A9 PL.length c9]):=by rw [<-hw12.out];exact hdZ (blk_reads (Blk.new w11 35 #[.slice A9 PL.length c9]) 1 1 rfl)
         have hC12:=hdZ (hC11.on hb12)
         have hst12:=hdZ (own_below hst11 hb12)
         have hset12:=hdZ (own_below hset11 hb12)
         have hf12:=hdZ (own_below hf11 hb12)
         have hp12:=hdZ (own_below hp11' hb12)
         have hcv12:=hdZ (own_below hcv11 hb12)
         have hcf12:=hdZ (fun i p x hi hx=>own_below (hcf11 i p x hi hx) hb12)
         have hvl':=hdZ hvl
         have hfar':=hdZ hfar10
         rw [List.length_map] at hcv12
         have s1:Hid (FF.length+1<=maxLen):=by unfold Hid maxLen;omega
         have s2:Hid ((FF.length+1)*24<=140737488355328):=by unfold Hid;omega
         have s3:=hdZ hC12.out.below.size
         have s4:Hid (∀u∈[Value.slice A9 PL.length c9],u.oneCell'=true):=hdZ (by intro u hu;simp at hu;subst hu;rfl)
         clear hp11 hp11' hb11 hC10 hst10 hset10 hf10 hfar10 hco10 hC11 hst11 hset11 hf11 hcv11 hcf11 hb12 hvl hp10' hF10 hB10 xb10
         go_wp2_with (first | rw [hw12.out] | (at_builtin;go_must (refine wpList_append_any _ rfl _ _ 28 rfl w.heap.size 35 iS _ 1 24 Tryz.underlying28 iSi iS0 iS1 iS2 rfl (by decide) _ FF.length vs rfl hcv12.out _ (some ⟨w11.heap.size,0,none⟩) 1 1 [.slice A9 PL.length c9] rfl hr12.out s4.out s1.out s2.out s3.out ?_);intro v13 w13 ho13 hg13 hv13;have hL13:Hid (Loop3 m (stL docs d T) ss (.slice sA m sc) g5 n2 w w13 #[.int .i64 k,.int .i64 p,.string f,.string x,.int .i64 n,.slice A L.length c] (.slice A7 m c7) AT (FF++[a9]) v10 v13):=hdZ ⟨hC12.out.far hcv12.out hg13 (by decide),own_far hst12.out hcv12.out hg13 (by decide),own_far hset12.out hcv12.out hg13 (by decide),own_far hf12.out hcv12.out hg13 (by decide),hfar'.out,by rw [List.map_append,List.map_cons,List.map_nil,hPL.out];exact CoresAt.snoc hvl'.out (by rw [List.length_map];exact hcv12.out) hcf12.out hp12.out (by rw [List.length_map];exact ho13) hg13⟩;clear ho13 hg13 hv13))
         go_roundw
         case rel=>exact ⟨j+1,by omega,by go_num,by rw [hnew.out];exact hL13⟩
         case measure=>simp [intOf];omega
      ·have hkm:decide (j<n2)=false:=dfZ hlt
       go_wp2_with fail
       go_ret
       refine ⟨_,rfl,?_,hL.out.core.below⟩
       have h:=hL.out.cores
       rw [List.take_of_length_le (by rw [hlen8'.out];omega)] at h
       rw [hce2.out,<-cores_same (stN_lt docs d T) hATl.out hsl.out (fun i hi=>stN_at docs d T i hi) (by rw [hn2'.out];exact hmem'.out) hpair'.out]
       unfold coresP
       rw [hE.out]
       exact h
end Go.Proofs.YtdjmckjbibfecaaGreatDoor

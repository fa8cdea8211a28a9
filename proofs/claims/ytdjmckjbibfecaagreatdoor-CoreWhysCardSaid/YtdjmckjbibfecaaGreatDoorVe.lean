import Derived.Test.YtdjmckjbibfecaaGreatDoorVc
namespace Go.Proofs.YtdjmckjbibfecaaGreatDoor
open Go Go.RowKit Go.BigFrame Go.Maps
set_option maxRecDepth 100000
set_option maxHeartbeats 6400000
theorem freeD_le (S:Nat->Bool):∀n i,freeD S n i<=3 ^ n
 | 0,_=>by simp [freeD]
 | n+1,i=>by
  rw [freeD,Nat.pow_succ]
  have:=freeD_le S n (i+1)
  split<;>omega
theorem pow3_le {m:Nat} (h:m<=12):3 ^ m<=531441:=Nat.pow_le_pow_right (by omega) h
theorem intsV_set (pre rest:List Int) (a b:Int) {q:Nat} (hq:pre.length=q):(intsV (pre++a::rest)).set q (.int .i64 b)=intsV (pre++b::rest):=by
 subst hq
 simp [intsV,List.set_append_right]
theorem drop_cons {α:Type} {l:List α} {q:Nat} {a:α} (h:l[q]?=some a):l.drop q=a::l.drop (q+1):=by
 obtain ⟨h1,h2⟩:=gsZ.1 h
 rw [List.drop_eq_getElem_cons h1,h2]
theorem fillD_02 (S:Nat->Bool):∀(l:List Int) (i y:Nat),(∀x∈l,0<=x/\x<=2)->∀x∈fillD S l i y,0<=x/\x<=2
 | [],_,_,_,x,h=>by simp [fillD] at h
 | a::l,i,y,h,x,hx=>by
  rw [fillD] at hx
  have ih:=fun y'=>fillD_02 S l (i+1) y' (fun z hz=>h z (by simp [hz])) x
  split at hx
  ·rcases List.mem_cons.1 hx with rfl | hx
   ·exact h _ (by simp)
   ·exact ih _ hx
  ·rcases List.mem_cons.1 hx with rfl | hx
   ·omega
   ·exact ih _ hx
structure Fill (S:Nat->Bool) (st:List Int) (x q y:Nat) (pre:List Int):Prop where
 len:pre.length=q
 whole:pre++fillD S (st.drop q) q y=fillD S st 0 x
theorem Fill.zero (S:Nat->Bool) (st:List Int) (x:Nat):Fill S st x 0 x []:=⟨rfl,by simp⟩
theorem Fill.keep {S:Nat->Bool} {st:List Int} {x q y:Nat} {pre:List Int} {a:Int} (h:Fill S st x q y pre) (ha:st[q]?=some a) (hs:S q=true):Fill S st x (q+1) y (pre++[a]):=by
 refine ⟨by simp [h.len],?_⟩
 have:=h.whole
 rw [drop_cons ha,fillD,if_pos hs] at this
 simpa using this
theorem Fill.put {S:Nat->Bool} {st:List Int} {x q y:Nat} {pre:List Int} {a:Int} (h:Fill S st x q y pre) (ha:st[q]?=some a) (hs:S q=false):Fill S st x (q+1) (y / 3) (pre++[((y % 3:Nat):Int)]):=by
 refine ⟨by simp [h.len],?_⟩
 have:=h.whole
 rw [drop_cons ha,fillD,if_neg (by rw [hs];simp)] at this
 simpa using this
theorem explRB_false {t:Tree} {st:List Int} {a x:Nat} (hx:x<freeD (fun i=>a.testBit i) st.length 0) (h:(evalT (atL (fillD (fun i=>a.testBit i) st 0 x)) t 0).1=0):explRB t st a=false:=by
 unfold explRB
 rw [<-Bool.not_eq_true,List.all_eq_true]
 intro hall
 have:=hall x (by simpa using hx)
 rw [decide_eq_true_iff] at this
 exact this h
theorem explRB_true {t:Tree} {st:List Int} {a:Nat} (h:∀x,x<freeD (fun i=>a.testBit i) st.length 0->(evalT (atL (fillD (fun i=>a.testBit i) st 0 x)) t 0).1≠0):explRB t st a=true:=by
 unfold explRB
 rw [List.all_eq_true]
 intro x hx
 rw [decide_eq_true_iff]
 exact h x (by simpa using hx)
theorem explR_any (t:Tree) (st:List Int) (m a:Nat) (sA:Option Addr) (sc:Nat) (w:World) (hm:m<=12) (hl:st.length=m) (hat:(atomsT t).length=m) (ha:a<4096) (h02:Hid (∀x∈st,0<=x/\x<=2)) (hI:Hid (IntsAt w sA st)) (hT:Hid (TreeAt w t)) :
  Calls Tryz.prog 49 #[.agg t.cells,.slice sA m sc,.int .i64 (a:Int)] w fun e w'=>e=.returned (.bool (explRB t st a))/\Below w.heap.size w w':=by
 obtain ⟨i0,hi,hz0,hz1,hz2⟩:=info_parts Tryz.info3
 have hhas:=hdZ (fun (i:Nat) (h:i<=60) (W:World)=>has_any a i W ha h)
 have hl':=hdZ hl
 have hat':=hdZ hat
 obtain ⟨S,hS⟩:∃S:Nat->Bool,Hid (S=fun i=>a.testBit i):=⟨_,rfl⟩
 have hSq:∀q,a.testBit q=S q:=fun q=>by rw [hS.out]
 have hhas2:Hid (∀(i:Nat),i<=60->∀W:World,Calls Tryz.prog 50 #[.int .i64 (a:Int),.int .i64 (i:Int)] W fun e w'=>e=.returned (.bool (S i))/\W=w'):=hdZ fun i h W=>by rw [<-hSq];exact hhas.out i h W
 obtain ⟨R,hR⟩:=nmZ (explRB t st a)
 have hno:Hid (∀x,x<freeD S m 0->(evalT (atL (fillD S st 0 x)) t 0).1=0->R=false):=hdZ fun x hx h=>by
  rw [<-hR.out];exact explRB_false (x:=x) (by rw [hl,<-hS.out];exact hx) (by rw [<-hS.out];exact h)
 have hyes:Hid ((∀x,x<freeD S m 0->(evalT (atL (fillD S st 0 x)) t 0).1≠0)->R=true):=hdZ fun h=>by
  rw [<-hR.out];exact explRB_true (by rw [hl,<-hS.out];exact h)
 rw [hR.out]
 obtain ⟨FD,hFD⟩:∃FD,freeD S m 0=FD:=⟨_,rfl⟩
 have hFDle:FD<=531441:=by rw [<-hFD];exact Nat.le_trans (freeD_le S m 0) (pow3_le hm)
 rw [hFD] at hno hyes
 have hFD':=hdZ hFD
 have hevs:Hid (∀x,0<=(evalT (atL (fillD S st 0 x)) t 0).1/\(evalT (atL (fillD S st 0 x)) t 0).1<=2):=hdZ fun x=>evalT_range t 0 (inR_of (fillD_02 S st 0 x h02.out) _ _)
 have hcallE:Hid (∀(x:Nat) (tA:Option Addr) (tc:Nat) (W:World),IntsAt W tA (fillD S st 0 x)->TreeAt W t->Calls Tryz.prog 19 #[.agg t.cells,.slice tA m tc,.int .i64 0] W fun e w'=>e=.returned (.tuple #[.int .i64 (evalT (atL (fillD S st 0 x)) t 0).1,.int .i64 (m:Int)])/\Below W.heap.size W w'):=hdZ fun x tA tc W h1 h2=>by
  have:=eval_any (fillD S st 0 x) tA m tc (by rw [fillD_len,hl]) (by omega) (hdZ (fillD_02 S st 0 x h02.out)) t 0 W (hdZ h2) (hdZ h1) (by rw [hat];omega)
  rw [hat,Nat.zero_add] at this
  exact this
 clear hl hat hhas hFD hR hS hSq
 obtain ⟨T,hTd⟩:=nmZ (t)
 obtain ⟨k,p,f,x,n,A,c,L⟩:=t
 simp only [Tree.cells] at hcallE ⊢
 rw [hTd.out] at hT hno hyes hevs hcallE
 clear hTd hat'
 obtain ⟨w1,hw1,hb1,hN1⟩:=newZ w 24 #[.int .i64 k,.int .i64 p,.string f,.string x,.int .i64 n,.slice A L.length c]
 go_enter Tryz.func49,Tryz.ntmps49
 go_wp2_with (rw [hw1.out])
 go_loopw [7,8] (fun fv i wr=>∃(q F:Nat),q<=m/\i=.int .i64 q/\fv=.int .i64 (F:Int)/\F<=531441/\Hid (F*freeD S (m-q) q=FD)/\wr=w1) (fun _ i _=>m-(intOf i).toNat)
 case atStart=>exact ⟨0,1,Nat.zero_le _,rfl,rfl,by omega,hdZ (by rw [Nat.one_mul,Nat.sub_zero];exact hFD'.out),by trivial⟩
 case round =>
  obtain ⟨q,F,hq,rfl,rfl,hF,hFq,rfl⟩:=hrel
  by_cases hlt:q<m
  ·as_aux_lemma =>
   have hcall:=hdZ (hhas2.out q (by omega) wr)
   have hms:m-q=(m-(q+1))+1:=by omega
   have hFq2:=hFq.out
   rw [hms,freeD] at hFq2
   have hpos:=freeD_pos S (m-(q+1)) (q+1)
   obtain ⟨G,hG⟩:∃G,freeD S (m-(q+1)) (q+1)=G:=⟨_,rfl⟩
   rw [hG] at hFq2 hpos
   have hG':=hdZ hG
   obtain ⟨i1,-,hkm⟩:=inZ hlt
   obtain ⟨b,hb⟩:∃b,S q=b:=⟨_,rfl⟩
   rw [hb] at hcall hFq2
   clear hFq hG hb hms
   cases b with
   | true =>
    have hF3:Hid (F*G=FD):=by unfold Hid;rw [<-hFq2,if_pos rfl]
    clear hFq2
    go_wp2_with fail
    refine hcall.out.mono ?_
    rintro e w2 ⟨rfl,rfl⟩
    go_wp2_with fail
    go_roundw
    case rel=>exact ⟨q+1,F,by omega,by go_num,rfl,hF,by rw [hG'.out];exact hF3,by trivial⟩
    case measure=>simp [intOf];omega
   | false =>
    have hF3:(3*F)*G=FD:=by rw [<-hFq2,if_neg (by simp),<-Nat.mul_assoc,Nat.mul_comm 3 F]
    have hF4:3*F<=531441:=by
     have:3*F*1<=3*F*G:=Nat.mul_le_mul_left _ hpos
     omega
    have hF3':=hdZ hF3
    have w3:IntKind.i64.wrap (3*(F:Int))=((3*F:Nat):Int):=by
     have:=IntWalk.i64_in (3*(F:Int)) (by omega)
     rw [this];simp
    clear hFq2 hF3
    go_wp2_with fail
    refine hcall.out.mono ?_
    rintro e w2 ⟨rfl,rfl⟩
    go_wp2_with fail
    go_roundw
    case rel=>exact ⟨q+1,3*F,by omega,by go_num,by simp,hF4,by rw [hG'.out];exact hF3',by trivial⟩
    case measure=>simp [intOf];omega
  ·have hkm:decide (q<m)=false:=dfZ hlt
   have hqm:m=q:=by omega
   subst hqm
   have hFF:F=FD:=by have:=hFq.out;rw [Nat.sub_self,freeD,Nat.mul_one] at this;exact this
   subst hFF
   clear hFq
   obtain ⟨w1,hw1e⟩:∃x,x=wr:=⟨_,rfl⟩
   subst hw1e
   have hI1:=hdZ (hI.out.below hb1.out)
   go_wp2_with fail
   go_loopw [9] (fun i wr=>∃(y:Nat),y<=F/\i=.int .i64 y/\Hid (∀x,x<y->(evalT (atL (fillD S st 0 x)) T 0).1≠0)/\Hid (Blk wr w.heap.size 24 #[.int .i64 k,.int .i64 p,.string f,.string x,.int .i64 n,.slice A L.length c])/\Hid (Below w.heap.size w wr)) (fun i _=>F-(intOf i).toNat)
   case atStart=>exact ⟨0,Nat.zero_le _,rfl,hdZ (fun x h=>absurd h (Nat.not_lt_zero _)),hN1,hb1⟩
   case round =>
    obtain ⟨y0,hy,rfl,hprev,hN,hB⟩:=hrel
    by_cases hlt:y0<F
    ·have hkm2:decide (y0<F)=true:=dtZ hlt
     have hwF:(y0:Int)<(F:Int):=by omega
     obtain ⟨w6,hw6⟩:=nmZ (wr.alloc (.cells #[] 3))
     have hb6:Hid (Below wr.heap.size wr w6):=by rw [<-hw6.out];exact hdZ ((Below.refl _ wr).alloc leZ _)
     have ho6:Hid (w6.ownsRow wr.heap.size 3 1 (.slice (some ⟨wr.heap.size,0,none⟩) 0 0) 0 []):=by rw [<-hw6.out];exact hdZ (own_new wr 3 1)
     have hN6:=kbZ hN hb6
     have hB6:=btZ hB hb6
     have hr6:=hdZ (ints_reads (hI.out.below hB6.out) hl'.out)
     have s1:Hid (0+m<=maxLen):=by unfold Hid maxLen;omega
     have s2:Hid ((0+m)*8<=140737488355328):=by unfold Hid;omega
     have s3:=hdZ hb6.out.size
     have s4:Hid (∀u∈intsV st,u.oneCell'=true):=hdZ (by intro u hu;obtain ⟨x,_,rfl⟩:=List.mem_map.1 hu;rfl)
     have hlt6:=hdZ hN.out.lt
     go_wp2_with (first | rw [hw6.out] | (at_builtin;go_must (refine wpList_append_any _ rfl _ _ 35 rfl wr.heap.size 3 i0 _ 1 8 Tryz.underlying35 hi hz0 hz1 hz2 rfl (by decide) _ 0 [] rfl ho6.out _ sA m sc (intsV st) rfl hr6.out s4.out s1.out s2.out s3.out ?_);intro v7 w7 ho7 hg7 hv7;have ho7':=hdZ ho7;have hB7:=hdZ (hB6.out.grown hg7 hB6.out.size (fun j hj=>Nat.le_trans hB.out.size (ho6.out.lt j hj).1));have hN7:=hdZ (own_above ho6.out hlt6.out hN6.out hg7);clear ho7 hg7 hv7))
     rw [List.nil_append,Nat.zero_add] at ho7'
     obtain ⟨tA,tc,rfl⟩:=own_form ho7'.out
     obtain ⟨Bz,hBz⟩:∃Bz,wr.heap.size=Bz:=⟨_,rfl⟩
     rw [hBz] at ho7'
     have hlt7:Hid (w.heap.size<Bz):=by unfold Hid;rw [<-hBz];exact hlt6.out
     clear hr6 s1 s2 s3 s4 hw6 hb6 ho6 hN6 hB6 hN hB hlt6 hBz
     go_loopw [11,12] (fun yv i wr=>∃(q y:Nat) (pre:List Int),q<=m/\i=.int .i64 q/\yv=.int .i64 (y:Int)/\y<=531441/\Hid (Fill S st y0 q y pre)/\Hid (wr.ownsRow Bz 3 1 (.slice tA m tc) m (intsV (pre++st.drop q)))/\Hid (Blk wr w.heap.size 24 #[.int .i64 k,.int .i64 p,.string f,.string x,.int .i64 n,.slice A L.length c])/\Hid (Below w.heap.size w wr)) (fun _ i _=>m-(intOf i).toNat)
     case atStart=>exact ⟨0,y0,[],Nat.zero_le _,rfl,rfl,by omega,hdZ (Fill.zero _ _ _),by rw [List.drop_zero,List.nil_append];exact ho7',hN7,hB7⟩
     case round =>
      clear ho7' hN7 hB7
      obtain ⟨q,y,pre,hq,rfl,rfl,hy9,hfill,hown,hN,hB⟩:=hrel
      by_cases hlt2:q<m
      ·as_aux_lemma =>
       have hcall:=hdZ (hhas2.out q (by omega) wr)
       obtain ⟨a0,ha0⟩:∃x,st[q]?=some x:=⟨_,gZ (by have:=hl'.out;omega)⟩
       obtain ⟨i1,i2,hkm3⟩:=inZ hlt2
       have hown2:=hown.out
       rw [drop_cons ha0] at hown2
       obtain ⟨b,hb⟩:∃b,S q=b:=⟨_,rfl⟩
       rw [hb] at hcall
       cases b with
       | true =>
        have hf9:=hdZ (hfill.out.keep ha0 hb)
        have ho9:Hid (wr.ownsRow Bz 3 1 (.slice tA m tc) m (intsV ((pre++[a0])++st.drop (q+1)))):=by unfold Hid;rw [List.append_assoc];exact hown2
        clear hfill hown hown2 ha0 hb
        go_wp2_with fail
        refine hcall.out.mono ?_
        rintro e w8 ⟨rfl,rfl⟩
        go_wp2_with fail
        go_roundw
        case rel=>exact ⟨q+1,y,pre++[a0],by omega,by go_num,rfl,hy9,hf9,ho9,hN,hB⟩
        case measure=>simp [intOf];omega
       | false =>
        have hf9:=hdZ (hfill.out.put ha0 hb)
        obtain ⟨g5,c5,e5,hg5,hg5l⟩:=own_formS hown2 (by omega)
        simp only [Value.slice.injEq,true_and] at e5
        obtain ⟨rfl,rfl⟩:=e5
        have hfr:wr.frozen? ⟨g5,q,none⟩=false:=hown2.frozenAt _
        have hce:wr.cell? ⟨g5,q,none⟩=some (.int .i64 a0):=by
         rw [hown2.cellAt q (by omega),intsV,List.getElem?_map,List.getElem?_append_right (by rw [hfill.out.len];exact Nat.le_refl _),hfill.out.len,Nat.sub_self]
         rfl
        have hst9:=hown2.stored q (.int .i64 ((y % 3:Nat):Int))
        rw [intsV_set _ _ _ _ hfill.out.len] at hst9
        have hmod:(y:Int).tmod 3=((y % 3:Nat):Int):=by rw [Int.tmod_eq_emod_of_nonneg (by omega)];simp
        have hdiv:(y:Int).tdiv 3=((y / 3:Nat):Int):=by rw [Int.tdiv_eq_ediv_of_nonneg (by omega)];simp
        obtain ⟨ym,hym⟩:∃ym:Nat,y % 3=ym:=⟨_,rfl⟩
        obtain ⟨yd,hyd⟩:∃yd:Nat,y / 3=yd:=⟨_,rfl⟩
        have hyd9:yd<=531441:=by omega
        have hym9:ym<3:=by omega
        rw [hym] at hst9 hmod hf9
        rw [hyd] at hdiv hf9
        have wm:IntKind.i64.wrap (ym:Int)=(ym:Int):=IntWalk.i64_in _ (by omega)
        have wd:IntKind.i64.wrap (yd:Int)=(yd:Int):=IntWalk.i64_in _ (by omega)
        have ho9:Hid ((wr.setCell ⟨g5,q,none⟩ (.int .i64 (ym:Int))).ownsRow Bz 3 1 (.slice (some ⟨g5,0,none⟩) m tc) m (intsV ((pre++[(ym:Int)])++st.drop (q+1)))):=by unfold Hid;rw [List.append_assoc];exact hst9.1
        have hN9:=hdZ (own_above hown2 hlt7.out hN.out hst9.2)
        have hB9:=hdZ (hB.out.grown hst9.2 hB.out.size (fun j hj=>Nat.le_trans (Nat.le_of_lt hlt7.out) (hown2.lt j hj).1))
        clear hfill hown hown2 ha0 hb hst9 hym hyd
        go_wp2_with fail
        refine hcall.out.mono ?_
        rintro e w8 ⟨rfl,rfl⟩
        go_wp2_with fail
        go_roundw
        case rel=>exact ⟨q+1,yd,pre++[(ym:Int)],by omega,by go_num,rfl,hyd9,hf9,ho9,hN9,hB9⟩
        case measure=>simp [intOf];omega
      ·have hkm3:decide (q<m)=false:=dfZ hlt2
       have hfin:pre++st.drop q=fillD S st 0 y0:=by
        have h:=hfill.out.whole
        rw [List.drop_of_length_le (by have:=hl'.out;omega)] at h ⊢
        simpa [fillD] using h
       rw [hfin] at hown
       obtain ⟨tA',tc',e',hIt⟩:=own_ints hown.out
       obtain ⟨rfl,rfl⟩:tA=tA'/\tc=tc':=by simpa using e'
       have hcall:=hdZ (hcallE.out y0 tA tc wr hIt (hT.out.below hB.out))
       obtain ⟨E,hE⟩:∃E,(evalT (atL (fillD S st 0 y0)) T 0).1=E:=⟨_,rfl⟩
       rw [hE] at hcall
       have hE':=hdZ hE
       obtain ⟨q0,q1,q2,q3,q4,q5⟩:=cs6 hN.out
       clear hfill hown hIt e' hfin hE
       by_cases hz:E=0
       ·subst hz
        have hRf:Hid (R=false):=hdZ (hno.out y0 hlt hE'.out)
        go_wp2_with fail
        refine hcall.out.mono ?_
        rintro e w8 ⟨rfl,hb8⟩
        have hB8:Below w.heap.size w w8:=hB.out.trans (hb8.mono hB.out.size)
        clear q0 q1 q2 q3 q4 q5 hb8
        go_wp2_with fail
        go_ret
        exact ⟨by rw [hRf.out];rfl,hB8⟩
       ·have z1:(E==0)=false:=by simpa using hz
        go_wp2_with fail
        refine hcall.out.mono ?_
        rintro e w8 ⟨rfl,hb8⟩
        have hB8:=btY hB hb8
        have hN8:=kbY hN hb8
        clear q0 q1 q2 q3 q4 q5 hb8
        have hnext:Hid (∀x,x<y0+1->(evalT (atL (fillD S st 0 x)) T 0).1≠0):=hdZ fun x hx=>by
         rcases Nat.lt_succ_iff_lt_or_eq.1 hx with h | rfl
         ·exact hprev.out x h
         ·rw [hE'.out];exact hz
        go_wp2_with fail
        go_roundw
        case rel=>exact ⟨y0+1,by omega,by go_num,hnext,hN8,hB8⟩
        case measure=>simp [intOf];omega
    ·have hkm2:decide (y0<F)=false:=dfZ hlt
     have hRt:Hid (R=true):=hdZ (hyes.out fun x hx=>hprev.out x (by omega))
     go_wp2_with fail
     go_ret
     exact ⟨by rw [hRt.out];rfl,hB.out⟩
theorem takeWhile_eq {α:Type} {P:α->Bool}:∀{L:List α} {k:Nat},(∀j x,j<k->L[j]?=some x->P x=true)->k<=L.length->(k=L.length\/∃x,L[k]?=some x/\P x=false)->L.takeWhile P=L.take k/\L.dropWhile P=L.drop k
 | [],k,_,hk,_=>by
  obtain rfl:k=0:=by simpa using hk
  simp
 | a::L,0,_,_,h2=>by
  rcases h2 with h | ⟨x,hx,hp⟩
  ·simp at h
  ·simp at hx;subst hx
   simp [hp]
 | a::L,k+1,h1,hk,h2=>by
  have ha:=h1 0 a (by omega) (by simp)
  have ih:=takeWhile_eq (P:=P) (L:=L) (k:=k) (fun j x hj hx=>h1 (j+1) x (by omega) (by simpa using hx)) (by simpa using hk) (by
   rcases h2 with h | ⟨x,hx,hp⟩
   ·exact .inl (by simpa using h)
   ·exact .inr ⟨x,by simpa using hx,hp⟩)
  simp [ha,ih.1,ih.2]
theorem CoresAt.ins {w:World} {B:Nat} {v px:Value} {vs:List Value} {L:List (List Nat)} {p:List Nat} {k:Nat} (hl:vs.length=L.length) (hk:k<=L.length)
  (hrow:w.ownsRow B 35 1 v (L.length+1) (vs.take k++[px]++vs.drop k)) (hf:∀(i:Nat) (q:List Nat) (x:Value),L[i]?=some q->vs[i]?=some x->w.ownsRow B 3 1 x q.length (natsV q)) (hp:w.ownsRow B 3 1 px p.length (natsV p)):CoresAt w B v (L.take k++p::L.drop k):=by
 have hlen:(L.take k++p::L.drop k).length=L.length+1:=by simp;omega
 refine ⟨vs.take k++[px]++vs.drop k,by simp;omega,by rw [hlen];exact hrow,fun i q x hi hx=>?_⟩
 have hk2:(L.take k).length=k:=by simp;omega
 have hk3:(vs.take k).length=k:=by simp;omega
 rw [List.append_assoc] at hx
 rcases Nat.lt_trichotomy i k with h | h | h
 ·rw [List.getElem?_append_left (by omega),List.getElem?_take_of_lt h] at hi
  rw [List.getElem?_append_left (by omega),List.getElem?_take_of_lt h] at hx
  exact hf i q x hi hx
 ·subst h
  rw [List.getElem?_append_right (by omega),hk2,Nat.sub_self] at hi
  rw [List.getElem?_append_right (by omega),hk3,Nat.sub_self] at hx
  simp at hi hx
  subst hi;subst hx
  exact hp
 ·obtain ⟨j,rfl⟩:∃j,i=k+(j+1):=⟨i-k-1,by omega⟩
  rw [List.getElem?_append_right (by omega),hk2,Nat.add_sub_cancel_left] at hi
  rw [List.getElem?_append_right (by omega),hk3,Nat.add_sub_cancel_left] at hx
  simp at hi hx
  exact hf _ q x hi hx
structure CoreRt (w W:World) (cs0:Array Value) (vs:Value) (m:Nat) (ST:List Int) (vo:Value) (CD:List (List Nat)):Prop where
 nb:Blk W w.heap.size 24 cs0
 ints:W.ownsRow w.heap.size 3 1 vs m (intsV ST)
 cores:CoresAt W w.heap.size vo CD
 some_:∃g c,vo=.slice (some ⟨g,0,none⟩) CD.length c
 below:Bz w W
theorem CoreRt.on {w W W':World} {cs0:Array Value} {vs:Value} {m:Nat} {ST:List Int} {vo:Value} {CD:List (List Nat)} (h:CoreRt w W cs0 vs m ST vo CD) (hb:Bz W W'):CoreRt w W' cs0 vs m ST vo CD :=
 ⟨h.nb.below hb h.nb.lt,own_below h.ints hb,h.cores.on hb,h.some_,h.below.trans (hb.mono h.below.size)⟩
theorem CoresAt.new (w:World) (B:Nat) (hB:B<=w.heap.size):CoresAt (w.alloc (.cells #[] 35)) B (.slice (some ⟨w.heap.size,0,none⟩) 0 0) [] :=
 ⟨[],rfl,own_mono (own_new w 35 1) hB,fun i p x h=>by simp at h⟩
theorem own_slice_lo {w:World} {B n g c:Nat} {e:TypeId} {xs:List Value} (h:w.ownsRow B e 1 (.slice (some ⟨g,0,none⟩) n c) n xs) (k:Nat) (hk:k<=n):Reads w w.heap.size 1 (some ⟨g,0,none⟩) k (xs.take k):=by
 have hx:=h.1
 refine ⟨by simp;omega,fun hn=>⟨_,rfl,(h.lt g rfl).2,fun j u hj=>?_⟩⟩
 have hj':j<k:=by have:=(gsZ.1 hj).1;simp at this;omega
 rw [List.getElem?_take_of_lt hj'] at hj
 exact h.cells (g:=g) rfl j u hj
theorem own_slice_hi {w:World} {B n g c:Nat} {e:TypeId} {xs:List Value} (h:w.ownsRow B e 1 (.slice (some ⟨g,0,none⟩) n c) n xs) (k:Nat) (hk:k<=n):Reads w w.heap.size 1 (some ⟨g,k,none⟩) (n-k) (xs.drop k):=by
 have hx:=h.1
 refine ⟨by simp;omega,fun hn=>⟨_,rfl,(h.lt g rfl).2,fun j u hj=>?_⟩⟩
 rw [List.getElem?_drop] at hj
 have:=h.cells (g:=g) rfl (k+j) u hj
 have h1:(⟨g,0,none⟩:Addr).add (k+j)=⟨g,k+j,none⟩:=by unfold Addr.add;split<;>simp_all
 have h2:(⟨g,k,none⟩:Addr).add j=⟨g,k+j,none⟩:=by unfold Addr.add;split<;>simp_all
 rw [h2,<-h1];exact this
end Go.Proofs.YtdjmckjbibfecaaGreatDoor

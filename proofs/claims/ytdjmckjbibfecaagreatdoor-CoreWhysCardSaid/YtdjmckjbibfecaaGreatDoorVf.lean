import Derived.Test.YtdjmckjbibfecaaGreatDoorVe
import Derived.Test.YtdjmckjbibfecaaGreatDoorWg
namespace Go.Proofs.YtdjmckjbibfecaaGreatDoor
open Go Go.RowKit Go.BigFrame Go.Maps
set_option maxRecDepth 100000
set_option maxHeartbeats 6400000
theorem own_cap {w:World} {B n c:Nat} {e:TypeId} {size:Nat} {A:Option Addr} {xs:List Value} (h:w.ownsRow B e size (.slice A n c) n xs):n<=c:=by
 rcases h.2 with ⟨e1,h0⟩ | ⟨g,cap,cur,e1,_,_,h2,_⟩
 ·omega
 ·simp only [Value.slice.injEq,true_and] at e1
  obtain ⟨_,rfl⟩:=e1
  exact h2
mutual
theorem small_atoms:∀{t:Tree},SmallT t->∀a∈atomsT t,SmallT a
 | .mk k p f x n A c L,h,a,ha=>by
  rw [atomsT] at ha
  split at ha
  ·obtain rfl:=List.mem_singleton.1 ha;exact h
  ·split at ha
   ·unfold SmallT at h
    rw [allT] at h
    exact small_atomsL h.2 a ha
   ·cases ha
theorem small_atomsL:∀{L:List Tree},allL (fun t=>t.text.size<=4000000) L->∀a∈atomsL L,SmallT a
 | [],_,a,ha=>by rw [atomsL] at ha;cases ha
 | t::L,h,a,ha=>by
  rw [allL] at h
  rw [atomsL] at ha
  rcases List.mem_append.1 ha with ha | ha
  ·exact small_atoms h.1 a ha
  ·exact small_atomsL h.2 a ha
end
def CDq (t:Tree) (st:List Int) (q:Nat):List (List Nat):=(List.range q).foldl (stepD t st) []
theorem CDq_succ (t:Tree) (st:List Int) (q:Nat):CDq t st (q+1)=stepD t st (CDq t st q) q:=by unfold CDq;rw [List.range_succ,List.foldl_append];rfl
theorem plcD_le (m a:Nat):(plcD m a).length<=m:=by
 have:=List.length_filter_le (fun i=>a.testBit i) (List.range m)
 simpa [plcD] using this
theorem insD_len (p:List Nat) (out:List (List Nat)):(insD p out).length=out.length+1:=by
 have:=congrArg List.length (List.takeWhile_append_dropWhile (p:=fun q=>beforeB q p) (l:=out))
 rw [List.length_append] at this
 unfold insD
 rw [List.length_append,List.length_cons]
 omega
theorem CDq_all (t:Tree) (st:List Int):∀q,(CDq t st q).length<=q/\∀p∈CDq t st q,p.length<=st.length
 | 0=>by simp [CDq]
 | q+1=>by
  obtain ⟨h1,h2⟩:=CDq_all t st q
  rw [CDq_succ,stepD]
  split
  ·refine ⟨by rw [insD_len];omega,fun p hp=>?_⟩
   rcases insD_mem.1 hp with rfl | h
   ·exact plcD_le _ _
   ·exact h2 p h
  ·exact ⟨by omega,h2⟩
theorem stL_eval (docs:List Pap) (d:Pap) (t:Tree):(evalT (atL (stL docs d t)) t 0).1=holdsT docs d t :=
 holds_eval t 0 fun i a h=>by
  unfold atL stL
  rw [Nat.zero_add,List.getElem?_map,h]
  rfl
theorem stL_02 (docs:List Pap) (d:Pap) (t:Tree):∀x∈stL docs d t,0<=x/\x<=2:=by
 intro x hx
 obtain ⟨u,_,rfl⟩:=List.mem_map.1 hx
 exact holdsT_range docs d u
theorem least_succ (t:Tree) (st:List Int) (a i:Nat):((List.range (i+1)).all fun i=>!(a.testBit i&&explRB t st (a-2 ^ i)))=(((List.range i).all fun i=>!(a.testBit i&&explRB t st (a-2 ^ i)))&&!(a.testBit i&&explRB t st (a-2 ^ i))):=by
 rw [List.range_succ,List.all_append]
 simp
theorem coresR_any (t:Tree) (A0:Option Addr) (nn c0:Nat) (docs:List Pap) (pl:Int) (w:World) (hT:Hid (TreeAt w t)) (hS:Hid (SmallT t)) (hR:Hid (Room w A0 nn docs)) (hAT:(atomsT t).length<=12) :
  Calls Tryz.prog 16 #[.agg t.cells,.slice A0 nn c0,.int .i64 pl] w fun e w'=>∃v,e=.returned v/\CoresAt w' w.heap.size v (coresE docs t pl)/\Bz w w':=by
 obtain ⟨iI,iIi,iI0,iI1,iI2⟩:=info_parts Tryz.info3
 obtain ⟨iS,iSi,iS0,iS1,iS2⟩:=info_parts Tryz.info35
 obtain ⟨AT,hATe⟩:=nmZ (atomsT t)
 obtain ⟨CE,hCE⟩:=nmZ (coresE docs t pl)
 obtain ⟨m,hm⟩:∃m,AT.length=m:=⟨_,rfl⟩
 have hm12:m<=12:=by rw [<-hm,<-hATe.out];exact hAT
 have hm':=hdZ hm
 rw [hCE.out]
 have hnn:=hR.out.most
 have hlen:=hdZ hR.out.len
 have hatoms:Hid (∀W:World,TreeAt W t->Calls Tryz.prog 14 #[.agg t.cells] W fun e w'=>∃v,e=.returned v/\w'.ownsRow W.heap.size 24 6 v m (cellsL AT)/\Bz W w'):=hdZ fun W h=>by
  have:=atomsR_any t W (hdZ h) (by omega)
  rw [hATe.out,hm] at this
  exact this
 have hstand:Hid (∀(d:Pap),docs[pl.toNat]?=some d->0<=pl->∀(lA:Option Addr) (lc B:Nat) (W:World),TreeAt W t->Room W A0 nn docs->W.ownsRow B 24 6 (.slice lA m lc) m (cellsL AT)->Calls Tryz.prog 18 #[.slice lA m lc,.slice A0 nn c0,.int .i64 pl] W fun e w'=>∃v,e=.returned v/\w'.ownsRow W.heap.size 3 1 v m (intsV (stL docs d t))/\Bz W w'):=hdZ fun d hd h0 lA lc B W h1 h2 h3=>by
  have:=stand_any A0 nn c0 docs pl.toNat d hd AT lA m lc B W hm (by omega) (hdZ fun u hu=>atoms_at h1 u (by rw [hATe.out];exact hu)) (hdZ fun u hu=>small_atoms hS.out u (by rw [hATe.out];exact hu)) (hdZ h2) (hdZ h3)
  rw [show ((pl.toNat:Nat):Int)=pl by omega,<-hATe.out] at this
  exact this
 have hsl:Hid (∀d,(stL docs d t).length=m):=hdZ fun d=>by rw [stL,List.length_map,hATe.out,hm]
 have hat:Hid ((atomsT t).length=m):=by unfold Hid;rw [hATe.out,hm]
 have heval:Hid (∀(d:Pap) (sA:Option Addr) (sc:Nat) (W:World),TreeAt W t->IntsAt W sA (stL docs d t)->Calls Tryz.prog 19 #[.agg t.cells,.slice sA m sc,.int .i64 0] W fun e w'=>e=.returned (.tuple #[.int .i64 (holdsT docs d t),.int .i64 (m:Int)])/\Bz W w'):=hdZ fun d sA sc W h1 h2=>by
  have:=eval_any (stL docs d t) sA m sc (hsl.out d) (by omega) (hdZ (stL_02 docs d t)) t 0 W (hdZ h1) (hdZ h2) (by rw [hat.out];omega)
  rw [hat.out,Nat.zero_add,stL_eval] at this
  exact this
 have hexp:Hid (∀(d:Pap) (a:Nat) (sA:Option Addr) (sc:Nat) (W:World),a<4096->TreeAt W t->IntsAt W sA (stL docs d t)->Calls Tryz.prog 49 #[.agg t.cells,.slice sA m sc,.int .i64 (a:Int)] W fun e w'=>e=.returned (.bool (explRB t (stL docs d t) a))/\Bz W w'):=hdZ fun d a sA sc W ha h1 h2 =>
  explR_any t (stL docs d t) m a sA sc W hm12 (hsl.out d) hat.out ha (hdZ (stL_02 docs d t)) (hdZ h2) (hdZ h1)
 obtain ⟨T,hTd⟩:=nmZ (t)
 obtain ⟨k,p,f,x,n,A,c,L⟩:=t
 simp only [Tree.cells] at hatoms heval hexp ⊢
 rw [hTd.out] at hT hCE hatoms heval hexp hstand hsl hat
 have hatT:=hat
 clear hat
 clear hAT hm hATe hS hTd
 obtain ⟨w1,hw1,hb1,hN1⟩:=newZ w 24 #[.int .i64 k,.int .i64 p,.string f,.string x,.int .i64 n,.slice A L.length c]
 obtain ⟨w2,hw2⟩:=nmZ (w1.alloc (.cells #[] 35))
 have hsz:w1.heap.size=w.heap.size+1:=by rw [<-hw1.out];simp
 obtain ⟨g7,hg7⟩:∃g,w.heap.size+1=g:=⟨_,rfl⟩
 have hb2:Hid (Bz w1 w2):=by rw [<-hw2.out];exact hdZ ((Below.refl _ w1).alloc leZ _)
 have hN2:=kbZ hN1 hb2
 have hB2:=btZ hb1 hb2
 have hO2:Hid (CoresAt w2 w.heap.size (.slice (some ⟨g7,0,none⟩) 0 0) []):=by rw [<-hw2.out,<-hg7,<-hsz];exact hdZ (CoresAt.new w1 w.heap.size hb1.out.size)
 have nilEnd:Hid (∀W,Bz w W->Bz w2 W->CE=[]->∃v,Ending.returned (.slice (some ⟨g7,0,none⟩) 0 0)=Ending.returned v/\CoresAt W w.heap.size v CE/\Bz w W):=hdZ fun W hb hb' he=>⟨_,rfl,by rw [he];exact hO2.out.on hb',hb⟩
 by_cases hlow:pl<0
 ·have d1:decide (pl<0)=true:=dtZ hlow
  have he:Hid (CE=[]):=by unfold Hid;rw [<-hCE.out];exact coresE_out (.inl hlow)
  clear hlow
  go_enter Tryz.func16,Tryz.ntmps16
  go_wp2_with (first | rw [hw1.out,hw2.out] | rw [hw1.out] | rw [hw2.out])
  go_ret
  exact nilEnd.out _ hB2.out (Below.refl _ _) he.out
 have d1:decide (pl<0)=false:=dfZ hlow
 by_cases hhi:(nn:Int)<=pl
 ·have d2:decide ((nn:Int)<=pl)=true:=dtZ hhi
  have he:Hid (CE=[]):=by unfold Hid;rw [<-hCE.out];exact coresE_out (.inr (by rw [hlen.out];exact hhi))
  clear hlow hhi
  go_enter Tryz.func16,Tryz.ntmps16
  go_wp2_with (first | rw [hw1.out,hw2.out] | rw [hw1.out] | rw [hw2.out])
  go_ret
  exact nilEnd.out _ hB2.out (Below.refl _ _) he.out
 have d2:decide ((nn:Int)<=pl)=false:=dfZ hhi
 obtain ⟨a,rfl⟩:∃a:Nat,pl=a:=⟨pl.toNat,by omega⟩
 obtain ⟨d,hd⟩:∃d,docs[a]?=some d:=⟨_,gZ (by have:=hlen.out;omega)⟩
 have d2n:decide (nn<=a)=false:=dfZ (by omega)
 have d2m:a<nn:=by omega
 have hce:=coresE_in (t:=T) hd
 rw [hatT.out,hCE.out] at hce
 have hce':=hdZ hce
 have hstand':=hdZ (hstand.out d (by simpa using hd) (by omega))
 have heval':=hdZ (heval.out d)
 have hexp':=hdZ (hexp.out d)
 have hsl':=hdZ (hsl.out d)
 have h02:=stL_02 docs d T
 obtain ⟨ST,hST⟩:∃ST,stL docs d T=ST:=⟨_,rfl⟩
 obtain ⟨hv,hhv⟩:∃z,holdsT docs d T=z:=⟨_,rfl⟩
 rw [hST] at hce' hstand' heval' hexp' hsl' h02
 rw [hhv] at hce' heval'
 have d3:decide ((12:Int)<(m:Int))=false:=dfZ (by omega)
 have d4:decide (12<m)=false:=dfZ (by omega)
 have hat2:=hdZ (hatoms.out w2 (hT.out.below hB2.out))
 obtain ⟨q0,q1,q2,q3,q4,q5⟩:=cs6 hN2.out
 clear hd hce hlow hhi hstand heval hexp hsl hST hhv hatoms
 go_enter Tryz.func16,Tryz.ntmps16
 go_wp2_with (first | rw [hw1.out,hw2.out] | rw [hw1.out] | rw [hw2.out])
 refine hat2.out.mono ?_
 rintro e w3 ⟨v8,rfl,ho8,hb3⟩
 obtain ⟨A8,c8,rfl⟩:=own_form ho8
 have hN3:=kbY hN2 hb3
 have hB3:=btY hB2 hb3
 have hb23:=hdZ hb3
 have hst3:=hdZ (hstand'.out A8 c8 _ w3 (hT.out.below hB3.out) (hR.out.below hB3.out) ho8)
 clear q0 q1 q2 q3 q4 q5 hat2 ho8 hb3 hstand'
 go_wp2_with fail
 refine hst3.out.mono ?_
 rintro e w4 ⟨v9,rfl,ho9,hb4⟩
 obtain ⟨A9,c9,hv9,hI9⟩:=own_ints ho9
 subst hv9
 have hN4:=kbY hN3 hb4
 have hB4:=btY hB3 hb4
 have hb24:=btY hb23 hb4
 have ho9':=hdZ (own_mono ho9 hB3.out.size)
 have hev4:=hdZ (heval'.out A9 c9 w4 (hT.out.below hB4.out) hI9)
 obtain ⟨q0,q1,q2,q3,q4,q5⟩:=cs6 hN4.out
 clear hst3 ho9 hb4 hb23 hI9 heval'
 go_wp2_with fail
 refine hev4.out.mono ?_
 rintro e w5 ⟨rfl,hb5⟩
 have hB5:=btY hB4 hb5
 have hb25:=btY hb24 hb5
 have hRt5:Hid (CoreRt w w5 #[.int .i64 k,.int .i64 p,.string f,.string x,.int .i64 n,.slice A L.length c] (.slice A9 m c9) m ST (.slice (some ⟨g7,0,none⟩) 0 0) (CDq T ST 0)):=hdZ ⟨hN4.out.below hb5 hN4.out.lt,own_below ho9'.out hb5,hO2.out.on hb25.out,⟨g7,0,rfl⟩,hB5.out⟩
 clear q0 q1 q2 q3 q4 q5 hev4 hb5 hb24 hN4 hN3 hB3 hB4 ho9'
 by_cases hz:hv=0
 ·subst hz
  have he:Hid (CE=[]):=by unfold Hid;rw [hce'.out,if_pos (.inr rfl)]
  go_wp2_with fail
  go_ret
  exact nilEnd.out _ hB5.out hb25.out he.out
 have z1:(hv==0)=false:=by simpa using hz
 have hce2:Hid (CE=coresD T ST):=by unfold Hid;rw [hce'.out,if_neg (by omega)]
 obtain ⟨n2,hn2⟩:∃n2,2 ^ m=n2:=⟨_,rfl⟩
 have hn2':=hdZ hn2
 have hp12:n2<=4096:=by rw [<-hn2];exact Nat.pow_le_pow_right (by omega) hm12
 have hws:IntKind.i64.wrap (2 ^ m)=(n2:Int):=by
  have:=IntWalk.i64_in ((2 ^ m:Nat):Int) (by rw [hn2];omega)
  rw [<-hn2,<-this]
  simp
 have hwm:IntKind.u64.wrap (m:Int)=(m:Int):=wrapU m (by omega)
 have hm0:(0:Int)<=(m:Int):=by omega
 have hm64:(m:Int)<=64:=by omega
 have h02':=hdZ h02
 clear hce' nilEnd hO2 hb2 hb25 hB5 hn2 hN2 hB2 hb1 hN1 h02
 go_wp2_with fail
 go_loopw [7,12] (fun vo i wr=>∃q:Nat,q<=n2/\i=.int .i64 q/\Hid (CoreRt w wr #[.int .i64 k,.int .i64 p,.string f,.string x,.int .i64 n,.slice A L.length c] (.slice A9 m c9) m ST vo (CDq T ST q))) (fun _ i _=>n2-(intOf i).toNat)
 case atStart=>exact ⟨0,Nat.zero_le _,rfl,hRt5⟩
 case round =>
  clear hRt5
  obtain ⟨q,hq,rfl,hRt⟩:=hrel
  by_cases hlt:q<n2
  ·as_aux_lemma =>
   have hq4:q<4096:=by omega
   have hCDs:=CDq_succ T ST q
   have hall:=CDq_all T ST q
   unfold stepD at hCDs
   rw [hsl'.out] at hCDs hall
   obtain ⟨CD,hCD⟩:∃CD,CDq T ST q=CD:=⟨_,rfl⟩
   rw [hCD] at hRt hCDs hall
   obtain ⟨A',c',e',hI⟩:=own_ints hRt.out.ints
   obtain ⟨rfl,rfl⟩:A9=A'/\c9=c':=by simpa using e'
   have hex:=hdZ (hexp'.out q A9 c9 wr hq4 (hT.out.below hRt.out.below) hI)
   obtain ⟨X0,hX0⟩:∃z,explRB T ST q=z:=⟨_,rfl⟩
   rw [hX0] at hex hCDs
   obtain ⟨gO,cO,rfl⟩:=hRt.out.some_
   obtain ⟨nO,hnO⟩:∃n,CD.length=n:=⟨_,rfl⟩
   have hnOq:nO<=4096:=by rw [<-hnO];exact Nat.le_trans hall.1 (by omega)
   have hplen:Hid (∀p∈CD,p.length<=12):=hdZ fun p hp=>Nat.le_trans (hall.2 p hp) hm12
   rw [hnO] at hRt ⊢
   have hnO':=hdZ hnO
   obtain ⟨q0,q1,q2,q3,q4,q5⟩:=cs6 hRt.out.nb
   obtain ⟨i1,-,hkm⟩:=inZ hlt
   have hCDs':=hdZ hCDs
   clear hCD hX0 hI e' hall hnO hCDs
   cases X0 with
   | false =>
    have hnew:Hid (CDq T ST (q+1)=CD):=by unfold Hid;rw [hCDs'.out];simp
    clear hCDs'
    go_wp2_with fail
    refine hex.out.mono ?_
    rintro e w6 ⟨rfl,hb6⟩
    have hRt6:=hdZ (hRt.out.on hb6)
    clear hb6 hex q0 q1 q2 q3 q4 q5
    go_wp2_with fail
    go_roundw
    case rel=>exact ⟨q+1,by omega,by go_num,by rw [hnew.out];exact hRt6⟩
    case measure=>simp [intOf];omega
   | true =>
    go_wp2_with fail
    refine hex.out.mono ?_
    rintro e w6 ⟨rfl,hb6⟩
    have hRt6:=hdZ (hRt.out.on hb6)
    clear hb6 hex q0 q1 q2 q3 q4 q5 hRt
    go_wp2_with fail
    go_loopw [13,14] (fun bv i wr2=>∃(j:Nat) (b:Bool),j<=m/\i=.int .i64 j/\bv=.bool b/\Hid (b=(List.range j).all fun i=>!(q.testBit i&&explRB T ST (q-2 ^ i)))/\Hid (CoreRt w wr2 #[.int .i64 k,.int .i64 p,.string f,.string x,.int .i64 n,.slice A L.length c] (.slice A9 m c9) m ST (.slice (some ⟨gO,0,none⟩) nO cO) CD)) (fun _ i _=>m-(intOf i).toNat)
    case atStart=>exact ⟨0,true,Nat.zero_le _,rfl,rfl,hdZ rfl,hRt6⟩
    case round =>
     clear hRt6
     obtain ⟨j,b,hj,rfl,rfl,hb,hRt⟩:=hrel
     by_cases hlt2:j<m
     ·as_aux_lemma =>
      have hls:=least_succ T ST q j
      rw [<-hb.out] at hls
      have hhas:=has_any q j wr hq4 (by omega)
      obtain ⟨tb,htb⟩:∃z,q.testBit j=z:=⟨_,rfl⟩
      rw [htb] at hls hhas
      obtain ⟨D,hD⟩:∃D,q-2 ^ j=D:=⟨_,rfl⟩
      obtain ⟨P,hP⟩:∃P,2 ^ j=P:=⟨_,rfl⟩
      have hP12:P<=4096:=by rw [<-hP];exact Nat.pow_le_pow_right (by omega) (show j<=12 by omega)
      have hPq:tb=true->P<=q:=fun h=>by rw [<-hP];exact Nat.ge_two_pow_of_testBit (by rw [htb];exact h)
      obtain ⟨A',c',e',hI⟩:=own_ints hRt.out.ints
      obtain ⟨rfl,rfl⟩:A9=A'/\c9=c':=by simpa using e'
      have hD4:D<4096:=by omega
      have hex:=hdZ (hexp'.out D A9 c9 wr hD4 (hT.out.below hRt.out.below) hI)
      rw [hD] at hls
      obtain ⟨X1,hX1⟩:∃z,explRB T ST D=z:=⟨_,rfl⟩
      rw [hX1] at hls hex
      have hls':=hdZ hls
      have hhas':=hdZ hhas
      have j1:(j:Int)<(m:Int):=by omega
      have j2:(0:Int)<=(j:Int):=by omega
      have j3:(j:Int)<=64:=by omega
      have hkm2:decide (j<m)=true:=dtZ hlt2
      have wsh:IntKind.i64.wrap (2 ^ j)=(P:Int):=by
       have:=IntWalk.i64_in ((2 ^ j:Nat):Int) (by rw [hP];omega)
       rw [<-hP,<-this]
       simp
      have wju:IntKind.u64.wrap (j:Int)=(j:Int):=wrapU j (by omega)
      rw [hP] at hD
      obtain ⟨q0,q1,q2,q3,q4,q5⟩:=cs6 hRt.out.nb
      clear hls hhas htb hX1 hI e' hb hP
      cases b with
      | false =>
       have hnew:Hid (false=(List.range (j+1)).all fun i=>!(q.testBit i&&explRB T ST (q-2 ^ i))):=by unfold Hid;rw [hls'.out];rfl
       clear hex
       go_wp2_with fail
       go_roundw
       case rel=>exact ⟨j+1,false,by omega,by go_num,rfl,hnew,hRt⟩
       case measure=>simp [intOf];omega
      | true =>
       cases tb with
       | false =>
        have hnew:Hid (true=(List.range (j+1)).all fun i=>!(q.testBit i&&explRB T ST (q-2 ^ i))):=by unfold Hid;rw [hls'.out];rfl
        clear hex
        go_wp2_with fail
        refine hhas'.out.mono ?_
        rintro e w7 ⟨rfl,rfl⟩
        go_wp2_with fail
        go_roundw
        case rel=>exact ⟨j+1,true,by omega,by go_num,rfl,hnew,hRt⟩
        case measure=>simp [intOf];omega
       | true =>
        have hPq':=hPq rfl
        have hnew:Hid ((!X1)=(List.range (j+1)).all fun i=>!(q.testBit i&&explRB T ST (q-2 ^ i))):=by unfold Hid;rw [hls'.out];cases X1<;>rfl
        have wsub:IntKind.i64.wrap ((q:Int)-(P:Int))=(D:Int):=by
         rw [IntWalk.i64_in _ (by omega)];omega
        clear hPq hls'
        go_wp2_with fail
        refine hhas'.out.mono ?_
        rintro e w7 ⟨rfl,rfl⟩
        go_wp2_with fail
        refine hex.out.mono ?_
        rintro e w8 ⟨rfl,hb8⟩
        have hRt8:=hdZ (hRt.out.on hb8)
        clear hb8 hex q0 q1 q2 q3 q4 q5 hRt
        go_wp2_with fail
        go_roundw
        case rel=>exact ⟨j+1,_,by omega,by go_num,rfl,hnew,hRt8⟩
        case measure=>simp [intOf];omega
     ·have hkm2:decide (j<m)=false:=dfZ hlt2
      have hjm:m=j:=by omega
      subst hjm
      have hlb:Hid (leastRB T ST q=b):=by unfold Hid leastRB;rw [hsl'.out];exact hb.out.symm
      rw [hlb.out] at hCDs'
      clear hb hlb
      cases b with
      | false =>
       have hnew:Hid (CDq T ST (q+1)=CD):=by unfold Hid;rw [hCDs'.out];rfl
       clear hCDs'
       go_wp2_with fail
       go_roundw
       case rel=>exact ⟨q+1,by omega,by go_num,by rw [hnew.out];exact hRt⟩
       case measure=>simp [intOf];omega
      | true =>
       have hplc:=placesR_any q m wr hq4 hm12
       have hpll:=plcD_le m q
       obtain ⟨PL,hPL⟩:∃l,plcD m q=l:=⟨_,rfl⟩
       rw [hPL] at hplc hCDs' hpll
       have hnew:Hid (CDq T ST (q+1)=insD PL CD):=by unfold Hid;rw [hCDs'.out];rfl
       have hplc':=hdZ hplc
       obtain ⟨pn,hpn⟩:∃n,PL.length=n:=⟨_,rfl⟩
       rw [hpn] at hplc' hpll
       have hpn':=hdZ hpn
       clear hCDs' hplc hPL hpn
       go_wp2_with fail
       refine hplc'.out.mono ?_
       rintro e w7 ⟨v15,rfl,hp7,hb7⟩
       obtain ⟨pA,pc,rfl⟩:=own_form hp7
       have hRt7:=hdZ (hRt.out.on hb7)
       have hp7':=hdZ (own_mono hp7 hRt.out.below.size)
       clear hplc' hp7 hb7 hRt
       go_wp2_with fail
       go_loopw [16] (fun i wr3=>∃(kk:Nat),kk<=nO/\i=.int .i64 kk/\Hid (CoreRt w wr3 #[.int .i64 k,.int .i64 p,.string f,.string x,.int .i64 n,.slice A L.length c] (.slice A9 m c9) m ST (.slice (some ⟨gO,0,none⟩) nO cO) CD)/\Hid (wr3.ownsRow w.heap.size 3 1 (.slice pA pn pc) pn (natsV PL))/\Hid (∀j x,j<kk->CD[j]?=some x->beforeB x PL=true)) (fun i _=>nO-(intOf i).toNat)
       case atStart=>exact ⟨0,Nat.zero_le _,rfl,hRt7,hp7',hdZ (fun j x h=>absurd h (Nat.not_lt_zero _))⟩
       case round =>
        clear hRt7 hp7'
        obtain ⟨kk,hkk,rfl,hRt,hp,hbf⟩:=hrel
        by_cases hlt3:kk<nO
        ·have hkm3:decide (kk<nO)=true:=dtZ hlt3
         have k1:(kk:Int)<(nO:Int):=by omega
         have k2:(0:Int)<=(kk:Int):=by omega
         obtain ⟨vs,hvl,hrowO,hfO⟩:=hRt.out.cores
         rw [hnO'.out] at hrowO
         obtain ⟨x9,hx9⟩:∃x,CD[kk]?=some x:=⟨_,gZ (by have:=hnO'.out;omega)⟩
         obtain ⟨y9,hy9⟩:∃x,vs[kk]?=some x:=⟨_,gZ (by have:=hnO'.out;omega)⟩
         have hrow9:=hfO kk x9 y9 hx9 hy9
         obtain ⟨xA,xc,rfl⟩:=own_form hrow9
         obtain ⟨xn,hxn⟩:∃n,x9.length=n:=⟨_,rfl⟩
         have hxn12:xn<=12:=by rw [<-hxn];exact hplen.out x9 (mgZ hx9)
         rw [hxn] at hrow9 hy9
         have hcellO:wr.cell? ⟨gO,kk,none⟩=some (.slice xA xn xc):=by rw [hrowO.cellAt kk (by omega)];exact hy9
         have hcall:=beforeR_any x9 PL xA pA xn pn xc pc wr hxn hpn'.out hxn12 (hdZ (nats_cells hrow9)) (hdZ (nats_cells hp.out))
         obtain ⟨bb,hbb⟩:∃b,beforeB x9 PL=b:=⟨_,rfl⟩
         rw [hbb] at hcall
         have hcall':=hdZ hcall
         have hbb':=hdZ hbb
         have hx9':=hdZ hx9
         clear hvl hrowO hfO hx9 hy9 hrow9 hxn hcall hbb
         cases bb with
         | true =>
          have hbf2:Hid (∀j x,j<kk+1->CD[j]?=some x->beforeB x PL=true):=hdZ fun j x hj hx=>by
           rcases Nat.lt_succ_iff_lt_or_eq.1 hj with h | rfl
           ·exact hbf.out j x h hx
           ·rw [hx9'.out] at hx;injection hx with hx;subst hx;exact hbb'.out
          go_wp2_with fail
          refine hcall'.out.mono ?_
          rintro e w8 ⟨rfl,hb8⟩
          have hRt8:=hdZ (hRt.out.on hb8)
          have hp8:=hdZ (own_below hp.out hb8)
          clear hb8 hcall' hcellO hRt hp
          go_wp2_with fail
          go_roundw
          case rel=>exact ⟨kk+1,by omega,by go_num,hRt8,hp8,hbf2⟩
          case measure=>simp [intOf];omega
         | false =>
          have hins:Hid (insD PL CD=CD.take kk++PL::CD.drop kk):=by
           unfold Hid insD
           have:=takeWhile_eq (P:=fun q=>beforeB q PL) (L:=CD) (k:=kk) hbf.out (by have:=hnO'.out;omega) (.inr ⟨x9,hx9'.out,hbb'.out⟩)
           rw [this.1,this.2]
          go_wp2_with fail
          refine hcall'.out.mono ?_
          rintro e w8 ⟨rfl,hb8⟩
          have hRt8:=hdZ (hRt.out.on hb8)
          have hp8:=hdZ (own_below hp.out hb8)
          clear hb8 hcall' hcellO hRt hp hbf hbb' hx9'
          go_wp2_with fail
          refine wp_region_any (by kernel_rfl) ?_
          show wpAny _ _ _ _ _ _ _ w8.drew
          have hbd:Bz w8 w8.drew:=(Below.refl _ w8).drew
          obtain ⟨wd,hwd⟩:∃x,w8.drew=x:=⟨_,rfl⟩
          rw [hwd] at hbd ⊢
          have hRtd:=hdZ (hRt8.out.on hbd)
          have hpd:=hdZ (own_below hp8.out hbd)
          clear hRt8 hp8 hbd hwd
          obtain ⟨vs,hvl,hrowO,hfO⟩:=hRtd.out.cores
          rw [hnO'.out] at hrowO
          have hcap:nO<=cO:=own_cap hrowO
          have hkn:kk<=nO:=by omega
          have hrowO':=hdZ hrowO
          have hvl':=hdZ hvl
          have hfO':=hdZ hfO
          have hones:Hid (∀u∈vs,u.oneCell'=true):=hdZ fun u hu=>by
           obtain ⟨i,hi⟩:=List.getElem?_of_mem hu
           obtain ⟨q9,hq9⟩:∃x,CD[i]?=some x:=⟨_,gZ (by have:=(gsZ.1 hi).1;omega)⟩
           exact own_one (hfO i q9 u hq9 hi)
          clear hvl hrowO hfO
          refine wpAny_take (i:=1) (v:=.slice (some ⟨gO,0,none⟩) nO cO) rfl (by kernel_rfl) (by kernel_rfl) (by kernel_rfl) (fun _ _ _ h=>h) (.inl ⟨by rfl,fun W=>by go_simp⟩) ?_
          simp only [Act.put,List.getElem_toArray,List.getElem_cons_zero,List.getElem_cons_succ,List.setIfInBounds_toArray,List.set_cons_zero,List.set_cons_succ]
          refine wpAny_take (i:=2) (v:=.int .i64 (kk:Int)) rfl (by kernel_rfl) (by kernel_rfl) (by kernel_rfl) (fun _ _ _ h=>h) (.inl ⟨by rfl,fun W=>by go_simp⟩) ?_
          simp only [Act.put,List.getElem_toArray,List.getElem_cons_zero,List.getElem_cons_succ,List.setIfInBounds_toArray,List.set_cons_zero,List.set_cons_succ]
          refine wpAny_take (i:=3) (v:=.slice (some ⟨gO,0,none⟩) kk cO) rfl (by kernel_rfl) (by kernel_rfl) (by kernel_rfl) (fun _ _ _ h=>h) (.inl ⟨by rfl,fun W=>by go_simp<;>(intro h9;exact absurd h9 (by omega))⟩) ?_
          simp only [Act.put,List.getElem_toArray,List.getElem_cons_zero,List.getElem_cons_succ,List.setIfInBounds_toArray,List.set_cons_zero,List.set_cons_succ]
          refine wpAny_take (i:=5) (v:=.slice pA pn pc) rfl (by kernel_rfl) (by kernel_rfl) (by kernel_rfl) (fun _ _ _ h=>h) (.inl ⟨by rfl,fun W=>by go_simp⟩) ?_
          simp only [Act.put,List.getElem_toArray,List.getElem_cons_zero,List.getElem_cons_succ,List.setIfInBounds_toArray,List.set_cons_zero,List.set_cons_succ]
          refine wpAny_take (i:=8) (v:=.slice (some ⟨gO,0,none⟩) nO cO) rfl (by kernel_rfl) (by kernel_rfl) (by kernel_rfl) (fun _ _ _ h=>h) (.inl ⟨by rfl,fun W=>by go_simp⟩) ?_
          simp only [Act.put,List.getElem_toArray,List.getElem_cons_zero,List.getElem_cons_succ,List.setIfInBounds_toArray,List.set_cons_zero,List.set_cons_succ]
          refine wpAny_take (i:=9) (v:=.int .i64 (kk:Int)) rfl (by kernel_rfl) (by kernel_rfl) (by kernel_rfl) (fun _ _ _ h=>h) (.inl ⟨by rfl,fun W=>by go_simp⟩) ?_
          simp only [Act.put,List.getElem_toArray,List.getElem_cons_zero,List.getElem_cons_succ,List.setIfInBounds_toArray,List.set_cons_zero,List.set_cons_succ]
          refine wpAny_take (i:=10) (v:=.slice (if cO=kk then some ⟨gO,0,none⟩ else some ⟨gO,kk,none⟩) (nO-kk) (cO-kk)) rfl (by kernel_rfl) (by kernel_rfl) (by kernel_rfl) (fun _ _ _ h=>h) (.inl ⟨by rfl,fun W=>by go_simp<;>(intro h9;exact absurd h9 (by omega))⟩) ?_
          simp only [Act.put,List.getElem_toArray,List.getElem_cons_zero,List.getElem_cons_succ,List.setIfInBounds_toArray,List.set_cons_zero,List.set_cons_succ]
          obtain ⟨A10,hA10⟩:=nmZ ((if cO=kk then some (⟨gO,0,none⟩:Addr) else some ⟨gO,kk,none⟩))
          rw [hA10.out]
          have hreadHi:Hid (∀W:World,W.ownsRow w.heap.size 35 1 (.slice (some ⟨gO,0,none⟩) nO cO) nO vs->Reads W W.heap.size 1 A10 (nO-kk) (vs.drop kk)):=hdZ fun W h=>by
           have h2:=own_slice_hi h kk hkn
           rw [<-hA10.out]
           split
           ·rename_i hc
            have h0:nO-kk=0:=by omega
            rw [h0] at h2 ⊢
            exact ⟨h2.1,fun h=>absurd h (by omega)⟩
           ·exact h2
          have hones1:Hid (∀u∈vs.take kk,u.oneCell'=true):=hdZ fun u hu=>hones.out u (List.mem_of_mem_take hu)
          have hones2:Hid (∀u∈vs.drop kk,u.oneCell'=true):=hdZ fun u hu=>hones.out u (List.mem_of_mem_drop hu)
          have s1:Hid (0+kk<=maxLen):=by unfold Hid maxLen;omega
          have s2:Hid ((0+kk)*24<=140737488355328):=by unfold Hid;omega
          have s3:Hid (kk+1<=maxLen):=by unfold Hid maxLen;omega
          have s4:Hid ((kk+1)*24<=140737488355328):=by unfold Hid;omega
          have s5:Hid (kk+1+(nO-kk)<=maxLen):=by unfold Hid maxLen;omega
          have s6:Hid ((kk+1+(nO-kk))*24<=140737488355328):=by unfold Hid;omega
          have s7:Hid (∀u∈[Value.slice pA pn pc],u.oneCell'=true):=hdZ (by intro u hu;simp at hu;subst hu;rfl)
          have hlast:Hid (∀(W:World) (v:Value),Bz wd W->W.ownsRow wd.heap.size 35 1 v (kk+1+(nO-kk)) (vs.take kk++[.slice pA pn pc]++vs.drop kk)->CoreRt w W #[.int .i64 k,.int .i64 p,.string f,.string x,.int .i64 n,.slice A L.length c] (.slice A9 m c9) m ST v (CDq T ST (q+1))):=hdZ fun W v hb ho=>by
           have h1:=hRtd.out.on hb
           have hn1:kk+1+(nO-kk)=CD.length+1:=by have:=hnO'.out;omega
           have hcs:CoresAt W w.heap.size v (CD.take kk++PL::CD.drop kk):=by
            refine CoresAt.ins hvl'.out (by rw [hnO'.out];exact hkn) ?_ (fun i q9 x hi hx=>own_below (hfO'.out i q9 x hi hx) hb) (by rw [hpn'.out];exact own_below hpd.out hb)
            rw [<-hn1]
            exact own_mono ho hRtd.out.below.size
           rw [hnew.out,hins.out]
           obtain ⟨g,c,e,_,_⟩:=own_formS ho (by omega)
           exact ⟨h1.nb,h1.ints,hcs,⟨g,c,by rw [e,hn1,List.length_append,List.length_cons,List.length_take,List.length_drop,hnO'.out];congr 1;omega⟩,h1.below⟩
          refine wpAny_all (rs:=[0,6]) (by kernel_rfl) (by simp) ?_
          intro i hi6
          simp only [List.mem_cons,List.not_mem_nil,or_false] at hi6
          rcases hi6 with rfl | rfl
          ·refine held_value (v:=.slice (some ⟨wd.heap.size,0,none⟩) 0 0) (w':=wd.alloc (.cells #[] 35)) rfl rfl (by go_simp) ?_
           have ho0:=own_new wd 35 1
           have hblow:Bz wd (wd.alloc (.cells #[] 35)):=(Below.refl _ wd).alloc leZ _
           obtain ⟨W2,hEW2⟩:∃X,wd.alloc (.cells #[] 35)=X:=⟨_,rfl⟩
           rw [hEW2] at ho0 hblow ⊢
           obtain ⟨g0,hg0⟩:∃g,wd.heap.size=g:=⟨_,rfl⟩
           rw [hg0]
           simp only [Act.put,List.getElem_toArray,List.getElem_cons_zero,List.setIfInBounds_toArray,List.set_cons_zero,List.set_cons_succ]
           have hBB:Hid (Bz wd W2):=hblow
           refine wpAny_all (rs:=[4,6]) (by kernel_rfl) (by simp) ?_
           intro i hi6
           simp only [List.mem_cons,List.not_mem_nil,or_false] at hi6
           rcases hi6 with rfl | rfl
           ·have ho0':Hid (W2.ownsRow wd.heap.size 35 1 (.slice (some ⟨g0,0,none⟩) 0 0) 0 []):=by unfold Hid;have h:=ho0;rw [<-hg0];exact h
            have hrd4:=hdZ (own_slice_lo (own_below hrowO'.out hBB.out) kk hkn)
            have hsz4:=hdZ hBB.out.size
            refine held_append rfl rfl (.tmp 103) (.tmp 106) 28 rfl wd.heap.size 35 iS _ 1 24 Tryz.underlying28 iSi iS0 iS1 iS2 rfl (by decide) (.slice (some ⟨g0,0,none⟩) 0 0) 0 [] (by go_simp) ho0'.out W2.heap.size (some ⟨gO,0,none⟩) kk cO (vs.take kk) (by go_simp) hrd4.out hones1.out s1.out s2.out hsz4.out ?_
            intro v4 W4 ho4 hg4 hv4
            simp only [Act.put,List.getElem_toArray,List.getElem_cons_zero,List.getElem_cons_succ,List.setIfInBounds_toArray,List.set_cons_zero,List.set_cons_succ]
            rw [Nat.zero_add,List.nil_append] at ho4
            have hB4:=hBB.out.grown hg4 hsz4.out (fun j hj=>(ho0'.out.lt j hj).1)
            refine wpAny_next 6 (by kernel_rfl) ?_
            refine held_value (v:=.slice (some ⟨W4.heap.size,0,none⟩) 1 1) (w':=W4.alloc (.cells #[.slice pA pn pc] 35)) rfl rfl (by go_simp) ?_
            have hk6:=Blk.new W4 35 #[.slice pA pn pc]
            have hblow6:Bz W4 (W4.alloc (.cells #[.slice pA pn pc] 35)):=(Below.refl _ W4).alloc leZ _
            obtain ⟨W7,hEW7⟩:∃X,W4.alloc (.cells #[.slice pA pn pc] 35)=X:=⟨_,rfl⟩
            rw [hEW7] at hk6 hblow6 ⊢
            obtain ⟨g6,hg6⟩:∃g,W4.heap.size=g:=⟨_,rfl⟩
            rw [hg6]
            simp only [Act.put,List.getElem_toArray,List.getElem_cons_zero,List.getElem_cons_succ,List.setIfInBounds_toArray,List.set_cons_zero,List.set_cons_succ]
            have hB7:Hid (Bz wd W7):=hB4.trans (hblow6.mono hB4.size)
            have ho4':=hdZ (own_below ho4 hblow6)
            have hr6:Hid (Reads W7 W7.heap.size 1 (some ⟨g6,0,none⟩) 1 [.slice pA pn pc]):=by rw [<-hg6];exact hdZ (blk_reads hk6 1 1 rfl)
            clear ho4 hg4 hk6 hblow6 hB4 ho0' hrd4 hsz4 ho0 hblow hBB
            clear hv4
            have hsz7:=hdZ hB7.out.size
            refine wpAny_next 7 (by kernel_rfl) ?_
            refine held_append rfl rfl (.tmp 107) (.tmp 109) 28 rfl wd.heap.size 35 iS _ 1 24 Tryz.underlying28 iSi iS0 iS1 iS2 rfl (by decide) v4 kk (vs.take kk) (by go_simp) ho4'.out W7.heap.size (some ⟨g6,0,none⟩) 1 1 [.slice pA pn pc] (by go_simp) hr6.out s7.out s3.out s4.out hsz7.out ?_
            intro v9 W9 ho9 hg9 hv9
            simp only [Act.put,List.getElem_toArray,List.getElem_cons_zero,List.getElem_cons_succ,List.setIfInBounds_toArray,List.set_cons_zero,List.set_cons_succ]
            have hB9:Hid (Bz wd W9):=hB7.out.grown hg9 hsz7.out (fun j hj=>(ho4'.out.lt j hj).1)
            have ho9':=hdZ ho9
            have hsz9:=hdZ hB9.out.size
            have hrd9:=hdZ (hreadHi.out W9 (own_below hrowO'.out hB9.out))
            clear ho9 hg9 hv9
            refine wpAny_next 11 (by kernel_rfl) ?_
            refine held_append rfl rfl (.tmp 110) (.tmp 113) 28 rfl wd.heap.size 35 iS _ 1 24 Tryz.underlying28 iSi iS0 iS1 iS2 rfl (by decide) v9 (kk+1) (vs.take kk++[.slice pA pn pc]) (by go_simp) ho9'.out W9.heap.size A10 (nO-kk) (cO-kk) (vs.drop kk) (by go_simp) hrd9.out hones2.out s5.out s6.out hsz9.out ?_
            intro v10 W10 ho10 hg10 hv10
            simp only [Act.put,List.getElem_toArray,List.getElem_cons_zero,List.getElem_cons_succ,List.setIfInBounds_toArray,List.set_cons_zero,List.set_cons_succ]
            have hB10:Bz wd W10:=hB9.out.grown hg10 hsz9.out (fun j hj=>(ho9'.out.lt j hj).1)
            have hfin:=hdZ (hlast.out W10 v10 hB10 ho10)
            clear ho10 hg10 hv10 hB10
            refine wpAny_next 12 (by kernel_rfl) ?_
            refine held_value (v:=v10) (w':=W10) rfl rfl (by go_simp) ?_
            simp only [Act.put,List.getElem_toArray,List.getElem_cons_zero,List.getElem_cons_succ,List.setIfInBounds_toArray,List.set_cons_zero,List.set_cons_succ]
            refine wpAny_done (by kernel_rfl) ?_ _
            go_wp2_with fail
            go_roundw
            case rel=>exact ⟨q+1,by omega,by go_num,hfin⟩
            case measure=>simp [intOf];omega
           ·refine held_value (v:=.slice (some ⟨W2.heap.size,0,none⟩) 1 1) (w':=W2.alloc (.cells #[.slice pA pn pc] 35)) rfl rfl (by go_simp) ?_
            have hk6:=Blk.new W2 35 #[.slice pA pn pc]
            have hblow6:Bz W2 (W2.alloc (.cells #[.slice pA pn pc] 35)):=(Below.refl _ W2).alloc leZ _
            obtain ⟨W3,hEW3⟩:∃X,W2.alloc (.cells #[.slice pA pn pc] 35)=X:=⟨_,rfl⟩
            rw [hEW3] at hk6 hblow6 ⊢
            obtain ⟨g6,hg6⟩:∃g,W2.heap.size=g:=⟨_,rfl⟩
            rw [hg6]
            simp only [Act.put,List.getElem_toArray,List.getElem_cons_zero,List.getElem_cons_succ,List.setIfInBounds_toArray,List.set_cons_zero,List.set_cons_succ]
            have hBB3:=btY hBB hblow6
            have ho0':Hid (W3.ownsRow wd.heap.size 35 1 (.slice (some ⟨g0,0,none⟩) 0 0) 0 []):=by unfold Hid;have h:=own_below ho0 hblow6;rw [<-hg0];exact h
            have hgne:g0≠g6:=by have h:=(ho0.lt wd.heap.size rfl).2;omega
            clear hBB
            have hBB:=hBB3
            have hrd4:=hdZ (own_slice_lo (own_below hrowO'.out hBB.out) kk hkn)
            have hsz4:=hdZ hBB.out.size
            refine wpAny_next 4 (by kernel_rfl) ?_
            refine held_append rfl rfl (.tmp 103) (.tmp 106) 28 rfl wd.heap.size 35 iS _ 1 24 Tryz.underlying28 iSi iS0 iS1 iS2 rfl (by decide) (.slice (some ⟨g0,0,none⟩) 0 0) 0 [] (by go_simp) ho0'.out W3.heap.size (some ⟨gO,0,none⟩) kk cO (vs.take kk) (by go_simp) hrd4.out hones1.out s1.out s2.out hsz4.out ?_
            intro v4 W7 ho4 hg4 hv4
            simp only [Act.put,List.getElem_toArray,List.getElem_cons_zero,List.getElem_cons_succ,List.setIfInBounds_toArray,List.set_cons_zero,List.set_cons_succ]
            rw [Nat.zero_add,List.nil_append] at ho4
            have hB4:=hBB.out.grown hg4 hsz4.out (fun j hj=>(ho0'.out.lt j hj).1)
            have hB7:=hdZ hB4
            have ho4':=hdZ ho4
            have hr6:Hid (Reads W7 W7.heap.size 1 (some ⟨g6,0,none⟩) 1 [.slice pA pn pc]):=hdZ (blk_reads (Blk.kept (by rw [<-hg6];exact hk6) hg4 (by simp [Value.ownBlock];exact hgne)) 1 1 rfl)
            clear ho4 hg4 hk6 hblow6 hB4 ho0' hrd4 hsz4 ho0 hblow hBB hBB3
            clear hv4
            have hsz7:=hdZ hB7.out.size
            refine wpAny_next 7 (by kernel_rfl) ?_
            refine held_append rfl rfl (.tmp 107) (.tmp 109) 28 rfl wd.heap.size 35 iS _ 1 24 Tryz.underlying28 iSi iS0 iS1 iS2 rfl (by decide) v4 kk (vs.take kk) (by go_simp) ho4'.out W7.heap.size (some ⟨g6,0,none⟩) 1 1 [.slice pA pn pc] (by go_simp) hr6.out s7.out s3.out s4.out hsz7.out ?_
            intro v9 W9 ho9 hg9 hv9
            simp only [Act.put,List.getElem_toArray,List.getElem_cons_zero,List.getElem_cons_succ,List.setIfInBounds_toArray,List.set_cons_zero,List.set_cons_succ]
            have hB9:Hid (Bz wd W9):=hB7.out.grown hg9 hsz7.out (fun j hj=>(ho4'.out.lt j hj).1)
            have ho9':=hdZ ho9
            have hsz9:=hdZ hB9.out.size
            have hrd9:=hdZ (hreadHi.out W9 (own_below hrowO'.out hB9.out))
            clear ho9 hg9 hv9
            refine wpAny_next 11 (by kernel_rfl) ?_
            refine held_append rfl rfl (.tmp 110) (.tmp 113) 28 rfl wd.heap.size 35 iS _ 1 24 Tryz.underlying28 iSi iS0 iS1 iS2 rfl (by decide) v9 (kk+1) (vs.take kk++[.slice pA pn pc]) (by go_simp) ho9'.out W9.heap.size A10 (nO-kk) (cO-kk) (vs.drop kk) (by go_simp) hrd9.out hones2.out s5.out s6.out hsz9.out ?_
            intro v10 W10 ho10 hg10 hv10
            simp only [Act.put,List.getElem_toArray,List.getElem_cons_zero,List.getElem_cons_succ,List.setIfInBounds_toArray,List.set_cons_zero,List.set_cons_succ]
            have hB10:Bz wd W10:=hB9.out.grown hg10 hsz9.out (fun j hj=>(ho9'.out.lt j hj).1)
            have hfin:=hdZ (hlast.out W10 v10 hB10 ho10)
            clear ho10 hg10 hv10 hB10
            refine wpAny_next 12 (by kernel_rfl) ?_
            refine held_value (v:=v10) (w':=W10) rfl rfl (by go_simp) ?_
            simp only [Act.put,List.getElem_toArray,List.getElem_cons_zero,List.getElem_cons_succ,List.setIfInBounds_toArray,List.set_cons_zero,List.set_cons_succ]
            refine wpAny_done (by kernel_rfl) ?_ _
            go_wp2_with fail
            go_roundw
            case rel=>exact ⟨q+1,by omega,by go_num,hfin⟩
            case measure=>simp [intOf];omega
          ·refine held_value (v:=.slice (some ⟨wd.heap.size,0,none⟩) 1 1) (w':=wd.alloc (.cells #[.slice pA pn pc] 35)) rfl rfl (by go_simp) ?_
           have hk6:=Blk.new wd 35 #[.slice pA pn pc]
           have hblow6:Bz wd (wd.alloc (.cells #[.slice pA pn pc] 35)):=(Below.refl _ wd).alloc leZ _
           obtain ⟨W2,hEW2⟩:∃X,wd.alloc (.cells #[.slice pA pn pc] 35)=X:=⟨_,rfl⟩
           rw [hEW2] at hk6 hblow6 ⊢
           obtain ⟨g6,hg6⟩:∃g,wd.heap.size=g:=⟨_,rfl⟩
           rw [hg6]
           simp only [Act.put,List.getElem_toArray,List.getElem_cons_zero,List.getElem_cons_succ,List.setIfInBounds_toArray,List.set_cons_zero,List.set_cons_succ]
           have hBB2:Hid (Bz wd W2):=hblow6
           refine wpAny_next 0 (by kernel_rfl) ?_
           refine held_value (v:=.slice (some ⟨W2.heap.size,0,none⟩) 0 0) (w':=W2.alloc (.cells #[] 35)) rfl rfl (by go_simp) ?_
           have ho0:=own_new W2 35 1
           have hblow:Bz W2 (W2.alloc (.cells #[] 35)):=(Below.refl _ W2).alloc leZ _
           obtain ⟨W3,hEW3⟩:∃X,W2.alloc (.cells #[] 35)=X:=⟨_,rfl⟩
           rw [hEW3] at ho0 hblow ⊢
           obtain ⟨g0,hg0⟩:∃g,W2.heap.size=g:=⟨_,rfl⟩
           rw [hg0]
           simp only [Act.put,List.getElem_toArray,List.getElem_cons_zero,List.setIfInBounds_toArray,List.set_cons_zero,List.set_cons_succ]
           have hBB:=btY hBB2 hblow
           have ho0':Hid (W3.ownsRow wd.heap.size 35 1 (.slice (some ⟨g0,0,none⟩) 0 0) 0 []):=by unfold Hid;have h:=own_mono ho0 hBB2.out.size;rw [<-hg0];exact h
           have hgne:g0≠g6:=by have h:=hk6.lt;omega
           have hk63:=hk6.below hblow hk6.lt
           have hrd4:=hdZ (own_slice_lo (own_below hrowO'.out hBB.out) kk hkn)
           have hsz4:=hdZ hBB.out.size
           refine wpAny_next 4 (by kernel_rfl) ?_
           refine held_append rfl rfl (.tmp 103) (.tmp 106) 28 rfl wd.heap.size 35 iS _ 1 24 Tryz.underlying28 iSi iS0 iS1 iS2 rfl (by decide) (.slice (some ⟨g0,0,none⟩) 0 0) 0 [] (by go_simp) ho0'.out W3.heap.size (some ⟨gO,0,none⟩) kk cO (vs.take kk) (by go_simp) hrd4.out hones1.out s1.out s2.out hsz4.out ?_
           intro v4 W7 ho4 hg4 hv4
           simp only [Act.put,List.getElem_toArray,List.getElem_cons_zero,List.getElem_cons_succ,List.setIfInBounds_toArray,List.set_cons_zero,List.set_cons_succ]
           rw [Nat.zero_add,List.nil_append] at ho4
           have hB4:=hBB.out.grown hg4 hsz4.out (fun j hj=>(ho0'.out.lt j hj).1)
           have hB7:=hdZ hB4
           have ho4':=hdZ ho4
           have hr6:Hid (Reads W7 W7.heap.size 1 (some ⟨g6,0,none⟩) 1 [.slice pA pn pc]):=hdZ (blk_reads (Blk.kept (by rw [<-hg6];exact hk63) hg4 (by simp [Value.ownBlock];exact hgne)) 1 1 rfl)
           clear ho4 hg4 hk6 hk63 hblow6 hB4 ho0' hrd4 hsz4 ho0 hblow hBB hBB2
           clear hv4
           have hsz7:=hdZ hB7.out.size
           refine wpAny_next 7 (by kernel_rfl) ?_
           refine held_append rfl rfl (.tmp 107) (.tmp 109) 28 rfl wd.heap.size 35 iS _ 1 24 Tryz.underlying28 iSi iS0 iS1 iS2 rfl (by decide) v4 kk (vs.take kk) (by go_simp) ho4'.out W7.heap.size (some ⟨g6,0,none⟩) 1 1 [.slice pA pn pc] (by go_simp) hr6.out s7.out s3.out s4.out hsz7.out ?_
           intro v9 W9 ho9 hg9 hv9
           simp only [Act.put,List.getElem_toArray,List.getElem_cons_zero,List.getElem_cons_succ,List.setIfInBounds_toArray,List.set_cons_zero,List.set_cons_succ]
           have hB9:Hid (Bz wd W9):=hB7.out.grown hg9 hsz7.out (fun j hj=>(ho4'.out.lt j hj).1)
           have ho9':=hdZ ho9
           have hsz9:=hdZ hB9.out.size
           have hrd9:=hdZ (hreadHi.out W9 (own_below hrowO'.out hB9.out))
           clear ho9 hg9 hv9
           refine wpAny_next 11 (by kernel_rfl) ?_
           refine held_append rfl rfl (.tmp 110) (.tmp 113) 28 rfl wd.heap.size 35 iS _ 1 24 Tryz.underlying28 iSi iS0 iS1 iS2 rfl (by decide) v9 (kk+1) (vs.take kk++[.slice pA pn pc]) (by go_simp) ho9'.out W9.heap.size A10 (nO-kk) (cO-kk) (vs.drop kk) (by go_simp) hrd9.out hones2.out s5.out s6.out hsz9.out ?_
           intro v10 W10 ho10 hg10 hv10
           simp only [Act.put,List.getElem_toArray,List.getElem_cons_zero,List.getElem_cons_succ,List.setIfInBounds_toArray,List.set_cons_zero,List.set_cons_succ]
           have hB10:Bz wd W10:=hB9.out.grown hg10 hsz9.out (fun j hj=>(ho9'.out.lt j hj).1)
           have hfin:=hdZ (hlast.out W10 v10 hB10 ho10)
           clear ho10 hg10 hv10 hB10
           refine wpAny_next 12 (by kernel_rfl) ?_
           refine held_value (v:=v10) (w':=W10) rfl rfl (by go_simp) ?_
           simp only [Act.put,List.getElem_toArray,List.getElem_cons_zero,List.getElem_cons_succ,List.setIfInBounds_toArray,List.set_cons_zero,List.set_cons_succ]
           refine wpAny_done (by kernel_rfl) ?_ _
           go_wp2_with fail
           go_roundw
           case rel=>exact ⟨q+1,by omega,by go_num,hfin⟩
           case measure=>simp [intOf];omega
        ·have hkm3:decide (kk<nO)=false:=dfZ hlt3
         have hins:Hid (insD PL CD=CD.take kk++PL::CD.drop kk):=by
          unfold Hid insD
          have:=takeWhile_eq (P:=fun q=>beforeB q PL) (L:=CD) (k:=kk) hbf.out (by have:=hnO'.out;omega) (.inl (by have:=hnO'.out;omega))
          rw [this.1,this.2]
         go_wp2_with fail
         have hRt8:=hRt
         have hp8:=hp
         obtain ⟨w8,hw8e⟩:∃x,x=wr:=⟨_,rfl⟩
         subst hw8e
         clear hRt hp hbf
         refine wp_region_any (by kernel_rfl) ?_
         show wpAny _ _ _ _ _ _ _ w8.drew
         have hbd:Bz w8 w8.drew:=(Below.refl _ w8).drew
         obtain ⟨wd,hwd⟩:∃x,w8.drew=x:=⟨_,rfl⟩
         rw [hwd] at hbd ⊢
         have hRtd:=hdZ (hRt8.out.on hbd)
         have hpd:=hdZ (own_below hp8.out hbd)
         clear hRt8 hp8 hbd hwd
         obtain ⟨vs,hvl,hrowO,hfO⟩:=hRtd.out.cores
         rw [hnO'.out] at hrowO
         have hcap:nO<=cO:=own_cap hrowO
         have hkn:kk<=nO:=by omega
         have hrowO':=hdZ hrowO
         have hvl':=hdZ hvl
         have hfO':=hdZ hfO
         have hones:Hid (∀u∈vs,u.oneCell'=true):=hdZ fun u hu=>by
          obtain ⟨i,hi⟩:=List.getElem?_of_mem hu
          obtain ⟨q9,hq9⟩:∃x,CD[i]?=some x:=⟨_,gZ (by have:=(gsZ.1 hi).1;omega)⟩
          exact own_one (hfO i q9 u hq9 hi)
         clear hvl hrowO hfO
         refine wpAny_take (i:=1) (v:=.slice (some ⟨gO,0,none⟩) nO cO) rfl (by kernel_rfl) (by kernel_rfl) (by kernel_rfl) (fun _ _ _ h=>h) (.inl ⟨by rfl,fun W=>by go_simp⟩) ?_
         simp only [Act.put,List.getElem_toArray,List.getElem_cons_zero,List.getElem_cons_succ,List.setIfInBounds_toArray,List.set_cons_zero,List.set_cons_succ]
         refine wpAny_take (i:=2) (v:=.int .i64 (kk:Int)) rfl (by kernel_rfl) (by kernel_rfl) (by kernel_rfl) (fun _ _ _ h=>h) (.inl ⟨by rfl,fun W=>by go_simp⟩) ?_
         simp only [Act.put,List.getElem_toArray,List.getElem_cons_zero,List.getElem_cons_succ,List.setIfInBounds_toArray,List.set_cons_zero,List.set_cons_succ]
         refine wpAny_take (i:=3) (v:=.slice (some ⟨gO,0,none⟩) kk cO) rfl (by kernel_rfl) (by kernel_rfl) (by kernel_rfl) (fun _ _ _ h=>h) (.inl ⟨by rfl,fun W=>by go_simp<;>(intro h9;exact absurd h9 (by omega))⟩) ?_
         simp only [Act.put,List.getElem_toArray,List.getElem_cons_zero,List.getElem_cons_succ,List.setIfInBounds_toArray,List.set_cons_zero,List.set_cons_succ]
         refine wpAny_take (i:=5) (v:=.slice pA pn pc) rfl (by kernel_rfl) (by kernel_rfl) (by kernel_rfl) (fun _ _ _ h=>h) (.inl ⟨by rfl,fun W=>by go_simp⟩) ?_
         simp only [Act.put,List.getElem_toArray,List.getElem_cons_zero,List.getElem_cons_succ,List.setIfInBounds_toArray,List.set_cons_zero,List.set_cons_succ]
         refine wpAny_take (i:=8) (v:=.slice (some ⟨gO,0,none⟩) nO cO) rfl (by kernel_rfl) (by kernel_rfl) (by kernel_rfl) (fun _ _ _ h=>h) (.inl ⟨by rfl,fun W=>by go_simp⟩) ?_
         simp only [Act.put,List.getElem_toArray,List.getElem_cons_zero,List.getElem_cons_succ,List.setIfInBounds_toArray,List.set_cons_zero,List.set_cons_succ]
         refine wpAny_take (i:=9) (v:=.int .i64 (kk:Int)) rfl (by kernel_rfl) (by kernel_rfl) (by kernel_rfl) (fun _ _ _ h=>h) (.inl ⟨by rfl,fun W=>by go_simp⟩) ?_
         simp only [Act.put,List.getElem_toArray,List.getElem_cons_zero,List.getElem_cons_succ,List.setIfInBounds_toArray,List.set_cons_zero,List.set_cons_succ]
         refine wpAny_take (i:=10) (v:=.slice (if cO=kk then some ⟨gO,0,none⟩ else some ⟨gO,kk,none⟩) (nO-kk) (cO-kk)) rfl (by kernel_rfl) (by kernel_rfl) (by kernel_rfl) (fun _ _ _ h=>h) (.inl ⟨by rfl,fun W=>by go_simp<;>(intro h9;exact absurd h9 (by omega))⟩) ?_
         simp only [Act.put,List.getElem_toArray,List.getElem_cons_zero,List.getElem_cons_succ,List.setIfInBounds_toArray,List.set_cons_zero,List.set_cons_succ]
         obtain ⟨A10,hA10⟩:=nmZ ((if cO=kk then some (⟨gO,0,none⟩:Addr) else some ⟨gO,kk,none⟩))
         rw [hA10.out]
         have hreadHi:Hid (∀W:World,W.ownsRow w.heap.size 35 1 (.slice (some ⟨gO,0,none⟩) nO cO) nO vs->Reads W W.heap.size 1 A10 (nO-kk) (vs.drop kk)):=hdZ fun W h=>by
          have h2:=own_slice_hi h kk hkn
          rw [<-hA10.out]
          split
          ·rename_i hc
           have h0:nO-kk=0:=by omega
           rw [h0] at h2 ⊢
           exact ⟨h2.1,fun h=>absurd h (by omega)⟩
          ·exact h2
         have hones1:Hid (∀u∈vs.take kk,u.oneCell'=true):=hdZ fun u hu=>hones.out u (List.mem_of_mem_take hu)
         have hones2:Hid (∀u∈vs.drop kk,u.oneCell'=true):=hdZ fun u hu=>hones.out u (List.mem_of_mem_drop hu)
         have s1:Hid (0+kk<=maxLen):=by unfold Hid maxLen;omega
         have s2:Hid ((0+kk)*24<=140737488355328):=by unfold Hid;omega
         have s3:Hid (kk+1<=maxLen):=by unfold Hid maxLen;omega
         have s4:Hid ((kk+1)*24<=140737488355328):=by unfold Hid;omega
         have s5:Hid (kk+1+(nO-kk)<=maxLen):=by unfold Hid maxLen;omega
         have s6:Hid ((kk+1+(nO-kk))*24<=140737488355328):=by unfold Hid;omega
         have s7:Hid (∀u∈[Value.slice pA pn pc],u.oneCell'=true):=hdZ (by intro u hu;simp at hu;subst hu;rfl)
         have hlast:Hid (∀(W:World) (v:Value),Bz wd W->W.ownsRow wd.heap.size 35 1 v (kk+1+(nO-kk)) (vs.take kk++[.slice pA pn pc]++vs.drop kk)->CoreRt w W #[.int .i64 k,.int .i64 p,.string f,.string x,.int .i64 n,.slice A L.length c] (.slice A9 m c9) m ST v (CDq T ST (q+1))):=hdZ fun W v hb ho=>by
          have h1:=hRtd.out.on hb
          have hn1:kk+1+(nO-kk)=CD.length+1:=by have:=hnO'.out;omega
          have hcs:CoresAt W w.heap.size v (CD.take kk++PL::CD.drop kk):=by
           refine CoresAt.ins hvl'.out (by rw [hnO'.out];exact hkn) ?_ (fun i q9 x hi hx=>own_below (hfO'.out i q9 x hi hx) hb) (by rw [hpn'.out];exact own_below hpd.out hb)
           rw [<-hn1]
           exact own_mono ho hRtd.out.below.size
          rw [hnew.out,hins.out]
          obtain ⟨g,c,e,_,_⟩:=own_formS ho (by omega)
          exact ⟨h1.nb,h1.ints,hcs,⟨g,c,by rw [e,hn1,List.length_append,List.length_cons,List.length_take,List.length_drop,hnO'.out];congr 1;omega⟩,h1.below⟩
         refine wpAny_all (rs:=[0,6]) (by kernel_rfl) (by simp) ?_
         intro i hi6
         simp only [List.mem_cons,List.not_mem_nil,or_false] at hi6
         rcases hi6 with rfl | rfl
         ·refine held_value (v:=.slice (some ⟨wd.heap.size,0,none⟩) 0 0) (w':=wd.alloc (.cells #[] 35)) rfl rfl (by go_simp) ?_
          have ho0:=own_new wd 35 1
          have hblow:Bz wd (wd.alloc (.cells #[] 35)):=(Below.refl _ wd).alloc leZ _
          obtain ⟨W2,hEW2⟩:∃X,wd.alloc (.cells #[] 35)=X:=⟨_,rfl⟩
          rw [hEW2] at ho0 hblow ⊢
          obtain ⟨g0,hg0⟩:∃g,wd.heap.size=g:=⟨_,rfl⟩
          rw [hg0]
          simp only [Act.put,List.getElem_toArray,List.getElem_cons_zero,List.setIfInBounds_toArray,List.set_cons_zero,List.set_cons_succ]
          have hBB:Hid (Bz wd W2):=hblow
          refine wpAny_all (rs:=[4,6]) (by kernel_rfl) (by simp) ?_
          intro i hi6
          simp only [List.mem_cons,List.not_mem_nil,or_false] at hi6
          rcases hi6 with rfl | rfl
          ·have ho0':Hid (W2.ownsRow wd.heap.size 35 1 (.slice (some ⟨g0,0,none⟩) 0 0) 0 []):=by unfold Hid;have h:=ho0;rw [<-hg0];exact h
           have hrd4:=hdZ (own_slice_lo (own_below hrowO'.out hBB.out) kk hkn)
           have hsz4:=hdZ hBB.out.size
           refine held_append rfl rfl (.tmp 103) (.tmp 106) 28 rfl wd.heap.size 35 iS _ 1 24 Tryz.underlying28 iSi iS0 iS1 iS2 rfl (by decide) (.slice (some ⟨g0,0,none⟩) 0 0) 0 [] (by go_simp) ho0'.out W2.heap.size (some ⟨gO,0,none⟩) kk cO (vs.take kk) (by go_simp) hrd4.out hones1.out s1.out s2.out hsz4.out ?_
           intro v4 W4 ho4 hg4 hv4
           simp only [Act.put,List.getElem_toArray,List.getElem_cons_zero,List.getElem_cons_succ,List.setIfInBounds_toArray,List.set_cons_zero,List.set_cons_succ]
           rw [Nat.zero_add,List.nil_append] at ho4
           have hB4:=hBB.out.grown hg4 hsz4.out (fun j hj=>(ho0'.out.lt j hj).1)
           refine wpAny_next 6 (by kernel_rfl) ?_
           refine held_value (v:=.slice (some ⟨W4.heap.size,0,none⟩) 1 1) (w':=W4.alloc (.cells #[.slice pA pn pc] 35)) rfl rfl (by go_simp) ?_
           have hk6:=Blk.new W4 35 #[.slice pA pn pc]
           have hblow6:Bz W4 (W4.alloc (.cells #[.slice pA pn pc] 35)):=(Below.refl _ W4).alloc leZ _
           obtain ⟨W7,hEW7⟩:∃X,W4.alloc (.cells #[.slice pA pn pc] 35)=X:=⟨_,rfl⟩
           rw [hEW7] at hk6 hblow6 ⊢
           obtain ⟨g6,hg6⟩:∃g,W4.heap.size=g:=⟨_,rfl⟩
           rw [hg6]
           simp only [Act.put,List.getElem_toArray,List.getElem_cons_zero,List.getElem_cons_succ,List.setIfInBounds_toArray,List.set_cons_zero,List.set_cons_succ]
           have hB7:Hid (Bz wd W7):=hB4.trans (hblow6.mono hB4.size)
           have ho4':=hdZ (own_below ho4 hblow6)
           have hr6:Hid (Reads W7 W7.heap.size 1 (some ⟨g6,0,none⟩) 1 [.slice pA pn pc]):=by rw [<-hg6];exact hdZ (blk_reads hk6 1 1 rfl)
           clear ho4 hg4 hk6 hblow6 hB4 ho0' hrd4 hsz4 ho0 hblow hBB
           clear hv4
           have hsz7:=hdZ hB7.out.size
           refine wpAny_next 7 (by kernel_rfl) ?_
           refine held_append rfl rfl (.tmp 107) (.tmp 109) 28 rfl wd.heap.size 35 iS _ 1 24 Tryz.underlying28 iSi iS0 iS1 iS2 rfl (by decide) v4 kk (vs.take kk) (by go_simp) ho4'.out W7.heap.size (some ⟨g6,0,none⟩) 1 1 [.slice pA pn pc] (by go_simp) hr6.out s7.out s3.out s4.out hsz7.out ?_
           intro v9 W9 ho9 hg9 hv9
           simp only [Act.put,List.getElem_toArray,List.getElem_cons_zero,List.getElem_cons_succ,List.setIfInBounds_toArray,List.set_cons_zero,List.set_cons_succ]
           have hB9:Hid (Bz wd W9):=hB7.out.grown hg9 hsz7.out (fun j hj=>(ho4'.out.lt j hj).1)
           have ho9':=hdZ ho9
           have hsz9:=hdZ hB9.out.size
           have hrd9:=hdZ (hreadHi.out W9 (own_below hrowO'.out hB9.out))
           clear ho9 hg9 hv9
           refine wpAny_next 11 (by kernel_rfl) ?_
           refine held_append rfl rfl (.tmp 110) (.tmp 113) 28 rfl wd.heap.size 35 iS _ 1 24 Tryz.underlying28 iSi iS0 iS1 iS2 rfl (by decide) v9 (kk+1) (vs.take kk++[.slice pA pn pc]) (by go_simp) ho9'.out W9.heap.size A10 (nO-kk) (cO-kk) (vs.drop kk) (by go_simp) hrd9.out hones2.out s5.out s6.out hsz9.out ?_
           intro v10 W10 ho10 hg10 hv10
           simp only [Act.put,List.getElem_toArray,List.getElem_cons_zero,List.getElem_cons_succ,List.setIfInBounds_toArray,List.set_cons_zero,List.set_cons_succ]
           have hB10:Bz wd W10:=hB9.out.grown hg10 hsz9.out (fun j hj=>(ho9'.out.lt j hj).1)
           have hfin:=hdZ (hlast.out W10 v10 hB10 ho10)
           clear ho10 hg10 hv10 hB10
           refine wpAny_next 12 (by kernel_rfl) ?_
           refine held_value (v:=v10) (w':=W10) rfl rfl (by go_simp) ?_
           simp only [Act.put,List.getElem_toArray,List.getElem_cons_zero,List.getElem_cons_succ,List.setIfInBounds_toArray,List.set_cons_zero,List.set_cons_succ]
           refine wpAny_done (by kernel_rfl) ?_ _
           go_wp2_with fail
           go_roundw
           case rel=>exact ⟨q+1,by omega,by go_num,hfin⟩
           case measure=>simp [intOf];omega
          ·refine held_value (v:=.slice (some ⟨W2.heap.size,0,none⟩) 1 1) (w':=W2.alloc (.cells #[.slice pA pn pc] 35)) rfl rfl (by go_simp) ?_
           have hk6:=Blk.new W2 35 #[.slice pA pn pc]
           have hblow6:Bz W2 (W2.alloc (.cells #[.slice pA pn pc] 35)):=(Below.refl _ W2).alloc leZ _
           obtain ⟨W3,hEW3⟩:∃X,W2.alloc (.cells #[.slice pA pn pc] 35)=X:=⟨_,rfl⟩
           rw [hEW3] at hk6 hblow6 ⊢
           obtain ⟨g6,hg6⟩:∃g,W2.heap.size=g:=⟨_,rfl⟩
           rw [hg6]
           simp only [Act.put,List.getElem_toArray,List.getElem_cons_zero,List.getElem_cons_succ,List.setIfInBounds_toArray,List.set_cons_zero,List.set_cons_succ]
           have hBB3:=btY hBB hblow6
           have ho0':Hid (W3.ownsRow wd.heap.size 35 1 (.slice (some ⟨g0,0,none⟩) 0 0) 0 []):=by unfold Hid;have h:=own_below ho0 hblow6;rw [<-hg0];exact h
           have hgne:g0≠g6:=by have h:=(ho0.lt wd.heap.size rfl).2;omega
           clear hBB
           have hBB:=hBB3
           have hrd4:=hdZ (own_slice_lo (own_below hrowO'.out hBB.out) kk hkn)
           have hsz4:=hdZ hBB.out.size
           refine wpAny_next 4 (by kernel_rfl) ?_
           refine held_append rfl rfl (.tmp 103) (.tmp 106) 28 rfl wd.heap.size 35 iS _ 1 24 Tryz.underlying28 iSi iS0 iS1 iS2 rfl (by decide) (.slice (some ⟨g0,0,none⟩) 0 0) 0 [] (by go_simp) ho0'.out W3.heap.size (some ⟨gO,0,none⟩) kk cO (vs.take kk) (by go_simp) hrd4.out hones1.out s1.out s2.out hsz4.out ?_
           intro v4 W7 ho4 hg4 hv4
           simp only [Act.put,List.getElem_toArray,List.getElem_cons_zero,List.getElem_cons_succ,List.setIfInBounds_toArray,List.set_cons_zero,List.set_cons_succ]
           rw [Nat.zero_add,List.nil_append] at ho4
           have hB4:=hBB.out.grown hg4 hsz4.out (fun j hj=>(ho0'.out.lt j hj).1)
           have hB7:=hdZ hB4
           have ho4':=hdZ ho4
           have hr6:Hid (Reads W7 W7.heap.size 1 (some ⟨g6,0,none⟩) 1 [.slice pA pn pc]):=hdZ (blk_reads (Blk.kept (by rw [<-hg6];exact hk6) hg4 (by simp [Value.ownBlock];exact hgne)) 1 1 rfl)
           clear ho4 hg4 hk6 hblow6 hB4 ho0' hrd4 hsz4 ho0 hblow hBB hBB3
           clear hv4
           have hsz7:=hdZ hB7.out.size
           refine wpAny_next 7 (by kernel_rfl) ?_
           refine held_append rfl rfl (.tmp 107) (.tmp 109) 28 rfl wd.heap.size 35 iS _ 1 24 Tryz.underlying28 iSi iS0 iS1 iS2 rfl (by decide) v4 kk (vs.take kk) (by go_simp) ho4'.out W7.heap.size (some ⟨g6,0,none⟩) 1 1 [.slice pA pn pc] (by go_simp) hr6.out s7.out s3.out s4.out hsz7.out ?_
           intro v9 W9 ho9 hg9 hv9
           simp only [Act.put,List.getElem_toArray,List.getElem_cons_zero,List.getElem_cons_succ,List.setIfInBounds_toArray,List.set_cons_zero,List.set_cons_succ]
           have hB9:Hid (Bz wd W9):=hB7.out.grown hg9 hsz7.out (fun j hj=>(ho4'.out.lt j hj).1)
           have ho9':=hdZ ho9
           have hsz9:=hdZ hB9.out.size
           have hrd9:=hdZ (hreadHi.out W9 (own_below hrowO'.out hB9.out))
           clear ho9 hg9 hv9
           refine wpAny_next 11 (by kernel_rfl) ?_
           refine held_append rfl rfl (.tmp 110) (.tmp 113) 28 rfl wd.heap.size 35 iS _ 1 24 Tryz.underlying28 iSi iS0 iS1 iS2 rfl (by decide) v9 (kk+1) (vs.take kk++[.slice pA pn pc]) (by go_simp) ho9'.out W9.heap.size A10 (nO-kk) (cO-kk) (vs.drop kk) (by go_simp) hrd9.out hones2.out s5.out s6.out hsz9.out ?_
           intro v10 W10 ho10 hg10 hv10
           simp only [Act.put,List.getElem_toArray,List.getElem_cons_zero,List.getElem_cons_succ,List.setIfInBounds_toArray,List.set_cons_zero,List.set_cons_succ]
           have hB10:Bz wd W10:=hB9.out.grown hg10 hsz9.out (fun j hj=>(ho9'.out.lt j hj).1)
           have hfin:=hdZ (hlast.out W10 v10 hB10 ho10)
           clear ho10 hg10 hv10 hB10
           refine wpAny_next 12 (by kernel_rfl) ?_
           refine held_value (v:=v10) (w':=W10) rfl rfl (by go_simp) ?_
           simp only [Act.put,List.getElem_toArray,List.getElem_cons_zero,List.getElem_cons_succ,List.setIfInBounds_toArray,List.set_cons_zero,List.set_cons_succ]
           refine wpAny_done (by kernel_rfl) ?_ _
           go_wp2_with fail
           go_roundw
           case rel=>exact ⟨q+1,by omega,by go_num,hfin⟩
           case measure=>simp [intOf];omega
         ·refine held_value (v:=.slice (some ⟨wd.heap.size,0,none⟩) 1 1) (w':=wd.alloc (.cells #[.slice pA pn pc] 35)) rfl rfl (by go_simp) ?_
          have hk6:=Blk.new wd 35 #[.slice pA pn pc]
          have hblow6:Bz wd (wd.alloc (.cells #[.slice pA pn pc] 35)):=(Below.refl _ wd).alloc leZ _
          obtain ⟨W2,hEW2⟩:∃X,wd.alloc (.cells #[.slice pA pn pc] 35)=X:=⟨_,rfl⟩
          rw [hEW2] at hk6 hblow6 ⊢
          obtain ⟨g6,hg6⟩:∃g,wd.heap.size=g:=⟨_,rfl⟩
          rw [hg6]
          simp only [Act.put,List.getElem_toArray,List.getElem_cons_zero,List.getElem_cons_succ,List.setIfInBounds_toArray,List.set_cons_zero,List.set_cons_succ]
          have hBB2:Hid (Bz wd W2):=hblow6
          refine wpAny_next 0 (by kernel_rfl) ?_
          refine held_value (v:=.slice (some ⟨W2.heap.size,0,none⟩) 0 0) (w':=W2.alloc (.cells #[] 35)) rfl rfl (by go_simp) ?_
          have ho0:=own_new W2 35 1
          have hblow:Bz W2 (W2.alloc (.cells #[] 35)):=(Below.refl _ W2).alloc leZ _
          obtain ⟨W3,hEW3⟩:∃X,W2.alloc (.cells #[] 35)=X:=⟨_,rfl⟩
          rw [hEW3] at ho0 hblow ⊢
          obtain ⟨g0,hg0⟩:∃g,W2.heap.size=g:=⟨_,rfl⟩
          rw [hg0]
          simp only [Act.put,List.getElem_toArray,List.getElem_cons_zero,List.setIfInBounds_toArray,List.set_cons_zero,List.set_cons_succ]
          have hBB:=btY hBB2 hblow
          have ho0':Hid (W3.ownsRow wd.heap.size 35 1 (.slice (some ⟨g0,0,none⟩) 0 0) 0 []):=by unfold Hid;have h:=own_mono ho0 hBB2.out.size;rw [<-hg0];exact h
          have hgne:g0≠g6:=by have h:=hk6.lt;omega
          have hk63:=hk6.below hblow hk6.lt
          have hrd4:=hdZ (own_slice_lo (own_below hrowO'.out hBB.out) kk hkn)
          have hsz4:=hdZ hBB.out.size
          refine wpAny_next 4 (by kernel_rfl) ?_
          refine held_append rfl rfl (.tmp 103) (.tmp 106) 28 rfl wd.heap.size 35 iS _ 1 24 Tryz.underlying28 iSi iS0 iS1 iS2 rfl (by decide) (.slice (some ⟨g0,0,none⟩) 0 0) 0 [] (by go_simp) ho0'.out W3.heap.size (some ⟨gO,0,none⟩) kk cO (vs.take kk) (by go_simp) hrd4.out hones1.out s1.out s2.out hsz4.out ?_
          intro v4 W7 ho4 hg4 hv4
          simp only [Act.put,List.getElem_toArray,List.getElem_cons_zero,List.getElem_cons_succ,List.setIfInBounds_toArray,List.set_cons_zero,List.set_cons_succ]
          rw [Nat.zero_add,List.nil_append] at ho4
          have hB4:=hBB.out.grown hg4 hsz4.out (fun j hj=>(ho0'.out.lt j hj).1)
          have hB7:=hdZ hB4
          have ho4':=hdZ ho4
          have hr6:Hid (Reads W7 W7.heap.size 1 (some ⟨g6,0,none⟩) 1 [.slice pA pn pc]):=hdZ (blk_reads (Blk.kept (by rw [<-hg6];exact hk63) hg4 (by simp [Value.ownBlock];exact hgne)) 1 1 rfl)
          clear ho4 hg4 hk6 hk63 hblow6 hB4 ho0' hrd4 hsz4 ho0 hblow hBB hBB2
          clear hv4
          have hsz7:=hdZ hB7.out.size
          refine wpAny_next 7 (by kernel_rfl) ?_
          refine held_append rfl rfl (.tmp 107) (.tmp 109) 28 rfl wd.heap.size 35 iS _ 1 24 Tryz.underlying28 iSi iS0 iS1 iS2 rfl (by decide) v4 kk (vs.take kk) (by go_simp) ho4'.out W7.heap.size (some ⟨g6,0,none⟩) 1 1 [.slice pA pn pc] (by go_simp) hr6.out s7.out s3.out s4.out hsz7.out ?_
          intro v9 W9 ho9 hg9 hv9
          simp only [Act.put,List.getElem_toArray,List.getElem_cons_zero,List.getElem_cons_succ,List.setIfInBounds_toArray,List.set_cons_zero,List.set_cons_succ]
          have hB9:Hid (Bz wd W9):=hB7.out.grown hg9 hsz7.out (fun j hj=>(ho4'.out.lt j hj).1)
          have ho9':=hdZ ho9
          have hsz9:=hdZ hB9.out.size
          have hrd9:=hdZ (hreadHi.out W9 (own_below hrowO'.out hB9.out))
          clear ho9 hg9 hv9
          refine wpAny_next 11 (by kernel_rfl) ?_
          refine held_append rfl rfl (.tmp 110) (.tmp 113) 28 rfl wd.heap.size 35 iS _ 1 24 Tryz.underlying28 iSi iS0 iS1 iS2 rfl (by decide) v9 (kk+1) (vs.take kk++[.slice pA pn pc]) (by go_simp) ho9'.out W9.heap.size A10 (nO-kk) (cO-kk) (vs.drop kk) (by go_simp) hrd9.out hones2.out s5.out s6.out hsz9.out ?_
          intro v10 W10 ho10 hg10 hv10
          simp only [Act.put,List.getElem_toArray,List.getElem_cons_zero,List.getElem_cons_succ,List.setIfInBounds_toArray,List.set_cons_zero,List.set_cons_succ]
          have hB10:Bz wd W10:=hB9.out.grown hg10 hsz9.out (fun j hj=>(ho9'.out.lt j hj).1)
          have hfin:=hdZ (hlast.out W10 v10 hB10 ho10)
          clear ho10 hg10 hv10 hB10
          refine wpAny_next 12 (by kernel_rfl) ?_
          refine held_value (v:=v10) (w':=W10) rfl rfl (by go_simp) ?_
          simp only [Act.put,List.getElem_toArray,List.getElem_cons_zero,List.getElem_cons_succ,List.setIfInBounds_toArray,List.set_cons_zero,List.set_cons_succ]
          refine wpAny_done (by kernel_rfl) ?_ _
          go_wp2_with fail
          go_roundw
          case rel=>exact ⟨q+1,by omega,by go_num,hfin⟩
          case measure=>simp [intOf];omega
  ·have hkm:decide (q<n2)=false:=dfZ hlt
   have hqn:n2=q:=by omega
   subst hqn
   go_wp2_with fail
   go_ret
   refine ⟨_,rfl,?_,hRt.out.below⟩
   rw [hce2.out]
   have h:=hRt.out.cores
   unfold coresD
   rw [hsl'.out,hn2'.out]
   exact h
end Go.Proofs.YtdjmckjbibfecaaGreatDoor

import Derived.Test.YtdjmckjbibfecaaGreatDoorWb
namespace Go.Proofs.YtdjmckjbibfecaaGreatDoor
open Go Go.RowKit Go.BigFrame Go.Maps
set_option maxRecDepth 100000
set_option maxHeartbeats 3200000
theorem greatC_snoc (w:Nat->Nat):∀(L:List Tree) (u:Tree) (j a:Nat),greatC w (L++[u]) j a=(crossM max (greatC w L j a).1 (canT w u (greatC w L j a).2).1,(canT w u (greatC w L j a).2).2)
 | [],u,j,a=>by rw [List.nil_append,greatC,greatC,greatC]
 | t::L,u,j,a=>by rw [List.cons_append,greatC,greatC,greatC_snoc w L u]
theorem leastC_snoc (w:Nat->Nat):∀(L:List Tree) (u:Tree) (j a:Nat),leastC w (L++[u]) j a=(crossM min (leastC w L j a).1 (canT w u (leastC w L j a).2).1,(canT w u (leastC w L j a).2).2)
 | [],u,j,a=>by rw [List.nil_append,leastC,leastC,leastC]
 | t::L,u,j,a=>by rw [List.cons_append,leastC,leastC,leastC_snoc w L u]
theorem greatC_take {w:Nat->Nat} {L:List Tree} {q:Nat} {u:Tree} (hu:L[q]?=some u) (j a:Nat):(greatC w (L.take (q+1)) j a).1=crossM max (greatC w (L.take q) j a).1 (canT w u (j+(atomsL (L.take q)).length)).1:=by
 obtain ⟨hq,e⟩:=gsZ.1 hu
 rw [List.take_succ_eq_append_getElem hq,e,greatC_snoc,greatC_next]
theorem leastC_take {w:Nat->Nat} {L:List Tree} {q:Nat} {u:Tree} (hu:L[q]?=some u) (j a:Nat):(leastC w (L.take (q+1)) j a).1=crossM min (leastC w (L.take q) j a).1 (canT w u (j+(atomsL (L.take q)).length)).1:=by
 obtain ⟨hq,e⟩:=gsZ.1 hu
 rw [List.take_succ_eq_append_getElem hq,e,leastC_snoc,leastC_next]
def IntsAt (w:World) (A:Option Addr) (l:List Int):Prop:=∀i x,l[i]?=some x->∃g off,A=some ⟨g,off,none⟩/\w.cell? ⟨g,off+i,none⟩=some (.int .i64 x)
theorem IntsAt.below {w w':World} {A:Option Addr} {l:List Int} (h:IntsAt w A l) (hb:Bz w w'):IntsAt w' A l:=by
 intro i x hx
 obtain ⟨g,off,e,hc⟩:=h i x hx
 exact ⟨g,off,e,(hb.cell (World.block_lt_of_cell? w _ hc)).trans hc⟩
structure Frm where
 w0:World
 bs:Nat
 ba:Nat
 bt:Nat
 sA:Option Addr
 sc:Nat
 m:Nat
 set:Nat
 st:List Int
 stn:Nat->Nat
structure Frm.Ok (F:Frm):Prop where
 m12:F.m<=12
 len:F.st.length=F.m
 stn3:∀i,F.stn i<3
 stn:∀i,i<F.m->F.st[i]?=some (F.stn i:Int)
 ints:IntsAt F.w0 F.sA F.st
 setlt:F.set<2 ^ F.m
 base:F.w0.heap.size<=F.ba
abbrev Frm.ws (F:Frm):Nat->Nat:=wOf F.stn (setP F.m F.set)
structure CanSt (F:Frm) (W:World) (j:Nat):Prop where
 sb:Blk W F.bs 35 #[.slice F.sA F.m F.sc]
 ab:Blk W F.ba 3 #[.int .i64 (j:Int)]
 tb:Blk W F.bt 38 #[.int .u64 (F.set:Int)]
 below:Below F.w0.heap.size F.w0 W
theorem CanSt.on {F:Frm} {W W':World} {j:Nat} (h:CanSt F W j) (hb:Bz W W'):CanSt F W' j :=
 ⟨h.sb.below hb h.sb.lt,h.ab.below hb h.ab.lt,h.tb.below hb h.tb.lt,h.below.trans (hb.mono h.below.size)⟩
theorem wrapJ {n:Int} (h0 : -9223372036854775808<=n) (h1:n<=9223372036854775807):wrap64 n=n:=by
 unfold wrap64;omega
theorem two_pow_lt (q:Nat) (h:q<12):(2:Nat) ^ q<4096:=Nat.pow_lt_pow_right (by omega) (by omega:q<12)
theorem wrapU (n:Nat) (h:n<18446744073709551616):IntKind.u64.wrap (n:Int)=(n:Int):=by
 have:n % 18446744073709551616=n:=Nat.mod_eq_of_lt h
 simp [IntKind.wrap,IntKind.bits,IntKind.signed]
 omega
theorem next_any (F:Frm) (W:World) (j:Nat) (hF:Hid F.Ok) (hC:Hid (CanSt F W j)) (hj:j<F.m) :
  Calls Tryz.prog 96 #[.pointer (some ⟨F.bs,0,none⟩),.pointer (some ⟨F.ba,0,none⟩),.pointer (some ⟨F.bt,0,none⟩)] W fun e W'=>e=.returned (.int .i64 (F.ws j:Int))/\CanSt F W' (j+1)/\But F.ba W W':=by
 have hm12:=hF.out.m12
 obtain ⟨x,hx⟩:∃x,F.st[j]?=some x:=⟨_,gZ (by have:=hF.out.len;omega)⟩
 have hxs:x=(F.stn j:Int):=by have h:=hF.out.stn j hj;rw [hx] at h;exact Option.some.inj h
 obtain ⟨g,off,hA,hc⟩:=hF.out.ints j x hx
 have hcW:=(hC.out.below.cell (World.block_lt_of_cell? _ _ hc)).trans hc
 have hs3:=hF.out.stn3 j
 obtain ⟨V,hV⟩:∃V,F.stn j=V:=⟨_,rfl⟩
 rw [hV] at hs3 hxs
 subst hxs
 have hsb:=hC.out.sb
 have c0:W.cell? ⟨F.bs,0,none⟩=some (.slice F.sA F.m F.sc):=hC.out.sb.cell 0
 have c1:W.cell? ⟨F.ba,0,none⟩=some (.int .i64 (j:Int)):=hC.out.ab.cell 0
 have c2:W.cell? ⟨F.bt,0,none⟩=some (.int .u64 (F.set:Int)):=hC.out.tb.cell 0
 have fz:W.frozen? ⟨F.ba,0,none⟩=false:=hC.out.ab.frozen 0
 have hst:Hid (CanSt F (W.setCell ⟨F.ba,0,none⟩ (.int .i64 ((j:Int)+1))) (j+1)):=by
  have hbt:But F.ba W (W.setCell ⟨F.ba,0,none⟩ (.int .i64 ((j:Int)+1))):=(But.refl _ W).setCell 0 _
  have n1:F.bs≠F.ba:=Blk.ne_ hC.out.sb hC.out.ab (by decide)
  have n2:F.bt≠F.ba:=Blk.ne_ hC.out.tb hC.out.ab (by decide)
  exact ⟨hC.out.sb.but hbt n1,hC.out.ab.set_ 0 _,hC.out.tb.but hbt n2,hbt.to_below hC.out.below hF.out.base hC.out.below.size⟩
 have hbut:Hid (But F.ba W (W.setCell ⟨F.ba,0,none⟩ (.int .i64 ((j:Int)+1)))):=hdZ ((But.refl _ W).setCell 0 _)
 obtain ⟨q,hq⟩:∃q,F.m-1-j=q:=⟨_,rfl⟩
 have hq12:q<12:=by omega
 have hqi:(F.m:Int)-1-(j:Int)=(q:Int):=by omega
 have hp:=two_pow_lt q hq12
 have hwq:IntKind.u64.wrap (2 ^ q)=((2 ^ q:Nat):Int):=by
  have:=wrapU (2 ^ q) (by omega)
  rw [<-this]
  simp
 obtain ⟨P,hP⟩:∃z:Int,Hid (((2 ^ q:Nat):Int)=z):=⟨_,rfl⟩
 rw [hP.out] at hwq
 have hset:=hF.out.setlt
 have hsm:F.set<4096:=Nat.lt_of_lt_of_le hset (Nat.pow_le_pow_right (by omega) hm12)
 obtain ⟨RI,hRI⟩:∃z:Int,Hid (((F.set &&& 2 ^ q:Nat):Int)=z):=⟨_,rfl⟩
 have hand:bits .and .u64 (F.set:Int) P=RI:=by rw [<-hP.out,bits_and_u64_nat _ _ (by omega) (by omega)];exact hRI.out
 have hea:=and_bit F.set q
 have hws:F.ws j=if F.set.testBit q then 2 ^ V else 7:=by
  show wOf F.stn (setP F.m F.set) j=_
  unfold wOf setP
  rw [hq,hV]
 have hws':=hdZ hws
 have hq0:(0:Int)<=(q:Int):=by omega
 have hq64:(q:Int)<=64:=by omega
 have i1:(j:Int)<(F.m:Int):=by omega
 have i2:(0:Int)<=(j:Int):=by omega
 have i3:(0:Int)<=(F.m:Int)-1-(j:Int):=by omega
 have w1:IntKind.i64.wrap ((F.m:Int)-1)=(F.m:Int)-1:=IntWalk.i64_in _ (by omega)
 obtain ⟨bs,hbs⟩:∃b,F.bs=b:=⟨_,rfl⟩
 obtain ⟨ba,hba⟩:∃b,F.ba=b:=⟨_,rfl⟩
 obtain ⟨bt,hbt⟩:∃b,F.bt=b:=⟨_,rfl⟩
 obtain ⟨mm,hmm⟩:∃b,F.m=b:=⟨_,rfl⟩
 obtain ⟨ss,hss⟩:∃b,F.set=b:=⟨_,rfl⟩
 rw [hA] at c0
 rw [hbs,hmm] at c0
 rw [hba] at c1 fz hst hbut
 rw [hbt,hss] at c2
 rw [hss] at hand
 rw [hmm] at hqi i1 i3 w1 hj
 rw [hbs,hba,hbt]
 have hw64:Hid (wrap64 ((j:Int)+1)=(j:Int)+1):=hdZ (wrapJ (by omega) (by omega))
 clear hsb hc hx hA hV hset hsm hp hq hws hbs hbt hmm hm12
 cases ht:F.set.testBit q with
 | false =>
  have hz:RI=0:=by rw [<-hRI.out,hea,ht];rfl
  rw [hz] at hand
  have hv:Hid (F.ws j=7):=by unfold Hid;rw [hws'.out,ht];rfl
  clear hz hRI hea ht hss
  go_enter Tryz.func96,Tryz.ntmps96
  go_wp2_with fail
  go_ret
  rw [hw64.out]
  exact ⟨by rw [hv.out];rfl,hst.out,hbut.out⟩
 | true =>
  have hpos:2 ^ q≠0:=Nat.ne_of_gt (Nat.two_pow_pos q)
  have hne:¬RI=0:=by rw [<-hRI.out,hea,ht,if_pos rfl];omega
  have hz:(RI==0)=false:=by simpa using hne
  have hz9:(RI != 0)=true:=by simpa using hne
  have hw3:IntKind.i64.wrap (2 ^ V)=((2 ^ V:Nat):Int):=wrap_pow V hs3
  have hv:Hid (F.ws j=2 ^ V):=by unfold Hid;rw [hws'.out,ht];rfl
  obtain ⟨T,hT⟩:∃z:Int,Hid (((2 ^ V:Nat):Int)=z):=⟨_,rfl⟩
  rw [hT.out] at hw3
  have hV2:(0:Int)<=(V:Int):=by omega
  have hV3:(V:Int)<=64:=by omega
  clear hRI hea ht hpos hss
  go_enter Tryz.func96,Tryz.ntmps96
  go_wp2_with fail
  go_ret
  rw [hw64.out]
  exact ⟨by rw [hv.out,hT.out];rfl,hst.out,hbut.out⟩
def CanC (F:Frm) (t:Tree):Prop:=∀(W:World) (j:Nat),Hid F.Ok->Hid (CanSt F W j)->Hid (TreeAt F.w0 t)->j+(atomsT t).length<=F.m ->
 Calls Tryz.prog 95 #[.agg t.cells,.func (.func 96) #[] #[.pointer (some ⟨F.bs,0,none⟩),.pointer (some ⟨F.ba,0,none⟩),.pointer (some ⟨F.bt,0,none⟩)]] W fun e W'=>e=.returned (.int .i64 (((canT F.ws t j).1:Nat):Int))/\CanSt F W' (j+(atomsT t).length)/\But F.ba W W'
theorem canT_lt {F:Frm} (h:F.Ok) (t:Tree) (j:Nat):(canT F.ws t j).1<8:=(reachT (wOf_lt h.stn3 _) t j).1
theorem greatC_lt {F:Frm} (h:F.Ok) (L:List Tree) (j:Nat):(greatC F.ws L j 1).1<8:=(reachG (wOf_lt h.stn3 _) L j 1 (by omega)).1
theorem leastC_lt {F:Frm} (h:F.Ok) (L:List Tree) (j:Nat):(leastC F.ws L j 4).1<8:=(reachL (wOf_lt h.stn3 _) L j 4 (by omega)).1
theorem all_max (F:Frm) (L:List Tree) (ih:Hid (∀u∈L,CanC F u)) (k p n:Int) (f x:ByteArray) (A:Option Addr) (nL c bn bx:Nat) (W:World) (j:Nat) (hF:Hid F.Ok) (hC:Hid (CanSt F W j)) (hnL:Hid (L.length=nL)) (hL:Hid (RowsAt F.w0 A 0 L)) (hm:nL<=maxLen) (hle:Hid (j+(atomsL L).length<=F.m))
  (hn:Hid (Blk W bn 24 #[.int .i64 k,.int .i64 p,.string f,.string x,.int .i64 n,.slice A nL c])) (hx:Hid (Blk W bx 135 #[.func (.func 96) #[] #[.pointer (some ⟨F.bs,0,none⟩),.pointer (some ⟨F.ba,0,none⟩),.pointer (some ⟨F.bt,0,none⟩)]])) (_hn1:bn≠F.ba) (hx1:bx≠F.ba) :
  Calls Tryz.prog 148 #[.int .i64 1,.func (.func 150) #[] #[],.pointer (some ⟨bn,0,none⟩),.pointer (some ⟨bx,0,none⟩)] W fun e W'=>e=.returned (.int .i64 (((greatC F.ws L j 1).1:Nat):Int))/\CanSt F W' (j+(atomsL L).length)/\But F.ba W W':=by
 unfold maxLen at hm
 have q5:W.cell? ⟨bn,5,none⟩=some (.slice A nL c):=hn.out.cell 5
 go_enter Tryz.func148,Tryz.ntmps148
 go_wp2_with fail
 go_loopw [7,14] (fun s i wr=>∃(q:Nat),q<=nL/\i=.int .i64 q/\s=.int .i64 (((greatC F.ws (L.take q) j 1).1:Nat):Int)/\Hid (CanSt F wr (j+(atomsL (L.take q)).length))/\Hid (But F.ba W wr)) (fun _ i _=>nL-(intOf i).toNat)
 case atStart=>exact ⟨0,Nat.zero_le _,rfl,by rw [List.take_zero,greatC];rfl,hdZ (by rw [List.take_zero,atomsL];exact hC.out),hdZ (But.refl _ _)⟩
 case round =>
  obtain ⟨q,hq,rfl,rfl,hS,hU⟩:=hrel
  by_cases hlt:q<nL
  ·obtain ⟨u,hu⟩:∃u,L[q]?=some u:=⟨_,gZ (by have:=hnL.out;omega)⟩
   obtain ⟨hcu,htu⟩:=hL.out.get q u hu
   have hmem:=mgZ hu
   have hstep:Hid (atomsL (L.take (q+1))=atomsL (L.take q)++atomsT u):=hdZ (atomsL_take hu)
   have hfold:=hdZ (greatC_take (w:=F.ws) hu j 1)
   have hlen2:Hid (j+(atomsL (L.take q)).length+(atomsT u).length<=F.m):=by
    have h1:=atomsL_take_le (q+1) L
    rw [hstep.out,List.length_append] at h1
    have h2:=hle.out
    unfold Hid
    omega
   have hc1:=canT_lt hF.out u (j+(atomsL (L.take q)).length)
   have hc2:=greatC_lt hF.out (L.take q) j
   have hub:=hS.out.below
   have hT4:=hdZ htu
   clear hu htu
   obtain ⟨uk,up,uf,ux,un,uA,uc,uL⟩:=u
   rw [Nat.zero_add] at hcu
   obtain ⟨b,off,rfl,d0,d1,d2,d3,d4,d5⟩:=hcu
   have hbl:b<F.w0.heap.size:=World.block_lt_of_cell? F.w0 _ d0
   have key:∀j,wr.cell? ⟨b,j,none⟩=F.w0.cell? ⟨b,j,none⟩:=fun j=>hub.cell hbl
   rw [<-key] at d0 d1 d2 d3 d4 d5
   clear key hub
   obtain ⟨w4,hw4,hb4,hN4⟩:=newZ wr 24 #[.int .i64 uk,.int .i64 up,.string uf,.string ux,.int .i64 un,.slice uA uL.length uc]
   have hS4:=hdZ (hS.out.on hb4.out)
   have hU4:Hid (But F.ba W w4):=hU.out.below hb4.out
   have hx4:=hdZ (hx.out.but hU4.out hx1)
   have hcall:=hdZ (ih.out _ hmem w4 _ hF hS4 hT4 hlen2.out)
   simp only [Tree.cells] at hcall
   obtain ⟨CV,hCV⟩:∃z,(canT F.ws (.mk uk up uf ux un uA uc uL) (j+(atomsL (L.take q)).length)).1=z:=⟨_,rfl⟩
   obtain ⟨SV,hSV⟩:∃z,(greatC F.ws (L.take q) j 1).1=z:=⟨_,rfl⟩
   rw [hCV] at hcall hc1
   rw [hSV] at hc2 ⊢
   have hf2:=hfold.out
   rw [hCV,hSV] at hf2
   have hfold2:=hdZ hf2
   have hcr:=hdZ (fun X=>crossed_max SV CV X hc2 hc1)
   obtain ⟨r0,r1,r2,r3,r4,r5⟩:=cs6 hN4.out
   have re:w4.cell? ⟨bx,0,none⟩=some (.func (.func 96) #[] #[.pointer (some ⟨F.bs,0,none⟩),.pointer (some ⟨F.ba,0,none⟩),.pointer (some ⟨F.bt,0,none⟩)]):=hx4.out.cell 0
   obtain ⟨i1,i2,hkm⟩:=inZ hlt
   clear hmem hS4 hf2 hfold hCV hSV hc1 hc2 q5
   go_wp2_with (rw [hw4.out])
   refine hcall.out.mono ?_
   rintro e w5 ⟨rfl,hS5,hU5⟩
   have hS5':=hdZ hS5
   have hU5':Hid (But F.ba W w5):=hU4.out.trans hU5
   clear hS5 hU5 hcall r0 r1 r2 r3 r4 r5 re d0 d1 d2 d3 d4 d5
   go_wp2_with fail
   refine (hcr.out _).mono ?_
   rintro e w6 ⟨rfl,rfl⟩
   go_wp2_with fail
   go_roundw
   case rel=>exact ⟨q+1,by omega,by go_num,by rw [hfold2.out],hdZ (by rw [hstep.out,List.length_append,<-Nat.add_assoc];exact hS5'.out),hU5'⟩
   case measure=>simp [intOf];omega
  ·have hkm:decide (q<nL)=false:=dfZ hlt
   have hall:Hid (L.take q=L):=hdZ (List.take_of_length_le (by have:=hnL.out;omega))
   go_wp2_with fail
   go_ret
   have h:=hS.out
   rw [hall.out] at h ⊢
   exact ⟨rfl,h,hU.out⟩
theorem all_min (F:Frm) (L:List Tree) (ih:Hid (∀u∈L,CanC F u)) (k p n:Int) (f x:ByteArray) (A:Option Addr) (nL c bn bx:Nat) (W:World) (j:Nat) (hF:Hid F.Ok) (hC:Hid (CanSt F W j)) (hnL:Hid (L.length=nL)) (hL:Hid (RowsAt F.w0 A 0 L)) (hm:nL<=maxLen) (hle:Hid (j+(atomsL L).length<=F.m))
  (hn:Hid (Blk W bn 24 #[.int .i64 k,.int .i64 p,.string f,.string x,.int .i64 n,.slice A nL c])) (hx:Hid (Blk W bx 135 #[.func (.func 96) #[] #[.pointer (some ⟨F.bs,0,none⟩),.pointer (some ⟨F.ba,0,none⟩),.pointer (some ⟨F.bt,0,none⟩)]])) (_hn1:bn≠F.ba) (hx1:bx≠F.ba) :
  Calls Tryz.prog 148 #[.int .i64 4,.func (.func 151) #[] #[],.pointer (some ⟨bn,0,none⟩),.pointer (some ⟨bx,0,none⟩)] W fun e W'=>e=.returned (.int .i64 (((leastC F.ws L j 4).1:Nat):Int))/\CanSt F W' (j+(atomsL L).length)/\But F.ba W W':=by
 unfold maxLen at hm
 have q5:W.cell? ⟨bn,5,none⟩=some (.slice A nL c):=hn.out.cell 5
 go_enter Tryz.func148,Tryz.ntmps148
 go_wp2_with fail
 go_loopw [7,14] (fun s i wr=>∃(q:Nat),q<=nL/\i=.int .i64 q/\s=.int .i64 (((leastC F.ws (L.take q) j 4).1:Nat):Int)/\Hid (CanSt F wr (j+(atomsL (L.take q)).length))/\Hid (But F.ba W wr)) (fun _ i _=>nL-(intOf i).toNat)
 case atStart=>exact ⟨0,Nat.zero_le _,rfl,by rw [List.take_zero,leastC];rfl,hdZ (by rw [List.take_zero,atomsL];exact hC.out),hdZ (But.refl _ _)⟩
 case round =>
  obtain ⟨q,hq,rfl,rfl,hS,hU⟩:=hrel
  by_cases hlt:q<nL
  ·obtain ⟨u,hu⟩:∃u,L[q]?=some u:=⟨_,gZ (by have:=hnL.out;omega)⟩
   obtain ⟨hcu,htu⟩:=hL.out.get q u hu
   have hmem:=mgZ hu
   have hstep:Hid (atomsL (L.take (q+1))=atomsL (L.take q)++atomsT u):=hdZ (atomsL_take hu)
   have hfold:=hdZ (leastC_take (w:=F.ws) hu j 4)
   have hlen2:Hid (j+(atomsL (L.take q)).length+(atomsT u).length<=F.m):=by
    have h1:=atomsL_take_le (q+1) L
    rw [hstep.out,List.length_append] at h1
    have h2:=hle.out
    unfold Hid
    omega
   have hc1:=canT_lt hF.out u (j+(atomsL (L.take q)).length)
   have hc2:=leastC_lt hF.out (L.take q) j
   have hub:=hS.out.below
   have hT4:=hdZ htu
   clear hu htu
   obtain ⟨uk,up,uf,ux,un,uA,uc,uL⟩:=u
   rw [Nat.zero_add] at hcu
   obtain ⟨b,off,rfl,d0,d1,d2,d3,d4,d5⟩:=hcu
   have hbl:b<F.w0.heap.size:=World.block_lt_of_cell? F.w0 _ d0
   have key:∀j,wr.cell? ⟨b,j,none⟩=F.w0.cell? ⟨b,j,none⟩:=fun j=>hub.cell hbl
   rw [<-key] at d0 d1 d2 d3 d4 d5
   clear key hub
   obtain ⟨w4,hw4,hb4,hN4⟩:=newZ wr 24 #[.int .i64 uk,.int .i64 up,.string uf,.string ux,.int .i64 un,.slice uA uL.length uc]
   have hS4:=hdZ (hS.out.on hb4.out)
   have hU4:Hid (But F.ba W w4):=hU.out.below hb4.out
   have hx4:=hdZ (hx.out.but hU4.out hx1)
   have hcall:=hdZ (ih.out _ hmem w4 _ hF hS4 hT4 hlen2.out)
   simp only [Tree.cells] at hcall
   obtain ⟨CV,hCV⟩:∃z,(canT F.ws (.mk uk up uf ux un uA uc uL) (j+(atomsL (L.take q)).length)).1=z:=⟨_,rfl⟩
   obtain ⟨SV,hSV⟩:∃z,(leastC F.ws (L.take q) j 4).1=z:=⟨_,rfl⟩
   rw [hCV] at hcall hc1
   rw [hSV] at hc2 ⊢
   have hf2:=hfold.out
   rw [hCV,hSV] at hf2
   have hfold2:=hdZ hf2
   have hcr:=hdZ (fun X=>crossed_min SV CV X hc2 hc1)
   obtain ⟨r0,r1,r2,r3,r4,r5⟩:=cs6 hN4.out
   have re:w4.cell? ⟨bx,0,none⟩=some (.func (.func 96) #[] #[.pointer (some ⟨F.bs,0,none⟩),.pointer (some ⟨F.ba,0,none⟩),.pointer (some ⟨F.bt,0,none⟩)]):=hx4.out.cell 0
   obtain ⟨i1,i2,hkm⟩:=inZ hlt
   clear hmem hS4 hf2 hfold hCV hSV hc1 hc2 q5
   go_wp2_with (rw [hw4.out])
   refine hcall.out.mono ?_
   rintro e w5 ⟨rfl,hS5,hU5⟩
   have hS5':=hdZ hS5
   have hU5':Hid (But F.ba W w5):=hU4.out.trans hU5
   clear hS5 hU5 hcall r0 r1 r2 r3 r4 r5 re d0 d1 d2 d3 d4 d5
   go_wp2_with fail
   refine (hcr.out _).mono ?_
   rintro e w6 ⟨rfl,rfl⟩
   go_wp2_with fail
   go_roundw
   case rel=>exact ⟨q+1,by omega,by go_num,by rw [hfold2.out],hdZ (by rw [hstep.out,List.length_append,<-Nat.add_assoc];exact hS5'.out),hU5'⟩
   case measure=>simp [intOf];omega
  ·have hkm:decide (q<nL)=false:=dfZ hlt
   have hall:Hid (L.take q=L):=hdZ (List.take_of_length_le (by have:=hnL.out;omega))
   go_wp2_with fail
   go_ret
   have h:=hS.out
   rw [hall.out] at h ⊢
   exact ⟨rfl,h,hU.out⟩
theorem can_walk (F:Frm) (t:Tree) (ih:Hid (∀u∈t.sub,CanC F u)):CanC F t:=by
 intro W j hF hC hT hle
 obtain ⟨k,p,f,x,n,A,c,L⟩:=t
 have hia:=fun X=>isAtom_any (.mk k p f x n A c L) X
 have hrow0:Hid (RowsAt F.w0 A 0 L/\L.length<=maxLen):=by have h:=hT.out;rw [TreeAt] at h;exact h
 have hih:Hid (∀u∈L,CanC F u):=ih
 simp only [Tree.cells,Tree.kind] at hia ⊢
 obtain ⟨nL,hnL⟩:∃m,L.length=m:=⟨_,rfl⟩
 have hnLm:nL<=maxLen:=by rw [<-hnL];exact hrow0.out.2
 rw [hnL] at hia ⊢
 have hnL':=hdZ hnL
 clear hnL ih
 obtain ⟨w1,hw1⟩:=nmZ ((W.alloc (.cells #[.int .i64 k,.int .i64 p,.string f,.string x,.int .i64 n,.slice A nL c] 24)).alloc (.cells #[.func (.func 96) #[] #[.pointer (some ⟨F.bs,0,none⟩),.pointer (some ⟨F.ba,0,none⟩),.pointer (some ⟨F.bt,0,none⟩)]] 135))
 have hba:Bz W (W.alloc (.cells #[.int .i64 k,.int .i64 p,.string f,.string x,.int .i64 n,.slice A nL c] 24)):=(Below.refl _ W).alloc leZ _
 have hb1:Hid (Bz W w1):=by rw [<-hw1.out];exact hba.alloc hba.size _
 have hN1:Hid (Blk w1 W.heap.size 24 #[.int .i64 k,.int .i64 p,.string f,.string x,.int .i64 n,.slice A nL c]):=by rw [<-hw1.out];exact hdZ ((Blk.new W _ _).below ((Below.refl _ _).alloc leZ _) (Blk.new W _ _).lt)
 have hX1:Hid (Blk w1 (W.heap.size+1) 135 #[.func (.func 96) #[] #[.pointer (some ⟨F.bs,0,none⟩),.pointer (some ⟨F.ba,0,none⟩),.pointer (some ⟨F.bt,0,none⟩)]]):=by rw [<-hw1.out];exact hdZ (blk_second _ _ _ _)
 have hS1:=hdZ (hC.out.on hb1.out)
 have hal:=hC.out.ab.lt
 have n1:W.heap.size≠F.ba:=by omega
 have n2:W.heap.size+1≠F.ba:=by omega
 obtain ⟨q0,q1,q2,q3,q4,q5⟩:=cs6 hN1.out
 have hia1:=hdZ (hia w1)
 obtain ⟨RC,hRC⟩:∃r:Nat,Hid ((canT F.ws (.mk k p f x n A c L) j).1=r):=⟨_,rfl⟩
 obtain ⟨CN,hCN⟩:∃r:Nat,Hid ((atomsT (.mk k p f x n A c L)).length=r):=⟨_,rfl⟩
 rw [hRC.out,hCN.out]
 clear hia hba
 go_enter Tryz.func95,Tryz.ntmps95
 go_wp2_with (rw [hw1.out])
 refine hia1.out.mono ?_
 rintro e w2 ⟨rfl,hb2⟩
 have hN2:=kbY hN1 hb2
 have hX2:=kbY hX1 hb2
 have hS2:=hdZ (hS1.out.on hb2)
 have hU2:Hid (But F.ba W w2):=But.of_below (hb1.out.trans (hb2.mono hb1.out.size))
 clear hb2 q0 q1 q2 q3 q4 q5 hia1
 have q0:w2.cell? ⟨W.heap.size,0,none⟩=some (.int .i64 k):=hN2.out.cell 0
 have qx:w2.cell? ⟨W.heap.size+1,0,none⟩=some (.func (.func 96) #[] #[.pointer (some ⟨F.bs,0,none⟩),.pointer (some ⟨F.ba,0,none⟩),.pointer (some ⟨F.bt,0,none⟩)]):=hX2.out.cell 0
 by_cases hk:3<=k/\k<=7
 ·rw [isAt_yes hk]
  have hat:atomsT (.mk k p f x n A c L)=[.mk k p f x n A c L]:=by rw [atomsT,if_pos hk]
  have hct:canT F.ws (.mk k p f x n A c L) j=(F.ws j,j+1):=by rw [canT,if_pos hk]
  rw [hat] at hle
  have hR:Hid (RC=F.ws j):=by unfold Hid;rw [<-hRC.out,hct]
  have hCc:Hid (CN=1):=by unfold Hid;rw [<-hCN.out,hat];rfl
  have hnx:=hdZ (next_any F w2 j hF hS2 (by simp only [List.length_cons,List.length_nil] at hle;omega))
  clear hat hct hk hle
  go_wp2_with fail
  refine hnx.out.mono ?_
  rintro e w3 ⟨rfl,hS3,hU3⟩
  have hS3':=hdZ hS3
  have hU3':Hid (But F.ba W w3):=hU2.out.trans hU3
  clear hS3 hU3 hnx
  go_wp2_with fail
  go_ret
  rw [hR.out,hCc.out]
  exact ⟨rfl,hS3'.out,hU3'.out⟩
 rw [isAt_no hk]
 by_cases h3:0<=k/\k<=2
 ·have hat:atomsT (.mk k p f x n A c L)=atomsL L:=by rw [atomsT,if_neg hk,if_pos h3]
  rw [hat] at hle
  have hCc:Hid (CN=(atomsL L).length):=by unfold Hid;rw [<-hCN.out,hat]
  have hle':=hdZ hle
  by_cases h0:k=0
  ·have hct:canT F.ws (.mk k p f x n A c L) j=greatC F.ws L j 1:=by rw [canT,if_neg hk,if_pos h0]
   have hR:Hid (RC=_):=(hRC.out.symm.trans (congrArg Prod.fst hct))
   have hal2:=hdZ (all_max F L hih k p n f x A nL c W.heap.size (W.heap.size+1) w2 j hF hS2 hnL' (hdZ hrow0.out.1) hnLm hle' hN2 hX2 n1 n2)
   subst h0
   clear hat hct hk h3 hle
   go_wp2_with fail
   refine hal2.out.mono ?_
   rintro e w3 ⟨rfl,hS3,hU3⟩
   have hS3':=hdZ hS3
   have hU3':Hid (But F.ba W w3):=hU2.out.trans hU3
   clear hS3 hU3 hal2
   go_wp2_with fail
   go_ret
   rw [hR.out,hCc.out]
   exact ⟨rfl,hS3'.out,hU3'.out⟩
  by_cases h1:k=1
  ·have hct:canT F.ws (.mk k p f x n A c L) j=leastC F.ws L j 4:=by rw [canT,if_neg hk,if_neg h0,if_pos h1]
   have hR:Hid (RC=_):=(hRC.out.symm.trans (congrArg Prod.fst hct))
   have hal2:=hdZ (all_min F L hih k p n f x A nL c W.heap.size (W.heap.size+1) w2 j hF hS2 hnL' (hdZ hrow0.out.1) hnLm hle' hN2 hX2 n1 n2)
   subst h1
   clear hat hct hk h3 hle h0
   go_wp2_with fail
   refine hal2.out.mono ?_
   rintro e w3 ⟨rfl,hS3,hU3⟩
   have hS3':=hdZ hS3
   have hU3':Hid (But F.ba W w3):=hU2.out.trans hU3
   clear hS3 hU3 hal2
   go_wp2_with fail
   go_ret
   rw [hR.out,hCc.out]
   exact ⟨rfl,hS3'.out,hU3'.out⟩
  have h2:k=2:=by omega
  have hct:(canT F.ws (.mk k p f x n A c L) j).1=crossM (fun a b=>b-a) (greatC F.ws L j 1).1 4:=by rw [canT,if_neg hk,if_neg h0,if_neg h1,if_pos h2]
  have hR:Hid (RC=_):=hRC.out.symm.trans hct
  have hal2:=hdZ (all_max F L hih k p n f x A nL c W.heap.size (W.heap.size+1) w2 j hF hS2 hnL' (hdZ hrow0.out.1) hnLm hle' hN2 hX2 n1 n2)
  have hcr:=hdZ (fun X=>crossed_not (greatC F.ws L j 1).1 4 X (greatC_lt hF.out L j) (by omega) (hdZ rfl))
  subst h2
  clear hat hct hk h3 hle h0 h1
  go_wp2_with fail
  refine hal2.out.mono ?_
  rintro e w3 ⟨rfl,hS3,hU3⟩
  have hS3':=hdZ hS3
  have hU3':Hid (But F.ba W w3):=hU2.out.trans hU3
  clear hS3 hU3 hal2
  go_wp2_with fail
  refine (hcr.out _).mono ?_
  rintro e w4 ⟨rfl,rfl⟩
  go_wp2_with fail
  go_ret
  rw [hR.out,hCc.out]
  exact ⟨rfl,hS3'.out,hU3'.out⟩
 ·have hat:atomsT (.mk k p f x n A c L)=[]:=by rw [atomsT,if_neg hk,if_neg h3]
  have hct:canT F.ws (.mk k p f x n A c L) j=(4,j):=by rw [canT,if_neg hk,if_neg (by omega),if_neg (by omega),if_neg (by omega)]
  have hR:Hid (RC=4):=by unfold Hid;rw [<-hRC.out,hct]
  have hCc:Hid (CN=0):=by unfold Hid;rw [<-hCN.out,hat];rfl
  have e0:(k==0)=false:=by simp;omega
  have e1:(k==1)=false:=by simp;omega
  have e2:(k==2)=false:=by simp;omega
  clear hat hct hk h3 hle
  go_wp2_with fail
  go_ret
  rw [hR.out,hCc.out]
  exact ⟨rfl,hS2.out,hU2.out⟩
theorem can_any (F:Frm):∀t,CanC F t:=Tree.every fun t ih=>can_walk F t (hdZ ih)
theorem explains_any (t:Tree) (m set:Nat) (st:List Int) (stn:Nat->Nat) (sA:Option Addr) (sc:Nat) (W:World) (hm:m<=12) (hl:st.length=m) (h3:∀i,stn i<3) (hst:∀i,i<m->st[i]?=some (stn i:Int)) (hA:IntsAt W sA st) (hset:set<2 ^ m) (hat:(atomsT t).length=m) (hT:TreeAt W t) :
  Calls Tryz.prog 46 #[.agg t.cells,.slice sA m sc,.int .u64 (set:Int)] W fun e W'=>e=.returned (.bool (explB t stn m set))/\Bz W W':=by
 have hex:Hid (explB t stn m set=!((canT (wOf stn (setP m set)) t 0).1.testBit 0)):=rfl
 rw [hex.out]
 obtain ⟨k,p,f,x,n,A,c,L⟩:=t
 obtain ⟨F,hF⟩:∃F:Frm,F=⟨W,W.heap.size+1,W.heap.size+1+1+1,W.heap.size+1+1,sA,sc,m,set,st,stn⟩:=⟨_,rfl⟩
 have hOk:Hid F.Ok:=by subst hF;exact ⟨hm,hl,h3,hst,hA,hset,by show W.heap.size<=W.heap.size+1+1+1;omega⟩
 obtain ⟨w1,hw1⟩:=nmZ ((((W.alloc (.cells #[.int .i64 k,.int .i64 p,.string f,.string x,.int .i64 n,.slice A L.length c] 24)).alloc (.cells #[.slice sA m sc] 35)).alloc (.cells #[.int .u64 (set:Int)] 38)).alloc (.cells #[.int .i64 0] 3))
 have ba:=(Below.refl W.heap.size W).alloc leZ (.cells #[.int .i64 k,.int .i64 p,.string f,.string x,.int .i64 n,.slice A L.length c] 24)
 have bb:=ba.alloc ba.size (.cells #[.slice sA m sc] 35)
 have bc:=bb.alloc bb.size (.cells #[.int .u64 (set:Int)] 38)
 have bd:=bc.alloc bc.size (.cells #[.int .i64 0] 3)
 rw [hw1.out] at bd
 have kn:=Blk.new W 24 #[.int .i64 k,.int .i64 p,.string f,.string x,.int .i64 n,.slice A L.length c]
 have ks:=Blk.new (W.alloc (.cells #[.int .i64 k,.int .i64 p,.string f,.string x,.int .i64 n,.slice A L.length c] 24)) 35 #[.slice sA m sc]
 have kt:=Blk.new ((W.alloc (.cells #[.int .i64 k,.int .i64 p,.string f,.string x,.int .i64 n,.slice A L.length c] 24)).alloc (.cells #[.slice sA m sc] 35)) 38 #[.int .u64 (set:Int)]
 have ka:=Blk.new (((W.alloc (.cells #[.int .i64 k,.int .i64 p,.string f,.string x,.int .i64 n,.slice A L.length c] 24)).alloc (.cells #[.slice sA m sc] 35)).alloc (.cells #[.int .u64 (set:Int)] 38)) 3 #[.int .i64 0]
 have on3:∀(X:World) (o:Obj),Bz X (X.alloc o):=fun X o=>(Below.refl _ X).alloc leZ o
 have kt1:=kt.below (on3 _ (.cells #[.int .i64 0] 3)) kt.lt
 have ks1:=(ks.below (on3 _ (.cells #[.int .u64 (set:Int)] 38)) ks.lt)
 have ks2:=ks1.below (on3 _ (.cells #[.int .i64 0] 3)) ks1.lt
 have kn1:=kn.below (on3 _ (.cells #[.slice sA m sc] 35)) kn.lt
 have kn2:=kn1.below (on3 _ (.cells #[.int .u64 (set:Int)] 38)) kn1.lt
 have kn3:=hdZ (kn2.below (on3 _ (.cells #[.int .i64 0] 3)) kn2.lt)
 rw [hw1.out] at ks2 kt1 ka kn3
 simp only [World.size_alloc] at ks2 kt1 ka
 have hS:Hid (CanSt F w1 0):=by subst hF;exact ⟨ks2,ka,kt1,bd⟩
 have hcall:=hdZ (can_any F (.mk k p f x n A c L) w1 0 hOk hS (by subst hF;exact hdZ hT) (by subst hF;rw [hat];exact Nat.le_of_eq (Nat.zero_add _)))
 have hlt:=canT_lt hOk.out (.mk k p f x n A c L) 0
 have hws:F.ws=wOf stn (setP m set):=by subst hF;rfl
 rw [hws] at hcall hlt
 obtain ⟨C,hC⟩:∃z,(canT (wOf stn (setP m set)) (.mk k p f x n A c L) 0).1=z:=⟨_,rfl⟩
 rw [hC] at hcall hlt ⊢
 have hFb:F.ba=W.heap.size+1+1+1/\F.bs=W.heap.size+1/\F.bt=W.heap.size+1+1:=by subst hF;exact ⟨rfl,rfl,rfl⟩
 rw [hFb.1,hFb.2.1,hFb.2.2] at hcall
 simp only [Tree.cells] at hcall ⊢
 have bd':=hdZ bd
 have hand:bits .and .i64 (C:Int) 1=((C &&& 2 ^ 0:Nat):Int):=bits_and_i64 C 1 (by omega) (by omega)
 rw [and_bit C 0] at hand
 clear ba bb bc bd kn ks kt ka on3 kt1 ks1 ks2 kn1 kn2 hS hws hC hFb hF hat hT hset hA hst h3 hl hm hex hlt
 obtain ⟨q0,q1,q2,q3,q4,q5⟩:=cs6 kn3.out
 go_enter Tryz.func46,Tryz.ntmps46
 go_upto_region 2 with fail
 rw [hw1.out]
 go_wp2_with fail
 refine hcall.out.mono ?_
 rintro e w2 ⟨rfl,hS2,hU2⟩
 have hB2:Hid (Bz W w2):=hU2.to_below bd'.out (by omega) bd'.out.size
 clear hcall hS2 hU2 q0 q1 q2 q3 q4 q5
 cases hb:C.testBit 0 with
 | true =>
  have hand':bits .and .i64 (C:Int) 1=1:=by rw [hand,hb];rfl
  have hb':=hdZ hb
  clear hand hb
  go_wp2_with fail
  go_ret
  exact ⟨by rw [hb'.out];rfl,hB2.out⟩
 | false =>
  have hand':bits .and .i64 (C:Int) 1=0:=by rw [hand,hb];rfl
  have hb':=hdZ hb
  clear hand hb
  go_wp2_with fail
  go_ret
  exact ⟨by rw [hb'.out];rfl,hB2.out⟩
end Go.Proofs.YtdjmckjbibfecaaGreatDoor

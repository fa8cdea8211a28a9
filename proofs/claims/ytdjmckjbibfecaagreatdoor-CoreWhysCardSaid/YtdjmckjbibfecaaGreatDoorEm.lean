import Derived.BigRegion
import Derived.Deep.CutBlock
import Derived.Test.YtdjmckjbibfecaaGreatDoorEi
namespace Go.Proofs.YtdjmckjbibfecaaGreatDoor
open Go Go.RowKit Go.BigFrame Go.Maps
set_option maxRecDepth 100000
set_option maxHeartbeats 3200000
theorem ruledF_snoc {needs:List Nd} {q:Nat} {x:Nd} (docs:List Pap) (a:Int) (d:Pap) (h:needs[q]?=some x):ruledF (needs.take (q+1)) docs a d=ruledF (needs.take q) docs a d++needR docs a d x:=by
 obtain ⟨hk,he⟩:=gsZ.1 h
 rw [List.take_succ_eq_append_getElem hk,he];simp [ruledF]
theorem needR_no {docs:List Pap} {a:Int} {d:Pap} {x:Nd} (h:¬x.kind=d.kind):needR docs a d x=[]:=by unfold needR;rw [if_neg h]
theorem needR_yes {docs:List Pap} {a:Int} {d:Pap} {x:Nd} (h:x.kind=d.kind):needR docs a d x=partF docs a d (partsT x.rule):=by unfold needR;rw [if_pos h];rfl
def FewParts (needs:List Nd):Prop:=needs.length<=12/\∀x∈needs,(partsT x.rule).length<=60
theorem ruledF_len {docs:List Pap} {a:Int} {d:Pap}:∀(needs:List Nd),(∀x∈needs,(partsT x.rule).length<=60)->(ruledF needs docs a d).length<=60*needs.length
 | [],_=>by simp [ruledF]
 | x::r,h=>by
  have ih:=ruledF_len (docs:=docs) (a:=a) (d:=d) r (fun y hy=>h y (by simp [hy]))
  have h1:(needR docs a d x).length<=60:=by
   unfold needR
   split
   ·exact Nat.le_trans (partF_len docs a d _) (h x (by simp))
   ·simp
  show ((needR docs a d x)++ruledF r docs a d).length<=_
  rw [List.length_append,List.length_cons];omega
theorem fixedF_len (c:Crd) (day a:Int) (d:Pap):(fixedF c day a d).length<=4:=by
 unfold fixedF invoiceF ladingF
 have h1:=askF_le a d nSeller (isW c.beneficiary)
 have h2:=askF_le a d nBuyer (isW c.applicant)
 have h3:=askF_le a d nCurrency (isW c.currency)
 have h4:=askF_le a d nSum (sumW c)
 have h5:=askF_le a d nIssued (issuedW c day)
 split
 ·simp only [List.length_append];omega
 ·split
  ·omega
  ·simp
theorem exPaper_any (w0:World) (ct cf bm xb:Nat) (C:Array Value) (c:Crd) (hC:Hid (CrdAt C c)) (hO:Hid c.okC) (nA:Option Addr) (nl nc:Nat) (needs:List Nd) (hC17:Hid (C[17]?=some (.slice nA nl nc))) (hnl:Hid (needs.length=nl)) (hN:Hid (NdsAt w0 nA needs)) (hF:Hid (FewParts needs))
  (A:Option Addr) (nn cc:Nat) (docs:List Pap) (day:Int) (hday:Hid (-9223372036854775808<=day/\day<=9223372036854775807)) (a:Nat) (d:Pap) (hd:Hid (docs[a]?=some d)) (hR:Hid (Room w0 A nn docs))
  (w:World) (v:Value) (l:List Flt) (hl:Hid (l.length+1000<=100000)) (hx:Hid (ExS w0 ct cf bm xb (exX C A nn cc day ct cf) w v l)) :
  Calls Tryz.prog 58 #[.pointer (some ⟨xb,0,none⟩),.int .i64 a] w (Ted w0 ct cf bm xb (exX C A nn cc day ct cf) (addAll l (paperF c needs docs day a d)) w):=by
 have halt:a<nn:=by have:=(gsZ.1 hd.out).1;have:=hR.out.len;omega
 have hmost:=hR.out.most
 have hCs:=hdZ hC.out.size
 have hnl12:nl<=12:=by have:=hF.out.1;have:=hnl.out;omega
 have hbA:=hdZ (((Below.refl _ w).alloc leZ (.cells #[.pointer (some ⟨xb,0,none⟩)] 91)).alloc (by simp) (.cells #[.int .i64 a] 3))
 have hpb:=hdZ ((Blk.new w 91 #[.pointer (some ⟨xb,0,none⟩)]).alloc (.cells #[.int .i64 a] 3))
 have hab:=hdZ (blk_second w (.cells #[.pointer (some ⟨xb,0,none⟩)] 91) 3 #[.int .i64 a])
 have hxA:=hdZ (hx.out.belows hbA.out)
 obtain ⟨g0,hg0⟩:=nmZ (w.heap.size)
 rw [hg0.out] at hpb hab
 go_enter Tryz.func58,Tryz.ntmps58
 go_upto_region 1 with fail
 rw [hg0.out]
 obtain ⟨W,hW⟩:=nmZ (((w.alloc (.cells #[.pointer (some ⟨xb,0,none⟩)] 91)).alloc (.cells #[.int .i64 a] 3)))
 rw [hW.out] at hbA hpb hab hxA ⊢
 clear hW
 obtain ⟨b,off,rfl,h0,_,_,_,_⟩:=(hR.out.at_.below hxA.out.below) a d hd.out
 obtain ⟨kd,hkd⟩:=nmZ (d.kind)
 rw [hkd.out] at h0
 have cp:W.cell? ⟨g0,0,none⟩=some (.pointer (some ⟨xb,0,none⟩)):=hpb.out.cell 0
 have ca:W.cell? ⟨g0+1,0,none⟩=some (.int .i64 a):=hab.out.cell 0
 have c18:W.cell? ⟨xb,18,none⟩=some (.slice (some ⟨b,off,none⟩) nn cc):=(hxA.out.exam.cell 18).trans (exX_docs hCs.out)
 have i1:(a:Int)<(nn:Int):=by omega
 have i2:(0:Int)<=(a:Int):=by omega
 go_quiet (fail)
 clear cp ca c18 h0
 go_upto_block 0 with fail
 have hdq:=hdZ (below_drewN (Below.refl W.heap.size W) nq)
 have hxD:=hdZ (hxA.out.belows hdq.out)
 have hpD:=hdZ (hpb.out.drewN nq)
 have haD:=hdZ (hab.out.drewN nq)
 have hBD:=hdZ ((Tld.of_below (B:=w0.heap.size) (cf:=cf) (bm:=bm) hbA.out).trans (Tld.of_below hdq.out))
 have hl':=hl.out
 go_cut [17] (fun _ wx=>∃v':Value,Hid (ExS w0 ct cf bm xb (exX C (some ⟨b,off,none⟩) nn cc day ct cf) wx v' (addAll l (fixedF c day a d)))/\Hid (Tld w0.heap.size cf bm w wx)/\Hid (Blk wx g0 91 #[.pointer (some ⟨xb,0,none⟩)])/\Hid (Blk wx (g0+1) 3 #[.int .i64 a]))
 case first =>
  have cp:(W.drewN nq).cell? ⟨g0,0,none⟩=some (.pointer (some ⟨xb,0,none⟩)):=hpD.out.cell 0
  have ca:(W.drewN nq).cell? ⟨g0+1,0,none⟩=some (.int .i64 a):=haD.out.cell 0
  by_cases hk0:kd=0
  ·have hfx:Hid (fixedF c day a d=invoiceF c a d):=by unfold Hid fixedF;rw [if_pos (by rw [hkd.out];exact hk0)]
   have hb:(kd==0)=true:=by simp [hk0]
   clear hk0
   go_wp2_with fail
   refine (invoice_any w0 ct cf bm xb C c hC _ nn cc docs day a d hd hR _ v l (by omega) hxD).mono ?_
   rintro e w1 ⟨rfl,v1,h1,h2⟩
   have h1':=hdZ h1
   have h2':=hdZ h2
   clear h1 h2
   go_wp2_with fail
   go_meet
   case rel=>exact ⟨v1,by rw [hfx.out];exact h1'.out,hBD.out.trans h2'.out,hxD.out.keep h2'.out hpD.out (by decide) (by decide),hxD.out.keep h2'.out haD.out (by decide) (by decide)⟩
  ·have hb:(kd==0)=false:=by simp [hk0]
   by_cases hk2:kd=2
   ·have hfx:Hid (fixedF c day a d=ladingF c day a d):=by unfold Hid fixedF;rw [if_neg (by rw [hkd.out];exact hk0),if_pos (by rw [hkd.out];exact hk2)]
    have hb2:(kd==2)=true:=by simp [hk2]
    clear hk0 hk2
    go_wp2_with fail
    refine (lading_any w0 ct cf bm xb C c hC hO _ nn cc docs day hday a d hd hR _ v l (by omega) hxD).mono ?_
    rintro e w1 ⟨rfl,v1,h1,h2⟩
    have h1':=hdZ h1
    have h2':=hdZ h2
    clear h1 h2
    go_wp2_with fail
    go_meet
    case rel=>exact ⟨v1,by rw [hfx.out];exact h1'.out,hBD.out.trans h2'.out,hxD.out.keep h2'.out hpD.out (by decide) (by decide),hxD.out.keep h2'.out haD.out (by decide) (by decide)⟩
   ·have hfx:Hid (fixedF c day a d=[]):=by unfold Hid fixedF;rw [if_neg (by rw [hkd.out];exact hk0),if_neg (by rw [hkd.out];exact hk2)]
    have hb2:(kd==2)=false:=by simp [hk2]
    clear hk0 hk2
    go_wp2_with fail
    go_meet
    case rel=>exact ⟨v,by rw [hfx.out];exact hxD.out,hBD,hpD,haD⟩
 case rest =>
  obtain ⟨v1,hx1,hB1,hp1,ha1⟩:=hcut
  clear hBD hxD hpD haD hdq hxA hpb hab hbA
  obtain ⟨b',off',hbo,h0,_,_,_,_⟩:=(hR.out.at_.below hx1.out.below) a d hd.out
  obtain ⟨rfl,rfl⟩:b=b'/\off=off':=by simpa using hbo
  rw [hkd.out] at h0
  clear hbo
  have cp:wc.cell? ⟨g0,0,none⟩=some (.pointer (some ⟨xb,0,none⟩)):=hp1.out.cell 0
  have ca:wc.cell? ⟨g0+1,0,none⟩=some (.int .i64 a):=ha1.out.cell 0
  have c18:wc.cell? ⟨xb,18,none⟩=some (.slice (some ⟨b,off,none⟩) nn cc):=(hx1.out.exam.cell 18).trans (exX_docs hCs.out)
  have z1:=hp1.out.lt
  have z2:=ha1.out.lt
  have z3:=hx1.out.exam.lt
  have z4:b<wc.heap.size:=World.block_lt_of_cell? wc _ h0
  go_wp2_with fail
  go_cut [4] (fun s wx=>∃g1:Nat,s=.pointer (some ⟨g1,0,none⟩)/\Hid (Bz wc wx)/\Hid (Blk wx g1 3 #[.int .i64 kd]))
  case first =>
   go_region
   all_goals
    go_wp2_with fail
    go_meet
    case rel=>exact ⟨wc.heap.size,rfl,((Below.refl _ wc).alloc leZ _).drew,(Blk.new wc 3 #[.int .i64 kd]).drew⟩
  case rest =>
   obtain ⟨g1,rfl,hb2,hk2⟩:=hcut
   clear cp ca c18 h0 z1 z2 z3 z4
   have hx2:=hdZ (hx1.out.belows hb2.out)
   have hp2:=kbZ hp1 hb2
   have ha2:=kbZ ha1 hb2
   have hB2:=hdZ (hB1.out.trans (Tld.of_below hb2.out))
   obtain ⟨V,hV⟩:=nmZ (wc)
   rw [hV.out] at hx2 hp2 ha2 hB2 hk2 ⊢
   clear hV hb2 hx1 hp1 ha1 hB1
   have cp:V.cell? ⟨g0,0,none⟩=some (.pointer (some ⟨xb,0,none⟩)):=hp2.out.cell 0
   have c17:V.cell? ⟨xb,17,none⟩=some (.slice nA nl nc):=(hx2.out.exam.cell 17).trans ((exX_cell hCs.out (by omega)).trans hC17.out)
   have hlf:=fixedF_len c day a d
   have hlr:=hdZ hlf
   clear hlf
   go_wp2_with fail
   clear cp c17
   go_loopw [6,39] (fun _ i wr=>∃(q:Nat) (v':Value),q<=nl/\i=.int .i64 q/\Hid (ExS w0 ct cf bm xb (exX C (some ⟨b,off,none⟩) nn cc day ct cf) wr v' (addAll (addAll l (fixedF c day a d)) (ruledF (needs.take q) docs a d)))/\Hid (Tld w0.heap.size cf bm w wr)/\Hid (Blk wr g0 91 #[.pointer (some ⟨xb,0,none⟩)])/\Hid (Blk wr (g0+1) 3 #[.int .i64 a])/\Hid (Blk wr g1 3 #[.int .i64 kd])) (fun _ i _=>nl-(intOf i).toNat)
   case atStart=>exact ⟨0,v1,Nat.zero_le _,rfl,by rw [List.take_zero];exact hx2.out,hB2,hp2,ha2,hk2⟩
   case round =>
    obtain ⟨q,v',hq,rfl,hx3,hB3,hp3,ha3,hk3⟩:=hrel
    by_cases hlt:q<nl
    ·obtain ⟨x,hxq⟩:∃x,needs[q]?=some x:=⟨_,gZ (by have:=hnl.out;omega)⟩
     have hmem:=hdZ (mgZ hxq)
     have hsn:=hdZ (ruledF_snoc docs a d hxq)
     have hxq':=hdZ hxq
     clear hxq
     obtain ⟨_,hT,hLT,b2,off2,rfl,n0,n1,n2⟩:=(hN.out.below hx3.out.below) q x hxq'.out
     have hT0:=hdZ (hN.out q x hxq'.out).2.1
     have hLT':=hdZ hLT
     have hpl:=hdZ (hF.out.2 x hmem.out)
     have hlen:Hid ((addAll (addAll l (fixedF c day a d)) (ruledF (needs.take q) docs a d)).length+60<=100000):=by
      have e1:=addAll_len (fixedF c day a d) l
      have e2:=addAll_len (ruledF (needs.take q) docs a d) (addAll l (fixedF c day a d))
      have e3:=ruledF_len (docs:=docs) (a:=a) (d:=d) (needs.take q) (fun y hy=>hF.out.2 y (List.mem_of_mem_take hy))
      have e4:(needs.take q).length<=12:=Nat.le_trans (by rw [List.length_take];omega) hF.out.1
      have:=hl.out;have:=hlr.out;unfold Hid;omega
     clear hT hLT
     obtain ⟨xk,xc,t⟩:=x
     have hrN:Hid (¬xk=kd->needR docs a d ⟨xk,xc,t⟩=[]):=fun h=>needR_no (by rw [hkd.out];exact h)
     have hrY:Hid (xk=kd->needR docs a d ⟨xk,xc,t⟩=partF docs a d (partsT t)):=fun h=>needR_yes (by rw [hkd.out];exact h)
     have hpc:=hdZ (parts_any w0 ct cf bm xb C hCs (some ⟨b,off,none⟩) nn cc docs day a d g0 (g0+1) g1 hd hR t)
     obtain ⟨tk,tp,tf,tx,tn,tA,tc,tL⟩:=t
     simp only at n0 n1 n2 hT0 hLT' hpl
     obtain ⟨m0,m1,m2,m3,m4,m5⟩:=n2
     have z1:=hk3.out.lt
     have ck:wr.cell? ⟨g1,0,none⟩=some (.int .i64 kd):=hk3.out.cell 0
     have hbA:=hdZ ((Below.refl _ wr).alloc leZ (.cells #[.int .i64 xk,.int .i64 xc,.int .i64 tk,.int .i64 tp,.string tf,.string tx,.int .i64 tn,.slice tA tL.length tc] 71))
     have hxA:=hdZ (hx3.out.belows hbA.out)
     have hpA:=kbZ hp3 hbA
     have haA:=kbZ ha3 hbA
     have hkA:=kbZ hk3 hbA
     by_cases hxk:xk=kd
     ·have hb:(xk != kd)=false:=by simp [hxk]
      have hr:=hdZ (hrY.out hxk)
      clear hxk hrN hrY
      go_wp2_with fail
      have hpp:=hpc.out _ v' _ hT0 hLT' (by have:=hlen.out;have:=hpl.out;omega) hxA hpA haA (by rw [hkd.out];exact hkA.out)
      simp only [Tree.cells] at hpp
      refine hpp.mono ?_
      rintro e w1 ⟨rfl,v2,h1,h2⟩
      have h1':Hid (ExS w0 ct cf bm xb (exX C (some ⟨b,off,none⟩) nn cc day ct cf) w1 v2 (addAll (addAll l (fixedF c day a d)) (ruledF (needs.take (q+1)) docs a d))):=by
       unfold Hid
       rw [hsn.out,addAll_app,hr.out];exact h1
      have h2':=hdZ h2
      clear h1 h2 hpp
      go_wp2_with fail
      go_roundw
      case rel=>exact ⟨q+1,v2,by omega,by go_num,h1',hB3.out.trans ((Tld.of_below hbA.out).trans h2'.out),hxA.out.keep h2'.out hpA.out (by decide) (by decide),hxA.out.keep h2'.out haA.out (by decide) (by decide),hxA.out.keep h2'.out hkA.out (by decide) (by decide)⟩
      case measure=>simp [intOf];omega
     ·have hb:(xk != kd)=true:=by simp [hxk]
      have hr:=hdZ (hrN.out hxk)
      clear hxk hrN hrY
      go_wp2_with fail
      go_roundw
      case rel=>exact ⟨q+1,v',by omega,by go_num,by unfold Hid;rw [hsn.out,hr.out,List.append_nil];exact hxA.out,hB3.out.trans (Tld.of_below hbA.out),hpA,haA,hkA⟩
      case measure=>simp [intOf];omega
    ·obtain rfl:q=nl:=by omega
     rw [List.take_of_length_le (by have:=hnl.out;omega)] at hx3
     go_wp2_with fail
     go_end0
     exact ⟨rfl,v',by unfold paperF;rw [addAll_app];exact hx3.out,hB3.out⟩
theorem str_keyed9:Keyed Tryz.prog 9:=string_keyed Tryz.underlying9
theorem zero9 (w:World):(zeroValue 9).run Tryz.prog w=.ok (.string ⟨#[]⟩) w:=by kernel_rfl
def AheadS (needs:List Nd) (ahead:List Pap) (d:Pap) (i:Nat) (S:Value->Option Value):Prop :=
 ∀j,j<6->S (.string (alikeB j))=((if j<i then aheadF needs (ahead++[d]) (alikeB j) else aheadF needs ahead (alikeB j)).map Value.string)
theorem ahead_snoc (needs:List Nd) (d:Pap) (s:ByteArray):∀l:List Pap,aheadF needs (l++[d]) s=match aheadF needs l s with | some v=>some v | none=>if askedB needs d.kind then getF d.fields s else none
 | []=>by
  simp only [List.nil_append,aheadF]
  cases (if askedB needs d.kind then getF d.fields s else none)<;>rfl
 | x::l=>by
  simp only [List.cons_append,aheadF]
  cases (if askedB needs x.kind then getF x.fields s else none) with
  | some v=>rfl
  | none=>exact ahead_snoc needs d s l
theorem alikeB_inj {i j:Nat} (hi:i<6) (hj:j<6) (h:alikeB i=alikeB j):i=j:=by
 have h':alikeL i=alikeL j:=by
  have:=congrArg (fun b:ByteArray=>b.data.toList) h
  simpa [alikeB,mkB] using this
 revert h'
 match i,j,hi,hj with
 | 0,0,_,_=>simp
 | 0,1,_,_=>decide
 | 0,2,_,_=>decide
 | 0,3,_,_=>decide
 | 0,4,_,_=>decide
 | 0,5,_,_=>decide
 | 1,0,_,_=>decide
 | 1,1,_,_=>simp
 | 1,2,_,_=>decide
 | 1,3,_,_=>decide
 | 1,4,_,_=>decide
 | 1,5,_,_=>decide
 | 2,0,_,_=>decide
 | 2,1,_,_=>decide
 | 2,2,_,_=>simp
 | 2,3,_,_=>decide
 | 2,4,_,_=>decide
 | 2,5,_,_=>decide
 | 3,0,_,_=>decide
 | 3,1,_,_=>decide
 | 3,2,_,_=>decide
 | 3,3,_,_=>simp
 | 3,4,_,_=>decide
 | 3,5,_,_=>decide
 | 4,0,_,_=>decide
 | 4,1,_,_=>decide
 | 4,2,_,_=>decide
 | 4,3,_,_=>decide
 | 4,4,_,_=>simp
 | 4,5,_,_=>decide
 | 5,0,_,_=>decide
 | 5,1,_,_=>decide
 | 5,2,_,_=>decide
 | 5,3,_,_=>decide
 | 5,4,_,_=>decide
 | 5,5,_,_=>simp
section
variable {needs:List Nd} {ahead:List Pap} {d:Pap} {i:Nat} {S:Value->Option Value}
theorem AheadS.at_ (h:AheadS needs ahead d i S) (hi:i<6):S (.string (alikeB i))=(aheadF needs ahead (alikeB i)).map Value.string:=by
 have:=h i hi
 rw [if_neg (by omega)] at this
 exact this
theorem AheadS.same (h:AheadS needs ahead d i S) (hq:aheadF needs (ahead++[d]) (alikeB i)=aheadF needs ahead (alikeB i)):AheadS needs ahead d (i+1) S:=by
 intro j hj
 rw [h j hj]
 by_cases h1:j<i
 ·rw [if_pos h1,if_pos (by omega)]
 ·by_cases h2:j=i
  ·subst h2;rw [if_neg (by omega),if_pos (by omega),hq]
  ·rw [if_neg h1,if_neg (by omega)]
open Classical in
theorem AheadS.put (h:AheadS needs ahead d i S) (hi:i<6) {v:ByteArray} (hq:aheadF needs (ahead++[d]) (alikeB i)=some v):AheadS needs ahead d (i+1) (fun y=>if y=.string (alikeB i) then some (.string v) else S y):=by
 intro j hj
 show (if Value.string (alikeB j)=.string (alikeB i) then some (.string v) else S (.string (alikeB j)))=_
 by_cases h2:j=i
 ·subst h2
  rw [if_pos rfl,if_pos (by omega),hq];rfl
 ·rw [if_neg (fun e=>h2 (alikeB_inj hj hi (by simpa using e))),h j hj]
  by_cases h1:j<i
  ·rw [if_pos h1,if_pos (by omega)]
  ·rw [if_neg h1,if_neg (by omega)]
end
theorem othersF_snoc (needs:List Nd) (ahead:List Pap) (a:Int) (d:Pap) (i:Nat):(List.range (i+1)).flatMap (otherF needs ahead a d)=(List.range i).flatMap (otherF needs ahead a d)++otherF needs ahead a d i:=by
 rw [List.range_succ];simp
theorem otherF_le (needs:List Nd) (ahead:List Pap) (a:Int) (d:Pap) (i:Nat):(otherF needs ahead a d i).length<=1:=by
 unfold otherF
 split
 ·simp
 ·split
  ·simp
  ·split<;>simp
theorem others_len (needs:List Nd) (ahead:List Pap) (a:Int) (d:Pap) (i:Nat):((List.range i).flatMap (otherF needs ahead a d)).length<=i:=by
 have:=flat_le _ (otherF_le needs ahead a d) (List.range i)
 simpa using this
theorem alikeB_size (i:Nat) (h:i<6):(alikeB i).size<=10:=by
 match i,h with
 | 0,_=>decide
 | 1,_=>decide
 | 2,_=>decide
 | 3,_=>decide
 | 4,_=>decide
 | 5,_=>decide
theorem keyS {s:ByteArray} (h:s.size<=maxLen):∃kl,keyOf Tryz.prog 9 (.string s)=some kl:=by
 rw [keyOf_string Tryz.underlying9]
 simp [mapKey,Tryz.underlying9,h]
def TldM (B cf bm am:Nat) (w w':World):Prop:=ButS (fun g=>TS B cf bm w g\/g=am) w w'
section
variable {w0:World} {B ct cf bm xb am:Nat} {X:Array Value} {a b c w w':World} {v:Value} {l:List Flt}
theorem TldM.of (h:Tld B cf bm w w'):TldM B cf bm am w w':=⟨h.os,h.tape,h.output,h.size,fun k hk hs=>h.block k hk (fun e=>hs (.inl e))⟩
theorem TldM.size (h:TldM B cf bm am w w'):w.heap.size<=w'.heap.size:=ButS.size h
theorem TldM.put (hg:w.grownBy w' (some am)):TldM B cf bm am w w':=⟨hg.os,hg.tape,hg.output,hg.size,fun k hk hs=>hg.block k hk (fun e=>hs (.inr (by simpa using e)))⟩
theorem TldM.trans (h:TldM B cf bm am a b) (k:TldM B cf bm am b c):TldM B cf bm am a c :=
 ⟨k.os.trans h.os,k.tape.trans h.tape,k.output.trans h.output,Nat.le_trans h.size k.size,fun i hi hs=>by
  have e:=h.block i hi hs
  refine (k.block i (Nat.lt_of_lt_of_le hi h.size) ?_).trans e
  rintro (⟨h1,h2⟩ | h2)
  ·refine hs (.inl ⟨h1,?_⟩)
   rcases h2 with h2 | h2 | ⟨cs,fr,h2⟩
   ·exact .inl h2
   ·exact .inr (.inl h2)
   ·exact .inr (.inr ⟨cs,fr,by rw [<-e];exact h2⟩)
  ·exact hs (.inr h2)⟩
theorem ExS.keepXM (h:ExS w0 ct cf bm xb X w v l) (ht:TldM w0.heap.size cf bm am w w') {k e:TypeId} {b n:Nat} {z:Value} {S:Value->Option Value} (hm:MapFn w Tryz.prog k e b n z S) (hne:b≠bm) (h3:b≠am):MapFn w' Tryz.prog k e b n z S :=
 ButS.map ht hm (by
  rintro (⟨_,e | e | ⟨cs',fr,e⟩⟩ | e)
  ·exact hne e
  ·exact blk_map_ne h.tell.fc hm e
  ·obtain ⟨D,zd,⟨es,clock,hh,_⟩,_⟩:=hm
   rw [hh] at e;cases e
  ·exact h3 e)
theorem ExS.put {k e:TypeId} {b n:Nat} {z:Value} {S:Value->Option Value} (h:ExS w0 ct cf bm xb X w v l) (hm:MapFn w Tryz.prog k e b n z S) (hne:b≠bm) (hB:w0.heap.size<=b) (hg:w.grownBy w' (some b)):ExS w0 ct cf bm xb X w' v l :=
 ⟨⟨h.tell.map.kept hg (by simpa using Ne.symm hne),h.tell.tc.kept hg (by simpa using blk_map_ne h.tell.tc hm),h.tell.fc.kept hg (by simpa using blk_map_ne h.tell.fc hm),h.tell.row.kept hg (.inr (own_map_ne h.tell.row hm).symm),h.tell.base⟩,
  h.exam.kept hg (by simpa using blk_map_ne h.exam hm),h.below.grown hg h.below.size (fun k hk=>by simp at hk;omega)⟩
end
theorem index69 (q:Nat) (hq:q<6) (w:World):(Instr.index 143 (.agg #[.string (alikeB 0),.string (alikeB 1),.string (alikeB 2),.string (alikeB 3),.string (alikeB 4),.string (alikeB 5)]) (.int .i64 q)).run Tryz.prog w=.ok (.string (alikeB q)) w:=by
 obtain rfl | rfl | rfl | rfl | rfl | rfl:q=0\/q=1\/q=2\/q=3\/q=4\/q=5:=by omega
 all_goals kernel_rfl
def Oth (w0:World) (ct cf bm xb:Nat) (X:Array Value) (am:Nat) (needs:List Nd) (ahead:List Pap) (d:Pap) (m:Nat) (l:List Flt) (w:World) (e:Ending) (w':World):Prop :=
 e=.returned (.tuple #[])/\∃(v:Value) (n:Nat) (S:Value->Option Value),ExS w0 ct cf bm xb X w' v l/\TldM w0.heap.size cf bm am w w'/\n<=m/\MapFn w' Tryz.prog 9 9 am n (.string ⟨#[]⟩) S/\AheadS needs ahead d 6 S
theorem two_get (l:List Fld) (s:ByteArray) {r:Option ByteArray} (h:getF l s=r):getV l s=r.getD ⟨#[]⟩/\getB l s=r.isSome:=by
 subst h;exact ⟨rfl,rfl⟩
theorem fits_str {u:ByteArray} (h:u.size<=4000000):u.size<=maxLen:=by unfold maxLen;omega
theorem index69m (q:Nat) (hq:q<6) (w:World):(Instr.index 143 (.agg #[.string (mkB (alikeL 0)),.string (mkB (alikeL 1)),.string (mkB (alikeL 2)),.string (mkB (alikeL 3)),.string (mkB (alikeL 4)),.string (mkB (alikeL 5))]) (.int .i64 q)).run Tryz.prog w=.ok (.string (alikeB q)) w:=index69 q hq w
theorem otherF_none {needs:List Nd} {ahead:List Pap} {a:Int} {d:Pap} {i:Nat} (h:getF d.fields (alikeB i)=none):otherF needs ahead a d i=[]:=by unfold otherF;rw [h]
theorem otherF_new {needs:List Nd} {ahead:List Pap} {a:Int} {d:Pap} {i:Nat} {u:ByteArray} (h:getF d.fields (alikeB i)=some u) (h2:aheadF needs ahead (alikeB i)=none):otherF needs ahead a d i=[]:=by unfold otherF;rw [h,h2]
theorem otherF_same {needs:List Nd} {ahead:List Pap} {a:Int} {d:Pap} {i:Nat} {u o:ByteArray} (h:getF d.fields (alikeB i)=some u) (h2:aheadF needs ahead (alikeB i)=some o) (h3:o.toList=u.toList):otherF needs ahead a d i=[]:=by unfold otherF;rw [h,h2];simp [h3]
theorem otherF_unlike {needs:List Nd} {ahead:List Pap} {a:Int} {d:Pap} {i:Nat} {u o:ByteArray} (h:getF d.fields (alikeB i)=some u) (h2:aheadF needs ahead (alikeB i)=some o) (h3:¬o.toList=u.toList):otherF needs ahead a d i=[⟨a,d.kind,alikeB i,3⟩]:=by unfold otherF;rw [h,h2];simp [h3]
theorem others_any (w0:World) (ct cf bm xb:Nat) (C:Array Value) (hC:Hid (C.size=18)) (needs:List Nd) (A:Option Addr) (nn cc:Nat) (docs:List Pap) (day:Int) (a:Nat) (d:Pap) (hd:Hid (docs[a]?=some d)) (hask:Hid (askedB needs d.kind=true)) (hR:Hid (Room w0 A nn docs)) (hal:Hid (AlikeAt w0))
  (am n0:Nat) (S0:Value->Option Value) (w:World) (v:Value) (l:List Flt) (hl:Hid (l.length+10<=100000)) (hn0:n0<=1000) (hx:Hid (ExS w0 ct cf bm xb (exX C A nn cc day ct cf) w v l)) (hm:Hid (MapFn w Tryz.prog 9 9 am n0 (.string ⟨#[]⟩) S0)) (ham:Hid (am≠bm/\w0.heap.size<=am)) (hS:Hid (AheadS needs (docs.take a) d 0 S0)) :
  Calls Tryz.prog 59 #[.pointer (some ⟨xb,0,none⟩),.int .i64 a,.map (some am)] w (Oth w0 ct cf bm xb (exX C A nn cc day ct cf) am needs (docs.take a) d (n0+6) (addAll l (othersF needs (docs.take a) a d)) w):=by
 have halt:a<nn:=by have:=(gsZ.1 hd.out).1;have:=hR.out.len;omega
 have hmost:=hR.out.most
 have hkd:=kind_of hR.out.at_ hd.out
 have hsm:=hdZ (fun nm u=>small_get (name:=nm) (v:=u) hR.out.small hd.out)
 obtain ⟨b,off,rfl,h0,h1,h2,h3,h4,h5,_⟩:=(hR.out.at_.below hx.out.below) a d hd.out
 have e18:w.cell? ⟨xb,18,none⟩=some (.slice (some ⟨b,off,none⟩) nn cc):=(hx.out.exam.cell 18).trans (exX_docs hC.out)
 have henv:=hdZ (hal.out.below hx.out.below)
 obtain ⟨kd,nu,is,fA,fc,fs⟩:=d
 simp only at h0 h1 h2 h3 h4 h5 hkd hsm
 obtain ⟨hk1,hk2⟩:=hkd
 obtain ⟨fm,hfm⟩:=nmZ (fs.length)
 rw [hfm.out] at h3 h5
 have h4':=hdZ h4
 have h5':=hdZ h5
 clear h4 h5
 have hbA:=hdZ ((Below.refl _ w).alloc leZ (.cells #[.int .i64 kd,.string nu,.string is,.slice fA fm fc] 61))
 have hdb:=hdZ (Blk.new w 61 #[.int .i64 kd,.string nu,.string is,.slice fA fm fc])
 have hxA:=hdZ (hx.out.belows hbA.out)
 have hmA:=hdZ (hm.out.alloc (.cells #[.int .i64 kd,.string nu,.string is,.slice fA fm fc] 61))
 have hBA:Hid (TldM w0.heap.size cf bm am w (w.alloc (.cells #[.int .i64 kd,.string nu,.string is,.slice fA fm fc] 61))):=TldM.of (Tld.of_below hbA.out)
 have hE:=henv.out.below hbA.out
 have a0:=hE 0 (by omega)
 have a1:=hE 1 (by omega)
 have a2:=hE 2 (by omega)
 have a3:=hE 3 (by omega)
 have a4:=hE 4 (by omega)
 have a5:=hE 5 (by omega)
 clear hE
 obtain ⟨g0,hg0⟩:=nmZ (w.heap.size)
 rw [hg0.out] at hdb
 go_enter Tryz.func59,Tryz.ntmps59
 go_wp2_with fail
 clear a0 a1 a2 a3 a4 a5
 have hg0w:=hdZ hg0.out
 have hF4:=hdZ h4'.out
 clear h0 h1 h2 h3 e18
 go_loopw [8,9,10,11,12,21] (fun _ _ _ _ _ i wr=>∃(q n:Nat) (v':Value) (S:Value->Option Value),q<=6/\n<=n0+q/\i=.int .i64 q/\Hid (ExS w0 ct cf bm xb (exX C (some ⟨b,off,none⟩) nn cc day ct cf) wr v' (addAll l ((List.range q).flatMap (otherF needs (docs.take a) a ⟨kd,nu,is,fA,fc,fs⟩))))/\Hid (TldM w0.heap.size cf bm am w wr)/\Hid (MapFn wr Tryz.prog 9 9 am n (.string ⟨#[]⟩) S)/\Hid (AheadS needs (docs.take a) ⟨kd,nu,is,fA,fc,fs⟩ q S)/\Hid (Blk wr w.heap.size 61 #[.int .i64 kd,.string nu,.string is,.slice fA fm fc])) (fun _ _ _ _ _ i _=>6-(intOf i).toNat)
 case atStart=>exact ⟨0,n0,v,S0,by omega,by omega,rfl,hxA,hBA,hmA,hS,by rw [hg0.out];exact hdb.out⟩
 case round =>
  obtain ⟨q,n,v',S,hq,hn,rfl,hx1,hB1,hm1,hS1,hdb1⟩:=hrel
  by_cases hlt:q<6
  ·have hix:=index69m q hlt
   have hsn:=hdZ (othersF_snoc needs (docs.take a) a ⟨kd,nu,is,fA,fc,fs⟩ q)
   have hnsz:=alikeB_size q hlt
   have hlen:Hid ((addAll l ((List.range q).flatMap (otherF needs (docs.take a) a ⟨kd,nu,is,fA,fc,fs⟩))).length<100000):=by
    have e1:=addAll_len ((List.range q).flatMap (otherF needs (docs.take a) a ⟨kd,nu,is,fA,fc,fs⟩)) l
    have e2:=others_len needs (docs.take a) a ⟨kd,nu,is,fA,fc,fs⟩ q
    have:=hl.out;unfold Hid;omega
   have hSq:=hdZ (hS1.out.at_ hlt)
   have hqr:=hdZ (ahead_snoc needs ⟨kd,nu,is,fA,fc,fs⟩ (alikeB q) (docs.take a))
   have c3:wr.cell? ⟨w.heap.size,3,none⟩=some (.slice fA fm fc):=hdb1.out.cell 3
   obtain ⟨nm,hnm⟩:=nmZ (alikeB q)
   rw [hnm.out] at hix hnsz hSq hqr
   have hfl:FieldsAt wr fA fs:=by
    obtain ⟨_,_,_,_,_,_,_,g4,_⟩:=(hR.out.at_.below hx1.out.below) a _ hd.out
    exact g4
   have hfl':=hdZ hfl
   clear hfl
   go_wp2_with fail
   clear hix c3
   refine (get_any fA fm fc fs nm wr h5'.out hfm hfl'.out).mono ?_
   rintro e w1 ⟨rfl,hb1⟩
   have hb1':=hdZ hb1
   have hx2:=hdZ (hx1.out.belows hb1)
   have hB2:=hdZ (hB1.out.trans (TldM.of (Tld.of_below hb1)))
   have hm2:=hdZ (hm1.out.below hb1 hm1.out.lt)
   have hdb2:=hdZ (hdb1.out.below hb1 hdb1.out.lt)
   clear hb1 hx1 hB1 hm1 hdb1
   cases hg:getF fs nm with
   | none =>
    obtain ⟨eV,eB⟩:=two_get fs nm hg
    have hot:Hid (otherF needs (docs.take a) a ⟨kd,nu,is,fA,fc,fs⟩ q=[]):=otherF_none (by rw [hnm.out];exact hg)
    have hS2:=hdZ (hS1.out.same (by rw [hnm.out,hqr.out];simp only [hg];cases aheadF needs (docs.take a) nm<;>simp))
    rw [eV,eB]
    simp only [Option.getD_none,Option.isSome_none]
    clear hg eV eB
    go_wp2_with fail
    go_roundw
    case rel=>exact ⟨q+1,n,v',S,by omega,by omega,by go_num,by unfold Hid;rw [hsn.out,hot.out,List.append_nil];exact hx2.out,hB2,hm2,hS2,hdb2⟩
    case measure=>simp [intOf];omega
   | some u =>
    obtain ⟨eV,eB⟩:=two_get fs nm hg
    have hu:=hdZ (hsm.out nm u hg)
    have hg':Hid (getF fs nm=some u):=hg
    rw [eV,eB]
    simp only [Option.getD_some,Option.isSome_some]
    clear hg eV eB
    obtain ⟨kl,hkl⟩:=keyS (s:=nm) (by unfold maxLen;omega)
    have hlk:=hm2.out.look_ok str_keyed9 Tryz.underlying96 (zero9 _) hkl
    rw [hSq.out] at hlk
    have hkl':=hdZ hkl
    clear hkl
    cases ha:aheadF needs (docs.take a) nm with
    | none =>
     rw [ha] at hlk
     simp only [Option.map_none,Option.getD_none,Option.isSome_none] at hlk
     have hot:Hid (otherF needs (docs.take a) a ⟨kd,nu,is,fA,fc,fs⟩ q=[]):=otherF_new (by rw [hnm.out];exact hg'.out) (by rw [hnm.out];exact ha)
     have hS2:=hdZ (hS1.out.put hlt (v:=u) (by rw [hnm.out,hqr.out,ha];simp only [hask.out,if_true];exact hg'.out))
     rw [hnm.out] at hS2
     have hnl:Hid (n<maxLen):=by unfold Hid maxLen;omega
     have hub:Hid (u.size<=maxLen):=fits_str hu.out
     clear ha
     go_wp2_with ((at_mapUpdate;go_must (refine wpList_put _ rfl _ _ _ 96 rfl str_keyed9 Tryz.underlying96 am n rfl hm2.out hnl.out (.string nm) (.string u) kl rfl rfl hkl'.out (plainElem_string Tryz.underlying9 hub.out) ?_);intro w2 hm3 hg3;have hm3':=hdZ hm3;have hx3:=hdZ (hx2.out.put hm2.out ham.out.1 ham.out.2 hg3);have hB3:=hdZ (hB2.out.trans (TldM.put hg3));have hdb3:=hdZ (hdb2.out.kept hg3 (by simpa using blk_map_ne hdb2.out hm2.out));clear hm3 hg3 hlk))
     go_roundw
     case rel=>exact ⟨q+1,n+1,v',_,by omega,by omega,by go_num,by unfold Hid;rw [hsn.out,hot.out,List.append_nil];exact hx3.out,hB3,hm3',hS2,hdb3⟩
     case measure=>simp [intOf];omega
    | some o =>
     rw [ha] at hlk
     simp only [Option.map_some,Option.getD_some,Option.isSome_some] at hlk
     have hS2:=hdZ (hS1.out.same (by rw [hnm.out,hqr.out,ha]))
     by_cases heq:o.toList=u.toList
     ·have hot:Hid (otherF needs (docs.take a) a ⟨kd,nu,is,fA,fc,fs⟩ q=[]):=otherF_same (by rw [hnm.out];exact hg'.out) (by rw [hnm.out];exact ha) heq
      have hb:(o.toList==u.toList)=true:=by simp [heq]
      clear ha heq
      go_wp2_with fail
      go_roundw
      case rel=>exact ⟨q+1,n,v',S,by omega,by omega,by go_num,by unfold Hid;rw [hsn.out,hot.out,List.append_nil];exact hx2.out,hB2,hm2,hS2,hdb2⟩
      case measure=>simp [intOf];omega
     ·have hot:Hid (otherF needs (docs.take a) a ⟨kd,nu,is,fA,fc,fs⟩ q=[⟨a,kd,nm,3⟩]):=by
       have:=otherF_unlike (a:=a) (d:=⟨kd,nu,is,fA,fc,fs⟩) (i:=q) (by rw [hnm.out];exact hg'.out) (by rw [hnm.out];exact ha) heq
       rw [hnm.out] at this;exact this
      have hb:(o.toList==u.toList)=false:=by simp [heq]
      clear ha heq
      have ck:w1.cell? ⟨w.heap.size,0,none⟩=some (.int .i64 kd):=hdb2.out.cell 0
      have cx:w1.cell? ⟨xb,20,none⟩=_:=(hx2.out.exam.cell 20).trans (exX_tell hC.out)
      have hfits:Flt.fits ⟨a,kd,nm,3⟩:=⟨fits_i64 (n:=a) (by omega) (by omega),fits_i64 hk1 hk2,by show nm.size<=maxLen;unfold maxLen;omega,fits_i64 (n:=3) (by omega) (by omega)⟩
      have hc:∀W,W=w1.drew->Calls Tryz.prog 57 #[.agg #[.int .i64 a,.int .i64 kd,.string nm,.int .i64 3],.pointer (some ⟨ct,0,none⟩),.pointer (some ⟨cf,0,none⟩)] W (Ted w0 ct cf bm xb (exX C (some ⟨b,off,none⟩) nn cc day ct cf) (addF (addAll l ((List.range q).flatMap (otherF needs (docs.take a) a ⟨kd,nu,is,fA,fc,fs⟩))) ⟨a,kd,nm,3⟩) W):=fun W e=>by
       subst e
       exact tell_ex ⟨a,kd,nm,3⟩ hfits (Nat.le_of_lt hlen.out) hx2.out.drew
      have hc':=hdZ hc
      clear hc hfits
      go_wp2_with fail
      go_region_with ((go_at_call 57;(with_reducible refine (hc'.out _ ?_).mono ?_);rfl;rintro e w3 ⟨rfl,v3,g1,g2⟩;have g1':=hdZ g1;have g2':=hdZ g2;clear g1 g2))
      all_goals
       go_wp2_with fail
       go_roundw
       case rel=>exact ⟨q+1,n,v3,S,by omega,by omega,by go_num,by unfold Hid;rw [hsn.out,hot.out,addAll_app];exact g1'.out,hB2.out.trans (TldM.of ((Tld.of_below (Below.refl _ _).drew).trans g2'.out)),hx2.out.drew.keepM g2'.out hm2.out.drew ham.out.1,hS2,hx2.out.drew.keep g2'.out hdb2.out.drew (by decide) (by decide)⟩
       case measure=>simp [intOf];omega
  ·obtain rfl:q=6:=by omega
   go_wp2_with fail
   go_end0
   exact ⟨rfl,v',n,S,hx1.out,hB1.out,hn,hm1.out,hS1.out⟩
def CountS (docs:List Pap) (S:Value->Option Value):Prop:=∀k:Int,(S (.int .i64 k)).getD (.int .i64 0)=.int .i64 (countK docs k:Int)
def AskS (needs:List Nd) (S:Value->Option Value):Prop:=∀k:Int,(S (.int .i64 k)).getD (.bool false)=.bool (askedB needs k)
def Ahead0 (needs:List Nd) (ahead:List Pap) (S:Value->Option Value):Prop:=∀j,j<6->S (.string (alikeB j))=(aheadF needs ahead (alikeB j)).map Value.string
theorem countK_snoc {docs:List Pap} {q:Nat} {d:Pap} (h:docs[q]?=some d) (k:Int):countK (docs.take (q+1)) k=countK (docs.take q) k+if d.kind=k then 1 else 0:=by
 obtain ⟨hk,he⟩:=gsZ.1 h
 rw [List.take_succ_eq_append_getElem hk,he]
 unfold countK
 rw [List.countP_append]
 simp [List.countP_cons]
theorem countK_le (docs:List Pap) (k:Int):countK docs k<=docs.length:=List.countP_le_length
open Classical in
theorem CountS.put {docs:List Pap} {q:Nat} {d:Pap} {S:Value->Option Value} (h:CountS (docs.take q) S) (hd:docs[q]?=some d):CountS (docs.take (q+1)) (fun y=>if y=.int .i64 d.kind then some (.int .i64 ((countK (docs.take q) d.kind:Int)+1)) else S y):=by
 intro k
 show (if Value.int .i64 k=.int .i64 d.kind then some (.int .i64 ((countK (docs.take q) d.kind:Int)+1)) else S (.int .i64 k)).getD _=_
 rw [countK_snoc hd]
 by_cases hk:k=d.kind
 ·subst hk
  rw [if_pos rfl,if_pos rfl];simp
 ·rw [if_neg (by simpa using hk),if_neg (fun e=>hk e.symm),h k];simp
open Classical in
theorem AskS.put {needs:List Nd} {q:Nat} {x:Nd} {S:Value->Option Value} (h:AskS (needs.take q) S) (hx:needs[q]?=some x):AskS (needs.take (q+1)) (fun y=>if y=.int .i64 x.kind then some (.bool true) else S y):=by
 intro k
 show (if Value.int .i64 k=.int .i64 x.kind then some (.bool true) else S (.int .i64 k)).getD _=_
 obtain ⟨hq,he⟩:=gsZ.1 hx
 have e:askedB (needs.take (q+1)) k=(askedB (needs.take q) k||decide (x.kind=k)):=by
  rw [List.take_succ_eq_append_getElem hq,he]
  simp [askedB]
 rw [e]
 by_cases hk:k=x.kind
 ·subst hk
  rw [if_pos rfl];simp
 ·rw [if_neg (by simpa using hk),h k]
  simp [show ¬x.kind=k from fun e=>hk e.symm]
theorem Ahead0.start (needs:List Nd):Ahead0 needs [] (fun _=>none):=fun _ _=>rfl
theorem Ahead0.to {needs:List Nd} {ahead:List Pap} {S:Value->Option Value} (h:Ahead0 needs ahead S) (d:Pap):AheadS needs ahead d 0 S:=fun j hj=>by
 rw [h j hj,if_neg (by omega)]
theorem AheadS.out {needs:List Nd} {docs:List Pap} {q:Nat} {d:Pap} {S:Value->Option Value} (h:AheadS needs (docs.take q) d 6 S) (hd:docs[q]?=some d):Ahead0 needs (docs.take (q+1)) S:=fun j hj=>by
 obtain ⟨hq,he⟩:=gsZ.1 hd
 rw [h j hj,if_pos hj,List.take_succ_eq_append_getElem hq,he]
theorem Ahead0.skip {needs:List Nd} {docs:List Pap} {q:Nat} {d:Pap} {S:Value->Option Value} (h:Ahead0 needs (docs.take q) S) (hd:docs[q]?=some d) (ha:askedB needs d.kind=false):Ahead0 needs (docs.take (q+1)) S:=fun j hj=>by
 obtain ⟨hq,he⟩:=gsZ.1 hd
 rw [h j hj,List.take_succ_eq_append_getElem hq,he,ahead_snoc,ha]
 cases aheadF needs (docs.take q) (alikeB j)<;>rfl
theorem lack_snoc {needs:List Nd} {q:Nat} {x:Nd} (docs:List Pap) (h:needs[q]?=some x):(needs.take (q+1)).flatMap (lackF docs)=(needs.take q).flatMap (lackF docs)++lackF docs x:=by
 obtain ⟨hk,he⟩:=gsZ.1 h
 rw [List.take_succ_eq_append_getElem hk,he];simp
theorem lackF_le (docs:List Pap) (x:Nd):(lackF docs x).length<=1:=by unfold lackF;split<;>simp
theorem docs_snoc (c:Crd) (needs:List Nd) (docs:List Pap) (day:Int) (q:Nat):(List.range (q+1)).flatMap (docAt c needs docs day)=(List.range q).flatMap (docAt c needs docs day)++docAt c needs docs day q:=by
 rw [List.range_succ];simp
theorem docF_len {c:Crd} {needs:List Nd} {docs:List Pap} {day:Int} {a:Nat} {d:Pap} (hF:FewParts needs):(docF c needs docs day a d).length<=800:=by
 unfold docF
 split
 ·have h1:=fixedF_len c day a d
  have h2:=ruledF_len (docs:=docs) (a:=a) (d:=d) needs hF.2
  have h3:=others_len needs (docs.take a) a d 6
  have h4:=hF.1
  unfold paperF othersF
  simp only [List.length_append];omega
 ·simp
theorem docAt_len {c:Crd} {needs:List Nd} {docs:List Pap} {day:Int} (hF:FewParts needs) (a:Nat):(docAt c needs docs day a).length<=800:=by
 unfold docAt
 split
 ·exact docF_len hF
 ·simp
theorem docs_len {c:Crd} {needs:List Nd} {docs:List Pap} {day:Int} (hF:FewParts needs):∀q:Nat,((List.range q).flatMap (docAt c needs docs day)).length<=800*q
 | 0=>by simp
 | q+1=>by
  have:=docs_len (c:=c) (docs:=docs) (day:=day) hF q
  have:=docAt_len (c:=c) (docs:=docs) (day:=day) hF q
  rw [docs_snoc,List.length_append];omega
mutual
theorem parts_wgt:∀t:Tree,((partsT t).length:Int)<=wgtT t
 | .mk k p f x n A c L=>by
  have:=partsL_wgt L
  have:=wgtL_pos L
  rw [partsT,wgtT]
  split
  ·omega
  ·simp;omega
theorem partsL_wgt:∀L:List Tree,((partsL L).length:Int)<=wgtL L
 | []=>by simp [partsL,wgtL]
 | t::L=>by
  have:=parts_wgt t
  have:=partsL_wgt L
  rw [partsL,wgtL,List.length_append];omega
end
theorem few_parts {needs:List Nd} {docs:List Pap} (h:fewB needs docs=true):FewParts needs:=by
 unfold fewB at h
 simp only [Bool.and_eq_true,decide_eq_true_eq] at h
 refine ⟨h.1.1.1,fun x hx=>?_⟩
 have:=List.all_eq_true.1 h.1.2 x hx
 have h60:sizeT x.rule 200<=60:=by simpa using this
 have e:=size_wgt x.rule 200 (by omega)
 have:=parts_wgt x.rule
 omega
end Go.Proofs.YtdjmckjbibfecaaGreatDoor

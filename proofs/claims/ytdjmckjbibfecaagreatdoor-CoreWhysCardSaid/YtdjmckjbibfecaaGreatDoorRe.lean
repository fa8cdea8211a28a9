import Derived.Test.YtdjmckjbibfecaaGreatDoorKc
import Derived.Test.YtdjmckjbibfecaaGreatDoorRc
namespace Go.Proofs.YtdjmckjbibfecaaGreatDoor
open Go Go.RowKit Go.BigFrame Go.Maps
set_option maxRecDepth 100000
set_option maxHeartbeats 12800000
structure RwS (w W:World) (C:Array Value) (vF:Value) (BF:Nat) (LF:List Flt):Prop where
 below:Bz w W
 cred:Blk W w.heap.size 46 C
 row:W.ownsRow BF 54 4 vF LF.length (fcells LF)
theorem RwS.on {w W W':World} {C:Array Value} {vF:Value} {BF:Nat} {LF:List Flt} (h:RwS w W C vF BF LF) (hb:Bz W W'):RwS w W' C vF BF LF :=
 ⟨h.below.trans (hb.mono h.below.size),h.cred.below hb h.cred.lt,own_below h.row hb⟩
theorem mkB_app (a b:List UInt8):mkB a++mkB b=mkB (a++b):=cat_mk a b
theorem mkB_lit (a:List UInt8) (l:List UInt8):mkB a++⟨l.toArray⟩=mkB (a++l):=cat_mk a l
theorem mkB_size (l:List UInt8):(mkB l).size=l.length:=size_list l
theorem flat_snoc {α:Type} {g:α->List UInt8} {l:List α} {k:Nat} {x:α} (h:l[k]?=some x):(l.take (k+1)).flatMap g=(l.take k).flatMap g++g x:=by
 obtain ⟨hj,e⟩:=gsZ.1 h
 rw [List.take_succ_eq_append_getElem hj,e,List.flatMap_append]
 simp
theorem fcell_four (x:Flt):x.cells.length=4:=rfl
theorem rwhy_any (w:World) (C:Array Value) (hsz:Hid ((Tryz.prog.info? 46).map (·.size)=some C.size)) (nA:Option Addr) (nl nc:Nat) (needs:List Nd) (hnl:Hid (needs.length=nl)) (hC17:Hid (C[17]?=some (.slice nA nl nc))) (hN:Hid (NdsAt w nA needs)) (A:Option Addr) (nn cc:Nat) (docs:List Pap) (day:Int) (LF:List Flt)
  (hX:Hid (∀W,Bz w W->Calls Tryz.prog 61 #[.agg C,.slice A nn cc,.int .i64 day] W fun e w'=>∃v,e=.returned v/\w'.ownsRow W.heap.size 54 4 v LF.length (fcells LF)/\Bz W w')) (hLl:Hid (LF.length<=20000)) (hLt:Hid (∀x∈LF,Tight x)) (hR:Hid (Room w A nn docs)) (hFP:Hid (FewParts needs)) (hSm:Hid (∀x∈needs,SmallT x.rule))
  (hsm:Hid (∀x∈needs,∀u∈partsT x.rule,(atomsT u).length<=12)) (hsx:Hid (∀x∈needs,sizeT x.rule 200<=60)) :
  Calls Tryz.prog 35 #[.agg C,.slice A nn cc,.int .i64 day] w fun e w'=>e=.returned (.string (mkB (whyM needs docs LF)))/\Bz w w':=by
 have hnn:=hR.out.most
 have hlen:=hdZ hR.out.len
 obtain ⟨w1,hw1⟩:=nmZ (w.alloc (.cells C 46))
 have hK1:Hid (Blk w1 w.heap.size 46 C):=by rw [<-hw1.out];exact hdZ (Blk.new _ _ _)
 have hb1:Hid (Bz w w1):=by rw [<-hw1.out];exact (Below.refl _ w).alloc leZ _
 obtain ⟨K,hK⟩:=nmZ (LF.length)
 have hex:=hdZ (hX.out w1 hb1.out)
 go_enter Tryz.func35,Tryz.ntmps35
 go_wp2_with (first | rw [hw1.out] | (refine wpList_load_blk rfl 46 (.tmp 3) rfl w.heap.size C 46 _ rfl hK1.out Tryz.underlying46 rfl hsz.out ?_))
 refine hex.out.mono ?_
 rintro e w2 ⟨v2,rfl,ho2,hb2⟩
 obtain ⟨AF,cF,rfl⟩:=own_form ho2
 obtain ⟨BF,hBF⟩:=nmZ (w1.heap.size)
 rw [hBF.out] at ho2
 have hS2:Hid (RwS w w2 C (.slice AF LF.length cF) BF LF):=hdZ ⟨hb1.out.trans (hb2.mono hb1.out.size),hK1.out.below hb2 hK1.out.lt,ho2⟩
 have hm0:Hid (whyM needs docs (LF.take 0)=[]):=by rw [List.take_zero];rfl
 rw [hK.out] at hLl hS2 ⊢
 clear hb2 ho2 hex hX hw1 hb1 hK1 hBF
 go_wp2_with fail
 go_loopw [7,9] (fun s i wr=>∃q:Nat,q<=K/\i=.int .i64 q/\s=.string (mkB (whyM needs docs (LF.take q)))/\Hid (RwS w wr C (.slice AF K cF) BF LF)) (fun _ i _=>K-(intOf i).toNat)
 case atStart=>exact ⟨0,Nat.zero_le _,rfl,by rw [hm0.out];rfl,hS2⟩
 case round =>
  clear hS2 hm0
  obtain ⟨q,hq,rfl,rfl,hS⟩:=hrel
  have hKl:=hLl.out
  by_cases hlt:q<K
  ·obtain ⟨x,hx⟩:∃x,LF[q]?=some x:=⟨_,gZ (by have:=hK.out;omega)⟩
   have hxt:=hLt.out x (mgZ hx)
   have hsn:=hdZ (whyM_snoc (needs:=needs) (docs:=docs) hx)
   obtain ⟨M,hM⟩:=nmZ (whyM needs docs (LF.take q))
   have hMl:M.length<=22000000000000:=by
    rw [<-hM.out]
    exact whyM_len (by rw [List.length_take];omega) (fun x hx=>hLt.out x (List.mem_of_mem_take hx)) hsx.out hFP.out
   have hsmF:Tx.smallF [x]:=fun y hy=>by
    obtain rfl:=List.mem_singleton.1 hy
    exact ⟨hxt.2.2.1,hxt.2.2.2,by have:=hxt.2.1;omega⟩
   have htl:=Tx.textF_len hsmF
   rw [hM.out] at hsn ⊢
   have hrow:=hS.out.row
   rw [hK.out] at hrow
   obtain ⟨g,cap,hvA,hgB,hgl⟩:=own_formS hrow (by have:=hK.out;omega)
   simp only [Value.slice.injEq] at hvA
   obtain ⟨rfl,-,rfl⟩:=hvA
   have x0:wr.cell? ⟨g,q*4,none⟩=some (.int .i64 x.paper):=by rw [hrow.cellAt (q*4) (by have:=hK.out;omega)];exact (fm_get fcell_four LF q 0 (by decide)).trans (by rw [hx];rfl)
   have x1:wr.cell? ⟨g,q*4+1,none⟩=some (.int .i64 x.kind):=by rw [hrow.cellAt (q*4+1) (by have:=hK.out;omega)];exact (fm_get fcell_four LF q 1 (by decide)).trans (by rw [hx];rfl)
   have x2:wr.cell? ⟨g,q*4+2,none⟩=some (.string x.field):=by rw [hrow.cellAt (q*4+2) (by have:=hK.out;omega)];exact (fm_get fcell_four LF q 2 (by decide)).trans (by rw [hx];rfl)
   have x3:wr.cell? ⟨g,q*4+3,none⟩=some (.int .i64 x.why):=by rw [hrow.cellAt (q*4+3) (by have:=hK.out;omega)];exact (fm_get fcell_four LF q 3 (by decide)).trans (by rw [hx];rfl)
   obtain ⟨xp,xk,xf,xw⟩:=x
   simp only at x0 x1 x2 x3
   obtain ⟨w5,hw5,hb5,hG5⟩:=newZ wr 54 #[.int .i64 xp,.int .i64 xk,.string xf,.int .i64 xw]
   obtain ⟨gf,hgf⟩:=nmZ (wr.heap.size)
   rw [hgf.out] at hG5
   have e3:wr.heap.size=gf:=hgf.out
   have hS5:=hdZ (hS.out.on hb5.out)
   obtain ⟨r0,r1,r2,r3⟩:=cs4 hG5.out
   obtain ⟨w6,hw6,hb6,hB6⟩:=newZ w5 54 #[.int .i64 xp,.int .i64 xk,.string xf,.int .i64 xw]
   have hO6:Hid (FaultsAt w6 (some ⟨w5.heap.size,0,none⟩) [⟨xp,xk,xf,xw⟩]):=hdZ fun k y hy=>by
    match k,hy with
    | 0,hy =>
     obtain rfl:(⟨xp,xk,xf,xw⟩:Flt)=y:=by simpa using hy
     exact ⟨w5.heap.size,0,rfl,hB6.out.cell 0,hB6.out.cell 1,hB6.out.cell 2,hB6.out.cell 3⟩
   have hS6:=hdZ (hS5.out.on hb6.out)
   have hG6:=kbZ hG5 hb6
   have htx:=hdZ (Tx.textR_any (some ⟨w5.heap.size,0,none⟩) 1 1 [⟨xp,xk,xf,xw⟩] w6 (by omega) (hdZ rfl) hO6 (hdZ hsmF))
   obtain ⟨TX,hTX⟩:=nmZ (Tx.textF [⟨xp,xk,xf,xw⟩])
   rw [hTX.out] at htx htl
   have hwF:Hid (whyF needs docs ⟨xp,xk,xf,xw⟩=TX++(if wholeB docs.length ⟨xp,xk,xf,xw⟩=true then (match docs[xp.toNat]? with | some d=>(failL needs docs d).flatMap (whyP docs d ⟨xp,xk,xf,xw⟩) | none=>[]) else [])++[10]):=by unfold Hid whyF;rw [hTX.out];rfl
   obtain ⟨i1,i2,hkm⟩:=inZ hlt
   have z1:(mkB M).size<=22000000000000:=by rw [mkB_size];exact hMl
   have z2:(mkB TX).size<=1100102:=by rw [mkB_size];simpa using htl
   clear hx hM hrow hgB hgl hsmF htl hTX
   go_wp2_with (first | rw [hw5.out] | rw [e3] | rw [hw6.out])
   refine htx.out.mono ?_
   rintro e w7 ⟨rfl,hb7⟩
   have hS7:=hdZ (hS6.out.on hb7)
   have hG7:=kbY hG6 hb7
   clear hb7 htx r0 r1 r2 r3 x0 x1 x2 x3 hw5 hw6 e3 hb5 hb6 hO6 hS5 hS6 hG5 hG6 hB6
   obtain ⟨r0,r1,r2,r3⟩:=cs4 hG7.out
   have hwh:=hdZ (coarse_any ⟨xp,xk,xf,xw⟩ A nn cc w7)
   simp only [Flt.agg] at hwh
   obtain ⟨bw,hbw⟩:=nmZ (wholeB nn ⟨xp,xk,xf,xw⟩)
   rw [hbw.out] at hwh
   go_wp2_with fail
   refine hwh.out.mono ?_
   rintro e w8 ⟨rfl,hb8⟩
   have hS8:=hdZ (hS7.out.on hb8)
   have hG8:=kbY hG7 hb8
   have hMT:Hid (mkB M++mkB TX=mkB (M++TX)):=mkB_app M TX
   have hGl:(M++TX).length<=22000001100102:=by rw [List.length_append];rw [mkB_size] at z2;omega
   clear hb8 r0 r1 r2 r3 hwh hS7 hG7
   rw [hMT.out]
   clear z1 z2 hMl hMT
   obtain ⟨G0,hG0⟩:=nmZ (M++TX)
   rw [hG0.out] at hGl ⊢
   cases bw with
   | false =>
    have hacc:Hid (whyM needs docs (LF.take (q+1))=G0++[10]):=by
     unfold Hid
     rw [hsn.out,hwF.out,hlen.out,if_neg (by rw [hbw.out];decide),<-hG0.out]
     simp
    have hend:Hid (mkB G0++⟨#[10]⟩=mkB (G0++[10])):=mkB_lit G0 [10]
    have z1:(mkB G0).size<=22000001100102:=by rw [mkB_size];exact hGl
    clear hwF hsn hG0
    go_wp2_with fail
    go_roundw
    case rel=>exact ⟨q+1,by omega,by go_num,by rw [hacc.out];exact congrArg Value.string hend.out,hS8⟩
    case measure=>simp [intOf];omega
   | true =>
    have hw3:0<=xp/\xp<(nn:Int):=by
     have:=hbw.out
     unfold wholeB at this
     simp only [Bool.and_eq_true,decide_eq_true_eq] at this
     exact this.1
    obtain ⟨a,rfl⟩:∃a:Nat,xp=a:=⟨xp.toNat,by omega⟩
    obtain ⟨d,hd⟩:∃d,docs[a]?=some d:=⟨_,gZ (by have:=hlen.out;omega)⟩
    have hd':=hdZ hd
    have hfr:=hdZ (failR_any C nA nl nc needs hC17 hnl A nn cc docs a d (hdZ hd) w8 (hdZ (hN.out.below hS8.out.below)) (hdZ (hR.out.below hS8.out.below)) hSm hFP)
    have hFl:=hdZ (failL_len (docs:=docs) (d:=d) hFP.out)
    have hFm:=hdZ (fun t (ht:t∈failL needs docs d)=>failL_in hN.out hSm.out hsm.out ht)
    have hFs:=hdZ (fun t (ht:t∈failL needs docs d)=>fail_short hsx.out t ht)
    have hPl:=hdZ (fun k=>whyL_len (f:=⟨(a:Int),xk,xf,xw⟩) rfl hd hsx.out hFP.out k)
    have hacc:Hid (whyM needs docs (LF.take (q+1))=G0++(failL needs docs d).flatMap (whyP docs d ⟨(a:Int),xk,xf,xw⟩)++[10]):=by
     unfold Hid
     rw [hsn.out,hwF.out,hlen.out,if_pos hbw.out,<-hG0.out]
     simp only [Int.toNat_natCast,hd,List.append_assoc]
    obtain ⟨FL,hFL⟩:=nmZ (failL needs docs d)
    rw [hFL.out] at hacc hfr hFl hFm hFs hPl
    have r0:w8.cell? ⟨gf,0,none⟩=some (.int .i64 (a:Int)):=hG8.out.cell 0
    have hc8:=hdZ hS8.out.cred
    clear hd hsn hw3 hbw hwF hG0
    go_wp2_with (refine wpList_load_blk rfl 46 (.tmp 3) rfl w.heap.size C 46 _ rfl hc8.out Tryz.underlying46 rfl hsz.out ?_)
    refine hfr.out.mono ?_
    rintro e w9 ⟨v9,rfl,ho9,hb9⟩
    obtain ⟨Ap,cp,rfl⟩:=own_form ho9
    obtain ⟨np,hnp⟩:=nmZ (FL.length)
    rw [hnp.out] at ho9 hFl ⊢
    obtain ⟨BP,hBP⟩:=nmZ (w8.heap.size)
    rw [hBP.out] at ho9
    have hst9:Hid (RwS w w9 C (.slice (some ⟨g,0,none⟩) K cF) BF LF/\Blk w9 gf 54 #[.int .i64 (a:Int),.int .i64 xk,.string xf,.int .i64 xw]/\w9.ownsRow BP 24 6 (.slice Ap np cp) np (tcells FL)):=hdZ ⟨hS8.out.on hb9,hG8.out.below hb9 hG8.out.lt,ho9⟩
    have hG00:Hid (mkB G0=mkB (G0++(FL.take 0).flatMap (whyP docs d ⟨(a:Int),xk,xf,xw⟩))):=by rw [List.take_zero];unfold Hid;simp
    clear hS8 hG8 ho9 hb9 hfr r0 hc8 hBP hS
    go_wp2_with fail
    go_loopw [7,12] (fun s i wx=>∃k:Nat,k<=np/\i=.int .i64 k/\s=.string (mkB (G0++(FL.take k).flatMap (whyP docs d ⟨(a:Int),xk,xf,xw⟩)))/\Hid (RwS w wx C (.slice (some ⟨g,0,none⟩) K cF) BF LF/\Blk wx gf 54 #[.int .i64 (a:Int),.int .i64 xk,.string xf,.int .i64 xw]/\wx.ownsRow BP 24 6 (.slice Ap np cp) np (tcells FL))) (fun _ i _=>np-(intOf i).toNat)
    case atStart=>exact ⟨0,Nat.zero_le _,rfl,congrArg Value.string hG00.out,hst9⟩
    case round =>
     clear hst9 hG00
     obtain ⟨k,hk,rfl,rfl,hS⟩:=hrel
     have hPk:=hPl.out k
     by_cases hkn:k<np
     ·skip
      obtain ⟨t,ht⟩:∃t,FL[k]?=some t:=⟨_,gZ (by have:=hnp.out;omega)⟩
      obtain ⟨hTt,hSt,hAt⟩:=hFm.out t (mgZ ht)
      have hTt':=hdZ hTt
      have hSt':=hdZ hSt
      have hshz:=hFs.out t (mgZ ht)
      have hcells:=hdZ (fun (W:World) (h:W.ownsRow BP 24 6 (.slice Ap np cp) np (tcells FL))=>by
       obtain ⟨A',c',e9,hcl⟩:=own_trees h hnp.out
       simp only [Value.slice.injEq,true_and] at e9
       obtain ⟨rfl,rfl⟩:=e9
       exact hcl k t ht)
      have hsnk:=hdZ (flat_snoc (g:=whyP docs d ⟨(a:Int),xk,xf,xw⟩) ht)
      obtain ⟨G,hG⟩:=nmZ (G0++(FL.take k).flatMap (whyP docs d ⟨(a:Int),xk,xf,xw⟩))
      have hGl2:G.length<=22002000000000:=by rw [<-hG.out,List.length_append];omega
      have hnext:Hid (G0++(FL.take (k+1)).flatMap (whyP docs d ⟨(a:Int),xk,xf,xw⟩)=G++whyP docs d ⟨(a:Int),xk,xf,xw⟩ t):=by unfold Hid;rw [hsnk.out,<-hG.out,List.append_assoc]
      rw [hG.out]
      have hBx:=hdZ hS.out.1.below
      have hRx:Hid (∀W,Bz wr W->Room W A nn docs):=hdZ fun W hW=>hR.out.below (hBx.out.trans (hW.mono hBx.out.size))
      have hTx:Hid (∀W,Bz wr W->TreeAt W t):=hdZ fun W hW=>hTt'.out.below (hBx.out.trans (hW.mono hBx.out.size))
      have hatom:Hid (∀y:Ext wr,Calls Tryz.prog 48 #[.agg t.cells] y.wd fun e w'=>e=.returned (.bool (isAt t.kind))/\Below y.wd.heap.size y.wd w'):=hdZ fun y=>atomR_any t y.wd
      have hstd:Hid (∀y:Ext wr,Calls Tryz.prog 56 #[.agg t.cells,.slice A nn cc,.int .i64 (a:Int)] y.wd fun e w'=>e=.returned (.int .i64 (holdsT docs d t))/\Below y.wd.heap.size y.wd w'):=hdZ fun y=>stands_in A nn cc docs a d hd'.out t y.wd hSt' (hdZ (hTx.out y.wd y.below)) (hdZ (hRx.out y.wd y.below))
      have hcrs:Hid (∀W,Bz wr W->Calls Tryz.prog 16 #[.agg t.cells,.slice A nn cc,.int .i64 (a:Int)] W fun e w'=>∃v,e=.returned v/\CoresAt w' W.heap.size v (coresE docs t (a:Int))/\Bz W w'):=hdZ fun W hW=>coresR_any t A nn cc docs (a:Int) W (hdZ (hTx.out W hW)) hSt' (hdZ (hRx.out W hW)) hAt
      have hshow:Hid (∀W,Bz wr W->Calls Tryz.prog 84 #[.agg t.cells] W fun e w'=>e=.returned (.string (mkB (shownT t)))/\Bz W w'):=hdZ fun W hW=>by
       have:=Sh.rshowR_any (shT t) W (fun _=>True) (hdZ (shT_at (hTx.out W hW))) (hdZ (Nat.le_trans hshz (by decide)))
       rw [shT_cells] at this
       exact this
      have hrows:=hdZ (core_rows (t:=t) hd'.out)
      have hctl:=hdZ (fun l h1 h2=>coresText_len (t:=t) hd'.out l h1 h2)
      have hshl:=shown_len hshz
      obtain ⟨hz,hhz⟩:∃z,holdsT docs d t=z:=⟨_,rfl⟩
      obtain ⟨CE,hCE⟩:=nmZ (coresE docs t (a:Int))
      obtain ⟨SH,hSH⟩:=nmZ (shownT t)
      have hstep:Hid (∀b bw,isAt t.kind=b->(hz==xw)=bw->whyP docs d ⟨(a:Int),xk,xf,xw⟩ t=if (!b&&bw)=true then [32,91]++SH++[93]++CE.flatMap coreT else []):=hdZ fun b bw h1 h2=>by unfold whyP;rw [hhz,hCE.out,hSH.out,h1,h2]
      rw [hhz] at hstd
      rw [hCE.out] at hcrs hrows hctl
      rw [hSH.out] at hshow hshl
      obtain ⟨PW,hPW⟩:=nmZ (whyP docs d ⟨(a:Int),xk,xf,xw⟩ t)
      rw [hPW.out] at hnext hstep
      clear ht hTt hSt hTx hhz hCE hSH hPW hG hshz hsnk
      obtain ⟨tk,tp,tf,tx,tn,tA,tc,tL⟩:=t
      simp only [Tree.cells,Tree.kind] at hatom hstd hcrs hshow hstep
      have hcells':Hid (∀W,W.ownsRow BP 24 6 (.slice Ap np cp) np (tcells FL)->CellsAt W Ap k (.mk tk tp tf tx tn tA tc tL)):=hcells
      obtain ⟨b2,off2,rfl,g0,g1,g2,g3,g4,g5⟩:=hcells'.out wr hS.out.2.2
      have hb2l:b2<wr.heap.size:=World.block_lt_of_cell? wr _ g0
      have y0:∀y:Ext wr,y.wd.cell? ⟨b2,off2+k*6,none⟩=some (.int .i64 tk):=fun y=>(y.cell ⟨b2,_,none⟩ hb2l).trans g0
      have y1:∀y:Ext wr,y.wd.cell? ⟨b2,off2+k*6+1,none⟩=some (.int .i64 tp):=fun y=>(y.cell ⟨b2,_,none⟩ hb2l).trans g1
      have y2:∀y:Ext wr,y.wd.cell? ⟨b2,off2+k*6+2,none⟩=some (.string tf):=fun y=>(y.cell ⟨b2,_,none⟩ hb2l).trans g2
      have y3:∀y:Ext wr,y.wd.cell? ⟨b2,off2+k*6+3,none⟩=some (.string tx):=fun y=>(y.cell ⟨b2,_,none⟩ hb2l).trans g3
      have y4:∀y:Ext wr,y.wd.cell? ⟨b2,off2+k*6+4,none⟩=some (.int .i64 tn):=fun y=>(y.cell ⟨b2,_,none⟩ hb2l).trans g4
      have y5:∀y:Ext wr,y.wd.cell? ⟨b2,off2+k*6+5,none⟩=some (.slice tA tL.length tc):=fun y=>(y.cell ⟨b2,_,none⟩ hb2l).trans g5
      have hflt:=hdZ hS.out.2.1
      have f0:∀y:Ext wr,y.wd.cell? ⟨gf,0,none⟩=some (.int .i64 (a:Int)):=fun y=>(y.cell ⟨gf,0,none⟩ hflt.out.lt).trans (hflt.out.cell 0)
      have f3:∀y:Ext wr,y.wd.cell? ⟨gf,3,none⟩=some (.int .i64 xw):=fun y=>(y.cell ⟨gf,3,none⟩ hflt.out.lt).trans (hflt.out.cell 3)
      have hnp720:np<=720:=hFl.out
      obtain ⟨j1,j2,hkm2⟩:=inZ hkn
      obtain ⟨bA,hbA⟩:∃b,isAt tk=b:=⟨_,rfl⟩
      obtain ⟨bW,hbW⟩:∃b,(hz==xw)=b:=⟨_,rfl⟩
      have hbW':(hz != xw)=!bW:=by rw [<-hbW];rfl
      have hst1:=hdZ (hstep.out bA bW hbA hbW)
      rw [hbA] at hatom
      clear g0 g1 g2 g3 g4 g5 hcells hstep hbA hbW
      have hkeep:Hid (∀W,Bz wr W->RwS w W C (.slice (some ⟨g,0,none⟩) K cF) BF LF/\Blk W gf 54 #[.int .i64 (a:Int),.int .i64 xk,.string xf,.int .i64 xw]/\W.ownsRow BP 24 6 (.slice (some ⟨b2,off2,none⟩) np cp) np (tcells FL)):=hdZ fun W hW=>⟨hS.out.1.on hW,hS.out.2.1.below hW hS.out.2.1.lt,own_below hS.out.2.2 hW⟩
      cases bA with
      | true =>
       have hno:Hid (G++PW=G):=by unfold Hid;rw [hst1.out];simp
       go_wp2_with fail
       refine wp_region_ext (by kernel_rfl) (by kernel_rfl) ?_
       repeat (go_big_quiet_step (first | (go_at_call 48;exact Calls.ext_of (hatom.out _)) | (go_at_call 56;exact Calls.ext_of (hstd.out _))))
       refine wpQuiet_nil ?_
       rintro _ ⟨y,rfl⟩
       have hSy:=hdZ (hkeep.out _ y.below)
       clear y0 y1 y2 y3 y4 y5 f0 f3
       go_wp2_with fail
       go_roundw
       case rel=>exact ⟨k+1,by omega,by go_num,by rw [hnext.out,hno.out],hSy⟩
       case measure=>simp [intOf];omega
      | false =>
      cases bW with
      | false =>
       have hno:Hid (G++PW=G):=by unfold Hid;rw [hst1.out];simp
       go_wp2_with fail
       refine wp_region_ext (by kernel_rfl) (by kernel_rfl) ?_
       repeat (go_big_quiet_step (first | (go_at_call 48;exact Calls.ext_of (hatom.out _)) | (go_at_call 56;exact Calls.ext_of (hstd.out _))))
       refine wpQuiet_nil ?_
       rintro _ ⟨y,rfl⟩
       have hSy:=hdZ (hkeep.out _ y.below)
       clear y0 y1 y2 y3 y4 y5 f0 f3
       go_wp2_with fail
       go_roundw
       case rel=>exact ⟨k+1,by omega,by go_num,by rw [hnext.out,hno.out],hSy⟩
       case measure=>simp [intOf];omega
      | true =>
       have hyes:Hid (PW=[32,91]++SH++[93]++CE.flatMap coreT):=by unfold Hid;rw [hst1.out];rfl
       go_wp2_with fail
       refine wp_region_ext (by kernel_rfl) (by kernel_rfl) ?_
       repeat (go_big_quiet_step (first | (go_at_call 48;exact Calls.ext_of (hatom.out _)) | (go_at_call 56;exact Calls.ext_of (hstd.out _))))
       refine wpQuiet_nil ?_
       rintro _ ⟨y,rfl⟩
       have hby:=hdZ y.below
       obtain ⟨ws,hws⟩:∃w6,y.wd=w6:=⟨_,rfl⟩
       rw [hws] at hby ⊢
       clear hws y y0 y1 y2 y3 y4 y5 f0 f3 hatom hstd hS hflt hst1
       have hSs:=hkeep.out ws hby.out
       obtain ⟨b3,off3,e3,g0,g1,g2,g3,g4,g5⟩:=hcells'.out ws hSs.2.2
       obtain ⟨rfl,rfl⟩:b2=b3/\off2=off3:=by simpa using e3
       have hsh:=hdZ (hshow.out ws hby.out)
       have z1:(mkB G).size<=22002000000000:=by rw [mkB_size];exact hGl2
       have z2:(mkB G++⟨#[32,91]⟩).size<=22002000000002:=by rw [ByteArray.size_append];show _+2<=_;omega
       have z3:(mkB SH).size<=36000:=by rw [mkB_size];exact hshl
       have z4:(mkB G++⟨#[32,91]⟩++mkB SH).size<=22002000036002:=by rw [ByteArray.size_append];omega
       clear hSs e3
       go_wp2_with fail
       refine hsh.out.mono ?_
       rintro e w8 ⟨rfl,hb8⟩
       have hb8':=hdZ (hby.out.trans (hb8.mono hby.out.size))
       have hcat:Hid (mkB G++⟨#[32,91]⟩++mkB SH++⟨#[93]⟩=mkB (G++([32,91]++SH++[93]))):=by
        unfold Hid;apply ByteArray.ext;simp [mkB]
       clear g0 g1 g2 g3 g4 g5 hsh hb8
       have hS8:=hkeep.out w8 hb8'.out
       obtain ⟨b3,off3,e3,g0,g1,g2,g3,g4,g5⟩:=hcells'.out w8 hS8.2.2
       obtain ⟨rfl,rfl⟩:b2=b3/\off2=off3:=by simpa using e3
       have f0:w8.cell? ⟨gf,0,none⟩=some (.int .i64 (a:Int)):=hS8.2.1.cell 0
       have hcrs':=hdZ (hcrs.out w8.drew (hb8'.out.trans (below_drewN (Below.refl _ w8) 1)))
       clear hS8 e3
       go_wp2_with fail
       go_still_tail 7,(by kernel_rfl)
       change wpList _ _ _ _ _ w8.drew
       go_wp2_with fail
       refine hcrs'.out.mono ?_
       rintro e w9 ⟨v9,rfl,hC9,hb9⟩
       have hb89:Hid (Bz wr w9):=hb8'.out.trans (((below_drewN (Below.refl _ w8) 1).trans hb9).mono hb8'.out.size)
       obtain ⟨m,hm⟩:=nmZ (CE.length)
       obtain ⟨Ac,ccx,rfl⟩:∃Ac ccx,v9=.slice Ac m ccx:=by
        obtain ⟨vs,_,h2,_⟩:=hC9
        rw [hm.out] at h2
        exact own_form h2
       obtain ⟨B9,hB9⟩:=nmZ (w8.drew.heap.size)
       rw [hB9.out] at hC9
       have hC9':=hdZ hC9
       rw [hcat.out]
       obtain ⟨G1,hG1⟩:∃l:List UInt8,Hid (G++([32,91]++SH++[93])=l):=⟨_,hdZ rfl⟩
       rw [hG1.out]
       have hG1l:G1.length<=22002000036003:=by rw [<-hG1.out];simp only [List.length_append,List.length_cons,List.length_nil];omega
       have hlast:Hid (G++PW=G1++CE.flatMap coreT):=by unfold Hid;rw [hyes.out,<-hG1.out];simp only [List.append_assoc]
       have hm5:m<=5000:=by have:=hrows.out.1;rw [hm.out] at this;exact this
       have hG10:Hid (mkB G1=mkB (G1++(CE.take 0).flatMap coreT)):=by rw [List.take_zero];unfold Hid;simp
       clear z1 z2 z3 z4 g0 g1 g2 g3 g4 g5 f0 hb9 hC9 hcrs' hcrs hb8' hby hcat hG1 hyes hB9 hcells' hshow
       go_wp2_with fail
       go_loopw [7,14] (fun s i wx=>∃j:Nat,j<=m/\i=.int .i64 j/\s=.string (mkB (G1++(CE.take j).flatMap coreT))/\Hid (Bz w9 wx)) (fun _ i _=>m-(intOf i).toNat)
       case atStart=>exact ⟨0,Nat.zero_le _,rfl,congrArg Value.string hG10.out,hdZ (Below.refl _ _)⟩
       case round =>
        clear hG10
        obtain ⟨j,hj,rfl,rfl,hBj⟩:=hrel
        by_cases hjm:j<m
        ·obtain ⟨pl,hpl⟩:∃pl,CE[j]?=some pl:=⟨_,gZ (by have:=hm.out;omega)⟩
         obtain ⟨vs,hv1,hv2,hv3⟩:=hC9'.out.on hBj.out
         obtain ⟨y,hy⟩:∃y,vs[j]?=some y:=⟨_,gZ (by have:=hm.out;omega)⟩
         have hyr:=hv3 j pl y hpl hy
         obtain ⟨hp12,hpi⟩:=hrows.out.2 pl (mgZ hpl)
         have hro:=hdZ (row32_any pl y B9 wr hp12 hpi (hdZ hyr))
         have hjl:=joinC_len hp12 fun i h=>by have:=hpi i h;omega
         obtain ⟨gc,cap,hvA,hgB,hgl⟩:=own_formS hv2 (by have:=hm.out;omega)
         simp only [Value.slice.injEq] at hvA
         obtain ⟨rfl,-,rfl⟩:=hvA
         have hce:wr.cell? ⟨gc,j,none⟩=some y:=by
          rw [hm.out] at hv2
          rw [hv2.cellAt j (by omega)]
          exact hy
         obtain ⟨PL,hPL⟩:=nmZ (pl.length)
         rw [hPL.out] at hyr
         obtain ⟨Ay,cy,rfl⟩:=own_form hyr
         have hsn:=hdZ (flat_snoc (g:=coreT) hpl)
         have hpart:=hctl.out (CE.take j) (fun z hz=>List.mem_of_mem_take hz) (by rw [List.length_take];omega)
         obtain ⟨J,hJ⟩:∃l:List UInt8,Hid ([40]++joinC pl++[41]=l):=⟨_,hdZ rfl⟩
         have hJz:(mkB J).size<=254:=by rw [mkB_size,<-hJ.out];simp only [List.length_append,List.length_cons,List.length_nil];omega
         have hct:Hid (coreT pl=[32]++J):=by unfold Hid coreT;rw [<-hJ.out];simp
         rw [hJ.out] at hro
         obtain ⟨X,hX9⟩:=nmZ (G1++(CE.take j).flatMap coreT)
         have z1:(mkB X).size<=22002001311003:=by rw [mkB_size,<-hX9.out,List.length_append];omega
         have z2:(mkB X++⟨#[32]⟩).size<=22002001311004:=by rw [ByteArray.size_append];show _+1<=_;omega
         have hnx:Hid (mkB X++⟨#[32]⟩++mkB J=mkB (G1++(CE.take (j+1)).flatMap coreT)):=by
          unfold Hid
          rw [hsn.out,hct.out,<-List.append_assoc,hX9.out]
          apply ByteArray.ext;simp [mkB]
         rw [hX9.out]
         obtain ⟨k1,k2,hkm3⟩:=inZ hjm
         clear hpl hv1 hv2 hv3 hy hyr hp12 hpi hJ hX9 hsn hct hpart
         go_wp2_with fail
         refine hro.out.mono ?_
         rintro e w11 ⟨rfl,hb11⟩
         have hB11:=btY hBj hb11
         clear hb11 hro hce
         go_wp2_with fail
         go_roundw
         case rel=>exact ⟨j+1,by omega,by go_num,congrArg Value.string hnx.out,hB11⟩
         case measure=>simp [intOf];omega
        ·have hkm3:decide (j<m)=false:=dfZ hjm
         have hfin:Hid (G1++(CE.take j).flatMap coreT=G0++(FL.take (k+1)).flatMap (whyP docs d ⟨(a:Int),xk,xf,xw⟩)):=by
          unfold Hid
          rw [hnext.out,hlast.out,List.take_of_length_le (by rw [hm.out];omega)]
         have hSj:=hdZ (hkeep.out _ (hb89.out.trans (hBj.out.mono hb89.out.size)))
         rw [hfin.out]
         clear hC9'
         go_wp2_with fail
         go_roundw
         case rel=>exact ⟨k+1,by omega,by go_num,rfl,hSj⟩
         case measure=>simp [intOf];omega
     ·have hkm2:decide (k<np)=false:=dfZ hkn
      rw [List.take_of_length_le (by rw [hnp.out];omega)] at hPk ⊢
      have z1:(mkB (G0++FL.flatMap (whyP docs d ⟨(a:Int),xk,xf,xw⟩))).size<=22002000000000:=by rw [mkB_size,List.length_append];omega
      have hend:Hid (mkB (G0++FL.flatMap (whyP docs d ⟨(a:Int),xk,xf,xw⟩))++⟨#[10]⟩=mkB (whyM needs docs (LF.take (q+1)))):=by
       unfold Hid
       rw [hacc.out]
       exact mkB_lit _ [10]
      have hS9:=hdZ hS.out.1
      go_wp2_with fail
      go_roundw
      case rel=>exact ⟨q+1,by omega,by go_num,congrArg Value.string hend.out,hS9⟩
      case measure=>simp [intOf];omega
  ·have hkm:decide (q<K)=false:=dfZ hlt
   rw [List.take_of_length_le (by rw [hK.out];omega)]
   have hB:=hdZ hS.out.below
   go_wp2_with fail
   go_ret
   exact ⟨rfl,hB.out⟩
end Go.Proofs.YtdjmckjbibfecaaGreatDoor

import Derived.Lay
import Derived.LaidMore
import Derived.SevenTiedAt
import Derived.Deep.DeepHandedRow
import Derived.Test.YtdjmckjbibfecaaGreatDoorKc
import Derived.Test.YtdjmckjbibfecaaGreatDoorQShelf
import Derived.Test.YtdjmckjbibfecaaGreatDoorRc
import Derived.Test.YtdjmckjbibfecaaGreatDoorRe
namespace Go.Proofs.YtdjmckjbibfecaaGreatDoor
open Go Go.ChangeShapes Go.WideShapes Go.ChangeAt Go.RowKit Go.Deep
theorem tarr_get (l:List (List UInt8)) (n:Nat) (h:n<l.length):(l.map fun t=>Value.string ⟨t.toArray⟩).toArray[n]?=some (.string (⟨(l.getD n []).toArray⟩:ByteArray)):=by
 simp [List.getD,gZ h]
theorem tabE_of {W : World} {L : List (String × DataW Unit)} (hk : L.filter (fun x => x.1 == "supercargo/examine.kinds") = [("supercargo/examine.kinds", Rows.laid_supercargo_examine_kinds)]) (hw : L.filter (fun x => x.1 == "supercargo/examine.whys") = [("supercargo/examine.whys", Rows.laid_supercargo_examine_whys)])
  (hp : L.filter (fun x => x.1 == "supercargo/syntax.papers") = [("supercargo/syntax.papers", Rows.laid_supercargo_syntax_papers)]) (hd : L.filter (fun x => x.1 == "supercargo/token.words") = [("supercargo/token.words", Rows.laid_supercargo_token_words)]) (h : laidMetH Tryz.prog L W) (he : Env W) (ha : AlikeAt W) : TabE W := by
 have h1 := laidMetH.filter (fun x => x.1 == "supercargo/examine.kinds") h
 rw [hk,MakeChecks.laidMetH_plain _ _ _ (by kernel_rfl)] at h1
 have h2 := laidMetH.filter (fun x => x.1 == "supercargo/examine.whys") h
 rw [hw,MakeChecks.laidMetH_plain _ _ _ (by kernel_rfl)] at h2
 have h3 := laidMetH.filter (fun x => x.1 == "supercargo/syntax.papers") h
 rw [hp,MakeChecks.laidMetH_plain _ _ _ (by kernel_rfl)] at h3
 have h4 := laidMetH.filter (fun x => x.1 == "supercargo/token.words") h
 rw [hd,MakeChecks.laidMetH_plain _ _ _ (by kernel_rfl)] at h4
 refine ⟨⟨he.tab,he.most,?_,?_,ha,he.syn,he.ran,he.size⟩,⟨he.tab,he.most,fun n hn=>?_,fun n hn=>?_,he.size⟩⟩
 ·exact strtab (t:=143) (e:=9) (n:=6) [[105,110,118,111,105,99,101],[112,97,99,107,105,110,103],[108,97,100,105,110,103],[105,110,115,117,114,97,110,99,101],[111,114,105,103,105,110],[100,114,97,102,116]] (by kernel_rfl) (by kernel_rfl) Tryz.underlying143 Tryz.underlying9 (by kernel_rfl) rfl h1
 ·exact strtab (t:=159) (e:=9) (n:=7) [[102,105,110,101],[108,97,99,107,115],[102,97,105,108,115],[117,110,108,105,107,101],[108,97,116,101],[109,117,99,104],[102,101,119]] (by kernel_rfl) (by kernel_rfl) Tryz.underlying159 Tryz.underlying9 (by kernel_rfl) rfl h2
 ·rw [show Sh.papersA=(Sh.papersL.map fun t=>Value.string ⟨t.toArray⟩).toArray from rfl,tarr_get Sh.papersL n hn]
  exact strtab (t:=143) (e:=9) (n:=6) Sh.papersL (by kernel_rfl) (by kernel_rfl) Tryz.underlying143 Tryz.underlying9 (by kernel_rfl) rfl h3 n hn
 ·rw [show Sh.wordsA=(Sh.wordsL.map fun t=>Value.string ⟨t.toArray⟩).toArray from rfl,tarr_get Sh.wordsL n hn]
  exact strtab (t:=260) (e:=9) (n:=35) Sh.wordsL (by kernel_rfl) (by kernel_rfl) Tryz.underlying260 Tryz.underlying9 (by kernel_rfl) rfl h4 n hn
open Go Go.RowKit Go.BigFrame Go.Maps
set_option maxRecDepth 100000
set_option maxHeartbeats 6400000
theorem fcell_len (x:Flt):x.cells.length=4:=rfl
theorem faults_one {w:World} {g:Nat} {f:Flt} (h:Blk w g 54 #[.int .i64 f.paper,.int .i64 f.kind,.string f.field,.int .i64 f.why]):FaultsAt w (some ⟨g,0,none⟩) [f]:=by
 intro k x hx
 match k,hx with
 | 0,hx =>
  obtain rfl:f=x:=by simpa using hx
  exact ⟨g,0,rfl,h.cell 0,h.cell 1,h.cell 2,h.cell 3⟩
theorem why_any (w:World) (C:Array Value) (hsz:Hid ((Tryz.prog.info? 46).map (·.size)=some C.size)) (nA:Option Addr) (nl nc:Nat) (needs:List Nd) (hnl:Hid (needs.length=nl)) (hl12:nl<=1000) (hC17:Hid (C[17]?=some (.slice nA nl nc))) (hN:Hid (NdsAt w nA needs)) (A:Option Addr) (nn cc:Nat) (docs:List Pap) (day:Int) (LF:List Flt)
  (hX:Hid (∀W,Bz w W->Calls Tryz.prog 21 #[.agg C,.slice A nn cc,.int .i64 day] W (FaultedO W LF))) (hLl:Hid (LF.length<=20000)) (hLt:Hid (∀x∈LF,Tight x)) (hR:Hid (Room w A nn docs)) (he:Hid (TabE w)) (hFP:Hid (FewParts needs)) (hsx:Hid (∀x∈needs,sizeT x.rule 200<=60)) :
  Calls Tryz.prog 34 #[.agg C,.slice A nn cc,.int .i64 day] w fun e w'=>e=.returned (.string (mkB (whyM needs docs LF)))/\Bz w w':=by
 have hnn:=hR.out.most
 have hlen:=hdZ hR.out.len
 have hT60:Hid (∀x∈needs,∀u∈partsT x.rule,(atomsT u).length<=60/\Sh.szR (Sh.strip (shT u))<=36000):=hdZ fun x hx u hu=>⟨by
  have e:=size_wgt x.rule 200 (by have:=hsx.out x hx;omega)
  have h1:=partU_wgt x.rule u hu
  have h2:=atoms_wgt u
  have:=hsx.out x hx
  omega,show_short (hsx.out x hx) hu⟩
 obtain ⟨w0,hw0⟩:=nmZ ((w.alloc (.cells C 46)).alloc (.cells #[.slice A nn cc] 25))
 have hs1:(w.alloc (.cells C 46)).heap.size=w.heap.size+1:=by simp
 have hK0:Hid (Blk w0 w.heap.size 46 C):=by rw [<-hw0.out];exact hdZ ((Blk.new _ _ _).alloc _)
 have hD0:Hid (Blk w0 (w.heap.size+1) 25 #[.slice A nn cc]):=by rw [<-hw0.out,<-hs1];exact hdZ (Blk.new _ _ _)
 have hz0:Hid (w0.heap.size=w.heap.size+2):=by rw [<-hw0.out];unfold Hid;simp
 have hb0:Hid (Bz w w0):=by
  rw [<-hw0.out]
  have h1:=(Below.refl w.heap.size w).alloc leZ (.cells C 46)
  exact h1.alloc h1.size _
 obtain ⟨w1,hw1,hb1,-⟩:=newZ w0 115 #[.pointer none,.slice none 0 0]
 have hW1:Hid (Bld w1 w0.heap.size w0.heap.size []):=by rw [<-hw1.out];exact builder_new w0
 have hB1:=btZ hb0 hb1
 have hK1:=kbZ hK0 hb1
 have hD1:=kbZ hD0 hb1
 obtain ⟨g1,hg1⟩:=nmZ (w.heap.size+1)
 obtain ⟨gb,hg2⟩:=nmZ (w0.heap.size)
 have e1:w.heap.size+1=g1:=hg1.out
 have e2:w0.heap.size=gb:=hg2.out
 have hgb:w.heap.size<=gb:=by have:=hz0.out;omega
 rw [hg1.out] at hD1
 rw [hg2.out] at hW1
 have p1:w1.cell? ⟨g1,0,none⟩=some (.slice A nn cc):=hD1.out.cell 0
 have hex:=hdZ (hX.out w1 hB1.out)
 clear hs1 hK0 hD0
 go_enter Tryz.func34,Tryz.ntmps34
 go_wp2_with (first | rw [hw0.out,hw1.out] | rw [hw0.out] | rw [hw1.out] | (refine wpList_load_blk rfl 46 (.tmp 3) rfl w.heap.size C 46 _ rfl hK1.out Tryz.underlying46 rfl hsz.out ?_))
 refine hex.out.mono ?_
 rintro e w2 ⟨v2,BF,rfl,ho2,hb2⟩
 have hS2:Hid (WhyS w w2 C A nn cc g1 gb v2 BF LF (whyM needs docs (LF.take 0))):=by
  rw [List.take_zero]
  exact hdZ ⟨hB1.out.trans (hb2.mono hB1.out.size),hK1.out.below hb2 hK1.out.lt,hD1.out.below hb2 hD1.out.lt,ho2,hW1.out.below hb2⟩
 obtain ⟨AF,cF,rfl⟩:=own_form ho2
 obtain ⟨K,hK⟩:=nmZ (LF.length)
 have hKl:=hLl.out
 rw [hK.out] at hKl ⊢
 clear p1 hex hb2 ho2 hW1 hK1 hD1 e1 e2 hX
 go_wp2_with fail
 go_loopw [15] (fun i wr=>∃q:Nat,q<=K/\i=.int .i64 q/\Hid (WhyS w wr C A nn cc g1 gb (.slice AF LF.length cF) BF LF (whyM needs docs (LF.take q)))) (fun i _=>K-(intOf i).toNat)
 case atStart=>exact ⟨0,Nat.zero_le _,rfl,hS2⟩
 case round =>
  clear hS2
  obtain ⟨q,hq,rfl,hS⟩:=hrel
  by_cases hlt:q<K
  ·as_aux_lemma =>
   obtain ⟨x,hx⟩:∃x,LF[q]?=some x:=⟨_,gZ (by have:=hK.out;omega)⟩
   have hxt:=hLt.out x (mgZ hx)
   have hsn:=hdZ (whyM_snoc (needs:=needs) (docs:=docs) hx)
   obtain ⟨M,hM⟩:=nmZ (whyM needs docs (LF.take q))
   have hMl:M.length<=22000000000000:=by
    rw [<-hM.out]
    exact whyM_len (by rw [List.length_take];omega) (fun x hx=>hLt.out x (List.mem_of_mem_take hx)) hsx.out hFP.out
   have hxl:=whyF_len (docs:=docs) hxt hsx.out hFP.out
   have hsm:Tx.smallF [x]:=fun y hy=>by
    obtain rfl:=List.mem_singleton.1 hy
    exact ⟨hxt.2.2.1,hxt.2.2.2,by have:=hxt.2.1;omega⟩
   have htl:=Tx.textF_len hsm
   rw [hM.out] at hsn hS
   obtain ⟨g,cap,hvA,hgB,hgl⟩:=own_formS hS.out.row (by have:=hK.out;omega)
   simp only [Value.slice.injEq] at hvA
   obtain ⟨rfl,-,rfl⟩:=hvA
   have hrow:=hS.out.row
   have x0:wr.cell? ⟨g,q*4,none⟩=some (.int .i64 x.paper):=by rw [hrow.cellAt (q*4) (by have:=hK.out;omega)];exact (fm_get fcell_len LF q 0 (by decide)).trans (by rw [hx];rfl)
   have x1:wr.cell? ⟨g,q*4+1,none⟩=some (.int .i64 x.kind):=by rw [hrow.cellAt (q*4+1) (by have:=hK.out;omega)];exact (fm_get fcell_len LF q 1 (by decide)).trans (by rw [hx];rfl)
   have x2:wr.cell? ⟨g,q*4+2,none⟩=some (.string x.field):=by rw [hrow.cellAt (q*4+2) (by have:=hK.out;omega)];exact (fm_get fcell_len LF q 2 (by decide)).trans (by rw [hx];rfl)
   have x3:wr.cell? ⟨g,q*4+3,none⟩=some (.int .i64 x.why):=by rw [hrow.cellAt (q*4+3) (by have:=hK.out;omega)];exact (fm_get fcell_len LF q 3 (by decide)).trans (by rw [hx];rfl)
   obtain ⟨xp,xk,xf,xw⟩:=x
   simp only at x0 x1 x2 x3
   obtain ⟨w5,hw5,hb5,hG5⟩:=newZ wr 54 #[.int .i64 xp,.int .i64 xk,.string xf,.int .i64 xw]
   obtain ⟨gf,hgf⟩:=nmZ (wr.heap.size)
   rw [hgf.out] at hG5
   have e3:wr.heap.size=gf:=hgf.out
   have hS5:=hdZ (hS.out.on hb5.out)
   obtain ⟨r0,r1,r2,r3⟩:=cs4 hG5.out
   obtain ⟨w6,hw6,hb6,-⟩:=newZ w5 54 #[.int .i64 xp,.int .i64 xk,.string xf,.int .i64 xw]
   have hO6:Hid (FaultsAt w6 (some ⟨w5.heap.size,0,none⟩) [⟨xp,xk,xf,xw⟩]):=by rw [<-hw6.out];exact hdZ (faults_one (Blk.new w5 54 #[.int .i64 xp,.int .i64 xk,.string xf,.int .i64 xw]))
   have hS6:=hdZ (hS5.out.on hb6.out)
   have hG6:=kbZ hG5 hb6
   have htx:=hdZ (Tx.textE_any (some ⟨w5.heap.size,0,none⟩) 1 1 [⟨xp,xk,xf,xw⟩] w6 (by omega) (hdZ rfl) hO6 (hdZ hsm) (he.out.tx.below hS6.out.below))
   obtain ⟨TX,hTX⟩:=nmZ (Tx.textF [⟨xp,xk,xf,xw⟩])
   rw [hTX.out] at htx htl
   have hwF:Hid (whyF needs docs ⟨xp,xk,xf,xw⟩=TX++(if wholeB docs.length ⟨xp,xk,xf,xw⟩=true then (match docs[xp.toNat]? with | some d=>(failL needs docs d).flatMap (whyP docs d ⟨xp,xk,xf,xw⟩) | none=>[]) else [])++[10]):=by unfold Hid whyF;rw [hTX.out];rfl
   obtain ⟨i1,i2,hkm⟩:=inZ hlt
   have htl2:TX.length<=1100102:=by simpa using htl
   rw [hwF.out] at hxl
   simp only [List.length_append,List.length_cons,List.length_nil] at hxl
   clear hx hM hrow hgB hgl hsm htl hTX
   go_wp2_with (first | rw [hw5.out] | rw [e3] | rw [hw6.out])
   refine htx.out.mono ?_
   rintro e w7 ⟨rfl,hb7⟩
   have hS7:=hdZ (hS6.out.on hb7)
   have hG7:=kbY hG6 hb7
   have hwr7:Hid (Calls Tryz.prog 77 #[.pointer (some ⟨gb,0,none⟩),.string (mkB TX)] w7 fun e w'=>(∃n,e=.returned (.tuple #[.int .i64 n,.nilIface]))/\Below gb w7 w'/\Lib.OthersKept 5 (some gb) w7 w'/\Bld w' gb gb (M++TX)) :=
    Sh.write_any gb gb M TX w7 (hdZ hS7.out.bld) (by omega) (Nat.le_of_lt hS7.out.bld.lt)
   clear hb7 htx r0 r1 r2 r3 x0 x1 x2 x3 hw5 hw6 e3 hb5 hb6 hO6 hS5 hS6 hG5 hG6
   go_wp2_with fail
   refine hwr7.out.mono ?_
   rintro e w8 ⟨⟨n8,rfl⟩,hB8,hK8,hb8⟩
   have hS8:=hdZ (hS7.out.write hgb hB8 hK8 hb8)
   have hG8:=hdZ (blk_others hG7.out hK8 (blk_ne_bld hG7.out hS7.out.bld (by decide)) (by decide))
   obtain ⟨r0,r1,r2,r3⟩:=cs4 hG8.out
   have p8:w8.cell? ⟨g1,0,none⟩=some (.slice A nn cc):=hS8.out.docs.cell 0
   have hwh:=hdZ (whole_any ⟨xp,xk,xf,xw⟩ A nn cc w8)
   simp only [Flt.agg] at hwh
   obtain ⟨bw,hbw⟩:=nmZ (wholeB nn ⟨xp,xk,xf,xw⟩)
   rw [hbw.out] at hwh
   clear hB8 hK8 hb8 hwr7 hS7 hG7
   go_wp2_with fail
   refine hwh.out.mono ?_
   rintro e w9 ⟨rfl,hb9⟩
   have hS9:=hdZ (hS8.out.on hb9)
   have hG9:=kbY hG8 hb9
   clear hb9 r0 r1 r2 r3 p8 hwh hS8 hG8
   have hlast:Hid (∀W P,(M++TX++P).length<=23100000000000->WhyS w W C A nn cc g1 gb (.slice (some ⟨g,0,none⟩) LF.length cF) BF LF (M++TX++P)->Calls Tryz.prog 77 #[.pointer (some ⟨gb,0,none⟩),.string ⟨#[10]⟩] W fun e w'=>(∃n,e=.returned (.tuple #[.int .i64 n,.nilIface]))/\WhyS w w' C A nn cc g1 gb (.slice (some ⟨g,0,none⟩) LF.length cF) BF LF (M++(TX++P++[10]))):=hdZ fun W P hl h=>by
    refine (Sh.write_any gb gb (M++TX++P) [10] W (hdZ h.bld) (by simp only [List.length_cons,List.length_nil];omega) (Nat.le_of_lt h.bld.lt)).mono ?_
    rintro e w' ⟨hn,hB,hK,hb⟩
    refine ⟨hn,?_⟩
    have:=h.write hgb hB hK hb
    simpa only [List.append_assoc] using this
   cases bw with
   | false =>
    have hacc:Hid (whyM needs docs (LF.take (q+1))=M++(TX++[]++[10])):=by
     unfold Hid
     rw [hsn.out,hwF.out,hlen.out,if_neg (by rw [hbw.out];decide)]
    have hla:=hdZ (hlast.out w9 [] (by simp only [List.length_append,List.length_nil];omega) (by rw [List.append_nil];exact hS9.out))
    clear hlast hwF hsn hxl
    go_wp2_with fail
    refine hla.out.mono ?_
    rintro e w10 ⟨⟨n10,rfl⟩,hS10⟩
    have hS10':=hdZ hS10
    clear hS10 hla
    go_wp2_with fail
    go_roundw
    case rel=>exact ⟨q+1,by omega,by go_num,by rw [hacc.out];exact hS10'⟩
    case measure=>simp [intOf];omega
   | true =>
    have hw3:0<=xp/\xp<(nn:Int):=by
     have:=hbw.out
     unfold wholeB at this
     simp only [Bool.and_eq_true,decide_eq_true_eq] at this
     exact this.1
    obtain ⟨a,rfl⟩:∃a:Nat,xp=a:=⟨xp.toNat,by omega⟩
    obtain ⟨d,hd⟩:∃d,docs[a]?=some d:=⟨_,gZ (by have:=hlen.out;omega)⟩
    obtain ⟨PP,hPP⟩:=nmZ ((failL needs docs d).flatMap (whyP docs d ⟨(a:Int),xk,xf,xw⟩))
    have hacc:Hid (whyM needs docs (LF.take (q+1))=M++(TX++PP++[10])):=by
     unfold Hid
     rw [hsn.out,hwF.out,hlen.out,if_pos hbw.out]
     simp only [Int.toNat_natCast,hd]
     rw [hPP.out]
    have hPPl:PP.length<=1008000000:=by
     have:=whyL_len (f:=⟨(a:Int),xk,xf,xw⟩) rfl hd hsx.out hFP.out (failL needs docs d).length
     rw [List.take_length,hPP.out] at this
     exact this
    have H:=hdZ (give_why w A nn cc docs hR he ⟨(a:Int),xk,xf,xw⟩ a rfl d hd C g1 gb gf hgb (.slice (some ⟨g,0,none⟩) LF.length cF) BF LF)
    have hfa:=hdZ (failing_any H A nn cc a (hdZ hd) hR C nA nl nc needs hnl hl12 hC17 hN (hdZ fun x hx _ u hu=>hT60.out x hx u hu) w9 (M++TX) (hdZ fun i=>by
     rw [why_fold]
     have:=whyL_len (f:=⟨(a:Int),xk,xf,xw⟩) rfl hd hsx.out hFP.out i
     simp only [List.length_append]
     omega) (hdZ ⟨hS9.out,hG9.out⟩) (hdZ hS9.out.below))
    rw [why_fold,hPP.out] at hfa
    have r0:w9.cell? ⟨gf,0,none⟩=some (.int .i64 (a:Int)):=hG9.out.cell 0
    have p9:w9.cell? ⟨g1,0,none⟩=some (.slice A nn cc):=hS9.out.docs.cell 0
    have hc9:=hdZ hS9.out.cred
    have hla:=hdZ (fun W h=>hlast.out W PP (by simp only [List.length_append];omega) h)
    clear H hd hsn hw3 hbw hwF hlast hPP
    go_wp2_with (refine wpList_load_blk rfl 46 (.tmp 3) rfl w.heap.size C 46 _ rfl hc9.out Tryz.underlying46 rfl hsz.out ?_)
    refine hfa.out.mono ?_
    rintro e w10 ⟨rfl,⟨hS10,_⟩,_⟩
    have hla10:=hdZ (hla.out w10 hS10)
    clear hfa hS10 r0 p9 hla
    go_wp2_with fail
    refine hla10.out.mono ?_
    rintro e w11 ⟨⟨n11,rfl⟩,hS11⟩
    have hS11':=hdZ hS11
    clear hS11 hla10
    go_wp2_with fail
    go_roundw
    case rel=>exact ⟨q+1,by omega,by go_num,by rw [hacc.out];exact hS11'⟩
    case measure=>simp [intOf];omega
  ·have hkm:decide (q<K)=false:=dfZ hlt
   rw [List.take_of_length_le (by rw [hK.out];omega)] at hS
   have hstr:=hdZ (Tryz.Builder_String_any_k gb gb _ wr hS.out.bld (Nat.le_of_lt hS.out.bld.lt))
   go_wp2_with fail
   refine hstr.out.mono ?_
   rintro e w3 ⟨rfl,_,hb3,_⟩
   have hB3:Hid (Bz w w3):=hS.out.below.trans (hb3.mono hgb)
   clear hb3 hstr
   go_wp2_with fail
   go_ret
   exact ⟨rfl,hB3.out⟩
theorem whys_law (w:World) (c:Crd) (hO:Hid c.okC) (nA:Option Addr) (nl nc:Nat) (needs:List Nd) (hnl:Hid (needs.length=nl)) (hml:nl<=maxLen) (hN:Hid (NdsAt w nA needs)) (A:Option Addr) (nn cc:Nat) (docs:List Pap) (hnn:Hid (docs.length=nn)) (hmn:nn<=maxLen) (hD:Hid (DocsAt w A docs)) (hLD:Hid (LongD docs)) (day:Int)
  (he:Hid (Env w)) (hal:Hid (AlikeAt w)) (hta:Hid (TabE w)) :
  Calls Tryz.prog 9 #[.agg (c.cells (.slice nA nl nc)),.slice A nn cc,.int .i64 day] w fun e w'=>e=.returned (.bool true)/\Bz w w':=by
 have hmn':=hdZ hmn
 have hml':=hdZ hml
 clear hmn hml
 have haw:=hdZ (fun (W:World) (h:Env W)=>awake_any W (hdZ h))
 have hex0:=hdZ (fun hdy W=>examine_own c hO nA nl nc needs hnl A nn cc docs day hdy W)
 have hrx0:=hdZ (fun hdy W=>rexam_any c hO nA nl nc needs hnl A nn cc docs day hdy W)
 have hfew0:=hdZ (fun (C:Array Value) (W:World) (h1:Hid (C.size=18)) (h2:C[17]?=some (.slice nA nl nc)) (h3:NdsAt W nA needs) (h4:DocsAt W A docs)=>few5_any C nA nl nc needs A nn cc docs day W h1 h2 hnl hnn hml'.out hmn'.out (hdZ h3) (hdZ h4) hLD)
 have hCz:Hid ((c.cells (.slice nA nl nc)).size=18):=rfl
 have hC17:Hid ((c.cells (.slice nA nl nc))[17]?=some (.slice nA nl nc)):=rfl
 obtain ⟨C,hC⟩:=nmZ (c.cells (.slice nA nl nc))
 rw [hC.out] at hex0 hrx0 hCz hC17 ⊢
 have hsz:Hid ((Tryz.prog.info? 46).map (·.size)=some C.size):=by unfold Hid;rw [hCz.out];kernel_rfl
 obtain ⟨w0,hw0,hb0,hbk0⟩:=newZ w 46 C
 have haw0:=hdZ (haw.out w0 (he.out.below hb0.out))
 obtain ⟨F,hF⟩:∃F,fewDay needs docs day=F:=⟨_,rfl⟩
 have hF':=hdZ hF
 rw [hF] at hfew0
 clear hF
 go_enter Tryz.func9,Tryz.ntmps9
 go_wp2_with (rw [hw0.out])
 refine haw0.out.mono ?_
 rintro e w1 ⟨rfl,hb1⟩
 have hB1:=btY hb0 hb1
 have hbk1:=kbY hbk0 hb1
 have hfew1:=hdZ (hfew0.out C w1 hCz hC17.out (hN.out.below hB1.out) (hD.out.below hB1.out))
 clear hb1 haw0 hbk0 hfew0
 go_wp2_with (refine wpList_load_blkg rfl 46 (.tmp 3) rfl w.heap.size C 46 _ rfl hbk1.out Tryz.underlying46 rfl hsz.out ?_)
 refine hfew1.out.mono ?_
 rintro e w2 ⟨rfl,hb2⟩
 have hB2:=btY hB1 hb2
 have hbk2:=kbY hbk1 hb2
 clear hb2 hfew1 hbk1
 have haw2:=hdZ (haw.out w2 (he.out.below hB2.out))
 cases F with
 | false =>
  go_wp2_with fail
  refine haw2.out.mono ?_
  rintro e w3 ⟨rfl,hb3⟩
  have hB3:=btY hB2 hb3
  clear hb3
  go_wp2_with fail
  go_ret
  exact ⟨rfl,hB3.out⟩
 | true =>
 have hparts:fewB needs docs=true /\ -1073741824<=day/\day<=1073741824:=by
  have h:=hF'.out
  unfold fewDay at h
  simp only [Bool.and_eq_true,decide_eq_true_eq] at h
  exact ⟨h.1,h.2.1,h.2.2⟩
 obtain ⟨hfb,hday0,hday1⟩:=hparts
 obtain ⟨hl12,hn12,hsd,hsx⟩:=few_docs hfb
 have hFP:=hdZ (few_parts hfb)
 have hSm:Hid (∀x∈needs,SmallT x.rule):=fun x hx=>small_of_size (hsx x hx)
 have hn12':nn<=12:=by have:=hnn.out;omega
 have hnl12:nl<=12:=by have:=hnl.out;omega
 have hRm:Hid (∀W,Bz w W->Room W A nn docs):=hdZ fun W hW=>⟨hnn.out,by omega,hD.out.below hW,he.out.below hW,hsd⟩
 have hdayw:Hid (-9223372036854775808<=day/\day<=9223372036854775807):=by unfold Hid;omega
 have hday3:=And.intro hday0 hday1
 have hLfit:Hid (∀x∈examF c needs docs day,Tight x):=hdZ (exam_tight (fun d hd=>by
  obtain ⟨i,hi⟩:=List.getElem?_of_mem hd
  exact kind_of hD.out hi) (fun x hx=>by
  obtain ⟨i,hi⟩:=List.getElem?_of_mem hx
  exact (hN.out i x hi).1) (fun x hx=>small_field (hsx x hx)) (by omega))
 have hsx':=hdZ hsx
 have hXw:Hid (∀W,Bz w W->Calls Tryz.prog 21 #[.agg C,.slice A nn cc,.int .i64 day] W (FaultedO W (examF c needs docs day))):=hdZ fun W hW=>hex0.out hdayw W (hdZ (hN.out.below hW)) hFP (hdZ (hRm.out W hW)) (hdZ (hal.out.below hW)) hn12'
 have hrXw:Hid (∀W,Bz w W->Calls Tryz.prog 61 #[.agg C,.slice A nn cc,.int .i64 day] W fun e w'=>∃v,e=.returned v/\w'.ownsRow W.heap.size 54 4 v (examF c needs docs day).length (fcells (examF c needs docs day))/\Bz W w'):=hdZ fun W hW=>hrx0.out hday3 W (hdZ (hN.out.below hW)) hFP hSm (hdZ (hRm.out W hW)) hn12'
 have hLl:Hid ((examF c needs docs day).length<=20000):=hdZ (exam_len hFP.out (by omega))
 have h60:Hid (∀x∈needs,(atomsT x.rule).length<=60):=hdZ fun x hx=>atoms_few (hsx x hx)
 obtain ⟨L,hL⟩:=nmZ (examF c needs docs day)
 rw [hL.out] at hXw hrXw hLl hLfit
 have hli:=hdZ (light_any C nA nl nc needs w2 hC17.out hnl hnl12 (hdZ (hN.out.below hB2.out)) h60)
 have hsmall:Hid (lightB needs=true->∀x∈needs,∀u∈partsT x.rule,(atomsT u).length<=12):=hdZ fun h x hx u hu=>by
  unfold lightB at h
  have h1:=of_decide_eq_true (List.all_eq_true.1 h x hx)
  have h2:=atoms_part x.rule u hu
  omega
 obtain ⟨lb,hlb⟩:∃b,lightB needs=b:=⟨_,rfl⟩
 rw [hlb] at hli
 have hlb':=hdZ hlb
 clear hex0 hrx0 hfb hday0 hday1 hday3 hsx hF' hl12 hn12 hlb hL hsd hC
 go_wp2_with (refine wpList_load_blkg rfl 46 (.tmp 3) rfl w.heap.size C 46 _ rfl hbk2.out Tryz.underlying46 rfl hsz.out ?_)
 refine hli.out.mono ?_
 rintro e w3 ⟨rfl,hb3⟩
 have hB3:=btY hB2 hb3
 have hbk3:=kbY hbk2 hb3
 clear hb3 hli hbk2 haw2
 have haw3:=hdZ (haw.out w3 (he.out.below hB3.out))
 cases lb with
 | false =>
  go_wp2_with fail
  refine haw3.out.mono ?_
  rintro e w4 ⟨rfl,hb4⟩
  have hB4:=btY hB3 hb4
  clear hb4
  go_wp2_with fail
  go_ret
  exact ⟨rfl,hB4.out⟩
 | true =>
 have hsm12:Hid (∀x∈needs,∀u∈partsT x.rule,(atomsT u).length<=12):=hdZ (hsmall.out hlb'.out)
 have hp3:Hid (∀y:Ext w3,Calls Tryz.prog 34 #[.agg C,.slice A nn cc,.int .i64 day] y.wd fun e w'=>e=.returned (.string (mkB (whyM needs docs L)))/\Below y.wd.heap.size y.wd w'):=hdZ fun y=>by
  have hBy:=hB3.out.trans (y.below.mono hB3.out.size)
  exact why_any y.wd C hsz nA nl nc needs hnl (by omega) hC17 (hdZ (hN.out.below hBy)) A nn cc docs day L (hdZ fun W hW=>hXw.out W (hBy.trans (hW.mono hBy.size))) hLl hLfit (hdZ (hRm.out _ hBy)) (hdZ (hta.out.below hBy)) hFP hsx'
 have hr3:Hid (∀y:Ext w3,Calls Tryz.prog 35 #[.agg C,.slice A nn cc,.int .i64 day] y.wd fun e w'=>e=.returned (.string (mkB (whyM needs docs L)))/\Below y.wd.heap.size y.wd w'):=hdZ fun y=>by
  have hBy:=hB3.out.trans (y.below.mono hB3.out.size)
  exact rwhy_any y.wd C hsz nA nl nc needs hnl hC17 (hdZ (hN.out.below hBy)) A nn cc docs day L (hdZ fun W hW=>hrXw.out W (hBy.trans (hW.mono hBy.size))) hLl hLfit (hdZ (hRm.out _ hBy)) hFP hSm hsm12 hsx'
 obtain ⟨T,hT⟩:∃z,mkB (whyM needs docs L)=z:=⟨_,rfl⟩
 rw [hT] at hp3 hr3
 have hq1:(T.toList==T.toList)=true:=by simp
 clear hT hXw hrXw hLl hLfit hRm hsm12 hsmall haw3 haw hFP hSm hsx' h60
 go_wp2_with fail
 refine wp_region_ext (by kernel_rfl) (by kernel_rfl) ?_
 repeat (first
  | (go_big_quiet_want;(refine quiet_blk 46 (.tmp 3) rfl w.heap.size C 46 _ rfl (by rintro _ ⟨y,rfl⟩;exact hbk3.out.below y.below hbk3.out.lt) Tryz.underlying46 rfl hsz.out ?_);go_big_quiet_on;simp only [Act.put,List.setIfInBounds_toArray,List.set_cons_zero,List.set_cons_succ])
  | go_big_quiet_step (first | (go_at_call 34;exact Calls.ext_of (hp3.out _)) | (go_at_call 35;exact Calls.ext_of (hr3.out _))))
 refine wpQuiet_nil ?_
 rintro _ ⟨y,rfl⟩
 have hB4:Hid (Bz w y.wd):=hB3.out.trans (y.below.mono hB3.out.size)
 clear hp3 hr3
 go_wp2_with fail
 go_ret
 exact ⟨by simp,hB4.out⟩
open Go.ChangeShapes Go.WideShapes Go.ChangeAt Go.RowKit Go.Joins
open Go.ChangeMaps (open_string shut_string)
theorem coreWhys_contract (H:Type) (enc:TypeId × Value->H) (W:World) (base:Nat) (args:Array Value) (ds gs:List (DataW H)) (before:List MemPlace)
  (hval0:∀(j:Nat) t v,Tryz.f9.params[j]?=some t->args[j]?=some v->Value.okWide Tryz.prog W .any base t v)
  (hW:DataW.Whole enc Tryz.prog Tryz.f9.params.toList Rows.coreWhysSpec.vars false W args.toList ds gs before)
  (hz:(DataW.weightsEach Tryz.prog (Tryz.f9.params.toList++(OpenSpec.ofChange Rows.coreWhysSpec).bare.plain.varTypes Tryz.prog) (ds++gs)).all (·<=reachBytes)=true)
  (hL:laidMetH Tryz.prog Rows.coreWhysRow.laid W) (hsh:W.ShapedOpen Tryz.prog) :
  Calls Tryz.prog 9 args W fun e W'=>∃v,e=.returned v/\Rows.coreWhysSpec.post enc Tryz.prog Tryz.f9 false true false false W args v W':=by
 have hval:∀(j:Nat) t v,Tryz.f9.params[j]?=some t->args[j]?=some v->Value.okWide Tryz.prog W .any base t v:=hval0
 have hW':=hW
 obtain ⟨p,q,hA0,hV,rfl,hfz,hnd⟩:=hW
 have hA:DataW.TrodAll enc Tryz.prog W 0 (fun _=>true) true Tryz.f9.params.toList args.toList ds p:=hA0
 rw [Tryz.params9] at hA hval hz
 obtain ⟨v0,vs0,d0,ds0,p0,q0,hargs,rfl,rfl,h0,r0⟩:=trodAll_cons hA
 obtain ⟨v1,vs1,d1,ds1,p1,q1,rfl,rfl,rfl,h1,r1⟩:=trodAll_cons r0
 obtain ⟨v2,vs2,d2,ds2,p2,q2,rfl,rfl,rfl,h2,r2⟩:=trodAll_cons r1
 obtain ⟨rfl,rfl,rfl⟩:=trodAll_nil r2
 obtain rfl:args=#[v0,v1,v2]:=by cases args;simp_all
 obtain ⟨rfl,rfl⟩:=trodVars_none hV
 have k0:=h0
 have lt0:∀x∈p0,x.block<W.heap.size:=by obtain ⟨m,hm⟩:=k0;exact DataW.trod_lt m _ _ _ hm
 have k1:=h1
 have lt1:∀x∈p1,x.block<W.heap.size:=by obtain ⟨m,hm⟩:=k1;exact DataW.trod_lt m _ _ _ hm
 have k2:=h2
 have lt2:∀x∈p2,x.block<W.heap.size:=by obtain ⟨m,hm⟩:=k2;exact DataW.trod_lt m _ _ _ hm
 obtain ⟨C0,A0,c0,l0,rfl,hO0,hn0,hN0⟩:=arg_credit (hval 0 46 v0 rfl rfl) h0 (fits_of hz (j:=0) rfl rfl)
 obtain ⟨A1,c1,l1,rfl,hn1,hd1,hld1⟩:=arg_docs (hval 1 25 v1 rfl rfl) h1 (fits_of hz (j:=1) rfl rfl)
 obtain ⟨x2,rfl,_,_,hx2⟩:=open_int Tryz.underlying3 (hval 2 3 v2 rfl rfl) h2
 clear hA0 hval0
 have henv:Env W:=env_of ⟨rfl,rfl,rfl⟩ hL hsh
 refine (whys_law W C0 (hdZ hO0) A0 l0.length c0 l0 (hdZ rfl) hn0 (hdZ hN0) A1 l1.length c1 l1 (hdZ rfl) hn1 (hdZ hd1) (hdZ hld1) x2 (hdZ henv) (hdZ (alike_of rfl hL)) (hdZ (tabE_of rfl rfl rfl rfl hL henv (alike_of rfl hL)))).mono fun e W' ⟨he,bel⟩=>?_
 subst he
 exact ⟨_,rfl,_,_,_,[],_,[],hW',trodAll_mk1 (shut_bool Tryz.underlying4 _),(trodAll_cons_mk (Below.trod laidOut (by kernel_rfl) (of_decide_eq_true (by kernel_rfl)) k0 bel lt0) (trodAll_cons_mk (Below.trod laidOut (by kernel_rfl) (of_decide_eq_true (by kernel_rfl)) k1 bel lt1) (trodAll_cons_mk (Below.trod laidOut (by kernel_rfl) (of_decide_eq_true (by kernel_rfl)) k2 bel lt2) trodAll_mk0))),rfl,bel.frame _,fun h=>by cases h⟩
theorem coreWhys_laid (os:Os):laidMetH Tryz.prog Rows.coreWhysRow.laid ((World.laidAll Tryz.prog os Rows.coreWhysRow.laid).forCall (fun _ _=>0) ⟨#[],#[.agg #[.string ⟨#[]⟩,.string ⟨#[]⟩,.string ⟨#[]⟩,.string ⟨#[]⟩,.string ⟨#[]⟩,.string ⟨#[]⟩,.string ⟨#[]⟩,.string ⟨#[]⟩,.int .i64 0,.int .i64 0,.int .i64 0,.int .i64 0,.int .i64 0,.int .i64 0,.int .i64 0,.bool false,.bool false,.slice none 0 0],.slice none 0 0,.int .i64 0],[]⟩).memory:=by
 rw [MakeChecks.laidMetH_plain _ _ _ (by kernel_rfl)];exact laidMet_laidAll _ (by kernel_rfl) (by kernel_rfl)
theorem coreWhys_lifted (os:Os) (started:os.Started) (H:Type) (enc:TypeId × Value->H) (F:Stop.Interp) :
  ReturnsInHanded {} Tryz.checked os 9 .any ((OpenSpec.ofChange Rows.coreWhysSpec).preRow enc Tryz.prog Tryz.f9 Rows.coreWhysRow.domain false Rows.coreWhysRow.laid) (((OpenSpec.ofChange Rows.coreWhysSpec).at F).post enc Tryz.prog Tryz.f9 false true false false):=by
 refine returnsInHanded_of_row (C:=Tryz.checked) (s:=OpenSpec.ofChange Rows.coreWhysSpec) own started (by kernel_rfl) Tryz.func9
  (ChangeSpec.witness_shaped (enc:=enc) (C:=Tryz.checked) (os:=os) (X:=fun w _=>laidMetH Tryz.prog Rows.coreWhysRow.laid w) false (World.laidAll Tryz.prog os Rows.coreWhysRow.laid) #[.agg #[.string ⟨#[]⟩,.string ⟨#[]⟩,.string ⟨#[]⟩,.string ⟨#[]⟩,.string ⟨#[]⟩,.string ⟨#[]⟩,.string ⟨#[]⟩,.string ⟨#[]⟩,.int .i64 0,.int .i64 0,.int .i64 0,.int .i64 0,.int .i64 0,.int .i64 0,.int .i64 0,.bool false,.bool false,.slice none 0 0],.slice none 0 0,.int .i64 0] 8 (World.laidAll_os _ _ _)
   (World.shaped_of_ZipB (by kernel_rfl) (by kernel_rfl)) (by kernel_rfl) (by kernel_rfl) (by kernel_rfl) (coreWhys_laid os)) ?_
 intro W base args ds gs before hval hW _ _ hz hL hsh _
 exact coreWhys_contract H enc W base args ds gs before hval hW hz hL hsh
end Go.Proofs.YtdjmckjbibfecaaGreatDoor

/- The law CoreGone, walked. -/
import Derived.Test.YtdjmckjbibfecaaGreatDoorKb
import Derived.Test.YtdjmckjbibfecaaGreatDoorMb
import Derived.Test.YtdjmckjbibfecaaGreatDoorMi
namespace Go.Proofs.YtdjmckjbibfecaaGreatDoor
open Go Go.RowKit Go.BigFrame Go.Maps

theorem waive_all {l w : List Flt} (h : (waiveM l w).length = l.length) : ∀ f ∈ l, f ∉ w := by
  intro f hf
  have h1 : waiveM l w = l := by unfold waiveM at h ⊢; exact List.filter_sublist.eq_of_length h
  rw [← h1] at hf
  unfold waiveM at hf
  have := (List.mem_filter.1 hf).2
  rw [Bool.not_eq_true', any_no] at this
  exact this
theorem few_bnd {needs : List Nd} {docs : List Pap} (h : fewB needs docs = true) : Bnd 1048576 30 docs := by
  unfold fewB at h
  simp only [Bool.and_eq_true, decide_eq_true_eq] at h
  refine ⟨fun d hd f hf => ?_, fun d hd => ?_⟩
  · have := List.all_eq_true.1 h.2 d hd
    simp only [Bool.and_eq_true, decide_eq_true_eq] at this
    have := List.all_eq_true.1 this.2 f hf
    simp only [decide_eq_true_eq] at this
    omega
  · have := List.all_eq_true.1 h.2 d hd
    simp only [Bool.and_eq_true, decide_eq_true_eq] at this
    omega
set_option maxRecDepth 100000 in
set_option maxHeartbeats 12800000 in
theorem gone_law (w : World) (c : Crd) (hO : Hid c.okC) (nA : Option Addr) (nl nc : Nat) (needs : List Nd) (hnl : Hid (needs.length = nl)) (hml : nl ≤ maxLen) (hN : Hid (NdsAt w nA needs)) (A : Option Addr) (nn cc : Nat) (docs : List Pap) (hnn : Hid (docs.length = nn)) (hmn : nn ≤ maxLen) (hD : Hid (DocsAt w A docs)) (hLD : Hid (LongD docs)) (day : Int)
    (wh : Nat) (_hwh : wh < 65536) (hstr : Hid (c.beneficiary.size ≤ 1048576 ∧ c.applicant.size ≤ 1048576 ∧ c.currency.size ≤ 1048576)) (he : Hid (Env w)) (hal : Hid (AlikeAt w)) (hac : Hid (AlikeC w)) :
    Calls Tryz.prog 8 #[.agg (c.cells (.slice nA nl nc)), .slice A nn cc, .int .i64 day, .int .u16 (wh : Int)] w fun e w' => e = .returned (.bool true) ∧ Below w.heap.size w w' := by
  obtain ⟨iF, iFi, iF0, iF1, iF2⟩ := info_parts Tryz.info54
  have hCa : Hid (CrdAt (c.cells (.slice nA nl nc)) c) := c.at_ _
  have hmn' := Lib.hid hmn
  have hml' := Lib.hid hml
  clear hmn hml
  have haw := Lib.hid (fun (W : World) (h : Env W) => awake_any W (Lib.hid h))
  have hex0 := Lib.hid (fun hdy W A' c' docs' => examine_any c hO nA nl nc needs hnl A' nn c' docs' day hdy W)
  have hfew0 := Lib.hid (fun (C : Array Value) (W : World) (h1 : Hid (C.size = 18)) (h2 : C[17]? = some (.slice nA nl nc)) (h3 : NdsAt W nA needs) (h4 : DocsAt W A docs) => few5_any C nA nl nc needs A nn cc docs day W h1 h2 hnl hnn hml'.out hmn'.out (Lib.hid h3) (Lib.hid h4) hLD)
  have hCz : Hid ((c.cells (.slice nA nl nc)).size = 18) := rfl
  have hC17 : Hid ((c.cells (.slice nA nl nc))[17]? = some (.slice nA nl nc)) := rfl
  obtain ⟨C, hC⟩ : ∃ C, Hid (c.cells (.slice nA nl nc) = C) := ⟨_, rfl⟩
  rw [hC.out] at hex0 hCz hC17 hCa ⊢
  have hsz : Hid ((Tryz.prog.info? 46).map (·.size) = some C.size) := by unfold Hid; rw [hCz.out]; kernel_rfl
  obtain ⟨w0, hw0⟩ : ∃ X, Hid (w.alloc (.cells C 46) = X) := ⟨_, rfl⟩
  have hb0 : Hid (Below w.heap.size w w0) := by rw [← hw0.out]; exact (Below.refl _ w).alloc (Nat.le_refl _) _
  have hbk0 : Hid (Blk w0 w.heap.size 46 C) := by rw [← hw0.out]; exact Lib.hid (Blk.new w 46 C)
  have haw0 := Lib.hid (haw.out w0 (he.out.below hb0.out))
  obtain ⟨F, hF⟩ : ∃ F, fewDay needs docs day = F := ⟨_, rfl⟩
  have hF' := Lib.hid hF
  rw [hF] at hfew0
  clear hF
  go_enter Tryz.func8, Tryz.ntmps8
  go_wp2_with (rw [hw0.out])
  refine haw0.out.mono ?_
  rintro e w1 ⟨rfl, hb1⟩
  have hB1 : Hid (Below w.heap.size w w1) := hb0.out.trans (hb1.mono hb0.out.size)
  have hbk1 := Lib.hid (hbk0.out.below hb1 hbk0.out.lt)
  have hfew1 := Lib.hid (hfew0.out C w1 hCz hC17.out (hN.out.below hB1.out) (hD.out.below hB1.out))
  clear hb1 haw0 hbk0 hfew0
  go_wp2_with (refine wpList_load_blkg rfl 46 (.tmp 4) rfl w.heap.size C 46 _ rfl hbk1.out Tryz.underlying46 rfl hsz.out ?_)
  refine hfew1.out.mono ?_
  rintro e w2 ⟨rfl, hb2⟩
  have hB2 : Hid (Below w.heap.size w w2) := hB1.out.trans (hb2.mono hB1.out.size)
  have hbk2 := Lib.hid (hbk1.out.below hb2 hbk1.out.lt)
  clear hb2 hfew1 hbk1
  have haw2 := Lib.hid (haw.out w2 (he.out.below hB2.out))
  cases F with
  | false =>
    go_wp2_with fail
    refine haw2.out.mono ?_
    rintro e w3 ⟨rfl, hb3⟩
    have hB3 : Hid (Below w.heap.size w w3) := hB2.out.trans (hb3.mono hB2.out.size)
    clear hb3
    go_wp2_with fail
    go_ret
    exact ⟨rfl, hB3.out⟩
  | true =>
  have hparts : fewB needs docs = true ∧ -1073741824 ≤ day ∧ day ≤ 1073741824 := by
    have h := hF'.out
    unfold fewDay at h
    simp only [Bool.and_eq_true, decide_eq_true_eq] at h
    exact ⟨h.1, h.2.1, h.2.2⟩
  obtain ⟨hfb, hday0, hday1⟩ := hparts
  obtain ⟨hl12, hn12, hsd, hsx⟩ := few_docs hfb
  have hfl6 := Lib.hid (few_fields hfb)
  have hFP := Lib.hid (few_parts hfb)
  have hn12' : nn ≤ 12 := by have := hnn.out; omega
  have hl1000 : nl ≤ 1000 := by have := hnl.out; omega
  have hRm : Hid (∀ W, Below w.heap.size w W → Room W A nn docs) := Lib.hid fun W hW => ⟨hnn.out, by omega, hD.out.below hW, he.out.below hW, hsd⟩
  have hdayw : Hid (-9223372036854775808 ≤ day ∧ day ≤ 9223372036854775807) := by unfold Hid; omega
  have hany : Hid (∀ W A' c' docs', Below w.heap.size w W → DocsAt W A' docs' → docs'.length = nn → SmallD docs' → (examF c needs docs' day).length ≤ 20000 ∧ (∀ x ∈ examF c needs docs' day, x.fits) ∧ Calls Tryz.prog 21 #[.agg C, .slice A' nn c', .int .i64 day] W (FaultedC W (examF c needs docs' day))) := Lib.hid fun W A' c' docs' hW hDW hl' hs => by
    refine ⟨exam_len hFP.out (by omega), exam_fits (fun d hd => by
      obtain ⟨i, hi⟩ := List.getElem?_of_mem hd
      exact kind_of hDW hi) (fun x hx => by
      obtain ⟨i, hi⟩ := List.getElem?_of_mem hx
      exact (hN.out i x hi).1) (fun x hx => small_field (hsx x hx)) (by omega), ?_⟩
    exact hex0.out hdayw W A' c' docs' (Lib.hid (hN.out.below hW)) hFP (Lib.hid ⟨hl', by omega, hDW, he.out.below hW, hs⟩) (Lib.hid (hal.out.below hW)) hn12'
  have hBd := Lib.hid (few_bnd hfb)
  have hBC : Hid (BndC 1048576 c needs) := Lib.hid ⟨hstr.out.1, hstr.out.2.1, hstr.out.2.2, hO.out.amount, hO.out.latest, by omega, fun x hx u hu => ⟨text_of_size (hsx x hx) u hu, by
    obtain ⟨i, hi⟩ := List.getElem?_of_mem hx
    have h1 := (hN.out i x hi).2.2.1
    unfold LongT at h1
    exact (allT_here (parts_all x.rule h1 u hu)).2.2⟩⟩
  have hsmD := Lib.hid hsd
  obtain ⟨L, hL⟩ : ∃ L, Hid (examF c needs docs day = L) := ⟨_, rfl⟩
  have hself := Lib.hid (fun W (hW : Below w.heap.size w W) => hany.out W A cc docs hW (hD.out.below hW) hnn.out hsmD.out)
  rw [hL.out] at hself
  have hKl := (hself.out w (Below.refl _ _)).1
  have hLf := Lib.hid (hself.out w (Below.refl _ _)).2.1
  obtain ⟨K, hK⟩ : ∃ k, Hid (L.length = k) := ⟨_, rfl⟩
  rw [hK.out] at hKl
  obtain ⟨w3, hw3⟩ : ∃ X, Hid (w2.alloc (.cells #[] 54) = X) := ⟨_, rfl⟩
  have hb3 : Hid (Below w2.heap.size w2 w3) := by rw [← hw3.out]; exact (Below.refl _ w2).alloc (Nat.le_refl _) _
  have hB3 : Hid (Below w.heap.size w w3) := hB2.out.trans (hb3.out.mono hB2.out.size)
  have ho3 : Hid (w3.ownsRow w.heap.size 54 4 (.slice (some ⟨w2.heap.size, 0, none⟩) 0 0) 0 []) := by rw [← hw3.out]; exact Lib.hid (own_mono (own_new w2 54 4) hB2.out.size)
  have hE3 : Hid (Blk w3 w2.heap.size 54 #[]) := by rw [← hw3.out]; exact Lib.hid (Blk.new w2 54 #[])
  have hbk3 := Lib.hid (hbk2.out.below hb3.out hbk2.out.lt)
  have hx3 := Lib.hid (hself.out w3 hB3.out).2.2
  clear hex0 hfb hday0 hday1 hn12 hsx hF' hl12 hsd haw2 hself hL
  go_wp2_with (first | rw [hw3.out] | (refine wpList_load_blk rfl 46 (.tmp 4) rfl w.heap.size C 46 _ rfl hbk3.out Tryz.underlying46 rfl hsz.out ?_))
  refine hx3.out.mono ?_
  rintro e w4 ⟨A4, c4, rfl, hKc, hF4, hb4⟩
  rw [hK.out] at hKc ⊢
  have hS4 : Hid (FnS w w4 C A4 L (.slice (some ⟨w2.heap.size, 0, none⟩) 0 0) []) := by
    refine Lib.hid ⟨hB3.out.trans (hb4.mono hB3.out.size), hbk3.out.below hb4 hbk3.out.lt, own_below ho3.out hb4, hF4, fun hne b o e h9 => ?_⟩
    obtain ⟨x, hx⟩ : ∃ x, L[0]? = some x := ⟨_, List.getElem?_eq_getElem (List.length_pos_iff.2 hne)⟩
    obtain ⟨b', o', e', h0, _⟩ := hF4 0 x hx
    rw [e] at e'
    simp only [Option.some.injEq, Addr.mk.injEq, and_true] at e'
    obtain ⟨rfl, rfl⟩ := e'
    simp only [Value.ownBlock, Option.some.injEq] at h9
    subst h9
    have h8 := (hE3.out.below hb4 hE3.out.lt).cell (o + 0 * 4)
    rw [h0] at h8
    simp at h8
  clear hF4 hb4 ho3 hE3 hx3 hw3 hb3 hbk3 hB3
  go_wp2_with fail
  go_loopw [9, 36] (fun v i wr => ∃ (q : Nat) (M : List Flt), q ≤ K ∧ i = .int .i64 q ∧ M.length ≤ 12 ∧ Hid (∀ x ∈ M, x.fits) ∧ Hid (FnS w wr C A4 L v M)) (fun _ i _ => K - (intOf i).toNat)
  case atStart => exact ⟨0, [], Nat.zero_le _, rfl, by simp, Lib.hid (fun x hx => by cases hx), hS4⟩
  case round =>
    clear hS4
    obtain ⟨q, M, hq, rfl, hM12, hMf, hS⟩ := hrel
    by_cases hlt : q < K
    · obtain ⟨x, hx⟩ : ∃ x, L[q]? = some x := ⟨_, List.getElem?_eq_getElem (by have := hK.out; omega)⟩
      have hxf := Lib.hid (hLf.out x (List.mem_of_getElem? hx))
      obtain ⟨b, off, rfl, x0, x1, x2, x3⟩ := hS.out.rest q x hx
      obtain ⟨xp, xk, xf, xw⟩ := x
      simp only at x0 x1 x2 x3
      obtain ⟨w5, hw5⟩ : ∃ X, Hid (wr.alloc (.cells #[.int .i64 xp, .int .i64 xk, .string xf, .int .i64 xw] 54) = X) := ⟨_, rfl⟩
      have hb5 : Hid (Below wr.heap.size wr w5) := by rw [← hw5.out]; exact (Below.refl _ wr).alloc (Nat.le_refl _) _
      have hG5 : Hid (Blk w5 wr.heap.size 54 #[.int .i64 xp, .int .i64 xk, .string xf, .int .i64 xw]) := by rw [← hw5.out]; exact Lib.hid (Blk.new _ _ _)
      have hap : Hid (u9.ownBlock ≠ some wr.heap.size) := Lib.hid fun e => by have := (hS.out.row.lt _ e).2; omega
      obtain ⟨gf, hgf⟩ : ∃ z, Hid (wr.heap.size = z) := ⟨_, rfl⟩
      rw [hgf.out] at hG5 hap
      have e3 : wr.heap.size = gf := hgf.out
      have hS5 := Lib.hid (hS.out.on hb5.out)
      have i1 : (q : Int) < (K : Int) := by omega
      have i2 : (0 : Int) ≤ (q : Int) := by omega
      have hkm : decide (q < K) = true := decide_eq_true hlt
      clear hx
      obtain ⟨A9, c9, rfl⟩ := own_form hS5.out.row
      by_cases hm : M.length < 12
      · have hmI : ((M.length : Nat) : Int) < 12 := by omega
        have hmD : decide (M.length < 12) = true := decide_eq_true hm
        have hmD2 : decide (((M.length : Nat) : Int) < 12) = true := decide_eq_true hmI
        have r0 : w5.cell? ⟨gf, 0, none⟩ = some (.int .i64 xp) := hG5.out.cell 0
        have r1 : w5.cell? ⟨gf, 1, none⟩ = some (.int .i64 xk) := hG5.out.cell 1
        have r2 : w5.cell? ⟨gf, 2, none⟩ = some (.string xf) := hG5.out.cell 2
        have r3 : w5.cell? ⟨gf, 3, none⟩ = some (.int .i64 xw) := hG5.out.cell 3
        obtain ⟨w7, hw7⟩ : ∃ X, Hid (w5.alloc (.cells #[.int .i64 xp, .int .i64 xk, .string xf, .int .i64 xw] 54) = X) := ⟨_, rfl⟩
        have hb7 : Hid (Below w5.heap.size w5 w7) := by rw [← hw7.out]; exact (Below.refl _ w5).alloc (Nat.le_refl _) _
        have hblk : Hid (Reads w7 w7.heap.size 4 (some ⟨w5.heap.size, 0, none⟩) 1 (#[.int .i64 xp, .int .i64 xk, .string xf, .int .i64 xw] : Array Value).toList) := by rw [← hw7.out]; exact Lib.hid (blk_reads (Blk.new w5 54 #[.int .i64 xp, .int .i64 xk, .string xf, .int .i64 xw]) 4 1 rfl)
        have hS7 := Lib.hid (hS5.out.on hb7.out)
        have s1 : Hid (M.length + 1 ≤ maxLen) := by unfold Hid maxLen; omega
        have s2 : Hid ((M.length + 1) * 40 ≤ 140737488355328) := by unfold Hid; omega
        have s3 := Lib.hid hS7.out.below.size
        have s4 : Hid (∀ v ∈ (#[.int .i64 xp, .int .i64 xk, .string xf, .int .i64 xw] : Array Value).toList, v.oneCell' = true) := Lib.hid (one4 ⟨xp, xk, xf, xw⟩)
        have hfin : Hid (∀ v8 w8, w8.ownsRow w.heap.size 54 4 v8 (M.length + 1) (fcells M ++ (#[.int .i64 xp, .int .i64 xk, .string xf, .int .i64 xw] : Array Value).toList) → w7.grownBy w8 (Value.slice A9 M.length c9).ownBlock → (v8.ownBlock = (Value.slice A9 M.length c9).ownBlock ∨ v8.ownBlock = some w7.heap.size) → FnS w w8 C (some ⟨b, off, none⟩) L v8 (M ++ [⟨xp, xk, xf, xw⟩])) :=
          Lib.hid fun v8 w8 ho hg hv => hS7.out.put hg hv (by rw [fcells_snoc1, List.length_append]; exact ho)
        have hMf8 : Hid (∀ y ∈ M ++ [⟨xp, xk, xf, xw⟩], y.fits) := Lib.hid fun y hy => by
          rcases List.mem_append.1 hy with h | h
          · exact hMf.out y h
          · obtain rfl := List.mem_singleton.1 h; exact hxf.out
        have hl8 : Hid ((M ++ [(⟨xp, xk, xf, xw⟩ : Flt)]).length ≤ 12) := by unfold Hid; rw [List.length_append]; simp; omega
        go_wp2_with (first | rw [hw5.out] | rw [hw7.out] | (at_builtin; go_must (refine wpList_append_any _ rfl _ _ 47 rfl w.heap.size 54 iF _ 4 40 Tryz.underlying47 iFi iF0 iF1 iF2 rfl (by decide) _ M.length (fcells M) rfl hS7.out.row _ (some ⟨w5.heap.size, 0, none⟩) 1 1 _ rfl hblk.out s4.out s1.out s2.out s3.out ?_); intro v8 w8 ho8 hg8 hv8; have hS8 := Lib.hid (hfin.out v8 w8 ho8 hg8 hv8); clear ho8 hg8 hv8))
        all_goals
          first
          | (go_roundw
             case rel => exact ⟨q + 1, M ++ [⟨xp, xk, xf, xw⟩], by omega, by go_num, hl8.out, hMf8, hS8⟩
             case measure => simp [intOf]; omega)
          | (go_roundw
             case rel => exact ⟨q + 1, M, by omega, by go_num, hM12, hMf, hS5⟩
             case measure => simp [intOf]; omega)
      · have hmI : ¬ ((M.length : Nat) : Int) < 12 := by omega
        have hmD : decide (M.length < 12) = false := decide_eq_false hm
        have hmD2 : decide (((M.length : Nat) : Int) < 12) = false := decide_eq_false hmI
        go_wp2_with (first | rw [hw5.out])
        all_goals
          go_roundw
          case rel => exact ⟨q + 1, M, by omega, by go_num, hM12, hMf, hS5⟩
          case measure => simp [intOf]; omega
    · have hkm : decide (q < K) = false := decide_eq_false hlt
      obtain ⟨A9, c9, rfl, _, hF9⟩ := own_faults hS.out.row rfl
      have hF9' := Lib.hid hF9
      have hBr := Lib.hid hS.out.below
      have hbk := Lib.hid hS.out.cred
      have hme := Lib.hid (mend_any wr C c hCa hO nA nl nc needs hC17 hnl hl1000 (Lib.hid (hN.out.below hBr.out)) A nn cc docs day hdayw hnn hn12' (Lib.hid (hD.out.below hBr.out)) (Lib.hid (he.out.below hBr.out)) (Lib.hid (hac.out.below hBr.out)) 1048576 hBC hBd (by omega) A9 M.length c9 M (Lib.hid rfl) hM12 hF9' hMf (Lib.hid fun W A' c' docs' hW hDW hl' hs _ => hany.out W A' c' docs' (hBr.out.trans (hW.mono hBr.out.size)) hDW hl' hs))
      have hml2 : Hid ((mendM c needs day docs M).length = nn) := Lib.hid (by unfold mendM; rw [mend_len, List.length_map]; exact hnn.out)
      have hbnd : Hid (SmallD (mendM c needs day docs M)) := Lib.hid (fun d hd f hf => by
        have h1 := (mendF_bnd hdayw.out (l := M) hBC.out (bnd_bare.2 hBd.out)).vals d hd f hf
        omega)
      have hkept : Hid (∀ i x, (mendM c needs day docs M)[i]? = some x → ∃ y, docs[i]? = some y ∧ keptP x y) := Lib.hid fun i x h => by
        obtain ⟨y, hy, k1⟩ := mendF_kept _ _ i x h
        rw [List.getElem?_map] at hy
        obtain ⟨z, hz, rfl⟩ := Option.map_eq_some_iff.1 hy
        exact ⟨z, hz, k1⟩
      clear hF9 hS
      go_wp2_with (refine wpList_load_blk rfl 46 (.tmp 4) rfl w.heap.size C 46 _ rfl hbk.out Tryz.underlying46 rfl hsz.out ?_)
      refine hme.out.mono ?_
      rintro e w6 ⟨hb6, ⟨hlen, A6, c6, docs6, rfl, hM6, hD6⟩ | ⟨hlen, rfl⟩⟩
      · have hB6 : Hid (Below w.heap.size w w6) := hBr.out.trans (hb6.mono hBr.out.size)
        have hbk6 := Lib.hid (hbk.out.below hb6 hbk.out.lt)
        have hl6 : Hid (docs6.length = nn) := Lib.hid (by have := congrArg List.length hM6; rw [List.length_map] at this; rw [this]; exact hml2.out)
        have hs6 : Hid (SmallD docs6) := Lib.hid (fun d hd f hf => hbnd.out (bare d) (by rw [← hM6]; exact List.mem_map_of_mem hd) f hf)
        have hxe : Hid (examF c needs (mendM c needs day docs M) day = examF c needs docs6 day) := by unfold Hid; rw [← hM6, bare_exam]
        have hx6 := hany.out w6 A6 c6 docs6 hB6.out hD6 hl6.out hs6.out
        rw [hxe.out] at hlen
        obtain ⟨L7, hL7⟩ : ∃ L, Hid (examF c needs docs6 day = L) := ⟨_, rfl⟩
        rw [hL7.out] at hx6 hlen
        have hno := Lib.hid (waive_all hlen)
        have hx6l := hx6.1
        have hx6c := Lib.hid hx6.2.2
        obtain ⟨K7, hK7⟩ : ∃ z, Hid (L7.length = z) := ⟨_, rfl⟩
        rw [hK7.out] at hx6l
        have hD6' := Lib.hid hD6
        have hF96 := Lib.hid (hF9'.out.below hb6)
        have hkp6 : Hid (∀ i x d, docs6[i]? = some x → docs[i]? = some d → keptP x d) := Lib.hid fun i x d hx hd => by
          obtain ⟨y, hy, h1, h2, h3⟩ := hkept.out i (bare x) (by rw [← hM6, List.getElem?_map, hx]; rfl)
          rw [hd] at hy
          obtain rfl := Option.some.inj hy
          exact ⟨h1, h2, h3⟩
        clear hb6 hme hM6 hD6 hx6 hlen hxe hL7 hkept hbnd hml2 hbk
        go_wp2_with (refine wpList_load_blk rfl 46 (.tmp 4) rfl w.heap.size C 46 _ rfl hbk6.out Tryz.underlying46 rfl hsz.out ?_)
        refine hx6c.out.mono ?_
        rintro e w7 ⟨A7, c7, rfl, _, hF7, hb7⟩
        rw [hK7.out]
        have hF7' := Lib.hid hF7
        have hB7 : Hid (Below w.heap.size w w7) := hB6.out.trans (hb7.mono hB6.out.size)
        have hF97 := Lib.hid (hF96.out.below hb7)
        have hD67 := Lib.hid (hD6'.out.below hb7)
        clear hF7 hb7 hx6c hF96 hD6' hbk6
        obtain ⟨m, hm⟩ : ∃ z, Hid (M.length = z) := ⟨_, rfl⟩
        rw [hm.out] at hM12 ⊢
        go_wp2_with fail
        go_loopw [82] (fun i wr => ∃ p : Nat, p ≤ m ∧ i = .int .i64 p ∧ Hid (Below w7.heap.size w7 wr)) (fun i _ => m - (intOf i).toNat)
        case atStart => exact ⟨0, Nat.zero_le _, rfl, Lib.hid (Below.refl _ _)⟩
        case round =>
          obtain ⟨p, hp, rfl, hBp⟩ := hrel
          by_cases hpm : p < m
          · obtain ⟨f, hf⟩ : ∃ f, M[p]? = some f := ⟨_, List.getElem?_eq_getElem (by have := hm.out; omega)⟩
            have hnof := Lib.hid (hno.out f (List.mem_of_getElem? hf))
            obtain ⟨b, off, rfl, x0, x1, x2, x3⟩ := (hF97.out.below hBp.out) p f hf
            obtain ⟨w8, hw8⟩ : ∃ X, Hid (wr.alloc (.cells #[.int .i64 f.paper, .int .i64 f.kind, .string f.field, .int .i64 f.why] 54) = X) := ⟨_, rfl⟩
            have hb8 : Hid (Below wr.heap.size wr w8) := by rw [← hw8.out]; exact (Below.refl _ wr).alloc (Nat.le_refl _) _
            have hG8 : Hid (Blk w8 wr.heap.size 54 #[.int .i64 f.paper, .int .i64 f.kind, .string f.field, .int .i64 f.why]) := by rw [← hw8.out]; exact Lib.hid (Blk.new _ _ _)
            have hB8 : Hid (Below w7.heap.size w7 w8) := hBp.out.trans (hb8.out.mono hBp.out.size)
            obtain ⟨gf, hgf⟩ : ∃ z, Hid (wr.heap.size = z) := ⟨_, rfl⟩
            rw [hgf.out] at hG8
            have e3 : wr.heap.size = gf := hgf.out
            have i1 : (p : Int) < (m : Int) := by omega
            have i2 : (0 : Int) ≤ (p : Int) := by omega
            have hkm2 : decide (p < m) = true := decide_eq_true hpm
            clear hf
            go_wp2_with (first | rw [hw8.out])
            clear x0 x1 x2 x3 e3
            go_loopw [88] (fun i wr => ∃ r : Nat, r ≤ K7 ∧ i = .int .i64 r ∧ Hid (Below w8.heap.size w8 wr)) (fun i _ => K7 - (intOf i).toNat)
            case atStart => exact ⟨0, Nat.zero_le _, rfl, Lib.hid (Below.refl _ _)⟩
            case round =>
              obtain ⟨r, hr, rfl, hBq⟩ := hrel
              have hBw : Hid (Below w7.heap.size w7 wr) := hB8.out.trans (hBq.out.mono hB8.out.size)
              by_cases hrk : r < K7
              · obtain ⟨g, hg⟩ : ∃ g, L7[r]? = some g := ⟨_, List.getElem?_eq_getElem (by have := hK7.out; omega)⟩
                have hne : eqF f g = false := by
                  cases h9 : eqF f g with
                  | false => rfl
                  | true =>
                    have := eqF_iff.1 h9
                    exact absurd (this ▸ List.mem_of_getElem? hg) hnof.out
                obtain ⟨b2, off2, rfl, z0, z1, z2, z3⟩ := (hF7'.out.below hBw.out) r g hg
                have hGr := Lib.hid (hG8.out.below hBq.out hG8.out.lt)
                obtain ⟨w9, hw9⟩ : ∃ X, Hid (wr.alloc (.cells #[.int .i64 g.paper, .int .i64 g.kind, .string g.field, .int .i64 g.why] 54) = X) := ⟨_, rfl⟩
                have hb9 : Hid (Below wr.heap.size wr w9) := by rw [← hw9.out]; exact (Below.refl _ wr).alloc (Nat.le_refl _) _
                have hG9 : Hid (Blk w9 wr.heap.size 54 #[.int .i64 g.paper, .int .i64 g.kind, .string g.field, .int .i64 g.why]) := by rw [← hw9.out]; exact Lib.hid (Blk.new _ _ _)
                have hGf9 := Lib.hid (hGr.out.below hb9.out hGr.out.lt)
                obtain ⟨gg, hgg⟩ : ∃ z, Hid (wr.heap.size = z) := ⟨_, rfl⟩
                rw [hgg.out] at hG9
                have e4 : wr.heap.size = gg := hgg.out
                have f0 : w9.cell? ⟨gf, 0, none⟩ = some (.int .i64 f.paper) := hGf9.out.cell 0
                have f1 : w9.cell? ⟨gf, 1, none⟩ = some (.int .i64 f.kind) := hGf9.out.cell 1
                have f2 : w9.cell? ⟨gf, 2, none⟩ = some (.string f.field) := hGf9.out.cell 2
                have f3 : w9.cell? ⟨gf, 3, none⟩ = some (.int .i64 f.why) := hGf9.out.cell 3
                have y0 : w9.cell? ⟨gg, 0, none⟩ = some (.int .i64 g.paper) := hG9.out.cell 0
                have y1 : w9.cell? ⟨gg, 1, none⟩ = some (.int .i64 g.kind) := hG9.out.cell 1
                have y2 : w9.cell? ⟨gg, 2, none⟩ = some (.string g.field) := hG9.out.cell 2
                have y3 : w9.cell? ⟨gg, 3, none⟩ = some (.int .i64 g.why) := hG9.out.cell 3
                have j1 : (r : Int) < (K7 : Int) := by omega
                have j2 : (0 : Int) ≤ (r : Int) := by omega
                have hkm3 : decide (r < K7) = true := decide_eq_true hrk
                have hqe := eq_flt f g
                have hqg := Tryz.eqg54
                rw [hne] at hqe
                clear hg hne
                go_wp2_with (first | rw [hw9.out])
                go_roundw
                case rel => exact ⟨r + 1, by omega, by go_num, Lib.hid (hBq.out.trans (hb9.out.mono hBq.out.size))⟩
                case measure => simp [intOf]; omega
              · have hkm3 : decide (r < K7) = false := decide_eq_false hrk
                go_wp2_with fail
                go_roundw
                case rel => exact ⟨p + 1, by omega, by go_num, hBw⟩
                case measure => simp [intOf]; omega
          · have hkm2 : decide (p < m) = false := decide_eq_false hpm
            have hBk : Hid (Below w.heap.size w wr) := hB7.out.trans (hBp.out.mono hB7.out.size)
            have hDa := Lib.hid (hD67.out.below hBp.out)
            have hDb := Lib.hid (hD.out.below hBk.out)
            clear hF97 hF7' hno
            go_wp2_with fail
            obtain ⟨wz, hwz⟩ : ∃ z, wr = z := ⟨_, rfl⟩
            rw [hwz] at hBk hDa hDb ⊢
            clear hwz hBp
            go_loopw [99] (fun i wr => ∃ r : Nat, r ≤ nn ∧ i = .int .i64 r ∧ Hid (Below wz.heap.size wz wr)) (fun i _ => nn - (intOf i).toNat)
            case atStart => exact ⟨0, Nat.zero_le _, rfl, Lib.hid (Below.refl _ _)⟩
            case round =>
              obtain ⟨r, hr, rfl, hBq⟩ := hrel
              have hBw : Hid (Below w.heap.size w wr) := hBk.out.trans (hBq.out.mono hBk.out.size)
              by_cases hrn : r < nn
              · obtain ⟨x, hx⟩ : ∃ x, docs6[r]? = some x := ⟨_, List.getElem?_eq_getElem (by have := hl6.out; omega)⟩
                obtain ⟨d, hd⟩ : ∃ d, docs[r]? = some d := ⟨_, List.getElem?_eq_getElem (by have := hnn.out; omega)⟩
                obtain ⟨k1, k2, k3⟩ := hkp6.out r x d hx hd
                obtain ⟨b1, o1, rfl, p0, p1, p2, _⟩ := (hDa.out.below hBq.out) r x hx
                obtain ⟨b2, o2, rfl, q0, q1, q2, _⟩ := (hDb.out.below hBq.out) r d hd
                rw [k1] at p0
                rw [k2] at p1
                rw [k3] at p2
                obtain ⟨dk, hdk⟩ : ∃ z, d.kind = z := ⟨_, rfl⟩
                obtain ⟨dn, hdn⟩ : ∃ z, d.number = z := ⟨_, rfl⟩
                obtain ⟨di, hdi⟩ : ∃ z, d.issuer = z := ⟨_, rfl⟩
                rw [hdk] at p0 q0
                rw [hdn] at p1 q1
                rw [hdi] at p2 q2
                have j1 : (r : Int) < (nn : Int) := by omega
                have j2 : (0 : Int) ≤ (r : Int) := by omega
                have j3 : decide (nn ≤ r) = false := decide_eq_false (by omega)
                have j4 : decide ((nn : Int) ≤ (r : Int)) = false := decide_eq_false (by omega)
                have hkm3 : decide (r < nn) = true := decide_eq_true hrn
                have z1 : (dk != dk) = false := by simp
                have z2 : (dn.toList != dn.toList) = false := by simp
                have z3 : (di.toList != di.toList) = false := by simp
                clear hx hd k1 k2 k3 hdk hdn hdi
                go_wp2_with fail
                go_quiet (fail)
                go_wp2_with fail
                go_roundw
                case rel => exact ⟨r + 1, by omega, by go_num, Lib.hid (below_drewN hBq.out _)⟩
                case measure => simp [intOf]; omega
              · have hkm3 : decide (r < nn) = false := decide_eq_false hrn
                go_wp2_with fail
                go_ret
                exact ⟨by simp, hBw.out⟩
      · have hB6 : Hid (Below w.heap.size w w6) := hBr.out.trans (hb6.mono hBr.out.size)
        have hpos : 0 < M.length := by
          rcases Nat.eq_zero_or_pos M.length with h | h
          · exact absurd (by rw [List.eq_nil_of_length_eq_zero h]; simp [waiveM]) hlen
          · exact h
        have j1 : (0 : Int) < ((M.length : Nat) : Int) := by omega
        have j2 : decide (0 < M.length) = true := decide_eq_true hpos
        have j3 : decide ((0 : Int) < ((M.length : Nat) : Int)) = true := decide_eq_true j1
        clear hb6 hme hlen
        go_wp2_with fail
        go_ret
        exact ⟨by simp, hB6.out⟩
end Go.Proofs.YtdjmckjbibfecaaGreatDoor

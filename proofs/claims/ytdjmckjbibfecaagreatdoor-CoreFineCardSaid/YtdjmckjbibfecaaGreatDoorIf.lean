/- The contract of the card, and its lifting. -/
import Derived.Lay
import Derived.LaidMore
import Derived.SevenTiedAt
import Derived.Deep.DeepHandedRow
import Derived.Test.YtdjmckjbibfecaaGreatDoorIc
import Derived.Test.YtdjmckjbibfecaaGreatDoorOe
namespace Go.Proofs.YtdjmckjbibfecaaGreatDoor
open Go Go.RowKit Go.BigFrame Go.Maps

theorem same_long {docs docs' : List Pap} (h : sameD docs' docs) {p : Pap → Prop} {q : Pap → Prop} (hp : ∀ x ∈ docs, p x) (hq : ∀ x y, sameP x y → p y → q x) : ∀ x ∈ docs', q x := by
  intro x hx
  obtain ⟨i, hi⟩ := List.getElem?_of_mem hx
  obtain ⟨d, hd⟩ : ∃ d, docs[i]? = some d := ⟨_, List.getElem?_eq_getElem (by have := (List.getElem?_eq_some_iff.1 hi).1; have := h.1; omega)⟩
  exact hq x d (h.2 i x d hi hd) (hp d (List.mem_of_getElem? hd))
theorem few_fields {needs : List Nd} {docs : List Pap} (h : fewB needs docs = true) : ∀ x ∈ docs, x.fields.length ≤ 1000000 := by
  intro d hd
  unfold fewB at h
  simp only [Bool.and_eq_true, decide_eq_true_eq] at h
  have := List.all_eq_true.1 h.2 d hd
  simp only [Bool.and_eq_true, decide_eq_true_eq] at this
  omega
set_option maxRecDepth 100000 in
set_option maxHeartbeats 6400000 in
theorem fine_law (w : World) (c : Crd) (hO : Hid c.okC) (nA : Option Addr) (nl nc : Nat) (needs : List Nd) (hnl : Hid (needs.length = nl)) (hml : nl ≤ maxLen) (hN : Hid (NdsAt w nA needs)) (A : Option Addr) (nn cc : Nat) (docs : List Pap) (hnn : Hid (docs.length = nn)) (hmn : nn ≤ maxLen) (hD : Hid (DocsAt w A docs)) (hLD : Hid (LongD docs)) (day : Int)
    (he : Hid (Env w)) (hal : Hid (AlikeAt w)) :
    Calls Tryz.prog 10 #[.agg (c.cells (.slice nA nl nc)), .slice A nn cc, .int .i64 day] w fun e w' => e = .returned (.bool true) ∧ Below w.heap.size w w' := by
  have hmn' := Lib.hid hmn
  have hml' := Lib.hid hml
  clear hmn hml
  have haw := Lib.hid (fun (W : World) (h : Env W) => awake_any W (Lib.hid h))
  have hex0 := Lib.hid (fun hdy W A' c' docs' => examine_any c hO nA nl nc needs hnl A' nn c' docs' day hdy W)
  have hfew0 := Lib.hid (fun (C : Array Value) (W : World) (h1 : Hid (C.size = 18)) (h2 : C[17]? = some (.slice nA nl nc)) (h3 : NdsAt W nA needs) (h4 : DocsAt W A docs) => few5_any C nA nl nc needs A nn cc docs day W h1 h2 hnl hnn hml'.out hmn'.out (Lib.hid h3) (Lib.hid h4) hLD)
  have hCz : Hid ((c.cells (.slice nA nl nc)).size = 18) := rfl
  have hC17 : Hid ((c.cells (.slice nA nl nc))[17]? = some (.slice nA nl nc)) := rfl
  obtain ⟨C, hC⟩ : ∃ C, Hid (c.cells (.slice nA nl nc) = C) := ⟨_, rfl⟩
  rw [hC.out] at hex0 hCz hC17 ⊢
  have hsz : Hid ((Tryz.prog.info? 46).map (·.size) = some C.size) := by unfold Hid; rw [hCz.out]; kernel_rfl
  obtain ⟨w0, hw0⟩ : ∃ X, Hid (w.alloc (.cells C 46) = X) := ⟨_, rfl⟩
  have hb0 : Hid (Below w.heap.size w w0) := by rw [← hw0.out]; exact (Below.refl _ w).alloc (Nat.le_refl _) _
  have hbk0 : Hid (Blk w0 w.heap.size 46 C) := by rw [← hw0.out]; exact Lib.hid (Blk.new w 46 C)
  have haw0 := Lib.hid (haw.out w0 (he.out.below hb0.out))
  obtain ⟨F, hF⟩ : ∃ F, fewDay needs docs day = F := ⟨_, rfl⟩
  have hF' := Lib.hid hF
  rw [hF] at hfew0
  clear hF
  go_enter Tryz.func10, Tryz.ntmps10
  go_wp2_with (rw [hw0.out])
  refine haw0.out.mono ?_
  rintro e w1 ⟨rfl, hb1⟩
  have hB1 : Hid (Below w.heap.size w w1) := hb0.out.trans (hb1.mono hb0.out.size)
  have hbk1 := Lib.hid (hbk0.out.below hb1 hbk0.out.lt)
  have hfew1 := Lib.hid (hfew0.out C w1 hCz hC17.out (hN.out.below hB1.out) (hD.out.below hB1.out))
  clear hb1 haw0 hbk0 hfew0
  go_wp2_with (refine wpList_load_blkg rfl 46 (.tmp 3) rfl w.heap.size C 46 _ rfl hbk1.out Tryz.underlying46 rfl hsz.out ?_)
  refine hfew1.out.mono ?_
  rintro e w2 ⟨rfl, hb2⟩
  have hB2 : Hid (Below w.heap.size w w2) := hB1.out.trans (hb2.mono hB1.out.size)
  have hbk2 := Lib.hid (hbk1.out.below hb2 hbk1.out.lt)
  clear hb2 hfew1 hbk1
  have haw2 := Lib.hid (haw.out w2 (he.out.below hB2.out))
  cases F with
  | false =>
    go_wp2_with fail
    refine haw2.out.mono ?_
    rintro e w3 ⟨rfl, hb3⟩
    have hB3 : Hid (Below w.heap.size w w3) := hB2.out.trans (hb3.mono hB2.out.size)
    clear hb3
    go_wp2_with fail
    go_ret
    exact ⟨rfl, hB3.out⟩
  | true =>
  have hparts : fewB needs docs = true ∧ -1073741824 ≤ day ∧ day ≤ 1073741824 := by
    have h := hF'.out
    unfold fewDay at h
    simp only [Bool.and_eq_true, decide_eq_true_eq] at h
    exact ⟨h.1, h.2.1, h.2.2⟩
  obtain ⟨hfb, hday0, hday1⟩ := hparts
  obtain ⟨hl12, hn12, hsd, hsx⟩ := few_docs hfb
  have hfl6 := Lib.hid (few_fields hfb)
  have hFP := Lib.hid (few_parts hfb)
  have hn12' : nn ≤ 12 := by have := hnn.out; omega
  have hl1000 : nl ≤ 1000 := by have := hnl.out; omega
  have hRm : Hid (∀ W, Below w.heap.size w W → Room W A nn docs) := Lib.hid fun W hW => ⟨hnn.out, by omega, hD.out.below hW, he.out.below hW, hsd⟩
  have hdayw : Hid (-9223372036854775808 ≤ day ∧ day ≤ 9223372036854775807) := by unfold Hid; omega
  have hany : Hid (∀ W A' c' docs', Below w.heap.size w W → DocsAt W A' docs' → sameD docs' docs → (examF c needs docs' day).length ≤ 20000 ∧ (∀ x ∈ examF c needs docs' day, x.fits) ∧ Calls Tryz.prog 21 #[.agg C, .slice A' nn c', .int .i64 day] W (FaultedC W (examF c needs docs' day))) := Lib.hid fun W A' c' docs' hW hDW hs => by
    have hl' : docs'.length = nn := hs.1.trans hnn.out
    refine ⟨exam_len hFP.out (by omega), exam_fits (fun d hd => by
      obtain ⟨i, hi⟩ := List.getElem?_of_mem hd
      exact kind_of hDW hi) (fun x hx => by
      obtain ⟨i, hi⟩ := List.getElem?_of_mem hx
      exact (hN.out i x hi).1) (fun x hx => small_field (hsx x hx)) (by omega), ?_⟩
    exact hex0.out hdayw W A' c' docs' (Lib.hid (hN.out.below hW)) hFP (Lib.hid ⟨hl', by omega, hDW, he.out.below hW, same_long hs hsd fun x y hxy h f hf => h f (by rw [← hxy.2.2.2]; exact hf)⟩) (Lib.hid (hal.out.below hW)) hn12'
  have hself : sameD docs docs := ⟨rfl, fun i x y hx hy => by rw [hx] at hy; obtain rfl := Option.some.inj hy; exact ⟨rfl, rfl, rfl, rfl⟩⟩
  have hXw : Hid (∀ W, Below w.heap.size w W → ExamC W C A nn cc day (examF c needs docs day)) := Lib.hid fun W hW => ⟨fun W' h => (hany.out W' A cc docs (hW.trans (h.mono hW.size)) (hD.out.below (hW.trans (h.mono hW.size))) hself).2.2, hsz.out, (hany.out W A cc docs hW (hD.out.below hW) hself).1, (hany.out W A cc docs hW (hD.out.below hW) hself).2.1⟩
  obtain ⟨L, hL⟩ : ∃ L, Hid (examF c needs docs day = L) := ⟨_, rfl⟩
  rw [hL.out] at hXw
  clear hex0 hfb hday0 hday1 hn12 hsx hF' hl12 hself
  have hfine := Lib.hid (fine_any w2 C A nn cc day L (Lib.hid (hXw.out w2 hB2.out)))
  go_wp2_with (refine wpList_load_blkg rfl 46 (.tmp 3) rfl w.heap.size C 46 _ rfl hbk2.out Tryz.underlying46 rfl hsz.out ?_)
  refine hfine.out.mono ?_
  rintro e w3 ⟨rfl, hb3⟩
  have hB3 : Hid (Below w.heap.size w w3) := hB2.out.trans (hb3.mono hB2.out.size)
  have hbk3 := Lib.hid (hbk2.out.below hb3 hbk2.out.lt)
  clear hb3 hfine hbk2 haw2
  have haw3 := Lib.hid (haw.out w3 (he.out.below hB3.out))
  by_cases hL0 : L.length = 0
  · have hLn : L = [] := List.eq_nil_of_length_eq_zero hL0
    subst hLn
    clear hL0 haw3 haw
    have hnone : Hid (∀ (a : Nat) (d : Pap), docs[a]? = some d → failL needs docs d = []) := Lib.hid fun a d hd => fail_none hL.out hd
    have hl3 := Lib.hid (least_none w3 C nA nl nc needs hnl hl1000 hC17 (Lib.hid (hN.out.below hB3.out)) A nn cc docs day (Lib.hid (hXw.out w3 hB3.out)) (Lib.hid (hRm.out w3 hB3.out)) hnone)
    have d0 : decide (([] : List Flt).length = 0) = true := rfl
    rw [d0]
    go_wp2_with (refine wpList_load_blk rfl 46 (.tmp 3) rfl w.heap.size C 46 _ rfl hbk3.out Tryz.underlying46 rfl hsz.out ?_)
    refine hl3.out.mono ?_
    rintro e w4 ⟨rfl, hb4⟩
    have hB4 : Hid (Below w.heap.size w w4) := hB3.out.trans (hb4.mono hB3.out.size)
    have hbk4 := Lib.hid (hbk3.out.below hb4 hbk3.out.lt)
    clear hb4 hl3 hbk3
    have hm4 := Lib.hid (mend_none w4 C hsz A nn cc docs day hnn hn12' (Lib.hid (hD.out.below hB4.out)) hfl6 (Lib.hid fun W A' c' docs' hW hDW hs => ⟨_, hany.out W A' c' docs' (hB4.out.trans (hW.mono hB4.out.size)) hDW hs⟩))
    go_wp2_with (refine wpList_load_blk rfl 46 (.tmp 3) rfl w.heap.size C 46 _ rfl hbk4.out Tryz.underlying46 rfl hsz.out ?_)
    refine hm4.out.mono ?_
    rintro e w5 ⟨A5, c5, docs5, rfl, hs5, hD5, hb5⟩
    have hB5 : Hid (Below w.heap.size w w5) := hB4.out.trans (hb5.mono hB4.out.size)
    have hbk5 := Lib.hid (hbk4.out.below hb5 hbk4.out.lt)
    have hs5' := Lib.hid hs5
    have hD5' := Lib.hid hD5
    clear hb5 hm4 hbk4 hs5 hD5
    have hy5 := Lib.hid (why_none w5 C A nn cc day (Lib.hid (hXw.out w5 hB5.out)))
    go_wp2_with (refine wpList_load_blkg rfl 46 (.tmp 3) rfl w.heap.size C 46 _ rfl hbk5.out Tryz.underlying46 rfl hsz.out ?_)
    refine hy5.out.mono ?_
    rintro e w6 ⟨rfl, hb6⟩
    have hB6 : Hid (Below w.heap.size w w6) := hB5.out.trans (hb6.mono hB5.out.size)
    have hbk6 := Lib.hid (hbk5.out.below hb6 hbk5.out.lt)
    have hD6 := Lib.hid (hD5'.out.below hb6)
    clear hb6 hy5 hbk5 hD5'
    have hd6 := Lib.hid (docs_any A5 A nn c5 cc docs5 docs w6 (by omega) (Lib.hid (hs5'.out.1.trans hnn.out)) hnn hs5' (Lib.hid (same_long hs5'.out hfl6.out fun x y hxy h => by rw [hxy.2.2.2]; exact h)) hD6 (Lib.hid (hD.out.below hB6.out)))
    go_wp2_with fail
    refine hd6.out.mono ?_
    rintro e w7 ⟨rfl, hb7⟩
    have hB7 : Hid (Below w.heap.size w w7) := hB6.out.trans (hb7.mono hB6.out.size)
    have hbk7 := Lib.hid (hbk6.out.below hb7 hbk6.out.lt)
    clear hb7 hd6 hbk6 hD6
    have hn7 := Lib.hid (needed_any w7 C A nn cc day [] (Lib.hid (hXw.out w7 hB7.out)) none 0 0 [] rfl (by omega) (Lib.hid (fun i x hx => by simp at hx)) (Lib.hid (fun x hx => by cases hx)))
    have e7 : neededM [] [] = true := by simp [neededM, waiveM]
    rw [e7] at hn7
    go_wp2_with (refine wpList_load_blkg rfl 46 (.tmp 3) rfl w.heap.size C 46 _ rfl hbk7.out Tryz.underlying46 rfl hsz.out ?_)
    refine hn7.out.mono ?_
    rintro e w8 ⟨rfl, hb8⟩
    have hB8 : Hid (Below w.heap.size w w8) := hB7.out.trans (hb8.mono hB7.out.size)
    clear hb8
    go_wp2_with fail
    go_ret
    exact ⟨rfl, hB8.out⟩
  · have d0 : decide (L.length = 0) = false := decide_eq_false hL0
    rw [d0]
    go_wp2_with fail
    refine haw3.out.mono ?_
    rintro e w4 ⟨rfl, hb4⟩
    have hB4 : Hid (Below w.heap.size w w4) := hB3.out.trans (hb4.mono hB3.out.size)
    clear hb4
    go_wp2_with fail
    go_ret
    exact ⟨rfl, hB4.out⟩
end Go.Proofs.YtdjmckjbibfecaaGreatDoor
namespace Go.Proofs.YtdjmckjbibfecaaGreatDoor
open Go.ChangeShapes Go.WideShapes Go.ChangeAt Go.RowKit Go.Joins
open Go.ChangeMaps (open_string shut_string)

set_option maxRecDepth 100000 in
theorem coreFine_contract (H : Type) (enc : TypeId × Value → H) (W : World) (base : Nat) (args : Array Value) (ds gs : List (DataW H)) (before : List MemPlace)
    (hval0 : ∀ (j : Nat) t v, Tryz.f10.params[j]? = some t → args[j]? = some v → Value.okWide Tryz.prog W .any base t v)
    (hW : DataW.Whole enc Tryz.prog Tryz.f10.params.toList Rows.coreFineSpec.vars false W args.toList ds gs before)
    (hz : (DataW.weightsEach Tryz.prog (Tryz.f10.params.toList ++ (OpenSpec.ofChange Rows.coreFineSpec).bare.plain.varTypes Tryz.prog) (ds ++ gs)).all (· ≤ reachBytes) = true)
    (hL : laidMetH Tryz.prog Rows.coreFineRow.laid W) (hsh : W.ShapedOpen Tryz.prog) :
    Calls Tryz.prog 10 args W fun e W' => ∃ v, e = .returned v ∧ Rows.coreFineSpec.post enc Tryz.prog Tryz.f10 false true false false W args v W' := by
  have hval : ∀ (j : Nat) t v, Tryz.f10.params[j]? = some t → args[j]? = some v → Value.okWide Tryz.prog W .any base t v := hval0
  have hW' := hW
  obtain ⟨p, q, hA0, hV, rfl, hfz, hnd⟩ := hW
  have hA : DataW.TrodAll enc Tryz.prog W 0 (fun _ => true) true Tryz.f10.params.toList args.toList ds p := hA0
  rw [Tryz.params10] at hA hval hz
  obtain ⟨v0, vs0, d0, ds0, p0, q0, hargs, rfl, rfl, h0, r0⟩ := trodAll_cons hA
  obtain ⟨v1, vs1, d1, ds1, p1, q1, rfl, rfl, rfl, h1, r1⟩ := trodAll_cons r0
  obtain ⟨v2, vs2, d2, ds2, p2, q2, rfl, rfl, rfl, h2, r2⟩ := trodAll_cons r1
  obtain ⟨rfl, rfl, rfl⟩ := trodAll_nil r2
  obtain rfl : args = #[v0, v1, v2] := by cases args; simp_all
  obtain ⟨rfl, rfl⟩ := trodVars_none hV
  have k0 := h0
  have lt0 : ∀ x ∈ p0, x.block < W.heap.size := by obtain ⟨m, hm⟩ := k0; exact DataW.trod_lt m _ _ _ hm
  have k1 := h1
  have lt1 : ∀ x ∈ p1, x.block < W.heap.size := by obtain ⟨m, hm⟩ := k1; exact DataW.trod_lt m _ _ _ hm
  have k2 := h2
  have lt2 : ∀ x ∈ p2, x.block < W.heap.size := by obtain ⟨m, hm⟩ := k2; exact DataW.trod_lt m _ _ _ hm
  obtain ⟨C0, A0, c0, l0, rfl, hO0, hn0, hN0⟩ := arg_credit (hval 0 46 v0 rfl rfl) h0 (fits_of hz (j := 0) rfl rfl)
  obtain ⟨A1, c1, l1, rfl, hn1, hd1, hld1⟩ := arg_docs (hval 1 25 v1 rfl rfl) h1 (fits_of hz (j := 1) rfl rfl)
  obtain ⟨x2, rfl, _, _, hx2⟩ := open_int Tryz.underlying3 (hval 2 3 v2 rfl rfl) h2
  clear hA0 hval0
  have henv : Env W := env_of ⟨rfl, rfl, rfl⟩ hL hsh
  refine (fine_law W C0 (Lib.hid hO0) A0 l0.length c0 l0 (Lib.hid rfl) hn0 (Lib.hid hN0) A1 l1.length c1 l1 (Lib.hid rfl) hn1 (Lib.hid hd1) (Lib.hid hld1) x2 (Lib.hid henv) (Lib.hid (alike_of rfl hL))).mono fun e W' ⟨he, bel⟩ => ?_
  subst he
  exact ⟨_, rfl, _, _, _, [], _, [], hW', trodAll_mk1 (shut_bool Tryz.underlying4 _), (trodAll_cons_mk (Below.trod laidOut (by kernel_rfl) (of_decide_eq_true (by kernel_rfl)) k0 bel lt0) (trodAll_cons_mk (Below.trod laidOut (by kernel_rfl) (of_decide_eq_true (by kernel_rfl)) k1 bel lt1) (trodAll_cons_mk (Below.trod laidOut (by kernel_rfl) (of_decide_eq_true (by kernel_rfl)) k2 bel lt2) trodAll_mk0))), rfl, bel.frame _, fun h => by cases h⟩

theorem coreFine_laid (os : Os) : laidMetH Tryz.prog Rows.coreFineRow.laid ((World.laidAll Tryz.prog os Rows.coreFineRow.laid).forCall (fun _ _ => 0) ⟨#[], #[.agg #[.string ⟨#[]⟩, .string ⟨#[]⟩, .string ⟨#[]⟩, .string ⟨#[]⟩, .string ⟨#[]⟩, .string ⟨#[]⟩, .string ⟨#[]⟩, .string ⟨#[]⟩, .int .i64 0, .int .i64 0, .int .i64 0, .int .i64 0, .int .i64 0, .int .i64 0, .int .i64 0, .bool false, .bool false, .slice none 0 0], .slice none 0 0, .int .i64 0], []⟩).memory := by
  rw [MakeChecks.laidMetH_plain _ _ _ (by kernel_rfl)]; exact laidMet_laidAll _ (by kernel_rfl) (by kernel_rfl)

set_option maxRecDepth 100000 in
theorem coreFine_lifted (os : Os) (started : os.Started) (H : Type) (enc : TypeId × Value → H) (F : Stop.Interp) :
    ReturnsInHanded {} Tryz.checked os 10 .any ((OpenSpec.ofChange Rows.coreFineSpec).preRow enc Tryz.prog Tryz.f10 Rows.coreFineRow.domain false Rows.coreFineRow.laid) (((OpenSpec.ofChange Rows.coreFineSpec).at F).post enc Tryz.prog Tryz.f10 false true false false) := by
  refine returnsInHanded_of_row (C := Tryz.checked) (s := OpenSpec.ofChange Rows.coreFineSpec) own started (by kernel_rfl) Tryz.func10
    (ChangeSpec.witness_shaped (enc := enc) (C := Tryz.checked) (os := os) (X := fun w _ => laidMetH Tryz.prog Rows.coreFineRow.laid w) false (World.laidAll Tryz.prog os Rows.coreFineRow.laid) #[.agg #[.string ⟨#[]⟩, .string ⟨#[]⟩, .string ⟨#[]⟩, .string ⟨#[]⟩, .string ⟨#[]⟩, .string ⟨#[]⟩, .string ⟨#[]⟩, .string ⟨#[]⟩, .int .i64 0, .int .i64 0, .int .i64 0, .int .i64 0, .int .i64 0, .int .i64 0, .int .i64 0, .bool false, .bool false, .slice none 0 0], .slice none 0 0, .int .i64 0] 8 (World.laidAll_os _ _ _)
      (World.shaped_of_ZipB (by kernel_rfl) (by kernel_rfl)) (by kernel_rfl) (by kernel_rfl) (by kernel_rfl) (coreFine_laid os)) ?_
  intro W base args ds gs before hval hW _ _ hz hL hsh _
  exact coreFine_contract H enc W base args ds gs before hval hW hz hL hsh

end Go.Proofs.YtdjmckjbibfecaaGreatDoor

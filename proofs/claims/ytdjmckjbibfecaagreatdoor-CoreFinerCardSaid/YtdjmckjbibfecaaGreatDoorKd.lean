/- The contract of the card, and its lifting. -/
import Derived.Lay
import Derived.LaidMore
import Derived.SevenTiedAt
import Derived.Deep.DeepHandedRow
import Derived.Test.YtdjmckjbibfecaaGreatDoorJa
import Derived.Test.YtdjmckjbibfecaaGreatDoorKb
namespace Go.Proofs.YtdjmckjbibfecaaGreatDoor
open Go Go.RowKit Go.BigFrame Go.Maps

mutual
theorem atoms_part : ∀ (t : Tree), ∀ u ∈ partsT t, (atomsT u).length ≤ (atomsT t).length
  | .mk k p f x n A c L, u, hu => by
    rw [partsT] at hu
    split at hu
    · rename_i hk
      subst hk
      have h := atoms_partL L u hu
      rw [atomsT, if_neg (by omega), if_pos (by omega)]
      exact h
    · obtain rfl := List.mem_singleton.1 hu
      exact Nat.le_refl _
theorem atoms_partL : ∀ (L : List Tree), ∀ u ∈ partsL L, (atomsT u).length ≤ (atomsL L).length
  | [], u, hu => by rw [partsL] at hu; cases hu
  | t :: L, u, hu => by
    rw [partsL] at hu
    rw [atomsL, List.length_append]
    rcases List.mem_append.1 hu with h | h
    · have := atoms_part t u h; omega
    · have := atoms_partL L u h; omega
end
theorem atoms_few {t : Tree} (h : sizeT t 200 ≤ 60) : (atomsT t).length ≤ 60 := by
  have e := size_wgt t 200 (by omega)
  have := atoms_wgt t
  omega
set_option maxRecDepth 100000 in
set_option maxHeartbeats 6400000 in
theorem finer_law (w : World) (c : Crd) (hO : Hid c.okC) (nA : Option Addr) (nl nc : Nat) (needs : List Nd) (hnl : Hid (needs.length = nl)) (hml : nl ≤ maxLen) (hN : Hid (NdsAt w nA needs)) (A : Option Addr) (nn cc : Nat) (docs : List Pap) (hnn : Hid (docs.length = nn)) (hmn : nn ≤ maxLen) (hD : Hid (DocsAt w A docs)) (hLD : Hid (LongD docs)) (day : Int)
    (he : Hid (Env w)) (hal : Hid (AlikeAt w)) :
    Calls Tryz.prog 6 #[.agg (c.cells (.slice nA nl nc)), .slice A nn cc, .int .i64 day] w fun e w' => e = .returned (.bool true) ∧ Below w.heap.size w w' := by
  have hmn' := Lib.hid hmn
  have hml' := Lib.hid hml
  clear hmn hml
  have haw := Lib.hid (fun (W : World) (h : Env W) => awake_any W (Lib.hid h))
  have hex0 := Lib.hid (fun hdy W => examine_any c hO nA nl nc needs hnl A nn cc docs day hdy W)
  have hrx0 := Lib.hid (fun hdy W => rexam_any c hO nA nl nc needs hnl A nn cc docs day hdy W)
  have hfew0 := Lib.hid (fun (C : Array Value) (W : World) (h1 : Hid (C.size = 18)) (h2 : C[17]? = some (.slice nA nl nc)) (h3 : NdsAt W nA needs) (h4 : DocsAt W A docs) => few5_any C nA nl nc needs A nn cc docs day W h1 h2 hnl hnn hml'.out hmn'.out (Lib.hid h3) (Lib.hid h4) hLD)
  have hCz : Hid ((c.cells (.slice nA nl nc)).size = 18) := rfl
  have hC17 : Hid ((c.cells (.slice nA nl nc))[17]? = some (.slice nA nl nc)) := rfl
  obtain ⟨C, hC⟩ : ∃ C, Hid (c.cells (.slice nA nl nc) = C) := ⟨_, rfl⟩
  rw [hC.out] at hex0 hrx0 hCz hC17 ⊢
  have hsz : Hid ((Tryz.prog.info? 46).map (·.size) = some C.size) := by unfold Hid; rw [hCz.out]; kernel_rfl
  obtain ⟨w0, hw0⟩ : ∃ X, Hid (w.alloc (.cells C 46) = X) := ⟨_, rfl⟩
  have hb0 : Hid (Below w.heap.size w w0) := by rw [← hw0.out]; exact (Below.refl _ w).alloc (Nat.le_refl _) _
  have hbk0 : Hid (Blk w0 w.heap.size 46 C) := by rw [← hw0.out]; exact Lib.hid (Blk.new w 46 C)
  have haw0 := Lib.hid (haw.out w0 (he.out.below hb0.out))
  obtain ⟨F, hF⟩ : ∃ F, fewDay needs docs day = F := ⟨_, rfl⟩
  have hF' := Lib.hid hF
  rw [hF] at hfew0
  clear hF
  go_enter Tryz.func6, Tryz.ntmps6
  go_wp2_with (rw [hw0.out])
  refine haw0.out.mono ?_
  rintro e w1 ⟨rfl, hb1⟩
  have hB1 : Hid (Below w.heap.size w w1) := hb0.out.trans (hb1.mono hb0.out.size)
  have hbk1 := Lib.hid (hbk0.out.below hb1 hbk0.out.lt)
  have hfew1 := Lib.hid (hfew0.out C w1 hCz hC17.out (hN.out.below hB1.out) (hD.out.below hB1.out))
  clear hb1 haw0 hbk0 hfew0
  go_wp2_with (refine wpList_load_blkg rfl 46 (.tmp 3) rfl w.heap.size C 46 _ rfl hbk1.out Tryz.underlying46 rfl hsz.out ?_)
  refine hfew1.out.mono ?_
  rintro e w2 ⟨rfl, hb2⟩
  have hB2 : Hid (Below w.heap.size w w2) := hB1.out.trans (hb2.mono hB1.out.size)
  have hbk2 := Lib.hid (hbk1.out.below hb2 hbk1.out.lt)
  clear hb2 hfew1 hbk1
  have haw2 := Lib.hid (haw.out w2 (he.out.below hB2.out))
  cases F with
  | false =>
    go_wp2_with fail
    refine haw2.out.mono ?_
    rintro e w3 ⟨rfl, hb3⟩
    have hB3 : Hid (Below w.heap.size w w3) := hB2.out.trans (hb3.mono hB2.out.size)
    clear hb3
    go_wp2_with fail
    go_ret
    exact ⟨rfl, hB3.out⟩
  | true =>
  have hparts : fewB needs docs = true ∧ -1073741824 ≤ day ∧ day ≤ 1073741824 := by
    have h := hF'.out
    unfold fewDay at h
    simp only [Bool.and_eq_true, decide_eq_true_eq] at h
    exact ⟨h.1, h.2.1, h.2.2⟩
  obtain ⟨hfb, hday0, hday1⟩ := hparts
  obtain ⟨hl12, hn12, hsd, hsx⟩ := few_docs hfb
  have hFP := Lib.hid (few_parts hfb)
  have hSm : Hid (∀ x ∈ needs, SmallT x.rule) := fun x hx => small_of_size (hsx x hx)
  have hn12' : nn ≤ 12 := by have := hnn.out; omega
  have hnl12 : nl ≤ 12 := by have := hnl.out; omega
  have hRm : Hid (∀ W, Below w.heap.size w W → Room W A nn docs) := Lib.hid fun W hW => ⟨hnn.out, by omega, hD.out.below hW, he.out.below hW, hsd⟩
  have hdayw : Hid (-9223372036854775808 ≤ day ∧ day ≤ 9223372036854775807) := by unfold Hid; omega
  have hday3 := And.intro hday0 hday1
  have hLfit : Hid (∀ x ∈ examF c needs docs day, x.fits) := Lib.hid (exam_fits (fun d hd => by
    obtain ⟨i, hi⟩ := List.getElem?_of_mem hd
    exact kind_of hD.out hi) (fun x hx => by
    obtain ⟨i, hi⟩ := List.getElem?_of_mem hx
    exact (hN.out i x hi).1) (fun x hx => small_field (hsx x hx)) (by omega))
  have hXw : Hid (∀ W, Below w.heap.size w W → ExamC W C A nn cc day (examF c needs docs day)) := Lib.hid fun W hW => ⟨fun W' h => hex0.out hdayw W' (Lib.hid (hN.out.below (hW.trans (h.mono hW.size)))) hFP (Lib.hid (hRm.out W' (hW.trans (h.mono hW.size)))) (Lib.hid (hal.out.below (hW.trans (h.mono hW.size)))) hn12', hsz.out, exam_len hFP.out (by omega), hLfit.out⟩
  have hrXw : Hid (∀ W, Below w.heap.size w W → Calls Tryz.prog 61 #[.agg C, .slice A nn cc, .int .i64 day] W fun e w' => ∃ v, e = .returned v ∧ w'.ownsRow W.heap.size 54 4 v (examF c needs docs day).length (fcells (examF c needs docs day)) ∧ Below W.heap.size W w') := Lib.hid fun W hW => hrx0.out hday3 W (Lib.hid (hN.out.below hW)) hFP hSm (Lib.hid (hRm.out W hW)) hn12'
  have hLl : Hid ((examF c needs docs day).length ≤ 20000) := Lib.hid (exam_len hFP.out (by omega))
  have h60 : Hid (∀ x ∈ needs, (atomsT x.rule).length ≤ 60) := Lib.hid fun x hx => atoms_few (hsx x hx)
  obtain ⟨L, hL⟩ : ∃ L, Hid (examF c needs docs day = L) := ⟨_, rfl⟩
  rw [hL.out] at hXw hrXw hLl
  have hMl : Hid ((leastM needs docs L).length ≤ maxLen) := Lib.hid (by
    have h1 := leastM_len (docs := docs) hFP.out L []
    have h2 := hLl.out
    unfold leastM maxLen
    simp only [List.length_nil] at h1
    omega)
  have hli := Lib.hid (light_any C nA nl nc needs w2 hC17.out hnl hnl12 (Lib.hid (hN.out.below hB2.out)) h60)
  have hsmall : Hid (lightB needs = true → ∀ x ∈ needs, ∀ u ∈ partsT x.rule, (atomsT u).length ≤ 12) := Lib.hid fun h x hx u hu => by
    unfold lightB at h
    have h1 := of_decide_eq_true (List.all_eq_true.1 h x hx)
    have h2 := atoms_part x.rule u hu
    omega
  obtain ⟨lb, hlb⟩ : ∃ b, lightB needs = b := ⟨_, rfl⟩
  rw [hlb] at hli
  have hlb' := Lib.hid hlb
  clear hex0 hrx0 hfb hday0 hday1 hday3 hsx hF' hl12 hn12 hLfit hlb hL hsd hC
  go_wp2_with (refine wpList_load_blkg rfl 46 (.tmp 3) rfl w.heap.size C 46 _ rfl hbk2.out Tryz.underlying46 rfl hsz.out ?_)
  refine hli.out.mono ?_
  rintro e w3 ⟨rfl, hb3⟩
  have hB3 : Hid (Below w.heap.size w w3) := hB2.out.trans (hb3.mono hB2.out.size)
  have hbk3 := Lib.hid (hbk2.out.below hb3 hbk2.out.lt)
  clear hb3 hli hbk2 haw2
  have haw3 := Lib.hid (haw.out w3 (he.out.below hB3.out))
  cases lb with
  | false =>
    go_wp2_with fail
    refine haw3.out.mono ?_
    rintro e w4 ⟨rfl, hb4⟩
    have hB4 : Hid (Below w.heap.size w w4) := hB3.out.trans (hb4.mono hB3.out.size)
    clear hb4
    go_wp2_with fail
    go_ret
    exact ⟨rfl, hB4.out⟩
  | true =>
    have hsm := Lib.hid (hsmall.out hlb'.out)
    have hle := Lib.hid (leastAll_any w3 C nA nl nc needs hnl (by omega) hC17 (Lib.hid (hN.out.below hB3.out)) A nn cc docs day L (Lib.hid (hXw.out w3 hB3.out)) (Lib.hid (hRm.out w3 hB3.out)) hFP hsm)
    clear haw3 hsmall hlb'
    go_wp2_with (refine wpList_load_blk rfl 46 (.tmp 3) rfl w.heap.size C 46 _ rfl hbk3.out Tryz.underlying46 rfl hsz.out ?_)
    refine hle.out.mono ?_
    rintro e w4 ⟨v4, rfl, ho4, hb4⟩
    have hB4 : Hid (Below w.heap.size w w4) := hB3.out.trans (hb4.mono hB3.out.size)
    have hbk4 := Lib.hid (hbk3.out.below hb4 hbk3.out.lt)
    have hfi := Lib.hid (finerR_any w4 C hsz nA nl nc needs hnl hC17 (Lib.hid (hN.out.below hB4.out)) A nn cc docs day L (Lib.hid fun W hW => hrXw.out W (hB4.out.trans (hW.mono hB4.out.size))) hLl (Lib.hid (hRm.out w4 hB4.out)) hFP hSm hsm)
    obtain ⟨M, hM⟩ : ∃ M, Hid (leastM needs docs L = M) := ⟨_, rfl⟩
    rw [hM.out] at ho4 hfi hMl
    obtain ⟨A4, c4, rfl, _, hF4⟩ := own_faults ho4 rfl
    have hF4' := Lib.hid hF4
    clear hb4 hle hbk3 ho4 hF4
    go_wp2_with (refine wpList_load_blk rfl 46 (.tmp 3) rfl w.heap.size C 46 _ rfl hbk4.out Tryz.underlying46 rfl hsz.out ?_)
    refine hfi.out.mono ?_
    rintro e w5 ⟨v5, rfl, ho5, hb5⟩
    have hB5 : Hid (Below w.heap.size w w5) := hB4.out.trans (hb5.mono hB4.out.size)
    obtain ⟨A5, c5, rfl, _, hF5⟩ := own_faults ho5 rfl
    have hF5' := Lib.hid hF5
    have hF45 := Lib.hid (hF4'.out.below hb5)
    have hsa := Lib.hid (same_any A4 A5 M.length c4 M.length c5 M M w5 hMl.out hMl.out (Lib.hid rfl) (Lib.hid rfl) hF45 hF5')
    rw [same_refl] at hsa
    clear hb5 hfi hbk4 ho5 hF5
    go_wp2_with fail
    refine hsa.out.mono ?_
    rintro e w6 ⟨rfl, hb6⟩
    have hB6 : Hid (Below w.heap.size w w6) := hB5.out.trans (hb6.mono hB5.out.size)
    clear hb6
    go_wp2_with fail
    go_ret
    exact ⟨rfl, hB6.out⟩
end Go.Proofs.YtdjmckjbibfecaaGreatDoor
namespace Go.Proofs.YtdjmckjbibfecaaGreatDoor
open Go.ChangeShapes Go.WideShapes Go.ChangeAt Go.RowKit Go.Joins
open Go.ChangeMaps (open_string shut_string)

set_option maxRecDepth 100000 in
theorem coreFiner_contract (H : Type) (enc : TypeId × Value → H) (W : World) (base : Nat) (args : Array Value) (ds gs : List (DataW H)) (before : List MemPlace)
    (hval0 : ∀ (j : Nat) t v, Tryz.f6.params[j]? = some t → args[j]? = some v → Value.okWide Tryz.prog W .any base t v)
    (hW : DataW.Whole enc Tryz.prog Tryz.f6.params.toList Rows.coreFinerSpec.vars false W args.toList ds gs before)
    (hz : (DataW.weightsEach Tryz.prog (Tryz.f6.params.toList ++ (OpenSpec.ofChange Rows.coreFinerSpec).bare.plain.varTypes Tryz.prog) (ds ++ gs)).all (· ≤ reachBytes) = true)
    (hL : laidMetH Tryz.prog Rows.coreFinerRow.laid W) (hsh : W.ShapedOpen Tryz.prog) :
    Calls Tryz.prog 6 args W fun e W' => ∃ v, e = .returned v ∧ Rows.coreFinerSpec.post enc Tryz.prog Tryz.f6 false true false false W args v W' := by
  have hval : ∀ (j : Nat) t v, Tryz.f6.params[j]? = some t → args[j]? = some v → Value.okWide Tryz.prog W .any base t v := hval0
  have hW' := hW
  obtain ⟨p, q, hA0, hV, rfl, hfz, hnd⟩ := hW
  have hA : DataW.TrodAll enc Tryz.prog W 0 (fun _ => true) true Tryz.f6.params.toList args.toList ds p := hA0
  rw [Tryz.params6] at hA hval hz
  obtain ⟨v0, vs0, d0, ds0, p0, q0, hargs, rfl, rfl, h0, r0⟩ := trodAll_cons hA
  obtain ⟨v1, vs1, d1, ds1, p1, q1, rfl, rfl, rfl, h1, r1⟩ := trodAll_cons r0
  obtain ⟨v2, vs2, d2, ds2, p2, q2, rfl, rfl, rfl, h2, r2⟩ := trodAll_cons r1
  obtain ⟨rfl, rfl, rfl⟩ := trodAll_nil r2
  obtain rfl : args = #[v0, v1, v2] := by cases args; simp_all
  obtain ⟨rfl, rfl⟩ := trodVars_none hV
  have k0 := h0
  have lt0 : ∀ x ∈ p0, x.block < W.heap.size := by obtain ⟨m, hm⟩ := k0; exact DataW.trod_lt m _ _ _ hm
  have k1 := h1
  have lt1 : ∀ x ∈ p1, x.block < W.heap.size := by obtain ⟨m, hm⟩ := k1; exact DataW.trod_lt m _ _ _ hm
  have k2 := h2
  have lt2 : ∀ x ∈ p2, x.block < W.heap.size := by obtain ⟨m, hm⟩ := k2; exact DataW.trod_lt m _ _ _ hm
  obtain ⟨C0, A0, c0, l0, rfl, hO0, hn0, hN0⟩ := arg_credit (hval 0 46 v0 rfl rfl) h0 (fits_of hz (j := 0) rfl rfl)
  obtain ⟨A1, c1, l1, rfl, hn1, hd1, hld1⟩ := arg_docs (hval 1 25 v1 rfl rfl) h1 (fits_of hz (j := 1) rfl rfl)
  obtain ⟨x2, rfl, _, _, hx2⟩ := open_int Tryz.underlying3 (hval 2 3 v2 rfl rfl) h2
  clear hA0 hval0
  have henv : Env W := env_of ⟨rfl, rfl, rfl⟩ hL hsh
  refine (finer_law W C0 (Lib.hid hO0) A0 l0.length c0 l0 (Lib.hid rfl) hn0 (Lib.hid hN0) A1 l1.length c1 l1 (Lib.hid rfl) hn1 (Lib.hid hd1) (Lib.hid hld1) x2 (Lib.hid henv) (Lib.hid (alike_of rfl hL))).mono fun e W' ⟨he, bel⟩ => ?_
  subst he
  exact ⟨_, rfl, _, _, _, [], _, [], hW', trodAll_mk1 (shut_bool Tryz.underlying4 _), (trodAll_cons_mk (Below.trod laidOut (by kernel_rfl) (of_decide_eq_true (by kernel_rfl)) k0 bel lt0) (trodAll_cons_mk (Below.trod laidOut (by kernel_rfl) (of_decide_eq_true (by kernel_rfl)) k1 bel lt1) (trodAll_cons_mk (Below.trod laidOut (by kernel_rfl) (of_decide_eq_true (by kernel_rfl)) k2 bel lt2) trodAll_mk0))), rfl, bel.frame _, fun h => by cases h⟩

theorem coreFiner_laid (os : Os) : laidMetH Tryz.prog Rows.coreFinerRow.laid ((World.laidAll Tryz.prog os Rows.coreFinerRow.laid).forCall (fun _ _ => 0) ⟨#[], #[.agg #[.string ⟨#[]⟩, .string ⟨#[]⟩, .string ⟨#[]⟩, .string ⟨#[]⟩, .string ⟨#[]⟩, .string ⟨#[]⟩, .string ⟨#[]⟩, .string ⟨#[]⟩, .int .i64 0, .int .i64 0, .int .i64 0, .int .i64 0, .int .i64 0, .int .i64 0, .int .i64 0, .bool false, .bool false, .slice none 0 0], .slice none 0 0, .int .i64 0], []⟩).memory := by
  rw [MakeChecks.laidMetH_plain _ _ _ (by kernel_rfl)]; exact laidMet_laidAll _ (by kernel_rfl) (by kernel_rfl)

set_option maxRecDepth 100000 in
theorem coreFiner_lifted (os : Os) (started : os.Started) (H : Type) (enc : TypeId × Value → H) (F : Stop.Interp) :
    ReturnsInHanded {} Tryz.checked os 6 .any ((OpenSpec.ofChange Rows.coreFinerSpec).preRow enc Tryz.prog Tryz.f6 Rows.coreFinerRow.domain false Rows.coreFinerRow.laid) (((OpenSpec.ofChange Rows.coreFinerSpec).at F).post enc Tryz.prog Tryz.f6 false true false false) := by
  refine returnsInHanded_of_row (C := Tryz.checked) (s := OpenSpec.ofChange Rows.coreFinerSpec) own started (by kernel_rfl) Tryz.func6
    (ChangeSpec.witness_shaped (enc := enc) (C := Tryz.checked) (os := os) (X := fun w _ => laidMetH Tryz.prog Rows.coreFinerRow.laid w) false (World.laidAll Tryz.prog os Rows.coreFinerRow.laid) #[.agg #[.string ⟨#[]⟩, .string ⟨#[]⟩, .string ⟨#[]⟩, .string ⟨#[]⟩, .string ⟨#[]⟩, .string ⟨#[]⟩, .string ⟨#[]⟩, .string ⟨#[]⟩, .int .i64 0, .int .i64 0, .int .i64 0, .int .i64 0, .int .i64 0, .int .i64 0, .int .i64 0, .bool false, .bool false, .slice none 0 0], .slice none 0 0, .int .i64 0] 8 (World.laidAll_os _ _ _)
      (World.shaped_of_ZipB (by kernel_rfl) (by kernel_rfl)) (by kernel_rfl) (by kernel_rfl) (by kernel_rfl) (coreFiner_laid os)) ?_
  intro W base args ds gs before hval hW _ _ hz hL hsh _
  exact coreFiner_contract H enc W base args ds gs before hval hW hz hL hsh

end Go.Proofs.YtdjmckjbibfecaaGreatDoor

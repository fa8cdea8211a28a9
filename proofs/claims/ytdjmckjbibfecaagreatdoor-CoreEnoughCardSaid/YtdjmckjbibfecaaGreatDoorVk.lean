/- CoreCores, walked. -/
import Derived.Test.YtdjmckjbibfecaaGreatDoorVj
namespace Go.Proofs.YtdjmckjbibfecaaGreatDoor
open Go Go.RowKit Go.BigFrame Go.Maps

/-- What few rules and papers are. -/
theorem few_facts {t : Tree} {docs : List Pap} (h : fewB [⟨0, 0, t⟩] docs = true) : docs.length ≤ 12 ∧ SmallT t ∧ (atomsT t).length ≤ 60 ∧ SmallD docs := by
  unfold fewB at h
  simp only [Bool.and_eq_true, decide_eq_true_eq] at h
  obtain ⟨⟨⟨_, h2⟩, h3⟩, h4⟩ := h
  have h5 : sizeT t 200 ≤ 60 := by simpa [ndsB] using h3
  refine ⟨h2, small_of_size h5, ?_, fun d hd f hf => ?_⟩
  · have e := size_wgt t 200 (by omega)
    have := atoms_wgt t
    omega
  · unfold papsB at h4
    have h6 := List.all_eq_true.1 h4 d hd
    simp only [Bool.and_eq_true] at h6
    have h7 := List.all_eq_true.1 h6.2 f hf
    have h8 := of_decide_eq_true h7
    omega
theorem coresE_long {docs : List Pap} {t : Tree} {a : Int} (h : 12 < (atomsT t).length) : coresE docs t a = [] := by
  unfold coresE
  split
  · rw [if_pos (.inl h)]
  · rfl
theorem coresE_rows {docs : List Pap} {t : Tree} {a : Int} (h : (atomsT t).length ≤ 12) : (coresE docs t a).length ≤ 5000 ∧ ∀ p ∈ coresE docs t a, p.length ≤ 12 := by
  unfold coresE
  split
  · rename_i d _
    split
    · exact ⟨by simp, by simp⟩
    · have hl : (stL docs d t).length = (atomsT t).length := by rw [stL, List.length_map]
      have := CDq_all t (stL docs d t) (2 ^ (stL docs d t).length)
      have hp : 2 ^ (stL docs d t).length ≤ 4096 := by rw [hl]; exact Nat.pow_le_pow_right (by omega) h
      exact ⟨Nat.le_trans this.1 (by omega), fun p hp' => Nat.le_trans (this.2 p hp') (by omega)⟩
  · exact ⟨by simp, by simp⟩
set_option maxRecDepth 100000 in
set_option maxHeartbeats 3200000 in
theorem coreCores_law (t : Tree) (A0 : Option Addr) (nn c0 : Nat) (docs : List Pap) (pl : Int) (w : World) (he : Hid (Env w)) (hT : Hid (TreeAt w t)) (hLT : Hid (LongT t)) (hnn : Hid (docs.length = nn)) (hmn : nn ≤ maxLen) (hD : Hid (DocsAt w A0 docs)) (hLD : Hid (LongD docs)) :
    Calls Tryz.prog 3 #[.agg t.cells, .slice A0 nn c0, .int .i64 pl] w fun e w' => e = .returned (.bool true) ∧ Below w.heap.size w w' := by
  have haw := Lib.hid (fun (W : World) (h : Env W) => awake_any W (Lib.hid h))
  have hli := Lib.hid (fun (W : World) (h1 : TreeAt W t) (h2 : DocsAt W A0 docs) => little_any t A0 nn c0 docs W (Lib.hid h1) hLT hnn hmn (Lib.hid h2) hLD)
  obtain ⟨F, hF⟩ : ∃ F, fewB [⟨0, 0, t⟩] docs = F := ⟨_, rfl⟩
  have hco := Lib.hid (fun (W : World) (h1 : TreeAt W t) (r : Room W A0 nn docs) (h60 : (atomsT t).length ≤ 60) => cores_any t A0 nn c0 docs pl W (Lib.hid h1) (Lib.hid r) h60)
  have hrco := Lib.hid (fun (W : World) (h1 : TreeAt W t) (r : Room W A0 nn docs) (hs : SmallT t) (h12 : (atomsT t).length ≤ 12) => coresR_any t A0 nn c0 docs pl W (Lib.hid h1) (Lib.hid hs) (Lib.hid r) h12)
  have hat := Lib.hid (fun (W : World) (h1 : TreeAt W t) (h60 : (atomsT t).length ≤ 1000) => atomsR_any t W (Lib.hid h1) h60)
  have hff : Hid (F = true → nn ≤ 12 ∧ SmallT t ∧ (atomsT t).length ≤ 60 ∧ SmallD docs) := Lib.hid fun h => by
    have := few_facts (hF.trans h)
    rw [hnn.out] at this
    exact this
  have hlong : Hid (12 < (atomsT t).length → coresE docs t pl = []) := Lib.hid fun h => coresE_long h
  have hrows : Hid ((atomsT t).length ≤ 12 → (coresE docs t pl).length ≤ 5000 ∧ ∀ p ∈ coresE docs t pl, p.length ≤ 12) := Lib.hid fun h => coresE_rows h
  obtain ⟨CE, hCE⟩ : ∃ C, coresE docs t pl = C := ⟨_, rfl⟩
  obtain ⟨AT, hATe⟩ : ∃ l, atomsT t = l := ⟨_, rfl⟩
  obtain ⟨m, hm⟩ : ∃ m, AT.length = m := ⟨_, rfl⟩
  rw [hF] at hli
  simp only [hCE, hATe, hm] at hco hrco hat hff hlong hrows
  obtain ⟨T, hTd⟩ : ∃ T, Hid (t = T) := ⟨_, rfl⟩
  obtain ⟨k, p, f, x, n, A, c, L⟩ := t
  simp only [Tree.cells] at hli hco hrco hat ⊢
  rw [hTd.out] at hT hli hco hrco hat hff
  clear hF hCE hATe hm hTd hLT
  obtain ⟨w1, hw1⟩ : ∃ X, Hid (w.alloc (.cells #[.int .i64 k, .int .i64 p, .string f, .string x, .int .i64 n, .slice A L.length c] 24) = X) := ⟨_, rfl⟩
  have hb1 : Hid (Below w.heap.size w w1) := by rw [← hw1.out]; exact (Below.refl _ w).alloc (Nat.le_refl _) _
  have hN1 : Hid (Blk w1 w.heap.size 24 #[.int .i64 k, .int .i64 p, .string f, .string x, .int .i64 n, .slice A L.length c]) := by rw [← hw1.out]; exact Lib.hid (Blk.new _ _ _)
  have q0 : w1.cell? ⟨w.heap.size, 0, none⟩ = some (.int .i64 k) := hN1.out.cell 0
  have q1 : w1.cell? ⟨w.heap.size, 1, none⟩ = some (.int .i64 p) := hN1.out.cell 1
  have q2 : w1.cell? ⟨w.heap.size, 2, none⟩ = some (.string f) := hN1.out.cell 2
  have q3 : w1.cell? ⟨w.heap.size, 3, none⟩ = some (.string x) := hN1.out.cell 3
  have q4 : w1.cell? ⟨w.heap.size, 4, none⟩ = some (.int .i64 n) := hN1.out.cell 4
  have q5 : w1.cell? ⟨w.heap.size, 5, none⟩ = some (.slice A L.length c) := hN1.out.cell 5
  have hE1 := he.out.below hb1.out
  have haw1 := Lib.hid (haw.out w1 hE1)
  go_enter Tryz.func3, Tryz.ntmps3
  go_wp2_with (rw [hw1.out])
  refine haw1.out.mono ?_
  rintro e w2 ⟨rfl, hb2⟩
  have hB2 : Hid (Below w.heap.size w w2) := hb1.out.trans (hb2.mono hb1.out.size)
  have hN2 := Lib.hid (hN1.out.below hb2 hN1.out.lt)
  have hli2 := Lib.hid (hli.out w2 (hT.out.below hB2.out) (hD.out.below hB2.out))
  clear q0 q1 q2 q3 q4 q5 hb2 haw1 hE1 hN1
  have q0 : w2.cell? ⟨w.heap.size, 0, none⟩ = some (.int .i64 k) := hN2.out.cell 0
  have q1 : w2.cell? ⟨w.heap.size, 1, none⟩ = some (.int .i64 p) := hN2.out.cell 1
  have q2 : w2.cell? ⟨w.heap.size, 2, none⟩ = some (.string f) := hN2.out.cell 2
  have q3 : w2.cell? ⟨w.heap.size, 3, none⟩ = some (.string x) := hN2.out.cell 3
  have q4 : w2.cell? ⟨w.heap.size, 4, none⟩ = some (.int .i64 n) := hN2.out.cell 4
  have q5 : w2.cell? ⟨w.heap.size, 5, none⟩ = some (.slice A L.length c) := hN2.out.cell 5
  go_wp2_with fail
  refine hli2.out.mono ?_
  rintro e w3 ⟨rfl, hb3⟩
  have hB3 : Hid (Below w.heap.size w w3) := hB2.out.trans (hb3.mono hB2.out.size)
  have hN3 := Lib.hid (hN2.out.below hb3 hN2.out.lt)
  clear q0 q1 q2 q3 q4 q5 hb3 hli2 hN2
  cases F with
  | false =>
    have haw3 := Lib.hid (haw.out w3 (he.out.below hB3.out))
    go_wp2_with fail
    refine haw3.out.mono ?_
    rintro e w4 ⟨rfl, hb4⟩
    have hB4 : Hid (Below w.heap.size w w4) := hB3.out.trans (hb4.mono hB3.out.size)
    clear hb4
    go_wp2_with fail
    go_ret
    exact ⟨rfl, hB4.out⟩
  | true =>
    obtain ⟨hn12, hsm, h60, hsd⟩ := hff.out rfl
    have hRoom : Hid (∀ W, Below w.heap.size w W → Room W A0 nn docs) := Lib.hid fun W h => ⟨hnn.out, by omega, hD.out.below h, he.out.below h, hsd⟩
    have hco3 := Lib.hid (hco.out w3 (hT.out.below hB3.out) (hRoom.out _ hB3.out) h60)
    have hsm' := Lib.hid hsm
    have q0 : w3.cell? ⟨w.heap.size, 0, none⟩ = some (.int .i64 k) := hN3.out.cell 0
    have q1 : w3.cell? ⟨w.heap.size, 1, none⟩ = some (.int .i64 p) := hN3.out.cell 1
    have q2 : w3.cell? ⟨w.heap.size, 2, none⟩ = some (.string f) := hN3.out.cell 2
    have q3 : w3.cell? ⟨w.heap.size, 3, none⟩ = some (.string x) := hN3.out.cell 3
    have q4 : w3.cell? ⟨w.heap.size, 4, none⟩ = some (.int .i64 n) := hN3.out.cell 4
    have q5 : w3.cell? ⟨w.heap.size, 5, none⟩ = some (.slice A L.length c) := hN3.out.cell 5
    clear hco hli haw hff hsm hsd
    go_wp2_with fail
    refine hco3.out.mono ?_
    rintro e w4 ⟨v7, rfl, hc4, hb4⟩
    have hB4 : Hid (Below w.heap.size w w4) := hB3.out.trans (hb4.mono hB3.out.size)
    have hN4 := Lib.hid (hN3.out.below hb4 hN3.out.lt)
    have hc4' := Lib.hid hc4
    obtain ⟨A7, n7, c7, rfl⟩ := cor_form ⟨_, hc4⟩
    have hat4 := Lib.hid (hat.out w4 (hT.out.below hB4.out) (by omega))
    clear q0 q1 q2 q3 q4 q5 hb4 hc4 hco3 hN3 hat
    have q0 : w4.cell? ⟨w.heap.size, 0, none⟩ = some (.int .i64 k) := hN4.out.cell 0
    have q1 : w4.cell? ⟨w.heap.size, 1, none⟩ = some (.int .i64 p) := hN4.out.cell 1
    have q2 : w4.cell? ⟨w.heap.size, 2, none⟩ = some (.string f) := hN4.out.cell 2
    have q3 : w4.cell? ⟨w.heap.size, 3, none⟩ = some (.string x) := hN4.out.cell 3
    have q4 : w4.cell? ⟨w.heap.size, 4, none⟩ = some (.int .i64 n) := hN4.out.cell 4
    have q5 : w4.cell? ⟨w.heap.size, 5, none⟩ = some (.slice A L.length c) := hN4.out.cell 5
    go_wp2_with fail
    refine hat4.out.mono ?_
    rintro e w5 ⟨v8, rfl, ho8, hb5⟩
    obtain ⟨A8, c8, rfl⟩ := own_form ho8
    have hB5 : Hid (Below w.heap.size w w5) := hB4.out.trans (hb5.mono hB4.out.size)
    have hN5 := Lib.hid (hN4.out.below hb5 hN4.out.lt)
    have hc5 := Lib.hid (hc4'.out.on hb5)
    clear q0 q1 q2 q3 q4 q5 hb5 ho8 hc4' hat4 hN4
    by_cases h12 : 12 < m
    · have d1 : decide ((12 : Int) < (m : Int)) = true := decide_eq_true (by omega)
      have d2 : decide (12 < m) = true := decide_eq_true h12
      have hce := hlong.out h12
      have hn7 : n7 = 0 := by
        obtain ⟨vs, _, h2, _⟩ := hc5.out
        rw [hce] at h2
        obtain ⟨A', c', e'⟩ := own_form h2
        simp only [Value.slice.injEq] at e'
        exact e'.2.1
      subst hn7
      go_wp2_with fail
      go_ret
      exact ⟨rfl, hB5.out⟩
    · have d1 : decide ((12 : Int) < (m : Int)) = false := decide_eq_false (by omega)
      have d2 : decide (12 < m) = false := decide_eq_false h12
      by_cases h6 : 6 < m
      · have d3 : decide ((6 : Int) < (m : Int)) = true := decide_eq_true (by omega)
        have d4 : decide (6 < m) = true := decide_eq_true h6
        go_wp2_with fail
        go_ret
        exact ⟨rfl, hB5.out⟩
      · have d3 : decide ((6 : Int) < (m : Int)) = false := decide_eq_false (by omega)
        have d4 : decide (6 < m) = false := decide_eq_false h6
        have hr5 := Lib.hid (hrco.out w5 (hT.out.below hB5.out) (hRoom.out _ hB5.out) hsm'.out (by omega))
        obtain ⟨hrl, hrp⟩ := hrows.out (by omega)
        have hrp' := Lib.hid hrp
        have q0 : w5.cell? ⟨w.heap.size, 0, none⟩ = some (.int .i64 k) := hN5.out.cell 0
        have q1 : w5.cell? ⟨w.heap.size, 1, none⟩ = some (.int .i64 p) := hN5.out.cell 1
        have q2 : w5.cell? ⟨w.heap.size, 2, none⟩ = some (.string f) := hN5.out.cell 2
        have q3 : w5.cell? ⟨w.heap.size, 3, none⟩ = some (.string x) := hN5.out.cell 3
        have q4 : w5.cell? ⟨w.heap.size, 4, none⟩ = some (.int .i64 n) := hN5.out.cell 4
        have q5 : w5.cell? ⟨w.heap.size, 5, none⟩ = some (.slice A L.length c) := hN5.out.cell 5
        clear hrco hrows hrp hlong hRoom
        go_wp2_with fail
        refine hr5.out.mono ?_
        rintro e w6 ⟨v9, rfl, hc6, hb6⟩
        have hB6 : Hid (Below w.heap.size w w6) := hB5.out.trans (hb6.mono hB5.out.size)
        have hsame := Lib.hid (sameR_any CE _ v9 _ _ w6 hrl hrp' (Lib.hid (hc5.out.on hb6)) (Lib.hid hc6))
        clear q0 q1 q2 q3 q4 q5 hb6 hc6 hr5
        go_wp2_with fail
        refine hsame.out.mono ?_
        rintro e w7 ⟨rfl, hb7⟩
        have hB7 : Hid (Below w.heap.size w w7) := hB6.out.trans (hb7.mono hB6.out.size)
        clear hb7 hsame
        go_wp2_with fail
        go_ret
        exact ⟨rfl, hB7.out⟩
end Go.Proofs.YtdjmckjbibfecaaGreatDoor

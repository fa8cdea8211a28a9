/- The law's little and paper, walked. -/
import Derived.Test.YtdjmckjbibfecaaGreatDoorVg
namespace Go.Proofs.YtdjmckjbibfecaaGreatDoor
open Go Go.RowKit Go.BigFrame Go.Maps

set_option maxRecDepth 100000 in
theorem little_any (t : Tree) (A0 : Option Addr) (nn c0 : Nat) (docs : List Pap) (w : World) (hT : Hid (TreeAt w t)) (hLT : Hid (LongT t)) (hnn : Hid (docs.length = nn)) (hmn : nn ≤ maxLen) (hD : Hid (DocsAt w A0 docs)) (hLD : Hid (LongD docs)) :
    Calls Tryz.prog 12 #[.agg t.cells, .slice A0 nn c0] w fun e w' => e = .returned (.bool (fewB [⟨0, 0, t⟩] docs)) ∧ Below w.heap.size w w' := by
  obtain ⟨R, hR⟩ : ∃ R, Hid (fewB [⟨0, 0, t⟩] docs = R) := ⟨_, rfl⟩
  have hfew : Hid (∀ (C : Array Value) (g : Nat) (W : World), C.size = 18 → C[17]? = some (.slice (some ⟨g, 0, none⟩) 1 1) → NdsAt W (some ⟨g, 0, none⟩) [⟨0, 0, t⟩] → DocsAt W A0 docs → Calls Tryz.prog 37 #[.agg C, .slice A0 nn c0] W fun e w' => e = .returned (.bool R) ∧ Below W.heap.size W w') := Lib.hid fun C g W h1 h2 h3 h4 => by
    have := few_any C (some ⟨g, 0, none⟩) 1 1 [⟨0, 0, t⟩] A0 nn c0 docs W (Lib.hid h1) h2 (Lib.hid rfl) hnn (by unfold maxLen; omega) hmn (Lib.hid h3) (Lib.hid h4) hLD
    rw [hR.out] at this
    exact this
  rw [hR.out]
  obtain ⟨T, hTd⟩ : ∃ T, Hid (t = T) := ⟨_, rfl⟩
  obtain ⟨k, p, f, x, n, A, c, L⟩ := t
  simp only [Tree.cells]
  rw [hTd.out] at hT hLT hfew
  obtain ⟨w1, hw1⟩ : ∃ X, Hid (w.alloc (.cells #[.int .i64 k, .int .i64 p, .string f, .string x, .int .i64 n, .slice A L.length c] 24) = X) := ⟨_, rfl⟩
  have hb1 : Hid (Below w.heap.size w w1) := by rw [← hw1.out]; exact (Below.refl _ w).alloc (Nat.le_refl _) _
  have hN1 : Hid (Blk w1 w.heap.size 24 #[.int .i64 k, .int .i64 p, .string f, .string x, .int .i64 n, .slice A L.length c]) := by rw [← hw1.out]; exact Lib.hid (Blk.new _ _ _)
  have q0 : w1.cell? ⟨w.heap.size, 0, none⟩ = some (.int .i64 k) := hN1.out.cell 0
  have q1 : w1.cell? ⟨w.heap.size, 1, none⟩ = some (.int .i64 p) := hN1.out.cell 1
  have q2 : w1.cell? ⟨w.heap.size, 2, none⟩ = some (.string f) := hN1.out.cell 2
  have q3 : w1.cell? ⟨w.heap.size, 3, none⟩ = some (.string x) := hN1.out.cell 3
  have q4 : w1.cell? ⟨w.heap.size, 4, none⟩ = some (.int .i64 n) := hN1.out.cell 4
  have q5 : w1.cell? ⟨w.heap.size, 5, none⟩ = some (.slice A L.length c) := hN1.out.cell 5
  obtain ⟨w2, hw2⟩ : ∃ X, Hid (w1.alloc (.cells #[.int .i64 0, .int .i64 0, .int .i64 k, .int .i64 p, .string f, .string x, .int .i64 n, .slice A L.length c] 71) = X) := ⟨_, rfl⟩
  have hsz : w1.heap.size = w.heap.size + 1 := by rw [← hw1.out]; simp
  obtain ⟨g7, hg7⟩ : ∃ g, w.heap.size + 1 = g := ⟨_, rfl⟩
  have hb2 : Hid (Below w1.heap.size w1 w2) := by rw [← hw2.out]; exact Lib.hid ((Below.refl _ w1).alloc (Nat.le_refl _) _)
  have hN2 : Hid (Blk w2 g7 71 #[.int .i64 0, .int .i64 0, .int .i64 k, .int .i64 p, .string f, .string x, .int .i64 n, .slice A L.length c]) := by rw [← hw2.out, ← hg7, ← hsz]; exact Lib.hid (Blk.new _ _ _)
  have hB2 : Hid (Below w.heap.size w w2) := hb1.out.trans (hb2.out.mono hb1.out.size)
  have hNds : Hid (NdsAt w2 (some ⟨g7, 0, none⟩) [⟨0, 0, T⟩]) := Lib.hid fun i y hy => by
    have hi : i = 0 := by have := (List.getElem?_eq_some_iff.1 hy).1; simpa using this
    subst hi
    simp at hy
    subst hy
    refine ⟨by simp, hT.out.below hB2.out, hLT.out, g7, 0, rfl, hN2.out.cell 0, hN2.out.cell 1, ?_⟩
    rw [← hTd.out]
    exact ⟨hN2.out.cell 2, hN2.out.cell 3, hN2.out.cell 4, hN2.out.cell 5, hN2.out.cell 6, hN2.out.cell 7⟩
  have hD2 := Lib.hid (hD.out.below hB2.out)
  go_enter Tryz.func12, Tryz.ntmps12
  go_wp2_with (first | rw [hw1.out, hw2.out] | rw [hw1.out] | rw [hw2.out])
  refine (hfew.out _ g7 w2 rfl rfl hNds.out hD2.out).mono ?_
  rintro e w3 ⟨rfl, hb3⟩
  have hB3 : Hid (Below w.heap.size w w3) := hB2.out.trans (hb3.mono hB2.out.size)
  clear q0 q1 q2 q3 q4 q5 hb3
  go_wp2_with fail
  go_ret
  exact ⟨rfl, hB3.out⟩
end Go.Proofs.YtdjmckjbibfecaaGreatDoor

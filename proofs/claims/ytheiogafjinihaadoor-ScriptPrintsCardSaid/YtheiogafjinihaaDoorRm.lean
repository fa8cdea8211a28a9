/- The document's Right: all kinds. -/
import Derived.Test.YtheiogafjinihaaDoorRj
import Derived.Test.YtheiogafjinihaaDoorLd
namespace Go.Proofs.YtheiogafjinihaaDoor
open Go Go.RowKit Go.BigFrame Go.Maps

theorem right_any (x : Stp) (w : World) (hp : x.party.length ≤ maxLen) (hd : x.deal.length ≤ maxLen) :
    Calls Tryd.prog 25 #[.agg x.cells] w fun e w' => e = .returned (.bool (rightB x)) ∧ Below w.heap.size w w' := by
  obtain ⟨k, n, p, ak, an, d⟩ := x
  simp only at hp hd
  unfold rightB
  simp only [Stp.cells]
  by_cases h0 : k = 0
  · subst h0
    have h := right_act n ak an p d w hp hd
    rw [if_pos rfl]
    rw [show (decide (n = 0) && nameB p && nameB d && (decide (0 ≤ ak) && decide (ak ≤ 11)) && amongB an) = (decide (n = 0) && nameB p && nameB d && decide (0 ≤ ak) && decide (ak ≤ 11) && amongB an) by simp only [Bool.and_assoc]]
    exact h
  rw [if_neg h0]
  by_cases h1 : k = 1 ∨ k = 2 ∨ k = 3
  · rw [if_pos h1]
    exact right_num k n ak an p d w h1
  rw [if_neg h1]
  by_cases h4 : k = 4
  · subst h4
    rw [if_pos rfl]
    exact right_day n ak an p d w
  rw [if_neg h4]
  by_cases h5 : k = 5 ∨ k = 7
  · rw [if_pos h5]
    exact right_party k n ak an p d w hp h5
  rw [if_neg h5]
  by_cases h6 : k = 6
  · subst h6
    rw [if_pos rfl]
    exact right_crash n ak an p d w hp
  rw [if_neg h6]
  exact right_none k n ak an p d w (by omega)
end Go.Proofs.YtheiogafjinihaaDoor

namespace Go.Proofs.YtheiogafjinihaaDoor
open Go Go.RowKit Go.BigFrame Go.Maps

set_option maxRecDepth 100000 in
theorem acts_any (w : World) : Calls Tryd.prog 52 #[] w fun e w' => e = .returned (.slice (some ⟨w.heap.size, 0, none⟩) 12 12) ∧ Blk w' w.heap.size 9 actsA ∧ Below w.heap.size w w' := by
  obtain ⟨w1, hw1⟩ : ∃ W, Hid (w.alloc (.cells actsA 9) = W) := ⟨_, rfl⟩
  go_enter Tryd.func52, Tryd.ntmps52
  go_wp2_with fail
  go_ret
  refine ⟨rfl, ?_, ?_⟩
  · exact Blk.new w 9 actsA
  · exact (Below.refl _ w).alloc (Nat.le_refl _) _
end Go.Proofs.YtheiogafjinihaaDoor

namespace Go.Proofs.YtheiogafjinihaaDoor
open Go Go.RowKit Go.BigFrame Go.Maps

theorem cat_bytes2 (s t : List UInt8) : (⟨s.toArray⟩ : ByteArray) ++ ⟨t.toArray⟩ = ⟨(s ++ t).toArray⟩ := ByteArray.ext (by rw [ByteArray.data_append]; simp)
theorem retS {a b : ByteArray} (h : a = b) : Ending.returned (.string a) = .returned (.string b) := by rw [h]
theorem bytes_eq {a : ByteArray} {l : List UInt8} (h : a.data.toList = l) : a = ⟨l.toArray⟩ := by subst h; rfl
set_option maxRecDepth 100000 in
set_option maxHeartbeats 1600000 in
theorem line_most (x : Stp) (w : World) (hx : Hid (Fine x)) (hs : shortS x = true) (hk : x.kind = 1 ∨ x.kind = 2 ∨ x.kind = 3 ∨ x.kind = 4 ∨ x.kind = 5 ∨ x.kind = 6 ∨ x.kind = 7) :
    Calls Tryd.prog 26 #[.agg x.cells] w fun e w' => e = .returned (.string ⟨(lineD x).toArray⟩) ∧ Below w.heap.size w w' := by
  obtain ⟨k, n, p, ak, an, d⟩ := x
  have hp : p.length ≤ 100 := by unfold shortS at hs; simp at hs; omega
  have hil : (Lib.itoa n).length ≤ 20 := ritoa_len hx.out.n0 hx.out.n1
  have hsz1 : (⟨p.toArray⟩ : ByteArray).size = p.length := by simp [ByteArray.size]
  have hsz2 : (⟨(Lib.itoa n).toArray⟩ : ByteArray).size = (Lib.itoa n).length := by simp [ByteArray.size]
  simp only [Stp.cells] at hk ⊢
  obtain ⟨w1, hw1⟩ : ∃ W, Hid (w.alloc (.cells #[.int .i64 k, .int .i64 n, .string ⟨p.toArray⟩, .int .i64 ak, .int .i64 an, .string ⟨d.toArray⟩] 49) = W) := ⟨_, rfl⟩
  have hb1 : Hid (Below w.heap.size w w1) := by rw [← hw1.out]; exact (Below.refl _ w).alloc (Nat.le_refl _) _
  have hx1 : Hid (Blk w1 w.heap.size 49 #[.int .i64 k, .int .i64 n, .string ⟨p.toArray⟩, .int .i64 ak, .int .i64 an, .string ⟨d.toArray⟩]) := by rw [← hw1.out]; exact Lib.hid (Blk.new _ _ _)
  have c1 : w1.cell? ⟨w.heap.size, 1, none⟩ = some (.int .i64 n) := hx1.out.cell 1
  have hdg := Lib.hid (dig_any n w1 hx.out.n0 hx.out.n1)
  go_enter Tryd.func26, Tryd.ntmps26
  go_wp2_with (rw [hw1.out])
  refine hdg.out.mono ?_
  rintro e w2 ⟨rfl, hb2⟩
  have hx2 := Lib.hid (hx1.out.below hb2 hx1.out.lt)
  have hB2 : Hid (Below w.heap.size w w2) := hb1.out.trans (hb2.mono hb1.out.size)
  clear hdg hb2 c1 hs
  have c0 : w2.cell? ⟨w.heap.size, 0, none⟩ = some (.int .i64 k) := hx2.out.cell 0
  have c2 : w2.cell? ⟨w.heap.size, 2, none⟩ = some (.string ⟨p.toArray⟩) := hx2.out.cell 2
  rcases hk with rfl | rfl | rfl | rfl | rfl | rfl | rfl
  all_goals
    go_wp2_with fail
    go_ret
    exact ⟨retS (bytes_eq (by simp [lineD] <;> rfl)), hB2.out⟩
end Go.Proofs.YtheiogafjinihaaDoor

/- The document's Right, walked: further kinds. (Printed by gen_rg.py out of Rg.) -/
import Derived.Test.YtheiogafjinihaaDoorRg
namespace Go.Proofs.YtheiogafjinihaaDoor
open Go Go.RowKit Go.BigFrame Go.Maps

set_option maxRecDepth 100000 in
set_option maxHeartbeats 1600000 in
theorem right_party (k n ak an : Int) (p d : List UInt8) (w : World) (hp : p.length ≤ maxLen) (hk : k = 5 ∨ k = 7) :
    Calls Tryd.prog 25 #[.agg #[.int .i64 k, .int .i64 n, .string ⟨p.toArray⟩, .int .i64 ak, .int .i64 an, .string ⟨d.toArray⟩]] w fun e w' => e = .returned (.bool ((decide (n = 0) && decide (ak = 0) && decide (an = 0) && decide (d = [])) && nameB p)) ∧ Below w.heap.size w w' := by
  have he := fun W => eql_step ⟨k, n, p, ak, an, d⟩ ⟨k, 0, p, 0, 0, []⟩ W
  rw [eq_party] at he
  obtain ⟨b, hb⟩ : ∃ b, Hid ((decide (n = 0) && decide (ak = 0) && decide (an = 0) && decide (d = [])) = b) := ⟨_, Lib.hid rfl⟩
  rw [hb.out] at he ⊢
  obtain ⟨ab, hab⟩ : ∃ b, Hid (nameB p = b) := ⟨_, Lib.hid rfl⟩
  rw [hab.out]
  simp only [Stp.cells] at he
  have hqg := Tryd.eqg49
  obtain ⟨w1, hw1⟩ : ∃ W, Hid (w.alloc (.cells #[.int .i64 k, .int .i64 n, .string ⟨p.toArray⟩, .int .i64 ak, .int .i64 an, .string ⟨d.toArray⟩] 49) = W) := ⟨_, rfl⟩
  have hb1 : Hid (Below w.heap.size w w1) := by rw [← hw1.out]; exact (Below.refl _ w).alloc (Nat.le_refl _) _
  have hx1 : Hid (Blk w1 w.heap.size 49 #[.int .i64 k, .int .i64 n, .string ⟨p.toArray⟩, .int .i64 ak, .int .i64 an, .string ⟨d.toArray⟩]) := by rw [← hw1.out]; exact Lib.hid (Blk.new _ _ _)
  obtain ⟨w2, hw2⟩ : ∃ W, Hid (w1.alloc (.cells #[.int .i64 0, .int .i64 0, .string ⟨#[]⟩, .int .i64 0, .int .i64 0, .string ⟨#[]⟩] 49) = W) := ⟨_, rfl⟩
  have hb2 : Hid (Below w1.heap.size w1 w2) := by rw [← hw2.out]; exact (Below.refl _ w1).alloc (Nat.le_refl _) _
  have hy2 : Hid (Blk w2 w1.heap.size 49 #[.int .i64 0, .int .i64 0, .string ⟨#[]⟩, .int .i64 0, .int .i64 0, .string ⟨#[]⟩]) := by rw [← hw2.out]; exact Lib.hid (Blk.new _ _ _)
  have hx2 := Lib.hid (hx1.out.below hb2.out hx1.out.lt)
  have c0 : w1.cell? ⟨w.heap.size, 0, none⟩ = some (.int .i64 k) := hx1.out.cell 0
  have hne : Hid (w.heap.size ≠ w1.heap.size) := by have := hx1.out.lt; unfold Hid; omega
  go_enter Tryd.func25, Tryd.ntmps25
  go_upto_region 1 with (rw [hw1.out])
  go_upto_region 2 with (first | (rw [hw2.out]) | (refine wpList_put_blk rfl 49 _ _ rfl w1.heap.size _ (#[.int .i64 k, .int .i64 0, .string ⟨#[]⟩, .int .i64 0, .int .i64 0, .string ⟨#[]⟩]) 49 rfl rfl hy2.out rfl (by kernel_rfl) (by simp [Value.oneCell']) ?_; intro w3 hy3 hu3; have hY3 := Lib.hid hy3; have hX3 := Lib.hid (hx2.out.but hu3 hne.out); have hU3 := Lib.hid hu3; clear hy3 hu3))
  have hk3 := hX3.out.cell 0
  simp only [List.getElem?_toArray, List.getElem?_cons_zero] at hk3
  rcases hk with rfl | rfl
  · have hn3 := hX3.out.cell 2
    simp only [List.getElem?_toArray, List.getElem?_cons_succ, List.getElem?_cons_zero] at hn3
    go_upto_region 16 with (refine wpList_puto rfl 9 _ _ rfl w1.heap.size 2 (#[.int .i64 5, .int .i64 0, .string ⟨#[]⟩, .int .i64 0, .int .i64 0, .string ⟨#[]⟩]) (#[.int .i64 5, .int .i64 0, .string ⟨p.toArray⟩, .int .i64 0, .int .i64 0, .string ⟨#[]⟩]) 49 (.string ⟨p.toArray⟩) rfl rfl hY3.out (by simp) rfl (by kernel_rfl) rfl ?_; intro w4 hy4 _ hu4; have hY4 := Lib.hid hy4; have hX4 := Lib.hid (hX3.out.but hu4 hne.out); have hU4 := Lib.hid hu4; clear hy4 hu4)
    have hn4 := hX4.out.cell 2
    simp only [List.getElem?_toArray, List.getElem?_cons_succ, List.getElem?_cons_zero] at hn4
    have hbel : Hid (Below w.heap.size w w4) := Lib.hid (hU4.out.to_below (hU3.out.to_below (hb1.out.trans (hb2.out.mono hb1.out.size)) (by have := hne.out; have := hx1.out.lt; omega) (by have := hb1.out.size; have := hb2.out.size; omega)) (by have := hx1.out.lt; omega) (by have := hX3.out.lt; omega))
    cases b
    all_goals
      go_wp2_with (first | (refine wpList_get_blk rfl 49 _ rfl w.heap.size (#[.int .i64 5, .int .i64 n, .string ⟨p.toArray⟩, .int .i64 ak, .int .i64 an, .string ⟨d.toArray⟩]) 49 _ rfl hX4.out Tryd.underlying49 rfl (by kernel_rfl) ?_) | (refine wpList_get_blk rfl 49 _ rfl w1.heap.size (#[.int .i64 5, .int .i64 0, .string ⟨p.toArray⟩, .int .i64 0, .int .i64 0, .string ⟨#[]⟩]) 49 _ rfl hY4.out Tryd.underlying49 rfl (by kernel_rfl) ?_) | (go_at_call 49; refine (rname_any p _ hp).mono ?_; rintro e w' ⟨rfl, rfl⟩; rw [hab.out]))
      go_ret
      exact ⟨by cases ab <;> rfl, hbel.out⟩
  · have hn3 := hX3.out.cell 2
    simp only [List.getElem?_toArray, List.getElem?_cons_succ, List.getElem?_cons_zero] at hn3
    go_upto_region 16 with (refine wpList_puto rfl 9 _ _ rfl w1.heap.size 2 (#[.int .i64 7, .int .i64 0, .string ⟨#[]⟩, .int .i64 0, .int .i64 0, .string ⟨#[]⟩]) (#[.int .i64 7, .int .i64 0, .string ⟨p.toArray⟩, .int .i64 0, .int .i64 0, .string ⟨#[]⟩]) 49 (.string ⟨p.toArray⟩) rfl rfl hY3.out (by simp) rfl (by kernel_rfl) rfl ?_; intro w4 hy4 _ hu4; have hY4 := Lib.hid hy4; have hX4 := Lib.hid (hX3.out.but hu4 hne.out); have hU4 := Lib.hid hu4; clear hy4 hu4)
    have hn4 := hX4.out.cell 2
    simp only [List.getElem?_toArray, List.getElem?_cons_succ, List.getElem?_cons_zero] at hn4
    have hbel : Hid (Below w.heap.size w w4) := Lib.hid (hU4.out.to_below (hU3.out.to_below (hb1.out.trans (hb2.out.mono hb1.out.size)) (by have := hne.out; have := hx1.out.lt; omega) (by have := hb1.out.size; have := hb2.out.size; omega)) (by have := hx1.out.lt; omega) (by have := hX3.out.lt; omega))
    cases b
    all_goals
      go_wp2_with (first | (refine wpList_get_blk rfl 49 _ rfl w.heap.size (#[.int .i64 7, .int .i64 n, .string ⟨p.toArray⟩, .int .i64 ak, .int .i64 an, .string ⟨d.toArray⟩]) 49 _ rfl hX4.out Tryd.underlying49 rfl (by kernel_rfl) ?_) | (refine wpList_get_blk rfl 49 _ rfl w1.heap.size (#[.int .i64 7, .int .i64 0, .string ⟨p.toArray⟩, .int .i64 0, .int .i64 0, .string ⟨#[]⟩]) 49 _ rfl hY4.out Tryd.underlying49 rfl (by kernel_rfl) ?_) | (go_at_call 49; refine (rname_any p _ hp).mono ?_; rintro e w' ⟨rfl, rfl⟩; rw [hab.out]))
      go_ret
      exact ⟨by cases ab <;> rfl, hbel.out⟩
set_option maxRecDepth 100000 in
set_option maxHeartbeats 1600000 in
theorem right_day (n ak an : Int) (p d : List UInt8) (w : World) :
    Calls Tryd.prog 25 #[.agg #[.int .i64 4, .int .i64 n, .string ⟨p.toArray⟩, .int .i64 ak, .int .i64 an, .string ⟨d.toArray⟩]] w fun e w' => e = .returned (.bool (decide ((⟨4, n, p, ak, an, d⟩ : Stp) = stp0 4))) ∧ Below w.heap.size w w' := by
  have he := fun W => eql_step ⟨4, n, p, ak, an, d⟩ ⟨4, 0, [], 0, 0, []⟩ W
  rw [eq_day] at he
  obtain ⟨b, hb⟩ : ∃ b, Hid (decide ((⟨4, n, p, ak, an, d⟩ : Stp) = stp0 4) = b) := ⟨_, Lib.hid rfl⟩
  rw [hb.out] at he ⊢
  simp only [Stp.cells] at he
  have hqg := Tryd.eqg49
  obtain ⟨w1, hw1⟩ : ∃ W, Hid (w.alloc (.cells #[.int .i64 4, .int .i64 n, .string ⟨p.toArray⟩, .int .i64 ak, .int .i64 an, .string ⟨d.toArray⟩] 49) = W) := ⟨_, rfl⟩
  have hb1 : Hid (Below w.heap.size w w1) := by rw [← hw1.out]; exact (Below.refl _ w).alloc (Nat.le_refl _) _
  have hx1 : Hid (Blk w1 w.heap.size 49 #[.int .i64 4, .int .i64 n, .string ⟨p.toArray⟩, .int .i64 ak, .int .i64 an, .string ⟨d.toArray⟩]) := by rw [← hw1.out]; exact Lib.hid (Blk.new _ _ _)
  obtain ⟨w2, hw2⟩ : ∃ W, Hid (w1.alloc (.cells #[.int .i64 0, .int .i64 0, .string ⟨#[]⟩, .int .i64 0, .int .i64 0, .string ⟨#[]⟩] 49) = W) := ⟨_, rfl⟩
  have hb2 : Hid (Below w1.heap.size w1 w2) := by rw [← hw2.out]; exact (Below.refl _ w1).alloc (Nat.le_refl _) _
  have hy2 : Hid (Blk w2 w1.heap.size 49 #[.int .i64 0, .int .i64 0, .string ⟨#[]⟩, .int .i64 0, .int .i64 0, .string ⟨#[]⟩]) := by rw [← hw2.out]; exact Lib.hid (Blk.new _ _ _)
  have hx2 := Lib.hid (hx1.out.below hb2.out hx1.out.lt)
  have c0 : w1.cell? ⟨w.heap.size, 0, none⟩ = some (.int .i64 4) := hx1.out.cell 0
  have hne : Hid (w.heap.size ≠ w1.heap.size) := by have := hx1.out.lt; unfold Hid; omega
  go_enter Tryd.func25, Tryd.ntmps25
  go_upto_region 1 with (rw [hw1.out])
  go_upto_region 2 with (first | (rw [hw2.out]) | (refine wpList_put_blk rfl 49 _ _ rfl w1.heap.size _ (#[.int .i64 4, .int .i64 0, .string ⟨#[]⟩, .int .i64 0, .int .i64 0, .string ⟨#[]⟩]) 49 rfl rfl hy2.out rfl (by kernel_rfl) (by simp [Value.oneCell']) ?_; intro w3 hy3 hu3; have hY3 := Lib.hid hy3; have hX3 := Lib.hid (hx2.out.but hu3 hne.out); have hU3 := Lib.hid hu3; clear hy3 hu3))
  have hk3 := hX3.out.cell 0
  simp only [List.getElem?_toArray, List.getElem?_cons_zero] at hk3
  have hbel : Hid (Below w.heap.size w w3) := Lib.hid (hU3.out.to_below (hb1.out.trans (hb2.out.mono hb1.out.size)) (by have := hx1.out.lt; omega) (by have := hb1.out.size; have := hb2.out.size; omega))
  cases b
  all_goals
    go_wp2_with (first | (refine wpList_get_blk rfl 49 _ rfl w.heap.size (#[.int .i64 4, .int .i64 n, .string ⟨p.toArray⟩, .int .i64 ak, .int .i64 an, .string ⟨d.toArray⟩]) 49 _ rfl hX3.out Tryd.underlying49 rfl (by kernel_rfl) ?_) | (refine wpList_get_blk rfl 49 _ rfl w1.heap.size (#[.int .i64 4, .int .i64 0, .string ⟨#[]⟩, .int .i64 0, .int .i64 0, .string ⟨#[]⟩]) 49 _ rfl hY3.out Tryd.underlying49 rfl (by kernel_rfl) ?_))
    go_ret
    exact ⟨rfl, hbel.out⟩
set_option maxRecDepth 100000 in
set_option maxHeartbeats 1600000 in
theorem right_none (k n ak an : Int) (p d : List UInt8) (w : World) (hk : k < 0 ∨ 8 ≤ k) :
    Calls Tryd.prog 25 #[.agg #[.int .i64 k, .int .i64 n, .string ⟨p.toArray⟩, .int .i64 ak, .int .i64 an, .string ⟨d.toArray⟩]] w fun e w' => e = .returned (.bool false) ∧ Below w.heap.size w w' := by
  obtain ⟨w1, hw1⟩ : ∃ W, Hid (w.alloc (.cells #[.int .i64 k, .int .i64 n, .string ⟨p.toArray⟩, .int .i64 ak, .int .i64 an, .string ⟨d.toArray⟩] 49) = W) := ⟨_, rfl⟩
  have hb1 : Hid (Below w.heap.size w w1) := by rw [← hw1.out]; exact (Below.refl _ w).alloc (Nat.le_refl _) _
  have hx1 : Hid (Blk w1 w.heap.size 49 #[.int .i64 k, .int .i64 n, .string ⟨p.toArray⟩, .int .i64 ak, .int .i64 an, .string ⟨d.toArray⟩]) := by rw [← hw1.out]; exact Lib.hid (Blk.new _ _ _)
  obtain ⟨w2, hw2⟩ : ∃ W, Hid (w1.alloc (.cells #[.int .i64 0, .int .i64 0, .string ⟨#[]⟩, .int .i64 0, .int .i64 0, .string ⟨#[]⟩] 49) = W) := ⟨_, rfl⟩
  have hb2 : Hid (Below w1.heap.size w1 w2) := by rw [← hw2.out]; exact (Below.refl _ w1).alloc (Nat.le_refl _) _
  have hy2 : Hid (Blk w2 w1.heap.size 49 #[.int .i64 0, .int .i64 0, .string ⟨#[]⟩, .int .i64 0, .int .i64 0, .string ⟨#[]⟩]) := by rw [← hw2.out]; exact Lib.hid (Blk.new _ _ _)
  have hx2 := Lib.hid (hx1.out.below hb2.out hx1.out.lt)
  have c0 : w1.cell? ⟨w.heap.size, 0, none⟩ = some (.int .i64 k) := hx1.out.cell 0
  have hne : Hid (w.heap.size ≠ w1.heap.size) := by have := hx1.out.lt; unfold Hid; omega
  go_enter Tryd.func25, Tryd.ntmps25
  go_upto_region 1 with (rw [hw1.out])
  go_upto_region 2 with (first | (rw [hw2.out]) | (refine wpList_put_blk rfl 49 _ _ rfl w1.heap.size _ (#[.int .i64 k, .int .i64 0, .string ⟨#[]⟩, .int .i64 0, .int .i64 0, .string ⟨#[]⟩]) 49 rfl rfl hy2.out rfl (by kernel_rfl) (by simp [Value.oneCell']) ?_; intro w3 hy3 hu3; have hY3 := Lib.hid hy3; have hX3 := Lib.hid (hx2.out.but hu3 hne.out); have hU3 := Lib.hid hu3; clear hy3 hu3))
  have hk3 := hX3.out.cell 0
  simp only [List.getElem?_toArray, List.getElem?_cons_zero] at hk3
  have f0 : (k == 0) = false := by simp; omega
  have g0 : decide (k = 0) = false := by simp; omega
  have f1 : (k == 1) = false := by simp; omega
  have g1 : decide (k = 1) = false := by simp; omega
  have f2 : (k == 2) = false := by simp; omega
  have g2 : decide (k = 2) = false := by simp; omega
  have f3 : (k == 3) = false := by simp; omega
  have g3 : decide (k = 3) = false := by simp; omega
  have f4 : (k == 4) = false := by simp; omega
  have g4 : decide (k = 4) = false := by simp; omega
  have f5 : (k == 5) = false := by simp; omega
  have g5 : decide (k = 5) = false := by simp; omega
  have f6 : (k == 6) = false := by simp; omega
  have g6 : decide (k = 6) = false := by simp; omega
  have f7 : (k == 7) = false := by simp; omega
  have g7 : decide (k = 7) = false := by simp; omega
  have hbel : Hid (Below w.heap.size w w3) := Lib.hid (hU3.out.to_below (hb1.out.trans (hb2.out.mono hb1.out.size)) (by have := hx1.out.lt; omega) (by have := hb1.out.size; have := hb2.out.size; omega))
  go_wp2_with fail
  go_ret
  exact ⟨rfl, hbel.out⟩
end Go.Proofs.YtheiogafjinihaaDoor

/- The document's Right, walked. -/
import Derived.Test.YtheiogafjinihaaDoorNm
namespace Go.Proofs.YtheiogafjinihaaDoor
open Go Go.RowKit Go.BigFrame Go.Maps

theorem eq_num (k n ak an : Int) (p d : List UInt8) : eqS ⟨k, n, p, ak, an, d⟩ ⟨k, n, [], 0, 0, []⟩ = (decide (p = []) && decide (ak = 0) && decide (an = 0) && decide (d = [])) := by
  rw [eqS_iff]
  simp only [Stp.mk.injEq, true_and, Bool.decide_and, Bool.and_assoc]
theorem eq_day (n ak an : Int) (p d : List UInt8) : eqS ⟨4, n, p, ak, an, d⟩ ⟨4, 0, [], 0, 0, []⟩ = decide ((⟨4, n, p, ak, an, d⟩ : Stp) = stp0 4) := by
  rw [eqS_iff]; rfl
theorem eq_party (k n ak an : Int) (p d : List UInt8) : eqS ⟨k, n, p, ak, an, d⟩ ⟨k, 0, p, 0, 0, []⟩ = (decide (n = 0) && decide (ak = 0) && decide (an = 0) && decide (d = [])) := by
  rw [eqS_iff]
  simp only [Stp.mk.injEq, true_and, Bool.decide_and, Bool.and_assoc]
set_option maxRecDepth 100000 in
set_option maxHeartbeats 1600000 in
theorem right_num (k n ak an : Int) (p d : List UInt8) (w : World) (hk : k = 1 ∨ k = 2 ∨ k = 3) :
    Calls Tryd.prog 25 #[.agg #[.int .i64 k, .int .i64 n, .string ⟨p.toArray⟩, .int .i64 ak, .int .i64 an, .string ⟨d.toArray⟩]] w fun e w' => e = .returned (.bool ((decide (p = []) && decide (ak = 0) && decide (an = 0) && decide (d = [])) && amongB n)) ∧ Below w.heap.size w w' := by
  have he := fun W => eql_step ⟨k, n, p, ak, an, d⟩ ⟨k, n, [], 0, 0, []⟩ W
  rw [eq_num] at he
  obtain ⟨b, hb⟩ : ∃ b, Hid ((decide (p = []) && decide (ak = 0) && decide (an = 0) && decide (d = [])) = b) := ⟨_, Lib.hid rfl⟩
  rw [hb.out] at he ⊢
  obtain ⟨ab, hab⟩ : ∃ b, Hid (amongB n = b) := ⟨_, Lib.hid rfl⟩
  rw [hab.out]
  simp only [Stp.cells] at he
  have hqg := Tryd.eqg49
  obtain ⟨w1, hw1⟩ : ∃ W, Hid (w.alloc (.cells #[.int .i64 k, .int .i64 n, .string ⟨p.toArray⟩, .int .i64 ak, .int .i64 an, .string ⟨d.toArray⟩] 49) = W) := ⟨_, rfl⟩
  have hb1 : Hid (Below w.heap.size w w1) := by rw [← hw1.out]; exact (Below.refl _ w).alloc (Nat.le_refl _) _
  have hx1 : Hid (Blk w1 w.heap.size 49 #[.int .i64 k, .int .i64 n, .string ⟨p.toArray⟩, .int .i64 ak, .int .i64 an, .string ⟨d.toArray⟩]) := by rw [← hw1.out]; exact Lib.hid (Blk.new _ _ _)
  obtain ⟨w2, hw2⟩ : ∃ W, Hid (w1.alloc (.cells #[.int .i64 0, .int .i64 0, .string ⟨#[]⟩, .int .i64 0, .int .i64 0, .string ⟨#[]⟩] 49) = W) := ⟨_, rfl⟩
  have hb2 : Hid (Below w1.heap.size w1 w2) := by rw [← hw2.out]; exact (Below.refl _ w1).alloc (Nat.le_refl _) _
  have hy2 : Hid (Blk w2 w1.heap.size 49 #[.int .i64 0, .int .i64 0, .string ⟨#[]⟩, .int .i64 0, .int .i64 0, .string ⟨#[]⟩]) := by rw [← hw2.out]; exact Lib.hid (Blk.new _ _ _)
  have hx2 := Lib.hid (hx1.out.below hb2.out hx1.out.lt)
  have c0 : w1.cell? ⟨w.heap.size, 0, none⟩ = some (.int .i64 k) := hx1.out.cell 0
  have hne : Hid (w.heap.size ≠ w1.heap.size) := by have := hx1.out.lt; unfold Hid; omega
  go_enter Tryd.func25, Tryd.ntmps25
  go_upto_region 1 with (rw [hw1.out])
  go_upto_region 2 with (first | (rw [hw2.out]) | (refine wpList_put_blk rfl 49 _ _ rfl w1.heap.size _ (#[.int .i64 k, .int .i64 0, .string ⟨#[]⟩, .int .i64 0, .int .i64 0, .string ⟨#[]⟩]) 49 rfl rfl hy2.out rfl (by kernel_rfl) (by simp [Value.oneCell']) ?_; intro w3 hy3 hu3; have hY3 := Lib.hid hy3; have hX3 := Lib.hid (hx2.out.but hu3 hne.out); have hU3 := Lib.hid hu3; clear hy3 hu3))
  have hk3 := hX3.out.cell 0
  simp only [List.getElem?_toArray, List.getElem?_cons_zero] at hk3
  rcases hk with rfl | rfl | rfl
  · have hn3 := hX3.out.cell 1
    simp only [List.getElem?_toArray, List.getElem?_cons_succ, List.getElem?_cons_zero] at hn3
    go_upto_region 10 with (refine wpList_puto rfl 3 _ _ rfl w1.heap.size 1 (#[.int .i64 1, .int .i64 0, .string ⟨#[]⟩, .int .i64 0, .int .i64 0, .string ⟨#[]⟩]) (#[.int .i64 1, .int .i64 n, .string ⟨#[]⟩, .int .i64 0, .int .i64 0, .string ⟨#[]⟩]) 49 (.int .i64 n) rfl rfl hY3.out (by simp) rfl (by kernel_rfl) rfl ?_; intro w4 hy4 _ hu4; have hY4 := Lib.hid hy4; have hX4 := Lib.hid (hX3.out.but hu4 hne.out); have hU4 := Lib.hid hu4; clear hy4 hu4)
    have hn4 := hX4.out.cell 1
    simp only [List.getElem?_toArray, List.getElem?_cons_succ, List.getElem?_cons_zero] at hn4
    have hbel : Hid (Below w.heap.size w w4) := Lib.hid (hU4.out.to_below (hU3.out.to_below (hb1.out.trans (hb2.out.mono hb1.out.size)) (by have := hne.out; have := hx1.out.lt; omega) (by have := hb1.out.size; have := hb2.out.size; omega)) (by have := hx1.out.lt; omega) (by have := hX3.out.lt; omega))
    cases b
    all_goals
      go_wp2_with (first | (refine wpList_get_blk rfl 49 _ rfl w.heap.size (#[.int .i64 1, .int .i64 n, .string ⟨p.toArray⟩, .int .i64 ak, .int .i64 an, .string ⟨d.toArray⟩]) 49 _ rfl hX4.out Tryd.underlying49 rfl (by kernel_rfl) ?_) | (refine wpList_get_blk rfl 49 _ rfl w1.heap.size (#[.int .i64 1, .int .i64 n, .string ⟨#[]⟩, .int .i64 0, .int .i64 0, .string ⟨#[]⟩]) 49 _ rfl hY4.out Tryd.underlying49 rfl (by kernel_rfl) ?_) | (go_at_call 50; refine (rin_any n _).mono ?_; rintro e w' ⟨rfl, rfl⟩; rw [hab.out]))
      go_ret
      exact ⟨by cases ab <;> rfl, hbel.out⟩
  · have hn3 := hX3.out.cell 1
    simp only [List.getElem?_toArray, List.getElem?_cons_succ, List.getElem?_cons_zero] at hn3
    go_upto_region 10 with (refine wpList_puto rfl 3 _ _ rfl w1.heap.size 1 (#[.int .i64 2, .int .i64 0, .string ⟨#[]⟩, .int .i64 0, .int .i64 0, .string ⟨#[]⟩]) (#[.int .i64 2, .int .i64 n, .string ⟨#[]⟩, .int .i64 0, .int .i64 0, .string ⟨#[]⟩]) 49 (.int .i64 n) rfl rfl hY3.out (by simp) rfl (by kernel_rfl) rfl ?_; intro w4 hy4 _ hu4; have hY4 := Lib.hid hy4; have hX4 := Lib.hid (hX3.out.but hu4 hne.out); have hU4 := Lib.hid hu4; clear hy4 hu4)
    have hn4 := hX4.out.cell 1
    simp only [List.getElem?_toArray, List.getElem?_cons_succ, List.getElem?_cons_zero] at hn4
    have hbel : Hid (Below w.heap.size w w4) := Lib.hid (hU4.out.to_below (hU3.out.to_below (hb1.out.trans (hb2.out.mono hb1.out.size)) (by have := hne.out; have := hx1.out.lt; omega) (by have := hb1.out.size; have := hb2.out.size; omega)) (by have := hx1.out.lt; omega) (by have := hX3.out.lt; omega))
    cases b
    all_goals
      go_wp2_with (first | (refine wpList_get_blk rfl 49 _ rfl w.heap.size (#[.int .i64 2, .int .i64 n, .string ⟨p.toArray⟩, .int .i64 ak, .int .i64 an, .string ⟨d.toArray⟩]) 49 _ rfl hX4.out Tryd.underlying49 rfl (by kernel_rfl) ?_) | (refine wpList_get_blk rfl 49 _ rfl w1.heap.size (#[.int .i64 2, .int .i64 n, .string ⟨#[]⟩, .int .i64 0, .int .i64 0, .string ⟨#[]⟩]) 49 _ rfl hY4.out Tryd.underlying49 rfl (by kernel_rfl) ?_) | (go_at_call 50; refine (rin_any n _).mono ?_; rintro e w' ⟨rfl, rfl⟩; rw [hab.out]))
      go_ret
      exact ⟨by cases ab <;> rfl, hbel.out⟩
  · have hn3 := hX3.out.cell 1
    simp only [List.getElem?_toArray, List.getElem?_cons_succ, List.getElem?_cons_zero] at hn3
    go_upto_region 10 with (refine wpList_puto rfl 3 _ _ rfl w1.heap.size 1 (#[.int .i64 3, .int .i64 0, .string ⟨#[]⟩, .int .i64 0, .int .i64 0, .string ⟨#[]⟩]) (#[.int .i64 3, .int .i64 n, .string ⟨#[]⟩, .int .i64 0, .int .i64 0, .string ⟨#[]⟩]) 49 (.int .i64 n) rfl rfl hY3.out (by simp) rfl (by kernel_rfl) rfl ?_; intro w4 hy4 _ hu4; have hY4 := Lib.hid hy4; have hX4 := Lib.hid (hX3.out.but hu4 hne.out); have hU4 := Lib.hid hu4; clear hy4 hu4)
    have hn4 := hX4.out.cell 1
    simp only [List.getElem?_toArray, List.getElem?_cons_succ, List.getElem?_cons_zero] at hn4
    have hbel : Hid (Below w.heap.size w w4) := Lib.hid (hU4.out.to_below (hU3.out.to_below (hb1.out.trans (hb2.out.mono hb1.out.size)) (by have := hne.out; have := hx1.out.lt; omega) (by have := hb1.out.size; have := hb2.out.size; omega)) (by have := hx1.out.lt; omega) (by have := hX3.out.lt; omega))
    cases b
    all_goals
      go_wp2_with (first | (refine wpList_get_blk rfl 49 _ rfl w.heap.size (#[.int .i64 3, .int .i64 n, .string ⟨p.toArray⟩, .int .i64 ak, .int .i64 an, .string ⟨d.toArray⟩]) 49 _ rfl hX4.out Tryd.underlying49 rfl (by kernel_rfl) ?_) | (refine wpList_get_blk rfl 49 _ rfl w1.heap.size (#[.int .i64 3, .int .i64 n, .string ⟨#[]⟩, .int .i64 0, .int .i64 0, .string ⟨#[]⟩]) 49 _ rfl hY4.out Tryd.underlying49 rfl (by kernel_rfl) ?_) | (go_at_call 50; refine (rin_any n _).mono ?_; rintro e w' ⟨rfl, rfl⟩; rw [hab.out]))
      go_ret
      exact ⟨by cases ab <;> rfl, hbel.out⟩
end Go.Proofs.YtheiogafjinihaaDoor

/- The document's one, Bounds, Most, Least. -/
import Derived.Test.YtbpngfppddigjaaGreatDoorFa
import Derived.Test.YtbpngfppddigjaaGreatDoorEf
namespace Go.Proofs.YtbpngfppddigjaaGreatDoor
open Go Go.RowKit Go.BigFrame Go.Maps

set_option maxRecDepth 100000 in
theorem one_any (kd : Int) (nu is : ByteArray) (A : Option Addr) (m c : Nat) (a : Int) (f : ByteArray) (y : Int) (w : World) :
    Calls Tryz.prog 23 #[.agg #[.int .i64 kd, .string nu, .string is, .slice A m c], .int .i64 a, .string f, .int .i64 y] w fun e w' => e = .returned (⟨a, kd, f, y⟩ : Flt).agg ∧ Below w.heap.size w w' := by
  have hb := Lib.hid (((Below.refl _ w).alloc (Nat.le_refl _) (.cells #[.int .i64 kd, .string nu, .string is, .slice A m c] 45)).alloc (by simp) (.cells #[.int .i64 a, .int .i64 kd, .string f, .int .i64 y] 40))
  have hbk := Lib.hid (blk_second w (.cells #[.int .i64 kd, .string nu, .string is, .slice A m c] 45) 40 #[.int .i64 a, .int .i64 kd, .string f, .int .i64 y])
  go_enter Tryz.func23, Tryz.ntmps23
  go_wp2_with fail
  refine bodyPost_ret (results_cell_row rfl _ _ (w.heap.size + 1) 40 #[.int .i64 a, .int .i64 kd, .string f, .int .i64 y] (0, 0) _ rfl hbk.out Tryz.underlying40 rfl (by kernel_rfl)) rfl ?_
  exact ⟨rfl, hb.out⟩

theorem rbounds_eq (c : Crd) : boundsB c = (decide (1 ≤ c.amount) && (decide (c.amount ≤ 1099511627776) && (decide (0 ≤ c.above) && (decide (c.above ≤ 1000) && (decide (0 ≤ c.below) && (decide (c.below ≤ 1000) && (decide (0 ≤ c.expiry) && decide (c.expiry ≤ 1048576)))))))) := by
  unfold boundsB; simp only [Bool.decide_and]
set_option maxRecDepth 100000 in
set_option maxHeartbeats 1600000 in
theorem rbounds_any (C : Array Value) (c : Crd) (hC : Hid (CrdAt C c)) (w : World) :
    Calls Tryz.prog 25 #[.agg C] w fun e w' => e = .returned (.bool (boundsB c)) ∧ Below w.heap.size w w' := by
  have hb0 := Lib.hid ((Below.refl _ w).alloc (Nat.le_refl _) (.cells C 26))
  have hbk := Blk.new w 26 C
  have c8 : (w.alloc (.cells C 26)).cell? ⟨w.heap.size, 8, none⟩ = some (.int .i64 c.amount) := (hbk.cell 8).trans hC.out.amount
  have c9 : (w.alloc (.cells C 26)).cell? ⟨w.heap.size, 9, none⟩ = some (.int .i64 c.above) := (hbk.cell 9).trans hC.out.above
  have c10 : (w.alloc (.cells C 26)).cell? ⟨w.heap.size, 10, none⟩ = some (.int .i64 c.below) := (hbk.cell 10).trans hC.out.below
  have c12 : (w.alloc (.cells C 26)).cell? ⟨w.heap.size, 12, none⟩ = some (.int .i64 c.expiry) := (hbk.cell 12).trans hC.out.expiry
  clear hbk
  have hbd := Lib.hid (rbounds_eq c)
  cases e1 : decide (1 ≤ c.amount)
  · go_enter Tryz.func25, Tryz.ntmps25
    go_wp2_with fail
    go_ret
    exact ⟨retBl (by rw [hbd.out]; simp [e1]), hb0.out⟩
  cases e2 : decide (c.amount ≤ 1099511627776)
  · go_enter Tryz.func25, Tryz.ntmps25
    go_wp2_with fail
    go_ret
    exact ⟨retBl (by rw [hbd.out]; simp [e1, e2]), hb0.out⟩
  cases e3 : decide (0 ≤ c.above)
  · go_enter Tryz.func25, Tryz.ntmps25
    go_wp2_with fail
    go_ret
    exact ⟨retBl (by rw [hbd.out]; simp [e1, e2, e3]), hb0.out⟩
  cases e4 : decide (c.above ≤ 1000)
  · go_enter Tryz.func25, Tryz.ntmps25
    go_wp2_with fail
    go_ret
    exact ⟨retBl (by rw [hbd.out]; simp [e1, e2, e3, e4]), hb0.out⟩
  cases e5 : decide (0 ≤ c.below)
  · go_enter Tryz.func25, Tryz.ntmps25
    go_wp2_with fail
    go_ret
    exact ⟨retBl (by rw [hbd.out]; simp [e1, e2, e3, e4, e5]), hb0.out⟩
  cases e6 : decide (c.below ≤ 1000)
  · go_enter Tryz.func25, Tryz.ntmps25
    go_wp2_with fail
    go_ret
    exact ⟨retBl (by rw [hbd.out]; simp [e1, e2, e3, e4, e5, e6]), hb0.out⟩
  cases e7 : decide (0 ≤ c.expiry)
  · go_enter Tryz.func25, Tryz.ntmps25
    go_wp2_with fail
    go_ret
    exact ⟨retBl (by rw [hbd.out]; simp [e1, e2, e3, e4, e5, e6, e7]), hb0.out⟩
  cases e8 : decide (c.expiry ≤ 1048576)
  · go_enter Tryz.func25, Tryz.ntmps25
    go_wp2_with fail
    go_ret
    exact ⟨retBl (by rw [hbd.out]; simp [e1, e2, e3, e4, e5, e6, e7, e8]), hb0.out⟩
  go_enter Tryz.func25, Tryz.ntmps25
  go_wp2_with fail
  go_ret
  exact ⟨retBl (by rw [hbd.out]; simp [e1, e2, e3, e4, e5, e6, e7, e8]), hb0.out⟩
set_option maxRecDepth 100000 in
set_option maxHeartbeats 1600000 in
theorem rmost_any (C : Array Value) (c : Crd) (hC : Hid (CrdAt C c)) (hb : boundsB c = true) (w : World) :
    Calls Tryz.prog 26 #[.agg C] w fun e w' => e = .returned (.int .i64 (mostC c)) ∧ Below w.heap.size w w' := by
  have hb0 := Lib.hid ((Below.refl _ w).alloc (Nat.le_refl _) (.cells C 26))
  have hbk := Blk.new w 26 C
  have hb := of_decide_eq_true hb
  have c8 : (w.alloc (.cells C 26)).cell? ⟨w.heap.size, 8, none⟩ = some (.int .i64 c.amount) := (hbk.cell 8).trans hC.out.amount
  have c9 : (w.alloc (.cells C 26)).cell? ⟨w.heap.size, 9, none⟩ = some (.int .i64 c.above) := (hbk.cell 9).trans hC.out.above
  clear hbk
  obtain ⟨x1, hx1⟩ : ∃ x, Hid (c.amount = x) := ⟨_, rfl⟩
  obtain ⟨x2, hx2⟩ : ∃ x, Hid (c.above = x) := ⟨_, rfl⟩
  rw [hx1.out] at c8 hb
  rw [hx2.out] at c9 hb
  obtain ⟨h1, h2, h3, h4, _⟩ := hb
  have hp0 : 0 ≤ x1 * (1000 + x2) := Int.mul_nonneg (by omega) (by omega)
  have hp1 : x1 * (1000 + x2) ≤ 1099511627776 * 2000 := Int.mul_le_mul (by omega) (by omega) (by omega) (by omega)
  have hm : Hid (mostC c = x1 * (1000 + x2) / 1000) := by unfold Hid mostC; rw [hx1.out, hx2.out]
  go_enter Tryz.func26, Tryz.ntmps26
  go_wp2_with fail
  go_ret
  exact ⟨by rw [hm.out]; first | done | rfl, hb0.out⟩
set_option maxRecDepth 100000 in
set_option maxHeartbeats 1600000 in
theorem rleast_any (C : Array Value) (c : Crd) (hC : Hid (CrdAt C c)) (hb : boundsB c = true) (w : World) :
    Calls Tryz.prog 27 #[.agg C] w fun e w' => e = .returned (.int .i64 (leastC c)) ∧ Below w.heap.size w w' := by
  have hb0 := Lib.hid ((Below.refl _ w).alloc (Nat.le_refl _) (.cells C 26))
  have hbk := Blk.new w 26 C
  have hb := of_decide_eq_true hb
  have c8 : (w.alloc (.cells C 26)).cell? ⟨w.heap.size, 8, none⟩ = some (.int .i64 c.amount) := (hbk.cell 8).trans hC.out.amount
  have c9 : (w.alloc (.cells C 26)).cell? ⟨w.heap.size, 10, none⟩ = some (.int .i64 c.below) := (hbk.cell 10).trans hC.out.below
  clear hbk
  obtain ⟨x1, hx1⟩ : ∃ x, Hid (c.amount = x) := ⟨_, rfl⟩
  obtain ⟨x2, hx2⟩ : ∃ x, Hid (c.below = x) := ⟨_, rfl⟩
  rw [hx1.out] at c8 hb
  rw [hx2.out] at c9 hb
  obtain ⟨h1, h2, _, _, h3, h4, _⟩ := hb
  have hp0 : 0 ≤ x1 * (1000 - x2) := Int.mul_nonneg (by omega) (by omega)
  have hp1 : x1 * (1000 - x2) ≤ 1099511627776 * 2000 := Int.mul_le_mul (by omega) (by omega) (by omega) (by omega)
  have hm : Hid (leastC c = (x1 * (1000 - x2) + 999) / 1000) := by unfold Hid leastC; rw [hx1.out, hx2.out]
  go_enter Tryz.func27, Tryz.ntmps27
  go_wp2_with fail
  go_ret
  exact ⟨by rw [hm.out]; first | done | rfl, hb0.out⟩

end Go.Proofs.YtbpngfppddigjaaGreatDoor

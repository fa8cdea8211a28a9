/- What the parts' closures show of a step. -/
import Derived.Test.YtheiogafjinihaaDoorFq
import Derived.Test.YtheiogafjinihaaDoorEv
import Derived.Shelf.Abstract
namespace Go.Proofs.YtheiogafjinihaaDoor
open Go Go.RowKit Go.BigFrame Go.Maps

set_option maxRecDepth 100000 in
theorem show_party (x : Stp) (w : World) (hx : x.party.length ≤ maxLen) : Calls Tryd.prog 32 #[.agg x.cells] w fun e w' => e = .returned (.tuple #[.string ⟨(showP x .party).1.toArray⟩, .bool (showP x .party).2]) ∧ Below w.heap.size w w' := by
  obtain ⟨k, n, p, ak, an, d⟩ := x
  simp only [showP, Stp.cells] at hx ⊢
  obtain ⟨w1, hw1⟩ : ∃ W, Hid (w.alloc (.cells #[.int .i64 k, .int .i64 n, .string ⟨p.toArray⟩, .int .i64 ak, .int .i64 an, .string ⟨d.toArray⟩] 49) = W) := ⟨_, rfl⟩
  have hb1 : Hid (Below w.heap.size w w1) := by rw [← hw1.out]; exact (Below.refl _ w).alloc (Nat.le_refl _) _
  have hk1 : Hid (Blk w1 w.heap.size 49 #[.int .i64 k, .int .i64 n, .string ⟨p.toArray⟩, .int .i64 ak, .int .i64 an, .string ⟨d.toArray⟩]) := by rw [← hw1.out]; exact Lib.hid (Blk.new _ _ _)
  have hlt := hk1.out.lt
  have hcl : Hid (∀ y : Ext w1, Calls Tryd.prog 33 #[.string ⟨p.toArray⟩] y.wd fun e w' => e = .returned (.bool (nameB p)) ∧ y.wd = w') := fun y => name_any p y.wd hx
  have r2 : ∀ y : Ext w1, y.wd.cell? ⟨w.heap.size, 2, none⟩ = some (.string ⟨p.toArray⟩) := fun y => (y.cell ⟨w.heap.size, 2, none⟩ hlt).trans (hk1.out.cell 2)
  clear hx
  go_enter Tryd.func32, Tryd.ntmps32
  go_wp2_with (rw [hw1.out])
  refine wp_region_ext (by kernel_rfl) (by kernel_rfl) ?_
  repeat (go_big_quiet_step ((go_at_call 33; exact Calls.ext_of_same (hcl.out _))))
  refine wpQuiet_nil ?_
  rintro _ ⟨y, rfl⟩
  have hby := Lib.hid y.below
  obtain ⟨wy, hwy⟩ : ∃ w6, y.wd = w6 := ⟨_, rfl⟩
  rw [hwy] at hby ⊢
  clear hwy y r2 hcl
  go_wp2_with fail
  go_ret2
  exact ⟨rfl, hb1.out.trans (hby.out.mono hb1.out.size)⟩

set_option maxRecDepth 100000 in
theorem show_deal (x : Stp) (w : World) (hx : x.deal.length ≤ maxLen) : Calls Tryd.prog 35 #[.agg x.cells] w fun e w' => e = .returned (.tuple #[.string ⟨(showP x .deal).1.toArray⟩, .bool (showP x .deal).2]) ∧ Below w.heap.size w w' := by
  obtain ⟨k, n, p, ak, an, d⟩ := x
  simp only [showP, Stp.cells] at hx ⊢
  obtain ⟨w1, hw1⟩ : ∃ W, Hid (w.alloc (.cells #[.int .i64 k, .int .i64 n, .string ⟨p.toArray⟩, .int .i64 ak, .int .i64 an, .string ⟨d.toArray⟩] 49) = W) := ⟨_, rfl⟩
  have hb1 : Hid (Below w.heap.size w w1) := by rw [← hw1.out]; exact (Below.refl _ w).alloc (Nat.le_refl _) _
  have hk1 : Hid (Blk w1 w.heap.size 49 #[.int .i64 k, .int .i64 n, .string ⟨p.toArray⟩, .int .i64 ak, .int .i64 an, .string ⟨d.toArray⟩]) := by rw [← hw1.out]; exact Lib.hid (Blk.new _ _ _)
  have hlt := hk1.out.lt
  have hcl : Hid (∀ y : Ext w1, Calls Tryd.prog 33 #[.string ⟨d.toArray⟩] y.wd fun e w' => e = .returned (.bool (nameB d)) ∧ y.wd = w') := fun y => name_any d y.wd hx
  have r2 : ∀ y : Ext w1, y.wd.cell? ⟨w.heap.size, 5, none⟩ = some (.string ⟨d.toArray⟩) := fun y => (y.cell ⟨w.heap.size, 5, none⟩ hlt).trans (hk1.out.cell 5)
  clear hx
  go_enter Tryd.func35, Tryd.ntmps35
  go_wp2_with (rw [hw1.out])
  refine wp_region_ext (by kernel_rfl) (by kernel_rfl) ?_
  repeat (go_big_quiet_step ((go_at_call 33; exact Calls.ext_of_same (hcl.out _))))
  refine wpQuiet_nil ?_
  rintro _ ⟨y, rfl⟩
  have hby := Lib.hid y.below
  obtain ⟨wy, hwy⟩ : ∃ w6, y.wd = w6 := ⟨_, rfl⟩
  rw [hwy] at hby ⊢
  clear hwy y r2 hcl
  go_wp2_with fail
  go_ret2
  exact ⟨rfl, hb1.out.trans (hby.out.mono hb1.out.size)⟩

set_option maxRecDepth 100000 in
theorem show_act (x : Stp) (w : World) (he : Env w) : Calls Tryd.prog 37 #[.agg x.cells] w fun e w' => e = .returned (.tuple #[.string ⟨(showP x .act).1.toArray⟩, .bool (showP x .act).2]) ∧ Below w.heap.size w w' := by
  obtain ⟨k, n, p, ak, an, d⟩ := x
  simp only [showP, Stp.cells]
  obtain ⟨w1, hw1⟩ : ∃ W, Hid (w.alloc (.cells #[.int .i64 k, .int .i64 n, .string ⟨p.toArray⟩, .int .i64 ak, .int .i64 an, .string ⟨d.toArray⟩] 49) = W) := ⟨_, rfl⟩
  have hb1 : Hid (Below w.heap.size w w1) := by rw [← hw1.out]; exact (Below.refl _ w).alloc (Nat.le_refl _) _
  have hk1 : Hid (Blk w1 w.heap.size 49 #[.int .i64 k, .int .i64 n, .string ⟨p.toArray⟩, .int .i64 ak, .int .i64 an, .string ⟨d.toArray⟩]) := by rw [← hw1.out]; exact Lib.hid (Blk.new _ _ _)
  have hlt := hk1.out.lt
  have he1 := Lib.hid (he.below hb1.out)
  have c3 : w1.cell? ⟨w.heap.size, 3, none⟩ = some (.int .i64 ak) := hk1.out.cell 3
  by_cases h0 : ak < 0
  · have b0 : decide (ak < 0) = true := decide_eq_true h0
    rw [if_pos (by omega)]
    clear he
    go_enter Tryd.func37, Tryd.ntmps37
    go_wp2_with (rw [hw1.out])
    go_ret2
    exact ⟨rfl, hb1.out⟩
  · have b0 : decide (ak < 0) = false := decide_eq_false h0
    by_cases h1 : 12 ≤ ak
    · have b1 : decide (12 ≤ ak) = true := decide_eq_true h1
      rw [if_pos (by omega)]
      clear he
      go_enter Tryd.func37, Tryd.ntmps37
      go_wp2_with (rw [hw1.out])
      go_ret2
      exact ⟨rfl, hb1.out⟩
    · have b1 : decide (12 ≤ ak) = false := decide_eq_false h1
      obtain ⟨m, rfl⟩ : ∃ m : Nat, ak = (m : Int) := ⟨ak.toNat, by omega⟩
      rw [if_neg (by omega)]
      obtain ⟨s, hs⟩ : ∃ s, Hid (actsL.getD m [] = s) := ⟨_, Lib.hid rfl⟩
      have cm : w1.cell? ⟨0, m, none⟩ = some (.string ⟨s.toArray⟩) := by rw [he1.out.acts.cell, actsA_get m (by omega), hs.out]
      have hmt : ((m : Int)).toNat = m := by omega
      rw [hmt, hs.out]
      have i1 : (m : Int) < 12 := by omega
      have i0 : (0 : Int) ≤ (m : Int) := by omega
      clear he hs
      go_enter Tryd.func37, Tryd.ntmps37
      go_wp2_with (rw [hw1.out])
      go_ret2
      exact ⟨rfl, hb1.out⟩

/-- A function that picks a cell of a step. -/
def Picks (g j : Nat) : Prop := ∀ (b : Nat) (W : World), Calls Tryd.prog g #[pO b] W fun e w' => e = .returned (.pointer (some ⟨b, j, none⟩)) ∧ W = w'
theorem picks_n : Picks 45 1 := by
  intro b W
  go_enter Tryd.func45, Tryd.ntmps45
  go_wp2_with fail
  go_ret
  exact ⟨rfl, rfl⟩
theorem picks_an : Picks 46 4 := by
  intro b W
  go_enter Tryd.func46, Tryd.ntmps46
  go_wp2_with fail
  go_ret
  exact ⟨rfl, rfl⟩
set_option maxRecDepth 100000 in
theorem show_count (g j cb : Nat) (eg : ∀ (args : Array Value) (w : World), (callFunc g args).run Tryd.prog w = .ok (.enter g args) w) (hg : Picks g j) (x : Stp) (v : Int) (hv : x.cells[j]? = some (.int .i64 v)) (w : World) (he : Env w) (h0 : -9223372036854775808 ≤ v) (h1 : v ≤ 9223372036854775807)
    (hcb : Blk w cb 105 #[fnV g]) : Calls Tryd.prog 40 #[.agg x.cells, pO cb] w fun e w' => e = .returned (.tuple #[.string ⟨(Lib.itoa v).toArray⟩, .bool (amongB v)]) ∧ Below w.heap.size w w' := by
  obtain ⟨k, n, p, ak, an, d⟩ := x
  simp only [Stp.cells] at hv ⊢
  obtain ⟨w1, hw1⟩ : ∃ W, Hid (w.alloc (.cells #[.int .i64 k, .int .i64 n, .string ⟨p.toArray⟩, .int .i64 ak, .int .i64 an, .string ⟨d.toArray⟩] 49) = W) := ⟨_, rfl⟩
  have hb1 : Hid (Below w.heap.size w w1) := by rw [← hw1.out]; exact (Below.refl _ w).alloc (Nat.le_refl _) _
  have hk1 : Hid (Blk w1 w.heap.size 49 #[.int .i64 k, .int .i64 n, .string ⟨p.toArray⟩, .int .i64 ak, .int .i64 an, .string ⟨d.toArray⟩]) := by rw [← hw1.out]; exact Lib.hid (Blk.new _ _ _)
  have hlt := hk1.out.lt
  have hg' := Lib.hid hg
  have he1 := Lib.hid (he.below hb1.out)
  have hcl : Hid (∀ y : Ext w1, Calls Tryd.prog 41 #[.int .i64 v] y.wd fun e w' => e = .returned (.string ⟨(Lib.itoa v).toArray⟩) ∧ Below y.wd.heap.size y.wd w') := fun y => itoa_any v y.wd h0 h1 (he1.out.below y.below)
  have ham : Hid (∀ y : Ext w1, Calls Tryd.prog 42 #[.int .i64 v] y.wd fun e w' => e = .returned (.bool (amongB v)) ∧ y.wd = w') := fun y => among_any v y.wd
  have hpk : Hid (∀ y : Ext w1, Calls Tryd.prog g #[pO w.heap.size] y.wd fun e w' => e = .returned (.pointer (some ⟨w.heap.size, j, none⟩)) ∧ y.wd = w') := fun y => hg w.heap.size y.wd
  have hcl0 : cb < w.heap.size := hcb.lt
  have r2 : ∀ y : Ext w1, y.wd.cell? ⟨w.heap.size, j, none⟩ = some (.int .i64 v) := fun y => (y.cell ⟨w.heap.size, j, none⟩ hlt).trans ((hk1.out.cell j).trans hv)
  have r3 : ∀ y : Ext w1, y.wd.cell? ⟨cb, 0, none⟩ = some (fnV g) := fun y => (y.cell ⟨cb, 0, none⟩ (by show cb < w1.heap.size; omega)).trans ((hcb.below hb1.out hcb.lt).cell 0)
  clear hv he h0 h1 hg hcl0 hcb
  go_enter Tryd.func40, Tryd.ntmps40
  go_wp2_with (rw [hw1.out])
  refine wp_region_ext (by kernel_rfl) (by kernel_rfl) ?_
  repeat (go_big_quiet_step ((first | (go_at_fn g; exact Calls.ext_of_same (hpk.out _)) | (go_at_call 41; exact Calls.ext_of (hcl.out _)) | (go_at_call 42; exact Calls.ext_of_same (ham.out _)))))
  refine wpQuiet_nil ?_
  rintro _ ⟨y, rfl⟩
  have hby := Lib.hid y.below
  obtain ⟨wy, hwy⟩ : ∃ w6, y.wd = w6 := ⟨_, rfl⟩
  rw [hwy] at hby ⊢
  clear hwy y r2 r3 hcl ham hpk
  go_wp2_with fail
  go_ret2
  exact ⟨rfl, hb1.out.trans (hby.out.mono hb1.out.size)⟩

end Go.Proofs.YtheiogafjinihaaDoor

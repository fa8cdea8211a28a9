/- The walks of atom, greatest and Holds. -/
import Derived.Test.YtdjmckjbibfecaaGreatDoorV
namespace Go.Proofs.YtdjmckjbibfecaaGreatDoor
open Go Go.RowKit Go.BigFrame Go.Maps

set_option maxRecDepth 100000 in
set_option maxHeartbeats 1600000 in
theorem atom_any (k p : Int) (f x : ByteArray) (n : Int) (A' : Option Addr) (m c' : Nat) (A : Option Addr) (nn c : Nat) (docs : List Pap) (v : ByteArray) (w : World) (hn : nn ≤ maxLen) (hl : Hid (docs.length = nn)) (hA : Hid (DocsAt w A docs)) (he : Hid (Env w)) (hv : v.size ≤ 1000000) :
    Calls Tryz.prog 55 #[.agg #[.int .i64 k, .int .i64 p, .string f, .string x, .int .i64 n, .slice A' m c'], .slice A nn c, .string v] w fun e w' => e = .returned (.int .i64 (atomT docs k p x n v)) ∧ Below w.heap.size w w' := by
  have hn' := Lib.hid hn
  clear hn
  have hv' := Lib.hid hv
  clear hv
  have hb0 : Below w.heap.size w (w.alloc (.cells #[.int .i64 k, .int .i64 p, .string f, .string x, .int .i64 n, .slice A' m c'] 24)) := (Below.refl _ w).alloc (Nat.le_refl _) _
  have hblk := Lib.hid (Blk.new w 24 #[.int .i64 k, .int .i64 p, .string f, .string x, .int .i64 n, .slice A' m c'])
  have hb0' := Lib.hid hb0
  clear hb0
  by_cases k3 : k = 3
  · subst k3
    have hat : Hid (atomT docs 3 p x n v = soT (decide (v.toList = x.toList))) := by unfold Hid atomT; rw [if_pos rfl]
    by_cases hq : v.toList = x.toList
    · have hq1 : (v.toList == x.toList) = true := by simp [hq]
      have hq' := Lib.hid hq
      clear hq
      go_enter Tryz.func55, Tryz.ntmps55
      go_wp2_with fail
      go_ret
      exact ⟨by rw [hat.out, decide_eq_true hq'.out]; rfl, hb0'.out⟩
    · have hq1 : (v.toList == x.toList) = false := by simp [hq]
      have hq' := Lib.hid hq
      clear hq
      go_enter Tryz.func55, Tryz.ntmps55
      go_wp2_with fail
      go_ret
      exact ⟨by rw [hat.out, decide_eq_false hq'.out]; rfl, hb0'.out⟩
  by_cases k4 : k = 4
  · subst k4
    have hat : Hid (atomT docs 4 p x n v = soT (Lib.contains v.data.toList x.data.toList)) := by unfold Hid atomT; rw [if_neg (by omega), if_pos rfl]
    go_enter Tryz.func55, Tryz.ntmps55
    go_wp2_with fail
    obtain ⟨mm, hm⟩ := (he.out.below hb0'.out).most
    refine (Tryz.strings_Contains v x mm _ (by have := hv'.out; omega) hm).mono ?_
    rintro e w1 ⟨rfl, rfl⟩
    generalize hcc : Lib.contains v.data.toList x.data.toList = cc at *
    cases cc
    all_goals
      go_wp2_with fail
      go_ret
      exact ⟨by rw [hat.out]; rfl, hb0'.out⟩
  by_cases k5 : k = 5
  · subst k5
    have hat : Hid (atomT docs 5 p x n v = soT (match numF v.data.toList with | some m => decide (m ≤ n) | none => false)) := by unfold Hid atomT; rw [if_neg (by omega), if_neg (by omega), if_pos rfl]; rfl
    go_enter Tryz.func55, Tryz.ntmps55
    go_wp2_with fail
    refine (number_any v _ hv'.out (he.out.below hb0'.out)).mono ?_
    rintro e w1 ⟨rfl, hb1⟩
    have hB1 : Hid (Below w.heap.size w w1) := hb0'.out.trans (hb1.mono (by simp))
    obtain ⟨r, hr⟩ : ∃ r, Hid (numF v.data.toList = r) := ⟨_, rfl⟩
    rw [hr.out]
    have hblk1 := hblk.out.below hb1 hblk.out.lt
    have hq : w1.cell? ⟨w.heap.size, 4, none⟩ = some (.int .i64 n) := by rw [hblk1.cell]; rfl
    clear hb1 hblk1
    rcases r with _ | r
    · unfold twoN
      go_wp2_with fail
      go_ret
      exact ⟨by rw [hat.out, hr.out]; rfl, hB1.out⟩
    · unfold twoN
      by_cases hrn : r ≤ n
      · have hrn' := Lib.hid hrn
        go_wp2_with fail
        all_goals try (exfalso; omega)
        go_ret
        exact ⟨by rw [hat.out, hr.out]; simp [soT, hrn'.out], hB1.out⟩
      · have hrn' := Lib.hid hrn
        go_wp2_with fail
        all_goals try (exfalso; omega)
        go_ret
        exact ⟨by rw [hat.out, hr.out]; simp [soT, hrn'.out], hB1.out⟩
  by_cases k6 : k = 6
  · subst k6
    have hat : Hid (atomT docs 6 p x n v = soT (match numF v.data.toList with | some m => decide (n ≤ m) | none => false)) := by unfold Hid atomT; rw [if_neg (by omega), if_neg (by omega), if_neg (by omega), if_pos rfl]; rfl
    go_enter Tryz.func55, Tryz.ntmps55
    go_wp2_with fail
    refine (number_any v _ hv'.out (he.out.below hb0'.out)).mono ?_
    rintro e w1 ⟨rfl, hb1⟩
    have hB1 : Hid (Below w.heap.size w w1) := hb0'.out.trans (hb1.mono (by simp))
    obtain ⟨r, hr⟩ : ∃ r, Hid (numF v.data.toList = r) := ⟨_, rfl⟩
    rw [hr.out]
    have hblk1 := hblk.out.below hb1 hblk.out.lt
    have hq : w1.cell? ⟨w.heap.size, 4, none⟩ = some (.int .i64 n) := by rw [hblk1.cell]; rfl
    clear hb1 hblk1
    rcases r with _ | r
    · unfold twoN
      go_wp2_with fail
      go_ret
      exact ⟨by rw [hat.out, hr.out]; rfl, hB1.out⟩
    · unfold twoN
      by_cases hrn : n ≤ r
      · have hrn' := Lib.hid hrn
        go_wp2_with fail
        all_goals try (exfalso; omega)
        go_ret
        exact ⟨by rw [hat.out, hr.out]; simp [soT, hrn'.out], hB1.out⟩
      · have hrn' := Lib.hid hrn
        go_wp2_with fail
        all_goals try (exfalso; omega)
        go_ret
        exact ⟨by rw [hat.out, hr.out]; simp [soT, hrn'.out], hB1.out⟩
  by_cases k7 : k = 7
  · subst k7
    have hat : Hid (atomT docs 7 p x n v = (match fieldD docs p x with | some u => soT (decide (v.toList = u.toList)) | none => 1)) := by unfold Hid atomT; rw [if_neg (by omega), if_neg (by omega), if_neg (by omega), if_neg (by omega), if_pos rfl]; rfl
    go_enter Tryz.func55, Tryz.ntmps55
    go_wp2_with fail
    refine (field_any A nn c docs p x _ hn'.out hl (hA.out.below hb0'.out)).mono ?_
    rintro e w1 ⟨rfl, hb1⟩
    have hB1 : Hid (Below w.heap.size w w1) := hb0'.out.trans (hb1.mono (by simp))
    obtain ⟨r, hr⟩ : ∃ r, Hid (fieldD docs p x = r) := ⟨_, rfl⟩
    rw [hr.out]
    clear hb1
    rcases r with _ | u
    · unfold two
      go_wp2_with fail
      go_ret
      exact ⟨by rw [hat.out, hr.out]; rfl, hB1.out⟩
    · unfold two
      by_cases hq : v.toList = u.toList
      · have hq1 : (v.toList == u.toList) = true := by simp [hq]
        have hq' := Lib.hid hq
        clear hq
        go_wp2_with fail
        go_ret
        exact ⟨by rw [hat.out, hr.out]; simp [soT, hq'.out], hB1.out⟩
      · have hq1 : (v.toList == u.toList) = false := by simp [hq]
        have hq' := Lib.hid hq
        clear hq
        go_wp2_with fail
        go_ret
        exact ⟨by rw [hat.out, hr.out]; simp [soT, hq'.out], hB1.out⟩
  have hat : Hid (atomT docs k p x n v = 2) := by unfold Hid atomT; rw [if_neg k3, if_neg k4, if_neg k5, if_neg k6, if_neg k7]
  go_enter Tryz.func55, Tryz.ntmps55
  go_wp2_with fail
  go_ret
  exact ⟨by rw [hat.out]; rfl, hb0'.out⟩
end Go.Proofs.YtdjmckjbibfecaaGreatDoor

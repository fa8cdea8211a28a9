/- Walks of the small functions. -/
import Derived.Test.YtdgbghgcnkjjeaaDoorRows
import Derived.WalkKit
import Derived.WalkSpells
import Derived.WalkLawsBesides
import Derived.Lib.Hide
import Derived.Deep.Light
namespace Go.Proofs.YtdgbghgcnkjjeaaDoor
open Go.RowKit

def letterB (c : Int) : Bool := decide (97 ≤ c) && decide (c ≤ 122)
def digitB (c : Int) : Bool := decide (48 ≤ c) && decide (c ≤ 57)

set_option maxHeartbeats 400000 in
theorem isLetter_any (c : Int) (w : World) :
    Calls Tryd.prog 34 #[.int .u8 c] w fun e w' => e = .returned (.bool (letterB c)) ∧ w = w' := by
  go_enter Tryd.func34, Tryd.ntmps34
  go_wp2
  all_goals (go_ret; exact ⟨by simp [letterB]; omega, rfl⟩)

set_option maxHeartbeats 400000 in
theorem isDigit_any (c : Int) (w : World) :
    Calls Tryd.prog 35 #[.int .u8 c] w fun e w' => e = .returned (.bool (digitB c)) ∧ w = w' := by
  go_enter Tryd.func35, Tryd.ntmps35
  go_wp2
  all_goals (go_ret; exact ⟨by simp [digitB]; omega, rfl⟩)

def signB (c : UInt8) : Bool := letterB c.toNat || digitB c.toNat || c == 45
def nameB (l : List UInt8) : Bool := decide (1 ≤ l.length) && decide (l.length ≤ 16) && l.all signB

theorem retB {a b : Bool} (h : a = b) : Ending.returned (.bool a) = .returned (.bool b) := by rw [h]
theorem take_snoc (s : ByteArray) (k : Nat) (h : k < s.size) : s.data.toList.take (k + 1) = s.data.toList.take k ++ [s[k]] := by
  rw [List.take_succ_eq_append_getElem (by simpa using h)]; rfl
theorem all_snoc (s : ByteArray) (k : Nat) (h : k < s.size) (p : UInt8 → Bool) : (s.data.toList.take (k + 1)).all p = ((s.data.toList.take k).all p && p s[k]) := by
  rw [take_snoc s k h]; simp
theorem all_false_of (s : ByteArray) (k : Nat) (h : k < s.size) (p : UInt8 → Bool) (hp : p s[k] = false) : s.data.toList.all p = false := by
  rw [List.all_eq_false]; exact ⟨s[k], by rw [ByteArray.getElem_eq_getElem_data]; simp, by simp [hp]⟩

theorem name_step (s : ByteArray) (k : Nat) (h : k < s.size) (ha : Hid ((s.data.toList.take k).all signB = true))
    (hc : letterB (s[k].toNat : Int) = true ∨ digitB (s[k].toNat : Int) = true ∨ ((s[k].toNat : Int) != 45) = false) : Hid ((s.data.toList.take (k + 1)).all signB = true) := by
  unfold Hid at *
  rw [all_snoc s k h, ha]
  rcases hc with hc | hc | hc
  · simp [signB, hc]
  · simp [signB, hc]
  · have : s[k] = 45 := UInt8.toNat_inj.1 (by simp at hc; simpa using (by omega : s[k].toNat = 45))
    simp [signB, this]
theorem name_no (s : ByteArray) (k : Nat) (h : k < s.size) (h1 : ¬ letterB (s[k].toNat : Int) = true) (h2 : ¬ digitB (s[k].toNat : Int) = true) (h3 : ((s[k].toNat : Int) != 45) = true) : nameB s.data.toList = false := by
  have h4 : (s[k] == 45) = false := by
    rw [beq_eq_false_iff_ne]; intro e; rw [e] at h3; simp at h3
  have : s.data.toList.all signB = false := all_false_of s k h signB (by simp [signB, h1, h2, h4])
  simp [nameB, this]
theorem name_yes (s : ByteArray) (k : Nat) (h : s.size ≤ k) (ha : Hid ((s.data.toList.take k).all signB = true)) (hl : Hid (1 ≤ s.data.toList.length ∧ s.data.toList.length ≤ 16)) : nameB s.data.toList = true := by
  unfold Hid at *
  rw [List.take_of_length_le (by simpa using h)] at ha
  simp only [nameB, ha, hl.1, hl.2, decide_true, Bool.and_self]

set_option maxHeartbeats 400000 in
theorem markName_any (s : ByteArray) (w : World) (hs : s.size ≤ maxLen) :
    Calls Tryd.prog 23 #[.string s] w fun e w' => e = .returned (.bool (nameB s.data.toList)) ∧ w = w' := by
  unfold maxLen at hs
  go_enter Tryd.func23, Tryd.ntmps23
  go_wp2_with fail
  · go_ret; exact ⟨by simp [nameB]; omega, rfl⟩
  · have hlen : Hid (1 ≤ s.data.toList.length ∧ s.data.toList.length ≤ 16) := by
      have : s.data.toList.length = s.size := by simp
      unfold Hid; omega
    go_loop [3, 14] (fun _ i => ∃ k : Nat, k ≤ s.size ∧ i = .int .i64 k ∧ Hid ((s.data.toList.take k).all signB = true)) (fun _ i => s.size - (intOf i).toNat)
    case atStart => exact ⟨0, Nat.zero_le _, rfl, by simp [Hid]⟩
    case round =>
      obtain ⟨k, hk, rfl, hall⟩ := hrel
      by_cases hlt : k < s.size
      · go_wp2_with (first | (go_at_call 34; refine (isLetter_any _ _).mono ?_; rintro e w' ⟨rfl, rfl⟩) | (go_at_call 35; refine (isDigit_any _ _).mono ?_; rintro e w' ⟨rfl, rfl⟩))
        · go_round
          case rel => exact ⟨k + 1, by omega, by go_num, name_step s k hlt (by assumption) (.inl (by assumption))⟩
          case measure => simp [intOf]; omega
        · go_round
          case rel => exact ⟨k + 1, by omega, by go_num, name_step s k hlt (by assumption) (.inr (.inl (by assumption)))⟩
          case measure => simp [intOf]; omega
        · go_ret
          exact ⟨retB (name_no s k hlt (by assumption) (by assumption) (by assumption)).symm, rfl⟩
        · go_round
          case rel => exact ⟨k + 1, by omega, by go_num, name_step s k hlt (by assumption) (.inr (.inr (by assumption)))⟩
          case measure => simp [intOf]; omega
      · go_wp2
        go_ret
        exact ⟨retB (name_yes s k (by omega) hall hlen).symm, rfl⟩
  · go_ret; exact ⟨by simp [nameB]; omega, rfl⟩

theorem sign_eq (c : UInt8) : signB c = decide (97 ≤ (c.toNat : Int) ∧ (c.toNat : Int) ≤ 122 ∨ 48 ≤ (c.toNat : Int) ∧ (c.toNat : Int) ≤ 57 ∨ (c.toNat : Int) = 45) := by
  have h45 : (c == 45) = decide ((c.toNat : Int) = 45) := by
    rw [Bool.eq_iff_iff, beq_iff_eq, decide_eq_true_iff, ← UInt8.toNat_inj]; simp; omega
  rw [signB, h45, letterB, digitB, Bool.eq_iff_iff]; simp; omega
theorem ref_step (s : ByteArray) (k : Nat) (h : k < s.size) (ha : Hid ((s.data.toList.take k).all signB = true)) (hc : 97 ≤ (s[k].toNat : Int) ∧ (s[k].toNat : Int) ≤ 122 ∨ 48 ≤ (s[k].toNat : Int) ∧ (s[k].toNat : Int) ≤ 57 ∨ (s[k].toNat : Int) = 45) : Hid ((s.data.toList.take (k + 1)).all signB = true) := by
  unfold Hid at *
  rw [all_snoc s k h, ha, sign_eq]; simpa using hc
theorem ref_no (s : ByteArray) (k : Nat) (h : k < s.size) (hc : ¬ (97 ≤ (s[k].toNat : Int) ∧ (s[k].toNat : Int) ≤ 122 ∨ 48 ≤ (s[k].toNat : Int) ∧ (s[k].toNat : Int) ≤ 57 ∨ (s[k].toNat : Int) = 45)) : nameB s.data.toList = false := by
  have : s.data.toList.all signB = false := all_false_of s k h signB (by rw [sign_eq]; exact decide_eq_false hc)
  simp [nameB, this]
theorem ref_end (s : ByteArray) (k : Nat) (h : s.size ≤ k) (ha : Hid ((s.data.toList.take k).all signB = true)) : 1 ≤ (s.size : Int) → decide ((s.size : Int) ≤ 16) = nameB s.data.toList := by
  intro h1
  unfold Hid at ha
  rw [List.take_of_length_le (by simpa using h)] at ha
  have hl : s.data.toList.length = s.size := by simp
  rw [nameB, ha, hl, Bool.eq_iff_iff]; simp; omega
theorem ref_end0 (s : ByteArray) (h : (s.size : Int) < 1) : false = nameB s.data.toList := by
  have : s.data.toList.length = s.size := by simp
  simp [nameB]; omega
set_option maxHeartbeats 400000 in
theorem refName_any (s : ByteArray) (w : World) (hs : s.size ≤ maxLen) :
    Calls Tryd.prog 28 #[.string s] w fun e w' => e = .returned (.bool (nameB s.data.toList)) ∧ w = w' := by
  unfold maxLen at hs
  go_enter Tryd.func28, Tryd.ntmps28
  go_wp2_with fail
  go_loop [3, 4] (fun i _ => ∃ k : Nat, k ≤ s.size ∧ i = .int .i64 k ∧ Hid ((s.data.toList.take k).all signB = true)) (fun i _ => s.size - (intOf i).toNat)
  case atStart => exact ⟨0, Nat.zero_le _, rfl, by simp [Hid]⟩
  case round =>
    obtain ⟨k, hk, rfl, hall⟩ := hrel
    by_cases hlt : k < s.size
    · go_wp2
      all_goals first
        | (go_ret; exact ⟨retB (ref_no s k hlt (by go_light; simp at *; omega)).symm, rfl⟩)
        | (go_round
           case rel => exact ⟨k + 1, by omega, by go_num, ref_step s k hlt (by assumption) (by go_light; simp at *; omega)⟩
           case measure => simp [intOf]; omega)
    · go_wp2
      · go_ret; exact ⟨retB (ref_end s k (by omega) hall (by assumption)), rfl⟩
      · go_ret; exact ⟨retB (ref_end0 s (by omega)), rfl⟩

end Go.Proofs.YtdgbghgcnkjjeaaDoor

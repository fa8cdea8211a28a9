/- The document's names and numbers: walked. -/
import Derived.Test.YtheiogafjinihaaDoorDg
namespace Go.Proofs.YtheiogafjinihaaDoor
open Go Go.RowKit Go.BigFrame Go.Maps

theorem rletter_any (c : UInt8) (w : World) : Calls Tryd.prog 63 #[.int .u8 c.toNat] w fun e w' => e = .returned (.bool (letterB c)) ∧ w = w' := by
  unfold letterB
  cases h1 : decide (97 ≤ (c.toNat : Int)) <;> cases h2 : decide ((c.toNat : Int) ≤ 122)
  all_goals
    go_enter Tryd.func63, Tryd.ntmps63
    go_wp2_with fail
    go_ret
    exact ⟨retBl (by simp), rfl⟩
theorem rdigit_any (c : UInt8) (w : World) : Calls Tryd.prog 64 #[.int .u8 c.toNat] w fun e w' => e = .returned (.bool (numB c)) ∧ w = w' := by
  unfold numB
  cases h1 : decide (48 ≤ (c.toNat : Int)) <;> cases h2 : decide ((c.toNat : Int) ≤ 57)
  all_goals
    go_enter Tryd.func64, Tryd.ntmps64
    go_wp2_with fail
    go_ret
    exact ⟨retBl (by simp), rfl⟩
theorem rin_any (n : Int) (w : World) : Calls Tryd.prog 50 #[.int .i64 n] w fun e w' => e = .returned (.bool (amongB n)) ∧ w = w' := by
  unfold amongB
  cases h1 : decide (-1048576 ≤ n) <;> cases h2 : decide (n ≤ 1048576)
  all_goals
    go_enter Tryd.func50, Tryd.ntmps50
    go_wp2_with fail
    go_ret
    exact ⟨retBl (by simp), rfl⟩
set_option maxRecDepth 100000 in
set_option maxHeartbeats 1600000 in
theorem rmark_any (s : ByteArray) (w : World) (hs : s.size ≤ maxLen) : Calls Tryd.prog 49 #[.string s] w fun e w' => e = .returned (.bool (markB s.data.toList)) ∧ w = w' := by
  unfold maxLen at hs
  have hln : s.data.toList.length = s.size := by simp
  have hm : Hid (markB s.data.toList = (decide (1 ≤ s.size) && decide (s.size ≤ 16) && s.data.toList.all smallB)) := by unfold Hid markB; rw [hln]
  obtain ⟨al, hal⟩ : ∃ b, Hid (s.data.toList.all smallB = b) := ⟨_, Lib.hid rfl⟩
  rw [hm.out, hal.out]
  rw [hal.out] at hm
  clear hm hln
  go_enter Tryd.func49, Tryd.ntmps49
  go_wp2_with fail
  go_loopg [3] s.size (fun gg i wr => ∃ k : Nat, k ≤ s.size ∧ gg = s.size - k ∧ i = .int .i64 k ∧ w = wr ∧ Hid (al = (s.data.toList.drop k).all smallB))
  case atStart => exact ⟨0, Nat.zero_le _, by simp, rfl, rfl, hal.out.symm⟩
  case round =>
    obtain ⟨k, hk, hg, rfl, rfl, hall⟩ := hrel
    have hg' := Lib.hid hg
    clear hg
    by_cases hlt : k < s.size
    · have hst := Lib.hid (mark_run hlt hall.out)
      rw [small_parts] at hst
      have i1 : (k : Int) < (s.size : Int) := by omega
      have i2 : (0 : Int) ≤ (k : Int) := by omega
      obtain ⟨lb, hlb⟩ : ∃ b, Hid (letterB s[k] = b) := ⟨_, Lib.hid rfl⟩
      obtain ⟨nb, hnb⟩ : ∃ b, Hid (numB s[k] = b) := ⟨_, Lib.hid rfl⟩
      obtain ⟨sb, hsb⟩ : ∃ b, Hid (((s[k].toNat : Int) != 45) = b) := ⟨_, Lib.hid rfl⟩
      rw [hlb.out, hnb.out, hsb.out] at hst
      have hq := hsb.out
      cases lb <;> cases nb <;> cases sb
      all_goals
        go_wp2_with (first | (go_at_call 63; refine (rletter_any _ _).mono ?_; rintro e w' ⟨rfl, rfl⟩; rw [hlb.out]) | (go_at_call 64; refine (rdigit_any _ _).mono ?_; rintro e w' ⟨rfl, rfl⟩; rw [hnb.out]))
        first
          | (go_roundg (s.size - (k + 1))
             case measure => have := hg'.out; omega
             case rel => exact ⟨k + 1, by omega, rfl, by go_num, rfl, by rw [hst.out]; first | rfl | simp⟩)
          | (go_ret
             exact ⟨by rw [hst.out]; simp, rfl⟩)
    · have hr : Hid (al = true) := by unfold Hid; rw [hall.out, List.drop_eq_nil_of_le (by simp; omega)]; rfl
      have e1 : decide (1 ≤ (s.size : Int)) = decide (1 ≤ s.size) := decide_eq_decide.2 (by omega)
      have e2 : decide ((s.size : Int) ≤ 16) = decide (s.size ≤ 16) := decide_eq_decide.2 (by omega)
      obtain ⟨b1, hb1⟩ : ∃ b, Hid (decide (1 ≤ s.size) = b) := ⟨_, Lib.hid rfl⟩
      obtain ⟨b2, hb2⟩ : ∃ b, Hid (decide (s.size ≤ 16) = b) := ⟨_, Lib.hid rfl⟩
      rw [hb1.out] at e1
      rw [hb2.out] at e2
      have i1 : ¬ (k : Int) < (s.size : Int) := by omega
      cases b1 <;> cases b2
      all_goals
        go_wp2_with fail
        go_ret
        exact ⟨retBl (by rw [hr.out, hb1.out, hb2.out]; rfl), rfl⟩
theorem rname_any (s : List UInt8) (w : World) (hs : s.length ≤ maxLen) : Calls Tryd.prog 49 #[.string ⟨s.toArray⟩] w fun e w' => e = .returned (.bool (nameB s)) ∧ w = w' := by
  have h := rmark_any ⟨s.toArray⟩ w (by simpa [ByteArray.size] using hs)
  rw [show (⟨s.toArray⟩ : ByteArray).data.toList = s from by simp, markB_name] at h
  exact h
end Go.Proofs.YtheiogafjinihaaDoor

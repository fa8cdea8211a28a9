/- Names, currencies, counts: what may be. -/
import Derived.Test.YtheiogafjinihaaDoorG
import Derived.Deep.DeepCutAuto
namespace Go.Proofs.YtheiogafjinihaaDoor
open Go Go.RowKit Go.BigFrame Go.Maps

theorem retBl {a b : Bool} (h : a = b) : Ending.returned (.bool a) = .returned (.bool b) := by rw [h]
def letterB (c : UInt8) : Bool := decide (97 ≤ (c.toNat : Int)) && decide ((c.toNat : Int) ≤ 122)
def numB (c : UInt8) : Bool := decide (48 ≤ (c.toNat : Int)) && decide ((c.toNat : Int) ≤ 57)
theorem isLetter_any (c : UInt8) (w : World) : Calls Tryd.prog 54 #[.int .u8 c.toNat] w fun e w' => e = .returned (.bool (letterB c)) ∧ w = w' := by
  unfold letterB
  cases h1 : decide (97 ≤ (c.toNat : Int)) <;> cases h2 : decide ((c.toNat : Int) ≤ 122)
  all_goals
    go_enter Tryd.func54, Tryd.ntmps54
    go_wp2_with fail
    go_ret
    exact ⟨retBl (by simp), rfl⟩
theorem isNum_any (c : UInt8) (w : World) : Calls Tryd.prog 57 #[.int .u8 c.toNat] w fun e w' => e = .returned (.bool (numB c)) ∧ w = w' := by
  unfold numB
  cases h1 : decide (48 ≤ (c.toNat : Int)) <;> cases h2 : decide ((c.toNat : Int) ≤ 57)
  all_goals
    go_enter Tryd.func57, Tryd.ntmps57
    go_wp2_with fail
    go_ret
    exact ⟨retBl (by simp), rfl⟩
def smallB (c : UInt8) : Bool := letterB c || numB c || !((c.toNat : Int) != 45)
theorem small_parts (c : UInt8) : smallB c = (letterB c || numB c || !((c.toNat : Int) != 45)) := rfl
theorem drop_byte {s : ByteArray} {k : Nat} (hk : k < s.size) : s.data.toList.drop k = s[k] :: s.data.toList.drop (k + 1) := by
  rw [List.drop_eq_getElem_cons (by simpa using hk)]; rfl
/-- A name: mark.Name. -/
def markB (s : List UInt8) : Bool := decide (1 ≤ s.length) && decide (s.length ≤ 16) && s.all smallB
theorem mark_run {s : ByteArray} {k : Nat} {r : Bool} (hk : k < s.size) (h : r = (s.data.toList.drop k).all smallB) : r = (smallB s[k] && (s.data.toList.drop (k + 1)).all smallB) := by
  rw [h, drop_byte hk, List.all_cons]
set_option maxRecDepth 100000 in
set_option maxHeartbeats 1600000 in
theorem markName_any (s : ByteArray) (w : World) (hs : s.size ≤ maxLen) : Calls Tryd.prog 33 #[.string s] w fun e w' => e = .returned (.bool (markB s.data.toList)) ∧ w = w' := by
  unfold maxLen at hs
  have hln : s.data.toList.length = s.size := by simp
  by_cases h1 : s.size < 1
  · have hr : Hid (markB s.data.toList = false) := by unfold Hid markB; rw [hln]; simp; omega
    have b1 : decide ((s.size : Int) < 1) = true := by simp; omega
    clear h1
    go_enter Tryd.func33, Tryd.ntmps33
    go_wp2_with fail
    go_ret
    exact ⟨by rw [hr.out]; first | done | rfl, rfl⟩
  · have b1 : decide ((s.size : Int) < 1) = false := by simp; omega
    by_cases h2 : 16 < s.size
    · have hr : Hid (markB s.data.toList = false) := by unfold Hid markB; rw [hln]; simp; omega
      have b2 : decide (16 < (s.size : Int)) = true := by simp; omega
      clear h1 h2
      go_enter Tryd.func33, Tryd.ntmps33
      go_wp2_with fail
      go_ret
      exact ⟨by rw [hr.out]; first | done | rfl, rfl⟩
    · have b2 : decide (16 < (s.size : Int)) = false := by simp; omega
      have hm : Hid (markB s.data.toList = s.data.toList.all smallB) := by unfold Hid markB; rw [hln]; simp; omega
      rw [hm.out]
      clear h1 hm hln
      go_enter Tryd.func33, Tryd.ntmps33
      go_wp2_with fail
      go_loopg [3, 14] s.size (fun gg _ i wr => ∃ k : Nat, k ≤ s.size ∧ gg = s.size - k ∧ i = .int .i64 k ∧ w = wr ∧ Hid (s.data.toList.all smallB = (s.data.toList.drop k).all smallB))
      case atStart => exact ⟨0, Nat.zero_le _, by simp, rfl, rfl, rfl⟩
      case round =>
        obtain ⟨k, hk, hg, rfl, rfl, hall⟩ := hrel
        have hg' := Lib.hid hg
        clear hg
        by_cases hlt : k < s.size
        · have hst := Lib.hid (mark_run hlt hall.out)
          rw [small_parts] at hst
          have i1 : (k : Int) < (s.size : Int) := by omega
          have i2 : (0 : Int) ≤ (k : Int) := by omega
          obtain ⟨lb, hlb⟩ : ∃ b, Hid (letterB s[k] = b) := ⟨_, Lib.hid rfl⟩
          obtain ⟨nb, hnb⟩ : ∃ b, Hid (numB s[k] = b) := ⟨_, Lib.hid rfl⟩
          obtain ⟨sb, hsb⟩ : ∃ b, Hid (((s[k].toNat : Int) != 45) = b) := ⟨_, Lib.hid rfl⟩
          rw [hlb.out, hnb.out, hsb.out] at hst
          have hq := hsb.out
          cases lb <;> cases nb <;> cases sb
          all_goals
            go_wp2_with (first | (go_at_call 54; refine (isLetter_any _ _).mono ?_; rintro e w' ⟨rfl, rfl⟩; rw [hlb.out]) | (go_at_call 57; refine (isNum_any _ _).mono ?_; rintro e w' ⟨rfl, rfl⟩; rw [hnb.out]))
            first
              | (go_roundg (s.size - (k + 1))
                 case measure => have := hg'.out; omega
                 case rel => exact ⟨k + 1, by omega, rfl, by go_num, rfl, by rw [hst.out]; first | rfl | simp⟩)
              | (go_ret
                 exact ⟨by rw [hst.out]; rfl, rfl⟩)
        · have hr : Hid (s.data.toList.all smallB = true) := by unfold Hid; rw [hall.out, List.drop_eq_nil_of_le (by simp; omega)]; rfl
          go_wp2_with fail
          go_ret
          exact ⟨by rw [hr.out]; first | done | rfl, rfl⟩

end Go.Proofs.YtheiogafjinihaaDoor

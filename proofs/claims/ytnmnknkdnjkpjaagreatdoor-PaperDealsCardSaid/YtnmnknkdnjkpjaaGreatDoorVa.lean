/- Names, currencies, counts: what may be. -/
import Derived.Test.YtnmnknkdnjkpjaaGreatDoorG
import Derived.Deep.DeepCutAuto
namespace Go.Proofs.YtnmnknkdnjkpjaaGreatDoor
open Go Go.RowKit Go.BigFrame Go.Maps

theorem retBl {a b : Bool} (h : a = b) : Ending.returned (.bool a) = .returned (.bool b) := by rw [h]
def letterB (c : UInt8) : Bool := decide (97 ≤ (c.toNat : Int)) && decide ((c.toNat : Int) ≤ 122)
def numB (c : UInt8) : Bool := decide (48 ≤ (c.toNat : Int)) && decide ((c.toNat : Int) ≤ 57)
theorem isLetter_any (c : UInt8) (w : World) : Calls Tryz.prog 116 #[.int .u8 c.toNat] w fun e w' => e = .returned (.bool (letterB c)) ∧ w = w' := by
  unfold letterB
  cases h1 : decide (97 ≤ (c.toNat : Int)) <;> cases h2 : decide ((c.toNat : Int) ≤ 122)
  all_goals
    go_enter Tryz.func116, Tryz.ntmps116
    go_wp2_with fail
    go_ret
    exact ⟨retBl (by simp), rfl⟩
theorem isNum_any (c : UInt8) (w : World) : Calls Tryz.prog 117 #[.int .u8 c.toNat] w fun e w' => e = .returned (.bool (numB c)) ∧ w = w' := by
  unfold numB
  cases h1 : decide (48 ≤ (c.toNat : Int)) <;> cases h2 : decide ((c.toNat : Int) ≤ 57)
  all_goals
    go_enter Tryz.func117, Tryz.ntmps117
    go_wp2_with fail
    go_ret
    exact ⟨retBl (by simp), rfl⟩
def smallB (c : UInt8) : Bool := letterB c || numB c || !((c.toNat : Int) != 45)
theorem small_parts (c : UInt8) : smallB c = (letterB c || numB c || !((c.toNat : Int) != 45)) := rfl
theorem drop_byte {s : ByteArray} {k : Nat} (hk : k < s.size) : s.data.toList.drop k = s[k] :: s.data.toList.drop (k + 1) := by
  rw [List.drop_eq_getElem_cons (by simpa using hk)]; rfl
/-- A name: mark.Name. -/
def markB (s : List UInt8) : Bool := decide (1 ≤ s.length) && decide (s.length ≤ 16) && s.all smallB
theorem mark_run {s : ByteArray} {k : Nat} {r : Bool} (hk : k < s.size) (h : r = (s.data.toList.drop k).all smallB) : r = (smallB s[k] && (s.data.toList.drop (k + 1)).all smallB) := by
  rw [h, drop_byte hk, List.all_cons]
set_option maxRecDepth 100000 in
set_option maxHeartbeats 1600000 in
theorem markName_any (s : ByteArray) (w : World) (hs : s.size ≤ maxLen) : Calls Tryz.prog 98 #[.string s] w fun e w' => e = .returned (.bool (markB s.data.toList)) ∧ w = w' := by
  unfold maxLen at hs
  have hln : s.data.toList.length = s.size := by simp
  by_cases h1 : s.size < 1
  · have hr : Hid (markB s.data.toList = false) := by unfold Hid markB; rw [hln]; simp; omega
    have b1 : decide ((s.size : Int) < 1) = true := by simp; omega
    clear h1
    go_enter Tryz.func98, Tryz.ntmps98
    go_wp2_with fail
    go_ret
    exact ⟨by rw [hr.out]; first | done | rfl, rfl⟩
  · have b1 : decide ((s.size : Int) < 1) = false := by simp; omega
    by_cases h2 : 16 < s.size
    · have hr : Hid (markB s.data.toList = false) := by unfold Hid markB; rw [hln]; simp; omega
      have b2 : decide (16 < (s.size : Int)) = true := by simp; omega
      clear h1 h2
      go_enter Tryz.func98, Tryz.ntmps98
      go_wp2_with fail
      go_ret
      exact ⟨by rw [hr.out]; first | done | rfl, rfl⟩
    · have b2 : decide (16 < (s.size : Int)) = false := by simp; omega
      have hm : Hid (markB s.data.toList = s.data.toList.all smallB) := by unfold Hid markB; rw [hln]; simp; omega
      rw [hm.out]
      clear h1 hm hln
      go_enter Tryz.func98, Tryz.ntmps98
      go_wp2_with fail
      go_loopg [3, 14] s.size (fun gg _ i wr => ∃ k : Nat, k ≤ s.size ∧ gg = s.size - k ∧ i = .int .i64 k ∧ w = wr ∧ Hid (s.data.toList.all smallB = (s.data.toList.drop k).all smallB))
      case atStart => exact ⟨0, Nat.zero_le _, by simp, rfl, rfl, rfl⟩
      case round =>
        obtain ⟨k, hk, hg, rfl, rfl, hall⟩ := hrel
        have hg' := Lib.hid hg
        clear hg
        by_cases hlt : k < s.size
        · have hst := Lib.hid (mark_run hlt hall.out)
          rw [small_parts] at hst
          have i1 : (k : Int) < (s.size : Int) := by omega
          have i2 : (0 : Int) ≤ (k : Int) := by omega
          obtain ⟨lb, hlb⟩ : ∃ b, Hid (letterB s[k] = b) := ⟨_, Lib.hid rfl⟩
          obtain ⟨nb, hnb⟩ : ∃ b, Hid (numB s[k] = b) := ⟨_, Lib.hid rfl⟩
          obtain ⟨sb, hsb⟩ : ∃ b, Hid (((s[k].toNat : Int) != 45) = b) := ⟨_, Lib.hid rfl⟩
          rw [hlb.out, hnb.out, hsb.out] at hst
          have hq := hsb.out
          cases lb <;> cases nb <;> cases sb
          all_goals
            go_wp2_with (first | (go_at_call 116; refine (isLetter_any _ _).mono ?_; rintro e w' ⟨rfl, rfl⟩; rw [hlb.out]) | (go_at_call 117; refine (isNum_any _ _).mono ?_; rintro e w' ⟨rfl, rfl⟩; rw [hnb.out]))
            first
              | (go_roundg (s.size - (k + 1))
                 case measure => have := hg'.out; omega
                 case rel => exact ⟨k + 1, by omega, rfl, by go_num, rfl, by rw [hst.out]; first | rfl | simp⟩)
              | (go_ret
                 exact ⟨by rw [hst.out]; rfl, rfl⟩)
        · have hr : Hid (s.data.toList.all smallB = true) := by unfold Hid; rw [hall.out, List.drop_eq_nil_of_le (by simp; omega)]; rfl
          go_wp2_with fail
          go_ret
          exact ⟨by rw [hr.out]; first | done | rfl, rfl⟩

/-- money's isCurrency. -/
def upB (c : UInt8) : Bool := !decide ((c.toNat : Int) < 65) && !decide (90 < (c.toNat : Int))
def curB (s : List UInt8) : Bool := decide (s.length = 3) && s.all upB
def amtB (a : Int) : Bool := decide (-1099511627776 ≤ a) && decide (a ≤ 1099511627776)
def cntB (n : Int) : Bool := decide (1 ≤ n) && decide (n ≤ 1048576)
theorem up_run {s : ByteArray} {k : Nat} {r : Bool} (hk : k < s.size) (h : r = (s.data.toList.drop k).all upB) : r = (upB s[k] && (s.data.toList.drop (k + 1)).all upB) := by
  rw [h, drop_byte hk, List.all_cons]
set_option maxRecDepth 100000 in
set_option maxHeartbeats 800000 in
theorem isCurrency_any (s : ByteArray) (w : World) (hs : s.size ≤ maxLen) : Calls Tryz.prog 118 #[.string s] w fun e w' => e = .returned (.bool (curB s.data.toList)) ∧ w = w' := by
  unfold maxLen at hs
  have hln : s.data.toList.length = s.size := by simp
  by_cases h1 : s.size = 3
  · have b1 : ((s.size : Int) != 3) = false := by simp; omega
    have b2 : ((s.size : Int) == 3) = true := by simp; omega
    have hm : Hid (curB s.data.toList = s.data.toList.all upB) := by unfold Hid curB; rw [hln]; simp [h1]
    rw [hm.out]
    have h1' := Lib.hid h1
    clear h1 hm hln
    go_enter Tryz.func118, Tryz.ntmps118
    go_wp2_with fail
    go_loopg [3, 9] s.size (fun gg _ i wr => ∃ k : Nat, k ≤ s.size ∧ gg = s.size - k ∧ i = .int .i64 k ∧ w = wr ∧ Hid (s.data.toList.all upB = (s.data.toList.drop k).all upB))
    case atStart => exact ⟨0, Nat.zero_le _, by simp, rfl, rfl, rfl⟩
    case round =>
      obtain ⟨k, hk, hg, rfl, rfl, hall⟩ := hrel
      have hg' := Lib.hid hg
      clear hg
      by_cases hlt : k < s.size
      · have hst := Lib.hid (up_run hlt hall.out)
        have i1 : (k : Int) < (s.size : Int) := by omega
        have i2 : (0 : Int) ≤ (k : Int) := by omega
        obtain ⟨lb, hlb⟩ : ∃ b, Hid (decide ((s[k].toNat : Int) < 65) = b) := ⟨_, Lib.hid rfl⟩
        obtain ⟨nb, hnb⟩ : ∃ b, Hid (decide (90 < (s[k].toNat : Int)) = b) := ⟨_, Lib.hid rfl⟩
        unfold upB at hst
        rw [hlb.out, hnb.out] at hst
        have q1 := hlb.out
        have q2 := hnb.out
        cases lb <;> cases nb
        all_goals
          go_wp2_with fail
          first
            | (go_roundg (s.size - (k + 1))
               case measure => have := hg'.out; omega
               case rel => exact ⟨k + 1, by omega, rfl, by go_num, rfl, by unfold upB; rw [hst.out]; first | rfl | simp⟩)
            | (go_ret
               exact ⟨by unfold upB; rw [hst.out]; rfl, rfl⟩)
      · have hr : Hid (s.data.toList.all upB = true) := by unfold Hid; rw [hall.out, List.drop_eq_nil_of_le (by simp; omega)]; rfl
        go_wp2_with fail
        go_ret
        exact ⟨by rw [hr.out]; first | done | rfl, rfl⟩
  · have b1 : ((s.size : Int) != 3) = true := by simp; omega
    have b2 : ((s.size : Int) == 3) = false := by simp; omega
    have hr : Hid (curB s.data.toList = false) := by unfold Hid curB; rw [hln]; simp [h1]
    clear h1
    go_enter Tryz.func118, Tryz.ntmps118
    go_wp2_with fail
    go_ret
    exact ⟨by rw [hr.out]; first | done | rfl, rfl⟩
set_option maxRecDepth 100000 in
theorem moneyMay_any (s : ByteArray) (a : Int) (w : World) (hs : s.size ≤ maxLen) : Calls Tryz.prog 99 #[.agg #[.string s, .int .i64 a]] w fun e w' => e = .returned (.bool (curB s.data.toList && amtB a)) ∧ Below w.heap.size w w' := by
  have hs' := Lib.hid hs
  obtain ⟨cb, hcb⟩ : ∃ b, Hid (curB s.data.toList = b) := ⟨_, Lib.hid rfl⟩
  unfold amtB
  have hc := isCurrency_any s (w.alloc (.cells #[.string s, .int .i64 a] 23)) hs
  have hc' := Lib.hid hc
  clear hc hs
  rw [hcb.out]
  cases h1 : decide (-1099511627776 ≤ a) <;> cases h2 : decide (a ≤ 1099511627776) <;> cases cb
  all_goals
    go_enter Tryz.func99, Tryz.ntmps99
    go_wp2_with (go_at_call 118; refine hc'.out.mono ?_; rintro e w' ⟨rfl, rfl⟩; rw [hcb.out])
    go_ret
    exact ⟨retBl (by simp), (Below.refl _ _).alloc (Nat.le_refl _) _⟩
theorem countsO_any (n : Int) (w : World) : Calls Tryz.prog 100 #[.int .i64 n] w fun e w' => e = .returned (.bool (cntB n)) ∧ w = w' := by
  unfold cntB
  cases h1 : decide (1 ≤ n) <;> cases h2 : decide (n ≤ 1048576)
  all_goals
    go_enter Tryz.func100, Tryz.ntmps100
    go_wp2_with fail
    go_ret
    exact ⟨retBl (by simp), rfl⟩
end Go.Proofs.YtnmnknkdnjkpjaaGreatDoor

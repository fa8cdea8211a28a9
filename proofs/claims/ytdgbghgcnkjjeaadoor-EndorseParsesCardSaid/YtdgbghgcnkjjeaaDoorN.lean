/- The walk of number. -/
import Derived.Test.YtdgbghgcnkjjeaaDoorX
namespace Go.Proofs.YtdgbghgcnkjjeaaDoor
open Go.RowKit Go.BigFrame

def numLoop (acc : Nat) : List UInt8 → Option Nat
  | [] => some acc
  | c :: r => if c.toNat < 48 ∨ 57 < c.toNat then none else if 1048576 < acc * 10 + (c.toNat - 48) then none else numLoop (acc * 10 + (c.toNat - 48)) r
def numE (l : List UInt8) : Option Nat := if l = [] ∨ (1 < l.length ∧ l.head? = some 48) then none else numLoop 0 l
def numV : Option Nat → Value
  | none => .tuple #[.int .i64 0, .bool false]
  | some n => .tuple #[.int .i64 (n : Int), .bool true]

theorem num_step {r : Option Nat} {s : ByteArray} {k acc : Nat} (h : k < s.size) (hr : r = numLoop acc (s.data.toList.drop k)) :
    r = if s[k].toNat < 48 ∨ 57 < s[k].toNat then none else if 1048576 < acc * 10 + (s[k].toNat - 48) then none else numLoop (acc * 10 + (s[k].toNat - 48)) (s.data.toList.drop (k + 1)) := by
  have hk : k < s.data.toList.length := by simpa using h
  have he : s.data.toList[k] = s[k] := by rfl
  rw [hr, List.drop_eq_getElem_cons hk, numLoop, he]

set_option maxRecDepth 100000 in
set_option maxHeartbeats 800000 in
theorem number_core (s : ByteArray) (w : World) (hs : s.size ≤ maxLen) (h0 : ¬ s.toList = []) (h00 : s.toList.isEmpty = false) (h1 : ¬ (1 < s.data.toList.length ∧ s.data.toList.head? = some 48)) :
    Calls Tryd.prog 32 #[.string s] w fun e w' => e = .returned (numV (numE s.data.toList)) ∧ w = w' := by
  have hE : Hid (numE s.data.toList = numLoop 0 s.data.toList) := by
    unfold Hid; rw [numE, if_neg]
    rintro (h | h)
    · apply h0; rw [ByteArray.toList_eq]; exact h
    · exact h1 h
  unfold maxLen at hs
  have hpos : 0 < s.size := by
    rcases Nat.eq_zero_or_pos s.size with h | h
    · exfalso; apply h0; rw [ByteArray.toList_eq]
      have : s.data.toList.length = 0 := by simpa using h
      exact List.eq_nil_of_length_eq_zero this
    · exact h
  have h1' : Hid (¬ (1 < s.size ∧ s[0].toNat = 48)) := by
    unfold Hid
    rintro ⟨ha, hb⟩
    apply h1
    refine ⟨by simpa using ha, ?_⟩
    rw [List.head?_eq_getElem?, List.getElem?_eq_getElem (by simpa using hpos)]
    have : s.data.toList[0]'(by simpa using hpos) = s[0] := rfl
    rw [this]
    exact congrArg some (UInt8.toNat_inj.1 (by simpa using hb))
  clear h1
  by_cases hs1 : 1 < s.size
  case' pos => have hb0 : (((s[0].toNat : Nat) : Int) == 48) = false := by rw [beq_eq_false_iff_ne]; intro hh; exact h1'.out ⟨hs1, by omega⟩
  all_goals
    go_enter Tryd.func32, Tryd.ntmps32
    go_wp2
    go_loop [4, 5, 20] (fun n _ i => ∃ k acc : Nat, k ≤ s.size ∧ acc ≤ 1048576 ∧ i = .int .i64 k ∧ n = .int .i64 acc ∧ Hid (numE s.data.toList = numLoop acc (s.data.toList.drop k))) (fun _ _ i => s.size - (intOf i).toNat)
    case atStart => exact ⟨0, 0, Nat.zero_le _, by omega, rfl, rfl, by unfold Hid; rw [hE.out]; rfl⟩
    case round =>
      obtain ⟨k, acc, hk, hac, rfl, rfl, hnum⟩ := hrel
      by_cases hlt : k < s.size
      · have hst := Lib.hid (num_step hlt hnum.out)
        have hbl : s[k].toNat < 256 := s[k].toNat_lt
        go_wp2
        · go_ret2
          exact ⟨by rw [hst.out, if_pos (by omega)]; rfl, rfl⟩
        · go_ret2
          exact ⟨by rw [hst.out, if_neg (by omega), if_pos (by omega)]; rfl, rfl⟩
        · go_round
          case rel => exact ⟨k + 1, acc * 10 + (s[k].toNat - 48), by omega, by omega, by go_num, congrArg (Value.int .i64) (by omega), by unfold Hid; rw [hst.out, if_neg (by omega), if_neg (by omega)]⟩
          case measure => simp [intOf]; omega
        · go_ret2
          exact ⟨by rw [hst.out, if_pos (by omega)]; rfl, rfl⟩
      · go_wp2
        go_ret2
        exact ⟨by rw [hnum.out, List.drop_eq_nil_of_le (by simpa using hlt)]; rfl, rfl⟩

theorem number_any (s : ByteArray) (w : World) (hs : s.size ≤ maxLen) :
    Calls Tryd.prog 32 #[.string s] w fun e w' => e = .returned (numV (numE s.data.toList)) ∧ w = w' := by
  by_cases h0 : s.data.toList = []
  · have : s = ⟨#[]⟩ := by obtain ⟨⟨l⟩⟩ := s; simp at h0; subst h0; rfl
    subst this
    go_enter Tryd.func32, Tryd.ntmps32
    go_wp2
    go_ret2
    exact ⟨rfl, rfl⟩
  · have h0' : ¬ s.toList = [] := by rw [ByteArray.toList_eq]; exact h0
    by_cases h1 : 1 < s.data.toList.length ∧ s.data.toList.head? = some 48
    · have hE : numE s.data.toList = none := by rw [numE, if_pos (.inr h1)]
      have hsz : 1 < s.size := by simpa using h1.1
      have hb0 : (((s[0].toNat : Nat) : Int) == 48) = true := by
        have h2 := h1.2
        rw [List.head?_eq_getElem?, List.getElem?_eq_getElem (by omega)] at h2
        have h3 : s[0] = 48 := by have : s.data.toList[0]'(by omega) = s[0] := rfl; rw [← this]; exact Option.some.inj h2
        rw [h3]; rfl
      have h00 : s.toList.isEmpty = false := by simpa using h0'
      have hE' := Lib.hid hE
      clear hE h1
      go_enter Tryd.func32, Tryd.ntmps32
      go_wp2
      go_ret2
      exact ⟨by rw [hE'.out]; rfl, rfl⟩
    · exact number_core s w hs h0' (by simpa using h0') h1

end Go.Proofs.YtdgbghgcnkjjeaaDoor

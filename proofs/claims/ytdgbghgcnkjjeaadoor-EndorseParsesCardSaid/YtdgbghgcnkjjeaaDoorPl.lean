/- Plain laws: a day's digits are read back; a line is cut and read back. -/
import Derived.Test.YtdgbghgcnkjjeaaDoorP
namespace Go.Proofs.YtdgbghgcnkjjeaaDoor
open Go.RowKit

theorem num_append : ∀ (l m : List UInt8) (a : Nat), numLoop a (l ++ m) = (numLoop a l).bind fun b => numLoop b m
  | [], m, a => rfl
  | c :: l, m, a => by
    simp only [List.cons_append, numLoop]
    split
    · rfl
    · split
      · rfl
      · exact num_append l m _
theorem dec_ne_nil (n : Nat) : Lib.decDigits n ≠ [] := by
  by_cases h : n < 10
  · rw [dec_small n h]; simp
  · rw [dec_more n h]; simp
theorem digit_nat (k : Nat) (h : k < 10) : (UInt8.ofNat (48 + k)).toNat = 48 + k := by
  simp; omega
theorem num_dec : ∀ n : Nat, n ≤ 1048576 → numLoop 0 (Lib.decDigits n) = some n := by
  intro n
  induction n using Nat.strongRecOn with
  | ind n ih =>
    intro hn
    by_cases h : n < 10
    · rw [dec_small n h, numLoop, digit_nat n h, if_neg (by omega), if_neg (by omega), numLoop]
      congr 1; omega
    · rw [dec_more n h, num_append, ih (n / 10) (by omega) (by omega)]
      show numLoop (n / 10) _ = _
      rw [numLoop, digit_nat (n % 10) (by omega), if_neg (by omega), if_neg (by omega), numLoop]
      congr 1; omega
theorem dec_head : ∀ n : Nat, 1 ≤ n → (Lib.decDigits n).head? ≠ some 48 := by
  intro n
  induction n using Nat.strongRecOn with
  | ind n ih =>
    intro hn
    by_cases h : n < 10
    · rw [dec_small n h]
      intro e
      have := congrArg UInt8.toNat (Option.some.inj e)
      rw [digit_nat n h] at this
      simp at this; omega
    · rw [dec_more n h, List.head?_append]
      have := ih (n / 10) (by omega) (by omega)
      cases hd : (Lib.decDigits (n / 10)).head? with
      | none => exact absurd (List.head?_eq_none_iff.1 hd) (dec_ne_nil _)
      | some c => rw [hd] at this; simpa using this
theorem numE_dec (n : Nat) (hn : n ≤ 1048576) : numE (Lib.decDigits n) = some n := by
  rw [numE, if_neg, num_dec n hn]
  rintro (h | ⟨h, h'⟩)
  · exact dec_ne_nil n h
  · by_cases h1 : 1 ≤ n
    · exact dec_head n h1 h'
    · obtain rfl : n = 0 := by omega
      rw [dec_small 0 (by omega)] at h; simp at h

end Go.Proofs.YtdgbghgcnkjjeaaDoor

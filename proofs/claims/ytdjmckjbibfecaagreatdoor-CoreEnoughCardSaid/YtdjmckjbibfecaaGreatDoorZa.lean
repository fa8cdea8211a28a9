/- Plain laws: the document's number of digits is the program's. -/
import Derived.Test.YtdjmckjbibfecaaGreatDoorY
namespace Go.Proofs.YtdjmckjbibfecaaGreatDoor
open Go Go.RowKit

def loopR : Nat → List UInt8 → Option Nat
  | a, [] => some a
  | a, c :: l => if c.toNat < 48 ∨ 57 < c.toNat ∨ 461168601842738790 < a then none else loopR (10 * a + (c.toNat - 48)) l
def bodyR (s : List UInt8) : List UInt8 := if s.head? = some 45 then s.tail else s
def signR (s : List UInt8) (a : Nat) : Int := if s.head? = some 45 then -(a : Int) else a
def endR (s : List UInt8) (v : Int) : Option Int := if -4611686018427387904 ≤ v ∧ v ≤ 4611686018427387904 ∧ Lib.itoa v = s then some v else none
def numR (s : List UInt8) : Option Int := if s = [] ∨ 20 < s.length then none else
  match loopR 0 (bodyR s) with
  | none => none
  | some a => endR s (signR s a)

theorem loopR_append : ∀ (l m : List UInt8) (a : Nat), loopR a (l ++ m) = (loopR a l).bind fun b => loopR b m
  | [], m, a => rfl
  | c :: l, m, a => by
    simp only [List.cons_append, loopR]
    split
    · rfl
    · exact loopR_append l m _
theorem digit_nat (k : Nat) (h : k < 10) : (UInt8.ofNat (48 + k)).toNat = 48 + k := by
  simp; omega
theorem dec_ne_nil (n : Nat) : Lib.decDigits n ≠ [] := by
  by_cases h : n < 10
  · rw [dec_small n h]; simp
  · rw [dec_more n h]; simp
theorem loopR_dec : ∀ n : Nat, n ≤ 4611686018427387904 → loopR 0 (Lib.decDigits n) = some n := by
  intro n
  induction n using Nat.strongRecOn with
  | ind n ih =>
    intro hn
    by_cases h : n < 10
    · rw [dec_small n h, loopR, digit_nat n h, if_neg (by omega), loopR]
      congr 1; omega
    · rw [dec_more n h, loopR_append, ih (n / 10) (by omega) (by omega)]
      show loopR (n / 10) _ = _
      rw [loopR, digit_nat (n % 10) (by omega), if_neg (by omega), loopR]
      congr 1; omega
theorem parseM_append : ∀ (l m : List UInt8) (a b : Nat), Lib.parseUintM (2 ^ 64 - 1) a l = .ok b → Lib.parseUintM (2 ^ 64 - 1) a (l ++ m) = Lib.parseUintM (2 ^ 64 - 1) b m
  | [], m, a, b, h => by simp only [Lib.parseUintM, Lib.NumEnd.ok.injEq] at h; subst h; rfl
  | c :: l, m, a, b, h => by
    simp only [List.cons_append, Lib.parseUintM] at h ⊢
    split at h
    · split at h
      · cases h
      · split at h
        · cases h
        · rw [if_pos ‹_›, if_neg ‹_›, if_neg ‹_›]
          exact parseM_append l m _ b h
    · cases h
theorem parseM_dec : ∀ n : Nat, n ≤ 4611686018427387904 → Lib.parseUintM (2 ^ 64 - 1) 0 (Lib.decDigits n) = .ok n := by
  intro n
  induction n using Nat.strongRecOn with
  | ind n ih =>
    intro hn
    by_cases h : n < 10
    · rw [dec_small n h, Lib.parseUintM, digit_nat n h, if_pos (by omega), if_neg (by omega), if_neg (by omega), Lib.parseUintM]
      congr 1; omega
    · rw [dec_more n h, parseM_append _ _ _ _ (ih (n / 10) (by omega) (by omega))]
      rw [Lib.parseUintM, digit_nat (n % 10) (by omega), if_pos (by omega), if_neg (by omega), if_neg (by omega), Lib.parseUintM]
      congr 1; omega
theorem dec_digits : ∀ n : Nat, ∀ c ∈ Lib.decDigits n, 48 ≤ c.toNat ∧ c.toNat ≤ 57 := by
  intro n
  induction n using Nat.strongRecOn with
  | ind n ih =>
    intro c hc
    by_cases h : n < 10
    · rw [dec_small n h] at hc
      simp only [List.mem_singleton] at hc
      subst hc
      rw [digit_nat n h]; omega
    · rw [dec_more n h] at hc
      simp only [List.mem_append, List.mem_singleton] at hc
      rcases hc with hc | rfl
      · exact ih _ (by omega) c hc
      · rw [digit_nat _ (by omega)]; omega
theorem dec_len20 (n : Nat) (h : n ≤ 4611686018427387904) : (Lib.decDigits n).length ≤ 19 := by
  have key : ∀ k n : Nat, n < 10 ^ (k + 1) → (Lib.decDigits n).length ≤ k + 1 := by
    intro k
    induction k with
    | zero => intro n hn; rw [dec_small n (by simpa using hn)]; simp
    | succ k ih =>
      intro n hn
      by_cases h : n < 10
      · rw [dec_small n h]; simp
      · rw [dec_more n h]
        have := ih (n / 10) (by rw [Nat.pow_succ] at hn; omega)
        simp; omega
  exact key 18 n (by omega)
theorem numF_of {s : List UInt8} {v : Int} (h0 : -4611686018427387904 ≤ v) (h1 : v ≤ 4611686018427387904) (h2 : Lib.itoa v = s) : numF s = some v := by
  have hp : Lib.parseIntB 64 s = .ok v := by
    subst h2
    by_cases hv : 0 ≤ v
    · obtain ⟨m, rfl⟩ := Int.eq_ofNat_of_zero_le hv
      rw [itoa_nat]
      have hd := dec_digits m
      have hp := parseM_dec m (by omega)
      cases hl : Lib.decDigits m with
      | nil => exact absurd hl (dec_ne_nil m)
      | cons c r =>
        rw [hl] at hd hp
        have hc := hd c (by simp)
        unfold Lib.parseIntB
        simp only
        rw [if_neg (by omega), Lib.parseUintB, if_neg (by simp), hp]
        simp only
        rw [if_neg (by omega), if_neg (by omega), if_neg (by omega)]
    · obtain ⟨m, rfl⟩ : ∃ m : Nat, v = -(m : Int) := ⟨v.natAbs, by omega⟩
      rw [itoa_neg m (by omega)]
      have hp := parseM_dec m (by omega)
      unfold Lib.parseIntB
      simp only
      rw [if_pos (by simp), Lib.parseUintB, if_neg (dec_ne_nil m), hp]
      simp only
      rw [if_neg (by simp), if_neg (by simp; omega), if_pos (by simp)]
  unfold numF
  rw [hp]
  simp only
  rw [if_pos ⟨h0, h1, h2⟩]
theorem numR_of {s : List UInt8} {v : Int} (h0 : -4611686018427387904 ≤ v) (h1 : v ≤ 4611686018427387904) (h2 : Lib.itoa v = s) : numR s = some v := by
  have he : endR s v = some v := by rw [endR, if_pos ⟨h0, h1, h2⟩]
  subst h2
  by_cases hv : 0 ≤ v
  · obtain ⟨m, rfl⟩ := Int.eq_ofNat_of_zero_le hv
    rw [itoa_nat] at he ⊢
    have hh : (Lib.decDigits m).head? ≠ some 45 := by
      intro e
      have := dec_digits m 45 (List.mem_of_mem_head? e)
      simp at this
    rw [numR, if_neg (by have := dec_len20 m (by omega); simp [dec_ne_nil]; omega), bodyR, if_neg hh, loopR_dec m (by omega)]
    simp only
    rw [signR, if_neg hh]
    exact he
  · obtain ⟨m, rfl⟩ : ∃ m : Nat, v = -(m : Int) := ⟨v.natAbs, by omega⟩
    rw [itoa_neg m (by omega)] at he ⊢
    rw [numR, if_neg (by have := dec_len20 m (by omega); simp; omega), bodyR, if_pos (by simp)]
    simp only [List.tail_cons]
    rw [loopR_dec m (by omega)]
    simp only
    rw [signR, if_pos (by simp)]
    exact he
theorem endR_some {s : List UInt8} {u v : Int} (h : endR s u = some v) : -4611686018427387904 ≤ v ∧ v ≤ 4611686018427387904 ∧ Lib.itoa v = s := by
  unfold endR at h
  split at h
  · simp only [Option.some.injEq] at h; subst h; assumption
  · cases h
theorem numR_eq (s : List UInt8) : numR s = numF s := by
  cases hR : numR s with
  | some v =>
    have : -4611686018427387904 ≤ v ∧ v ≤ 4611686018427387904 ∧ Lib.itoa v = s := by
      unfold numR at hR
      split at hR
      · cases hR
      · split at hR
        · cases hR
        · exact endR_some hR
    exact (numF_of this.1 this.2.1 this.2.2).symm
  | none =>
    cases hF : numF s with
    | none => rfl
    | some v =>
      have : -4611686018427387904 ≤ v ∧ v ≤ 4611686018427387904 ∧ Lib.itoa v = s := by
        unfold numF at hF
        split at hF
        · split at hF
          · simp only [Option.some.injEq] at hF; subst hF; assumption
          · cases hF
        · cases hF
      rw [numR_of this.1 this.2.1 this.2.2] at hR
      cases hR
end Go.Proofs.YtdjmckjbibfecaaGreatDoor

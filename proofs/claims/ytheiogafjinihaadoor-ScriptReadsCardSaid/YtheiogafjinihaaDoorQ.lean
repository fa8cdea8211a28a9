/- A number's text is read as that number by strconv.Atoi. (Plain: no program.) -/
import Derived.Lib.AtoiAll
import Derived.Lib.ItoaNum
namespace Go.Proofs.YtheiogafjinihaaDoor
open Go

theorem qdec_small (n : Nat) (h : n < 10) : Lib.decDigits n = [UInt8.ofNat (48 + n)] := Lib.decDigits_one h
theorem qdec_more (n : Nat) (h : ¬ n < 10) : Lib.decDigits n = Lib.decDigits (n / 10) ++ [UInt8.ofNat (48 + n % 10)] := by rw [Lib.decDigits, dif_neg h]
theorem qdigit_nat (k : Nat) (h : k < 10) : (UInt8.ofNat (48 + k)).toNat = 48 + k := by
  simp; omega
theorem qdec_ne_nil (n : Nat) : Lib.decDigits n ≠ [] := by
  by_cases h : n < 10
  · rw [qdec_small n h]; simp
  · rw [qdec_more n h]; simp
theorem parse10_append : ∀ (l m : List UInt8) (a b : Nat), Lib.parseUint10 a l = .ok b → Lib.parseUint10 a (l ++ m) = Lib.parseUint10 b m
  | [], m, a, b, h => by simp only [Lib.parseUint10, Lib.NumEnd.ok.injEq] at h; subst h; rfl
  | c :: l, m, a, b, h => by
    simp only [List.cons_append, Lib.parseUint10] at h ⊢
    split at h
    · split at h
      · cases h
      · split at h
        · cases h
        · rw [if_pos ‹_›, if_neg ‹_›, if_neg ‹_›]
          exact parse10_append l m _ b h
    · cases h
theorem parse10_dec : ∀ n : Nat, n ≤ 4611686018427387904 → Lib.parseUint10 0 (Lib.decDigits n) = .ok n := by
  intro n
  induction n using Nat.strongRecOn with
  | ind n ih =>
    intro hn
    by_cases h : n < 10
    · rw [qdec_small n h, Lib.parseUint10, qdigit_nat n h, if_pos (by omega), if_neg (by omega), if_neg (by omega), Lib.parseUint10]
      congr 1; omega
    · rw [qdec_more n h, parse10_append _ _ _ _ (ih (n / 10) (by omega) (by omega))]
      rw [Lib.parseUint10, qdigit_nat (n % 10) (by omega), if_pos (by omega), if_neg (by omega), if_neg (by omega), Lib.parseUint10]
      congr 1; omega
theorem qdec_digits : ∀ n : Nat, ∀ c ∈ Lib.decDigits n, 48 ≤ c.toNat ∧ c.toNat ≤ 57 := by
  intro n
  induction n using Nat.strongRecOn with
  | ind n ih =>
    intro c hc
    by_cases h : n < 10
    · rw [qdec_small n h] at hc
      simp only [List.mem_singleton] at hc
      subst hc
      rw [qdigit_nat n h]; omega
    · rw [qdec_more n h] at hc
      simp only [List.mem_append, List.mem_singleton] at hc
      rcases hc with hc | rfl
      · exact ih _ (by omega) c hc
      · rw [qdigit_nat _ (by omega)]; omega
/-- strconv.Atoi of strconv.Itoa. -/
theorem atoi_itoa {v : Int} (h0 : -4611686018427387904 ≤ v) (h1 : v ≤ 4611686018427387904) : Lib.atoiAll (Lib.itoa v) = .ok v := by
  by_cases hv : v < 0
  · rw [Lib.itoa, if_pos hv, Lib.atoiAll]
    have hm : Lib.parseMag (Lib.decDigits v.natAbs) = .ok v.natAbs := by rw [Lib.parseMag, if_neg (qdec_ne_nil _), parse10_dec _ (by omega)]
    have e45 : (45 : UInt8).toNat = 45 := rfl
    simp only [e45, or_true, if_true, hm, not_true_eq_false, false_and, if_false, true_and]
    rw [if_neg (by omega)]
    congr 1; omega
  · obtain ⟨m, rfl⟩ := Int.eq_ofNat_of_zero_le (by omega : 0 ≤ v)
    rw [Lib.itoa, if_neg hv]
    have hd := qdec_digits m
    have hn := qdec_ne_nil m
    have hp := parse10_dec m (by omega)
    simp only [Int.toNat_natCast] at *
    cases e : Lib.decDigits m with
    | nil => exact absurd e hn
    | cons c r =>
      rw [e] at hd hp
      have hc := hd c (by simp)
      have hm : Lib.parseMag (c :: r) = .ok m := by rw [Lib.parseMag, if_neg (by simp), hp]
      have n43 : ¬ (c.toNat = 43 ∨ c.toNat = 45) := by omega
      have n45 : ¬ c.toNat = 45 := by omega
      simp only [Lib.atoiAll]
      rw [if_neg n43, hm]
      simp only [n45, not_false_eq_true, true_and, false_and, if_false]
      rw [if_neg (by omega)]
/-- No blank, no line feed in a number's text. -/
theorem itoa_free (v : Int) : (32 : UInt8) ∉ Lib.itoa v ∧ (10 : UInt8) ∉ Lib.itoa v := by
  have key : ∀ c : UInt8, c.toNat < 45 → c ∉ Lib.itoa v := by
    intro c hc hm
    have hx : ∀ u : Nat, c ∉ Lib.decDigits u := fun u h => by have := qdec_digits u c h; omega
    unfold Lib.itoa at hm
    split at hm
    · rcases List.mem_cons.1 hm with rfl | h
      · simp at hc
      · exact hx _ h
    · exact hx _ hm
  exact ⟨key 32 (by decide), key 10 (by decide)⟩
end Go.Proofs.YtheiogafjinihaaDoor

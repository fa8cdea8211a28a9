/- Plain laws: a text cut at a sign. -/
import Derived.Test.YtdgbghgcnkjjeaaDoorPl
namespace Go.Proofs.YtdgbghgcnkjjeaaDoor
open Go.RowKit

def parts (c : UInt8) : List UInt8 → List (List UInt8)
  | [] => [[]]
  | b :: l => if b = c then [] :: parts c l else match parts c l with
    | [] => [[b]]
    | h :: t => (b :: h) :: t
theorem parts_ne (c : UInt8) : ∀ l, parts c l ≠ []
  | [] => by simp [parts]
  | b :: l => by
    rw [parts]
    split
    · simp
    · cases h : parts c l <;> simp
theorem parts_free {c : UInt8} : ∀ {p : List UInt8}, c ∉ p → parts c p = [p]
  | [], _ => rfl
  | b :: p, h => by
    have hb : b ≠ c := fun e => h (by simp [e])
    rw [parts, if_neg hb, parts_free (p := p) (fun hc => h (by simp [hc]))]
theorem parts_cut {c : UInt8} : ∀ {p : List UInt8} (r : List UInt8), c ∉ p → parts c (p ++ c :: r) = p :: parts c r
  | [], r, _ => by rw [List.nil_append, parts, if_pos rfl]
  | b :: p, r, h => by
    have hb : b ≠ c := fun e => h (by simp [e])
    rw [List.cons_append, parts, if_neg hb, parts_cut (p := p) r (fun hc => h (by simp [hc]))]

theorem ib_free {c : UInt8} : ∀ {p : List UInt8}, c ∉ p → Lib.indexByte p c = -1
  | [], _ => rfl
  | b :: p, h => by
    have hb : (b == c) = false := by rw [beq_eq_false_iff_ne]; exact fun e => h (by simp [e])
    rw [Lib.indexByte, hb, ib_free (p := p) (fun hc => h (by simp [hc]))]; rfl
theorem ib_cut {c : UInt8} : ∀ {p : List UInt8} (r : List UInt8), c ∉ p → Lib.indexByte (p ++ c :: r) c = p.length
  | [], r, _ => by simp [Lib.indexByte]
  | b :: p, r, h => by
    have hb : (b == c) = false := by rw [beq_eq_false_iff_ne]; exact fun e => h (by simp [e])
    rw [List.cons_append, Lib.indexByte, hb, ib_cut (p := p) r (fun hc => h (by simp [hc]))]
    have : (((p.length : Nat) : Int) == -1) = false := by rw [beq_eq_false_iff_ne]; omega
    rw [this]; simp
theorem free_or_cut (c : UInt8) : ∀ l : List UInt8, c ∉ l ∨ ∃ p r, c ∉ p ∧ l = p ++ c :: r
  | [] => .inl (by simp)
  | b :: l => by
    by_cases hb : b = c
    · exact .inr ⟨[], l, by simp, by simp [hb]⟩
    · rcases free_or_cut c l with h | ⟨p, r, h, e⟩
      · exact .inl (by simp [h, Ne.symm hb])
      · exact .inr ⟨b :: p, r, by simp [h, Ne.symm hb], by simp [e]⟩

theorem splitK_parts (c : UInt8) : ∀ (n : Nat) (l : List UInt8), l.length ≤ n → Lib.splitK [c] 0 (l.count c) l = parts c l
  | n, l, hn => by
    rcases free_or_cut c l with h | ⟨p, r, h, e⟩
    · rw [List.count_eq_zero.2 h, Lib.splitK, parts_free h]
    · subst e
      have hc : (p ++ c :: r).count c = r.count c + 1 := by simp [List.count_append, List.count_eq_zero.2 h]
      match n, hn with
      | 0, hn => simp at hn
      | n + 1, hn =>
        rw [hc, Lib.splitK, Lib.index_one, ib_cut r h, parts_cut r h]
        have : (((p.length : Nat) : Int) == -1) = false := by rw [beq_eq_false_iff_ne]; omega
        rw [this]
        simp only [Int.toNat_natCast, Nat.add_zero, List.length_cons, List.length_nil, Bool.false_eq_true, if_false]
        have e1 : (p ++ c :: r).take p.length = p := by simp
        have e2 : (p ++ c :: r).drop (p.length + (0 + 1)) = r := by simp
        rw [e1, e2, splitK_parts c n r (by simp at hn; omega)]

theorem cut_at {p : List UInt8} (r : List UInt8) (h : (10 : UInt8) ∉ p) : Lib.cut (p ++ 10 :: r) [10] = (p, r, true) := by
  unfold Lib.cut
  rw [Lib.index_one, ib_cut r h, if_pos (by omega)]
  simp

end Go.Proofs.YtdgbghgcnkjjeaaDoor

/- Texts parted at a byte: Lib.split at one byte, told by the text's own shape. (Plain: no program.) -/
import Derived.Lib.Split
import Derived.Lib.SplitLaws
namespace Go.Proofs.YtheiogafjinihaaDoor
open Go

/-- A text parted at each c. -/
def wordsL (c : UInt8) : List UInt8 → List (List UInt8)
  | [] => [[]]
  | x :: r => if x = c then [] :: wordsL c r else match wordsL c r with
    | [] => [[x]]
    | w :: ws => (x :: w) :: ws
theorem wordsL_none {c : UInt8} : ∀ {w : List UInt8}, c ∉ w → wordsL c w = [w]
  | [], _ => rfl
  | x :: r, h => by
    have hx : x ≠ c := fun e => h (by simp [e])
    have hr : c ∉ r := fun e => h (by simp [e])
    rw [wordsL, if_neg hx, wordsL_none hr]
theorem wordsL_cons {c : UInt8} : ∀ {w r : List UInt8}, c ∉ w → wordsL c (w ++ c :: r) = w :: wordsL c r
  | [], r, _ => by rw [List.nil_append, wordsL, if_pos rfl]
  | x :: w, r, h => by
    have hx : x ≠ c := fun e => h (by simp [e])
    have hr : c ∉ w := fun e => h (by simp [e])
    rw [List.cons_append, wordsL, if_neg hx, wordsL_cons hr]
theorem part_at (c : UInt8) : ∀ s : List UInt8, c ∉ s ∨ ∃ w r, s = w ++ c :: r ∧ c ∉ w
  | [] => .inl (by simp)
  | x :: r => by
    by_cases h : x = c
    · subst h
      exact .inr ⟨[], r, rfl, by simp⟩
    · rcases part_at c r with h1 | ⟨w, r', rfl, h2⟩
      · exact .inl (by simp [h1, Ne.symm h])
      · exact .inr ⟨x :: w, r', rfl, by simp [h2, Ne.symm h]⟩
theorem occ_one (s : List UInt8) (c : UInt8) (i : Nat) : Lib.occAt s [c] i = (s[i]? == some c) := by
  unfold Lib.occAt
  cases h : s[i]? with
  | none =>
    have hd : s.drop i = [] := List.drop_eq_nil_of_le (by simpa using h)
    rw [hd]; rfl
  | some x =>
    obtain ⟨hi, he⟩ := List.getElem?_eq_some_iff.1 h
    rw [List.drop_eq_getElem_cons hi, he]
    by_cases e : c = x
    · subst e; simp [List.isPrefixOf]
    · have h2 : (c == x) = false := by simpa using e
      have h3 : (x == c) = false := by simpa using fun h => e (Eq.symm h)
      simp only [List.isPrefixOf, h2, Bool.false_and]
      exact h3.symm
theorem index_one_none {c : UInt8} {s : List UInt8} (h : c ∉ s) : Lib.index s [c] = -1 :=
  Lib.index_none fun j _ => by
    rw [occ_one]
    cases e : s[j]? with
    | none => rfl
    | some x =>
      have hx : x ∈ s := List.mem_of_getElem? e
      have : x ≠ c := fun e => h (e ▸ hx)
      simp [this]
theorem index_one_some {c : UInt8} {w r : List UInt8} (h : c ∉ w) : Lib.index (w ++ c :: r) [c] = w.length :=
  Lib.index_first (by simp) (by rw [occ_one]; simp) fun j hj => by
    rw [occ_one, List.getElem?_append_left hj]
    cases e : w[j]? with
    | none => rfl
    | some x =>
      have hx : x ∈ w := List.mem_of_getElem? e
      have : x ≠ c := fun e => h (e ▸ hx)
      simp [this]
theorem splitK_words (c : UInt8) : ∀ (k : Nat) (s : List UInt8), s.count c = k → Lib.splitK [c] 0 k s = wordsL c s
  | 0, s, h => by
    rw [Lib.splitK, wordsL_none (by simpa [List.count_eq_zero] using h)]
  | k + 1, s, h => by
    rcases part_at c s with h1 | ⟨w, r, rfl, h2⟩
    · rw [List.count_eq_zero.2 h1] at h
      cases h
    · have hc : r.count c = k := by
        rw [List.count_append, List.count_cons_self, List.count_eq_zero.2 h2] at h
        omega
      rw [Lib.splitK, index_one_some h2, wordsL_cons h2]
      have hne : ((w.length : Int) == -1) = false := by simp
      rw [hne, if_neg (by simp)]
      have e1 : ((w.length : Int).toNat + 0) = w.length := by omega
      have e2 : (w ++ c :: r).drop ((w.length : Int).toNat + [c].length) = r := by
        rw [show (w.length : Int).toNat = w.length by omega, List.length_singleton, show w ++ c :: r = (w ++ [c]) ++ r by simp, show w.length + 1 = (w ++ [c]).length by simp, List.drop_left]
      rw [e1, List.take_left, e2, splitK_words c k r hc]
/-- strings.Split at one byte. -/
theorem split_words (c : UInt8) (s : List UInt8) : Lib.split s [c] = wordsL c s := by
  rw [Lib.split, Lib.count_one, splitK_words c _ s rfl]
/-- Texts with a c between. -/
def joinL (c : UInt8) : List (List UInt8) → List UInt8
  | [] => []
  | [w] => w
  | w :: v :: ws => w ++ c :: joinL c (v :: ws)
theorem words_join {c : UInt8} : ∀ {ws : List (List UInt8)}, ws ≠ [] → (∀ w ∈ ws, c ∉ w) → wordsL c (joinL c ws) = ws
  | [], h, _ => absurd rfl h
  | [w], _, h => by rw [joinL, wordsL_none (h w (by simp))]
  | w :: v :: ws, _, h => by
    rw [joinL, wordsL_cons (h w (by simp)), words_join (by simp) (fun x hx => h x (by simp [hx]))]
theorem wordsL_ne (c : UInt8) (s : List UInt8) : wordsL c s ≠ [] := by
  rcases part_at c s with h1 | ⟨w, r, rfl, h2⟩
  · rw [wordsL_none h1]; simp
  · rw [wordsL_cons h2]; simp
theorem join_words (c : UInt8) : ∀ (n : Nat) (s : List UInt8), s.length ≤ n → joinL c (wordsL c s) = s
  | n, s, hn => by
    rcases part_at c s with h1 | ⟨w, r, rfl, h2⟩
    · rw [wordsL_none h1]; rfl
    · rw [wordsL_cons h2]
      cases n with
      | zero => simp at hn
      | succ n =>
        have ih := join_words c n r (by simp at hn; omega)
        cases hw : wordsL c r with
        | nil => exact absurd hw (wordsL_ne c r)
        | cons v ws => rw [hw] at ih; rw [joinL, ih]
theorem words_free (c : UInt8) : ∀ (n : Nat) (s : List UInt8), s.length ≤ n → ∀ w ∈ wordsL c s, c ∉ w
  | n, s, hn, x, hx => by
    rcases part_at c s with h1 | ⟨w, r, rfl, h2⟩
    · rw [wordsL_none h1] at hx
      simp at hx; subst hx; exact h1
    · rw [wordsL_cons h2] at hx
      cases n with
      | zero => simp at hn
      | succ n =>
        rcases List.mem_cons.1 hx with rfl | hx
        · exact h2
        · exact words_free c n r (by simp at hn; omega) x hx
end Go.Proofs.YtheiogafjinihaaDoor

/- When some atoms explain that a rule doesn't stand; the two ways to look for it. (Plain: no program.) -/
import Derived.Test.YtdjmckjbibfecaaGreatDoorCa
namespace Go.Proofs.YtdjmckjbibfecaaGreatDoor
open Go

/-- Whatever the others say, the rule doesn't stand Fine. -/
def Enough (t : Tree) (st : Nat → Nat) (S : Nat → Bool) : Prop :=
  ∀ s : Nat → Int, inR s 0 (atomsT t).length → (∀ i, i < (atomsT t).length → S i = true → s i = st i) → (evalT s t 0).1 ≠ 0
theorem Enough.mono {t : Tree} {st : Nat → Nat} {S S' : Nat → Bool} (h : Enough t st S) (hs : ∀ i, i < (atomsT t).length → S i = true → S' i = true) : Enough t st S' :=
  fun s h1 h2 => h s h1 fun i hi hS => h2 i hi (hs i hi hS)
def wOf (st : Nat → Nat) (S : Nat → Bool) (i : Nat) : Nat := if S i then 2 ^ st i else 7
theorem bit7 {r : Nat} : r < 3 → (7 : Nat).testBit r = true := by
  intro h
  have : r = 0 ∨ r = 1 ∨ r = 2 := by omega
  rcases this with rfl | rfl | rfl <;> decide
theorem wOf_lt {st : Nat → Nat} (hst : ∀ i, st i < 3) (S : Nat → Bool) (i : Nat) : wOf st S i < 8 := by
  unfold wOf
  split
  · have := hst i
    have : st i = 0 ∨ st i = 1 ∨ st i = 2 := by omega
    rcases this with h | h | h <;> rw [h] <;> decide
  · decide
theorem explains_iff {t : Tree} {st : Nat → Nat} (hst : ∀ i, st i < 3) (S : Nat → Bool) : (canT (wOf st S) t 0).1.testBit 0 = false ↔ Enough t st S := by
  have h := (reachT (wOf_lt hst S) t 0).2 0 (by omega)
  rw [← Bool.not_eq_true, h]
  constructor
  · intro hn s h1 h2 h0
    refine hn ⟨s, fun i hi hl => ?_, h0⟩
    by_cases hS : S i = true
    · refine ⟨st i, hst i, h2 i (by omega) hS, ?_⟩
      unfold wOf; rw [if_pos hS]; exact bit_two.2 rfl
    · obtain ⟨r, hr, e⟩ := int3 (h1 i hi hl).1 (h1 i hi hl).2
      refine ⟨r, hr, e, ?_⟩
      unfold wOf; rw [if_neg hS]; exact bit7 hr
  · rintro he ⟨s, hs, h0⟩
    refine he s (fitsW_inR hs) (fun i hi hS => ?_) h0
    obtain ⟨r, hr, e, ht⟩ := hs i (Nat.zero_le _) (by omega)
    unfold wOf at ht
    rw [if_pos hS] at ht
    rw [e, bit_two.1 ht]

/-- The document's way: the atoms that are free, by a number's digits to base three. -/
def fillD (S : Nat → Bool) : List Int → Nat → Nat → List Int
  | [], _, _ => []
  | a :: l, i, y => if S i then a :: fillD S l (i + 1) y else ((y % 3 : Nat) : Int) :: fillD S l (i + 1) (y / 3)
def freeD (S : Nat → Bool) : Nat → Nat → Nat
  | 0, _ => 1
  | n + 1, i => if S i then freeD S n (i + 1) else 3 * freeD S n (i + 1)
theorem fillD_in (S : Nat → Bool) : ∀ (l : List Int) (i y k : Nat), k < l.length → (S (i + k) = true → (fillD S l i y)[k]? = l[k]?) ∧ (S (i + k) = false → ∃ r : Nat, r < 3 ∧ (fillD S l i y)[k]? = some (r : Int))
  | [], _, _, k, h => by simp at h
  | a :: l, i, y, 0, _ => by
    rw [fillD, Nat.add_zero]
    split
    · rename_i h; exact ⟨fun _ => rfl, fun h' => by rw [h] at h'; cases h'⟩
    · rename_i h; exact ⟨fun h' => absurd h' h, fun _ => ⟨y % 3, by omega, rfl⟩⟩
  | a :: l, i, y, k + 1, h => by
    rw [fillD]
    have e : i + (k + 1) = i + 1 + k := by omega
    rw [e]
    split
    · simpa using fillD_in S l (i + 1) y k (by simpa using h)
    · simpa using fillD_in S l (i + 1) (y / 3) k (by simpa using h)
theorem fillD_all (S : Nat → Bool) : ∀ (l b : List Int) (i : Nat), b.length = l.length → (∀ k, k < l.length → (S (i + k) = true → b[k]? = l[k]?) ∧ ∃ r : Nat, r < 3 ∧ b[k]? = some (r : Int)) → ∃ x, x < freeD S l.length i ∧ fillD S l i x = b
  | [], [], _, _, _ => ⟨0, by simp [freeD], rfl⟩
  | [], _ :: _, _, h, _ => by simp at h
  | _ :: _, [], _, h, _ => by simp at h
  | a :: l, c :: b, i, hl, h => by
    obtain ⟨x, hx, e⟩ := fillD_all S l b (i + 1) (by simpa using hl) (fun k hk => by
      have := h (k + 1) (by simpa using hk)
      rw [show i + (k + 1) = i + 1 + k by omega] at this
      simpa using this)
    have h0 := h 0 (by simp)
    rw [List.length_cons, freeD]
    by_cases hS : S i = true
    · refine ⟨x, by rw [if_pos hS]; exact hx, ?_⟩
      rw [fillD, if_pos hS, e]
      have : c = a := by simpa using h0.1 hS
      rw [this]
    · obtain ⟨r, hr, er⟩ := h0.2
      have : c = (r : Int) := by simpa using er
      refine ⟨r + 3 * x, by rw [if_neg hS]; omega, ?_⟩
      rw [fillD, if_neg hS, show (r + 3 * x) % 3 = r by omega, show (r + 3 * x) / 3 = x by omega, e, this]
/-- A list as a function. -/
def atL (l : List Int) (i : Nat) : Int := (l[i]?).getD 0
/-- The document's answer. -/
def explD (t : Tree) (st : List Int) (S : Nat → Bool) : Prop := ∀ x, x < freeD S st.length 0 → (evalT (atL (fillD S st 0 x)) t 0).1 ≠ 0
theorem explD_iff {t : Tree} {st : List Int} {stn : Nat → Nat} (hl : st.length = (atomsT t).length) (hst : ∀ i, i < st.length → st[i]? = some (stn i : Int)) (h3 : ∀ i, stn i < 3) (S : Nat → Bool) : explD t st S ↔ Enough t stn S := by
  constructor
  · intro h s h1 h2
    obtain ⟨x, hx, e⟩ := fillD_all S st ((List.range st.length).map s) 0 (by simp) (fun k hk => by
      have hg : ((List.range st.length).map s)[k]? = some (s k) := by simp [hk]
      rw [hg, Nat.zero_add]
      obtain ⟨r, hr, er⟩ := int3 (h1 k (Nat.zero_le _) (by omega)).1 (h1 k (Nat.zero_le _) (by omega)).2
      exact ⟨fun hS => by rw [hst k hk, h2 k (by omega) hS], r, hr, by rw [er]⟩)
    have := h x hx
    rw [e] at this
    rw [evalT_cong t 0 (s' := atL ((List.range st.length).map s)) (fun i _ hi => by
      unfold atL
      simp [show i < st.length by omega])]
    exact this
  · intro h x hx
    refine h _ (fun i _ hi => ?_) (fun i hi hS => ?_)
    · have hk := fillD_in S st 0 x i (by omega)
      rw [Nat.zero_add] at hk
      unfold atL
      cases hS : S i with
      | true => rw [hk.1 hS, hst i (by omega)]; have := h3 i; simp; omega
      | false => obtain ⟨r, hr, e⟩ := hk.2 hS; rw [e]; simp; omega
    · have hk := fillD_in S st 0 x i (by omega)
      rw [Nat.zero_add] at hk
      unfold atL
      rw [hk.1 hS, hst i (by omega)]
      rfl
end Go.Proofs.YtdjmckjbibfecaaGreatDoor

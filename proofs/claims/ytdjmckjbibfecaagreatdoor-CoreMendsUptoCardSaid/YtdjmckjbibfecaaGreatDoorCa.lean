/- Rules, their atoms, how they may stand. (Plain: no program.) -/
import Derived.Test.YtdjmckjbibfecaaGreatDoorX
namespace Go.Proofs.YtdjmckjbibfecaaGreatDoor
open Go

mutual
/-- The atoms of a rule, in order. -/
def atomsT : Tree → List Tree
  | .mk k p f x n A c L => if 3 ≤ k ∧ k ≤ 7 then [.mk k p f x n A c L] else if 0 ≤ k ∧ k ≤ 2 then atomsL L else []
def atomsL : List Tree → List Tree
  | [] => []
  | t :: L => atomsT t ++ atomsL L
end
mutual
/-- How a rule stands, if its atoms, from the j-th on, stand so; and the next atom's place. -/
def evalT (s : Nat → Int) : Tree → Nat → Int × Nat
  | .mk k _ _ _ _ _ _ L, j =>
    if 3 ≤ k ∧ k ≤ 7 then (s j, j + 1)
    else if k = 0 then greatE s L j 0
    else if k = 1 then leastE s L j 2
    else if k = 2 then (2 - (greatE s L j 0).1, (greatE s L j 0).2)
    else (2, j)
def greatE (s : Nat → Int) : List Tree → Nat → Int → Int × Nat
  | [], j, a => (a, j)
  | t :: L, j, a => greatE s L (evalT s t j).2 (max a (evalT s t j).1)
def leastE (s : Nat → Int) : List Tree → Nat → Int → Int × Nat
  | [], j, a => (a, j)
  | t :: L, j, a => leastE s L (evalT s t j).2 (min a (evalT s t j).1)
end
/-- Two sets of ways, joined. -/
def crossM (op : Nat → Nat → Nat) (a b : Nat) : Nat :=
  (List.range 9).foldl (fun s q => if a.testBit (q / 3) && b.testBit (q % 3) then s ||| 2 ^ op (q / 3) (q % 3) else s) 0
mutual
/-- In which ways a rule may come to stand; and the next atom's place. -/
def canT (w : Nat → Nat) : Tree → Nat → Nat × Nat
  | .mk k _ _ _ _ _ _ L, j =>
    if 3 ≤ k ∧ k ≤ 7 then (w j, j + 1)
    else if k = 0 then greatC w L j 1
    else if k = 1 then leastC w L j 4
    else if k = 2 then (crossM (fun a b => b - a) (greatC w L j 1).1 4, (greatC w L j 1).2)
    else (4, j)
def greatC (w : Nat → Nat) : List Tree → Nat → Nat → Nat × Nat
  | [], j, a => (a, j)
  | t :: L, j, a => greatC w L (canT w t j).2 (crossM max a (canT w t j).1)
def leastC (w : Nat → Nat) : List Tree → Nat → Nat → Nat × Nat
  | [], j, a => (a, j)
  | t :: L, j, a => leastC w L (canT w t j).2 (crossM min a (canT w t j).1)
end
mutual
theorem evalT_next (s : Nat → Int) : ∀ (t : Tree) (j : Nat), (evalT s t j).2 = j + (atomsT t).length
  | .mk k p f x n A c L, j => by
    rw [evalT, atomsT]
    by_cases h : 3 ≤ k ∧ k ≤ 7
    · rw [if_pos h, if_pos h]; rfl
    rw [if_neg h, if_neg h]
    by_cases h0 : k = 0
    · rw [if_pos h0, if_pos (by omega), greatE_next s L j 0]
    rw [if_neg h0]
    by_cases h1 : k = 1
    · rw [if_pos h1, if_pos (by omega), leastE_next s L j 2]
    rw [if_neg h1]
    by_cases h2 : k = 2
    · rw [if_pos h2, if_pos (by omega)]; exact greatE_next s L j 0
    rw [if_neg h2, if_neg (by omega)]; rfl
theorem greatE_next (s : Nat → Int) : ∀ (L : List Tree) (j : Nat) (a : Int), (greatE s L j a).2 = j + (atomsL L).length
  | [], j, a => by rw [greatE, atomsL]; rfl
  | t :: L, j, a => by rw [greatE, atomsL, greatE_next s L, evalT_next s t, List.length_append]; omega
theorem leastE_next (s : Nat → Int) : ∀ (L : List Tree) (j : Nat) (a : Int), (leastE s L j a).2 = j + (atomsL L).length
  | [], j, a => by rw [leastE, atomsL]; rfl
  | t :: L, j, a => by rw [leastE, atomsL, leastE_next s L, evalT_next s t, List.length_append]; omega
end
mutual
theorem canT_next (w : Nat → Nat) : ∀ (t : Tree) (j : Nat), (canT w t j).2 = j + (atomsT t).length
  | .mk k p f x n A c L, j => by
    rw [canT, atomsT]
    by_cases h : 3 ≤ k ∧ k ≤ 7
    · rw [if_pos h, if_pos h]; rfl
    rw [if_neg h, if_neg h]
    by_cases h0 : k = 0
    · rw [if_pos h0, if_pos (by omega), greatC_next w L j 1]
    rw [if_neg h0]
    by_cases h1 : k = 1
    · rw [if_pos h1, if_pos (by omega), leastC_next w L j 4]
    rw [if_neg h1]
    by_cases h2 : k = 2
    · rw [if_pos h2, if_pos (by omega)]; exact greatC_next w L j 1
    rw [if_neg h2, if_neg (by omega)]; rfl
theorem greatC_next (w : Nat → Nat) : ∀ (L : List Tree) (j : Nat) (a : Nat), (greatC w L j a).2 = j + (atomsL L).length
  | [], j, a => by rw [greatC, atomsL]; rfl
  | t :: L, j, a => by rw [greatC, atomsL, greatC_next w L, canT_next w t, List.length_append]; omega
theorem leastC_next (w : Nat → Nat) : ∀ (L : List Tree) (j : Nat) (a : Nat), (leastC w L j a).2 = j + (atomsL L).length
  | [], j, a => by rw [leastC, atomsL]; rfl
  | t :: L, j, a => by rw [leastC, atomsL, leastC_next w L, canT_next w t, List.length_append]; omega
end
mutual
theorem evalT_cong {s s' : Nat → Int} : ∀ (t : Tree) (j : Nat), (∀ i, j ≤ i → i < j + (atomsT t).length → s i = s' i) → evalT s t j = evalT s' t j
  | .mk k p f x n A c L, j, hs => by
    rw [atomsT] at hs
    rw [evalT, evalT]
    by_cases h : 3 ≤ k ∧ k ≤ 7
    · rw [if_pos h, if_pos h]
      rw [if_pos h] at hs
      rw [hs j (Nat.le_refl _) (by simp)]
    rw [if_neg h, if_neg h]
    rw [if_neg h] at hs
    by_cases h3 : 0 ≤ k ∧ k ≤ 2
    · rw [if_pos h3] at hs
      rw [greatE_cong L j 0 hs, leastE_cong L j 2 hs]
    · rw [if_neg (by omega), if_neg (by omega), if_neg (by omega), if_neg (by omega), if_neg (by omega), if_neg (by omega)]
theorem greatE_cong {s s' : Nat → Int} : ∀ (L : List Tree) (j : Nat) (a : Int), (∀ i, j ≤ i → i < j + (atomsL L).length → s i = s' i) → greatE s L j a = greatE s' L j a
  | [], j, a, _ => by rw [greatE, greatE]
  | t :: L, j, a, hs => by
    rw [atomsL, List.length_append] at hs
    rw [greatE, greatE, evalT_cong t j (fun i h1 h2 => hs i h1 (by omega))]
    exact greatE_cong L _ _ (fun i h1 h2 => by rw [evalT_next] at h1 h2; exact hs i (by omega) (by omega))
theorem leastE_cong {s s' : Nat → Int} : ∀ (L : List Tree) (j : Nat) (a : Int), (∀ i, j ≤ i → i < j + (atomsL L).length → s i = s' i) → leastE s L j a = leastE s' L j a
  | [], j, a, _ => by rw [leastE, leastE]
  | t :: L, j, a, hs => by
    rw [atomsL, List.length_append] at hs
    rw [leastE, leastE, evalT_cong t j (fun i h1 h2 => hs i h1 (by omega))]
    exact leastE_cong L _ _ (fun i h1 h2 => by rw [evalT_next] at h1 h2; exact hs i (by omega) (by omega))
end
/-- A way is among those that two sets make together. -/
theorem cross_max : ∀ a b : Fin 8, ∀ v : Fin 3, (crossM max a.val b.val).testBit v.val = true ↔ ∃ i j : Fin 3, a.val.testBit i.val = true ∧ b.val.testBit j.val = true ∧ max i.val j.val = v.val := by decide
theorem cross_min : ∀ a b : Fin 8, ∀ v : Fin 3, (crossM min a.val b.val).testBit v.val = true ↔ ∃ i j : Fin 3, a.val.testBit i.val = true ∧ b.val.testBit j.val = true ∧ min i.val j.val = v.val := by decide
theorem cross_not : ∀ a : Fin 8, ∀ v : Fin 3, (crossM (fun x y => y - x) a.val 4).testBit v.val = true ↔ ∃ i : Fin 3, a.val.testBit i.val = true ∧ 2 - i.val = v.val := by decide
theorem cross_lt8 : ∀ a b : Fin 8, crossM max a.val b.val < 8 ∧ crossM min a.val b.val < 8 := by decide
theorem cross_lt8n : ∀ a : Fin 8, crossM (fun x y => y - x) a.val 4 < 8 := by decide

def inR (s : Nat → Int) (j n : Nat) : Prop := ∀ i, j ≤ i → i < j + n → 0 ≤ s i ∧ s i ≤ 2
mutual
theorem evalT_range {s : Nat → Int} : ∀ (t : Tree) (j : Nat), inR s j (atomsT t).length → 0 ≤ (evalT s t j).1 ∧ (evalT s t j).1 ≤ 2
  | .mk k p f x n A c L, j, hs => by
    rw [atomsT] at hs
    rw [evalT]
    by_cases h : 3 ≤ k ∧ k ≤ 7
    · rw [if_pos h]
      rw [if_pos h] at hs
      exact hs j (Nat.le_refl _) (by simp)
    rw [if_neg h]
    rw [if_neg h] at hs
    by_cases h3 : 0 ≤ k ∧ k ≤ 2
    · rw [if_pos h3] at hs
      have g := greatE_range L j 0 (by omega) (by omega) hs
      have l := leastE_range L j 2 (by omega) (by omega) hs
      repeat' split
      all_goals first | exact g | exact l | (simp only; omega)
    · rw [if_neg (by omega), if_neg (by omega), if_neg (by omega)]; simp
theorem greatE_range {s : Nat → Int} : ∀ (L : List Tree) (j : Nat) (a : Int), 0 ≤ a → a ≤ 2 → inR s j (atomsL L).length → 0 ≤ (greatE s L j a).1 ∧ (greatE s L j a).1 ≤ 2
  | [], j, a, h0, h1, _ => by rw [greatE]; exact ⟨h0, h1⟩
  | t :: L, j, a, h0, h1, hs => by
    rw [atomsL, List.length_append] at hs
    rw [greatE]
    have ht := evalT_range t j (fun i h1 h2 => hs i h1 (by omega))
    exact greatE_range L _ _ (by omega) (by omega) (fun i h1 h2 => by rw [evalT_next] at h1 h2; exact hs i (by omega) (by omega))
theorem leastE_range {s : Nat → Int} : ∀ (L : List Tree) (j : Nat) (a : Int), 0 ≤ a → a ≤ 2 → inR s j (atomsL L).length → 0 ≤ (leastE s L j a).1 ∧ (leastE s L j a).1 ≤ 2
  | [], j, a, h0, h1, _ => by rw [leastE]; exact ⟨h0, h1⟩
  | t :: L, j, a, h0, h1, hs => by
    rw [atomsL, List.length_append] at hs
    rw [leastE]
    have ht := evalT_range t j (fun i h1 h2 => hs i h1 (by omega))
    exact leastE_range L _ _ (by omega) (by omega) (fun i h1 h2 => by rw [evalT_next] at h1 h2; exact hs i (by omega) (by omega))
end
/-- Each atom stands in one of its ways. -/
def fitsW (s : Nat → Int) (w : Nat → Nat) (j n : Nat) : Prop := ∀ i, j ≤ i → i < j + n → ∃ r : Nat, r < 3 ∧ s i = r ∧ (w i).testBit r = true
theorem fitsW_inR {s : Nat → Int} {w : Nat → Nat} {j n : Nat} (h : fitsW s w j n) : inR s j n := fun i h1 h2 => by
  obtain ⟨r, hr, e, _⟩ := h i h1 h2
  omega
theorem fitsW_join {s s' : Nat → Int} {w : Nat → Nat} {j n m : Nat} (h : fitsW s w j n) (h' : fitsW s' w (j + n) m) : fitsW (fun q => if q < j + n then s q else s' q) w j (n + m) := fun i h1 h2 => by
  by_cases hi : i < j + n
  · obtain ⟨r, hr, e, ht⟩ := h i h1 hi
    exact ⟨r, hr, by simp only [if_pos hi]; exact e, ht⟩
  · obtain ⟨r, hr, e, ht⟩ := h' i (by omega) (by omega)
    exact ⟨r, hr, by simp only [if_neg hi]; exact e, ht⟩
theorem int3 {v : Int} (h0 : 0 ≤ v) (h1 : v ≤ 2) : ∃ r : Nat, r < 3 ∧ v = r := ⟨v.toNat, by omega, by omega⟩
def Reach (c : Nat) (P : Nat → Prop) : Prop := c < 8 ∧ ∀ v, v < 3 → (c.testBit v = true ↔ P v)
theorem reach_max {a c : Nat} {P : Nat → Prop} (ha : a < 8) (hc : Reach c P) : Reach (crossM max a c) (fun v => ∃ i j, i < 3 ∧ j < 3 ∧ a.testBit i = true ∧ P j ∧ max i j = v) := by
  refine ⟨(cross_lt8 ⟨a, ha⟩ ⟨c, hc.1⟩).1, fun v hv => ?_⟩
  rw [cross_max ⟨a, ha⟩ ⟨c, hc.1⟩ ⟨v, hv⟩]
  constructor
  · rintro ⟨i, j, h1, h2, h3⟩
    exact ⟨i, j, i.2, j.2, h1, (hc.2 j j.2).1 h2, h3⟩
  · rintro ⟨i, j, hi, hj, h1, h2, h3⟩
    exact ⟨⟨i, hi⟩, ⟨j, hj⟩, h1, (hc.2 j hj).2 h2, h3⟩
theorem reach_min {a c : Nat} {P : Nat → Prop} (ha : a < 8) (hc : Reach c P) : Reach (crossM min a c) (fun v => ∃ i j, i < 3 ∧ j < 3 ∧ a.testBit i = true ∧ P j ∧ min i j = v) := by
  refine ⟨(cross_lt8 ⟨a, ha⟩ ⟨c, hc.1⟩).2, fun v hv => ?_⟩
  rw [cross_min ⟨a, ha⟩ ⟨c, hc.1⟩ ⟨v, hv⟩]
  constructor
  · rintro ⟨i, j, h1, h2, h3⟩
    exact ⟨i, j, i.2, j.2, h1, (hc.2 j j.2).1 h2, h3⟩
  · rintro ⟨i, j, hi, hj, h1, h2, h3⟩
    exact ⟨⟨i, hi⟩, ⟨j, hj⟩, h1, (hc.2 j hj).2 h2, h3⟩
theorem bit_two {r v : Nat} : (2 ^ r).testBit v = true ↔ r = v := by simp [Nat.testBit_two_pow]
mutual
theorem reachT {w : Nat → Nat} (hw : ∀ i, w i < 8) : ∀ (t : Tree) (j : Nat), Reach (canT w t j).1 (fun v => ∃ s, fitsW s w j (atomsT t).length ∧ (evalT s t j).1 = v)
  | .mk k p f x n A c L, j => by
    rw [canT, atomsT]
    by_cases h : 3 ≤ k ∧ k ≤ 7
    · rw [if_pos h, if_pos h]
      refine ⟨hw j, fun v hv => ⟨fun hb => ⟨fun _ => v, fun i h1 h2 => ⟨v, hv, rfl, ?_⟩, ?_⟩, fun ⟨s, hs, he⟩ => ?_⟩⟩
      · have : i = j := by simp at h2; omega
        subst this; exact hb
      · rw [evalT, if_pos h]
      · rw [evalT, if_pos h] at he
        obtain ⟨r, hr, e, ht⟩ := hs j (Nat.le_refl _) (by simp)
        have : r = v := by simp only at he; omega
        subst this; exact ht
    rw [if_neg h, if_neg h]
    by_cases h0 : k = 0
    · rw [if_pos h0, if_pos (by omega)]
      have := reachG hw L j 1 (by omega)
      refine ⟨this.1, fun v hv => (this.2 v hv).trans ⟨fun ⟨r, hr, hb, s, hs, he⟩ => ⟨s, hs, ?_⟩, fun ⟨s, hs, he⟩ => ⟨0, by omega, by decide, s, hs, ?_⟩⟩⟩
      · have r0 : r = 0 := by
          have := bit_two (r := 0) (v := r)
          exact (this.1 hb).symm
        subst r0
        rw [evalT, if_neg h, if_pos h0]; exact he
      · rw [evalT, if_neg h, if_pos h0] at he; exact he
    rw [if_neg h0]
    by_cases h1 : k = 1
    · rw [if_pos h1, if_pos (by omega)]
      have := reachL hw L j 4 (by omega)
      refine ⟨this.1, fun v hv => (this.2 v hv).trans ⟨fun ⟨r, hr, hb, s, hs, he⟩ => ⟨s, hs, ?_⟩, fun ⟨s, hs, he⟩ => ⟨2, by omega, by decide, s, hs, ?_⟩⟩⟩
      · have r0 : r = 2 := by
          have := bit_two (r := 2) (v := r)
          exact (this.1 hb).symm
        subst r0
        rw [evalT, if_neg h, if_neg h0, if_pos h1]; exact he
      · rw [evalT, if_neg h, if_neg h0, if_pos h1] at he; exact he
    rw [if_neg h1]
    by_cases h2 : k = 2
    · rw [if_pos h2, if_pos (by omega)]
      have := reachG hw L j 1 (by omega)
      refine ⟨cross_lt8n ⟨_, this.1⟩, fun v hv => ?_⟩
      have hx := cross_not ⟨_, this.1⟩ ⟨v, hv⟩
      refine hx.trans ⟨fun ⟨i, hi, e⟩ => ?_, fun ⟨s, hs, he⟩ => ?_⟩
      · obtain ⟨r, hr, hb, s, hs, he⟩ := (this.2 i i.2).1 hi
        have r0 : r = 0 := ((bit_two (r := 0) (v := r)).1 hb).symm
        subst r0
        refine ⟨s, hs, ?_⟩
        rw [evalT, if_neg h, if_neg h0, if_neg h1, if_pos h2]
        have e' : 2 - i.val = v := e
        have hi2 := i.2
        have he' : (greatE s L j 0).1 = (i.val : Int) := he
        show 2 - (greatE s L j 0).1 = (v : Int)
        rw [he']
        omega
      · rw [evalT, if_neg h, if_neg h0, if_neg h1, if_pos h2] at he
        simp only at he
        have hr := greatE_range L j 0 (by omega) (by omega) (fitsW_inR hs)
        obtain ⟨i, hi, ei⟩ := int3 hr.1 hr.2
        refine ⟨⟨i, hi⟩, (this.2 i hi).2 ⟨0, by omega, by decide, s, hs, ei⟩, ?_⟩
        show 2 - i = v
        omega
    rw [if_neg h2, if_neg (by omega)]
    refine ⟨by omega, fun v hv => ⟨fun hb => ⟨fun _ => 0, fun i h1 h2 => by simp at h2; omega, ?_⟩, fun ⟨s, hs, he⟩ => ?_⟩⟩
    · have r0 : v = 2 := ((bit_two (r := 2) (v := v)).1 hb).symm
      subst r0
      rw [evalT, if_neg h, if_neg h0, if_neg h1, if_neg h2]; rfl
    · rw [evalT, if_neg h, if_neg h0, if_neg h1, if_neg h2] at he
      have : v = 2 := by simp only at he; omega
      subst this
      show Nat.testBit 4 2 = true
      decide
theorem reachG {w : Nat → Nat} (hw : ∀ i, w i < 8) : ∀ (L : List Tree) (j a : Nat), a < 8 → Reach (greatC w L j a).1 (fun v => ∃ r, r < 3 ∧ a.testBit r = true ∧ ∃ s, fitsW s w j (atomsL L).length ∧ (greatE s L j r).1 = v)
  | [], j, a, ha => by
    rw [greatC, atomsL]
    refine ⟨ha, fun v hv => ⟨fun hb => ⟨v, hv, hb, fun _ => 0, fun i h1 h2 => by simp at h2; omega, by rw [greatE]⟩, fun ⟨r, hr, hb, s, hs, he⟩ => ?_⟩⟩
    rw [greatE] at he
    have : r = v := by simp only at he; omega
    subst this; exact hb
  | t :: L, j, a, ha => by
    rw [greatC, canT_next, atomsL, List.length_append]
    have ht := reachT hw t j
    have hm := reach_max ha ht
    have hL := reachG hw L (j + (atomsT t).length) _ hm.1
    refine ⟨hL.1, fun v hv => (hL.2 v hv).trans ⟨fun ⟨r, hr, hb, s, hs, he⟩ => ?_, fun ⟨r, hr, hb, s, hs, he⟩ => ?_⟩⟩
    · obtain ⟨i, i', hi, hi', h1, ⟨s1, hs1, he1⟩, h3⟩ := (hm.2 r hr).1 hb
      refine ⟨i, hi, h1, _, fitsW_join hs1 hs, ?_⟩
      rw [greatE, evalT_next]
      have e1 : evalT (fun q => if q < j + (atomsT t).length then s1 q else s q) t j = evalT s1 t j := evalT_cong t j (fun q h1 h2 => by simp only [if_pos h2])
      have e2 : ∀ b, greatE (fun q => if q < j + (atomsT t).length then s1 q else s q) L (j + (atomsT t).length) b = greatE s L (j + (atomsT t).length) b := fun b => greatE_cong L _ b (fun q h1 h2 => by rw [if_neg (by omega)])
      rw [e1, e2, he1, show max (i : Int) (i' : Int) = (r : Int) by omega]
      exact he
    · rw [greatE, evalT_next] at he
      have hr1 := evalT_range t j (fitsW_inR fun q h1 h2 => hs q h1 (by omega))
      obtain ⟨i', hi', ei⟩ := int3 hr1.1 hr1.2
      refine ⟨max r i', by omega, (hm.2 _ (by omega)).2 ⟨r, i', hr, hi', hb, ⟨s, fun q h1 h2 => hs q h1 (by omega), ei⟩, rfl⟩, s, fun q h1 h2 => hs q (by omega) (by omega), ?_⟩
      rw [← he, ei, show ((max r i' : Nat) : Int) = max (r : Int) (i' : Int) by omega]
theorem reachL {w : Nat → Nat} (hw : ∀ i, w i < 8) : ∀ (L : List Tree) (j a : Nat), a < 8 → Reach (leastC w L j a).1 (fun v => ∃ r, r < 3 ∧ a.testBit r = true ∧ ∃ s, fitsW s w j (atomsL L).length ∧ (leastE s L j r).1 = v)
  | [], j, a, ha => by
    rw [leastC, atomsL]
    refine ⟨ha, fun v hv => ⟨fun hb => ⟨v, hv, hb, fun _ => 0, fun i h1 h2 => by simp at h2; omega, by rw [leastE]⟩, fun ⟨r, hr, hb, s, hs, he⟩ => ?_⟩⟩
    rw [leastE] at he
    have : r = v := by simp only at he; omega
    subst this; exact hb
  | t :: L, j, a, ha => by
    rw [leastC, canT_next, atomsL, List.length_append]
    have ht := reachT hw t j
    have hm := reach_min ha ht
    have hL := reachL hw L (j + (atomsT t).length) _ hm.1
    refine ⟨hL.1, fun v hv => (hL.2 v hv).trans ⟨fun ⟨r, hr, hb, s, hs, he⟩ => ?_, fun ⟨r, hr, hb, s, hs, he⟩ => ?_⟩⟩
    · obtain ⟨i, i', hi, hi', h1, ⟨s1, hs1, he1⟩, h3⟩ := (hm.2 r hr).1 hb
      refine ⟨i, hi, h1, _, fitsW_join hs1 hs, ?_⟩
      rw [leastE, evalT_next]
      have e1 : evalT (fun q => if q < j + (atomsT t).length then s1 q else s q) t j = evalT s1 t j := evalT_cong t j (fun q h1 h2 => by simp only [if_pos h2])
      have e2 : ∀ b, leastE (fun q => if q < j + (atomsT t).length then s1 q else s q) L (j + (atomsT t).length) b = leastE s L (j + (atomsT t).length) b := fun b => leastE_cong L _ b (fun q h1 h2 => by rw [if_neg (by omega)])
      rw [e1, e2, he1, show min (i : Int) (i' : Int) = (r : Int) by omega]
      exact he
    · rw [leastE, evalT_next] at he
      have hr1 := evalT_range t j (fitsW_inR fun q h1 h2 => hs q h1 (by omega))
      obtain ⟨i', hi', ei⟩ := int3 hr1.1 hr1.2
      refine ⟨min r i', by omega, (hm.2 _ (by omega)).2 ⟨r, i', hr, hi', hb, ⟨s, fun q h1 h2 => hs q h1 (by omega), ei⟩, rfl⟩, s, fun q h1 h2 => hs q (by omega) (by omega), ?_⟩
      rw [← he, ei, show ((min r i' : Nat) : Int) = min (r : Int) (i' : Int) by omega]
end
end Go.Proofs.YtdjmckjbibfecaaGreatDoor

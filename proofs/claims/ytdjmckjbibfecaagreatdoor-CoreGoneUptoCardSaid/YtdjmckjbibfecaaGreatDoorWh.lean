/- What Cores leans on in memory. -/
import Derived.Test.YtdjmckjbibfecaaGreatDoorWf
namespace Go.Proofs.YtdjmckjbibfecaaGreatDoor
open Go Go.RowKit Go.BigFrame Go.Maps

theorem own_mono {w : World} {B B' n : Nat} {e : TypeId} {size : Nat} {v : Value} {xs : List Value} (h : w.ownsRow B e size v n xs) (hb : B' ≤ B) : w.ownsRow B' e size v n xs := by
  refine ⟨h.1, ?_⟩
  rcases h.2 with h2 | ⟨g, cap, cur, e1, e2, rest⟩
  · exact .inl h2
  · exact .inr ⟨g, cap, cur, e1, Nat.le_trans hb e2, rest⟩
/-- Rows of other elements lie apart. -/
theorem own_apart' {w : World} {B B' n n' : Nat} {e e' : TypeId} {size size' : Nat} {v v' : Value} {xs xs' : List Value} (h : w.ownsRow B e size v n xs) (h' : w.ownsRow B' e' size' v' n' xs') (hne : e ≠ e') : v.ownBlock = none ∨ v.ownBlock ≠ v'.ownBlock := by
  rcases h.2 with ⟨rfl, _⟩ | ⟨g, cap, cur, rfl, _, hh, _⟩
  · exact .inl rfl
  · refine .inr fun he => ?_
    simp only [Value.ownBlock] at he
    exact own_blk_ne h' hh (fun g => hne g.symm) he.symm
theorem own_far {w w' : World} {B B' n n' : Nat} {e e' : TypeId} {size size' : Nat} {v v' : Value} {xs xs' : List Value} (h : w.ownsRow B e size v n xs) (h' : w.ownsRow B' e' size' v' n' xs') (hg : w.grownBy w' v'.ownBlock) (hne : e ≠ e') : w'.ownsRow B e size v n xs :=
  h.kept hg (own_apart' h h' hne)
def intsV (l : List Int) : List Value := l.map fun x => Value.int .i64 x
theorem own_ints {w : World} {B n : Nat} {e : TypeId} {v : Value} {l : List Int} (h : w.ownsRow B e 1 v n (intsV l)) : ∃ A c, v = .slice A n c ∧ IntsAt w A l := by
  obtain ⟨A, c, rfl⟩ := own_form h
  refine ⟨A, c, rfl, fun i x hx => ?_⟩
  have hlen : l.length = n := by have := h.1; rw [intsV, List.length_map] at this; omega
  obtain ⟨g, cap, e9, _, _⟩ := own_formS h (by have := (List.getElem?_eq_some_iff.1 hx).1; omega)
  have hA : A = some ⟨g, 0, none⟩ := by injection e9
  subst hA
  refine ⟨g, 0, rfl, ?_⟩
  have := h.cells (g := g) rfl i (.int .i64 x) (by rw [intsV, List.getElem?_map, hx]; rfl)
  have hadd : (⟨g, 0, none⟩ : Addr).add i = ⟨g, 0 + i, none⟩ := by unfold Addr.add; split <;> simp_all
  rw [← hadd]; exact this
/-- Rows of places, in a row. -/
def CoresAt (w : World) (B : Nat) (v : Value) (L : List (List Nat)) : Prop :=
  ∃ vs : List Value, vs.length = L.length ∧ w.ownsRow B 35 1 v L.length vs ∧ ∀ (i : Nat) (p : List Nat) (x : Value), L[i]? = some p → vs[i]? = some x → w.ownsRow B 3 1 x p.length (natsV p)
theorem CoresAt.nil (w : World) (B : Nat) : CoresAt w B (.slice none 0 0) [] := ⟨[], rfl, own_none _ _ _ _, fun i p x h => by simp at h⟩
theorem CoresAt.on {w w' : World} {B : Nat} {v : Value} {L : List (List Nat)} (h : CoresAt w B v L) (hb : Below w.heap.size w w') : CoresAt w' B v L := by
  obtain ⟨vs, h1, h2, h3⟩ := h
  exact ⟨vs, h1, own_below h2 hb, fun i p x hi hx => own_below (h3 i p x hi hx) hb⟩
theorem CoresAt.far {w w' : World} {B B' n' : Nat} {e' : TypeId} {size' : Nat} {v v' : Value} {xs' : List Value} {L : List (List Nat)} (h : CoresAt w B v L) (h' : w.ownsRow B' e' size' v' n' xs') (hg : w.grownBy w' v'.ownBlock) (h1 : 35 ≠ e') (h2 : 3 ≠ e') : CoresAt w' B v L := by
  obtain ⟨vs, e1, e2, e3⟩ := h
  exact ⟨vs, e1, own_far e2 h' hg h1, fun i p x hi hx => own_far (e3 i p x hi hx) h' hg h2⟩
theorem CoresAt.snoc {w w' : World} {B : Nat} {v v' x : Value} {vs : List Value} {L : List (List Nat)} {p : List Nat} (hl : vs.length = L.length) (h : w.ownsRow B 35 1 v L.length vs) (h3 : ∀ (i : Nat) (p : List Nat) (x : Value), L[i]? = some p → vs[i]? = some x → w.ownsRow B 3 1 x p.length (natsV p)) (hx : w.ownsRow B 3 1 x p.length (natsV p))
    (h' : w'.ownsRow B 35 1 v' (L.length + 1) (vs ++ [x])) (hg : w.grownBy w' v.ownBlock) : CoresAt w' B v' (L ++ [p]) := by
  refine ⟨vs ++ [x], by simp [hl], by simpa using h', fun i q y hi hy => ?_⟩
  by_cases hlt : i < L.length
  · rw [List.getElem?_append_left hlt] at hi
    rw [List.getElem?_append_left (by omega)] at hy
    exact own_far (h3 i q y hi hy) h hg (by decide)
  · have : i = L.length := by
      have := (List.getElem?_eq_some_iff.1 hi).1
      simp at this; omega
    subst this
    rw [List.getElem?_append_right (Nat.le_refl _)] at hi
    rw [← hl, List.getElem?_append_right (Nat.le_refl _)] at hy
    simp at hi hy
    subst hi; subst hy
    exact own_far hx h hg (by decide)
theorem cellsL_get : ∀ (l : List Tree) (k i : Nat) (t : Tree) (v : Value), l[k]? = some t → t.cells.toList[i]? = some v → (cellsL l)[k * 6 + i]? = some v
  | [], k, i, t, v, h, _ => by simp at h
  | u :: l, 0, i, t, v, h, hv => by
    simp at h; subst h
    unfold cellsL
    rw [List.flatMap_cons, Nat.zero_mul, Nat.zero_add, List.getElem?_append_left (List.getElem?_eq_some_iff.1 hv).1]
    exact hv
  | u :: l, k + 1, i, t, v, h, hv => by
    have := cellsL_get l k i t v (by simpa using h) hv
    have e := cells_len u
    unfold cellsL at this ⊢
    rw [List.flatMap_cons, List.getElem?_append_right (by rw [e]; omega), e, show (k + 1) * 6 + i - 6 = k * 6 + i by omega]
    exact this
/-- What stands throughout. -/
structure CoreSt (w W : World) (TC : Array Value) (v7 : Value) (m : Nat) (AT : List Tree) : Prop where
  nb : Blk W w.heap.size 24 TC
  row7 : W.ownsRow w.heap.size 24 6 v7 m (cellsL AT)
  below : Below w.heap.size w W
theorem CoreSt.on {w W W' : World} {TC : Array Value} {v7 : Value} {m : Nat} {AT : List Tree} (h : CoreSt w W TC v7 m AT) (hb : Below W.heap.size W W') : CoreSt w W' TC v7 m AT :=
  ⟨h.nb.below hb h.nb.lt, own_below h.row7 hb, h.below.trans (hb.mono h.below.size)⟩
theorem CoreSt.far {w W W' : World} {TC : Array Value} {v7 v' : Value} {m n' : Nat} {AT : List Tree} {e' : TypeId} {size' : Nat} {xs' : List Value} (h : CoreSt w W TC v7 m AT) (h' : W.ownsRow w.heap.size e' size' v' n' xs') (hg : W.grownBy W' v'.ownBlock) (hne : 24 ≠ e') : CoreSt w W' TC v7 m AT :=
  ⟨Blk.kept h.nb hg (own_blk_ne h' h.nb (fun e => hne e.symm)), own_far h.row7 h' hg hne, h.below.grown hg h.below.size (fun j hj => (h'.lt j hj).1)⟩
/-- How the atoms of a rule stand. -/
def stL (docs : List Pap) (d : Pap) (t : Tree) : List Int := (atomsT t).map (holdsT docs d)
def stN (docs : List Pap) (d : Pap) (t : Tree) (i : Nat) : Nat := ((stL docs d t)[i]?.getD 0).toNat
theorem stN_lt (docs : List Pap) (d : Pap) (t : Tree) (i : Nat) : stN docs d t i < 3 := by
  unfold stN
  cases h : (stL docs d t)[i]? with
  | none => decide
  | some x =>
    unfold stL at h
    rw [List.getElem?_map] at h
    obtain ⟨u, _, rfl⟩ := Option.map_eq_some_iff.1 h
    have := holdsT_range docs d u
    simp only [Option.getD_some]
    omega
theorem stN_at (docs : List Pap) (d : Pap) (t : Tree) (i : Nat) (hi : i < (stL docs d t).length) : (stL docs d t)[i]? = some (stN docs d t i : Int) := by
  unfold stN
  rw [List.getElem?_eq_getElem hi]
  have : ∃ u, (stL docs d t)[i] = holdsT docs d u := by unfold stL; exact ⟨_, List.getElem_map _⟩
  obtain ⟨u, hu⟩ := this
  have := holdsT_range docs d u
  simp only [Option.getD_some, hu, Option.some.injEq]
  omega
/-- All cores of a rule, asked of the paper at a place. -/
def coresE (docs : List Pap) (t : Tree) (a : Int) : List (List Nat) := match (if 0 ≤ a then docs[a.toNat]? else none) with
  | some d => if 12 < (atomsT t).length ∨ holdsT docs d t = 0 then [] else coresD t (stL docs d t)
  | none => []
theorem coresE_out {docs : List Pap} {t : Tree} {a : Int} (h : a < 0 ∨ (docs.length : Int) ≤ a) : coresE docs t a = [] := by
  unfold coresE
  split
  · rename_i d hd
    split at hd
    · have := (List.getElem?_eq_some_iff.1 hd).1
      omega
    · cases hd
  · rfl
theorem coresE_in {docs : List Pap} {t : Tree} {a : Nat} {d : Pap} (h : docs[a]? = some d) : coresE docs t (a : Int) = if 12 < (atomsT t).length ∨ holdsT docs d t = 0 then [] else coresD t (stL docs d t) := by
  unfold coresE
  rw [if_pos (by omega)]
  simp [h]
end Go.Proofs.YtdjmckjbibfecaaGreatDoor

/- The document's Atom, Atoms, walked. -/
import Derived.Test.YtdjmckjbibfecaaGreatDoorWf
namespace Go.Proofs.YtdjmckjbibfecaaGreatDoor
open Go Go.RowKit Go.BigFrame Go.Maps

theorem own_mono {w : World} {B B' n : Nat} {e : TypeId} {size : Nat} {v : Value} {xs : List Value} (h : w.ownsRow B e size v n xs) (hb : B' ≤ B) : w.ownsRow B' e size v n xs := by
  refine ⟨h.1, ?_⟩
  rcases h.2 with h2 | ⟨g, cap, cur, e1, e2, rest⟩
  · exact .inl h2
  · exact .inr ⟨g, cap, cur, e1, Nat.le_trans hb e2, rest⟩
/-- Rows of other elements lie apart. -/
theorem own_apart' {w : World} {B B' n n' : Nat} {e e' : TypeId} {size size' : Nat} {v v' : Value} {xs xs' : List Value} (h : w.ownsRow B e size v n xs) (h' : w.ownsRow B' e' size' v' n' xs') (hne : e ≠ e') : v.ownBlock = none ∨ v.ownBlock ≠ v'.ownBlock := by
  rcases h.2 with ⟨rfl, _⟩ | ⟨g, cap, cur, rfl, _, hh, _⟩
  · exact .inl rfl
  · refine .inr fun he => ?_
    simp only [Value.ownBlock] at he
    exact own_blk_ne h' hh (fun g => hne g.symm) he.symm
theorem own_far {w w' : World} {B B' n n' : Nat} {e e' : TypeId} {size size' : Nat} {v v' : Value} {xs xs' : List Value} (h : w.ownsRow B e size v n xs) (h' : w.ownsRow B' e' size' v' n' xs') (hg : w.grownBy w' v'.ownBlock) (hne : e ≠ e') : w'.ownsRow B e size v n xs :=
  h.kept hg (own_apart' h h' hne)
def intsV (l : List Int) : List Value := l.map fun x => Value.int .i64 x
theorem own_ints {w : World} {B n : Nat} {e : TypeId} {v : Value} {l : List Int} (h : w.ownsRow B e 1 v n (intsV l)) : ∃ A c, v = .slice A n c ∧ IntsAt w A l := by
  obtain ⟨A, c, rfl⟩ := own_form h
  refine ⟨A, c, rfl, fun i x hx => ?_⟩
  have hlen : l.length = n := by have := h.1; rw [intsV, List.length_map] at this; omega
  obtain ⟨g, cap, e9, _, _⟩ := own_formS h (by have := (List.getElem?_eq_some_iff.1 hx).1; omega)
  have hA : A = some ⟨g, 0, none⟩ := by injection e9
  subst hA
  refine ⟨g, 0, rfl, ?_⟩
  have := h.cells (g := g) rfl i (.int .i64 x) (by rw [intsV, List.getElem?_map, hx]; rfl)
  have hadd : (⟨g, 0, none⟩ : Addr).add i = ⟨g, 0 + i, none⟩ := by unfold Addr.add; split <;> simp_all
  rw [← hadd]; exact this
/-- Rows of places, in a row. -/
def CoresAt (w : World) (B : Nat) (v : Value) (L : List (List Nat)) : Prop :=
  ∃ vs : List Value, vs.length = L.length ∧ w.ownsRow B 35 1 v L.length vs ∧ ∀ (i : Nat) (p : List Nat) (x : Value), L[i]? = some p → vs[i]? = some x → w.ownsRow B 3 1 x p.length (natsV p)
theorem CoresAt.nil (w : World) (B : Nat) : CoresAt w B (.slice none 0 0) [] := ⟨[], rfl, own_none _ _ _ _, fun i p x h => by simp at h⟩
theorem CoresAt.on {w w' : World} {B : Nat} {v : Value} {L : List (List Nat)} (h : CoresAt w B v L) (hb : Below w.heap.size w w') : CoresAt w' B v L := by
  obtain ⟨vs, h1, h2, h3⟩ := h
  exact ⟨vs, h1, own_below h2 hb, fun i p x hi hx => own_below (h3 i p x hi hx) hb⟩
theorem CoresAt.far {w w' : World} {B B' n' : Nat} {e' : TypeId} {size' : Nat} {v v' : Value} {xs' : List Value} {L : List (List Nat)} (h : CoresAt w B v L) (h' : w.ownsRow B' e' size' v' n' xs') (hg : w.grownBy w' v'.ownBlock) (h1 : 35 ≠ e') (h2 : 3 ≠ e') : CoresAt w' B v L := by
  obtain ⟨vs, e1, e2, e3⟩ := h
  exact ⟨vs, e1, own_far e2 h' hg h1, fun i p x hi hx => own_far (e3 i p x hi hx) h' hg h2⟩
theorem CoresAt.snoc {w w' : World} {B : Nat} {v v' x : Value} {vs : List Value} {L : List (List Nat)} {p : List Nat} (hl : vs.length = L.length) (h : w.ownsRow B 35 1 v L.length vs) (h3 : ∀ (i : Nat) (p : List Nat) (x : Value), L[i]? = some p → vs[i]? = some x → w.ownsRow B 3 1 x p.length (natsV p)) (hx : w.ownsRow B 3 1 x p.length (natsV p))
    (h' : w'.ownsRow B 35 1 v' (L.length + 1) (vs ++ [x])) (hg : w.grownBy w' v.ownBlock) : CoresAt w' B v' (L ++ [p]) := by
  refine ⟨vs ++ [x], by simp [hl], by simpa using h', fun i q y hi hy => ?_⟩
  by_cases hlt : i < L.length
  · rw [List.getElem?_append_left hlt] at hi
    rw [List.getElem?_append_left (by omega)] at hy
    exact own_far (h3 i q y hi hy) h hg (by decide)
  · have : i = L.length := by
      have := (List.getElem?_eq_some_iff.1 hi).1
      simp at this; omega
    subst this
    rw [List.getElem?_append_right (Nat.le_refl _)] at hi
    rw [← hl, List.getElem?_append_right (Nat.le_refl _)] at hy
    simp at hi hy
    subst hi; subst hy
    exact own_far hx h hg (by decide)
theorem cellsL_get : ∀ (l : List Tree) (k i : Nat) (t : Tree) (v : Value), l[k]? = some t → t.cells.toList[i]? = some v → (cellsL l)[k * 6 + i]? = some v
  | [], k, i, t, v, h, _ => by simp at h
  | u :: l, 0, i, t, v, h, hv => by
    simp at h; subst h
    unfold cellsL
    rw [List.flatMap_cons, Nat.zero_mul, Nat.zero_add, List.getElem?_append_left (List.getElem?_eq_some_iff.1 hv).1]
    exact hv
  | u :: l, k + 1, i, t, v, h, hv => by
    have := cellsL_get l k i t v (by simpa using h) hv
    have e := cells_len u
    unfold cellsL at this ⊢
    rw [List.flatMap_cons, List.getElem?_append_right (by rw [e]; omega), e, show (k + 1) * 6 + i - 6 = k * 6 + i by omega]
    exact this
/-- What stands throughout. -/
structure CoreSt (w W : World) (TC : Array Value) (v7 : Value) (m : Nat) (AT : List Tree) : Prop where
  nb : Blk W w.heap.size 24 TC
  row7 : W.ownsRow w.heap.size 24 6 v7 m (cellsL AT)
  below : Below w.heap.size w W
theorem CoreSt.on {w W W' : World} {TC : Array Value} {v7 : Value} {m : Nat} {AT : List Tree} (h : CoreSt w W TC v7 m AT) (hb : Below W.heap.size W W') : CoreSt w W' TC v7 m AT :=
  ⟨h.nb.below hb h.nb.lt, own_below h.row7 hb, h.below.trans (hb.mono h.below.size)⟩
theorem CoreSt.far {w W W' : World} {TC : Array Value} {v7 v' : Value} {m n' : Nat} {AT : List Tree} {e' : TypeId} {size' : Nat} {xs' : List Value} (h : CoreSt w W TC v7 m AT) (h' : W.ownsRow w.heap.size e' size' v' n' xs') (hg : W.grownBy W' v'.ownBlock) (hne : 24 ≠ e') : CoreSt w W' TC v7 m AT :=
  ⟨Blk.kept h.nb hg (own_blk_ne h' h.nb (fun e => hne e.symm)), own_far h.row7 h' hg hne, h.below.grown hg h.below.size (fun j hj => (h'.lt j hj).1)⟩
/-- How the atoms of a rule stand. -/
def stL (docs : List Pap) (d : Pap) (t : Tree) : List Int := (atomsT t).map (holdsT docs d)
def stN (docs : List Pap) (d : Pap) (t : Tree) (i : Nat) : Nat := ((stL docs d t)[i]?.getD 0).toNat
theorem stN_lt (docs : List Pap) (d : Pap) (t : Tree) (i : Nat) : stN docs d t i < 3 := by
  unfold stN
  cases h : (stL docs d t)[i]? with
  | none => decide
  | some x =>
    unfold stL at h
    rw [List.getElem?_map] at h
    obtain ⟨u, _, rfl⟩ := Option.map_eq_some_iff.1 h
    have := holdsT_range docs d u
    simp only [Option.getD_some]
    omega
theorem stN_at (docs : List Pap) (d : Pap) (t : Tree) (i : Nat) (hi : i < (stL docs d t).length) : (stL docs d t)[i]? = some (stN docs d t i : Int) := by
  unfold stN
  rw [List.getElem?_eq_getElem hi]
  have : ∃ u, (stL docs d t)[i] = holdsT docs d u := by unfold stL; exact ⟨_, List.getElem_map _⟩
  obtain ⟨u, hu⟩ := this
  have := holdsT_range docs d u
  simp only [Option.getD_some, hu, Option.some.injEq]
  omega
/-- All cores of a rule, asked of the paper at a place. -/
def coresE (docs : List Pap) (t : Tree) (a : Int) : List (List Nat) := match (if 0 ≤ a then docs[a.toNat]? else none) with
  | some d => if 12 < (atomsT t).length ∨ holdsT docs d t = 0 then [] else coresD t (stL docs d t)
  | none => []
theorem coresE_out {docs : List Pap} {t : Tree} {a : Int} (h : a < 0 ∨ (docs.length : Int) ≤ a) : coresE docs t a = [] := by
  unfold coresE
  split
  · rename_i d hd
    split at hd
    · have := (List.getElem?_eq_some_iff.1 hd).1
      omega
    · cases hd
  · rfl
theorem coresE_in {docs : List Pap} {t : Tree} {a : Nat} {d : Pap} (h : docs[a]? = some d) : coresE docs t (a : Int) = if 12 < (atomsT t).length ∨ holdsT docs d t = 0 then [] else coresD t (stL docs d t) := by
  unfold coresE
  rw [if_pos (by omega)]
  simp [h]
end Go.Proofs.YtdjmckjbibfecaaGreatDoor
namespace Go.Proofs.YtdjmckjbibfecaaGreatDoor
open Go

theorem core_lt {t : Tree} {stn : Nat → Nat} {p : List Nat} (h : IsCore t stn p) : ∀ i ∈ p, i < (atomsT t).length := by
  obtain ⟨S, rfl, _⟩ := h
  intro i hi
  exact List.mem_range.1 (List.mem_filter.1 hi).1
section
variable {t : Tree} {stn : Nat → Nat} (h3 : ∀ i, stn i < 3)
include h3
theorem coresD_core {st : List Int} {m : Nat} (hm : (atomsT t).length = m) (hl : st.length = m) (hst : ∀ i, i < st.length → st[i]? = some (stn i : Int)) {p : List Nat} (hp : p ∈ coresD t st) : IsCore t stn p := by
  have h := ((foldD (t := t) hl (2 ^ m) (Nat.le_refl _)).2 p).1 (by unfold coresD at hp; rw [hl] at hp; exact hp)
  exact (coreD_iff h3 hm hl hst).1 h
end
end Go.Proofs.YtdjmckjbibfecaaGreatDoor
namespace Go.Proofs.YtdjmckjbibfecaaGreatDoor
open Go Go.RowKit Go.BigFrame Go.Maps

theorem atomR_any (t : Tree) (w : World) : Calls Tryz.prog 48 #[.agg t.cells] w fun e w' => e = .returned (.bool (isAt t.kind)) ∧ Below w.heap.size w w' := by
  obtain ⟨k, p, f, x, n, A, c, L⟩ := t
  simp only [Tree.cells, Tree.kind]
  obtain ⟨w1, hw1⟩ : ∃ X, Hid (w.alloc (.cells #[.int .i64 k, .int .i64 p, .string f, .string x, .int .i64 n, .slice A L.length c] 24) = X) := ⟨_, rfl⟩
  have hb1 : Hid (Below w.heap.size w w1) := by rw [← hw1.out]; exact (Below.refl _ w).alloc (Nat.le_refl _) _
  have hN1 : Hid (Blk w1 w.heap.size 24 #[.int .i64 k, .int .i64 p, .string f, .string x, .int .i64 n, .slice A L.length c]) := by rw [← hw1.out]; exact Lib.hid (Blk.new _ _ _)
  have q0 : w1.cell? ⟨w.heap.size, 0, none⟩ = some (.int .i64 k) := hN1.out.cell 0
  by_cases h3 : 3 ≤ k
  · have d1 : decide ((3 : Int) ≤ k) = true := decide_eq_true h3
    by_cases h7 : k ≤ 7
    · have d2 : decide (k ≤ 7) = true := decide_eq_true h7
      rw [isAt_yes ⟨h3, h7⟩]
      go_enter Tryz.func48, Tryz.ntmps48
      go_wp2_with (rw [hw1.out])
      go_ret
      exact ⟨rfl, hb1.out⟩
    · have d2 : decide (k ≤ 7) = false := decide_eq_false h7
      rw [isAt_no (by omega)]
      go_enter Tryz.func48, Tryz.ntmps48
      go_wp2_with (rw [hw1.out])
      go_ret
      exact ⟨rfl, hb1.out⟩
  · have d1 : decide ((3 : Int) ≤ k) = false := decide_eq_false h3
    rw [isAt_no (by omega)]
    go_enter Tryz.func48, Tryz.ntmps48
    go_wp2_with (rw [hw1.out])
    go_ret
    exact ⟨rfl, hb1.out⟩
/-- A row made of given elements. -/
theorem own_fresh (w : World) (e : TypeId) (size n : Nat) (cs : Array Value) (hs : cs.size = n * size) (hn : n ≤ maxLen) : (w.alloc (.cells cs e)).ownsRow w.heap.size e size (.slice (some ⟨w.heap.size, 0, none⟩) n n) n cs.toList :=
  ⟨by simpa using hs, .inr ⟨_, n, cs, rfl, Nat.le_refl _, heap_alloc_new w _, Nat.le_refl _, hn, hs, List.take_of_length_le (by simp [hs])⟩⟩
theorem own_reads {w : World} {B n : Nat} {e : TypeId} {size : Nat} {A : Option Addr} {c : Nat} {xs : List Value} (h : w.ownsRow B e size (.slice A n c) n xs) : Reads w w.heap.size size A n xs := by
  refine ⟨h.1, fun hn => ?_⟩
  obtain ⟨g, c', e, _, hg⟩ := own_formS h hn
  simp only [Value.slice.injEq, true_and] at e
  obtain ⟨rfl, rfl⟩ := e
  exact ⟨_, rfl, hg, fun j u hj => h.cells (g := g) rfl j u hj⟩
theorem cellsL_one (l : List Tree) : ∀ v ∈ cellsL l, v.oneCell' = true := by
  intro v hv
  obtain ⟨t, _, h⟩ := List.mem_flatMap.1 hv
  exact cells_one t v h
theorem own_above {w w' : World} {B n g : Nat} {e t : TypeId} {size : Nat} {v : Value} {xs : List Value} {cs : Array Value} (h : w.ownsRow B e size v n xs) (hg : g < B) (hb : Blk w g t cs) (hgr : w.grownBy w' v.ownBlock) : Blk w' g t cs :=
  Blk.kept hb hgr (fun he => by have := (h.lt g he).1; omega)
def AtomsR (t : Tree) : Prop := ∀ w : World, Hid (TreeAt w t) → (atomsT t).length ≤ 1000 → Calls Tryz.prog 14 #[.agg t.cells] w fun e w' => ∃ v, e = .returned v ∧ w'.ownsRow w.heap.size 24 6 v (atomsT t).length (cellsL (atomsT t)) ∧ Below w.heap.size w w'
set_option maxRecDepth 100000 in
set_option maxHeartbeats 3200000 in
theorem atomsR_walk (t : Tree) (ih : Hid (∀ u ∈ t.sub, AtomsR u)) : AtomsR t := by
  intro w hT hle
  obtain ⟨i0, hi, hz0, hz1, hz2⟩ := info_parts Tryz.info24
  obtain ⟨k, p, f, x, n, A, c, L⟩ := t
  have hia := fun W => atomR_any (.mk k p f x n A c L) W
  simp only [Tree.cells, Tree.kind] at hia ⊢
  obtain ⟨w1, hw1⟩ : ∃ X, Hid (w.alloc (.cells #[.int .i64 k, .int .i64 p, .string f, .string x, .int .i64 n, .slice A L.length c] 24) = X) := ⟨_, rfl⟩
  have hb1 : Hid (Below w.heap.size w w1) := by rw [← hw1.out]; exact (Below.refl _ w).alloc (Nat.le_refl _) _
  have hN1 : Hid (Blk w1 w.heap.size 24 #[.int .i64 k, .int .i64 p, .string f, .string x, .int .i64 n, .slice A L.length c]) := by rw [← hw1.out]; exact Lib.hid (Blk.new _ _ _)
  have q0 : w1.cell? ⟨w.heap.size, 0, none⟩ = some (.int .i64 k) := hN1.out.cell 0
  have q1 : w1.cell? ⟨w.heap.size, 1, none⟩ = some (.int .i64 p) := hN1.out.cell 1
  have q2 : w1.cell? ⟨w.heap.size, 2, none⟩ = some (.string f) := hN1.out.cell 2
  have q3 : w1.cell? ⟨w.heap.size, 3, none⟩ = some (.string x) := hN1.out.cell 3
  have q4 : w1.cell? ⟨w.heap.size, 4, none⟩ = some (.int .i64 n) := hN1.out.cell 4
  have q5 : w1.cell? ⟨w.heap.size, 5, none⟩ = some (.slice A L.length c) := hN1.out.cell 5
  have hia1 := Lib.hid (hia w1)
  clear hia
  go_enter Tryz.func14, Tryz.ntmps14
  go_wp2_with (rw [hw1.out])
  refine hia1.out.mono ?_
  rintro e w2 ⟨rfl, hb2⟩
  have hN2 := Lib.hid (hN1.out.below hb2 hN1.out.lt)
  have hB2 : Hid (Below w.heap.size w w2) := hb1.out.trans (hb2.mono hb1.out.size)
  clear hb2 q0 q1 q2 q3 q4 q5 hia1
  have q0 : w2.cell? ⟨w.heap.size, 0, none⟩ = some (.int .i64 k) := hN2.out.cell 0
  have q1 : w2.cell? ⟨w.heap.size, 1, none⟩ = some (.int .i64 p) := hN2.out.cell 1
  have q2 : w2.cell? ⟨w.heap.size, 2, none⟩ = some (.string f) := hN2.out.cell 2
  have q3 : w2.cell? ⟨w.heap.size, 3, none⟩ = some (.string x) := hN2.out.cell 3
  have q4 : w2.cell? ⟨w.heap.size, 4, none⟩ = some (.int .i64 n) := hN2.out.cell 4
  have q5 : w2.cell? ⟨w.heap.size, 5, none⟩ = some (.slice A L.length c) := hN2.out.cell 5
  by_cases hk : 3 ≤ k ∧ k ≤ 7
  · rw [isAt_yes hk]
    have hat : Hid (atomsT (.mk k p f x n A c L) = [.mk k p f x n A c L]) := by unfold Hid; rw [atomsT, if_pos hk]
    obtain ⟨w3, hw3⟩ : ∃ X, Hid (w2.alloc (.cells #[.int .i64 k, .int .i64 p, .string f, .string x, .int .i64 n, .slice A L.length c] 24) = X) := ⟨_, rfl⟩
    have hr3 : Hid (w3.ownsRow w2.heap.size 24 6 (.slice (some ⟨w2.heap.size, 0, none⟩) 1 1) 1 (#[.int .i64 k, .int .i64 p, .string f, .string x, .int .i64 n, .slice A L.length c] : Array Value).toList) := by rw [← hw3.out]; exact Lib.hid (own_fresh w2 24 6 1 #[.int .i64 k, .int .i64 p, .string f, .string x, .int .i64 n, .slice A L.length c] rfl (by unfold maxLen; omega))
    have hb3 : Hid (Below w.heap.size w w3) := by rw [← hw3.out]; exact Lib.hid (hB2.out.alloc hB2.out.size _)
    clear hk hle
    go_wp2_with (rw [hw3.out])
    go_ret
    refine ⟨_, rfl, ?_, hb3.out⟩
    rw [hat.out]
    exact own_mono hr3.out hB2.out.size
  rw [isAt_no hk]
  have hrow0 : Hid (RowsAt w A 0 L ∧ L.length ≤ maxLen) := by have h := hT.out; rw [TreeAt] at h; exact h
  obtain ⟨nL, hnL⟩ : ∃ m, L.length = m := ⟨_, rfl⟩
  have hnLm : nL ≤ maxLen := by rw [← hnL]; exact hrow0.out.2
  have hnL' := Lib.hid hnL
  rw [hnL] at q5 hN2 ⊢
  clear hnL
  unfold maxLen at hnLm
  obtain ⟨w3, hw3⟩ : ∃ X, Hid (w2.alloc (.cells #[] 24) = X) := ⟨_, rfl⟩
  have hr3 : Hid (w3.ownsRow w2.heap.size 24 6 (.slice (some ⟨w2.heap.size, 0, none⟩) 0 0) 0 []) := by rw [← hw3.out]; exact Lib.hid (own_new w2 24 6)
  have hb3 : Hid (Below w2.heap.size w2 w3) := by rw [← hw3.out]; exact Lib.hid ((Below.refl _ w2).alloc (Nat.le_refl _) _)
  have hN3 := Lib.hid (hN2.out.below hb3.out hN2.out.lt)
  have hB3 : Hid (Below w.heap.size w w3) := hB2.out.trans (hb3.out.mono hB2.out.size)
  clear q0 q1 q2 q3 q4 q5
  have q0 : w3.cell? ⟨w.heap.size, 0, none⟩ = some (.int .i64 k) := hN3.out.cell 0
  by_cases h3 : 0 ≤ k ∧ k ≤ 2
  · have hat : atomsT (.mk k p f x n A c L) = atomsL L := by rw [atomsT, if_neg hk, if_pos h3]
    rw [hat] at hle
    have hat' := Lib.hid hat
    have hle' := Lib.hid hle
    have hc : k = 0 ∨ k = 1 ∨ k = 2 := by omega
    have hr4 := Lib.hid (own_mono hr3.out hN2.out.lt)
    clear hat hk h3 hle hN2 hB2 hr3 hb3
    rcases hc with rfl | rfl | rfl
    all_goals
      go_wp2_with (rw [hw3.out])
      go_loopw [3, 4] (fun v i wr => ∃ (q m : Nat) (k0 : Int), q ≤ nL ∧ i = .int .i64 q ∧ Hid ((atomsL (L.take q)).length = m) ∧ Hid (wr.ownsRow (w.heap.size + 1) 24 6 v m (cellsL (atomsL (L.take q)))) ∧ Hid (Blk wr w.heap.size 24 #[.int .i64 k0, .int .i64 p, .string f, .string x, .int .i64 n, .slice A nL c]) ∧ Hid (Below w.heap.size w wr)) (fun _ i _ => nL - (intOf i).toNat)
      case atStart => exact ⟨0, 0, _, Nat.zero_le _, rfl, Lib.hid (by rw [List.take_zero, atomsL]; rfl), Lib.hid (by rw [List.take_zero, atomsL]; exact hr4.out), hN3, hB3⟩
      case round =>
        obtain ⟨q, m, k0, hq, rfl, hm, hown, hN, hB⟩ := hrel
        have r0 : wr.cell? ⟨w.heap.size, 5, none⟩ = some (.slice A nL c) := hN.out.cell 5
        clear q0
        by_cases hlt : q < nL
        · obtain ⟨u, hu⟩ : ∃ u, L[q]? = some u := ⟨_, List.getElem?_eq_getElem (by have := hnL'.out; omega)⟩
          obtain ⟨hcu, htu⟩ := hrow0.out.1.get q u hu
          have hmem := List.mem_of_getElem? hu
          have hstep : Hid (atomsL (L.take (q + 1)) = atomsL (L.take q) ++ atomsT u) := Lib.hid (atomsL_take hu)
          obtain ⟨mu, hmu⟩ : ∃ mu, Hid ((atomsT u).length = mu) := ⟨_, rfl⟩
          have hlen2 : m + mu ≤ 1000 := by
            have h1 := atomsL_take_le (q + 1) L
            rw [hstep.out, List.length_append, hm.out, hmu.out] at h1
            have h2 := hle'.out
            omega
          have hT4 := Lib.hid (htu.below hB.out)
          have hub := hB.out
          clear hu htu
          have hcall := ih.out _ hmem
          unfold AtomsR at hcall
          have hcall := hcall wr hT4 (by rw [hmu.out]; omega)
          rw [hmu.out] at hcall
          obtain ⟨au, hau⟩ : ∃ l, Hid (atomsT u = l) := ⟨_, rfl⟩
          rw [hau.out] at hcall hstep hmu
          obtain ⟨uk, up, uf, ux, un, uA, uc, uL⟩ := u
          rw [Nat.zero_add] at hcu
          obtain ⟨b, off, rfl, d0, d1, d2, d3, d4, d5⟩ := hcu
          have hbl : b < w.heap.size := World.block_lt_of_cell? w _ d0
          have key : ∀ j, wr.cell? ⟨b, j, none⟩ = w.cell? ⟨b, j, none⟩ := fun j => hub.cell hbl
          rw [← key] at d0 d1 d2 d3 d4 d5
          clear key hub
          simp only [Tree.cells] at hcall
          have hcall' := Lib.hid hcall
          have i1 : (q : Int) < (nL : Int) := by omega
          have i2 : (0 : Int) ≤ (q : Int) := by omega
          have hkm : decide (q < nL) = true := decide_eq_true hlt
          clear hmem hcall hw3
          go_wp2_with fail
          refine hcall'.out.mono ?_
          rintro e w5 ⟨v5, rfl, ho5, hb5⟩
          obtain ⟨A5, c5, rfl⟩ := own_form ho5
          have hown5 := Lib.hid (own_below hown.out hb5)
          have hN5 := Lib.hid (hN.out.below hb5 hN.out.lt)
          have hB5 : Hid (Below w.heap.size w w5) := hB.out.trans (hb5.mono hB.out.size)
          have hr5 := Lib.hid (own_reads ho5)
          have hone : Hid (∀ v ∈ cellsL au, v.oneCell' = true) := Lib.hid (cellsL_one au)
          have s1 : Hid (m + mu ≤ maxLen) := by unfold Hid maxLen; omega
          have s2 : Hid ((m + mu) * 80 ≤ 140737488355328) := by unfold Hid; omega
          have s3 : Hid (w.heap.size + 1 ≤ w5.heap.size) := hN5.out.lt
          clear hcall' d0 d1 d2 d3 d4 d5 ho5 hb5 r0
          go_wp2_with (at_builtin; go_must (refine wpList_append_any _ rfl _ _ 22 rfl (w.heap.size + 1) 24 i0 _ 6 80 Tryz.underlying22 hi hz0 hz1 hz2 rfl (by decide) _ m (cellsL (atomsL (L.take q))) rfl hown5.out _ A5 mu c5 (cellsL au) rfl hr5.out hone.out s1.out s2.out s3.out ?_); intro v6 w6 ho6 hg6 hv6; have ho6' := Lib.hid ho6; have hN6 := Lib.hid (own_above hown5.out (Nat.lt_succ_self _) hN5.out hg6); have hB6 := Lib.hid (hB5.out.grown hg6 hB5.out.size (fun j hj => Nat.le_of_succ_le (hown5.out.lt j hj).1)); clear ho6 hg6 hv6)
          go_roundw
          case rel => exact ⟨q + 1, m + mu, k0, by omega, by go_num, Lib.hid (by rw [hstep.out, List.length_append, hm.out, hmu.out]), Lib.hid (by rw [hstep.out, cellsL_app]; exact ho6'.out), hN6, hB6⟩
          case measure => simp [intOf]; omega
        · have hkm : decide (q < nL) = false := decide_eq_false hlt
          have hall : Hid (L.take q = L) := Lib.hid (List.take_of_length_le (by have := hnL'.out; omega))
          go_wp2_with fail
          go_ret
          refine ⟨_, rfl, ?_, hB.out⟩
          have h := hown.out
          rw [← hm.out, hall.out] at h
          rw [hat'.out]
          exact own_mono h (Nat.le_succ _)
  · have hat : Hid (atomsT (.mk k p f x n A c L) = []) := by unfold Hid; rw [atomsT, if_neg hk, if_neg h3]
    have e0 : (k == 0) = false := by simp; omega
    have e1 : (k == 1) = false := by simp; omega
    have e2 : (k == 2) = false := by simp; omega
    clear hk h3 hle
    go_wp2_with (rw [hw3.out])
    go_ret
    refine ⟨_, rfl, ?_, hB3.out⟩
    rw [hat.out]
    exact own_mono hr3.out hB2.out.size
theorem atomsR_any : ∀ t, AtomsR t := Tree.every fun t ih => atomsR_walk t (Lib.hid ih)
end Go.Proofs.YtdjmckjbibfecaaGreatDoor

import Derived.Test.YtjkmhlfjheiekaaGreatDoorX
namespace Go.Proofs.YtjkmhlfjheiekaaGreatDoor
open Go Go.RowKit
def Rel {α : Type} (l : List Tok) (y : Res α) (x : α × St) : Prop := match y with
 | .ok (a, ts) => x.1 = a ∧ x.2.cd = 0 ∧ x.2.k ≤ l.length ∧ ts = l.drop x.2.k
 | .error (pl, cd) => x.2.cd = cd ∧ x.2.pl = pl ∧ cd ≠ 0
def St.fine (l : List Tok) (st : St) : Prop := st.cd = 0 ∧ st.k ≤ l.length
theorem drop_nil {l : List Tok} {k : Nat} (h : l[k]? = none) : l.drop k = [] := List.drop_eq_nil_of_le (by simpa using h)
theorem drop_cons {l : List Tok} {k : Nat} {t : Tok} (h : l[k]? = some t) : l.drop k = t :: l.drop (k + 1) := by
 obtain ⟨hk, he⟩ := List.getElem?_eq_some_iff.1 h
 rw [List.drop_eq_getElem_cons hk, he]
theorem ask_sees {l : List Tok} {st : St} {p : Tok → Bool} (h : st.cd = 0) : askS l st 0 p = seesB p (l.drop st.k) := by
 unfold askS seesB
 rw [Nat.add_zero, h]
 cases ht : l[st.k]? with
 | none => rw [drop_nil ht]; rfl
 | some t => rw [drop_cons ht]; simp
theorem ask_next {l : List Tok} {st : St} {p : Tok → Bool} (h : st.cd = 0) : askS l st 1 p = seesB p (l.drop st.k).tail := by
 unfold askS seesB
 rw [h, List.tail_drop]
 cases ht : l[st.k + 1]? with
 | none => rw [drop_nil ht]; rfl
 | some t => rw [drop_cons ht]; simp
theorem ask_bad {l : List Tok} {st : St} {p : Tok → Bool} {b : Nat} (h : st.cd ≠ 0) : askS l st b p = false := by
 unfold askS
 rw [beq_false_of_ne h]; rfl
theorem place_m {l : List Tok} {st : St} {e : Nat} : placeS e l st = placeM e (l.drop st.k) := by
 unfold placeS placeM
 cases ht : l[st.k]? with
 | none => rw [drop_nil ht]
 | some t => rw [drop_cons ht]
theorem fail_bad {st : St} {pl : Nat} {cd : Int} (h : st.cd ≠ 0) : failS st pl cd = st := by unfold failS; rw [if_neg h]
theorem fail_fine {st : St} {pl : Nat} {cd : Int} (h : st.cd = 0) : failS st pl cd = ⟨st.k, pl, cd⟩ := by unfold failS; rw [if_pos h]
theorem take_bad {e : Nat} {l : List Tok} {p : Tok → Bool} {st : St} (h : st.cd ≠ 0) : takeS e l p st = ([], st) := by
 unfold takeS
 rw [ask_bad h, if_neg (by simp), fail_bad h]
theorem take_rel {e : Nat} {l : List Tok} {p : Tok → Bool} {st : St} (h : st.fine l) : Rel l (takeM e p (l.drop st.k)) (takeS e l p st) := by
 obtain ⟨h0, hk⟩ := h
 unfold takeS takeM
 rw [ask_sees h0, place_m]
 unfold seesB
 cases ht : l[st.k]? with
 | none => rw [drop_nil ht]; exact ⟨by simp [fail_fine h0], by simp [fail_fine h0, placeM], by decide⟩
 | some t =>
  have hlt : st.k < l.length := (List.getElem?_eq_some_iff.1 ht).1
  rw [drop_cons ht]
  simp only
  by_cases hp : p t = true
  ·rw [if_pos hp, if_pos hp]
   exact ⟨by unfold textS; rw [ht], h0, hlt, rfl⟩
  ·rw [if_neg hp, if_neg hp]
   exact ⟨by simp [fail_fine h0], by simp [fail_fine h0, placeM], by decide⟩
theorem Rel.fine {α : Type} {l : List Tok} {a : α} {ts : List Tok} {x : α × St} (h : Rel l (.ok (a, ts)) x) : x.1 = a ∧ x.2.fine l ∧ ts = l.drop x.2.k := ⟨h.1, ⟨h.2.1, h.2.2.1⟩, h.2.2.2⟩
theorem Rel.bad {α : Type} {l : List Tok} {q : Nat × Int} {x : α × St} (h : Rel l (.error q) x) : x.2.cd ≠ 0 := by
 obtain ⟨pl, cd⟩ := q
 exact fun hz => h.2.2 (h.1 ▸ hz)
theorem Rel.same {α β : Type} {l : List Tok} {q : Nat × Int} {x : α × St} {y : β × St} (h : Rel l (.error q : Res α) x) (he : y.2 = x.2) : Rel l (.error q : Res β) y := by
 obtain ⟨pl, cd⟩ := q
 unfold Rel at h ⊢
 rw [he]; exact h
theorem num_bad {e : Nat} {l : List Tok} {lo hi : Int} {st : St} (h : st.cd ≠ 0) : numS e l lo hi st = (0, st) := by
 unfold numS
 rw [take_bad h, if_neg h]
theorem num_rel {e : Nat} {l : List Tok} {lo hi : Int} {st : St} (h : st.fine l) : Rel l (numM e lo hi (l.drop st.k)) (numS e l lo hi st) := by
 have ht := take_rel (e := e) (p := kindB 2) h
 unfold numM numS
 cases hq : takeM e (kindB 2) (l.drop st.k) with
 | error x =>
  rw [hq] at ht
  rw [if_neg ht.bad]
  exact ht.same rfl
 | ok x =>
  obtain ⟨t, ts⟩ := x
  rw [hq] at ht
  obtain ⟨h1, h2, h3⟩ := ht.fine
  rw [if_pos h2.1, h1]
  simp only
  by_cases hr : (numV t : Int) < lo ∨ hi < (numV t : Int)
  ·rw [if_pos hr, if_pos hr, fail_fine h2.1, ← place_m]
   exact ⟨rfl, rfl, by decide⟩
  ·rw [if_neg hr, if_neg hr]
   exact ⟨rfl, h2.1, h2.2, h3⟩
theorem atom_bad {e : Nat} {l : List Tok} {st : St} (h : st.cd ≠ 0) : (atomS e l st).2 = st := by
 unfold atomS
 rw [take_bad h]
 simp only
 rw [take_bad h]
 simp only
 rw [if_neg (by decide), if_neg (by decide), if_neg (by decide), if_neg (by decide)]
theorem comp_text {t : Tok} (h : compB t = true) : t.text = sEq ∨ t.text = sTilde ∨ t.text = sLe ∨ t.text = sGe := by
 unfold compB at h
 simp at h
 rcases h.2 with ((h | h) | h) | h <;> simp [h]
theorem takeM_ok {e : Nat} {p : Tok → Bool} {ts r : List Tok} {x : Txt} (h : takeM e p ts = .ok (x, r)) : ∃ t, ts = t :: r ∧ p t = true ∧ x = t.text := by
 unfold takeM at h
 cases ts with
 | nil => cases h
 | cons t r' =>
  simp only at h
  split at h
  ·rename_i hp
   simp only [Except.ok.injEq, Prod.mk.injEq] at h
   exact ⟨t, by rw [h.2], hp, h.1.symm⟩
  ·cases h
theorem atom_rel {e : Nat} {l : List Tok} {st : St} (h : st.fine l) : Rel l (atomM e (l.drop st.k)) (atomS e l st) := by
 unfold atomM atomS
 have h1 := take_rel (e := e) (p := namedB) h
 obtain ⟨⟨f, s1⟩, hf⟩ : ∃ x, takeS e l namedB st = x := ⟨_, rfl⟩
 rw [hf] at h1 ⊢
 simp only
 cases q1 : takeM e namedB (l.drop st.k) with
 | error x =>
  rw [q1] at h1
  rw [bindR, take_bad h1.bad]
  simp only
  rw [if_neg (by decide), if_neg (by decide), if_neg (by decide), if_neg (by decide)]
  exact h1.same rfl
 | ok x =>
  obtain ⟨f', ts1⟩ := x
  rw [q1] at h1
  obtain ⟨rfl, g1, rfl⟩ := h1.fine
  rw [bindR]
  simp only at g1 ⊢
  have h2 := take_rel (e := e) (p := compB) g1
  obtain ⟨⟨o, s2⟩, ho⟩ : ∃ x, takeS e l compB s1 = x := ⟨_, rfl⟩
  rw [ho] at h2 ⊢
  simp only
  cases q2 : takeM e compB (l.drop s1.k) with
  | error x =>
   rw [q2] at h2
   have : o = [] := by
    have hb := h2.bad
    unfold takeS at ho
    split at ho
    ·obtain ⟨rfl, rfl⟩ := Prod.mk.inj ho
     exact absurd g1.1 hb
    ·exact (congrArg Prod.fst ho).symm
   rw [bindR, this]
   rw [if_neg (by decide), if_neg (by decide), if_neg (by decide), if_neg (by decide)]
   exact h2.same rfl
  | ok x =>
   obtain ⟨o', ts2⟩ := x
   rw [q2] at h2
   obtain ⟨rfl, g2, rfl⟩ := h2.fine
   rw [bindR]
   simp only at g2 ⊢
   have hoc : o = sEq ∨ o = sTilde ∨ o = sLe ∨ o = sGe := by
    obtain ⟨t, _, hc, rfl⟩ := takeM_ok q2
    exact comp_text hc
   by_cases e1 : o = sEq
   ·rw [if_pos e1, if_pos e1, ask_sees g2.1]
    by_cases hp : seesB paperB (l.drop s2.k) = true
    ·rw [if_pos hp, if_pos hp]
     have h3 := take_rel (e := e) (p := paperB) g2
     obtain ⟨⟨x3, s3⟩, e3⟩ : ∃ x, takeS e l paperB s2 = x := ⟨_, rfl⟩
     rw [e3] at h3 ⊢
     simp only
     cases q3 : takeM e paperB (l.drop s2.k) with
     | error x =>
      rw [q3] at h3
      have hb : s3.cd ≠ 0 := h3.bad
      rw [bindR, take_bad hb]
      simp only
      rw [take_bad hb]
      exact h3.same rfl
     | ok x =>
      obtain ⟨x3', ts3⟩ := x
      rw [q3] at h3
      obtain ⟨rfl, g3, rfl⟩ := h3.fine
      rw [bindR]
      simp only at g3 ⊢
      have h4 := take_rel (e := e) (p := signB sDot) g3
      obtain ⟨⟨x4, s4⟩, e4⟩ : ∃ x, takeS e l (signB sDot) s3 = x := ⟨_, rfl⟩
      rw [e4] at h4 ⊢
      simp only
      cases q4 : takeM e (signB sDot) (l.drop s3.k) with
      | error x =>
       rw [q4] at h4
       have hb : s4.cd ≠ 0 := h4.bad
       rw [bindR, take_bad hb]
       exact h4.same rfl
      | ok x =>
       obtain ⟨x4', ts4⟩ := x
       rw [q4] at h4
       obtain ⟨rfl, g4, rfl⟩ := h4.fine
       rw [bindR]
       simp only at g4 ⊢
       have h5 := take_rel (e := e) (p := namedB) g4
       obtain ⟨⟨x5, s5⟩, e5⟩ : ∃ x, takeS e l namedB s4 = x := ⟨_, rfl⟩
       rw [e5] at h5 ⊢
       simp only
       cases q5 : takeM e namedB (l.drop s4.k) with
       | error x => rw [q5] at h5; rw [bindR]; exact h5.same rfl
       | ok x =>
        obtain ⟨x5', ts5⟩ := x
        rw [q5] at h5
        obtain ⟨rfl, g5, rfl⟩ := h5.fine
        rw [bindR]
        exact ⟨rfl, g5.1, g5.2, rfl⟩
    ·rw [if_neg hp, if_neg hp]
     have h3 := take_rel (e := e) (p := kindB 3) g2
     obtain ⟨⟨x3, s3⟩, e3⟩ : ∃ x, takeS e l (kindB 3) s2 = x := ⟨_, rfl⟩
     rw [e3] at h3 ⊢
     cases q3 : takeM e (kindB 3) (l.drop s2.k) with
     | error x => rw [q3] at h3; rw [bindR]; exact h3.same rfl
     | ok x =>
      obtain ⟨x3', ts3⟩ := x
      rw [q3] at h3
      obtain ⟨rfl, g3, rfl⟩ := h3.fine
      rw [bindR]
      exact ⟨rfl, g3.1, g3.2, rfl⟩
   ·rw [if_neg e1, if_neg e1]
    by_cases e2 : o = sTilde
    ·rw [if_pos e2, if_pos e2]
     have h3 := take_rel (e := e) (p := kindB 3) g2
     obtain ⟨⟨x3, s3⟩, e3⟩ : ∃ x, takeS e l (kindB 3) s2 = x := ⟨_, rfl⟩
     rw [e3] at h3 ⊢
     cases q3 : takeM e (kindB 3) (l.drop s2.k) with
     | error x => rw [q3] at h3; rw [bindR]; exact h3.same rfl
     | ok x =>
      obtain ⟨x3', ts3⟩ := x
      rw [q3] at h3
      obtain ⟨rfl, g3, rfl⟩ := h3.fine
      rw [bindR]
      exact ⟨rfl, g3.1, g3.2, rfl⟩
    ·rw [if_neg e2, if_neg e2]
     have h3 := num_rel (e := e) (lo := 0) (hi := 1099511627776) g2
     obtain ⟨⟨x3, s3⟩, e3⟩ : ∃ x, numS e l 0 1099511627776 s2 = x := ⟨_, rfl⟩
     rw [e3] at h3 ⊢
     by_cases e4 : o = sLe
     ·rw [if_pos e4, if_pos e4]
      cases q3 : numM e 0 1099511627776 (l.drop s2.k) with
      | error x => rw [q3] at h3; rw [bindR]; exact h3.same rfl
      | ok x =>
       obtain ⟨x3', ts3⟩ := x
       rw [q3] at h3
       obtain ⟨rfl, g3, rfl⟩ := h3.fine
       rw [bindR]
       exact ⟨rfl, g3.1, g3.2, rfl⟩
     ·have e5 : o = sGe := by rcases hoc with h | h | h | h <;> first | exact h | exact absurd h e1 | exact absurd h e2 | exact absurd h e4
      rw [if_neg e4, if_neg e4, if_pos e5]
      cases q3 : numM e 0 1099511627776 (l.drop s2.k) with
      | error x => rw [q3] at h3; rw [bindR]; exact h3.same rfl
      | ok x =>
       obtain ⟨x3', ts3⟩ := x
       rw [q3] at h3
       obtain ⟨rfl, g3, rfl⟩ := h3.fine
       rw [bindR]
       exact ⟨rfl, g3.1, g3.2, rfl⟩
def Agree (l : List Tok) (m : Nat) (part : St → Option (Rul × St)) (part' : List Tok → Option (Res Rul)) : Prop :=
 (∀ st : St, st.cd ≠ 0 → ∃ r, part st = some (r, st)) ∧
 ∀ st : St, st.fine l → l.length - st.k < m → ∃ x y, part st = some x ∧ part' (l.drop st.k) = some y ∧ Rel l y x ∧ (x.2.cd = 0 → st.k < x.2.k)
theorem takeM_less {e : Nat} {p : Tok → Bool} {ts r : List Tok} {x : Txt} (h : takeM e p ts = .ok (x, r)) : r.length + 1 = ts.length := by
 obtain ⟨t, rfl, _, _⟩ := takeM_ok h
 simp
theorem numM_less {e : Nat} {lo hi x : Int} {ts r : List Tok} (h : numM e lo hi ts = .ok (x, r)) : r.length + 1 = ts.length := by
 unfold numM at h
 split at h
 ·cases h
 ·rename_i t r' ht
  split at h
  ·cases h
  ·simp only [Except.ok.injEq, Prod.mk.injEq] at h
   obtain ⟨_, rfl⟩ := h
   exact takeM_less ht
theorem bind_some {α β : Type} {x : Res α} {f : α → List Tok → Res β} {b : β} {r : List Tok} (h : bindR x f = .ok (b, r)) : ∃ a ts, x = .ok (a, ts) ∧ f a ts = .ok (b, r) := by
 unfold bindR at h
 split at h
 ·cases h
 ·rename_i a ts; exact ⟨a, ts, rfl, h⟩
theorem atomM_less {e : Nat} {ts r : List Tok} {x : Rul} (h : atomM e ts = .ok (x, r)) : r.length < ts.length := by
 unfold atomM at h
 obtain ⟨f, t1, h1, h⟩ := bind_some h
 obtain ⟨o, t2, h2, h⟩ := bind_some h
 have l1 := takeM_less h1
 have l2 := takeM_less h2
 split at h
 ·split at h
  ·obtain ⟨_, t3, h3, h⟩ := bind_some h
   obtain ⟨_, t4, h4, h⟩ := bind_some h
   obtain ⟨_, t5, h5, h⟩ := bind_some h
   have l3 := takeM_less h3
   have l4 := takeM_less h4
   have l5 := takeM_less h5
   simp only [Except.ok.injEq, Prod.mk.injEq] at h
   obtain ⟨_, rfl⟩ := h
   omega
  ·obtain ⟨_, t3, h3, h⟩ := bind_some h
   have l3 := takeM_less h3
   simp only [Except.ok.injEq, Prod.mk.injEq] at h
   obtain ⟨_, rfl⟩ := h
   omega
 ·split at h
  ·obtain ⟨_, t3, h3, h⟩ := bind_some h
   have l3 := takeM_less h3
   simp only [Except.ok.injEq, Prod.mk.injEq] at h
   obtain ⟨_, rfl⟩ := h
   omega
  ·split at h
   all_goals
    obtain ⟨_, t3, h3, h⟩ := bind_some h
    have l3 := numM_less h3
    simp only [Except.ok.injEq, Prod.mk.injEq] at h
    obtain ⟨_, rfl⟩ := h
    omega
theorem step_fine {l : List Tok} {st : St} {p : Tok → Bool} (h : st.fine l) (ha : askS l st 0 p = true) : st.step.fine l ∧ l.drop st.step.k = (l.drop st.k).tail ∧ st.k < l.length := by
 obtain ⟨_, t, hlk, _, _⟩ := ask_step ha
 have hlt : st.k < l.length := (List.getElem?_eq_some_iff.1 hlk).1
 exact ⟨⟨h.1, hlt⟩, by rw [List.tail_drop]; rfl, hlt⟩
theorem parts_rel {l : List Tok} {m : Nat} {part : St → Option (Rul × St)} {part' : List Tok → Option (Res Rul)} (sep : Txt) (h : Agree l m part part') :
  ∀ (n : Nat) (st : St), st.fine l → l.length - st.k < n → l.length - st.k < m → ∃ x y, partsS l part sep n st = some x ∧ partsP part' sep n (l.drop st.k) = some y ∧ Rel l y x ∧ (x.2.cd = 0 → st.k < x.2.k)
 | 0, st, _, hn, _ => by omega
 | n + 1, st, hf, hn, hm => by
  obtain ⟨⟨r, s1⟩, y, h1, h2, h3, h4⟩ := h.2 st hf hm
  rw [partsS, partsP, h1, h2]
  cases y with
  | error q =>
   have hb : s1.cd ≠ 0 := h3.bad
   simp only
   rw [ask_bad hb, if_neg (by simp)]
   exact ⟨_, _, rfl, rfl, h3.same rfl, fun hz => absurd hz hb⟩
  | ok y =>
   obtain ⟨r', ts⟩ := y
   obtain ⟨rfl, g1, rfl⟩ := h3.fine
   simp only at g1 h4 ⊢
   have hk1 := h4 g1.1
   rw [ask_sees g1.1]
   by_cases ha : seesB (wordB sep) (l.drop s1.k) = true
   ·rw [if_pos ha, if_pos ha]
    obtain ⟨g2, d2, hlt⟩ := step_fine g1 (by rw [ask_sees g1.1]; exact ha)
    rw [← d2]
    have e2 : s1.step.k = s1.k + 1 := rfl
    obtain ⟨⟨L, s2⟩, y2, i1, i2, i3, i4⟩ := parts_rel sep h n s1.step g2 (by omega) (by omega)
    rw [i1, i2]
    cases y2 with
    | error q => exact ⟨_, _, rfl, rfl, i3.same rfl, fun hz => absurd hz i3.bad⟩
    | ok y2 =>
     obtain ⟨L', ts2⟩ := y2
     obtain ⟨rfl, g3, rfl⟩ := i3.fine
     exact ⟨_, _, rfl, rfl, ⟨rfl, g3.1, g3.2, rfl⟩, fun hz => by have := i4 hz; simp only at this ⊢; omega⟩
   ·rw [if_neg ha, if_neg ha]
    exact ⟨_, _, rfl, rfl, ⟨rfl, g1.1, g1.2, rfl⟩, fun hz => hk1⟩
theorem row_agree {l : List Tok} {m : Nat} {part : St → Option (Rul × St)} {part' : List Tok → Option (Res Rul)} (sep : Txt) (k : Int) (n : Nat) (hn : m ≤ n) (h0 : 0 < n) (h : Agree l m part part') : Agree l m (rowS l part sep k n) (rowP part' sep k n) := by
 constructor
 ·intro st hb
  obtain ⟨r, hr⟩ := h.1 st hb
  refine ⟨r, ?_⟩
  obtain ⟨n', rfl⟩ : ∃ n', n = n' + 1 := ⟨n - 1, by omega⟩
  rw [rowS, partsS, hr]
  simp only
  rw [ask_bad hb, if_neg (by simp)]
  rfl
 ·intro st hf hm
  obtain ⟨⟨L, s'⟩, y, h1, h2, h3, h4⟩ := parts_rel sep h n st hf (by omega) hm
  rw [rowS, rowP, h1, h2]
  cases y with
  | error q => exact ⟨_, _, rfl, rfl, h3.same rfl, fun hz => absurd hz h3.bad⟩
  | ok y =>
   obtain ⟨L', ts⟩ := y
   obtain ⟨rfl, g1, rfl⟩ := h3.fine
   exact ⟨_, _, rfl, rfl, ⟨rfl, g1.1, g1.2, rfl⟩, h4⟩
theorem one_agree (e : Nat) (l : List Tok) : ∀ n, 0 < n → Agree l n (oneS e l n) (oneP e n)
 | 0, h => by omega
 | 1, _ => by
  constructor
  ·intro st hb
   refine ⟨(atomS e l st).1, ?_⟩
   rw [oneS, ask_bad hb, ask_bad hb, ask_bad hb, if_neg (by simp), if_neg (by simp)]
   exact congrArg some (Prod.ext rfl (atom_bad hb))
  ·intro st hf hm
   have hnil : l.drop st.k = [] := List.drop_eq_nil_of_le (by omega)
   rw [oneS, oneP, ask_sees hf.1, ask_sees hf.1, hnil]
   simp only [seesB, Bool.false_and, Bool.false_eq_true, if_false]
   have ha := atom_rel (e := e) hf
   rw [hnil] at ha
   refine ⟨_, _, rfl, rfl, ha, fun hz => ?_⟩
   cases hq : atomM e [] with
   | error q => rw [hq] at ha; exact absurd hz ha.bad
   | ok x => have := atomM_less hq; simp at this
 | n + 2, _ => by
  have ih := one_agree e l (n + 1) (by omega)
  have ihr : Agree l (n + 1) (rowS l (rowS l (oneS e l (n + 1)) wAnd 0 (n + 1)) wOr 1 (n + 1)) (ruleOf (oneP e (n + 1)) (n + 1)) := row_agree wOr 1 (n + 1) le9 (by omega) (row_agree wAnd 0 (n + 1) le9 (by omega) ih)
  constructor
  ·intro st hb
   refine ⟨(atomS e l st).1, ?_⟩
   rw [oneS, ask_bad hb, ask_bad hb, ask_bad hb, if_neg (by simp), if_neg (by simp)]
   exact congrArg some (Prod.ext rfl (atom_bad hb))
  ·intro st hf hm
   rw [oneS, oneP, ask_sees hf.1, ask_next hf.1, ask_sees hf.1]
   by_cases h1 : (seesB (wordB wNot) (l.drop st.k) && !seesB compB (l.drop st.k).tail) = true
   ·rw [if_pos h1, if_pos h1]
    rw [Bool.and_eq_true] at h1
    obtain ⟨g2, d2, hlt⟩ := step_fine hf (by rw [ask_sees hf.1]; exact h1.1)
    have e2 : st.step.k = st.k + 1 := rfl
    obtain ⟨⟨r, s'⟩, y, i1, i2, i3, i4⟩ := ih.2 st.step g2 (by omega)
    rw [← d2, i1, i2]
    cases y with
    | error q => exact ⟨_, _, rfl, rfl, i3.same rfl, fun hz => absurd hz i3.bad⟩
    | ok y =>
     obtain ⟨r', ts⟩ := y
     obtain ⟨rfl, g3, rfl⟩ := i3.fine
     exact ⟨_, _, rfl, rfl, ⟨rfl, g3.1, g3.2, rfl⟩, fun hz => by have := i4 hz; simp only at this ⊢; omega⟩
   ·rw [if_neg h1, if_neg h1]
    by_cases h2 : seesB (signB sOpen) (l.drop st.k) = true
    ·rw [if_pos h2, if_pos h2]
     obtain ⟨g2, d2, hlt⟩ := step_fine hf (by rw [ask_sees hf.1]; exact h2)
     have e2 : st.step.k = st.k + 1 := rfl
     obtain ⟨⟨r, s'⟩, y, i1, i2, i3, i4⟩ := ihr.2 st.step g2 (by omega)
     rw [← d2, i1, i2]
     cases y with
     | error q =>
      have hb : s'.cd ≠ 0 := i3.bad
      simp only
      rw [take_bad hb]
      exact ⟨_, _, rfl, rfl, i3.same rfl, fun hz => absurd hz hb⟩
     | ok y =>
      obtain ⟨r', ts⟩ := y
      obtain ⟨rfl, g3, rfl⟩ := i3.fine
      simp only at g3 i4 ⊢
      have ht := take_rel (e := e) (p := signB sShut) g3
      cases hq : takeM e (signB sShut) (l.drop s'.k) with
      | error q =>
       rw [hq] at ht
       exact ⟨_, _, rfl, rfl, ht.same rfl, fun hz => absurd hz ht.bad⟩
      | ok x =>
       obtain ⟨x, ts⟩ := x
       rw [hq] at ht
       obtain ⟨_, g4, rfl⟩ := ht.fine
       refine ⟨_, _, rfl, rfl, ⟨rfl, g4.1, g4.2, rfl⟩, fun hz => ?_⟩
       have l1 := takeM_less hq
       have l2 := i4 g3.1
       simp only [List.length_drop] at l1 ⊢
       have := g4.2
       omega
    ·rw [if_neg h2, if_neg h2]
     have ha := atom_rel (e := e) hf
     refine ⟨_, _, rfl, rfl, ha, fun hz => ?_⟩
     cases hq : atomM e (l.drop st.k) with
     | error q => rw [hq] at ha; exact absurd hz ha.bad
     | ok x =>
      obtain ⟨r, ts⟩ := x
      have := atomM_less hq
      rw [hq] at ha
      obtain ⟨_, g, rfl⟩ := ha.fine
      have h6 := g.2
      simp only [List.length_drop] at this
      omega
def ruleS (e : Nat) (l : List Tok) (n : Nat) : St → Option (Rul × St) := rowS l (rowS l (oneS e l n) wAnd 0 n) wOr 1 n
theorem rule_agree (e : Nat) (l : List Tok) (n : Nat) (hn : 0 < n) : Agree l n (ruleS e l n) (ruleP e n) :=
 row_agree wOr 1 n le9 hn (row_agree wAnd 0 n le9 hn (one_agree e l n hn))
def wholeS (e : Nat) (l : List Tok) (n : Nat) (st : St) : Option (Rul × St) := match ruleS e l n st with
 | none => none
 | some (r, s') => some (r, if s'.cd = 0 ∧ (16 < depthR r ∨ crowdR r = true) then failS s' (placeS e l st) 7 else s')
theorem whole_agree (e : Nat) (l : List Tok) (n : Nat) (hn : 0 < n) : Agree l n (wholeS e l n) (wholeP e n) := by
 have hr := rule_agree e l n hn
 constructor
 ·intro st hb
  obtain ⟨r, h⟩ := hr.1 st hb
  exact ⟨r, by rw [wholeS, h]; simp only; rw [if_neg (fun hx => hb hx.1)]⟩
 ·intro st hf hm
  obtain ⟨⟨r, s'⟩, y, i1, i2, i3, i4⟩ := hr.2 st hf hm
  rw [wholeS, wholeP, i1, i2]
  cases y with
  | error q =>
   simp only
   rw [if_neg (fun hx => i3.bad hx.1)]
   exact ⟨_, _, rfl, rfl, i3, fun hz => absurd hz i3.bad⟩
  | ok y =>
   obtain ⟨r', ts⟩ := y
   obtain ⟨rfl, g, rfl⟩ := i3.fine
   simp only at g i4 ⊢
   by_cases hx : 16 < depthR r ∨ crowdR r = true
   ·rw [if_pos ⟨g.1, hx⟩, if_pos hx, fail_fine g.1, ← place_m]
    exact ⟨_, _, rfl, rfl, ⟨rfl, rfl, by decide⟩, fun hz => absurd hz (show ¬ ((7 : Int) = 0) by decide)⟩
   ·rw [if_neg (fun h => hx h.2), if_neg hx]
    exact ⟨_, _, rfl, rfl, ⟨rfl, g.1, g.2, rfl⟩, i4⟩
end Go.Proofs.YtjkmhlfjheiekaaGreatDoor

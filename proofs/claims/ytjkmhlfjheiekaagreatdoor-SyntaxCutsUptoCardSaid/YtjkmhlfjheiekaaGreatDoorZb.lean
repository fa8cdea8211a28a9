import Derived.Test.YtjkmhlfjheiekaaGreatDoorX
set_option maxRecDepth 1000000
set_option maxHeartbeats 51200000
namespace Go.Proofs.YtjkmhlfjheiekaaGreatDoor
open Go Go.RowKit
def Rel {α : Type} (l : List Tok) (y : Res α) (x : α × St) : Prop := match y with
 | .ok (a, ts) => x.1 = a ∧ x.2.cd = 0 ∧ x.2.k ≤ l.length ∧ ts = l.drop x.2.k
 | .error (pl, cd) => x.2.cd = cd ∧ x.2.pl = pl ∧ cd ≠ 0
def St.fine (l : List Tok) (st : St) : Prop := st.cd = 0 ∧ st.k ≤ l.length
theorem drop_nil {l : List Tok} {k : Nat} (h : l[k]? = none) : l.drop k = [] := List.drop_eq_nil_of_le (by simpa using h)
theorem drop_cons {l : List Tok} {k : Nat} {t : Tok} (h : l[k]? = some t) : l.drop k = t :: l.drop (k + 1) := by
 obtain ⟨hk, he⟩ := List.getElem?_eq_some_iff.1 h
 rw [List.drop_eq_getElem_cons hk, he]
theorem ask_sees {l : List Tok} {st : St} {p : Tok → Bool} (h : st.cd = 0) : askS l st 0 p = seZ p (l.drop st.k) := by
 unfold askS seZ
 rw [Nat.add_zero, h]
 cases ht : l[st.k]? with
 | none => rw [drop_nil ht]; rfl
 | some t => rw [drop_cons ht]; simp
theorem ask_next {l : List Tok} {st : St} {p : Tok → Bool} (h : st.cd = 0) : askS l st 1 p = seZ p (l.drop st.k).tail := by
 unfold askS seZ
 rw [h, List.tail_drop]
 cases ht : l[st.k + 1]? with
 | none => rw [drop_nil ht]; rfl
 | some t => rw [drop_cons ht]; simp
theorem ask_bad {l : List Tok} {st : St} {p : Tok → Bool} {b : Nat} (h : st.cd ≠ 0) : askS l st b p = false := by
 unfold askS
 rw [beq_false_of_ne h]; rfl
theorem place_m {l : List Tok} {st : St} {e : Nat} : placeS e l st = placeM e (l.drop st.k) := by
 unfold placeS placeM
 cases ht : l[st.k]? with
 | none => rw [drop_nil ht]
 | some t => rw [drop_cons ht]
theorem fail_bad {st : St} {pl : Nat} {cd : Int} (h : st.cd ≠ 0) : failS st pl cd = st := by unfold failS; rw [if_neg h]
theorem fail_fine {st : St} {pl : Nat} {cd : Int} (h : st.cd = 0) : failS st pl cd = ⟨st.k, pl, cd⟩ := by unfold failS; rw [if_pos h]
theorem tbz {e : Nat} {l : List Tok} {p : Tok → Bool} {st : St} (h : st.cd ≠ 0) : tkz e l p st = ([], st) := by
 unfold tkz
 rw [ask_bad h, if_neg (by simp), fail_bad h]
theorem take_rel {e : Nat} {l : List Tok} {p : Tok → Bool} {st : St} (h : st.fine l) : Rel l (takeM e p (l.drop st.k)) (tkz e l p st) := by
 obtain ⟨h0, hk⟩ := h
 unfold tkz takeM
 rw [ask_sees h0, place_m]
 unfold seZ
 cases ht : l[st.k]? with
 | none => rw [drop_nil ht]; exact ⟨by simp [fail_fine h0], by simp [fail_fine h0, placeM], by decide⟩
 | some t =>
  have hlt : st.k < l.length := (List.getElem?_eq_some_iff.1 ht).1; rw [drop_cons ht]; simp only
  by_cases hp : p t = true
  ·rw [if_pos hp, if_pos hp]
   exact ⟨by unfold textS; rw [ht], h0, hlt, rfl⟩
  ·rw [if_neg hp, if_neg hp]
   exact ⟨by simp [fail_fine h0], by simp [fail_fine h0, placeM], by decide⟩
theorem Rel.fine {α : Type} {l : List Tok} {a : α} {ts : List Tok} {x : α × St} (h : Rel l (.ok (a, ts)) x) : x.1 = a ∧ x.2.fine l ∧ ts = l.drop x.2.k := ⟨h.1, ⟨h.2.1, h.2.2.1⟩, h.2.2.2⟩
theorem Rel.bad {α : Type} {l : List Tok} {q : Nat × Int} {x : α × St} (h : Rel l (.error q) x) : x.2.cd ≠ 0 := by
 obtain ⟨pl, cd⟩ := q
 exact fun hz => h.2.2 (h.1 ▸ hz)
theorem Rel.same {α β : Type} {l : List Tok} {q : Nat × Int} {x : α × St} {y : β × St} (h : Rel l (.error q : Res α) x) (he : y.2 = x.2) : Rel l (.error q : Res β) y := by
 obtain ⟨pl, cd⟩ := q
 unfold Rel at h ⊢
 rw [he]; exact h
theorem num_bad {e : Nat} {l : List Tok} {lo hi : Int} {st : St} (h : st.cd ≠ 0) : numS e l lo hi st = (0, st) := by
 unfold numS
 rw [tbz h, if_neg h]
theorem num_rel {e : Nat} {l : List Tok} {lo hi : Int} {st : St} (h : st.fine l) : Rel l (numM e lo hi (l.drop st.k)) (numS e l lo hi st) := by
 have ht := take_rel (e := e) (p := kdB 2) h
 unfold numM numS
 cases hq : takeM e (kdB 2) (l.drop st.k) with
 | error x =>
  rw [hq] at ht; rw [if_neg ht.bad]; exact ht.same rfl
 | ok x =>
  obtain ⟨t, ts⟩ := x; rw [hq] at ht; obtain ⟨h1, h2, h3⟩ := ht.fine; rw [if_pos h2.1, h1]; simp only
  by_cases hr : (numV t : Int) < lo ∨ hi < (numV t : Int)
  ·rw [if_pos hr, if_pos hr, fail_fine h2.1, ← place_m]
   exact ⟨rfl, rfl, by decide⟩
  ·rw [if_neg hr, if_neg hr]
   exact ⟨rfl, h2.1, h2.2, h3⟩
theorem atom_bad {e : Nat} {l : List Tok} {st : St} (h : st.cd ≠ 0) : (atomS e l st).2 = st := by
 unfold atomS
 rw [tbz h]
 simp only
 rw [tbz h]
 simp only
 rw [if_neg (by decide), if_neg (by decide), if_neg (by decide), if_neg (by decide)]
theorem comp_text {t : Tok} (h : compB t = true) : t.text = sEq ∨ t.text = sTilde ∨ t.text = sLe ∨ t.text = sGe := by
 unfold compB at h
 simp at h
 rcases h.2 with ((h | h) | h) | h <;> simp [h]
theorem takeM_ok {e : Nat} {p : Tok → Bool} {ts r : List Tok} {x : Txt} (h : takeM e p ts = .ok (x, r)) : ∃ t, ts = t :: r ∧ p t = true ∧ x = t.text := by
 unfold takeM at h
 cases ts with
 | nil => cases h
 | cons t r' =>
  simp only at h
  split at h
  ·rename_i hp
   simp only [Except.ok.injEq, Prod.mk.injEq] at h; exact ⟨t, by rw [h.2], hp, h.1.symm⟩
  ·cases h
theorem atom_rel {e : Nat} {l : List Tok} {st : St} (h : st.fine l) : Rel l (atomM e (l.drop st.k)) (atomS e l st) := by
 unfold atomM atomS
 have h1 := take_rel (e := e) (p := nmB) h
 obtain ⟨⟨f, s1⟩, hf⟩ : ∃ x, tkz e l nmB st = x := ⟨_, rfl⟩
 rw [hf] at h1 ⊢
 simp only
 cases q1 : takeM e nmB (l.drop st.k) with
 | error x =>
  rw [q1] at h1; rw [bindR, tbz h1.bad]; simp only; rw [if_neg (by decide), if_neg (by decide), if_neg (by decide), if_neg (by decide)]; exact h1.same rfl
 | ok x =>
  obtain ⟨f', ts1⟩ := x; rw [q1] at h1; obtain ⟨rfl, g1, rfl⟩ := h1.fine; rw [bindR]; simp only at g1 ⊢; have h2 := take_rel (e := e) (p := compB) g1; obtain ⟨⟨o, s2⟩, ho⟩ : ∃ x, tkz e l compB s1 = x := ⟨_, rfl⟩; rw [ho] at h2 ⊢; simp only
  cases q2 : takeM e compB (l.drop s1.k) with
  | error x =>
   rw [q2] at h2
   have : o = [] := by
    have hb := h2.bad; unfold tkz at ho
    split at ho
    ·obtain ⟨rfl, rfl⟩ := Prod.mk.inj ho
     exact absurd g1.1 hb
    ·exact (congrArg Prod.fst ho).symm
   rw [bindR, this]; rw [if_neg (by decide), if_neg (by decide), if_neg (by decide), if_neg (by decide)]; exact h2.same rfl
  | ok x =>
   obtain ⟨o', ts2⟩ := x; rw [q2] at h2; obtain ⟨rfl, g2, rfl⟩ := h2.fine; rw [bindR]; simp only at g2 ⊢
   have hoc : o = sEq ∨ o = sTilde ∨ o = sLe ∨ o = sGe := by
    obtain ⟨t, _, hc, rfl⟩ := takeM_ok q2; exact comp_text hc
   by_cases e1 : o = sEq
   ·rw [if_pos e1, if_pos e1, ask_sees g2.1]
    by_cases hp : seZ ppB (l.drop s2.k) = true
    ·rw [if_pos hp, if_pos hp]
     have h3 := take_rel (e := e) (p := ppB) g2; obtain ⟨⟨x3, s3⟩, e3⟩ : ∃ x, tkz e l ppB s2 = x := ⟨_, rfl⟩; rw [e3] at h3 ⊢; simp only
     cases q3 : takeM e ppB (l.drop s2.k) with
     | error x =>
      rw [q3] at h3; have hb : s3.cd ≠ 0 := h3.bad; rw [bindR, tbz hb]; simp only; rw [tbz hb]; exact h3.same rfl
     | ok x =>
      obtain ⟨x3', ts3⟩ := x; rw [q3] at h3; obtain ⟨rfl, g3, rfl⟩ := h3.fine; rw [bindR]; simp only at g3 ⊢; have h4 := take_rel (e := e) (p := signB sDot) g3; obtain ⟨⟨x4, s4⟩, e4⟩ : ∃ x, tkz e l (signB sDot) s3 = x := ⟨_, rfl⟩; rw [e4] at h4 ⊢; simp only
      cases q4 : takeM e (signB sDot) (l.drop s3.k) with
      | error x =>
       rw [q4] at h4; have hb : s4.cd ≠ 0 := h4.bad; rw [bindR, tbz hb]; exact h4.same rfl
      | ok x =>
       obtain ⟨x4', ts4⟩ := x; rw [q4] at h4; obtain ⟨rfl, g4, rfl⟩ := h4.fine; rw [bindR]; simp only at g4 ⊢; have h5 := take_rel (e := e) (p := nmB) g4; obtain ⟨⟨x5, s5⟩, e5⟩ : ∃ x, tkz e l nmB s4 = x := ⟨_, rfl⟩; rw [e5] at h5 ⊢; simp only
       cases q5 : takeM e nmB (l.drop s4.k) with
       | error x => rw [q5] at h5; rw [bindR]; exact h5.same rfl
       | ok x =>
        obtain ⟨x5', ts5⟩ := x; rw [q5] at h5; obtain ⟨rfl, g5, rfl⟩ := h5.fine; rw [bindR]; exact ⟨rfl, g5.1, g5.2, rfl⟩
    ·rw [if_neg hp, if_neg hp]
     have h3 := take_rel (e := e) (p := kdB 3) g2; obtain ⟨⟨x3, s3⟩, e3⟩ : ∃ x, tkz e l (kdB 3) s2 = x := ⟨_, rfl⟩; rw [e3] at h3 ⊢
     cases q3 : takeM e (kdB 3) (l.drop s2.k) with
     | error x => rw [q3] at h3; rw [bindR]; exact h3.same rfl
     | ok x =>
      obtain ⟨x3', ts3⟩ := x; rw [q3] at h3; obtain ⟨rfl, g3, rfl⟩ := h3.fine; rw [bindR]; exact ⟨rfl, g3.1, g3.2, rfl⟩
   ·rw [if_neg e1, if_neg e1]
    by_cases e2 : o = sTilde
    ·rw [if_pos e2, if_pos e2]
     have h3 := take_rel (e := e) (p := kdB 3) g2; obtain ⟨⟨x3, s3⟩, e3⟩ : ∃ x, tkz e l (kdB 3) s2 = x := ⟨_, rfl⟩; rw [e3] at h3 ⊢
     cases q3 : takeM e (kdB 3) (l.drop s2.k) with
     | error x => rw [q3] at h3; rw [bindR]; exact h3.same rfl
     | ok x =>
      obtain ⟨x3', ts3⟩ := x; rw [q3] at h3; obtain ⟨rfl, g3, rfl⟩ := h3.fine; rw [bindR]; exact ⟨rfl, g3.1, g3.2, rfl⟩
    ·rw [if_neg e2, if_neg e2]
     have h3 := num_rel (e := e) (lo := 0) (hi := 1099511627776) g2; obtain ⟨⟨x3, s3⟩, e3⟩ : ∃ x, numS e l 0 1099511627776 s2 = x := ⟨_, rfl⟩; rw [e3] at h3 ⊢
     by_cases e4 : o = sLe
     ·rw [if_pos e4, if_pos e4]
      cases q3 : numM e 0 1099511627776 (l.drop s2.k) with
      | error x => rw [q3] at h3; rw [bindR]; exact h3.same rfl
      | ok x =>
       obtain ⟨x3', ts3⟩ := x; rw [q3] at h3; obtain ⟨rfl, g3, rfl⟩ := h3.fine; rw [bindR]; exact ⟨rfl, g3.1, g3.2, rfl⟩
     ·have e5 : o = sGe := by rcases hoc with h | h | h | h <;> first | exact h | exact absurd h e1 | exact absurd h e2 | exact absurd h e4
      rw [if_neg e4, if_neg e4, if_pos e5]
      cases q3 : numM e 0 1099511627776 (l.drop s2.k) with
      | error x => rw [q3] at h3; rw [bindR]; exact h3.same rfl
      | ok x =>
       obtain ⟨x3', ts3⟩ := x; rw [q3] at h3; obtain ⟨rfl, g3, rfl⟩ := h3.fine; rw [bindR]; exact ⟨rfl, g3.1, g3.2, rfl⟩
def Agree (l : List Tok) (m : Nat) (part : St → Option (Rul × St)) (part' : List Tok → Option (Res Rul)) : Prop :=
 (∀ st : St, st.cd ≠ 0 → ∃ r, part st = some (r, st)) ∧
 ∀ st : St, st.fine l → l.length - st.k < m → ∃ x y, part st = some x ∧ part' (l.drop st.k) = some y ∧ Rel l y x ∧ (x.2.cd = 0 → st.k < x.2.k)
theorem takeM_less {e : Nat} {p : Tok → Bool} {ts r : List Tok} {x : Txt} (h : takeM e p ts = .ok (x, r)) : r.length + 1 = ts.length := by
 obtain ⟨t, rfl, _, _⟩ := takeM_ok h
 simp
theorem numM_less {e : Nat} {lo hi x : Int} {ts r : List Tok} (h : numM e lo hi ts = .ok (x, r)) : r.length + 1 = ts.length := by
 unfold numM at h
 split at h
 ·cases h
 ·rename_i t r' ht
  split at h
  ·cases h
  ·simp only [Except.ok.injEq, Prod.mk.injEq] at h
   obtain ⟨_, rfl⟩ := h; exact takeM_less ht
theorem bsz {α β : Type} {x : Res α} {f : α → List Tok → Res β} {b : β} {r : List Tok} (h : bindR x f = .ok (b, r)) : ∃ a ts, x = .ok (a, ts) ∧ f a ts = .ok (b, r) := by
 unfold bindR at h
 split at h
 ·cases h
 ·rename_i a ts; exact ⟨a, ts, rfl, h⟩
theorem atomM_less {e : Nat} {ts r : List Tok} {x : Rul} (h : atomM e ts = .ok (x, r)) : r.length < ts.length := by
 unfold atomM at h
 obtain ⟨f, t1, h1, h⟩ := bsz h
 obtain ⟨o, t2, h2, h⟩ := bsz h
 have l1 := takeM_less h1
 have l2 := takeM_less h2
 split at h
 ·split at h
  ·obtain ⟨_, t3, h3, h⟩ := bsz h
   obtain ⟨_, t4, h4, h⟩ := bsz h; obtain ⟨_, t5, h5, h⟩ := bsz h; have l3 := takeM_less h3; have l4 := takeM_less h4; have l5 := takeM_less h5; simp only [Except.ok.injEq, Prod.mk.injEq] at h; obtain ⟨_, rfl⟩ := h; omega
  ·obtain ⟨_, t3, h3, h⟩ := bsz h
   have l3 := takeM_less h3; simp only [Except.ok.injEq, Prod.mk.injEq] at h; obtain ⟨_, rfl⟩ := h; omega
 ·split at h
  ·obtain ⟨_, t3, h3, h⟩ := bsz h
   have l3 := takeM_less h3; simp only [Except.ok.injEq, Prod.mk.injEq] at h; obtain ⟨_, rfl⟩ := h; omega
  ·split at h
   all_goals
    obtain ⟨_, t3, h3, h⟩ := bsz h; have l3 := numM_less h3; simp only [Except.ok.injEq, Prod.mk.injEq] at h; obtain ⟨_, rfl⟩ := h; omega
theorem step_fine {l : List Tok} {st : St} {p : Tok → Bool} (h : st.fine l) (ha : askS l st 0 p = true) : st.step.fine l ∧ l.drop st.step.k = (l.drop st.k).tail ∧ st.k < l.length := by
 obtain ⟨_, t, hlk, _, _⟩ := ask_step ha
 have hlt : st.k < l.length := (List.getElem?_eq_some_iff.1 hlk).1
 exact ⟨⟨h.1, hlt⟩, by rw [List.tail_drop]; rfl, hlt⟩
theorem parts_rel {l : List Tok} {m : Nat} {part : St → Option (Rul × St)} {part' : List Tok → Option (Res Rul)} (sep : Txt) (h : Agree l m part part') :
  ∀ (n : Nat) (st : St), st.fine l → l.length - st.k < n → l.length - st.k < m → ∃ x y, partsS l part sep n st = some x ∧ partsP part' sep n (l.drop st.k) = some y ∧ Rel l y x ∧ (x.2.cd = 0 → st.k < x.2.k)
 | 0, st, _, hn, _ => by omega
 | n + 1, st, hf, hn, hm => by
  obtain ⟨⟨r, s1⟩, y, h1, h2, h3, h4⟩ := h.2 st hf hm; rw [partsS, partsP, h1, h2]
  cases y with
  | error q =>
   have hb : s1.cd ≠ 0 := h3.bad; simp only; rw [ask_bad hb, if_neg (by simp)]; exact ⟨_, _, rfl, rfl, h3.same rfl, fun hz => absurd hz hb⟩
  | ok y =>
   obtain ⟨r', ts⟩ := y; obtain ⟨rfl, g1, rfl⟩ := h3.fine; simp only at g1 h4 ⊢; have hk1 := h4 g1.1; rw [ask_sees g1.1]
   by_cases ha : seZ (wdz sep) (l.drop s1.k) = true
   ·rw [if_pos ha, if_pos ha]
    obtain ⟨g2, d2, hlt⟩ := step_fine g1 (by rw [ask_sees g1.1]; exact ha); rw [← d2]; have e2 : s1.step.k = s1.k + 1 := rfl; obtain ⟨⟨L, s2⟩, y2, i1, i2, i3, i4⟩ := parts_rel sep h n s1.step g2 (by omega) (by omega); rw [i1, i2]
    cases y2 with
    | error q => exact ⟨_, _, rfl, rfl, i3.same rfl, fun hz => absurd hz i3.bad⟩
    | ok y2 =>
     obtain ⟨L', ts2⟩ := y2; obtain ⟨rfl, g3, rfl⟩ := i3.fine; exact ⟨_, _, rfl, rfl, ⟨rfl, g3.1, g3.2, rfl⟩, fun hz => by have := i4 hz; simp only at this ⊢; omega⟩
   ·rw [if_neg ha, if_neg ha]
    exact ⟨_, _, rfl, rfl, ⟨rfl, g1.1, g1.2, rfl⟩, fun hz => hk1⟩
theorem row_agree {l : List Tok} {m : Nat} {part : St → Option (Rul × St)} {part' : List Tok → Option (Res Rul)} (sep : Txt) (k : Int) (n : Nat) (hn : m ≤ n) (h0 : 0 < n) (h : Agree l m part part') : Agree l m (rowS l part sep k n) (rowP part' sep k n) := by
 constructor
 ·intro st hb
  obtain ⟨r, hr⟩ := h.1 st hb; refine ⟨r, ?_⟩; obtain ⟨n', rfl⟩ : ∃ n', n = n' + 1 := ⟨n - 1, by omega⟩; rw [rowS, partsS, hr]; simp only; rw [ask_bad hb, if_neg (by simp)]
  rfl
 ·intro st hf hm
  obtain ⟨⟨L, s'⟩, y, h1, h2, h3, h4⟩ := parts_rel sep h n st hf (by omega) hm; rw [rowS, rowP, h1, h2]
  cases y with
  | error q => exact ⟨_, _, rfl, rfl, h3.same rfl, fun hz => absurd hz h3.bad⟩
  | ok y =>
   obtain ⟨L', ts⟩ := y; obtain ⟨rfl, g1, rfl⟩ := h3.fine; exact ⟨_, _, rfl, rfl, ⟨rfl, g1.1, g1.2, rfl⟩, h4⟩
theorem one_agree (e : Nat) (l : List Tok) : ∀ n, 0 < n → Agree l n (oneS e l n) (oneP e n)
 | 0, h => by omega
 | 1, _ => by
  constructor
  ·intro st hb
   refine ⟨(atomS e l st).1, ?_⟩; rw [oneS, ask_bad hb, ask_bad hb, ask_bad hb, if_neg (by simp), if_neg (by simp)]; exact congrArg some (Prod.ext rfl (atom_bad hb))
  ·intro st hf hm
   have hnil : l.drop st.k = [] := List.drop_eq_nil_of_le (by omega); rw [oneS, oneP, ask_sees hf.1, ask_sees hf.1, hnil]; simp only [seZ, Bool.false_and, Bool.false_eq_true, if_false]; have ha := atom_rel (e := e) hf; rw [hnil] at ha; refine ⟨_, _, rfl, rfl, ha, fun hz => ?_⟩
   cases hq : atomM e [] with
   | error q => rw [hq] at ha; exact absurd hz ha.bad
   | ok x => have := atomM_less hq; simp at this
 | n + 2, _ => by
  have ih := one_agree e l (n + 1) (by omega); have ihr : Agree l (n + 1) (rowS l (rowS l (oneS e l (n + 1)) wAnd 0 (n + 1)) wOr 1 (n + 1)) (ruleOf (oneP e (n + 1)) (n + 1)) := row_agree wOr 1 (n + 1) leZ (by omega) (row_agree wAnd 0 (n + 1) leZ (by omega) ih)
  constructor
  ·intro st hb
   refine ⟨(atomS e l st).1, ?_⟩; rw [oneS, ask_bad hb, ask_bad hb, ask_bad hb, if_neg (by simp), if_neg (by simp)]; exact congrArg some (Prod.ext rfl (atom_bad hb))
  ·intro st hf hm
   rw [oneS, oneP, ask_sees hf.1, ask_next hf.1, ask_sees hf.1]
   by_cases h1 : (seZ (wdz wNot) (l.drop st.k) && !seZ compB (l.drop st.k).tail) = true
   ·rw [if_pos h1, if_pos h1]
    rw [Bool.and_eq_true] at h1; obtain ⟨g2, d2, hlt⟩ := step_fine hf (by rw [ask_sees hf.1]; exact h1.1); have e2 : st.step.k = st.k + 1 := rfl; obtain ⟨⟨r, s'⟩, y, i1, i2, i3, i4⟩ := ih.2 st.step g2 (by omega); rw [← d2, i1, i2]
    cases y with
    | error q => exact ⟨_, _, rfl, rfl, i3.same rfl, fun hz => absurd hz i3.bad⟩
    | ok y =>
     obtain ⟨r', ts⟩ := y; obtain ⟨rfl, g3, rfl⟩ := i3.fine; exact ⟨_, _, rfl, rfl, ⟨rfl, g3.1, g3.2, rfl⟩, fun hz => by have := i4 hz; simp only at this ⊢; omega⟩
   ·rw [if_neg h1, if_neg h1]
    by_cases h2 : seZ (signB sOpen) (l.drop st.k) = true
    ·rw [if_pos h2, if_pos h2]
     obtain ⟨g2, d2, hlt⟩ := step_fine hf (by rw [ask_sees hf.1]; exact h2); have e2 : st.step.k = st.k + 1 := rfl; obtain ⟨⟨r, s'⟩, y, i1, i2, i3, i4⟩ := ihr.2 st.step g2 (by omega); rw [← d2, i1, i2]
     cases y with
     | error q =>
      have hb : s'.cd ≠ 0 := i3.bad; simp only; rw [tbz hb]; exact ⟨_, _, rfl, rfl, i3.same rfl, fun hz => absurd hz hb⟩
     | ok y =>
      obtain ⟨r', ts⟩ := y; obtain ⟨rfl, g3, rfl⟩ := i3.fine; simp only at g3 i4 ⊢; have ht := take_rel (e := e) (p := signB sShut) g3
      cases hq : takeM e (signB sShut) (l.drop s'.k) with
      | error q =>
       rw [hq] at ht; exact ⟨_, _, rfl, rfl, ht.same rfl, fun hz => absurd hz ht.bad⟩
      | ok x =>
       obtain ⟨x, ts⟩ := x; rw [hq] at ht; obtain ⟨_, g4, rfl⟩ := ht.fine; refine ⟨_, _, rfl, rfl, ⟨rfl, g4.1, g4.2, rfl⟩, fun hz => ?_⟩; have l1 := takeM_less hq; have l2 := i4 g3.1; simp only [List.length_drop] at l1 ⊢; have := g4.2; omega
    ·rw [if_neg h2, if_neg h2]
     have ha := atom_rel (e := e) hf; refine ⟨_, _, rfl, rfl, ha, fun hz => ?_⟩
     cases hq : atomM e (l.drop st.k) with
     | error q => rw [hq] at ha; exact absurd hz ha.bad
     | ok x =>
      obtain ⟨r, ts⟩ := x; have := atomM_less hq; rw [hq] at ha; obtain ⟨_, g, rfl⟩ := ha.fine; have h6 := g.2; simp only [List.length_drop] at this; omega
def ruleS (e : Nat) (l : List Tok) (n : Nat) : St → Option (Rul × St) := rowS l (rowS l (oneS e l n) wAnd 0 n) wOr 1 n
theorem rule_agree (e : Nat) (l : List Tok) (n : Nat) (hn : 0 < n) : Agree l n (ruleS e l n) (ruleP e n) :=
 row_agree wOr 1 n leZ hn (row_agree wAnd 0 n leZ hn (one_agree e l n hn))
def wholeS (e : Nat) (l : List Tok) (n : Nat) (st : St) : Option (Rul × St) := match ruleS e l n st with
 | none => none
 | some (r, s') => some (r, if s'.cd = 0 ∧ (16 < depthR r ∨ crowdR r = true) then failS s' (placeS e l st) 7 else s')
theorem whole_agree (e : Nat) (l : List Tok) (n : Nat) (hn : 0 < n) : Agree l n (wholeS e l n) (wholeP e n) := by
 have hr := rule_agree e l n hn
 constructor
 ·intro st hb
  obtain ⟨r, h⟩ := hr.1 st hb; exact ⟨r, by rw [wholeS, h]; simp only; rw [if_neg (fun hx => hb hx.1)]⟩
 ·intro st hf hm
  obtain ⟨⟨r, s'⟩, y, i1, i2, i3, i4⟩ := hr.2 st hf hm; rw [wholeS, wholeP, i1, i2]
  cases y with
  | error q =>
   simp only; rw [if_neg (fun hx => i3.bad hx.1)]; exact ⟨_, _, rfl, rfl, i3, fun hz => absurd hz i3.bad⟩
  | ok y =>
   obtain ⟨r', ts⟩ := y; obtain ⟨rfl, g, rfl⟩ := i3.fine; simp only at g i4 ⊢
   by_cases hx : 16 < depthR r ∨ crowdR r = true
   ·rw [if_pos ⟨g.1, hx⟩, if_pos hx, fail_fine g.1, ← place_m]
    exact ⟨_, _, rfl, rfl, ⟨rfl, rfl, by decide⟩, fun hz => absurd hz (show ¬ ((7 : Int) = 0) by decide)⟩
   ·rw [if_neg (fun h => hx h.2), if_neg hx]
    exact ⟨_, _, rfl, rfl, ⟨rfl, g.1, g.2, rfl⟩, i4⟩
open Go Go.RowKit Go.BigFrame Go.Maps
theorem RAz.get {w : World} {ok : Nat → Prop} : ∀ {A : Option Addr} {j : Nat} {L : List Tree} (_ : RAz w ok A j L) (k : Nat) (t : Tree), L[k]? = some t → CellsAt w ok A (j + k) t ∧ TAz w ok t
 | _, _, [], _, k, t, hk => by simp at hk
 | _, _, u :: L, h, 0, t, hk => by
  rw [RAz] at h; simp at hk; subst hk; exact ⟨h.1, h.2.1⟩
 | _, j, u :: L, h, k + 1, t, hk => by
  rw [RAz] at h; have := RAz.get h.2.2 k t (by simpa using hk); rw [show j + 1 + k = j + (k + 1) by omega] at this; exact this
theorem RAz.below {w w' : World} {ok : Nat → Prop} {A : Option Addr} {j : Nat} {L : List Tree} (h : RAz w ok A j L) (hb : Bz w w') : RAz w' ok A j L := h.same fun _ h1 _ => hb.cell h1
theorem RAz.mem {w : World} {ok : Nat → Prop} {A : Option Addr} {j : Nat} {L : List Tree} (h : RAz w ok A j L) {t : Tree} (ht : t ∈ L) : TAz w ok t := by
 obtain ⟨k, hk⟩ := List.mem_iff_getElem?.1 ht
 exact (h.get k t hk).2
mutual
theorem Tree.every {Q : Tree → Prop} (h : ∀ t, (∀ u ∈ t.sub, Q u) → Q t) : ∀ t : Tree, Q t
 | .mk _ _ _ _ _ _ _ L => h _ (Tree.everyL h L)
theorem Tree.everyL {Q : Tree → Prop} (h : ∀ t, (∀ u ∈ t.sub, Q u) → Q t) : ∀ L : List Tree, ∀ u ∈ L, Q u
 | [], u, hu => by simp at hu
 | t :: L, u, hu => by
  rcases List.mem_cons.1 hu with e | hu
  ·rw [e]; exact Tree.every h t
  ·exact Tree.everyL h L u hu
end
def AsksAt (w : World) (g : Nat) (lb : Array Value) (L : List Tree) (p : Tree → Bool) : Prop :=
 ∀ (W : World) (t : Tree), t ∈ L → Bz w W → Cz g (#[.agg t.cells] ++ lb) W fun e w' => e = .returned (.bool (p t)) ∧ Bz W w'
theorem AsksAt.later {w W : World} {g : Nat} {lb : Array Value} {L : List Tree} {p : Tree → Bool} (h : AsksAt w g lb L p) (hb : Bz w W) : AsksAt W g lb L p :=
 fun W' t ht hb' => h W' t ht (hb.trans (hb'.mono hb.size))
theorem any_no {L : List Tree} {k : Nat} {x : Tree} {p : Tree → Bool} {r : Bool} (h : r = (L.drop k).any p) (hx : L[k]? = some x) (hp : p x = false) : r = (L.drop (k + 1)).any p := by
 obtain ⟨hk, he⟩ := List.getElem?_eq_some_iff.1 hx
 rw [h, List.drop_eq_getElem_cons hk, he, List.any_cons, hp]; rfl
theorem any_yes {L : List Tree} {k : Nat} {x : Tree} {p : Tree → Bool} {r : Bool} (h : r = (L.drop k).any p) (hx : L[k]? = some x) (hp : p x = true) : r = true := by
 obtain ⟨hk, he⟩ := List.getElem?_eq_some_iff.1 hx
 rw [h, List.drop_eq_getElem_cons hk, he, List.any_cons, hp]; rfl
theorem any_end {L : List Tree} {k : Nat} {p : Tree → Bool} {r : Bool} (h : r = (L.drop k).any p) (hk : L.length ≤ k) : r = false := by
 rw [h, List.drop_eq_nil_of_le hk]; rfl
theorem index_any (A : Option Addr) (n c : Nat) (L : List Tree) (ok : Nat → Prop) (g : Nat) (lb : Array Value) (eg : ∀ (args : Array Value) (w : World), (callFunc g args).run Tryz.prog w = .ok (.enter g args) w) (p : Tree → Bool) (w : World) (hn : n ≤ maxLen) (hl : Hid (L.length = n)) (hA : Hid (RAz w ok A 0 L)) (hf : Hid (AsksAt w g lb L p)) :
  Cz 123 #[.slice A n c, .func (.func g) #[] lb] w fun e w' => ∃ i : Int, e = .returned (Iz i) ∧ decide (0 ≤ i) = L.any p ∧ Bz w w' := by
 unfold maxLen at hn
 go_enter Tryz.func123, Tryz.ntmps123
 go_wp2_with fail
 go_loopw [8] (fun i wr => ∃ k : Nat, k ≤ n ∧ i = Iz k ∧ Hid (L.any p = (L.drop k).any p) ∧ Bz w wr) (fun i _ => n - (intOf i).toNat)
 case atStart => exact ⟨0, Nat.zero_le _, rfl, rfl, Below.refl _ _⟩
 case round =>
  obtain ⟨k, hk, rfl, hsame, hB⟩ := hrel
  by_cases hlt : k < n
  ·obtain ⟨x, hx⟩ : ∃ x, L[k]? = some x := ⟨_, List.getElem?_eq_getElem (by have := hl.out; omega)⟩
   have hx' := hdZ hx; have hm := hdZ (List.mem_of_getElem? hx); clear hx; obtain ⟨hc, _⟩ := (hA.out.below hB).get k x hx'.out; obtain ⟨pv, hpv⟩ := nmZ (p x); have hcall := hdZ (hf.out wr x hm.out hB); rw [hpv.out] at hcall; obtain ⟨xk, xp, xf, xx, xn, xA, xc, xL⟩ := x; obtain ⟨b, off, rfl, _, h0, h1, h2, h3, h4, h5⟩ := hc; rw [Nat.zero_add] at h0 h1 h2 h3 h4 h5; unfold Tree.cells at hcall
   cases pv with
   | true =>
    have hr := hdZ (any_yes hsame.out hx'.out hpv.out)
    go_wp2_with (go_at_fn g; refine hcall.out.mono ?_; rintro e w1 ⟨rfl, hb1⟩)
    go_ret; exact ⟨_, rfl, by rw [hr.out]; simp, hB.trans (hb1.mono hB.size)⟩
   | false =>
    have hr := hdZ (any_no hsame.out hx'.out hpv.out)
    go_wp2_with (go_at_fn g; refine hcall.out.mono ?_; rintro e w1 ⟨rfl, hb1⟩)
    go_roundw
    case rel => exact ⟨k + 1, by omega, by go_num, hr, hB.trans (hb1.mono hB.size)⟩
    case measure => simp [intOf]; omega
  ·have hr := hdZ (any_end hsame.out (by have := hl.out; omega))
   go_wp2_with fail; go_ret; exact ⟨_, rfl, by rw [hr.out]; rfl, hB⟩
theorem contains_any (A : Option Addr) (n c : Nat) (L : List Tree) (ok : Nat → Prop) (g : Nat) (lb : Array Value) (eg : ∀ (args : Array Value) (w : World), (callFunc g args).run Tryz.prog w = .ok (.enter g args) w) (p : Tree → Bool) (w : World) (hn : n ≤ maxLen) (hl : Hid (L.length = n)) (hA : Hid (RAz w ok A 0 L)) (hf : Hid (AsksAt w g lb L p)) :
  Cz 73 #[.slice A n c, .func (.func g) #[] lb] w fun e w' => e = .returned (.bool (L.any p)) ∧ Bz w w' := by
 have hcall := hdZ (index_any A n c L ok g lb eg p w hn hl hA hf)
 obtain ⟨b, hb⟩ := nmZ (L.any p)
 rw [hb.out] at hcall ⊢
 go_enter Tryz.func73, Tryz.ntmps73
 go_wp2_with (go_at_call 123; refine hcall.out.mono ?_; rintro e w1 ⟨i, rfl, hi, hB1⟩)
 go_ret
 exact ⟨rfl, hB1⟩
theorem crowdL_any : ∀ L : List Tree, crowdL (sSz L) = L.any fun t => crowdR (stz t)
 | [] => by rw [sSz, crowdL]; rfl
 | t :: L => by rw [sSz, crowdL, crowdL_any L]; rfl
def CrowdC (t : Tree) : Prop := ∀ (w : World) (ok : Nat → Prop), Hid (TAz w ok t) → Cz 69 #[.agg t.cells] w fun e w' => e = .returned (.bool (crowdR (stz t))) ∧ Bz w w'
theorem crowd_walk (t : Tree) (ih : ∀ u ∈ t.sub, CrowdC u) : CrowdC t := by
 intro w ok hT
 have e69 := enters_of Tryz.func69 (by kernel_rfl) rfl
 obtain ⟨k, p, f, x, n, A, c, L⟩ := t
 have hT0 := hT.out
 rw [TAz] at hT0
 obtain ⟨hR, hlen⟩ := hT0
 have hR' := hdZ hR
 obtain ⟨m, hm⟩ := nmZ (L.length)
 rw [hm.out] at hlen
 have ih' := hdZ ih
 clear ih hT hR
 obtain ⟨b, hb⟩ := nmZ (L.any (fun t => crowdR (stz t)))
 have hres : Hid (crowdR (stz (.mk k p f x n A c L)) = (decide (64 < m) || b)) := by
  unfold Hid; rw [stz, crowdR, crowdL_any, hb.out, smz, List.length_map, hm.out]
 show Cz 69 #[.agg (z1z k p f x n A L.length c)] w _
 rw [hm.out]
 have hb0 : Hid (Bz w (w.alloc (.cells (z1z k p f x n A m c) 25))) := (Below.refl _ w).alloc leZ _
 by_cases h64 : 64 < m
 ·have b1 : decide ((64 : Int) < (m : Int)) = true := by simp; omega
  go_enter Tryz.func69, Tryz.ntmps69
  go_wp2_with fail; go_ret; exact ⟨by rw [hres.out, decide_eq_true h64]; rfl, hb0.out⟩
 ·have b1 : decide ((64 : Int) < (m : Int)) = false := by simp; omega
  have hcall := hdZ (contains_any A m c L ok 69 #[] e69 (fun t => crowdR (stz t)) _ hlen hm (hR'.out.below hb0.out) (fun W t ht hbl => ih'.out t ht W ok (((hR'.out.below hb0.out).mem ht).below hbl)))
  go_enter Tryz.func69, Tryz.ntmps69
  go_wp2_with (go_at_call 73; refine hcall.out.mono ?_; rintro e w1 ⟨rfl, hB1⟩)
  go_ret; exact ⟨by rw [hres.out, decide_eq_false h64, hb.out]; rfl, hb0.out.trans (hB1.mono hb0.out.size)⟩
theorem crowd_any : ∀ t : Tree, CrowdC t := Tree.every fun t ih => crowd_walk t ih
theorem depthL_le (d : Nat) : ∀ L : List Rul, depthL L ≤ d ↔ ∀ r ∈ L, depthR r + 1 ≤ d
 | [] => by simp [depthL]
 | r :: L => by
  rw [depthL]; have := depthL_le d L
  constructor
  ·intro h r' hr'
   rcases List.mem_cons.1 hr' with rfl | hr'
   ·omega
   ·exact this.1 (by omega) r' hr'
  ·intro h
   have h1 := h r (by simp); have h2 := this.2 fun r' hr' => h r' (by simp [hr'])
   omega
theorem depth_sub {k p : Int} {f x : Txt} {n : Int} {A : Option Addr} {c : Nat} {L : List Tree} (d : Nat) : decide (depthR (stz (.mk k p f x n A c L)) ≤ d) = (decide (L.length = 0) || (decide (0 < d) && !L.any fun t => !decide (depthR (stz t) ≤ d - 1))) := by
 rw [Bool.eq_iff_iff]
 simp only [decide_eq_true_eq, Bool.or_eq_true, Bool.and_eq_true, Bool.not_eq_true', List.any_eq_false]
 rw [stz, depthR, depthL_le, smz]
 simp only [List.mem_map, forall_exists_index, and_imp, forall_apply_eq_imp_iff₂]
 cases L with
 | nil => simp
 | cons u L =>
  constructor
  ·intro h
   have := h u (by simp); refine .inr ⟨by omega, fun t ht => ?_⟩; have := h t ht; simp; omega
  ·rintro (h | ⟨h0, h⟩) t ht
   ·simp at h
   ·have := h t ht
    simp at this; omega
def WithinC (t : Tree) : Prop := ∀ (d : Nat) (w : World) (ok : Nat → Prop), d ≤ 1000 → Hid (TAz w ok t) → Cz 68 #[.agg t.cells, Iz d] w fun e w' => e = .returned (.bool (decide (depthR (stz t) ≤ d))) ∧ Bz w w'
theorem within1_any (t : Tree) (ih : WithinC t) (d : Nat) (h0 : 0 < d) (hd : d ≤ 1000) (cb : Nat) (w : World) (ok : Nat → Prop) (hT : Hid (TAz w ok t)) (hc : w.cell? (Az cb 0) = some (Iz d)) :
  Cz 116 (#[.agg t.cells] ++ #[.pointer (some (Az cb 0))]) w fun e w' => e = .returned (.bool (!decide (depthR (stz t) ≤ d - 1))) ∧ Bz w w' := by
 have hw : IntKind.i64.wrap ((d : Int) - 1) = ((d - 1 : Nat) : Int) := by rw [IntWalk.i64_in _ (by omega)]; omega
 have hlt : cb < w.heap.size := World.block_lt_of_cell? w _ hc
 obtain ⟨k, p, f, x, n, A, c, L⟩ := t
 obtain ⟨b, hb⟩ := nmZ (decide (depthR (stz (.mk k p f x n A c L)) ≤ d - 1))
 have hbl : ∀ o, Bz w (w.alloc o) := fun o => (Below.refl _ w).alloc leZ o
 have hcall : Hid (∀ o, Cz 68 #[.agg (Tree.mk k p f x n A c L).cells, Iz ((d - 1 : Nat) : Int)] (w.alloc o) fun e w' => e = .returned (.bool b) ∧ Below (w.alloc o).heap.size (w.alloc o) w') := fun o => by
  rw [← hb.out]; exact ih (d - 1) (w.alloc o) ok (by omega) (hT.out.below (hbl o))
 rw [hb.out]
 have hbl' := hdZ hbl
 clear ih hT hbl
 unfold Tree.cells at hcall ⊢
 show Cz 116 #[.agg (z1z k p f x n A L.length c), .pointer (some (Az cb 0))] w _
 go_enter Tryz.func116, Tryz.ntmps116
 go_wp2_with (go_at_call 68; refine (hcall.out _).mono ?_; rintro e w1 ⟨rfl, hB1⟩)
 go_ret
 exact ⟨rfl, (hbl'.out _).trans (hB1.mono (hbl'.out _).size)⟩
theorem within_walk (t : Tree) (ih : ∀ u ∈ t.sub, WithinC u) : WithinC t := by
 intro d w ok hd hT
 have e116 := enters_of Tryz.func116 (by kernel_rfl) rfl
 obtain ⟨k, p, f, x, n, A, c, L⟩ := t
 have hT0 := hT.out
 rw [TAz] at hT0
 obtain ⟨hR, hlen⟩ := hT0
 have hR' := hdZ hR
 have hres := hdZ (depth_sub (k := k) (p := p) (f := f) (x := x) (n := n) (A := A) (c := c) (L := L) d)
 obtain ⟨m, hm⟩ := nmZ (L.length)
 rw [hm.out] at hlen hres
 have ih' := hdZ ih
 clear ih hT hR
 obtain ⟨b, hb⟩ := nmZ (L.any (fun t => !decide (depthR (stz t) ≤ d - 1)))
 rw [hb.out] at hres
 rw [hres.out]
 show Cz 68 #[.agg (z1z k p f x n A L.length c), Iz d] w _
 rw [hm.out]
 have hB0 : Hid (∀ o o', Bz w ((w.alloc o).alloc o')) := fun o o' => ((Below.refl _ w).alloc leZ o).alloc (by simp) o'
 by_cases hm0 : m = 0
 ·subst hm0
  go_enter Tryz.func68, Tryz.ntmps68
  go_wp2_with fail; go_ret; exact ⟨rfl, hB0.out _ _⟩
 ·have b0 : ((m : Int) == 0) = false := by simp; omega
  by_cases hd0 : d = 0
  ·subst hd0
   go_enter Tryz.func68, Tryz.ntmps68
   go_wp2_with fail; go_ret; exact ⟨by simp [hm0], hB0.out _ _⟩
  ·have b1 : decide ((0 : Int) < (d : Int)) = true := by simp; omega
   have hcall : Hid (Cz 73 #[.slice A m c, .func (.func 116) #[] #[.pointer (some ⟨w.heap.size + 1, 0, none⟩)]] ((w.alloc (.cells (z1z k p f x n A m c) 25)).alloc (.cells #[Iz d] 3)) fun e w' => e = .returned (.bool b) ∧ Below ((w.alloc (.cells (z1z k p f x n A m c) 25)).alloc (.cells #[Iz d] 3)).heap.size ((w.alloc (.cells (z1z k p f x n A m c) 25)).alloc (.cells #[Iz d] 3)) w') := by
    rw [← hb.out]; have hR2 := hR'.out.below (hB0.out (.cells (z1z k p f x n A m c) 25) (.cells #[Iz d] 3)); refine contains_any A m c L ok 116 _ e116 (fun t => !decide (depthR (stz t) ≤ d - 1)) _ hlen hm hR2 (fun W t ht hbl => ?_); have hc1 := (blk_second w (.cells (z1z k p f x n A m c) 25) 3 #[Iz d]); exact within1_any t (ih'.out t ht) d (by omega) hd _ W ok ((hR2.mem ht).below hbl) (by rw [hbl.cell hc1.lt, hc1.cell]; rfl)
   go_enter Tryz.func68, Tryz.ntmps68
   go_wp2_with (go_at_call 73; refine hcall.out.mono ?_; rintro e w1 ⟨rfl, hB1⟩)
   go_ret; exact ⟨by simp [hm0]; omega, (hB0.out _ _).trans (hB1.mono (hB0.out _ _).size)⟩
theorem within_any : ∀ t : Tree, WithinC t := Tree.every fun t ih => within_walk t ih
theorem whole_some {e : Nat} {l : List Tok} {n : Nat} {st : St} {r : Rul × St} (h : wholeS e l n st = some r) : ∃ r0 s1, ruleS e l n st = some (r0, s1) ∧ r = (r0, if s1.cd = 0 ∧ (16 < depthR r0 ∨ crowdR r0 = true) then failS s1 (placeS e l st) 7 else s1) := by
 unfold wholeS at h
 cases hr : ruleS e l n st with
 | none => rw [hr] at h; simp at h
 | some x =>
  obtain ⟨r0, s1⟩ := x; rw [hr] at h; simp only [Option.some.injEq] at h; exact ⟨r0, s1, rfl, h.symm⟩
theorem whole_any (pb : Nat) (A : Option Addr) (c e : Nat) (l : List Tok) (h8 : Hid (8 ≤ pb)) (hok : Hid (TokOk l)) (n : Nat) (hn : n ≤ 100000) : Reads' pb A c e l 31 (wholeS e l n) := by
 intro w st r hr hp he
 have hrule : Hid (Reads' pb A c e l 67 (ruleS e l n)) := rule_any pb A c e l _ h8 (all_any pb A c e l _ h8 (one_any pb A c e l h8 hok n hn) n hn) n hn
 obtain ⟨r0, s1, h1, rfl⟩ := whole_some hr
 have hlt0 := hp.out.row.lt
 have hneR : Hid (w.heap.size ≠ pb) := by unfold Hid; omega
 have hR0 : Hid (Blk (w.alloc (.cells zeroN 25)) w.heap.size 25 zeroN) := Blk.new w 25 zeroN
 have hB0 : Hid (But pb w (w.alloc (.cells zeroN 25))) := (But.refl pb w).below ((Below.refl _ w).alloc leZ _)
 have hp0 : Hid (ParAt (w.alloc (.cells zeroN 25)) pb A c e l st) := hp.out.below ((Below.refl _ w).alloc leZ _)
 have hsz0 : Hid (w.heap.size + 1 ≤ (w.alloc (.cells zeroN 25)).heap.size) := by unfold Hid; simp
 obtain ⟨at_, hat⟩ := nmZ (placeS e l st)
 rw [hat.out]
 obtain ⟨s9, hs9⟩ := nmZ ((if s1.cd = 0 ∧ (16 < depthR r0 ∨ crowdR r0 = true) then failS s1 at_ 7 else s1))
 rw [hs9.out]
 clear hr hlt0
 go_enter Tryz.func31, Tryz.ntmps31
 go_wp2_with fail
 change Cz 33 _ (w.alloc (.cells zeroN 25)) _
 obtain ⟨wa, hwa⟩ := nmZ (w.alloc (.cells zeroN 25))
 rw [hwa.out] at hR0 hB0 hp0 hsz0 ⊢
 clear hwa
 refine (place_any wa pb A c e l st hp0).mono ?_
 rintro x w1 ⟨rfl, hb1⟩
 rw [hat.out]
 have hp1 := hdZ (hp0.out.below hb1)
 have hB1 := hdZ (hB0.out.below hb1)
 have hR1 := hdZ (hR0.out.below hb1 hR0.out.lt)
 have hsz1 : Hid (w.heap.size + 1 ≤ w1.heap.size) := Nat.le_trans hsz0.out hb1.size
 clear hb1 hR0 hB0 hp0 hsz0
 go_wp2_with fail
 refine (hrule.out w1 st (r0, s1) h1 hp1 (he.out.but hB1.out h8.out)).mono ?_
 rintro x w2 ⟨hu2, hq2, ⟨uk, up, uf, ux, un, uA, uc, uL⟩, rfl, ht2, hs2⟩
 have hsz2 : Hid (w.heap.size + 1 ≤ w2.heap.size) := Nat.le_trans hsz1.out hu2.size
 have hs2' := hdZ hs2
 have hbl : ∀ o, Bz w2 (w2.alloc o) := fun o => (Below.refl _ w2).alloc leZ o
 have hN : Hid (Blk (w2.alloc (.cells (z1z uk up uf ux un uA uL.length uc) 25)) w2.heap.size 25 (z1z uk up uf ux un uA uL.length uc)) := Blk.new w2 25 _
 have hR := hdZ ((hu2.blk hR1.out hneR.out).alloc (.cells (z1z uk up uf ux un uA uL.length uc) 25))
 have hB := hdZ ((hB1.out.trans hu2).below (hbl (.cells (z1z uk up uf ux un uA uL.length uc) 25)))
 have hq := hdZ (hq2.below (hbl (.cells (z1z uk up uf ux un uA uL.length uc) 25)))
 have ht : Hid (TAz (w2.alloc (.cells (z1z uk up uf ux un uA uL.length uc) 25)) (fun b => w.heap.size + 1 ≤ b) (.mk uk up uf ux un uA uc uL)) := (ht2.mono (fun b _ hb => Nat.le_trans hsz1.out hb)).below (hbl _)
 have hR2w := hdZ (hu2.blk hR1.out hneR.out)
 have hB2w := hdZ (hB1.out.trans hu2)
 have hq2w := hdZ hq2
 have ht2w : Hid (TAz w2 (fun b => w.heap.size + 1 ≤ b) (.mk uk up uf ux un uA uc uL)) := ht2.mono (fun b _ hb => Nat.le_trans hsz1.out hb)
 have hneN : Hid (w2.heap.size ≠ pb) := by have := hq2.row.lt; unfold Hid; omega
 have hneNR : Hid (w2.heap.size ≠ w.heap.size) := by have := hsz2.out; unfold Hid; omega
 have hneRN : Hid (w.heap.size ≠ w2.heap.size) := by have := hsz2.out; unfold Hid; omega
 have ne1 := hneNR.out
 have ne2 := hneRN.out
 have d4 : w2.cell? (Az pb 4) = some (Iz s1.cd) := hq2.row.cell 4
 have dlt := hq2.row.lt
 clear hu2 hq2 ht2 hs2 hbl hR1 hB1 hp1 hsz1 h1
 unfold Tree.cells
 obtain ⟨cd, hcd⟩ := nmZ (s1.cd)
 rw [hcd.out] at d4
 by_cases hz : cd = 0
 ·have b1 : (cd == 0) = true := by simp [hz]
  have hz' : Hid (s1.cd = 0) := by unfold Hid; rw [hcd.out, hz]
  clear hz; go_wp2_with fail; obtain ⟨wb, hwb⟩ := nmZ (w2.alloc (.cells (z1z uk up uf ux un uA uL.length uc) 25)); have hszb : Hid (w.heap.size + 1 ≤ wb.heap.size) := by rw [← hwb.out]; exact Nat.le_trans hsz2.out (by simp)
  rw [hwb.out] at hN hR hB hq ht ⊢; clear hwb d4 dlt
  have hwi : Hid (Cz 68 #[.agg (z1z uk up uf ux un uA uL.length uc), Iz 16] wb fun e w' => e = .returned (.bool (decide (depthR r0 ≤ 16))) ∧ Bz wb w') := by
   have := within_any (.mk uk up uf ux un uA uc uL) 16 wb _ (by omega) ht; rw [hs2'.out] at this; exact this
  refine hwi.out.mono ?_; rintro x w3 ⟨rfl, hb3⟩; clear hwi; have hszb : Hid (w.heap.size + 1 ≤ w3.heap.size) := Nat.le_trans hszb.out hb3.size; have hN := hdZ (hN.out.below hb3 hN.out.lt); have hR := hdZ (hR.out.below hb3 hR.out.lt); have hB := hdZ (hB.out.below hb3); have hq := hdZ (hq.out.below hb3); have ht := hdZ (ht.out.below hb3); clear hb3
  by_cases hdp : depthR r0 ≤ 16
  ·rw [decide_eq_true hdp]
   obtain ⟨nc0, nc1, nc2, nc3, nc4, nc5⟩ := cs6 hN.out; have nlt := hN.out.lt; go_wp2_with fail
   have hcr : Hid (Cz 69 #[.agg (z1z uk up uf ux un uA uL.length uc)] w3 fun e w' => e = .returned (.bool (crowdR r0)) ∧ Bz w3 w') := by
    have := crowd_any (.mk uk up uf ux un uA uc uL) w3 _ ht; rw [hs2'.out] at this; exact this
   clear nc0 nc1 nc2 nc3 nc4 nc5 nlt; refine hcr.out.mono ?_; rintro x w4 ⟨rfl, hb4⟩; clear hcr; have hszb : Hid (w.heap.size + 1 ≤ w4.heap.size) := Nat.le_trans hszb.out hb4.size; have hN := hdZ (hN.out.below hb4 hN.out.lt); have hR := hdZ (hR.out.below hb4 hR.out.lt); have hB := hdZ (hB.out.below hb4); have hq := hdZ (hq.out.below hb4); have ht := hdZ (ht.out.below hb4); clear hb4
   cases hcw : crowdR r0 with
   | false =>
    have hst : Hid (s9 = s1) := by unfold Hid; rw [← hs9.out, if_neg (by rw [hcw]; simp; omega)]
    clear hcw hdp hs9; have hq : Hid (ParAt w4 pb A c e l s9) := by rw [hst.out]; exact hq
    clear hst; obtain ⟨nc0, nc1, nc2, nc3, nc4, nc5⟩ := cs6 hN.out; obtain ⟨rc0, rc1, rc2, rc3, rc4, rc5, rf0, rf1, rf2, rf3, rf4, rf5⟩ := cf6 hR.out; have rlt := hR.out.lt; have nlt := hN.out.lt; go_wp2_with fail; refine bodyPost_ret (rrz rfl _ _ w.heap.size 25 _ _ rfl ((((((hR.out.set_ 0 _).set_ 1 _).set_ 2 _).set_ 3 _).set_ 4 _).set_ 5 _) Tryz.underlying25 rfl (by kernel_rfl)) rfl ?_; have hh : ∀ b, (w.heap.size + 1 ≤ b) → b ≠ w.heap.size := fun b hb => by omega
    unfold Ruled; refine ⟨((((((hB.out.far leZ _ _).far leZ _ _).far leZ _ _).far leZ _ _).far leZ _ _).far leZ _ _), ⟨((((((hq.out.row.far (p := (Az w.heap.size 0)) hneR.out.symm _).far (p := (Az w.heap.size 1)) hneR.out.symm _).far (p := (Az w.heap.size 2)) hneR.out.symm _).far (p := (Az w.heap.size 3)) hneR.out.symm _).far (p := (Az w.heap.size 4)) hneR.out.symm _).far (p := (Az w.heap.size 5)) hneR.out.symm _), hp.out.tok.but ((((((hB.out.far leZ _ _).far leZ _ _).far leZ _ _).far leZ _ _).far leZ _ _).far leZ _ _), hq.out.len, hq.out.pos⟩, .mk uk up uf ux un uA uc uL, rfl, ?_, hs2'.out⟩; exact (((((((ht.out.far hh _ _).far hh _ _).far hh _ _).far hh _ _).far hh _ _).far hh _ _)).mono (fun b _ hk => by omega)
   | true =>
    have hst : Hid (s9 = failS s1 at_ 7) := by unfold Hid; rw [← hs9.out, if_pos ⟨hz'.out, .inr hcw⟩]
    clear hcw hdp hs9; go_wp2_with fail; refine (fail_any w4 pb A c e l s1 at_ 7 hq).mono ?_; rintro x w5 ⟨rfl, hu5, hq5⟩; have hN := hdZ (hu5.blk hN.out hneN.out); have hR := hdZ (hu5.blk hR.out hneR.out); have hB := hdZ (hB.out.trans hu5); have hq := hdZ hq5; have ht := hdZ (ht.out.but hu5 (fun b hb => by have := hp.out.row.lt; omega)); clear hu5 hq5; have hq : Hid (ParAt w5 pb A c e l s9) := by rw [hst.out]; exact hq
    clear hst; obtain ⟨nc0, nc1, nc2, nc3, nc4, nc5⟩ := cs6 hN.out; obtain ⟨rc0, rc1, rc2, rc3, rc4, rc5, rf0, rf1, rf2, rf3, rf4, rf5⟩ := cf6 hR.out; have rlt := hR.out.lt; have nlt := hN.out.lt; go_wp2_with fail; refine bodyPost_ret (rrz rfl _ _ w.heap.size 25 _ _ rfl ((((((hR.out.set_ 0 _).set_ 1 _).set_ 2 _).set_ 3 _).set_ 4 _).set_ 5 _) Tryz.underlying25 rfl (by kernel_rfl)) rfl ?_; have hh : ∀ b, (w.heap.size + 1 ≤ b) → b ≠ w.heap.size := fun b hb => by omega
    unfold Ruled; refine ⟨((((((hB.out.far leZ _ _).far leZ _ _).far leZ _ _).far leZ _ _).far leZ _ _).far leZ _ _), ⟨((((((hq.out.row.far (p := (Az w.heap.size 0)) hneR.out.symm _).far (p := (Az w.heap.size 1)) hneR.out.symm _).far (p := (Az w.heap.size 2)) hneR.out.symm _).far (p := (Az w.heap.size 3)) hneR.out.symm _).far (p := (Az w.heap.size 4)) hneR.out.symm _).far (p := (Az w.heap.size 5)) hneR.out.symm _), hp.out.tok.but ((((((hB.out.far leZ _ _).far leZ _ _).far leZ _ _).far leZ _ _).far leZ _ _).far leZ _ _), hq.out.len, hq.out.pos⟩, .mk uk up uf ux un uA uc uL, rfl, ?_, hs2'.out⟩; exact (((((((ht.out.far hh _ _).far hh _ _).far hh _ _).far hh _ _).far hh _ _).far hh _ _)).mono (fun b _ hk => by omega)
  ·rw [decide_eq_false hdp]
   have hst : Hid (s9 = failS s1 at_ 7) := by unfold Hid; rw [← hs9.out, if_pos ⟨hz'.out, .inl (by omega)⟩]
   clear hdp hs9; go_wp2_with fail; refine (fail_any w3 pb A c e l s1 at_ 7 hq).mono ?_; rintro x w5 ⟨rfl, hu5, hq5⟩; have hN := hdZ (hu5.blk hN.out hneN.out); have hR := hdZ (hu5.blk hR.out hneR.out); have hB := hdZ (hB.out.trans hu5); have hq := hdZ hq5; have ht := hdZ (ht.out.but hu5 (fun b hb => by have := hp.out.row.lt; omega)); clear hu5 hq5; have hq : Hid (ParAt w5 pb A c e l s9) := by rw [hst.out]; exact hq
   clear hst; obtain ⟨nc0, nc1, nc2, nc3, nc4, nc5⟩ := cs6 hN.out; obtain ⟨rc0, rc1, rc2, rc3, rc4, rc5, rf0, rf1, rf2, rf3, rf4, rf5⟩ := cf6 hR.out; have rlt := hR.out.lt; have nlt := hN.out.lt; go_wp2_with fail; refine bodyPost_ret (rrz rfl _ _ w.heap.size 25 _ _ rfl ((((((hR.out.set_ 0 _).set_ 1 _).set_ 2 _).set_ 3 _).set_ 4 _).set_ 5 _) Tryz.underlying25 rfl (by kernel_rfl)) rfl ?_; have hh : ∀ b, (w.heap.size + 1 ≤ b) → b ≠ w.heap.size := fun b hb => by omega
   unfold Ruled; refine ⟨((((((hB.out.far leZ _ _).far leZ _ _).far leZ _ _).far leZ _ _).far leZ _ _).far leZ _ _), ⟨((((((hq.out.row.far (p := (Az w.heap.size 0)) hneR.out.symm _).far (p := (Az w.heap.size 1)) hneR.out.symm _).far (p := (Az w.heap.size 2)) hneR.out.symm _).far (p := (Az w.heap.size 3)) hneR.out.symm _).far (p := (Az w.heap.size 4)) hneR.out.symm _).far (p := (Az w.heap.size 5)) hneR.out.symm _), hp.out.tok.but ((((((hB.out.far leZ _ _).far leZ _ _).far leZ _ _).far leZ _ _).far leZ _ _).far leZ _ _), hq.out.len, hq.out.pos⟩, .mk uk up uf ux un uA uc uL, rfl, ?_, hs2'.out⟩; exact (((((((ht.out.far hh _ _).far hh _ _).far hh _ _).far hh _ _).far hh _ _).far hh _ _)).mono (fun b _ hk => by omega)
 ·have b1 : (cd == 0) = false := by simp [hz]
  have hst : Hid (s9 = s1) := by unfold Hid; rw [← hs9.out, if_neg (fun h => hz (hcd.out ▸ h.1))]
  clear hz hs9; have hR := hR2w; have hB := hB2w; have hq : Hid (ParAt w2 pb A c e l s9) := by rw [hst.out]; exact hq2w
  clear hst; have ht := ht2w; obtain ⟨rc0, rc1, rc2, rc3, rc4, rc5, rf0, rf1, rf2, rf3, rf4, rf5⟩ := cf6 hR.out; have rlt := hR.out.lt; go_wp2_with fail; refine bodyPost_ret (rrz rfl _ _ w.heap.size 25 _ _ rfl (((((((hR.out.set_ 0 _).set_ 1 _).set_ 2 _).set_ 3 _).set_ 4 _).set_ 5 _).alloc _) Tryz.underlying25 rfl (by kernel_rfl)) rfl ?_; have hh : ∀ b, (w.heap.size + 1 ≤ b) → b ≠ w.heap.size := fun b hb => by omega
  unfold Ruled; refine ⟨((((((hB.out.far leZ _ _).far leZ _ _).far leZ _ _).far leZ _ _).far leZ _ _).far leZ _ _).below ((Below.refl _ _).alloc leZ _), ⟨((((((hq.out.row.far (p := (Az w.heap.size 0)) hneR.out.symm _).far (p := (Az w.heap.size 1)) hneR.out.symm _).far (p := (Az w.heap.size 2)) hneR.out.symm _).far (p := (Az w.heap.size 3)) hneR.out.symm _).far (p := (Az w.heap.size 4)) hneR.out.symm _).far (p := (Az w.heap.size 5)) hneR.out.symm _).alloc _, hp.out.tok.but (((((((hB.out.far leZ _ _).far leZ _ _).far leZ _ _).far leZ _ _).far leZ _ _).far leZ _ _).below ((Below.refl _ _).alloc leZ _)), hq.out.len, hq.out.pos⟩, .mk uk up uf ux un uA uc uL, rfl, ?_, hs2'.out⟩; exact (((((((ht.out.far hh _ _).far hh _ _).far hh _ _).far hh _ _).far hh _ _).far hh _ _).below ((Below.refl _ _).alloc leZ _)).mono (fun b _ hk => by omega)
end Go.Proofs.YtjkmhlfjheiekaaGreatDoor

/- What parse reads may be, and is printed to at most twice as many bytes. Plain. -/
import Derived.Test.YtjkmhlfjheiekaaGreatDoorQd
namespace Go.Proofs.YtjkmhlfjheiekaaGreatDoor
open Go Go.RowKit

/-- How many bytes are left. -/
def lf (l : List Tok) (st : St) : Nat := wtL (l.drop st.k)
theorem take_c {e : Nat} {l : List Tok} {p : Tok → Bool} {st s : St} {x : Txt} (h : takeS e l p st = (x, s)) (hz : s.cd = 0) (hg : GoodL l) : st.cd = 0 ∧ ∃ t, GoodT t ∧ p t = true ∧ x = t.text ∧ wT t + lf l s = lf l st := by
  have hz' : (takeS e l p st).2.cd = 0 := by rw [h]; exact hz
  have h0 := (take_more hz').1
  obtain ⟨t, h1, h2, h3⟩ := take_ok hz'
  rw [h3] at h
  simp only [Prod.mk.injEq] at h
  obtain ⟨rfl, rfl⟩ := h
  refine ⟨h0, t, hg t (List.mem_of_getElem? h1), h2, rfl, ?_⟩
  unfold lf
  rw [drop_cons h1]; rfl
theorem word_c {e : Nat} {l : List Tok} {w x : Txt} {st s : St} (h : takeS e l (wordB w) st = (x, s)) (hz : s.cd = 0) (hg : GoodL l) : st.cd = 0 ∧ w.length + lf l s ≤ lf l st := by
  obtain ⟨h0, t, _, hp, _, hw⟩ := take_c h hz hg
  have ht : t.text = w := by simp [wordB] at hp; exact hp.2
  have := wt_text t
  rw [ht] at this
  exact ⟨h0, by omega⟩
theorem end_c {e : Nat} {l : List Tok} {st s : St} (h : endS e l st = s) (hz : s.cd = 0) (hg : GoodL l) : st.cd = 0 ∧ 1 + lf l s ≤ lf l st := by
  obtain ⟨h0, t, _, hp, _, hw⟩ := take_c (e := e) (p := signB sSemi) (s := s) (x := (takeS e l (signB sSemi) st).1) (by rw [← h]; rfl) hz hg
  have ht : t.text = sSemi := by simp [signB] at hp; exact hp.2
  have := wt_text t
  rw [ht] at this
  have h1 : sSemi.length = 1 := rfl
  exact ⟨h0, by omega⟩
theorem named_c {e : Nat} {l : List Tok} {x : Txt} {st s : St} (h : takeS e l namedB st = (x, s)) (hz : s.cd = 0) (hg : GoodL l) : st.cd = 0 ∧ nameM x = true ∧ 1 ≤ x.length ∧ x.length + lf l s ≤ lf l st := by
  obtain ⟨h0, t, ht, hp, rfl, hw⟩ := take_c h hz hg
  have hn := named_good ht hp
  have := wt_text t
  have h1 : 1 ≤ t.text.length := by
    have h := hn
    unfold nameM at h
    simp only [Bool.and_eq_true, decide_eq_true_eq] at h
    exact h.1.1.1
  exact ⟨h0, hn, h1, by omega⟩
theorem num_c {e : Nat} {l : List Tok} {lo hi n : Int} {st s : St} (h : numS e l lo hi st = (n, s)) (hz : s.cd = 0) (hg : GoodL l) : st.cd = 0 ∧ lo ≤ n ∧ n ≤ hi ∧ (decN 20 n.toNat).length + lf l s ≤ lf l st := by
  unfold numS at h
  obtain ⟨x, s1, h1⟩ : ∃ x s, takeS e l (kindB 2) st = (x, s) := ⟨_, _, rfl⟩
  rw [h1] at h
  simp only at h
  by_cases hz1 : s1.cd = 0
  · rw [if_pos hz1] at h
    simp only [Prod.mk.injEq] at h
    obtain ⟨rfl, h⟩ := h
    split at h
    · rw [fail_fine hz1] at h
      rw [← h] at hz
      exact absurd hz (show ¬ ((3 : Int) = 0) by decide)
    · rename_i hr
      subst h
      obtain ⟨h0, t, ht, hp, rfl, hw⟩ := take_c h1 hz1 hg
      have := (good_num ht (by simpa [kindB] using hp)).1
      refine ⟨h0, by omega, by omega, ?_⟩
      rw [Int.toNat_natCast]; omega
  · rw [if_neg hz1] at h
    simp only [Prod.mk.injEq] at h
    rw [← h.2] at hz
    exact absurd hz hz1
theorem line_c {e : Nat} {l : List Tok} {w x : Txt} {st s : St} (h : lineS e l w st = (x, s)) (hz : s.cd = 0) (hg : GoodL l) : st.cd = 0 ∧ nameM x = true ∧ 1 ≤ x.length ∧ w.length + x.length + 1 + lf l s ≤ lf l st := by
  obtain ⟨a1, s1, h1⟩ : ∃ x s, takeS e l (wordB w) st = (x, s) := ⟨_, _, rfl⟩
  obtain ⟨a2, s2, h2⟩ : ∃ x s, takeS e l namedB s1 = (x, s) := ⟨_, _, rfl⟩
  unfold lineS at h
  rw [h1] at h; simp only at h; rw [h2] at h
  simp only [Prod.mk.injEq] at h
  obtain ⟨rfl, h⟩ := h
  obtain ⟨z2, c3⟩ := end_c h hz hg
  obtain ⟨z1, n1, p1, c2⟩ := named_c h2 z2 hg
  obtain ⟨z0, c1⟩ := word_c h1 z1 hg
  exact ⟨z0, n1, p1, by omega⟩
theorem day_c {e : Nat} {l : List Tok} {w : Txt} {n : Int} {st s : St} (h : dayS e l w st = (n, s)) (hz : s.cd = 0) (hg : GoodL l) : st.cd = 0 ∧ (0 ≤ n ∧ n ≤ 1048576) ∧ w.length + (decN 20 n.toNat).length + 1 + lf l s ≤ lf l st := by
  obtain ⟨a1, s1, h1⟩ : ∃ x s, takeS e l (wordB w) st = (x, s) := ⟨_, _, rfl⟩
  obtain ⟨a2, s2, h2⟩ : ∃ x s, numS e l 0 1048576 s1 = (x, s) := ⟨_, _, rfl⟩
  unfold dayS at h
  rw [h1] at h; simp only at h; rw [h2] at h
  simp only [Prod.mk.injEq] at h
  obtain ⟨rfl, h⟩ := h
  obtain ⟨z2, c3⟩ := end_c h hz hg
  obtain ⟨z1, n1, n2, c2⟩ := num_c h2 z2 hg
  obtain ⟨z0, c1⟩ := word_c h1 z1 hg
  exact ⟨z0, ⟨n1, n2⟩, by omega⟩
theorem choice_c {e : Nat} {l : List Tok} {w : Txt} {b : Bool} {st s : St} (h : choiceS e l w st = (b, s)) (hz : s.cd = 0) (hg : GoodL l) : st.cd = 0 ∧ w.length + (yesT b).length + 1 + lf l s ≤ lf l st := by
  obtain ⟨a1, s1, h1⟩ : ∃ x s, takeS e l (wordB w) st = (x, s) := ⟨_, _, rfl⟩
  obtain ⟨a2, s2, h2⟩ : ∃ x s, takeS e l yesB s1 = (x, s) := ⟨_, _, rfl⟩
  unfold choiceS at h
  rw [h1] at h; simp only at h; rw [h2] at h
  simp only [Prod.mk.injEq] at h
  obtain ⟨rfl, h⟩ := h
  obtain ⟨z2, c3⟩ := end_c h hz hg
  obtain ⟨z1, t, ht, hp, rfl, hw⟩ := take_c h2 z2 hg
  obtain ⟨z0, c1⟩ := word_c h1 z1 hg
  have hl := wt_text t
  have hy : t.text = yesT (t.text == wYes) := by
    unfold yesB at hp
    simp at hp
    rcases hp.2 with h | h <;> rw [h] <;> rfl
  rw [hy] at hl
  exact ⟨z0, by omega⟩
theorem tenor_c {e : Nat} {l : List Tok} {n : Int} {st s : St} (h : tenorS e l st = (n, s)) (hz : s.cd = 0) (hg : GoodL l) : st.cd = 0 ∧ (0 ≤ n ∧ n ≤ 1048576) ∧ 5 + (if n = 0 then 5 else (decN 20 n.toNat).length + 4) + 1 + lf l s ≤ lf l st := by
  obtain ⟨a1, s1, h1⟩ : ∃ x s, takeS e l (wordB wTenor) st = (x, s) := ⟨_, _, rfl⟩
  unfold tenorS at h
  rw [h1] at h; simp only at h
  unfold tenS at h
  have k5 : wTenor.length = 5 := rfl
  have k4 : wDays.length = 4 := rfl
  have k6 : wSight.length = 5 := rfl
  by_cases ha : askS l s1 0 (wordB wSight) = true
  · rw [if_pos ha] at h
    simp only [Prod.mk.injEq] at h
    obtain ⟨rfl, h⟩ := h
    obtain ⟨z2, c3⟩ := end_c h hz hg
    obtain ⟨hcd, t, hlk, hp, _⟩ := ask_step ha
    obtain ⟨z0, c1⟩ := word_c h1 hcd hg
    have ht : t.text = wSight := by simp [wordB] at hp; exact hp.2
    have hl := wt_text t
    rw [ht] at hl
    have hs : wT t + lf l s1.step = lf l s1 := by unfold lf St.step; simp only; rw [drop_cons hlk]; rfl
    refine ⟨z0, by decide, ?_⟩
    rw [if_pos rfl]; omega
  · rw [if_neg ha] at h
    obtain ⟨a2, s2, h2⟩ : ∃ x s, numS e l 1 1048576 s1 = (x, s) := ⟨_, _, rfl⟩
    obtain ⟨a3, s3, h3⟩ : ∃ x s, takeS e l (wordB wDays) s2 = (x, s) := ⟨_, _, rfl⟩
    rw [h2] at h; simp only at h; rw [h3] at h
    simp only [Prod.mk.injEq] at h
    obtain ⟨rfl, h⟩ := h
    obtain ⟨z3, c4⟩ := end_c h hz hg
    obtain ⟨z2, c3⟩ := word_c h3 z3 hg
    obtain ⟨z1, n1, n2, c2⟩ := num_c h2 z2 hg
    obtain ⟨z0, c1⟩ := word_c h1 z1 hg
    refine ⟨z0, by omega, ?_⟩
    rw [if_neg (by omega)]; omega
theorem sum_c {e : Nat} {l : List Tok} {m : SumS} {st s : St} (h : sumS e l st = (m, s)) (hz : s.cd = 0) (hg : GoodL l) : st.cd = 0 ∧ codeM m.cur = true ∧ (1 ≤ m.amount ∧ m.amount ≤ 1099511627776) ∧ (0 ≤ m.above ∧ m.above ≤ 1000) ∧ (0 ≤ m.below ∧ m.below ≤ 1000) ∧
    14 + m.cur.length + (decN 20 m.amount.toNat).length + (decN 20 m.above.toNat).length + (decN 20 m.below.toNat).length + lf l s ≤ lf l st := by
  obtain ⟨a1, s1, h1⟩ : ∃ x s, takeS e l (wordB wSum) st = (x, s) := ⟨_, _, rfl⟩
  obtain ⟨a2, s2, h2⟩ : ∃ x s, takeS e l (kindB 4) s1 = (x, s) := ⟨_, _, rfl⟩
  obtain ⟨a3, s3, h3⟩ : ∃ x s, numS e l 1 1099511627776 s2 = (x, s) := ⟨_, _, rfl⟩
  obtain ⟨a4, s4, h4⟩ : ∃ x s, takeS e l (wordB wAbove) s3 = (x, s) := ⟨_, _, rfl⟩
  obtain ⟨a5, s5, h5⟩ : ∃ x s, numS e l 0 1000 s4 = (x, s) := ⟨_, _, rfl⟩
  obtain ⟨a6, s6, h6⟩ : ∃ x s, takeS e l (wordB wBelow) s5 = (x, s) := ⟨_, _, rfl⟩
  obtain ⟨a7, s7, h7⟩ : ∃ x s, numS e l 0 1000 s6 = (x, s) := ⟨_, _, rfl⟩
  unfold sumS at h
  simp only [h1, h2, h3, h4, h5, h6, h7, Prod.mk.injEq] at h
  obtain ⟨rfl, h⟩ := h
  obtain ⟨z7, c8⟩ := end_c h hz hg
  obtain ⟨z6, n1, n2, c7⟩ := num_c h7 z7 hg
  obtain ⟨z5, c6⟩ := word_c h6 z6 hg
  obtain ⟨z4, m1, m2, c5⟩ := num_c h5 z5 hg
  obtain ⟨z3, c4⟩ := word_c h4 z4 hg
  obtain ⟨z2, o1, o2, c3⟩ := num_c h3 z3 hg
  obtain ⟨z1, t, ht, hp, rfl, hw⟩ := take_c h2 z2 hg
  obtain ⟨z0, c1⟩ := word_c h1 z1 hg
  have hk : t.kind = 4 := by simpa [kindB] using hp
  obtain ⟨q1, q2⟩ := ht.code hk
  have hl := wt_text t
  have k1 : wSum.length = 3 := rfl
  have k2 : wAbove.length = 5 := rfl
  have k3 : wBelow.length = 5 := rfl
  exact ⟨z0, by simp only; unfold codeM; rw [q1, q2]; rfl, ⟨o1, o2⟩, ⟨m1, m2⟩, ⟨n1, n2⟩, by simp only; omega⟩
theorem conf_c {e : Nat} {l : List Tok} {x : Txt} {st s : St} (h : confS e l st = (x, s)) (hz : s.cd = 0) (hg : GoodL l) : st.cd = 0 ∧ (x = [] ∨ nameM x = true) ∧ (if x = [] then 0 else 10 + x.length) + lf l s ≤ lf l st := by
  unfold confS at h
  split at h
  · obtain ⟨z0, n1, p1, c⟩ := line_c h hz hg
    have k : wConfirmer.length = 9 := rfl
    refine ⟨z0, .inr n1, ?_⟩
    rw [if_neg (fun hx => by rw [hx] at p1; simp at p1)]; omega
  · simp only [Prod.mk.injEq] at h
    obtain ⟨rfl, rfl⟩ := h
    exact ⟨hz, .inl rfl, by simp⟩
theorem with_c {e : Nat} {l : List Tok} {r : Rul} {st s : St} (h : withS e l st = (r, s)) (hz : s.cd = 0) (hg : GoodL l) : st.cd = 0 ∧ (alwaysR r = true ∨ depthR r ≤ 16 ∧ mayR r = true) ∧ (if alwaysR r = true then 0 else 6 + (showR r).length) + 2 * lf l s ≤ 2 * lf l st := by
  unfold withS at h
  by_cases ha : askS l st 0 (wordB wWith) = true
  · rw [if_pos ha] at h
    obtain ⟨hcd, t, hlk, hp, _⟩ := ask_step ha
    have hlt : st.k < l.length := (List.getElem?_eq_some_iff.1 hlk).1
    have ht : t.text = wWith := by simp [wordB] at hp; exact hp.2
    have hl := wt_text t
    rw [ht] at hl
    have k4 : wWith.length = 4 := rfl
    have hs : wT t + lf l st.step = lf l st := by unfold lf St.step; simp only; rw [drop_cons hlk]; rfl
    obtain ⟨x, y, i1, i2, i3, i4⟩ := (whole_agree e l (2 * l.length + 2) (by omega)).2 st.step ⟨hcd, hlt⟩ (by show l.length - (st.k + 1) < _; omega)
    unfold wholeG at h
    rw [i1] at h
    simp only [Option.getD_some] at h
    subst h
    rw [wholeP] at i2
    have hg' : GoodL (l.drop st.step.k) := fun u hu => hg u (List.mem_of_mem_drop hu)
    cases hr : ruleP e (2 * l.length + 2) (l.drop st.step.k) with
    | none => rw [hr] at i2; cases i2
    | some q =>
      rw [hr] at i2
      cases q with
      | error q =>
        simp only [Option.some.injEq] at i2
        subst i2
        exact absurd hz i3.bad
      | ok q =>
        obtain ⟨r', ts⟩ := q
        simp only at i2
        split at i2
        · simp only [Option.some.injEq] at i2
          subst i2
          exact absurd hz i3.bad
        · rename_i hne
          simp only [Option.some.injEq] at i2
          subst i2
          obtain ⟨h1, _, h2⟩ := i3.fine
          simp only at h1 h2
          subst h1
          have hm := rule_may hr hg'
          have hc := rule_cost (2 * l.length + 2) (one_cost e (2 * l.length + 2)) (one_wide e (2 * l.length + 2)) _ _ _ hr hg'
          have hcr : crowdR r = false := by
            cases hx : crowdR r with
            | false => rfl
            | true => exact absurd (.inr hx) hne
          rw [hcr] at hm
          have hna : alwaysR r = false := by
            cases hx : alwaysR r with
            | false => rfl
            | true => rw [always_is hx] at hm; exact absurd hm (by decide)
          refine ⟨hcd, .inr ⟨by omega, by simpa using hm⟩, ?_⟩
          rw [if_neg (by rw [hna]; simp)]
          unfold lenRule at hc
          have e1 : wtL ts = lf l s := by rw [h2]; rfl
          have e2 : wtL (l.drop st.step.k) = lf l st.step := rfl
          omega
  · rw [if_neg ha] at h
    simp only [Prod.mk.injEq] at h
    obtain ⟨rfl, rfl⟩ := h
    exact ⟨hz, .inl rfl, by rw [if_pos (by rfl)]; omega⟩
/-- How many bytes a need's line has. -/
def needN (x : NdP) : Nat := 16 + (paperT x.1).length + (decN 20 x.2.1.toNat).length + (if alwaysR x.2.2 = true then 0 else 6 + (showR x.2.2).length)
theorem need_c {e : Nat} {l : List Tok} {x : NdP} {st s : St} (h : needS e l st = (x, s)) (hz : s.cd = 0) (hg : GoodL l) : st.cd = 0 ∧ askS l st 0 (wordB wWants) = true ∧ needP x = true ∧ needN x + 2 * lf l s ≤ 2 * lf l st := by
  obtain ⟨a1, s1, h1⟩ : ∃ x s, takeS e l (wordB wWants) st = (x, s) := ⟨_, _, rfl⟩
  obtain ⟨a2, s2, h2⟩ : ∃ x s, takeS e l paperB s1 = (x, s) := ⟨_, _, rfl⟩
  obtain ⟨a3, s3, h3⟩ : ∃ x s, takeS e l (wordB wCopies) s2 = (x, s) := ⟨_, _, rfl⟩
  obtain ⟨a4, s4, h4⟩ : ∃ x s, numS e l 1 9 s3 = (x, s) := ⟨_, _, rfl⟩
  obtain ⟨a5, s5, h5⟩ : ∃ x s, withS e l s4 = (x, s) := ⟨_, _, rfl⟩
  unfold needS at h
  simp only [h1, h2, h3, h4, h5, Prod.mk.injEq] at h
  obtain ⟨rfl, h⟩ := h
  obtain ⟨z5, c6⟩ := end_c h hz hg
  obtain ⟨z4, m5, c5⟩ := with_c h5 z5 hg
  obtain ⟨z3, n1, n2, c4⟩ := num_c h4 z4 hg
  obtain ⟨z2, c3⟩ := word_c h3 z3 hg
  obtain ⟨z1, t, ht, hp, rfl, hw⟩ := take_c h2 z2 hg
  obtain ⟨z0, c1⟩ := word_c h1 z1 hg
  have hpp : 0 ≤ paperI t.text := by unfold paperB at hp; simp at hp; exact hp.2
  obtain ⟨q1, q2⟩ := paper_text hpp
  have hl := wt_text t
  have k1 : wWants.length = 5 := rfl
  have k2 : wCopies.length = 6 := rfl
  have hask : askS l st 0 (wordB wWants) = true := by
    have hz1 : (takeS e l (wordB wWants) st).2.cd = 0 := by rw [h1]; exact z1
    cases ha : askS l st 0 (wordB wWants) with
    | true => rfl
    | false =>
      unfold takeS at hz1
      rw [if_neg (by rw [ha]; simp)] at hz1
      exact absurd hz1 (fail_cd _ _)
  have hmx : max (paperI t.text) 0 = paperI t.text := Int.max_eq_left hpp
  refine ⟨z0, hask, ?_, ?_⟩
  · unfold needP
    simp only [hmx, Bool.and_eq_true, Bool.or_eq_true, decide_eq_true_eq]
    exact ⟨⟨⟨hpp, q2⟩, n1, n2⟩, m5⟩
  · unfold needN
    simp only [hmx]
    rw [q1]
    split at c5 <;> simp_all <;> omega
def needsN (T : List NdP) : Nat := (T.map needN).sum
theorem needs_c {e : Nat} {l : List Tok} (hg : GoodL l) : ∀ (n c : Nat) {T : List NdP} {st s : St}, needsS e l n c st = (T, s) → s.cd = 0 → c ≤ 64 → st.cd = 0 ∧ (∀ x ∈ T, needP x = true) ∧ c + T.length ≤ 64 ∧ needsN T + 2 * lf l s ≤ 2 * lf l st
  | 0, c, T, st, s, h, hz, hc => by
    simp only [needsS, Prod.mk.injEq] at h
    obtain ⟨rfl, rfl⟩ := h
    exact ⟨hz, by simp, by simpa using hc, by simp [needsN]⟩
  | n + 1, c, T, st, s, h, hz, hc => by
    rw [needsS] at h
    split at h
    · rename_i hgo
      obtain ⟨x, s1, h1⟩ : ∃ x s, needS e l (fullS e l c st) = (x, s) := ⟨_, _, rfl⟩
      obtain ⟨T', s2, h2⟩ : ∃ x s, needsS e l n (c + 1) s1 = (x, s) := ⟨_, _, rfl⟩
      rw [h1] at h; simp only at h; rw [h2] at h
      simp only [Prod.mk.injEq] at h
      obtain ⟨rfl, rfl⟩ := h
      by_cases h64 : c + 1 ≤ 64
      · obtain ⟨z1, a1, a2, a3⟩ := needs_c hg n (c + 1) h2 hz h64
        obtain ⟨z0, _, b1, b2⟩ := need_c h1 z1 hg
        have hf : fullS e l c st = st := by unfold fullS; rw [if_neg (by omega)]
        rw [hf] at b2
        refine ⟨hgo.1, ?_, by rw [List.length_cons]; omega, ?_⟩
        · intro y hy
          rcases List.mem_cons.1 hy with rfl | hy
          · exact b1
          · exact a1 y hy
        · simp only [needsN, List.map_cons, List.sum_cons] at a3 ⊢
          omega
      · exfalso
        have z1 : s1.cd = 0 := by
          by_cases hx : s1.cd = 0
          · exact hx
          · rw [needs_bad hx] at h2
            simp only [Prod.mk.injEq] at h2
            rw [← h2.2] at hz
            exact absurd hz hx
        obtain ⟨z0, hask, _, _⟩ := need_c h1 z1 hg
        unfold fullS at z0 hask
        by_cases hw : askS l st 0 (wordB wWants) = true
        · rw [if_pos ⟨by omega, hw⟩, fail_fine hgo.1] at z0
          exact absurd z0 (show ¬ ((7 : Int) = 0) by decide)
        · rw [if_neg (fun hx => hw hx.2)] at hask
          exact hw hask
    · simp only [Prod.mk.injEq] at h
      obtain ⟨rfl, rfl⟩ := h
      exact ⟨hz, by simp, by simpa using hc, by simp [needsN]⟩
/-- **What is read may be; and its text is at most twice as long.** -/
theorem credit_good {e : Nat} {l : List Tok} (hg : GoodL l) {c : Crd} {T : List NdP} {s : St} (h : creditS e l ⟨0, 0, 0⟩ = ((c, T), s)) (hz : s.cd = 0) :
    c.names1 ∧ c.fits ∧ T.length ≤ 64 ∧ (∀ x ∈ T, needP x = true) ∧ (textL (topL c)).length + needsN T ≤ 2 * wtL l := by
  obtain ⟨a1, s1, h1⟩ : ∃ x s, lineS e l wCredit ⟨0, 0, 0⟩ = (x, s) := ⟨_, _, rfl⟩
  obtain ⟨a2, s2, h2⟩ : ∃ x s, lineS e l wApplicant s1 = (x, s) := ⟨_, _, rfl⟩
  obtain ⟨a3, s3, h3⟩ : ∃ x s, lineS e l wBeneficiary s2 = (x, s) := ⟨_, _, rfl⟩
  obtain ⟨a4, s4, h4⟩ : ∃ x s, lineS e l wIssuer s3 = (x, s) := ⟨_, _, rfl⟩
  obtain ⟨a5, s5, h5⟩ : ∃ x s, confS e l s4 = (x, s) := ⟨_, _, rfl⟩
  obtain ⟨a6, s6, h6⟩ : ∃ x s, lineS e l wFrom s5 = (x, s) := ⟨_, _, rfl⟩
  obtain ⟨a7, s7, h7⟩ : ∃ x s, lineS e l wTo s6 = (x, s) := ⟨_, _, rfl⟩
  obtain ⟨a8, s8, h8⟩ : ∃ x s, sumS e l s7 = (x, s) := ⟨_, _, rfl⟩
  obtain ⟨a9, s9, h9⟩ : ∃ x s, dayS e l wLatest s8 = (x, s) := ⟨_, _, rfl⟩
  obtain ⟨a10, s10, h10⟩ : ∃ x s, dayS e l wExpiry s9 = (x, s) := ⟨_, _, rfl⟩
  obtain ⟨b11, t11, g11⟩ : ∃ x s, takeS e l (wordB wWithin) s10 = (x, s) := ⟨_, _, rfl⟩
  obtain ⟨a11, s11, h11⟩ : ∃ x s, numS e l 0 1048576 t11 = (x, s) := ⟨_, _, rfl⟩
  obtain ⟨b12, t12, g12⟩ : ∃ x s, takeS e l (wordB wDays) s11 = (x, s) := ⟨_, _, rfl⟩
  obtain ⟨s12, h12⟩ : ∃ s, endS e l t12 = s := ⟨_, rfl⟩
  obtain ⟨a13, s13, h13⟩ : ∃ x s, tenorS e l s12 = (x, s) := ⟨_, _, rfl⟩
  obtain ⟨a14, s14, h14⟩ : ∃ x s, choiceS e l wPartial s13 = (x, s) := ⟨_, _, rfl⟩
  obtain ⟨a15, s15, h15⟩ : ∃ x s, choiceS e l wChange s14 = (x, s) := ⟨_, _, rfl⟩
  obtain ⟨a16, s16, h16⟩ : ∃ x s, needsS e l (l.length + 1) 0 s15 = (x, s) := ⟨_, _, rfl⟩
  unfold creditS at h
  simp only [h1, h2, h3, h4, h5, h6, h7, h8, h9, h10, g11, h11, g12, h12, h13, h14, h15, h16, Prod.mk.injEq] at h
  obtain ⟨⟨rfl, rfl⟩, rfl⟩ := h
  obtain ⟨z15, n16, l16, c16⟩ := needs_c hg _ _ h16 hz (by decide)
  obtain ⟨z14, c15⟩ := choice_c h15 z15 hg
  obtain ⟨z13, c14⟩ := choice_c h14 z14 hg
  obtain ⟨z12, n13, c13⟩ := tenor_c h13 z13 hg
  obtain ⟨y12, c12⟩ := end_c h12 z12 hg
  obtain ⟨z11, d12⟩ := word_c g12 y12 hg
  obtain ⟨y11, n11, m11, c11⟩ := num_c h11 z11 hg
  obtain ⟨z10, d11⟩ := word_c g11 y11 hg
  obtain ⟨z9, n10, c10⟩ := day_c h10 z10 hg
  obtain ⟨z8, n9, c9⟩ := day_c h9 z9 hg
  obtain ⟨z7, n8, m8, o8, p8, c8⟩ := sum_c h8 z8 hg
  obtain ⟨z6, n7, p7, c7⟩ := line_c h7 z7 hg
  obtain ⟨z5, n6, p6, c6⟩ := line_c h6 z6 hg
  obtain ⟨z4, n5, c5⟩ := conf_c h5 z5 hg
  obtain ⟨z3, n4, p4, c4⟩ := line_c h4 z4 hg
  obtain ⟨z2, n3, p3, c3⟩ := line_c h3 z3 hg
  obtain ⟨z1, n2, p2, c2⟩ := line_c h2 z2 hg
  obtain ⟨z0, n1, p1, c1⟩ := line_c h1 z1 hg
  refine ⟨⟨n1, n2, n3, n4, n5, n6, n7, n8⟩, ⟨m8, o8, p8, n9, n10, ⟨n11, m11⟩, n13⟩, by simpa using l16, n16, ?_⟩
  have k1 : wCredit.length = 6 := rfl
  have k2 : wApplicant.length = 9 := rfl
  have k3 : wBeneficiary.length = 11 := rfl
  have k4 : wIssuer.length = 6 := rfl
  have k6 : wFrom.length = 4 := rfl
  have k7 : wTo.length = 2 := rfl
  have k9 : wLatest.length = 6 := rfl
  have k10 : wExpiry.length = 6 := rfl
  have k11 : wWithin.length = 6 := rfl
  have k12 : wDays.length = 4 := rfl
  have k14 : wPartial.length = 7 := rfl
  have k15 : wChange.length = 6 := rfl
  have hlf : lf l ⟨0, 0, 0⟩ = wtL l := rfl
  rw [hlf] at c1
  unfold topL heads confL midL Go.Proofs.YtjkmhlfjheiekaaGreatDoor.tenL
  simp only
  split <;> split <;> rename_i hx hy <;> (first | rw [if_pos hx] at c5 | rw [if_neg hx] at c5) <;> (first | rw [if_pos hy] at c13 | rw [if_neg hy] at c13) <;>
    simp only [textL, List.flatMap_append, List.flatMap_cons, List.flatMap_nil, lineT, List.append_nil, spaced_cons, spaced_one, List.length_append, List.length_cons, List.length_nil] <;> omega
end Go.Proofs.YtjkmhlfjheiekaaGreatDoor

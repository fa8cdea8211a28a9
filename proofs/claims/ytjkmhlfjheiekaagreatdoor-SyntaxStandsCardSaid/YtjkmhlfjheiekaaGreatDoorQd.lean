/- A credit that is read out of a text may be, and its own text is at most twice as long. Plain. -/
import Derived.Test.YtjkmhlfjheiekaaGreatDoorQh
namespace Go.Proofs.YtjkmhlfjheiekaaGreatDoor
open Go Go.RowKit

/-- How many bytes tokens have, without the blanks. -/
def wtL : List Tok → Nat
  | [] => 0
  | t :: ts => (writtenT t).length + wtL ts
def wT (t : Tok) : Nat := (writtenT t).length
theorem wt_text (t : Tok) : t.text.length ≤ wT t := by
  unfold wT writtenT
  split <;> simp <;> omega
theorem wt_quote {t : Tok} (h : t.kind = 3) : wT t = t.text.length + 2 := by
  unfold wT writtenT
  rw [if_pos h]; simp
/-- What scan reads has no more bytes than the text. -/
theorem one_wt {s t : Txt} {kd : Int} {m p : Nat} (h : oneM s = .ok (kd, t, m)) : wT ⟨kd, p, t⟩ ≤ m ∧ m ≤ s.length := by
  have htw : ∀ (q : UInt8 → Bool) (l : Txt), (l.takeWhile q).length ≤ l.length := fun q l => (List.takeWhile_sublist q).length_le
  have hk : (rankM t).1 ≠ 3 := by unfold rankM; repeat' split <;> simp
  cases s with
  | nil => cases h
  | cons c r =>
    rw [oneM] at h
    split at h
    · split at h
      · simp only [Except.ok.injEq, Prod.mk.injEq] at h
        obtain ⟨rfl, rfl, rfl⟩ := h
        refine ⟨?_, htw _ _⟩
        unfold wT writtenT
        rw [if_neg hk]; exact Nat.le_refl _
      · cases h
    · split at h
      · split at h
        · rename_i h3
          simp only [Except.ok.injEq, Prod.mk.injEq] at h
          obtain ⟨rfl, rfl, rfl⟩ := h
          refine ⟨?_, by have := htw largeB (c :: r); omega⟩
          unfold wT writtenT
          rw [if_neg (by show ¬ (4 : Int) = 3; decide)]; simp only; omega
        · cases h
      · split at h
        · split at h
          · rename_i h34
            simp only [Except.ok.injEq, Prod.mk.injEq] at h
            obtain ⟨rfl, rfl, rfl⟩ := h
            refine ⟨by unfold wT writtenT; rw [if_pos rfl]; simp, ?_⟩
            have h1 := htw plainB r
            have h2 : (r.drop (r.takeWhile plainB).length) ≠ [] := fun hz => by rw [hz] at h34; cases h34
            have h3 : (r.takeWhile plainB).length < r.length := by
              apply Nat.lt_of_not_le
              intro hle
              exact h2 (List.drop_eq_nil_of_le hle)
            simp only [List.length_cons]; omega
          · cases h
        · split at h
          · split at h
            · rename_i hh
              simp only [Except.ok.injEq, Prod.mk.injEq] at h
              obtain ⟨rfl, rfl, rfl⟩ := h
              refine ⟨by unfold wT writtenT; rw [if_neg (by show ¬ (5 : Int) = 3; decide)]; simp, ?_⟩
              cases r with
              | nil => cases hh
              | cons d r => simp
            · cases h
          · split at h
            · simp only [Except.ok.injEq, Prod.mk.injEq] at h
              obtain ⟨rfl, rfl, rfl⟩ := h
              exact ⟨by unfold wT writtenT; rw [if_neg (by show ¬ (5 : Int) = 3; decide)]; simp, by simp⟩
            · cases h
theorem scan_wt_all : ∀ (f n k : Nat) (s : Txt) (l : List Tok), scanM f n k s = .ok l → wtL l ≤ s.length
  | 0, _, _, _, _, h => by cases h
  | f + 1, n, k, s, l, h => by
    rw [scanM] at h
    split at h
    · cases h; exact Nat.zero_le _
    · split at h
      · cases h
      · split at h
        · cases h
        · rename_i kd t m ho
          split at h
          · cases h
          · rename_i l' hl
            simp only [Except.ok.injEq] at h
            subst h
            have h1 := scan_wt_all _ _ _ _ _ hl
            have h2 := one_wt (p := k + (s.takeWhile blankB).length) ho
            rw [List.length_drop] at h1
            have h3 : (s.dropWhile blankB).length ≤ s.length := (List.dropWhile_sublist _).length_le
            rw [wtL]
            have h4 := h2.1
            unfold wT at h4
            omega
theorem scan_wt {s : Txt} {l : List Tok} (h : scanT s = .ok l) : wtL l ≤ s.length := scan_wt_all _ _ _ _ _ h

/-- Digits. -/
theorem fold_less : ∀ (t : Txt) (a : Nat), t.all digitB = true → t.foldl (fun n c => 10 * n + (c.toNat - 48)) a < (a + 1) * 10 ^ t.length
  | [], a, _ => by simp
  | c :: t, a, h => by
    rw [List.all_cons, Bool.and_eq_true] at h
    have h1 := fold_less t (10 * a + (c.toNat - 48)) h.2
    have h2 : c.toNat - 48 ≤ 9 := by
      have := h.1
      unfold digitB at this
      simp only [Bool.and_eq_true, decide_eq_true_eq] at this
      have h9 : c.toNat ≤ 57 := by have := this.2; exact this
      omega
    rw [List.foldl_cons, List.length_cons, Nat.pow_succ]
    have h3 : (10 * a + (c.toNat - 48) + 1) * 10 ^ t.length ≤ ((a + 1) * 10) * 10 ^ t.length := Nat.mul_le_mul_right _ (by omega)
    have h4 : ((a + 1) * 10) * 10 ^ t.length = (a + 1) * (10 ^ t.length * 10) := by rw [Nat.mul_assoc, Nat.mul_comm 10 (10 ^ t.length)]
    omega
theorem dec_num {t : Txt} (h : t.all digitB = true) (h1 : 1 ≤ t.length) : (decN 20 (numV t)).length ≤ t.length := by
  refine decN_short 20 (numV t) t.length h1 ?_
  have := fold_less t 0 h
  unfold numV
  omega
theorem rank_dig {t : Txt} (h : (rankM t).1 = 2) : t.all digitB = true := by
  unfold rankM at h
  split at h
  · assumption
  · split at h <;> cases h
theorem good_num {t : Tok} (h : GoodT t) (hk : t.kind = 2) : (decN 20 (numV t.text)).length ≤ wT t ∧ 1 ≤ wT t := by
  obtain ⟨a, b⟩ := h.name (by omega)
  have h1 : 1 ≤ t.text.length := by
    unfold nameM at a
    simp only [Bool.and_eq_true, decide_eq_true_eq] at a
    exact a.1.1.1
  have h2 := wt_text t
  exact ⟨Nat.le_trans (dec_num (rank_dig (by rw [b, hk])) h1) h2, by omega⟩
theorem paper_text {s : Txt} (h : 0 ≤ paperI s) : paperT (paperI s) = s ∧ paperI s < 6 := by
  unfold paperI at h ⊢
  by_cases hx : papersL.idxOf s < 6
  · rw [if_pos hx]
    refine ⟨?_, by omega⟩
    unfold paperT
    have hl : papersL.idxOf s < papersL.length := hx
    rw [Int.toNat_natCast, List.getD_eq_getElem?_getD, List.getElem?_eq_getElem hl, Option.getD_some, List.getElem_idxOf]
  · rw [if_neg hx] at h
    exact absurd h (by decide)

/-- A rule's text, with the brackets it may need. -/
def lenOne (r : Rul) : Nat := (showR r).length + (if r.kind = 0 ∨ r.kind = 1 then 2 else 0)
def lenAll (r : Rul) : Nat := (showR r).length + (if r.kind = 1 then 2 else 0)
def lenRule (r : Rul) : Nat := (showR r).length
def Cost (g : Rul → Nat) (part : List Tok → Option (Res Rul)) : Prop := ∀ ts r ts', part ts = some (.ok (r, ts')) → GoodL ts → g r + 2 * wtL ts' ≤ 2 * wtL ts
theorem takeM_cost {e : Nat} {p : Tok → Bool} {ts r : List Tok} {x : Txt} (h : takeM e p ts = .ok (x, r)) (hg : GoodL ts) : GoodL r ∧ ∃ t, GoodT t ∧ p t = true ∧ x = t.text ∧ wtL ts = wT t + wtL r := by
  obtain ⟨t, rfl, h2, h3⟩ := takeM_ok h
  exact ⟨fun u hu => hg u (by simp [hu]), t, hg t (by simp), h2, h3, rfl⟩
theorem numM_cost {e : Nat} {lo hi x : Int} {ts r : List Tok} (h : numM e lo hi ts = .ok (x, r)) (hg : GoodL ts) : GoodL r ∧ (decN 20 x.toNat).length + wtL r ≤ wtL ts := by
  unfold numM at h
  split at h
  · cases h
  · rename_i t r1 h1
    split at h
    · cases h
    · simp only [Except.ok.injEq, Prod.mk.injEq] at h
      obtain ⟨rfl, rfl⟩ := h
      obtain ⟨g, t, ht, hp, rfl, hw⟩ := takeM_cost h1 hg
      refine ⟨g, ?_⟩
      have hk : t.kind = 2 := by simpa [kindB] using hp
      have := (good_num ht hk).1
      rw [Int.toNat_natCast]; omega
theorem atom_cost {e : Nat} {ts r : List Tok} {x : Rul} (h : atomM e ts = .ok (x, r)) (hg : GoodL ts) : lenOne x + 2 * wtL r ≤ 2 * wtL ts := by
  unfold atomM at h
  obtain ⟨f, t1, h1, h⟩ := bind_some h
  obtain ⟨o, t2, h2, h⟩ := bind_some h
  obtain ⟨g1, tf, gf, pf, rfl, w1⟩ := takeM_cost h1 hg
  obtain ⟨g2, tc, gc, pc, rfl, w2⟩ := takeM_cost h2 g1
  have lf := wt_text tf
  have lc := wt_text tc
  have hcn : 1 ≤ wT tc := by
    rcases comp_text pc with h | h | h | h <;> (rw [h] at lc; exact Nat.le_trans (by decide) lc)
  split at h
  · split at h
    · obtain ⟨_, t3, h3, h⟩ := bind_some h
      obtain ⟨_, t4, h4, h⟩ := bind_some h
      obtain ⟨_, t5, h5, h⟩ := bind_some h
      obtain ⟨g3, tp, gp, pp, rfl, w3⟩ := takeM_cost h3 g2
      obtain ⟨g4, td, gd, pd, _, w4⟩ := takeM_cost h4 g3
      obtain ⟨g5, tn, gn, pn, rfl, w5⟩ := takeM_cost h5 g4
      simp only [Except.ok.injEq, Prod.mk.injEq] at h
      obtain ⟨rfl, rfl⟩ := h
      have hp : 0 ≤ paperI tp.text := by unfold paperB at pp; simp at pp; exact pp.2
      have lp := wt_text tp
      have ln := wt_text tn
      have ld := wt_text td
      have hd : td.text = sDot := by unfold signB at pd; simp at pd; exact pd.2
      rw [hd] at ld
      have hd1 : sDot.length = 1 := rfl
      unfold lenOne
      rw [showR, if_neg (by decide), if_neg (by decide), if_neg (by decide), if_neg (by decide), if_pos rfl, (paper_text hp).1]
      simp [Rul.kind]
      omega
    · obtain ⟨_, t3, h3, h⟩ := bind_some h
      obtain ⟨g3, tx, gx, px, rfl, w3⟩ := takeM_cost h3 g2
      simp only [Except.ok.injEq, Prod.mk.injEq] at h
      obtain ⟨rfl, rfl⟩ := h
      have hq := wt_quote (t := tx) (by simpa [kindB] using px)
      unfold lenOne
      rw [showR, if_pos rfl]
      simp [Rul.kind]
      omega
  · split at h
    · obtain ⟨_, t3, h3, h⟩ := bind_some h
      obtain ⟨g3, tx, gx, px, rfl, w3⟩ := takeM_cost h3 g2
      simp only [Except.ok.injEq, Prod.mk.injEq] at h
      obtain ⟨rfl, rfl⟩ := h
      have hq := wt_quote (t := tx) (by simpa [kindB] using px)
      unfold lenOne
      rw [showR, if_neg (by decide), if_pos rfl]
      simp [Rul.kind]
      omega
    · rename_i hne1 hne2
      have hc2 : 2 ≤ wT tc := by
        rcases comp_text pc with h | h | h | h
        · exact absurd h hne1
        · exact absurd h hne2
        · rw [h] at lc; exact lc
        · rw [h] at lc; exact lc
      split at h
      · obtain ⟨nv, t3, h3, h⟩ := bind_some h
        obtain ⟨g3, w3⟩ := numM_cost h3 g2
        simp only [Except.ok.injEq, Prod.mk.injEq] at h
        obtain ⟨rfl, rfl⟩ := h
        unfold lenOne
        rw [showR, if_neg (by decide), if_neg (by decide), if_pos rfl]
        simp [Rul.kind]
        omega
      · obtain ⟨nv, t3, h3, h⟩ := bind_some h
        obtain ⟨g3, w3⟩ := numM_cost h3 g2
        simp only [Except.ok.injEq, Prod.mk.injEq] at h
        obtain ⟨rfl, rfl⟩ := h
        unfold lenOne
        rw [showR, if_neg (by decide), if_neg (by decide), if_neg (by decide), if_pos rfl]
        simp [Rul.kind]
        omega
def gsum (g : Rul → Nat) (k : Nat) : List Rul → Nat
  | [] => 0
  | r :: L => g r + (if L = [] then 0 else k) + gsum g k L
theorem show_sum (g : Rul → Nat) (outer : Int) (sep : Txt) (k : Nat) (hk : sep.length ≤ k) : ∀ L : List Rul, (∀ r ∈ L, (inPar (parB outer r.kind) (showR r)).length ≤ g r) → (showL outer sep L).length ≤ gsum g k L
  | [], _ => by simp [showL]
  | r :: L, h => by
    have ih := show_sum g outer sep k hk L fun x hx => h x (by simp [hx])
    have h1 := h r (by simp)
    rw [showL, gsum, List.length_append, List.length_append]
    split <;> simp <;> omega
theorem parts_cost {part : List Tok → Option (Res Rul)} {g : Rul → Nat} (sep : Txt) (h : Cost g part) (hw : Wide part) : ∀ (n : Nat) (ts : List Tok) (L : List Rul) (ts' : List Tok), partsP part sep n ts = some (.ok (L, ts')) → GoodL ts → gsum g (2 * sep.length) L + 2 * wtL ts' ≤ 2 * wtL ts
  | 0, _, _, _, hp, _ => by simp [partsP] at hp
  | n + 1, ts, L, ts', hp, hg => by
    rw [partsP] at hp
    split at hp
    · cases hp
    · cases hp
    · rename_i r t1 h1
      have c1 := h _ _ _ h1 hg
      have g1 := (hw _ _ _ h1 hg).1
      split at hp
      · rename_i hsep
        split at hp
        · cases hp
        · cases hp
        · rename_i l t2 h2
          simp only [Option.some.injEq, Except.ok.injEq, Prod.mk.injEq] at hp
          obtain ⟨rfl, rfl⟩ := hp
          cases t1 with
          | nil => simp [seesB] at hsep
          | cons u us =>
            have c2 := parts_cost sep h hw n _ _ _ h2 (fun x hx => g1 x (List.mem_of_mem_tail hx))
            have hu : u.text = sep := by simp [seesB, wordB] at hsep; exact hsep.2
            have hl := wt_text u
            rw [hu] at hl
            rw [List.tail_cons] at c2
            rw [gsum]
            rw [wtL] at c1
            unfold wT at hl
            split <;> omega
      · simp only [Option.some.injEq, Except.ok.injEq, Prod.mk.injEq] at hp
        obtain ⟨rfl, rfl⟩ := hp
        simp [gsum]; omega
theorem row_cost {part : List Tok → Option (Res Rul)} {g g' : Rul → Nat} {sep : Txt} {k : Int} (n : Nat) (h : Cost g part) (hw : Wide part) (h1 : ∀ r, g' r ≤ g r) (h2 : ∀ r1 r2 L, g' (.mk k 0 [] [] 0 (r1 :: r2 :: L)) ≤ gsum g (2 * sep.length) (r1 :: r2 :: L)) : Cost g' (rowP part sep k n) := by
  intro ts r ts' hr hg
  unfold rowP at hr
  split at hr
  · cases hr
  · cases hr
  · rename_i L t1 hp
    simp only [Option.some.injEq, Except.ok.injEq, Prod.mk.injEq] at hr
    obtain ⟨rfl, rfl⟩ := hr
    have c := parts_cost sep h hw n _ _ _ hp hg
    have hne := (parts_wide sep hw n _ _ _ hp hg).2.2
    match L, hne, c with
    | [], hne, _ => exact absurd rfl hne
    | [r], _, c =>
      have := h1 r
      simp [gsum] at c
      simp only [joinK]
      omega
    | r1 :: r2 :: L, _, c =>
      have := h2 r1 r2 L
      rw [joinK]
      · omega
      · intro r h; simp at h
theorem par_one (r : Rul) (o : Int) : (inPar (parB o r.kind) (showR r)).length ≤ lenOne r := by
  unfold lenOne inPar parB
  by_cases h0 : r.kind = 0
  · rw [h0]; simp [sOpen, sShut]; split <;> simp
  · by_cases h1 : r.kind = 1
    · rw [h1]; simp [sOpen, sShut]
    · simp [h0, h1]
theorem par_all (r : Rul) : (inPar (parB 1 r.kind) (showR r)).length ≤ lenAll r := by
  unfold lenAll inPar parB
  by_cases h1 : r.kind = 1
  · rw [h1]; simp [sOpen, sShut]
  · simp [h1]
theorem all_cost {one : List Tok → Option (Res Rul)} (n : Nat) (h : Cost lenOne one) (hw : Wide one) : Cost lenAll (allOf one n) := by
  refine row_cost n h hw (fun r => ?_) (fun r1 r2 L => ?_)
  · unfold lenAll lenOne
    split
    · rename_i h1; rw [if_pos (.inr h1)]; exact Nat.le_refl _
    · omega
  · unfold lenAll
    rw [show (Rul.mk 0 0 [] [] 0 (r1 :: r2 :: L)).kind = 0 from rfl, if_neg (show ¬ (0 : Int) = 1 by decide), showR, if_neg (by decide), if_neg (by decide), if_neg (by decide), if_neg (by decide), if_neg (by decide), if_neg (by decide), if_neg (by decide)]
    exact show_sum lenOne 0 _ _ (by decide) _ fun r _ => par_one r 0
theorem rule_cost {one : List Tok → Option (Res Rul)} (n : Nat) (h : Cost lenOne one) (hw : Wide one) : Cost lenRule (ruleOf one n) := by
  refine row_cost n (all_cost n h hw) (row_wide (.inl rfl) n hw) (fun r => ?_) (fun r1 r2 L => ?_)
  · unfold lenAll lenRule; omega
  · unfold lenRule
    rw [showR, if_neg (by decide), if_neg (by decide), if_neg (by decide), if_neg (by decide), if_neg (by decide), if_neg (by decide), if_pos rfl]
    exact show_sum lenAll 1 _ _ (by decide) _ fun r _ => par_all r
theorem one_cost (e : Nat) : ∀ n, Cost lenOne (oneP e n)
  | 0 => fun ts r ts' h _ => by simp [oneP] at h
  | n + 1 => fun ts r ts' h hg => by
    have ih := one_cost e n
    have hw := one_wide e n
    rw [oneP] at h
    have htl : GoodL ts.tail := fun u hu => hg u (List.mem_of_mem_tail hu)
    split at h
    · rename_i hnot
      split at h
      · cases h
      · cases h
      · rename_i r1 t1 h1
        simp only [Option.some.injEq, Except.ok.injEq, Prod.mk.injEq] at h
        obtain ⟨rfl, rfl⟩ := h
        have c := ih _ _ _ h1 htl
        cases ts with
        | nil => simp [seesB] at hnot
        | cons u us =>
          have hu : u.text = wNot := by
            rw [Bool.and_eq_true] at hnot
            have := hnot.1
            simp [seesB, wordB] at this; exact this.2
          have hl := wt_text u
          rw [hu] at hl
          have h3 : wNot.length = 3 := rfl
          have hp := par_one r1 2
          rw [List.tail_cons] at c
          rw [wtL]
          unfold wT at hl
          have e1 : (showR (.mk 2 0 [] [] 0 [r1])).length = 4 + (inPar (parB 2 r1.kind) (showR r1)).length := by
            rw [showR, if_neg (by decide), if_neg (by decide), if_neg (by decide), if_neg (by decide), if_neg (by decide), if_pos rfl, showL, showL]
            simp; omega
          have e2 : lenOne (.mk 2 0 [] [] 0 [r1]) = (showR (.mk 2 0 [] [] 0 [r1])).length := by
            unfold lenOne
            rw [show (Rul.mk 2 0 [] [] 0 [r1]).kind = 2 from rfl, if_neg (show ¬ ((2 : Int) = 0 ∨ (2 : Int) = 1) by decide)]; rfl
          omega
    · split at h
      · rename_i hopen
        split at h
        · cases h
        · cases h
        · rename_i r1 t1 h1
          simp only [Option.some.injEq] at h
          obtain ⟨_, t2, h2, h⟩ := bind_some h
          simp only [Except.ok.injEq, Prod.mk.injEq] at h
          obtain ⟨rfl, rfl⟩ := h
          have c := rule_cost n ih hw _ _ _ h1 htl
          obtain ⟨g1, _⟩ := (row_wide (.inr rfl) n (row_wide (.inl rfl) n hw)) _ _ _ h1 htl
          obtain ⟨_, ts2, _, ps, _, w2⟩ := takeM_cost h2 g1
          have hs : ts2.text = sShut := by unfold signB at ps; simp at ps; exact ps.2
          have ls := wt_text ts2
          rw [hs] at ls
          cases ts with
          | nil => simp [seesB] at hopen
          | cons u us =>
            have hu : u.text = sOpen := by simp [seesB, signB] at hopen; exact hopen.2
            have hl := wt_text u
            rw [hu] at hl
            have h1 : sOpen.length = 1 := rfl
            have h1' : sShut.length = 1 := rfl
            rw [List.tail_cons] at c
            rw [wtL]
            unfold wT at hl
            unfold lenRule at c
            unfold lenOne
            split <;> omega
      · simp only [Option.some.injEq] at h
        exact atom_cost h hg
end Go.Proofs.YtjkmhlfjheiekaaGreatDoor

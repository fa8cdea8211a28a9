/- A credit's tokens, wherever they stand, are read as the credit that was written. Plain. -/
import Derived.Test.YtjkmhlfjheiekaaGreatDoorPd
import Derived.Test.YtjkmhlfjheiekaaGreatDoorYf
namespace Go.Proofs.YtjkmhlfjheiekaaGreatDoor
open Go Go.RowKit

abbrev KT := List (Int × Txt)
/-- What stands from a place on: kinds and texts. -/
def Ahead (l : List Tok) (k : Nat) (ks : KT) : Prop := kt (l.drop k) = ks
theorem ahead_cons {l : List Tok} {k : Nat} {a : Int} {b : Txt} {ks : KT} (h : Ahead l k ((a, b) :: ks)) : ∃ p, l[k]? = some ⟨a, p, b⟩ ∧ Ahead l (k + 1) ks := by
  unfold Ahead at h ⊢
  cases ht : l[k]? with
  | none => rw [drop_nil ht] at h; cases h
  | some t =>
    rw [drop_cons ht] at h
    obtain ⟨a', p, b'⟩ := t
    simp only [kt, List.map_cons, List.cons.injEq, Prod.mk.injEq] at h
    obtain ⟨⟨rfl, rfl⟩, h⟩ := h
    exact ⟨p, rfl, h⟩
theorem take_ahead {e : Nat} {l : List Tok} {p : Tok → Bool} {k pl : Nat} {a : Int} {b : Txt} {ks : KT} (h : Ahead l k ((a, b) :: ks)) (hp : ∀ q, p ⟨a, q, b⟩ = true) :
    takeS e l p ⟨k, pl, 0⟩ = (b, ⟨k + 1, pl, 0⟩) ∧ Ahead l (k + 1) ks := by
  obtain ⟨q, h1, h2⟩ := ahead_cons h
  refine ⟨?_, h2⟩
  unfold takeS askS textS St.step
  simp [h1, hp]
theorem ask_ahead {l : List Tok} {p : Tok → Bool} {k pl : Nat} {a : Int} {b : Txt} {ks : KT} {v : Bool} (h : Ahead l k ((a, b) :: ks)) (hp : ∀ q, p ⟨a, q, b⟩ = v) : askS l ⟨k, pl, 0⟩ 0 p = v := by
  obtain ⟨q, h1, h2⟩ := ahead_cons h
  unfold askS
  simp [h1, hp]
def nmK (n : Int) : Int × Txt := (2, decN 20 n.toNat)
theorem num_ahead {e : Nat} {l : List Tok} {lo hi : Int} {k pl : Nat} {n : Int} {ks : KT} (h : Ahead l k (nmK n :: ks)) (h0 : 0 ≤ n) (hm : n ≤ 1099511627776) (h1 : lo ≤ n) (h2 : n ≤ hi) :
    numS e l lo hi ⟨k, pl, 0⟩ = (n, ⟨k + 1, pl, 0⟩) ∧ Ahead l (k + 1) ks := by
  obtain ⟨e1, h3⟩ := take_ahead (e := e) (p := kindB 2) (pl := pl) h (fun _ => rfl)
  refine ⟨?_, h3⟩
  have hv : numV (decN 20 n.toNat) = n.toNat := decN_val 20 n.toNat (by omega)
  have hn : ((n.toNat : Nat) : Int) = n := Int.toNat_of_nonneg h0
  unfold numS
  rw [e1]
  simp only
  rw [if_pos trivial, hv, hn, if_neg (by omega)]
theorem word_yes (s : Txt) (q : Nat) : wordB s ⟨0, q, s⟩ = true := by simp [wordB]
theorem sign_yes (s : Txt) (q : Nat) : signB s ⟨5, q, s⟩ = true := by simp [signB]
theorem end_ahead {e : Nat} {l : List Tok} {k pl : Nat} {ks : KT} (h : Ahead l k ((5, sSemi) :: ks)) : endS e l ⟨k, pl, 0⟩ = ⟨k + 1, pl, 0⟩ ∧ Ahead l (k + 1) ks := by
  obtain ⟨e1, h1⟩ := take_ahead (e := e) (p := signB sSemi) (pl := pl) h (sign_yes sSemi)
  exact ⟨by unfold endS; rw [e1], h1⟩
def lineK (x s : Txt) : KT := [(0, x), nmT s, (5, sSemi)]
theorem line_ahead {e : Nat} {l : List Tok} {x s : Txt} {k pl : Nat} {ks : KT} (h : Ahead l k (lineK x s ++ ks)) : lineS e l x ⟨k, pl, 0⟩ = (s, ⟨k + 3, pl, 0⟩) ∧ Ahead l (k + 3) ks := by
  obtain ⟨e1, h1⟩ := take_ahead (e := e) (p := wordB x) (pl := pl) h (word_yes x)
  obtain ⟨e2, h2⟩ := take_ahead (e := e) (p := namedB) (pl := pl) h1 (named_nm s)
  obtain ⟨e3, h3⟩ := end_ahead (e := e) (pl := pl) h2
  refine ⟨?_, h3⟩
  unfold lineS
  rw [e1]; simp only; rw [e2]; simp only; rw [e3]
def dayK (x : Txt) (n : Int) : KT := [(0, x), nmK n, (5, sSemi)]
theorem day_ahead {e : Nat} {l : List Tok} {x : Txt} {n : Int} {k pl : Nat} {ks : KT} (h : Ahead l k (dayK x n ++ ks)) (h0 : 0 ≤ n) (h9 : n ≤ 1048576) : dayS e l x ⟨k, pl, 0⟩ = (n, ⟨k + 3, pl, 0⟩) ∧ Ahead l (k + 3) ks := by
  obtain ⟨e1, h1⟩ := take_ahead (e := e) (p := wordB x) (pl := pl) h (word_yes x)
  obtain ⟨e2, h2⟩ := num_ahead (e := e) (lo := 0) (hi := 1048576) (pl := pl) h1 h0 (by omega) h0 h9
  obtain ⟨e3, h3⟩ := end_ahead (e := e) (pl := pl) h2
  refine ⟨?_, h3⟩
  unfold dayS
  rw [e1]; simp only; rw [e2]; simp only; rw [e3]
def choiceK (x : Txt) (b : Bool) : KT := [(0, x), (0, yesT b), (5, sSemi)]
theorem choice_ahead {e : Nat} {l : List Tok} {x : Txt} {b : Bool} {k pl : Nat} {ks : KT} (h : Ahead l k (choiceK x b ++ ks)) : choiceS e l x ⟨k, pl, 0⟩ = (b, ⟨k + 3, pl, 0⟩) ∧ Ahead l (k + 3) ks := by
  obtain ⟨e1, h1⟩ := take_ahead (e := e) (p := wordB x) (pl := pl) h (word_yes x)
  obtain ⟨e2, h2⟩ := take_ahead (e := e) (p := yesB) (pl := pl) h1 (fun q => by cases b <;> rfl)
  obtain ⟨e3, h3⟩ := end_ahead (e := e) (pl := pl) h2
  refine ⟨?_, h3⟩
  unfold choiceS
  rw [e1]; simp only; rw [e2]; simp only; rw [e3]
  cases b <;> rfl
def tenK (n : Int) : KT := if n = 0 then [(0, wTenor), (0, wSight), (5, sSemi)] else [(0, wTenor), nmK n, (0, wDays), (5, sSemi)]
theorem tenor_ahead {e : Nat} {l : List Tok} {n : Int} {k pl : Nat} {ks : KT} (h : Ahead l k (tenK n ++ ks)) (h0 : 0 ≤ n) (h9 : n ≤ 1048576) : ∃ k', tenorS e l ⟨k, pl, 0⟩ = (n, ⟨k', pl, 0⟩) ∧ Ahead l k' ks := by
  unfold tenK at h
  split at h
  · rename_i hz
    obtain ⟨e1, h1⟩ := take_ahead (e := e) (p := wordB wTenor) (pl := pl) h (word_yes wTenor)
    have h2 := ask_ahead (p := wordB wSight) (pl := pl) h1 (word_yes wSight)
    obtain ⟨q, _, h3⟩ := ahead_cons h1
    obtain ⟨e4, h4⟩ := end_ahead (e := e) (pl := pl) h3
    refine ⟨_, ?_, h4⟩
    unfold tenorS
    rw [e1]; simp only
    unfold tenS
    rw [if_pos h2, hz]
    unfold St.step
    rw [e4]
  · obtain ⟨e1, h1⟩ := take_ahead (e := e) (p := wordB wTenor) (pl := pl) h (word_yes wTenor)
    have h2 := ask_ahead (p := wordB wSight) (pl := pl) (v := false) h1 (fun _ => rfl)
    obtain ⟨e3, h3⟩ := num_ahead (e := e) (lo := 1) (hi := 1048576) (pl := pl) h1 h0 (by omega) (by omega) h9
    obtain ⟨e4, h4⟩ := take_ahead (e := e) (p := wordB wDays) (pl := pl) h3 (word_yes wDays)
    obtain ⟨e5, h5⟩ := end_ahead (e := e) (pl := pl) h4
    refine ⟨_, ?_, h5⟩
    unfold tenorS
    rw [e1]; simp only
    unfold tenS
    rw [if_neg (by rw [h2]; simp), e3]; simp only; rw [e4]; simp only; rw [e5]
def sumK (c : Crd) : KT := [(0, wSum), (4, c.currency), nmK c.amount, (0, wAbove), nmK c.above, (0, wBelow), nmK c.below, (5, sSemi)]
theorem sum_ahead {e : Nat} {l : List Tok} {c : Crd} {k pl : Nat} {ks : KT} (h : Ahead l k (sumK c ++ ks)) (a1 : 1 ≤ c.amount) (a2 : c.amount ≤ 1099511627776) (a3 : 0 ≤ c.above) (a4 : c.above ≤ 1000) (a5 : 0 ≤ c.below) (a6 : c.below ≤ 1000) :
    sumS e l ⟨k, pl, 0⟩ = (⟨c.currency, c.amount, c.above, c.below⟩, ⟨k + 8, pl, 0⟩) ∧ Ahead l (k + 8) ks := by
  obtain ⟨e1, h1⟩ := take_ahead (e := e) (p := wordB wSum) (pl := pl) h (word_yes wSum)
  obtain ⟨e2, h2⟩ := take_ahead (e := e) (p := kindB 4) (pl := pl) h1 (fun _ => rfl)
  obtain ⟨e3, h3⟩ := num_ahead (e := e) (lo := 1) (hi := 1099511627776) (pl := pl) h2 (by omega) a2 a1 a2
  obtain ⟨e4, h4⟩ := take_ahead (e := e) (p := wordB wAbove) (pl := pl) h3 (word_yes wAbove)
  obtain ⟨e5, h5⟩ := num_ahead (e := e) (lo := 0) (hi := 1000) (pl := pl) h4 a3 (by omega) a3 a4
  obtain ⟨e6, h6⟩ := take_ahead (e := e) (p := wordB wBelow) (pl := pl) h5 (word_yes wBelow)
  obtain ⟨e7, h7⟩ := num_ahead (e := e) (lo := 0) (hi := 1000) (pl := pl) h6 a5 (by omega) a5 a6
  obtain ⟨e8, h8⟩ := end_ahead (e := e) (pl := pl) h7
  refine ⟨?_, h8⟩
  unfold sumS
  simp only [e1, e2, e3, e4, e5, e6, e7, e8]

/-- A rule in front of something that goes on with neither 'and' nor 'or'. -/
theorem rule_front {r : Rul} (hm : mayR r = true) {e N M : Nat} {u v : List Tok} (hu : kt u = tokR r) (hN : u.length < N) (hM : u.length < M) (hv : noAnd v) (hv2 : noOr v) : ruleOf (oneP e N) M (u ++ v) = some (.ok (r, v)) := by
  have h := one_ok r hm
  have hs : ∀ c ∈ r.sub, OneOk c ∧ ∀ d ∈ c.sub, OneOk d := by
    intro c hc
    obtain ⟨k, p, f, x, n, L⟩ := r
    simp only [Rul.sub] at hc
    have hl : mayL L = true := by
      have hne : 0 < L.length := List.length_pos_of_mem hc
      rw [mayR] at hm
      split at hm
      · simp only [Bool.and_eq_true] at hm; exact hm.2
      · split at hm
        · simp only [Bool.and_eq_true] at hm; exact hm.2
        · exfalso
          split at hm
          · simp only [Bool.and_eq_true, decide_eq_true_eq] at hm; omega
          · split at hm
            · simp only [Bool.and_eq_true, decide_eq_true_eq] at hm; omega
            · split at hm
              · simp only [Bool.and_eq_true, decide_eq_true_eq] at hm; omega
              · cases hm
    exact one_okL L hl c hc
  exact rule_ok (e := e) (N := N) (M := M) hm (fun _ => h.1) h.2 (fun c hc => (hs c hc).2) hu hN hM hv hv2
/-- May a need be? -/
def needP (x : NdP) : Bool := decide (0 ≤ x.1) && decide (x.1 < 6) && (decide (1 ≤ x.2.1) && decide (x.2.1 ≤ 9)) && (alwaysR x.2.2 || (decide (depthR x.2.2 ≤ 16) && mayR x.2.2))
theorem always_is {r : Rul} (h : alwaysR r = true) : r = emptyR := by
  obtain ⟨k, p, f, x, n, L⟩ := r
  simp only [alwaysR, Bool.and_eq_true, beq_iff_eq] at h
  obtain ⟨⟨⟨⟨⟨rfl, rfl⟩, rfl⟩, rfl⟩, rfl⟩, h⟩ := h
  rw [List.eq_nil_of_length_eq_zero h]; rfl
def withK (r : Rul) : KT := if alwaysR r = true then [] else (0, wWith) :: tokR r
def needK (x : NdP) : KT := [(0, wWants), (0, paperT x.1), (0, wCopies), nmK x.2.1] ++ withK x.2.2 ++ [(5, sSemi)]
theorem paper_yes {p : Int} (h0 : 0 ≤ p) (h6 : p < 6) : paperI (paperT p) = p := by
  have := paper_back p.toNat (by omega)
  unfold paperT
  rw [this]; omega
theorem with_ahead {e : Nat} {l : List Tok} {r : Rul} {k pl : Nat} {ks : KT} (h : Ahead l k (withK r ++ (5, sSemi) :: ks)) (hr : alwaysR r = true ∨ depthR r ≤ 16 ∧ mayR r = true) :
    ∃ k' pl', withS e l ⟨k, pl, 0⟩ = (r, ⟨k', pl', 0⟩) ∧ Ahead l k' ((5, sSemi) :: ks) ∧ k ≤ k' := by
  unfold withK at h
  by_cases ha : alwaysR r = true
  · rw [if_pos ha, List.nil_append] at h
    have h1 := ask_ahead (p := wordB wWith) (pl := pl) (v := false) h (fun _ => rfl)
    refine ⟨k, pl, ?_, h, Nat.le_refl _⟩
    unfold withS
    rw [if_neg (by rw [h1]; simp), always_is ha]
  · rw [if_neg ha, List.cons_append] at h
    obtain ⟨hd, hm⟩ := hr.resolve_left ha
    have h1 := ask_ahead (p := wordB wWith) (pl := pl) h (word_yes wWith)
    obtain ⟨q, hlk, h2⟩ := ahead_cons h
    have hlt : k < l.length := (List.getElem?_eq_some_iff.1 hlk).1
    obtain ⟨u, v, hs, hu, hv⟩ := kt_split (ts := l.drop (k + 1)) h2
    have hul : u.length ≤ l.length := by have := congrArg List.length hs; simp at this; omega
    obtain ⟨p5, v', rfl, _⟩ := kt_cons hv
    have hrule := rule_front (e := e) (N := 2 * l.length + 2) (M := 2 * l.length + 2) hm hu (by omega) (by omega) (v := ⟨5, p5, sSemi⟩ :: v') rfl rfl
    have hag := (whole_agree e l (2 * l.length + 2) (by omega)).2 ⟨k + 1, pl, 0⟩ ⟨rfl, hlt⟩ (by simp only; omega)
    obtain ⟨x, y, i1, i2, i3, i4⟩ := hag
    have hw : wholeP e (2 * l.length + 2) (l.drop (k + 1)) = some (.ok (r, ⟨5, p5, sSemi⟩ :: v')) := by
      rw [wholeP, ruleP, hs, hrule]
      simp only
      rw [if_neg (by rw [may_crowd r hm]; simp; omega)]
    simp only at i2
    rw [hw] at i2
    obtain rfl := Option.some.inj i2
    obtain ⟨x1, ⟨xk, xp, xc⟩⟩ := x
    obtain ⟨rfl, rfl, _, hdr⟩ := i3
    simp only at hdr i4
    refine ⟨xk, xp, ?_, ?_, by have := i4 trivial; omega⟩
    · unfold withS
      rw [if_pos h1]
      unfold St.step wholeG
      rw [i1]; rfl
    · unfold Ahead
      rw [← hdr, hv]
theorem need_ahead {e : Nat} {l : List Tok} {x : NdP} {k pl : Nat} {ks : KT} (h : Ahead l k (needK x ++ ks)) (hx : needP x = true) :
    ∃ k' pl', needS e l ⟨k, pl, 0⟩ = (x, ⟨k', pl', 0⟩) ∧ Ahead l k' ks ∧ k < k' := by
  obtain ⟨kd, n, r⟩ := x
  unfold needP at hx
  simp only [Bool.and_eq_true, Bool.or_eq_true, decide_eq_true_eq] at hx
  obtain ⟨⟨⟨a1, a2⟩, a3, a4⟩, a5⟩ := hx
  simp only [needK, List.cons_append, List.nil_append, List.append_assoc] at h
  obtain ⟨e1, h1⟩ := take_ahead (e := e) (p := wordB wWants) (pl := pl) h (word_yes wWants)
  obtain ⟨e2, h2⟩ := take_ahead (e := e) (p := paperB) (pl := pl) h1 (fun q => by simp [paperB, paper_yes a1 a2, a1])
  obtain ⟨e3, h3⟩ := take_ahead (e := e) (p := wordB wCopies) (pl := pl) h2 (word_yes wCopies)
  obtain ⟨e4, h4⟩ := num_ahead (e := e) (lo := 1) (hi := 9) (pl := pl) h3 (by omega) (by omega) a3 a4
  obtain ⟨k5, p5, e5, h5, hk5⟩ := with_ahead (e := e) (pl := pl) h4 a5
  obtain ⟨e6, h6⟩ := end_ahead (e := e) (pl := p5) h5
  refine ⟨_, p5, ?_, h6, by omega⟩
  unfold needS
  simp only [e1, e2, e3, e4, e5, e6, paper_yes a1 a2]
  rw [Int.max_eq_left a1]
theorem needs_ahead {e : Nat} {l : List Tok} : ∀ (T : List NdP) (n c : Nat) {k pl : Nat} {ks : KT}, (∀ x ∈ T, needP x = true) → c + T.length ≤ 64 → Ahead l k (T.flatMap needK ++ ks) →
    ∃ k' pl', needsS e l (n + T.length) c ⟨k, pl, 0⟩ = (T ++ (needsS e l n (c + T.length) ⟨k', pl', 0⟩).1, (needsS e l n (c + T.length) ⟨k', pl', 0⟩).2) ∧ Ahead l k' ks
  | [], n, c, k, pl, ks, _, _, h => ⟨k, pl, rfl, h⟩
  | x :: T, n, c, k, pl, ks, hx, hc, h => by
    rw [List.flatMap_cons, List.append_assoc] at h
    rw [List.length_cons] at hc
    obtain ⟨k1, p1, e1, h1, hk⟩ := need_ahead (e := e) (pl := pl) h (hx x (by simp))
    obtain ⟨k2, p2, e2, h2⟩ := needs_ahead T n (c + 1) (pl := p1) (fun y hy => hx y (by simp [hy])) (by omega) h1
    have hlt : k < l.length := by
      simp only [needK, List.cons_append] at h
      obtain ⟨q, hlk, _⟩ := ahead_cons h
      exact (List.getElem?_eq_some_iff.1 hlk).1
    refine ⟨k2, p2, ?_, h2⟩
    rw [List.length_cons, ← Nat.add_assoc, needsS, if_pos ⟨rfl, hlt⟩]
    have hf : fullS e l c ⟨k, pl, 0⟩ = ⟨k, pl, 0⟩ := by unfold fullS; rw [if_neg (by omega)]
    rw [hf, e1]
    simp only
    rw [e2, show c + (T.length + 1) = c + 1 + T.length by omega]
    rfl
def confK (s : Txt) : KT := if s = [] then [] else lineK wConfirmer s
/-- The tokens of a credit, ahead of its needs. -/
def topK (c : Crd) : KT := lineK wCredit c.number ++ (lineK wApplicant c.applicant ++ (lineK wBeneficiary c.beneficiary ++ (lineK wIssuer c.issuer ++ (confK c.confirmer ++ (lineK wFrom c.orig ++ (lineK wTo c.dest ++ (sumK c ++ (dayK wLatest c.latest ++ (dayK wExpiry c.expiry ++ ([(0, wWithin), nmK c.within, (0, wDays), (5, sSemi)] ++ (tenK c.tenor ++ (choiceK wPartial c.part ++ choiceK wChange c.change))))))))))))
theorem conf_ahead {e : Nat} {l : List Tok} {s y : Txt} {k pl : Nat} {ks : KT} (h : Ahead l k (confK s ++ (lineK wFrom y ++ ks))) : ∃ k', confS e l ⟨k, pl, 0⟩ = (s, ⟨k', pl, 0⟩) ∧ Ahead l k' (lineK wFrom y ++ ks) := by
  unfold confK at h
  split at h
  · rename_i hz
    rw [List.nil_append] at h
    have h1 := ask_ahead (p := wordB wConfirmer) (pl := pl) (v := false) h (fun _ => rfl)
    refine ⟨k, ?_, h⟩
    unfold confS
    rw [if_neg (by rw [h1]; simp), hz]
  · have h1 := ask_ahead (p := wordB wConfirmer) (pl := pl) h (word_yes wConfirmer)
    obtain ⟨e2, h2⟩ := line_ahead (e := e) (pl := pl) h
    refine ⟨_, ?_, h2⟩
    unfold confS
    rw [if_pos h1, e2]
/-- Bounds of a credit's numbers. -/
structure Crd.fits (c : Crd) : Prop where
  amount : 1 ≤ c.amount ∧ c.amount ≤ 1099511627776
  above : 0 ≤ c.above ∧ c.above ≤ 1000
  below : 0 ≤ c.below ∧ c.below ≤ 1000
  latest : 0 ≤ c.latest ∧ c.latest ≤ 1048576
  expiry : 0 ≤ c.expiry ∧ c.expiry ≤ 1048576
  within : 0 ≤ c.within ∧ c.within ≤ 1048576
  tenor : 0 ≤ c.tenor ∧ c.tenor ≤ 1048576
/-- **A credit's tokens are read as the credit**, whatever stands behind the needs. -/
theorem credit_ahead {e : Nat} {l : List Tok} {c : Crd} {T : List NdP} {ks : KT} (hc : c.fits) (hT : ∀ x ∈ T, needP x = true) (h64 : T.length ≤ 64) (h : kt l = topK c ++ (T.flatMap needK ++ ks)) :
    ∃ n k pl, l.length + 1 = n + T.length ∧ 1 ≤ n ∧ Ahead l k ks ∧ creditS e l ⟨0, 0, 0⟩ = ((c, T ++ (needsS e l n T.length ⟨k, pl, 0⟩).1), (needsS e l n T.length ⟨k, pl, 0⟩).2) := by
  have h0 : Ahead l 0 (topK c ++ (T.flatMap needK ++ ks)) := h
  simp only [topK, List.append_assoc] at h0
  obtain ⟨e1, h1⟩ := line_ahead (e := e) (pl := 0) h0
  obtain ⟨e2, h2⟩ := line_ahead (e := e) (pl := 0) h1
  obtain ⟨e3, h3⟩ := line_ahead (e := e) (pl := 0) h2
  obtain ⟨e4, h4⟩ := line_ahead (e := e) (pl := 0) h3
  obtain ⟨k5, e5, h5⟩ := conf_ahead (e := e) (pl := 0) h4
  obtain ⟨e6, h6⟩ := line_ahead (e := e) (pl := 0) h5
  obtain ⟨e7, h7⟩ := line_ahead (e := e) (pl := 0) h6
  obtain ⟨e8, h8⟩ := sum_ahead (e := e) (pl := 0) h7 hc.amount.1 hc.amount.2 hc.above.1 hc.above.2 hc.below.1 hc.below.2
  obtain ⟨e9, h9⟩ := day_ahead (e := e) (pl := 0) h8 hc.latest.1 hc.latest.2
  obtain ⟨e10, h10⟩ := day_ahead (e := e) (pl := 0) h9 hc.expiry.1 hc.expiry.2
  obtain ⟨e11, h11⟩ := take_ahead (e := e) (p := wordB wWithin) (pl := 0) h10 (word_yes wWithin)
  obtain ⟨e12, h12⟩ := num_ahead (e := e) (lo := 0) (hi := 1048576) (pl := 0) h11 hc.within.1 (by have := hc.within.2; omega) hc.within.1 hc.within.2
  obtain ⟨e13, h13⟩ := take_ahead (e := e) (p := wordB wDays) (pl := 0) h12 (word_yes wDays)
  obtain ⟨e14, h14⟩ := end_ahead (e := e) (pl := 0) h13
  obtain ⟨k15, e15, h15⟩ := tenor_ahead (e := e) (pl := 0) h14 hc.tenor.1 hc.tenor.2
  obtain ⟨e16, h16⟩ := choice_ahead (e := e) (pl := 0) h15
  obtain ⟨e17, h17⟩ := choice_ahead (e := e) (pl := 0) h16
  have hl : T.length ≤ l.length := by
    have h2 := congrArg List.length h
    rw [kt_len, List.length_append, List.length_append] at h2
    have h3 : ∀ T : List NdP, T.length ≤ (T.flatMap needK).length := by
      intro T
      induction T with
      | nil => simp
      | cons x T ih => rw [List.flatMap_cons, List.length_append, List.length_cons]; have : 1 ≤ (needK x).length := by { simp [needK] }; omega
    have := h3 T
    omega
  obtain ⟨n, hn⟩ : ∃ n, l.length + 1 = n + T.length := ⟨l.length + 1 - T.length, by omega⟩
  obtain ⟨k18, p18, e18, h18⟩ := needs_ahead (e := e) T n 0 (pl := 0) hT (by omega) h17
  rw [← hn, Nat.zero_add] at e18
  refine ⟨n, k18, p18, hn, by omega, h18, ?_⟩
  unfold creditS
  simp only [e1, e2, e3, e4, e5, e6, e7, e8, e9, e10, e11, e12, e13, e14, e15, e16, e17, e18]
theorem needs_end {e : Nat} {l : List Tok} {n c k pl : Nat} (h : Ahead l k []) : needsS e l n c ⟨k, pl, 0⟩ = ([], ⟨k, pl, 0⟩) := by
  have hk : ¬ k < l.length := fun hk => by
    have := congrArg List.length h
    rw [kt_len, List.length_drop] at this
    simp at this; omega
  cases n with
  | zero => rfl
  | succ n => rw [needsS, if_neg (fun hx => hk hx.2)]
/-- All tokens: the credit. -/
theorem credit_read {e : Nat} {l : List Tok} {c : Crd} {T : List NdP} (hc : c.fits) (hT : ∀ x ∈ T, needP x = true) (h64 : T.length ≤ 64) (h : kt l = topK c ++ T.flatMap needK) :
    ∃ k pl, creditS e l ⟨0, 0, 0⟩ = ((c, T), ⟨k, pl, 0⟩) := by
  obtain ⟨n, k, pl, _, _, h1, h2⟩ := credit_ahead (e := e) (ks := []) hc hT h64 (by rw [h, List.append_nil])
  rw [needs_end h1] at h2
  exact ⟨k, pl, by rw [h2]; simp⟩
end Go.Proofs.YtjkmhlfjheiekaaGreatDoor

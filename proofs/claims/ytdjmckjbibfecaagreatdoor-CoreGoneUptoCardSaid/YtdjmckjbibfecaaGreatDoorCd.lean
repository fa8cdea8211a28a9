/- The program's cores are the document's. (Plain: no program.) -/
import Derived.Test.YtdjmckjbibfecaaGreatDoorCc
namespace Go.Proofs.YtdjmckjbibfecaaGreatDoor
open Go

/-- The program's set, by places. -/
def setP (m a : Nat) (i : Nat) : Bool := a.testBit (m - 1 - i)
def explB (t : Tree) (stn : Nat → Nat) (m a : Nat) : Bool := !((canT (wOf stn (setP m a)) t 0).1.testBit 0)
def coresP (t : Tree) (stn : Nat → Nat) (m : Nat) (ss : List Nat) : List (List Nat) := (foundM (explB t stn m) ss).map (plcM 0 m)
/-- The document's. -/
def plcD (m a : Nat) : List Nat := (List.range m).filter fun i => a.testBit i
def explRB (t : Tree) (st : List Int) (a : Nat) : Bool := (List.range (freeD (fun i => a.testBit i) st.length 0)).all fun x => decide ((evalT (atL (fillD (fun i => a.testBit i) st 0 x)) t 0).1 ≠ 0)
def leastRB (t : Tree) (st : List Int) (a : Nat) : Bool := (List.range st.length).all fun i => !(a.testBit i && explRB t st (a - 2 ^ i))
def stepD (t : Tree) (st : List Int) (out : List (List Nat)) (a : Nat) : List (List Nat) := if explRB t st a && leastRB t st a then insD (plcD st.length a) out else out
def coresD (t : Tree) (st : List Int) : List (List Nat) := (List.range (2 ^ st.length)).foldl (stepD t st) []

theorem mask_of : ∀ (n : Nat) (T : Nat → Bool), ∃ a, a < 2 ^ n ∧ ∀ i, i < n → a.testBit i = T i
  | 0, _ => ⟨0, by simp, fun i h => by omega⟩
  | n + 1, T => by
    obtain ⟨a, ha, h⟩ := mask_of n T
    cases hT : T n with
    | false =>
      refine ⟨a, by rw [Nat.pow_succ]; omega, fun i hi => ?_⟩
      by_cases e : i = n
      · subst e; rw [hT]; exact Nat.testBit_lt_two_pow ha
      · exact h i (by omega)
    | true =>
      refine ⟨2 ^ n + a, by rw [Nat.pow_succ]; omega, fun i hi => ?_⟩
      by_cases e : i = n
      · subst e; rw [hT, Nat.testBit_two_pow_add_eq, Nat.testBit_lt_two_pow ha]; rfl
      · rw [Nat.testBit_two_pow_add_gt (by omega)]; exact h i (by omega)
theorem mask_ext {m a b : Nat} (ha : a < 2 ^ m) (hb : b < 2 ^ m) (h : ∀ i, i < m → a.testBit i = b.testBit i) : a = b := by
  apply Nat.eq_of_testBit_eq
  intro i
  by_cases hi : i < m
  · exact h i hi
  · rw [Nat.testBit_lt_two_pow (Nat.lt_of_lt_of_le ha (Nat.pow_le_pow_right (by omega) (by omega))), Nat.testBit_lt_two_pow (Nat.lt_of_lt_of_le hb (Nat.pow_le_pow_right (by omega) (by omega)))]
/-- A least set that is enough, as a row of places. -/
def IsCore (t : Tree) (stn : Nat → Nat) (p : List Nat) : Prop :=
  ∃ S : Nat → Bool, p = (List.range (atomsT t).length).filter S ∧ Enough t stn S ∧ ∀ i, i < (atomsT t).length → S i = true → ¬ Enough t stn (fun q => S q && decide (q ≠ i))
theorem enough_cong {t : Tree} {stn : Nat → Nat} {S S' : Nat → Bool} (h : ∀ i, i < (atomsT t).length → S i = S' i) : Enough t stn S ↔ Enough t stn S' :=
  ⟨fun e => e.mono fun i hi hS => by rw [← h i hi]; exact hS, fun e => e.mono fun i hi hS => by rw [h i hi]; exact hS⟩
theorem filter_cong_lt {m : Nat} {S S' : Nat → Bool} (h : ∀ i, i < m → S i = S' i) : (List.range m).filter S = (List.range m).filter S' :=
  List.filter_congr fun i hi => h i (List.mem_range.1 hi)
theorem sub_bit : ∀ (i : Nat) {a : Nat} (_ : a.testBit i = true) (q : Nat), (a - 2 ^ i).testBit q = (a.testBit q && decide (q ≠ i))
  | 0, a, h, q => by
    have ho : a % 2 = 1 := by simpa [Nat.testBit_zero] using h
    cases q with
    | zero => simp [Nat.testBit_zero]; omega
    | succ q =>
      rw [Nat.testBit_succ, Nat.testBit_succ, Nat.pow_zero, show (a - 1) / 2 = a / 2 by omega]
      simp
  | i + 1, a, h, q => by
    have hle : 2 ^ (i + 1) ≤ a := Nat.ge_two_pow_of_testBit h
    rw [Nat.pow_succ] at hle ⊢
    rw [Nat.testBit_succ] at h
    cases q with
    | zero =>
      rw [Nat.testBit_zero, Nat.testBit_zero, show (a - 2 ^ i * 2) % 2 = a % 2 by omega]
      simp
    | succ q =>
      rw [Nat.testBit_succ, Nat.testBit_succ, show (a - 2 ^ i * 2) / 2 = a / 2 - 2 ^ i by omega, sub_bit i h q]
      congr 1
      simp
section
variable {t : Tree} {stn : Nat → Nat} (h3 : ∀ i, stn i < 3)
include h3
theorem explB_iff (m a : Nat) : explB t stn m a = true ↔ Enough t stn (setP m a) := by
  unfold explB
  rw [Bool.not_eq_true', explains_iff h3]
theorem coreP_iff {m : Nat} (hm : (atomsT t).length = m) {p : List Nat} : (∃ a, a < 2 ^ m ∧ explB t stn m a = true ∧ (∀ b, b < 2 ^ m → subB b a = true → b ≠ a → explB t stn m b = false) ∧ p = plcM 0 m a) ↔ IsCore t stn p := by
  have hpl : ∀ a, plcM 0 m a = (List.range m).filter (setP m a) := fun a => by
    rw [plcM_filter, ← List.range_eq_range']
    congr 1
    funext i
    unfold setP
    congr 1
    omega
  unfold IsCore
  constructor
  · rintro ⟨a, ha, he, hl, rfl⟩
    refine ⟨setP m a, by rw [hm, hpl], (explB_iff h3 m a).1 he, fun i hi hS hE => ?_⟩
    rw [hm] at hi
    obtain ⟨b, hb, hT⟩ := mask_of m (fun k => a.testBit k && decide (k ≠ m - 1 - i))
    have hsb : ∀ q, q < (atomsT t).length → setP m b q = (setP m a q && decide (q ≠ i)) := fun q hq => by
      unfold setP
      rw [hT _ (by omega)]
      congr 1
      have : m - 1 - q ≠ m - 1 - i ↔ q ≠ i := by omega
      simp only [this]
    have hbe := (explB_iff h3 m b).2 ((enough_cong hsb).2 hE)
    have hs : subB b a = true := subB_iff.2 fun k hk => by
      by_cases hkm : k < m
      · rw [hT k hkm, Bool.and_eq_true] at hk; exact hk.1
      · rw [Nat.testBit_lt_two_pow (Nat.lt_of_lt_of_le hb (Nat.pow_le_pow_right (by omega) (by omega)))] at hk; cases hk
    have hne : b ≠ a := by
      rintro rfl
      have := hsb i (by omega)
      rw [hS] at this
      simp at this
    rw [hl b hb hs hne] at hbe
    cases hbe
  · rintro ⟨S, rfl, hE, hl⟩
    obtain ⟨a, ha, hT⟩ := mask_of m (fun k => S (m - 1 - k))
    have hsa : ∀ q, q < (atomsT t).length → setP m a q = S q := fun q hq => by
      unfold setP
      rw [hT _ (by omega)]
      congr 1
      omega
    refine ⟨a, ha, (explB_iff h3 m a).2 ((enough_cong hsa).2 hE), fun b hb hs hne => ?_, by rw [hpl, hm]; exact filter_cong_lt fun i hi => (hsa i (by omega)).symm⟩
    cases hbe : explB t stn m b with
    | false => rfl
    | true =>
      have hbE := (explB_iff h3 m b).1 hbe
      have : ∃ k, k < m ∧ a.testBit k = true ∧ b.testBit k = false := by
        refine Classical.byContradiction fun hno => hne (mask_ext hb ha fun i hi => ?_)
        cases hai : a.testBit i with
        | true =>
          cases hbi : b.testBit i with
          | true => rfl
          | false => exact absurd ⟨i, hi, hai, hbi⟩ hno
        | false =>
          cases hbi : b.testBit i with
          | true => have := subB_iff.1 hs i hbi; rw [hai] at this; cases this
          | false => rfl
      obtain ⟨k, hk, hak, hbk⟩ := this
      refine absurd (hbE.mono fun i hi hS => ?_) (hl (m - 1 - k) (by omega) ?_)
      · unfold setP at hS
        have h1 := subB_iff.1 hs _ hS
        have h2 : S i = true := by rw [← hsa i hi]; exact h1
        have h4 : i ≠ m - 1 - k := by
          rintro rfl
          rw [show m - 1 - (m - 1 - k) = k by omega, hbk] at hS
          cases hS
        simp [h2, h4]
      · rw [← hsa _ (by omega)]
        unfold setP
        rw [show m - 1 - (m - 1 - k) = k by omega]
        exact hak
theorem explRB_iff {st : List Int} (hl : st.length = (atomsT t).length) (hst : ∀ i, i < st.length → st[i]? = some (stn i : Int)) (a : Nat) : explRB t st a = true ↔ Enough t stn (fun i => a.testBit i) := by
  rw [← explD_iff hl hst h3]
  unfold explRB explD
  rw [List.all_eq_true]
  simp only [List.mem_range, decide_eq_true_eq]
theorem coreD_iff {st : List Int} {m : Nat} (hm : (atomsT t).length = m) (hl : st.length = m) (hst : ∀ i, i < st.length → st[i]? = some (stn i : Int)) {p : List Nat} : (∃ a, a < 2 ^ m ∧ (explRB t st a && leastRB t st a) = true ∧ p = plcD m a) ↔ IsCore t stn p := by
  have hl' : st.length = (atomsT t).length := by omega
  unfold IsCore
  have hleast : ∀ a, leastRB t st a = true ↔ ∀ i, i < m → a.testBit i = true → ¬ Enough t stn (fun q => a.testBit q && decide (q ≠ i)) := fun a => by
    unfold leastRB
    rw [List.all_eq_true]
    simp only [List.mem_range, hl]
    constructor
    · intro h i hi hb hE
      have h1 := h i hi
      rw [hb, Bool.true_and, Bool.not_eq_true'] at h1
      have h2 := (explRB_iff h3 hl' hst (a - 2 ^ i)).2 ((enough_cong fun q _ => sub_bit _ hb q).2 hE)
      rw [h1] at h2
      cases h2
    · intro h i hi
      cases hb : a.testBit i with
      | false => rfl
      | true =>
        cases he : explRB t st (a - 2 ^ i) with
        | false => rfl
        | true => exact absurd ((enough_cong fun q _ => sub_bit _ hb q).1 ((explRB_iff h3 hl' hst _).1 he)) (h i hi hb)
  constructor
  · rintro ⟨a, ha, he, rfl⟩
    rw [Bool.and_eq_true] at he
    exact ⟨fun i => a.testBit i, by rw [hm]; rfl, (explRB_iff h3 hl' hst a).1 he.1, fun i hi => (hleast a).1 he.2 i (by omega)⟩
  · rintro ⟨S, rfl, hE, hls⟩
    obtain ⟨a, ha, hT⟩ := mask_of m S
    refine ⟨a, ha, ?_, ?_⟩
    · rw [Bool.and_eq_true]
      refine ⟨(explRB_iff h3 hl' hst a).2 ((enough_cong fun q hq => hT q (by omega)).2 hE), (hleast a).2 fun i hi hb hE' => hls i (by omega) (by rw [← hT i hi]; exact hb) ((enough_cong fun q hq => ?_).1 hE')⟩
      rw [hT q (by omega)]
    · rw [hm]; exact (filter_cong_lt fun i hi => (hT i hi)).symm
end
theorem plcD_inj {m a b : Nat} (ha : a < 2 ^ m) (hb : b < 2 ^ m) (h : plcD m a = plcD m b) : a = b := by
  refine mask_ext ha hb fun i hi => ?_
  have h1 : i ∈ plcD m a ↔ a.testBit i = true := by unfold plcD; simp [hi]
  have h2 : i ∈ plcD m b ↔ b.testBit i = true := by unfold plcD; simp [hi]
  rw [h] at h1
  have := h1.symm.trans h2
  rw [Bool.eq_iff_iff]
  exact this
theorem foldD {t : Tree} {st : List Int} {m : Nat} (hl : st.length = m) : ∀ (n : Nat), n ≤ 2 ^ m → ((List.range n).foldl (stepD t st) []).Pairwise (fun p q => beforeB p q = true) ∧
    ∀ p, p ∈ (List.range n).foldl (stepD t st) [] ↔ ∃ a, a < n ∧ (explRB t st a && leastRB t st a) = true ∧ p = plcD m a
  | 0, _ => by simp
  | n + 1, h => by
    obtain ⟨h1, h2⟩ := foldD (t := t) hl n (by omega)
    rw [List.range_succ, List.foldl_append, List.foldl_cons, List.foldl_nil]
    obtain ⟨out, hout⟩ : ∃ o, (List.range n).foldl (stepD t st) [] = o := ⟨_, rfl⟩
    simp only [hout] at h1 h2 ⊢
    unfold stepD
    by_cases hc : (explRB t st n && leastRB t st n) = true
    · rw [if_pos hc, hl]
      refine ⟨insD_sorted h1 fun hp => ?_, fun p => ?_⟩
      · obtain ⟨a, ha, _, e⟩ := (h2 _).1 hp
        have := plcD_inj (by omega) (by omega) e
        omega
      · rw [insD_mem]
        constructor
        · rintro (rfl | hp)
          · exact ⟨n, by omega, hc, rfl⟩
          · obtain ⟨a, ha, h3, e⟩ := (h2 p).1 hp
            exact ⟨a, by omega, h3, e⟩
        · rintro ⟨a, ha, h3, e⟩
          by_cases hn : a = n
          · subst hn; exact .inl e
          · exact .inr ((h2 p).2 ⟨a, by omega, h3, e⟩)
    · rw [if_neg hc]
      refine ⟨h1, fun p => (h2 p).trans ⟨fun ⟨a, ha, h3, e⟩ => ⟨a, by omega, h3, e⟩, fun ⟨a, ha, h3, e⟩ => ⟨a, ?_, h3, e⟩⟩⟩
      have : a ≠ n := by rintro rfl; exact hc h3
      omega
theorem plc_le : ∀ (n k a b : Nat), (∀ i, i < n → b.testBit i = true → a.testBit i = true) → (plcM k n b).length ≤ (plcM k n a).length ∧ ((∃ i, i < n ∧ a.testBit i = true ∧ b.testBit i = false) → (plcM k n b).length < (plcM k n a).length)
  | 0, _, _, _, _ => ⟨Nat.le_refl _, fun ⟨i, h, _⟩ => by omega⟩
  | n + 1, k, a, b, h => by
    obtain ⟨h1, h2⟩ := plc_le n (k + 1) a b fun i hi => h i (by omega)
    rw [plcM, plcM]
    cases hb : b.testBit n with
    | true =>
      rw [h n (by omega) hb]
      simp only [if_true, List.length_cons]
      refine ⟨by omega, fun ⟨i, hi, ha, hbi⟩ => ?_⟩
      have : i ≠ n := by rintro rfl; rw [hb] at hbi; cases hbi
      have := h2 ⟨i, by omega, ha, hbi⟩
      omega
    | false =>
      cases ha : a.testBit n with
      | true => simp only [if_true, Bool.false_eq_true, if_false, List.length_cons]; exact ⟨by omega, fun _ => by omega⟩
      | false =>
        simp only [Bool.false_eq_true, if_false]
        refine ⟨h1, fun ⟨i, hi, hai, hbi⟩ => h2 ⟨i, ?_, hai, hbi⟩⟩
        have : i ≠ n := by rintro rfl; rw [ha] at hai; cases hai
        omega
/-- Sets in the program's order. -/
def aheadP (m a b : Nat) : Prop := (plcM 0 m a).length < (plcM 0 m b).length ∨ ((plcM 0 m a).length = (plcM 0 m b).length ∧ b < a)
theorem ahead_sub {m a b : Nat} (ha : a < 2 ^ m) (hb : b < 2 ^ m) (h : aheadP m a b) : subB b a = false := by
  cases hs : subB b a with
  | false => rfl
  | true =>
    have hsub := subB_iff.1 hs
    obtain ⟨h1, h2⟩ := plc_le m 0 a b fun i _ => hsub i
    rcases h with h | ⟨h, hlt⟩
    · omega
    · have : ∃ i, i < m ∧ a.testBit i = true ∧ b.testBit i = false := by
        refine Classical.byContradiction fun hno => ?_
        have : b = a := mask_ext hb ha fun i hi => by
          cases hai : a.testBit i with
          | true =>
            cases hbi : b.testBit i with
            | true => rfl
            | false => exact absurd ⟨i, hi, hai, hbi⟩ hno
          | false =>
            cases hbi : b.testBit i with
            | true => have := hsub i hbi; rw [hai] at this; cases this
            | false => rfl
        omega
      have := h2 this
      omega
theorem ahead_before {m a b : Nat} (ha : a < 2 ^ m) (hb : b < 2 ^ m) (h : aheadP m a b) : beforeB (plcM 0 m a) (plcM 0 m b) = true := by
  unfold beforeB
  rcases h with h | ⟨h, hlt⟩
  · rw [if_neg (by omega)]; simpa using h
  · rw [if_pos h]; exact lex_of_gt m 0 a b ha hb hlt h
/-- The law. -/
theorem cores_same {t : Tree} {stn : Nat → Nat} (h3 : ∀ i, stn i < 3) {st : List Int} {m : Nat} (hm : (atomsT t).length = m) (hl : st.length = m) (hst : ∀ i, i < st.length → st[i]? = some (stn i : Int))
    {ss : List Nat} (hmem : ∀ a, a ∈ ss ↔ a < 2 ^ m) (hss : ss.Pairwise (aheadP m)) : coresP t stn m ss = coresD t st := by
  have hlt : ∀ a ∈ ss, a < 2 ^ m := fun a ha => (hmem a).1 ha
  have hsub : ss.Pairwise (fun a b => subB b a = false) := List.Pairwise.imp_of_mem (fun ha hb h => ahead_sub (hlt _ ha) (hlt _ hb) h) hss
  obtain ⟨f1, f2⟩ := found_spec (E := explB t stn m) hsub
  obtain ⟨d1, d2⟩ := foldD (t := t) hl (2 ^ m) (Nat.le_refl _)
  unfold coresP coresD
  rw [hl]
  refine sorted_ext ?_ d1 fun p => ?_
  · rw [List.pairwise_map]
    refine List.Pairwise.imp_of_mem (fun ha hb h => ahead_before (hlt _ (f1.subset ha)) (hlt _ (f1.subset hb)) h) (hss.sublist f1)
  · rw [d2 p, coreD_iff h3 hm hl hst, ← coreP_iff h3 hm, List.mem_map]
    constructor
    · rintro ⟨a, ha, rfl⟩
      obtain ⟨g1, g2, g3⟩ := (f2 a).1 ha
      exact ⟨a, hlt a g1, g2, fun b hb => g3 b ((hmem b).2 hb), rfl⟩
    · rintro ⟨a, ha, g2, g3, rfl⟩
      exact ⟨a, (f2 a).2 ⟨(hmem a).2 ha, g2, fun b hb => g3 b (hlt b hb)⟩, rfl⟩
end Go.Proofs.YtdjmckjbibfecaaGreatDoor

/- Cores are enough, lie apart, and there is one. (Plain: no program.) -/
import Derived.Test.YtdjmckjbibfecaaGreatDoorWh
namespace Go.Proofs.YtdjmckjbibfecaaGreatDoor
open Go

/-- A row of places as a set, bit by bit. -/
def orL (s : Nat) (l : List Nat) : Nat := l.foldl (fun s i => s ||| 2 ^ i) s
theorem orL_snoc (s : Nat) (l : List Nat) (i : Nat) : orL s (l ++ [i]) = orL s l ||| 2 ^ i := by simp [orL]
theorem orL_bit : ∀ (l : List Nat) (s i : Nat), (orL s l).testBit i = (s.testBit i || decide (i ∈ l))
  | [], s, i => by simp [orL]
  | a :: l, s, i => by
    have h := orL_bit l (s ||| 2 ^ a) i
    rw [show orL s (a :: l) = orL (s ||| 2 ^ a) l from rfl, h, Nat.testBit_or, Nat.testBit_two_pow]
    by_cases e : a = i
    · subst e; simp
    · have e' : ¬ i = a := fun g => e g.symm
      simp [e, e']
theorem orL_lt : ∀ (l : List Nat) (s m : Nat), s < 2 ^ m → (∀ i ∈ l, i < m) → orL s l < 2 ^ m
  | [], _, _, hs, _ => hs
  | a :: l, s, m, hs, h => orL_lt l _ m (Nat.or_lt_two_pow hs (Nat.pow_lt_pow_right (by omega) (h a (by simp)))) (fun i hi => h i (by simp [hi]))
theorem orL_sub {p q : List Nat} (h : orL 0 p &&& orL 0 q = orL 0 q) : ∀ i ∈ q, i ∈ p := fun i hi => by
  have h1 : (orL 0 p &&& orL 0 q).testBit i = (orL 0 q).testBit i := by rw [h]
  rw [Nat.testBit_and, orL_bit, orL_bit] at h1
  simpa [hi] using h1
theorem orL_sub' {p q : List Nat} (h : orL 0 p &&& orL 0 q = orL 0 p) : ∀ i ∈ p, i ∈ q := fun i hi => by
  rw [Nat.and_comm] at h
  exact orL_sub h i hi
theorem core_lt {t : Tree} {stn : Nat → Nat} {p : List Nat} (h : IsCore t stn p) : ∀ i ∈ p, i < (atomsT t).length := by
  obtain ⟨S, rfl, _⟩ := h
  intro i hi
  exact List.mem_range.1 (List.mem_filter.1 hi).1
theorem core_eval {t : Tree} {stn : Nat → Nat} {p : List Nat} (h : IsCore t stn p) {s : Nat → Int} (hr : inR s 0 (atomsT t).length) (hs : ∀ i ∈ p, s i = stn i) : (evalT s t 0).1 ≠ 0 := by
  obtain ⟨S, rfl, hE, _⟩ := h
  exact hE s hr fun i hi hS => hs i (List.mem_filter.2 ⟨List.mem_range.2 hi, hS⟩)
theorem core_incl {t : Tree} {stn : Nat → Nat} {p q : List Nat} (hp : IsCore t stn p) (hq : IsCore t stn q) (h : ∀ i ∈ p, i ∈ q) : p = q := by
  obtain ⟨S, rfl, hE, _⟩ := hp
  obtain ⟨S', rfl, _, hl⟩ := hq
  have hsub : ∀ i, i < (atomsT t).length → S i = true → S' i = true := fun i hi hS => (List.mem_filter.1 (h i (List.mem_filter.2 ⟨List.mem_range.2 hi, hS⟩))).2
  refine filter_cong_lt fun i hi => ?_
  cases hS' : S' i with
  | false =>
    cases hS : S i with
    | false => rfl
    | true => rw [hsub i hi hS] at hS'; cases hS'
  | true =>
    cases hS : S i with
    | true => rfl
    | false =>
      refine absurd (hE.mono fun k hk hSk => ?_) (hl i hi hS')
      rw [hsub k hk hSk, Bool.true_and, decide_eq_true_eq]
      rintro rfl
      rw [hS] at hSk
      cases hSk
section
variable {t : Tree} {stn : Nat → Nat} (h3 : ∀ i, stn i < 3)
include h3
theorem coresD_core {st : List Int} {m : Nat} (hm : (atomsT t).length = m) (hl : st.length = m) (hst : ∀ i, i < st.length → st[i]? = some (stn i : Int)) {p : List Nat} (hp : p ∈ coresD t st) : IsCore t stn p := by
  have h := ((foldD (t := t) hl (2 ^ m) (Nat.le_refl _)).2 p).1 (by unfold coresD at hp; rw [hl] at hp; exact hp)
  exact (coreD_iff h3 hm hl hst).1 h
theorem coresD_apart {st : List Int} {m : Nat} (hm : (atomsT t).length = m) (hl : st.length = m) (hst : ∀ i, i < st.length → st[i]? = some (stn i : Int)) :
    (coresD t st).Pairwise (fun p q => orL 0 p &&& orL 0 q ≠ orL 0 q ∧ orL 0 p &&& orL 0 q ≠ orL 0 p) := by
  have h := (foldD (t := t) hl (2 ^ m) (Nat.le_refl _)).1
  have h' : (coresD t st).Pairwise (fun p q => beforeB p q = true) := by unfold coresD; rw [hl]; exact h
  refine List.Pairwise.imp_of_mem (fun {p q} hp hq hb => ?_) h'
  have hpc := coresD_core h3 hm hl hst hp
  have hqc := coresD_core h3 hm hl hst hq
  have hne : p ≠ q := by
    rintro rfl
    have := before_asymm hb
    rw [hb] at this
    cases this
  exact ⟨fun e => hne (core_incl hqc hpc (orL_sub e)).symm, fun e => hne (core_incl hpc hqc (orL_sub' e))⟩
omit h3 in
theorem least_mask {st : List Int} : ∀ a : Nat, explRB t st a = true → ∃ b, b ≤ a ∧ (explRB t st b && leastRB t st b) = true := by
  intro a
  induction a using Nat.strongRecOn with
  | _ a ih =>
    intro ha
    cases hl : leastRB t st a with
    | true => exact ⟨a, Nat.le_refl _, by rw [ha, hl]; rfl⟩
    | false =>
      have : ∃ i, a.testBit i = true ∧ explRB t st (a - 2 ^ i) = true := by
        refine Classical.byContradiction fun hno => ?_
        have : leastRB t st a = true := by
          unfold leastRB
          rw [List.all_eq_true]
          intro i _
          cases hb : a.testBit i with
          | false => rfl
          | true =>
            cases he : explRB t st (a - 2 ^ i) with
            | false => rfl
            | true => exact absurd ⟨i, hb, he⟩ hno
        rw [hl] at this
        cases this
      obtain ⟨i, hb, he⟩ := this
      have hle : 2 ^ i ≤ a := Nat.ge_two_pow_of_testBit hb
      have hpos := Nat.two_pow_pos i
      obtain ⟨b, hb1, hb2⟩ := ih (a - 2 ^ i) (by omega) he
      exact ⟨b, by omega, hb2⟩
theorem coresD_some {st : List Int} {m : Nat} (hm : (atomsT t).length = m) (hl : st.length = m) (hst : ∀ i, i < st.length → st[i]? = some (stn i : Int)) (hne : (evalT (fun i => (stn i : Int)) t 0).1 ≠ 0) : coresD t st ≠ [] := by
  obtain ⟨a, ha, hT⟩ := mask_of m (fun _ => true)
  have hE : Enough t stn (fun i => a.testBit i) := by
    intro s hr hs
    rw [evalT_cong (s' := fun i => (stn i : Int)) t 0 (fun i _ hi => hs i (by omega) (hT i (by omega)))]
    exact hne
  have he := (explRB_iff h3 (by omega) hst a).2 hE
  obtain ⟨b, hb, hb2⟩ := least_mask a he
  intro hnil
  have h := ((foldD (t := t) hl (2 ^ m) (Nat.le_refl _)).2 (plcD m b)).2 ⟨b, by omega, hb2, rfl⟩
  unfold coresD at hnil
  rw [hl] at hnil
  rw [hnil] at h
  cases h
end
/-- What the cores of a rule that doesn't stand Fine are. -/
theorem cores_facts {docs : List Pap} {d : Pap} {t : Tree} {a m : Nat} (hd : docs[a]? = some d) (hm : (atomsT t).length = m) (h12 : m ≤ 12) (hne : holdsT docs d t ≠ 0) :
    coresE docs t (a : Int) ≠ [] ∧
    (coresE docs t (a : Int)).Pairwise (fun p q => orL 0 p &&& orL 0 q ≠ orL 0 q ∧ orL 0 p &&& orL 0 q ≠ orL 0 p) ∧
    ∀ p ∈ coresE docs t (a : Int), (∀ i ∈ p, i < m) ∧ ∀ s : List Int, s.length = m → (∀ x ∈ s, 0 ≤ x ∧ x ≤ 2) → (∀ i ∈ p, s[i]? = (stL docs d t)[i]?) → (evalT (atL s) t 0).1 ≠ 0 := by
  have hl : (stL docs d t).length = m := by rw [stL, List.length_map]; exact hm
  have h3 := stN_lt docs d t
  have hst := stN_at docs d t
  have e : coresE docs t (a : Int) = coresD t (stL docs d t) := by
    rw [coresE_in hd, if_neg]
    rintro (h | h)
    · omega
    · exact hne h
  rw [e]
  refine ⟨coresD_some h3 hm hl hst ?_, coresD_apart h3 hm hl hst, fun p hp => ?_⟩
  · rw [holds_eval (docs := docs) (d := d) t 0 (fun i u hi => ?_)]
    · exact hne
    · have hlt : i < (stL docs d t).length := by rw [stL, List.length_map]; exact (List.getElem?_eq_some_iff.1 hi).1
      have := hst i hlt
      rw [stL, List.getElem?_map, hi] at this
      rw [Nat.zero_add]
      exact (Option.some.inj this).symm
  · have hc := coresD_core h3 hm hl hst hp
    refine ⟨fun i hi => by rw [← hm]; exact core_lt hc i hi, fun s hs hr ha => core_eval hc (fun i _ hi => ?_) fun i hi => ?_⟩
    · have hi' : i < s.length := by omega
      unfold atL
      rw [List.getElem?_eq_getElem hi']
      exact hr _ (List.getElem_mem hi')
    · have hi' := core_lt hc i hi
      unfold atL
      rw [ha i hi, hst i (by omega)]
      rfl
end Go.Proofs.YtdjmckjbibfecaaGreatDoor

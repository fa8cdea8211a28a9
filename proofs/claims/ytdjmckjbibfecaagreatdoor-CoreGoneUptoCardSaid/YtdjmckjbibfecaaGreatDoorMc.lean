/- How great a cure is; what stays of papers that are mended. -/
import Derived.Lib.ItoaLen
import Derived.Test.YtdjmckjbibfecaaGreatDoorMa
import Derived.Test.YtdjmckjbibfecaaGreatDoorMb
namespace Go.Proofs.YtdjmckjbibfecaaGreatDoor
open Go Go.RowKit Go.BigFrame Go.Maps

theorem setF_vals {S : Nat} {v : ByteArray} (hv : v.size ≤ S) : ∀ {l : List Fld} {n : ByteArray}, (∀ f ∈ l, f.value.size ≤ S) → ∀ f ∈ setF l n v, f.value.size ≤ S
  | [], n, _, f, hf => by
    rw [setF, List.mem_singleton] at hf
    subst hf
    exact hv
  | x :: l, n, h, f, hf => by
    rw [setF] at hf
    split at hf
    · rcases List.mem_cons.1 hf with rfl | hf
      · exact hv
      · exact h f (by simp [hf])
    · rcases List.mem_cons.1 hf with rfl | hf
      · exact h _ (by simp)
      · exact setF_vals hv (fun g hg => h g (by simp [hg])) f hf
theorem setF_len : ∀ (l : List Fld) (n v : ByteArray), (setF l n v).length ≤ l.length + 1
  | [], n, v => by rw [setF]; simp
  | x :: l, n, v => by
    rw [setF]
    split
    · simp
    · rw [List.length_cons, List.length_cons]
      have := setF_len l n v
      omega
/-- How great the fields' values are, and how many there are of a paper. -/
structure Bnd (S N : Nat) (docs : List Pap) : Prop where
  vals : ∀ d ∈ docs, ∀ f ∈ d.fields, f.value.size ≤ S
  num : ∀ d ∈ docs, d.fields.length ≤ N
theorem bnd_bare {S N : Nat} {docs : List Pap} : Bnd S N (docs.map bare) ↔ Bnd S N docs := by
  constructor
  · intro h
    exact ⟨fun d hd => h.vals (bare d) (List.mem_map_of_mem hd), fun d hd => h.num (bare d) (List.mem_map_of_mem hd)⟩
  · intro h
    refine ⟨fun d hd => ?_, fun d hd => ?_⟩
    · obtain ⟨x, hx, rfl⟩ := List.mem_map.1 hd
      exact h.vals x hx
    · obtain ⟨x, hx, rfl⟩ := List.mem_map.1 hd
      exact h.num x hx
theorem getV_vals {S : Nat} {l : List Fld} {s : ByteArray} (h : ∀ f ∈ l, f.value.size ≤ S) : (getV l s).size ≤ S := by
  unfold getV
  cases hg : getF l s with
  | none => exact Nat.zero_le _
  | some v =>
    obtain ⟨f, hf, rfl⟩ := getF_mem hg
    exact h f hf
theorem fieldD_vals {S N : Nat} : ∀ {docs : List Pap} {k : Int} {s v : ByteArray}, Bnd S N docs → fieldD docs k s = some v → v.size ≤ S
  | [], _, _, _, _, h => by simp [fieldD] at h
  | x :: l, k, s, v, hb, h => by
    rw [fieldD] at h
    split at h
    · obtain ⟨f, hf, rfl⟩ := getF_mem h
      exact hb.vals x (by simp) f hf
    · exact fieldD_vals ⟨fun d hd => hb.vals d (by simp [hd]), fun d hd => hb.num d (by simp [hd])⟩ h
theorem ahead_vals {S N : Nat} {needs : List Nd} : ∀ {docs : List Pap} {s v : ByteArray}, Bnd S N docs → aheadF needs docs s = some v → v.size ≤ S
  | [], _, _, _, h => by simp [aheadF] at h
  | x :: l, s, v, hb, h => by
    rw [aheadF] at h
    split at h
    · rename_i u hu
      obtain rfl := Option.some.inj h
      split at hu
      · obtain ⟨f, hf, rfl⟩ := getF_mem hu
        exact hb.vals x (by simp) f hf
      · cases hu
    · exact ahead_vals ⟨fun d hd => hb.vals d (by simp [hd]), fun d hd => hb.num d (by simp [hd])⟩ h
/-- How great what a credit says is. -/
structure BndC (S : Nat) (c : Crd) (needs : List Nd) : Prop where
  ben : c.beneficiary.size ≤ S
  app : c.applicant.size ≤ S
  cur : c.currency.size ≤ S
  amount : -9223372036854775808 ≤ c.amount ∧ c.amount ≤ 9223372036854775807
  latest : -9223372036854775808 ≤ c.latest ∧ c.latest ≤ 9223372036854775807
  base : 21 ≤ S
  rule : ∀ x ∈ needs, ∀ u ∈ partsT x.rule, u.text.size ≤ 12200 ∧ (-9223372036854775808 ≤ u.num ∧ u.num ≤ 9223372036854775807)
theorem itoa_small {n : Int} {S : Nat} (hS : 21 ≤ S) (h : -9223372036854775808 ≤ n ∧ n ≤ 9223372036854775807) : (mkB (Lib.itoa n)).size ≤ S := by
  have h1 := Lib.itoa_length_le n h.1 h.2
  have h2 : (mkB (Lib.itoa n)).size = (Lib.itoa n).length := by unfold mkB; exact List.size_toArray
  omega
theorem most_range {c : Crd} (hb : boundsB c = true) : -9223372036854775808 ≤ mostC c ∧ mostC c ≤ 9223372036854775807 := by
  unfold boundsB at hb
  have h := of_decide_eq_true hb
  have h1 : 0 ≤ c.amount * (1000 + c.above) := Int.mul_nonneg (by omega) (by omega)
  have h2 : c.amount * (1000 + c.above) ≤ 1099511627776 * 2000 := Int.mul_le_mul (by omega) (by omega) (by omega) (by omega)
  unfold mostC
  omega
theorem least_range {c : Crd} (hb : boundsB c = true) : -9223372036854775808 ≤ leastY c ∧ leastY c ≤ 9223372036854775807 := by
  unfold boundsB at hb
  have h := of_decide_eq_true hb
  have h1 : 0 ≤ c.amount * (1000 - c.below) := Int.mul_nonneg (by omega) (by omega)
  have h2 : c.amount * (1000 - c.below) ≤ 1099511627776 * 1000 := Int.mul_le_mul (by omega) (by omega) (by omega) (by omega)
  unfold leastY
  omega
theorem fail_mem {needs : List Nd} {docs : List Pap} {d : Pap} {t : Tree} (h : t ∈ failL needs docs d) : ∃ x ∈ needs, t ∈ partsT x.rule := by
  unfold failL at h
  obtain ⟨x, hx, ht⟩ := List.mem_flatMap.1 h
  refine ⟨x, hx, ?_⟩
  split at ht
  · exact (List.mem_filter.1 ht).1
  · cases ht
theorem cureD_size {S N : Nat} {c : Crd} {needs : List Nd} {docs : List Pap} {day : Int} {a : Nat} {d : Pap} {s v : ByteArray} (hc : BndC S c needs) (hday : -9223372036854775808 ≤ day ∧ day ≤ 9223372036854775807) (hb : Bnd S N docs) (hd : d ∈ docs) (h : cureD c needs docs day a d s = some v) : v.size ≤ S + 12200 := by
  unfold cureD at h
  rcases Option.or_eq_some_iff.1 h with h | ⟨_, h⟩
  · unfold partyM at h
    split at h
    · obtain ⟨r, hr, h⟩ := Option.bind_eq_some_iff.1 h
      split at h
      · cases h
      · obtain rfl := Option.some.inj h
        have h1 := hc.ben
        have h2 := hc.app
        have h3 := hc.cur
        split at hr
        · obtain rfl := Option.some.inj hr; omega
        · split at hr
          · obtain rfl := Option.some.inj hr; omega
          · split at hr
            · obtain rfl := Option.some.inj hr; omega
            · cases hr
    · cases h
  rcases Option.or_eq_some_iff.1 h with h | ⟨_, h⟩
  · unfold sumM at h
    split at h
    · split at h
      · obtain rfl := Option.some.inj h
        have := itoa_small hc.base hc.amount
        omega
      · split at h
        · rename_i hm
          obtain rfl := Option.some.inj h
          have := itoa_small hc.base (most_range hm.1)
          omega
        · split at h
          · rename_i hm
            obtain rfl := Option.some.inj h
            have := itoa_small hc.base (least_range hm.1)
            omega
          · cases h
    · cases h
  rcases Option.or_eq_some_iff.1 h with h | ⟨_, h⟩
  · have hm : -9223372036854775808 ≤ min c.latest day ∧ min c.latest day ≤ 9223372036854775807 := by have := hc.latest; omega
    have := itoa_small hc.base hm
    unfold issuedM at h
    split at h
    · split at h
      · obtain rfl := Option.some.inj h
        omega
      · split at h
        · cases h
        · obtain rfl := Option.some.inj h
          omega
    · cases h
  rcases Option.or_eq_some_iff.1 h with h | ⟨_, h⟩
  · unfold partM at h
    obtain ⟨t, ht, h⟩ := Option.bind_eq_some_iff.1 h
    obtain ⟨x, hx, hu⟩ := fail_mem (List.mem_of_find?_eq_some ht)
    obtain ⟨h1, h2⟩ := hc.rule x hx t hu
    obtain ⟨k, p, f, y, n, A, cc, L⟩ := t
    simp only [Tree.text, Tree.num] at h1 h2
    simp only [curT] at h
    split at h
    · obtain rfl := Option.some.inj h; omega
    · split at h
      · obtain rfl := Option.some.inj h
        have := getV_vals (s := s) (hb.vals d hd)
        rw [ByteArray.size_append]
        omega
      · split at h
        · have := fieldD_vals hb h
          omega
        · obtain rfl := Option.some.inj h
          have := itoa_small hc.base h2
          omega
  · unfold otherM at h
    split at h
    · obtain ⟨u, hu, h⟩ := Option.bind_eq_some_iff.1 h
      split at h
      · cases h
      · obtain rfl := Option.some.inj h
        have hb' : Bnd S N (docs.take a) := ⟨fun e he => hb.vals e (List.mem_of_mem_take he), fun e he => hb.num e (List.mem_of_mem_take he)⟩
        have := ahead_vals hb' hu
        omega
    · cases h
theorem cureM_size {S N : Nat} {c : Crd} {needs : List Nd} {docs : List Pap} {day : Int} {f : Flt} {v : ByteArray} (hc : BndC S c needs) (hday : -9223372036854775808 ≤ day ∧ day ≤ 9223372036854775807) (hb : Bnd S N docs) (h : cureM c needs docs day f = some v) : v.size ≤ S + 12200 := by
  unfold cureM at h
  split at h
  · obtain ⟨d, hd, h⟩ := Option.bind_eq_some_iff.1 h
    exact cureD_size hc hday hb (List.mem_of_getElem? hd) h
  · cases h
theorem mendStep_bnd {S N : Nat} {c : Crd} {needs : List Nd} {docs : List Pap} {day : Int} {f : Flt} (hc : BndC S c needs) (hday : -9223372036854775808 ≤ day ∧ day ≤ 9223372036854775807) (hb : Bnd S N docs) : Bnd (S + 12200) (N + 1) (mendStep c needs day docs f) := by
  unfold mendStep
  split
  · rename_i v hv
    have hsz := cureM_size hc hday hb hv
    have hm : ∀ d ∈ docs.modify f.paper.toNat fun d => putF d f.field v, (d ∈ docs ∨ ∃ e ∈ docs, d = putF e f.field v) := fun d hd => by
      obtain ⟨i, hi⟩ := List.getElem?_of_mem hd
      rw [List.getElem?_modify] at hi
      obtain ⟨y, hy, e⟩ := Option.map_eq_some_iff.1 hi
      have hmem := List.mem_of_getElem? hy
      split at e
      · exact .inr ⟨y, hmem, e.symm⟩
      · exact .inl (e ▸ hmem)
    refine ⟨fun d hd g hg => ?_, fun d hd => ?_⟩
    · rcases hm d hd with h | ⟨e, he, rfl⟩
      · have := hb.vals d h g hg; omega
      · exact setF_vals hsz (fun g hg => by have := hb.vals e he g hg; omega) g hg
    · rcases hm d hd with h | ⟨e, he, rfl⟩
      · have := hb.num d h; omega
      · have h1 := setF_len e.fields f.field v
        have h2 := hb.num e he
        show (setF e.fields f.field v).length ≤ _
        omega
  · exact ⟨fun d hd g hg => by have := hb.vals d hd g hg; omega, fun d hd => by have := hb.num d hd; omega⟩
theorem BndC.more {S S' : Nat} {c : Crd} {needs : List Nd} (h : BndC S c needs) (hs : S ≤ S') : BndC S' c needs :=
  ⟨Nat.le_trans h.ben hs, Nat.le_trans h.app hs, Nat.le_trans h.cur hs, h.amount, h.latest, Nat.le_trans h.base hs, h.rule⟩
theorem mendF_bnd {c : Crd} {needs : List Nd} {day : Int} (hday : -9223372036854775808 ≤ day ∧ day ≤ 9223372036854775807) : ∀ {l : List Flt} {docs : List Pap} {S N : Nat}, BndC S c needs → Bnd S N docs → Bnd (S + 12200 * l.length) (N + l.length) (l.foldl (mendStep c needs day) docs)
  | [], docs, S, N, _, hb => by simpa using hb
  | f :: l, docs, S, N, hc, hb => by
    have h := mendF_bnd hday (l := l) (hc.more (Nat.le_add_right S 12200)) (mendStep_bnd hc hday hb (f := f))
    rw [List.foldl_cons, List.length_cons]
    rw [show S + 12200 * (l.length + 1) = S + 12200 + 12200 * l.length by omega, show N + (l.length + 1) = N + 1 + l.length by omega]
    exact h
theorem text_of_size {t : Tree} (h : sizeT t 200 ≤ 60) : ∀ u ∈ partsT t, u.text.size ≤ 12200 := by
  have e := size_wgt t 200 (by omega)
  have h1 : allT (fun t => t.text.size ≤ 12200) t := allT_mono (fun t h => by show t.text.size ≤ 12200; omega) t (wgt_all t 60 (by omega))
  exact fun u hu => allT_here (parts_all t h1 u hu)
theorem mend_len (c : Crd) (needs : List Nd) (day : Int) : ∀ (l : List Flt) (docs : List Pap), (l.foldl (mendStep c needs day) docs).length = docs.length
  | [], _ => rfl
  | f :: l, docs => by
    rw [List.foldl_cons, mend_len c needs day l]
    unfold mendStep
    split
    · rw [List.length_modify]
    · rfl
/-- Kinds, numbers and issuers stay. -/
def keptP (x y : Pap) : Prop := x.kind = y.kind ∧ x.number = y.number ∧ x.issuer = y.issuer
theorem mendStep_kept {c : Crd} {needs : List Nd} {day : Int} {docs : List Pap} {f : Flt} {i : Nat} {x : Pap} (h : (mendStep c needs day docs f)[i]? = some x) : ∃ y, docs[i]? = some y ∧ keptP x y := by
  unfold mendStep at h
  split at h
  · rw [List.getElem?_modify] at h
    obtain ⟨y, hy, e⟩ := Option.map_eq_some_iff.1 h
    refine ⟨y, hy, ?_⟩
    split at e
    · rw [← e]; exact ⟨rfl, rfl, rfl⟩
    · rw [← e]; exact ⟨rfl, rfl, rfl⟩
  · exact ⟨x, h, rfl, rfl, rfl⟩
theorem mendF_kept {c : Crd} {needs : List Nd} {day : Int} : ∀ (l : List Flt) (docs : List Pap) (i : Nat) (x : Pap), (l.foldl (mendStep c needs day) docs)[i]? = some x → ∃ y, docs[i]? = some y ∧ keptP x y
  | [], docs, i, x, h => ⟨x, h, rfl, rfl, rfl⟩
  | f :: l, docs, i, x, h => by
    rw [List.foldl_cons] at h
    obtain ⟨y, hy, k1, k2, k3⟩ := mendF_kept l _ i x h
    obtain ⟨z, hz, j1, j2, j3⟩ := mendStep_kept hy
    exact ⟨z, hz, k1.trans j1, k2.trans j2, k3.trans j3⟩
end Go.Proofs.YtdjmckjbibfecaaGreatDoor

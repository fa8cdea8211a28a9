/- What Examine tells: the model, in plain words. -/
import Derived.Test.YtbpngfppddigjaaGreatDoorZf
import Derived.Test.YtbpngfppddigjaaGreatDoorP
namespace Go.Proofs.YtbpngfppddigjaaGreatDoor
open Go

mutual
/-- The parts of a rule. -/
def partsT : Tree → List Tree
  | .mk k p f x n A c L => if k = 0 then partsL L else [.mk k p f x n A c L]
def partsL : List Tree → List Tree
  | [] => []
  | t :: L => partsT t ++ partsL L
end
def isAtomB (k : Int) : Bool := decide (3 ≤ k ∧ k ≤ 7)
/-- What a part of a rule tells of a paper. -/
def ruleF (docs : List Pap) (a : Int) (d : Pap) (t : Tree) : List Flt :=
  if holdsT docs d t = 0 then [] else [⟨a, d.kind, if isAtomB t.kind then t.field else ⟨#[]⟩, if t.kind = 7 ∧ holdsT docs d t = 2 then 3 else holdsT docs d t⟩]
def needR (docs : List Pap) (a : Int) (d : Pap) (x : Nd) : List Flt := if x.kind = d.kind then (partsT x.rule).flatMap (ruleF docs a d) else []
def ruledF (needs : List Nd) (docs : List Pap) (a : Int) (d : Pap) : List Flt := needs.flatMap (needR docs a d)
/-- What is asked of a field of a paper. -/
def askF (a : Int) (d : Pap) (name : ByteArray) (wrong : ByteArray → Int) : List Flt :=
  match getF d.fields name with
  | none => [⟨a, d.kind, name, 1⟩]
  | some v => if wrong v = 0 then [] else [⟨a, d.kind, name, wrong v⟩]
def isW (t v : ByteArray) : Int := if v.toList = t.toList then 0 else 3
def boundsB (c : Crd) : Bool := decide (1 ≤ c.amount ∧ c.amount ≤ 1099511627776 ∧ 0 ≤ c.above ∧ c.above ≤ 1000 ∧ 0 ≤ c.below ∧ c.below ≤ 1000 ∧ 0 ≤ c.expiry ∧ c.expiry ≤ 1048576)
def mostC (c : Crd) : Int := c.amount * (1000 + c.above) / 1000
def leastC (c : Crd) : Int := (c.amount * (1000 - c.below) + 999) / 1000
def sumW (c : Crd) (v : ByteArray) : Int :=
  match numF v.data.toList with
  | none => 2
  | some n => if boundsB c = true ∧ mostC c < n then 5 else if boundsB c = true ∧ n < leastC c then 6 else 0
def issuedW (c : Crd) (day : Int) (v : ByteArray) : Int :=
  match numF v.data.toList with
  | none => 2
  | some n => if c.latest < n ∨ n + c.within < day then 4 else 0
def nSeller : ByteArray := ⟨#[115, 101, 108, 108, 101, 114]⟩
def nBuyer : ByteArray := ⟨#[98, 117, 121, 101, 114]⟩
def nCurrency : ByteArray := ⟨#[99, 117, 114, 114, 101, 110, 99, 121]⟩
def nSum : ByteArray := ⟨#[115, 117, 109]⟩
def nIssued : ByteArray := ⟨#[105, 115, 115, 117, 101, 100]⟩
def nExpiry : ByteArray := ⟨#[101, 120, 112, 105, 114, 121]⟩
def invoiceF (c : Crd) (a : Int) (d : Pap) : List Flt := askF a d nSeller (isW c.beneficiary) ++ (askF a d nBuyer (isW c.applicant) ++ (askF a d nCurrency (isW c.currency) ++ askF a d nSum (sumW c)))
def ladingF (c : Crd) (day a : Int) (d : Pap) : List Flt := askF a d nIssued (issuedW c day)
def fixedF (c : Crd) (day a : Int) (d : Pap) : List Flt := if d.kind = 0 then invoiceF c a d else if d.kind = 2 then ladingF c day a d else []
def paperF (c : Crd) (needs : List Nd) (docs : List Pap) (day a : Int) (d : Pap) : List Flt := fixedF c day a d ++ ruledF needs docs a d
def askedB (needs : List Nd) (k : Int) : Bool := needs.any fun x => decide (x.kind = k)
/-- The value of a field of the first paper ahead that is asked for and has it. -/
def aheadF (needs : List Nd) : List Pap → ByteArray → Option ByteArray
  | [], _ => none
  | d :: l, s => match (if askedB needs d.kind then getF d.fields s else none) with
    | some v => some v
    | none => aheadF needs l s
def alikeB (i : Nat) : ByteArray := mkB (alikeL i)
def otherF (needs : List Nd) (ahead : List Pap) (a : Int) (d : Pap) (i : Nat) : List Flt :=
  match getF d.fields (alikeB i) with
  | none => []
  | some v => match aheadF needs ahead (alikeB i) with
    | none => []
    | some o => if o.toList = v.toList then [] else [⟨a, d.kind, alikeB i, 3⟩]
def othersF (needs : List Nd) (ahead : List Pap) (a : Int) (d : Pap) : List Flt := (List.range 6).flatMap (otherF needs ahead a d)
/-- What is told of a paper. -/
def docF (c : Crd) (needs : List Nd) (docs : List Pap) (day : Int) (a : Nat) (d : Pap) : List Flt :=
  if askedB needs d.kind then paperF c needs docs day a d ++ othersF needs (docs.take a) a d else []
def docAt (c : Crd) (needs : List Nd) (docs : List Pap) (day : Int) (a : Nat) : List Flt := match docs[a]? with | some d => docF c needs docs day a d | none => []
def countK (docs : List Pap) (k : Int) : Nat := docs.countP fun d => decide (d.kind = k)
def lackF (docs : List Pap) (x : Nd) : List Flt := if (countK docs x.kind : Int) < x.count then [⟨-1, x.kind, ⟨#[]⟩, 1⟩] else []
def expF (c : Crd) (day : Int) : List Flt := if c.expiry < day then [⟨-1, -1, nExpiry, 4⟩] else []
/-- All that is told, in order. -/
def toldE (c : Crd) (needs : List Nd) (docs : List Pap) (day : Int) : List Flt :=
  expF c day ++ (needs.flatMap (lackF docs) ++ (List.range docs.length).flatMap (docAt c needs docs day))
/-- Some faults more, each once. -/
noncomputable def addAll (l m : List Flt) : List Flt := m.foldl addF l
noncomputable def examF (c : Crd) (needs : List Nd) (docs : List Pap) (day : Int) : List Flt := addAll [] (toldE c needs docs day)

theorem addAll_nil (l : List Flt) : addAll l [] = l := rfl
theorem addAll_one (l : List Flt) (f : Flt) : addAll l [f] = addF l f := rfl
theorem addAll_app (l m k : List Flt) : addAll l (m ++ k) = addAll (addAll l m) k := by simp [addAll]
theorem addAll_len : ∀ (m l : List Flt), (addAll l m).length ≤ l.length + m.length
  | [], l => by simp [addAll]
  | f :: m, l => by
    have h1 := addAll_len m (addF l f)
    have h2 := addF_len l f
    show (addAll (addF l f) m).length ≤ _
    simp only [List.length_cons]; omega
theorem mem_addF {l : List Flt} {f x : Flt} : x ∈ addF l f ↔ x ∈ l ∨ x = f := by
  unfold addF
  split
  · constructor
    · exact .inl
    · rintro (h | rfl)
      · exact h
      · assumption
  · simp
theorem mem_addAll : ∀ {m l : List Flt} {x : Flt}, x ∈ addAll l m ↔ x ∈ l ∨ x ∈ m
  | [], l, x => by simp [addAll]
  | f :: m, l, x => by
    show x ∈ addAll (addF l f) m ↔ _
    rw [mem_addAll, mem_addF]; simp [or_assoc]
theorem mem_examF {c : Crd} {needs : List Nd} {docs : List Pap} {day : Int} {x : Flt} : x ∈ examF c needs docs day ↔ x ∈ toldE c needs docs day := by
  unfold examF; rw [mem_addAll]; simp
theorem addF_nodup {l : List Flt} (f : Flt) (h : l.Nodup) : (addF l f).Nodup := by
  unfold addF
  split
  · exact h
  · rename_i hf
    rw [List.nodup_append]
    exact ⟨h, by simp, fun a ha b hb e => hf (by simp at hb; subst hb; rw [← e]; exact ha)⟩
theorem addAll_nodup : ∀ (m : List Flt) {l : List Flt}, l.Nodup → (addAll l m).Nodup
  | [], _, h => h
  | f :: m, _, h => addAll_nodup m (addF_nodup f h)
theorem examF_nodup (c : Crd) (needs : List Nd) (docs : List Pap) (day : Int) : (examF c needs docs day).Nodup := addAll_nodup _ List.nodup_nil
end Go.Proofs.YtbpngfppddigjaaGreatDoor

namespace Go.Proofs.YtbpngfppddigjaaGreatDoor
open Go

theorem mem_toldE {c : Crd} {needs : List Nd} {docs : List Pap} {day : Int} {x : Flt} :
    x ∈ toldE c needs docs day ↔ x ∈ expF c day ∨ (∃ n ∈ needs, x ∈ lackF docs n) ∨ ∃ (a : Nat) (d : Pap), docs[a]? = some d ∧ x ∈ docF c needs docs day a d := by
  unfold toldE
  simp only [List.mem_append, List.mem_flatMap, List.mem_range]
  refine or_congr Iff.rfl (or_congr Iff.rfl ?_)
  constructor
  · rintro ⟨a, ha, h⟩
    unfold docAt at h
    rw [List.getElem?_eq_getElem ha] at h
    exact ⟨a, docs[a], List.getElem?_eq_getElem ha, h⟩
  · rintro ⟨a, d, hd, h⟩
    refine ⟨a, (List.getElem?_eq_some_iff.1 hd).1, ?_⟩
    unfold docAt
    rw [hd]; exact h
theorem mem_docF {c : Crd} {needs : List Nd} {docs : List Pap} {day : Int} {a : Nat} {d : Pap} {x : Flt} :
    x ∈ docF c needs docs day a d ↔ askedB needs d.kind = true ∧ (x ∈ fixedF c day a d ∨ x ∈ ruledF needs docs a d ∨ x ∈ othersF needs (docs.take a) a d) := by
  unfold docF paperF
  cases askedB needs d.kind <;> simp
theorem mem_askF {a : Int} {d : Pap} {name : ByteArray} {wrong : ByteArray → Int} {x : Flt} :
    x ∈ askF a d name wrong ↔ (getF d.fields name = none ∧ x = ⟨a, d.kind, name, 1⟩) ∨ ∃ v, getF d.fields name = some v ∧ wrong v ≠ 0 ∧ x = ⟨a, d.kind, name, wrong v⟩ := by
  unfold askF
  cases h : getF d.fields name with
  | none => simp
  | some v => by_cases hw : wrong v = 0 <;> simp [hw]
theorem mem_ruleF {docs : List Pap} {a : Int} {d : Pap} {t : Tree} {x : Flt} :
    x ∈ ruleF docs a d t ↔ holdsT docs d t ≠ 0 ∧ x = ⟨a, d.kind, if isAtomB t.kind then t.field else ⟨#[]⟩, if t.kind = 7 ∧ holdsT docs d t = 2 then 3 else holdsT docs d t⟩ := by
  unfold ruleF
  by_cases h : holdsT docs d t = 0 <;> simp [h]
theorem mem_needR {docs : List Pap} {a : Int} {d : Pap} {n : Nd} {x : Flt} : x ∈ needR docs a d n ↔ n.kind = d.kind ∧ ∃ t ∈ partsT n.rule, x ∈ ruleF docs a d t := by
  unfold needR
  by_cases h : n.kind = d.kind <;> simp [h, List.mem_flatMap]
theorem mem_otherF {needs : List Nd} {ahead : List Pap} {a : Int} {d : Pap} {i : Nat} {x : Flt} (h : x ∈ otherF needs ahead a d i) : x = ⟨a, d.kind, alikeB i, 3⟩ := by
  unfold otherF at h
  split at h
  · simp at h
  · split at h
    · simp at h
    · split at h
      · simp at h
      · simpa using h
theorem mem_othersF {needs : List Nd} {ahead : List Pap} {a : Int} {d : Pap} {x : Flt} (h : x ∈ othersF needs ahead a d) : ∃ i, i < 6 ∧ x = ⟨a, d.kind, alikeB i, 3⟩ := by
  unfold othersF at h
  obtain ⟨i, hi, hx⟩ := List.mem_flatMap.1 h
  exact ⟨i, by simpa using hi, mem_otherF hx⟩
theorem isW_in (t v : ByteArray) : isW t v = 0 ∨ isW t v = 3 := by unfold isW; split <;> simp
theorem sumW_in (c : Crd) (v : ByteArray) : sumW c v = 0 ∨ sumW c v = 2 ∨ sumW c v = 5 ∨ sumW c v = 6 := by
  unfold sumW; split
  · simp
  · split
    · simp
    · split <;> simp
theorem issuedW_in (c : Crd) (day : Int) (v : ByteArray) : issuedW c day v = 0 ∨ issuedW c day v = 2 ∨ issuedW c day v = 4 := by
  unfold issuedW; split
  · simp
  · split <;> simp
/-- What the fixed questions tell. -/
theorem mem_fixedF {c : Crd} {day a : Int} {d : Pap} {x : Flt} (h : x ∈ fixedF c day a d) :
    (d.kind = 0 ∨ d.kind = 2) ∧ x.paper = a ∧ x.kind = d.kind ∧ ((x.why = 1 ∧ getF d.fields x.field = none) ∨ (2 ≤ x.why ∧ x.why ≤ 6)) := by
  have key : ∀ (name : ByteArray) (wrong : ByteArray → Int), (∀ v, wrong v = 0 ∨ (2 ≤ wrong v ∧ wrong v ≤ 6)) → x ∈ askF a d name wrong → x.paper = a ∧ x.kind = d.kind ∧ ((x.why = 1 ∧ getF d.fields x.field = none) ∨ (2 ≤ x.why ∧ x.why ≤ 6)) := by
    intro name wrong hw hx
    rcases mem_askF.1 hx with ⟨hn, rfl⟩ | ⟨v, _, h0, rfl⟩
    · exact ⟨rfl, rfl, .inl ⟨rfl, hn⟩⟩
    · rcases hw v with h | h
      · exact absurd h h0
      · exact ⟨rfl, rfl, .inr h⟩
  have h1 : ∀ t v, isW t v = 0 ∨ (2 ≤ isW t v ∧ isW t v ≤ 6) := fun t v => by have := isW_in t v; omega
  have h2 : ∀ v, sumW c v = 0 ∨ (2 ≤ sumW c v ∧ sumW c v ≤ 6) := fun v => by have := sumW_in c v; omega
  have h3 : ∀ v, issuedW c day v = 0 ∨ (2 ≤ issuedW c day v ∧ issuedW c day v ≤ 6) := fun v => by have := issuedW_in c day v; omega
  unfold fixedF at h
  split at h
  · rename_i hk
    refine ⟨.inl hk, ?_⟩
    unfold invoiceF at h
    simp only [List.mem_append] at h
    rcases h with h | h | h | h
    · exact key _ _ (h1 _) h
    · exact key _ _ (h1 _) h
    · exact key _ _ (h1 _) h
    · exact key _ _ h2 h
  · split at h
    · rename_i hk
      exact ⟨.inr hk, key _ _ h3 h⟩
    · simp at h
theorem fixedF_day {c : Crd} {day later a : Int} {d : Pap} {x : Flt} (hl : 0 ≤ later) :
    (x ∈ fixedF c day a d → x ∈ fixedF c (day + later) a d) ∧ (x ∈ fixedF c (day + later) a d → x.why = 4 ∨ x ∈ fixedF c day a d) := by
  unfold fixedF
  split
  · exact ⟨id, .inr⟩
  · split
    · unfold ladingF
      simp only [mem_askF]
      have key : ∀ v, issuedW c day v ≠ 0 → issuedW c (day + later) v = issuedW c day v := by
        intro v hv
        unfold issuedW at hv ⊢
        split
        · rename_i h; simp [h] at hv ⊢
        · rename_i n h
          rw [h] at hv
          simp only at hv
          by_cases hc : c.latest < n ∨ n + c.within < day
          · rw [if_pos hc, if_pos (by omega)]
          · rw [if_neg hc] at hv; exact absurd rfl hv
      have key2 : ∀ v, issuedW c (day + later) v = 4 ∨ issuedW c (day + later) v = issuedW c day v ∨ issuedW c (day + later) v = 0 := by
        intro v
        by_cases h : issuedW c day v = 0
        · rcases issuedW_in c (day + later) v with h1 | h1 | h1
          · exact .inr (.inr h1)
          · exfalso
            unfold issuedW at h h1
            split at h1
            · rename_i hn; simp [hn] at h
            · split at h1 <;> simp at h1
          · exact .inl h1
        · exact .inr (.inl (key v h))
      constructor
      · rintro (h | ⟨v, hv, h0, rfl⟩)
        · exact .inl h
        · exact .inr ⟨v, hv, by rw [key v h0]; exact h0, by rw [key v h0]⟩
      · rintro (h | ⟨v, hv, h0, rfl⟩)
        · exact .inr (.inl h)
        · rcases key2 v with h1 | h1 | h1
          · exact .inl h1
          · exact .inr (.inr ⟨v, hv, by rw [← h1]; exact h0, by rw [h1]⟩)
          · exact absurd h1 h0
    · exact ⟨id, .inr⟩
/-- Presented earlier, papers have no fault that they would not have later. -/
theorem exam_day {c : Crd} {needs : List Nd} {docs : List Pap} {day later : Int} (hl : 0 ≤ later) {x : Flt} :
    (x ∈ examF c needs docs day → x ∈ examF c needs docs (day + later)) ∧ (x ∈ examF c needs docs (day + later) → x.why = 4 ∨ x ∈ examF c needs docs day) := by
  simp only [mem_examF, mem_toldE]
  constructor
  · rintro (h | h | ⟨a, d, hd, h⟩)
    · left
      unfold expF at h ⊢
      split at h
      · rw [if_pos (by omega)]; exact h
      · simp at h
    · exact .inr (.inl h)
    · refine .inr (.inr ⟨a, d, hd, ?_⟩)
      rw [mem_docF] at h ⊢
      refine ⟨h.1, ?_⟩
      rcases h.2 with h | h | h
      · exact .inl ((fixedF_day hl).1 h)
      · exact .inr (.inl h)
      · exact .inr (.inr h)
  · rintro (h | h | ⟨a, d, hd, h⟩)
    · left
      unfold expF at h
      split at h
      · simp at h; rw [h]
      · simp at h
    · exact .inr (.inr (.inl h))
    · rw [mem_docF] at h
      rcases h.2 with h2 | h2 | h2
      · rcases (fixedF_day hl).2 h2 with h3 | h3
        · exact .inl h3
        · exact .inr (.inr (.inr ⟨a, d, hd, mem_docF.2 ⟨h.1, .inl h3⟩⟩))
      · exact .inr (.inr (.inr ⟨a, d, hd, mem_docF.2 ⟨h.1, .inr (.inl h2)⟩⟩))
      · exact .inr (.inr (.inr ⟨a, d, hd, mem_docF.2 ⟨h.1, .inr (.inr h2)⟩⟩))
theorem asked_app {needs : List Nd} {n : Nd} (h : askedB needs n.kind = true) (k : Int) : askedB (needs ++ [n]) k = askedB needs k := by
  unfold askedB at h ⊢
  rw [List.any_append]
  by_cases hk : n.kind = k
  · subst hk; rw [h]; simp
  · simp [hk]
theorem ahead_app {needs : List Nd} {n : Nd} (h : askedB needs n.kind = true) : ∀ (l : List Pap) (s : ByteArray), aheadF (needs ++ [n]) l s = aheadF needs l s
  | [], s => rfl
  | d :: l, s => by rw [aheadF, aheadF, asked_app h, ahead_app h l s]
theorem others_app {needs : List Nd} {n : Nd} (h : askedB needs n.kind = true) (l : List Pap) (a : Int) (d : Pap) : othersF (needs ++ [n]) l a d = othersF needs l a d := by
  unfold othersF
  congr 1
  funext i
  unfold otherF
  rw [ahead_app h]
/-- With a need more no fault goes; what is told besides is of its kind. -/
theorem exam_needs {c : Crd} {needs : List Nd} {n : Nd} {docs : List Pap} {day : Int} (h : askedB needs n.kind = true) {x : Flt} :
    (x ∈ examF c needs docs day → x ∈ examF c (needs ++ [n]) docs day) ∧ (x ∈ examF c (needs ++ [n]) docs day → x.kind = n.kind ∨ x ∈ examF c needs docs day) := by
  simp only [mem_examF, mem_toldE]
  constructor
  · rintro (h1 | ⟨m, hm, h1⟩ | ⟨a, d, hd, h1⟩)
    · exact .inl h1
    · exact .inr (.inl ⟨m, by simp [hm], h1⟩)
    · refine .inr (.inr ⟨a, d, hd, ?_⟩)
      rw [mem_docF] at h1 ⊢
      rw [asked_app h, others_app h]
      refine ⟨h1.1, ?_⟩
      rcases h1.2 with h2 | h2 | h2
      · exact .inl h2
      · refine .inr (.inl ?_)
        unfold ruledF at h2 ⊢
        rw [List.flatMap_append]; simp [h2]
      · exact .inr (.inr h2)
  · rintro (h1 | ⟨m, hm, h1⟩ | ⟨a, d, hd, h1⟩)
    · exact .inr (.inl h1)
    · simp only [List.mem_append, List.mem_singleton] at hm
      rcases hm with hm | rfl
      · exact .inr (.inr (.inl ⟨m, hm, h1⟩))
      · left
        unfold lackF at h1
        split at h1
        · simp at h1; rw [h1]
        · simp at h1
    · rw [mem_docF, asked_app h, others_app h] at h1
      rcases h1.2 with h2 | h2 | h2
      · exact .inr (.inr (.inr ⟨a, d, hd, mem_docF.2 ⟨h1.1, .inl h2⟩⟩))
      · unfold ruledF at h2
        rw [List.flatMap_append, List.mem_append] at h2
        rcases h2 with h2 | h2
        · exact .inr (.inr (.inr ⟨a, d, hd, mem_docF.2 ⟨h1.1, .inr (.inl h2)⟩⟩))
        · left
          simp only [List.flatMap_cons, List.flatMap_nil, List.append_nil] at h2
          obtain ⟨hk, t, _, h3⟩ := mem_needR.1 h2
          rw [(mem_ruleF.1 h3).2]; exact hk.symm
      · exact .inr (.inr (.inr ⟨a, d, hd, mem_docF.2 ⟨h1.1, .inr (.inr h2)⟩⟩))
/-- What a fault is. -/
theorem holds_atom {docs : List Pap} {d : Pap} {t : Tree} {v : ByteArray} (ha : isAtomB t.kind = true) (hv : getF d.fields t.field = some v) (h : holdsT docs d t = 1) : t.kind = 7 := by
  obtain ⟨k, p, f, x, n, A, c, L⟩ := t
  simp only [Tree.kind, Tree.field, isAtomB] at ha hv ⊢
  have ha := of_decide_eq_true ha
  rw [holdsT, if_neg (by omega), if_neg (by omega), if_neg (by omega), if_pos ha, hv] at h
  simp only at h
  unfold atomT at h
  have hs : ∀ b, soT b ≠ 1 := fun b => by unfold soT; split <;> omega
  by_cases h3 : k = 3
  · rw [if_pos h3] at h; exact absurd h (hs _)
  rw [if_neg h3] at h
  by_cases h4 : k = 4
  · rw [if_pos h4] at h; exact absurd h (hs _)
  rw [if_neg h4] at h
  by_cases h5 : k = 5
  · rw [if_pos h5] at h; exact absurd h (hs _)
  rw [if_neg h5] at h
  by_cases h6 : k = 6
  · rw [if_pos h6] at h; exact absurd h (hs _)
  omega
/-- A need of that kind has a Like of that field. -/
def anotherB (needs : List Nd) (kind : Int) (field : ByteArray) : Prop := ∃ n ∈ needs, n.kind = kind ∧ ∃ t ∈ partsT n.rule, t.kind = 7 ∧ t.field = field
theorem exam_once {c : Crd} {needs : List Nd} {docs : List Pap} {day : Int} {x : Flt} (h : x ∈ examF c needs docs day) :
    1 ≤ x.why ∧ x.why ≤ 6 ∧ ((x.paper = -1) ∨ ∃ (a : Nat) (d : Pap), x.paper = a ∧ docs[a]? = some d ∧ x.kind = d.kind ∧ askedB needs d.kind = true ∧
      (x.why = 1 → x.field ≠ ⟨#[]⟩ → (getF d.fields x.field).isSome = true → anotherB needs x.kind x.field)) := by
  rw [mem_examF, mem_toldE] at h
  rcases h with h | ⟨n, _, h⟩ | ⟨a, d, hd, h⟩
  · unfold expF at h
    split at h
    · simp at h; subst h; exact ⟨by simp, by simp, .inl rfl⟩
    · simp at h
  · unfold lackF at h
    split at h
    · simp at h; subst h; exact ⟨by simp, by simp, .inl rfl⟩
    · simp at h
  · rw [mem_docF] at h
    rcases h.2 with h2 | h2 | h2
    · obtain ⟨_, h3, h4, h5⟩ := mem_fixedF h2
      refine ⟨by omega, by omega, .inr ⟨a, d, h3, hd, h4, h.1, fun h6 _ h7 => ?_⟩⟩
      rcases h5 with ⟨_, h5⟩ | h5
      · rw [h5] at h7; cases h7
      · omega
    · obtain ⟨n, hn, h3⟩ := List.mem_flatMap.1 h2
      obtain ⟨hk, t, ht, h4⟩ := mem_needR.1 h3
      obtain ⟨h5, rfl⟩ := mem_ruleF.1 h4
      have hr := holdsT_range docs d t
      simp only
      refine ⟨by split <;> omega, by split <;> omega, .inr ⟨a, d, rfl, hd, rfl, h.1, fun h6 h7 h8 => ?_⟩⟩
      by_cases ha : isAtomB t.kind = true
      · rw [if_pos ha] at h7 h8 ⊢
        obtain ⟨v, hv⟩ := Option.isSome_iff_exists.1 h8
        have h1 : holdsT docs d t = 1 := by split at h6 <;> omega
        exact ⟨n, hn, hk, t, ht, holds_atom ha hv h1, rfl⟩
      · rw [if_neg ha] at h7; exact absurd rfl h7
    · obtain ⟨i, _, rfl⟩ := mem_othersF h2
      exact ⟨by simp, by simp, .inr ⟨a, d, rfl, hd, rfl, h.1, fun h6 => by simp at h6⟩⟩
end Go.Proofs.YtbpngfppddigjaaGreatDoor

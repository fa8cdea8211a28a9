/- A fault among faults; the plain law of a field that is spoilt. -/
import Derived.Test.YtbpngfppddigjaaGreatDoorEn
namespace Go.Proofs.YtbpngfppddigjaaGreatDoor
open Go Go.RowKit

theorem eq_flt (x y : Flt) (W : World) : (binOp .eql 40 (.agg #[.int .i64 x.paper, .int .i64 x.kind, .string x.field, .int .i64 x.why]) (.agg #[.int .i64 y.paper, .int .i64 y.kind, .string y.field, .int .i64 y.why])).run Tryz.prog W = .ok (.bool (eqF x y)) W := by
  rw [run_eql_struct, run_equalIn_struct _ _ _ _ _ Tryz.fields40 Tryz.held40]
  unfold Program.fieldsOf
  rw [Tryz.underlying40]
  unfold eqF
  by_cases h1 : x.paper = y.paper <;> by_cases h2 : x.kind = y.kind <;> by_cases h3 : x.field.toList = y.field.toList <;> by_cases h4 : x.why = y.why <;> simp [go_sem, h1, h2, h3, h4]
theorem ba_inj {a b : ByteArray} (h : a.toList = b.toList) : a = b := by
  rw [ba_list, ba_list] at h
  exact ByteArray.ext (Array.toList_inj.1 h)
theorem eqF_iff {x y : Flt} : eqF x y = true ↔ x = y := by
  obtain ⟨a, b, c, d⟩ := x
  obtain ⟨a', b', c', d'⟩ := y
  unfold eqF
  simp only [Bool.and_eq_true, beq_iff_eq, Flt.mk.injEq]
  constructor
  · rintro ⟨h1, h2, h3, h4⟩; exact ⟨h1, h2, ba_inj h3, h4⟩
  · rintro ⟨h1, h2, h3, h4⟩; exact ⟨h1, h2, by rw [h3], h4⟩
/-- Is a fault among faults? -/
def anyB (l : List Flt) (f : Flt) : Bool := l.any fun x => eqF x f
def anyR (l : List Flt) (f : Flt) : Bool := l.any fun x => eqF f x
theorem anyB_iff {l : List Flt} {f : Flt} : anyB l f = true ↔ f ∈ l := by
  unfold anyB
  rw [List.any_eq_true]
  constructor
  · rintro ⟨x, hx, h⟩; rw [← eqF_iff.1 h]; exact hx
  · intro h; exact ⟨f, h, eqF_iff.2 rfl⟩
theorem anyR_iff {l : List Flt} {f : Flt} : anyR l f = true ↔ f ∈ l := by
  unfold anyR
  rw [List.any_eq_true]
  constructor
  · rintro ⟨x, hx, h⟩; rw [eqF_iff.1 h]; exact hx
  · intro h; exact ⟨f, h, eqF_iff.2 rfl⟩
theorem any_take {α : Type} (p : α → Bool) {l : List α} {k : Nat} {x : α} (h : l[k]? = some x) : (l.take (k + 1)).any p = ((l.take k).any p || p x) := by
  obtain ⟨hk, he⟩ := List.getElem?_eq_some_iff.1 h
  rw [List.take_succ_eq_append_getElem hk, he]; simp
def ruleS (field want : ByteArray) : Tree := .mk 3 0 field want 0 none 0 []
theorem holds_spoilt (docs : List Pap) (d : Pap) (field want : ByteArray) : holdsT docs d (ruleS field want) = match getF d.fields field with | some v => soT (decide (v.toList = want.toList)) | none => 1 := by
  unfold ruleS
  rw [holdsT, if_neg (by omega), if_neg (by omega), if_neg (by omega), if_pos (by omega)]
  cases getF d.fields field with
  | none => rfl
  | some v => simp [atomT]
theorem parts_spoilt (field want : ByteArray) : partsT (ruleS field want) = [ruleS field want] := by
  unfold ruleS; rw [partsT, if_neg (by omega)]
/-- What is told of a field that a credit asks to be just a text. -/
theorem exam_spoilt {c : Crd} {docs : List Pap} {day : Int} {a : Nat} {d : Pap} {field want : ByteArray} (hd : docs[a]? = some d) (hx : ¬ c.expiry < day) :
    (getF d.fields field = none → (⟨a, d.kind, field, 1⟩ : Flt) ∈ examF c [⟨d.kind, 0, ruleS field want⟩] docs day) ∧
    (∀ v, getF d.fields field = some v → ¬ v.toList = want.toList → (⟨a, d.kind, field, 2⟩ : Flt) ∈ examF c [⟨d.kind, 0, ruleS field want⟩] docs day) ∧
    (∀ v, getF d.fields field = some v → v.toList = want.toList → d.kind ≠ 0 → d.kind ≠ 2 → (⟨a, d.kind, field, 2⟩ : Flt) ∉ examF c [⟨d.kind, 0, ruleS field want⟩] docs day) := by
  have hask : askedB [⟨d.kind, 0, ruleS field want⟩] d.kind = true := by simp [askedB]
  have hin : ∀ y : Int, holdsT docs d (ruleS field want) = y → y ≠ 0 → (⟨a, d.kind, field, y⟩ : Flt) ∈ examF c [⟨d.kind, 0, ruleS field want⟩] docs day := by
    intro y hy h0
    rw [mem_examF, mem_toldE]
    refine .inr (.inr ⟨a, d, hd, mem_docF.2 ⟨hask, .inr (.inl ?_)⟩⟩)
    refine List.mem_flatMap.2 ⟨_, List.mem_singleton.2 rfl, mem_needR.2 ⟨rfl, ruleS field want, by rw [parts_spoilt]; simp, mem_ruleF.2 ⟨by rw [hy]; exact h0, ?_⟩⟩⟩
    rw [hy]
    simp [ruleS, Tree.kind, Tree.field, isAtomB]
  refine ⟨fun h => hin 1 (by rw [holds_spoilt, h]) (by omega), fun v h hne => hin 2 (by rw [holds_spoilt, h]; simp [soT, hne]) (by omega), fun v h heq h0 h2 hm => ?_⟩
  rw [mem_examF, mem_toldE] at hm
  rcases hm with hm | ⟨n, hn, hm⟩ | ⟨a', d', hd', hm⟩
  · unfold expF at hm; rw [if_neg hx] at hm; simp at hm
  · unfold lackF at hm
    split at hm
    · simp at hm
    · simp at hm
  · rw [mem_docF] at hm
    rcases hm.2 with hm | hm | hm
    · have := mem_fixedF hm
      have e : d'.kind = d.kind := this.2.2.1.symm
      rcases this.1 with h1 | h1 <;> omega
    · obtain ⟨n, hn, hm⟩ := List.mem_flatMap.1 hm
      obtain rfl := List.mem_singleton.1 hn
      obtain ⟨_, t, ht, hm⟩ := mem_needR.1 hm
      rw [parts_spoilt] at ht
      obtain rfl := List.mem_singleton.1 ht
      obtain ⟨h3, h4⟩ := mem_ruleF.1 hm
      have ea : a = a' := by have := congrArg Flt.paper h4; simp at this; omega
      subst ea
      obtain rfl := Option.some.inj (hd.symm.trans hd')
      apply h3
      rw [holds_spoilt, h]; simp [soT, heq]
    · obtain ⟨i, _, hm⟩ := mem_othersF hm
      have := congrArg Flt.why hm
      simp at this
end Go.Proofs.YtbpngfppddigjaaGreatDoor

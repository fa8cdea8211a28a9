/- Examine, of any papers: what its maps hold, how much is told. -/
import Derived.Test.YtbpngfppddigjaaGreatDoorEl
namespace Go.Proofs.YtbpngfppddigjaaGreatDoor
open Go Go.RowKit Go.BigFrame Go.Maps

/-- How many papers of each kind there are. -/
def CountS (docs : List Pap) (S : Value → Option Value) : Prop := ∀ k : Int, (S (.int .i64 k)).getD (.int .i64 0) = .int .i64 (countK docs k : Int)
/-- Which kinds are asked for. -/
def AskS (needs : List Nd) (S : Value → Option Value) : Prop := ∀ k : Int, (S (.int .i64 k)).getD (.bool false) = .bool (askedB needs k)
def Ahead0 (needs : List Nd) (ahead : List Pap) (S : Value → Option Value) : Prop := ∀ j, j < 6 → S (.string (alikeB j)) = (aheadF needs ahead (alikeB j)).map Value.string
theorem countK_snoc {docs : List Pap} {q : Nat} {d : Pap} (h : docs[q]? = some d) (k : Int) : countK (docs.take (q + 1)) k = countK (docs.take q) k + if d.kind = k then 1 else 0 := by
  obtain ⟨hk, he⟩ := List.getElem?_eq_some_iff.1 h
  rw [List.take_succ_eq_append_getElem hk, he]
  unfold countK
  rw [List.countP_append]
  simp [List.countP_cons]
theorem countK_le (docs : List Pap) (k : Int) : countK docs k ≤ docs.length := List.countP_le_length
open Classical in
theorem CountS.put {docs : List Pap} {q : Nat} {d : Pap} {S : Value → Option Value} (h : CountS (docs.take q) S) (hd : docs[q]? = some d) : CountS (docs.take (q + 1)) (fun y => if y = .int .i64 d.kind then some (.int .i64 ((countK (docs.take q) d.kind : Int) + 1)) else S y) := by
  intro k
  show (if Value.int .i64 k = .int .i64 d.kind then some (.int .i64 ((countK (docs.take q) d.kind : Int) + 1)) else S (.int .i64 k)).getD _ = _
  rw [countK_snoc hd]
  by_cases hk : k = d.kind
  · subst hk
    rw [if_pos rfl, if_pos rfl]; simp
  · rw [if_neg (by simpa using hk), if_neg (fun e => hk e.symm), h k]; simp
open Classical in
theorem AskS.put {needs : List Nd} {q : Nat} {x : Nd} {S : Value → Option Value} (h : AskS (needs.take q) S) (hx : needs[q]? = some x) : AskS (needs.take (q + 1)) (fun y => if y = .int .i64 x.kind then some (.bool true) else S y) := by
  intro k
  show (if Value.int .i64 k = .int .i64 x.kind then some (.bool true) else S (.int .i64 k)).getD _ = _
  obtain ⟨hq, he⟩ := List.getElem?_eq_some_iff.1 hx
  have e : askedB (needs.take (q + 1)) k = (askedB (needs.take q) k || decide (x.kind = k)) := by
    rw [List.take_succ_eq_append_getElem hq, he]
    simp [askedB]
  rw [e]
  by_cases hk : k = x.kind
  · subst hk
    rw [if_pos rfl]; simp
  · rw [if_neg (by simpa using hk), h k]
    simp [show ¬ x.kind = k from fun e => hk e.symm]
theorem Ahead0.start (needs : List Nd) : Ahead0 needs [] (fun _ => none) := fun _ _ => rfl
theorem Ahead0.to {needs : List Nd} {ahead : List Pap} {S : Value → Option Value} (h : Ahead0 needs ahead S) (d : Pap) : AheadS needs ahead d 0 S := fun j hj => by
  rw [h j hj, if_neg (by omega)]
theorem AheadS.out {needs : List Nd} {docs : List Pap} {q : Nat} {d : Pap} {S : Value → Option Value} (h : AheadS needs (docs.take q) d 6 S) (hd : docs[q]? = some d) : Ahead0 needs (docs.take (q + 1)) S := fun j hj => by
  obtain ⟨hq, he⟩ := List.getElem?_eq_some_iff.1 hd
  rw [h j hj, if_pos hj, List.take_succ_eq_append_getElem hq, he]
theorem Ahead0.skip {needs : List Nd} {docs : List Pap} {q : Nat} {d : Pap} {S : Value → Option Value} (h : Ahead0 needs (docs.take q) S) (hd : docs[q]? = some d) (ha : askedB needs d.kind = false) : Ahead0 needs (docs.take (q + 1)) S := fun j hj => by
  obtain ⟨hq, he⟩ := List.getElem?_eq_some_iff.1 hd
  rw [h j hj, List.take_succ_eq_append_getElem hq, he, ahead_snoc, ha]
  cases aheadF needs (docs.take q) (alikeB j) <;> rfl
theorem lack_snoc {needs : List Nd} {q : Nat} {x : Nd} (docs : List Pap) (h : needs[q]? = some x) : (needs.take (q + 1)).flatMap (lackF docs) = (needs.take q).flatMap (lackF docs) ++ lackF docs x := by
  obtain ⟨hk, he⟩ := List.getElem?_eq_some_iff.1 h
  rw [List.take_succ_eq_append_getElem hk, he]; simp
theorem lackF_le (docs : List Pap) (x : Nd) : (lackF docs x).length ≤ 1 := by unfold lackF; split <;> simp
theorem docs_snoc (c : Crd) (needs : List Nd) (docs : List Pap) (day : Int) (q : Nat) : (List.range (q + 1)).flatMap (docAt c needs docs day) = (List.range q).flatMap (docAt c needs docs day) ++ docAt c needs docs day q := by
  rw [List.range_succ]; simp
theorem docF_len {c : Crd} {needs : List Nd} {docs : List Pap} {day : Int} {a : Nat} {d : Pap} (hF : FewParts needs) : (docF c needs docs day a d).length ≤ 800 := by
  unfold docF
  split
  · have h1 := fixedF_len c day a d
    have h2 := ruledF_len (docs := docs) (a := a) (d := d) needs hF.2
    have h3 := others_len needs (docs.take a) a d 6
    have h4 := hF.1
    unfold paperF othersF
    simp only [List.length_append]; omega
  · simp
theorem docAt_len {c : Crd} {needs : List Nd} {docs : List Pap} {day : Int} (hF : FewParts needs) (a : Nat) : (docAt c needs docs day a).length ≤ 800 := by
  unfold docAt
  split
  · exact docF_len hF
  · simp
theorem docs_len {c : Crd} {needs : List Nd} {docs : List Pap} {day : Int} (hF : FewParts needs) : ∀ q : Nat, ((List.range q).flatMap (docAt c needs docs day)).length ≤ 800 * q
  | 0 => by simp
  | q + 1 => by
    have := docs_len (c := c) (docs := docs) (day := day) hF q
    have := docAt_len (c := c) (docs := docs) (day := day) hF q
    rw [docs_snoc, List.length_append]; omega
mutual
theorem parts_wgt : ∀ t : Tree, ((partsT t).length : Int) ≤ wgtT t
  | .mk k p f x n A c L => by
    have := partsL_wgt L
    have := wgtL_pos L
    rw [partsT, wgtT]
    split
    · omega
    · simp; omega
theorem partsL_wgt : ∀ L : List Tree, ((partsL L).length : Int) ≤ wgtL L
  | [] => by simp [partsL, wgtL]
  | t :: L => by
    have := parts_wgt t
    have := partsL_wgt L
    rw [partsL, wgtL, List.length_append]; omega
end
theorem few_parts {needs : List Nd} {docs : List Pap} (h : fewB needs docs = true) : FewParts needs := by
  unfold fewB at h
  simp only [Bool.and_eq_true, decide_eq_true_eq] at h
  refine ⟨h.1.1.1, fun x hx => ?_⟩
  have := List.all_eq_true.1 h.1.2 x hx
  have h60 : sizeT x.rule 200 ≤ 60 := by simpa using this
  have e := size_wgt x.rule 200 (by omega)
  have := parts_wgt x.rule
  omega
end Go.Proofs.YtbpngfppddigjaaGreatDoor

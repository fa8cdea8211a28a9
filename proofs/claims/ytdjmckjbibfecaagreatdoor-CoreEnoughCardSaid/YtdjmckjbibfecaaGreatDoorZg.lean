/- Holds asked at any place; the walk of the law ExamineStands. -/
import Derived.Test.YtdjmckjbibfecaaGreatDoorZf
namespace Go.Proofs.YtdjmckjbibfecaaGreatDoor
open Go Go.RowKit Go.BigFrame Go.Maps

/-- How a rule stands, asked of the paper at a place. -/
def standsA (docs : List Pap) (t : Tree) (a : Int) : Int := match (if 0 ≤ a then docs[a.toNat]? else none) with | some d => holdsT docs d t | none => 1
theorem standsA_in {docs : List Pap} {t : Tree} {a : Nat} {d : Pap} (h : docs[a]? = some d) : standsA docs t (a : Int) = holdsT docs d t := by
  unfold standsA; rw [if_pos (by omega)]; simp [h]
theorem standsA_out {docs : List Pap} {t : Tree} {a : Int} (h : a < 0 ∨ (docs.length : Int) ≤ a) : standsA docs t a = 1 := by
  unfold standsA
  split
  · rename_i d hd
    split at hd
    · have := (List.getElem?_eq_some_iff.1 hd).1
      omega
    · cases hd
  · rfl
theorem standsA_range (docs : List Pap) (t : Tree) (a : Int) : 0 ≤ standsA docs t a ∧ standsA docs t a ≤ 2 := by
  unfold standsA
  split
  · exact holdsT_range _ _ _
  · omega

set_option maxRecDepth 100000 in
set_option maxHeartbeats 1600000 in
theorem holds_out (A : Option Addr) (nn c : Nat) (a : Int) (t : Tree) (w : World) (_hnn : nn ≤ 1000) (h : a < 0 ∨ (nn : Int) ≤ a) :
    Calls Tryz.prog 17 #[.agg t.cells, .slice A nn c, .int .i64 a] w fun e w' => e = .returned (.int .i64 1) ∧ Below w.heap.size w w' := by
  obtain ⟨k, p, f, x, n, A', c', L⟩ := t
  simp only [Tree.cells]
  obtain ⟨m, hm⟩ : ∃ m, Hid (L.length = m) := ⟨_, rfl⟩
  rw [hm.out]
  have hb0 := Lib.hid ((Below.refl _ w).alloc (Nat.le_refl _) (.cells #[.int .i64 k, .int .i64 p, .string f, .string x, .int .i64 n, .slice A' m c'] 24))
  by_cases h0 : a < 0
  all_goals
    go_enter Tryz.func17, Tryz.ntmps17
    go_wp2_with fail
    all_goals try (exfalso; omega)
    go_ret
    exact ⟨rfl, hb0.out⟩
theorem holds_any (A : Option Addr) (nn c : Nat) (docs : List Pap) (a : Int) (t : Tree) (w : World) (hT : TreeAt w t) (hR : Room w A nn docs) :
    Calls Tryz.prog 17 #[.agg t.cells, .slice A nn c, .int .i64 a] w fun e w' => e = .returned (.int .i64 (standsA docs t a)) ∧ Below w.heap.size w w' := by
  by_cases h : a < 0 ∨ (nn : Int) ≤ a
  · rw [standsA_out (by rw [hR.len]; exact h)]
    exact holds_out A nn c a t w hR.most h
  · obtain ⟨m, rfl⟩ : ∃ m : Nat, a = m := ⟨a.toNat, by omega⟩
    obtain ⟨d, hd⟩ : ∃ d, docs[m]? = some d := ⟨_, List.getElem?_eq_getElem (by have := hR.len; omega)⟩
    rw [standsA_in hd]
    exact holds_in A nn c docs m d hd t w hT hR
theorem few_docs {needs : List Nd} {docs : List Pap} (h : fewB needs docs = true) : needs.length ≤ 12 ∧ docs.length ≤ 12 ∧ SmallD docs ∧ ∀ x ∈ needs, sizeT x.rule 200 ≤ 60 := by
  unfold fewB at h
  simp only [Bool.and_eq_true, decide_eq_true_eq] at h
  refine ⟨h.1.1.1, h.1.1.2, fun d hd f hf => ?_, fun x hx => ?_⟩
  · have := List.all_eq_true.1 h.2 d hd
    simp only [Bool.and_eq_true, decide_eq_true_eq] at this
    have := List.all_eq_true.1 this.2 f hf
    simp only [decide_eq_true_eq] at this
    omega
  · have := List.all_eq_true.1 h.1.2 x hx
    simpa using this

end Go.Proofs.YtdjmckjbibfecaaGreatDoor

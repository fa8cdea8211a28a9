/- Atoms and rules: how many, how they stand. (Plain: no program.) -/
import Derived.Test.YtdjmckjbibfecaaGreatDoorCd
import Derived.Test.YtdjmckjbibfecaaGreatDoorZg
namespace Go.Proofs.YtdjmckjbibfecaaGreatDoor
open Go

mutual
theorem atoms_wgt : ∀ t : Tree, ((atomsT t).length : Int) ≤ wgtT t
  | .mk k p f x n A c L => by
    rw [atomsT, wgtT]
    have h := atomsL_wgt L
    have h0 := wgtL_pos L
    split
    · simp only [List.length_cons, List.length_nil]; omega
    · split
      · omega
      · simp only [List.length_nil]; omega
theorem atomsL_wgt : ∀ L : List Tree, ((atomsL L).length : Int) ≤ wgtL L
  | [] => by rw [atomsL, wgtL]; exact Int.le_refl _
  | t :: L => by
    rw [atomsL, wgtL, List.length_append]
    have h := atoms_wgt t
    have h2 := atomsL_wgt L
    omega
end
mutual
theorem atoms_mem {Q : Tree → Prop} : ∀ {t : Tree}, allT Q t → ∀ a ∈ atomsT t, allT Q a
  | .mk k p f x n A c L, h, a, ha => by
    rw [atomsT] at ha
    split at ha
    · obtain rfl := List.mem_singleton.1 ha; exact h
    · split at ha
      · exact atomsL_mem (allL_of fun u hu => allT_sub h u hu) a ha
      · cases ha
theorem atomsL_mem {Q : Tree → Prop} : ∀ {L : List Tree}, allL Q L → ∀ a ∈ atomsL L, allT Q a
  | [], _, a, ha => by rw [atomsL] at ha; cases ha
  | t :: L, h, a, ha => by
    rw [atomsL] at ha
    rcases List.mem_append.1 ha with ha | ha
    · exact atoms_mem (allL_mem h t (by simp)) a ha
    · exact atomsL_mem (allL_of fun u hu => allL_mem h u (by simp [hu])) a ha
end
mutual
theorem atoms_at {w : World} : ∀ {t : Tree}, TreeAt w t → ∀ a ∈ atomsT t, TreeAt w a
  | .mk k p f x n A c L, h, a, ha => by
    rw [atomsT] at ha
    split at ha
    · obtain rfl := List.mem_singleton.1 ha; exact h
    · split at ha
      · rw [TreeAt] at h; exact atomsL_at h.1 a ha
      · cases ha
theorem atomsL_at {w : World} : ∀ {A : Option Addr} {j : Nat} {L : List Tree}, RowsAt w A j L → ∀ a ∈ atomsL L, TreeAt w a
  | _, _, [], _, a, ha => by rw [atomsL] at ha; cases ha
  | _, _, t :: L, h, a, ha => by
    rw [RowsAt] at h
    rw [atomsL] at ha
    rcases List.mem_append.1 ha with ha | ha
    · exact atoms_at h.2.1 a ha
    · exact atomsL_at h.2.2 a ha
end
mutual
theorem atoms_kind : ∀ {t : Tree}, ∀ a ∈ atomsT t, 3 ≤ a.kind ∧ a.kind ≤ 7
  | .mk k p f x n A c L, a, ha => by
    rw [atomsT] at ha
    split at ha
    · rename_i h; obtain rfl := List.mem_singleton.1 ha; exact h
    · split at ha
      · exact atomsL_kind a ha
      · cases ha
theorem atomsL_kind : ∀ {L : List Tree}, ∀ a ∈ atomsL L, 3 ≤ a.kind ∧ a.kind ≤ 7
  | [], a, ha => by rw [atomsL] at ha; cases ha
  | t :: L, a, ha => by
    rw [atomsL] at ha
    rcases List.mem_append.1 ha with ha | ha
    · exact atoms_kind a ha
    · exact atomsL_kind a ha
end
mutual
theorem holds_eval {docs : List Pap} {d : Pap} {s : Nat → Int} : ∀ (t : Tree) (j : Nat), (∀ i a, (atomsT t)[i]? = some a → s (j + i) = holdsT docs d a) → (evalT s t j).1 = holdsT docs d t
  | .mk k p f x n A c L, j, hs => by
    rw [atomsT] at hs
    rw [evalT]
    by_cases h : 3 ≤ k ∧ k ≤ 7
    · rw [if_pos h]
      rw [if_pos h] at hs
      exact hs 0 _ rfl
    rw [if_neg h] at hs ⊢
    rw [holdsT]
    by_cases h3 : 0 ≤ k ∧ k ≤ 2
    · rw [if_pos h3] at hs
      have hg := great_eval L j 0 hs
      have hl := least_eval L j 2 hs
      by_cases h0 : k = 0
      · rw [if_pos h0, if_pos h0]; exact hg
      rw [if_neg h0, if_neg h0]
      by_cases h1 : k = 1
      · rw [if_pos h1, if_pos h1]; exact hl
      rw [if_neg h1, if_neg h1, if_pos (by omega), if_pos (by omega)]
      show 2 - _ = _
      rw [hg]
    · rw [if_neg (by omega), if_neg (by omega), if_neg (by omega), if_neg (by omega), if_neg (by omega), if_neg (by omega), if_neg h]
theorem great_eval {docs : List Pap} {d : Pap} {s : Nat → Int} : ∀ (L : List Tree) (j : Nat) (a : Int), (∀ i u, (atomsL L)[i]? = some u → s (j + i) = holdsT docs d u) → (greatE s L j a).1 = greatT docs d L a
  | [], j, a, _ => by rw [greatE, greatT]
  | t :: L, j, a, hs => by
    rw [atomsL] at hs
    rw [greatE, greatT, evalT_next, holds_eval t j (fun i u hi => hs i u (by rw [List.getElem?_append_left (List.getElem?_eq_some_iff.1 hi).1]; exact hi))]
    refine great_eval L _ _ (fun i u hi => ?_)
    rw [Nat.add_assoc]
    exact hs _ u (by rw [List.getElem?_append_right (by omega), show (atomsT t).length + i - (atomsT t).length = i by omega]; exact hi)
theorem least_eval {docs : List Pap} {d : Pap} {s : Nat → Int} : ∀ (L : List Tree) (j : Nat) (a : Int), (∀ i u, (atomsL L)[i]? = some u → s (j + i) = holdsT docs d u) → (leastE s L j a).1 = leastT docs d L a
  | [], j, a, _ => by rw [leastE, leastT]
  | t :: L, j, a, hs => by
    rw [atomsL] at hs
    rw [leastE, leastT, evalT_next, holds_eval t j (fun i u hi => hs i u (by rw [List.getElem?_append_left (List.getElem?_eq_some_iff.1 hi).1]; exact hi))]
    refine least_eval L _ _ (fun i u hi => ?_)
    rw [Nat.add_assoc]
    exact hs _ u (by rw [List.getElem?_append_right (by omega), show (atomsT t).length + i - (atomsT t).length = i by omega]; exact hi)
end
end Go.Proofs.YtdjmckjbibfecaaGreatDoor

/- What the row's list gives: the environment that the walks ask. -/
import Derived.Test.YtdgbghgcnkjjeaaDoorTextsWalk
import Derived.Test.YtdgbghgcnkjjeaaDoorOpen
import Derived.Test.YtdgbghgcnkjjeaaDoorCards
import Derived.Test.YtdgbghgcnkjjeaaDoorTie
import Derived.ProofKit
import Derived.OpenShut
import Derived.Deep.DeepHandedRow
import Derived.Lib.LaidTab
import Derived.LaidSub
import Derived.MakeChecks
namespace Go.Proofs.YtdgbghgcnkjjeaaDoor
open Go.ChangeShapes Go.WideShapes Go.ChangeAt Go.RowKit

theorem gTab : Tryd.prog.globalNamed "internal/strconv.uint64pow10" = some 1 := by kernel_rfl
theorem gTabType : (Tryd.prog.globals[1]?).map (·.type) = some 87 := by kernel_rfl
theorem cells87 : Tryd.prog.cellsOf 87 = 20 := by kernel_rfl
theorem cells75 : Tryd.prog.cellsOf 75 = 1 := by kernel_rfl
theorem table {W : World} (h : laidMetH Tryd.prog Rows.endorseTextsRow.laid W) : Lib.TabIs Tryd.prog W "internal/strconv.uint64pow10" .u64 Lib.pow10Tab := by
  have h1 := laidMetH.filter (fun x => x.1 == "internal/strconv.uint64pow10") h
  have h2 : laidMetH Tryd.prog [("internal/strconv.uint64pow10", Lib.tabData .u64 Lib.pow10Tab)] W := h1
  exact Lib.tabIs_of_head (rest := []) gTab gTabType Tryd.underlying87 Tryd.underlying75 cells75 cells87 h2
theorem env_of {W : World} (h : laidMetH Tryd.prog Rows.endorseTextsRow.laid W) (hs : W.ShapedOpen Tryd.prog) : Env W := by
  refine ⟨table h, Go.Proofs.cell_of_shapedOpen_int (zero := #[.int .i64 0]) (t := 3) hs (of_decide_eq_true (by kernel_rfl)) (by kernel_rfl) rfl (by kernel_rfl) (by kernel_rfl) Tryd.underlying3, ?_⟩
  have h0 : (((begin Tryd.prog (fun _ _ => 0) default).world.heap[5]?).bind Obj.row?).isSome = true := by kernel_rfl
  obtain ⟨⟨zero, t⟩, hz⟩ := Option.isSome_iff_exists.1 h0
  obtain ⟨cs, hh, _⟩ := hs.1 5 zero t (of_decide_eq_true (by kernel_rfl)) hz
  rcases Nat.lt_or_ge 5 W.heap.size with h | h
  · omega
  · rw [Array.getElem?_eq_none h] at hh; simp at hh
end Go.Proofs.YtdgbghgcnkjjeaaDoor

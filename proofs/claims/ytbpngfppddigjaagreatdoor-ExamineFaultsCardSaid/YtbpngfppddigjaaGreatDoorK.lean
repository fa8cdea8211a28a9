/- A fault as a map's key; the closure that tells a fault once. -/
import Derived.Test.YtbpngfppddigjaaGreatDoorM
import Derived.Test.YtbpngfppddigjaaGreatDoorE
namespace Go.Proofs.YtbpngfppddigjaaGreatDoor
open Go Go.RowKit Go.BigFrame Go.Maps

theorem laidOut : laidOutB Tryz.prog = true := by kernel_rfl
theorem row40 : (40 : TypeId) < Tryz.prog.types.size := of_decide_eq_true (by kernel_rfl)
theorem wide40 : (match Tryz.prog.underlying 40 with | some (.array _ _) | some (.struct _) => true | _ => false) = true := by kernel_rfl
set_option maxRecDepth 100000 in
theorem keyed40 : Keyed Tryz.prog 40 := Keyed.of_law (deep_law_laid laidOut (m := 2) (by omega) row40 (by kernel_rfl) wide40)
theorem cells40 : Tryz.prog.cellsOf 40 = 4 := by kernel_rfl
theorem keyT40 : Tryz.prog.keyType 40 = true := by kernel_rfl
theorem depth40 : ∃ d, Tryz.prog.types.size = 40 + d + 1 := Nat.exists_eq_add_of_lt row40
def Flt.fits (x : Flt) : Prop := (Lit.int .i64 x.paper).wf = true ∧ (Lit.int .i64 x.kind).wf = true ∧ x.field.size ≤ maxLen ∧ (Lit.int .i64 x.why).wf = true
theorem fits_i64 {n : Int} (h0 : -9223372036854775808 ≤ n) (h1 : n ≤ 9223372036854775807) : (Lit.int .i64 n).wf = true := WalkArith.wf_i64 ⟨h0, h1⟩
theorem keyF (x : Flt) (h : x.fits) : ∃ l, keyOf Tryz.prog 40 x.agg = some l := by
  obtain ⟨h1, h2, h3, h4⟩ := h
  obtain ⟨d, hd⟩ := depth40
  unfold keyOf
  rw [Tryz.underlying40]
  have hform : (x.agg).formed Tryz.prog 40 = true := by simp [Value.formed, Tryz.underlying40, cells40]
  simp only [keyT40, hform, Bool.and_self, if_true]
  have c3 : Tryz.prog.cellsOf 3 = 1 := by kernel_rfl
  have c9 : Tryz.prog.cellsOf 9 = 1 := by kernel_rfl
  have hk : ∃ L, Tryz.prog.keyLits (Tryz.prog.types.size + 1) 40 x.agg.cells.toList = some L := by
    rw [hd]
    refine ⟨[.int .i64 x.paper, .int .i64 x.kind, .string x.field.data.toList, .int .i64 x.why], ?_⟩
    unfold Program.keyLits
    simp only [Tryz.underlying40]
    simp [Value.cells, cells40, c3, c9, Program.keyLits, Tryz.underlying3, Tryz.underlying9, h1, h2, h3, h4]
  obtain ⟨L, hL⟩ := hk
  rw [hL]; exact ⟨_, rfl⟩
end Go.Proofs.YtbpngfppddigjaaGreatDoor

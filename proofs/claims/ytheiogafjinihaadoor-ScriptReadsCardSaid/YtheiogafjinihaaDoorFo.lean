/- The lines' forms: parts as pairs of closures. -/
import Derived.Test.YtheiogafjinihaaDoorMw
import Derived.Laws.EntriesVeiled
namespace Go.Proofs.YtheiogafjinihaaDoor
open Go Go.RowKit Go.BigFrame Go.Maps

theorem results_row {P : Program} {fn : Func} {p : Tmp} {ty : TypeId} (h : fn.results = #[.cell p ty]) (tmps : Array Value) (w : World) (g : Nat) (t : TypeId) (cs : Array Value) (d : TypeDesc)
    (hp : tmps.getD p undef = .pointer (some ⟨g, 0, none⟩)) (hg : Blk w g t cs)
    (hu : P.underlying ty = some d) (hd : (match d with | .struct _ | .array _ _ => true | _ => false) = true) (hi : (P.info? ty).map (·.size) = some cs.size) :
    (results fn tmps).run P w = .ok (.agg cs) w := by
  have hp' : tmps[p]?.getD undef = .pointer (some ⟨g, 0, none⟩) := by simpa using hp
  simp [results, h, hp', asAddr, run_loadVar_row w g t ty cs (0, 0) d hg hu hd hi]
abbrev pO (g : Nat) : Value := .pointer (some ⟨g, 0, none⟩)
/-- A function that captures nothing. -/
abbrev fnV (f : Nat) : Value := .func (.func f) #[] #[]

set_option maxRecDepth 100000 in
theorem number_any (f : Nat) (w : World) :
    Calls Tryd.prog 39 #[fnV f] w fun e w' => e = .returned (.agg #[.func (.func 40) #[] #[pO w.heap.size], .func (.func 43) #[] #[pO w.heap.size]]) ∧ Blk w' w.heap.size 105 #[fnV f] ∧ Below w.heap.size w w' := by
  obtain ⟨w0, hw0⟩ : ∃ W, Hid (w.alloc (.cells #[fnV f] 105) = W) := ⟨_, rfl⟩
  have hb0 : Hid (Below w.heap.size w w0) := by rw [← hw0.out]; exact (Below.refl _ w).alloc (Nat.le_refl _) _
  have hk0 : Hid (Blk w0 w.heap.size 105 #[fnV f]) := by rw [← hw0.out]; exact Lib.hid (Blk.new _ _ _)
  go_enter Tryd.func39, Tryd.ntmps39
  go_wp2_with (rw [hw0.out])
  refine bodyPost_ret (results_row rfl _ _ w0.heap.size 81 _ _ rfl (Blk.new _ _ _) Tryd.underlying81 rfl (by kernel_rfl)) rfl ?_
  exact ⟨rfl, hk0.out.alloc _, hb0.out.alloc hb0.out.size _⟩
end Go.Proofs.YtheiogafjinihaaDoor

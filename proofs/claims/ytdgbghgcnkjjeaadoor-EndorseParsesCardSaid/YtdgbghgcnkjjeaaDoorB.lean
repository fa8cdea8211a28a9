/- Walks of the functions over one endorsement. -/
import Derived.Test.YtdgbghgcnkjjeaaDoorA
namespace Go.Proofs.YtdgbghgcnkjjeaaDoor
open Go.RowKit

structure End where
  frm : ByteArray
  to : ByteArray
  kind : Int
  day : Int

def End.val (x : End) : Value := .agg #[.string x.frm, .string x.to, .int .i64 x.kind, .int .i64 x.day]
def End.okB (x : End) : Bool :=
  nameB x.frm.data.toList && decide (0 ≤ x.day) && decide (x.day ≤ 1048576) &&
    (if x.kind = 1 then x.to.toList.isEmpty else (decide (x.kind = 0) || decide (x.kind = 2)) && nameB x.to.data.toList && !(x.to.toList == x.frm.toList))

set_option maxHeartbeats 400000 in
theorem may_any (f t : ByteArray) (k d : Int) (w : World) (hf : f.size ≤ maxLen) (ht : t.size ≤ maxLen) :
    Calls Tryd.prog 13 #[.agg #[.string f, .string t, .int .i64 k, .int .i64 d]] w fun e w' => e = .returned (.bool (End.okB ⟨f, t, k, d⟩)) ∧ Below w.heap.size w w' := by
  go_enter Tryd.func13, Tryd.ntmps13
  go_wp2_with (go_at_call 23; refine (markName_any _ _ (by assumption)).mono ?_; rintro e w' ⟨rfl, rfl⟩)
  all_goals (go_ret; refine ⟨retB ?_, (Below.refl _ _).alloc (Nat.le_refl _) _⟩; go_light; simp_all [End.okB]; try (intros; omega))

set_option maxHeartbeats 400000 in
theorem right_any (f t : ByteArray) (k d : Int) (w : World) (hf : f.size ≤ maxLen) (ht : t.size ≤ maxLen) :
    Calls Tryd.prog 17 #[.agg #[.string f, .string t, .int .i64 k, .int .i64 d]] w fun e w' => e = .returned (.bool (End.okB ⟨f, t, k, d⟩)) ∧ Below w.heap.size w w' := by
  go_enter Tryd.func17, Tryd.ntmps17
  go_wp2_with (go_at_call 28; refine (refName_any _ _ (by assumption)).mono ?_; rintro e w' ⟨rfl, rfl⟩)
  all_goals (go_ret; refine ⟨retB ?_, (Below.refl _ _).alloc (Nat.le_refl _) _⟩; go_light; simp_all [End.okB]; try (intros; omega))

end Go.Proofs.YtdgbghgcnkjjeaaDoor

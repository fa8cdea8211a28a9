/- Walks of the document's Line and Text. -/
import Derived.Test.YtdgbghgcnkjjeaaDoorT
namespace Go.Proofs.YtdgbghgcnkjjeaaDoor
open Go.RowKit Go.BigFrame

/-- The line of an endorsement: 'blank F D', 'only F T D', 'order F T D', and a line feed. -/
def lineL (x : End) : List UInt8 :=
  if x.kind = 1 then [98, 108, 97, 110, 107, 32] ++ x.frm.data.toList ++ [32] ++ Lib.decDigits x.day.toNat ++ [10]
  else (if x.kind = 2 then [111, 110, 108, 121, 32] else [111, 114, 100, 101, 114, 32]) ++ x.frm.data.toList ++ [32] ++ x.to.data.toList ++ [32] ++ Lib.decDigits x.day.toNat ++ [10]

theorem retStr {a : ByteArray} {b : List UInt8} (h : a.data.toList = b) : Ending.returned (.string a) = .returned (.string ⟨b.toArray⟩) := by
  subst h; cases a; simp

set_option maxRecDepth 100000 in
set_option maxHeartbeats 800000 in
theorem lineR_blank (f t : ByteArray) (d : Nat) (w : World) (hf : f.size ≤ 100) (hd : d ≤ 1048576) :
    Calls Tryd.prog 18 #[.agg #[.string f, .string t, .int .i64 1, .int .i64 (d : Int)]] w fun e w' => e = .returned (.string ⟨(lineL ⟨f, t, 1, d⟩).toArray⟩) ∧ Below w.heap.size w w' := by
  have hdl : (Lib.decDigits d).length ≤ 1048577 := by have := dec_len d; omega
  go_enter Tryd.func18, Tryd.ntmps18
  go_wp2_with fail
  have hxc := fun (y : Ext (w.alloc (.cells #[.string f, .string t, .int .i64 1, .int .i64 (d : Int)] 34))) (o : Nat) => y.cell ⟨w.heap.size, o, none⟩ (by simp)
  refine wp_region_ext (by kernel_rfl) (by kernel_rfl) ?_
  repeat (go_big_quiet_step ((go_at_call 29; exact Calls.ext_of (digits_any d _ hd))))
  refine wpQuiet_nil ?_
  rintro _ ⟨y, rfl⟩
  have hB1 : Below w.heap.size w y.wd := ((Below.refl _ w).alloc (Nat.le_refl _) _).trans (y.below.mono (by simp))
  go_wp2
  go_ret
  refine ⟨retStr ?_, hB1⟩
  simp [lineL]

set_option maxRecDepth 100000 in
set_option maxHeartbeats 800000 in
theorem lineR_other (f t : ByteArray) (k : Int) (d : Nat) (w : World) (hk : (k == 1) = false) (hf : f.size ≤ 100) (ht : t.size ≤ 100) (hd : d ≤ 1048576) :
    Calls Tryd.prog 18 #[.agg #[.string f, .string t, .int .i64 k, .int .i64 (d : Int)]] w fun e w' => e = .returned (.string ⟨(lineL ⟨f, t, k, d⟩).toArray⟩) ∧ Below w.heap.size w w' := by
  have hdl : (Lib.decDigits d).length ≤ 1048577 := by have := dec_len d; omega
  go_enter Tryd.func18, Tryd.ntmps18
  by_cases hk2 : (k == 2) = true
  all_goals
    try (have hk2' : (k == 2) = false := by simpa using hk2)
    go_wp2_with fail
    have hxc := fun (y : Ext (w.alloc (.cells #[.string f, .string t, .int .i64 k, .int .i64 (d : Int)] 34))) (o : Nat) => y.cell ⟨w.heap.size, o, none⟩ (by simp)
    refine wp_region_ext (by kernel_rfl) (by kernel_rfl) ?_
    repeat (go_big_quiet_step ((go_at_call 29; exact Calls.ext_of (digits_any d _ hd))))
    refine wpQuiet_nil ?_
    rintro _ ⟨y, rfl⟩
    have hB1 : Below w.heap.size w y.wd := ((Below.refl _ w).alloc (Nat.le_refl _) _).trans (y.below.mono (by simp))
    go_wp2
    go_ret
    refine ⟨retStr ?_, hB1⟩
    go_light
    simp_all [lineL]

end Go.Proofs.YtdgbghgcnkjjeaaDoor

/- A text among the arguments, with the reach of memory. -/
import Derived.Test.YtpnkpnocipkedaaDoorOc
namespace Go.Proofs.YtpnkpnocipkedaaDoor
open Go Go.ChangeShapes Go.WideShapes Go.ChangeAt Go.RowKit Go.Deep

section
variable {H : Type} {enc : TypeId × Value → H} {W : World} {base : Nat}
set_option maxRecDepth 100000 in
theorem arg_str {v : Value} {d : DataW H} {p : List MemPlace} (hv : Value.okWide Tryd.prog W .any base 9 v) (h : TrdV enc W 9 v d p) (hf : Fits Tryd.prog 9 d) :
    ∃ s : ByteArray, v = .string s ∧ s.size ≤ 140737488351232 := by
  obtain ⟨s, rfl⟩ := okWide_string Tryd.underlying9 hv
  obtain ⟨fuel, h⟩ := h
  obtain ⟨s', e, hs⟩ := open_str_at Tryd.underlying9 h hf
  simp [Value.cells] at e
  subst e
  exact ⟨s, rfl, hs⟩
theorem i64_arg {n : Int} (h : (Lit.int .i64 n).wf = true) : Hid (-9223372036854775808 ≤ n ∧ n ≤ 9223372036854775807) := i64_of h
end
end Go.Proofs.YtpnkpnocipkedaaDoor

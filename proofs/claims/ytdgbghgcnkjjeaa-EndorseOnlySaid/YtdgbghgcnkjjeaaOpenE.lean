/- One endorsement as an argument, opened. -/
import Derived.Test.YtdgbghgcnkjjeaaOpen
namespace Go.Proofs.Ytdgbghgcnkjjeaa
open Go.ChangeShapes Go.WideShapes Go.ChangeAt Go.RowKit Go.Deep Go.Joins
theorem Try.cells30 : Try.prog.cellsOf 30 = 4 := by kernel_rfl
theorem open_end {H : Type} {enc : TypeId × Value → H} {W : World} {base : Nat} {v : Value} {d : DataW H} {p : List MemPlace} (hv : Value.okWide Try.prog W .any base 30 v) (h : DataW.Trod enc Try.prog W 0 (fun _ => true) true 30 v d p) :
    ∃ x : End, v = .agg #[.string x.frm, .string x.to, .int .i64 x.kind, .int .i64 x.day] ∧ x.frm.size ≤ maxLen ∧ x.to.size ≤ maxLen := by
  obtain ⟨c0, c1, c2, c3, y0, y1, y2, y3, m, rfl, _, _, ht0, ht1, ht2, ht3⟩ := open_agg4 Try.underlying30 (by kernel_rfl) Try.cells30 hv h
  obtain ⟨s0, e0, _, g0⟩ := DataW.trod_string Try.underlying9 ht0
  obtain ⟨s1, e1, _, g1⟩ := DataW.trod_string Try.underlying9 ht1
  obtain ⟨i2, e2, _, g2⟩ := DataW.trod_int Try.underlying3 ht2
  obtain ⟨i3, e3, _, g3⟩ := DataW.trod_int Try.underlying3 ht3
  simp at e0 e1 e2 e3
  subst e0 e1 e2 e3
  exact ⟨⟨s0, s1, i2, i3⟩, rfl, g0, g1⟩
end Go.Proofs.Ytdgbghgcnkjjeaa

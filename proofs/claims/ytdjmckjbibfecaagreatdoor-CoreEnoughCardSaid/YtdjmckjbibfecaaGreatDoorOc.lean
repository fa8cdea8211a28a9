/- Arguments of the laws, opened. -/
import Derived.Test.YtdjmckjbibfecaaGreatDoorOb
namespace Go.Proofs.YtdjmckjbibfecaaGreatDoor
open Go Go.ChangeShapes Go.WideShapes Go.ChangeAt Go.RowKit Go.Deep

section
variable {H : Type} {enc : TypeId × Value → H} {W : World} {base : Nat}
theorem fits_of {P : Program} {ts : List TypeId} {l : List (DataW H)} (hz : (DataW.weightsEach P ts l).all (· ≤ reachBytes) = true) {j : Nat} {t : TypeId} {d : DataW H} (ht : ts[j]? = some t) (hd : l[j]? = some d) : Fits P t d := fun n hn => by
  have := List.all_eq_true.1 hz n (DataW.weights_mem_each ht hd n hn)
  simpa using this
abbrev TrdV (enc : TypeId × Value → H) (W : World) (t : TypeId) (v : Value) (d : DataW H) (p : List MemPlace) : Prop := DataW.Trod enc Tryz.prog W 0 (fun _ => true) true t v d p
set_option maxRecDepth 100000 in
theorem arg_docs {v : Value} {d : DataW H} {p : List MemPlace} (hv : Value.okWide Tryz.prog W .any base 25 v) (h : TrdV enc W 25 v d p) (hf : Fits Tryz.prog 25 d) :
    ∃ (A : Option Addr) (c : Nat) (l : List Pap), v = .slice A l.length c ∧ l.length ≤ maxLen ∧ DocsAt W A l ∧ LongD l := by
  obtain ⟨A, n, c, rfl⟩ := okWide_slice Tryz.underlying25 hv
  obtain ⟨fuel, h⟩ := h
  obtain ⟨A', c', l, e, h1, h2, h3⟩ := open_docs h hf
  simp [Value.cells] at e
  obtain ⟨rfl, rfl, rfl⟩ := e
  exact ⟨A, c, l, rfl, h1, h2, h3⟩
set_option maxRecDepth 100000 in
theorem arg_node {v : Value} {d : DataW H} {p : List MemPlace} (hv : Value.okWide Tryz.prog W .any base 24 v) (h : TrdV enc W 24 v d p) (hf : Fits Tryz.prog 24 d) :
    ∃ t : Tree, v = .agg t.cells ∧ TreeAt W t ∧ LongT t := by
  obtain ⟨cs, rfl, _⟩ := okWide_struct Tryz.underlying24 hv
  obtain ⟨fuel, h⟩ := h
  obtain ⟨t, e, h1, h2⟩ := open_node fuel _ _ h hf
  have e' : cs = t.cells := by
    simp only [Value.cells] at e
    exact Array.toList_inj.1 e
  exact ⟨t, by rw [e'], h1, h2⟩
end
end Go.Proofs.YtdjmckjbibfecaaGreatDoor

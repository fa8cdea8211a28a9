/- An argument opened: bytes. -/
import Derived.Test.YtdjmckjbibfecaaGreatDoorOc
import Derived.Test.YtdjmckjbibfecaaGreatDoorCh
namespace Go.Proofs.YtdjmckjbibfecaaGreatDoor
open Go Go.ChangeShapes Go.WideShapes Go.ChangeAt Go.RowKit Go.Deep

theorem u8_of {n : Int} (h : (Lit.int .u8 n).wf = true) : ∃ x : UInt8, (x.toNat : Int) = n := by
  simp only [Lit.wf, Bool.and_eq_true, decide_eq_true_eq] at h
  have e1 : IntKind.u8.min = 0 := by decide
  have e2 : IntKind.u8.max = 255 := by decide
  rw [e1, e2] at h
  refine ⟨UInt8.ofNat n.toNat, ?_⟩
  have : n.toNat < 256 := by omega
  simp [Nat.mod_eq_of_lt this]
  omega
section
variable {H : Type} {enc : TypeId × Value → H} {W : World} {base : Nat}
set_option maxRecDepth 100000 in
theorem arg_bytes {v : Value} {d : DataW H} {p : List MemPlace} (hv : Value.okWide Tryz.prog W .any base 33 v) (h : TrdV enc W 33 v d p) (hf : Fits Tryz.prog 33 d) :
    ∃ (A : Option Addr) (c : Nat) (l : List UInt8), v = .slice A l.length c ∧ l.length ≤ maxLen ∧ BytesAt W A l ∧ l.length ≤ c ∧ c ≤ maxLen := by
  obtain ⟨A, n, c, rfl⟩ := okWide_slice Tryz.underlying33 hv
  obtain ⟨fuel, h⟩ := h
  obtain ⟨A', len, cap, m, e, _, hl, hm, _, hi⟩ := open_row Tryz.underlying33 (by rw [show Tryz.prog.cellsOf 5 = 1 by kernel_rfl]; omega) h hf
  rw [show Tryz.prog.cellsOf 5 = 1 by kernel_rfl] at hi
  simp only [Value.cells, List.cons.injEq, Value.slice.injEq, and_true] at e
  obtain ⟨rfl, rfl, rfl⟩ := e
  obtain ⟨l, hlen, hR⟩ := list_of n (fun i (x : UInt8) => ∃ g off, A = some ⟨g, off, none⟩ ∧ W.cell? ⟨g, off + i, none⟩ = some (.int .u8 (x.toNat : Int))) (fun i hin => by
    obtain ⟨b, off, cs', y, hA, hcl, hc, ht, _⟩ := hi i hin
    obtain ⟨k, e, g⟩ := open_int_at Tryz.underlying5 ht
    obtain ⟨x, hx⟩ := u8_of g
    have h0 := hc 0 (by omega)
    rw [e] at h0
    refine ⟨x, b, off, hA, ?_⟩
    rw [hx]
    simpa using h0)
  subst hlen
  exact ⟨A, c, l, rfl, Nat.le_trans hl hm, fun i x hx => hR i x hx, hl, hm⟩
end
end Go.Proofs.YtdjmckjbibfecaaGreatDoor

/- A bill and a byte among the arguments, opened. -/
import Derived.Test.YtnmnknkdnjkpjaaGreatDoorOc
import Derived.Test.YtnmnknkdnjkpjaaGreatDoorBj
namespace Go.Proofs.YtnmnknkdnjkpjaaGreatDoor
open Go Go.ChangeShapes Go.WideShapes Go.ChangeAt Go.RowKit Go.Deep

section
variable {H : Type} {enc : TypeId × Value → H} {W : World} {base : Nat}
theorem open_strs {fuel : Nat} {cs : List Value} {x : DataW H × List MemPlace} (h : Trd enc W fuel 38 cs x) (hw : Fits Tryz.prog 38 x.1) :
    ∃ (A : Option Addr) (c : Nat) (l : List ByteArray), cs = [.slice A l.length c] ∧ l.length ≤ c ∧ c ≤ maxLen ∧ StrsAt W A l ∧ ∀ s ∈ l, s.size ≤ 140737488351232 := by
  obtain ⟨A, len, cap, n, rfl, _, hl, hm, _, hi⟩ := open_row Tryz.underlying38 (by rw [show Tryz.prog.cellsOf 9 = 1 by kernel_rfl]; omega) h hw
  rw [show Tryz.prog.cellsOf 9 = 1 by kernel_rfl] at hi
  obtain ⟨l, hlen, hR⟩ := list_of len (fun i (s : ByteArray) => (∃ b off, A = some ⟨b, off, none⟩ ∧ W.cell? ⟨b, off + i, none⟩ = some (.string s)) ∧ s.size ≤ 140737488351232) (fun i hin => by
    obtain ⟨b, off, cs', y, hA, hcl, hc, ht, hf⟩ := hi i hin
    obtain ⟨s0, e0, g0⟩ := open_str_at Tryz.underlying9 ht hf
    subst e0
    exact ⟨s0, ⟨b, off, hA, by simpa using hc 0 (by omega)⟩, g0⟩)
  subst hlen
  refine ⟨A, cap, l, rfl, hl, hm, fun k f hk => (hR k f hk).1, fun f hf => ?_⟩
  obtain ⟨k, hk⟩ := List.mem_iff_getElem?.1 hf
  exact (hR k f hk).2
theorem len9 {α : Type} {l : List α} (h : l.length = 9) : ∃ a b c d e f g i j, l = [a, b, c, d, e, f, g, i, j] := by
  match l, h with
  | [a, b, c, d, e, f, g, i, j], _ => exact ⟨a, b, c, d, e, f, g, i, j, rfl⟩
set_option maxRecDepth 100000 in
theorem arg_bill {v : Value} {d : DataW H} {p : List MemPlace} (hv : Value.okWide Tryz.prog W .any base 40 v) (h : TrdV enc W 40 v d p) (hf : Fits Tryz.prog 40 d) :
    ∃ (B : Bl) (cl : Bool), v = .agg (B.cells cl) ∧ B.wide W := by
  obtain ⟨cs, rfl, _⟩ := okWide_struct Tryz.underlying40 hv
  obtain ⟨fuel, h⟩ := h
  simp only [Value.cells] at h
  obtain ⟨m, _, hcl, hfd⟩ := open_strct Tryz.underlying40 h hf
  rw [show Tryz.prog.cellsOf 40 = 9 by kernel_rfl] at hcl
  have c9 : Tryz.prog.cellsOf 9 = 1 := by kernel_rfl
  have c3 : Tryz.prog.cellsOf 3 = 1 := by kernel_rfl
  have c4 : Tryz.prog.cellsOf 4 = 1 := by kernel_rfl
  have cs38 : Tryz.prog.cellsOf 38 = 1 := by kernel_rfl
  obtain ⟨y0, t0, f0⟩ := hfd 0 _ rfl
  obtain ⟨s0, e0, g0⟩ := open_str_at Tryz.underlying9 t0 f0
  obtain ⟨y1, t1, f1⟩ := hfd 1 _ rfl
  obtain ⟨s1, e1, g1⟩ := open_str_at Tryz.underlying9 t1 f1
  obtain ⟨y2, t2, f2⟩ := hfd 2 _ rfl
  obtain ⟨s2, e2, g2⟩ := open_str_at Tryz.underlying9 t2 f2
  obtain ⟨y3, t3, f3⟩ := hfd 3 _ rfl
  obtain ⟨s3, e3, g3⟩ := open_str_at Tryz.underlying9 t3 f3
  obtain ⟨y4, t4, f4⟩ := hfd 4 _ rfl
  obtain ⟨s4, e4, g4⟩ := open_str_at Tryz.underlying9 t4 f4
  obtain ⟨y5, t5, f5⟩ := hfd 5 _ rfl
  obtain ⟨bA, bc, bl, e5, b1, b2, b3, b4⟩ := open_strs t5 f5
  obtain ⟨y6, t6, f6⟩ := hfd 6 _ rfl
  obtain ⟨pA, pc, pl, e6, p1, p2, p3, p4⟩ := open_strs t6 f6
  obtain ⟨y7, t7, f7⟩ := hfd 7 _ rfl
  obtain ⟨k7, e7, g7⟩ := open_int_at Tryz.underlying3 t7
  obtain ⟨y8, t8, f8⟩ := hfd 8 _ rfl
  obtain ⟨k8, e8, _⟩ := DataW.trod_bool Tryz.underlying4 t8
  obtain ⟨a0, a1, a2, a3, a4, a5, a6, a7, a8, hcs⟩ := len9 hcl
  rw [hcs] at e0 e1 e2 e3 e4 e5 e6 e7 e8
  simp [c9, c3, c4, cs38] at e0 e1 e2 e3 e4 e5 e6 e7 e8
  subst e0 e1 e2 e3 e4 e5 e6 e7 e8
  refine ⟨⟨s0, s1, s2, s3, s4, bA, bc, bl, pA, pc, pl, k7⟩, k8, ?_, ⟨g0, g1, g2, g3, g4, b3, p3, Nat.le_trans b1 b2, Nat.le_trans p1 p2, b1, p1, b4, p4, i64_of g7⟩⟩
  rw [show cs = cs.toList.toArray by simp, hcs]
  rfl
theorem u8_of {n : Int} (h : (Lit.int .u8 n).wf = true) : 0 ≤ n ∧ n ≤ 255 := by
  simp only [Lit.wf, Bool.and_eq_true, decide_eq_true_eq] at h
  have e1 : IntKind.u8.min = 0 := by decide
  have e2 : IntKind.u8.max = 255 := by decide
  omega
set_option maxRecDepth 100000 in
theorem arg_u8 {v : Value} {d : DataW H} {p : List MemPlace} (hv : Value.okWide Tryz.prog W .any base 5 v) (h : TrdV enc W 5 v d p) (_hf : Fits Tryz.prog 5 d) :
    ∃ x : Int, v = .int .u8 x ∧ (0 ≤ x ∧ x ≤ 255) := by
  obtain ⟨n, e, _, _, hw⟩ := open_int Tryz.underlying5 hv h
  exact ⟨n, e, u8_of hw⟩
set_option maxRecDepth 100000 in
theorem arg_i64 {v : Value} {d : DataW H} {p : List MemPlace} (hv : Value.okWide Tryz.prog W .any base 3 v) (h : TrdV enc W 3 v d p) (_hf : Fits Tryz.prog 3 d) :
    ∃ x : Int, v = .int .i64 x ∧ i64 x := by
  obtain ⟨n, e, _, _, hw⟩ := open_int Tryz.underlying3 hv h
  exact ⟨n, e, i64_of hw⟩
end
end Go.Proofs.YtnmnknkdnjkpjaaGreatDoor

/- An order and a consignment that are handed in. -/
import Derived.Test.YtnmnknkdnjkpjaaGreatDoorVk
import Derived.Test.YtnmnknkdnjkpjaaGreatDoorOc
namespace Go.Proofs.YtnmnknkdnjkpjaaGreatDoor
open Go Go.ChangeShapes Go.WideShapes Go.ChangeAt Go.RowKit Go.BigFrame Go.Maps
section
variable {H : Type} {enc : TypeId × Value → H} {W : World} {base : Nat}
theorem open_lines {fuel : Nat} {cs : List Value} {x : DataW H × List MemPlace} (h : Trd enc W fuel 54 cs x) (hw : Fits Tryz.prog 54 x.1) :
    ∃ (A : Option Addr) (c : Nat) (l : List Ln), cs = [.slice A l.length c] ∧ l.length ≤ c ∧ c ≤ maxLen ∧ RowOf encLn 3 W A l ∧ ∀ y ∈ l, i64 y.count ∧ i64 y.price ∧ y.good.size ≤ 140737488351232 := by
  obtain ⟨A, len, cap, n, rfl, _, hl, hm, _, hi⟩ := open_row Tryz.underlying54 (by rw [show Tryz.prog.cellsOf 61 = 3 by kernel_rfl]; omega) h hw
  rw [show Tryz.prog.cellsOf 61 = 3 by kernel_rfl] at hi
  obtain ⟨l, hlen, hR⟩ := list_of len (fun i (x : Ln) => (∃ b off, A = some ⟨b, off, none⟩ ∧ ∀ j v, (encLn x)[j]? = some v → W.cell? ⟨b, off + i * 3 + j, none⟩ = some v) ∧ i64 x.count ∧ i64 x.price ∧ x.good.size ≤ 140737488351232) (fun i hin => by
    obtain ⟨b, off, cs', y, hA, hcl, hc, ht, hf⟩ := hi i hin
    obtain ⟨m, _, _, hfd⟩ := open_strct Tryz.underlying61 ht hf
    obtain ⟨y0, t0, f0⟩ := hfd 0 _ rfl
    obtain ⟨y1, t1, f1⟩ := hfd 1 _ rfl
    obtain ⟨y2, t2, f2⟩ := hfd 2 _ rfl
    obtain ⟨s0, e0, g0⟩ := open_str_at Tryz.underlying9 t0 f0
    obtain ⟨k1, e1, g1⟩ := open_int_at Tryz.underlying3 t1
    obtain ⟨k2, e2, g2⟩ := open_int_at Tryz.underlying2 t2
    obtain ⟨v0, v1, v2, rfl⟩ := len3 hcl
    simp [show Tryz.prog.cellsOf 9 = 1 by kernel_rfl, show Tryz.prog.cellsOf 3 = 1 by kernel_rfl, show Tryz.prog.cellsOf 2 = 1 by kernel_rfl] at e0 e1 e2
    subst e0 e1 e2
    exact ⟨⟨s0, k1, k2⟩, ⟨b, off, hA, cells_at (f := encLn) (fun j hj => hc j hj) rfl⟩, i64_of g1, i64_of g2, g0⟩)
  subst hlen
  refine ⟨A, cap, l, rfl, hl, hm, fun k f hk => (hR k f hk).1, fun f hf => ?_⟩
  obtain ⟨k, hk⟩ := List.mem_iff_getElem?.1 hf
  exact (hR k f hk).2
theorem len8o {α : Type} {l : List α} (h : l.length = 8) : ∃ a b c d e f g i, l = [a, b, c, d, e, f, g, i] := by
  match l, h with
  | [a, b, c, d, e, f, g, i], _ => exact ⟨a, b, c, d, e, f, g, i, rfl⟩
theorem len4c {α : Type} {l : List α} (h : l.length = 4) : ∃ a b c d, l = [a, b, c, d] := by
  match l, h with
  | [a, b, c, d], _ => exact ⟨a, b, c, d, rfl⟩
set_option maxRecDepth 100000 in
theorem arg_order {v : Value} {d : DataW H} {p : List MemPlace} (hv : Value.okWide Tryz.prog W .any base 56 v) (h : TrdV enc W 56 v d p) (hf : Fits Tryz.prog 56 d) :
    ∃ D : Od, v = .agg D.cells ∧ D.wide W := by
  obtain ⟨cs, rfl, _⟩ := okWide_struct Tryz.underlying56 hv
  obtain ⟨fuel, h⟩ := h
  simp only [Value.cells] at h
  obtain ⟨m, _, hcl, hfd⟩ := open_strct Tryz.underlying56 h hf
  rw [show Tryz.prog.cellsOf 56 = 8 by kernel_rfl] at hcl
  have c9 : Tryz.prog.cellsOf 9 = 1 := by kernel_rfl
  have c3 : Tryz.prog.cellsOf 3 = 1 := by kernel_rfl
  have cb : Tryz.prog.cellsOf 54 = 1 := by kernel_rfl
  obtain ⟨y0, t0, f0⟩ := hfd 0 _ rfl
  obtain ⟨s0, e0, g0⟩ := open_str_at Tryz.underlying9 t0 f0
  obtain ⟨y1, t1, f1⟩ := hfd 1 _ rfl
  obtain ⟨s1, e1, g1⟩ := open_str_at Tryz.underlying9 t1 f1
  obtain ⟨y2, t2, f2⟩ := hfd 2 _ rfl
  obtain ⟨s2, e2, g2⟩ := open_str_at Tryz.underlying9 t2 f2
  obtain ⟨y3, t3, f3⟩ := hfd 3 _ rfl
  obtain ⟨s3, e3, g3⟩ := open_str_at Tryz.underlying9 t3 f3
  obtain ⟨y4, t4, f4⟩ := hfd 4 _ rfl
  obtain ⟨s4, e4, g4⟩ := open_str_at Tryz.underlying9 t4 f4
  obtain ⟨y5, t5, f5⟩ := hfd 5 _ rfl
  obtain ⟨s5, e5, g5⟩ := open_str_at Tryz.underlying9 t5 f5
  obtain ⟨y6, t6, f6⟩ := hfd 6 _ rfl
  obtain ⟨k6, e6, b6⟩ := open_int_at Tryz.underlying3 t6
  obtain ⟨y7, t7, f7⟩ := hfd 7 _ rfl
  obtain ⟨A, c, l, e7, hl1, hl2, hB, hsm⟩ := open_lines t7 f7
  obtain ⟨a0, a1, a2, a3, a4, a5, a6, a7, hcs⟩ := len8o hcl
  rw [hcs] at e0 e1 e2 e3 e4 e5 e6 e7
  simp [c9, c3, cb] at e0 e1 e2 e3 e4 e5 e6 e7
  subst e0 e1 e2 e3 e4 e5 e6 e7
  refine ⟨⟨s0, s1, s2, s3, s4, s5, k6, A, c, l⟩, ?_, ⟨g0, g1, g2, g3, g4, g5, i64_of b6, hB, Nat.le_trans hl1 hl2, hl1, hsm⟩⟩
  rw [show cs = cs.toList.toArray by simp, hcs]
  rfl
set_option maxRecDepth 100000 in
theorem arg_consignment {v : Value} {d : DataW H} {p : List MemPlace} (hv : Value.okWide Tryz.prog W .any base 59 v) (h : TrdV enc W 59 v d p) (hf : Fits Tryz.prog 59 d) :
    ∃ D : Cn, v = .agg D.cells ∧ D.wide W := by
  obtain ⟨cs, rfl, _⟩ := okWide_struct Tryz.underlying59 hv
  obtain ⟨fuel, h⟩ := h
  simp only [Value.cells] at h
  obtain ⟨m, _, hcl, hfd⟩ := open_strct Tryz.underlying59 h hf
  rw [show Tryz.prog.cellsOf 59 = 4 by kernel_rfl] at hcl
  have c9 : Tryz.prog.cellsOf 9 = 1 := by kernel_rfl
  have c3 : Tryz.prog.cellsOf 3 = 1 := by kernel_rfl
  have cb : Tryz.prog.cellsOf 57 = 1 := by kernel_rfl
  obtain ⟨y0, t0, f0⟩ := hfd 0 _ rfl
  obtain ⟨s0, e0, g0⟩ := open_str_at Tryz.underlying9 t0 f0
  obtain ⟨y1, t1, f1⟩ := hfd 1 _ rfl
  obtain ⟨k1, e1, b1⟩ := open_int_at Tryz.underlying3 t1
  obtain ⟨y2, t2, f2⟩ := hfd 2 _ rfl
  obtain ⟨k2, e2, b2⟩ := open_int_at Tryz.underlying3 t2
  obtain ⟨y3, t3, f3⟩ := hfd 3 _ rfl
  obtain ⟨A, c, l, e3, hl1, hl2, hB, hsm⟩ := open_lots t3 f3
  obtain ⟨a0, a1, a2, a3, hcs⟩ := len4c hcl
  rw [hcs] at e0 e1 e2 e3
  simp [c9, c3, cb] at e0 e1 e2 e3
  subst e0 e1 e2 e3
  refine ⟨⟨s0, k1, k2, A, c, l⟩, ?_, ⟨g0, i64_of b1, i64_of b2, hB, Nat.le_trans hl1 hl2, hl1, hsm⟩⟩
  rw [show cs = cs.toList.toArray by simp, hcs]
  rfl
end
end Go.Proofs.YtnmnknkdnjkpjaaGreatDoor

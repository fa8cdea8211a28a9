/- Lots, boxes, a deal, money among the arguments, opened. -/
import Derived.Test.YtnmnknkdnjkpjaaGreatDoorOb
import Derived.Test.YtnmnknkdnjkpjaaGreatDoorSh
namespace Go.Proofs.YtnmnknkdnjkpjaaGreatDoor
open Go Go.ChangeShapes Go.WideShapes Go.ChangeAt Go.RowKit Go.Deep

section
variable {H : Type} {enc : TypeId × Value → H} {W : World} {base : Nat}
theorem cells_at {α : Type} {f : α → List Value} {W : World} {b o : Nat} {x : α} {cs : List Value} (h : ∀ j, j < cs.length → W.cell? ⟨b, o + j, none⟩ = cs[j]?) (e : f x = cs) : ∀ j v, (f x)[j]? = some v → W.cell? ⟨b, o + j, none⟩ = some v := by
  intro j v hv
  rw [e] at hv
  rw [h j (List.getElem?_eq_some_iff.1 hv).1, hv]
theorem len3 {α : Type} {l : List α} (h : l.length = 3) : ∃ a b c, l = [a, b, c] := by
  match l, h with
  | [a, b, c], _ => exact ⟨a, b, c, rfl⟩
theorem open_lots {fuel : Nat} {cs : List Value} {x : DataW H × List MemPlace} (h : Trd enc W fuel 57 cs x) (hw : Fits Tryz.prog 57 x.1) :
    ∃ (A : Option Addr) (c : Nat) (l : List Lt), cs = [.slice A l.length c] ∧ l.length ≤ c ∧ c ≤ maxLen ∧ RowOf encL 2 W A l ∧ ∀ y ∈ l, i64 y.count ∧ y.good.size ≤ 140737488351232 := by
  obtain ⟨A, len, cap, n, rfl, _, hl, hm, _, hi⟩ := open_row Tryz.underlying57 (by rw [show Tryz.prog.cellsOf 63 = 2 by kernel_rfl]; omega) h hw
  rw [show Tryz.prog.cellsOf 63 = 2 by kernel_rfl] at hi
  obtain ⟨l, hlen, hR⟩ := list_of len (fun i (x : Lt) => (∃ b off, A = some ⟨b, off, none⟩ ∧ ∀ j v, (encL x)[j]? = some v → W.cell? ⟨b, off + i * 2 + j, none⟩ = some v) ∧ i64 x.count ∧ x.good.size ≤ 140737488351232) (fun i hin => by
    obtain ⟨b, off, cs', y, hA, hcl, hc, ht, hf⟩ := hi i hin
    obtain ⟨m, _, _, hfd⟩ := open_strct Tryz.underlying63 ht hf
    obtain ⟨y0, t0, f0⟩ := hfd 0 _ rfl
    obtain ⟨y1, t1, f1⟩ := hfd 1 _ rfl
    obtain ⟨s0, e0, g0⟩ := open_str_at Tryz.underlying9 t0 f0
    obtain ⟨k1, e1, g1⟩ := open_int_at Tryz.underlying3 t1
    obtain ⟨v0, v1, rfl⟩ := len2 hcl
    simp [show Tryz.prog.cellsOf 9 = 1 by kernel_rfl, show Tryz.prog.cellsOf 3 = 1 by kernel_rfl] at e0 e1
    subst e0 e1
    exact ⟨⟨s0, k1⟩, ⟨b, off, hA, cells_at (f := encL) (fun j hj => hc j hj) rfl⟩, i64_of g1, g0⟩)
  subst hlen
  refine ⟨A, cap, l, rfl, hl, hm, fun k f hk => (hR k f hk).1, fun f hf => ?_⟩
  obtain ⟨k, hk⟩ := List.mem_iff_getElem?.1 hf
  exact (hR k f hk).2
theorem open_boxes {fuel : Nat} {cs : List Value} {x : DataW H × List MemPlace} (h : Trd enc W fuel 24 cs x) (hw : Fits Tryz.prog 24 x.1) :
    ∃ (A : Option Addr) (c : Nat) (l : List Bx), cs = [.slice A l.length c] ∧ l.length ≤ c ∧ c ≤ maxLen ∧ BoxesAt W A l ∧ ∀ x ∈ l, x.mark.size ≤ 140737488351232 ∧ ∀ y ∈ x.lots, y.good.size ≤ 140737488351232 := by
  obtain ⟨A, len, cap, n, rfl, _, hl, hm, _, hi⟩ := open_row Tryz.underlying24 (by rw [show Tryz.prog.cellsOf 71 = 3 by kernel_rfl]; omega) h hw
  rw [show Tryz.prog.cellsOf 71 = 3 by kernel_rfl] at hi
  obtain ⟨l, hlen, hR⟩ := list_of len (fun i (x : Bx) => (∃ b off, A = some ⟨b, off, none⟩ ∧ ∀ j v, (encB x)[j]? = some v → W.cell? ⟨b, off + i * 3 + j, none⟩ = some v) ∧ (RowOf encL 2 W x.A x.lots ∧ i64 x.kind ∧ x.lots.length ≤ x.c ∧ x.c ≤ maxLen ∧ ∀ y ∈ x.lots, i64 y.count) ∧
    x.mark.size ≤ 140737488351232 ∧ ∀ y ∈ x.lots, y.good.size ≤ 140737488351232) (fun i hin => by
    obtain ⟨b, off, cs', y, hA, hcl, hc, ht, hf⟩ := hi i hin
    obtain ⟨m, _, _, hfd⟩ := open_strct Tryz.underlying71 ht hf
    obtain ⟨y0, t0, f0⟩ := hfd 0 _ rfl
    obtain ⟨y1, t1, f1⟩ := hfd 1 _ rfl
    obtain ⟨y2, t2, f2⟩ := hfd 2 _ rfl
    obtain ⟨s0, e0, g0⟩ := open_str_at Tryz.underlying9 t0 f0
    obtain ⟨k1, e1, g1⟩ := open_int_at Tryz.underlying3 t1
    obtain ⟨lA, lc, ll, e2, hl1, hl2, hrow, hsm⟩ := open_lots t2 f2
    obtain ⟨v0, v1, v2, rfl⟩ := len3 hcl
    simp [show Tryz.prog.cellsOf 9 = 1 by kernel_rfl, show Tryz.prog.cellsOf 3 = 1 by kernel_rfl, show Tryz.prog.cellsOf 57 = 1 by kernel_rfl] at e0 e1 e2
    subst e0 e1 e2
    exact ⟨⟨s0, k1, lA, lc, ll⟩, ⟨b, off, hA, cells_at (f := encB) (fun j hj => hc j hj) rfl⟩, ⟨hrow, i64_of g1, hl1, hl2, fun y hy => (hsm y hy).1⟩, g0, fun y hy => (hsm y hy).2⟩)
  subst hlen
  refine ⟨A, cap, l, rfl, hl, hm, ⟨fun k f hk => (hR k f hk).1, fun f hf => ?_⟩, fun f hf => ?_⟩
  · obtain ⟨k, hk⟩ := List.mem_iff_getElem?.1 hf
    exact (hR k f hk).2.1
  · obtain ⟨k, hk⟩ := List.mem_iff_getElem?.1 hf
    exact (hR k f hk).2.2
theorem len17 {α : Type} {l : List α} (h : l.length = 17) : ∃ a b c d e f g i j k m n o p q r s, l = [a, b, c, d, e, f, g, i, j, k, m, n, o, p, q, r, s] := by
  match l, h with
  | [a, b, c, d, e, f, g, i, j, k, m, n, o, p, q, r, s], _ => exact ⟨a, b, c, d, e, f, g, i, j, k, m, n, o, p, q, r, s, rfl⟩
set_option maxRecDepth 100000 in
theorem arg_deal {v : Value} {d : DataW H} {p : List MemPlace} (hv : Value.okWide Tryz.prog W .any base 26 v) (h : TrdV enc W 26 v d p) (hf : Fits Tryz.prog 26 d) :
    ∃ D : Dl, v = .agg D.cells ∧ D.wide W := by
  obtain ⟨cs, rfl, _⟩ := okWide_struct Tryz.underlying26 hv
  obtain ⟨fuel, h⟩ := h
  simp only [Value.cells] at h
  obtain ⟨m, _, hcl, hfd⟩ := open_strct Tryz.underlying26 h hf
  rw [show Tryz.prog.cellsOf 26 = 17 by kernel_rfl] at hcl
  have c9 : Tryz.prog.cellsOf 9 = 1 := by kernel_rfl
  have c3 : Tryz.prog.cellsOf 3 = 1 := by kernel_rfl
  have c2 : Tryz.prog.cellsOf 2 = 1 := by kernel_rfl
  have cm : Tryz.prog.cellsOf 23 = 2 := by kernel_rfl
  have cb : Tryz.prog.cellsOf 24 = 1 := by kernel_rfl
  obtain ⟨y0, t0, f0⟩ := hfd 0 _ rfl
  obtain ⟨s0, e0, g0⟩ := open_str_at Tryz.underlying9 t0 f0
  obtain ⟨y1, t1, f1⟩ := hfd 1 _ rfl
  obtain ⟨s1, e1, g1⟩ := open_str_at Tryz.underlying9 t1 f1
  obtain ⟨y2, t2, f2⟩ := hfd 2 _ rfl
  obtain ⟨s2, e2, g2⟩ := open_str_at Tryz.underlying9 t2 f2
  obtain ⟨y3, t3, f3⟩ := hfd 3 _ rfl
  obtain ⟨s3, e3, g3⟩ := open_str_at Tryz.underlying9 t3 f3
  obtain ⟨y4, t4, f4⟩ := hfd 4 _ rfl
  obtain ⟨s4, e4, g4⟩ := open_str_at Tryz.underlying9 t4 f4
  obtain ⟨y5, t5, f5⟩ := hfd 5 _ rfl
  obtain ⟨s5, e5, g5⟩ := open_str_at Tryz.underlying9 t5 f5
  obtain ⟨y6, t6, f6⟩ := hfd 6 _ rfl
  obtain ⟨s6, e6, g6⟩ := open_str_at Tryz.underlying9 t6 f6
  obtain ⟨y7, t7, f7⟩ := hfd 7 _ rfl
  obtain ⟨s7, e7, g7⟩ := open_str_at Tryz.underlying9 t7 f7
  obtain ⟨y8, t8, f8⟩ := hfd 8 _ rfl
  obtain ⟨s8, e8, g8⟩ := open_str_at Tryz.underlying9 t8 f8
  obtain ⟨y9, t9, f9⟩ := hfd 9 _ rfl
  obtain ⟨m9, _, _, hfd9⟩ := open_strct Tryz.underlying23 t9 f9
  obtain ⟨z0, u0, q0⟩ := hfd9 0 _ rfl
  obtain ⟨z1, u1, q1⟩ := hfd9 1 _ rfl
  obtain ⟨s9, e9, g9⟩ := open_str_at Tryz.underlying9 u0 q0
  obtain ⟨k9, e9', b9⟩ := open_int_at Tryz.underlying2 u1
  obtain ⟨y10, t10, f10⟩ := hfd 10 _ rfl
  obtain ⟨A, c, l, e10, hl1, hl2, hB, hsm⟩ := open_boxes t10 f10
  obtain ⟨y11, t11, f11⟩ := hfd 11 _ rfl
  obtain ⟨k11, e11, b11⟩ := open_int_at Tryz.underlying3 t11
  obtain ⟨y12, t12, f12⟩ := hfd 12 _ rfl
  obtain ⟨k12, e12, b12⟩ := open_int_at Tryz.underlying3 t12
  obtain ⟨y13, t13, f13⟩ := hfd 13 _ rfl
  obtain ⟨k13, e13, b13⟩ := open_int_at Tryz.underlying3 t13
  obtain ⟨y14, t14, f14⟩ := hfd 14 _ rfl
  obtain ⟨k14, e14, b14⟩ := open_int_at Tryz.underlying3 t14
  obtain ⟨y15, t15, f15⟩ := hfd 15 _ rfl
  obtain ⟨k15, e15, b15⟩ := open_int_at Tryz.underlying3 t15
  obtain ⟨a0, a1, a2, a3, a4, a5, a6, a7, a8, a9, a10, a11, a12, a13, a14, a15, a16, hcs⟩ := len17 hcl
  rw [hcs] at e0 e1 e2 e3 e4 e5 e6 e7 e8 e9 e9' e10 e11 e12 e13 e14 e15
  simp [c9, c3, c2, cm, cb] at e0 e1 e2 e3 e4 e5 e6 e7 e8 e9 e9' e10 e11 e12 e13 e14 e15
  subst e0 e1 e2 e3 e4 e5 e6 e7 e8 e9 e9' e10 e11 e12 e13 e14 e15
  refine ⟨⟨s0, s1, s2, s3, s4, s5, s6, s7, s8, s9, k9, A, c, l, k11, k12, k13, k14, k15⟩, ?_, ⟨g0, g1, g2, g3, g4, g5, g6, g7, g8, g9, i64_of b9, i64_of b11, i64_of b12, i64_of b13, i64_of b14, i64_of b15, hB, Nat.le_trans hl1 hl2, hl1, hsm⟩⟩
  rw [show cs = cs.toList.toArray by simp, hcs]
  rfl
set_option maxRecDepth 100000 in
theorem arg_money {v : Value} {d : DataW H} {p : List MemPlace} (hv : Value.okWide Tryz.prog W .any base 23 v) (h : TrdV enc W 23 v d p) (hf : Fits Tryz.prog 23 d) :
    ∃ (cu : ByteArray) (am : Int), v = .agg #[.string cu, .int .i64 am] ∧ i64 am := by
  obtain ⟨cs, rfl, _⟩ := okWide_struct Tryz.underlying23 hv
  obtain ⟨fuel, h⟩ := h
  simp only [Value.cells] at h
  obtain ⟨m, _, hcl, hfd⟩ := open_strct Tryz.underlying23 h hf
  rw [show Tryz.prog.cellsOf 23 = 2 by kernel_rfl] at hcl
  obtain ⟨y0, t0, f0⟩ := hfd 0 _ rfl
  obtain ⟨y1, t1, f1⟩ := hfd 1 _ rfl
  obtain ⟨s0, e0, _⟩ := open_str_at Tryz.underlying9 t0 f0
  obtain ⟨k1, e1, b1⟩ := open_int_at Tryz.underlying2 t1
  obtain ⟨v0, v1, hcs⟩ := len2 hcl
  rw [hcs] at e0 e1
  simp [show Tryz.prog.cellsOf 9 = 1 by kernel_rfl, show Tryz.prog.cellsOf 2 = 1 by kernel_rfl] at e0 e1
  subst e0 e1
  refine ⟨s0, k1, ?_, i64_of b1⟩
  rw [show cs = cs.toList.toArray by simp, hcs]
end
end Go.Proofs.YtnmnknkdnjkpjaaGreatDoor

/- Arguments of the laws, opened. -/
import Derived.Test.YtpnkpnocipkedaaDoorOb
import Derived.Test.YtpnkpnocipkedaaDoorN
namespace Go.Proofs.YtpnkpnocipkedaaDoor
open Go Go.ChangeShapes Go.WideShapes Go.ChangeAt Go.RowKit Go.Deep

section
variable {H : Type} {enc : TypeId × Value → H} {W : World} {base : Nat}
theorem fits_of {P : Program} {ts : List TypeId} {l : List (DataW H)} (hz : (DataW.weightsEach P ts l).all (· ≤ reachBytes) = true) {j : Nat} {t : TypeId} {d : DataW H} (ht : ts[j]? = some t) (hd : l[j]? = some d) : Fits P t d := fun n hn => by
  have := List.all_eq_true.1 hz n (DataW.weights_mem_each ht hd n hn)
  simpa using this
abbrev TrdV (enc : TypeId × Value → H) (W : World) (t : TypeId) (v : Value) (d : DataW H) (p : List MemPlace) : Prop := DataW.Trod enc Tryd.prog W 0 (fun _ => true) true t v d p
set_option maxRecDepth 100000 in
theorem arg_docs {v : Value} {d : DataW H} {p : List MemPlace} (hv : Value.okWide Tryd.prog W .any base 25 v) (h : TrdV enc W 25 v d p) (hf : Fits Tryd.prog 25 d) :
    ∃ (A : Option Addr) (c : Nat) (l : List Pap), v = .slice A l.length c ∧ l.length ≤ maxLen ∧ DocsAt W A l ∧ LongD l := by
  obtain ⟨A, n, c, rfl⟩ := okWide_slice Tryd.underlying25 hv
  obtain ⟨fuel, h⟩ := h
  obtain ⟨A', c', l, e, h1, h2, h3⟩ := open_docs h hf
  simp [Value.cells] at e
  obtain ⟨rfl, rfl, rfl⟩ := e
  exact ⟨A, c, l, rfl, h1, h2, h3⟩
set_option maxRecDepth 100000 in
theorem arg_node {v : Value} {d : DataW H} {p : List MemPlace} (hv : Value.okWide Tryd.prog W .any base 24 v) (h : TrdV enc W 24 v d p) (hf : Fits Tryd.prog 24 d) :
    ∃ t : Tree, v = .agg t.cells ∧ TreeAt W t ∧ LongT t := by
  obtain ⟨cs, rfl, _⟩ := okWide_struct Tryd.underlying24 hv
  obtain ⟨fuel, h⟩ := h
  obtain ⟨t, e, h1, h2⟩ := open_node fuel _ _ h hf
  have e' : cs = t.cells := by
    simp only [Value.cells] at e
    exact Array.toList_inj.1 e
  exact ⟨t, by rw [e'], h1, h2⟩
set_option maxRecDepth 100000 in
theorem arg_faults {v : Value} {d : DataW H} {p : List MemPlace} (hv : Value.okWide Tryd.prog W .any base 38 v) (h : TrdV enc W 38 v d p) (_hf : Fits Tryd.prog 38 d) :
    ∃ (A : Option Addr) (c : Nat) (l : List Flt), v = .slice A l.length c ∧ l.length ≤ maxLen ∧ FaultsAt W A l ∧ ∀ x ∈ l, x.fits := by
  obtain ⟨A, n, c, rfl⟩ := okWide_slice Tryd.underlying38 hv
  obtain ⟨l, rfl, h1, h2, h3, h4⟩ := open_faults h
  exact ⟨A, c, l, rfl, Nat.le_trans h1 h2, h3, h4⟩
/-- The numbers of a credit are of 64 bits. -/
structure Crd.okC (c : Crd) : Prop where
  amount : -9223372036854775808 ≤ c.amount ∧ c.amount ≤ 9223372036854775807
  above : -9223372036854775808 ≤ c.above ∧ c.above ≤ 9223372036854775807
  below : -9223372036854775808 ≤ c.below ∧ c.below ≤ 9223372036854775807
  latest : -9223372036854775808 ≤ c.latest ∧ c.latest ≤ 9223372036854775807
  expiry : -9223372036854775808 ≤ c.expiry ∧ c.expiry ≤ 9223372036854775807
  within : -9223372036854775808 ≤ c.within ∧ c.within ≤ 9223372036854775807
theorem len18 {α : Type} {l : List α} (h : l.length = 18) : ∃ a b c d e f g i j k m n o p q r s t, l = [a, b, c, d, e, f, g, i, j, k, m, n, o, p, q, r, s, t] := by
  match l, h with
  | [a, b, c, d, e, f, g, i, j, k, m, n, o, p, q, r, s, t], _ => exact ⟨a, b, c, d, e, f, g, i, j, k, m, n, o, p, q, r, s, t, rfl⟩
set_option maxRecDepth 100000 in
theorem arg_credit {v : Value} {d : DataW H} {p : List MemPlace} (hv : Value.okWide Tryd.prog W .any base 32 v) (h : TrdV enc W 32 v d p) (hf : Fits Tryd.prog 32 d) :
    ∃ (c : Crd) (A : Option Addr) (cap : Nat) (l : List Nd), v = .agg (c.cells (.slice A l.length cap)) ∧ c.okC ∧ l.length ≤ maxLen ∧ NdsAt W A l := by
  obtain ⟨cs, rfl, _⟩ := okWide_struct Tryd.underlying32 hv
  obtain ⟨fuel, h⟩ := h
  simp only [Value.cells] at h
  obtain ⟨m, _, hcl, hfd⟩ := open_strct Tryd.underlying32 h hf
  rw [show Tryd.prog.cellsOf 32 = 18 by kernel_rfl] at hcl
  have c9 : Tryd.prog.cellsOf 9 = 1 := by kernel_rfl
  have c3 : Tryd.prog.cellsOf 3 = 1 := by kernel_rfl
  have c4 : Tryd.prog.cellsOf 4 = 1 := by kernel_rfl
  have c2 : Tryd.prog.cellsOf 2 = 1 := by kernel_rfl
  have c29 : Tryd.prog.cellsOf 29 = 2 := by kernel_rfl
  have c30 : Tryd.prog.cellsOf 30 = 1 := by kernel_rfl
  obtain ⟨y0, t0, f0⟩ := hfd 0 _ rfl
  obtain ⟨y1, t1, f1⟩ := hfd 1 _ rfl
  obtain ⟨y2, t2, f2⟩ := hfd 2 _ rfl
  obtain ⟨y3, t3, f3⟩ := hfd 3 _ rfl
  obtain ⟨y4, t4, f4⟩ := hfd 4 _ rfl
  obtain ⟨y5, t5, f5⟩ := hfd 5 _ rfl
  obtain ⟨y6, t6, f6⟩ := hfd 6 _ rfl
  obtain ⟨y7, t7, f7⟩ := hfd 7 _ rfl
  obtain ⟨y8, t8, f8⟩ := hfd 8 _ rfl
  obtain ⟨y9, t9, f9⟩ := hfd 9 _ rfl
  obtain ⟨y10, t10, f10⟩ := hfd 10 _ rfl
  obtain ⟨y11, t11, f11⟩ := hfd 11 _ rfl
  obtain ⟨y12, t12, f12⟩ := hfd 12 _ rfl
  obtain ⟨y13, t13, f13⟩ := hfd 13 _ rfl
  obtain ⟨y14, t14, f14⟩ := hfd 14 _ rfl
  obtain ⟨y15, t15, f15⟩ := hfd 15 _ rfl
  obtain ⟨y16, t16, f16⟩ := hfd 16 _ rfl
  obtain ⟨s0, e0, _⟩ := open_str_at Tryd.underlying9 t0 f0
  obtain ⟨s1, e1, _⟩ := open_str_at Tryd.underlying9 t1 f1
  obtain ⟨s2, e2, _⟩ := open_str_at Tryd.underlying9 t2 f2
  obtain ⟨s3, e3, _⟩ := open_str_at Tryd.underlying9 t3 f3
  obtain ⟨s4, e4, _⟩ := open_str_at Tryd.underlying9 t4 f4
  obtain ⟨s5, e5, _⟩ := open_str_at Tryd.underlying9 t5 f5
  obtain ⟨s6, e6, _⟩ := open_str_at Tryd.underlying9 t6 f6
  obtain ⟨m7, _, hcl7, hfd7⟩ := open_strct Tryd.underlying29 t7 f7
  obtain ⟨z0, u0, g0⟩ := hfd7 0 _ rfl
  obtain ⟨z1, u1, g1⟩ := hfd7 1 _ rfl
  obtain ⟨s7, e7, _⟩ := open_str_at Tryd.underlying9 u0 g0
  obtain ⟨n7, e7', b7⟩ := open_int_at Tryd.underlying2 u1
  obtain ⟨n8, e8, b8⟩ := open_int_at Tryd.underlying3 t8
  obtain ⟨n9, e9, b9⟩ := open_int_at Tryd.underlying3 t9
  obtain ⟨n10, e10, b10⟩ := open_int_at Tryd.underlying3 t10
  obtain ⟨n11, e11, b11⟩ := open_int_at Tryd.underlying3 t11
  obtain ⟨n12, e12, b12⟩ := open_int_at Tryd.underlying3 t12
  obtain ⟨n13, e13, b13⟩ := open_int_at Tryd.underlying3 t13
  obtain ⟨n14, e14, _⟩ := DataW.trod_bool Tryd.underlying4 t14
  obtain ⟨n15, e15, _⟩ := DataW.trod_bool Tryd.underlying4 t15
  obtain ⟨A, cap, l, e16, hl, hN⟩ := open_nds t16 f16
  obtain ⟨a0, a1, a2, a3, a4, a5, a6, a7, a8, a9, a10, a11, a12, a13, a14, a15, a16, a17, hcs⟩ := len18 hcl
  rw [hcs] at e0 e1 e2 e3 e4 e5 e6 e7 e7' e8 e9 e10 e11 e12 e13 e14 e15 e16
  simp [c9, c3, c4, c2, c29, c30] at e0 e1 e2 e3 e4 e5 e6 e7 e7' e8 e9 e10 e11 e12 e13 e14 e15 e16
  subst e0 e1 e2 e3 e4 e5 e6 e7 e7' e8 e9 e10 e11 e12 e13 e14 e15 e16
  refine ⟨⟨s0, s1, s2, s3, s4, s5, s6, s7, n7, n8, n9, n10, n11, n12, n13, n14, n15⟩, A, cap, l, ?_, ⟨i64_of b7, i64_of b8, i64_of b9, i64_of b10, i64_of b11, i64_of b12⟩, hl, hN⟩
  rw [show cs = cs.toList.toArray by simp, hcs]
end
end Go.Proofs.YtpnkpnocipkedaaDoor

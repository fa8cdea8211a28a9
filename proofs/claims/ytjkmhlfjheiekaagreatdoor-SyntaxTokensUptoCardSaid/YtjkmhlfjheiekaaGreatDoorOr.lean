/- A credit as an argument, opened with its bulk: how long its texts are, and how great the rules of its needs. -/
import Derived.Test.YtjkmhlfjheiekaaGreatDoorOq
import Derived.Test.YtjkmhlfjheiekaaGreatDoorYd
namespace Go.Proofs.YtjkmhlfjheiekaaGreatDoor
open Go Go.ChangeShapes Go.WideShapes Go.ChangeAt Go.RowKit Go.Deep

theorem bulk_mem {H : Type} : ∀ {D : List (DataW H)} {i : Nat} {d : DataW H}, D[i]? = some d → Rows.uptoBulk d ≤ Rows.uptoBulkAll D
  | e :: D, 0, d, h => by
    obtain rfl : e = d := by simpa using h
    rw [Rows.uptoBulkAll]; omega
  | e :: D, i + 1, d, h => by
    have := bulk_mem (D := D) (i := i) (d := d) (by simpa using h)
    rw [Rows.uptoBulkAll]; omega
theorem bulk_part {H : Type} {xs : List (DataW H × List MemPlace)} {i : Nat} {y : DataW H × List MemPlace} (h : xs[i]? = some y) : Rows.uptoBulk y.1 ≤ Rows.uptoBulk (.agg (xs.map (·.1)) : DataW H) := by
  have := bulk_mem (D := xs.map (·.1)) (i := i) (d := y.1) (by rw [List.getElem?_map, h]; rfl)
  rw [Rows.uptoBulk]; omega
section
variable {H : Type} {enc : TypeId × Value → H} {P : Program} {w : World} {base : Nat} {spare : Nat → Bool} {held : Bool}
theorem open_strct3 {t : TypeId} {fs : Array Field} {fuel : Nat} {cs : List Value} {x : DataW H × List MemPlace} (ht : P.underlying t = some (.struct fs)) (h : DataW.trod enc P w base spare held fuel t cs = some x) :
    ∃ n, n < fuel ∧ cs.length = P.cellsOf t ∧ ∀ (i : Nat) (f : Field), fs[i]? = some f → ∃ y : DataW H × List MemPlace, DataW.trod enc P w base spare held n f.type ((cs.drop f.offset).take (P.cellsOf f.type)) = some y ∧ Rows.uptoBulk y.1 ≤ Rows.uptoBulk x.1 := by
  obtain ⟨n, xs, hn, hl, hx, hlen, hf⟩ := open_strct2 ht h
  refine ⟨n, hn, hl, fun i f hi => ?_⟩
  have hlt : i < xs.length := by rw [hlen]; exact (Array.getElem?_eq_some_iff.1 hi).1
  have h1 := hf i f hi
  rw [List.getElem?_eq_getElem hlt] at h1
  exact ⟨_, h1, by rw [hx]; exact bulk_part (List.getElem?_eq_getElem hlt)⟩
theorem open_strb {t : TypeId} {fuel : Nat} {cs : List Value} {x : DataW H × List MemPlace} {N : Nat} (ht : P.underlying t = some .string) (h : DataW.trod enc P w base spare held fuel t cs = some x) (hN : Rows.uptoBulk x.1 ≤ N) : ∃ s : ByteArray, cs = [.string s] ∧ s.data.toList.length ≤ N := by
  obtain ⟨s, e, b, _⟩ := DataW.trod_string ht h
  refine ⟨s, e, ?_⟩
  rw [b] at hN
  simp only [Rows.uptoBulk] at hN
  omega
end
section
variable {H : Type} {enc : TypeId × Value → H} {W : World}
theorem open_ndsb {fuel : Nat} {cs : List Value} {x : DataW H × List MemPlace} (h : Trd enc W fuel 39 cs x) :
    ∃ (A : Option Addr) (c : Nat) (l : List Nd), cs = [.slice A l.length c] ∧ l.length ≤ maxLen ∧ NdsAt W anyB A l ∧ ∀ y ∈ l, szR (strip y.rule) ≤ 80 * Rows.uptoBulk x.1 := by
  obtain ⟨A, len, cap, n, D, rfl, _, hl, hm, hDl, hDb, hi⟩ := open_row2 Tryz.underlying39 (by rw [show Tryz.prog.cellsOf 74 = 8 by kernel_rfl]; omega) h
  rw [show Tryz.prog.cellsOf 74 = 8 by kernel_rfl] at hi
  obtain ⟨l, hlen, hR⟩ := list_of len (fun k (y : Nd) => (∃ b off, A = some ⟨b, off, none⟩ ∧ anyB b ∧ (∀ i u, y.cells[i]? = some u → W.cell? ⟨b, off + k * 8 + i, none⟩ = some u) ∧ TreeAt W anyB y.rule) ∧ szR (strip y.rule) ≤ 80 * Rows.uptoBulk x.1) (fun i hin => by
    obtain ⟨b, off, cs', y, hA, hcl, hc, ht, hd⟩ := hi i hin
    obtain ⟨m, _, _, hfd⟩ := open_strct3 Tryz.underlying74 ht
    obtain ⟨y0, t0, f0⟩ := hfd 0 _ rfl
    obtain ⟨y1, t1, f1⟩ := hfd 1 _ rfl
    obtain ⟨y2, t2, f2⟩ := hfd 2 _ rfl
    obtain ⟨k0, e0, _⟩ := open_int_at Tryz.underlying3 t0
    obtain ⟨k1, e1, _⟩ := open_int_at Tryz.underlying3 t1
    obtain ⟨t, e2, hT, hz⟩ := open_node_bulk _ _ _ t2
    obtain ⟨v0, v1, v2, v3, v4, v5, v6, v7, rfl⟩ := len8 hcl
    simp [show Tryz.prog.cellsOf 3 = 1 by kernel_rfl, show Tryz.prog.cellsOf 25 = 6 by kernel_rfl] at e0 e1 e2
    subst e0 e1
    have hdb := bulk_mem hd
    refine ⟨⟨k0, k1, t⟩, ⟨b, off, hA, trivial, fun j u hu => ?_, hT⟩, by show szR (strip t) ≤ _; omega⟩
    have hj : j < 8 := by
      have := (List.getElem?_eq_some_iff.1 hu).1
      rwa [Nd.cells_len] at this
    rw [hc j hj]
    rw [← hu]
    unfold Nd.cells
    rw [← e2])
  subst hlen
  refine ⟨A, cap, l, rfl, Nat.le_trans hl hm, fun k y hk => (hR k y hk).1, fun y hy => ?_⟩
  obtain ⟨k, hk⟩ := List.mem_iff_getElem?.1 hy
  exact (hR k y hk).2
variable {base : Nat}
set_option maxRecDepth 100000 in
theorem arg_creditb {v : Value} {d : DataW H} {p : List MemPlace} (hv : Value.okWide Tryz.prog W .any base 41 v) (h : TrdV enc W 41 v d p) (_hf : Fits Tryz.prog 41 d) :
    ∃ (c : Crd) (A : Option Addr) (cap : Nat) (l : List Nd), v = .agg (c.cells (.slice A l.length cap)) ∧ l.length ≤ maxLen ∧ NdsAt W anyB A l ∧ (∀ x ∈ [c.number, c.applicant, c.beneficiary, c.issuer, c.confirmer, c.orig, c.dest, c.currency], x.length ≤ Rows.uptoBulk d) ∧ ∀ y ∈ l, szR (strip y.rule) ≤ 80 * Rows.uptoBulk d := by
  obtain ⟨cs, rfl, _⟩ := okWide_struct Tryz.underlying41 hv
  obtain ⟨fuel, h⟩ := h
  simp only [Value.cells] at h
  obtain ⟨m, _, hcl, hfd⟩ := open_strct3 Tryz.underlying41 h
  rw [show Tryz.prog.cellsOf 41 = 18 by kernel_rfl] at hcl
  have c9 : Tryz.prog.cellsOf 9 = 1 := by kernel_rfl
  have c3 : Tryz.prog.cellsOf 3 = 1 := by kernel_rfl
  have c4 : Tryz.prog.cellsOf 4 = 1 := by kernel_rfl
  have c2 : Tryz.prog.cellsOf 2 = 1 := by kernel_rfl
  have c38 : Tryz.prog.cellsOf 38 = 2 := by kernel_rfl
  have c39 : Tryz.prog.cellsOf 39 = 1 := by kernel_rfl
  obtain ⟨y0, t0, f0⟩ := hfd 0 _ rfl
  obtain ⟨y1, t1, f1⟩ := hfd 1 _ rfl
  obtain ⟨y2, t2, f2⟩ := hfd 2 _ rfl
  obtain ⟨y3, t3, f3⟩ := hfd 3 _ rfl
  obtain ⟨y4, t4, f4⟩ := hfd 4 _ rfl
  obtain ⟨y5, t5, f5⟩ := hfd 5 _ rfl
  obtain ⟨y6, t6, f6⟩ := hfd 6 _ rfl
  obtain ⟨y7, t7, f7⟩ := hfd 7 _ rfl
  obtain ⟨y8, t8, f8⟩ := hfd 8 _ rfl
  obtain ⟨y9, t9, f9⟩ := hfd 9 _ rfl
  obtain ⟨y10, t10, f10⟩ := hfd 10 _ rfl
  obtain ⟨y11, t11, f11⟩ := hfd 11 _ rfl
  obtain ⟨y12, t12, f12⟩ := hfd 12 _ rfl
  obtain ⟨y13, t13, f13⟩ := hfd 13 _ rfl
  obtain ⟨y14, t14, f14⟩ := hfd 14 _ rfl
  obtain ⟨y15, t15, f15⟩ := hfd 15 _ rfl
  obtain ⟨y16, t16, f16⟩ := hfd 16 _ rfl
  obtain ⟨s0, e0, b0⟩ := open_strb Tryz.underlying9 t0 f0
  obtain ⟨s1, e1, b1⟩ := open_strb Tryz.underlying9 t1 f1
  obtain ⟨s2, e2, b2⟩ := open_strb Tryz.underlying9 t2 f2
  obtain ⟨s3, e3, b3⟩ := open_strb Tryz.underlying9 t3 f3
  obtain ⟨s4, e4, b4⟩ := open_strb Tryz.underlying9 t4 f4
  obtain ⟨s5, e5, b5⟩ := open_strb Tryz.underlying9 t5 f5
  obtain ⟨s6, e6, b6⟩ := open_strb Tryz.underlying9 t6 f6
  obtain ⟨m7, _, hcl7, hfd7⟩ := open_strct3 Tryz.underlying38 t7
  obtain ⟨z0, u0, g0⟩ := hfd7 0 _ rfl
  obtain ⟨z1, u1, g1⟩ := hfd7 1 _ rfl
  obtain ⟨s7, e7, b7⟩ := open_strb Tryz.underlying9 u0 (Nat.le_trans g0 f7)
  obtain ⟨n7, e7', _⟩ := open_int_at Tryz.underlying2 u1
  obtain ⟨n8, e8, _⟩ := open_int_at Tryz.underlying3 t8
  obtain ⟨n9, e9, _⟩ := open_int_at Tryz.underlying3 t9
  obtain ⟨n10, e10, _⟩ := open_int_at Tryz.underlying3 t10
  obtain ⟨n11, e11, _⟩ := open_int_at Tryz.underlying3 t11
  obtain ⟨n12, e12, _⟩ := open_int_at Tryz.underlying3 t12
  obtain ⟨n13, e13, _⟩ := open_int_at Tryz.underlying3 t13
  obtain ⟨n14, e14, _⟩ := DataW.trod_bool Tryz.underlying4 t14
  obtain ⟨n15, e15, _⟩ := DataW.trod_bool Tryz.underlying4 t15
  obtain ⟨A, cap, l, e16, hl, hN, hZ⟩ := open_ndsb t16
  obtain ⟨a0, a1, a2, a3, a4, a5, a6, a7, a8, a9, a10, a11, a12, a13, a14, a15, a16, a17, hcs⟩ := len18 hcl
  rw [hcs] at e0 e1 e2 e3 e4 e5 e6 e7 e7' e8 e9 e10 e11 e12 e13 e14 e15 e16
  simp [c9, c3, c4, c2, c38, c39] at e0 e1 e2 e3 e4 e5 e6 e7 e7' e8 e9 e10 e11 e12 e13 e14 e15 e16
  subst e0 e1 e2 e3 e4 e5 e6 e7 e7' e8 e9 e10 e11 e12 e13 e14 e15 e16
  refine ⟨⟨s0.data.toList, s1.data.toList, s2.data.toList, s3.data.toList, s4.data.toList, s5.data.toList, s6.data.toList, s7.data.toList, n7, n8, n9, n10, n11, n12, n13, n14, n15⟩, A, cap, l, ?_, hl, hN, ?_, fun y hy => Nat.le_trans (hZ y hy) (Nat.mul_le_mul_left _ f16)⟩
  · rw [show cs = cs.toList.toArray by simp, hcs]
  · intro x hx
    simp only [List.mem_cons, List.not_mem_nil, or_false] at hx
    rcases hx with rfl | rfl | rfl | rfl | rfl | rfl | rfl | rfl <;> assumption
end
end Go.Proofs.YtjkmhlfjheiekaaGreatDoor

/- The copied papers while they are mended, in memory; the cure's cells. -/
import Derived.Test.YtdjmckjbibfecaaGreatDoorJb
import Derived.Test.YtdjmckjbibfecaaGreatDoorKb
import Derived.Test.YtdjmckjbibfecaaGreatDoorMa
import Derived.Test.YtdjmckjbibfecaaGreatDoorOb
namespace Go.Proofs.YtdjmckjbibfecaaGreatDoor
open Go Go.RowKit Go.BigFrame Go.Maps

theorem flD_set3 : ∀ (l : List Pap) (k : Nat) (x : Pap) (A : Option Addr) (c : Nat), l[k]? = some x → (flD l).set (k * 4 + 3) (.slice A x.fields.length c) = flD (l.set k ⟨x.kind, x.number, x.issuer, A, c, x.fields⟩)
  | [], k, x, A, c, h => by simp at h
  | y :: l, 0, x, A, c, h => by simp at h; subst h; simp [flD, encD]
  | y :: l, k + 1, x, A, c, h => by
    have := flD_set3 l k x A c (by simpa using h)
    rw [show (k + 1) * 4 + 3 = k * 4 + 3 + 1 + 1 + 1 + 1 by omega]
    simp only [flD, List.flatMap_cons, encD, List.cons_append, List.nil_append, List.set_cons_succ] at this ⊢
    rw [this]
/-- The copied papers, so far. -/
structure MendS (w0 wr : World) (A : Option Addr) (nn c : Nat) (docs l : List Pap) : Prop where
  below : Below w0.heap.size w0 wr
  own : wr.ownsRow w0.heap.size 61 4 (.slice A nn c) nn (flD l)
  same : sameD l docs
  flds : ∀ x ∈ l, FieldsAt wr x.fA x.fields
  away : ∀ x ∈ l, x.fields ≠ [] → ∀ b off, x.fA = some ⟨b, off, none⟩ → A ≠ some ⟨b, 0, none⟩
theorem fields_far {w w' : World} {g : Nat} {A : Option Addr} {l : List Fld} (h : FieldsAt w A l) (hg : w.grownBy w' (some g)) (hne : l ≠ [] → ∀ b off, A = some ⟨b, off, none⟩ → b ≠ g) : FieldsAt w' A l := by
  intro k x hx
  obtain ⟨b, off, e, h0, h1⟩ := h k x hx
  have hb := hne (by rintro rfl; simp at hx) b off e
  have hk : ∀ p : Addr, p.block = b → w'.cell? p = w.cell? p := fun p hp => hg.cell_far p (by rw [hp]; exact World.block_lt_of_cell? w _ h0) (by rw [hp]; simp; exact hb)
  exact ⟨b, off, e, by rw [hk _ rfl]; exact h0, by rw [hk _ rfl]; exact h1⟩
theorem MendS.step {w0 wr w6 : World} {g nn c k c2 : Nat} {docs l : List Pap} {x : Pap} {A2 : Option Addr} (h : MendS w0 wr (some ⟨g, 0, none⟩) nn c docs l) (hx : l[k]? = some x) (hg0 : w0.heap.size ≤ g) (hg1 : g < wr.heap.size) (hb : Below wr.heap.size wr w6)
    (ho : w6.ownsRow wr.heap.size 108 2 (.slice A2 x.fields.length c2) x.fields.length (flF x.fields)) :
    MendS w0 (w6.setCell ⟨g, k * 4 + 3, none⟩ (.slice A2 x.fields.length c2)) (some ⟨g, 0, none⟩) nn c docs (l.set k ⟨x.kind, x.number, x.issuer, A2, c2, x.fields⟩) := by
  have o6 := own_below h.own hb
  have st := o6.stored (k * 4 + 3) (.slice A2 x.fields.length c2)
  rw [flD_set3 l k x A2 c2 hx] at st
  have hkl := (List.getElem?_eq_some_iff.1 hx).1
  have hA2 : x.fields ≠ [] → ∀ b off, A2 = some ⟨b, off, none⟩ → wr.heap.size ≤ b := fun hne b off e => by
    obtain ⟨g', c', e', h1, _⟩ := own_formS ho (List.length_pos_iff.2 hne)
    rw [e] at e'
    simp only [Value.slice.injEq, Option.some.injEq, Addr.mk.injEq, and_true, true_and] at e'
    rw [e'.1.1]; exact h1
  obtain ⟨A9, c9, e9, _, hF9⟩ := fields_of_own ho rfl
  simp only [Value.slice.injEq, true_and] at e9
  obtain ⟨rfl, rfl⟩ := e9
  refine ⟨(h.below.trans (hb.mono h.below.size)).setCell hg0 _, st.1, ⟨by rw [List.length_set]; exact h.same.1, fun i y z hy hz => ?_⟩, fun y hy => ?_, fun y hy hne b off e => ?_⟩
  · rw [List.getElem?_set] at hy
    split at hy
    · rename_i hi
      subst hi
      obtain rfl := Option.some.inj hy
      exact h.same.2 k x z hx hz
    · exact h.same.2 i y z hy hz
  · rcases List.mem_or_eq_of_mem_set hy with hy | rfl
    · exact fields_far ((h.flds y hy).below hb) st.2 fun hne b off e hbg => by
        subst hbg
        exact h.away y hy hne b off e rfl
    · exact fields_far hF9 st.2 fun hne b off e => by have := hA2 hne b off e; omega
  · rcases List.mem_or_eq_of_mem_set hy with hy | rfl
    · exact h.away y hy hne b off e
    · intro hc
      simp only [Option.some.injEq, Addr.mk.injEq, and_true] at hc
      have := hA2 hne b off e
      omega

end Go.Proofs.YtdjmckjbibfecaaGreatDoor
namespace Go.Proofs.YtdjmckjbibfecaaGreatDoor
open Go Go.ChangeShapes Go.WideShapes Go.ChangeAt Go.RowKit Go.Deep

section
variable {H : Type} {enc : TypeId × Value → H} {W : World} {base : Nat}
theorem fits_of {P : Program} {ts : List TypeId} {l : List (DataW H)} (hz : (DataW.weightsEach P ts l).all (· ≤ reachBytes) = true) {j : Nat} {t : TypeId} {d : DataW H} (ht : ts[j]? = some t) (hd : l[j]? = some d) : Fits P t d := fun n hn => by
  have := List.all_eq_true.1 hz n (DataW.weights_mem_each ht hd n hn)
  simpa using this
abbrev TrdV (enc : TypeId × Value → H) (W : World) (t : TypeId) (v : Value) (d : DataW H) (p : List MemPlace) : Prop := DataW.Trod enc Tryz.prog W 0 (fun _ => true) true t v d p
set_option maxRecDepth 100000 in
theorem arg_docs {v : Value} {d : DataW H} {p : List MemPlace} (hv : Value.okWide Tryz.prog W .any base 25 v) (h : TrdV enc W 25 v d p) (hf : Fits Tryz.prog 25 d) :
    ∃ (A : Option Addr) (c : Nat) (l : List Pap), v = .slice A l.length c ∧ l.length ≤ maxLen ∧ DocsAt W A l ∧ LongD l := by
  obtain ⟨A, n, c, rfl⟩ := okWide_slice Tryz.underlying25 hv
  obtain ⟨fuel, h⟩ := h
  obtain ⟨A', c', l, e, h1, h2, h3⟩ := open_docs h hf
  simp [Value.cells] at e
  obtain ⟨rfl, rfl, rfl⟩ := e
  exact ⟨A, c, l, rfl, h1, h2, h3⟩
end
end Go.Proofs.YtdjmckjbibfecaaGreatDoor
namespace Go.Proofs.YtdjmckjbibfecaaGreatDoor
open Go Go.ChangeShapes Go.WideShapes Go.ChangeAt Go.RowKit Go.Deep

theorem alike_of {W : World} {L : List (String × DataW Unit)} (hl : L.filter (fun x => x.1 == "supercargo/examine.alike") = [("supercargo/examine.alike", Rows.laid_supercargo_examine_alike)]) (h : laidMetH Tryz.prog L W) : AlikeAt W := by
  have h1 := laidMetH.filter (fun x => x.1 == "supercargo/examine.alike") h
  rw [hl, MakeChecks.laidMetH_plain _ _ _ (by kernel_rfl)] at h1
  exact strtab (t := 143) (e := 9) (n := 6) [[115, 101, 108, 108, 101, 114], [102, 114, 111, 109], [116, 111], [99, 117, 114, 114, 101, 110, 99, 121], [98, 111, 120, 101, 115], [109, 97, 114, 107, 115]] (by kernel_rfl) (by kernel_rfl) Tryz.underlying143 Tryz.underlying9 (by kernel_rfl) rfl h1
section
variable {H : Type} {enc : TypeId × Value → H} {W : World} {base : Nat}
theorem len18 {α : Type} {l : List α} (h : l.length = 18) : ∃ a b c d e f g i j k m n o p q r s t, l = [a, b, c, d, e, f, g, i, j, k, m, n, o, p, q, r, s, t] := by
  match l, h with
  | [a, b, c, d, e, f, g, i, j, k, m, n, o, p, q, r, s, t], _ => exact ⟨a, b, c, d, e, f, g, i, j, k, m, n, o, p, q, r, s, t, rfl⟩
set_option maxRecDepth 100000 in
theorem arg_credit {v : Value} {d : DataW H} {p : List MemPlace} (hv : Value.okWide Tryz.prog W .any base 46 v) (h : TrdV enc W 46 v d p) (hf : Fits Tryz.prog 46 d) :
    ∃ (c : Crd) (A : Option Addr) (cap : Nat) (l : List Nd), v = .agg (c.cells (.slice A l.length cap)) ∧ c.okC ∧ l.length ≤ maxLen ∧ NdsAt W A l := by
  obtain ⟨cs, rfl, _⟩ := okWide_struct Tryz.underlying46 hv
  obtain ⟨fuel, h⟩ := h
  simp only [Value.cells] at h
  obtain ⟨m, _, hcl, hfd⟩ := open_strct Tryz.underlying46 h hf
  rw [show Tryz.prog.cellsOf 46 = 18 by kernel_rfl] at hcl
  have c9 : Tryz.prog.cellsOf 9 = 1 := by kernel_rfl
  have c3 : Tryz.prog.cellsOf 3 = 1 := by kernel_rfl
  have c4 : Tryz.prog.cellsOf 4 = 1 := by kernel_rfl
  have c2 : Tryz.prog.cellsOf 2 = 1 := by kernel_rfl
  have c29 : Tryz.prog.cellsOf 43 = 2 := by kernel_rfl
  have c30 : Tryz.prog.cellsOf 44 = 1 := by kernel_rfl
  obtain ⟨y0, t0, f0⟩ := hfd 0 _ rfl
  obtain ⟨y1, t1, f1⟩ := hfd 1 _ rfl
  obtain ⟨y2, t2, f2⟩ := hfd 2 _ rfl
  obtain ⟨y3, t3, f3⟩ := hfd 3 _ rfl
  obtain ⟨y4, t4, f4⟩ := hfd 4 _ rfl
  obtain ⟨y5, t5, f5⟩ := hfd 5 _ rfl
  obtain ⟨y6, t6, f6⟩ := hfd 6 _ rfl
  obtain ⟨y7, t7, f7⟩ := hfd 7 _ rfl
  obtain ⟨y8, t8, f8⟩ := hfd 8 _ rfl
  obtain ⟨y9, t9, f9⟩ := hfd 9 _ rfl
  obtain ⟨y10, t10, f10⟩ := hfd 10 _ rfl
  obtain ⟨y11, t11, f11⟩ := hfd 11 _ rfl
  obtain ⟨y12, t12, f12⟩ := hfd 12 _ rfl
  obtain ⟨y13, t13, f13⟩ := hfd 13 _ rfl
  obtain ⟨y14, t14, f14⟩ := hfd 14 _ rfl
  obtain ⟨y15, t15, f15⟩ := hfd 15 _ rfl
  obtain ⟨y16, t16, f16⟩ := hfd 16 _ rfl
  obtain ⟨s0, e0, _⟩ := open_str_at Tryz.underlying9 t0 f0
  obtain ⟨s1, e1, q1⟩ := open_str_at Tryz.underlying9 t1 f1
  obtain ⟨s2, e2, q2⟩ := open_str_at Tryz.underlying9 t2 f2
  obtain ⟨s3, e3, _⟩ := open_str_at Tryz.underlying9 t3 f3
  obtain ⟨s4, e4, _⟩ := open_str_at Tryz.underlying9 t4 f4
  obtain ⟨s5, e5, _⟩ := open_str_at Tryz.underlying9 t5 f5
  obtain ⟨s6, e6, _⟩ := open_str_at Tryz.underlying9 t6 f6
  obtain ⟨m7, _, hcl7, hfd7⟩ := open_strct Tryz.underlying43 t7 f7
  obtain ⟨z0, u0, g0⟩ := hfd7 0 _ rfl
  obtain ⟨z1, u1, g1⟩ := hfd7 1 _ rfl
  obtain ⟨s7, e7, q7⟩ := open_str_at Tryz.underlying9 u0 g0
  obtain ⟨n7, e7', b7⟩ := open_int_at Tryz.underlying2 u1
  obtain ⟨n8, e8, b8⟩ := open_int_at Tryz.underlying3 t8
  obtain ⟨n9, e9, b9⟩ := open_int_at Tryz.underlying3 t9
  obtain ⟨n10, e10, b10⟩ := open_int_at Tryz.underlying3 t10
  obtain ⟨n11, e11, b11⟩ := open_int_at Tryz.underlying3 t11
  obtain ⟨n12, e12, b12⟩ := open_int_at Tryz.underlying3 t12
  obtain ⟨n13, e13, b13⟩ := open_int_at Tryz.underlying3 t13
  obtain ⟨n14, e14, _⟩ := DataW.trod_bool Tryz.underlying4 t14
  obtain ⟨n15, e15, _⟩ := DataW.trod_bool Tryz.underlying4 t15
  obtain ⟨A, cap, l, e16, hl, hN⟩ := open_nds t16 f16
  obtain ⟨a0, a1, a2, a3, a4, a5, a6, a7, a8, a9, a10, a11, a12, a13, a14, a15, a16, a17, hcs⟩ := len18 hcl
  rw [hcs] at e0 e1 e2 e3 e4 e5 e6 e7 e7' e8 e9 e10 e11 e12 e13 e14 e15 e16
  simp [c9, c3, c4, c2, c29, c30] at e0 e1 e2 e3 e4 e5 e6 e7 e7' e8 e9 e10 e11 e12 e13 e14 e15 e16
  subst e0 e1 e2 e3 e4 e5 e6 e7 e7' e8 e9 e10 e11 e12 e13 e14 e15 e16
  refine ⟨⟨s0, s1, s2, s3, s4, s5, s6, s7, n7, n8, n9, n10, n11, n12, n13, n14, n15⟩, A, cap, l, ?_, ⟨i64_of b7, i64_of b8, i64_of b9, i64_of b10, i64_of b11, i64_of b12, q1, q2, q7⟩, hl, hN⟩
  rw [show cs = cs.toList.toArray by simp, hcs]
end
end Go.Proofs.YtdjmckjbibfecaaGreatDoor
namespace Go.Proofs.YtdjmckjbibfecaaGreatDoor
open Go Go.RowKit Go.BigFrame Go.Maps

theorem few_fields {needs : List Nd} {docs : List Pap} (h : fewB needs docs = true) : ∀ x ∈ docs, x.fields.length ≤ 1000000 := by
  intro d hd
  unfold fewB at h
  simp only [Bool.and_eq_true, decide_eq_true_eq] at h
  have := List.all_eq_true.1 h.2 d hd
  simp only [Bool.and_eq_true, decide_eq_true_eq] at this
  omega
end Go.Proofs.YtdjmckjbibfecaaGreatDoor
namespace Go.Proofs.YtdjmckjbibfecaaGreatDoor
open Go Go.RowKit Go.BigFrame Go.Maps

theorem flD_put3 : ∀ (l : List Pap) (k : Nat) (x : Pap) (A : Option Addr) (c : Nat) (F : List Fld), l[k]? = some x → (flD l).set (k * 4 + 3) (.slice A F.length c) = flD (l.set k ⟨x.kind, x.number, x.issuer, A, c, F⟩)
  | [], k, x, A, c, F, h => by simp at h
  | y :: l, 0, x, A, c, F, h => by simp at h; subst h; simp [flD, encD]
  | y :: l, k + 1, x, A, c, F, h => by
    have := flD_put3 l k x A c F (by simpa using h)
    rw [show (k + 1) * 4 + 3 = k * 4 + 3 + 1 + 1 + 1 + 1 by omega]
    simp only [flD, List.flatMap_cons, encD, List.cons_append, List.nil_append, List.set_cons_succ] at this ⊢
    rw [this]
/-- The copied papers. -/
structure MendG (w0 wr : World) (A : Option Addr) (nn c : Nat) (l : List Pap) : Prop where
  below : Below w0.heap.size w0 wr
  own : wr.ownsRow w0.heap.size 61 4 (.slice A nn c) nn (flD l)
  len : l.length = nn
  flds : ∀ x ∈ l, FieldsAt wr x.fA x.fields
  away : ∀ x ∈ l, x.fields ≠ [] → ∀ b off, x.fA = some ⟨b, off, none⟩ → A ≠ some ⟨b, 0, none⟩
theorem MendS.gen {w0 wr : World} {A : Option Addr} {nn c : Nat} {docs l : List Pap} (h : MendS w0 wr A nn c docs l) (hn : docs.length = nn) : MendG w0 wr A nn c l := ⟨h.below, h.own, h.same.1.trans hn, h.flds, h.away⟩
theorem MendG.on {w0 wr w' : World} {A : Option Addr} {nn c : Nat} {l : List Pap} (h : MendG w0 wr A nn c l) (hb : Below wr.heap.size wr w') : MendG w0 w' A nn c l :=
  ⟨h.below.trans (hb.mono h.below.size), own_below h.own hb, h.len, fun x hx => (h.flds x hx).below hb, h.away⟩
theorem MendG.step {w0 wr w6 : World} {g nn c k n2 c2 : Nat} {l : List Pap} {x : Pap} {A2 : Option Addr} {F : List Fld} (h : MendG w0 wr (some ⟨g, 0, none⟩) nn c l) (hx : l[k]? = some x) (hg0 : w0.heap.size ≤ g) (hg1 : g < wr.heap.size) (hb : Below wr.heap.size wr w6) (hn : F.length = n2)
    (ho : w6.ownsRow wr.heap.size 108 2 (.slice A2 n2 c2) n2 (flF F)) :
    MendG w0 (w6.setCell ⟨g, k * 4 + 3, none⟩ (.slice A2 n2 c2)) (some ⟨g, 0, none⟩) nn c (l.set k ⟨x.kind, x.number, x.issuer, A2, c2, F⟩) := by
  subst hn
  have o6 := own_below h.own hb
  have st := o6.stored (k * 4 + 3) (.slice A2 F.length c2)
  rw [flD_put3 l k x A2 c2 F hx] at st
  have hA2 : F ≠ [] → ∀ b off, A2 = some ⟨b, off, none⟩ → wr.heap.size ≤ b := fun hne b off e => by
    obtain ⟨g', c', e', h1, _⟩ := own_formS ho (List.length_pos_iff.2 hne)
    rw [e] at e'
    simp only [Value.slice.injEq, Option.some.injEq, Addr.mk.injEq, and_true, true_and] at e'
    rw [e'.1.1]; exact h1
  obtain ⟨A9, c9, e9, _, hF9⟩ := fields_of_own ho rfl
  simp only [Value.slice.injEq, true_and] at e9
  obtain ⟨rfl, rfl⟩ := e9
  refine ⟨(h.below.trans (hb.mono h.below.size)).setCell hg0 _, st.1, by rw [List.length_set]; exact h.len, fun y hy => ?_, fun y hy hne b off e => ?_⟩
  · rcases List.mem_or_eq_of_mem_set hy with hy | rfl
    · exact fields_far ((h.flds y hy).below hb) st.2 fun hne b off e hbg => by
        subst hbg
        exact h.away y hy hne b off e rfl
    · exact fields_far hF9 st.2 fun hne b off e => by have := hA2 hne b off e; omega
  · rcases List.mem_or_eq_of_mem_set hy with hy | rfl
    · exact h.away y hy hne b off e
    · intro hc
      simp only [Option.some.injEq, Addr.mk.injEq, and_true] at hc
      have := hA2 hne b off e
      omega
theorem MendG.docs {w0 wr : World} {A : Option Addr} {nn c : Nat} {l : List Pap} (h : MendG w0 wr A nn c l) (hk : ∀ x ∈ l, x.fields.length ≤ maxLen ∧ (-9223372036854775808 ≤ x.kind ∧ x.kind ≤ 9223372036854775807)) : DocsAt wr A l := by
  obtain ⟨A9, c9, e9, _, hr9⟩ := RowOf.of_own encD_len h.own h.len
  simp only [Value.slice.injEq, true_and] at e9
  obtain ⟨rfl, rfl⟩ := e9
  exact DocsAt.of_row hr9 fun x hx => ⟨h.flds x hx, (hk x hx).1, (hk x hx).2⟩

/-- The cure's cells. -/
def cuX (C : Array Value) (A : Option Addr) (nn cc : Nat) (day a : Int) (s v : ByteArray) (b : Bool) : Array Value :=
  C ++ #[.slice A nn cc, .int .i64 day, .int .i64 a, .string s, .string v, .bool b]
section
variable {C : Array Value} {A : Option Addr} {nn cc : Nat} {day a : Int} {s v : ByteArray} {b : Bool}
theorem cuX_size (hC : C.size = 18) : (cuX C A nn cc day a s v b).size = 24 := by unfold cuX; rw [Array.size_append, hC]; rfl
theorem cuX_docs (hC : C.size = 18) : (cuX C A nn cc day a s v b)[18]? = some (.slice A nn cc) := by unfold cuX; rw [Array.getElem?_append_right (by omega)]; simp [hC]
theorem cuX_day (hC : C.size = 18) : (cuX C A nn cc day a s v b)[19]? = some (.int .i64 day) := by unfold cuX; rw [Array.getElem?_append_right (by omega)]; simp [hC]
theorem cuX_at (hC : C.size = 18) : (cuX C A nn cc day a s v b)[20]? = some (.int .i64 a) := by unfold cuX; rw [Array.getElem?_append_right (by omega)]; simp [hC]
theorem cuX_name (hC : C.size = 18) : (cuX C A nn cc day a s v b)[21]? = some (.string s) := by unfold cuX; rw [Array.getElem?_append_right (by omega)]; simp [hC]
theorem cuX_value (hC : C.size = 18) : (cuX C A nn cc day a s v b)[22]? = some (.string v) := by unfold cuX; rw [Array.getElem?_append_right (by omega)]; simp [hC]
theorem cuX_there (hC : C.size = 18) : (cuX C A nn cc day a s v b)[23]? = some (.bool b) := by unfold cuX; rw [Array.getElem?_append_right (by omega)]; simp [hC]
theorem cuX_cell (hC : C.size = 18) {i : Nat} (hi : i < 18) : (cuX C A nn cc day a s v b)[i]? = C[i]? := by unfold cuX; rw [Array.getElem?_append_left (by omega)]
theorem cuX_range {w : World} {xb : Nat} {t : TypeId} (hC : C.size = 18) (h : Blk w xb t (cuX C A nn cc day a s v b)) : w.rangeAt xb 0 C.toList := by
  intro j v hv
  have hj : j < 18 := by
    have := (List.getElem?_eq_some_iff.1 hv).1
    rw [Array.length_toList] at this
    omega
  rw [Nat.zero_add, h.cell, cuX_cell hC hj]
  rw [Array.getElem?_toList] at hv
  exact hv
end
end Go.Proofs.YtdjmckjbibfecaaGreatDoor

/- Arguments of the laws, opened: faults, credits, small numbers; the table of fields to be alike. -/
import Derived.Test.YtdjmckjbibfecaaGreatDoorCe
import Derived.Test.YtdjmckjbibfecaaGreatDoorOa
namespace Go.Proofs.YtdjmckjbibfecaaGreatDoor
open Go Go.ChangeShapes Go.WideShapes Go.ChangeAt Go.RowKit Go.Deep

theorem i64_of {n : Int} (h : (Lit.int .i64 n).wf = true) : -9223372036854775808 ≤ n ∧ n ≤ 9223372036854775807 := by
  simp only [Lit.wf, Bool.and_eq_true, decide_eq_true_eq] at h
  have e1 : IntKind.i64.min = -9223372036854775808 := by decide
  have e2 : IntKind.i64.max = 9223372036854775807 := by decide
  rw [e1, e2] at h
  exact h
theorem len2 {α : Type} {l : List α} (h : l.length = 2) : ∃ a b, l = [a, b] := by
  match l, h with
  | [a, b], _ => exact ⟨a, b, rfl⟩
theorem len4 {α : Type} {l : List α} (h : l.length = 4) : ∃ a b c d, l = [a, b, c, d] := by
  match l, h with
  | [a, b, c, d], _ => exact ⟨a, b, c, d, rfl⟩
theorem len6 {α : Type} {l : List α} (h : l.length = 6) : ∃ a b c d e f, l = [a, b, c, d, e, f] := by
  match l, h with
  | [a, b, c, d, e, f], _ => exact ⟨a, b, c, d, e, f, rfl⟩
theorem len8 {α : Type} {l : List α} (h : l.length = 8) : ∃ a b c d e f i j, l = [a, b, c, d, e, f, i, j] := by
  match l, h with
  | [a, b, c, d, e, f, i, j], _ => exact ⟨a, b, c, d, e, f, i, j, rfl⟩
section
variable {H : Type} {enc : TypeId × Value → H} {W : World}
abbrev Trd (enc : TypeId × Value → H) (W : World) (fuel : Nat) (t : TypeId) (cs : List Value) (x : DataW H × List MemPlace) : Prop := DataW.trod enc Tryz.prog W 0 (fun _ => true) true fuel t cs = some x
def reachF (f : Fld) : Prop := f.name.size ≤ 140737488351232 ∧ f.value.size ≤ 140737488351232

theorem open_flds {fuel : Nat} {cs : List Value} {x : DataW H × List MemPlace} (h : Trd enc W fuel 59 cs x) (hw : Fits Tryz.prog 59 x.1) :
    ∃ (A : Option Addr) (c : Nat) (l : List Fld), cs = [.slice A l.length c] ∧ l.length ≤ maxLen ∧ FieldsAt W A l ∧ ∀ f ∈ l, reachF f := by
  obtain ⟨A, len, cap, n, rfl, _, hl, hm, _, hi⟩ := open_row Tryz.underlying59 (by rw [show Tryz.prog.cellsOf 108 = 2 by kernel_rfl]; omega) h hw
  rw [show Tryz.prog.cellsOf 108 = 2 by kernel_rfl] at hi
  obtain ⟨l, hlen, hR⟩ := list_of len (fun i (f : Fld) => (∃ b off, A = some ⟨b, off, none⟩ ∧ W.cell? ⟨b, off + i * 2, none⟩ = some (.string f.name) ∧ W.cell? ⟨b, off + i * 2 + 1, none⟩ = some (.string f.value)) ∧ reachF f) (fun i hin => by
    obtain ⟨b, off, cs', y, hA, hcl, hc, ht, hf⟩ := hi i hin
    obtain ⟨m, _, _, hfd⟩ := open_strct Tryz.underlying108 ht hf
    obtain ⟨y0, t0, f0⟩ := hfd 0 _ rfl
    obtain ⟨y1, t1, f1⟩ := hfd 1 _ rfl
    obtain ⟨s0, e0, g0⟩ := open_str_at Tryz.underlying9 t0 f0
    obtain ⟨s1, e1, g1⟩ := open_str_at Tryz.underlying9 t1 f1
    obtain ⟨v0, v1, rfl⟩ := len2 hcl
    simp [show Tryz.prog.cellsOf 9 = 1 by kernel_rfl] at e0 e1
    subst e0 e1
    exact ⟨⟨s0, s1⟩, ⟨b, off, hA, hc 0 (by omega), hc 1 (by omega)⟩, g0, g1⟩)
  subst hlen
  refine ⟨A, cap, l, rfl, Nat.le_trans hl hm, fun k f hk => (hR k f hk).1, fun f hf => ?_⟩
  obtain ⟨k, hk⟩ := List.mem_iff_getElem?.1 hf
  exact (hR k f hk).2
theorem open_docs {fuel : Nat} {cs : List Value} {x : DataW H × List MemPlace} (h : Trd enc W fuel 25 cs x) (hw : Fits Tryz.prog 25 x.1) :
    ∃ (A : Option Addr) (c : Nat) (l : List Pap), cs = [.slice A l.length c] ∧ l.length ≤ maxLen ∧ DocsAt W A l ∧ LongD l := by
  obtain ⟨A, len, cap, n, rfl, _, hl, hm, _, hi⟩ := open_row Tryz.underlying25 (by rw [show Tryz.prog.cellsOf 61 = 4 by kernel_rfl]; omega) h hw
  rw [show Tryz.prog.cellsOf 61 = 4 by kernel_rfl] at hi
  obtain ⟨l, hlen, hR⟩ := list_of len (fun i (x : Pap) => (∃ b off, A = some ⟨b, off, none⟩ ∧ W.cell? ⟨b, off + i * 4, none⟩ = some (.int .i64 x.kind) ∧ W.cell? ⟨b, off + i * 4 + 1, none⟩ = some (.string x.number) ∧
    W.cell? ⟨b, off + i * 4 + 2, none⟩ = some (.string x.issuer) ∧ W.cell? ⟨b, off + i * 4 + 3, none⟩ = some (.slice x.fA x.fields.length x.fc) ∧ FieldsAt W x.fA x.fields ∧ x.fields.length ≤ maxLen ∧ (-9223372036854775808 ≤ x.kind ∧ x.kind ≤ 9223372036854775807)) ∧ ∀ f ∈ x.fields, reachF f) (fun i hin => by
    obtain ⟨b, off, cs', y, hA, hcl, hc, ht, hf⟩ := hi i hin
    obtain ⟨m, _, _, hfd⟩ := open_strct Tryz.underlying61 ht hf
    obtain ⟨y0, t0, f0⟩ := hfd 0 _ rfl
    obtain ⟨y1, t1, f1⟩ := hfd 1 _ rfl
    obtain ⟨y2, t2, f2⟩ := hfd 2 _ rfl
    obtain ⟨y3, t3, f3⟩ := hfd 3 _ rfl
    obtain ⟨k0, e0, g0⟩ := open_int_at Tryz.underlying3 t0
    obtain ⟨s1, e1, g1⟩ := open_str_at Tryz.underlying9 t1 f1
    obtain ⟨s2, e2, g2⟩ := open_str_at Tryz.underlying9 t2 f2
    obtain ⟨fA, fc, fl, e3, g3, g4, g5⟩ := open_flds t3 f3
    obtain ⟨v0, v1, v2, v3, rfl⟩ := len4 hcl
    simp [show Tryz.prog.cellsOf 9 = 1 by kernel_rfl, show Tryz.prog.cellsOf 3 = 1 by kernel_rfl, show Tryz.prog.cellsOf 59 = 1 by kernel_rfl] at e0 e1 e2 e3
    subst e0 e1 e2 e3
    exact ⟨⟨k0, s1, s2, fA, fc, fl⟩, ⟨b, off, hA, hc 0 (by omega), hc 1 (by omega), hc 2 (by omega), hc 3 (by omega), g4, g3, i64_of g0⟩, g5⟩)
  subst hlen
  refine ⟨A, cap, l, rfl, Nat.le_trans hl hm, fun k f hk => (hR k f hk).1, fun d hd f hf => ?_⟩
  obtain ⟨k, hk⟩ := List.mem_iff_getElem?.1 hd
  have := (hR k d hk).2 f hf
  unfold reachF at this
  omega
theorem rows_of {A : Option Addr} : ∀ (L : List Tree) (j : Nat), (∀ k t, L[k]? = some t → CellsAt W A (j + k) t ∧ TreeAt W t) → RowsAt W A j L
  | [], _, _ => by rw [RowsAt]; trivial
  | t :: L, j, h => by
    rw [RowsAt]
    have h0 := h 0 t rfl
    refine ⟨h0.1, h0.2, rows_of L (j + 1) fun k u hk => ?_⟩
    have := h (k + 1) u (by simpa using hk)
    rw [show j + 1 + k = j + (k + 1) by omega]
    exact this
theorem open_node : ∀ (fuel : Nat) (cs : List Value) (x : DataW H × List MemPlace), Trd enc W fuel 24 cs x → Fits Tryz.prog 24 x.1 → ∃ t : Tree, cs = t.cells.toList ∧ TreeAt W t ∧ LongT t := by
  intro fuel
  induction fuel using Nat.strongRecOn with
  | ind fuel ih =>
    intro cs x h hw
    obtain ⟨m, hm, hcl, hfd⟩ := open_strct Tryz.underlying24 h hw
    rw [show Tryz.prog.cellsOf 24 = 6 by kernel_rfl] at hcl
    obtain ⟨y0, t0, f0⟩ := hfd 0 _ rfl
    obtain ⟨y1, t1, f1⟩ := hfd 1 _ rfl
    obtain ⟨y2, t2, f2⟩ := hfd 2 _ rfl
    obtain ⟨y3, t3, f3⟩ := hfd 3 _ rfl
    obtain ⟨y4, t4, f4⟩ := hfd 4 _ rfl
    obtain ⟨y5, t5, f5⟩ := hfd 5 _ rfl
    obtain ⟨k0, e0, _⟩ := open_int_at Tryz.underlying3 t0
    obtain ⟨k1, e1, _⟩ := open_int_at Tryz.underlying3 t1
    obtain ⟨s2, e2, g2⟩ := open_str_at Tryz.underlying9 t2 f2
    obtain ⟨s3, e3, g3⟩ := open_str_at Tryz.underlying9 t3 f3
    obtain ⟨k4, e4, _⟩ := open_int_at Tryz.underlying2 t4
    obtain ⟨A, len, cap, n, e5, hnm, hl, hmx, _, hi⟩ := open_row Tryz.underlying22 (by rw [show Tryz.prog.cellsOf 24 = 6 by kernel_rfl]; omega) t5 f5
    rw [show Tryz.prog.cellsOf 24 = 6 by kernel_rfl] at hi
    obtain ⟨L, hlen, hR⟩ := list_of len (fun i (t : Tree) => CellsAt W A i t ∧ TreeAt W t ∧ LongT t) (fun i hin => by
      obtain ⟨b, off, cs', y, hA, hcl, hc, ht, hf⟩ := hi i hin
      obtain ⟨t, rfl, hT, hL⟩ := ih n (by omega) cs' y ht hf
      obtain ⟨tk, tp, tf, tx, tn, tA, tc, tL⟩ := t
      exact ⟨.mk tk tp tf tx tn tA tc tL, ⟨b, off, hA, hc 0 (by omega), hc 1 (by omega), hc 2 (by omega), hc 3 (by omega), hc 4 (by omega), hc 5 (by omega)⟩, hT, hL⟩)
    subst hlen
    obtain ⟨v0, v1, v2, v3, v4, v5, rfl⟩ := len6 hcl
    simp [show Tryz.prog.cellsOf 9 = 1 by kernel_rfl, show Tryz.prog.cellsOf 3 = 1 by kernel_rfl, show Tryz.prog.cellsOf 2 = 1 by kernel_rfl, show Tryz.prog.cellsOf 22 = 1 by kernel_rfl] at e0 e1 e2 e3 e4 e5
    subst e0 e1 e2 e3 e4 e5
    refine ⟨.mk k0 k1 s2 s3 k4 A cap L, rfl, ?_, ?_⟩
    · rw [TreeAt]
      exact ⟨rows_of L 0 fun k t hk => by rw [Nat.zero_add]; exact ⟨(hR k t hk).1, (hR k t hk).2.1⟩, Nat.le_trans hl hmx⟩
    · unfold LongT
      rw [allT]
      refine ⟨⟨by show s2.size ≤ _; omega, by show s3.size ≤ _; omega⟩, allL_of fun t ht => ?_⟩
      obtain ⟨k, hk⟩ := List.mem_iff_getElem?.1 ht
      exact (hR k t hk).2.2
theorem open_nds {fuel : Nat} {cs : List Value} {x : DataW H × List MemPlace} (h : Trd enc W fuel 44 cs x) (hw : Fits Tryz.prog 44 x.1) :
    ∃ (A : Option Addr) (c : Nat) (l : List Nd), cs = [.slice A l.length c] ∧ l.length ≤ maxLen ∧ NdsAt W A l := by
  obtain ⟨A, len, cap, n, rfl, _, hl, hm, _, hi⟩ := open_row Tryz.underlying44 (by rw [show Tryz.prog.cellsOf 71 = 8 by kernel_rfl]; omega) h hw
  rw [show Tryz.prog.cellsOf 71 = 8 by kernel_rfl] at hi
  obtain ⟨l, hlen, hR⟩ := list_of len (fun k (x : Nd) => (-9223372036854775808 ≤ x.kind ∧ x.kind ≤ 9223372036854775807) ∧ TreeAt W x.rule ∧ LongT x.rule ∧ ∃ b off, A = some ⟨b, off, none⟩ ∧ W.cell? ⟨b, off + k * 8, none⟩ = some (.int .i64 x.kind) ∧ W.cell? ⟨b, off + k * 8 + 1, none⟩ = some (.int .i64 x.count) ∧
    match x.rule with
    | .mk k' p f x n A' c L => W.cell? ⟨b, off + k * 8 + 2, none⟩ = some (.int .i64 k') ∧ W.cell? ⟨b, off + k * 8 + 2 + 1, none⟩ = some (.int .i64 p) ∧ W.cell? ⟨b, off + k * 8 + 2 + 2, none⟩ = some (.string f) ∧ W.cell? ⟨b, off + k * 8 + 2 + 3, none⟩ = some (.string x) ∧
      W.cell? ⟨b, off + k * 8 + 2 + 4, none⟩ = some (.int .i64 n) ∧ W.cell? ⟨b, off + k * 8 + 2 + 5, none⟩ = some (.slice A' L.length c)) (fun i hin => by
    obtain ⟨b, off, cs', y, hA, hcl, hc, ht, hf⟩ := hi i hin
    obtain ⟨m, _, _, hfd⟩ := open_strct Tryz.underlying71 ht hf
    obtain ⟨y0, t0, f0⟩ := hfd 0 _ rfl
    obtain ⟨y1, t1, f1⟩ := hfd 1 _ rfl
    obtain ⟨y2, t2, f2⟩ := hfd 2 _ rfl
    obtain ⟨k0, e0, g0⟩ := open_int_at Tryz.underlying3 t0
    obtain ⟨k1, e1, _⟩ := open_int_at Tryz.underlying3 t1
    obtain ⟨t, e2, hT, hL⟩ := open_node _ _ _ t2 f2
    obtain ⟨v0, v1, v2, v3, v4, v5, v6, v7, rfl⟩ := len8 hcl
    obtain ⟨tk, tp, tf, tx, tn, tA, tc, tL⟩ := t
    simp [Tree.cells, show Tryz.prog.cellsOf 24 = 6 by kernel_rfl, show Tryz.prog.cellsOf 3 = 1 by kernel_rfl] at e0 e1 e2
    obtain ⟨rfl, rfl, rfl, rfl, rfl, rfl⟩ := e2
    subst e0 e1
    exact ⟨⟨k0, k1, .mk tk tp tf tx tn tA tc tL⟩, i64_of g0, hT, hL, b, off, hA, hc 0 (by omega), hc 1 (by omega), hc 2 (by omega), hc 3 (by omega), hc 4 (by omega), hc 5 (by omega), hc 6 (by omega), hc 7 (by omega)⟩)
  subst hlen
  exact ⟨A, cap, l, rfl, Nat.le_trans hl hm, fun k f hk => hR k f hk⟩
end
end Go.Proofs.YtdjmckjbibfecaaGreatDoor
namespace Go.Proofs.YtdjmckjbibfecaaGreatDoor
open Go Go.ChangeShapes Go.WideShapes Go.ChangeAt Go.RowKit Go.Deep

section
variable {H : Type} {enc : TypeId × Value → H} {W : World} {base : Nat}
theorem fits_of {P : Program} {ts : List TypeId} {l : List (DataW H)} (hz : (DataW.weightsEach P ts l).all (· ≤ reachBytes) = true) {j : Nat} {t : TypeId} {d : DataW H} (ht : ts[j]? = some t) (hd : l[j]? = some d) : Fits P t d := fun n hn => by
  have := List.all_eq_true.1 hz n (DataW.weights_mem_each ht hd n hn)
  simpa using this
abbrev TrdV (enc : TypeId × Value → H) (W : World) (t : TypeId) (v : Value) (d : DataW H) (p : List MemPlace) : Prop := DataW.Trod enc Tryz.prog W 0 (fun _ => true) true t v d p
set_option maxRecDepth 100000 in
theorem arg_docs {v : Value} {d : DataW H} {p : List MemPlace} (hv : Value.okWide Tryz.prog W .any base 25 v) (h : TrdV enc W 25 v d p) (hf : Fits Tryz.prog 25 d) :
    ∃ (A : Option Addr) (c : Nat) (l : List Pap), v = .slice A l.length c ∧ l.length ≤ maxLen ∧ DocsAt W A l ∧ LongD l := by
  obtain ⟨A, n, c, rfl⟩ := okWide_slice Tryz.underlying25 hv
  obtain ⟨fuel, h⟩ := h
  obtain ⟨A', c', l, e, h1, h2, h3⟩ := open_docs h hf
  simp [Value.cells] at e
  obtain ⟨rfl, rfl, rfl⟩ := e
  exact ⟨A, c, l, rfl, h1, h2, h3⟩
end
end Go.Proofs.YtdjmckjbibfecaaGreatDoor
namespace Go.Proofs.YtdjmckjbibfecaaGreatDoor
open Go Go.ChangeShapes Go.WideShapes Go.ChangeAt Go.RowKit Go.Deep

theorem alike_of {W : World} {L : List (String × DataW Unit)} (hl : L.filter (fun x => x.1 == "supercargo/examine.alike") = [("supercargo/examine.alike", Rows.laid_supercargo_examine_alike)]) (h : laidMetH Tryz.prog L W) : AlikeAt W := by
  have h1 := laidMetH.filter (fun x => x.1 == "supercargo/examine.alike") h
  rw [hl, MakeChecks.laidMetH_plain _ _ _ (by kernel_rfl)] at h1
  exact strtab (t := 143) (e := 9) (n := 6) [[115, 101, 108, 108, 101, 114], [102, 114, 111, 109], [116, 111], [99, 117, 114, 114, 101, 110, 99, 121], [98, 111, 120, 101, 115], [109, 97, 114, 107, 115]] (by kernel_rfl) (by kernel_rfl) Tryz.underlying143 Tryz.underlying9 (by kernel_rfl) rfl h1
section
variable {H : Type} {enc : TypeId × Value → H} {W : World} {base : Nat}
theorem len18 {α : Type} {l : List α} (h : l.length = 18) : ∃ a b c d e f g i j k m n o p q r s t, l = [a, b, c, d, e, f, g, i, j, k, m, n, o, p, q, r, s, t] := by
  match l, h with
  | [a, b, c, d, e, f, g, i, j, k, m, n, o, p, q, r, s, t], _ => exact ⟨a, b, c, d, e, f, g, i, j, k, m, n, o, p, q, r, s, t, rfl⟩
set_option maxRecDepth 100000 in
theorem arg_credit {v : Value} {d : DataW H} {p : List MemPlace} (hv : Value.okWide Tryz.prog W .any base 46 v) (h : TrdV enc W 46 v d p) (hf : Fits Tryz.prog 46 d) :
    ∃ (c : Crd) (A : Option Addr) (cap : Nat) (l : List Nd), v = .agg (c.cells (.slice A l.length cap)) ∧ c.okC ∧ l.length ≤ maxLen ∧ NdsAt W A l := by
  obtain ⟨cs, rfl, _⟩ := okWide_struct Tryz.underlying46 hv
  obtain ⟨fuel, h⟩ := h
  simp only [Value.cells] at h
  obtain ⟨m, _, hcl, hfd⟩ := open_strct Tryz.underlying46 h hf
  rw [show Tryz.prog.cellsOf 46 = 18 by kernel_rfl] at hcl
  have c9 : Tryz.prog.cellsOf 9 = 1 := by kernel_rfl
  have c3 : Tryz.prog.cellsOf 3 = 1 := by kernel_rfl
  have c4 : Tryz.prog.cellsOf 4 = 1 := by kernel_rfl
  have c2 : Tryz.prog.cellsOf 2 = 1 := by kernel_rfl
  have c29 : Tryz.prog.cellsOf 43 = 2 := by kernel_rfl
  have c30 : Tryz.prog.cellsOf 44 = 1 := by kernel_rfl
  obtain ⟨y0, t0, f0⟩ := hfd 0 _ rfl
  obtain ⟨y1, t1, f1⟩ := hfd 1 _ rfl
  obtain ⟨y2, t2, f2⟩ := hfd 2 _ rfl
  obtain ⟨y3, t3, f3⟩ := hfd 3 _ rfl
  obtain ⟨y4, t4, f4⟩ := hfd 4 _ rfl
  obtain ⟨y5, t5, f5⟩ := hfd 5 _ rfl
  obtain ⟨y6, t6, f6⟩ := hfd 6 _ rfl
  obtain ⟨y7, t7, f7⟩ := hfd 7 _ rfl
  obtain ⟨y8, t8, f8⟩ := hfd 8 _ rfl
  obtain ⟨y9, t9, f9⟩ := hfd 9 _ rfl
  obtain ⟨y10, t10, f10⟩ := hfd 10 _ rfl
  obtain ⟨y11, t11, f11⟩ := hfd 11 _ rfl
  obtain ⟨y12, t12, f12⟩ := hfd 12 _ rfl
  obtain ⟨y13, t13, f13⟩ := hfd 13 _ rfl
  obtain ⟨y14, t14, f14⟩ := hfd 14 _ rfl
  obtain ⟨y15, t15, f15⟩ := hfd 15 _ rfl
  obtain ⟨y16, t16, f16⟩ := hfd 16 _ rfl
  obtain ⟨s0, e0, _⟩ := open_str_at Tryz.underlying9 t0 f0
  obtain ⟨s1, e1, _⟩ := open_str_at Tryz.underlying9 t1 f1
  obtain ⟨s2, e2, _⟩ := open_str_at Tryz.underlying9 t2 f2
  obtain ⟨s3, e3, _⟩ := open_str_at Tryz.underlying9 t3 f3
  obtain ⟨s4, e4, _⟩ := open_str_at Tryz.underlying9 t4 f4
  obtain ⟨s5, e5, _⟩ := open_str_at Tryz.underlying9 t5 f5
  obtain ⟨s6, e6, _⟩ := open_str_at Tryz.underlying9 t6 f6
  obtain ⟨m7, _, hcl7, hfd7⟩ := open_strct Tryz.underlying43 t7 f7
  obtain ⟨z0, u0, g0⟩ := hfd7 0 _ rfl
  obtain ⟨z1, u1, g1⟩ := hfd7 1 _ rfl
  obtain ⟨s7, e7, _⟩ := open_str_at Tryz.underlying9 u0 g0
  obtain ⟨n7, e7', b7⟩ := open_int_at Tryz.underlying2 u1
  obtain ⟨n8, e8, b8⟩ := open_int_at Tryz.underlying3 t8
  obtain ⟨n9, e9, b9⟩ := open_int_at Tryz.underlying3 t9
  obtain ⟨n10, e10, b10⟩ := open_int_at Tryz.underlying3 t10
  obtain ⟨n11, e11, b11⟩ := open_int_at Tryz.underlying3 t11
  obtain ⟨n12, e12, b12⟩ := open_int_at Tryz.underlying3 t12
  obtain ⟨n13, e13, b13⟩ := open_int_at Tryz.underlying3 t13
  obtain ⟨n14, e14, _⟩ := DataW.trod_bool Tryz.underlying4 t14
  obtain ⟨n15, e15, _⟩ := DataW.trod_bool Tryz.underlying4 t15
  obtain ⟨A, cap, l, e16, hl, hN⟩ := open_nds t16 f16
  obtain ⟨a0, a1, a2, a3, a4, a5, a6, a7, a8, a9, a10, a11, a12, a13, a14, a15, a16, a17, hcs⟩ := len18 hcl
  rw [hcs] at e0 e1 e2 e3 e4 e5 e6 e7 e7' e8 e9 e10 e11 e12 e13 e14 e15 e16
  simp [c9, c3, c4, c2, c29, c30] at e0 e1 e2 e3 e4 e5 e6 e7 e7' e8 e9 e10 e11 e12 e13 e14 e15 e16
  subst e0 e1 e2 e3 e4 e5 e6 e7 e7' e8 e9 e10 e11 e12 e13 e14 e15 e16
  refine ⟨⟨s0, s1, s2, s3, s4, s5, s6, s7, n7, n8, n9, n10, n11, n12, n13, n14, n15⟩, A, cap, l, ?_, ⟨i64_of b7, i64_of b8, i64_of b9, i64_of b10, i64_of b11, i64_of b12⟩, hl, hN⟩
  rw [show cs = cs.toList.toArray by simp, hcs]
end
end Go.Proofs.YtdjmckjbibfecaaGreatDoor

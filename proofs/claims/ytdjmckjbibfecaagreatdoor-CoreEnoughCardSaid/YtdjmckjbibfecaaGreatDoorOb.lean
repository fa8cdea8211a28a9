/- Papers, rules, needs and credits, opened. -/
import Derived.Test.YtdjmckjbibfecaaGreatDoorOa
import Derived.Test.YtdjmckjbibfecaaGreatDoorZf
namespace Go.Proofs.YtdjmckjbibfecaaGreatDoor
open Go Go.ChangeShapes Go.WideShapes Go.ChangeAt Go.RowKit Go.Deep

theorem i64_of {n : Int} (h : (Lit.int .i64 n).wf = true) : -9223372036854775808 ≤ n ∧ n ≤ 9223372036854775807 := by
  simp only [Lit.wf, Bool.and_eq_true, decide_eq_true_eq] at h
  have e1 : IntKind.i64.min = -9223372036854775808 := by decide
  have e2 : IntKind.i64.max = 9223372036854775807 := by decide
  rw [e1, e2] at h
  exact h
theorem len2 {α : Type} {l : List α} (h : l.length = 2) : ∃ a b, l = [a, b] := by
  match l, h with
  | [a, b], _ => exact ⟨a, b, rfl⟩
theorem len4 {α : Type} {l : List α} (h : l.length = 4) : ∃ a b c d, l = [a, b, c, d] := by
  match l, h with
  | [a, b, c, d], _ => exact ⟨a, b, c, d, rfl⟩
theorem len6 {α : Type} {l : List α} (h : l.length = 6) : ∃ a b c d e f, l = [a, b, c, d, e, f] := by
  match l, h with
  | [a, b, c, d, e, f], _ => exact ⟨a, b, c, d, e, f, rfl⟩
theorem len8 {α : Type} {l : List α} (h : l.length = 8) : ∃ a b c d e f i j, l = [a, b, c, d, e, f, i, j] := by
  match l, h with
  | [a, b, c, d, e, f, i, j], _ => exact ⟨a, b, c, d, e, f, i, j, rfl⟩
section
variable {H : Type} {enc : TypeId × Value → H} {W : World}
abbrev Trd (enc : TypeId × Value → H) (W : World) (fuel : Nat) (t : TypeId) (cs : List Value) (x : DataW H × List MemPlace) : Prop := DataW.trod enc Tryz.prog W 0 (fun _ => true) true fuel t cs = some x
def reachF (f : Fld) : Prop := f.name.size ≤ 140737488351232 ∧ f.value.size ≤ 140737488351232

theorem open_flds {fuel : Nat} {cs : List Value} {x : DataW H × List MemPlace} (h : Trd enc W fuel 59 cs x) (hw : Fits Tryz.prog 59 x.1) :
    ∃ (A : Option Addr) (c : Nat) (l : List Fld), cs = [.slice A l.length c] ∧ l.length ≤ maxLen ∧ FieldsAt W A l ∧ ∀ f ∈ l, reachF f := by
  obtain ⟨A, len, cap, n, rfl, _, hl, hm, _, hi⟩ := open_row Tryz.underlying59 (by rw [show Tryz.prog.cellsOf 108 = 2 by kernel_rfl]; omega) h hw
  rw [show Tryz.prog.cellsOf 108 = 2 by kernel_rfl] at hi
  obtain ⟨l, hlen, hR⟩ := list_of len (fun i (f : Fld) => (∃ b off, A = some ⟨b, off, none⟩ ∧ W.cell? ⟨b, off + i * 2, none⟩ = some (.string f.name) ∧ W.cell? ⟨b, off + i * 2 + 1, none⟩ = some (.string f.value)) ∧ reachF f) (fun i hin => by
    obtain ⟨b, off, cs', y, hA, hcl, hc, ht, hf⟩ := hi i hin
    obtain ⟨m, _, _, hfd⟩ := open_strct Tryz.underlying108 ht hf
    obtain ⟨y0, t0, f0⟩ := hfd 0 _ rfl
    obtain ⟨y1, t1, f1⟩ := hfd 1 _ rfl
    obtain ⟨s0, e0, g0⟩ := open_str_at Tryz.underlying9 t0 f0
    obtain ⟨s1, e1, g1⟩ := open_str_at Tryz.underlying9 t1 f1
    obtain ⟨v0, v1, rfl⟩ := len2 hcl
    simp [show Tryz.prog.cellsOf 9 = 1 by kernel_rfl] at e0 e1
    subst e0 e1
    exact ⟨⟨s0, s1⟩, ⟨b, off, hA, hc 0 (by omega), hc 1 (by omega)⟩, g0, g1⟩)
  subst hlen
  refine ⟨A, cap, l, rfl, Nat.le_trans hl hm, fun k f hk => (hR k f hk).1, fun f hf => ?_⟩
  obtain ⟨k, hk⟩ := List.mem_iff_getElem?.1 hf
  exact (hR k f hk).2
theorem open_docs {fuel : Nat} {cs : List Value} {x : DataW H × List MemPlace} (h : Trd enc W fuel 25 cs x) (hw : Fits Tryz.prog 25 x.1) :
    ∃ (A : Option Addr) (c : Nat) (l : List Pap), cs = [.slice A l.length c] ∧ l.length ≤ maxLen ∧ DocsAt W A l ∧ LongD l := by
  obtain ⟨A, len, cap, n, rfl, _, hl, hm, _, hi⟩ := open_row Tryz.underlying25 (by rw [show Tryz.prog.cellsOf 61 = 4 by kernel_rfl]; omega) h hw
  rw [show Tryz.prog.cellsOf 61 = 4 by kernel_rfl] at hi
  obtain ⟨l, hlen, hR⟩ := list_of len (fun i (x : Pap) => (∃ b off, A = some ⟨b, off, none⟩ ∧ W.cell? ⟨b, off + i * 4, none⟩ = some (.int .i64 x.kind) ∧ W.cell? ⟨b, off + i * 4 + 1, none⟩ = some (.string x.number) ∧
    W.cell? ⟨b, off + i * 4 + 2, none⟩ = some (.string x.issuer) ∧ W.cell? ⟨b, off + i * 4 + 3, none⟩ = some (.slice x.fA x.fields.length x.fc) ∧ FieldsAt W x.fA x.fields ∧ x.fields.length ≤ maxLen ∧ (-9223372036854775808 ≤ x.kind ∧ x.kind ≤ 9223372036854775807)) ∧ ∀ f ∈ x.fields, reachF f) (fun i hin => by
    obtain ⟨b, off, cs', y, hA, hcl, hc, ht, hf⟩ := hi i hin
    obtain ⟨m, _, _, hfd⟩ := open_strct Tryz.underlying61 ht hf
    obtain ⟨y0, t0, f0⟩ := hfd 0 _ rfl
    obtain ⟨y1, t1, f1⟩ := hfd 1 _ rfl
    obtain ⟨y2, t2, f2⟩ := hfd 2 _ rfl
    obtain ⟨y3, t3, f3⟩ := hfd 3 _ rfl
    obtain ⟨k0, e0, g0⟩ := open_int_at Tryz.underlying3 t0
    obtain ⟨s1, e1, g1⟩ := open_str_at Tryz.underlying9 t1 f1
    obtain ⟨s2, e2, g2⟩ := open_str_at Tryz.underlying9 t2 f2
    obtain ⟨fA, fc, fl, e3, g3, g4, g5⟩ := open_flds t3 f3
    obtain ⟨v0, v1, v2, v3, rfl⟩ := len4 hcl
    simp [show Tryz.prog.cellsOf 9 = 1 by kernel_rfl, show Tryz.prog.cellsOf 3 = 1 by kernel_rfl, show Tryz.prog.cellsOf 59 = 1 by kernel_rfl] at e0 e1 e2 e3
    subst e0 e1 e2 e3
    exact ⟨⟨k0, s1, s2, fA, fc, fl⟩, ⟨b, off, hA, hc 0 (by omega), hc 1 (by omega), hc 2 (by omega), hc 3 (by omega), g4, g3, i64_of g0⟩, g5⟩)
  subst hlen
  refine ⟨A, cap, l, rfl, Nat.le_trans hl hm, fun k f hk => (hR k f hk).1, fun d hd f hf => ?_⟩
  obtain ⟨k, hk⟩ := List.mem_iff_getElem?.1 hd
  have := (hR k d hk).2 f hf
  unfold reachF at this
  omega
theorem rows_of {A : Option Addr} : ∀ (L : List Tree) (j : Nat), (∀ k t, L[k]? = some t → CellsAt W A (j + k) t ∧ TreeAt W t) → RowsAt W A j L
  | [], _, _ => by rw [RowsAt]; trivial
  | t :: L, j, h => by
    rw [RowsAt]
    have h0 := h 0 t rfl
    refine ⟨h0.1, h0.2, rows_of L (j + 1) fun k u hk => ?_⟩
    have := h (k + 1) u (by simpa using hk)
    rw [show j + 1 + k = j + (k + 1) by omega]
    exact this
theorem open_node : ∀ (fuel : Nat) (cs : List Value) (x : DataW H × List MemPlace), Trd enc W fuel 24 cs x → Fits Tryz.prog 24 x.1 → ∃ t : Tree, cs = t.cells.toList ∧ TreeAt W t ∧ LongT t := by
  intro fuel
  induction fuel using Nat.strongRecOn with
  | ind fuel ih =>
    intro cs x h hw
    obtain ⟨m, hm, hcl, hfd⟩ := open_strct Tryz.underlying24 h hw
    rw [show Tryz.prog.cellsOf 24 = 6 by kernel_rfl] at hcl
    obtain ⟨y0, t0, f0⟩ := hfd 0 _ rfl
    obtain ⟨y1, t1, f1⟩ := hfd 1 _ rfl
    obtain ⟨y2, t2, f2⟩ := hfd 2 _ rfl
    obtain ⟨y3, t3, f3⟩ := hfd 3 _ rfl
    obtain ⟨y4, t4, f4⟩ := hfd 4 _ rfl
    obtain ⟨y5, t5, f5⟩ := hfd 5 _ rfl
    obtain ⟨k0, e0, _⟩ := open_int_at Tryz.underlying3 t0
    obtain ⟨k1, e1, _⟩ := open_int_at Tryz.underlying3 t1
    obtain ⟨s2, e2, g2⟩ := open_str_at Tryz.underlying9 t2 f2
    obtain ⟨s3, e3, g3⟩ := open_str_at Tryz.underlying9 t3 f3
    obtain ⟨k4, e4, _⟩ := open_int_at Tryz.underlying2 t4
    obtain ⟨A, len, cap, n, e5, hnm, hl, hmx, _, hi⟩ := open_row Tryz.underlying22 (by rw [show Tryz.prog.cellsOf 24 = 6 by kernel_rfl]; omega) t5 f5
    rw [show Tryz.prog.cellsOf 24 = 6 by kernel_rfl] at hi
    obtain ⟨L, hlen, hR⟩ := list_of len (fun i (t : Tree) => CellsAt W A i t ∧ TreeAt W t ∧ LongT t) (fun i hin => by
      obtain ⟨b, off, cs', y, hA, hcl, hc, ht, hf⟩ := hi i hin
      obtain ⟨t, rfl, hT, hL⟩ := ih n (by omega) cs' y ht hf
      obtain ⟨tk, tp, tf, tx, tn, tA, tc, tL⟩ := t
      exact ⟨.mk tk tp tf tx tn tA tc tL, ⟨b, off, hA, hc 0 (by omega), hc 1 (by omega), hc 2 (by omega), hc 3 (by omega), hc 4 (by omega), hc 5 (by omega)⟩, hT, hL⟩)
    subst hlen
    obtain ⟨v0, v1, v2, v3, v4, v5, rfl⟩ := len6 hcl
    simp [show Tryz.prog.cellsOf 9 = 1 by kernel_rfl, show Tryz.prog.cellsOf 3 = 1 by kernel_rfl, show Tryz.prog.cellsOf 2 = 1 by kernel_rfl, show Tryz.prog.cellsOf 22 = 1 by kernel_rfl] at e0 e1 e2 e3 e4 e5
    subst e0 e1 e2 e3 e4 e5
    refine ⟨.mk k0 k1 s2 s3 k4 A cap L, rfl, ?_, ?_⟩
    · rw [TreeAt]
      exact ⟨rows_of L 0 fun k t hk => by rw [Nat.zero_add]; exact ⟨(hR k t hk).1, (hR k t hk).2.1⟩, Nat.le_trans hl hmx⟩
    · unfold LongT
      rw [allT]
      refine ⟨⟨by show s2.size ≤ _; omega, by show s3.size ≤ _; omega⟩, allL_of fun t ht => ?_⟩
      obtain ⟨k, hk⟩ := List.mem_iff_getElem?.1 ht
      exact (hR k t hk).2.2
theorem open_nds {fuel : Nat} {cs : List Value} {x : DataW H × List MemPlace} (h : Trd enc W fuel 44 cs x) (hw : Fits Tryz.prog 44 x.1) :
    ∃ (A : Option Addr) (c : Nat) (l : List Nd), cs = [.slice A l.length c] ∧ l.length ≤ maxLen ∧ NdsAt W A l := by
  obtain ⟨A, len, cap, n, rfl, _, hl, hm, _, hi⟩ := open_row Tryz.underlying44 (by rw [show Tryz.prog.cellsOf 71 = 8 by kernel_rfl]; omega) h hw
  rw [show Tryz.prog.cellsOf 71 = 8 by kernel_rfl] at hi
  obtain ⟨l, hlen, hR⟩ := list_of len (fun k (x : Nd) => (-9223372036854775808 ≤ x.kind ∧ x.kind ≤ 9223372036854775807) ∧ TreeAt W x.rule ∧ LongT x.rule ∧ ∃ b off, A = some ⟨b, off, none⟩ ∧ W.cell? ⟨b, off + k * 8, none⟩ = some (.int .i64 x.kind) ∧ W.cell? ⟨b, off + k * 8 + 1, none⟩ = some (.int .i64 x.count) ∧
    match x.rule with
    | .mk k' p f x n A' c L => W.cell? ⟨b, off + k * 8 + 2, none⟩ = some (.int .i64 k') ∧ W.cell? ⟨b, off + k * 8 + 2 + 1, none⟩ = some (.int .i64 p) ∧ W.cell? ⟨b, off + k * 8 + 2 + 2, none⟩ = some (.string f) ∧ W.cell? ⟨b, off + k * 8 + 2 + 3, none⟩ = some (.string x) ∧
      W.cell? ⟨b, off + k * 8 + 2 + 4, none⟩ = some (.int .i64 n) ∧ W.cell? ⟨b, off + k * 8 + 2 + 5, none⟩ = some (.slice A' L.length c)) (fun i hin => by
    obtain ⟨b, off, cs', y, hA, hcl, hc, ht, hf⟩ := hi i hin
    obtain ⟨m, _, _, hfd⟩ := open_strct Tryz.underlying71 ht hf
    obtain ⟨y0, t0, f0⟩ := hfd 0 _ rfl
    obtain ⟨y1, t1, f1⟩ := hfd 1 _ rfl
    obtain ⟨y2, t2, f2⟩ := hfd 2 _ rfl
    obtain ⟨k0, e0, g0⟩ := open_int_at Tryz.underlying3 t0
    obtain ⟨k1, e1, _⟩ := open_int_at Tryz.underlying3 t1
    obtain ⟨t, e2, hT, hL⟩ := open_node _ _ _ t2 f2
    obtain ⟨v0, v1, v2, v3, v4, v5, v6, v7, rfl⟩ := len8 hcl
    obtain ⟨tk, tp, tf, tx, tn, tA, tc, tL⟩ := t
    simp [Tree.cells, show Tryz.prog.cellsOf 24 = 6 by kernel_rfl, show Tryz.prog.cellsOf 3 = 1 by kernel_rfl] at e0 e1 e2
    obtain ⟨rfl, rfl, rfl, rfl, rfl, rfl⟩ := e2
    subst e0 e1
    exact ⟨⟨k0, k1, .mk tk tp tf tx tn tA tc tL⟩, i64_of g0, hT, hL, b, off, hA, hc 0 (by omega), hc 1 (by omega), hc 2 (by omega), hc 3 (by omega), hc 4 (by omega), hc 5 (by omega), hc 6 (by omega), hc 7 (by omega)⟩)
  subst hlen
  exact ⟨A, cap, l, rfl, Nat.le_trans hl hm, fun k f hk => hR k f hk⟩
end
end Go.Proofs.YtdjmckjbibfecaaGreatDoor

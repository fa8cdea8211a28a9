/- Fields of a paper, a paper and a text among the arguments, opened. -/
import Derived.Test.YtnmnknkdnjkpjaaGreatDoorOa
namespace Go.Proofs.YtnmnknkdnjkpjaaGreatDoor
open Go Go.ChangeShapes Go.WideShapes Go.ChangeAt Go.RowKit Go.Deep

theorem i64_of {n : Int} (h : (Lit.int .i64 n).wf = true) : -9223372036854775808 ≤ n ∧ n ≤ 9223372036854775807 := by
  simp only [Lit.wf, Bool.and_eq_true, decide_eq_true_eq] at h
  have e1 : IntKind.i64.min = -9223372036854775808 := by decide
  have e2 : IntKind.i64.max = 9223372036854775807 := by decide
  rw [e1, e2] at h
  exact h
theorem len2 {α : Type} {l : List α} (h : l.length = 2) : ∃ a b, l = [a, b] := by
  match l, h with
  | [a, b], _ => exact ⟨a, b, rfl⟩
theorem len4 {α : Type} {l : List α} (h : l.length = 4) : ∃ a b c d, l = [a, b, c, d] := by
  match l, h with
  | [a, b, c, d], _ => exact ⟨a, b, c, d, rfl⟩
section
variable {H : Type} {enc : TypeId × Value → H} {W : World}
abbrev Trd (enc : TypeId × Value → H) (W : World) (fuel : Nat) (t : TypeId) (cs : List Value) (x : DataW H × List MemPlace) : Prop := DataW.trod enc Tryz.prog W 0 (fun _ => true) true fuel t cs = some x
def reachF (f : Fld) : Prop := f.name.size ≤ 140737488351232 ∧ f.value.size ≤ 140737488351232

theorem open_flds {fuel : Nat} {cs : List Value} {x : DataW H × List MemPlace} (h : Trd enc W fuel 30 cs x) (hw : Fits Tryz.prog 30 x.1) :
    ∃ (A : Option Addr) (c : Nat) (l : List Fld), cs = [.slice A l.length c] ∧ l.length ≤ maxLen ∧ FieldsAt W A l ∧ ∀ f ∈ l, reachF f := by
  obtain ⟨A, len, cap, n, rfl, _, hl, hm, _, hi⟩ := open_row Tryz.underlying30 (by rw [show Tryz.prog.cellsOf 79 = 2 by kernel_rfl]; omega) h hw
  rw [show Tryz.prog.cellsOf 79 = 2 by kernel_rfl] at hi
  obtain ⟨l, hlen, hR⟩ := list_of len (fun i (f : Fld) => (∃ b off, A = some ⟨b, off, none⟩ ∧ W.cell? ⟨b, off + i * 2, none⟩ = some (.string f.name) ∧ W.cell? ⟨b, off + i * 2 + 1, none⟩ = some (.string f.value)) ∧ reachF f) (fun i hin => by
    obtain ⟨b, off, cs', y, hA, hcl, hc, ht, hf⟩ := hi i hin
    obtain ⟨m, _, _, hfd⟩ := open_strct Tryz.underlying79 ht hf
    obtain ⟨y0, t0, f0⟩ := hfd 0 _ rfl
    obtain ⟨y1, t1, f1⟩ := hfd 1 _ rfl
    obtain ⟨s0, e0, g0⟩ := open_str_at Tryz.underlying9 t0 f0
    obtain ⟨s1, e1, g1⟩ := open_str_at Tryz.underlying9 t1 f1
    obtain ⟨v0, v1, rfl⟩ := len2 hcl
    simp [show Tryz.prog.cellsOf 9 = 1 by kernel_rfl] at e0 e1
    subst e0 e1
    exact ⟨⟨s0, s1⟩, ⟨b, off, hA, hc 0 (by omega), hc 1 (by omega)⟩, g0, g1⟩)
  subst hlen
  refine ⟨A, cap, l, rfl, Nat.le_trans hl hm, fun k f hk => (hR k f hk).1, fun f hf => ?_⟩
  obtain ⟨k, hk⟩ := List.mem_iff_getElem?.1 hf
  exact (hR k f hk).2
theorem fits_of {P : Program} {ts : List TypeId} {l : List (DataW H)} (hz : (DataW.weightsEach P ts l).all (· ≤ reachBytes) = true) {j : Nat} {t : TypeId} {d : DataW H} (ht : ts[j]? = some t) (hd : l[j]? = some d) : Fits P t d := fun n hn => by
  have := List.all_eq_true.1 hz n (DataW.weights_mem_each ht hd n hn)
  simpa using this
abbrev TrdV (enc : TypeId × Value → H) (W : World) (t : TypeId) (v : Value) (d : DataW H) (p : List MemPlace) : Prop := DataW.Trod enc Tryz.prog W 0 (fun _ => true) true t v d p
variable {base : Nat}
set_option maxRecDepth 100000 in
theorem arg_str {v : Value} {d : DataW H} {p : List MemPlace} (hv : Value.okWide Tryz.prog W .any base 9 v) (h : TrdV enc W 9 v d p) (hf : Fits Tryz.prog 9 d) :
    ∃ s : ByteArray, v = .string s ∧ s.size ≤ 140737488351232 := by
  obtain ⟨s, rfl⟩ := okWide_string Tryz.underlying9 hv
  obtain ⟨fuel, h⟩ := h
  obtain ⟨s', e, hs⟩ := open_str_at Tryz.underlying9 h hf
  simp [Value.cells] at e
  subst e
  exact ⟨s, rfl, hs⟩
set_option maxRecDepth 100000 in
theorem arg_doc {v : Value} {d : DataW H} {p : List MemPlace} (hv : Value.okWide Tryz.prog W .any base 32 v) (h : TrdV enc W 32 v d p) (hf : Fits Tryz.prog 32 d) :
    ∃ (kd : Int) (nu is : ByteArray) (A : Option Addr) (c : Nat) (l : List Fld), v = .agg #[.int .i64 kd, .string nu, .string is, .slice A l.length c] ∧ l.length ≤ maxLen ∧ FieldsAt W A l ∧ (-9223372036854775808 ≤ kd ∧ kd ≤ 9223372036854775807) := by
  obtain ⟨cs, rfl, _⟩ := okWide_struct Tryz.underlying32 hv
  obtain ⟨fuel, h⟩ := h
  simp only [Value.cells] at h
  obtain ⟨m, _, hcl, hfd⟩ := open_strct Tryz.underlying32 h hf
  rw [show Tryz.prog.cellsOf 32 = 4 by kernel_rfl] at hcl
  obtain ⟨y0, t0, f0⟩ := hfd 0 _ rfl
  obtain ⟨y1, t1, f1⟩ := hfd 1 _ rfl
  obtain ⟨y2, t2, f2⟩ := hfd 2 _ rfl
  obtain ⟨y3, t3, f3⟩ := hfd 3 _ rfl
  obtain ⟨k0, e0, g0⟩ := open_int_at Tryz.underlying3 t0
  obtain ⟨s1, e1, _⟩ := open_str_at Tryz.underlying9 t1 f1
  obtain ⟨s2, e2, _⟩ := open_str_at Tryz.underlying9 t2 f2
  obtain ⟨A, c, l, e3, hl, hF, _⟩ := open_flds t3 f3
  obtain ⟨v0, v1, v2, v3, hcs⟩ := len4 hcl
  rw [hcs] at e0 e1 e2 e3
  simp [show Tryz.prog.cellsOf 9 = 1 by kernel_rfl, show Tryz.prog.cellsOf 3 = 1 by kernel_rfl, show Tryz.prog.cellsOf 30 = 1 by kernel_rfl] at e0 e1 e2 e3
  subst e0 e1 e2 e3
  refine ⟨k0, s1, s2, A, c, l, ?_, hl, hF, i64_of g0⟩
  rw [show cs = cs.toList.toArray by simp, hcs]
end
end Go.Proofs.YtnmnknkdnjkpjaaGreatDoor

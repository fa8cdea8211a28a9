/- Arguments opened: rows and structs of any make, with the reach of memory; no program in sight. -/
import Derived.Test.YtheiogafjinihaaDoorEnv
import Derived.Test.YtheiogafjinihaaDoorFw
import Derived.SizedLaws
namespace Go.Proofs.YtheiogafjinihaaDoor
open Go Go.ChangeShapes Go.WideShapes Go.ChangeAt Go.RowKit Go.Deep

section
variable {H : Type} {enc : TypeId × Value → H} {P : Program} {w : World} {base : Nat} {spare : Nat → Bool} {held : Bool}
/-- No part is longer than memory. -/
def Fits (P : Program) (t : TypeId) (d : DataW H) : Prop := ∀ n ∈ d.weights P t, n ≤ reachBytes
theorem Fits.part {t : TypeId} {fs : Array Field} {parts : List (DataW H)} {i : Nat} {f : Field} {d : DataW H} (h : Fits P t (.agg parts)) (ht : P.underlying t = some (.struct fs)) (hf : fs[i]? = some f) (hd : parts[i]? = some d) : Fits P f.type d := by
  intro n hn
  refine h n ?_
  rw [DataW.weights, ht]
  exact DataW.weights_mem_each (j := i) (by simp [hf]) hd n hn
theorem weightsAll_mem {e : TypeId} : ∀ {l : List (DataW H)} {d : DataW H}, d ∈ l → ∀ n ∈ d.weights P e, n ∈ DataW.weightsAll P e l
  | [], _, h, _, _ => by cases h
  | x :: l, d, h, n, hn => by
    simp only [DataW.weightsAll, List.mem_append]
    rcases List.mem_cons.1 h with rfl | h
    · exact .inl hn
    · exact .inr (weightsAll_mem h n hn)
theorem Fits.elem {t e : TypeId} {l r : List (DataW H)} {d : DataW H} (h : Fits P t (.slice l r)) (ht : P.underlying t = some (.slice e)) (hd : d ∈ l) : Fits P e d := by
  intro n hn
  refine h n ?_
  rw [DataW.weights, ht]
  simp only [List.mem_cons, List.mem_append]
  exact .inr (.inl (weightsAll_mem hd n hn))
theorem Fits.len {t e : TypeId} {l r : List (DataW H)} (h : Fits P t (.slice l r)) (ht : P.underlying t = some (.slice e)) : (l.length + r.length) * P.bytesOf e ≤ reachBytes := by
  refine h _ ?_
  rw [DataW.weights, ht]
  simp
theorem Fits.str {t : TypeId} {l : List UInt8} (h : Fits P t (.lit (.string l) : DataW H)) : l.length ≤ reachBytes := by
  refine h _ ?_
  simp [DataW.weights]

theorem open_row {t e : TypeId} {fuel : Nat} {cs : List Value} {x : DataW H × List MemPlace} (ht : P.underlying t = some (.slice e)) (hs : 0 < P.cellsOf e) (h : DataW.trod enc P w base spare held fuel t cs = some x) (hw : Fits P t x.1) :
    ∃ (A : Option Addr) (len cap n : Nat), cs = [.slice A len cap] ∧ n < fuel ∧ len ≤ cap ∧ cap ≤ maxLen ∧ len * P.bytesOf e ≤ reachBytes ∧ ∀ i, i < len → ∃ (b off : Nat) (cs' : List Value) (y : DataW H × List MemPlace), A = some ⟨b, off, none⟩ ∧ cs'.length = P.cellsOf e ∧
      (∀ j, j < P.cellsOf e → w.cell? ⟨b, off + i * P.cellsOf e + j, none⟩ = cs'[j]?) ∧ DataW.trod enc P w base spare held n e cs' = some y ∧ Fits P e y.1 := by
  have hfu : 0 < fuel := by
    rcases Nat.eq_zero_or_pos fuel with h0 | h0
    · subst h0; simp [DataW.trod] at h
    · exact h0
  rcases DataW.trod_slice ht h with ⟨rfl, rfl⟩ | ⟨a, len, cap, elems, rest, n, rfl, rfl, rfl, hb, hl, hm, hlen, hel, hsp, hns⟩
  · exact ⟨none, 0, 0, 0, rfl, hfu, Nat.le_refl _, Nat.zero_le _, by simp, fun i hi => by omega⟩
  · refine ⟨some a, len, cap, n, rfl, by omega, hl, hm, ?_, fun i hi => ?_⟩
    · have := hw.len ht
      simp only [List.length_map, hlen] at this
      refine Nat.le_trans (Nat.mul_le_mul_right _ (Nat.le_add_right _ _)) this
    · have h1 := hel i hi
      rw [List.getElem?_eq_getElem (by omega)] at h1
      obtain ⟨cs', hc, ht'⟩ := Option.bind_eq_some_iff.1 h1
      obtain ⟨_, hcl, hat⟩ := World.cells?_some hc
      obtain ⟨b, off, spot⟩ := a
      have hsp0 : spot = none := by
        have g1 := hel 0 (by omega)
        rw [List.getElem?_eq_getElem (by omega)] at g1
        obtain ⟨ds', gc, _⟩ := Option.bind_eq_some_iff.1 g1
        obtain ⟨_, gcl, gat⟩ := World.cells?_some gc
        have h0 := gat 0 hs
        rw [List.getElem?_eq_getElem (by omega)] at h0
        have := World.cell?_spot h0
        simpa [Addr.add] using this
      subst hsp0
      have hadd : ∀ j, Addr.add ⟨b, off, none⟩ j = ⟨b, off + j, none⟩ := fun j => by unfold Addr.add; split <;> simp_all
      refine ⟨b, off, cs', elems[i], rfl, hcl, fun j hj => ?_, ht', hw.elem ht (by simp only [List.mem_map]; exact ⟨_, List.getElem_mem _, rfl⟩)⟩
      rw [← hat j hj, Go.Deep.add_add, hadd, Nat.add_assoc]
theorem open_strct {t : TypeId} {fs : Array Field} {fuel : Nat} {cs : List Value} {x : DataW H × List MemPlace} (ht : P.underlying t = some (.struct fs)) (h : DataW.trod enc P w base spare held fuel t cs = some x) (hw : Fits P t x.1) :
    ∃ n, n < fuel ∧ cs.length = P.cellsOf t ∧ ∀ (i : Nat) (f : Field), fs[i]? = some f → ∃ y : DataW H × List MemPlace, DataW.trod enc P w base spare held n f.type ((cs.drop f.offset).take (P.cellsOf f.type)) = some y ∧ Fits P f.type y.1 := by
  obtain ⟨xs, n, rfl, rfl, hl, hlen, hf⟩ := DataW.trod_struct ht h
  refine ⟨n, by omega, hl, fun i f hi => ?_⟩
  have hlt : i < xs.length := by rw [hlen]; exact (Array.getElem?_eq_some_iff.1 hi).1
  have h1 := hf i f hi
  rw [List.getElem?_eq_getElem hlt] at h1
  exact ⟨_, h1, hw.part ht hi (by simp [hlt])⟩
theorem open_int_at {t : TypeId} {k : IntKind} {fuel : Nat} {cs : List Value} {x : DataW H × List MemPlace} (ht : P.underlying t = some (.int k)) (h : DataW.trod enc P w base spare held fuel t cs = some x) : ∃ n, cs = [.int k n] ∧ (Lit.int k n).wf = true := by
  obtain ⟨n, e, _, hw⟩ := DataW.trod_int ht h
  exact ⟨n, e, hw⟩
theorem open_str_at {t : TypeId} {fuel : Nat} {cs : List Value} {x : DataW H × List MemPlace} (ht : P.underlying t = some .string) (h : DataW.trod enc P w base spare held fuel t cs = some x) (hw : Fits P t x.1) : ∃ s : ByteArray, cs = [.string s] ∧ s.size ≤ 140737488351232 := by
  obtain ⟨s, e, rfl, _⟩ := DataW.trod_string ht h
  have := hw.str
  exact ⟨s, e, by have e1 : s.data.toList.length = s.size := Array.length_toList; unfold reachBytes at this; omega⟩
end
end Go.Proofs.YtheiogafjinihaaDoor

namespace Go.Proofs.YtheiogafjinihaaDoor
open Go Go.ChangeShapes Go.WideShapes Go.ChangeAt Go.RowKit Go.Deep

theorem i64_of {n : Int} (h : (Lit.int .i64 n).wf = true) : -9223372036854775808 ≤ n ∧ n ≤ 9223372036854775807 := by
  simp only [Lit.wf, Bool.and_eq_true, decide_eq_true_eq] at h
  have e1 : IntKind.i64.min = -9223372036854775808 := by decide
  have e2 : IntKind.i64.max = 9223372036854775807 := by decide
  rw [e1, e2] at h
  exact h
theorem len2 {α : Type} {l : List α} (h : l.length = 2) : ∃ a b, l = [a, b] := by
  match l, h with
  | [a, b], _ => exact ⟨a, b, rfl⟩
theorem len4 {α : Type} {l : List α} (h : l.length = 4) : ∃ a b c d, l = [a, b, c, d] := by
  match l, h with
  | [a, b, c, d], _ => exact ⟨a, b, c, d, rfl⟩
section
variable {H : Type} {enc : TypeId × Value → H} {W : World}
abbrev Trd (enc : TypeId × Value → H) (W : World) (fuel : Nat) (t : TypeId) (cs : List Value) (x : DataW H × List MemPlace) : Prop := DataW.trod enc Tryd.prog W 0 (fun _ => true) true fuel t cs = some x
theorem len6 {α : Type} {l : List α} (h : l.length = 6) : ∃ a b c d e f, l = [a, b, c, d, e, f] := by
  match l, h with
  | [a, b, c, d, e, f], _ => exact ⟨a, b, c, d, e, f, rfl⟩
theorem fine_str {s : ByteArray} (h : s.size ≤ 140737488351232) : s.data.toList.length ≤ 140737488355328 := by
  have e1 : s.data.toList.length = s.size := Array.length_toList
  omega
theorem open_steps {fuel : Nat} {cs : List Value} {x : DataW H × List MemPlace} (h : Trd enc W fuel 35 cs x) (hw : Fits Tryd.prog 35 x.1) :
    ∃ (A : Option Addr) (c : Nat) (l : List Stp), cs = [.slice A l.length c] ∧ l.length ≤ maxLen ∧ StepsAt W A l ∧ (∀ y ∈ l, Fine y) ∧ l.length ≤ c ∧ c ≤ maxLen ∧ l.length * 64 ≤ reachBytes := by
  obtain ⟨A, len, cap, n, rfl, _, hl, hm, hrb, hi⟩ := open_row Tryd.underlying35 (by rw [show Tryd.prog.cellsOf 49 = 6 by kernel_rfl]; omega) h hw
  rw [show Tryd.prog.cellsOf 49 = 6 by kernel_rfl] at hi
  rw [show Tryd.prog.bytesOf 49 = 64 by kernel_rfl] at hrb
  obtain ⟨l, hlen, hR⟩ := list_of len (fun i (x : Stp) => (∃ b off, A = some ⟨b, off, none⟩ ∧ W.cell? ⟨b, off + i * 6, none⟩ = some (.int .i64 x.kind) ∧ W.cell? ⟨b, off + i * 6 + 1, none⟩ = some (.int .i64 x.n) ∧ W.cell? ⟨b, off + i * 6 + 2, none⟩ = some (.string ⟨x.party.toArray⟩) ∧ W.cell? ⟨b, off + i * 6 + 3, none⟩ = some (.int .i64 x.akind) ∧ W.cell? ⟨b, off + i * 6 + 4, none⟩ = some (.int .i64 x.an) ∧ W.cell? ⟨b, off + i * 6 + 5, none⟩ = some (.string ⟨x.deal.toArray⟩)) ∧ Fine x) (fun i hin => by
    obtain ⟨b, off, cs', y, hA, hcl, hc, ht, hf⟩ := hi i hin
    obtain ⟨m, _, _, hfd⟩ := open_strct Tryd.underlying49 ht hf
    obtain ⟨y0, t0, f0⟩ := hfd 0 _ rfl
    obtain ⟨y1, t1, f1⟩ := hfd 1 _ rfl
    obtain ⟨y2, t2, f2⟩ := hfd 2 _ rfl
    obtain ⟨y3, t3, f3⟩ := hfd 3 _ rfl
    obtain ⟨k0, e0, _⟩ := open_int_at Tryd.underlying3 t0
    obtain ⟨k1, e1, g1⟩ := open_int_at Tryd.underlying3 t1
    obtain ⟨s2, e2, g2⟩ := open_str_at Tryd.underlying9 t2 f2
    obtain ⟨m', _, _, hfd'⟩ := open_strct Tryd.underlying47 t3 f3
    obtain ⟨z0, u0, v0⟩ := hfd' 0 _ rfl
    obtain ⟨z1, u1, v1⟩ := hfd' 1 _ rfl
    obtain ⟨z2, u2, v2⟩ := hfd' 2 _ rfl
    obtain ⟨k3, e3, _⟩ := open_int_at Tryd.underlying3 u0
    obtain ⟨k4, e4, g4⟩ := open_int_at Tryd.underlying3 u1
    obtain ⟨s5, e5, g5⟩ := open_str_at Tryd.underlying9 u2 v2
    obtain ⟨a0, a1, a2, a3, a4, a5, rfl⟩ := len6 hcl
    simp [show Tryd.prog.cellsOf 9 = 1 by kernel_rfl, show Tryd.prog.cellsOf 3 = 1 by kernel_rfl, show Tryd.prog.cellsOf 47 = 3 by kernel_rfl] at e0 e1 e2 e3 e4 e5
    subst e0 e1 e2 e3 e4 e5
    exact ⟨⟨k0, k1, s2.data.toList, k3, k4, s5.data.toList⟩, ⟨b, off, hA, hc 0 (by omega), hc 1 (by omega), hc 2 (by omega), hc 3 (by omega), hc 4 (by omega), hc 5 (by omega)⟩, ⟨fine_str g2, fine_str g5, (i64_of g1).1, (i64_of g1).2, (i64_of g4).1, (i64_of g4).2⟩⟩)
  subst hlen
  refine ⟨A, cap, l, rfl, Nat.le_trans hl hm, fun k f hk => (hR k f hk).1, fun f hf => ?_, hl, hm, hrb⟩
  obtain ⟨k, hk⟩ := List.mem_iff_getElem?.1 hf
  exact (hR k f hk).2
theorem fits_of {P : Program} {ts : List TypeId} {l : List (DataW H)} (hz : (DataW.weightsEach P ts l).all (· ≤ reachBytes) = true) {j : Nat} {t : TypeId} {d : DataW H} (ht : ts[j]? = some t) (hd : l[j]? = some d) : Fits P t d := fun n hn => by
  have := List.all_eq_true.1 hz n (DataW.weights_mem_each ht hd n hn)
  simpa using this
abbrev TrdV (enc : TypeId × Value → H) (W : World) (t : TypeId) (v : Value) (d : DataW H) (p : List MemPlace) : Prop := DataW.Trod enc Tryd.prog W 0 (fun _ => true) true t v d p
variable {base : Nat}
set_option maxRecDepth 100000 in
theorem arg_str {v : Value} {d : DataW H} {p : List MemPlace} (hv : Value.okWide Tryd.prog W .any base 9 v) (h : TrdV enc W 9 v d p) (hf : Fits Tryd.prog 9 d) :
    ∃ s : List UInt8, v = .string ⟨s.toArray⟩ ∧ s.length ≤ 140737488355328 := by
  obtain ⟨s, rfl⟩ := okWide_string Tryd.underlying9 hv
  obtain ⟨fuel, h⟩ := h
  obtain ⟨s', e, hs⟩ := open_str_at Tryd.underlying9 h hf
  simp [Value.cells] at e
  subst e
  exact ⟨s.data.toList, rfl, fine_str hs⟩
set_option maxRecDepth 100000 in
theorem arg_steps {v : Value} {d : DataW H} {p : List MemPlace} (hv : Value.okWide Tryd.prog W .any base 35 v) (h : TrdV enc W 35 v d p) (hf : Fits Tryd.prog 35 d) :
    ∃ (A : Option Addr) (c : Nat) (l : List Stp), v = .slice A l.length c ∧ l.length ≤ maxLen ∧ StepsAt W A l ∧ (∀ y ∈ l, Fine y) ∧ l.length ≤ c ∧ c ≤ maxLen ∧ l.length * 64 ≤ reachBytes := by
  obtain ⟨A, n, c, rfl⟩ := okWide_slice Tryd.underlying35 hv
  obtain ⟨fuel, h⟩ := h
  obtain ⟨A', c', l, e, h1, h2, h3, h4, h5, h6⟩ := open_steps h hf
  simp [Value.cells] at e
  obtain ⟨rfl, rfl, rfl⟩ := e
  exact ⟨A, c, l, rfl, h1, h2, h3, h4, h5, h6⟩
end
end Go.Proofs.YtheiogafjinihaaDoor

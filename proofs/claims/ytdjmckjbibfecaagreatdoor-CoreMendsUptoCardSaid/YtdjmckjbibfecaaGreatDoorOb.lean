/- Papers, rules, needs and credits, opened. -/
import Derived.Test.YtdjmckjbibfecaaGreatDoorCards
import Derived.Test.YtdjmckjbibfecaaGreatDoorTie
import Derived.ProofKit
import Derived.OpenShut
import Derived.ShutString
import Derived.ChangeOld
import Derived.Deep.Slices
import Derived.Deep.Fields
import Derived.ChangeSame
import Derived.Lib.SmallJoins
import Derived.Deep.DeepHandedRow
import Derived.Lib.LaidTab
import Derived.Stop.LaidErr
import Derived.LaidSub
import Derived.MakeChecks
import Derived.SizedLaws
import Derived.Test.YtdjmckjbibfecaaGreatDoorCe
import Derived.Test.YtdjmckjbibfecaaGreatDoorIc
namespace Go.Proofs.YtdjmckjbibfecaaGreatDoor
open Go Go.ChangeShapes Go.WideShapes Go.ChangeAt Go.RowKit Go.Deep

theorem own : ownKnob Tryz.prog.godebug = none := by kernel_rfl
theorem laidOut : laidOutB Tryz.prog = true := by kernel_rfl
theorem strtab {P : Program} {W : World} {name : String} {rest : List (String × DataW Unit)} {g : Nat} {t e : TypeId} {n : Nat} (ss : List (List UInt8))
    (hg : P.globalNamed name = some g) (hty : (P.globals[g]?).map (·.type) = some t) (ht : P.underlying t = some (.array n e)) (he : P.underlying e = some .string) (hce : P.cellsOf e = 1) (hss : ss.length = n)
    (h : laidMet P ((name, .agg (ss.map fun s => .lit (.string s))) :: rest) W) : ∀ r, r < n → W.cell? ⟨g, r, none⟩ = some (.string ((⟨(ss.getD r []).toArray⟩ : ByteArray))) := by
  intro r hr
  obtain ⟨ps, ⟨g', t', cs, fuel, p, q, hg', ht', hv, hd, _, _⟩, _, _⟩ := h
  obtain rfl := Option.some.inj (hg.symm.trans hg')
  obtain rfl := Option.some.inj (hty.symm.trans ht')
  obtain ⟨xs, m, _, ex, _, hl, hel⟩ := DataW.trod_array ht hd
  have hE := hel r hr
  rw [hce, Nat.mul_one, List.getElem?_eq_getElem (by omega)] at hE
  obtain ⟨z, e1, e2, _⟩ := DataW.trod_string he hE
  have e3 : (xs.map (·.1)) = ss.map fun s => .lit (.string s) := (DataW.agg.inj (Prod.mk.inj ex).1).symm
  have e4 : (xs.map (·.1))[r]? = (ss.map fun s => (DataW.lit (.string s) : DataW Unit))[r]? := by rw [e3]
  rw [List.getElem?_map, List.getElem?_map, List.getElem?_eq_getElem (by omega : r < xs.length), List.getElem?_eq_getElem (by omega : r < ss.length), e2] at e4
  have hz : z = (⟨(ss.getD r []).toArray⟩ : ByteArray) := by
    simp only [Option.map_some, Option.some.injEq, DataW.lit.injEq, Lit.string.injEq] at e4
    rw [List.getD, List.getElem?_eq_getElem (by omega : r < ss.length)]
    apply ByteArray.ext
    simp only [Option.getD_some]
    rw [← e4]
  rw [World.var?_cell hg hv r, ← hz]
  have : cs.toList[r]? = some (.string z) := by
    have h0 : ((cs.toList.drop r).take 1)[0]? = some (.string z) := by rw [e1]; rfl
    simpa using h0
  simpa using this
section
variable {H : Type} {enc : TypeId × Value → H} {P : Program} {w : World} {base : Nat} {spare : Nat → Bool} {held : Bool}
theorem open_slice_fields {t e : TypeId} {fs : Array Field} {fuel : Nat} {cs : List Value} {x : DataW H × List MemPlace} (ht : P.underlying t = some (.slice e)) (he : P.underlying e = some (.struct fs))
    (hone : oneCellFields P fs = true) (hC : P.cellsOf e = fs.size) (h : DataW.trod enc P w base spare held fuel t cs = some x) :
    (cs = [.slice none 0 0] ∧ x = (.nil, [])) ∨
    ∃ (a : Addr) (len cap m : Nat) (D : Nat → DataW H) (Pl : Nat → List MemPlace), cs = [.slice (some a) len cap] ∧ base ≤ a.block ∧ len ≤ cap ∧ cap ≤ maxLen ∧ m = (if spare a.block then cap else len) ∧
      x = (.slice ((List.range len).map D) ((List.range (m - len)).map fun j => D (len + j)), MemPlace.row a (m * fs.size) ++ (List.range m).flatMap Pl) ∧
      ∀ i, i < m → ∃ (ys : List (DataW H × List MemPlace)) (n : Nat), D i = .agg (ys.map (·.1)) ∧ Pl i = ys.flatMap (·.2) ∧ ys.length = fs.size ∧
        ∀ (j : Nat) (f : Field), fs[j]? = some f → ∃ (v : Value) (y : DataW H × List MemPlace), w.cell? (a.add (i * fs.size + j)) = some v ∧ ys[j]? = some y ∧ DataW.trod enc P w base spare held n f.type [v] = some y := by
  rcases open_slice ht h with h0 | ⟨a, len, cap, m, n, D, Pl, hcs, hb, hl, hm, hmm, hx, hi⟩
  · exact .inl h0
  · refine .inr ⟨a, len, cap, m, D, Pl, hcs, hb, hl, hm, hmm, by rw [hC] at hx; exact hx, fun i him => ?_⟩
    obtain ⟨cs', hc, ht'⟩ := hi i him
    rw [hC] at hc
    obtain ⟨ys, n', hn', hy, hlen, hyl, hf⟩ := DataW.trod_struct he ht'
    obtain ⟨_, hcl, hat⟩ := World.cells?_some hc
    simp only [Prod.mk.injEq] at hy
    refine ⟨ys, n', hy.1, hy.2, hyl, fun j f hj => ?_⟩
    obtain ⟨ho, hk⟩ := hone_of hone j f hj
    have hjl : j < fs.size := (Array.getElem?_eq_some_iff.1 hj).1
    have hcell := hat j hjl
    have hv : cs'[j]? = some (cs'[j]'(by omega)) := List.getElem?_eq_getElem (by omega)
    have h1 := hf j f hj
    rw [ho, hk] at h1
    have hone' : (cs'.drop j).take 1 = [cs'[j]'(by omega)] := by
      rw [List.drop_eq_getElem_cons (by omega)]
      rfl
    rw [hone'] at h1
    have hys : ys[j]? = some (ys[j]'(by omega)) := List.getElem?_eq_getElem (by omega)
    refine ⟨_, _, ?_, hys, h1.trans hys⟩
    rw [← Go.Deep.add_add, hcell, hv]
end


theorem list_of {α : Type} (n : Nat) (R : Nat → α → Prop) (h : ∀ i, i < n → ∃ x, R i x) : ∃ l : List α, l.length = n ∧ ∀ i x, l[i]? = some x → R i x := by
  induction n with
  | zero => exact ⟨[], rfl, by simp⟩
  | succ n ih =>
    obtain ⟨l, hl, hR⟩ := ih fun i hi => h i (by omega)
    obtain ⟨x, hx⟩ := h n (by omega)
    refine ⟨l ++ [x], by simp [hl], fun i y hy => ?_⟩
    by_cases hi : i < n
    · rw [List.getElem?_append_left (by omega)] at hy; exact hR i y hy
    · have : i = n := by
        have := (List.getElem?_eq_some_iff.1 hy).1
        simp [hl] at this; omega
      subst this
      rw [List.getElem?_append_right (by omega)] at hy
      simp [hl] at hy; subst hy; exact hx

theorem ifacevar {P : Program} {W : World} {name nm : String} {d : DataW Unit} {rest : List (String × DataW Unit)} {g : Nat} {t : TypeId} {ms : Array (String × TypeId)}
    (hg : P.globalNamed name = some g) (hty : (P.globals[g]?).map (·.type) = some t) (ht : P.underlying t = some (.interface ms))
    (h : laidMet P ((name, .iface nm d) :: rest) W) : ∃ te pe, W.cell? ⟨g, 0, none⟩ = some (.iface te pe) := by
  obtain ⟨ps, ⟨g', t', cs, fuel, p, q, hg', ht', hv, hd, _, _⟩, _, _⟩ := h
  obtain rfl := Option.some.inj (hg.symm.trans hg')
  obtain rfl := Option.some.inj (hty.symm.trans ht')
  obtain ⟨l⟩ := cs
  rw [World.var?_cell hg hv 0]
  cases fuel with
  | zero => simp [DataW.trod] at hd
  | succ n =>
    rcases l with _ | ⟨E, _ | ⟨E', r⟩⟩
    · simp [DataW.trod, ht] at hd
    · cases E <;> simp [DataW.trod, ht] at hd
      exact ⟨_, _, rfl⟩
    · cases E <;> simp [DataW.trod, ht] at hd

theorem gTab : Tryz.prog.globalNamed "internal/strconv.uint64pow10" = some 8 := by kernel_rfl
theorem gTabType : (Tryz.prog.globals[8]?).map (·.type) = some 244 := by kernel_rfl
theorem cellsTab : Tryz.prog.cellsOf 244 = 20 := by kernel_rfl
theorem cellsU64 : Tryz.prog.cellsOf 132 = 1 := by kernel_rfl
theorem env_of {W : World} {L : List (String × DataW Unit)} (hl : (L.filter (fun x => x.1 == "internal/strconv.uint64pow10") = [("internal/strconv.uint64pow10", Lib.tabData .u64 Lib.pow10Tab)]) ∧ (L.filter (fun x => x.1 == "strconv.ErrSyntax") = [("strconv.ErrSyntax", Rows.laid_strconv_ErrSyntax)]) ∧ (L.filter (fun x => x.1 == "strconv.ErrRange") = [("strconv.ErrRange", Rows.laid_strconv_ErrRange)])) (h : laidMetH Tryz.prog L W) (hs : W.ShapedOpen Tryz.prog) : Env W := by
  obtain ⟨l1, l2, l3⟩ := hl
  refine ⟨?_, ?_, ?_, ?_, ?_⟩
  · have h1 := laidMetH.filter (fun x => x.1 == "internal/strconv.uint64pow10") h
    rw [l1] at h1
    exact Lib.tabIs_of_head (rest := []) gTab gTabType Tryz.underlying244 Tryz.underlying132 cellsU64 cellsTab h1
  · exact Go.Proofs.cell_of_shapedOpen_int (zero := #[.int .i64 0]) (t := 3) hs (of_decide_eq_true (by kernel_rfl)) (by kernel_rfl) rfl (by kernel_rfl) (by kernel_rfl) Tryz.underlying3
  · have h1 := laidMetH.filter (fun x => x.1 == "strconv.ErrSyntax") h
    rw [l2, MakeChecks.laidMetH_plain _ _ _ (by kernel_rfl)] at h1
    exact ifacevar (t := 117) (by kernel_rfl) (by kernel_rfl) Tryz.underlying117 h1
  · have h1 := laidMetH.filter (fun x => x.1 == "strconv.ErrRange") h
    rw [l3, MakeChecks.laidMetH_plain _ _ _ (by kernel_rfl)] at h1
    exact ifacevar (t := 117) (by kernel_rfl) (by kernel_rfl) Tryz.underlying117 h1
  · have h0 : (((begin Tryz.prog (fun _ _ => 0) default).world.heap[11]?).bind Obj.row?).isSome = true := by kernel_rfl
    obtain ⟨⟨zero, t⟩, hz⟩ := Option.isSome_iff_exists.1 h0
    obtain ⟨cs, hh, _⟩ := hs.1 11 zero t (of_decide_eq_true (by kernel_rfl)) hz
    rcases Nat.lt_or_ge 11 W.heap.size with h | h
    · omega
    · rw [Array.getElem?_eq_none h] at hh; simp at hh
end Go.Proofs.YtdjmckjbibfecaaGreatDoor
namespace Go.Proofs.YtdjmckjbibfecaaGreatDoor
open Go Go.ChangeShapes Go.WideShapes Go.ChangeAt Go.RowKit Go.Deep

section
variable {H : Type} {enc : TypeId × Value → H} {P : Program} {w : World} {base : Nat} {spare : Nat → Bool} {held : Bool}
/-- No part is longer than memory. -/
def Fits (P : Program) (t : TypeId) (d : DataW H) : Prop := ∀ n ∈ d.weights P t, n ≤ reachBytes
theorem Fits.part {t : TypeId} {fs : Array Field} {parts : List (DataW H)} {i : Nat} {f : Field} {d : DataW H} (h : Fits P t (.agg parts)) (ht : P.underlying t = some (.struct fs)) (hf : fs[i]? = some f) (hd : parts[i]? = some d) : Fits P f.type d := by
  intro n hn
  refine h n ?_
  rw [DataW.weights, ht]
  exact DataW.weights_mem_each (j := i) (by simp [hf]) hd n hn
theorem weightsAll_mem {e : TypeId} : ∀ {l : List (DataW H)} {d : DataW H}, d ∈ l → ∀ n ∈ d.weights P e, n ∈ DataW.weightsAll P e l
  | [], _, h, _, _ => by cases h
  | x :: l, d, h, n, hn => by
    simp only [DataW.weightsAll, List.mem_append]
    rcases List.mem_cons.1 h with rfl | h
    · exact .inl hn
    · exact .inr (weightsAll_mem h n hn)
theorem Fits.elem {t e : TypeId} {l r : List (DataW H)} {d : DataW H} (h : Fits P t (.slice l r)) (ht : P.underlying t = some (.slice e)) (hd : d ∈ l) : Fits P e d := by
  intro n hn
  refine h n ?_
  rw [DataW.weights, ht]
  simp only [List.mem_cons, List.mem_append]
  exact .inr (.inl (weightsAll_mem hd n hn))
theorem Fits.len {t e : TypeId} {l r : List (DataW H)} (h : Fits P t (.slice l r)) (ht : P.underlying t = some (.slice e)) : (l.length + r.length) * P.bytesOf e ≤ reachBytes := by
  refine h _ ?_
  rw [DataW.weights, ht]
  simp
theorem Fits.str {t : TypeId} {l : List UInt8} (h : Fits P t (.lit (.string l) : DataW H)) : l.length ≤ reachBytes := by
  refine h _ ?_
  simp [DataW.weights]

theorem open_row {t e : TypeId} {fuel : Nat} {cs : List Value} {x : DataW H × List MemPlace} (ht : P.underlying t = some (.slice e)) (hs : 0 < P.cellsOf e) (h : DataW.trod enc P w base spare held fuel t cs = some x) (hw : Fits P t x.1) :
    ∃ (A : Option Addr) (len cap n : Nat), cs = [.slice A len cap] ∧ n < fuel ∧ len ≤ cap ∧ cap ≤ maxLen ∧ len * P.bytesOf e ≤ reachBytes ∧ ∀ i, i < len → ∃ (b off : Nat) (cs' : List Value) (y : DataW H × List MemPlace), A = some ⟨b, off, none⟩ ∧ cs'.length = P.cellsOf e ∧
      (∀ j, j < P.cellsOf e → w.cell? ⟨b, off + i * P.cellsOf e + j, none⟩ = cs'[j]?) ∧ DataW.trod enc P w base spare held n e cs' = some y ∧ Fits P e y.1 := by
  have hfu : 0 < fuel := by
    rcases Nat.eq_zero_or_pos fuel with h0 | h0
    · subst h0; simp [DataW.trod] at h
    · exact h0
  rcases DataW.trod_slice ht h with ⟨rfl, rfl⟩ | ⟨a, len, cap, elems, rest, n, rfl, rfl, rfl, hb, hl, hm, hlen, hel, hsp, hns⟩
  · exact ⟨none, 0, 0, 0, rfl, hfu, Nat.le_refl _, Nat.zero_le _, by simp, fun i hi => by omega⟩
  · refine ⟨some a, len, cap, n, rfl, by omega, hl, hm, ?_, fun i hi => ?_⟩
    · have := hw.len ht
      simp only [List.length_map, hlen] at this
      refine Nat.le_trans (Nat.mul_le_mul_right _ (Nat.le_add_right _ _)) this
    · have h1 := hel i hi
      rw [List.getElem?_eq_getElem (by omega)] at h1
      obtain ⟨cs', hc, ht'⟩ := Option.bind_eq_some_iff.1 h1
      obtain ⟨_, hcl, hat⟩ := World.cells?_some hc
      obtain ⟨b, off, spot⟩ := a
      have hsp0 : spot = none := by
        have g1 := hel 0 (by omega)
        rw [List.getElem?_eq_getElem (by omega)] at g1
        obtain ⟨ds', gc, _⟩ := Option.bind_eq_some_iff.1 g1
        obtain ⟨_, gcl, gat⟩ := World.cells?_some gc
        have h0 := gat 0 hs
        rw [List.getElem?_eq_getElem (by omega)] at h0
        have := World.cell?_spot h0
        simpa [Addr.add] using this
      subst hsp0
      have hadd : ∀ j, Addr.add ⟨b, off, none⟩ j = ⟨b, off + j, none⟩ := fun j => by unfold Addr.add; split <;> simp_all
      refine ⟨b, off, cs', elems[i], rfl, hcl, fun j hj => ?_, ht', hw.elem ht (by simp only [List.mem_map]; exact ⟨_, List.getElem_mem _, rfl⟩)⟩
      rw [← hat j hj, Go.Deep.add_add, hadd, Nat.add_assoc]
theorem open_strct {t : TypeId} {fs : Array Field} {fuel : Nat} {cs : List Value} {x : DataW H × List MemPlace} (ht : P.underlying t = some (.struct fs)) (h : DataW.trod enc P w base spare held fuel t cs = some x) (hw : Fits P t x.1) :
    ∃ n, n < fuel ∧ cs.length = P.cellsOf t ∧ ∀ (i : Nat) (f : Field), fs[i]? = some f → ∃ y : DataW H × List MemPlace, DataW.trod enc P w base spare held n f.type ((cs.drop f.offset).take (P.cellsOf f.type)) = some y ∧ Fits P f.type y.1 := by
  obtain ⟨xs, n, rfl, rfl, hl, hlen, hf⟩ := DataW.trod_struct ht h
  refine ⟨n, by omega, hl, fun i f hi => ?_⟩
  have hlt : i < xs.length := by rw [hlen]; exact (Array.getElem?_eq_some_iff.1 hi).1
  have h1 := hf i f hi
  rw [List.getElem?_eq_getElem hlt] at h1
  exact ⟨_, h1, hw.part ht hi (by simp [hlt])⟩
theorem open_int_at {t : TypeId} {k : IntKind} {fuel : Nat} {cs : List Value} {x : DataW H × List MemPlace} (ht : P.underlying t = some (.int k)) (h : DataW.trod enc P w base spare held fuel t cs = some x) : ∃ n, cs = [.int k n] ∧ (Lit.int k n).wf = true := by
  obtain ⟨n, e, _, hw⟩ := DataW.trod_int ht h
  exact ⟨n, e, hw⟩
theorem open_str_at {t : TypeId} {fuel : Nat} {cs : List Value} {x : DataW H × List MemPlace} (ht : P.underlying t = some .string) (h : DataW.trod enc P w base spare held fuel t cs = some x) (hw : Fits P t x.1) : ∃ s : ByteArray, cs = [.string s] ∧ s.size ≤ 140737488351232 := by
  obtain ⟨s, e, rfl, _⟩ := DataW.trod_string ht h
  have := hw.str
  exact ⟨s, e, by have e1 : s.data.toList.length = s.size := Array.length_toList; unfold reachBytes at this; omega⟩
end
end Go.Proofs.YtdjmckjbibfecaaGreatDoor
namespace Go.Proofs.YtdjmckjbibfecaaGreatDoor
open Go Go.ChangeShapes Go.WideShapes Go.ChangeAt Go.RowKit Go.Deep

theorem i64_of {n : Int} (h : (Lit.int .i64 n).wf = true) : -9223372036854775808 ≤ n ∧ n ≤ 9223372036854775807 := by
  simp only [Lit.wf, Bool.and_eq_true, decide_eq_true_eq] at h
  have e1 : IntKind.i64.min = -9223372036854775808 := by decide
  have e2 : IntKind.i64.max = 9223372036854775807 := by decide
  rw [e1, e2] at h
  exact h
theorem len2 {α : Type} {l : List α} (h : l.length = 2) : ∃ a b, l = [a, b] := by
  match l, h with
  | [a, b], _ => exact ⟨a, b, rfl⟩
theorem len4 {α : Type} {l : List α} (h : l.length = 4) : ∃ a b c d, l = [a, b, c, d] := by
  match l, h with
  | [a, b, c, d], _ => exact ⟨a, b, c, d, rfl⟩
theorem len6 {α : Type} {l : List α} (h : l.length = 6) : ∃ a b c d e f, l = [a, b, c, d, e, f] := by
  match l, h with
  | [a, b, c, d, e, f], _ => exact ⟨a, b, c, d, e, f, rfl⟩
theorem len8 {α : Type} {l : List α} (h : l.length = 8) : ∃ a b c d e f i j, l = [a, b, c, d, e, f, i, j] := by
  match l, h with
  | [a, b, c, d, e, f, i, j], _ => exact ⟨a, b, c, d, e, f, i, j, rfl⟩
section
variable {H : Type} {enc : TypeId × Value → H} {W : World}
abbrev Trd (enc : TypeId × Value → H) (W : World) (fuel : Nat) (t : TypeId) (cs : List Value) (x : DataW H × List MemPlace) : Prop := DataW.trod enc Tryz.prog W 0 (fun _ => true) true fuel t cs = some x
def reachF (f : Fld) : Prop := f.name.size ≤ 140737488351232 ∧ f.value.size ≤ 140737488351232

theorem open_flds {fuel : Nat} {cs : List Value} {x : DataW H × List MemPlace} (h : Trd enc W fuel 59 cs x) (hw : Fits Tryz.prog 59 x.1) :
    ∃ (A : Option Addr) (c : Nat) (l : List Fld), cs = [.slice A l.length c] ∧ l.length ≤ maxLen ∧ FieldsAt W A l ∧ ∀ f ∈ l, reachF f := by
  obtain ⟨A, len, cap, n, rfl, _, hl, hm, _, hi⟩ := open_row Tryz.underlying59 (by rw [show Tryz.prog.cellsOf 108 = 2 by kernel_rfl]; omega) h hw
  rw [show Tryz.prog.cellsOf 108 = 2 by kernel_rfl] at hi
  obtain ⟨l, hlen, hR⟩ := list_of len (fun i (f : Fld) => (∃ b off, A = some ⟨b, off, none⟩ ∧ W.cell? ⟨b, off + i * 2, none⟩ = some (.string f.name) ∧ W.cell? ⟨b, off + i * 2 + 1, none⟩ = some (.string f.value)) ∧ reachF f) (fun i hin => by
    obtain ⟨b, off, cs', y, hA, hcl, hc, ht, hf⟩ := hi i hin
    obtain ⟨m, _, _, hfd⟩ := open_strct Tryz.underlying108 ht hf
    obtain ⟨y0, t0, f0⟩ := hfd 0 _ rfl
    obtain ⟨y1, t1, f1⟩ := hfd 1 _ rfl
    obtain ⟨s0, e0, g0⟩ := open_str_at Tryz.underlying9 t0 f0
    obtain ⟨s1, e1, g1⟩ := open_str_at Tryz.underlying9 t1 f1
    obtain ⟨v0, v1, rfl⟩ := len2 hcl
    simp [show Tryz.prog.cellsOf 9 = 1 by kernel_rfl] at e0 e1
    subst e0 e1
    exact ⟨⟨s0, s1⟩, ⟨b, off, hA, hc 0 (by omega), hc 1 (by omega)⟩, g0, g1⟩)
  subst hlen
  refine ⟨A, cap, l, rfl, Nat.le_trans hl hm, fun k f hk => (hR k f hk).1, fun f hf => ?_⟩
  obtain ⟨k, hk⟩ := List.mem_iff_getElem?.1 hf
  exact (hR k f hk).2
theorem open_docs {fuel : Nat} {cs : List Value} {x : DataW H × List MemPlace} (h : Trd enc W fuel 25 cs x) (hw : Fits Tryz.prog 25 x.1) :
    ∃ (A : Option Addr) (c : Nat) (l : List Pap), cs = [.slice A l.length c] ∧ l.length ≤ maxLen ∧ DocsAt W A l ∧ LongD l := by
  obtain ⟨A, len, cap, n, rfl, _, hl, hm, _, hi⟩ := open_row Tryz.underlying25 (by rw [show Tryz.prog.cellsOf 61 = 4 by kernel_rfl]; omega) h hw
  rw [show Tryz.prog.cellsOf 61 = 4 by kernel_rfl] at hi
  obtain ⟨l, hlen, hR⟩ := list_of len (fun i (x : Pap) => (∃ b off, A = some ⟨b, off, none⟩ ∧ W.cell? ⟨b, off + i * 4, none⟩ = some (.int .i64 x.kind) ∧ W.cell? ⟨b, off + i * 4 + 1, none⟩ = some (.string x.number) ∧
    W.cell? ⟨b, off + i * 4 + 2, none⟩ = some (.string x.issuer) ∧ W.cell? ⟨b, off + i * 4 + 3, none⟩ = some (.slice x.fA x.fields.length x.fc) ∧ FieldsAt W x.fA x.fields ∧ x.fields.length ≤ maxLen ∧ (-9223372036854775808 ≤ x.kind ∧ x.kind ≤ 9223372036854775807)) ∧ ∀ f ∈ x.fields, reachF f) (fun i hin => by
    obtain ⟨b, off, cs', y, hA, hcl, hc, ht, hf⟩ := hi i hin
    obtain ⟨m, _, _, hfd⟩ := open_strct Tryz.underlying61 ht hf
    obtain ⟨y0, t0, f0⟩ := hfd 0 _ rfl
    obtain ⟨y1, t1, f1⟩ := hfd 1 _ rfl
    obtain ⟨y2, t2, f2⟩ := hfd 2 _ rfl
    obtain ⟨y3, t3, f3⟩ := hfd 3 _ rfl
    obtain ⟨k0, e0, g0⟩ := open_int_at Tryz.underlying3 t0
    obtain ⟨s1, e1, g1⟩ := open_str_at Tryz.underlying9 t1 f1
    obtain ⟨s2, e2, g2⟩ := open_str_at Tryz.underlying9 t2 f2
    obtain ⟨fA, fc, fl, e3, g3, g4, g5⟩ := open_flds t3 f3
    obtain ⟨v0, v1, v2, v3, rfl⟩ := len4 hcl
    simp [show Tryz.prog.cellsOf 9 = 1 by kernel_rfl, show Tryz.prog.cellsOf 3 = 1 by kernel_rfl, show Tryz.prog.cellsOf 59 = 1 by kernel_rfl] at e0 e1 e2 e3
    subst e0 e1 e2 e3
    exact ⟨⟨k0, s1, s2, fA, fc, fl⟩, ⟨b, off, hA, hc 0 (by omega), hc 1 (by omega), hc 2 (by omega), hc 3 (by omega), g4, g3, i64_of g0⟩, g5⟩)
  subst hlen
  refine ⟨A, cap, l, rfl, Nat.le_trans hl hm, fun k f hk => (hR k f hk).1, fun d hd f hf => ?_⟩
  obtain ⟨k, hk⟩ := List.mem_iff_getElem?.1 hd
  have := (hR k d hk).2 f hf
  unfold reachF at this
  omega
theorem rows_of {A : Option Addr} : ∀ (L : List Tree) (j : Nat), (∀ k t, L[k]? = some t → CellsAt W A (j + k) t ∧ TreeAt W t) → RowsAt W A j L
  | [], _, _ => by rw [RowsAt]; trivial
  | t :: L, j, h => by
    rw [RowsAt]
    have h0 := h 0 t rfl
    refine ⟨h0.1, h0.2, rows_of L (j + 1) fun k u hk => ?_⟩
    have := h (k + 1) u (by simpa using hk)
    rw [show j + 1 + k = j + (k + 1) by omega]
    exact this
theorem open_node : ∀ (fuel : Nat) (cs : List Value) (x : DataW H × List MemPlace), Trd enc W fuel 24 cs x → Fits Tryz.prog 24 x.1 → ∃ t : Tree, cs = t.cells.toList ∧ TreeAt W t ∧ LongT t := by
  intro fuel
  induction fuel using Nat.strongRecOn with
  | ind fuel ih =>
    intro cs x h hw
    obtain ⟨m, hm, hcl, hfd⟩ := open_strct Tryz.underlying24 h hw
    rw [show Tryz.prog.cellsOf 24 = 6 by kernel_rfl] at hcl
    obtain ⟨y0, t0, f0⟩ := hfd 0 _ rfl
    obtain ⟨y1, t1, f1⟩ := hfd 1 _ rfl
    obtain ⟨y2, t2, f2⟩ := hfd 2 _ rfl
    obtain ⟨y3, t3, f3⟩ := hfd 3 _ rfl
    obtain ⟨y4, t4, f4⟩ := hfd 4 _ rfl
    obtain ⟨y5, t5, f5⟩ := hfd 5 _ rfl
    obtain ⟨k0, e0, _⟩ := open_int_at Tryz.underlying3 t0
    obtain ⟨k1, e1, _⟩ := open_int_at Tryz.underlying3 t1
    obtain ⟨s2, e2, g2⟩ := open_str_at Tryz.underlying9 t2 f2
    obtain ⟨s3, e3, g3⟩ := open_str_at Tryz.underlying9 t3 f3
    obtain ⟨k4, e4, g4⟩ := open_int_at Tryz.underlying2 t4
    obtain ⟨A, len, cap, n, e5, hnm, hl, hmx, _, hi⟩ := open_row Tryz.underlying22 (by rw [show Tryz.prog.cellsOf 24 = 6 by kernel_rfl]; omega) t5 f5
    rw [show Tryz.prog.cellsOf 24 = 6 by kernel_rfl] at hi
    obtain ⟨L, hlen, hR⟩ := list_of len (fun i (t : Tree) => CellsAt W A i t ∧ TreeAt W t ∧ LongT t) (fun i hin => by
      obtain ⟨b, off, cs', y, hA, hcl, hc, ht, hf⟩ := hi i hin
      obtain ⟨t, rfl, hT, hL⟩ := ih n (by omega) cs' y ht hf
      obtain ⟨tk, tp, tf, tx, tn, tA, tc, tL⟩ := t
      exact ⟨.mk tk tp tf tx tn tA tc tL, ⟨b, off, hA, hc 0 (by omega), hc 1 (by omega), hc 2 (by omega), hc 3 (by omega), hc 4 (by omega), hc 5 (by omega)⟩, hT, hL⟩)
    subst hlen
    obtain ⟨v0, v1, v2, v3, v4, v5, rfl⟩ := len6 hcl
    simp [show Tryz.prog.cellsOf 9 = 1 by kernel_rfl, show Tryz.prog.cellsOf 3 = 1 by kernel_rfl, show Tryz.prog.cellsOf 2 = 1 by kernel_rfl, show Tryz.prog.cellsOf 22 = 1 by kernel_rfl] at e0 e1 e2 e3 e4 e5
    subst e0 e1 e2 e3 e4 e5
    refine ⟨.mk k0 k1 s2 s3 k4 A cap L, rfl, ?_, ?_⟩
    · rw [TreeAt]
      exact ⟨rows_of L 0 fun k t hk => by rw [Nat.zero_add]; exact ⟨(hR k t hk).1, (hR k t hk).2.1⟩, Nat.le_trans hl hmx⟩
    · unfold LongT
      rw [allT]
      refine ⟨⟨by show s2.size ≤ _; omega, by show s3.size ≤ _; omega, i64_of g4⟩, allL_of fun t ht => ?_⟩
      obtain ⟨k, hk⟩ := List.mem_iff_getElem?.1 ht
      exact (hR k t hk).2.2
theorem open_nds {fuel : Nat} {cs : List Value} {x : DataW H × List MemPlace} (h : Trd enc W fuel 44 cs x) (hw : Fits Tryz.prog 44 x.1) :
    ∃ (A : Option Addr) (c : Nat) (l : List Nd), cs = [.slice A l.length c] ∧ l.length ≤ maxLen ∧ NdsAt W A l := by
  obtain ⟨A, len, cap, n, rfl, _, hl, hm, _, hi⟩ := open_row Tryz.underlying44 (by rw [show Tryz.prog.cellsOf 71 = 8 by kernel_rfl]; omega) h hw
  rw [show Tryz.prog.cellsOf 71 = 8 by kernel_rfl] at hi
  obtain ⟨l, hlen, hR⟩ := list_of len (fun k (x : Nd) => (-9223372036854775808 ≤ x.kind ∧ x.kind ≤ 9223372036854775807) ∧ TreeAt W x.rule ∧ LongT x.rule ∧ ∃ b off, A = some ⟨b, off, none⟩ ∧ W.cell? ⟨b, off + k * 8, none⟩ = some (.int .i64 x.kind) ∧ W.cell? ⟨b, off + k * 8 + 1, none⟩ = some (.int .i64 x.count) ∧
    match x.rule with
    | .mk k' p f x n A' c L => W.cell? ⟨b, off + k * 8 + 2, none⟩ = some (.int .i64 k') ∧ W.cell? ⟨b, off + k * 8 + 2 + 1, none⟩ = some (.int .i64 p) ∧ W.cell? ⟨b, off + k * 8 + 2 + 2, none⟩ = some (.string f) ∧ W.cell? ⟨b, off + k * 8 + 2 + 3, none⟩ = some (.string x) ∧
      W.cell? ⟨b, off + k * 8 + 2 + 4, none⟩ = some (.int .i64 n) ∧ W.cell? ⟨b, off + k * 8 + 2 + 5, none⟩ = some (.slice A' L.length c)) (fun i hin => by
    obtain ⟨b, off, cs', y, hA, hcl, hc, ht, hf⟩ := hi i hin
    obtain ⟨m, _, _, hfd⟩ := open_strct Tryz.underlying71 ht hf
    obtain ⟨y0, t0, f0⟩ := hfd 0 _ rfl
    obtain ⟨y1, t1, f1⟩ := hfd 1 _ rfl
    obtain ⟨y2, t2, f2⟩ := hfd 2 _ rfl
    obtain ⟨k0, e0, g0⟩ := open_int_at Tryz.underlying3 t0
    obtain ⟨k1, e1, _⟩ := open_int_at Tryz.underlying3 t1
    obtain ⟨t, e2, hT, hL⟩ := open_node _ _ _ t2 f2
    obtain ⟨v0, v1, v2, v3, v4, v5, v6, v7, rfl⟩ := len8 hcl
    obtain ⟨tk, tp, tf, tx, tn, tA, tc, tL⟩ := t
    simp [Tree.cells, show Tryz.prog.cellsOf 24 = 6 by kernel_rfl, show Tryz.prog.cellsOf 3 = 1 by kernel_rfl] at e0 e1 e2
    obtain ⟨rfl, rfl, rfl, rfl, rfl, rfl⟩ := e2
    subst e0 e1
    exact ⟨⟨k0, k1, .mk tk tp tf tx tn tA tc tL⟩, i64_of g0, hT, hL, b, off, hA, hc 0 (by omega), hc 1 (by omega), hc 2 (by omega), hc 3 (by omega), hc 4 (by omega), hc 5 (by omega), hc 6 (by omega), hc 7 (by omega)⟩)
  subst hlen
  exact ⟨A, cap, l, rfl, Nat.le_trans hl hm, fun k f hk => hR k f hk⟩
end
end Go.Proofs.YtdjmckjbibfecaaGreatDoor

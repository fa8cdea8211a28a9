/- Arguments opened: rows and structs of any make, with the reach of memory; no program in sight. -/
import Derived.Test.YtdjmckjbibfecaaGreatDoorCards
import Derived.Test.YtdjmckjbibfecaaGreatDoorTie
import Derived.ProofKit
import Derived.OpenShut
import Derived.ShutString
import Derived.ChangeOld
import Derived.Deep.Slices
import Derived.Deep.Fields
import Derived.ChangeSame
import Derived.Lib.SmallJoins
import Derived.Deep.DeepHandedRow
import Derived.Lib.LaidTab
import Derived.Stop.LaidErr
import Derived.LaidSub
import Derived.MakeChecks
import Derived.SizedLaws
import Derived.Test.YtdjmckjbibfecaaGreatDoorCw
import Derived.Test.YtdjmckjbibfecaaGreatDoorDb
import Derived.Test.YtdjmckjbibfecaaGreatDoorGx
import Derived.Test.YtdjmckjbibfecaaGreatDoorVj
namespace Go.Proofs.YtdjmckjbibfecaaGreatDoor
open Go Go.RowKit Go.BigFrame Go.Maps

end Go.Proofs.YtdjmckjbibfecaaGreatDoor
namespace Go.Proofs.YtdjmckjbibfecaaGreatDoor
open Go Go.RowKit Go.BigFrame Go.Maps

end Go.Proofs.YtdjmckjbibfecaaGreatDoor
namespace Go.Proofs.YtdjmckjbibfecaaGreatDoor
open Go Go.RowKit Go.BigFrame Go.Maps

end Go.Proofs.YtdjmckjbibfecaaGreatDoor
namespace Go.Proofs.YtdjmckjbibfecaaGreatDoor
open Go Go.RowKit Go.BigFrame Go.Maps

end Go.Proofs.YtdjmckjbibfecaaGreatDoor
namespace Go.Proofs.YtdjmckjbibfecaaGreatDoor
open Go Go.RowKit Go.BigFrame Go.Maps

end Go.Proofs.YtdjmckjbibfecaaGreatDoor
namespace Go.Proofs.YtdjmckjbibfecaaGreatDoor
open Go Go.RowKit Go.BigFrame Go.Maps

theorem exam_len {c : Crd} {needs : List Nd} {docs : List Pap} {day : Int} (hF : FewParts needs) (hn : docs.length ≤ 13) : (examF c needs docs day).length ≤ 20000 := by
  have h1 := addAll_len (toldE c needs docs day) []
  have h2 := docs_len (c := c) (docs := docs) (day := day) hF docs.length
  have h3 := flat_le _ (lackF_le docs) needs
  have h4 : (expF c day).length ≤ 1 := by unfold expF; split <;> simp
  have h5 := hF.1
  unfold toldE at h1
  simp only [List.length_append, List.length_nil] at h1
  unfold examF toldE
  omega
end Go.Proofs.YtdjmckjbibfecaaGreatDoor
namespace Go.Proofs.YtdjmckjbibfecaaGreatDoor
open Go Go.ChangeShapes Go.WideShapes Go.ChangeAt Go.RowKit Go.Deep

theorem own : ownKnob Tryz.prog.godebug = none := by kernel_rfl
theorem laidOut : laidOutB Tryz.prog = true := by kernel_rfl
theorem strtab {P : Program} {W : World} {name : String} {rest : List (String × DataW Unit)} {g : Nat} {t e : TypeId} {n : Nat} (ss : List (List UInt8))
    (hg : P.globalNamed name = some g) (hty : (P.globals[g]?).map (·.type) = some t) (ht : P.underlying t = some (.array n e)) (he : P.underlying e = some .string) (hce : P.cellsOf e = 1) (hss : ss.length = n)
    (h : laidMet P ((name, .agg (ss.map fun s => .lit (.string s))) :: rest) W) : ∀ r, r < n → W.cell? ⟨g, r, none⟩ = some (.string ((⟨(ss.getD r []).toArray⟩ : ByteArray))) := by
  intro r hr
  obtain ⟨ps, ⟨g', t', cs, fuel, p, q, hg', ht', hv, hd, _, _⟩, _, _⟩ := h
  obtain rfl := Option.some.inj (hg.symm.trans hg')
  obtain rfl := Option.some.inj (hty.symm.trans ht')
  obtain ⟨xs, m, _, ex, _, hl, hel⟩ := DataW.trod_array ht hd
  have hE := hel r hr
  rw [hce, Nat.mul_one, List.getElem?_eq_getElem (by omega)] at hE
  obtain ⟨z, e1, e2, _⟩ := DataW.trod_string he hE
  have e3 : (xs.map (·.1)) = ss.map fun s => .lit (.string s) := (DataW.agg.inj (Prod.mk.inj ex).1).symm
  have e4 : (xs.map (·.1))[r]? = (ss.map fun s => (DataW.lit (.string s) : DataW Unit))[r]? := by rw [e3]
  rw [List.getElem?_map, List.getElem?_map, List.getElem?_eq_getElem (by omega : r < xs.length), List.getElem?_eq_getElem (by omega : r < ss.length), e2] at e4
  have hz : z = (⟨(ss.getD r []).toArray⟩ : ByteArray) := by
    simp only [Option.map_some, Option.some.injEq, DataW.lit.injEq, Lit.string.injEq] at e4
    rw [List.getD, List.getElem?_eq_getElem (by omega : r < ss.length)]
    apply ByteArray.ext
    simp only [Option.getD_some]
    rw [← e4]
  rw [World.var?_cell hg hv r, ← hz]
  have : cs.toList[r]? = some (.string z) := by
    have h0 : ((cs.toList.drop r).take 1)[0]? = some (.string z) := by rw [e1]; rfl
    simpa using h0
  simpa using this
section
variable {H : Type} {enc : TypeId × Value → H} {P : Program} {w : World} {base : Nat} {spare : Nat → Bool} {held : Bool}
end


theorem list_of {α : Type} (n : Nat) (R : Nat → α → Prop) (h : ∀ i, i < n → ∃ x, R i x) : ∃ l : List α, l.length = n ∧ ∀ i x, l[i]? = some x → R i x := by
  induction n with
  | zero => exact ⟨[], rfl, by simp⟩
  | succ n ih =>
    obtain ⟨l, hl, hR⟩ := ih fun i hi => h i (by omega)
    obtain ⟨x, hx⟩ := h n (by omega)
    refine ⟨l ++ [x], by simp [hl], fun i y hy => ?_⟩
    by_cases hi : i < n
    · rw [List.getElem?_append_left (by omega)] at hy; exact hR i y hy
    · have : i = n := by
        have := (List.getElem?_eq_some_iff.1 hy).1
        simp [hl] at this; omega
      subst this
      rw [List.getElem?_append_right (by omega)] at hy
      simp [hl] at hy; subst hy; exact hx

theorem ifacevar {P : Program} {W : World} {name nm : String} {d : DataW Unit} {rest : List (String × DataW Unit)} {g : Nat} {t : TypeId} {ms : Array (String × TypeId)}
    (hg : P.globalNamed name = some g) (hty : (P.globals[g]?).map (·.type) = some t) (ht : P.underlying t = some (.interface ms))
    (h : laidMet P ((name, .iface nm d) :: rest) W) : ∃ te pe, W.cell? ⟨g, 0, none⟩ = some (.iface te pe) := by
  obtain ⟨ps, ⟨g', t', cs, fuel, p, q, hg', ht', hv, hd, _, _⟩, _, _⟩ := h
  obtain rfl := Option.some.inj (hg.symm.trans hg')
  obtain rfl := Option.some.inj (hty.symm.trans ht')
  obtain ⟨l⟩ := cs
  rw [World.var?_cell hg hv 0]
  cases fuel with
  | zero => simp [DataW.trod] at hd
  | succ n =>
    rcases l with _ | ⟨E, _ | ⟨E', r⟩⟩
    · simp [DataW.trod, ht] at hd
    · cases E <;> simp [DataW.trod, ht] at hd
      exact ⟨_, _, rfl⟩
    · cases E <;> simp [DataW.trod, ht] at hd

theorem gTab : Tryz.prog.globalNamed "internal/strconv.uint64pow10" = some 8 := by kernel_rfl
theorem gTabType : (Tryz.prog.globals[8]?).map (·.type) = some 244 := by kernel_rfl
theorem cellsTab : Tryz.prog.cellsOf 244 = 20 := by kernel_rfl
theorem cellsU64 : Tryz.prog.cellsOf 132 = 1 := by kernel_rfl
theorem env_of {W : World} {L : List (String × DataW Unit)} (hl : (L.filter (fun x => x.1 == "internal/strconv.uint64pow10") = [("internal/strconv.uint64pow10", Lib.tabData .u64 Lib.pow10Tab)]) ∧ (L.filter (fun x => x.1 == "strconv.ErrSyntax") = [("strconv.ErrSyntax", Rows.laid_strconv_ErrSyntax)]) ∧ (L.filter (fun x => x.1 == "strconv.ErrRange") = [("strconv.ErrRange", Rows.laid_strconv_ErrRange)])) (h : laidMetH Tryz.prog L W) (hs : W.ShapedOpen Tryz.prog) : Env W := by
  obtain ⟨l1, l2, l3⟩ := hl
  refine ⟨?_, ?_, ?_, ?_, ?_⟩
  · have h1 := laidMetH.filter (fun x => x.1 == "internal/strconv.uint64pow10") h
    rw [l1] at h1
    exact Lib.tabIs_of_head (rest := []) gTab gTabType Tryz.underlying244 Tryz.underlying132 cellsU64 cellsTab h1
  · exact Go.Proofs.cell_of_shapedOpen_int (zero := #[.int .i64 0]) (t := 3) hs (of_decide_eq_true (by kernel_rfl)) (by kernel_rfl) rfl (by kernel_rfl) (by kernel_rfl) Tryz.underlying3
  · have h1 := laidMetH.filter (fun x => x.1 == "strconv.ErrSyntax") h
    rw [l2, MakeChecks.laidMetH_plain _ _ _ (by kernel_rfl)] at h1
    exact ifacevar (t := 117) (by kernel_rfl) (by kernel_rfl) Tryz.underlying117 h1
  · have h1 := laidMetH.filter (fun x => x.1 == "strconv.ErrRange") h
    rw [l3, MakeChecks.laidMetH_plain _ _ _ (by kernel_rfl)] at h1
    exact ifacevar (t := 117) (by kernel_rfl) (by kernel_rfl) Tryz.underlying117 h1
  · have h0 : (((begin Tryz.prog (fun _ _ => 0) default).world.heap[11]?).bind Obj.row?).isSome = true := by kernel_rfl
    obtain ⟨⟨zero, t⟩, hz⟩ := Option.isSome_iff_exists.1 h0
    obtain ⟨cs, hh, _⟩ := hs.1 11 zero t (of_decide_eq_true (by kernel_rfl)) hz
    rcases Nat.lt_or_ge 11 W.heap.size with h | h
    · omega
    · rw [Array.getElem?_eq_none h] at hh; simp at hh
end Go.Proofs.YtdjmckjbibfecaaGreatDoor
namespace Go.Proofs.YtdjmckjbibfecaaGreatDoor
open Go Go.ChangeShapes Go.WideShapes Go.ChangeAt Go.RowKit Go.Deep

section
variable {H : Type} {enc : TypeId × Value → H} {P : Program} {w : World} {base : Nat} {spare : Nat → Bool} {held : Bool}
/-- No part is longer than memory. -/
def Fits (P : Program) (t : TypeId) (d : DataW H) : Prop := ∀ n ∈ d.weights P t, n ≤ reachBytes
theorem Fits.part {t : TypeId} {fs : Array Field} {parts : List (DataW H)} {i : Nat} {f : Field} {d : DataW H} (h : Fits P t (.agg parts)) (ht : P.underlying t = some (.struct fs)) (hf : fs[i]? = some f) (hd : parts[i]? = some d) : Fits P f.type d := by
  intro n hn
  refine h n ?_
  rw [DataW.weights, ht]
  exact DataW.weights_mem_each (j := i) (by simp [hf]) hd n hn
theorem weightsAll_mem {e : TypeId} : ∀ {l : List (DataW H)} {d : DataW H}, d ∈ l → ∀ n ∈ d.weights P e, n ∈ DataW.weightsAll P e l
  | [], _, h, _, _ => by cases h
  | x :: l, d, h, n, hn => by
    simp only [DataW.weightsAll, List.mem_append]
    rcases List.mem_cons.1 h with rfl | h
    · exact .inl hn
    · exact .inr (weightsAll_mem h n hn)
theorem Fits.elem {t e : TypeId} {l r : List (DataW H)} {d : DataW H} (h : Fits P t (.slice l r)) (ht : P.underlying t = some (.slice e)) (hd : d ∈ l) : Fits P e d := by
  intro n hn
  refine h n ?_
  rw [DataW.weights, ht]
  simp only [List.mem_cons, List.mem_append]
  exact .inr (.inl (weightsAll_mem hd n hn))
theorem Fits.len {t e : TypeId} {l r : List (DataW H)} (h : Fits P t (.slice l r)) (ht : P.underlying t = some (.slice e)) : (l.length + r.length) * P.bytesOf e ≤ reachBytes := by
  refine h _ ?_
  rw [DataW.weights, ht]
  simp
theorem Fits.str {t : TypeId} {l : List UInt8} (h : Fits P t (.lit (.string l) : DataW H)) : l.length ≤ reachBytes := by
  refine h _ ?_
  simp [DataW.weights]

theorem open_row {t e : TypeId} {fuel : Nat} {cs : List Value} {x : DataW H × List MemPlace} (ht : P.underlying t = some (.slice e)) (hs : 0 < P.cellsOf e) (h : DataW.trod enc P w base spare held fuel t cs = some x) (hw : Fits P t x.1) :
    ∃ (A : Option Addr) (len cap n : Nat), cs = [.slice A len cap] ∧ n < fuel ∧ len ≤ cap ∧ cap ≤ maxLen ∧ len * P.bytesOf e ≤ reachBytes ∧ ∀ i, i < len → ∃ (b off : Nat) (cs' : List Value) (y : DataW H × List MemPlace), A = some ⟨b, off, none⟩ ∧ cs'.length = P.cellsOf e ∧
      (∀ j, j < P.cellsOf e → w.cell? ⟨b, off + i * P.cellsOf e + j, none⟩ = cs'[j]?) ∧ DataW.trod enc P w base spare held n e cs' = some y ∧ Fits P e y.1 := by
  have hfu : 0 < fuel := by
    rcases Nat.eq_zero_or_pos fuel with h0 | h0
    · subst h0; simp [DataW.trod] at h
    · exact h0
  rcases DataW.trod_slice ht h with ⟨rfl, rfl⟩ | ⟨a, len, cap, elems, rest, n, rfl, rfl, rfl, hb, hl, hm, hlen, hel, hsp, hns⟩
  · exact ⟨none, 0, 0, 0, rfl, hfu, Nat.le_refl _, Nat.zero_le _, by simp, fun i hi => by omega⟩
  · refine ⟨some a, len, cap, n, rfl, by omega, hl, hm, ?_, fun i hi => ?_⟩
    · have := hw.len ht
      simp only [List.length_map, hlen] at this
      refine Nat.le_trans (Nat.mul_le_mul_right _ (Nat.le_add_right _ _)) this
    · have h1 := hel i hi
      rw [List.getElem?_eq_getElem (by omega)] at h1
      obtain ⟨cs', hc, ht'⟩ := Option.bind_eq_some_iff.1 h1
      obtain ⟨_, hcl, hat⟩ := World.cells?_some hc
      obtain ⟨b, off, spot⟩ := a
      have hsp0 : spot = none := by
        have g1 := hel 0 (by omega)
        rw [List.getElem?_eq_getElem (by omega)] at g1
        obtain ⟨ds', gc, _⟩ := Option.bind_eq_some_iff.1 g1
        obtain ⟨_, gcl, gat⟩ := World.cells?_some gc
        have h0 := gat 0 hs
        rw [List.getElem?_eq_getElem (by omega)] at h0
        have := World.cell?_spot h0
        simpa [Addr.add] using this
      subst hsp0
      have hadd : ∀ j, Addr.add ⟨b, off, none⟩ j = ⟨b, off + j, none⟩ := fun j => by unfold Addr.add; split <;> simp_all
      refine ⟨b, off, cs', elems[i], rfl, hcl, fun j hj => ?_, ht', hw.elem ht (by simp only [List.mem_map]; exact ⟨_, List.getElem_mem _, rfl⟩)⟩
      rw [← hat j hj, Go.Deep.add_add, hadd, Nat.add_assoc]
theorem open_strct {t : TypeId} {fs : Array Field} {fuel : Nat} {cs : List Value} {x : DataW H × List MemPlace} (ht : P.underlying t = some (.struct fs)) (h : DataW.trod enc P w base spare held fuel t cs = some x) (hw : Fits P t x.1) :
    ∃ n, n < fuel ∧ cs.length = P.cellsOf t ∧ ∀ (i : Nat) (f : Field), fs[i]? = some f → ∃ y : DataW H × List MemPlace, DataW.trod enc P w base spare held n f.type ((cs.drop f.offset).take (P.cellsOf f.type)) = some y ∧ Fits P f.type y.1 := by
  obtain ⟨xs, n, rfl, rfl, hl, hlen, hf⟩ := DataW.trod_struct ht h
  refine ⟨n, by omega, hl, fun i f hi => ?_⟩
  have hlt : i < xs.length := by rw [hlen]; exact (Array.getElem?_eq_some_iff.1 hi).1
  have h1 := hf i f hi
  rw [List.getElem?_eq_getElem hlt] at h1
  exact ⟨_, h1, hw.part ht hi (by simp [hlt])⟩
theorem open_int_at {t : TypeId} {k : IntKind} {fuel : Nat} {cs : List Value} {x : DataW H × List MemPlace} (ht : P.underlying t = some (.int k)) (h : DataW.trod enc P w base spare held fuel t cs = some x) : ∃ n, cs = [.int k n] ∧ (Lit.int k n).wf = true := by
  obtain ⟨n, e, _, hw⟩ := DataW.trod_int ht h
  exact ⟨n, e, hw⟩
theorem open_str_at {t : TypeId} {fuel : Nat} {cs : List Value} {x : DataW H × List MemPlace} (ht : P.underlying t = some .string) (h : DataW.trod enc P w base spare held fuel t cs = some x) (hw : Fits P t x.1) : ∃ s : ByteArray, cs = [.string s] ∧ s.size ≤ 140737488351232 := by
  obtain ⟨s, e, rfl, _⟩ := DataW.trod_string ht h
  have := hw.str
  exact ⟨s, e, by have e1 : s.data.toList.length = s.size := Array.length_toList; unfold reachBytes at this; omega⟩
end
end Go.Proofs.YtdjmckjbibfecaaGreatDoor

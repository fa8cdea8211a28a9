/- Arguments opened: rows and structs of any make, with the reach of memory; no program in sight. -/
import Derived.Test.YtdjmckjbibfecaaGreatDoorEnv
import Derived.SizedLaws
namespace Go.Proofs.YtdjmckjbibfecaaGreatDoor
open Go Go.ChangeShapes Go.WideShapes Go.ChangeAt Go.RowKit Go.Deep

section
variable {H : Type} {enc : TypeId × Value → H} {P : Program} {w : World} {base : Nat} {spare : Nat → Bool} {held : Bool}
/-- No part is longer than memory. -/
def Fits (P : Program) (t : TypeId) (d : DataW H) : Prop := ∀ n ∈ d.weights P t, n ≤ reachBytes
theorem Fits.part {t : TypeId} {fs : Array Field} {parts : List (DataW H)} {i : Nat} {f : Field} {d : DataW H} (h : Fits P t (.agg parts)) (ht : P.underlying t = some (.struct fs)) (hf : fs[i]? = some f) (hd : parts[i]? = some d) : Fits P f.type d := by
  intro n hn
  refine h n ?_
  rw [DataW.weights, ht]
  exact DataW.weights_mem_each (j := i) (by simp [hf]) hd n hn
theorem weightsAll_mem {e : TypeId} : ∀ {l : List (DataW H)} {d : DataW H}, d ∈ l → ∀ n ∈ d.weights P e, n ∈ DataW.weightsAll P e l
  | [], _, h, _, _ => by cases h
  | x :: l, d, h, n, hn => by
    simp only [DataW.weightsAll, List.mem_append]
    rcases List.mem_cons.1 h with rfl | h
    · exact .inl hn
    · exact .inr (weightsAll_mem h n hn)
theorem Fits.elem {t e : TypeId} {l r : List (DataW H)} {d : DataW H} (h : Fits P t (.slice l r)) (ht : P.underlying t = some (.slice e)) (hd : d ∈ l) : Fits P e d := by
  intro n hn
  refine h n ?_
  rw [DataW.weights, ht]
  simp only [List.mem_cons, List.mem_append]
  exact .inr (.inl (weightsAll_mem hd n hn))
theorem Fits.len {t e : TypeId} {l r : List (DataW H)} (h : Fits P t (.slice l r)) (ht : P.underlying t = some (.slice e)) : (l.length + r.length) * P.bytesOf e ≤ reachBytes := by
  refine h _ ?_
  rw [DataW.weights, ht]
  simp
theorem Fits.str {t : TypeId} {l : List UInt8} (h : Fits P t (.lit (.string l) : DataW H)) : l.length ≤ reachBytes := by
  refine h _ ?_
  simp [DataW.weights]

theorem open_row {t e : TypeId} {fuel : Nat} {cs : List Value} {x : DataW H × List MemPlace} (ht : P.underlying t = some (.slice e)) (hs : 0 < P.cellsOf e) (h : DataW.trod enc P w base spare held fuel t cs = some x) (hw : Fits P t x.1) :
    ∃ (A : Option Addr) (len cap n : Nat), cs = [.slice A len cap] ∧ n < fuel ∧ len ≤ cap ∧ cap ≤ maxLen ∧ len * P.bytesOf e ≤ reachBytes ∧ ∀ i, i < len → ∃ (b off : Nat) (cs' : List Value) (y : DataW H × List MemPlace), A = some ⟨b, off, none⟩ ∧ cs'.length = P.cellsOf e ∧
      (∀ j, j < P.cellsOf e → w.cell? ⟨b, off + i * P.cellsOf e + j, none⟩ = cs'[j]?) ∧ DataW.trod enc P w base spare held n e cs' = some y ∧ Fits P e y.1 := by
  have hfu : 0 < fuel := by
    rcases Nat.eq_zero_or_pos fuel with h0 | h0
    · subst h0; simp [DataW.trod] at h
    · exact h0
  rcases DataW.trod_slice ht h with ⟨rfl, rfl⟩ | ⟨a, len, cap, elems, rest, n, rfl, rfl, rfl, hb, hl, hm, hlen, hel, hsp, hns⟩
  · exact ⟨none, 0, 0, 0, rfl, hfu, Nat.le_refl _, Nat.zero_le _, by simp, fun i hi => by omega⟩
  · refine ⟨some a, len, cap, n, rfl, by omega, hl, hm, ?_, fun i hi => ?_⟩
    · have := hw.len ht
      simp only [List.length_map, hlen] at this
      refine Nat.le_trans (Nat.mul_le_mul_right _ (Nat.le_add_right _ _)) this
    · have h1 := hel i hi
      rw [List.getElem?_eq_getElem (by omega)] at h1
      obtain ⟨cs', hc, ht'⟩ := Option.bind_eq_some_iff.1 h1
      obtain ⟨_, hcl, hat⟩ := World.cells?_some hc
      obtain ⟨b, off, spot⟩ := a
      have hsp0 : spot = none := by
        have g1 := hel 0 (by omega)
        rw [List.getElem?_eq_getElem (by omega)] at g1
        obtain ⟨ds', gc, _⟩ := Option.bind_eq_some_iff.1 g1
        obtain ⟨_, gcl, gat⟩ := World.cells?_some gc
        have h0 := gat 0 hs
        rw [List.getElem?_eq_getElem (by omega)] at h0
        have := World.cell?_spot h0
        simpa [Addr.add] using this
      subst hsp0
      have hadd : ∀ j, Addr.add ⟨b, off, none⟩ j = ⟨b, off + j, none⟩ := fun j => by unfold Addr.add; split <;> simp_all
      refine ⟨b, off, cs', elems[i], rfl, hcl, fun j hj => ?_, ht', hw.elem ht (by simp only [List.mem_map]; exact ⟨_, List.getElem_mem _, rfl⟩)⟩
      rw [← hat j hj, Go.Deep.add_add, hadd, Nat.add_assoc]
theorem open_strct {t : TypeId} {fs : Array Field} {fuel : Nat} {cs : List Value} {x : DataW H × List MemPlace} (ht : P.underlying t = some (.struct fs)) (h : DataW.trod enc P w base spare held fuel t cs = some x) (hw : Fits P t x.1) :
    ∃ n, n < fuel ∧ cs.length = P.cellsOf t ∧ ∀ (i : Nat) (f : Field), fs[i]? = some f → ∃ y : DataW H × List MemPlace, DataW.trod enc P w base spare held n f.type ((cs.drop f.offset).take (P.cellsOf f.type)) = some y ∧ Fits P f.type y.1 := by
  obtain ⟨xs, n, rfl, rfl, hl, hlen, hf⟩ := DataW.trod_struct ht h
  refine ⟨n, by omega, hl, fun i f hi => ?_⟩
  have hlt : i < xs.length := by rw [hlen]; exact (Array.getElem?_eq_some_iff.1 hi).1
  have h1 := hf i f hi
  rw [List.getElem?_eq_getElem hlt] at h1
  exact ⟨_, h1, hw.part ht hi (by simp [hlt])⟩
theorem open_int_at {t : TypeId} {k : IntKind} {fuel : Nat} {cs : List Value} {x : DataW H × List MemPlace} (ht : P.underlying t = some (.int k)) (h : DataW.trod enc P w base spare held fuel t cs = some x) : ∃ n, cs = [.int k n] ∧ (Lit.int k n).wf = true := by
  obtain ⟨n, e, _, hw⟩ := DataW.trod_int ht h
  exact ⟨n, e, hw⟩
theorem open_str_at {t : TypeId} {fuel : Nat} {cs : List Value} {x : DataW H × List MemPlace} (ht : P.underlying t = some .string) (h : DataW.trod enc P w base spare held fuel t cs = some x) (hw : Fits P t x.1) : ∃ s : ByteArray, cs = [.string s] ∧ s.size ≤ 140737488351232 := by
  obtain ⟨s, e, rfl, _⟩ := DataW.trod_string ht h
  have := hw.str
  exact ⟨s, e, by have e1 : s.data.toList.length = s.size := Array.length_toList; unfold reachBytes at this; omega⟩
end
end Go.Proofs.YtdjmckjbibfecaaGreatDoor

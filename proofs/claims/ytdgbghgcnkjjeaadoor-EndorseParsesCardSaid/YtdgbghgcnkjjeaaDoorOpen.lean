/- What an argument of the laws' types is, opened. -/
import Derived.Test.YtdgbghgcnkjjeaaDoorC
import Derived.ProofKit
import Derived.OpenShut
import Derived.ShutString
import Derived.ChangeOld
import Derived.Below
import Derived.Deep.Slices
import Derived.Deep.Fields
import Derived.ChangeSame
import Derived.Lib.SmallJoins
namespace Go.Proofs.YtdgbghgcnkjjeaaDoor
open Go.ChangeShapes Go.WideShapes Go.ChangeAt Go.RowKit Go.Deep
open Go.ChangeMaps (open_string shut_string)

theorem own : ownKnob Tryd.prog.godebug = none := by kernel_rfl
theorem laidOut : laidOutB Tryd.prog = true := by kernel_rfl

section
variable {H : Type} {enc : TypeId × Value → H} {P : Program} {w : World} {base : Nat} {spare : Nat → Bool} {held : Bool}
theorem open_slice_fields {t e : TypeId} {fs : Array Field} {fuel : Nat} {cs : List Value} {x : DataW H × List MemPlace} (ht : P.underlying t = some (.slice e)) (he : P.underlying e = some (.struct fs))
    (hone : oneCellFields P fs = true) (hC : P.cellsOf e = fs.size) (h : DataW.trod enc P w base spare held fuel t cs = some x) :
    (cs = [.slice none 0 0] ∧ x = (.nil, [])) ∨
    ∃ (a : Addr) (len cap m : Nat) (D : Nat → DataW H) (Pl : Nat → List MemPlace), cs = [.slice (some a) len cap] ∧ base ≤ a.block ∧ len ≤ cap ∧ cap ≤ maxLen ∧ m = (if spare a.block then cap else len) ∧
      x = (.slice ((List.range len).map D) ((List.range (m - len)).map fun j => D (len + j)), MemPlace.row a (m * fs.size) ++ (List.range m).flatMap Pl) ∧
      ∀ i, i < m → ∃ (ys : List (DataW H × List MemPlace)) (n : Nat), D i = .agg (ys.map (·.1)) ∧ Pl i = ys.flatMap (·.2) ∧ ys.length = fs.size ∧
        ∀ (j : Nat) (f : Field), fs[j]? = some f → ∃ (v : Value) (y : DataW H × List MemPlace), w.cell? (a.add (i * fs.size + j)) = some v ∧ ys[j]? = some y ∧ DataW.trod enc P w base spare held n f.type [v] = some y := by
  rcases open_slice ht h with h0 | ⟨a, len, cap, m, n, D, Pl, hcs, hb, hl, hm, hmm, hx, hi⟩
  · exact .inl h0
  · refine .inr ⟨a, len, cap, m, D, Pl, hcs, hb, hl, hm, hmm, by rw [hC] at hx; exact hx, fun i him => ?_⟩
    obtain ⟨cs', hc, ht'⟩ := hi i him
    rw [hC] at hc
    obtain ⟨ys, n', hn', hy, hlen, hyl, hf⟩ := DataW.trod_struct he ht'
    obtain ⟨_, hcl, hat⟩ := World.cells?_some hc
    simp only [Prod.mk.injEq] at hy
    refine ⟨ys, n', hy.1, hy.2, hyl, fun j f hj => ?_⟩
    obtain ⟨ho, hk⟩ := hone_of hone j f hj
    have hjl : j < fs.size := (Array.getElem?_eq_some_iff.1 hj).1
    have hcell := hat j hjl
    have hv : cs'[j]? = some (cs'[j]'(by omega)) := List.getElem?_eq_getElem (by omega)
    have h1 := hf j f hj
    rw [ho, hk] at h1
    have hone' : (cs'.drop j).take 1 = [cs'[j]'(by omega)] := by
      rw [List.drop_eq_getElem_cons (by omega)]
      rfl
    rw [hone'] at h1
    have hys : ys[j]? = some (ys[j]'(by omega)) := List.getElem?_eq_getElem (by omega)
    refine ⟨_, _, ?_, hys, h1.trans hys⟩
    rw [← Go.Deep.add_add, hcell, hv]
end

theorem list_of (n : Nat) (R : Nat → End → Prop) (h : ∀ i, i < n → ∃ x, R i x) : ∃ l : List End, l.length = n ∧ ∀ i x, l[i]? = some x → R i x := by
  induction n with
  | zero => exact ⟨[], rfl, by simp⟩
  | succ n ih =>
    obtain ⟨l, hl, hR⟩ := ih fun i hi => h i (by omega)
    obtain ⟨x, hx⟩ := h n (by omega)
    refine ⟨l ++ [x], by simp [hl], fun i y hy => ?_⟩
    by_cases hi : i < n
    · rw [List.getElem?_append_left (by omega)] at hy; exact hR i y hy
    · have : i = n := by
        have := (List.getElem?_eq_some_iff.1 hy).1
        simp [hl] at this; omega
      subst this
      rw [List.getElem?_append_right (by omega)] at hy
      simp [hl] at hy; subst hy; exact hx

theorem open_ends {H : Type} {enc : TypeId × Value → H} {W : World} {A : Option Addr} {n c : Nat} {d : DataW H} {p : List MemPlace} (h : DataW.Trod enc Tryd.prog W 0 (fun _ => true) true 22 (.slice A n c) d p) :
    ∃ l : List End, l.length = n ∧ n ≤ c ∧ c ≤ maxLen ∧ EndsAt W A l := by
  obtain ⟨fuel, hf⟩ := h
  rcases open_slice_fields Tryd.underlying22 Tryd.underlying34 (by kernel_rfl) (by kernel_rfl) hf with ⟨hcs, _⟩ | ⟨a, len, cap, m, D, Pl, hcs, _, hl, hm, hmm, _, hi⟩
  · simp [Value.cells] at hcs
    obtain ⟨rfl, rfl, rfl⟩ := hcs
    exact ⟨[], rfl, Nat.le_refl _, Nat.zero_le _, by intro k x hk; simp at hk⟩
  · simp [Value.cells] at hcs
    obtain ⟨rfl, rfl, rfl⟩ := hcs
    simp only [if_true] at hmm
    subst hmm
    obtain ⟨l, hlen, hR⟩ := list_of n (fun i x => W.cell? (a.add (i * 4)) = some (.string x.frm) ∧ W.cell? (a.add (i * 4 + 1)) = some (.string x.to) ∧ W.cell? (a.add (i * 4 + 2)) = some (.int .i64 x.kind) ∧ W.cell? (a.add (i * 4 + 3)) = some (.int .i64 x.day) ∧ x.frm.size ≤ maxLen ∧ x.to.size ≤ maxLen) (fun i hin => by
      obtain ⟨ys, k, _, _, hys, hfd⟩ := hi i (by omega)
      obtain ⟨v0, y0, hc0, _, ht0⟩ := hfd 0 _ rfl
      obtain ⟨v1, y1, hc1, _, ht1⟩ := hfd 1 _ rfl
      obtain ⟨v2, y2, hc2, _, ht2⟩ := hfd 2 _ rfl
      obtain ⟨v3, y3, hc3, _, ht3⟩ := hfd 3 _ rfl
      obtain ⟨s0, e0, _, g0⟩ := DataW.trod_string Tryd.underlying9 ht0
      obtain ⟨s1, e1, _, g1⟩ := DataW.trod_string Tryd.underlying9 ht1
      obtain ⟨i2, e2, _, g2⟩ := DataW.trod_int Tryd.underlying3 ht2
      obtain ⟨i3, e3, _, g3⟩ := DataW.trod_int Tryd.underlying3 ht3
      simp at e0 e1 e2 e3
      subst e0 e1 e2 e3
      exact ⟨⟨s0, s1, i2, i3⟩, by simpa using hc0, by simpa using hc1, by simpa using hc2, by simpa using hc3, g0, g1⟩)
    refine ⟨l, hlen, hl, hm, fun k x hk => ?_⟩
    obtain ⟨h0, h1, h2, h3, h4, h5⟩ := hR k x hk
    obtain ⟨x0, hx0⟩ : ∃ x0, l[0]? = some x0 := ⟨_, List.getElem?_eq_getElem (by have := (List.getElem?_eq_some_iff.1 hk).1; omega)⟩
    have hsp := World.cell?_spot (hR 0 x0 hx0).1
    obtain ⟨b, off, spot⟩ := a
    have hspot : spot = none := by simpa [Addr.add] using hsp
    subst hspot
    have hadd : ∀ j, Addr.add ⟨b, off, none⟩ j = ⟨b, off + j, none⟩ := fun j => by unfold Addr.add; split <;> simp_all
    rw [hadd] at h0 h1 h2 h3
    exact ⟨b, off, rfl, h0, h1, h2, h3, h4, h5⟩

end Go.Proofs.YtdgbghgcnkjjeaaDoor

/- What the row's list gives: the environment that the walks ask. -/
import Derived.Test.YtheiogafjinihaaDoorEv
import Derived.Test.YtheiogafjinihaaDoorCards
import Derived.Test.YtheiogafjinihaaDoorTie
import Derived.ProofKit
import Derived.OpenShut
import Derived.ShutString
import Derived.ChangeOld
import Derived.Deep.Slices
import Derived.Deep.Fields
import Derived.ChangeSame
import Derived.Lib.SmallJoins
import Derived.Deep.DeepHandedRow
import Derived.Lib.LaidTab
import Derived.Stop.LaidErr
import Derived.LaidSub
import Derived.MakeChecks
namespace Go.Proofs.YtheiogafjinihaaDoor
open Go Go.ChangeShapes Go.WideShapes Go.ChangeAt Go.RowKit Go.Deep

theorem own : ownKnob Tryd.prog.godebug = none := by kernel_rfl
theorem laidOut : laidOutB Tryd.prog = true := by kernel_rfl
theorem strtab {P : Program} {W : World} {name : String} {rest : List (String × DataW Unit)} {g : Nat} {t e : TypeId} {n : Nat} (ss : List (List UInt8))
    (hg : P.globalNamed name = some g) (hty : (P.globals[g]?).map (·.type) = some t) (ht : P.underlying t = some (.array n e)) (he : P.underlying e = some .string) (hce : P.cellsOf e = 1) (hss : ss.length = n)
    (h : laidMet P ((name, .agg (ss.map fun s => .lit (.string s))) :: rest) W) : ∀ r, r < n → W.cell? ⟨g, r, none⟩ = some (.string ((⟨(ss.getD r []).toArray⟩ : ByteArray))) := by
  intro r hr
  obtain ⟨ps, ⟨g', t', cs, fuel, p, q, hg', ht', hv, hd, _, _⟩, _, _⟩ := h
  obtain rfl := Option.some.inj (hg.symm.trans hg')
  obtain rfl := Option.some.inj (hty.symm.trans ht')
  obtain ⟨xs, m, _, ex, _, hl, hel⟩ := DataW.trod_array ht hd
  have hE := hel r hr
  rw [hce, Nat.mul_one, List.getElem?_eq_getElem (by omega)] at hE
  obtain ⟨z, e1, e2, _⟩ := DataW.trod_string he hE
  have e3 : (xs.map (·.1)) = ss.map fun s => .lit (.string s) := (DataW.agg.inj (Prod.mk.inj ex).1).symm
  have e4 : (xs.map (·.1))[r]? = (ss.map fun s => (DataW.lit (.string s) : DataW Unit))[r]? := by rw [e3]
  rw [List.getElem?_map, List.getElem?_map, List.getElem?_eq_getElem (by omega : r < xs.length), List.getElem?_eq_getElem (by omega : r < ss.length), e2] at e4
  have hz : z = (⟨(ss.getD r []).toArray⟩ : ByteArray) := by
    simp only [Option.map_some, Option.some.injEq, DataW.lit.injEq, Lit.string.injEq] at e4
    rw [List.getD, List.getElem?_eq_getElem (by omega : r < ss.length)]
    apply ByteArray.ext
    simp only [Option.getD_some]
    rw [← e4]
  rw [World.var?_cell hg hv r, ← hz]
  have : cs.toList[r]? = some (.string z) := by
    have h0 : ((cs.toList.drop r).take 1)[0]? = some (.string z) := by rw [e1]; rfl
    simpa using h0
  simpa using this
theorem list_of {α : Type} (n : Nat) (R : Nat → α → Prop) (h : ∀ i, i < n → ∃ x, R i x) : ∃ l : List α, l.length = n ∧ ∀ i x, l[i]? = some x → R i x := by
  induction n with
  | zero => exact ⟨[], rfl, by simp⟩
  | succ n ih =>
    obtain ⟨l, hl, hR⟩ := ih fun i hi => h i (by omega)
    obtain ⟨x, hx⟩ := h n (by omega)
    refine ⟨l ++ [x], by simp [hl], fun i y hy => ?_⟩
    by_cases hi : i < n
    · rw [List.getElem?_append_left (by omega)] at hy; exact hR i y hy
    · have : i = n := by
        have := (List.getElem?_eq_some_iff.1 hy).1
        simp [hl] at this; omega
      subst this
      rw [List.getElem?_append_right (by omega)] at hy
      simp [hl] at hy; subst hy; exact hx

theorem ifacevar {P : Program} {W : World} {name nm : String} {d : DataW Unit} {rest : List (String × DataW Unit)} {g : Nat} {t : TypeId} {ms : Array (String × TypeId)}
    (hg : P.globalNamed name = some g) (hty : (P.globals[g]?).map (·.type) = some t) (ht : P.underlying t = some (.interface ms))
    (h : laidMet P ((name, .iface nm d) :: rest) W) : ∃ te pe, W.cell? ⟨g, 0, none⟩ = some (.iface te pe) := by
  obtain ⟨ps, ⟨g', t', cs, fuel, p, q, hg', ht', hv, hd, _, _⟩, _, _⟩ := h
  obtain rfl := Option.some.inj (hg.symm.trans hg')
  obtain rfl := Option.some.inj (hty.symm.trans ht')
  obtain ⟨l⟩ := cs
  rw [World.var?_cell hg hv 0]
  cases fuel with
  | zero => simp [DataW.trod] at hd
  | succ n =>
    rcases l with _ | ⟨E, _ | ⟨E', r⟩⟩
    · simp [DataW.trod, ht] at hd
    · cases E <;> simp [DataW.trod, ht] at hd
      exact ⟨_, _, rfl⟩
    · cases E <;> simp [DataW.trod, ht] at hd

theorem gTab : Tryd.prog.globalNamed "internal/strconv.uint64pow10" = some 4 := by kernel_rfl
theorem gTabType : (Tryd.prog.globals[4]?).map (·.type) = some 151 := by kernel_rfl
theorem cellsTab : Tryd.prog.cellsOf 151 = 20 := by kernel_rfl
theorem cellsU64 : Tryd.prog.cellsOf 134 = 1 := by kernel_rfl
theorem env_of {W : World} {L : List (String × DataW Unit)} (hl : (L.filter (fun x => x.1 == "internal/strconv.uint64pow10") = [("internal/strconv.uint64pow10", Lib.tabData .u64 Lib.pow10Tab)]) ∧ (L.filter (fun x => x.1 == "strconv.ErrSyntax") = [("strconv.ErrSyntax", Rows.laid_strconv_ErrSyntax)]) ∧ (L.filter (fun x => x.1 == "strconv.ErrRange") = [("strconv.ErrRange", Rows.laid_strconv_ErrRange)]) ∧ (L.filter (fun x => x.1 == "supercargo/script.acts") = [("supercargo/script.acts", Rows.laid_supercargo_script_acts)])) (h : laidMetH Tryd.prog L W) (hs : W.ShapedOpen Tryd.prog) : Env W := by
  obtain ⟨l1, l2, l3, l4⟩ := hl
  refine ⟨?_, ?_, ?_, ?_, ?_, ?_⟩
  · have h1 := laidMetH.filter (fun x => x.1 == "internal/strconv.uint64pow10") h
    rw [l1] at h1
    exact Lib.tabIs_of_head (rest := []) gTab gTabType Tryd.underlying151 Tryd.underlying134 cellsU64 cellsTab h1
  · exact Go.Proofs.cell_of_shapedOpen_int (zero := #[.int .i64 0]) (t := 3) hs (of_decide_eq_true (by kernel_rfl)) (by kernel_rfl) rfl (by kernel_rfl) (by kernel_rfl) Tryd.underlying3
  · have h1 := laidMetH.filter (fun x => x.1 == "supercargo/script.acts") h
    rw [l4, MakeChecks.laidMetH_plain _ _ _ (by kernel_rfl)] at h1
    have h2 := strtab (g := 0) (t := 104) (e := 9) (n := 12) actsL (by kernel_rfl) (by kernel_rfl) Tryd.underlying104 Tryd.underlying9 (by kernel_rfl) rfl h1
    have h0 : (((begin Tryd.prog (fun _ _ => 0) default).world.heap[0]?).bind Obj.row?).map (fun x => (x.1.size, x.2)) = some (12, 104) := by kernel_rfl
    obtain ⟨⟨zero, t⟩, hz, hzt⟩ := Option.map_eq_some_iff.1 h0
    simp only [Prod.mk.injEq] at hzt
    obtain ⟨hz1, rfl⟩ := hzt
    obtain ⟨cs, hh, hcs, _⟩ := hs.1 0 zero _ (of_decide_eq_true (by kernel_rfl)) hz
    have hb : Blk W 0 104 cs := hh
    have : cs = actsA := by
      apply Array.ext
      · rw [hcs, hz1]; rfl
      · intro i g1 g2
        have h3 := h2 i (by omega)
        rw [hb.cell, Array.getElem?_eq_getElem g1, ← actsA_get i (by omega), Array.getElem?_eq_getElem g2] at h3
        exact Option.some.inj h3
    subst this
    exact hb
  · have h1 := laidMetH.filter (fun x => x.1 == "strconv.ErrSyntax") h
    rw [l2, MakeChecks.laidMetH_plain _ _ _ (by kernel_rfl)] at h1
    exact ifacevar (t := 86) (by kernel_rfl) (by kernel_rfl) Tryd.underlying86 h1
  · have h1 := laidMetH.filter (fun x => x.1 == "strconv.ErrRange") h
    rw [l3, MakeChecks.laidMetH_plain _ _ _ (by kernel_rfl)] at h1
    exact ifacevar (t := 86) (by kernel_rfl) (by kernel_rfl) Tryd.underlying86 h1
  · have h0 : (((begin Tryd.prog (fun _ _ => 0) default).world.heap[8]?).bind Obj.row?).isSome = true := by kernel_rfl
    obtain ⟨⟨zero, t⟩, hz⟩ := Option.isSome_iff_exists.1 h0
    obtain ⟨cs, hh, _⟩ := hs.1 8 zero t (of_decide_eq_true (by kernel_rfl)) hz
    rcases Nat.lt_or_ge 8 W.heap.size with h | h
    · omega
    · rw [Array.getElem?_eq_none h] at hh; simp at hh
end Go.Proofs.YtheiogafjinihaaDoor

/- What the row's list gives: the environment that the walks ask; a slice of faults, opened. -/
import Derived.Test.YtnmnknkdnjkpjaaGreatDoorD
import Derived.Test.YtnmnknkdnjkpjaaGreatDoorS
import Derived.Test.YtnmnknkdnjkpjaaGreatDoorCards
import Derived.Test.YtnmnknkdnjkpjaaGreatDoorTie
import Derived.ProofKit
import Derived.OpenShut
import Derived.ShutString
import Derived.ChangeOld
import Derived.Deep.Slices
import Derived.Deep.Fields
import Derived.ChangeSame
import Derived.Lib.SmallJoins
import Derived.Deep.DeepHandedRow
import Derived.Lib.LaidTab
import Derived.Stop.LaidErr
import Derived.LaidSub
import Derived.MakeChecks
namespace Go.Proofs.YtnmnknkdnjkpjaaGreatDoor
open Go Go.ChangeShapes Go.WideShapes Go.ChangeAt Go.RowKit Go.Deep

theorem own : ownKnob Tryz.prog.godebug = none := by kernel_rfl
theorem laidOut : laidOutB Tryz.prog = true := by kernel_rfl
theorem list_of {α : Type} (n : Nat) (R : Nat → α → Prop) (h : ∀ i, i < n → ∃ x, R i x) : ∃ l : List α, l.length = n ∧ ∀ i x, l[i]? = some x → R i x := by
  induction n with
  | zero => exact ⟨[], rfl, by simp⟩
  | succ n ih =>
    obtain ⟨l, hl, hR⟩ := ih fun i hi => h i (by omega)
    obtain ⟨x, hx⟩ := h n (by omega)
    refine ⟨l ++ [x], by simp [hl], fun i y hy => ?_⟩
    by_cases hi : i < n
    · rw [List.getElem?_append_left (by omega)] at hy; exact hR i y hy
    · have : i = n := by
        have := (List.getElem?_eq_some_iff.1 hy).1
        simp [hl] at this; omega
      subst this
      rw [List.getElem?_append_right (by omega)] at hy
      simp [hl] at hy; subst hy; exact hx

theorem ifacevar {P : Program} {W : World} {name nm : String} {d : DataW Unit} {rest : List (String × DataW Unit)} {g : Nat} {t : TypeId} {ms : Array (String × TypeId)}
    (hg : P.globalNamed name = some g) (hty : (P.globals[g]?).map (·.type) = some t) (ht : P.underlying t = some (.interface ms))
    (h : laidMet P ((name, .iface nm d) :: rest) W) : ∃ te pe, W.cell? ⟨g, 0, none⟩ = some (.iface te pe) := by
  obtain ⟨ps, ⟨g', t', cs, fuel, p, q, hg', ht', hv, hd, _, _⟩, _, _⟩ := h
  obtain rfl := Option.some.inj (hg.symm.trans hg')
  obtain rfl := Option.some.inj (hty.symm.trans ht')
  obtain ⟨l⟩ := cs
  rw [World.var?_cell hg hv 0]
  cases fuel with
  | zero => simp [DataW.trod] at hd
  | succ n =>
    rcases l with _ | ⟨E, _ | ⟨E', r⟩⟩
    · simp [DataW.trod, ht] at hd
    · cases E <;> simp [DataW.trod, ht] at hd
      exact ⟨_, _, rfl⟩
    · cases E <;> simp [DataW.trod, ht] at hd

theorem gTab : Tryz.prog.globalNamed "internal/strconv.uint64pow10" = some 0 := by kernel_rfl
theorem gTabType : (Tryz.prog.globals[0]?).map (·.type) = some 176 := by kernel_rfl
theorem cellsTab : Tryz.prog.cellsOf 176 = 20 := by kernel_rfl
theorem cellsU64 : Tryz.prog.cellsOf 159 = 1 := by kernel_rfl
theorem env_of {W : World} {L : List (String × DataW Unit)} (hl : (L.filter (fun x => x.1 == "internal/strconv.uint64pow10") = [("internal/strconv.uint64pow10", Lib.tabData .u64 Lib.pow10Tab)]) ∧ (L.filter (fun x => x.1 == "strconv.ErrSyntax") = [("strconv.ErrSyntax", Rows.laid_strconv_ErrSyntax)]) ∧ (L.filter (fun x => x.1 == "strconv.ErrRange") = [("strconv.ErrRange", Rows.laid_strconv_ErrRange)])) (h : laidMetH Tryz.prog L W) (hs : W.ShapedOpen Tryz.prog) : Env W := by
  obtain ⟨l1, l2, l3⟩ := hl
  refine ⟨?_, ?_, ?_, ?_, ?_⟩
  · have h1 := laidMetH.filter (fun x => x.1 == "internal/strconv.uint64pow10") h
    rw [l1] at h1
    exact Lib.tabIs_of_head (rest := []) gTab gTabType Tryz.underlying176 Tryz.underlying159 cellsU64 cellsTab h1
  · exact Go.Proofs.cell_of_shapedOpen_int (zero := #[.int .i64 0]) (t := 3) hs (of_decide_eq_true (by kernel_rfl)) (by kernel_rfl) rfl (by kernel_rfl) (by kernel_rfl) Tryz.underlying3
  · have h1 := laidMetH.filter (fun x => x.1 == "strconv.ErrSyntax") h
    rw [l2, MakeChecks.laidMetH_plain _ _ _ (by kernel_rfl)] at h1
    exact ifacevar (t := 90) (by kernel_rfl) (by kernel_rfl) Tryz.underlying90 h1
  · have h1 := laidMetH.filter (fun x => x.1 == "strconv.ErrRange") h
    rw [l3, MakeChecks.laidMetH_plain _ _ _ (by kernel_rfl)] at h1
    exact ifacevar (t := 90) (by kernel_rfl) (by kernel_rfl) Tryz.underlying90 h1
  · have h0 : (((begin Tryz.prog (fun _ _ => 0) default).world.heap[5]?).bind Obj.row?).isSome = true := by kernel_rfl
    obtain ⟨⟨zero, t⟩, hz⟩ := Option.isSome_iff_exists.1 h0
    obtain ⟨cs, hh, _⟩ := hs.1 5 zero t (of_decide_eq_true (by kernel_rfl)) hz
    rcases Nat.lt_or_ge 5 W.heap.size with h | h
    · omega
    · rw [Array.getElem?_eq_none h] at hh; simp at hh
end Go.Proofs.YtnmnknkdnjkpjaaGreatDoor

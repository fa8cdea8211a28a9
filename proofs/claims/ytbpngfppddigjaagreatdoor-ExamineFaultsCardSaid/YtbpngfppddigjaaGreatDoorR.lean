/- A whole struct stored into a block of one's own, and loaded out of one, as one word. -/
import Derived.Test.YtbpngfppddigjaaGreatDoorL
import Derived.Deep.MidRow
import Derived.Laws.Rows
namespace Go.Proofs.YtbpngfppddigjaaGreatDoor
open Go Go.RowKit Go.BigFrame Go.Maps

theorem setCells_but (g : Nat) : ∀ (vs : List Value) (o : Nat) (w : World), ButS (· = g) w (w.setCells g o vs)
  | [], _, _ => ButS.refl _ _
  | v :: vs, o, w => ButS.trans (b := w.setCell ⟨g, o, none⟩ v) (ButS.setCell (S := (· = g)) (ButS.refl _ w) g o v rfl) (setCells_but g vs (o + 1) _)
theorem setCells_blk {g : Nat} {t : TypeId} : ∀ (vs pre old : List Value) (w : World), old.length = vs.length → Blk w g t (pre ++ old).toArray → Blk (w.setCells g pre.length vs) g t (pre ++ vs).toArray
  | [], pre, old, w, hl, h => by
    have : old = [] := List.eq_nil_of_length_eq_zero (by simpa using hl)
    subst this; exact h
  | v :: vs, pre, [], w, hl, h => by simp at hl
  | v :: vs, pre, u :: old, w, hl, h => by
    have h1 := h.set_ pre.length v
    have e : ((pre ++ u :: old).toArray.setIfInBounds pre.length v) = ((pre ++ [v]) ++ old).toArray := by simp
    rw [e] at h1
    have := setCells_blk vs (pre ++ [v]) old _ (by simpa using hl) h1
    rw [World.setCells]
    simpa using this

section
variable {P : Program} {ops : Array Oper} {o : Oper} {rest : List Oper} {a : Act} {w : World} {Q : Exit → Act → World → Prop}
theorem wpList_store_blk (hgd : o.guard = none) (ty : TypeId) (x y : Operand) (ho : o.op = .store ty x y) (g : Nat) (old cs : Array Value) (t : TypeId) (hx : a.eval x = .pointer (some ⟨g, 0, none⟩)) (hy : a.eval y = .agg cs)
    (hb : Blk w g t old) (hs : old.size = cs.size) (hi : (P.info? ty).map (·.size) = some cs.size) (h1 : cs.all (·.oneCell') = true)
    (h : ∀ w', Blk w' g t cs → ButS (· = g) w w' → wpList P ops Q rest (a.put o.dst undef) w') : wpList P ops Q (o :: rest) a w := by
  refine wpList_store_mid hgd ty x y ho g 0 cs hx hy (fun j hj => ?_) hi h1 (h _ ?_ (setCells_but g _ 0 w))
  · have hj' : j < old.size := by omega
    rw [Nat.zero_add]
    exact ⟨by rw [hb.cell]; simp [hj'], hb.frozen j⟩
  · have := setCells_blk (g := g) (t := t) cs.toList [] old.toList w (by simpa using hs) (by simpa using hb)
    simpa using this
theorem wpList_load_blk (hgd : o.guard = none) (ty : TypeId) (x : Operand) (ho : o.op = .load ty x) (g : Nat) (cs : Array Value) (t : TypeId) (d : TypeDesc) (hx : a.eval x = .pointer (some ⟨g, 0, none⟩))
    (hb : Blk w g t cs) (hu : P.underlying ty = some d) (hd : (match d with | .struct _ | .array _ _ => true | _ => false) = true) (hi : (P.info? ty).map (·.size) = some cs.size)
    (h : wpList P ops Q rest (a.put o.dst (.agg cs)) w) : wpList P ops Q (o :: rest) a w :=
  wpList_load_row hgd ty x ho g hx t cs (0, 0) d hb hu hd hi h
end
end Go.Proofs.YtbpngfppddigjaaGreatDoor

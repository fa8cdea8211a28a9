/- Whole structs, loaded and stored. -/
import Derived.Test.YtnmnknkdnjkpjaaGreatDoorAw
import Derived.Test.YtnmnknkdnjkpjaaGreatDoorSh
namespace Go.Proofs.YtnmnknkdnjkpjaaGreatDoor
open Go Go.RowKit Go.BigFrame Go.Maps

section
variable {P : Program} {ops : Array Oper} {o : Oper} {rest : List Oper} {a : Act} {w : World} {Q : Exit → Act → World → Prop}
theorem wpList_get_blk (hgd : o.guard = none) (ty : TypeId) (x : Operand) (ho : o.op = .load ty x) (g : Nat) (cs : Array Value) (t : TypeId) (d : TypeDesc) (hx : a.eval x = .pointer (some ⟨g, 0, none⟩))
    (hb : Blk w g t cs) (hu : P.underlying ty = some d) (hd : (match d with | .struct _ | .array _ _ => true | _ => false) = true) (hi : (P.info? ty).map (·.size) = some cs.size)
    (h : wpList P ops Q rest (a.put o.dst (.agg cs)) w) : wpList P ops Q (o :: rest) a w :=
  wpList_load_row hgd ty x ho g hx t cs (0, 0) d hb hu hd hi h
theorem wpList_put_blk (hgd : o.guard = none) (ty : TypeId) (x y : Operand) (ho : o.op = .store ty x y) (g : Nat) (old cs : Array Value) (t : TypeId) (hx : a.eval x = .pointer (some ⟨g, 0, none⟩)) (hy : a.eval y = .agg cs)
    (hb : Blk w g t old) (hs : old.size = cs.size) (hi : (P.info? ty).map (·.size) = some cs.size) (h1 : cs.all (·.oneCell') = true)
    (h : ∀ w', Blk w' g t cs → But g w w' → wpList P ops Q rest (a.put o.dst undef) w') : wpList P ops Q (o :: rest) a w := by
  refine wpList_store_mid hgd ty x y ho g 0 cs hx hy (fun j hj => ?_) hi h1 (h _ ?_ (setCells_put g _ 0 w))
  · have hj' : j < old.size := by omega
    rw [Nat.zero_add]
    exact ⟨by rw [hb.cell]; simp [hj'], hb.frozen j⟩
  · have := setCells_row (g := g) (t := t) cs.toList [] old.toList w (by simpa using hs) (by simpa using hb)
    simpa using this
end
theorem But.grown {g : Nat} {w w' : World} (h : But g w w') : w.grownBy w' (some g) := ⟨h.os, h.tape, h.output, h.size, fun k hk hne => h.block k hk (fun e => hne (by rw [e]))⟩
end Go.Proofs.YtnmnknkdnjkpjaaGreatDoor

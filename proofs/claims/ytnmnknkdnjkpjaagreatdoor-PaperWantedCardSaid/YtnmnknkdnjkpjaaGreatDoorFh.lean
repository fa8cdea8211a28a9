/- Whole structs, loaded; a paper that a function makes, its fields in memory. -/
import Derived.Test.YtnmnknkdnjkpjaaGreatDoorEp
import Derived.Test.YtnmnknkdnjkpjaaGreatDoorEc
import Derived.Test.YtnmnknkdnjkpjaaGreatDoorEo
import Derived.Test.YtnmnknkdnjkpjaaGreatDoorEi
import Derived.Test.YtnmnknkdnjkpjaaGreatDoorAl
import Derived.Test.YtnmnknkdnjkpjaaGreatDoorSh
import Derived.Test.YtnmnknkdnjkpjaaGreatDoorAw
namespace Go.Proofs.YtnmnknkdnjkpjaaGreatDoor
open Go Go.RowKit Go.BigFrame Go.Maps

section
variable {P : Program} {ops : Array Oper} {S : World → Prop} {o : Oper} {a : Act}
theorem yields_blkg {g : Nat} {C : Array Value} {ty : TypeId} {x : Operand} {d : TypeDesc} {t : TypeId} (hw : Region.wanted o (yielded ops a.tmps) = true) (ho : o.op = .load ty x) (hx : a.eval x = .pointer (some ⟨g, 0, none⟩)) (hu : P.underlying ty = some d) (hd : d.isRow = true) (hi : (P.info? ty).map (·.size) = some C.size)
    (hS : ∀ w, S w → Blk w g t C) : YieldsIf P ops S o (.agg C) a := by
  have h := yieldsIf_load_mid (P := P) (ops := ops) (S := S) (op := o) (a := a) hw ty x ho g 0 hx C.toList d (fun w hw j v hv => by
    rw [Nat.zero_add, (hS w hw).cell]; simpa using hv) hu hd (by simpa using hi)
  simpa using h
end
section
variable {P : Program} {ops : Array Oper} {o : Oper} {rest : List Oper} {a : Act} {w : World} {Q : Exit → Act → World → Prop}
theorem wpList_get_blk (hgd : o.guard = none) (ty : TypeId) (x : Operand) (ho : o.op = .load ty x) (g : Nat) (cs : Array Value) (t : TypeId) (d : TypeDesc) (hx : a.eval x = .pointer (some ⟨g, 0, none⟩))
    (hb : Blk w g t cs) (hu : P.underlying ty = some d) (hd : (match d with | .struct _ | .array _ _ => true | _ => false) = true) (hi : (P.info? ty).map (·.size) = some cs.size)
    (h : wpList P ops Q rest (a.put o.dst (.agg cs)) w) : wpList P ops Q (o :: rest) a w :=
  wpList_load_row hgd ty x ho g hx t cs (0, 0) d hb hu hd hi h
end
theorem pap_fin {W w' : World} {k : Int} {nu is : ByteArray} {fl : List Fld} {n : Nat} {e : Ending} (hl : Hid (fl.length = n)) (h : PapOut W.heap.size k nu is fl e w' ∧ Below W.heap.size W w') :
    ∃ A c, e = .returned (.agg #[.int .i64 k, .string nu, .string is, .slice A n c]) ∧ FieldsAt w' A fl ∧ Below W.heap.size W w' := by
  obtain ⟨⟨v, rfl, ho⟩, hb⟩ := h
  obtain ⟨A, c, rfl, _, hF⟩ := fields_of_own ho rfl
  exact ⟨A, c, by rw [hl.out], hF, hb⟩
end Go.Proofs.YtnmnknkdnjkpjaaGreatDoor

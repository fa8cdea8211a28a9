/- Papers in memory; no walks here. -/
import Derived.Test.YtnmnknkdnjkpjaaGreatDoorS
namespace Go.Proofs.YtnmnknkdnjkpjaaGreatDoor
open Go Go.RowKit Go.BigFrame Go.Maps

structure Pap where
  kind : Int
  number : ByteArray
  issuer : ByteArray
  fA : Option Addr
  fc : Nat
  fields : List Fld
/-- A row of papers in memory. -/
def DocsAt (w : World) (A : Option Addr) (l : List Pap) : Prop :=
  ∀ (k : Nat) (x : Pap), l[k]? = some x → ∃ b off, A = some ⟨b, off, none⟩ ∧ w.cell? ⟨b, off + k * 4, none⟩ = some (.int .i64 x.kind) ∧ w.cell? ⟨b, off + k * 4 + 1, none⟩ = some (.string x.number) ∧
    w.cell? ⟨b, off + k * 4 + 2, none⟩ = some (.string x.issuer) ∧ w.cell? ⟨b, off + k * 4 + 3, none⟩ = some (.slice x.fA x.fields.length x.fc) ∧ FieldsAt w x.fA x.fields ∧ x.fields.length ≤ maxLen ∧ (-9223372036854775808 ≤ x.kind ∧ x.kind ≤ 9223372036854775807)
theorem DocsAt.below {w w' : World} {A : Option Addr} {l : List Pap} (h : DocsAt w A l) (hb : Below w.heap.size w w') : DocsAt w' A l := by
  intro k x hk
  obtain ⟨b, off, e, h0, h1, h2, h3, h4, h5⟩ := h k x hk
  have hlt : b < w.heap.size := World.block_lt_of_cell? w _ h0
  exact ⟨b, off, e, by rw [hb.cell hlt]; exact h0, by rw [hb.cell hlt]; exact h1, by rw [hb.cell hlt]; exact h2, by rw [hb.cell hlt]; exact h3, h4.below hb, h5⟩

end Go.Proofs.YtnmnknkdnjkpjaaGreatDoor

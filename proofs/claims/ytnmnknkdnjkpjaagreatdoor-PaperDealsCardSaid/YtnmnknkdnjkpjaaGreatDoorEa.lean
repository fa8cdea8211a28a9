/- Papers that a function makes; their fields. -/
import Derived.Test.YtnmnknkdnjkpjaaGreatDoorC
namespace Go.Proofs.YtnmnknkdnjkpjaaGreatDoor
open Go Go.RowKit Go.BigFrame Go.Maps

theorem results_row {P : Program} {fn : Func} {p : Tmp} {ty : TypeId} (h : fn.results = #[.cell p ty]) (tmps : Array Value) (w : World) (g : Nat) (t : TypeId) (cs : Array Value) (d : TypeDesc)
    (hp : tmps.getD p undef = .pointer (some ⟨g, 0, none⟩)) (hg : Blk w g t cs)
    (hu : P.underlying ty = some d) (hd : (match d with | .struct _ | .array _ _ => true | _ => false) = true) (hi : (P.info? ty).map (·.size) = some cs.size) :
    (results fn tmps).run P w = .ok (.agg cs) w := by
  have hp' : tmps[p]?.getD undef = .pointer (some ⟨g, 0, none⟩) := by simpa using hp
  simp [results, h, hp', asAddr, run_loadVar_row w g t ty cs (0, 0) d hg hu hd hi]
/-- A paper's cells, its fields in a row of its own. -/
def PapOut (B : Nat) (kind : Int) (number issuer : ByteArray) (fl : List Fld) (e : Ending) (w' : World) : Prop :=
  ∃ v, e = .returned (.agg #[.int .i64 kind, .string number, .string issuer, v]) ∧ w'.ownsRow B 79 2 v fl.length (flF fl)
def invL (d : Dl) : List Fld := [⟨mkB [115, 101, 108, 108, 101, 114], d.seller⟩, ⟨mkB [98, 117, 121, 101, 114], d.buyer⟩, ⟨mkB [99, 117, 114, 114, 101, 110, 99, 121], d.currency⟩, ⟨mkB [115, 117, 109], mkB (Lib.itoa d.amount)⟩,
  ⟨mkB [102, 114, 111, 109], d.frm⟩, ⟨mkB [116, 111], d.toP⟩, ⟨mkB [98, 111, 120, 101, 115], mkB (Lib.itoa d.boxes.length)⟩, ⟨mkB [116, 101, 114, 109], mkB (Lib.itoa d.term)⟩]

/-- A row of texts, two by two, is a row of fields. -/
theorem fields_lit {w : World} {g : Nat} {cs : Array Value} (l : List Fld) (h : Blk w g 9 cs) (e : cs.toList = flF l) : FieldsAt w (some ⟨g, 0, none⟩) l := by
  intro k x hx
  have h0 := fm_get encF_len l k 0 (by decide)
  have h1 := fm_get encF_len l k 1 (by decide)
  rw [hx] at h0 h1
  refine ⟨g, 0, rfl, ?_, ?_⟩
  · rw [h.cell, Nat.zero_add, ← Array.getElem?_toList, e]; exact h0
  · rw [h.cell, Nat.zero_add, ← Array.getElem?_toList, e]; exact h1
end Go.Proofs.YtnmnknkdnjkpjaaGreatDoor

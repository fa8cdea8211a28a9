/- The document's Alike: two papers that say the same. -/
import Derived.Test.YtnmnknkdnjkpjaaGreatDoorBa
namespace Go.Proofs.YtnmnknkdnjkpjaaGreatDoor
open Go Go.RowKit Go.BigFrame Go.Maps

set_option maxRecDepth 100000 in
set_option maxHeartbeats 800000 in
theorem alike_any (kd : Int) (nu is : ByteArray) (A A' : Option Addr) (n c c' : Nat) (l : List Fld) (w : World) (hn : n ≤ 1000000) (hl : Hid (l.length = n)) (hA : Hid (FieldsAt w A l)) (hA' : Hid (FieldsAt w A' l)) :
    Calls Tryz.prog 9 #[.agg #[.int .i64 kd, .string nu, .string is, .slice A n c], .agg #[.int .i64 kd, .string nu, .string is, .slice A' n c']] w fun e w' => e = .returned (.bool true) ∧ Below w.heap.size w w' := by
  obtain ⟨w0, hw0⟩ : ∃ W, Hid ((w.alloc (.cells #[.int .i64 kd, .string nu, .string is, .slice A n c] 32)).alloc (.cells #[.int .i64 kd, .string nu, .string is, .slice A' n c'] 32) = W) := ⟨_, rfl⟩
  have hb0 : Hid (Below w.heap.size w w0) := by rw [← hw0.out]; exact ((Below.refl _ w).alloc (Nat.le_refl _) _).alloc (by simp) _
  have hp0 : Blk w0 w.heap.size 32 #[.int .i64 kd, .string nu, .string is, .slice A n c] := by rw [← hw0.out]; exact (Blk.new w 32 _).alloc _
  have hq0 : Blk w0 (w.heap.size + 1) 32 #[.int .i64 kd, .string nu, .string is, .slice A' n c'] := by rw [← hw0.out]; simpa using Blk.new (w.alloc (.cells #[.int .i64 kd, .string nu, .string is, .slice A n c] 32)) 32 #[.int .i64 kd, .string nu, .string is, .slice A' n c']
  have p0 : w0.cell? ⟨w.heap.size, 0, none⟩ = some (.int .i64 kd) := hp0.cell 0
  have p1 : w0.cell? ⟨w.heap.size, 1, none⟩ = some (.string nu) := hp0.cell 1
  have p2 : w0.cell? ⟨w.heap.size, 2, none⟩ = some (.string is) := hp0.cell 2
  have p3 : w0.cell? ⟨w.heap.size, 3, none⟩ = some (.slice A n c) := hp0.cell 3
  have q0 : w0.cell? ⟨w.heap.size + 1, 0, none⟩ = some (.int .i64 kd) := hq0.cell 0
  have q1 : w0.cell? ⟨w.heap.size + 1, 1, none⟩ = some (.string nu) := hq0.cell 1
  have q2 : w0.cell? ⟨w.heap.size + 1, 2, none⟩ = some (.string is) := hq0.cell 2
  have q3 : w0.cell? ⟨w.heap.size + 1, 3, none⟩ = some (.slice A' n c') := hq0.cell 3
  have hsame := Lib.hid (sameF_any A A' n c c' l w0 hn hl (Lib.hid (hA.out.below hb0.out)) (Lib.hid (hA'.out.below hb0.out)))
  clear hp0 hq0
  go_enter Tryz.func9, Tryz.ntmps9
  go_wp2_with (rw [hw0.out])
  refine hsame.out.mono ?_
  rintro e w1 ⟨rfl, hb1⟩
  have hB1 : Hid (Below w.heap.size w w1) := hb0.out.trans (hb1.mono hb0.out.size)
  clear hb1
  go_wp2_with fail
  go_ret
  exact ⟨rfl, hB1.out⟩
end Go.Proofs.YtnmnknkdnjkpjaaGreatDoor

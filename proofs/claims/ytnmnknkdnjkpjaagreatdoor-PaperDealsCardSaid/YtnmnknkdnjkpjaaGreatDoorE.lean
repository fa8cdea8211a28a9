/- paper.Invoice. -/
import Derived.Test.YtnmnknkdnjkpjaaGreatDoorEa
namespace Go.Proofs.YtnmnknkdnjkpjaaGreatDoor
open Go Go.RowKit Go.BigFrame Go.Maps

set_option maxRecDepth 100000 in
set_option maxHeartbeats 1600000 in
theorem invoice_any (d : Dl) (w : World) (hd : Hid (d.ok w)) (he : Env w) :
    Calls Tryz.prog 10 #[.agg d.cells] w fun e w' => PapOut w.heap.size 0 (mkB [105, 118, 45] ++ d.number) (d.seller) (invL d) e w' ∧ Below w.heap.size w w' := by
  have he' := Lib.hid he
  clear he
  obtain ⟨D, hD⟩ : ∃ X, Hid (d.cells = X) := ⟨_, rfl⟩
  rw [hD.out]
  go_enter Tryz.func10, Tryz.ntmps10
  go_wp2_with fail
  obtain ⟨w0, hw0⟩ : ∃ w0, Hid (w0 = ((w.alloc (.cells D 26)).alloc (.cells #[.int .i64 0, .string ⟨#[]⟩, .string ⟨#[]⟩, .slice none 0 0] 32))) := ⟨_, rfl⟩
  rw [← hw0.out]
  have hb0 : Hid (Below w.heap.size w w0) := by rw [hw0.out]; exact ((Below.refl _ w).alloc (Nat.le_refl _) _).alloc (by simp) _
  have hk0 : Hid (Blk w0 (w.heap.size) 26 D) := by rw [hw0.out]; refine Lib.hid ?_; simpa using ((Blk.new w 26 D).alloc _)
  have hz0 : Hid (Blk w0 (w.heap.size + 1) 32 #[.int .i64 0, .string ⟨#[]⟩, .string ⟨#[]⟩, .slice none 0 0]) := by rw [hw0.out]; refine Lib.hid ?_; simpa using Blk.new (w.alloc (.cells D 26)) 32 #[.int .i64 0, .string ⟨#[]⟩, .string ⟨#[]⟩, .slice none 0 0]
  have hSS : Hid (∀ W, Below (w.heap.size + 1) w0 W → W.cell? ⟨w.heap.size, 0, none⟩ = some (.string d.number) ∧ W.cell? ⟨w.heap.size, 1, none⟩ = some (.string d.seller) ∧ W.cell? ⟨w.heap.size, 2, none⟩ = some (.string d.buyer) ∧ W.cell? ⟨w.heap.size, 7, none⟩ = some (.string d.frm) ∧ W.cell? ⟨w.heap.size, 8, none⟩ = some (.string d.toP) ∧ W.cell? ⟨w.heap.size, 9, none⟩ = some (.string d.currency) ∧ W.cell? ⟨w.heap.size, 10, none⟩ = some (.int .i64 d.amount) ∧ W.cell? ⟨w.heap.size, 11, none⟩ = some (.slice d.A d.boxes.length d.c) ∧ W.cell? ⟨w.heap.size, 12, none⟩ = some (.int .i64 d.term)) := by
    intro W hW
    have g0 := hk0.out.below hW (by omega)
    rw [← hD.out] at g0
    exact ⟨g0.cell 0, g0.cell 1, g0.cell 2, g0.cell 7, g0.cell 8, g0.cell 9, g0.cell 10, g0.cell 11, g0.cell 12⟩
  have hle : w.heap.size + 1 ≤ w0.heap.size := Nat.le_of_lt hz0.out.lt
  have hle' := Lib.hid hle
  clear hle
  have hcat : ¬ 9223372036854775807 < 3 + d.number.size := by have := hd.out.number; omega
  have hL : Hid ((invL d).length = 8) := Lib.hid rfl
  have hbx0 : Hid (-9223372036854775808 ≤ (d.boxes.length : Int)) := by unfold Hid; omega
  have hbx1 : Hid ((d.boxes.length : Int) ≤ 9223372036854775807) := by have := hd.out.most; unfold Hid; omega
  go_region_held3 (fun W => W.cell? ⟨w.heap.size, 0, none⟩ = some (.string d.number) ∧ W.cell? ⟨w.heap.size, 1, none⟩ = some (.string d.seller) ∧ W.cell? ⟨w.heap.size, 2, none⟩ = some (.string d.buyer) ∧ W.cell? ⟨w.heap.size, 7, none⟩ = some (.string d.frm) ∧ W.cell? ⟨w.heap.size, 8, none⟩ = some (.string d.toP) ∧ W.cell? ⟨w.heap.size, 9, none⟩ = some (.string d.currency) ∧ W.cell? ⟨w.heap.size, 10, none⟩ = some (.int .i64 d.amount) ∧ W.cell? ⟨w.heap.size, 11, none⟩ = some (.slice d.A d.boxes.length d.c) ∧ W.cell? ⟨w.heap.size, 12, none⟩ = some (.int .i64 d.term)) (first | exact hSS.out _ (Below.refl _ _).drew | exact hSS.out _ (hB1.mono hle'.out) | exact hSS.out _ (hB2.mono hle'.out) | exact hSS.out _ (hB3.mono hle'.out) | exact hSS.out _ (hB4.mono hle'.out) | exact hSS.out _ ((hB3.alloc hB3.size _).mono hle'.out) | exact hSS.out _ (((((hB4.mono hle'.out).setCell (Nat.le_refl _) _).setCell (Nat.le_refl _) _).setCell (Nat.le_refl _) _).setCell (Nat.le_refl _) _)) (first
    | (go_at_call 33; (with_reducible refine (pdigits_any d.amount _ hd.out.amount.1 hd.out.amount.2 (he'.out.below hb0.out.drew)).mono ?_); rintro e w1 ⟨rfl, hb1⟩; have hB1 : Below w0.heap.size w0 w1 := (Below.refl w0.heap.size w0).drew.trans (hb1.mono (Below.refl w0.heap.size w0).drew.size))
    | (go_at_call 34; (with_reducible refine (pcount_any d.boxes.length _ hbx0.out hbx1.out (he'.out.below (hb0.out.trans (hB1.mono hb0.out.size)))).mono ?_); rintro e w2 ⟨rfl, hb2⟩; have hB2 : Below w0.heap.size w0 w2 := hB1.trans (hb2.mono hB1.size))
    | (go_at_call 34; (with_reducible refine (pcount_any d.term _ hd.out.term.1 hd.out.term.2 (he'.out.below (hb0.out.trans (hB2.mono hb0.out.size)))).mono ?_); rintro e w3 ⟨rfl, hb3⟩; have hB3 : Below w0.heap.size w0 w3 := hB2.trans (hb3.mono hB2.size))
    | (go_at_call 32; (with_reducible refine (fields_any _ 16 8 (invL d) _ hL (by decide) ?_).mono ?_); exact Lib.hid (fields_lit (invL d) (Blk.new _ _ _) rfl); rintro e w4 ⟨v, rfl, hown, hb4⟩; obtain ⟨A4, c4, rfl, hc4, _⟩ := fields_of_own hown hL.out; have hB4 : Below w0.heap.size w0 w4 := (hB3.alloc hB3.size _).trans (hb4.mono (Nat.le_trans hB3.size (by simp))); have hz9 := hz0.out.below hB4 hz0.out.lt; have z0 := hz9.cell 0; have z1 := hz9.cell 1; have z2 := hz9.cell 2; have z3 := hz9.cell 3; have zf := hz9.frozen; simp only [List.getElem?_toArray, List.getElem?_cons_zero, List.getElem?_cons_succ] at z0 z1 z2 z3))
  all_goals
    have hz5 := Lib.hid ((((hz9.set_ 0 (.int .i64 0)).set_ 1 (.string (⟨#[105, 118, 45]⟩ ++ d.number))).set_ 2 (.string d.seller)).set_ 3 (.slice A4 8 c4))
    clear hz9 z0 z1 z2 z3 zf
    go_wp2_with fail
    refine bodyPost_ret (results_row rfl _ _ (w.heap.size + 1) 32 _ _ rfl hz5.out Tryz.underlying32 rfl (by kernel_rfl)) rfl ?_
    have hlt : w.heap.size + 1 < (w3.alloc (.cells (flF (invL d)).toArray 9)).heap.size := by have := hB3.size; have := hz0.out.lt; simp; omega
    refine ⟨⟨_, rfl, own_mono_base (ownsRow_setCell_below (ownsRow_setCell_below (ownsRow_setCell_below (ownsRow_setCell_below hown hlt _) hlt _) hlt _) hlt _) (by have := hB3.size; have := hb0.out.size; simp; omega)⟩, ?_⟩
    exact ((((hb0.out.trans (hB4.mono hb0.out.size)).setCell (by simp <;> omega) _).setCell (by simp <;> omega) _).setCell (by simp <;> omega) _).setCell (by simp <;> omega) _
end Go.Proofs.YtnmnknkdnjkpjaaGreatDoor

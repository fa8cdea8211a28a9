/- paper.Cover, the document's Cover. -/
import Derived.Test.YtnmnknkdnjkpjaaGreatDoorRf
namespace Go.Proofs.YtnmnknkdnjkpjaaGreatDoor
open Go Go.RowKit Go.BigFrame Go.Maps

def coverL (d : Dl) (cu : ByteArray) (am : Int) : List Fld := [⟨mkB [115, 101, 108, 108, 101, 114], d.seller⟩, ⟨mkB [102, 114, 111, 109], d.frm⟩, ⟨mkB [116, 111], d.toP⟩, ⟨mkB [99, 117, 114, 114, 101, 110, 99, 121], cu⟩, ⟨mkB [115, 117, 109], mkB (Lib.itoa am)⟩]

set_option maxRecDepth 100000 in
set_option maxHeartbeats 1600000 in
theorem cover_any (d : Dl) (cu : ByteArray) (am : Int) (w : World) (hd : Hid (d.ok w)) (ham : Hid (i64 am)) (he : Env w) :
    Calls Tryz.prog 15 #[.agg d.cells, .agg #[.string cu, .int .i64 am]] w fun e w' => PapOut w.heap.size 3 (mkB [105, 110, 45] ++ d.number) (d.insurer) (coverL d cu am) e w' ∧ Below w.heap.size w w' := by
  have he' := Lib.hid he
  clear he
  obtain ⟨D, hD⟩ : ∃ X, Hid (d.cells = X) := ⟨_, rfl⟩
  rw [hD.out]
  go_enter Tryz.func15, Tryz.ntmps15
  go_wp2_with fail
  obtain ⟨w0, hw0⟩ : ∃ w0, Hid (w0 = (((w.alloc (.cells D 26)).alloc (.cells #[.string cu, .int .i64 am] 23)).alloc (.cells #[.int .i64 0, .string ⟨#[]⟩, .string ⟨#[]⟩, .slice none 0 0] 32))) := ⟨_, rfl⟩
  rw [← hw0.out]
  have hb0 : Hid (Below w.heap.size w w0) := by rw [hw0.out]; exact (((Below.refl _ w).alloc (Nat.le_refl _) _).alloc (by simp) _).alloc (by simp; omega) _
  have hk0 : Hid (Blk w0 (w.heap.size) 26 D) := by rw [hw0.out]; refine Lib.hid ?_; simpa using (((Blk.new w 26 D).alloc _).alloc _)
  have hk1 : Hid (Blk w0 (w.heap.size + 1) 23 #[.string cu, .int .i64 am]) := by rw [hw0.out]; refine Lib.hid ?_; simpa using ((Blk.new (w.alloc (.cells D 26)) 23 #[.string cu, .int .i64 am]).alloc _)
  have hz0 : Hid (Blk w0 (w.heap.size + 1 + 1) 32 #[.int .i64 0, .string ⟨#[]⟩, .string ⟨#[]⟩, .slice none 0 0]) := by rw [hw0.out]; refine Lib.hid ?_; simpa using Blk.new ((w.alloc (.cells D 26)).alloc (.cells #[.string cu, .int .i64 am] 23)) 32 #[.int .i64 0, .string ⟨#[]⟩, .string ⟨#[]⟩, .slice none 0 0]
  have hSS : Hid (∀ W, Below (w.heap.size + 1 + 1) w0 W → W.cell? ⟨w.heap.size, 0, none⟩ = some (.string d.number) ∧ W.cell? ⟨w.heap.size, 6, none⟩ = some (.string d.insurer) ∧ W.cell? ⟨w.heap.size, 1, none⟩ = some (.string d.seller) ∧ W.cell? ⟨w.heap.size, 7, none⟩ = some (.string d.frm) ∧ W.cell? ⟨w.heap.size, 8, none⟩ = some (.string d.toP) ∧ W.cell? ⟨w.heap.size + 1, 0, none⟩ = some (.string cu) ∧ W.cell? ⟨w.heap.size + 1, 1, none⟩ = some (.int .i64 am)) := by
    intro W hW
    have g0 := hk0.out.below hW (by omega)
    rw [← hD.out] at g0
    have g1 := hk1.out.below hW (by omega)
    exact ⟨g0.cell 0, g0.cell 6, g0.cell 1, g0.cell 7, g0.cell 8, g1.cell 0, g1.cell 1⟩
  have hle : w.heap.size + 1 + 1 ≤ w0.heap.size := Nat.le_of_lt hz0.out.lt
  have hle' := Lib.hid hle
  clear hle
  have hcat : ¬ 9223372036854775807 < 3 + d.number.size := by have := hd.out.number; omega
  have hL : Hid ((coverL d cu am).length = 5) := Lib.hid rfl
  go_region_held3 (fun W => W.cell? ⟨w.heap.size, 0, none⟩ = some (.string d.number) ∧ W.cell? ⟨w.heap.size, 6, none⟩ = some (.string d.insurer) ∧ W.cell? ⟨w.heap.size, 1, none⟩ = some (.string d.seller) ∧ W.cell? ⟨w.heap.size, 7, none⟩ = some (.string d.frm) ∧ W.cell? ⟨w.heap.size, 8, none⟩ = some (.string d.toP) ∧ W.cell? ⟨w.heap.size + 1, 0, none⟩ = some (.string cu) ∧ W.cell? ⟨w.heap.size + 1, 1, none⟩ = some (.int .i64 am)) (first | exact hSS.out _ (Below.refl _ _).drew | exact hSS.out _ (hB1.mono hle'.out) | exact hSS.out _ (hB2.mono hle'.out) | exact hSS.out _ ((hB1.alloc hB1.size _).mono hle'.out) | exact hSS.out _ (((((hB2.mono hle'.out).setCell (Nat.le_refl _) _).setCell (Nat.le_refl _) _).setCell (Nat.le_refl _) _).setCell (Nat.le_refl _) _)) (first
    | (go_at_call 33; (with_reducible refine (pdigits_any am _ ham.out.1 ham.out.2 (he'.out.below hb0.out.drew)).mono ?_); rintro e w1 ⟨rfl, hb1⟩; have hB1 : Below w0.heap.size w0 w1 := (Below.refl w0.heap.size w0).drew.trans (hb1.mono (Below.refl w0.heap.size w0).drew.size))
    | (go_at_call 32; (with_reducible refine (fields_any _ 10 5 (coverL d cu am) _ hL (by decide) ?_).mono ?_); exact Lib.hid (fields_lit (coverL d cu am) (Blk.new _ _ _) rfl); rintro e w2 ⟨v, rfl, hown, hb2⟩; obtain ⟨A4, c4, rfl, hc4, _⟩ := fields_of_own hown hL.out; have hB2 : Below w0.heap.size w0 w2 := (hB1.alloc hB1.size _).trans (hb2.mono (Nat.le_trans hB1.size (by simp))); have hz9 := hz0.out.below hB2 hz0.out.lt; have z0 := hz9.cell 0; have z1 := hz9.cell 1; have z2 := hz9.cell 2; have z3 := hz9.cell 3; have zf := hz9.frozen; simp only [List.getElem?_toArray, List.getElem?_cons_zero, List.getElem?_cons_succ] at z0 z1 z2 z3))
  all_goals
    have hz5 := Lib.hid ((((hz9.set_ 0 (.int .i64 3)).set_ 1 (.string (⟨#[105, 110, 45]⟩ ++ d.number))).set_ 2 (.string d.insurer)).set_ 3 (.slice A4 5 c4))
    clear hz9 z0 z1 z2 z3 zf
    go_wp2_with fail
    refine bodyPost_ret (results_row rfl _ _ (w.heap.size + 1 + 1) 32 _ _ rfl hz5.out Tryz.underlying32 rfl (by kernel_rfl)) rfl ?_
    have hlt : w.heap.size + 1 + 1 < (w1.alloc (.cells (flF (coverL d cu am)).toArray 9)).heap.size := by have := hB1.size; have := hz0.out.lt; simp; omega
    refine ⟨⟨_, rfl, own_mono_base (ownsRow_setCell_below (ownsRow_setCell_below (ownsRow_setCell_below (ownsRow_setCell_below hown hlt _) hlt _) hlt _) hlt _) (by have := hB1.size; have := hb0.out.size; simp; omega)⟩, ?_⟩
    exact ((((hb0.out.trans (hB2.mono hb0.out.size)).setCell (by simp <;> omega) _).setCell (by simp <;> omega) _).setCell (by simp <;> omega) _).setCell (by simp <;> omega) _
set_option maxRecDepth 100000 in
set_option maxHeartbeats 1600000 in
theorem rcover_any (d : Dl) (cu : ByteArray) (am : Int) (w : World) (hd : Hid (d.ok w)) (ham : Hid (i64 am)) (he : Env w) :
    Calls Tryz.prog 16 #[.agg d.cells, .agg #[.string cu, .int .i64 am]] w fun e w' => PapOut w.heap.size 3 (mkB [105, 110, 45] ++ d.number) (d.insurer) (coverL d cu am) e w' ∧ Below w.heap.size w w' := by
  have he' := Lib.hid he
  clear he
  obtain ⟨D, hD⟩ : ∃ X, Hid (d.cells = X) := ⟨_, rfl⟩
  rw [hD.out]
  go_enter Tryz.func16, Tryz.ntmps16
  go_wp2_with fail
  obtain ⟨w0, hw0⟩ : ∃ w0, Hid (w0 = (((w.alloc (.cells D 26)).alloc (.cells #[.string cu, .int .i64 am] 23)).alloc (.cells #[.int .i64 0, .string ⟨#[]⟩, .string ⟨#[]⟩, .slice none 0 0] 32))) := ⟨_, rfl⟩
  rw [← hw0.out]
  have hb0 : Hid (Below w.heap.size w w0) := by rw [hw0.out]; exact (((Below.refl _ w).alloc (Nat.le_refl _) _).alloc (by simp) _).alloc (by simp; omega) _
  have hk0 : Hid (Blk w0 (w.heap.size) 26 D) := by rw [hw0.out]; refine Lib.hid ?_; simpa using (((Blk.new w 26 D).alloc _).alloc _)
  have hk1 : Hid (Blk w0 (w.heap.size + 1) 23 #[.string cu, .int .i64 am]) := by rw [hw0.out]; refine Lib.hid ?_; simpa using ((Blk.new (w.alloc (.cells D 26)) 23 #[.string cu, .int .i64 am]).alloc _)
  have hz0 : Hid (Blk w0 (w.heap.size + 1 + 1) 32 #[.int .i64 0, .string ⟨#[]⟩, .string ⟨#[]⟩, .slice none 0 0]) := by rw [hw0.out]; refine Lib.hid ?_; simpa using Blk.new ((w.alloc (.cells D 26)).alloc (.cells #[.string cu, .int .i64 am] 23)) 32 #[.int .i64 0, .string ⟨#[]⟩, .string ⟨#[]⟩, .slice none 0 0]
  have hSS : Hid (∀ W, Below (w.heap.size + 1 + 1) w0 W → W.cell? ⟨w.heap.size, 0, none⟩ = some (.string d.number) ∧ W.cell? ⟨w.heap.size, 6, none⟩ = some (.string d.insurer) ∧ W.cell? ⟨w.heap.size, 1, none⟩ = some (.string d.seller) ∧ W.cell? ⟨w.heap.size, 7, none⟩ = some (.string d.frm) ∧ W.cell? ⟨w.heap.size, 8, none⟩ = some (.string d.toP) ∧ W.cell? ⟨w.heap.size + 1, 0, none⟩ = some (.string cu) ∧ W.cell? ⟨w.heap.size + 1, 1, none⟩ = some (.int .i64 am)) := by
    intro W hW
    have g0 := hk0.out.below hW (by omega)
    rw [← hD.out] at g0
    have g1 := hk1.out.below hW (by omega)
    exact ⟨g0.cell 0, g0.cell 6, g0.cell 1, g0.cell 7, g0.cell 8, g1.cell 0, g1.cell 1⟩
  have hle : w.heap.size + 1 + 1 ≤ w0.heap.size := Nat.le_of_lt hz0.out.lt
  have hle' := Lib.hid hle
  clear hle
  have hcat : ¬ 9223372036854775807 < 3 + d.number.size := by have := hd.out.number; omega
  have hL : Hid ((coverL d cu am).length = 5) := Lib.hid rfl
  go_region_held3 (fun W => W.cell? ⟨w.heap.size, 0, none⟩ = some (.string d.number) ∧ W.cell? ⟨w.heap.size, 6, none⟩ = some (.string d.insurer) ∧ W.cell? ⟨w.heap.size, 1, none⟩ = some (.string d.seller) ∧ W.cell? ⟨w.heap.size, 7, none⟩ = some (.string d.frm) ∧ W.cell? ⟨w.heap.size, 8, none⟩ = some (.string d.toP) ∧ W.cell? ⟨w.heap.size + 1, 0, none⟩ = some (.string cu) ∧ W.cell? ⟨w.heap.size + 1, 1, none⟩ = some (.int .i64 am)) (first | exact hSS.out _ (Below.refl _ _).drew | exact hSS.out _ (hB1.mono hle'.out) | exact hSS.out _ (hB2.mono hle'.out) | exact hSS.out _ (hB3.mono hle'.out) | exact hSS.out _ (hB4.mono hle'.out) | exact hSS.out _ (hB5.mono hle'.out) | exact hSS.out _ ((hB5.alloc hB5.size _).mono hle'.out) | exact hSS.out _ ((((((hB5.alloc hB5.size _).mono hle'.out).setCell (Nat.le_refl _) _).setCell (Nat.le_refl _) _).setCell (Nat.le_refl _) _).setCell (Nat.le_refl _) _)) (first
    | (go_at_call 35; (with_reducible refine (rfield_any ⟨#[115, 101, 108, 108, 101, 114]⟩ (d.seller) _).mono ?_); rintro e w1 ⟨rfl, hb1⟩; have hB1 : Below w0.heap.size w0 w1 := (Below.refl w0.heap.size w0).drew.trans (hb1.mono (Below.refl w0.heap.size w0).drew.size))
    | (go_at_call 35; (with_reducible refine (rfield_any ⟨#[102, 114, 111, 109]⟩ (d.frm) _).mono ?_); rintro e w2 ⟨rfl, hb2⟩; have hB2 : Below w0.heap.size w0 w2 := hB1.trans (hb2.mono hB1.size))
    | (go_at_call 35; (with_reducible refine (rfield_any ⟨#[116, 111]⟩ (d.toP) _).mono ?_); rintro e w3 ⟨rfl, hb3⟩; have hB3 : Below w0.heap.size w0 w3 := hB2.trans (hb3.mono hB2.size))
    | (go_at_call 35; (with_reducible refine (rfield_any ⟨#[99, 117, 114, 114, 101, 110, 99, 121]⟩ (cu) _).mono ?_); rintro e w4 ⟨rfl, hb4⟩; have hB4 : Below w0.heap.size w0 w4 := hB3.trans (hb4.mono hB3.size))
    | (go_at_call 36; (with_reducible refine (rnum_any ⟨#[115, 117, 109]⟩ (am) _ ham.out.1 ham.out.2).mono ?_); rintro e w5 ⟨rfl, hb5⟩; have hB5 : Below w0.heap.size w0 w5 := hB4.trans (hb5.mono hB4.size); have hz9 := hz0.out.below (hB5.alloc hB5.size (.cells #[.string ⟨#[115, 101, 108, 108, 101, 114]⟩, .string (d.seller), .string ⟨#[102, 114, 111, 109]⟩, .string (d.frm), .string ⟨#[116, 111]⟩, .string (d.toP), .string ⟨#[99, 117, 114, 114, 101, 110, 99, 121]⟩, .string (cu), .string ⟨#[115, 117, 109]⟩, .string (mkB (Lib.itoa am))] 79)) hz0.out.lt; have z0 := hz9.cell 0; have z1 := hz9.cell 1; have z2 := hz9.cell 2; have z3 := hz9.cell 3; have zf := hz9.frozen; simp only [List.getElem?_toArray, List.getElem?_cons_zero, List.getElem?_cons_succ] at z0 z1 z2 z3))
  all_goals
    have hz5 := Lib.hid ((((hz9.set_ 0 (.int .i64 3)).set_ 1 (.string (⟨#[105, 110, 45]⟩ ++ d.number))).set_ 2 (.string d.insurer)).set_ 3 (.slice (some ⟨w5.heap.size, 0, none⟩) 5 5))
    clear hz9 z0 z1 z2 z3 zf
    go_wp2_with fail
    refine bodyPost_ret (results_row rfl _ _ (w.heap.size + 1 + 1) 32 _ _ rfl hz5.out Tryz.underlying32 rfl (by kernel_rfl)) rfl ?_
    have hlt : w.heap.size + 1 + 1 < w5.heap.size := by have := hB5.size; have := hz0.out.lt; omega
    have hown := World.ownsRow_lit (size := 2) w5 (base := w5.heap.size) (e := 79) (flF (coverL d cu am)).toArray 5 (Nat.le_refl _) (by decide) rfl
    refine ⟨⟨_, rfl, own_mono_base (ownsRow_setCell_below (ownsRow_setCell_below (ownsRow_setCell_below (ownsRow_setCell_below hown hlt _) hlt _) hlt _) hlt _) (by have := hB5.size; have := hb0.out.size; omega)⟩, ?_⟩
    exact (((((hb0.out.trans (hB5.mono hb0.out.size)).alloc (by have := hB5.size; have := hb0.out.size; omega) _).setCell (by simp <;> omega) _).setCell (by simp <;> omega) _).setCell (by simp <;> omega) _).setCell (by simp <;> omega) _
end Go.Proofs.YtnmnknkdnjkpjaaGreatDoor

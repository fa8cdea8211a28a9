/- The document's Packing. -/
import Derived.Test.YtnmnknkdnjkpjaaGreatDoorRm
import Derived.Test.YtnmnknkdnjkpjaaGreatDoorF
namespace Go.Proofs.YtnmnknkdnjkpjaaGreatDoor
open Go Go.RowKit Go.BigFrame Go.Maps

set_option maxRecDepth 100000 in
set_option maxHeartbeats 1600000 in
theorem rpacking_any (d : Dl) (w : World) (hd : Hid (d.ok w)) (he : Env w) :
    Calls Tryz.prog 13 #[.agg d.cells, .string (mkB (listT d.boxes))] w fun e w' => PapOut w.heap.size 1 (mkB [112, 107, 45] ++ d.number) (d.seller) (packL d) e w' ∧ Below w.heap.size w w' := by
  have he' := Lib.hid he
  clear he
  obtain ⟨D, hD⟩ : ∃ X, Hid (d.cells = X) := ⟨_, rfl⟩
  rw [hD.out]
  go_enter Tryz.func13, Tryz.ntmps13
  go_wp2_with fail
  obtain ⟨w0, hw0⟩ : ∃ w0, Hid (w0 = ((w.alloc (.cells D 26)).alloc (.cells #[.int .i64 0, .string ⟨#[]⟩, .string ⟨#[]⟩, .slice none 0 0] 32))) := ⟨_, rfl⟩
  rw [← hw0.out]
  have hb0 : Hid (Below w.heap.size w w0) := by rw [hw0.out]; exact ((Below.refl _ w).alloc (Nat.le_refl _) _).alloc (by simp) _
  have hk0 : Hid (Blk w0 (w.heap.size) 26 D) := by rw [hw0.out]; refine Lib.hid ?_; simpa using ((Blk.new w 26 D).alloc _)
  have hz0 : Hid (Blk w0 (w.heap.size + 1) 32 #[.int .i64 0, .string ⟨#[]⟩, .string ⟨#[]⟩, .slice none 0 0]) := by rw [hw0.out]; refine Lib.hid ?_; simpa using Blk.new (w.alloc (.cells D 26)) 32 #[.int .i64 0, .string ⟨#[]⟩, .string ⟨#[]⟩, .slice none 0 0]
  have hSS : Hid (∀ W, Below (w.heap.size + 1) w0 W → W.cell? ⟨w.heap.size, 0, none⟩ = some (.string d.number) ∧ W.cell? ⟨w.heap.size, 1, none⟩ = some (.string d.seller) ∧ W.cell? ⟨w.heap.size, 2, none⟩ = some (.string d.buyer) ∧ W.cell? ⟨w.heap.size, 3, none⟩ = some (.string d.carrier) ∧ W.cell? ⟨w.heap.size, 4, none⟩ = some (.string d.issuer) ∧ W.cell? ⟨w.heap.size, 5, none⟩ = some (.string d.house) ∧ W.cell? ⟨w.heap.size, 6, none⟩ = some (.string d.insurer) ∧ W.cell? ⟨w.heap.size, 7, none⟩ = some (.string d.frm) ∧ W.cell? ⟨w.heap.size, 8, none⟩ = some (.string d.toP) ∧ W.cell? ⟨w.heap.size, 9, none⟩ = some (.string d.currency) ∧ W.cell? ⟨w.heap.size, 10, none⟩ = some (.int .i64 d.amount) ∧ W.cell? ⟨w.heap.size, 11, none⟩ = some (.slice d.A d.boxes.length d.c) ∧ W.cell? ⟨w.heap.size, 12, none⟩ = some (.int .i64 d.term) ∧ W.cell? ⟨w.heap.size, 13, none⟩ = some (.int .i64 d.latest) ∧ W.cell? ⟨w.heap.size, 14, none⟩ = some (.int .i64 d.expiry) ∧ W.cell? ⟨w.heap.size, 15, none⟩ = some (.int .i64 d.tenor) ∧ W.cell? ⟨w.heap.size, 16, none⟩ = some (.int .i64 d.duty)) := by
    intro W hW
    have g0 := hk0.out.below hW (by omega)
    rw [← hD.out] at g0
    exact ⟨g0.cell 0, g0.cell 1, g0.cell 2, g0.cell 3, g0.cell 4, g0.cell 5, g0.cell 6, g0.cell 7, g0.cell 8, g0.cell 9, g0.cell 10, g0.cell 11, g0.cell 12, g0.cell 13, g0.cell 14, g0.cell 15, g0.cell 16⟩
  have hle : w.heap.size + 1 ≤ w0.heap.size := Nat.le_of_lt hz0.out.lt
  have hle' := Lib.hid hle
  clear hle
  have hcat : ¬ 9223372036854775807 < 3 + d.number.size := by have := hd.out.number; omega
  have hL : Hid ((packL d).length = 6) := Lib.hid rfl
  have hbx0 : Hid (-9223372036854775808 ≤ (d.boxes.length : Int)) := by unfold Hid; omega
  have hbx1 : Hid ((d.boxes.length : Int) ≤ 9223372036854775807) := by have := hd.out.most; unfold Hid; omega
  have hBx : Hid (BoxesOk w d.A d.boxes) := ⟨hd.out.at_, hd.out.marks⟩
  have hmost := Lib.hid hd.out.most
  have hms : Hid (∀ x ∈ d.boxes, x.mark.size ≤ 3000) := fun x hx => (hd.out.marks x hx).1
  have hmarks : Hid (∀ W, Below w.heap.size w W → Calls Tryz.prog 39 #[.agg #[.string d.number, .string d.seller, .string d.buyer, .string d.carrier, .string d.issuer, .string d.house, .string d.insurer, .string d.frm, .string d.toP, .string d.currency, .int .i64 d.amount, .slice d.A d.boxes.length d.c, .int .i64 d.term, .int .i64 d.latest, .int .i64 d.expiry, .int .i64 d.tenor, .int .i64 d.duty]] W fun e w' => ∃ A c, e = .returned (.slice A d.boxes.length c) ∧ d.boxes.length ≤ c ∧ StrsAt w' A (d.boxes.map Bx.mark) ∧ Below W.heap.size W w') := fun W hW => rmarks_any d W (Lib.hid (hBx.out.below hW)) hmost.out
  go_region_held3 (fun W => W.cell? ⟨w.heap.size, 0, none⟩ = some (.string d.number) ∧ W.cell? ⟨w.heap.size, 1, none⟩ = some (.string d.seller) ∧ W.cell? ⟨w.heap.size, 2, none⟩ = some (.string d.buyer) ∧ W.cell? ⟨w.heap.size, 3, none⟩ = some (.string d.carrier) ∧ W.cell? ⟨w.heap.size, 4, none⟩ = some (.string d.issuer) ∧ W.cell? ⟨w.heap.size, 5, none⟩ = some (.string d.house) ∧ W.cell? ⟨w.heap.size, 6, none⟩ = some (.string d.insurer) ∧ W.cell? ⟨w.heap.size, 7, none⟩ = some (.string d.frm) ∧ W.cell? ⟨w.heap.size, 8, none⟩ = some (.string d.toP) ∧ W.cell? ⟨w.heap.size, 9, none⟩ = some (.string d.currency) ∧ W.cell? ⟨w.heap.size, 10, none⟩ = some (.int .i64 d.amount) ∧ W.cell? ⟨w.heap.size, 11, none⟩ = some (.slice d.A d.boxes.length d.c) ∧ W.cell? ⟨w.heap.size, 12, none⟩ = some (.int .i64 d.term) ∧ W.cell? ⟨w.heap.size, 13, none⟩ = some (.int .i64 d.latest) ∧ W.cell? ⟨w.heap.size, 14, none⟩ = some (.int .i64 d.expiry) ∧ W.cell? ⟨w.heap.size, 15, none⟩ = some (.int .i64 d.tenor) ∧ W.cell? ⟨w.heap.size, 16, none⟩ = some (.int .i64 d.duty)) (first | exact hSS.out _ (Below.refl _ _).drew | exact hSS.out _ (hB1.mono hle'.out) | exact hSS.out _ (hB2.mono hle'.out) | exact hSS.out _ (hB3.mono hle'.out) | exact hSS.out _ (hB4.mono hle'.out) | exact hSS.out _ (hB5.mono hle'.out) | exact hSS.out _ (hB6.mono hle'.out) | exact hSS.out _ (hB7.mono hle'.out) | exact hSS.out _ (hB8.mono hle'.out) | exact hSS.out _ ((hB8.alloc hB8.size _).mono hle'.out) | exact hSS.out _ ((((((hB8.alloc hB8.size _).mono hle'.out).setCell (Nat.le_refl _) _).setCell (Nat.le_refl _) _).setCell (Nat.le_refl _) _).setCell (Nat.le_refl _) _)) (first
    | (go_at_call 35; (with_reducible refine (rfield_any ⟨#[115, 101, 108, 108, 101, 114]⟩ (d.seller) _).mono ?_); rintro e w1 ⟨rfl, hb1⟩; have hB1 : Below w0.heap.size w0 w1 := (Below.refl w0.heap.size w0).drew.trans (hb1.mono (Below.refl w0.heap.size w0).drew.size))
    | (go_at_call 35; (with_reducible refine (rfield_any ⟨#[102, 114, 111, 109]⟩ (d.frm) _).mono ?_); rintro e w2 ⟨rfl, hb2⟩; have hB2 : Below w0.heap.size w0 w2 := hB1.trans (hb2.mono hB1.size))
    | (go_at_call 35; (with_reducible refine (rfield_any ⟨#[116, 111]⟩ (d.toP) _).mono ?_); rintro e w3 ⟨rfl, hb3⟩; have hB3 : Below w0.heap.size w0 w3 := hB2.trans (hb3.mono hB2.size))
    | (go_at_call 36; (with_reducible refine (rnum_any ⟨#[98, 111, 120, 101, 115]⟩ ((d.boxes.length : Int)) _ hbx0.out hbx1.out).mono ?_); rintro e w4 ⟨rfl, hb4⟩; have hB4 : Below w0.heap.size w0 w4 := hB3.trans (hb4.mono hB3.size))
    | (go_at_call 39; (with_reducible refine (hmarks.out _ (hb0.out.trans (hB4.mono hb0.out.size))).mono ?_); rintro e w5 ⟨Am, cm, rfl, hcm, hsm, hb5⟩; have hB5 : Below w0.heap.size w0 w5 := hB4.trans (hb5.mono hB4.size))
    | (go_at_call 38; (with_reducible refine (rjoinm_any Am d.boxes.length cm d.boxes _ hmost.out (Lib.hid rfl) hms (Lib.hid hsm)).mono ?_); rintro e w6 ⟨rfl, hb6⟩; have hB6 : Below w0.heap.size w0 w6 := hB5.trans (hb6.mono hB5.size))
    | (go_at_call 35; (with_reducible refine (rfield_any ⟨#[109, 97, 114, 107, 115]⟩ (mkB (marksT d.boxes)) _).mono ?_); rintro e w7 ⟨rfl, hb7⟩; have hB7 : Below w0.heap.size w0 w7 := hB6.trans (hb7.mono hB6.size))
    | (go_at_call 35; (with_reducible refine (rfield_any ⟨#[99, 111, 110, 116, 101, 110, 116]⟩ (mkB (listT d.boxes)) _).mono ?_); rintro e w8 ⟨rfl, hb8⟩; have hB8 : Below w0.heap.size w0 w8 := hB7.trans (hb8.mono hB7.size); have hz9 := hz0.out.below (hB8.alloc hB8.size (.cells #[.string ⟨#[115, 101, 108, 108, 101, 114]⟩, .string (d.seller), .string ⟨#[102, 114, 111, 109]⟩, .string (d.frm), .string ⟨#[116, 111]⟩, .string (d.toP), .string ⟨#[98, 111, 120, 101, 115]⟩, .string (mkB (Lib.itoa (d.boxes.length : Int))), .string ⟨#[109, 97, 114, 107, 115]⟩, .string (mkB (marksT d.boxes)), .string ⟨#[99, 111, 110, 116, 101, 110, 116]⟩, .string (mkB (listT d.boxes))] 79)) hz0.out.lt; have z0 := hz9.cell 0; have z1 := hz9.cell 1; have z2 := hz9.cell 2; have z3 := hz9.cell 3; have zf := hz9.frozen; simp only [List.getElem?_toArray, List.getElem?_cons_zero, List.getElem?_cons_succ] at z0 z1 z2 z3))
  all_goals
    have hz5 := Lib.hid ((((hz9.set_ 0 (.int .i64 1)).set_ 1 (.string (⟨#[112, 107, 45]⟩ ++ d.number))).set_ 2 (.string d.seller)).set_ 3 (.slice (some ⟨w8.heap.size, 0, none⟩) 6 6))
    clear hz9 z0 z1 z2 z3 zf
    go_wp2_with fail
    refine bodyPost_ret (results_row rfl _ _ (w.heap.size + 1) 32 _ _ rfl hz5.out Tryz.underlying32 rfl (by kernel_rfl)) rfl ?_
    have hlt : w.heap.size + 1 < w8.heap.size := by have := hB8.size; have := hz0.out.lt; omega
    have hown := World.ownsRow_lit (size := 2) w8 (base := w8.heap.size) (e := 79) (flF (packL d)).toArray 6 (Nat.le_refl _) (by decide) rfl
    refine ⟨⟨_, rfl, own_mono_base (ownsRow_setCell_below (ownsRow_setCell_below (ownsRow_setCell_below (ownsRow_setCell_below hown hlt _) hlt _) hlt _) hlt _) (by have := hB8.size; have := hb0.out.size; omega)⟩, ?_⟩
    exact (((((hb0.out.trans (hB8.mono hb0.out.size)).alloc (by have := hB8.size; have := hb0.out.size; omega) _).setCell (by simp <;> omega) _).setCell (by simp <;> omega) _).setCell (by simp <;> omega) _).setCell (by simp <;> omega) _
end Go.Proofs.YtnmnknkdnjkpjaaGreatDoor

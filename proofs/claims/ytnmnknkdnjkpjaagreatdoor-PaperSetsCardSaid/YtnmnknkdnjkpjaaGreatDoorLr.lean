/- Lading, the document's, clean true. -/
import Derived.Test.YtnmnknkdnjkpjaaGreatDoorBj
namespace Go.Proofs.YtnmnknkdnjkpjaaGreatDoor
open Go Go.RowKit Go.BigFrame Go.Maps

set_option maxRecDepth 100000 in
set_option maxHeartbeats 1600000 in
theorem rlading_true (b : Bl) (w : World) (hd : Hid (b.ok w)) (he : Env w) :
    Calls Tryz.prog 20 #[.agg (b.cells true)] w fun e w' => PapOut w.heap.size 2 (b.number) (b.carrier) (ladingL b true) e w' ∧ Below w.heap.size w w' := by
  have he' := Lib.hid he
  clear he
  obtain ⟨V, hV⟩ : ∃ X, Hid ((b.cells true) = X) := ⟨_, rfl⟩
  rw [hV.out]
  have hv8 : V[8]? = some (.bool true) := by rw [← hV.out]; rfl
  go_enter Tryz.func20, Tryz.ntmps20
  go_wp2_with fail
  obtain ⟨w0, hw0⟩ : ∃ w0, Hid (w0 = ((w.alloc (.cells V 40)).alloc (.cells #[.int .i64 0, .string ⟨#[]⟩, .string ⟨#[]⟩, .slice none 0 0] 32))) := ⟨_, rfl⟩
  rw [← hw0.out]
  have hb0 : Hid (Below w.heap.size w w0) := by rw [hw0.out]; exact ((Below.refl _ w).alloc (Nat.le_refl _) _).alloc (by simp) _
  have hk0 : Hid (Blk w0 (w.heap.size) 40 V) := by rw [hw0.out]; refine Lib.hid ?_; simpa using ((Blk.new w 40 V).alloc _)
  have hz0 : Hid (Blk w0 (w.heap.size + 1) 32 #[.int .i64 0, .string ⟨#[]⟩, .string ⟨#[]⟩, .slice none 0 0]) := by rw [hw0.out]; refine Lib.hid ?_; simpa using Blk.new (w.alloc (.cells V 40)) 32 #[.int .i64 0, .string ⟨#[]⟩, .string ⟨#[]⟩, .slice none 0 0]
  have hSS : Hid (∀ W, Below (w.heap.size + 1) w0 W → W.cell? ⟨w.heap.size, 0, none⟩ = some (.string b.number) ∧ W.cell? ⟨w.heap.size, 1, none⟩ = some (.string b.carrier) ∧ W.cell? ⟨w.heap.size, 2, none⟩ = some (.string b.shipper) ∧ W.cell? ⟨w.heap.size, 3, none⟩ = some (.string b.frm) ∧ W.cell? ⟨w.heap.size, 4, none⟩ = some (.string b.toP) ∧ W.cell? ⟨w.heap.size, 5, none⟩ = some (.slice b.bA b.boxes.length b.bc) ∧ W.cell? ⟨w.heap.size, 6, none⟩ = some (.slice b.pA b.parents.length b.pc) ∧ W.cell? ⟨w.heap.size, 7, none⟩ = some (.int .i64 b.issued)) := by
    intro W hW
    have g0 := hk0.out.below hW (by omega)
    rw [← hV.out] at g0
    exact ⟨g0.cell 0, g0.cell 1, g0.cell 2, g0.cell 3, g0.cell 4, g0.cell 5, g0.cell 6, g0.cell 7⟩
  have hle : w.heap.size + 1 ≤ w0.heap.size := Nat.le_of_lt hz0.out.lt
  have hle' := Lib.hid hle
  clear hle
  have hL : Hid ((ladingL b true).length = 9) := Lib.hid rfl
  have hbx0 : Hid (-9223372036854775808 ≤ (b.boxes.length : Int)) := by unfold Hid; omega
  have hbx1 : Hid ((b.boxes.length : Int) ≤ 9223372036854775807) := by have := hd.out.bn; unfold Hid; omega
  go_region_held3 (fun W => W.cell? ⟨w.heap.size, 0, none⟩ = some (.string b.number) ∧ W.cell? ⟨w.heap.size, 1, none⟩ = some (.string b.carrier) ∧ W.cell? ⟨w.heap.size, 2, none⟩ = some (.string b.shipper) ∧ W.cell? ⟨w.heap.size, 3, none⟩ = some (.string b.frm) ∧ W.cell? ⟨w.heap.size, 4, none⟩ = some (.string b.toP) ∧ W.cell? ⟨w.heap.size, 5, none⟩ = some (.slice b.bA b.boxes.length b.bc) ∧ W.cell? ⟨w.heap.size, 6, none⟩ = some (.slice b.pA b.parents.length b.pc) ∧ W.cell? ⟨w.heap.size, 7, none⟩ = some (.int .i64 b.issued)) (first | exact hSS.out _ (Below.refl _ _).drew | exact hSS.out _ (hB1.mono hle'.out) | exact hSS.out _ (hB2.mono hle'.out) | exact hSS.out _ (hB3.mono hle'.out) | exact hSS.out _ (hB4.mono hle'.out) | exact hSS.out _ (hB5.mono hle'.out) | exact hSS.out _ (hB6.mono hle'.out) | exact hSS.out _ (hB7.mono hle'.out) | exact hSS.out _ (hB8.mono hle'.out) | exact hSS.out _ (hB9.mono hle'.out) | exact hSS.out _ (hB10.mono hle'.out) | exact hSS.out _ (hB11.mono hle'.out) | exact hSS.out _ ((hB11.alloc hB11.size _).mono hle'.out) | exact hSS.out _ ((((((hB11.alloc hB11.size _).mono hle'.out).setCell (Nat.le_refl _) _).setCell (Nat.le_refl _) _).setCell (Nat.le_refl _) _).setCell (Nat.le_refl _) _)) (first
    | (go_at_call 35; (with_reducible refine (rfield_any ⟨#[99, 97, 114, 114, 105, 101, 114]⟩ (b.carrier) _).mono ?_); rintro e w1 ⟨rfl, hb1⟩; have hB1 : Below w0.heap.size w0 w1 := (Below.refl w0.heap.size w0).drew.trans (hb1.mono (Below.refl w0.heap.size w0).drew.size))
    | (go_at_call 35; (with_reducible refine (rfield_any ⟨#[115, 104, 105, 112, 112, 101, 114]⟩ (b.shipper) _).mono ?_); rintro e w2 ⟨rfl, hb2⟩; have hB2 : Below w0.heap.size w0 w2 := hB1.trans (hb2.mono hB1.size))
    | (go_at_call 35; (with_reducible refine (rfield_any ⟨#[102, 114, 111, 109]⟩ (b.frm) _).mono ?_); rintro e w3 ⟨rfl, hb3⟩; have hB3 : Below w0.heap.size w0 w3 := hB2.trans (hb3.mono hB2.size))
    | (go_at_call 35; (with_reducible refine (rfield_any ⟨#[116, 111]⟩ (b.toP) _).mono ?_); rintro e w4 ⟨rfl, hb4⟩; have hB4 : Below w0.heap.size w0 w4 := hB3.trans (hb4.mono hB3.size))
    | (go_at_call 36; (with_reducible refine (rnum_any ⟨#[98, 111, 120, 101, 115]⟩ ((b.boxes.length : Int)) _ hbx0.out hbx1.out).mono ?_); rintro e w5 ⟨rfl, hb5⟩; have hB5 : Below w0.heap.size w0 w5 := hB4.trans (hb5.mono hB4.size))
    | (go_at_call 38; (with_reducible refine (rjoinB_any b.bA b.boxes.length b.bc b.boxes _ hd.out.bn (Lib.hid rfl) (Lib.hid hd.out.bs) (Lib.hid (hd.out.boxes.below (hb0.out.trans (hB5.mono hb0.out.size))))).mono ?_); rintro e w6 ⟨rfl, hb6⟩; have hB6 : Below w0.heap.size w0 w6 := hB5.trans (hb6.mono hB5.size))
    | (go_at_call 35; (with_reducible refine (rfield_any ⟨#[109, 97, 114, 107, 115]⟩ (mkB (joinT b.boxes)) _).mono ?_); rintro e w7 ⟨rfl, hb7⟩; have hB7 : Below w0.heap.size w0 w7 := hB6.trans (hb7.mono hB6.size))
    | (go_at_call 36; (with_reducible refine (rnum_any ⟨#[105, 115, 115, 117, 101, 100]⟩ (b.issued) _ hd.out.issued.1 hd.out.issued.2).mono ?_); rintro e w8 ⟨rfl, hb8⟩; have hB8 : Below w0.heap.size w0 w8 := hB7.trans (hb8.mono hB7.size))
    | (go_at_call 35; (with_reducible refine (rfield_any ⟨#[99, 108, 101, 97, 110]⟩ (⟨#[121, 101, 115]⟩) _).mono ?_); rintro e w9 ⟨rfl, hb9⟩; have hB9 : Below w0.heap.size w0 w9 := hB8.trans (hb9.mono hB8.size))
    | (go_at_call 38; (with_reducible refine (rjoinB_any b.pA b.parents.length b.pc b.parents _ hd.out.pn (Lib.hid rfl) (Lib.hid hd.out.ps) (Lib.hid (hd.out.parents.below (hb0.out.trans (hB9.mono hb0.out.size))))).mono ?_); rintro e w10 ⟨rfl, hb10⟩; have hB10 : Below w0.heap.size w0 w10 := hB9.trans (hb10.mono hB9.size))
    | (go_at_call 35; (with_reducible refine (rfield_any ⟨#[112, 97, 114, 101, 110, 116, 115]⟩ (mkB (joinT b.parents)) _).mono ?_); rintro e w11 ⟨rfl, hb11⟩; have hB11 : Below w0.heap.size w0 w11 := hB10.trans (hb11.mono hB10.size); have hz9 := hz0.out.below (hB11.alloc hB11.size (.cells #[.string ⟨#[99, 97, 114, 114, 105, 101, 114]⟩, .string (b.carrier), .string ⟨#[115, 104, 105, 112, 112, 101, 114]⟩, .string (b.shipper), .string ⟨#[102, 114, 111, 109]⟩, .string (b.frm), .string ⟨#[116, 111]⟩, .string (b.toP), .string ⟨#[98, 111, 120, 101, 115]⟩, .string (mkB (Lib.itoa (b.boxes.length : Int))), .string ⟨#[109, 97, 114, 107, 115]⟩, .string (mkB (joinT b.boxes)), .string ⟨#[105, 115, 115, 117, 101, 100]⟩, .string (mkB (Lib.itoa b.issued)), .string ⟨#[99, 108, 101, 97, 110]⟩, .string (⟨#[121, 101, 115]⟩), .string ⟨#[112, 97, 114, 101, 110, 116, 115]⟩, .string (mkB (joinT b.parents))] 79)) hz0.out.lt; have z0 := hz9.cell 0; have z1 := hz9.cell 1; have z2 := hz9.cell 2; have z3 := hz9.cell 3; have zf := hz9.frozen; simp only [List.getElem?_toArray, List.getElem?_cons_zero, List.getElem?_cons_succ] at z0 z1 z2 z3))
  all_goals
    have hz5 := Lib.hid ((((hz9.set_ 0 (.int .i64 2)).set_ 1 (.string b.number)).set_ 2 (.string b.carrier)).set_ 3 (.slice (some ⟨w11.heap.size, 0, none⟩) 9 9))
    clear hz9 z0 z1 z2 z3 zf
    go_wp2_with fail
    refine bodyPost_ret (results_row rfl _ _ (w.heap.size + 1) 32 _ _ rfl hz5.out Tryz.underlying32 rfl (by kernel_rfl)) rfl ?_
    have hlt : w.heap.size + 1 < w11.heap.size := by have := hB11.size; have := hz0.out.lt; omega
    have hown := World.ownsRow_lit (size := 2) w11 (base := w11.heap.size) (e := 79) (flF (ladingL b true)).toArray 9 (Nat.le_refl _) (by decide) rfl
    refine ⟨⟨_, rfl, own_mono_base (ownsRow_setCell_below (ownsRow_setCell_below (ownsRow_setCell_below (ownsRow_setCell_below hown hlt _) hlt _) hlt _) hlt _) (by have := hB11.size; have := hb0.out.size; omega)⟩, ?_⟩
    exact (((((hb0.out.trans (hB11.mono hb0.out.size)).alloc (by have := hB11.size; have := hb0.out.size; omega) _).setCell (by simp <;> omega) _).setCell (by simp <;> omega) _).setCell (by simp <;> omega) _).setCell (by simp <;> omega) _
end Go.Proofs.YtnmnknkdnjkpjaaGreatDoor

namespace Go.Proofs.YtnmnknkdnjkpjaaGreatDoor
open Go Go.RowKit Go.BigFrame Go.Maps

set_option maxRecDepth 100000 in
set_option maxHeartbeats 1600000 in
theorem rlading_false (b : Bl) (w : World) (hd : Hid (b.ok w)) (he : Env w) :
    Calls Tryz.prog 20 #[.agg (b.cells false)] w fun e w' => PapOut w.heap.size 2 (b.number) (b.carrier) (ladingL b false) e w' ∧ Below w.heap.size w w' := by
  have he' := Lib.hid he
  clear he
  obtain ⟨V, hV⟩ : ∃ X, Hid ((b.cells false) = X) := ⟨_, rfl⟩
  rw [hV.out]
  have hv8 : V[8]? = some (.bool false) := by rw [← hV.out]; rfl
  go_enter Tryz.func20, Tryz.ntmps20
  go_wp2_with fail
  obtain ⟨w0, hw0⟩ : ∃ w0, Hid (w0 = ((w.alloc (.cells V 40)).alloc (.cells #[.int .i64 0, .string ⟨#[]⟩, .string ⟨#[]⟩, .slice none 0 0] 32))) := ⟨_, rfl⟩
  rw [← hw0.out]
  have hb0 : Hid (Below w.heap.size w w0) := by rw [hw0.out]; exact ((Below.refl _ w).alloc (Nat.le_refl _) _).alloc (by simp) _
  have hk0 : Hid (Blk w0 (w.heap.size) 40 V) := by rw [hw0.out]; refine Lib.hid ?_; simpa using ((Blk.new w 40 V).alloc _)
  have hz0 : Hid (Blk w0 (w.heap.size + 1) 32 #[.int .i64 0, .string ⟨#[]⟩, .string ⟨#[]⟩, .slice none 0 0]) := by rw [hw0.out]; refine Lib.hid ?_; simpa using Blk.new (w.alloc (.cells V 40)) 32 #[.int .i64 0, .string ⟨#[]⟩, .string ⟨#[]⟩, .slice none 0 0]
  have hSS : Hid (∀ W, Below (w.heap.size + 1) w0 W → W.cell? ⟨w.heap.size, 0, none⟩ = some (.string b.number) ∧ W.cell? ⟨w.heap.size, 1, none⟩ = some (.string b.carrier) ∧ W.cell? ⟨w.heap.size, 2, none⟩ = some (.string b.shipper) ∧ W.cell? ⟨w.heap.size, 3, none⟩ = some (.string b.frm) ∧ W.cell? ⟨w.heap.size, 4, none⟩ = some (.string b.toP) ∧ W.cell? ⟨w.heap.size, 5, none⟩ = some (.slice b.bA b.boxes.length b.bc) ∧ W.cell? ⟨w.heap.size, 6, none⟩ = some (.slice b.pA b.parents.length b.pc) ∧ W.cell? ⟨w.heap.size, 7, none⟩ = some (.int .i64 b.issued)) := by
    intro W hW
    have g0 := hk0.out.below hW (by omega)
    rw [← hV.out] at g0
    exact ⟨g0.cell 0, g0.cell 1, g0.cell 2, g0.cell 3, g0.cell 4, g0.cell 5, g0.cell 6, g0.cell 7⟩
  have hle : w.heap.size + 1 ≤ w0.heap.size := Nat.le_of_lt hz0.out.lt
  have hle' := Lib.hid hle
  clear hle
  have hL : Hid ((ladingL b false).length = 9) := Lib.hid rfl
  have hbx0 : Hid (-9223372036854775808 ≤ (b.boxes.length : Int)) := by unfold Hid; omega
  have hbx1 : Hid ((b.boxes.length : Int) ≤ 9223372036854775807) := by have := hd.out.bn; unfold Hid; omega
  go_region_held3 (fun W => W.cell? ⟨w.heap.size, 0, none⟩ = some (.string b.number) ∧ W.cell? ⟨w.heap.size, 1, none⟩ = some (.string b.carrier) ∧ W.cell? ⟨w.heap.size, 2, none⟩ = some (.string b.shipper) ∧ W.cell? ⟨w.heap.size, 3, none⟩ = some (.string b.frm) ∧ W.cell? ⟨w.heap.size, 4, none⟩ = some (.string b.toP) ∧ W.cell? ⟨w.heap.size, 5, none⟩ = some (.slice b.bA b.boxes.length b.bc) ∧ W.cell? ⟨w.heap.size, 6, none⟩ = some (.slice b.pA b.parents.length b.pc) ∧ W.cell? ⟨w.heap.size, 7, none⟩ = some (.int .i64 b.issued)) (first | exact hSS.out _ (Below.refl _ _).drew | exact hSS.out _ (hB1.mono hle'.out) | exact hSS.out _ (hB2.mono hle'.out) | exact hSS.out _ (hB3.mono hle'.out) | exact hSS.out _ (hB4.mono hle'.out) | exact hSS.out _ (hB5.mono hle'.out) | exact hSS.out _ (hB6.mono hle'.out) | exact hSS.out _ (hB7.mono hle'.out) | exact hSS.out _ (hB8.mono hle'.out) | exact hSS.out _ (hB9.mono hle'.out) | exact hSS.out _ (hB10.mono hle'.out) | exact hSS.out _ (hB11.mono hle'.out) | exact hSS.out _ ((hB11.alloc hB11.size _).mono hle'.out) | exact hSS.out _ ((((((hB11.alloc hB11.size _).mono hle'.out).setCell (Nat.le_refl _) _).setCell (Nat.le_refl _) _).setCell (Nat.le_refl _) _).setCell (Nat.le_refl _) _)) (first
    | (go_at_call 35; (with_reducible refine (rfield_any ⟨#[99, 97, 114, 114, 105, 101, 114]⟩ (b.carrier) _).mono ?_); rintro e w1 ⟨rfl, hb1⟩; have hB1 : Below w0.heap.size w0 w1 := (Below.refl w0.heap.size w0).drew.trans (hb1.mono (Below.refl w0.heap.size w0).drew.size))
    | (go_at_call 35; (with_reducible refine (rfield_any ⟨#[115, 104, 105, 112, 112, 101, 114]⟩ (b.shipper) _).mono ?_); rintro e w2 ⟨rfl, hb2⟩; have hB2 : Below w0.heap.size w0 w2 := hB1.trans (hb2.mono hB1.size))
    | (go_at_call 35; (with_reducible refine (rfield_any ⟨#[102, 114, 111, 109]⟩ (b.frm) _).mono ?_); rintro e w3 ⟨rfl, hb3⟩; have hB3 : Below w0.heap.size w0 w3 := hB2.trans (hb3.mono hB2.size))
    | (go_at_call 35; (with_reducible refine (rfield_any ⟨#[116, 111]⟩ (b.toP) _).mono ?_); rintro e w4 ⟨rfl, hb4⟩; have hB4 : Below w0.heap.size w0 w4 := hB3.trans (hb4.mono hB3.size))
    | (go_at_call 36; (with_reducible refine (rnum_any ⟨#[98, 111, 120, 101, 115]⟩ ((b.boxes.length : Int)) _ hbx0.out hbx1.out).mono ?_); rintro e w5 ⟨rfl, hb5⟩; have hB5 : Below w0.heap.size w0 w5 := hB4.trans (hb5.mono hB4.size))
    | (go_at_call 38; (with_reducible refine (rjoinB_any b.bA b.boxes.length b.bc b.boxes _ hd.out.bn (Lib.hid rfl) (Lib.hid hd.out.bs) (Lib.hid (hd.out.boxes.below (hb0.out.trans (hB5.mono hb0.out.size))))).mono ?_); rintro e w6 ⟨rfl, hb6⟩; have hB6 : Below w0.heap.size w0 w6 := hB5.trans (hb6.mono hB5.size))
    | (go_at_call 35; (with_reducible refine (rfield_any ⟨#[109, 97, 114, 107, 115]⟩ (mkB (joinT b.boxes)) _).mono ?_); rintro e w7 ⟨rfl, hb7⟩; have hB7 : Below w0.heap.size w0 w7 := hB6.trans (hb7.mono hB6.size))
    | (go_at_call 36; (with_reducible refine (rnum_any ⟨#[105, 115, 115, 117, 101, 100]⟩ (b.issued) _ hd.out.issued.1 hd.out.issued.2).mono ?_); rintro e w8 ⟨rfl, hb8⟩; have hB8 : Below w0.heap.size w0 w8 := hB7.trans (hb8.mono hB7.size))
    | (go_at_call 35; (with_reducible refine (rfield_any ⟨#[99, 108, 101, 97, 110]⟩ (⟨#[110, 111]⟩) _).mono ?_); rintro e w9 ⟨rfl, hb9⟩; have hB9 : Below w0.heap.size w0 w9 := hB8.trans (hb9.mono hB8.size))
    | (go_at_call 38; (with_reducible refine (rjoinB_any b.pA b.parents.length b.pc b.parents _ hd.out.pn (Lib.hid rfl) (Lib.hid hd.out.ps) (Lib.hid (hd.out.parents.below (hb0.out.trans (hB9.mono hb0.out.size))))).mono ?_); rintro e w10 ⟨rfl, hb10⟩; have hB10 : Below w0.heap.size w0 w10 := hB9.trans (hb10.mono hB9.size))
    | (go_at_call 35; (with_reducible refine (rfield_any ⟨#[112, 97, 114, 101, 110, 116, 115]⟩ (mkB (joinT b.parents)) _).mono ?_); rintro e w11 ⟨rfl, hb11⟩; have hB11 : Below w0.heap.size w0 w11 := hB10.trans (hb11.mono hB10.size); have hz9 := hz0.out.below (hB11.alloc hB11.size (.cells #[.string ⟨#[99, 97, 114, 114, 105, 101, 114]⟩, .string (b.carrier), .string ⟨#[115, 104, 105, 112, 112, 101, 114]⟩, .string (b.shipper), .string ⟨#[102, 114, 111, 109]⟩, .string (b.frm), .string ⟨#[116, 111]⟩, .string (b.toP), .string ⟨#[98, 111, 120, 101, 115]⟩, .string (mkB (Lib.itoa (b.boxes.length : Int))), .string ⟨#[109, 97, 114, 107, 115]⟩, .string (mkB (joinT b.boxes)), .string ⟨#[105, 115, 115, 117, 101, 100]⟩, .string (mkB (Lib.itoa b.issued)), .string ⟨#[99, 108, 101, 97, 110]⟩, .string (⟨#[110, 111]⟩), .string ⟨#[112, 97, 114, 101, 110, 116, 115]⟩, .string (mkB (joinT b.parents))] 79)) hz0.out.lt; have z0 := hz9.cell 0; have z1 := hz9.cell 1; have z2 := hz9.cell 2; have z3 := hz9.cell 3; have zf := hz9.frozen; simp only [List.getElem?_toArray, List.getElem?_cons_zero, List.getElem?_cons_succ] at z0 z1 z2 z3))
  all_goals
    have hz5 := Lib.hid ((((hz9.set_ 0 (.int .i64 2)).set_ 1 (.string b.number)).set_ 2 (.string b.carrier)).set_ 3 (.slice (some ⟨w11.heap.size, 0, none⟩) 9 9))
    clear hz9 z0 z1 z2 z3 zf
    go_wp2_with fail
    refine bodyPost_ret (results_row rfl _ _ (w.heap.size + 1) 32 _ _ rfl hz5.out Tryz.underlying32 rfl (by kernel_rfl)) rfl ?_
    have hlt : w.heap.size + 1 < w11.heap.size := by have := hB11.size; have := hz0.out.lt; omega
    have hown := World.ownsRow_lit (size := 2) w11 (base := w11.heap.size) (e := 79) (flF (ladingL b false)).toArray 9 (Nat.le_refl _) (by decide) rfl
    refine ⟨⟨_, rfl, own_mono_base (ownsRow_setCell_below (ownsRow_setCell_below (ownsRow_setCell_below (ownsRow_setCell_below hown hlt _) hlt _) hlt _) hlt _) (by have := hB11.size; have := hb0.out.size; omega)⟩, ?_⟩
    exact (((((hb0.out.trans (hB11.mono hb0.out.size)).alloc (by have := hB11.size; have := hb0.out.size; omega) _).setCell (by simp <;> omega) _).setCell (by simp <;> omega) _).setCell (by simp <;> omega) _).setCell (by simp <;> omega) _
end Go.Proofs.YtnmnknkdnjkpjaaGreatDoor

namespace Go.Proofs.YtnmnknkdnjkpjaaGreatDoor
open Go Go.RowKit Go.BigFrame Go.Maps

theorem rlading_any (b : Bl) (cl : Bool) (w : World) (hd : Hid (b.ok w)) (he : Env w) :
    Calls Tryz.prog 20 #[.agg (b.cells cl)] w fun e w' => PapOut w.heap.size 2 b.number b.carrier (ladingL b cl) e w' ∧ Below w.heap.size w w' := by
  cases cl with
  | true => exact rlading_true b w hd he
  | false => exact rlading_false b w hd he
end Go.Proofs.YtnmnknkdnjkpjaaGreatDoor

/- Lading, the program's, clean true. -/
import Derived.Test.YtnmnknkdnjkpjaaGreatDoorBj
namespace Go.Proofs.YtnmnknkdnjkpjaaGreatDoor
open Go Go.RowKit Go.BigFrame Go.Maps

set_option maxRecDepth 100000 in
set_option maxHeartbeats 1600000 in
theorem lading_true (b : Bl) (w : World) (hd : Hid (b.ok w)) (he : Env w) :
    Calls Tryz.prog 47 #[.agg (b.cells true)] w fun e w' => PapOut w.heap.size 2 (b.number) (b.carrier) (ladingL b true) e w' ∧ Below w.heap.size w w' := by
  have he' := Lib.hid he
  clear he
  obtain ⟨V, hV⟩ : ∃ X, Hid ((b.cells true) = X) := ⟨_, rfl⟩
  rw [hV.out]
  have hv8 : V[8]? = some (.bool true) := by rw [← hV.out]; rfl
  go_enter Tryz.func47, Tryz.ntmps47
  go_wp2_with fail
  obtain ⟨w0, hw0⟩ : ∃ w0, Hid (w0 = ((w.alloc (.cells V 40)).alloc (.cells #[.int .i64 0, .string ⟨#[]⟩, .string ⟨#[]⟩, .slice none 0 0] 32))) := ⟨_, rfl⟩
  rw [← hw0.out]
  have hb0 : Hid (Below w.heap.size w w0) := by rw [hw0.out]; exact ((Below.refl _ w).alloc (Nat.le_refl _) _).alloc (by simp) _
  have hk0 : Hid (Blk w0 (w.heap.size) 40 V) := by rw [hw0.out]; refine Lib.hid ?_; simpa using ((Blk.new w 40 V).alloc _)
  have hz0 : Hid (Blk w0 (w.heap.size + 1) 32 #[.int .i64 0, .string ⟨#[]⟩, .string ⟨#[]⟩, .slice none 0 0]) := by rw [hw0.out]; refine Lib.hid ?_; simpa using Blk.new (w.alloc (.cells V 40)) 32 #[.int .i64 0, .string ⟨#[]⟩, .string ⟨#[]⟩, .slice none 0 0]
  have hSS : Hid (∀ W, Below (w.heap.size + 1) w0 W → W.cell? ⟨w.heap.size, 0, none⟩ = some (.string b.number) ∧ W.cell? ⟨w.heap.size, 1, none⟩ = some (.string b.carrier) ∧ W.cell? ⟨w.heap.size, 2, none⟩ = some (.string b.shipper) ∧ W.cell? ⟨w.heap.size, 3, none⟩ = some (.string b.frm) ∧ W.cell? ⟨w.heap.size, 4, none⟩ = some (.string b.toP) ∧ W.cell? ⟨w.heap.size, 5, none⟩ = some (.slice b.bA b.boxes.length b.bc) ∧ W.cell? ⟨w.heap.size, 6, none⟩ = some (.slice b.pA b.parents.length b.pc) ∧ W.cell? ⟨w.heap.size, 7, none⟩ = some (.int .i64 b.issued)) := by
    intro W hW
    have g0 := hk0.out.below hW (by omega)
    rw [← hV.out] at g0
    exact ⟨g0.cell 0, g0.cell 1, g0.cell 2, g0.cell 3, g0.cell 4, g0.cell 5, g0.cell 6, g0.cell 7⟩
  have hle : w.heap.size + 1 ≤ w0.heap.size := Nat.le_of_lt hz0.out.lt
  have hle' := Lib.hid hle
  clear hle
  have hL : Hid ((ladingL b true).length = 9) := Lib.hid rfl
  have hbx0 : Hid (-9223372036854775808 ≤ (b.boxes.length : Int)) := by unfold Hid; omega
  have hbx1 : Hid ((b.boxes.length : Int) ≤ 9223372036854775807) := by have := hd.out.bn; unfold Hid; omega
  go_region_held3 (fun W => W.cell? ⟨w.heap.size, 0, none⟩ = some (.string b.number) ∧ W.cell? ⟨w.heap.size, 1, none⟩ = some (.string b.carrier) ∧ W.cell? ⟨w.heap.size, 2, none⟩ = some (.string b.shipper) ∧ W.cell? ⟨w.heap.size, 3, none⟩ = some (.string b.frm) ∧ W.cell? ⟨w.heap.size, 4, none⟩ = some (.string b.toP) ∧ W.cell? ⟨w.heap.size, 5, none⟩ = some (.slice b.bA b.boxes.length b.bc) ∧ W.cell? ⟨w.heap.size, 6, none⟩ = some (.slice b.pA b.parents.length b.pc) ∧ W.cell? ⟨w.heap.size, 7, none⟩ = some (.int .i64 b.issued)) (first | exact hSS.out _ (Below.refl _ _).drew | exact hSS.out _ (hB1.mono hle'.out) | exact hSS.out _ (hB2.mono hle'.out) | exact hSS.out _ (hB3.mono hle'.out) | exact hSS.out _ (hB4.mono hle'.out) | exact hSS.out _ (hB5.mono hle'.out) | exact hSS.out _ ((hB4.alloc hB4.size _).mono hle'.out) | exact hSS.out _ (((((hB5.mono hle'.out).setCell (Nat.le_refl _) _).setCell (Nat.le_refl _) _).setCell (Nat.le_refl _) _).setCell (Nat.le_refl _) _)) (first
    | (go_at_call 34; (with_reducible refine (pcount_any b.boxes.length _ hbx0.out hbx1.out (he'.out.below hb0.out.drew)).mono ?_); rintro e w1 ⟨rfl, hb1⟩; have hB1 : Below w0.heap.size w0 w1 := (Below.refl w0.heap.size w0).drew.trans (hb1.mono (Below.refl w0.heap.size w0).drew.size))
    | (go_at_call 70; (with_reducible refine (joinB_any b.bA b.boxes.length b.bc b.boxes _ hd.out.bn (Lib.hid rfl) (Lib.hid hd.out.bs) (Lib.hid (hd.out.boxes.below (hb0.out.trans (hB1.mono hb0.out.size)))) hd.out.bcap).mono ?_); rintro e w2 ⟨rfl, hb2⟩; have hB2 : Below w0.heap.size w0 w2 := hB1.trans (hb2.mono hB1.size))
    | (go_at_call 34; (with_reducible refine (pcount_any b.issued _ hd.out.issued.1 hd.out.issued.2 (he'.out.below (hb0.out.trans (hB2.mono hb0.out.size)))).mono ?_); rintro e w3 ⟨rfl, hb3⟩; have hB3 : Below w0.heap.size w0 w3 := hB2.trans (hb3.mono hB2.size))
    | (go_at_call 70; (with_reducible refine (joinB_any b.pA b.parents.length b.pc b.parents _ hd.out.pn (Lib.hid rfl) (Lib.hid hd.out.ps) (Lib.hid (hd.out.parents.below (hb0.out.trans (hB3.mono hb0.out.size)))) hd.out.pcap).mono ?_); rintro e w4 ⟨rfl, hb4⟩; have hB4 : Below w0.heap.size w0 w4 := hB3.trans (hb4.mono hB3.size))
    | (go_at_call 32; (with_reducible refine (fields_any _ 18 9 (ladingL b true) _ hL (by decide) ?_).mono ?_); exact Lib.hid (fields_lit (ladingL b true) (Blk.new _ _ _) rfl); rintro e w5 ⟨v, rfl, hown, hb5⟩; obtain ⟨A4, c4, rfl, hc4, _⟩ := fields_of_own hown hL.out; have hB5 : Below w0.heap.size w0 w5 := (hB4.alloc hB4.size _).trans (hb5.mono (Nat.le_trans hB4.size (by simp))); have hz9 := hz0.out.below hB5 hz0.out.lt; have z0 := hz9.cell 0; have z1 := hz9.cell 1; have z2 := hz9.cell 2; have z3 := hz9.cell 3; have zf := hz9.frozen; simp only [List.getElem?_toArray, List.getElem?_cons_zero, List.getElem?_cons_succ] at z0 z1 z2 z3))
  all_goals
    have hz5 := Lib.hid ((((hz9.set_ 0 (.int .i64 2)).set_ 1 (.string b.number)).set_ 2 (.string b.carrier)).set_ 3 (.slice A4 9 c4))
    clear hz9 z0 z1 z2 z3 zf
    go_wp2_with fail
    refine bodyPost_ret (results_row rfl _ _ (w.heap.size + 1) 32 _ _ rfl hz5.out Tryz.underlying32 rfl (by kernel_rfl)) rfl ?_
    have hlt : w.heap.size + 1 < (w4.alloc (.cells (flF (ladingL b true)).toArray 9)).heap.size := by have := hB4.size; have := hz0.out.lt; simp; omega
    refine ⟨⟨_, rfl, own_mono_base (ownsRow_setCell_below (ownsRow_setCell_below (ownsRow_setCell_below (ownsRow_setCell_below hown hlt _) hlt _) hlt _) hlt _) (by have := hB4.size; have := hb0.out.size; simp; omega)⟩, ?_⟩
    exact ((((hb0.out.trans (hB5.mono hb0.out.size)).setCell (by simp <;> omega) _).setCell (by simp <;> omega) _).setCell (by simp <;> omega) _).setCell (by simp <;> omega) _
end Go.Proofs.YtnmnknkdnjkpjaaGreatDoor

namespace Go.Proofs.YtnmnknkdnjkpjaaGreatDoor
open Go Go.RowKit Go.BigFrame Go.Maps

set_option maxRecDepth 100000 in
set_option maxHeartbeats 1600000 in
theorem lading_false (b : Bl) (w : World) (hd : Hid (b.ok w)) (he : Env w) :
    Calls Tryz.prog 47 #[.agg (b.cells false)] w fun e w' => PapOut w.heap.size 2 (b.number) (b.carrier) (ladingL b false) e w' ∧ Below w.heap.size w w' := by
  have he' := Lib.hid he
  clear he
  obtain ⟨V, hV⟩ : ∃ X, Hid ((b.cells false) = X) := ⟨_, rfl⟩
  rw [hV.out]
  have hv8 : V[8]? = some (.bool false) := by rw [← hV.out]; rfl
  go_enter Tryz.func47, Tryz.ntmps47
  go_wp2_with fail
  obtain ⟨w0, hw0⟩ : ∃ w0, Hid (w0 = ((w.alloc (.cells V 40)).alloc (.cells #[.int .i64 0, .string ⟨#[]⟩, .string ⟨#[]⟩, .slice none 0 0] 32))) := ⟨_, rfl⟩
  rw [← hw0.out]
  have hb0 : Hid (Below w.heap.size w w0) := by rw [hw0.out]; exact ((Below.refl _ w).alloc (Nat.le_refl _) _).alloc (by simp) _
  have hk0 : Hid (Blk w0 (w.heap.size) 40 V) := by rw [hw0.out]; refine Lib.hid ?_; simpa using ((Blk.new w 40 V).alloc _)
  have hz0 : Hid (Blk w0 (w.heap.size + 1) 32 #[.int .i64 0, .string ⟨#[]⟩, .string ⟨#[]⟩, .slice none 0 0]) := by rw [hw0.out]; refine Lib.hid ?_; simpa using Blk.new (w.alloc (.cells V 40)) 32 #[.int .i64 0, .string ⟨#[]⟩, .string ⟨#[]⟩, .slice none 0 0]
  have hSS : Hid (∀ W, Below (w.heap.size + 1) w0 W → W.cell? ⟨w.heap.size, 0, none⟩ = some (.string b.number) ∧ W.cell? ⟨w.heap.size, 1, none⟩ = some (.string b.carrier) ∧ W.cell? ⟨w.heap.size, 2, none⟩ = some (.string b.shipper) ∧ W.cell? ⟨w.heap.size, 3, none⟩ = some (.string b.frm) ∧ W.cell? ⟨w.heap.size, 4, none⟩ = some (.string b.toP) ∧ W.cell? ⟨w.heap.size, 5, none⟩ = some (.slice b.bA b.boxes.length b.bc) ∧ W.cell? ⟨w.heap.size, 6, none⟩ = some (.slice b.pA b.parents.length b.pc) ∧ W.cell? ⟨w.heap.size, 7, none⟩ = some (.int .i64 b.issued)) := by
    intro W hW
    have g0 := hk0.out.below hW (by omega)
    rw [← hV.out] at g0
    exact ⟨g0.cell 0, g0.cell 1, g0.cell 2, g0.cell 3, g0.cell 4, g0.cell 5, g0.cell 6, g0.cell 7⟩
  have hle : w.heap.size + 1 ≤ w0.heap.size := Nat.le_of_lt hz0.out.lt
  have hle' := Lib.hid hle
  clear hle
  have hL : Hid ((ladingL b false).length = 9) := Lib.hid rfl
  have hbx0 : Hid (-9223372036854775808 ≤ (b.boxes.length : Int)) := by unfold Hid; omega
  have hbx1 : Hid ((b.boxes.length : Int) ≤ 9223372036854775807) := by have := hd.out.bn; unfold Hid; omega
  go_region_held3 (fun W => W.cell? ⟨w.heap.size, 0, none⟩ = some (.string b.number) ∧ W.cell? ⟨w.heap.size, 1, none⟩ = some (.string b.carrier) ∧ W.cell? ⟨w.heap.size, 2, none⟩ = some (.string b.shipper) ∧ W.cell? ⟨w.heap.size, 3, none⟩ = some (.string b.frm) ∧ W.cell? ⟨w.heap.size, 4, none⟩ = some (.string b.toP) ∧ W.cell? ⟨w.heap.size, 5, none⟩ = some (.slice b.bA b.boxes.length b.bc) ∧ W.cell? ⟨w.heap.size, 6, none⟩ = some (.slice b.pA b.parents.length b.pc) ∧ W.cell? ⟨w.heap.size, 7, none⟩ = some (.int .i64 b.issued)) (first | exact hSS.out _ (Below.refl _ _).drew | exact hSS.out _ (hB1.mono hle'.out) | exact hSS.out _ (hB2.mono hle'.out) | exact hSS.out _ (hB3.mono hle'.out) | exact hSS.out _ (hB4.mono hle'.out) | exact hSS.out _ (hB5.mono hle'.out) | exact hSS.out _ ((hB4.alloc hB4.size _).mono hle'.out) | exact hSS.out _ (((((hB5.mono hle'.out).setCell (Nat.le_refl _) _).setCell (Nat.le_refl _) _).setCell (Nat.le_refl _) _).setCell (Nat.le_refl _) _)) (first
    | (go_at_call 34; (with_reducible refine (pcount_any b.boxes.length _ hbx0.out hbx1.out (he'.out.below hb0.out.drew)).mono ?_); rintro e w1 ⟨rfl, hb1⟩; have hB1 : Below w0.heap.size w0 w1 := (Below.refl w0.heap.size w0).drew.trans (hb1.mono (Below.refl w0.heap.size w0).drew.size))
    | (go_at_call 70; (with_reducible refine (joinB_any b.bA b.boxes.length b.bc b.boxes _ hd.out.bn (Lib.hid rfl) (Lib.hid hd.out.bs) (Lib.hid (hd.out.boxes.below (hb0.out.trans (hB1.mono hb0.out.size)))) hd.out.bcap).mono ?_); rintro e w2 ⟨rfl, hb2⟩; have hB2 : Below w0.heap.size w0 w2 := hB1.trans (hb2.mono hB1.size))
    | (go_at_call 34; (with_reducible refine (pcount_any b.issued _ hd.out.issued.1 hd.out.issued.2 (he'.out.below (hb0.out.trans (hB2.mono hb0.out.size)))).mono ?_); rintro e w3 ⟨rfl, hb3⟩; have hB3 : Below w0.heap.size w0 w3 := hB2.trans (hb3.mono hB2.size))
    | (go_at_call 70; (with_reducible refine (joinB_any b.pA b.parents.length b.pc b.parents _ hd.out.pn (Lib.hid rfl) (Lib.hid hd.out.ps) (Lib.hid (hd.out.parents.below (hb0.out.trans (hB3.mono hb0.out.size)))) hd.out.pcap).mono ?_); rintro e w4 ⟨rfl, hb4⟩; have hB4 : Below w0.heap.size w0 w4 := hB3.trans (hb4.mono hB3.size))
    | (go_at_call 32; (with_reducible refine (fields_any _ 18 9 (ladingL b false) _ hL (by decide) ?_).mono ?_); exact Lib.hid (fields_lit (ladingL b false) (Blk.new _ _ _) rfl); rintro e w5 ⟨v, rfl, hown, hb5⟩; obtain ⟨A4, c4, rfl, hc4, _⟩ := fields_of_own hown hL.out; have hB5 : Below w0.heap.size w0 w5 := (hB4.alloc hB4.size _).trans (hb5.mono (Nat.le_trans hB4.size (by simp))); have hz9 := hz0.out.below hB5 hz0.out.lt; have z0 := hz9.cell 0; have z1 := hz9.cell 1; have z2 := hz9.cell 2; have z3 := hz9.cell 3; have zf := hz9.frozen; simp only [List.getElem?_toArray, List.getElem?_cons_zero, List.getElem?_cons_succ] at z0 z1 z2 z3))
  all_goals
    have hz5 := Lib.hid ((((hz9.set_ 0 (.int .i64 2)).set_ 1 (.string b.number)).set_ 2 (.string b.carrier)).set_ 3 (.slice A4 9 c4))
    clear hz9 z0 z1 z2 z3 zf
    go_wp2_with fail
    refine bodyPost_ret (results_row rfl _ _ (w.heap.size + 1) 32 _ _ rfl hz5.out Tryz.underlying32 rfl (by kernel_rfl)) rfl ?_
    have hlt : w.heap.size + 1 < (w4.alloc (.cells (flF (ladingL b false)).toArray 9)).heap.size := by have := hB4.size; have := hz0.out.lt; simp; omega
    refine ⟨⟨_, rfl, own_mono_base (ownsRow_setCell_below (ownsRow_setCell_below (ownsRow_setCell_below (ownsRow_setCell_below hown hlt _) hlt _) hlt _) hlt _) (by have := hB4.size; have := hb0.out.size; simp; omega)⟩, ?_⟩
    exact ((((hb0.out.trans (hB5.mono hb0.out.size)).setCell (by simp <;> omega) _).setCell (by simp <;> omega) _).setCell (by simp <;> omega) _).setCell (by simp <;> omega) _
end Go.Proofs.YtnmnknkdnjkpjaaGreatDoor

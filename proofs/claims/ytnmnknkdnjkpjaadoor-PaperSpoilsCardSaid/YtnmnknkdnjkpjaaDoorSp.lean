/- The law PaperSpoils. -/
import Derived.Test.YtnmnknkdnjkpjaaDoorAw
import Derived.Test.YtnmnknkdnjkpjaaDoorBa
namespace Go.Proofs.YtnmnknkdnjkpjaaDoor
open Go Go.RowKit Go.BigFrame Go.Maps

theorem getF_set_same : ∀ (l : List Fld) (nm vl : ByteArray), getF (setF l nm vl) nm = some vl
  | [], nm, vl => by simp [setF, getF]
  | x :: l, nm, vl => by
    rw [setF]
    by_cases h : x.name.toList = nm.toList
    · rw [if_pos h, getF, if_pos h]
    · rw [if_neg h, getF, if_neg h]; exact getF_set_same l nm vl
theorem getF_set_other : ∀ (l : List Fld) (nm vl ot : ByteArray), ¬ ot.toList = nm.toList → getF (setF l nm vl) ot = getF l ot
  | [], nm, vl, ot, h => by
    rw [setF, getF, getF, if_neg (fun e => h e.symm)]; rfl
  | x :: l, nm, vl, ot, h => by
    rw [setF]
    by_cases h1 : x.name.toList = nm.toList
    · rw [if_pos h1, getF, getF, if_neg (fun e => h (e.symm.trans h1)), if_neg (fun e => h (e.symm.trans h1))]
    · rw [if_neg h1, getF, getF]
      by_cases h2 : x.name.toList = ot.toList
      · rw [if_pos h2, if_pos h2]
      · rw [if_neg h2, if_neg h2]; exact getF_set_other l nm vl ot h
theorem setF_len (l : List Fld) (nm vl : ByteArray) : (setF l nm vl).length ≤ l.length + 1 := by
  induction l with
  | nil => simp [setF]
  | cons x l ih => rw [setF]; split <;> simp; exact ih

set_option maxRecDepth 100000 in
set_option maxHeartbeats 6400000 in
theorem spoils_law (kd : Int) (nu is : ByteArray) (A : Option Addr) (n c : Nat) (l : List Fld) (nm vl ot : ByteArray) (w : World) (hn : n ≤ maxLen) (hl : Hid (l.length = n)) (hA : Hid (FieldsAt w A l)) (h1 : nm.size ≤ 140737488351232) (h2 : vl.size ≤ 140737488351232) (h3 : ot.size ≤ 140737488351232) (he : Env w) :
    Calls Tryd.prog 3 #[.agg #[.int .i64 kd, .string nu, .string is, .slice A n c], .string nm, .string vl, .string ot] w fun e w' => e = .returned (.bool true) ∧ Below w.heap.size w w' := by
  have he' := Lib.hid he
  clear he
  unfold maxLen at hn
  have hs1 : IntKind.i64.wrap ((nm.size : Int) + (vl.size : Int)) = (nm.size : Int) + (vl.size : Int) := IntWalk.i64_in _ (by omega)
  have hs2 : IntKind.i64.wrap ((nm.size : Int) + (vl.size : Int) + (ot.size : Int)) = (nm.size : Int) + (vl.size : Int) + (ot.size : Int) := IntWalk.i64_in _ (by omega)
  obtain ⟨w0, hw0⟩ : ∃ W, Hid (w.alloc (.cells #[.int .i64 kd, .string nu, .string is, .slice A n c] 24) = W) := ⟨_, rfl⟩
  have hb0 : Hid (Below w.heap.size w w0) := by rw [← hw0.out]; exact (Below.refl _ w).alloc (Nat.le_refl _) _
  have hp0 : Hid (Blk w0 w.heap.size 24 #[.int .i64 kd, .string nu, .string is, .slice A n c]) := by rw [← hw0.out]; exact Blk.new _ _ _
  have haw := Lib.hid (awake_any w0 (he'.out.below hb0.out))
  by_cases hbig : 30 < n
  · have d1 : (30 : Int) < (n : Int) := by omega
    have d2 : decide ((30 : Int) < (n : Int)) = true := decide_eq_true d1
    go_enter Tryd.func3, Tryd.ntmps3
    go_wp2_with fail
    rw [hw0.out]
    refine haw.out.mono ?_
    rintro e w1 ⟨rfl, hb1⟩
    go_wp2_with fail
    go_ret
    exact ⟨rfl, hb0.out.trans (hb1.mono hb0.out.size)⟩
  have e1 : ¬ (30 : Int) < (n : Int) := by omega
  have e2 : decide ((30 : Int) < (n : Int)) = false := decide_eq_false e1
  by_cases hlong : (300 : Int) < (nm.size : Int) + (vl.size : Int) + (ot.size : Int)
  · have d2 : decide ((300 : Int) < (nm.size : Int) + (vl.size : Int) + (ot.size : Int)) = true := decide_eq_true hlong
    go_enter Tryd.func3, Tryd.ntmps3
    go_wp2_with fail
    rw [hw0.out]
    refine haw.out.mono ?_
    rintro e w1 ⟨rfl, hb1⟩
    go_wp2_with fail
    go_ret
    exact ⟨rfl, hb0.out.trans (hb1.mono hb0.out.size)⟩
  have d2 : decide ((300 : Int) < (nm.size : Int) + (vl.size : Int) + (ot.size : Int)) = false := decide_eq_false hlong
  have hn6 : Hid (n ≤ 1000) := by unfold Hid; omega
  have hsp := Lib.hid (spoil_any kd nu is A n c l nm vl w0 (by have := hn6.out; omega) hl (Lib.hid (hA.out.below hb0.out)))
  obtain ⟨L, hL⟩ : ∃ L, Hid (setF l nm vl = L) := ⟨_, rfl⟩
  obtain ⟨m, hm⟩ : ∃ m, Hid (L.length = m) := ⟨_, rfl⟩
  rw [hL.out, hm.out] at hsp
  have hm6 : Hid (m ≤ 1001) := by have := setF_len l nm vl; rw [hL.out, hm.out, hl.out] at this; have := hn6.out; unfold Hid; omega
  have hav : Hid (getV L nm = vl) := by unfold Hid getV; rw [← hL.out, getF_set_same]; rfl
  have hab : Hid (getB L nm = true) := by unfold Hid getB; rw [← hL.out, getF_set_same]; rfl
  go_enter Tryd.func3, Tryd.ntmps3
  go_wp2_with fail
  rw [hw0.out]
  refine hsp.out.mono ?_
  rintro e w1 ⟨A1, c1, rfl, ho1, hb1⟩
  obtain ⟨A1', c1', eA, hc1, hF1⟩ := fields_of_own ho1 hm.out
  simp only [Value.slice.injEq, true_and] at eA
  obtain ⟨rfl, rfl⟩ := eA
  have hB1 : Hid (Below w.heap.size w w1) := hb0.out.trans (hb1.mono hb0.out.size)
  have hp1 := Lib.hid (hp0.out.below hb1 hp0.out.lt)
  obtain ⟨w2, hw2⟩ : ∃ W, Hid (w1.alloc (.cells #[.int .i64 kd, .string nu, .string is, .slice A1 m c1] 24) = W) := ⟨_, rfl⟩
  have hb2 : Hid (Below w1.heap.size w1 w2) := by rw [← hw2.out]; exact (Below.refl _ w1).alloc (Nat.le_refl _) _
  have hq2 : Hid (Blk w2 w1.heap.size 24 #[.int .i64 kd, .string nu, .string is, .slice A1 m c1]) := by rw [← hw2.out]; exact Blk.new _ _ _
  have hp2 := Lib.hid (hp1.out.below hb2.out hp1.out.lt)
  have hB2 : Hid (Below w.heap.size w w2) := hB1.out.trans (hb2.out.mono hB1.out.size)
  have hF2 := Lib.hid (hF1.below hb2.out)
  have hg2 := Lib.hid (get_any A1 m c1 L nm w2 (by have := hm6.out; unfold maxLen; omega) hm hF2)
  rw [hav.out, hab.out] at hg2
  have hps : Hid (w.heap.size < w1.heap.size) := hp1.out.lt
  clear ho1 hb1 hF1 hc1 hs1 hs2
  go_wp2_with fail
  rw [hw2.out]
  refine hg2.out.mono ?_
  rintro e w3 ⟨rfl, hb3⟩
  have hB3 : Hid (Below w.heap.size w w3) := hB2.out.trans (hb3.mono hB2.out.size)
  have hp3 := Lib.hid (hp2.out.below hb3 hp2.out.lt)
  have hq3 := Lib.hid (hq2.out.below hb3 hq2.out.lt)
  have hF3 := Lib.hid (hF2.out.below hb3)
  have hg3 := Lib.hid (get_any A n c l ot w3 (by have := hn6.out; unfold maxLen; omega) hl (Lib.hid (hA.out.below hB3.out)))
  have p3 : w3.cell? ⟨w.heap.size, 3, none⟩ = some (.slice A n c) := hp3.out.cell 3
  clear hb3 hg2
  go_wp2_with fail
  refine hg3.out.mono ?_
  rintro e w4 ⟨rfl, hb4⟩
  have hB4 : Hid (Below w.heap.size w w4) := hB3.out.trans (hb4.mono hB3.out.size)
  have hp4 := Lib.hid (hp3.out.below hb4 hp3.out.lt)
  have hq4 := Lib.hid (hq3.out.below hb4 hq3.out.lt)
  have hF4 := Lib.hid (hF3.out.below hb4)
  have hg4 := Lib.hid (get_any A1 m c1 L ot w4 (by have := hm6.out; unfold maxLen; omega) hm hF4)
  have q3 : w4.cell? ⟨w1.heap.size, 3, none⟩ = some (.slice A1 m c1) := hq4.out.cell 3
  obtain ⟨bv, hbv⟩ : ∃ x, Hid (getV l ot = x) := ⟨_, rfl⟩
  obtain ⟨bb, hbb⟩ : ∃ x, Hid (getB l ot = x) := ⟨_, rfl⟩
  rw [hbv.out, hbb.out]
  clear hb4 hg3 p3
  go_wp2_with fail
  refine hg4.out.mono ?_
  rintro e w5 ⟨rfl, hb5⟩
  have hB5 : Hid (Below w.heap.size w w5) := hB4.out.trans (hb5.mono hB4.out.size)
  have hp5 := Lib.hid (hp4.out.below hb5 hp4.out.lt)
  have hq5 := Lib.hid (hq4.out.below hb5 hq4.out.lt)
  have hF5 := Lib.hid (hF4.out.below hb5)
  clear hb5 hg4 q3
  by_cases hsame : ot.toList = nm.toList
  · obtain rfl : nm = ot := ByteArray.ext (Array.toList_inj.1 (by simpa [ByteArray.toList_eq] using hsame.symm))
    rw [hav.out, hab.out]
    clear hsame
    go_wp2_with fail
    refine wp_region_held (S := fun W => Blk W w1.heap.size 24 #[.int .i64 kd, .string nu, .string is, .slice A1 m c1] ∧ Blk W w.heap.size 24 #[.int .i64 kd, .string nu, .string is, .slice A n c]) (by kernel_rfl) ?_
    have HSV : Blk w5.drew w1.heap.size 24 #[.int .i64 kd, .string nu, .string is, .slice A1 m c1] ∧ Blk w5.drew w.heap.size 24 #[.int .i64 kd, .string nu, .string is, .slice A n c] := ⟨hq5.out.drew, hp5.out.drew⟩
    refine wpAnyH_take (i := 0) rfl (by kernel_rfl) (by kernel_rfl) (by kernel_rfl) (fun _ _ _ h => h) (show YieldsIf _ _ _ _ (.string vl) _ from .inl ⟨by rfl, fun _ _ => by go_simp⟩) HSV ?_
    go_simp
    refine wpAnyH_take (i := 1) rfl (by kernel_rfl) (by kernel_rfl) (by kernel_rfl) (fun _ _ _ h => h) (show YieldsIf _ _ _ _ (.string vl) _ from .inl ⟨by rfl, fun _ _ => by go_simp⟩) HSV ?_
    go_simp
    refine wpAnyH_take (i := 2) rfl (by kernel_rfl) (by kernel_rfl) (by kernel_rfl) (fun _ _ _ h => h) (show YieldsIf _ _ _ _ (.bool true) _ from .inl ⟨by rfl, fun _ _ => by go_simp⟩) HSV ?_
    go_simp
    refine wpAnyH_take (i := 3) rfl (by kernel_rfl) (by kernel_rfl) (by kernel_rfl) (fun _ _ _ h => h) (show YieldsIf _ _ _ _ (.bool true) _ from .inl ⟨by rfl, fun _ _ => by go_simp⟩) HSV ?_
    go_simp
    refine wpAnyH_take (i := 4) rfl (by kernel_rfl) (by kernel_rfl) (by kernel_rfl) (fun _ _ _ h => h) (show YieldsIf _ _ _ _ (.bool true) _ from .inl ⟨by rfl, fun _ _ => by go_simp⟩) HSV ?_
    go_simp
    refine wpAnyH_take (i := 5) rfl (by kernel_rfl) (by kernel_rfl) (by kernel_rfl) (fun _ _ _ h => h) (show YieldsIf _ _ _ _ (.bool true) _ from .inl ⟨by rfl, fun _ _ => by go_simp⟩) HSV ?_
    go_simp
    refine wpAnyH_take (i := 6) rfl (by kernel_rfl) (by kernel_rfl) (by kernel_rfl) (fun _ _ _ h => h) (show YieldsIf _ _ _ _ (.bool true) _ from .inl ⟨by rfl, fun _ _ => by go_simp⟩) HSV ?_
    go_simp
    refine wpAnyH_take (i := 7) rfl (by kernel_rfl) (by kernel_rfl) (by kernel_rfl) (fun _ _ _ h => h) (show YieldsIf _ _ _ _ (.pointer (some ⟨w1.heap.size, 0, none⟩)) _ from .inl ⟨by rfl, fun _ _ => by go_simp⟩) HSV ?_
    go_simp
    refine wpAnyH_take (i := 8) rfl (by kernel_rfl) (by kernel_rfl) (by kernel_rfl) (fun _ _ _ h => h) (show YieldsIf _ _ _ _ (.int .i64 kd) _ from .inl ⟨by rfl, fun W hW => by have hc : W.cell? ⟨w1.heap.size, 0, none⟩ = some (.int .i64 kd) := hW.1.cell 0; go_simp⟩) HSV ?_
    go_simp
    refine wpAnyH_take (i := 9) rfl (by kernel_rfl) (by kernel_rfl) (by kernel_rfl) (fun _ _ _ h => h) (show YieldsIf _ _ _ _ (.pointer (some ⟨w.heap.size, 0, none⟩)) _ from .inl ⟨by rfl, fun _ _ => by go_simp⟩) HSV ?_
    go_simp
    refine wpAnyH_take (i := 10) rfl (by kernel_rfl) (by kernel_rfl) (by kernel_rfl) (fun _ _ _ h => h) (show YieldsIf _ _ _ _ (.int .i64 kd) _ from .inl ⟨by rfl, fun W hW => by have hc : W.cell? ⟨w.heap.size, 0, none⟩ = some (.int .i64 kd) := hW.2.cell 0; go_simp⟩) HSV ?_
    go_simp
    refine wpAnyH_take (i := 11) rfl (by kernel_rfl) (by kernel_rfl) (by kernel_rfl) (fun _ _ _ h => h) (show YieldsIf _ _ _ _ (.bool true) _ from .inl ⟨by rfl, fun _ _ => by go_simp⟩) HSV ?_
    go_simp
    refine wpAnyH_take (i := 12) rfl (by kernel_rfl) (by kernel_rfl) (by kernel_rfl) (fun _ _ _ h => h) (show YieldsIf _ _ _ _ (.bool true) _ from .inl ⟨by rfl, fun _ _ => by go_simp⟩) HSV ?_
    go_simp
    refine wpAnyH_take (i := 13) rfl (by kernel_rfl) (by kernel_rfl) (by kernel_rfl) (fun _ _ _ h => h) (show YieldsIf _ _ _ _ (.bool true) _ from .inl ⟨by rfl, fun _ _ => by go_simp⟩) HSV ?_
    go_simp
    refine wpAnyH_take (i := 14) rfl (by kernel_rfl) (by kernel_rfl) (by kernel_rfl) (fun _ _ _ h => h) (show YieldsIf _ _ _ _ (.pointer (some ⟨w1.heap.size, 1, none⟩)) _ from .inl ⟨by rfl, fun _ _ => by go_simp⟩) HSV ?_
    go_simp
    refine wpAnyH_take (i := 15) rfl (by kernel_rfl) (by kernel_rfl) (by kernel_rfl) (fun _ _ _ h => h) (show YieldsIf _ _ _ _ (.string nu) _ from .inl ⟨by rfl, fun W hW => by have hc : W.cell? ⟨w1.heap.size, 1, none⟩ = some (.string nu) := hW.1.cell 1; go_simp⟩) HSV ?_
    go_simp
    refine wpAnyH_take (i := 16) rfl (by kernel_rfl) (by kernel_rfl) (by kernel_rfl) (fun _ _ _ h => h) (show YieldsIf _ _ _ _ (.pointer (some ⟨w.heap.size, 1, none⟩)) _ from .inl ⟨by rfl, fun _ _ => by go_simp⟩) HSV ?_
    go_simp
    refine wpAnyH_take (i := 17) rfl (by kernel_rfl) (by kernel_rfl) (by kernel_rfl) (fun _ _ _ h => h) (show YieldsIf _ _ _ _ (.string nu) _ from .inl ⟨by rfl, fun W hW => by have hc : W.cell? ⟨w.heap.size, 1, none⟩ = some (.string nu) := hW.2.cell 1; go_simp⟩) HSV ?_
    go_simp
    refine wpAnyH_take (i := 18) rfl (by kernel_rfl) (by kernel_rfl) (by kernel_rfl) (fun _ _ _ h => h) (show YieldsIf _ _ _ _ (.bool true) _ from .inl ⟨by rfl, fun _ _ => by go_simp⟩) HSV ?_
    go_simp
    refine wpAnyH_take (i := 19) rfl (by kernel_rfl) (by kernel_rfl) (by kernel_rfl) (fun _ _ _ h => h) (show YieldsIf _ _ _ _ (.bool true) _ from .inl ⟨by rfl, fun _ _ => by go_simp⟩) HSV ?_
    go_simp
    refine wpAnyH_take (i := 20) rfl (by kernel_rfl) (by kernel_rfl) (by kernel_rfl) (fun _ _ _ h => h) (show YieldsIf _ _ _ _ (.bool true) _ from .inl ⟨by rfl, fun _ _ => by go_simp⟩) HSV ?_
    go_simp
    refine wpAnyH_take (i := 21) rfl (by kernel_rfl) (by kernel_rfl) (by kernel_rfl) (fun _ _ _ h => h) (show YieldsIf _ _ _ _ (.pointer (some ⟨w1.heap.size, 2, none⟩)) _ from .inl ⟨by rfl, fun _ _ => by go_simp⟩) HSV ?_
    go_simp
    refine wpAnyH_take (i := 22) rfl (by kernel_rfl) (by kernel_rfl) (by kernel_rfl) (fun _ _ _ h => h) (show YieldsIf _ _ _ _ (.string is) _ from .inl ⟨by rfl, fun W hW => by have hc : W.cell? ⟨w1.heap.size, 2, none⟩ = some (.string is) := hW.1.cell 2; go_simp⟩) HSV ?_
    go_simp
    refine wpAnyH_take (i := 23) rfl (by kernel_rfl) (by kernel_rfl) (by kernel_rfl) (fun _ _ _ h => h) (show YieldsIf _ _ _ _ (.pointer (some ⟨w.heap.size, 2, none⟩)) _ from .inl ⟨by rfl, fun _ _ => by go_simp⟩) HSV ?_
    go_simp
    refine wpAnyH_take (i := 24) rfl (by kernel_rfl) (by kernel_rfl) (by kernel_rfl) (fun _ _ _ h => h) (show YieldsIf _ _ _ _ (.string is) _ from .inl ⟨by rfl, fun W hW => by have hc : W.cell? ⟨w.heap.size, 2, none⟩ = some (.string is) := hW.2.cell 2; go_simp⟩) HSV ?_
    go_simp
    refine wpAnyH_take (i := 25) rfl (by kernel_rfl) (by kernel_rfl) (by kernel_rfl) (fun _ _ _ h => h) (show YieldsIf _ _ _ _ (.bool true) _ from .inl ⟨by rfl, fun _ _ => by go_simp⟩) HSV ?_
    go_simp
    refine wpAnyH_take (i := 26) rfl (by kernel_rfl) (by kernel_rfl) (by kernel_rfl) (fun _ _ _ h => h) (show YieldsIf _ _ _ _ (.bool true) _ from .inl ⟨by rfl, fun _ _ => by go_simp⟩) HSV ?_
    go_simp
    refine wpAnyH_take (i := 27) rfl (by kernel_rfl) (by kernel_rfl) (by kernel_rfl) (fun _ _ _ h => h) (show YieldsIf _ _ _ _ (.bool true) _ from .inl ⟨by rfl, fun _ _ => by go_simp⟩) HSV ?_
    go_simp
    refine wpAnyH_take (i := 28) rfl (by kernel_rfl) (by kernel_rfl) (by kernel_rfl) (fun _ _ _ h => h) (show YieldsIf _ _ _ _ (.string nm) _ from .inl ⟨by rfl, fun _ _ => by go_simp⟩) HSV ?_
    go_simp
    refine wpAnyH_take (i := 29) rfl (by kernel_rfl) (by kernel_rfl) (by kernel_rfl) (fun _ _ _ h => h) (show YieldsIf _ _ _ _ (.string nm) _ from .inl ⟨by rfl, fun _ _ => by go_simp⟩) HSV ?_
    go_simp
    refine wpAnyH_take (i := 30) rfl (by kernel_rfl) (by kernel_rfl) (by kernel_rfl) (fun _ _ _ h => h) (show YieldsIf _ _ _ _ (.bool true) _ from .inl ⟨by rfl, fun _ _ => by go_simp⟩) HSV ?_
    go_simp
    refine wpAnyH_take (i := 31) rfl (by kernel_rfl) (by kernel_rfl) (by kernel_rfl) (fun _ _ _ h => h) (show YieldsIf _ _ _ _ (.bool true) _ from .inl ⟨by rfl, fun _ _ => by go_simp⟩) HSV ?_
    go_simp
    refine wpAnyH_take (i := 32) rfl (by kernel_rfl) (by kernel_rfl) (by kernel_rfl) (fun _ _ _ h => h) (.inr ⟨by rfl, rfl⟩) HSV ?_
    go_simp
    refine wpAnyH_take (i := 33) rfl (by kernel_rfl) (by kernel_rfl) (by kernel_rfl) (fun _ _ _ h => h) (.inr ⟨by rfl, rfl⟩) HSV ?_
    go_simp
    refine wpAnyH_take (i := 34) rfl (by kernel_rfl) (by kernel_rfl) (by kernel_rfl) (fun _ _ _ h => h) (.inr ⟨by rfl, rfl⟩) HSV ?_
    go_simp
    refine wpAnyH_take (i := 35) rfl (by kernel_rfl) (by kernel_rfl) (by kernel_rfl) (fun _ _ _ h => h) (.inr ⟨by rfl, rfl⟩) HSV ?_
    go_simp
    refine wpAnyH_take (i := 36) rfl (by kernel_rfl) (by kernel_rfl) (by kernel_rfl) (fun _ _ _ h => h) (.inr ⟨by rfl, rfl⟩) HSV ?_
    go_simp
    refine wpAnyH_take (i := 37) rfl (by kernel_rfl) (by kernel_rfl) (by kernel_rfl) (fun _ _ _ h => h) (.inr ⟨by rfl, rfl⟩) HSV ?_
    go_simp
    refine wpAnyH_take (i := 38) rfl (by kernel_rfl) (by kernel_rfl) (by kernel_rfl) (fun _ _ _ h => h) (.inr ⟨by rfl, rfl⟩) HSV ?_
    go_simp
    refine wpAnyH_take (i := 39) rfl (by kernel_rfl) (by kernel_rfl) (by kernel_rfl) (fun _ _ _ h => h) (.inr ⟨by rfl, rfl⟩) HSV ?_
    go_simp
    refine wpAnyH_take (i := 40) rfl (by kernel_rfl) (by kernel_rfl) (by kernel_rfl) (fun _ _ _ h => h) (show YieldsIf _ _ _ _ (.bool true) _ from .inl ⟨by rfl, fun _ _ => by go_simp⟩) HSV ?_
    go_simp
    refine wpAnyH_take (i := 41) rfl (by kernel_rfl) (by kernel_rfl) (by kernel_rfl) (fun _ _ _ h => h) (show YieldsIf _ _ _ _ (.bool true) _ from .inl ⟨by rfl, fun _ _ => by go_simp⟩) HSV ?_
    go_simp
    refine wpAnyH_take (i := 42) rfl (by kernel_rfl) (by kernel_rfl) (by kernel_rfl) (fun _ _ _ h => h) (show YieldsIf _ _ _ _ (.bool true) _ from .inl ⟨by rfl, fun _ _ => by go_simp⟩) HSV ?_
    go_simp
    refine wpAnyH_take (i := 43) rfl (by kernel_rfl) (by kernel_rfl) (by kernel_rfl) (fun _ _ _ h => h) (show YieldsIf _ _ _ _ (.pointer (some ⟨w1.heap.size, 3, none⟩)) _ from .inl ⟨by rfl, fun _ _ => by go_simp⟩) HSV ?_
    go_simp
    refine wpAnyH_take (i := 44) rfl (by kernel_rfl) (by kernel_rfl) (by kernel_rfl) (fun _ _ _ h => h) (show YieldsIf _ _ _ _ (.slice A1 m c1) _ from .inl ⟨by rfl, fun W hW => by have hc : W.cell? ⟨w1.heap.size, 3, none⟩ = some (.slice A1 m c1) := hW.1.cell 3; go_simp⟩) HSV ?_
    go_simp
    refine wpAnyH_take (i := 45) rfl (by kernel_rfl) (by kernel_rfl) (by kernel_rfl) (fun _ _ _ h => h) (show YieldsIf _ _ _ _ (.pointer (some ⟨w.heap.size, 3, none⟩)) _ from .inl ⟨by rfl, fun _ _ => by go_simp⟩) HSV ?_
    go_simp
    refine wpAnyH_take (i := 46) rfl (by kernel_rfl) (by kernel_rfl) (by kernel_rfl) (fun _ _ _ h => h) (show YieldsIf _ _ _ _ (.slice A n c) _ from .inl ⟨by rfl, fun W hW => by have hc : W.cell? ⟨w.heap.size, 3, none⟩ = some (.slice A n c) := hW.2.cell 3; go_simp⟩) HSV ?_
    go_simp
    refine wpAnyH_take (i := 47) rfl (by kernel_rfl) (by kernel_rfl) (by kernel_rfl) (fun _ _ _ h => h) (show YieldsIf _ _ _ _ (.string nm) _ from .inl ⟨by rfl, fun _ _ => by go_simp⟩) HSV ?_
    go_simp
    refine wpAnyH_take (i := 48) rfl (by kernel_rfl) (by kernel_rfl) (by kernel_rfl) (fun _ _ _ h => h) (show YieldsIf _ _ _ _ (.string vl) _ from .inl ⟨by rfl, fun _ _ => by go_simp⟩) HSV ?_
    go_simp
    refine wpAnyH_all (rs := [49]) (by kernel_rfl) (by decide) ?_
    intro i hi'
    obtain rfl := List.mem_singleton.1 hi'
    refine held_callg (f := 8) (args := #[.slice A n c, .string nm, .string vl]) rfl (by rfl) (by go_simp) ?_
    refine (setR_any A n c l nm vl _ (by have := hn6.out; omega) hl (Lib.hid (hA.out.below hB5.out.drew))).mono ?_
    rintro e w6 ⟨v6, rfl, ho6, hb6⟩
    rw [hL.out, hm.out] at ho6
    obtain ⟨A6, c6, rfl, hc6, hF6⟩ := fields_of_own ho6 hm.out
    have hb6' : Hid (Below w5.heap.size w5 w6) := (Below.refl _ _).drew.trans hb6
    have hB6 : Hid (Below w.heap.size w w6) := hB5.out.trans (hb6'.out.mono hB5.out.size)
    have hp6 := Lib.hid (hp5.out.below hb6'.out hp5.out.lt)
    have hq6 := Lib.hid (hq5.out.below hb6'.out hq5.out.lt)
    have hF16 := Lib.hid (hF5.out.below hb6'.out)
    have hF6' := Lib.hid hF6
    clear hb6 HSV hi' ho6 hF6 hc6
    refine ⟨_, rfl, ?_⟩
    refine ⟨⟨hq6.out, hp6.out⟩, ?_⟩
    go_simp
    refine wpAnyH_all (rs := [50]) (by kernel_rfl) (by decide) ?_
    intro i hi'
    obtain rfl := List.mem_singleton.1 hi'
    refine held_callg (f := 7) (args := #[.slice A1 m c1, .slice A6 m c6]) rfl (by rfl) (by go_simp) ?_
    refine (sameF_any A1 A6 m c1 c6 L w6 (by have := hm6.out; omega) hm hF16 hF6').mono ?_
    rintro e w7 ⟨rfl, hb7⟩
    have hB7 : Hid (Below w.heap.size w w7) := hB6.out.trans (hb7.mono hB6.out.size)
    have hp7 := Lib.hid (hp6.out.below hb7 hp6.out.lt)
    have hq7 := Lib.hid (hq6.out.below hb7 hq6.out.lt)
    clear hb7 hi'
    refine ⟨_, rfl, ?_⟩
    refine ⟨⟨hq7.out, hp7.out⟩, ?_⟩
    go_simp
    have HSV : Blk w7 w1.heap.size 24 #[.int .i64 kd, .string nu, .string is, .slice A1 m c1] ∧ Blk w7 w.heap.size 24 #[.int .i64 kd, .string nu, .string is, .slice A n c] := ⟨hq7.out, hp7.out⟩
    refine wpAnyH_take (i := 51) rfl (by kernel_rfl) (by kernel_rfl) (by kernel_rfl) (fun _ _ _ h => h) (show YieldsIf _ _ _ _ (.bool true) _ from .inl ⟨by rfl, fun _ _ => by go_simp⟩) HSV ?_
    go_simp
    refine wpAnyH_take (i := 52) rfl (by kernel_rfl) (by kernel_rfl) (by kernel_rfl) (fun _ _ _ h => h) (show YieldsIf _ _ _ _ (.bool true) _ from .inl ⟨by rfl, fun _ _ => by go_simp⟩) HSV ?_
    go_simp
    refine wpAnyH_all (rs := [53]) (by kernel_rfl) (by decide) ?_
    intro i hi'
    obtain rfl := List.mem_singleton.1 hi'
    refine held_callg (f := 4) (args := #[]) rfl (by rfl) (by go_simp) ?_
    refine (awake_any w7 (he'.out.below hB7.out)).mono ?_
    rintro e w8 ⟨rfl, hb8⟩
    have hB8 : Hid (Below w.heap.size w w8) := hB7.out.trans (hb8.mono hB7.out.size)
    have hp8 := Lib.hid (hp7.out.below hb8 hp7.out.lt)
    have hq8 := Lib.hid (hq7.out.below hb8 hq7.out.lt)
    clear hb8 hi' HSV
    refine ⟨_, rfl, ?_⟩
    refine ⟨⟨hq8.out, hp8.out⟩, ?_⟩
    go_simp
    have HSV : Blk w8 w1.heap.size 24 #[.int .i64 kd, .string nu, .string is, .slice A1 m c1] ∧ Blk w8 w.heap.size 24 #[.int .i64 kd, .string nu, .string is, .slice A n c] := ⟨hq8.out, hp8.out⟩
    refine wpAnyH_take (i := 54) rfl (by kernel_rfl) (by kernel_rfl) (by kernel_rfl) (fun _ _ _ h => h) (show YieldsIf _ _ _ _ (.bool true) _ from .inl ⟨by rfl, fun _ _ => by go_simp⟩) HSV ?_
    go_simp
    refine wpAnyH_take (i := 55) rfl (by kernel_rfl) (by kernel_rfl) (by kernel_rfl) (fun _ _ _ h => h) (show YieldsIf _ _ _ _ (.bool true) _ from .inl ⟨by rfl, fun _ _ => by go_simp⟩) HSV ?_
    go_simp
    refine wpAnyH_done (by kernel_rfl) ?_ _
    go_wp2_with fail
    go_ret
    exact ⟨rfl, hB8.out⟩
  · have hcv : Hid (getV L ot = bv) := by rw [← hbv.out, ← hL.out]; unfold Hid getV; rw [getF_set_other l nm vl ot hsame]
    have hcb : Hid (getB L ot = bb) := by rw [← hbb.out, ← hL.out]; unfold Hid getB; rw [getF_set_other l nm vl ot hsame]
    rw [hcv.out, hcb.out]
    have hne : (ot.toList == nm.toList) = false := by simp [hsame]
    clear hsame
    go_wp2_with fail
    refine wp_region_held (S := fun W => Blk W w1.heap.size 24 #[.int .i64 kd, .string nu, .string is, .slice A1 m c1] ∧ Blk W w.heap.size 24 #[.int .i64 kd, .string nu, .string is, .slice A n c]) (by kernel_rfl) ?_
    have HSV : Blk w5.drew w1.heap.size 24 #[.int .i64 kd, .string nu, .string is, .slice A1 m c1] ∧ Blk w5.drew w.heap.size 24 #[.int .i64 kd, .string nu, .string is, .slice A n c] := ⟨hq5.out.drew, hp5.out.drew⟩
    refine wpAnyH_take (i := 0) rfl (by kernel_rfl) (by kernel_rfl) (by kernel_rfl) (fun _ _ _ h => h) (show YieldsIf _ _ _ _ (.string vl) _ from .inl ⟨by rfl, fun _ _ => by go_simp⟩) HSV ?_
    go_simp
    refine wpAnyH_take (i := 1) rfl (by kernel_rfl) (by kernel_rfl) (by kernel_rfl) (fun _ _ _ h => h) (show YieldsIf _ _ _ _ (.string vl) _ from .inl ⟨by rfl, fun _ _ => by go_simp⟩) HSV ?_
    go_simp
    refine wpAnyH_take (i := 2) rfl (by kernel_rfl) (by kernel_rfl) (by kernel_rfl) (fun _ _ _ h => h) (show YieldsIf _ _ _ _ (.bool true) _ from .inl ⟨by rfl, fun _ _ => by go_simp⟩) HSV ?_
    go_simp
    refine wpAnyH_take (i := 3) rfl (by kernel_rfl) (by kernel_rfl) (by kernel_rfl) (fun _ _ _ h => h) (show YieldsIf _ _ _ _ (.bool true) _ from .inl ⟨by rfl, fun _ _ => by go_simp⟩) HSV ?_
    go_simp
    refine wpAnyH_take (i := 4) rfl (by kernel_rfl) (by kernel_rfl) (by kernel_rfl) (fun _ _ _ h => h) (show YieldsIf _ _ _ _ (.bool true) _ from .inl ⟨by rfl, fun _ _ => by go_simp⟩) HSV ?_
    go_simp
    refine wpAnyH_take (i := 5) rfl (by kernel_rfl) (by kernel_rfl) (by kernel_rfl) (fun _ _ _ h => h) (show YieldsIf _ _ _ _ (.bool true) _ from .inl ⟨by rfl, fun _ _ => by go_simp⟩) HSV ?_
    go_simp
    refine wpAnyH_take (i := 6) rfl (by kernel_rfl) (by kernel_rfl) (by kernel_rfl) (fun _ _ _ h => h) (show YieldsIf _ _ _ _ (.bool true) _ from .inl ⟨by rfl, fun _ _ => by go_simp⟩) HSV ?_
    go_simp
    refine wpAnyH_take (i := 7) rfl (by kernel_rfl) (by kernel_rfl) (by kernel_rfl) (fun _ _ _ h => h) (show YieldsIf _ _ _ _ (.pointer (some ⟨w1.heap.size, 0, none⟩)) _ from .inl ⟨by rfl, fun _ _ => by go_simp⟩) HSV ?_
    go_simp
    refine wpAnyH_take (i := 8) rfl (by kernel_rfl) (by kernel_rfl) (by kernel_rfl) (fun _ _ _ h => h) (show YieldsIf _ _ _ _ (.int .i64 kd) _ from .inl ⟨by rfl, fun W hW => by have hc : W.cell? ⟨w1.heap.size, 0, none⟩ = some (.int .i64 kd) := hW.1.cell 0; go_simp⟩) HSV ?_
    go_simp
    refine wpAnyH_take (i := 9) rfl (by kernel_rfl) (by kernel_rfl) (by kernel_rfl) (fun _ _ _ h => h) (show YieldsIf _ _ _ _ (.pointer (some ⟨w.heap.size, 0, none⟩)) _ from .inl ⟨by rfl, fun _ _ => by go_simp⟩) HSV ?_
    go_simp
    refine wpAnyH_take (i := 10) rfl (by kernel_rfl) (by kernel_rfl) (by kernel_rfl) (fun _ _ _ h => h) (show YieldsIf _ _ _ _ (.int .i64 kd) _ from .inl ⟨by rfl, fun W hW => by have hc : W.cell? ⟨w.heap.size, 0, none⟩ = some (.int .i64 kd) := hW.2.cell 0; go_simp⟩) HSV ?_
    go_simp
    refine wpAnyH_take (i := 11) rfl (by kernel_rfl) (by kernel_rfl) (by kernel_rfl) (fun _ _ _ h => h) (show YieldsIf _ _ _ _ (.bool true) _ from .inl ⟨by rfl, fun _ _ => by go_simp⟩) HSV ?_
    go_simp
    refine wpAnyH_take (i := 12) rfl (by kernel_rfl) (by kernel_rfl) (by kernel_rfl) (fun _ _ _ h => h) (show YieldsIf _ _ _ _ (.bool true) _ from .inl ⟨by rfl, fun _ _ => by go_simp⟩) HSV ?_
    go_simp
    refine wpAnyH_take (i := 13) rfl (by kernel_rfl) (by kernel_rfl) (by kernel_rfl) (fun _ _ _ h => h) (show YieldsIf _ _ _ _ (.bool true) _ from .inl ⟨by rfl, fun _ _ => by go_simp⟩) HSV ?_
    go_simp
    refine wpAnyH_take (i := 14) rfl (by kernel_rfl) (by kernel_rfl) (by kernel_rfl) (fun _ _ _ h => h) (show YieldsIf _ _ _ _ (.pointer (some ⟨w1.heap.size, 1, none⟩)) _ from .inl ⟨by rfl, fun _ _ => by go_simp⟩) HSV ?_
    go_simp
    refine wpAnyH_take (i := 15) rfl (by kernel_rfl) (by kernel_rfl) (by kernel_rfl) (fun _ _ _ h => h) (show YieldsIf _ _ _ _ (.string nu) _ from .inl ⟨by rfl, fun W hW => by have hc : W.cell? ⟨w1.heap.size, 1, none⟩ = some (.string nu) := hW.1.cell 1; go_simp⟩) HSV ?_
    go_simp
    refine wpAnyH_take (i := 16) rfl (by kernel_rfl) (by kernel_rfl) (by kernel_rfl) (fun _ _ _ h => h) (show YieldsIf _ _ _ _ (.pointer (some ⟨w.heap.size, 1, none⟩)) _ from .inl ⟨by rfl, fun _ _ => by go_simp⟩) HSV ?_
    go_simp
    refine wpAnyH_take (i := 17) rfl (by kernel_rfl) (by kernel_rfl) (by kernel_rfl) (fun _ _ _ h => h) (show YieldsIf _ _ _ _ (.string nu) _ from .inl ⟨by rfl, fun W hW => by have hc : W.cell? ⟨w.heap.size, 1, none⟩ = some (.string nu) := hW.2.cell 1; go_simp⟩) HSV ?_
    go_simp
    refine wpAnyH_take (i := 18) rfl (by kernel_rfl) (by kernel_rfl) (by kernel_rfl) (fun _ _ _ h => h) (show YieldsIf _ _ _ _ (.bool true) _ from .inl ⟨by rfl, fun _ _ => by go_simp⟩) HSV ?_
    go_simp
    refine wpAnyH_take (i := 19) rfl (by kernel_rfl) (by kernel_rfl) (by kernel_rfl) (fun _ _ _ h => h) (show YieldsIf _ _ _ _ (.bool true) _ from .inl ⟨by rfl, fun _ _ => by go_simp⟩) HSV ?_
    go_simp
    refine wpAnyH_take (i := 20) rfl (by kernel_rfl) (by kernel_rfl) (by kernel_rfl) (fun _ _ _ h => h) (show YieldsIf _ _ _ _ (.bool true) _ from .inl ⟨by rfl, fun _ _ => by go_simp⟩) HSV ?_
    go_simp
    refine wpAnyH_take (i := 21) rfl (by kernel_rfl) (by kernel_rfl) (by kernel_rfl) (fun _ _ _ h => h) (show YieldsIf _ _ _ _ (.pointer (some ⟨w1.heap.size, 2, none⟩)) _ from .inl ⟨by rfl, fun _ _ => by go_simp⟩) HSV ?_
    go_simp
    refine wpAnyH_take (i := 22) rfl (by kernel_rfl) (by kernel_rfl) (by kernel_rfl) (fun _ _ _ h => h) (show YieldsIf _ _ _ _ (.string is) _ from .inl ⟨by rfl, fun W hW => by have hc : W.cell? ⟨w1.heap.size, 2, none⟩ = some (.string is) := hW.1.cell 2; go_simp⟩) HSV ?_
    go_simp
    refine wpAnyH_take (i := 23) rfl (by kernel_rfl) (by kernel_rfl) (by kernel_rfl) (fun _ _ _ h => h) (show YieldsIf _ _ _ _ (.pointer (some ⟨w.heap.size, 2, none⟩)) _ from .inl ⟨by rfl, fun _ _ => by go_simp⟩) HSV ?_
    go_simp
    refine wpAnyH_take (i := 24) rfl (by kernel_rfl) (by kernel_rfl) (by kernel_rfl) (fun _ _ _ h => h) (show YieldsIf _ _ _ _ (.string is) _ from .inl ⟨by rfl, fun W hW => by have hc : W.cell? ⟨w.heap.size, 2, none⟩ = some (.string is) := hW.2.cell 2; go_simp⟩) HSV ?_
    go_simp
    refine wpAnyH_take (i := 25) rfl (by kernel_rfl) (by kernel_rfl) (by kernel_rfl) (fun _ _ _ h => h) (show YieldsIf _ _ _ _ (.bool true) _ from .inl ⟨by rfl, fun _ _ => by go_simp⟩) HSV ?_
    go_simp
    refine wpAnyH_take (i := 26) rfl (by kernel_rfl) (by kernel_rfl) (by kernel_rfl) (fun _ _ _ h => h) (show YieldsIf _ _ _ _ (.bool true) _ from .inl ⟨by rfl, fun _ _ => by go_simp⟩) HSV ?_
    go_simp
    refine wpAnyH_take (i := 27) rfl (by kernel_rfl) (by kernel_rfl) (by kernel_rfl) (fun _ _ _ h => h) (show YieldsIf _ _ _ _ (.bool true) _ from .inl ⟨by rfl, fun _ _ => by go_simp⟩) HSV ?_
    go_simp
    refine wpAnyH_take (i := 28) rfl (by kernel_rfl) (by kernel_rfl) (by kernel_rfl) (fun _ _ _ h => h) (show YieldsIf _ _ _ _ (.string ot) _ from .inl ⟨by rfl, fun _ _ => by go_simp⟩) HSV ?_
    go_simp
    refine wpAnyH_take (i := 29) rfl (by kernel_rfl) (by kernel_rfl) (by kernel_rfl) (fun _ _ _ h => h) (show YieldsIf _ _ _ _ (.string nm) _ from .inl ⟨by rfl, fun _ _ => by go_simp⟩) HSV ?_
    go_simp
    refine wpAnyH_take (i := 30) rfl (by kernel_rfl) (by kernel_rfl) (by kernel_rfl) (fun _ _ _ h => h) (show YieldsIf _ _ _ _ (.bool false) _ from .inl ⟨by rfl, fun _ _ => by go_simp⟩) HSV ?_
    go_simp
    refine wpAnyH_take (i := 31) rfl (by kernel_rfl) (by kernel_rfl) (by kernel_rfl) (fun _ _ _ h => h) (show YieldsIf _ _ _ _ (.bool false) _ from .inl ⟨by rfl, fun _ _ => by go_simp⟩) HSV ?_
    go_simp
    refine wpAnyH_take (i := 32) rfl (by kernel_rfl) (by kernel_rfl) (by kernel_rfl) (fun _ _ _ h => h) (show YieldsIf _ _ _ _ (.string bv) _ from .inl ⟨by rfl, fun _ _ => by go_simp⟩) HSV ?_
    go_simp
    refine wpAnyH_take (i := 33) rfl (by kernel_rfl) (by kernel_rfl) (by kernel_rfl) (fun _ _ _ h => h) (show YieldsIf _ _ _ _ (.string bv) _ from .inl ⟨by rfl, fun _ _ => by go_simp⟩) HSV ?_
    go_simp
    refine wpAnyH_take (i := 34) rfl (by kernel_rfl) (by kernel_rfl) (by kernel_rfl) (fun _ _ _ h => h) (show YieldsIf _ _ _ _ (.bool true) _ from .inl ⟨by rfl, fun _ _ => by go_simp⟩) HSV ?_
    go_simp
    refine wpAnyH_take (i := 35) rfl (by kernel_rfl) (by kernel_rfl) (by kernel_rfl) (fun _ _ _ h => h) (show YieldsIf _ _ _ _ (.bool true) _ from .inl ⟨by rfl, fun _ _ => by go_simp⟩) HSV ?_
    go_simp
    refine wpAnyH_take (i := 36) rfl (by kernel_rfl) (by kernel_rfl) (by kernel_rfl) (fun _ _ _ h => h) (show YieldsIf _ _ _ _ (.bool bb) _ from .inl ⟨by rfl, fun _ _ => by go_simp⟩) HSV ?_
    go_simp
    refine wpAnyH_take (i := 37) rfl (by kernel_rfl) (by kernel_rfl) (by kernel_rfl) (fun _ _ _ h => h) (show YieldsIf _ _ _ _ (.bool bb) _ from .inl ⟨by rfl, fun _ _ => by go_simp⟩) HSV ?_
    go_simp
    refine wpAnyH_take (i := 38) rfl (by kernel_rfl) (by kernel_rfl) (by kernel_rfl) (fun _ _ _ h => h) (show YieldsIf _ _ _ _ (.bool true) _ from .inl ⟨by rfl, fun _ _ => by go_simp⟩) HSV ?_
    go_simp
    refine wpAnyH_take (i := 39) rfl (by kernel_rfl) (by kernel_rfl) (by kernel_rfl) (fun _ _ _ h => h) (show YieldsIf _ _ _ _ (.bool true) _ from .inl ⟨by rfl, fun _ _ => by go_simp⟩) HSV ?_
    go_simp
    refine wpAnyH_take (i := 40) rfl (by kernel_rfl) (by kernel_rfl) (by kernel_rfl) (fun _ _ _ h => h) (show YieldsIf _ _ _ _ (.bool true) _ from .inl ⟨by rfl, fun _ _ => by go_simp⟩) HSV ?_
    go_simp
    refine wpAnyH_take (i := 41) rfl (by kernel_rfl) (by kernel_rfl) (by kernel_rfl) (fun _ _ _ h => h) (show YieldsIf _ _ _ _ (.bool true) _ from .inl ⟨by rfl, fun _ _ => by go_simp⟩) HSV ?_
    go_simp
    refine wpAnyH_take (i := 42) rfl (by kernel_rfl) (by kernel_rfl) (by kernel_rfl) (fun _ _ _ h => h) (show YieldsIf _ _ _ _ (.bool true) _ from .inl ⟨by rfl, fun _ _ => by go_simp⟩) HSV ?_
    go_simp
    refine wpAnyH_take (i := 43) rfl (by kernel_rfl) (by kernel_rfl) (by kernel_rfl) (fun _ _ _ h => h) (show YieldsIf _ _ _ _ (.pointer (some ⟨w1.heap.size, 3, none⟩)) _ from .inl ⟨by rfl, fun _ _ => by go_simp⟩) HSV ?_
    go_simp
    refine wpAnyH_take (i := 44) rfl (by kernel_rfl) (by kernel_rfl) (by kernel_rfl) (fun _ _ _ h => h) (show YieldsIf _ _ _ _ (.slice A1 m c1) _ from .inl ⟨by rfl, fun W hW => by have hc : W.cell? ⟨w1.heap.size, 3, none⟩ = some (.slice A1 m c1) := hW.1.cell 3; go_simp⟩) HSV ?_
    go_simp
    refine wpAnyH_take (i := 45) rfl (by kernel_rfl) (by kernel_rfl) (by kernel_rfl) (fun _ _ _ h => h) (show YieldsIf _ _ _ _ (.pointer (some ⟨w.heap.size, 3, none⟩)) _ from .inl ⟨by rfl, fun _ _ => by go_simp⟩) HSV ?_
    go_simp
    refine wpAnyH_take (i := 46) rfl (by kernel_rfl) (by kernel_rfl) (by kernel_rfl) (fun _ _ _ h => h) (show YieldsIf _ _ _ _ (.slice A n c) _ from .inl ⟨by rfl, fun W hW => by have hc : W.cell? ⟨w.heap.size, 3, none⟩ = some (.slice A n c) := hW.2.cell 3; go_simp⟩) HSV ?_
    go_simp
    refine wpAnyH_take (i := 47) rfl (by kernel_rfl) (by kernel_rfl) (by kernel_rfl) (fun _ _ _ h => h) (show YieldsIf _ _ _ _ (.string nm) _ from .inl ⟨by rfl, fun _ _ => by go_simp⟩) HSV ?_
    go_simp
    refine wpAnyH_take (i := 48) rfl (by kernel_rfl) (by kernel_rfl) (by kernel_rfl) (fun _ _ _ h => h) (show YieldsIf _ _ _ _ (.string vl) _ from .inl ⟨by rfl, fun _ _ => by go_simp⟩) HSV ?_
    go_simp
    refine wpAnyH_all (rs := [49]) (by kernel_rfl) (by decide) ?_
    intro i hi'
    obtain rfl := List.mem_singleton.1 hi'
    refine held_callg (f := 8) (args := #[.slice A n c, .string nm, .string vl]) rfl (by rfl) (by go_simp) ?_
    refine (setR_any A n c l nm vl _ (by have := hn6.out; omega) hl (Lib.hid (hA.out.below hB5.out.drew))).mono ?_
    rintro e w6 ⟨v6, rfl, ho6, hb6⟩
    rw [hL.out, hm.out] at ho6
    obtain ⟨A6, c6, rfl, hc6, hF6⟩ := fields_of_own ho6 hm.out
    have hb6' : Hid (Below w5.heap.size w5 w6) := (Below.refl _ _).drew.trans hb6
    have hB6 : Hid (Below w.heap.size w w6) := hB5.out.trans (hb6'.out.mono hB5.out.size)
    have hp6 := Lib.hid (hp5.out.below hb6'.out hp5.out.lt)
    have hq6 := Lib.hid (hq5.out.below hb6'.out hq5.out.lt)
    have hF16 := Lib.hid (hF5.out.below hb6'.out)
    have hF6' := Lib.hid hF6
    clear hb6 HSV hi' ho6 hF6 hc6
    refine ⟨_, rfl, ?_⟩
    refine ⟨⟨hq6.out, hp6.out⟩, ?_⟩
    go_simp
    refine wpAnyH_all (rs := [50]) (by kernel_rfl) (by decide) ?_
    intro i hi'
    obtain rfl := List.mem_singleton.1 hi'
    refine held_callg (f := 7) (args := #[.slice A1 m c1, .slice A6 m c6]) rfl (by rfl) (by go_simp) ?_
    refine (sameF_any A1 A6 m c1 c6 L w6 (by have := hm6.out; omega) hm hF16 hF6').mono ?_
    rintro e w7 ⟨rfl, hb7⟩
    have hB7 : Hid (Below w.heap.size w w7) := hB6.out.trans (hb7.mono hB6.out.size)
    have hp7 := Lib.hid (hp6.out.below hb7 hp6.out.lt)
    have hq7 := Lib.hid (hq6.out.below hb7 hq6.out.lt)
    clear hb7 hi'
    refine ⟨_, rfl, ?_⟩
    refine ⟨⟨hq7.out, hp7.out⟩, ?_⟩
    go_simp
    have HSV : Blk w7 w1.heap.size 24 #[.int .i64 kd, .string nu, .string is, .slice A1 m c1] ∧ Blk w7 w.heap.size 24 #[.int .i64 kd, .string nu, .string is, .slice A n c] := ⟨hq7.out, hp7.out⟩
    refine wpAnyH_take (i := 51) rfl (by kernel_rfl) (by kernel_rfl) (by kernel_rfl) (fun _ _ _ h => h) (show YieldsIf _ _ _ _ (.bool true) _ from .inl ⟨by rfl, fun _ _ => by go_simp⟩) HSV ?_
    go_simp
    refine wpAnyH_take (i := 52) rfl (by kernel_rfl) (by kernel_rfl) (by kernel_rfl) (fun _ _ _ h => h) (show YieldsIf _ _ _ _ (.bool true) _ from .inl ⟨by rfl, fun _ _ => by go_simp⟩) HSV ?_
    go_simp
    refine wpAnyH_all (rs := [53]) (by kernel_rfl) (by decide) ?_
    intro i hi'
    obtain rfl := List.mem_singleton.1 hi'
    refine held_callg (f := 4) (args := #[]) rfl (by rfl) (by go_simp) ?_
    refine (awake_any w7 (he'.out.below hB7.out)).mono ?_
    rintro e w8 ⟨rfl, hb8⟩
    have hB8 : Hid (Below w.heap.size w w8) := hB7.out.trans (hb8.mono hB7.out.size)
    have hp8 := Lib.hid (hp7.out.below hb8 hp7.out.lt)
    have hq8 := Lib.hid (hq7.out.below hb8 hq7.out.lt)
    clear hb8 hi' HSV
    refine ⟨_, rfl, ?_⟩
    refine ⟨⟨hq8.out, hp8.out⟩, ?_⟩
    go_simp
    have HSV : Blk w8 w1.heap.size 24 #[.int .i64 kd, .string nu, .string is, .slice A1 m c1] ∧ Blk w8 w.heap.size 24 #[.int .i64 kd, .string nu, .string is, .slice A n c] := ⟨hq8.out, hp8.out⟩
    refine wpAnyH_take (i := 54) rfl (by kernel_rfl) (by kernel_rfl) (by kernel_rfl) (fun _ _ _ h => h) (show YieldsIf _ _ _ _ (.bool true) _ from .inl ⟨by rfl, fun _ _ => by go_simp⟩) HSV ?_
    go_simp
    refine wpAnyH_take (i := 55) rfl (by kernel_rfl) (by kernel_rfl) (by kernel_rfl) (fun _ _ _ h => h) (show YieldsIf _ _ _ _ (.bool true) _ from .inl ⟨by rfl, fun _ _ => by go_simp⟩) HSV ?_
    go_simp
    refine wpAnyH_done (by kernel_rfl) ?_ _
    go_wp2_with fail
    go_ret
    exact ⟨rfl, hB8.out⟩
end Go.Proofs.YtnmnknkdnjkpjaaDoor

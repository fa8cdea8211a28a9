/- The chapter's example. -/
import Derived.Test.YtnmnknkdnjkpjaaGreatDoorE
import Derived.Test.YtnmnknkdnjkpjaaGreatDoorF
import Derived.Test.YtnmnknkdnjkpjaaGreatDoorZ
import Derived.Test.YtnmnknkdnjkpjaaGreatDoorHd
namespace Go.Proofs.YtnmnknkdnjkpjaaGreatDoor
open Go Go.RowKit Go.BigFrame Go.Maps

def d0 : Dl := ⟨mkB [100, 49], ⟨#[]⟩, ⟨#[]⟩, ⟨#[]⟩, ⟨#[]⟩, ⟨#[]⟩, ⟨#[]⟩, mkB [114, 105, 103, 97], mkB [111, 115, 108, 111], mkB [85, 83, 68], 500, none, 0, [], 0, 0, 0, 0, 0⟩
theorem boxes_nil (w : World) (A : Option Addr) : BoxesAt w A [] := ⟨RowOf.nil, by simp⟩
theorem d0_ok (w : World) : d0.ok w where
  number := by decide
  seller := by decide
  buyer := by decide
  carrier := by decide
  issuer := by decide
  house := by decide
  insurer := by decide
  frm := by decide
  toP := by decide
  currency := by decide
  amount := by decide
  term := by decide
  latest := by decide
  expiry := by decide
  tenor := by decide
  duty := by decide
  at_ := boxes_nil w none
  most := by decide
  cap := by decide
  marks := by intro x hx; cases hx
theorem itoa500 : Lib.itoa 500 = [53, 48, 48] := by kernel_rfl
theorem sum_d0 : getF (invL d0) ⟨#[115, 117, 109]⟩ = some (mkB [53, 48, 48]) := by
  simp only [invL, getF, mkB, ByteArray.toList_eq]
  simp
  exact itoa500

set_option maxRecDepth 100000 in
set_option maxHeartbeats 3200000 in
theorem awake_any (w : World) (he : Env w) : Calls Tryz.prog 8 #[] w fun e w' => e = .returned (.bool true) ∧ Below w.heap.size w w' := by
  have he' := Lib.hid he
  clear he
  have hi1 := fun W (hW : Env W) => Lib.hid (invoice_any d0 W (Lib.hid (d0_ok W)) hW)
  have hp1 := fun W (hW : Env W) => Lib.hid (packing_any d0 W (Lib.hid (d0_ok W)) hW)
  obtain ⟨D, hD⟩ : ∃ D, Hid (d0.cells = D) := ⟨_, rfl⟩
  have hDs : Hid (D.size = 17) := by rw [← hD.out]; exact Lib.hid rfl
  have hn0 : Hid (d0.number = mkB [100, 49]) := Lib.hid rfl
  go_enter Tryz.func8, Tryz.ntmps8
  go_wp2_with fail
  show Calls Tryz.prog 10 #[.agg d0.cells] (w.alloc (.cells d0.cells 26)) _
  simp only [hD.out] at hi1 hp1 ⊢
  have hb0 : Hid (Below w.heap.size w (w.alloc (.cells D 26))) := (Below.refl _ w).alloc (Nat.le_refl _) _
  have hk0 : Hid (Blk (w.alloc (.cells D 26)) w.heap.size 26 D) := Blk.new _ _ _
  have hs0 : Hid ((w.alloc (.cells D 26)).heap.size = w.heap.size + 1) := by refine Lib.hid ?_; simp
  refine (hi1 _ (he'.out.below hb0.out)).out.mono ?_
  rintro e w1 ⟨⟨v, rfl, ho⟩, hb1⟩
  obtain ⟨A1, c1, rfl, hc1, hF1⟩ := fields_of_own ho rfl
  have hF1' := Lib.hid hF1
  have hL8 : Hid ((invL d0).length = 8) := Lib.hid rfl
  have hB1 : Hid (Below w.heap.size w w1) := hb0.out.trans (hb1.mono hb0.out.size)
  have hk1 := Lib.hid (hk0.out.below hb1 hk0.out.lt)
  have hs1 : Hid (w.heap.size < w1.heap.size) := hk1.out.lt
  obtain ⟨nu, hnu⟩ : ∃ x, Hid (mkB [105, 118, 45] ++ d0.number = x) := ⟨_, rfl⟩
  obtain ⟨is, his⟩ : ∃ x, Hid (d0.seller = x) := ⟨_, rfl⟩
  rw [hnu.out, his.out, hL8.out]
  obtain ⟨w2, hw2⟩ : ∃ W, Hid (w1.alloc (.cells #[.int .i64 0, .string nu, .string is, .slice A1 8 c1] 32) = W) := ⟨_, rfl⟩
  have hb2 : Hid (Below w1.heap.size w1 w2) := by rw [← hw2.out]; exact (Below.refl _ w1).alloc (Nat.le_refl _) _
  have hp2 : Hid (Blk w2 w1.heap.size 32 #[.int .i64 0, .string nu, .string is, .slice A1 8 c1]) := by rw [← hw2.out]; exact Blk.new _ _ _
  have hk2 := Lib.hid (hk1.out.below hb2.out hk1.out.lt)
  have hB2 : Hid (Below w.heap.size w w2) := hB1.out.trans (hb2.out.mono hB1.out.size)
  have hF2 := Lib.hid (hF1'.out.below hb2.out)
  have hget := Lib.hid (get_any A1 8 c1 (invL d0) ⟨#[115, 117, 109]⟩ w2 (by decide) hL8 hF2)
  have hgv : Hid (getV (invL d0) ⟨#[115, 117, 109]⟩ = mkB [53, 48, 48]) := by unfold Hid getV; rw [sum_d0]; rfl
  have hgb : Hid (getB (invL d0) ⟨#[115, 117, 109]⟩ = true) := by unfold Hid getB; rw [sum_d0]; rfl
  rw [hgv.out, hgb.out] at hget
  clear ho hF1 hb1 hc1
  go_wp2_with fail
  rw [hw2.out]
  refine hget.out.mono ?_
  rintro e w3 ⟨rfl, hb3⟩
  have hB3 : Hid (Below w.heap.size w w3) := hB2.out.trans (hb3.mono hB2.out.size)
  have hp3 := Lib.hid (hp2.out.below hb3 hp2.out.lt)
  have hk3 := Lib.hid (hk2.out.below hb3 hk2.out.lt)
  have hF3 := Lib.hid (hF2.out.below hb3)
  clear hb3 hget
  go_wp2_with fail
  have hnuq : Hid ((nu.toList == [105, 118, 45, 100, 49]) = true) := by
    rw [← hnu.out, hn0.out]; exact Lib.hid (by simp [mkB, ByteArray.toList_eq])
  refine wp_region_held (S := fun W => Blk W w.heap.size 26 D ∧ Blk W w1.heap.size 32 #[.int .i64 0, .string nu, .string is, .slice A1 8 c1]) (by kernel_rfl) ?_
  have hSV : Blk w3.drew w.heap.size 26 D ∧ Blk w3.drew w1.heap.size 32 #[.int .i64 0, .string nu, .string is, .slice A1 8 c1] := ⟨hk3.out.drew, hp3.out.drew⟩
  refine wpAnyH_take (i := 0) rfl (by kernel_rfl) (by kernel_rfl) (by kernel_rfl) (fun _ _ _ h => h) (yields_blk rfl rfl rfl Tryz.underlying32 rfl (by kernel_rfl) (fun _ h => h.2)) hSV ?_
  go_simp
  refine wpAnyH_take (i := 1) rfl (by kernel_rfl) (by kernel_rfl) (by kernel_rfl) (fun _ _ _ h => h) (yields_blk rfl rfl rfl Tryz.underlying26 rfl (by rw [hDs.out]; kernel_rfl) (fun _ h => h.1)) hSV ?_
  go_simp
  refine wpAnyH_all (rs := [2]) (by kernel_rfl) (by decide) ?_
  intro i hi'
  obtain rfl := List.mem_singleton.1 hi'
  refine held_call (f := 12) (args := #[.agg D]) rfl rfl (by go_simp) ?_
  refine (hp1 _ (he'.out.below hB3.out.drew)).out.mono ?_
  rintro e w4 ⟨⟨v4, rfl, ho4⟩, hb4⟩
  obtain ⟨A4, c4, rfl, hc4, hF4⟩ := fields_of_own ho4 rfl
  have hL6 : Hid ((packL d0).length = 6) := Lib.hid rfl
  have hb4' : Hid (Below w3.heap.size w3 w4) := (Below.refl _ _).drew.trans hb4
  have hB4 : Hid (Below w.heap.size w w4) := hB3.out.trans (hb4'.out.mono hB3.out.size)
  have hk4 := Lib.hid (hk3.out.below hb4'.out hk3.out.lt)
  have hp4 := Lib.hid (hp3.out.below hb4'.out hp3.out.lt)
  have hF14 := Lib.hid (hF3.out.below hb4'.out)
  have hF4' := Lib.hid hF4
  clear hb4 hSV hi' ho4 hF4 hc4
  obtain ⟨nv, hnv⟩ : ∃ x, Hid (mkB [112, 107, 45] ++ d0.number = x) := ⟨_, rfl⟩
  rw [hnv.out, his.out, hL6.out]
  refine ⟨_, rfl, ?_⟩
  refine ⟨⟨hk4.out, hp4.out⟩, ?_⟩
  go_simp
  refine wpAnyH_all (rs := [3]) (by kernel_rfl) (by decide) ?_
  intro i hi'
  obtain rfl := List.mem_singleton.1 hi'
  refine held_value (v := .slice (some ⟨w4.heap.size, 0, none⟩) 2 2) (w' := w4.alloc (.cells #[.int .i64 0, .string nu, .string is, .slice A1 8 c1, .int .i64 1, .string nv, .string is, .slice A4 6 c4] 32)) rfl rfl (by go_simp) ?_
  have hb5 : Hid (Below w4.heap.size w4 (w4.alloc (.cells #[.int .i64 0, .string nu, .string is, .slice A1 8 c1, .int .i64 1, .string nv, .string is, .slice A4 6 c4] 32))) := (Below.refl _ w4).alloc (Nat.le_refl _) _
  have hB5 : Hid (Below w.heap.size w (w4.alloc (.cells #[.int .i64 0, .string nu, .string is, .slice A1 8 c1, .int .i64 1, .string nv, .string is, .slice A4 6 c4] 32))) := hB4.out.trans (hb5.out.mono hB4.out.size)
  have hr5 := Blk.new w4 32 #[.int .i64 0, .string nu, .string is, .slice A1 8 c1, .int .i64 1, .string nv, .string is, .slice A4 6 c4]
  have hk5 := Lib.hid (hk4.out.below hb5.out hk4.out.lt)
  have hp5 := Lib.hid (hp4.out.below hb5.out hp4.out.lt)
  have hdocs : Hid (DocsAt (w4.alloc (.cells #[.int .i64 0, .string nu, .string is, .slice A1 8 c1, .int .i64 1, .string nv, .string is, .slice A4 6 c4] 32)) (some ⟨w4.heap.size, 0, none⟩) [⟨0, nu, is, A1, c1, invL d0⟩, ⟨1, nv, is, A4, c4, packL d0⟩]) := by
    intro k x hx
    match k with
    | 0 =>
      simp at hx; subst hx
      exact ⟨w4.heap.size, 0, rfl, hr5.cell 0, hr5.cell 1, hr5.cell 2, hr5.cell 3, hF14.out.below hb5.out, (show (invL d0).length ≤ maxLen by decide), (show -9223372036854775808 ≤ (0 : Int) ∧ (0 : Int) ≤ 9223372036854775807 by decide)⟩
    | 1 =>
      simp at hx; subst hx
      exact ⟨w4.heap.size, 0, rfl, hr5.cell 4, hr5.cell 5, hr5.cell 6, hr5.cell 7, hF4'.out.below hb5.out, (show (packL d0).length ≤ maxLen by decide), (show -9223372036854775808 ≤ (1 : Int) ∧ (1 : Int) ≤ 9223372036854775807 by decide)⟩
    | k + 2 => simp at hx
  refine ⟨⟨hk5.out, hp5.out⟩, ?_⟩
  clear hi' hr5
  obtain ⟨w5, hw5⟩ : ∃ W, Hid (w4.alloc (.cells #[.int .i64 0, .string nu, .string is, .slice A1 8 c1, .int .i64 1, .string nv, .string is, .slice A4 6 c4] 32) = W) := ⟨_, rfl⟩
  rw [hw5.out] at hdocs hB5 hk5 hp5 ⊢
  go_simp
  refine wpAnyH_all (rs := [4]) (by kernel_rfl) (by decide) ?_
  intro i hi'
  obtain rfl := List.mem_singleton.1 hi'
  refine held_call (f := 23) (args := #[.int .i64 2, .slice (some ⟨w4.heap.size, 0, none⟩) 2 2]) rfl rfl (by go_simp) ?_
  refine (spoilt2_any _ 2 2 _ w5 (by decide) (Lib.hid rfl) hdocs (Lib.hid (by intro p hp; simp at hp; rcases hp with rfl | rfl <;> first | exact (show (invL d0).length ≤ 1000000 by decide) | exact (show (packL d0).length ≤ 1000000 by decide)))).mono ?_
  rintro e w6 ⟨A6, c6, L6, rfl, hd6, he6, hb6⟩
  have hL1 : L6.map Pap.pl = [Pap.pl ⟨0, nu, is, A1, c1, invL d0⟩] := by rw [he6]; rfl
  obtain ⟨p6, rfl⟩ : ∃ p, L6 = [p] := by
    cases L6 with
    | nil => cases hL1
    | cons p r => cases r with
      | nil => exact ⟨p, rfl⟩
      | cons q r => simp at hL1
  simp only [List.map_cons, List.map_nil, List.cons.injEq, and_true, Pap.pl, Dc.mk.injEq] at hL1
  have hB6 := Lib.hid (hB5.out.trans (hb6.mono hB5.out.size))
  have hk6 := Lib.hid (hk5.out.below hb6 hk5.out.lt)
  have hp6 := Lib.hid (hp5.out.below hb6 hp5.out.lt)
  obtain ⟨b6, o6, rfl, h0, _⟩ := hd6 0 p6 rfl
  rw [hL1.1] at h0
  clear hi' hd6 he6 hb6 hL1 hdocs
  refine ⟨_, rfl, ?_⟩
  refine ⟨⟨hk6.out, hp6.out⟩, ?_⟩
  go_simp
  refine wpAnyH_take (i := 5) rfl (by kernel_rfl) (by kernel_rfl) (by kernel_rfl) (fun _ _ _ h => h) (yields_of rfl (fun _ _ => rfl)) ⟨hk6.out, hp6.out⟩ ?_
  go_simp
  refine wpAnyH_done (by kernel_rfl) ?_ _
  have g1 : w6.cell? ⟨w1.heap.size, 1, none⟩ = some (.string nu) := hp6.out.cell 1
  have hq := hnuq.out
  have hq2 : ((mkB [53, 48, 48]).toList == [53, 48, 48]) = true := by simp [mkB, ByteArray.toList_eq]
  simp only [Nat.zero_mul, Nat.add_zero] at h0
  go_wp2_with fail
  go_ret
  exact ⟨rfl, hB6.out⟩
end Go.Proofs.YtnmnknkdnjkpjaaGreatDoor

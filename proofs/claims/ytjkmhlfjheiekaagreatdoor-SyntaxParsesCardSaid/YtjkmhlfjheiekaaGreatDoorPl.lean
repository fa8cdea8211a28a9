import Derived.Test.YtjkmhlfjheiekaaGreatDoorPha
import Derived.Test.YtjkmhlfjheiekaaGreatDoorPi
import Derived.Test.YtjkmhlfjheiekaaGreatDoorTf
import Derived.Test.YtjkmhlfjheiekaaGreatDoorWe
namespace Go.Proofs.YtjkmhlfjheiekaaGreatDoor
open Go Go.RowKit Go.BigFrame Go.Maps
set_option maxRecDepth 100000 in
set_option maxHeartbeats 51200000 in
theorem rparse_any (s : ByteArray) (w : World) (hs : s.size ≤ maxLen) : Calls Tryz.prog 24 #[.string s] w (Parsed w (parseT_D s.data.toList)) := by
 have hln : Hid (s.data.toList.length = s.size) := by unfold Hid; simp
 have hR0 : Hid (Blk (w.alloc (.cells zeroC 41)) w.heap.size 41 zeroC) := Blk.new w 41 zeroC
 have hB0 : Hid (Below w.heap.size w (w.alloc (.cells zeroC 41))) := (Below.refl _ w).alloc le9 _
 have hsz0 : Hid ((w.alloc (.cells zeroC 41)).heap.size = w.heap.size + 1) := by unfold Hid; simp
 have hsc := hd9 (fun W => rscan_any s W hs)
 obtain ⟨i0, hi, hz0, hz1, hz2⟩ := info_parts (P := Tryz.prog) (e := 74) (z := .agg zeroD) (size := 8) (bytes := 96) (by kernel_rfl)
 unfold maxLen at hs
 have hs' := hd9 hs
 clear hs
 by_cases hbig : 4096 < s.size
 ·have b1 : decide ((4096 : Int) < (s.size : Int)) = true := by simp; omega
  have hres : Hid (parseT_D s.data.toList = .error (0, 7)) := by unfold Hid; rw [parseT_D, if_pos (by rw [hln.out]; exact hbig)]
  go_enter Tryz.func24, Tryz.ntmps24
  go_wp2_with (refine wpList_put_blk rfl 41 _ _ rfl w.heap.size zeroC zeroC 41 rfl rfl hR0.out rfl i41 zc_one ?_; intro w9 hP9 hu9)
  refine bodyPost_ret (results_row_tmp2 rfl _ _ w.heap.size 41 _ _ rfl hP9 Tryz.underlying41 rfl i41) rfl ?_
  unfold Parsed
  rw [hres.out]
  exact ⟨hu9.to_below hB0.out le9 hB0.out.size, rfl, by decide⟩
 have b1 : decide ((4096 : Int) < (s.size : Int)) = false := by simp; omega
 go_enter Tryz.func24, Tryz.ntmps24
 go_wp2_with fail
 change Calls Tryz.prog 34 _ (w.alloc (.cells zeroC 41)) _
 obtain ⟨wa, hwa⟩ : ∃ x, Hid (w.alloc (.cells zeroC 41) = x) := ⟨_, hd9 rfl⟩
 rw [hwa.out] at hR0 hB0 hsz0 ⊢
 clear hwa
 refine (hsc.out wa).mono ?_
 rintro x w1 ⟨hb1, hcase⟩
 have hP1 := hd9 (hR0.out.below hb1 hR0.out.lt)
 have hB1 : Hid (Below w.heap.size w w1) := hB0.out.trans (hb1.mono hB0.out.size)
 have hsz1 : Hid (w.heap.size + 1 ≤ w1.heap.size) := by have := hb1.size; have := hsz0.out; unfold Hid; omega
 have hle : Hid (w.heap.size + 1 ≤ wa.heap.size) := by have := hsz0.out; unfold Hid; omega
 clear hb1 hR0 hB0 hsc
 rcases hcase with ⟨l, v, hsc, rfl, hl, hown⟩ | ⟨k, cd, hsc, hcd, rfl⟩
 ·obtain ⟨A, c, rfl⟩ := own_slice hown
  have hpD : Hid (parseT_D s.data.toList = endC (creditD s.size l ⟨0, 0, 0⟩)) := by unfold Hid parseT_D; rw [if_neg (by rw [hln.out]; exact hbig), hsc, hln.out]
  have hok : Hid (TokOk l) := tokens_ok hsc (by rw [hln.out]; omega)
  have hgd := hd9 (scan_goodL hsc)
  have hA0 : Hid (TokAt w1 0 A l) := tok_own hown (by have := hle.out; omega)
  obtain ⟨n, hn⟩ : ∃ n, Hid (l.length = n) := ⟨_, hd9 rfl⟩
  have hm : n ≤ 4096 := by rw [← hn.out]; exact hl
  obtain ⟨N, hN⟩ : ∃ N, Hid (2 * l.length + 2 = N) := ⟨_, hd9 rfl⟩
  obtain ⟨e, he⟩ : ∃ e, Hid (s.size = e) := ⟨_, hd9 rfl⟩
  rw [he.out] at hpD
  clear hown hsc hl
  rw [hn.out]
  have hC0 : Hid (Blk (w1.alloc (.cells zeroC 41)) w1.heap.size 41 zeroC) := Blk.new w1 41 zeroC
  go_upto_region 7 with (refine wpList_put_blk rfl 41 _ _ rfl w1.heap.size zeroC zeroC 41 rfl rfl hC0.out rfl i41 zc_one ?_; intro w2 hC2 hu2)
  have hs2 : Hid (w1.heap.size < w2.heap.size) := by have h := hu2.size; unfold Hid; simp at h; omega
  have hS2 : Hid (Below w1.heap.size w1 w2) := hu2.to_below ((Below.refl _ w1).alloc le9 _) le9 (by simp)
  have hC := hd9 (hC2.alloc (.cells #[.slice A n c, .int .i64 0, .int .i64 s.size, .int .i64 0, .int .i64 0] 83))
  have hR : Hid (Blk (w2.alloc (.cells #[.slice A n c, .int .i64 0, .int .i64 s.size, .int .i64 0, .int .i64 0] 83)) w2.heap.size 83 #[.slice A n c, .int .i64 0, .int .i64 s.size, .int .i64 0, .int .i64 0]) := Blk.new w2 83 _
  have hS : Hid (Below w1.heap.size w1 (w2.alloc (.cells #[.slice A n c, .int .i64 0, .int .i64 s.size, .int .i64 0, .int .i64 0] 83))) := hS2.out.alloc hS2.out.size _
  clear hC2 hu2 hS2 hC0
  go_upto_region 8 with fail
  obtain ⟨wb, hwb⟩ : ∃ x, Hid (w2.alloc (.cells #[.slice A n c, .int .i64 0, .int .i64 s.size, .int .i64 0, .int .i64 0] 83) = x) := ⟨_, hd9 rfl⟩
  rw [hwb.out] at hC hR hS ⊢
  rw [he.out] at hR ⊢
  clear hwb
  obtain ⟨gC, hgC⟩ : ∃ g, Hid (w1.heap.size = g) := ⟨_, hd9 rfl⟩
  obtain ⟨gR, hgR0⟩ : ∃ g, Hid (w2.heap.size = g) := ⟨_, hd9 rfl⟩
  rw [hgC.out] at hC hS hs2 hsz1 ⊢
  rw [hgR0.out] at hR hs2 ⊢
  have hgR := hs2
  have hgP := hsz1
  have ncr : gC ≠ gR := by have := hgR.out; omega
  have nrc : gR ≠ gC := by have := hgR.out; omega
  have hgl : Hid (gC ≤ gR) := by have := hgR.out; unfold Hid; omega
  have hA0f : Hid (∀ W, Below gC w1 W → TokAt W 0 A l) := fun W h => hA0.out.below (by rw [hgC.out]; exact h)
  have hA := hd9 (hA0f.out _ hS.out)
  obtain ⟨⟨t1, ⟨k1, p1, c1⟩⟩, h1⟩ : ∃ r, Hid (lineD e l wCredit ⟨0, 0, 0⟩ = r) := ⟨_, hd9 rfl⟩
  go_upto_region 9 with (first | (go_at_call 47; refine (rnamed_any A n c l wb e hn hm hok wCredit ⟨0, 0, 0⟩ hA).mono ?_; rintro x2 w21 ⟨rfl, hbc⟩; rw [h1.out]; (try dsimp only); replace hC := hd9 (hC.out.below hbc hC.out.lt); replace hR := hd9 (hR.out.below hbc hR.out.lt); replace hS := hd9 (hS.out.trans (hbc.mono (Nat.le_trans (Nat.le_of_eq hgC.out.symm) hS.out.size))); replace hA := hd9 (hA.out.below hbc)) | (refine wpList_get_blk rfl 83 _ rfl gR #[.slice A n c, .int .i64 0, .int .i64 e, .int .i64 0, .int .i64 0] 83 _ rfl hR.out Tryz.underlying83 rfl i83 ?_) | (refine wpList_put_blk rfl 83 _ _ rfl gR #[.slice A n c, .int .i64 0, .int .i64 e, .int .i64 0, .int .i64 0] #[.slice A n c, .int .i64 k1, .int .i64 e, .int .i64 c1, .int .i64 p1] 83 rfl rfl hR.out rfl i83 (rd_one _ _ _ _ _ _ _) ?_; intro w22 hR9 hu8; have hC9 := hd9 (hu8.blk hC.out ncr); have hCc : w22.cell? ⟨gC, 0, none⟩ = some (.string ⟨#[]⟩) := hC9.out.cell 0; have hCf := hC9.out.frozen 0; have hCl := hC9.out.lt))
  replace hR : Hid (Blk (w22.setCell ⟨gC, 0, none⟩ (.string ⟨t1.toArray⟩)) gR 83 #[.slice A n c, .int .i64 k1, .int .i64 e, .int .i64 c1, .int .i64 p1]) := hR9.far (p := ⟨gC, 0, none⟩) nrc _
  replace hC : Hid (Blk (w22.setCell ⟨gC, 0, none⟩ (.string ⟨t1.toArray⟩)) gC 41 #[.string ⟨t1.toArray⟩, .string ⟨#[]⟩, .string ⟨#[]⟩, .string ⟨#[]⟩, .string ⟨#[]⟩, .string ⟨#[]⟩, .string ⟨#[]⟩, .string ⟨#[]⟩, .int .i64 0, .int .i64 0, .int .i64 0, .int .i64 0, .int .i64 0, .int .i64 0, .int .i64 0, .bool false, .bool false, .slice none 0 0]) := hC9.out.set_ 0 (.string ⟨t1.toArray⟩)
  replace hS : Hid (Below gC w1 (w22.setCell ⟨gC, 0, none⟩ (.string ⟨t1.toArray⟩))) := (hu8.to_below hS.out hgl.out (Nat.le_trans (Nat.le_of_eq hgC.out.symm) hS.out.size)).setCell le9 _
  obtain ⟨w23, hw⟩ : ∃ x, Hid ((w22.setCell ⟨gC, 0, none⟩ (.string ⟨t1.toArray⟩)) = x) := ⟨_, hd9 rfl⟩
  rw [hw.out] at hR hC hS ⊢
  clear hw hA hR9 hu8 hC9 hCc hCf hCl
  replace hA := hd9 (hA0f.out _ hS.out)
  obtain ⟨⟨t2, ⟨k2, p2, c2⟩⟩, h2⟩ : ∃ r, Hid (lineD e l wApplicant ⟨k1, p1, c1⟩ = r) := ⟨_, hd9 rfl⟩
  go_upto_region 10 with (first | (go_at_call 47; refine (rnamed_any A n c l w23 e hn hm hok wApplicant ⟨k1, p1, c1⟩ hA).mono ?_; rintro x2 w24 ⟨rfl, hbc⟩; rw [h2.out]; (try dsimp only); replace hC := hd9 (hC.out.below hbc hC.out.lt); replace hR := hd9 (hR.out.below hbc hR.out.lt); replace hS := hd9 (hS.out.trans (hbc.mono (Nat.le_trans (Nat.le_of_eq hgC.out.symm) hS.out.size))); replace hA := hd9 (hA.out.below hbc)) | (refine wpList_get_blk rfl 83 _ rfl gR #[.slice A n c, .int .i64 k1, .int .i64 e, .int .i64 c1, .int .i64 p1] 83 _ rfl hR.out Tryz.underlying83 rfl i83 ?_) | (refine wpList_put_blk rfl 83 _ _ rfl gR #[.slice A n c, .int .i64 k1, .int .i64 e, .int .i64 c1, .int .i64 p1] #[.slice A n c, .int .i64 k2, .int .i64 e, .int .i64 c2, .int .i64 p2] 83 rfl rfl hR.out rfl i83 (rd_one _ _ _ _ _ _ _) ?_; intro w25 hR9 hu8; have hC9 := hd9 (hu8.blk hC.out ncr); have hCc : w25.cell? ⟨gC, 1, none⟩ = some (.string ⟨#[]⟩) := hC9.out.cell 1; have hCf := hC9.out.frozen 1; have hCl := hC9.out.lt))
  replace hR : Hid (Blk (w25.setCell ⟨gC, 1, none⟩ (.string ⟨t2.toArray⟩)) gR 83 #[.slice A n c, .int .i64 k2, .int .i64 e, .int .i64 c2, .int .i64 p2]) := hR9.far (p := ⟨gC, 1, none⟩) nrc _
  replace hC : Hid (Blk (w25.setCell ⟨gC, 1, none⟩ (.string ⟨t2.toArray⟩)) gC 41 #[.string ⟨t1.toArray⟩, .string ⟨t2.toArray⟩, .string ⟨#[]⟩, .string ⟨#[]⟩, .string ⟨#[]⟩, .string ⟨#[]⟩, .string ⟨#[]⟩, .string ⟨#[]⟩, .int .i64 0, .int .i64 0, .int .i64 0, .int .i64 0, .int .i64 0, .int .i64 0, .int .i64 0, .bool false, .bool false, .slice none 0 0]) := hC9.out.set_ 1 (.string ⟨t2.toArray⟩)
  replace hS : Hid (Below gC w1 (w25.setCell ⟨gC, 1, none⟩ (.string ⟨t2.toArray⟩))) := (hu8.to_below hS.out hgl.out (Nat.le_trans (Nat.le_of_eq hgC.out.symm) hS.out.size)).setCell le9 _
  obtain ⟨w26, hw⟩ : ∃ x, Hid ((w25.setCell ⟨gC, 1, none⟩ (.string ⟨t2.toArray⟩)) = x) := ⟨_, hd9 rfl⟩
  rw [hw.out] at hR hC hS ⊢
  clear hw hA hR9 hu8 hC9 hCc hCf hCl
  replace hA := hd9 (hA0f.out _ hS.out)
  obtain ⟨⟨t3, ⟨k3, p3, c3⟩⟩, h3⟩ : ∃ r, Hid (lineD e l wBeneficiary ⟨k2, p2, c2⟩ = r) := ⟨_, hd9 rfl⟩
  go_upto_region 11 with (first | (go_at_call 47; refine (rnamed_any A n c l w26 e hn hm hok wBeneficiary ⟨k2, p2, c2⟩ hA).mono ?_; rintro x2 w27 ⟨rfl, hbc⟩; rw [h3.out]; (try dsimp only); replace hC := hd9 (hC.out.below hbc hC.out.lt); replace hR := hd9 (hR.out.below hbc hR.out.lt); replace hS := hd9 (hS.out.trans (hbc.mono (Nat.le_trans (Nat.le_of_eq hgC.out.symm) hS.out.size))); replace hA := hd9 (hA.out.below hbc)) | (refine wpList_get_blk rfl 83 _ rfl gR #[.slice A n c, .int .i64 k2, .int .i64 e, .int .i64 c2, .int .i64 p2] 83 _ rfl hR.out Tryz.underlying83 rfl i83 ?_) | (refine wpList_put_blk rfl 83 _ _ rfl gR #[.slice A n c, .int .i64 k2, .int .i64 e, .int .i64 c2, .int .i64 p2] #[.slice A n c, .int .i64 k3, .int .i64 e, .int .i64 c3, .int .i64 p3] 83 rfl rfl hR.out rfl i83 (rd_one _ _ _ _ _ _ _) ?_; intro w28 hR9 hu8; have hC9 := hd9 (hu8.blk hC.out ncr); have hCc : w28.cell? ⟨gC, 2, none⟩ = some (.string ⟨#[]⟩) := hC9.out.cell 2; have hCf := hC9.out.frozen 2; have hCl := hC9.out.lt))
  replace hR : Hid (Blk (w28.setCell ⟨gC, 2, none⟩ (.string ⟨t3.toArray⟩)) gR 83 #[.slice A n c, .int .i64 k3, .int .i64 e, .int .i64 c3, .int .i64 p3]) := hR9.far (p := ⟨gC, 2, none⟩) nrc _
  replace hC : Hid (Blk (w28.setCell ⟨gC, 2, none⟩ (.string ⟨t3.toArray⟩)) gC 41 #[.string ⟨t1.toArray⟩, .string ⟨t2.toArray⟩, .string ⟨t3.toArray⟩, .string ⟨#[]⟩, .string ⟨#[]⟩, .string ⟨#[]⟩, .string ⟨#[]⟩, .string ⟨#[]⟩, .int .i64 0, .int .i64 0, .int .i64 0, .int .i64 0, .int .i64 0, .int .i64 0, .int .i64 0, .bool false, .bool false, .slice none 0 0]) := hC9.out.set_ 2 (.string ⟨t3.toArray⟩)
  replace hS : Hid (Below gC w1 (w28.setCell ⟨gC, 2, none⟩ (.string ⟨t3.toArray⟩))) := (hu8.to_below hS.out hgl.out (Nat.le_trans (Nat.le_of_eq hgC.out.symm) hS.out.size)).setCell le9 _
  obtain ⟨w29, hw⟩ : ∃ x, Hid ((w28.setCell ⟨gC, 2, none⟩ (.string ⟨t3.toArray⟩)) = x) := ⟨_, hd9 rfl⟩
  rw [hw.out] at hR hC hS ⊢
  clear hw hA hR9 hu8 hC9 hCc hCf hCl
  replace hA := hd9 (hA0f.out _ hS.out)
  obtain ⟨⟨t4, ⟨k4, p4, c4⟩⟩, h4⟩ : ∃ r, Hid (lineD e l wIssuer ⟨k3, p3, c3⟩ = r) := ⟨_, hd9 rfl⟩
  go_upto_region 12 with (first | (go_at_call 47; refine (rnamed_any A n c l w29 e hn hm hok wIssuer ⟨k3, p3, c3⟩ hA).mono ?_; rintro x2 w30 ⟨rfl, hbc⟩; rw [h4.out]; (try dsimp only); replace hC := hd9 (hC.out.below hbc hC.out.lt); replace hR := hd9 (hR.out.below hbc hR.out.lt); replace hS := hd9 (hS.out.trans (hbc.mono (Nat.le_trans (Nat.le_of_eq hgC.out.symm) hS.out.size))); replace hA := hd9 (hA.out.below hbc)) | (refine wpList_get_blk rfl 83 _ rfl gR #[.slice A n c, .int .i64 k3, .int .i64 e, .int .i64 c3, .int .i64 p3] 83 _ rfl hR.out Tryz.underlying83 rfl i83 ?_) | (refine wpList_put_blk rfl 83 _ _ rfl gR #[.slice A n c, .int .i64 k3, .int .i64 e, .int .i64 c3, .int .i64 p3] #[.slice A n c, .int .i64 k4, .int .i64 e, .int .i64 c4, .int .i64 p4] 83 rfl rfl hR.out rfl i83 (rd_one _ _ _ _ _ _ _) ?_; intro w31 hR9 hu8; have hC9 := hd9 (hu8.blk hC.out ncr); have hCc : w31.cell? ⟨gC, 3, none⟩ = some (.string ⟨#[]⟩) := hC9.out.cell 3; have hCf := hC9.out.frozen 3; have hCl := hC9.out.lt))
  replace hR : Hid (Blk (w31.setCell ⟨gC, 3, none⟩ (.string ⟨t4.toArray⟩)) gR 83 #[.slice A n c, .int .i64 k4, .int .i64 e, .int .i64 c4, .int .i64 p4]) := hR9.far (p := ⟨gC, 3, none⟩) nrc _
  replace hC : Hid (Blk (w31.setCell ⟨gC, 3, none⟩ (.string ⟨t4.toArray⟩)) gC 41 #[.string ⟨t1.toArray⟩, .string ⟨t2.toArray⟩, .string ⟨t3.toArray⟩, .string ⟨t4.toArray⟩, .string ⟨#[]⟩, .string ⟨#[]⟩, .string ⟨#[]⟩, .string ⟨#[]⟩, .int .i64 0, .int .i64 0, .int .i64 0, .int .i64 0, .int .i64 0, .int .i64 0, .int .i64 0, .bool false, .bool false, .slice none 0 0]) := hC9.out.set_ 3 (.string ⟨t4.toArray⟩)
  replace hS : Hid (Below gC w1 (w31.setCell ⟨gC, 3, none⟩ (.string ⟨t4.toArray⟩))) := (hu8.to_below hS.out hgl.out (Nat.le_trans (Nat.le_of_eq hgC.out.symm) hS.out.size)).setCell le9 _
  obtain ⟨w32, hw⟩ : ∃ x, Hid ((w31.setCell ⟨gC, 3, none⟩ (.string ⟨t4.toArray⟩)) = x) := ⟨_, hd9 rfl⟩
  rw [hw.out] at hR hC hS ⊢
  clear hw hA hR9 hu8 hC9 hCc hCf hCl
  replace hA := hd9 (hA0f.out _ hS.out)
  obtain ⟨⟨t5, ⟨k5, p5, c5⟩⟩, h5⟩ : ∃ r, Hid (confD e l ⟨k4, p4, c4⟩ = r) := ⟨_, hd9 rfl⟩
  obtain ⟨bc, hbc⟩ : ∃ b, Hid (isAtD l wConfirmer ⟨k4, p4, c4⟩ = b) := ⟨_, hd9 rfl⟩
  go_cut [67] (fun v wx => v = .bool bc ∧ Hid (w32 = wx))
  case first =>
   have hRc0 : w32.cell? ⟨gR, 0, none⟩ = some (.slice A n c) := hR.out.cell 0
   have hRf0 := hR.out.frozen 0
   have hRc1 : w32.cell? ⟨gR, 1, none⟩ = some (.int .i64 k4) := hR.out.cell 1
   have hRf1 := hR.out.frozen 1
   have hRc3 : w32.cell? ⟨gR, 3, none⟩ = some (.int .i64 c4) := hR.out.cell 3
   have hRf3 := hR.out.frozen 3
   have hRl := hR.out.lt
   by_cases hz : c4 = 0
   ·have b1 : (c4 == 0) = true := by simp [hz]
    have hbe : Hid (atI (isT wConfirmer) l k4 = bc) := by unfold Hid; rw [← hbc.out]; unfold isAtD; simp [hz]
    clear hz
    go_wp2_with (go_at_call 48; refine (ris_any A n c l w32 k4 wConfirmer hn hA).mono ?_; rintro x1 wx ⟨rfl, rfl⟩; rw [hbe.out])
    go_meet
    case rel => exact ⟨rfl, rfl⟩
   ·have b1 : (c4 == 0) = false := by simp [hz]
    have hbe : Hid (false = bc) := by unfold Hid; rw [← hbc.out]; unfold isAtD; simp [hz]
    clear hz
    go_wp2_with fail
    go_meet
    case rel => exact ⟨by rw [hbe.out], rfl⟩
  case rest =>
   obtain ⟨rfl, hwx⟩ := hcut
   rw [← hwx.out]
   clear hwx
   go_upto_if 67 with fail
   go_cut [] from 14 to 251 (fun wx => Hid (Below gC w1 wx) ∧ Hid (Blk wx gR 83 #[.slice A n c, .int .i64 k5, .int .i64 e, .int .i64 c5, .int .i64 p5]) ∧ Hid (Blk wx gC 41 #[.string ⟨t1.toArray⟩, .string ⟨t2.toArray⟩, .string ⟨t3.toArray⟩, .string ⟨t4.toArray⟩, .string ⟨t5.toArray⟩, .string ⟨#[]⟩, .string ⟨#[]⟩, .string ⟨#[]⟩, .int .i64 0, .int .i64 0, .int .i64 0, .int .i64 0, .int .i64 0, .int .i64 0, .int .i64 0, .bool false, .bool false, .slice none 0 0]))
   case first =>
    cases bc with
    | false =>
     have hcf : confD e l ⟨k4, p4, c4⟩ = ([], ⟨k4, p4, c4⟩) := by unfold confD; rw [if_neg (by rw [hbc.out]; simp)]
     obtain ⟨rfl, rfl, rfl, rfl⟩ : [] = t5 ∧ k4 = k5 ∧ p4 = p5 ∧ c4 = c5 := by have h := h5.out; rw [hcf] at h; simpa using h
     go_wp2_with fail
     go_meet
     case rel => exact ⟨hS, hR, hC⟩
    | true =>
     have hcf : confD e l ⟨k4, p4, c4⟩ = lineD e l wConfirmer ⟨k4, p4, c4⟩ := by unfold confD; rw [if_pos hbc.out]
     rw [hcf] at h5
     go_wp2_with (first | (go_at_call 47; refine (rnamed_any A n c l w32 e hn hm hok wConfirmer ⟨k4, p4, c4⟩ hA).mono ?_; rintro x2 w33 ⟨rfl, hbcx⟩; rw [h5.out]; (try dsimp only); replace hC := hd9 (hC.out.below hbcx hC.out.lt); replace hR := hd9 (hR.out.below hbcx hR.out.lt); replace hS := hd9 (hS.out.trans (hbcx.mono (Nat.le_trans (Nat.le_of_eq hgC.out.symm) hS.out.size))); replace hA := hd9 (hA.out.below hbcx)) | (refine wpList_get_blk rfl 83 _ rfl gR #[.slice A n c, .int .i64 k4, .int .i64 e, .int .i64 c4, .int .i64 p4] 83 _ rfl hR.out Tryz.underlying83 rfl i83 ?_) | (refine wpList_put_blk rfl 83 _ _ rfl gR #[.slice A n c, .int .i64 k4, .int .i64 e, .int .i64 c4, .int .i64 p4] #[.slice A n c, .int .i64 k5, .int .i64 e, .int .i64 c5, .int .i64 p5] 83 rfl rfl hR.out rfl i83 (rd_one _ _ _ _ _ _ _) ?_; intro w34 hR9 hu8; have hC9 := hd9 (hu8.blk hC.out ncr); have hCc : w34.cell? ⟨gC, 4, none⟩ = some (.string ⟨#[]⟩) := hC9.out.cell 4; have hCf := hC9.out.frozen 4; have hCl := hC9.out.lt))
     go_meet
     case rel => exact ⟨(hu8.to_below hS.out hgl.out (Nat.le_trans (Nat.le_of_eq hgC.out.symm) hS.out.size)).setCell le9 _, hR9.far (p := ⟨gC, 4, none⟩) nrc _, hC9.out.set_ 4 (.string ⟨t5.toArray⟩)⟩
   case rest =>
    refine (‹∀ (a : Act) (w_1 : World), Code.wp Tryz.prog _ (bodyPost Tryz.prog _ _) a w_1 → _› : ∀ (a : Act) (w_1 : World), Code.wp Tryz.prog _ (bodyPost Tryz.prog _ _) a w_1 → _) _ _ ?_
    exact phA s w hi hz0 hz1 hz2 hP1 hB1 hok hgd hn hm hN hpD hgC hgR hgP ncr nrc hgl hA0f h1 h2 h3 h4 h5 hcut
 ·have hres : Hid (parseT_D s.data.toList = .error (k, cd)) := by unfold Hid parseT_D; rw [if_neg (by rw [hln.out]; exact hbig), hsc]
  have hcd' := hd9 hcd
  have b2 : (cd != 0) = true := by simp [hcd]
  clear hcd
  go_wp2_with (refine wpList_put_blk rfl 41 _ _ rfl w.heap.size zeroC zeroC 41 rfl rfl hP1.out rfl i41 zc_one ?_; intro w9 hP9 hu9)
  refine bodyPost_ret (results_row_tmp2 rfl _ _ w.heap.size 41 _ _ rfl hP9 Tryz.underlying41 rfl i41) rfl ?_
  unfold Parsed
  rw [hres.out]
  exact ⟨hu9.to_below hB1.out le9 hB1.out.size, rfl, hcd'.out⟩
end Go.Proofs.YtjkmhlfjheiekaaGreatDoor
namespace Go.Proofs.YtjkmhlfjheiekaaGreatDoor
open Go Go.RowKit Go.BigFrame Go.Maps
def ex1 : Txt := [110, 111, 116, 32, 40, 97, 32, 61, 32, 34, 120, 34, 32, 111, 114, 32, 98, 32, 60, 61, 32, 53, 41, 32, 97, 110, 100, 32, 99, 32, 126, 32, 34, 121, 34]
def ex2 : Txt := [115, 117, 109, 32, 61, 32, 105, 110, 118, 111, 105, 99, 101, 46, 115, 117, 109]
def exR1 : Rul := .mk 0 0 [] [] 0 [.mk 2 0 [] [] 0 [.mk 1 0 [] [] 0 [.mk 3 0 [97] [120] 0 [], .mk 5 0 [98] [] 5 []]], .mk 4 0 [99] [121] 0 []]
def exR2 : Rul := .mk 7 0 [115, 117, 109] [115, 117, 109] 0 []
theorem ex1_rule : ruleT ex1 = .ok exR1 := by kernel_rfl
theorem ex2_rule : ruleT ex2 = .ok exR2 := by kernel_rfl
theorem ex1_shown : shownR exR1 = ex1 := by kernel_rfl
theorem ex1_size : szR exR1 ≤ mostZ := of_decide_eq_true (by kernel_rfl)
theorem strips_two {L : List Tree} {a b : Rul} (h : strips L = [a, b]) : ∃ t u, L = [t, u] ∧ strip t = a ∧ strip u = b := by
 match L, h with
 | [t, u], h =>
  rw [strips, strips, strips] at h
  simp only [List.cons.injEq, and_true] at h
  exact ⟨t, u, rfl, h.1, h.2⟩
 | [], h => rw [strips] at h; cases h
 | [t], h => rw [strips, strips] at h; simp at h
 | t :: u :: v :: L, h => rw [strips, strips, strips] at h; simp at h
set_option maxRecDepth 100000 in
set_option maxHeartbeats 3200000 in
theorem awake_any (w : World) (he : Hid (Env w)) : Calls Tryz.prog 12 #[] w fun e w' => e = .returned (.bool true) ∧ Below w.heap.size w w' := by
 have hc1 : Hid (Calls Tryz.prog 13 #[.string ⟨#[110, 111, 116, 32, 40, 97, 32, 61, 32, 34, 120, 34, 32, 111, 114, 32, 98, 32, 60, 61, 32, 53, 41, 32, 97, 110, 100, 32, 99, 32, 126, 32, 34, 121, 34]⟩] w (RuleOut w ex1)) := rule_full_any ⟨#[110, 111, 116, 32, 40, 97, 32, 61, 32, 34, 120, 34, 32, 111, 114, 32, 98, 32, 60, 61, 32, 53, 41, 32, 97, 110, 100, 32, 99, 32, 126, 32, 34, 121, 34]⟩ w (by unfold maxLen; decide) he
 have hc2 : Hid (∀ W, Below w.heap.size w W → Calls Tryz.prog 13 #[.string ⟨#[115, 117, 109, 32, 61, 32, 105, 110, 118, 111, 105, 99, 101, 46, 115, 117, 109]⟩] W (RuleOut W ex2)) := fun W hW => rule_full_any ⟨#[115, 117, 109, 32, 61, 32, 105, 110, 118, 111, 105, 99, 101, 46, 115, 117, 109]⟩ W (by unfold maxLen; decide) (he.out.below hW)
 have ht1 : (⟨#[110, 111, 116, 32, 40, 97, 32, 61, 32, 34, 120, 34, 32, 111, 114, 32, 98, 32, 60, 61, 32, 53, 41, 32, 97, 110, 100, 32, 99, 32, 126, 32, 34, 121, 34]⟩ : ByteArray).toList = [110, 111, 116, 32, 40, 97, 32, 61, 32, 34, 120, 34, 32, 111, 114, 32, 98, 32, 60, 61, 32, 53, 41, 32, 97, 110, 100, 32, 99, 32, 126, 32, 34, 121, 34] := by simp [ByteArray.toList_eq]
 go_enter Tryz.func12, Tryz.ntmps12
 go_wp2_with fail
 refine hc1.out.mono ?_
 rintro e w1 ⟨hB1, hcase⟩
 rw [ex1_rule] at hcase
 obtain ⟨t, rfl, hT, hst⟩ := hcase
 have hB1' := hd9 hB1
 have hshow : Hid (∀ W, Below w1.heap.size w1 W → Calls Tryz.prog 17 #[.agg t.cells] W fun e w' => e = .returned (.string ⟨#[110, 111, 116, 32, 40, 97, 32, 61, 32, 34, 120, 34, 32, 111, 114, 32, 98, 32, 60, 61, 32, 53, 41, 32, 97, 110, 100, 32, 99, 32, 126, 32, 34, 121, 34]⟩) ∧ Below W.heap.size W w') := fun W hW => by
  have := showR_any t W _ (he.out.below (hB1.trans (hW.mono hB1.size))) (hd9 (hT.below hW)) (by unfold Hid; rw [hst]; exact ex1_size)
  rw [hst, ex1_shown] at this
  exact this
 obtain ⟨k, p, f, x, n, A, c, L⟩ := t
 rw [strip, exR1] at hst
 simp only [Rul.mk.injEq] at hst
 obtain ⟨rfl, rfl, rfl, rfl, rfl, hL⟩ := hst
 obtain ⟨t1, t2, rfl, hs1, hs2⟩ := strips_two hL
 rw [TreeAt, RowsAt, RowsAt, RowsAt] at hT
 obtain ⟨⟨hc1', _, hc2', _, _⟩, _⟩ := hT
 obtain ⟨k1, p1, f1, x1, n1, A1, cc1, LL1⟩ := t1
 obtain ⟨k2, p2, f2, x2, n2, A2, cc2, LL2⟩ := t2
 rw [strip] at hs1 hs2
 simp only [Rul.mk.injEq] at hs1 hs2
 obtain ⟨rfl, _⟩ := hs1
 obtain ⟨rfl, _⟩ := hs2
 obtain ⟨bb, off, rfl, _, g0, _⟩ := hc1'
 obtain ⟨bb', off', ho, _, g1, _⟩ := hc2'
 simp only [Option.some.injEq, Addr.mk.injEq, and_true] at ho
 obtain ⟨rfl, rfl⟩ := ho
 rw [Nat.zero_mul, Nat.add_zero] at g0
 rw [Nat.zero_add, Nat.one_mul] at g1
 have glt : bb < w1.heap.size := World.block_lt_of_cell? w1 _ g0
 have hbl : Below w1.heap.size w1 (w1.alloc (.cells #[.int .i64 0, .int .i64 0, .string ⟨#[]⟩, .string ⟨#[]⟩, .int .i64 0, .slice (some ⟨bb, off, none⟩) 2 c] 25)) := (Below.refl _ w1).alloc le9 _
 have hsw := hd9 (hshow.out _ hbl)
 have hB2 := hd9 (hB1.trans (hbl.mono hB1.size))
 unfold Tree.cells at hsw
 simp only [List.length_cons, List.length_nil, Nat.zero_add, Nat.reduceAdd] at hsw
 clear hbl hc1 hB1 hshow hL
 unfold Tree.cells
 simp only [List.length_cons, List.length_nil, Nat.zero_add, Nat.reduceAdd]
 go_wp2_with fail
 refine hsw.out.mono ?_
 rintro e w2 ⟨rfl, hb2⟩
 have hB3 := hd9 (hB2.out.trans (hb2.mono hB2.out.size))
 have hc3 := hd9 (hc2.out w2 hB3.out)
 clear hb2 hsw hc2 g0 g1 glt
 go_wp2_with fail
 refine hc3.out.mono ?_
 rintro e w3 ⟨hB4, hcase⟩
 rw [ex2_rule] at hcase
 obtain ⟨t, rfl, _, hst⟩ := hcase
 have hB5 := hd9 (hB3.out.trans (hB4.mono hB3.out.size))
 obtain ⟨k, p, f, x, n, A, c9, L⟩ := t
 rw [strip, exR2] at hst
 simp only [Rul.mk.injEq] at hst
 obtain ⟨rfl, rfl, rfl, rfl, rfl, hL⟩ := hst
 have ht2 : (⟨[115, 117, 109].toArray⟩ : ByteArray).toList = [115, 117, 109] := by simp [ByteArray.toList_eq]
 clear hB4 hc3 hL
 unfold Tree.cells
 go_wp2_with fail
 go_ret
 exact ⟨rfl, hB5.out.alloc hB5.out.size _⟩
end Go.Proofs.YtjkmhlfjheiekaaGreatDoor
namespace Go.Proofs.YtjkmhlfjheiekaaGreatDoor
open Go Go.RowKit Go.BigFrame Go.Maps
theorem eqCr_refl (c : Crd) : eqCr c c = true := by
 unfold eqCr eqNm eqNu; simp
end Go.Proofs.YtjkmhlfjheiekaaGreatDoor
namespace Go.Proofs.YtjkmhlfjheiekaaGreatDoor
open Go Go.RowKit Go.BigFrame Go.Maps
def kC (s : Txt) : Nat := match parseT s with | .ok _ => 0 | .error (k, _) => k
def cC (s : Txt) : Int := match parseT s with | .ok _ => 0 | .error (_, c) => c
def zeroCrd : Crd := ⟨[], [], [], [], [], [], [], [], 0, 0, 0, 0, 0, 0, 0, false, false⟩
def crC (s : Txt) : Crd := match parseT s with | .ok r => r.1 | .error _ => zeroCrd
def ndC (s : Txt) : List NdP := match parseT s with | .ok r => r.2 | .error _ => []
theorem parsed_all {w w' : World} {s : Txt} {x : Ending} (h : Parsed w (parseT s) x w') : Below w.heap.size w w' ∧ ∃ (T : List Nd) (A2 : Option Addr) (c2 : Nat), x = .returned (.tuple #[.agg ((crC s).cells (.slice A2 T.length c2)), .int .i64 (kC s : Nat), .int .i64 (cC s)]) ∧ NdsAt w' (fun b => w.heap.size ≤ b) A2 T ∧ T.map ndP = ndC s ∧ T.length ≤ 5000 := by
 unfold Parsed at h
 unfold kC cC crC ndC
 obtain ⟨hb, h⟩ := h
 refine ⟨hb, ?_⟩
 cases hr : parseT s with
 | ok r =>
  obtain ⟨cr, L⟩ := r
  rw [hr] at h
  exact h
 | error q =>
  obtain ⟨k, c⟩ := q
  rw [hr] at h
  exact ⟨[], none, 0, h.1, fun k x hx => by simp at hx, rfl, by simp⟩
theorem eqBy_map : ∀ T T' : List Nd, T.map ndP = T'.map ndP → eqBy eqNd T T' = true
 | [], [], _ => rfl
 | [], _ :: _, h => by simp at h
 | _ :: _, [], h => by simp at h
 | a :: T, b :: T', h => by
  simp only [List.map_cons, List.cons.injEq] at h
  rw [eqBy, eqBy_map T T' h.2]
  have h1 := h.1
  unfold ndP at h1
  simp only [Prod.mk.injEq] at h1
  unfold eqNd
  rw [h1.1, h1.2.1, h1.2.2]
  simp [eqR_refl]
set_option maxRecDepth 100000 in
set_option maxHeartbeats 6400000 in
theorem parses_law (s : ByteArray) (w : World) (hs : s.size ≤ maxLen) (he : Hid (Env w)) : Calls Tryz.prog 6 #[.string s] w fun e w' => e = .returned (.bool true) ∧ Below w.heap.size w w' := by
 have hs' := hd9 hs
 unfold maxLen at hs
 go_enter Tryz.func6, Tryz.ntmps6
 go_wp2_with fail
 refine (awake_any w he).mono ?_
 rintro e w1 ⟨rfl, hb1⟩
 have he1 := hd9 (he.out.below hb1)
 have hB1 := hd9 hb1
 by_cases hbig : 5000 < s.size
 ·have b1 : decide ((5000 : Int) < (s.size : Int)) = true := by simp; omega
  go_wp2_with fail
  refine (awake_any w1 he1).mono ?_
  rintro e w2 ⟨rfl, hb2⟩
  go_wp2_with fail
  go_ret
  exact ⟨rfl, hB1.out.trans (hb2.mono hB1.out.size)⟩
 ·have b1 : decide ((5000 : Int) < (s.size : Int)) = false := by simp; omega
  clear hb1
  go_wp2_with fail
  refine (parse_any s w1 hs'.out he1).mono ?_
  rintro x w2 hout
  obtain ⟨hb2, T, A2, c2, rfl, hnd, hT, hTl⟩ := parsed_all hout
  have hB2 := hd9 (hB1.out.trans (hb2.mono hB1.out.size))
  have hT' := hd9 hT
  have hTl' := hd9 hTl
  obtain ⟨C, hCe⟩ : ∃ C, Hid ((crC s.data.toList).cells (.slice A2 T.length c2) = C) := ⟨_, hd9 rfl⟩
  have hCs : Hid (C.size = 18) := by rw [← hCe.out]; rfl
  have hCi : Hid ((Tryz.prog.info? 41).map (·.size) = some C.size) := by unfold Hid; rw [hCs.out]; kernel_rfl
  have hC1 : Hid (C.all (·.oneCell') = true) := by unfold Hid; rw [← hCe.out, ← Array.all_toList]; rfl
  rw [hCe.out]
  have hN0 : Hid (Blk (w2.alloc (.cells zeroC 41)) w2.heap.size 41 zeroC) := Blk.new w2 41 zeroC
  have hnd2 := hd9 (hnd.below ((Below.refl _ w2).alloc le9 (.cells zeroC 41)))
  have hlt2 : Hid (∀ (k : Nat) (x : Nd), T[k]? = some x → True) := fun _ _ _ => trivial
  have hndF : Hid (∀ W, But w2.heap.size (w2.alloc (.cells zeroC 41)) W → NdsAt W (fun b => w1.heap.size ≤ b) A2 T) := fun W hu k x hx => by
   obtain ⟨b, off, e', hk, hc, hTr⟩ := hnd k x hx
   have hlt : b < w2.heap.size := World.block_lt_of_cell? w2 _ (hc 0 _ rfl)
   have hbl : Below w2.heap.size w2 (w2.alloc (.cells zeroC 41)) := (Below.refl _ w2).alloc le9 _
   exact ⟨b, off, e', hk, fun i u hi => ((hu.cell (p := ⟨b, _, none⟩) (Nat.lt_of_lt_of_le hlt hbl.size) (Nat.ne_of_lt hlt)).trans (hbl.cell (p := ⟨b, _, none⟩) hlt)).trans (hc i u hi),
    (((hTr.mono (fun b hb hk => (⟨hk, hb⟩ : w1.heap.size ≤ b ∧ b < w2.heap.size))).below hbl).but hu (fun b hb => Nat.ne_of_lt hb.2)).mono (fun b _ hb => hb.1)⟩
  have hBz : Hid (Below w.heap.size w (w2.alloc (.cells zeroC 41))) := hB2.out.alloc hB2.out.size _
  clear hout hnd hT hTl hb2 hB1 hlt2 hnd2
  go_upto_region 4 with (refine wpList_put_blk rfl 41 _ _ rfl w2.heap.size zeroC C 41 rfl rfl hN0.out hCs.out.symm hCi.out hC1.out ?_; intro w3 hN3 hu3)
  have hB3 : Hid (Below w.heap.size w w3) := hu3.to_below hBz.out hB2.out.size hBz.out.size
  have hN3' := hd9 hN3
  have hnd3 := hd9 (hndF.out w3 hu3)
  have hG3 : w2.heap.size < w3.heap.size := hN3.lt
  obtain ⟨G, hG⟩ : ∃ g, Hid (w2.heap.size = g) := ⟨_, hd9 rfl⟩
  rw [hG.out] at hN3' hG3 ⊢
  clear hu3 hN3 hndF hBz hN0 hB2 hG
  go_wp2_with fail
  refine (rparse_any s w3 hs'.out).mono ?_
  rw [parse_same]
  rintro x w4 hout
  obtain ⟨hb4, T', A4, c4, rfl, hnd, hT4, hTl4⟩ := parsed_all hout
  have hB4 := hd9 (hB3.out.trans (hb4.mono hB3.out.size))
  have hT4' := hd9 hT4
  have hTl4' := hd9 hTl4
  obtain ⟨D, hDe⟩ : ∃ C, Hid ((crC s.data.toList).cells (.slice A4 T'.length c4) = C) := ⟨_, hd9 rfl⟩
  have hDs : Hid (D.size = 18) := by rw [← hDe.out]; rfl
  have hDi : Hid ((Tryz.prog.info? 41).map (·.size) = some D.size) := by unfold Hid; rw [hDs.out]; kernel_rfl
  have hD1 : Hid (D.all (·.oneCell') = true) := by unfold Hid; rw [← hDe.out, ← Array.all_toList]; rfl
  rw [hDe.out]
  have hM0 : Hid (Blk (w4.alloc (.cells zeroC 41)) w4.heap.size 41 zeroC) := Blk.new w4 41 zeroC
  have hbl : Hid (Below w4.heap.size w4 (w4.alloc (.cells zeroC 41))) := (Below.refl _ w4).alloc le9 _
  have hN4 := hd9 ((hN3'.out.below hb4 hG3).below hbl.out (Nat.lt_of_lt_of_le hG3 hb4.size))
  have hBz : Hid (Below w.heap.size w (w4.alloc (.cells zeroC 41))) := hB4.out.alloc hB4.out.size _
  have frame : Hid (∀ (ok : Nat → Prop) (A : Option Addr) (L : List Nd), NdsAt w4 ok A L → ∀ W, But w4.heap.size (w4.alloc (.cells zeroC 41)) W → NdsAt W ok A L) := fun ok A L h W hu k x hx => by
   obtain ⟨b, off, e', hk, hc, hTr⟩ := h k x hx
   have hlt : b < w4.heap.size := World.block_lt_of_cell? w4 _ (hc 0 _ rfl)
   exact ⟨b, off, e', hk, fun i u hi => ((hu.cell (p := ⟨b, _, none⟩) (Nat.lt_of_lt_of_le hlt hbl.out.size) (Nat.ne_of_lt hlt)).trans (hbl.out.cell (p := ⟨b, _, none⟩) hlt)).trans (hc i u hi),
    (((hTr.mono (fun b hb hk => (⟨hk, hb⟩ : ok b ∧ b < w4.heap.size))).below hbl.out).but hu (fun b hb => Nat.ne_of_lt hb.2)).mono (fun b _ hb => hb.1)⟩
  have hnd4a := hd9 (hnd3.out.below hb4)
  have hnd4b := hd9 hnd
  have nGw : w4.heap.size ≠ G := by have := hb4.size; omega
  have nwG : G ≠ w4.heap.size := by have := hb4.size; omega
  clear hout hnd hT4 hTl4 hb4 hB3 hN3' hnd3
  obtain ⟨k9, hk9⟩ : ∃ k, Hid (kC s.data.toList = k) := ⟨_, hd9 rfl⟩
  obtain ⟨c9, hc9⟩ : ∃ k, Hid (cC s.data.toList = k) := ⟨_, hd9 rfl⟩
  rw [hk9.out, hc9.out]
  go_upto_region 5 with (refine wpList_put_blk rfl 41 _ _ rfl w4.heap.size zeroC D 41 rfl rfl hM0.out hDs.out.symm hDi.out hD1.out ?_; intro w5 hM5 hu5)
  have hN5 := hd9 (hu5.blk hN4.out nwG)
  have hB5 : Hid (Below w.heap.size w w5) := hu5.to_below hBz.out hB4.out.size hBz.out.size
  have hndA := hd9 (frame.out _ _ _ hnd4a.out w5 hu5)
  have hndB := hd9 (frame.out _ _ _ hnd4b.out w5 hu5)
  have hM5' := hd9 hM5
  have hal := hd9 (alike_any C D (crC s.data.toList) (crC s.data.toList) A2 T.length c2 T A4 T'.length c4 T' _ _ w5 (hd9 hCe.out.symm) (hd9 hDe.out.symm) (by have := hTl'.out; unfold maxLen; omega) (by have := hTl4'.out; unfold maxLen; omega) (hd9 rfl) (hd9 rfl) hndA hndB)
  have heq : (eqCr (crC s.data.toList) (crC s.data.toList) && eqBy eqNd T T') = true := by rw [eqCr_refl, eqBy_map T T' (hT'.out.trans hT4'.out.symm)]; rfl
  rw [heq] at hal
  clear hu5 hM5 frame hnd4a hnd4b hndA hndB heq hBz hM0 hbl hN4
  go_wp2_with (first | (refine wpList_get_blk rfl 41 _ rfl G C 41 _ rfl hN5.out Tryz.underlying41 rfl hCi.out ?_) | (refine wpList_get_blk rfl 41 _ rfl w4.heap.size D 41 _ rfl hM5'.out Tryz.underlying41 rfl hDi.out ?_))
  refine hal.out.mono ?_
  rintro e w6 ⟨rfl, hb6⟩
  go_wp2_with fail
  go_ret
  exact ⟨by simp, hB5.out.trans (hb6.mono hB5.out.size)⟩
end Go.Proofs.YtjkmhlfjheiekaaGreatDoor

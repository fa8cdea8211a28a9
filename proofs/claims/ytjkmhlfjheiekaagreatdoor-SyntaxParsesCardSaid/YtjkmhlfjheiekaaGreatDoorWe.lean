import Derived.Test.YtjkmhlfjheiekaaGreatDoorPa
namespace Go.Proofs.YtjkmhlfjheiekaaGreatDoor
open Go Go.RowKit Go.BigFrame Go.Maps
set_option maxRecDepth 100000 in
set_option maxHeartbeats 12800000 in
theorem alike_any (C D : Array Value) (c d : Crd) (A : Option Addr) (n cc : Nat) (l : List Nd) (A' : Option Addr) (n' cc' : Nat) (l' : List Nd) (ok ok' : Nat → Prop) (w : World) (hC : Hid (C = c.cells (.slice A n cc))) (hD : Hid (D = d.cells (.slice A' n' cc'))) (hn : n ≤ maxLen) (hn' : n' ≤ maxLen) (hl : Hid (l.length = n)) (hl' : Hid (l'.length = n'))
  (hN : Hid (NdsAt w ok A l)) (hN' : Hid (NdsAt w ok' A' l')) : Calls Tryz.prog 22 #[.agg C, .agg D] w fun e w' => e = .returned (.bool (eqCr c d && eqBy eqNd l l')) ∧ Below w.heap.size w w' := by
 unfold maxLen at hn hn'
 have hb0 : Hid (Below w.heap.size w ((w.alloc (.cells C 41)).alloc (.cells D 41))) := ((Below.refl _ w).alloc le9 _).alloc (by simp) _
 have hbx := hd9 ((Blk.new w 41 C).alloc (.cells D 41))
 have hby : Hid (Blk ((w.alloc (.cells C 41)).alloc (.cells D 41)) (w.heap.size + 1) 41 D) := by
  have h := Blk.new (w.alloc (.cells C 41)) 41 D
  have hs : (w.alloc (.cells C 41)).heap.size = w.heap.size + 1 := by simp
  rw [hs] at h
  exact h
 have hC17 : Hid (C[17]? = some (.slice A n cc)) := by unfold Hid; rw [hC.out]; rfl
 have hD17 : Hid (D[17]? = some (.slice A' n' cc')) := by unfold Hid; rw [hD.out]; rfl
 have f0 : ((w.alloc (.cells C 41)).alloc (.cells D 41)).cell? ⟨w.heap.size, 0, none⟩ = some (.string ⟨c.number.toArray⟩) := (hbx.out.cell 0).trans (by rw [hC.out]; rfl)
 have g0 : ((w.alloc (.cells C 41)).alloc (.cells D 41)).cell? ⟨w.heap.size + 1, 0, none⟩ = some (.string ⟨d.number.toArray⟩) := (hby.out.cell 0).trans (by rw [hD.out]; rfl)
 have f1 : ((w.alloc (.cells C 41)).alloc (.cells D 41)).cell? ⟨w.heap.size, 1, none⟩ = some (.string ⟨c.applicant.toArray⟩) := (hbx.out.cell 1).trans (by rw [hC.out]; rfl)
 have g1 : ((w.alloc (.cells C 41)).alloc (.cells D 41)).cell? ⟨w.heap.size + 1, 1, none⟩ = some (.string ⟨d.applicant.toArray⟩) := (hby.out.cell 1).trans (by rw [hD.out]; rfl)
 have f2 : ((w.alloc (.cells C 41)).alloc (.cells D 41)).cell? ⟨w.heap.size, 2, none⟩ = some (.string ⟨c.beneficiary.toArray⟩) := (hbx.out.cell 2).trans (by rw [hC.out]; rfl)
 have g2 : ((w.alloc (.cells C 41)).alloc (.cells D 41)).cell? ⟨w.heap.size + 1, 2, none⟩ = some (.string ⟨d.beneficiary.toArray⟩) := (hby.out.cell 2).trans (by rw [hD.out]; rfl)
 have f3 : ((w.alloc (.cells C 41)).alloc (.cells D 41)).cell? ⟨w.heap.size, 3, none⟩ = some (.string ⟨c.issuer.toArray⟩) := (hbx.out.cell 3).trans (by rw [hC.out]; rfl)
 have g3 : ((w.alloc (.cells C 41)).alloc (.cells D 41)).cell? ⟨w.heap.size + 1, 3, none⟩ = some (.string ⟨d.issuer.toArray⟩) := (hby.out.cell 3).trans (by rw [hD.out]; rfl)
 have f4 : ((w.alloc (.cells C 41)).alloc (.cells D 41)).cell? ⟨w.heap.size, 4, none⟩ = some (.string ⟨c.confirmer.toArray⟩) := (hbx.out.cell 4).trans (by rw [hC.out]; rfl)
 have g4 : ((w.alloc (.cells C 41)).alloc (.cells D 41)).cell? ⟨w.heap.size + 1, 4, none⟩ = some (.string ⟨d.confirmer.toArray⟩) := (hby.out.cell 4).trans (by rw [hD.out]; rfl)
 have f5 : ((w.alloc (.cells C 41)).alloc (.cells D 41)).cell? ⟨w.heap.size, 5, none⟩ = some (.string ⟨c.orig.toArray⟩) := (hbx.out.cell 5).trans (by rw [hC.out]; rfl)
 have g5 : ((w.alloc (.cells C 41)).alloc (.cells D 41)).cell? ⟨w.heap.size + 1, 5, none⟩ = some (.string ⟨d.orig.toArray⟩) := (hby.out.cell 5).trans (by rw [hD.out]; rfl)
 have f6 : ((w.alloc (.cells C 41)).alloc (.cells D 41)).cell? ⟨w.heap.size, 6, none⟩ = some (.string ⟨c.dest.toArray⟩) := (hbx.out.cell 6).trans (by rw [hC.out]; rfl)
 have g6 : ((w.alloc (.cells C 41)).alloc (.cells D 41)).cell? ⟨w.heap.size + 1, 6, none⟩ = some (.string ⟨d.dest.toArray⟩) := (hby.out.cell 6).trans (by rw [hD.out]; rfl)
 have f7 : ((w.alloc (.cells C 41)).alloc (.cells D 41)).cell? ⟨w.heap.size, 7, none⟩ = some (.string ⟨c.currency.toArray⟩) := (hbx.out.cell 7).trans (by rw [hC.out]; rfl)
 have g7 : ((w.alloc (.cells C 41)).alloc (.cells D 41)).cell? ⟨w.heap.size + 1, 7, none⟩ = some (.string ⟨d.currency.toArray⟩) := (hby.out.cell 7).trans (by rw [hD.out]; rfl)
 have f8 : ((w.alloc (.cells C 41)).alloc (.cells D 41)).cell? ⟨w.heap.size, 8, none⟩ = some (.int .i64 c.amount) := (hbx.out.cell 8).trans (by rw [hC.out]; rfl)
 have g8 : ((w.alloc (.cells C 41)).alloc (.cells D 41)).cell? ⟨w.heap.size + 1, 8, none⟩ = some (.int .i64 d.amount) := (hby.out.cell 8).trans (by rw [hD.out]; rfl)
 have f9 : ((w.alloc (.cells C 41)).alloc (.cells D 41)).cell? ⟨w.heap.size, 9, none⟩ = some (.int .i64 c.above) := (hbx.out.cell 9).trans (by rw [hC.out]; rfl)
 have g9 : ((w.alloc (.cells C 41)).alloc (.cells D 41)).cell? ⟨w.heap.size + 1, 9, none⟩ = some (.int .i64 d.above) := (hby.out.cell 9).trans (by rw [hD.out]; rfl)
 have f10 : ((w.alloc (.cells C 41)).alloc (.cells D 41)).cell? ⟨w.heap.size, 10, none⟩ = some (.int .i64 c.below) := (hbx.out.cell 10).trans (by rw [hC.out]; rfl)
 have g10 : ((w.alloc (.cells C 41)).alloc (.cells D 41)).cell? ⟨w.heap.size + 1, 10, none⟩ = some (.int .i64 d.below) := (hby.out.cell 10).trans (by rw [hD.out]; rfl)
 have f11 : ((w.alloc (.cells C 41)).alloc (.cells D 41)).cell? ⟨w.heap.size, 11, none⟩ = some (.int .i64 c.latest) := (hbx.out.cell 11).trans (by rw [hC.out]; rfl)
 have g11 : ((w.alloc (.cells C 41)).alloc (.cells D 41)).cell? ⟨w.heap.size + 1, 11, none⟩ = some (.int .i64 d.latest) := (hby.out.cell 11).trans (by rw [hD.out]; rfl)
 have f12 : ((w.alloc (.cells C 41)).alloc (.cells D 41)).cell? ⟨w.heap.size, 12, none⟩ = some (.int .i64 c.expiry) := (hbx.out.cell 12).trans (by rw [hC.out]; rfl)
 have g12 : ((w.alloc (.cells C 41)).alloc (.cells D 41)).cell? ⟨w.heap.size + 1, 12, none⟩ = some (.int .i64 d.expiry) := (hby.out.cell 12).trans (by rw [hD.out]; rfl)
 have f13 : ((w.alloc (.cells C 41)).alloc (.cells D 41)).cell? ⟨w.heap.size, 13, none⟩ = some (.int .i64 c.within) := (hbx.out.cell 13).trans (by rw [hC.out]; rfl)
 have g13 : ((w.alloc (.cells C 41)).alloc (.cells D 41)).cell? ⟨w.heap.size + 1, 13, none⟩ = some (.int .i64 d.within) := (hby.out.cell 13).trans (by rw [hD.out]; rfl)
 have f14 : ((w.alloc (.cells C 41)).alloc (.cells D 41)).cell? ⟨w.heap.size, 14, none⟩ = some (.int .i64 c.tenor) := (hbx.out.cell 14).trans (by rw [hC.out]; rfl)
 have g14 : ((w.alloc (.cells C 41)).alloc (.cells D 41)).cell? ⟨w.heap.size + 1, 14, none⟩ = some (.int .i64 d.tenor) := (hby.out.cell 14).trans (by rw [hD.out]; rfl)
 have f15 : ((w.alloc (.cells C 41)).alloc (.cells D 41)).cell? ⟨w.heap.size, 15, none⟩ = some (.bool c.part) := (hbx.out.cell 15).trans (by rw [hC.out]; rfl)
 have g15 : ((w.alloc (.cells C 41)).alloc (.cells D 41)).cell? ⟨w.heap.size + 1, 15, none⟩ = some (.bool d.part) := (hby.out.cell 15).trans (by rw [hD.out]; rfl)
 have f16 : ((w.alloc (.cells C 41)).alloc (.cells D 41)).cell? ⟨w.heap.size, 16, none⟩ = some (.bool c.change) := (hbx.out.cell 16).trans (by rw [hC.out]; rfl)
 have g16 : ((w.alloc (.cells C 41)).alloc (.cells D 41)).cell? ⟨w.heap.size + 1, 16, none⟩ = some (.bool d.change) := (hby.out.cell 16).trans (by rw [hD.out]; rfl)
 have f17 : ((w.alloc (.cells C 41)).alloc (.cells D 41)).cell? ⟨w.heap.size, 17, none⟩ = some (.slice A n cc) := (hbx.out.cell 17).trans hC17.out
 have g17 : ((w.alloc (.cells C 41)).alloc (.cells D 41)).cell? ⟨w.heap.size + 1, 17, none⟩ = some (.slice A' n' cc') := (hby.out.cell 17).trans hD17.out
 clear hC hD
 obtain ⟨s0, s1, s2, s3, s4, s5, s6, s7, n8, n9, n10, n11, n12, n13, n14, b15, b16⟩ := c
 obtain ⟨s0', s1', s2', s3', s4', s5', s6', s7', n8', n9', n10', n11', n12', n13', n14', b15', b16'⟩ := d
 have hres : Hid (eqCr ⟨s0, s1, s2, s3, s4, s5, s6, s7, n8, n9, n10, n11, n12, n13, n14, b15, b16⟩ ⟨s0', s1', s2', s3', s4', s5', s6', s7', n8', n9', n10', n11', n12', n13', n14', b15', b16'⟩ = ((s0 == s0' && s1 == s1' && s2 == s2' && s3 == s3' && s4 == s4' && s5 == s5' && s6 == s6') && (n9 == n9' && n10 == n10' && n11 == n11' && n12 == n12' && n13 == n13' && n14 == n14') && s7 == s7' && n8 == n8' && b15 == b15' && b16 == b16')) := rfl
 rw [hres.out]
 clear hres
 have t0 := tx_list s0
 have t0' := tx_list s0'
 have t1 := tx_list s1
 have t1' := tx_list s1'
 have t2 := tx_list s2
 have t2' := tx_list s2'
 have t3 := tx_list s3
 have t3' := tx_list s3'
 have t4 := tx_list s4
 have t4' := tx_list s4'
 have t5 := tx_list s5
 have t5' := tx_list s5'
 have t6 := tx_list s6
 have t6' := tx_list s6'
 have t7 := tx_list s7
 have t7' := tx_list s7'
 by_cases h0 : ¬ (s0 = s0')
 ·have k0 : (s0 == s0') = false := by simp [h0]
  skip
  rw [k0]
  go_enter Tryz.func22, Tryz.ntmps22
  go_wp2_with fail
  go_ret
  exact ⟨by simp, hb0.out⟩
 obtain rfl := Classical.not_not.1 h0
 clear h0
 by_cases h1 : ¬ (s1 = s1')
 ·have k1 : (s1 == s1') = false := by simp [h1]
  skip
  rw [k1]
  go_enter Tryz.func22, Tryz.ntmps22
  go_wp2_with fail
  go_ret
  exact ⟨by simp, hb0.out⟩
 obtain rfl := Classical.not_not.1 h1
 clear h1
 by_cases h2 : ¬ (s2 = s2')
 ·have k2 : (s2 == s2') = false := by simp [h2]
  skip
  rw [k2]
  go_enter Tryz.func22, Tryz.ntmps22
  go_wp2_with fail
  go_ret
  exact ⟨by simp, hb0.out⟩
 obtain rfl := Classical.not_not.1 h2
 clear h2
 by_cases h3 : ¬ (s3 = s3')
 ·have k3 : (s3 == s3') = false := by simp [h3]
  skip
  rw [k3]
  go_enter Tryz.func22, Tryz.ntmps22
  go_wp2_with fail
  go_ret
  exact ⟨by simp, hb0.out⟩
 obtain rfl := Classical.not_not.1 h3
 clear h3
 by_cases h4 : ¬ (s4 = s4')
 ·have k4 : (s4 == s4') = false := by simp [h4]
  skip
  rw [k4]
  go_enter Tryz.func22, Tryz.ntmps22
  go_wp2_with fail
  go_ret
  exact ⟨by simp, hb0.out⟩
 obtain rfl := Classical.not_not.1 h4
 clear h4
 by_cases h5 : ¬ (s5 = s5')
 ·have k5 : (s5 == s5') = false := by simp [h5]
  skip
  rw [k5]
  go_enter Tryz.func22, Tryz.ntmps22
  go_wp2_with fail
  go_ret
  exact ⟨by simp, hb0.out⟩
 obtain rfl := Classical.not_not.1 h5
 clear h5
 by_cases h6 : ¬ (s6 = s6')
 ·have k6 : (s6 == s6') = false := by simp [h6]
  skip
  rw [k6]
  go_enter Tryz.func22, Tryz.ntmps22
  go_wp2_with fail
  go_ret
  exact ⟨by simp, hb0.out⟩
 obtain rfl := Classical.not_not.1 h6
 clear h6
 by_cases h7 : ¬ (s7 = s7')
 ·have k7 : (s7 == s7') = false := by simp [h7]
  skip
  rw [k7]
  go_enter Tryz.func22, Tryz.ntmps22
  go_wp2_with fail
  go_ret
  exact ⟨by simp, hb0.out⟩
 obtain rfl := Classical.not_not.1 h7
 clear h7
 by_cases h8 : ¬ (n8 = n8')
 ·have k8 : (n8 == n8') = false := by simp [h8]
  have kk8 : (n8 != n8') = true := by simp [h8]
  rw [k8]
  go_enter Tryz.func22, Tryz.ntmps22
  go_wp2_with fail
  go_ret
  exact ⟨by simp, hb0.out⟩
 obtain rfl := Classical.not_not.1 h8
 clear h8
 by_cases h9 : ¬ (n9 = n9')
 ·have k9 : (n9 == n9') = false := by simp [h9]
  have kk9 : (n9 != n9') = true := by simp [h9]
  rw [k9]
  go_enter Tryz.func22, Tryz.ntmps22
  go_wp2_with fail
  go_ret
  exact ⟨by simp, hb0.out⟩
 obtain rfl := Classical.not_not.1 h9
 clear h9
 by_cases h10 : ¬ (n10 = n10')
 ·have k10 : (n10 == n10') = false := by simp [h10]
  have kk10 : (n10 != n10') = true := by simp [h10]
  rw [k10]
  go_enter Tryz.func22, Tryz.ntmps22
  go_wp2_with fail
  go_ret
  exact ⟨by simp, hb0.out⟩
 obtain rfl := Classical.not_not.1 h10
 clear h10
 by_cases h11 : ¬ (n11 = n11')
 ·have k11 : (n11 == n11') = false := by simp [h11]
  have kk11 : (n11 != n11') = true := by simp [h11]
  rw [k11]
  go_enter Tryz.func22, Tryz.ntmps22
  go_wp2_with fail
  go_ret
  exact ⟨by simp, hb0.out⟩
 obtain rfl := Classical.not_not.1 h11
 clear h11
 by_cases h12 : ¬ (n12 = n12')
 ·have k12 : (n12 == n12') = false := by simp [h12]
  have kk12 : (n12 != n12') = true := by simp [h12]
  rw [k12]
  go_enter Tryz.func22, Tryz.ntmps22
  go_wp2_with fail
  go_ret
  exact ⟨by simp, hb0.out⟩
 obtain rfl := Classical.not_not.1 h12
 clear h12
 by_cases h13 : ¬ (n13 = n13')
 ·have k13 : (n13 == n13') = false := by simp [h13]
  have kk13 : (n13 != n13') = true := by simp [h13]
  rw [k13]
  go_enter Tryz.func22, Tryz.ntmps22
  go_wp2_with fail
  go_ret
  exact ⟨by simp, hb0.out⟩
 obtain rfl := Classical.not_not.1 h13
 clear h13
 by_cases h14 : ¬ (n14 = n14')
 ·have k14 : (n14 == n14') = false := by simp [h14]
  have kk14 : (n14 != n14') = true := by simp [h14]
  rw [k14]
  go_enter Tryz.func22, Tryz.ntmps22
  go_wp2_with fail
  go_ret
  exact ⟨by simp, hb0.out⟩
 obtain rfl := Classical.not_not.1 h14
 clear h14
 by_cases h15 : ¬ (b15 = b15')
 ·have k15 : (b15 == b15') = false := by simp [h15]
  have kk15 : (b15 != b15') = true := by simp [h15]
  rw [k15]
  go_enter Tryz.func22, Tryz.ntmps22
  go_wp2_with fail
  go_ret
  exact ⟨by simp, hb0.out⟩
 obtain rfl := Classical.not_not.1 h15
 clear h15
 by_cases h16 : ¬ (b16 = b16')
 ·have k16 : (b16 == b16') = false := by simp [h16]
  have kk16 : (b16 != b16') = true := by simp [h16]
  rw [k16]
  go_enter Tryz.func22, Tryz.ntmps22
  go_wp2_with fail
  go_ret
  exact ⟨by simp, hb0.out⟩
 obtain rfl := Classical.not_not.1 h16
 clear h16
 by_cases hne : ¬ (n = n')
 ·have b1 : ((n : Int) == (n' : Int)) = false := by simp; omega
  have b2 : ((n : Int) != (n' : Int)) = true := by simp; omega
  have hr : eqBy eqNd l l' = false := by
   cases h : eqBy eqNd l l' with
   | false => rfl
   | true => have := eqBy_len h; rw [hl.out, hl'.out] at this; exact absurd this hne
  rw [hr]
  go_enter Tryz.func22, Tryz.ntmps22
  go_wp2_with fail
  go_ret
  exact ⟨by simp, hb0.out⟩
 obtain rfl := Classical.not_not.1 hne
 obtain ⟨wa, hwa⟩ : ∃ y, Hid ((w.alloc (.cells C 41)).alloc (.cells D 41) = y) := ⟨_, hd9 rfl⟩
 go_enter Tryz.func22, Tryz.ntmps22
 go_wp2_with fail
 rw [hwa.out] at hb0 hbx hby ⊢
 clear hwa f0 g0 f1 g1 f2 g2 f3 g3 f4 g4 f5 g5 f6 g6 f7 g7 f8 g8 f9 g9 f10 g10 f11 g11 f12 g12 f13 g13 f14 g14 f15 g15 f16 g16 f17 g17
 go_loopg [5] n (fun gg a wr => ∃ q : Nat, q ≤ n ∧ gg = n - q ∧ a = .int .i64 q ∧ Hid (eqBy eqNd l l' = eqBy eqNd (l.drop q) (l'.drop q)) ∧ Hid (Below w.heap.size w wr) ∧ Hid (Blk wr w.heap.size 41 C) ∧ Hid (Blk wr (w.heap.size + 1) 41 D))
 case atStart => exact ⟨0, Nat.zero_le _, rfl, rfl, rfl, hb0, hbx, hby⟩
 case round =>
  clear hb0 hbx hby
  obtain ⟨q, hq, hg, rfl, hall, hB, hbx, hby⟩ := hrel
  have hg' := hd9 hg
  clear hg
  have e17 : wr.cell? ⟨w.heap.size, 17, none⟩ = some (.slice A n cc) := (hbx.out.cell 17).trans hC17.out
  by_cases hlt : q < n
  ·have i1 : decide ((q : Int) < (n : Int)) = true := by simp; omega
   have i2 : (q : Int) < (n : Int) := by omega
   have i3 : (0 : Int) ≤ (q : Int) := by omega
   obtain ⟨x, hx⟩ : ∃ t, l[q]? = some t := ⟨_, List.getElem?_eq_getElem (by have := hl.out; omega)⟩
   obtain ⟨z, hz⟩ : ∃ t, l'[q]? = some t := ⟨_, List.getElem?_eq_getElem (by have := hl'.out; omega)⟩
   have hst := hd9 (eqBy_step hall.out hx hz)
   obtain ⟨bb, off, rfl, _, hc, hTt⟩ := (hN.out.below hB.out) q x hx
   obtain ⟨bb', off', rfl, _, hc', hTu⟩ := (hN'.out.below hB.out) q z hz
   have hcall : Hid (∀ y : Ext wr, Calls Tryz.prog 15 #[.agg x.rule.cells, .agg z.rule.cells] y.wd fun e w' => e = .returned (.bool (eqR (strip x.rule) (strip z.rule))) ∧ Below y.wd.heap.size y.wd w') := fun y => same_any x.rule z.rule y.wd ok ok' (hTt.below y.below) (hTu.below y.below)
   have hq1 : Hid (eqNd x z = (x.kind == z.kind && x.count == z.count && eqR (strip x.rule) (strip z.rule))) := rfl
   rw [hq1.out] at hst
   clear hx hz hTt hTu hall hq1
   obtain ⟨xk, xn, ⟨tk, tp, tf, tx, tn, tA, tc, tL⟩⟩ := x
   obtain ⟨yk, yn, ⟨uk, up, uf, ux, un, uA, uc, uL⟩⟩ := z
   have lt1 : bb < wr.heap.size := World.block_lt_of_cell? wr _ (hc 0 _ rfl)
   have lt2 : bb' < wr.heap.size := World.block_lt_of_cell? wr _ (hc' 0 _ rfl)
   have g0 : ∀ y : Ext wr, y.wd.cell? ⟨bb, off + q * 8 , none⟩ = some (.int .i64 xk) := fun y => (y.cell ⟨bb, _, none⟩ lt1).trans (hc 0 _ rfl)
   have k0 : ∀ y : Ext wr, y.wd.cell? ⟨bb', off' + q * 8 , none⟩ = some (.int .i64 yk) := fun y => (y.cell ⟨bb', _, none⟩ lt2).trans (hc' 0 _ rfl)
   have g1 : ∀ y : Ext wr, y.wd.cell? ⟨bb, off + q * 8 + 1, none⟩ = some (.int .i64 xn) := fun y => (y.cell ⟨bb, _, none⟩ lt1).trans (hc 1 _ rfl)
   have k1 : ∀ y : Ext wr, y.wd.cell? ⟨bb', off' + q * 8 + 1, none⟩ = some (.int .i64 yn) := fun y => (y.cell ⟨bb', _, none⟩ lt2).trans (hc' 1 _ rfl)
   have g2 : ∀ y : Ext wr, y.wd.cell? ⟨bb, off + q * 8 + 2, none⟩ = some (.int .i64 tk) := fun y => (y.cell ⟨bb, _, none⟩ lt1).trans (hc 2 _ rfl)
   have k2 : ∀ y : Ext wr, y.wd.cell? ⟨bb', off' + q * 8 + 2, none⟩ = some (.int .i64 uk) := fun y => (y.cell ⟨bb', _, none⟩ lt2).trans (hc' 2 _ rfl)
   have g3 : ∀ y : Ext wr, y.wd.cell? ⟨bb, off + q * 8 + 2 + 1, none⟩ = some (.int .i64 tp) := fun y => (y.cell ⟨bb, _, none⟩ lt1).trans (hc 3 _ rfl)
   have k3 : ∀ y : Ext wr, y.wd.cell? ⟨bb', off' + q * 8 + 2 + 1, none⟩ = some (.int .i64 up) := fun y => (y.cell ⟨bb', _, none⟩ lt2).trans (hc' 3 _ rfl)
   have g4 : ∀ y : Ext wr, y.wd.cell? ⟨bb, off + q * 8 + 2 + 2, none⟩ = some (.string ⟨tf.toArray⟩) := fun y => (y.cell ⟨bb, _, none⟩ lt1).trans (hc 4 _ rfl)
   have k4 : ∀ y : Ext wr, y.wd.cell? ⟨bb', off' + q * 8 + 2 + 2, none⟩ = some (.string ⟨uf.toArray⟩) := fun y => (y.cell ⟨bb', _, none⟩ lt2).trans (hc' 4 _ rfl)
   have g5 : ∀ y : Ext wr, y.wd.cell? ⟨bb, off + q * 8 + 2 + 3, none⟩ = some (.string ⟨tx.toArray⟩) := fun y => (y.cell ⟨bb, _, none⟩ lt1).trans (hc 5 _ rfl)
   have k5 : ∀ y : Ext wr, y.wd.cell? ⟨bb', off' + q * 8 + 2 + 3, none⟩ = some (.string ⟨ux.toArray⟩) := fun y => (y.cell ⟨bb', _, none⟩ lt2).trans (hc' 5 _ rfl)
   have g6 : ∀ y : Ext wr, y.wd.cell? ⟨bb, off + q * 8 + 2 + 4, none⟩ = some (.int .i64 tn) := fun y => (y.cell ⟨bb, _, none⟩ lt1).trans (hc 6 _ rfl)
   have k6 : ∀ y : Ext wr, y.wd.cell? ⟨bb', off' + q * 8 + 2 + 4, none⟩ = some (.int .i64 un) := fun y => (y.cell ⟨bb', _, none⟩ lt2).trans (hc' 6 _ rfl)
   have g7 : ∀ y : Ext wr, y.wd.cell? ⟨bb, off + q * 8 + 2 + 5, none⟩ = some (.slice tA tL.length tc) := fun y => (y.cell ⟨bb, _, none⟩ lt1).trans (hc 7 _ rfl)
   have k7 : ∀ y : Ext wr, y.wd.cell? ⟨bb', off' + q * 8 + 2 + 5, none⟩ = some (.slice uA uL.length uc) := fun y => (y.cell ⟨bb', _, none⟩ lt2).trans (hc' 7 _ rfl)
   have p17 : ∀ y : Ext wr, y.wd.cell? ⟨w.heap.size, 17, none⟩ = some (.slice (some ⟨bb, off, none⟩) n cc) := fun y => (y.cell ⟨w.heap.size, 17, none⟩ hbx.out.lt).trans e17
   have r17 : ∀ y : Ext wr, y.wd.cell? ⟨w.heap.size + 1, 17, none⟩ = some (.slice (some ⟨bb', off', none⟩) n cc') := fun y => (y.cell ⟨w.heap.size + 1, 17, none⟩ hby.out.lt).trans ((hby.out.cell 17).trans hD17.out)
   clear hc hc'
   simp only [Tree.cells] at hcall hst
   obtain ⟨bq, hbq⟩ : ∃ b, Hid (eqR (strip (.mk tk tp tf tx tn tA tc tL)) (strip (.mk uk up uf ux un uA uc uL)) = b) := ⟨_, hd9 rfl⟩
   rw [hbq.out] at hcall hst
   clear hbq
   by_cases h0 : ¬ (xk = yk)
   ·have z0 : (xk == yk) = false := by simp [h0]
    have z1 : (xk != yk) = true := by simp [h0]
    rw [z0] at hst
    go_upto_region 8 with fail
    refine wp_region_ext (by kernel_rfl) (by kernel_rfl) ?_
    repeat (go_big_quiet_step ((go_at_call 15; with_reducible exact Calls.ext_of (hcall.out _))))
    refine wpQuiet_nil ?_
    rintro _ ⟨y, rfl⟩
    have hyb := hd9 y.below
    obtain ⟨wy, hwy⟩ : ∃ w6, y.wd = w6 := ⟨_, rfl⟩
    rw [hwy] at hyb ⊢
    go_wp2_with fail
    go_ret
    exact ⟨by rw [hst.out]; simp [], hB.out.trans (hyb.out.mono hB.out.size)⟩
   obtain rfl := Classical.not_not.1 h0
   by_cases h1 : ¬ (xn = yn)
   ·have z0 : (xn == yn) = false := by simp [h1]
    have z1 : (xn != yn) = true := by simp [h1]
    rw [z0] at hst
    go_upto_region 8 with fail
    refine wp_region_ext (by kernel_rfl) (by kernel_rfl) ?_
    repeat (go_big_quiet_step ((go_at_call 15; with_reducible exact Calls.ext_of (hcall.out _))))
    refine wpQuiet_nil ?_
    rintro _ ⟨y, rfl⟩
    have hyb := hd9 y.below
    obtain ⟨wy, hwy⟩ : ∃ w6, y.wd = w6 := ⟨_, rfl⟩
    rw [hwy] at hyb ⊢
    go_wp2_with fail
    go_ret
    exact ⟨by rw [hst.out]; simp [], hB.out.trans (hyb.out.mono hB.out.size)⟩
   obtain rfl := Classical.not_not.1 h1
   cases bq with
   | false =>
    go_upto_region 8 with fail
    refine wp_region_ext (by kernel_rfl) (by kernel_rfl) ?_
    repeat (go_big_quiet_step ((go_at_call 15; with_reducible exact Calls.ext_of (hcall.out _))))
    refine wpQuiet_nil ?_
    rintro _ ⟨y, rfl⟩
    have hyb := hd9 y.below
    obtain ⟨wy, hwy⟩ : ∃ w6, y.wd = w6 := ⟨_, rfl⟩
    rw [hwy] at hyb ⊢
    go_wp2_with fail
    go_ret
    exact ⟨by rw [hst.out]; simp [], hB.out.trans (hyb.out.mono hB.out.size)⟩
   | true =>
    go_upto_region 8 with fail
    refine wp_region_ext (by kernel_rfl) (by kernel_rfl) ?_
    repeat (go_big_quiet_step ((go_at_call 15; with_reducible exact Calls.ext_of (hcall.out _))))
    refine wpQuiet_nil ?_
    rintro _ ⟨y, rfl⟩
    have hyb := hd9 y.below
    obtain ⟨wy, hwy⟩ : ∃ w6, y.wd = w6 := ⟨_, rfl⟩
    rw [hwy] at hyb ⊢
    have hBn : Hid (Below w.heap.size w wy) := hB.out.trans (hyb.out.mono hB.out.size)
    have hbn := hd9 (hbx.out.below hyb.out hbx.out.lt)
    have hbn' := hd9 (hby.out.below hyb.out hby.out.lt)
    have hst2 : Hid (eqBy eqNd l l' = eqBy eqNd (l.drop (q + 1)) (l'.drop (q + 1))) := by unfold Hid; rw [hst.out]; simp
    clear hwy y g0 g1 g2 g3 g4 g5 g6 g7 k0 k1 k2 k3 k4 k5 k6 k7 p17 r17 hcall e17
    go_wp2_with fail
    go_roundg (n - (q + 1))
    case measure => have := hg'.out; omega
    case rel => exact ⟨q + 1, by omega, rfl, by go_num, hst2, hBn, hbn, hbn'⟩
  ·have i1 : decide ((q : Int) < (n : Int)) = false := by simp; omega
   have hfin := hd9 (eqBy_end hall.out (by have := hl.out; omega) (by have := hl'.out; omega))
   go_wp2_with fail
   go_ret
   exact ⟨by rw [hfin.out]; simp, hB.out⟩
end Go.Proofs.YtjkmhlfjheiekaaGreatDoor

import Derived.Test.YtjkmhlfjheiekaaGreatDoorVe
set_option maxRecDepth 1000000
set_option maxHeartbeats 51200000
namespace Go.Proofs.YtjkmhlfjheiekaaGreatDoor
open Go Go.RowKit Go.BigFrame Go.Maps
theorem ratom_text_no (A : Option Addr) (m c e : Nat) (l : List Tok) (hm : Hid (l.length = m)) (hm4 : m ≤ 4096) (w : World) (i : Nat) (_hi : i ≤ m) (htk : Hid (TokAt w 0 A l)) (q1 : Hid (atI (isT [40]) l i = false)) (qn : Hid (atI (isT [110, 111, 116]) l i = false) ∨ Hid (atI (isT [110, 111, 116]) l i = true) ∧ Hid (atI cmpT l (i + 1) = true)) (hok : Hid (TokOk l)) (f : Tok) (hf : Hid (l[i]? = some f)) (hi2 : i + 2 ≤ m) (q4 : Hid (atI nameT l i = true)) (q5 : Hid (atI cmpT l (i + 1) = true)) (q6 : Hid (atI (isT [60, 61]) l (i + 1) = false)) (q7 : Hid (atI (isT [62, 61]) l (i + 1) = false)) (hk3 : m ≤ i + 2 ∨ ∃ t, l[i + 2]? = some t ∧ t.kind ≠ 3) (q8 : Hid (atI (isT [126]) l (i + 1) = true)) :
  Cz 148 #[.slice A m c, Iz i, Iz e] w (fun x w' => Bz w w' ∧ x = .returned (.agg (gotE 2 (plz e l (i + 2))))) := by
 have hb0 : Hid (Bz w (w.alloc (.cells (z2z 0 0 0 none 0 0 0 0 0) 65))) := (Below.refl _ w).alloc leZ _
 have hR0 := hdZ (Blk.new w 65 (z2z 0 0 0 none 0 0 0 0 0))
 have ht0 := hdZ (htk.out.below hb0.out)
 have hs0 : Hid ((w.alloc (.cells (z2z 0 0 0 none 0 0 0 0 0) 65)).heap.size = w.heap.size + 1) := by unfold Hid; simp
 have w1x : IntKind.i64.wrap ((i : Int) + 1) = ((i + 1 : Nat) : Int) := by rw [IntWalk.i64_in _ (by omega)]; omega
 have w2x : IntKind.i64.wrap ((i : Int) + 2) = ((i + 2 : Nat) : Int) := by rw [IntWalk.i64_in _ (by omega)]; omega
 go_enter Tryz.func148, Tryz.ntmps148
 go_wp2_with fail
 obtain ⟨wa, hwa⟩ := nmZ (w.alloc (.cells (z2z 0 0 0 none 0 0 0 0 0) 65))
 change Cz 48 _ (w.alloc (.cells (z2z 0 0 0 none 0 0 0 0 0) 65)) _
 rw [hwa.out] at hb0 hR0 ht0 hs0 ⊢
 clear hwa
 refine (rsz A m c l wa (i) [40] hm ht0).mono ?_
 rintro x w1 ⟨rfl, rfl⟩
 rw [q1.out]
 go_wp2_with fail
 rcases qn with q2 | ⟨q2, q3⟩
 ·refine (rsz A m c l wa (i) [110, 111, 116] hm ht0).mono ?_
  rintro x w1 ⟨rfl, rfl⟩; rw [q2.out]; go_wp2_with fail; have hfm : i < m := by omega
  have im : (i : Int) < (m : Int) := by omega
  have i0 : (0 : Int) ≤ (i : Int) := by omega
  obtain ⟨g, off, rfl, hg, h0, h1, h2⟩ := ht0.out i f hf.out; refine (rnm_any _ m c l wa (i) hm hok ht0).mono ?_; rintro x w1 ⟨rfl, rfl⟩; rw [q4.out]; go_wp2_with fail; refine (rcz _ m c l wa (i + 1) hm ht0).mono ?_; rintro x w1 ⟨rfl, rfl⟩; rw [q5.out]; go_wp2_with fail; have hbl : Bz wa (wa.alloc (.cells #[Iz 0, Iz 0, .string ⟨f.text.toArray⟩, S0z, Iz 0, .slice none 0 0] 25)) := (Below.refl _ wa).alloc leZ _; have hX := hdZ (Blk.new wa 25 #[Iz 0, Iz 0, .string ⟨f.text.toArray⟩, S0z, Iz 0, .slice none 0 0]); have hRb := hdZ (hR0.out.below hbl hR0.out.lt); have hBb := hdZ (hb0.out.trans (hbl.mono hb0.out.size)); have htb := hdZ (ht0.out.below hbl); have hsz : w.heap.size + 1 ≤ wa.heap.size := by have := hs0.out; omega
  have ne1 : wa.heap.size ≠ w.heap.size := by omega
  have ne2 : w.heap.size ≠ wa.heap.size := by omega
  obtain ⟨wb, hwb⟩ := nmZ (wa.alloc (.cells #[Iz 0, Iz 0, .string ⟨f.text.toArray⟩, S0z, Iz 0, .slice none 0 0] 25)); rw [hwb.out] at hX hRb hBb htb ⊢; have hgl : Hid (g ≠ wa.heap.size) := by unfold Hid; have h9 : g < wa.heap.size := World.block_lt_of_cell? wa _ h0; omega
  clear hbl hwb h0 h1 h2 ht0 hR0 hb0
  have hkk : (¬ i + 2 < m ∧ decide (((i + 2 : Nat) : Int) < (m : Int)) = false) ∨ (∃ kd : Int, i + 2 < m ∧ decide (((i + 2 : Nat) : Int) < (m : Int)) = true ∧ ((i + 2 : Nat) : Int) < (m : Int) ∧ (kd == 3) = false ∧ wb.cell? ⟨g, off + (i + 2) * 3, none⟩ = some (Iz kd)) := by
   rcases hk3 with h | ⟨t, ht, hk⟩
   ·exact .inl ⟨by omega, by simp; omega⟩
   ·have hk2 : i + 2 < m := by have := (List.getElem?_eq_some_iff.1 ht).1; have := hm.out; omega
    exact .inr ⟨t.kind, hk2, by simp; omega, by omega, by simp [hk], (htb.out.at_ ht).1⟩
  have k0 : (0 : Int) ≤ ((i + 2 : Nat) : Int) := by omega
  rcases hkk with ⟨z1, z2⟩ | ⟨kd, z1, z2, z3, z4, z5⟩
  ·refine (rsz _ m c l wb (i + 1) [60, 61] hm htb).mono ?_
   rintro x w1 ⟨rfl, rfl⟩; rw [q6.out]; go_wp2_with fail; refine (rsz _ m c l wb (i + 1) [62, 61] hm htb).mono ?_; rintro x w1 ⟨rfl, rfl⟩; rw [q7.out]; go_wp2_with fail; refine (rsz _ m c l wb (i + 1) [126] hm htb).mono ?_; rintro x w1 ⟨rfl, rfl⟩; rw [q8.out]; go_wp2_with fail; obtain ⟨pl, hpl⟩ := nmZ (plz e l (i + 2)); refine (rwz _ m c l wb e (i + 2) hm htb).mono ?_; rintro x wz ⟨rfl, hbz⟩; rw [hpl.out]; have hB := hdZ (hBb.out.trans (hbz.mono hBb.out.size)); have hR := hdZ (hRb.out.below hbz hRb.out.lt); clear hbz; unfold gotE; obtain ⟨rc0, rc1, rc2, rc3, rc4, rc5, rc6, rc7, rc8, rf0, rf1, rf2, rf3, rf4, rf5, rf6, rf7, rf8⟩ := cf9 hR.out; have rlt := hR.out.lt; go_wp2_with fail; refine bodyPost_ret (rrz rfl _ _ w.heap.size 65 _ _ rfl (st9z (hR.out)) Tryz.underlying65 rfl (by kernel_rfl)) rfl ?_; exact ⟨(sc9z (hB.out)), by rw [hpl.out]; rfl⟩
  ·refine (rsz _ m c l wb (i + 1) [60, 61] hm htb).mono ?_
   rintro x w1 ⟨rfl, rfl⟩; rw [q6.out]; go_wp2_with fail; refine (rsz _ m c l wb (i + 1) [62, 61] hm htb).mono ?_; rintro x w1 ⟨rfl, rfl⟩; rw [q7.out]; go_wp2_with fail; refine (rsz _ m c l wb (i + 1) [126] hm htb).mono ?_; rintro x w1 ⟨rfl, rfl⟩; rw [q8.out]; go_wp2_with fail; obtain ⟨pl, hpl⟩ := nmZ (plz e l (i + 2)); refine (rwz _ m c l wb e (i + 2) hm htb).mono ?_; rintro x wz ⟨rfl, hbz⟩; rw [hpl.out]; have hB := hdZ (hBb.out.trans (hbz.mono hBb.out.size)); have hR := hdZ (hRb.out.below hbz hRb.out.lt); clear hbz; unfold gotE; obtain ⟨rc0, rc1, rc2, rc3, rc4, rc5, rc6, rc7, rc8, rf0, rf1, rf2, rf3, rf4, rf5, rf6, rf7, rf8⟩ := cf9 hR.out; have rlt := hR.out.lt; go_wp2_with fail; refine bodyPost_ret (rrz rfl _ _ w.heap.size 65 _ _ rfl (st9z (hR.out)) Tryz.underlying65 rfl (by kernel_rfl)) rfl ?_; exact ⟨(sc9z (hB.out)), by rw [hpl.out]; rfl⟩
 ·refine (rsz A m c l wa (i) [110, 111, 116] hm ht0).mono ?_
  rintro x w1 ⟨rfl, rfl⟩; rw [q2.out]; go_wp2_with fail; refine (rcz A m c l wa (i + 1) hm ht0).mono ?_; rintro x w1 ⟨rfl, rfl⟩; rw [q3.out]; go_wp2_with fail; have hfm : i < m := by omega
  have im : (i : Int) < (m : Int) := by omega
  have i0 : (0 : Int) ≤ (i : Int) := by omega
  obtain ⟨g, off, rfl, hg, h0, h1, h2⟩ := ht0.out i f hf.out; refine (rnm_any _ m c l wa (i) hm hok ht0).mono ?_; rintro x w1 ⟨rfl, rfl⟩; rw [q4.out]; go_wp2_with fail; refine (rcz _ m c l wa (i + 1) hm ht0).mono ?_; rintro x w1 ⟨rfl, rfl⟩; rw [q5.out]; go_wp2_with fail; have hbl : Bz wa (wa.alloc (.cells #[Iz 0, Iz 0, .string ⟨f.text.toArray⟩, S0z, Iz 0, .slice none 0 0] 25)) := (Below.refl _ wa).alloc leZ _; have hX := hdZ (Blk.new wa 25 #[Iz 0, Iz 0, .string ⟨f.text.toArray⟩, S0z, Iz 0, .slice none 0 0]); have hRb := hdZ (hR0.out.below hbl hR0.out.lt); have hBb := hdZ (hb0.out.trans (hbl.mono hb0.out.size)); have htb := hdZ (ht0.out.below hbl); have hsz : w.heap.size + 1 ≤ wa.heap.size := by have := hs0.out; omega
  have ne1 : wa.heap.size ≠ w.heap.size := by omega
  have ne2 : w.heap.size ≠ wa.heap.size := by omega
  obtain ⟨wb, hwb⟩ := nmZ (wa.alloc (.cells #[Iz 0, Iz 0, .string ⟨f.text.toArray⟩, S0z, Iz 0, .slice none 0 0] 25)); rw [hwb.out] at hX hRb hBb htb ⊢; have hgl : Hid (g ≠ wa.heap.size) := by unfold Hid; have h9 : g < wa.heap.size := World.block_lt_of_cell? wa _ h0; omega
  clear hbl hwb h0 h1 h2 ht0 hR0 hb0
  have hkk : (¬ i + 2 < m ∧ decide (((i + 2 : Nat) : Int) < (m : Int)) = false) ∨ (∃ kd : Int, i + 2 < m ∧ decide (((i + 2 : Nat) : Int) < (m : Int)) = true ∧ ((i + 2 : Nat) : Int) < (m : Int) ∧ (kd == 3) = false ∧ wb.cell? ⟨g, off + (i + 2) * 3, none⟩ = some (Iz kd)) := by
   rcases hk3 with h | ⟨t, ht, hk⟩
   ·exact .inl ⟨by omega, by simp; omega⟩
   ·have hk2 : i + 2 < m := by have := (List.getElem?_eq_some_iff.1 ht).1; have := hm.out; omega
    exact .inr ⟨t.kind, hk2, by simp; omega, by omega, by simp [hk], (htb.out.at_ ht).1⟩
  have k0 : (0 : Int) ≤ ((i + 2 : Nat) : Int) := by omega
  rcases hkk with ⟨z1, z2⟩ | ⟨kd, z1, z2, z3, z4, z5⟩
  ·refine (rsz _ m c l wb (i + 1) [60, 61] hm htb).mono ?_
   rintro x w1 ⟨rfl, rfl⟩; rw [q6.out]; go_wp2_with fail; refine (rsz _ m c l wb (i + 1) [62, 61] hm htb).mono ?_; rintro x w1 ⟨rfl, rfl⟩; rw [q7.out]; go_wp2_with fail; refine (rsz _ m c l wb (i + 1) [126] hm htb).mono ?_; rintro x w1 ⟨rfl, rfl⟩; rw [q8.out]; go_wp2_with fail; obtain ⟨pl, hpl⟩ := nmZ (plz e l (i + 2)); refine (rwz _ m c l wb e (i + 2) hm htb).mono ?_; rintro x wz ⟨rfl, hbz⟩; rw [hpl.out]; have hB := hdZ (hBb.out.trans (hbz.mono hBb.out.size)); have hR := hdZ (hRb.out.below hbz hRb.out.lt); clear hbz; unfold gotE; obtain ⟨rc0, rc1, rc2, rc3, rc4, rc5, rc6, rc7, rc8, rf0, rf1, rf2, rf3, rf4, rf5, rf6, rf7, rf8⟩ := cf9 hR.out; have rlt := hR.out.lt; go_wp2_with fail; refine bodyPost_ret (rrz rfl _ _ w.heap.size 65 _ _ rfl (st9z (hR.out)) Tryz.underlying65 rfl (by kernel_rfl)) rfl ?_; exact ⟨(sc9z (hB.out)), by rw [hpl.out]; rfl⟩
  ·refine (rsz _ m c l wb (i + 1) [60, 61] hm htb).mono ?_
   rintro x w1 ⟨rfl, rfl⟩; rw [q6.out]; go_wp2_with fail; refine (rsz _ m c l wb (i + 1) [62, 61] hm htb).mono ?_; rintro x w1 ⟨rfl, rfl⟩; rw [q7.out]; go_wp2_with fail; refine (rsz _ m c l wb (i + 1) [126] hm htb).mono ?_; rintro x w1 ⟨rfl, rfl⟩; rw [q8.out]; go_wp2_with fail; obtain ⟨pl, hpl⟩ := nmZ (plz e l (i + 2)); refine (rwz _ m c l wb e (i + 2) hm htb).mono ?_; rintro x wz ⟨rfl, hbz⟩; rw [hpl.out]; have hB := hdZ (hBb.out.trans (hbz.mono hBb.out.size)); have hR := hdZ (hRb.out.below hbz hRb.out.lt); clear hbz; unfold gotE; obtain ⟨rc0, rc1, rc2, rc3, rc4, rc5, rc6, rc7, rc8, rf0, rf1, rf2, rf3, rf4, rf5, rf6, rf7, rf8⟩ := cf9 hR.out; have rlt := hR.out.lt; go_wp2_with fail; refine bodyPost_ret (rrz rfl _ _ w.heap.size 65 _ _ rfl (st9z (hR.out)) Tryz.underlying65 rfl (by kernel_rfl)) rfl ?_; exact ⟨(sc9z (hB.out)), by rw [hpl.out]; rfl⟩
theorem ratom_paper_no (A : Option Addr) (m c e : Nat) (l : List Tok) (hm : Hid (l.length = m)) (hm4 : m ≤ 4096) (w : World) (i : Nat) (_hi : i ≤ m) (htk : Hid (TokAt w 0 A l)) (q1 : Hid (atI (isT [40]) l i = false)) (qn : Hid (atI (isT [110, 111, 116]) l i = false) ∨ Hid (atI (isT [110, 111, 116]) l i = true) ∧ Hid (atI cmpT l (i + 1) = true)) (hok : Hid (TokOk l)) (f : Tok) (hf : Hid (l[i]? = some f)) (hi2 : i + 2 ≤ m) (q4 : Hid (atI nameT l i = true)) (q5 : Hid (atI cmpT l (i + 1) = true)) (q6 : Hid (atI (isT [60, 61]) l (i + 1) = false)) (q7 : Hid (atI (isT [62, 61]) l (i + 1) = false)) (hk3 : m ≤ i + 2 ∨ ∃ t, l[i + 2]? = some t ∧ t.kind ≠ 3) (q8 : Hid (atI (isT [126]) l (i + 1) = false)) (pv : Int) (qp : Hid (papI l (i + 2) = pv)) (hpv : pv < 0) :
  Cz 148 #[.slice A m c, Iz i, Iz e] w (fun x w' => Bz w w' ∧ x = .returned (.agg (gotE 2 (plz e l (i + 2))))) := by
 have hb0 : Hid (Bz w (w.alloc (.cells (z2z 0 0 0 none 0 0 0 0 0) 65))) := (Below.refl _ w).alloc leZ _
 have hR0 := hdZ (Blk.new w 65 (z2z 0 0 0 none 0 0 0 0 0))
 have ht0 := hdZ (htk.out.below hb0.out)
 have hs0 : Hid ((w.alloc (.cells (z2z 0 0 0 none 0 0 0 0 0) 65)).heap.size = w.heap.size + 1) := by unfold Hid; simp
 have w1x : IntKind.i64.wrap ((i : Int) + 1) = ((i + 1 : Nat) : Int) := by rw [IntWalk.i64_in _ (by omega)]; omega
 have w2x : IntKind.i64.wrap ((i : Int) + 2) = ((i + 2 : Nat) : Int) := by rw [IntWalk.i64_in _ (by omega)]; omega
 go_enter Tryz.func148, Tryz.ntmps148
 go_wp2_with fail
 obtain ⟨wa, hwa⟩ := nmZ (w.alloc (.cells (z2z 0 0 0 none 0 0 0 0 0) 65))
 change Cz 48 _ (w.alloc (.cells (z2z 0 0 0 none 0 0 0 0 0) 65)) _
 rw [hwa.out] at hb0 hR0 ht0 hs0 ⊢
 clear hwa
 refine (rsz A m c l wa (i) [40] hm ht0).mono ?_
 rintro x w1 ⟨rfl, rfl⟩
 rw [q1.out]
 go_wp2_with fail
 rcases qn with q2 | ⟨q2, q3⟩
 ·refine (rsz A m c l wa (i) [110, 111, 116] hm ht0).mono ?_
  rintro x w1 ⟨rfl, rfl⟩; rw [q2.out]; go_wp2_with fail; have bpv : decide (pv < 0) = true := by simp [hpv]
  have hfm : i < m := by omega
  have im : (i : Int) < (m : Int) := by omega
  have i0 : (0 : Int) ≤ (i : Int) := by omega
  obtain ⟨g, off, rfl, hg, h0, h1, h2⟩ := ht0.out i f hf.out; refine (rnm_any _ m c l wa (i) hm hok ht0).mono ?_; rintro x w1 ⟨rfl, rfl⟩; rw [q4.out]; go_wp2_with fail; refine (rcz _ m c l wa (i + 1) hm ht0).mono ?_; rintro x w1 ⟨rfl, rfl⟩; rw [q5.out]; go_wp2_with fail; have hbl : Bz wa (wa.alloc (.cells #[Iz 0, Iz 0, .string ⟨f.text.toArray⟩, S0z, Iz 0, .slice none 0 0] 25)) := (Below.refl _ wa).alloc leZ _; have hX := hdZ (Blk.new wa 25 #[Iz 0, Iz 0, .string ⟨f.text.toArray⟩, S0z, Iz 0, .slice none 0 0]); have hRb := hdZ (hR0.out.below hbl hR0.out.lt); have hBb := hdZ (hb0.out.trans (hbl.mono hb0.out.size)); have htb := hdZ (ht0.out.below hbl); have hsz : w.heap.size + 1 ≤ wa.heap.size := by have := hs0.out; omega
  have ne1 : wa.heap.size ≠ w.heap.size := by omega
  have ne2 : w.heap.size ≠ wa.heap.size := by omega
  obtain ⟨wb, hwb⟩ := nmZ (wa.alloc (.cells #[Iz 0, Iz 0, .string ⟨f.text.toArray⟩, S0z, Iz 0, .slice none 0 0] 25)); rw [hwb.out] at hX hRb hBb htb ⊢; have hgl : Hid (g ≠ wa.heap.size) := by unfold Hid; have h9 : g < wa.heap.size := World.block_lt_of_cell? wa _ h0; omega
  clear hbl hwb h0 h1 h2 ht0 hR0 hb0
  have hkk : (¬ i + 2 < m ∧ decide (((i + 2 : Nat) : Int) < (m : Int)) = false) ∨ (∃ kd : Int, i + 2 < m ∧ decide (((i + 2 : Nat) : Int) < (m : Int)) = true ∧ ((i + 2 : Nat) : Int) < (m : Int) ∧ (kd == 3) = false ∧ wb.cell? ⟨g, off + (i + 2) * 3, none⟩ = some (Iz kd)) := by
   rcases hk3 with h | ⟨t, ht, hk⟩
   ·exact .inl ⟨by omega, by simp; omega⟩
   ·have hk2 : i + 2 < m := by have := (List.getElem?_eq_some_iff.1 ht).1; have := hm.out; omega
    exact .inr ⟨t.kind, hk2, by simp; omega, by omega, by simp [hk], (htb.out.at_ ht).1⟩
  have k0 : (0 : Int) ≤ ((i + 2 : Nat) : Int) := by omega
  rcases hkk with ⟨z1, z2⟩ | ⟨kd, z1, z2, z3, z4, z5⟩
  ·refine (rsz _ m c l wb (i + 1) [60, 61] hm htb).mono ?_
   rintro x w1 ⟨rfl, rfl⟩; rw [q6.out]; go_wp2_with fail; refine (rsz _ m c l wb (i + 1) [62, 61] hm htb).mono ?_; rintro x w1 ⟨rfl, rfl⟩; rw [q7.out]; go_wp2_with fail; refine (rsz _ m c l wb (i + 1) [126] hm htb).mono ?_; rintro x w1 ⟨rfl, rfl⟩; rw [q8.out]; go_wp2_with fail; refine (rpaper_any _ m c l wb (i + 2) hm htb).mono ?_; rintro x wp ⟨rfl, hbp⟩; rw [qp.out]; have hX := hdZ (hX.out.below hbp hX.out.lt); have hRb := hdZ (hRb.out.below hbp hRb.out.lt); have hBb := hdZ (hBb.out.trans (hbp.mono hBb.out.size)); have htb := hdZ (htb.out.below hbp); have hgp : wa.heap.size < wp.heap.size := hX.out.lt; clear hbp; go_wp2_with fail; obtain ⟨pl, hpl⟩ := nmZ (plz e l (i + 2)); refine (rwz _ m c l wp e (i + 2) hm htb).mono ?_; rintro x wz ⟨rfl, hbz⟩; rw [hpl.out]; have hB := hdZ (hBb.out.trans (hbz.mono hBb.out.size)); have hR := hdZ (hRb.out.below hbz hRb.out.lt); clear hbz; unfold gotE; obtain ⟨rc0, rc1, rc2, rc3, rc4, rc5, rc6, rc7, rc8, rf0, rf1, rf2, rf3, rf4, rf5, rf6, rf7, rf8⟩ := cf9 hR.out; have rlt := hR.out.lt; go_wp2_with fail; refine bodyPost_ret (rrz rfl _ _ w.heap.size 65 _ _ rfl (st9z (hR.out)) Tryz.underlying65 rfl (by kernel_rfl)) rfl ?_; exact ⟨(sc9z (hB.out)), by rw [hpl.out]; rfl⟩
  ·refine (rsz _ m c l wb (i + 1) [60, 61] hm htb).mono ?_
   rintro x w1 ⟨rfl, rfl⟩; rw [q6.out]; go_wp2_with fail; refine (rsz _ m c l wb (i + 1) [62, 61] hm htb).mono ?_; rintro x w1 ⟨rfl, rfl⟩; rw [q7.out]; go_wp2_with fail; refine (rsz _ m c l wb (i + 1) [126] hm htb).mono ?_; rintro x w1 ⟨rfl, rfl⟩; rw [q8.out]; go_wp2_with fail; refine (rpaper_any _ m c l wb (i + 2) hm htb).mono ?_; rintro x wp ⟨rfl, hbp⟩; rw [qp.out]; have hX := hdZ (hX.out.below hbp hX.out.lt); have hRb := hdZ (hRb.out.below hbp hRb.out.lt); have hBb := hdZ (hBb.out.trans (hbp.mono hBb.out.size)); have htb := hdZ (htb.out.below hbp); have hgp : wa.heap.size < wp.heap.size := hX.out.lt; clear hbp; go_wp2_with fail; obtain ⟨pl, hpl⟩ := nmZ (plz e l (i + 2)); refine (rwz _ m c l wp e (i + 2) hm htb).mono ?_; rintro x wz ⟨rfl, hbz⟩; rw [hpl.out]; have hB := hdZ (hBb.out.trans (hbz.mono hBb.out.size)); have hR := hdZ (hRb.out.below hbz hRb.out.lt); clear hbz; unfold gotE; obtain ⟨rc0, rc1, rc2, rc3, rc4, rc5, rc6, rc7, rc8, rf0, rf1, rf2, rf3, rf4, rf5, rf6, rf7, rf8⟩ := cf9 hR.out; have rlt := hR.out.lt; go_wp2_with fail; refine bodyPost_ret (rrz rfl _ _ w.heap.size 65 _ _ rfl (st9z (hR.out)) Tryz.underlying65 rfl (by kernel_rfl)) rfl ?_; exact ⟨(sc9z (hB.out)), by rw [hpl.out]; rfl⟩
 ·refine (rsz A m c l wa (i) [110, 111, 116] hm ht0).mono ?_
  rintro x w1 ⟨rfl, rfl⟩; rw [q2.out]; go_wp2_with fail; refine (rcz A m c l wa (i + 1) hm ht0).mono ?_; rintro x w1 ⟨rfl, rfl⟩; rw [q3.out]; go_wp2_with fail; have bpv : decide (pv < 0) = true := by simp [hpv]
  have hfm : i < m := by omega
  have im : (i : Int) < (m : Int) := by omega
  have i0 : (0 : Int) ≤ (i : Int) := by omega
  obtain ⟨g, off, rfl, hg, h0, h1, h2⟩ := ht0.out i f hf.out; refine (rnm_any _ m c l wa (i) hm hok ht0).mono ?_; rintro x w1 ⟨rfl, rfl⟩; rw [q4.out]; go_wp2_with fail; refine (rcz _ m c l wa (i + 1) hm ht0).mono ?_; rintro x w1 ⟨rfl, rfl⟩; rw [q5.out]; go_wp2_with fail; have hbl : Bz wa (wa.alloc (.cells #[Iz 0, Iz 0, .string ⟨f.text.toArray⟩, S0z, Iz 0, .slice none 0 0] 25)) := (Below.refl _ wa).alloc leZ _; have hX := hdZ (Blk.new wa 25 #[Iz 0, Iz 0, .string ⟨f.text.toArray⟩, S0z, Iz 0, .slice none 0 0]); have hRb := hdZ (hR0.out.below hbl hR0.out.lt); have hBb := hdZ (hb0.out.trans (hbl.mono hb0.out.size)); have htb := hdZ (ht0.out.below hbl); have hsz : w.heap.size + 1 ≤ wa.heap.size := by have := hs0.out; omega
  have ne1 : wa.heap.size ≠ w.heap.size := by omega
  have ne2 : w.heap.size ≠ wa.heap.size := by omega
  obtain ⟨wb, hwb⟩ := nmZ (wa.alloc (.cells #[Iz 0, Iz 0, .string ⟨f.text.toArray⟩, S0z, Iz 0, .slice none 0 0] 25)); rw [hwb.out] at hX hRb hBb htb ⊢; have hgl : Hid (g ≠ wa.heap.size) := by unfold Hid; have h9 : g < wa.heap.size := World.block_lt_of_cell? wa _ h0; omega
  clear hbl hwb h0 h1 h2 ht0 hR0 hb0
  have hkk : (¬ i + 2 < m ∧ decide (((i + 2 : Nat) : Int) < (m : Int)) = false) ∨ (∃ kd : Int, i + 2 < m ∧ decide (((i + 2 : Nat) : Int) < (m : Int)) = true ∧ ((i + 2 : Nat) : Int) < (m : Int) ∧ (kd == 3) = false ∧ wb.cell? ⟨g, off + (i + 2) * 3, none⟩ = some (Iz kd)) := by
   rcases hk3 with h | ⟨t, ht, hk⟩
   ·exact .inl ⟨by omega, by simp; omega⟩
   ·have hk2 : i + 2 < m := by have := (List.getElem?_eq_some_iff.1 ht).1; have := hm.out; omega
    exact .inr ⟨t.kind, hk2, by simp; omega, by omega, by simp [hk], (htb.out.at_ ht).1⟩
  have k0 : (0 : Int) ≤ ((i + 2 : Nat) : Int) := by omega
  rcases hkk with ⟨z1, z2⟩ | ⟨kd, z1, z2, z3, z4, z5⟩
  ·refine (rsz _ m c l wb (i + 1) [60, 61] hm htb).mono ?_
   rintro x w1 ⟨rfl, rfl⟩; rw [q6.out]; go_wp2_with fail; refine (rsz _ m c l wb (i + 1) [62, 61] hm htb).mono ?_; rintro x w1 ⟨rfl, rfl⟩; rw [q7.out]; go_wp2_with fail; refine (rsz _ m c l wb (i + 1) [126] hm htb).mono ?_; rintro x w1 ⟨rfl, rfl⟩; rw [q8.out]; go_wp2_with fail; refine (rpaper_any _ m c l wb (i + 2) hm htb).mono ?_; rintro x wp ⟨rfl, hbp⟩; rw [qp.out]; have hX := hdZ (hX.out.below hbp hX.out.lt); have hRb := hdZ (hRb.out.below hbp hRb.out.lt); have hBb := hdZ (hBb.out.trans (hbp.mono hBb.out.size)); have htb := hdZ (htb.out.below hbp); have hgp : wa.heap.size < wp.heap.size := hX.out.lt; clear hbp; go_wp2_with fail; obtain ⟨pl, hpl⟩ := nmZ (plz e l (i + 2)); refine (rwz _ m c l wp e (i + 2) hm htb).mono ?_; rintro x wz ⟨rfl, hbz⟩; rw [hpl.out]; have hB := hdZ (hBb.out.trans (hbz.mono hBb.out.size)); have hR := hdZ (hRb.out.below hbz hRb.out.lt); clear hbz; unfold gotE; obtain ⟨rc0, rc1, rc2, rc3, rc4, rc5, rc6, rc7, rc8, rf0, rf1, rf2, rf3, rf4, rf5, rf6, rf7, rf8⟩ := cf9 hR.out; have rlt := hR.out.lt; go_wp2_with fail; refine bodyPost_ret (rrz rfl _ _ w.heap.size 65 _ _ rfl (st9z (hR.out)) Tryz.underlying65 rfl (by kernel_rfl)) rfl ?_; exact ⟨(sc9z (hB.out)), by rw [hpl.out]; rfl⟩
  ·refine (rsz _ m c l wb (i + 1) [60, 61] hm htb).mono ?_
   rintro x w1 ⟨rfl, rfl⟩; rw [q6.out]; go_wp2_with fail; refine (rsz _ m c l wb (i + 1) [62, 61] hm htb).mono ?_; rintro x w1 ⟨rfl, rfl⟩; rw [q7.out]; go_wp2_with fail; refine (rsz _ m c l wb (i + 1) [126] hm htb).mono ?_; rintro x w1 ⟨rfl, rfl⟩; rw [q8.out]; go_wp2_with fail; refine (rpaper_any _ m c l wb (i + 2) hm htb).mono ?_; rintro x wp ⟨rfl, hbp⟩; rw [qp.out]; have hX := hdZ (hX.out.below hbp hX.out.lt); have hRb := hdZ (hRb.out.below hbp hRb.out.lt); have hBb := hdZ (hBb.out.trans (hbp.mono hBb.out.size)); have htb := hdZ (htb.out.below hbp); have hgp : wa.heap.size < wp.heap.size := hX.out.lt; clear hbp; go_wp2_with fail; obtain ⟨pl, hpl⟩ := nmZ (plz e l (i + 2)); refine (rwz _ m c l wp e (i + 2) hm htb).mono ?_; rintro x wz ⟨rfl, hbz⟩; rw [hpl.out]; have hB := hdZ (hBb.out.trans (hbz.mono hBb.out.size)); have hR := hdZ (hRb.out.below hbz hRb.out.lt); clear hbz; unfold gotE; obtain ⟨rc0, rc1, rc2, rc3, rc4, rc5, rc6, rc7, rc8, rf0, rf1, rf2, rf3, rf4, rf5, rf6, rf7, rf8⟩ := cf9 hR.out; have rlt := hR.out.lt; go_wp2_with fail; refine bodyPost_ret (rrz rfl _ _ w.heap.size 65 _ _ rfl (st9z (hR.out)) Tryz.underlying65 rfl (by kernel_rfl)) rfl ?_; exact ⟨(sc9z (hB.out)), by rw [hpl.out]; rfl⟩
theorem ratom_dot_no (A : Option Addr) (m c e : Nat) (l : List Tok) (hm : Hid (l.length = m)) (hm4 : m ≤ 4096) (w : World) (i : Nat) (_hi : i ≤ m) (htk : Hid (TokAt w 0 A l)) (q1 : Hid (atI (isT [40]) l i = false)) (qn : Hid (atI (isT [110, 111, 116]) l i = false) ∨ Hid (atI (isT [110, 111, 116]) l i = true) ∧ Hid (atI cmpT l (i + 1) = true)) (hok : Hid (TokOk l)) (f : Tok) (hf : Hid (l[i]? = some f)) (_hi2 : i + 2 ≤ m) (q4 : Hid (atI nameT l i = true)) (q5 : Hid (atI cmpT l (i + 1) = true)) (q6 : Hid (atI (isT [60, 61]) l (i + 1) = false)) (q7 : Hid (atI (isT [62, 61]) l (i + 1) = false)) (hk3 : ∃ t, l[i + 2]? = some t ∧ t.kind ≠ 3) (q8 : Hid (atI (isT [126]) l (i + 1) = false)) (pv : Int) (qp : Hid (papI l (i + 2) = pv)) (hpv : ¬ pv < 0) (hi3 : i + 3 ≤ m) (q9 : Hid (atI (isT [46]) l (i + 3) = false)) :
  Cz 148 #[.slice A m c, Iz i, Iz e] w (fun x w' => Bz w w' ∧ x = .returned (.agg (gotE 2 (plz e l (i + 3))))) := by
 have hb0 : Hid (Bz w (w.alloc (.cells (z2z 0 0 0 none 0 0 0 0 0) 65))) := (Below.refl _ w).alloc leZ _
 have hR0 := hdZ (Blk.new w 65 (z2z 0 0 0 none 0 0 0 0 0))
 have ht0 := hdZ (htk.out.below hb0.out)
 have hs0 : Hid ((w.alloc (.cells (z2z 0 0 0 none 0 0 0 0 0) 65)).heap.size = w.heap.size + 1) := by unfold Hid; simp
 have w1x : IntKind.i64.wrap ((i : Int) + 1) = ((i + 1 : Nat) : Int) := by rw [IntWalk.i64_in _ (by omega)]; omega
 have w2x : IntKind.i64.wrap ((i : Int) + 2) = ((i + 2 : Nat) : Int) := by rw [IntWalk.i64_in _ (by omega)]; omega
 have w3x : IntKind.i64.wrap ((i : Int) + 2 + 1) = ((i + 3 : Nat) : Int) := by rw [IntWalk.i64_in _ (by omega)]; omega
 have w4x : IntKind.i64.wrap ((i : Int) + 2 + 2) = ((i + 4 : Nat) : Int) := by rw [IntWalk.i64_in _ (by omega)]; omega
 have w5x : IntKind.i64.wrap ((i : Int) + 2 + 3) = ((i + 5 : Nat) : Int) := by rw [IntWalk.i64_in _ (by omega)]; omega
 go_enter Tryz.func148, Tryz.ntmps148
 go_wp2_with fail
 obtain ⟨wa, hwa⟩ := nmZ (w.alloc (.cells (z2z 0 0 0 none 0 0 0 0 0) 65))
 change Cz 48 _ (w.alloc (.cells (z2z 0 0 0 none 0 0 0 0 0) 65)) _
 rw [hwa.out] at hb0 hR0 ht0 hs0 ⊢
 clear hwa
 refine (rsz A m c l wa (i) [40] hm ht0).mono ?_
 rintro x w1 ⟨rfl, rfl⟩
 rw [q1.out]
 go_wp2_with fail
 rcases qn with q2 | ⟨q2, q3⟩
 ·refine (rsz A m c l wa (i) [110, 111, 116] hm ht0).mono ?_
  rintro x w1 ⟨rfl, rfl⟩; rw [q2.out]; go_wp2_with fail; have bpv : decide (pv < 0) = false := by simp [hpv]
  have hfm : i < m := by omega
  have im : (i : Int) < (m : Int) := by omega
  have i0 : (0 : Int) ≤ (i : Int) := by omega
  obtain ⟨g, off, rfl, hg, h0, h1, h2⟩ := ht0.out i f hf.out; refine (rnm_any _ m c l wa (i) hm hok ht0).mono ?_; rintro x w1 ⟨rfl, rfl⟩; rw [q4.out]; go_wp2_with fail; refine (rcz _ m c l wa (i + 1) hm ht0).mono ?_; rintro x w1 ⟨rfl, rfl⟩; rw [q5.out]; go_wp2_with fail; have hbl : Bz wa (wa.alloc (.cells #[Iz 0, Iz 0, .string ⟨f.text.toArray⟩, S0z, Iz 0, .slice none 0 0] 25)) := (Below.refl _ wa).alloc leZ _; have hX := hdZ (Blk.new wa 25 #[Iz 0, Iz 0, .string ⟨f.text.toArray⟩, S0z, Iz 0, .slice none 0 0]); have hRb := hdZ (hR0.out.below hbl hR0.out.lt); have hBb := hdZ (hb0.out.trans (hbl.mono hb0.out.size)); have htb := hdZ (ht0.out.below hbl); have hsz : w.heap.size + 1 ≤ wa.heap.size := by have := hs0.out; omega
  have ne1 : wa.heap.size ≠ w.heap.size := by omega
  have ne2 : w.heap.size ≠ wa.heap.size := by omega
  obtain ⟨wb, hwb⟩ := nmZ (wa.alloc (.cells #[Iz 0, Iz 0, .string ⟨f.text.toArray⟩, S0z, Iz 0, .slice none 0 0] 25)); rw [hwb.out] at hX hRb hBb htb ⊢; have hgl : Hid (g ≠ wa.heap.size) := by unfold Hid; have h9 : g < wa.heap.size := World.block_lt_of_cell? wa _ h0; omega
  clear hbl hwb h0 h1 h2 ht0 hR0 hb0
  obtain ⟨kd, z1, z2, z3, z4, z5⟩ : ∃ kd : Int, i + 2 < m ∧ decide (((i + 2 : Nat) : Int) < (m : Int)) = true ∧ ((i + 2 : Nat) : Int) < (m : Int) ∧ (kd == 3) = false ∧ wb.cell? ⟨g, off + (i + 2) * 3, none⟩ = some (Iz kd) := by
   obtain ⟨t, ht, hk⟩ := hk3; have hk2 : i + 2 < m := by have := (List.getElem?_eq_some_iff.1 ht).1; have := hm.out; omega
   exact ⟨t.kind, hk2, by simp; omega, by omega, by simp [hk], (htb.out.at_ ht).1⟩
  have k0 : (0 : Int) ≤ ((i + 2 : Nat) : Int) := by omega
  refine (rsz _ m c l wb (i + 1) [60, 61] hm htb).mono ?_; rintro x w1 ⟨rfl, rfl⟩; rw [q6.out]; go_wp2_with fail; refine (rsz _ m c l wb (i + 1) [62, 61] hm htb).mono ?_; rintro x w1 ⟨rfl, rfl⟩; rw [q7.out]; go_wp2_with fail; refine (rsz _ m c l wb (i + 1) [126] hm htb).mono ?_; rintro x w1 ⟨rfl, rfl⟩; rw [q8.out]; go_wp2_with fail; refine (rpaper_any _ m c l wb (i + 2) hm htb).mono ?_; rintro x wp ⟨rfl, hbp⟩; rw [qp.out]; have hX := hdZ (hX.out.below hbp hX.out.lt); have hRb := hdZ (hRb.out.below hbp hRb.out.lt); have hBb := hdZ (hBb.out.trans (hbp.mono hBb.out.size)); have htb := hdZ (htb.out.below hbp); have hgp : wa.heap.size < wp.heap.size := hX.out.lt; clear hbp; go_wp2_with fail; refine (rsz _ m c l wp (i + 3) [46] hm htb).mono ?_; rintro x w1 ⟨rfl, rfl⟩; rw [q9.out]; go_wp2_with fail; obtain ⟨pl, hpl⟩ := nmZ (plz e l (i + 3)); refine (rwz _ m c l wp e (i + 3) hm htb).mono ?_; rintro x wz ⟨rfl, hbz⟩; rw [hpl.out]; have hB := hdZ (hBb.out.trans (hbz.mono hBb.out.size)); have hR := hdZ (hRb.out.below hbz hRb.out.lt); clear hbz; unfold gotE; obtain ⟨rc0, rc1, rc2, rc3, rc4, rc5, rc6, rc7, rc8, rf0, rf1, rf2, rf3, rf4, rf5, rf6, rf7, rf8⟩ := cf9 hR.out; have rlt := hR.out.lt; go_wp2_with fail; refine bodyPost_ret (rrz rfl _ _ w.heap.size 65 _ _ rfl (st9z (hR.out)) Tryz.underlying65 rfl (by kernel_rfl)) rfl ?_; exact ⟨(sc9z (hB.out)), by rw [hpl.out]; rfl⟩
 ·refine (rsz A m c l wa (i) [110, 111, 116] hm ht0).mono ?_
  rintro x w1 ⟨rfl, rfl⟩; rw [q2.out]; go_wp2_with fail; refine (rcz A m c l wa (i + 1) hm ht0).mono ?_; rintro x w1 ⟨rfl, rfl⟩; rw [q3.out]; go_wp2_with fail; have bpv : decide (pv < 0) = false := by simp [hpv]
  have hfm : i < m := by omega
  have im : (i : Int) < (m : Int) := by omega
  have i0 : (0 : Int) ≤ (i : Int) := by omega
  obtain ⟨g, off, rfl, hg, h0, h1, h2⟩ := ht0.out i f hf.out; refine (rnm_any _ m c l wa (i) hm hok ht0).mono ?_; rintro x w1 ⟨rfl, rfl⟩; rw [q4.out]; go_wp2_with fail; refine (rcz _ m c l wa (i + 1) hm ht0).mono ?_; rintro x w1 ⟨rfl, rfl⟩; rw [q5.out]; go_wp2_with fail; have hbl : Bz wa (wa.alloc (.cells #[Iz 0, Iz 0, .string ⟨f.text.toArray⟩, S0z, Iz 0, .slice none 0 0] 25)) := (Below.refl _ wa).alloc leZ _; have hX := hdZ (Blk.new wa 25 #[Iz 0, Iz 0, .string ⟨f.text.toArray⟩, S0z, Iz 0, .slice none 0 0]); have hRb := hdZ (hR0.out.below hbl hR0.out.lt); have hBb := hdZ (hb0.out.trans (hbl.mono hb0.out.size)); have htb := hdZ (ht0.out.below hbl); have hsz : w.heap.size + 1 ≤ wa.heap.size := by have := hs0.out; omega
  have ne1 : wa.heap.size ≠ w.heap.size := by omega
  have ne2 : w.heap.size ≠ wa.heap.size := by omega
  obtain ⟨wb, hwb⟩ := nmZ (wa.alloc (.cells #[Iz 0, Iz 0, .string ⟨f.text.toArray⟩, S0z, Iz 0, .slice none 0 0] 25)); rw [hwb.out] at hX hRb hBb htb ⊢; have hgl : Hid (g ≠ wa.heap.size) := by unfold Hid; have h9 : g < wa.heap.size := World.block_lt_of_cell? wa _ h0; omega
  clear hbl hwb h0 h1 h2 ht0 hR0 hb0
  obtain ⟨kd, z1, z2, z3, z4, z5⟩ : ∃ kd : Int, i + 2 < m ∧ decide (((i + 2 : Nat) : Int) < (m : Int)) = true ∧ ((i + 2 : Nat) : Int) < (m : Int) ∧ (kd == 3) = false ∧ wb.cell? ⟨g, off + (i + 2) * 3, none⟩ = some (Iz kd) := by
   obtain ⟨t, ht, hk⟩ := hk3; have hk2 : i + 2 < m := by have := (List.getElem?_eq_some_iff.1 ht).1; have := hm.out; omega
   exact ⟨t.kind, hk2, by simp; omega, by omega, by simp [hk], (htb.out.at_ ht).1⟩
  have k0 : (0 : Int) ≤ ((i + 2 : Nat) : Int) := by omega
  refine (rsz _ m c l wb (i + 1) [60, 61] hm htb).mono ?_; rintro x w1 ⟨rfl, rfl⟩; rw [q6.out]; go_wp2_with fail; refine (rsz _ m c l wb (i + 1) [62, 61] hm htb).mono ?_; rintro x w1 ⟨rfl, rfl⟩; rw [q7.out]; go_wp2_with fail; refine (rsz _ m c l wb (i + 1) [126] hm htb).mono ?_; rintro x w1 ⟨rfl, rfl⟩; rw [q8.out]; go_wp2_with fail; refine (rpaper_any _ m c l wb (i + 2) hm htb).mono ?_; rintro x wp ⟨rfl, hbp⟩; rw [qp.out]; have hX := hdZ (hX.out.below hbp hX.out.lt); have hRb := hdZ (hRb.out.below hbp hRb.out.lt); have hBb := hdZ (hBb.out.trans (hbp.mono hBb.out.size)); have htb := hdZ (htb.out.below hbp); have hgp : wa.heap.size < wp.heap.size := hX.out.lt; clear hbp; go_wp2_with fail; refine (rsz _ m c l wp (i + 3) [46] hm htb).mono ?_; rintro x w1 ⟨rfl, rfl⟩; rw [q9.out]; go_wp2_with fail; obtain ⟨pl, hpl⟩ := nmZ (plz e l (i + 3)); refine (rwz _ m c l wp e (i + 3) hm htb).mono ?_; rintro x wz ⟨rfl, hbz⟩; rw [hpl.out]; have hB := hdZ (hBb.out.trans (hbz.mono hBb.out.size)); have hR := hdZ (hRb.out.below hbz hRb.out.lt); clear hbz; unfold gotE; obtain ⟨rc0, rc1, rc2, rc3, rc4, rc5, rc6, rc7, rc8, rf0, rf1, rf2, rf3, rf4, rf5, rf6, rf7, rf8⟩ := cf9 hR.out; have rlt := hR.out.lt; go_wp2_with fail; refine bodyPost_ret (rrz rfl _ _ w.heap.size 65 _ _ rfl (st9z (hR.out)) Tryz.underlying65 rfl (by kernel_rfl)) rfl ?_; exact ⟨(sc9z (hB.out)), by rw [hpl.out]; rfl⟩
theorem ratom_like_no (A : Option Addr) (m c e : Nat) (l : List Tok) (hm : Hid (l.length = m)) (hm4 : m ≤ 4096) (w : World) (i : Nat) (_hi : i ≤ m) (htk : Hid (TokAt w 0 A l)) (q1 : Hid (atI (isT [40]) l i = false)) (qn : Hid (atI (isT [110, 111, 116]) l i = false) ∨ Hid (atI (isT [110, 111, 116]) l i = true) ∧ Hid (atI cmpT l (i + 1) = true)) (hok : Hid (TokOk l)) (f : Tok) (hf : Hid (l[i]? = some f)) (_hi2 : i + 2 ≤ m) (q4 : Hid (atI nameT l i = true)) (q5 : Hid (atI cmpT l (i + 1) = true)) (q6 : Hid (atI (isT [60, 61]) l (i + 1) = false)) (q7 : Hid (atI (isT [62, 61]) l (i + 1) = false)) (hk3 : ∃ t, l[i + 2]? = some t ∧ t.kind ≠ 3) (q8 : Hid (atI (isT [126]) l (i + 1) = false)) (pv : Int) (qp : Hid (papI l (i + 2) = pv)) (hpv : ¬ pv < 0) (hi4 : i + 4 ≤ m) (q9 : Hid (atI (isT [46]) l (i + 3) = true)) (q10 : Hid (atI nameT l (i + 4) = false)) :
  Cz 148 #[.slice A m c, Iz i, Iz e] w (fun x w' => Bz w w' ∧ x = .returned (.agg (gotE 2 (plz e l (i + 4))))) := by
 have hb0 : Hid (Bz w (w.alloc (.cells (z2z 0 0 0 none 0 0 0 0 0) 65))) := (Below.refl _ w).alloc leZ _
 have hR0 := hdZ (Blk.new w 65 (z2z 0 0 0 none 0 0 0 0 0))
 have ht0 := hdZ (htk.out.below hb0.out)
 have hs0 : Hid ((w.alloc (.cells (z2z 0 0 0 none 0 0 0 0 0) 65)).heap.size = w.heap.size + 1) := by unfold Hid; simp
 have w1x : IntKind.i64.wrap ((i : Int) + 1) = ((i + 1 : Nat) : Int) := by rw [IntWalk.i64_in _ (by omega)]; omega
 have w2x : IntKind.i64.wrap ((i : Int) + 2) = ((i + 2 : Nat) : Int) := by rw [IntWalk.i64_in _ (by omega)]; omega
 have w3x : IntKind.i64.wrap ((i : Int) + 2 + 1) = ((i + 3 : Nat) : Int) := by rw [IntWalk.i64_in _ (by omega)]; omega
 have w4x : IntKind.i64.wrap ((i : Int) + 2 + 2) = ((i + 4 : Nat) : Int) := by rw [IntWalk.i64_in _ (by omega)]; omega
 have w5x : IntKind.i64.wrap ((i : Int) + 2 + 3) = ((i + 5 : Nat) : Int) := by rw [IntWalk.i64_in _ (by omega)]; omega
 go_enter Tryz.func148, Tryz.ntmps148
 go_wp2_with fail
 obtain ⟨wa, hwa⟩ := nmZ (w.alloc (.cells (z2z 0 0 0 none 0 0 0 0 0) 65))
 change Cz 48 _ (w.alloc (.cells (z2z 0 0 0 none 0 0 0 0 0) 65)) _
 rw [hwa.out] at hb0 hR0 ht0 hs0 ⊢
 clear hwa
 refine (rsz A m c l wa (i) [40] hm ht0).mono ?_
 rintro x w1 ⟨rfl, rfl⟩
 rw [q1.out]
 go_wp2_with fail
 rcases qn with q2 | ⟨q2, q3⟩
 ·refine (rsz A m c l wa (i) [110, 111, 116] hm ht0).mono ?_
  rintro x w1 ⟨rfl, rfl⟩; rw [q2.out]; go_wp2_with fail; have bpv : decide (pv < 0) = false := by simp [hpv]
  have hfm : i < m := by omega
  have im : (i : Int) < (m : Int) := by omega
  have i0 : (0 : Int) ≤ (i : Int) := by omega
  obtain ⟨g, off, rfl, hg, h0, h1, h2⟩ := ht0.out i f hf.out; refine (rnm_any _ m c l wa (i) hm hok ht0).mono ?_; rintro x w1 ⟨rfl, rfl⟩; rw [q4.out]; go_wp2_with fail; refine (rcz _ m c l wa (i + 1) hm ht0).mono ?_; rintro x w1 ⟨rfl, rfl⟩; rw [q5.out]; go_wp2_with fail; have hbl : Bz wa (wa.alloc (.cells #[Iz 0, Iz 0, .string ⟨f.text.toArray⟩, S0z, Iz 0, .slice none 0 0] 25)) := (Below.refl _ wa).alloc leZ _; have hX := hdZ (Blk.new wa 25 #[Iz 0, Iz 0, .string ⟨f.text.toArray⟩, S0z, Iz 0, .slice none 0 0]); have hRb := hdZ (hR0.out.below hbl hR0.out.lt); have hBb := hdZ (hb0.out.trans (hbl.mono hb0.out.size)); have htb := hdZ (ht0.out.below hbl); have hsz : w.heap.size + 1 ≤ wa.heap.size := by have := hs0.out; omega
  have ne1 : wa.heap.size ≠ w.heap.size := by omega
  have ne2 : w.heap.size ≠ wa.heap.size := by omega
  obtain ⟨wb, hwb⟩ := nmZ (wa.alloc (.cells #[Iz 0, Iz 0, .string ⟨f.text.toArray⟩, S0z, Iz 0, .slice none 0 0] 25)); rw [hwb.out] at hX hRb hBb htb ⊢; have hgl : Hid (g ≠ wa.heap.size) := by unfold Hid; have h9 : g < wa.heap.size := World.block_lt_of_cell? wa _ h0; omega
  clear hbl hwb h0 h1 h2 ht0 hR0 hb0
  obtain ⟨kd, z1, z2, z3, z4, z5⟩ : ∃ kd : Int, i + 2 < m ∧ decide (((i + 2 : Nat) : Int) < (m : Int)) = true ∧ ((i + 2 : Nat) : Int) < (m : Int) ∧ (kd == 3) = false ∧ wb.cell? ⟨g, off + (i + 2) * 3, none⟩ = some (Iz kd) := by
   obtain ⟨t, ht, hk⟩ := hk3; have hk2 : i + 2 < m := by have := (List.getElem?_eq_some_iff.1 ht).1; have := hm.out; omega
   exact ⟨t.kind, hk2, by simp; omega, by omega, by simp [hk], (htb.out.at_ ht).1⟩
  have k0 : (0 : Int) ≤ ((i + 2 : Nat) : Int) := by omega
  refine (rsz _ m c l wb (i + 1) [60, 61] hm htb).mono ?_; rintro x w1 ⟨rfl, rfl⟩; rw [q6.out]; go_wp2_with fail; refine (rsz _ m c l wb (i + 1) [62, 61] hm htb).mono ?_; rintro x w1 ⟨rfl, rfl⟩; rw [q7.out]; go_wp2_with fail; refine (rsz _ m c l wb (i + 1) [126] hm htb).mono ?_; rintro x w1 ⟨rfl, rfl⟩; rw [q8.out]; go_wp2_with fail; refine (rpaper_any _ m c l wb (i + 2) hm htb).mono ?_; rintro x wp ⟨rfl, hbp⟩; rw [qp.out]; have hX := hdZ (hX.out.below hbp hX.out.lt); have hRb := hdZ (hRb.out.below hbp hRb.out.lt); have hBb := hdZ (hBb.out.trans (hbp.mono hBb.out.size)); have htb := hdZ (htb.out.below hbp); have hgp : wa.heap.size < wp.heap.size := hX.out.lt; clear hbp; go_wp2_with fail; refine (rsz _ m c l wp (i + 3) [46] hm htb).mono ?_; rintro x w1 ⟨rfl, rfl⟩; rw [q9.out]; go_wp2_with fail; refine (rnm_any _ m c l wp (i + 4) hm hok htb).mono ?_; rintro x w1 ⟨rfl, rfl⟩; rw [q10.out]; go_wp2_with fail; obtain ⟨pl, hpl⟩ := nmZ (plz e l (i + 4)); refine (rwz _ m c l wp e (i + 4) hm htb).mono ?_; rintro x wz ⟨rfl, hbz⟩; rw [hpl.out]; have hB := hdZ (hBb.out.trans (hbz.mono hBb.out.size)); have hR := hdZ (hRb.out.below hbz hRb.out.lt); clear hbz; unfold gotE; obtain ⟨rc0, rc1, rc2, rc3, rc4, rc5, rc6, rc7, rc8, rf0, rf1, rf2, rf3, rf4, rf5, rf6, rf7, rf8⟩ := cf9 hR.out; have rlt := hR.out.lt; go_wp2_with fail; refine bodyPost_ret (rrz rfl _ _ w.heap.size 65 _ _ rfl (st9z (hR.out)) Tryz.underlying65 rfl (by kernel_rfl)) rfl ?_; exact ⟨(sc9z (hB.out)), by rw [hpl.out]; rfl⟩
 ·refine (rsz A m c l wa (i) [110, 111, 116] hm ht0).mono ?_
  rintro x w1 ⟨rfl, rfl⟩; rw [q2.out]; go_wp2_with fail; refine (rcz A m c l wa (i + 1) hm ht0).mono ?_; rintro x w1 ⟨rfl, rfl⟩; rw [q3.out]; go_wp2_with fail; have bpv : decide (pv < 0) = false := by simp [hpv]
  have hfm : i < m := by omega
  have im : (i : Int) < (m : Int) := by omega
  have i0 : (0 : Int) ≤ (i : Int) := by omega
  obtain ⟨g, off, rfl, hg, h0, h1, h2⟩ := ht0.out i f hf.out; refine (rnm_any _ m c l wa (i) hm hok ht0).mono ?_; rintro x w1 ⟨rfl, rfl⟩; rw [q4.out]; go_wp2_with fail; refine (rcz _ m c l wa (i + 1) hm ht0).mono ?_; rintro x w1 ⟨rfl, rfl⟩; rw [q5.out]; go_wp2_with fail; have hbl : Bz wa (wa.alloc (.cells #[Iz 0, Iz 0, .string ⟨f.text.toArray⟩, S0z, Iz 0, .slice none 0 0] 25)) := (Below.refl _ wa).alloc leZ _; have hX := hdZ (Blk.new wa 25 #[Iz 0, Iz 0, .string ⟨f.text.toArray⟩, S0z, Iz 0, .slice none 0 0]); have hRb := hdZ (hR0.out.below hbl hR0.out.lt); have hBb := hdZ (hb0.out.trans (hbl.mono hb0.out.size)); have htb := hdZ (ht0.out.below hbl); have hsz : w.heap.size + 1 ≤ wa.heap.size := by have := hs0.out; omega
  have ne1 : wa.heap.size ≠ w.heap.size := by omega
  have ne2 : w.heap.size ≠ wa.heap.size := by omega
  obtain ⟨wb, hwb⟩ := nmZ (wa.alloc (.cells #[Iz 0, Iz 0, .string ⟨f.text.toArray⟩, S0z, Iz 0, .slice none 0 0] 25)); rw [hwb.out] at hX hRb hBb htb ⊢; have hgl : Hid (g ≠ wa.heap.size) := by unfold Hid; have h9 : g < wa.heap.size := World.block_lt_of_cell? wa _ h0; omega
  clear hbl hwb h0 h1 h2 ht0 hR0 hb0
  obtain ⟨kd, z1, z2, z3, z4, z5⟩ : ∃ kd : Int, i + 2 < m ∧ decide (((i + 2 : Nat) : Int) < (m : Int)) = true ∧ ((i + 2 : Nat) : Int) < (m : Int) ∧ (kd == 3) = false ∧ wb.cell? ⟨g, off + (i + 2) * 3, none⟩ = some (Iz kd) := by
   obtain ⟨t, ht, hk⟩ := hk3; have hk2 : i + 2 < m := by have := (List.getElem?_eq_some_iff.1 ht).1; have := hm.out; omega
   exact ⟨t.kind, hk2, by simp; omega, by omega, by simp [hk], (htb.out.at_ ht).1⟩
  have k0 : (0 : Int) ≤ ((i + 2 : Nat) : Int) := by omega
  refine (rsz _ m c l wb (i + 1) [60, 61] hm htb).mono ?_; rintro x w1 ⟨rfl, rfl⟩; rw [q6.out]; go_wp2_with fail; refine (rsz _ m c l wb (i + 1) [62, 61] hm htb).mono ?_; rintro x w1 ⟨rfl, rfl⟩; rw [q7.out]; go_wp2_with fail; refine (rsz _ m c l wb (i + 1) [126] hm htb).mono ?_; rintro x w1 ⟨rfl, rfl⟩; rw [q8.out]; go_wp2_with fail; refine (rpaper_any _ m c l wb (i + 2) hm htb).mono ?_; rintro x wp ⟨rfl, hbp⟩; rw [qp.out]; have hX := hdZ (hX.out.below hbp hX.out.lt); have hRb := hdZ (hRb.out.below hbp hRb.out.lt); have hBb := hdZ (hBb.out.trans (hbp.mono hBb.out.size)); have htb := hdZ (htb.out.below hbp); have hgp : wa.heap.size < wp.heap.size := hX.out.lt; clear hbp; go_wp2_with fail; refine (rsz _ m c l wp (i + 3) [46] hm htb).mono ?_; rintro x w1 ⟨rfl, rfl⟩; rw [q9.out]; go_wp2_with fail; refine (rnm_any _ m c l wp (i + 4) hm hok htb).mono ?_; rintro x w1 ⟨rfl, rfl⟩; rw [q10.out]; go_wp2_with fail; obtain ⟨pl, hpl⟩ := nmZ (plz e l (i + 4)); refine (rwz _ m c l wp e (i + 4) hm htb).mono ?_; rintro x wz ⟨rfl, hbz⟩; rw [hpl.out]; have hB := hdZ (hBb.out.trans (hbz.mono hBb.out.size)); have hR := hdZ (hRb.out.below hbz hRb.out.lt); clear hbz; unfold gotE; obtain ⟨rc0, rc1, rc2, rc3, rc4, rc5, rc6, rc7, rc8, rf0, rf1, rf2, rf3, rf4, rf5, rf6, rf7, rf8⟩ := cf9 hR.out; have rlt := hR.out.lt; go_wp2_with fail; refine bodyPost_ret (rrz rfl _ _ w.heap.size 65 _ _ rfl (st9z (hR.out)) Tryz.underlying65 rfl (by kernel_rfl)) rfl ?_; exact ⟨(sc9z (hB.out)), by rw [hpl.out]; rfl⟩
theorem ratom_like_ok (A : Option Addr) (m c e : Nat) (l : List Tok) (hm : Hid (l.length = m)) (hm4 : m ≤ 4096) (w : World) (i : Nat) (_hi : i ≤ m) (htk : Hid (TokAt w 0 A l)) (q1 : Hid (atI (isT [40]) l i = false)) (qn : Hid (atI (isT [110, 111, 116]) l i = false) ∨ Hid (atI (isT [110, 111, 116]) l i = true) ∧ Hid (atI cmpT l (i + 1) = true)) (hok : Hid (TokOk l)) (f : Tok) (hf : Hid (l[i]? = some f)) (_hi2 : i + 2 ≤ m) (q4 : Hid (atI nameT l i = true)) (q5 : Hid (atI cmpT l (i + 1) = true)) (q6 : Hid (atI (isT [60, 61]) l (i + 1) = false)) (q7 : Hid (atI (isT [62, 61]) l (i + 1) = false)) (hk3 : ∃ t, l[i + 2]? = some t ∧ t.kind ≠ 3) (q8 : Hid (atI (isT [126]) l (i + 1) = false)) (pv : Int) (qp : Hid (papI l (i + 2) = pv)) (hpv : ¬ pv < 0) (hi5 : i + 5 ≤ m) (q9 : Hid (atI (isT [46]) l (i + 3) = true)) (q10 : Hid (atI nameT l (i + 4) = true)) (y : Tok) (hy : Hid (l[i + 4]? = some y)) :
  Cz 148 #[.slice A m c, Iz i, Iz e] w (fun x w' => Bz w w' ∧ ∃ T9, x = .returned (.agg (gotV T9 (i + 5))) ∧ TAz w' (fun b => w.heap.size ≤ b) T9 ∧ stz T9 = (.mk 7 pv f.text y.text 0 [])) := by
 have hb0 : Hid (Bz w (w.alloc (.cells (z2z 0 0 0 none 0 0 0 0 0) 65))) := (Below.refl _ w).alloc leZ _
 have hR0 := hdZ (Blk.new w 65 (z2z 0 0 0 none 0 0 0 0 0))
 have ht0 := hdZ (htk.out.below hb0.out)
 have hs0 : Hid ((w.alloc (.cells (z2z 0 0 0 none 0 0 0 0 0) 65)).heap.size = w.heap.size + 1) := by unfold Hid; simp
 have w1x : IntKind.i64.wrap ((i : Int) + 1) = ((i + 1 : Nat) : Int) := by rw [IntWalk.i64_in _ (by omega)]; omega
 have w2x : IntKind.i64.wrap ((i : Int) + 2) = ((i + 2 : Nat) : Int) := by rw [IntWalk.i64_in _ (by omega)]; omega
 have w3x : IntKind.i64.wrap ((i : Int) + 2 + 1) = ((i + 3 : Nat) : Int) := by rw [IntWalk.i64_in _ (by omega)]; omega
 have w4x : IntKind.i64.wrap ((i : Int) + 2 + 2) = ((i + 4 : Nat) : Int) := by rw [IntWalk.i64_in _ (by omega)]; omega
 have w5x : IntKind.i64.wrap ((i : Int) + 2 + 3) = ((i + 5 : Nat) : Int) := by rw [IntWalk.i64_in _ (by omega)]; omega
 go_enter Tryz.func148, Tryz.ntmps148
 go_wp2_with fail
 obtain ⟨wa, hwa⟩ := nmZ (w.alloc (.cells (z2z 0 0 0 none 0 0 0 0 0) 65))
 change Cz 48 _ (w.alloc (.cells (z2z 0 0 0 none 0 0 0 0 0) 65)) _
 rw [hwa.out] at hb0 hR0 ht0 hs0 ⊢
 clear hwa
 refine (rsz A m c l wa (i) [40] hm ht0).mono ?_
 rintro x w1 ⟨rfl, rfl⟩
 rw [q1.out]
 go_wp2_with fail
 rcases qn with q2 | ⟨q2, q3⟩
 ·refine (rsz A m c l wa (i) [110, 111, 116] hm ht0).mono ?_
  rintro x w1 ⟨rfl, rfl⟩; rw [q2.out]; go_wp2_with fail; have bpv : decide (pv < 0) = false := by simp [hpv]
  have hfm : i < m := by omega
  have im : (i : Int) < (m : Int) := by omega
  have i0 : (0 : Int) ≤ (i : Int) := by omega
  obtain ⟨g, off, rfl, hg, h0, h1, h2⟩ := ht0.out i f hf.out; refine (rnm_any _ m c l wa (i) hm hok ht0).mono ?_; rintro x w1 ⟨rfl, rfl⟩; rw [q4.out]; go_wp2_with fail; refine (rcz _ m c l wa (i + 1) hm ht0).mono ?_; rintro x w1 ⟨rfl, rfl⟩; rw [q5.out]; go_wp2_with fail; have hbl : Bz wa (wa.alloc (.cells #[Iz 0, Iz 0, .string ⟨f.text.toArray⟩, S0z, Iz 0, .slice none 0 0] 25)) := (Below.refl _ wa).alloc leZ _; have hX := hdZ (Blk.new wa 25 #[Iz 0, Iz 0, .string ⟨f.text.toArray⟩, S0z, Iz 0, .slice none 0 0]); have hRb := hdZ (hR0.out.below hbl hR0.out.lt); have hBb := hdZ (hb0.out.trans (hbl.mono hb0.out.size)); have htb := hdZ (ht0.out.below hbl); have hsz : w.heap.size + 1 ≤ wa.heap.size := by have := hs0.out; omega
  have ne1 : wa.heap.size ≠ w.heap.size := by omega
  have ne2 : w.heap.size ≠ wa.heap.size := by omega
  obtain ⟨wb, hwb⟩ := nmZ (wa.alloc (.cells #[Iz 0, Iz 0, .string ⟨f.text.toArray⟩, S0z, Iz 0, .slice none 0 0] 25)); rw [hwb.out] at hX hRb hBb htb ⊢; have hgl : Hid (g ≠ wa.heap.size) := by unfold Hid; have h9 : g < wa.heap.size := World.block_lt_of_cell? wa _ h0; omega
  clear hbl hwb h0 h1 h2 ht0 hR0 hb0
  obtain ⟨kd, z1, z2, z3, z4, z5⟩ : ∃ kd : Int, i + 2 < m ∧ decide (((i + 2 : Nat) : Int) < (m : Int)) = true ∧ ((i + 2 : Nat) : Int) < (m : Int) ∧ (kd == 3) = false ∧ wb.cell? ⟨g, off + (i + 2) * 3, none⟩ = some (Iz kd) := by
   obtain ⟨t, ht, hk⟩ := hk3; have hk2 : i + 2 < m := by have := (List.getElem?_eq_some_iff.1 ht).1; have := hm.out; omega
   exact ⟨t.kind, hk2, by simp; omega, by omega, by simp [hk], (htb.out.at_ ht).1⟩
  have k0 : (0 : Int) ≤ ((i + 2 : Nat) : Int) := by omega
  refine (rsz _ m c l wb (i + 1) [60, 61] hm htb).mono ?_; rintro x w1 ⟨rfl, rfl⟩; rw [q6.out]; go_wp2_with fail; refine (rsz _ m c l wb (i + 1) [62, 61] hm htb).mono ?_; rintro x w1 ⟨rfl, rfl⟩; rw [q7.out]; go_wp2_with fail; refine (rsz _ m c l wb (i + 1) [126] hm htb).mono ?_; rintro x w1 ⟨rfl, rfl⟩; rw [q8.out]; go_wp2_with fail; refine (rpaper_any _ m c l wb (i + 2) hm htb).mono ?_; rintro x wp ⟨rfl, hbp⟩; rw [qp.out]; have hX := hdZ (hX.out.below hbp hX.out.lt); have hRb := hdZ (hRb.out.below hbp hRb.out.lt); have hBb := hdZ (hBb.out.trans (hbp.mono hBb.out.size)); have htb := hdZ (htb.out.below hbp); have hgp : wa.heap.size < wp.heap.size := hX.out.lt; clear hbp; go_wp2_with fail; refine (rsz _ m c l wp (i + 3) [46] hm htb).mono ?_; rintro x w1 ⟨rfl, rfl⟩; rw [q9.out]; go_wp2_with fail; refine (rnm_any _ m c l wp (i + 4) hm hok htb).mono ?_; rintro x w1 ⟨rfl, rfl⟩; rw [q10.out]; have xc0 : wp.cell? (Az wa.heap.size 0) = some (Iz 0) := hX.out.cell 0; have xf0 := hX.out.frozen 0; have xlt := hX.out.lt; go_wp2_with fail; clear xc0 xf0 xlt; have hX := hdZ (hX.out.set_ 0 (Iz 7)); have hRb := hdZ (hRb.out.far (p := (Az wa.heap.size 0)) ne2 (Iz 7)); have hBb : Hid (Bz w (wp.setCell (Az wa.heap.size 0) (Iz 7))) := hBb.out.setCell (p := (Az wa.heap.size 0)) (by show w.heap.size ≤ wa.heap.size; omega) _; have htb : Hid (TokAt (wp.setCell (Az wa.heap.size 0) (Iz 7)) 0 (some (Az g off)) l) := tok_far htb.out hgl.out; obtain ⟨wq, hnxt⟩ := nmZ ((wp.setCell (Az wa.heap.size 0) (Iz 7))); change Cz 98 _ (wp.setCell (Az wa.heap.size 0) (Iz 7)) _; rw [hnxt.out] at hX hRb hBb htb ⊢; clear hnxt; refine (rpaper_any _ m c l wq (i + 2) hm htb).mono ?_; rintro x wr ⟨rfl, hbp⟩; rw [qp.out]; have hX := hdZ (hX.out.below hbp hX.out.lt); have hRb := hdZ (hRb.out.below hbp hRb.out.lt); have hBb := hdZ (hBb.out.trans (hbp.mono hBb.out.size)); have htb := hdZ (htb.out.below hbp); have hgp : wa.heap.size < wr.heap.size := hX.out.lt; clear hbp; obtain ⟨y0, y2⟩ := htb.out.at_ hy.out; have ym : ((i + 4 : Nat) : Int) < (m : Int) := by omega
  have yk0 : (0 : Int) ≤ ((i + 4 : Nat) : Int) := by omega
  obtain ⟨xc0, xc1, xc2, xc3, xc4, xc5, xf0, xf1, xf2, xf3, xf4, xf5⟩ := cf6 hX.out; have xlt := hX.out.lt; obtain ⟨rc0, rc1, rc2, rc3, rc4, rc5, rc6, rc7, rc8, rf0, rf1, rf2, rf3, rf4, rf5, rf6, rf7, rf8⟩ := cf9 hRb.out; have rlt := hRb.out.lt; go_wp2_with fail; refine bodyPost_ret (rrz rfl _ _ w.heap.size 65 _ _ rfl (st9z (((hRb.out.far (p := (Az wa.heap.size 1)) ne2 _).far (p := (Az wa.heap.size 3)) ne2 _))) Tryz.underlying65 rfl (by kernel_rfl)) rfl ?_; refine ⟨(sc9z (((hBb.out.setCell (p := (Az wa.heap.size 1)) (by show w.heap.size ≤ wa.heap.size; omega) _).setCell (p := (Az wa.heap.size 3)) (by show w.heap.size ≤ wa.heap.size; omega) _))), .mk 7 pv f.text y.text 0 none 0 [], by simp [gotV], tlz _ _ _ _ _ _ _ _ _, by rw [slz]; try rfl⟩
 ·refine (rsz A m c l wa (i) [110, 111, 116] hm ht0).mono ?_
  rintro x w1 ⟨rfl, rfl⟩; rw [q2.out]; go_wp2_with fail; refine (rcz A m c l wa (i + 1) hm ht0).mono ?_; rintro x w1 ⟨rfl, rfl⟩; rw [q3.out]; go_wp2_with fail; have bpv : decide (pv < 0) = false := by simp [hpv]
  have hfm : i < m := by omega
  have im : (i : Int) < (m : Int) := by omega
  have i0 : (0 : Int) ≤ (i : Int) := by omega
  obtain ⟨g, off, rfl, hg, h0, h1, h2⟩ := ht0.out i f hf.out; refine (rnm_any _ m c l wa (i) hm hok ht0).mono ?_; rintro x w1 ⟨rfl, rfl⟩; rw [q4.out]; go_wp2_with fail; refine (rcz _ m c l wa (i + 1) hm ht0).mono ?_; rintro x w1 ⟨rfl, rfl⟩; rw [q5.out]; go_wp2_with fail; have hbl : Bz wa (wa.alloc (.cells #[Iz 0, Iz 0, .string ⟨f.text.toArray⟩, S0z, Iz 0, .slice none 0 0] 25)) := (Below.refl _ wa).alloc leZ _; have hX := hdZ (Blk.new wa 25 #[Iz 0, Iz 0, .string ⟨f.text.toArray⟩, S0z, Iz 0, .slice none 0 0]); have hRb := hdZ (hR0.out.below hbl hR0.out.lt); have hBb := hdZ (hb0.out.trans (hbl.mono hb0.out.size)); have htb := hdZ (ht0.out.below hbl); have hsz : w.heap.size + 1 ≤ wa.heap.size := by have := hs0.out; omega
  have ne1 : wa.heap.size ≠ w.heap.size := by omega
  have ne2 : w.heap.size ≠ wa.heap.size := by omega
  obtain ⟨wb, hwb⟩ := nmZ (wa.alloc (.cells #[Iz 0, Iz 0, .string ⟨f.text.toArray⟩, S0z, Iz 0, .slice none 0 0] 25)); rw [hwb.out] at hX hRb hBb htb ⊢; have hgl : Hid (g ≠ wa.heap.size) := by unfold Hid; have h9 : g < wa.heap.size := World.block_lt_of_cell? wa _ h0; omega
  clear hbl hwb h0 h1 h2 ht0 hR0 hb0
  obtain ⟨kd, z1, z2, z3, z4, z5⟩ : ∃ kd : Int, i + 2 < m ∧ decide (((i + 2 : Nat) : Int) < (m : Int)) = true ∧ ((i + 2 : Nat) : Int) < (m : Int) ∧ (kd == 3) = false ∧ wb.cell? ⟨g, off + (i + 2) * 3, none⟩ = some (Iz kd) := by
   obtain ⟨t, ht, hk⟩ := hk3; have hk2 : i + 2 < m := by have := (List.getElem?_eq_some_iff.1 ht).1; have := hm.out; omega
   exact ⟨t.kind, hk2, by simp; omega, by omega, by simp [hk], (htb.out.at_ ht).1⟩
  have k0 : (0 : Int) ≤ ((i + 2 : Nat) : Int) := by omega
  refine (rsz _ m c l wb (i + 1) [60, 61] hm htb).mono ?_; rintro x w1 ⟨rfl, rfl⟩; rw [q6.out]; go_wp2_with fail; refine (rsz _ m c l wb (i + 1) [62, 61] hm htb).mono ?_; rintro x w1 ⟨rfl, rfl⟩; rw [q7.out]; go_wp2_with fail; refine (rsz _ m c l wb (i + 1) [126] hm htb).mono ?_; rintro x w1 ⟨rfl, rfl⟩; rw [q8.out]; go_wp2_with fail; refine (rpaper_any _ m c l wb (i + 2) hm htb).mono ?_; rintro x wp ⟨rfl, hbp⟩; rw [qp.out]; have hX := hdZ (hX.out.below hbp hX.out.lt); have hRb := hdZ (hRb.out.below hbp hRb.out.lt); have hBb := hdZ (hBb.out.trans (hbp.mono hBb.out.size)); have htb := hdZ (htb.out.below hbp); have hgp : wa.heap.size < wp.heap.size := hX.out.lt; clear hbp; go_wp2_with fail; refine (rsz _ m c l wp (i + 3) [46] hm htb).mono ?_; rintro x w1 ⟨rfl, rfl⟩; rw [q9.out]; go_wp2_with fail; refine (rnm_any _ m c l wp (i + 4) hm hok htb).mono ?_; rintro x w1 ⟨rfl, rfl⟩; rw [q10.out]; have xc0 : wp.cell? (Az wa.heap.size 0) = some (Iz 0) := hX.out.cell 0; have xf0 := hX.out.frozen 0; have xlt := hX.out.lt; go_wp2_with fail; clear xc0 xf0 xlt; have hX := hdZ (hX.out.set_ 0 (Iz 7)); have hRb := hdZ (hRb.out.far (p := (Az wa.heap.size 0)) ne2 (Iz 7)); have hBb : Hid (Bz w (wp.setCell (Az wa.heap.size 0) (Iz 7))) := hBb.out.setCell (p := (Az wa.heap.size 0)) (by show w.heap.size ≤ wa.heap.size; omega) _; have htb : Hid (TokAt (wp.setCell (Az wa.heap.size 0) (Iz 7)) 0 (some (Az g off)) l) := tok_far htb.out hgl.out; obtain ⟨wq, hnxt⟩ := nmZ ((wp.setCell (Az wa.heap.size 0) (Iz 7))); change Cz 98 _ (wp.setCell (Az wa.heap.size 0) (Iz 7)) _; rw [hnxt.out] at hX hRb hBb htb ⊢; clear hnxt; refine (rpaper_any _ m c l wq (i + 2) hm htb).mono ?_; rintro x wr ⟨rfl, hbp⟩; rw [qp.out]; have hX := hdZ (hX.out.below hbp hX.out.lt); have hRb := hdZ (hRb.out.below hbp hRb.out.lt); have hBb := hdZ (hBb.out.trans (hbp.mono hBb.out.size)); have htb := hdZ (htb.out.below hbp); have hgp : wa.heap.size < wr.heap.size := hX.out.lt; clear hbp; obtain ⟨y0, y2⟩ := htb.out.at_ hy.out; have ym : ((i + 4 : Nat) : Int) < (m : Int) := by omega
  have yk0 : (0 : Int) ≤ ((i + 4 : Nat) : Int) := by omega
  obtain ⟨xc0, xc1, xc2, xc3, xc4, xc5, xf0, xf1, xf2, xf3, xf4, xf5⟩ := cf6 hX.out; have xlt := hX.out.lt; obtain ⟨rc0, rc1, rc2, rc3, rc4, rc5, rc6, rc7, rc8, rf0, rf1, rf2, rf3, rf4, rf5, rf6, rf7, rf8⟩ := cf9 hRb.out; have rlt := hRb.out.lt; go_wp2_with fail; refine bodyPost_ret (rrz rfl _ _ w.heap.size 65 _ _ rfl (st9z (((hRb.out.far (p := (Az wa.heap.size 1)) ne2 _).far (p := (Az wa.heap.size 3)) ne2 _))) Tryz.underlying65 rfl (by kernel_rfl)) rfl ?_; refine ⟨(sc9z (((hBb.out.setCell (p := (Az wa.heap.size 1)) (by show w.heap.size ≤ wa.heap.size; omega) _).setCell (p := (Az wa.heap.size 3)) (by show w.heap.size ≤ wa.heap.size; omega) _))), .mk 7 pv f.text y.text 0 none 0 [], by simp [gotV], tlz _ _ _ _ _ _ _ _ _, by rw [slz]; try rfl⟩
end Go.Proofs.YtjkmhlfjheiekaaGreatDoor

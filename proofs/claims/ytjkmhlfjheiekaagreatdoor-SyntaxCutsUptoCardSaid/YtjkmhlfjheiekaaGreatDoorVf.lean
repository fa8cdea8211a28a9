import Derived.Test.YtjkmhlfjheiekaaGreatDoorVe
set_option maxRecDepth 1000000
set_option maxHeartbeats 51200000
namespace Go.Proofs.YtjkmhlfjheiekaaGreatDoor
open Go Go.RowKit Go.BigFrame Go.Maps
theorem ratom_no_name (A : Option Addr) (m c e : Nat) (l : List Tok) (hm : Hid (l.length = m)) (hm4 : m ≤ 4096) (w : World) (i : Nat) (hi : i ≤ m) (htk : Hid (TokAt w 0 A l)) (q1 : Hid (atI (isT [40]) l i = false)) (qn : Hid (atI (isT [110, 111, 116]) l i = false) ∨ Hid (atI (isT [110, 111, 116]) l i = true) ∧ Hid (atI cmpT l (i + 1) = true)) (hok : Hid (TokOk l)) (q4 : Hid (atI nameT l i = false)) :
  Cz 148 #[.slice A m c, Iz i, Iz e] w (fun x w' => Bz w w' ∧ x = .returned (.agg (gotE 2 (plz e l i)))) := by
 have hb0 : Hid (Bz w (w.alloc (.cells (z2z 0 0 0 none 0 0 0 0 0) 65))) := (Below.refl _ w).alloc leZ _
 have hR0 := hdZ (Blk.new w 65 (z2z 0 0 0 none 0 0 0 0 0))
 have ht0 := hdZ (htk.out.below hb0.out)
 have hs0 : Hid ((w.alloc (.cells (z2z 0 0 0 none 0 0 0 0 0) 65)).heap.size = w.heap.size + 1) := by unfold Hid; simp
 have w1x : IntKind.i64.wrap ((i : Int) + 1) = ((i + 1 : Nat) : Int) := by rw [IntWalk.i64_in _ (by omega)]; omega
 have w2x : IntKind.i64.wrap ((i : Int) + 2) = ((i + 2 : Nat) : Int) := by rw [IntWalk.i64_in _ (by omega)]; omega
 go_enter Tryz.func148, Tryz.ntmps148
 go_wp2_with fail
 obtain ⟨wa, hwa⟩ := nmZ (w.alloc (.cells (z2z 0 0 0 none 0 0 0 0 0) 65))
 change Cz 48 _ (w.alloc (.cells (z2z 0 0 0 none 0 0 0 0 0) 65)) _
 rw [hwa.out] at hb0 hR0 ht0 hs0 ⊢
 clear hwa
 refine (rsz A m c l wa (i) [40] hm ht0).mono ?_
 rintro x w1 ⟨rfl, rfl⟩
 rw [q1.out]
 go_wp2_with fail
 rcases qn with q2 | ⟨q2, q3⟩
 ·refine (rsz A m c l wa (i) [110, 111, 116] hm ht0).mono ?_
  rintro x w1 ⟨rfl, rfl⟩; rw [q2.out]; go_wp2_with fail; refine (rnm_any A m c l wa (i) hm hok ht0).mono ?_; rintro x w1 ⟨rfl, rfl⟩; rw [q4.out]; go_wp2_with fail; obtain ⟨pl, hpl⟩ := nmZ (plz e l (i)); refine (rwz A m c l wa e (i) hm ht0).mono ?_; rintro x wz ⟨rfl, hbz⟩; rw [hpl.out]; have hB := hdZ (hb0.out.trans (hbz.mono hb0.out.size)); have hR := hdZ (hR0.out.below hbz hR0.out.lt); clear hbz; unfold gotE; obtain ⟨rc0, rc1, rc2, rc3, rc4, rc5, rc6, rc7, rc8, rf0, rf1, rf2, rf3, rf4, rf5, rf6, rf7, rf8⟩ := cf9 hR.out; have rlt := hR.out.lt; go_wp2_with fail; refine bodyPost_ret (rrz rfl _ _ w.heap.size 65 _ _ rfl (st9z (hR.out)) Tryz.underlying65 rfl (by kernel_rfl)) rfl ?_; exact ⟨(sc9z (hB.out)), by rw [hpl.out]; rfl⟩
 ·refine (rsz A m c l wa (i) [110, 111, 116] hm ht0).mono ?_
  rintro x w1 ⟨rfl, rfl⟩; rw [q2.out]; go_wp2_with fail; refine (rcz A m c l wa (i + 1) hm ht0).mono ?_; rintro x w1 ⟨rfl, rfl⟩; rw [q3.out]; go_wp2_with fail; refine (rnm_any A m c l wa (i) hm hok ht0).mono ?_; rintro x w1 ⟨rfl, rfl⟩; rw [q4.out]; go_wp2_with fail; obtain ⟨pl, hpl⟩ := nmZ (plz e l (i)); refine (rwz A m c l wa e (i) hm ht0).mono ?_; rintro x wz ⟨rfl, hbz⟩; rw [hpl.out]; have hB := hdZ (hb0.out.trans (hbz.mono hb0.out.size)); have hR := hdZ (hR0.out.below hbz hR0.out.lt); clear hbz; unfold gotE; obtain ⟨rc0, rc1, rc2, rc3, rc4, rc5, rc6, rc7, rc8, rf0, rf1, rf2, rf3, rf4, rf5, rf6, rf7, rf8⟩ := cf9 hR.out; have rlt := hR.out.lt; go_wp2_with fail; refine bodyPost_ret (rrz rfl _ _ w.heap.size 65 _ _ rfl (st9z (hR.out)) Tryz.underlying65 rfl (by kernel_rfl)) rfl ?_; exact ⟨(sc9z (hB.out)), by rw [hpl.out]; rfl⟩
theorem ratom_no_cmp (A : Option Addr) (m c e : Nat) (l : List Tok) (hm : Hid (l.length = m)) (hm4 : m ≤ 4096) (w : World) (i : Nat) (hi : i ≤ m) (htk : Hid (TokAt w 0 A l)) (q1 : Hid (atI (isT [40]) l i = false)) (qn : Hid (atI (isT [110, 111, 116]) l i = false) ∨ Hid (atI (isT [110, 111, 116]) l i = true) ∧ Hid (atI cmpT l (i + 1) = true)) (hok : Hid (TokOk l)) (q4 : Hid (atI nameT l i = true)) (q5 : Hid (atI cmpT l (i + 1) = false)) :
  Cz 148 #[.slice A m c, Iz i, Iz e] w (fun x w' => Bz w w' ∧ x = .returned (.agg (gotE 2 (plz e l (i + 1))))) := by
 have hb0 : Hid (Bz w (w.alloc (.cells (z2z 0 0 0 none 0 0 0 0 0) 65))) := (Below.refl _ w).alloc leZ _
 have hR0 := hdZ (Blk.new w 65 (z2z 0 0 0 none 0 0 0 0 0))
 have ht0 := hdZ (htk.out.below hb0.out)
 have hs0 : Hid ((w.alloc (.cells (z2z 0 0 0 none 0 0 0 0 0) 65)).heap.size = w.heap.size + 1) := by unfold Hid; simp
 have w1x : IntKind.i64.wrap ((i : Int) + 1) = ((i + 1 : Nat) : Int) := by rw [IntWalk.i64_in _ (by omega)]; omega
 have w2x : IntKind.i64.wrap ((i : Int) + 2) = ((i + 2 : Nat) : Int) := by rw [IntWalk.i64_in _ (by omega)]; omega
 go_enter Tryz.func148, Tryz.ntmps148
 go_wp2_with fail
 obtain ⟨wa, hwa⟩ := nmZ (w.alloc (.cells (z2z 0 0 0 none 0 0 0 0 0) 65))
 change Cz 48 _ (w.alloc (.cells (z2z 0 0 0 none 0 0 0 0 0) 65)) _
 rw [hwa.out] at hb0 hR0 ht0 hs0 ⊢
 clear hwa
 refine (rsz A m c l wa (i) [40] hm ht0).mono ?_
 rintro x w1 ⟨rfl, rfl⟩
 rw [q1.out]
 go_wp2_with fail
 rcases qn with q2 | ⟨q2, q3⟩
 ·refine (rsz A m c l wa (i) [110, 111, 116] hm ht0).mono ?_
  rintro x w1 ⟨rfl, rfl⟩; rw [q2.out]; go_wp2_with fail; refine (rnm_any A m c l wa (i) hm hok ht0).mono ?_; rintro x w1 ⟨rfl, rfl⟩; rw [q4.out]; go_wp2_with fail; refine (rcz A m c l wa (i + 1) hm ht0).mono ?_; rintro x w1 ⟨rfl, rfl⟩; rw [q5.out]; go_wp2_with fail; obtain ⟨pl, hpl⟩ := nmZ (plz e l (i + 1)); refine (rwz A m c l wa e (i + 1) hm ht0).mono ?_; rintro x wz ⟨rfl, hbz⟩; rw [hpl.out]; have hB := hdZ (hb0.out.trans (hbz.mono hb0.out.size)); have hR := hdZ (hR0.out.below hbz hR0.out.lt); clear hbz; unfold gotE; obtain ⟨rc0, rc1, rc2, rc3, rc4, rc5, rc6, rc7, rc8, rf0, rf1, rf2, rf3, rf4, rf5, rf6, rf7, rf8⟩ := cf9 hR.out; have rlt := hR.out.lt; go_wp2_with fail; refine bodyPost_ret (rrz rfl _ _ w.heap.size 65 _ _ rfl (st9z (hR.out)) Tryz.underlying65 rfl (by kernel_rfl)) rfl ?_; exact ⟨(sc9z (hB.out)), by rw [hpl.out]; rfl⟩
 ·refine (rsz A m c l wa (i) [110, 111, 116] hm ht0).mono ?_
  rintro x w1 ⟨rfl, rfl⟩; rw [q2.out]; go_wp2_with fail; refine (rcz A m c l wa (i + 1) hm ht0).mono ?_; rintro x w1 ⟨rfl, rfl⟩; rw [q3.out]; go_wp2_with fail; refine (rnm_any A m c l wa (i) hm hok ht0).mono ?_; rintro x w1 ⟨rfl, rfl⟩; rw [q4.out]; go_wp2_with fail; refine (rcz A m c l wa (i + 1) hm ht0).mono ?_; rintro x w1 ⟨rfl, rfl⟩; rw [q5.out]; go_wp2_with fail; obtain ⟨pl, hpl⟩ := nmZ (plz e l (i + 1)); refine (rwz A m c l wa e (i + 1) hm ht0).mono ?_; rintro x wz ⟨rfl, hbz⟩; rw [hpl.out]; have hB := hdZ (hb0.out.trans (hbz.mono hb0.out.size)); have hR := hdZ (hR0.out.below hbz hR0.out.lt); clear hbz; unfold gotE; obtain ⟨rc0, rc1, rc2, rc3, rc4, rc5, rc6, rc7, rc8, rf0, rf1, rf2, rf3, rf4, rf5, rf6, rf7, rf8⟩ := cf9 hR.out; have rlt := hR.out.lt; go_wp2_with fail; refine bodyPost_ret (rrz rfl _ _ w.heap.size 65 _ _ rfl (st9z (hR.out)) Tryz.underlying65 rfl (by kernel_rfl)) rfl ?_; exact ⟨(sc9z (hB.out)), by rw [hpl.out]; rfl⟩
theorem ratom_num_end (A : Option Addr) (m c e : Nat) (l : List Tok) (hm : Hid (l.length = m)) (hm4 : m ≤ 4096) (w : World) (i : Nat) (_hi : i ≤ m) (htk : Hid (TokAt w 0 A l)) (q1 : Hid (atI (isT [40]) l i = false)) (qn : Hid (atI (isT [110, 111, 116]) l i = false) ∨ Hid (atI (isT [110, 111, 116]) l i = true) ∧ Hid (atI cmpT l (i + 1) = true)) (hok : Hid (TokOk l)) (f : Tok) (hf : Hid (l[i]? = some f)) (hi2 : i + 2 ≤ m) (q4 : Hid (atI nameT l i = true)) (q5 : Hid (atI cmpT l (i + 1) = true)) (ble bge : Bool) (q6 : Hid (atI (isT [60, 61]) l (i + 1) = ble)) (q7 : Hid (atI (isT [62, 61]) l (i + 1) = bge)) (hb : ble = true ∨ bge = true) (hend : m ≤ i + 2) :
  Cz 148 #[.slice A m c, Iz i, Iz e] w (fun x w' => Bz w w' ∧ x = .returned (.agg (gotE 2 (plz e l (i + 2))))) := by
 have hb0 : Hid (Bz w (w.alloc (.cells (z2z 0 0 0 none 0 0 0 0 0) 65))) := (Below.refl _ w).alloc leZ _
 have hR0 := hdZ (Blk.new w 65 (z2z 0 0 0 none 0 0 0 0 0))
 have ht0 := hdZ (htk.out.below hb0.out)
 have hs0 : Hid ((w.alloc (.cells (z2z 0 0 0 none 0 0 0 0 0) 65)).heap.size = w.heap.size + 1) := by unfold Hid; simp
 have w1x : IntKind.i64.wrap ((i : Int) + 1) = ((i + 1 : Nat) : Int) := by rw [IntWalk.i64_in _ (by omega)]; omega
 have w2x : IntKind.i64.wrap ((i : Int) + 2) = ((i + 2 : Nat) : Int) := by rw [IntWalk.i64_in _ (by omega)]; omega
 go_enter Tryz.func148, Tryz.ntmps148
 go_wp2_with fail
 obtain ⟨wa, hwa⟩ := nmZ (w.alloc (.cells (z2z 0 0 0 none 0 0 0 0 0) 65))
 change Cz 48 _ (w.alloc (.cells (z2z 0 0 0 none 0 0 0 0 0) 65)) _
 rw [hwa.out] at hb0 hR0 ht0 hs0 ⊢
 clear hwa
 refine (rsz A m c l wa (i) [40] hm ht0).mono ?_
 rintro x w1 ⟨rfl, rfl⟩
 rw [q1.out]
 go_wp2_with fail
 rcases qn with q2 | ⟨q2, q3⟩
 ·refine (rsz A m c l wa (i) [110, 111, 116] hm ht0).mono ?_
  rintro x w1 ⟨rfl, rfl⟩; rw [q2.out]; go_wp2_with fail; have hfm : i < m := by omega
  have im : (i : Int) < (m : Int) := by omega
  have i0 : (0 : Int) ≤ (i : Int) := by omega
  obtain ⟨g, off, rfl, hg, h0, h1, h2⟩ := ht0.out i f hf.out; refine (rnm_any _ m c l wa (i) hm hok ht0).mono ?_; rintro x w1 ⟨rfl, rfl⟩; rw [q4.out]; go_wp2_with fail; refine (rcz _ m c l wa (i + 1) hm ht0).mono ?_; rintro x w1 ⟨rfl, rfl⟩; rw [q5.out]; go_wp2_with fail; have hbl : Bz wa (wa.alloc (.cells #[Iz 0, Iz 0, .string ⟨f.text.toArray⟩, S0z, Iz 0, .slice none 0 0] 25)) := (Below.refl _ wa).alloc leZ _; have hX := hdZ (Blk.new wa 25 #[Iz 0, Iz 0, .string ⟨f.text.toArray⟩, S0z, Iz 0, .slice none 0 0]); have hRb := hdZ (hR0.out.below hbl hR0.out.lt); have hBb := hdZ (hb0.out.trans (hbl.mono hb0.out.size)); have htb := hdZ (ht0.out.below hbl); have hsz : w.heap.size + 1 ≤ wa.heap.size := by have := hs0.out; omega
  have ne1 : wa.heap.size ≠ w.heap.size := by omega
  have ne2 : w.heap.size ≠ wa.heap.size := by omega
  obtain ⟨wb, hwb⟩ := nmZ (wa.alloc (.cells #[Iz 0, Iz 0, .string ⟨f.text.toArray⟩, S0z, Iz 0, .slice none 0 0] 25)); rw [hwb.out] at hX hRb hBb htb ⊢; clear hbl hwb h0 h1 h2 ht0 hR0 hb0; have bk : decide ((m : Int) ≤ ((i + 2 : Nat) : Int)) = true := by simp; omega
  have bk2 : decide (((i + 2 : Nat) : Int) < (m : Int)) = false := by simp; omega
  cases ble with
  | true =>
   refine (rsz _ m c l wb (i + 1) [60, 61] hm htb).mono ?_; rintro x w1 ⟨rfl, rfl⟩; rw [q6.out]; go_wp2_with fail; obtain ⟨pl, hpl⟩ := nmZ (plz e l (i + 2)); refine (rwz _ m c l wb e (i + 2) hm htb).mono ?_; rintro x wz ⟨rfl, hbz⟩; rw [hpl.out]; have hB := hdZ (hBb.out.trans (hbz.mono hBb.out.size)); have hR := hdZ (hRb.out.below hbz hRb.out.lt); clear hbz; unfold gotE; obtain ⟨rc0, rc1, rc2, rc3, rc4, rc5, rc6, rc7, rc8, rf0, rf1, rf2, rf3, rf4, rf5, rf6, rf7, rf8⟩ := cf9 hR.out; have rlt := hR.out.lt; go_wp2_with fail; refine bodyPost_ret (rrz rfl _ _ w.heap.size 65 _ _ rfl (st9z (hR.out)) Tryz.underlying65 rfl (by kernel_rfl)) rfl ?_; exact ⟨(sc9z (hB.out)), by rw [hpl.out]; rfl⟩
  | false =>
   have hbg : bge = true := by rcases hb with h | h <;> simp_all
   refine (rsz _ m c l wb (i + 1) [60, 61] hm htb).mono ?_; rintro x w1 ⟨rfl, rfl⟩; rw [q6.out]; go_wp2_with fail; subst hbg; refine (rsz _ m c l wb (i + 1) [62, 61] hm htb).mono ?_; rintro x w1 ⟨rfl, rfl⟩; rw [q7.out]; go_wp2_with fail; obtain ⟨pl, hpl⟩ := nmZ (plz e l (i + 2)); refine (rwz _ m c l wb e (i + 2) hm htb).mono ?_; rintro x wz ⟨rfl, hbz⟩; rw [hpl.out]; have hB := hdZ (hBb.out.trans (hbz.mono hBb.out.size)); have hR := hdZ (hRb.out.below hbz hRb.out.lt); clear hbz; unfold gotE; obtain ⟨rc0, rc1, rc2, rc3, rc4, rc5, rc6, rc7, rc8, rf0, rf1, rf2, rf3, rf4, rf5, rf6, rf7, rf8⟩ := cf9 hR.out; have rlt := hR.out.lt; go_wp2_with fail; refine bodyPost_ret (rrz rfl _ _ w.heap.size 65 _ _ rfl (st9z (hR.out)) Tryz.underlying65 rfl (by kernel_rfl)) rfl ?_; exact ⟨(sc9z (hB.out)), by rw [hpl.out]; rfl⟩
 ·refine (rsz A m c l wa (i) [110, 111, 116] hm ht0).mono ?_
  rintro x w1 ⟨rfl, rfl⟩; rw [q2.out]; go_wp2_with fail; refine (rcz A m c l wa (i + 1) hm ht0).mono ?_; rintro x w1 ⟨rfl, rfl⟩; rw [q3.out]; go_wp2_with fail; have hfm : i < m := by omega
  have im : (i : Int) < (m : Int) := by omega
  have i0 : (0 : Int) ≤ (i : Int) := by omega
  obtain ⟨g, off, rfl, hg, h0, h1, h2⟩ := ht0.out i f hf.out; refine (rnm_any _ m c l wa (i) hm hok ht0).mono ?_; rintro x w1 ⟨rfl, rfl⟩; rw [q4.out]; go_wp2_with fail; refine (rcz _ m c l wa (i + 1) hm ht0).mono ?_; rintro x w1 ⟨rfl, rfl⟩; rw [q5.out]; go_wp2_with fail; have hbl : Bz wa (wa.alloc (.cells #[Iz 0, Iz 0, .string ⟨f.text.toArray⟩, S0z, Iz 0, .slice none 0 0] 25)) := (Below.refl _ wa).alloc leZ _; have hX := hdZ (Blk.new wa 25 #[Iz 0, Iz 0, .string ⟨f.text.toArray⟩, S0z, Iz 0, .slice none 0 0]); have hRb := hdZ (hR0.out.below hbl hR0.out.lt); have hBb := hdZ (hb0.out.trans (hbl.mono hb0.out.size)); have htb := hdZ (ht0.out.below hbl); have hsz : w.heap.size + 1 ≤ wa.heap.size := by have := hs0.out; omega
  have ne1 : wa.heap.size ≠ w.heap.size := by omega
  have ne2 : w.heap.size ≠ wa.heap.size := by omega
  obtain ⟨wb, hwb⟩ := nmZ (wa.alloc (.cells #[Iz 0, Iz 0, .string ⟨f.text.toArray⟩, S0z, Iz 0, .slice none 0 0] 25)); rw [hwb.out] at hX hRb hBb htb ⊢; clear hbl hwb h0 h1 h2 ht0 hR0 hb0; have bk : decide ((m : Int) ≤ ((i + 2 : Nat) : Int)) = true := by simp; omega
  have bk2 : decide (((i + 2 : Nat) : Int) < (m : Int)) = false := by simp; omega
  cases ble with
  | true =>
   refine (rsz _ m c l wb (i + 1) [60, 61] hm htb).mono ?_; rintro x w1 ⟨rfl, rfl⟩; rw [q6.out]; go_wp2_with fail; obtain ⟨pl, hpl⟩ := nmZ (plz e l (i + 2)); refine (rwz _ m c l wb e (i + 2) hm htb).mono ?_; rintro x wz ⟨rfl, hbz⟩; rw [hpl.out]; have hB := hdZ (hBb.out.trans (hbz.mono hBb.out.size)); have hR := hdZ (hRb.out.below hbz hRb.out.lt); clear hbz; unfold gotE; obtain ⟨rc0, rc1, rc2, rc3, rc4, rc5, rc6, rc7, rc8, rf0, rf1, rf2, rf3, rf4, rf5, rf6, rf7, rf8⟩ := cf9 hR.out; have rlt := hR.out.lt; go_wp2_with fail; refine bodyPost_ret (rrz rfl _ _ w.heap.size 65 _ _ rfl (st9z (hR.out)) Tryz.underlying65 rfl (by kernel_rfl)) rfl ?_; exact ⟨(sc9z (hB.out)), by rw [hpl.out]; rfl⟩
  | false =>
   have hbg : bge = true := by rcases hb with h | h <;> simp_all
   refine (rsz _ m c l wb (i + 1) [60, 61] hm htb).mono ?_; rintro x w1 ⟨rfl, rfl⟩; rw [q6.out]; go_wp2_with fail; subst hbg; refine (rsz _ m c l wb (i + 1) [62, 61] hm htb).mono ?_; rintro x w1 ⟨rfl, rfl⟩; rw [q7.out]; go_wp2_with fail; obtain ⟨pl, hpl⟩ := nmZ (plz e l (i + 2)); refine (rwz _ m c l wb e (i + 2) hm htb).mono ?_; rintro x wz ⟨rfl, hbz⟩; rw [hpl.out]; have hB := hdZ (hBb.out.trans (hbz.mono hBb.out.size)); have hR := hdZ (hRb.out.below hbz hRb.out.lt); clear hbz; unfold gotE; obtain ⟨rc0, rc1, rc2, rc3, rc4, rc5, rc6, rc7, rc8, rf0, rf1, rf2, rf3, rf4, rf5, rf6, rf7, rf8⟩ := cf9 hR.out; have rlt := hR.out.lt; go_wp2_with fail; refine bodyPost_ret (rrz rfl _ _ w.heap.size 65 _ _ rfl (st9z (hR.out)) Tryz.underlying65 rfl (by kernel_rfl)) rfl ?_; exact ⟨(sc9z (hB.out)), by rw [hpl.out]; rfl⟩
theorem ratom_num_no (A : Option Addr) (m c e : Nat) (l : List Tok) (hm : Hid (l.length = m)) (hm4 : m ≤ 4096) (w : World) (i : Nat) (_hi : i ≤ m) (htk : Hid (TokAt w 0 A l)) (q1 : Hid (atI (isT [40]) l i = false)) (qn : Hid (atI (isT [110, 111, 116]) l i = false) ∨ Hid (atI (isT [110, 111, 116]) l i = true) ∧ Hid (atI cmpT l (i + 1) = true)) (hok : Hid (TokOk l)) (f : Tok) (hf : Hid (l[i]? = some f)) (hi2 : i + 2 ≤ m) (q4 : Hid (atI nameT l i = true)) (q5 : Hid (atI cmpT l (i + 1) = true)) (ble bge : Bool) (q6 : Hid (atI (isT [60, 61]) l (i + 1) = ble)) (q7 : Hid (atI (isT [62, 61]) l (i + 1) = bge)) (hb : ble = true ∨ bge = true) (t : Tok) (ht : Hid (l[i + 2]? = some t)) (hk : t.kind ≠ 2) :
  Cz 148 #[.slice A m c, Iz i, Iz e] w (fun x w' => Bz w w' ∧ x = .returned (.agg (gotE 2 (plz e l (i + 2))))) := by
 have hb0 : Hid (Bz w (w.alloc (.cells (z2z 0 0 0 none 0 0 0 0 0) 65))) := (Below.refl _ w).alloc leZ _
 have hR0 := hdZ (Blk.new w 65 (z2z 0 0 0 none 0 0 0 0 0))
 have ht0 := hdZ (htk.out.below hb0.out)
 have hs0 : Hid ((w.alloc (.cells (z2z 0 0 0 none 0 0 0 0 0) 65)).heap.size = w.heap.size + 1) := by unfold Hid; simp
 have w1x : IntKind.i64.wrap ((i : Int) + 1) = ((i + 1 : Nat) : Int) := by rw [IntWalk.i64_in _ (by omega)]; omega
 have w2x : IntKind.i64.wrap ((i : Int) + 2) = ((i + 2 : Nat) : Int) := by rw [IntWalk.i64_in _ (by omega)]; omega
 go_enter Tryz.func148, Tryz.ntmps148
 go_wp2_with fail
 obtain ⟨wa, hwa⟩ := nmZ (w.alloc (.cells (z2z 0 0 0 none 0 0 0 0 0) 65))
 change Cz 48 _ (w.alloc (.cells (z2z 0 0 0 none 0 0 0 0 0) 65)) _
 rw [hwa.out] at hb0 hR0 ht0 hs0 ⊢
 clear hwa
 refine (rsz A m c l wa (i) [40] hm ht0).mono ?_
 rintro x w1 ⟨rfl, rfl⟩
 rw [q1.out]
 go_wp2_with fail
 rcases qn with q2 | ⟨q2, q3⟩
 ·refine (rsz A m c l wa (i) [110, 111, 116] hm ht0).mono ?_
  rintro x w1 ⟨rfl, rfl⟩; rw [q2.out]; go_wp2_with fail; have hfm : i < m := by omega
  have im : (i : Int) < (m : Int) := by omega
  have i0 : (0 : Int) ≤ (i : Int) := by omega
  obtain ⟨g, off, rfl, hg, h0, h1, h2⟩ := ht0.out i f hf.out; refine (rnm_any _ m c l wa (i) hm hok ht0).mono ?_; rintro x w1 ⟨rfl, rfl⟩; rw [q4.out]; go_wp2_with fail; refine (rcz _ m c l wa (i + 1) hm ht0).mono ?_; rintro x w1 ⟨rfl, rfl⟩; rw [q5.out]; go_wp2_with fail; have hbl : Bz wa (wa.alloc (.cells #[Iz 0, Iz 0, .string ⟨f.text.toArray⟩, S0z, Iz 0, .slice none 0 0] 25)) := (Below.refl _ wa).alloc leZ _; have hX := hdZ (Blk.new wa 25 #[Iz 0, Iz 0, .string ⟨f.text.toArray⟩, S0z, Iz 0, .slice none 0 0]); have hRb := hdZ (hR0.out.below hbl hR0.out.lt); have hBb := hdZ (hb0.out.trans (hbl.mono hb0.out.size)); have htb := hdZ (ht0.out.below hbl); have hsz : w.heap.size + 1 ≤ wa.heap.size := by have := hs0.out; omega
  have ne1 : wa.heap.size ≠ w.heap.size := by omega
  have ne2 : w.heap.size ≠ wa.heap.size := by omega
  obtain ⟨wb, hwb⟩ := nmZ (wa.alloc (.cells #[Iz 0, Iz 0, .string ⟨f.text.toArray⟩, S0z, Iz 0, .slice none 0 0] 25)); rw [hwb.out] at hX hRb hBb htb ⊢; clear hbl hwb h0 h1 h2 ht0 hR0 hb0; have hk2 : i + 2 < m := by have := (List.getElem?_eq_some_iff.1 ht.out).1; have := hm.out; omega
  have km : ((i + 2 : Nat) : Int) < (m : Int) := by omega
  have k0 : (0 : Int) ≤ ((i + 2 : Nat) : Int) := by omega
  have bk : decide ((m : Int) ≤ ((i + 2 : Nat) : Int)) = false := by simp; omega
  have bk2 : decide (((i + 2 : Nat) : Int) < (m : Int)) = true := by simp; omega
  obtain ⟨c0, c2⟩ := htb.out.at_ ht.out; have bt : (t.kind != 2) = true := by simp [hk]
  cases ble with
  | true =>
   refine (rsz _ m c l wb (i + 1) [60, 61] hm htb).mono ?_; rintro x w1 ⟨rfl, rfl⟩; rw [q6.out]; go_wp2_with fail; obtain ⟨pl, hpl⟩ := nmZ (plz e l (i + 2)); refine (rwz _ m c l wb e (i + 2) hm htb).mono ?_; rintro x wz ⟨rfl, hbz⟩; rw [hpl.out]; have hB := hdZ (hBb.out.trans (hbz.mono hBb.out.size)); have hR := hdZ (hRb.out.below hbz hRb.out.lt); clear hbz; unfold gotE; obtain ⟨rc0, rc1, rc2, rc3, rc4, rc5, rc6, rc7, rc8, rf0, rf1, rf2, rf3, rf4, rf5, rf6, rf7, rf8⟩ := cf9 hR.out; have rlt := hR.out.lt; go_wp2_with fail; refine bodyPost_ret (rrz rfl _ _ w.heap.size 65 _ _ rfl (st9z (hR.out)) Tryz.underlying65 rfl (by kernel_rfl)) rfl ?_; exact ⟨(sc9z (hB.out)), by rw [hpl.out]; rfl⟩
  | false =>
   have hbg : bge = true := by rcases hb with h | h <;> simp_all
   refine (rsz _ m c l wb (i + 1) [60, 61] hm htb).mono ?_; rintro x w1 ⟨rfl, rfl⟩; rw [q6.out]; go_wp2_with fail; subst hbg; refine (rsz _ m c l wb (i + 1) [62, 61] hm htb).mono ?_; rintro x w1 ⟨rfl, rfl⟩; rw [q7.out]; go_wp2_with fail; obtain ⟨pl, hpl⟩ := nmZ (plz e l (i + 2)); refine (rwz _ m c l wb e (i + 2) hm htb).mono ?_; rintro x wz ⟨rfl, hbz⟩; rw [hpl.out]; have hB := hdZ (hBb.out.trans (hbz.mono hBb.out.size)); have hR := hdZ (hRb.out.below hbz hRb.out.lt); clear hbz; unfold gotE; obtain ⟨rc0, rc1, rc2, rc3, rc4, rc5, rc6, rc7, rc8, rf0, rf1, rf2, rf3, rf4, rf5, rf6, rf7, rf8⟩ := cf9 hR.out; have rlt := hR.out.lt; go_wp2_with fail; refine bodyPost_ret (rrz rfl _ _ w.heap.size 65 _ _ rfl (st9z (hR.out)) Tryz.underlying65 rfl (by kernel_rfl)) rfl ?_; exact ⟨(sc9z (hB.out)), by rw [hpl.out]; rfl⟩
 ·refine (rsz A m c l wa (i) [110, 111, 116] hm ht0).mono ?_
  rintro x w1 ⟨rfl, rfl⟩; rw [q2.out]; go_wp2_with fail; refine (rcz A m c l wa (i + 1) hm ht0).mono ?_; rintro x w1 ⟨rfl, rfl⟩; rw [q3.out]; go_wp2_with fail; have hfm : i < m := by omega
  have im : (i : Int) < (m : Int) := by omega
  have i0 : (0 : Int) ≤ (i : Int) := by omega
  obtain ⟨g, off, rfl, hg, h0, h1, h2⟩ := ht0.out i f hf.out; refine (rnm_any _ m c l wa (i) hm hok ht0).mono ?_; rintro x w1 ⟨rfl, rfl⟩; rw [q4.out]; go_wp2_with fail; refine (rcz _ m c l wa (i + 1) hm ht0).mono ?_; rintro x w1 ⟨rfl, rfl⟩; rw [q5.out]; go_wp2_with fail; have hbl : Bz wa (wa.alloc (.cells #[Iz 0, Iz 0, .string ⟨f.text.toArray⟩, S0z, Iz 0, .slice none 0 0] 25)) := (Below.refl _ wa).alloc leZ _; have hX := hdZ (Blk.new wa 25 #[Iz 0, Iz 0, .string ⟨f.text.toArray⟩, S0z, Iz 0, .slice none 0 0]); have hRb := hdZ (hR0.out.below hbl hR0.out.lt); have hBb := hdZ (hb0.out.trans (hbl.mono hb0.out.size)); have htb := hdZ (ht0.out.below hbl); have hsz : w.heap.size + 1 ≤ wa.heap.size := by have := hs0.out; omega
  have ne1 : wa.heap.size ≠ w.heap.size := by omega
  have ne2 : w.heap.size ≠ wa.heap.size := by omega
  obtain ⟨wb, hwb⟩ := nmZ (wa.alloc (.cells #[Iz 0, Iz 0, .string ⟨f.text.toArray⟩, S0z, Iz 0, .slice none 0 0] 25)); rw [hwb.out] at hX hRb hBb htb ⊢; clear hbl hwb h0 h1 h2 ht0 hR0 hb0; have hk2 : i + 2 < m := by have := (List.getElem?_eq_some_iff.1 ht.out).1; have := hm.out; omega
  have km : ((i + 2 : Nat) : Int) < (m : Int) := by omega
  have k0 : (0 : Int) ≤ ((i + 2 : Nat) : Int) := by omega
  have bk : decide ((m : Int) ≤ ((i + 2 : Nat) : Int)) = false := by simp; omega
  have bk2 : decide (((i + 2 : Nat) : Int) < (m : Int)) = true := by simp; omega
  obtain ⟨c0, c2⟩ := htb.out.at_ ht.out; have bt : (t.kind != 2) = true := by simp [hk]
  cases ble with
  | true =>
   refine (rsz _ m c l wb (i + 1) [60, 61] hm htb).mono ?_; rintro x w1 ⟨rfl, rfl⟩; rw [q6.out]; go_wp2_with fail; obtain ⟨pl, hpl⟩ := nmZ (plz e l (i + 2)); refine (rwz _ m c l wb e (i + 2) hm htb).mono ?_; rintro x wz ⟨rfl, hbz⟩; rw [hpl.out]; have hB := hdZ (hBb.out.trans (hbz.mono hBb.out.size)); have hR := hdZ (hRb.out.below hbz hRb.out.lt); clear hbz; unfold gotE; obtain ⟨rc0, rc1, rc2, rc3, rc4, rc5, rc6, rc7, rc8, rf0, rf1, rf2, rf3, rf4, rf5, rf6, rf7, rf8⟩ := cf9 hR.out; have rlt := hR.out.lt; go_wp2_with fail; refine bodyPost_ret (rrz rfl _ _ w.heap.size 65 _ _ rfl (st9z (hR.out)) Tryz.underlying65 rfl (by kernel_rfl)) rfl ?_; exact ⟨(sc9z (hB.out)), by rw [hpl.out]; rfl⟩
  | false =>
   have hbg : bge = true := by rcases hb with h | h <;> simp_all
   refine (rsz _ m c l wb (i + 1) [60, 61] hm htb).mono ?_; rintro x w1 ⟨rfl, rfl⟩; rw [q6.out]; go_wp2_with fail; subst hbg; refine (rsz _ m c l wb (i + 1) [62, 61] hm htb).mono ?_; rintro x w1 ⟨rfl, rfl⟩; rw [q7.out]; go_wp2_with fail; obtain ⟨pl, hpl⟩ := nmZ (plz e l (i + 2)); refine (rwz _ m c l wb e (i + 2) hm htb).mono ?_; rintro x wz ⟨rfl, hbz⟩; rw [hpl.out]; have hB := hdZ (hBb.out.trans (hbz.mono hBb.out.size)); have hR := hdZ (hRb.out.below hbz hRb.out.lt); clear hbz; unfold gotE; obtain ⟨rc0, rc1, rc2, rc3, rc4, rc5, rc6, rc7, rc8, rf0, rf1, rf2, rf3, rf4, rf5, rf6, rf7, rf8⟩ := cf9 hR.out; have rlt := hR.out.lt; go_wp2_with fail; refine bodyPost_ret (rrz rfl _ _ w.heap.size 65 _ _ rfl (st9z (hR.out)) Tryz.underlying65 rfl (by kernel_rfl)) rfl ?_; exact ⟨(sc9z (hB.out)), by rw [hpl.out]; rfl⟩
end Go.Proofs.YtjkmhlfjheiekaaGreatDoor

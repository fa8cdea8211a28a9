import Derived.Test.YtjkmhlfjheiekaaGreatDoorVe
namespace Go.Proofs.YtjkmhlfjheiekaaGreatDoor
open Go Go.RowKit Go.BigFrame Go.Maps
set_option maxRecDepth 100000 in
set_option maxHeartbeats 3200000 in
theorem ratom_no_name (A : Option Addr) (m c e : Nat) (l : List Tok) (hm : Hid (l.length = m)) (hm4 : m ≤ 4096) (w : World) (i : Nat) (hi : i ≤ m) (htk : Hid (TokAt w 0 A l)) (q1 : Hid (atI (isT [40]) l i = false)) (qn : Hid (atI (isT [110, 111, 116]) l i = false) ∨ Hid (atI (isT [110, 111, 116]) l i = true) ∧ Hid (atI cmpT l (i + 1) = true)) (hok : Hid (TokOk l)) (q4 : Hid (atI nameT l i = false)) :
  Calls Tryz.prog 148 #[.slice A m c, .int .i64 i, .int .i64 e] w (fun x w' => Below w.heap.size w w' ∧ x = .returned (.agg (gotE 2 (placeI e l i)))) := by
 have hb0 : Hid (Below w.heap.size w (w.alloc (.cells #[.int .i64 0, .int .i64 0, .string ⟨#[]⟩, .string ⟨#[]⟩, .int .i64 0, .slice none 0 0, .int .i64 0, .int .i64 0, .int .i64 0] 65))) := (Below.refl _ w).alloc le9 _
 have hR0 := hd9 (Blk.new w 65 #[.int .i64 0, .int .i64 0, .string ⟨#[]⟩, .string ⟨#[]⟩, .int .i64 0, .slice none 0 0, .int .i64 0, .int .i64 0, .int .i64 0])
 have ht0 := hd9 (htk.out.below hb0.out)
 have hs0 : Hid ((w.alloc (.cells #[.int .i64 0, .int .i64 0, .string ⟨#[]⟩, .string ⟨#[]⟩, .int .i64 0, .slice none 0 0, .int .i64 0, .int .i64 0, .int .i64 0] 65)).heap.size = w.heap.size + 1) := by unfold Hid; simp
 have w1x : IntKind.i64.wrap ((i : Int) + 1) = ((i + 1 : Nat) : Int) := by rw [IntWalk.i64_in _ (by omega)]; omega
 have w2x : IntKind.i64.wrap ((i : Int) + 2) = ((i + 2 : Nat) : Int) := by rw [IntWalk.i64_in _ (by omega)]; omega
 go_enter Tryz.func148, Tryz.ntmps148
 go_wp2_with fail
 obtain ⟨wa, hwa⟩ : ∃ x, Hid (w.alloc (.cells #[.int .i64 0, .int .i64 0, .string ⟨#[]⟩, .string ⟨#[]⟩, .int .i64 0, .slice none 0 0, .int .i64 0, .int .i64 0, .int .i64 0] 65) = x) := ⟨_, hd9 rfl⟩
 change Calls Tryz.prog 48 _ (w.alloc (.cells #[.int .i64 0, .int .i64 0, .string ⟨#[]⟩, .string ⟨#[]⟩, .int .i64 0, .slice none 0 0, .int .i64 0, .int .i64 0, .int .i64 0] 65)) _
 rw [hwa.out] at hb0 hR0 ht0 hs0 ⊢
 clear hwa
 refine (ris_any A m c l wa (i) [40] hm ht0).mono ?_
 rintro x w1 ⟨rfl, rfl⟩
 rw [q1.out]
 go_wp2_with fail
 rcases qn with q2 | ⟨q2, q3⟩
 ·refine (ris_any A m c l wa (i) [110, 111, 116] hm ht0).mono ?_
  rintro x w1 ⟨rfl, rfl⟩
  rw [q2.out]
  go_wp2_with fail
  refine (rnm_any A m c l wa (i) hm hok ht0).mono ?_
  rintro x w1 ⟨rfl, rfl⟩
  rw [q4.out]
  go_wp2_with fail
  obtain ⟨pl, hpl⟩ : ∃ k, Hid (placeI e l (i) = k) := ⟨_, hd9 rfl⟩
  refine (rwrong_any A m c l wa e (i) hm ht0).mono ?_
  rintro x wz ⟨rfl, hbz⟩
  rw [hpl.out]
  have hB := hd9 (hb0.out.trans (hbz.mono hb0.out.size))
  have hR := hd9 (hR0.out.below hbz hR0.out.lt)
  clear hbz
  unfold gotE
  obtain ⟨rc0, rc1, rc2, rc3, rc4, rc5, rc6, rc7, rc8, rf0, rf1, rf2, rf3, rf4, rf5, rf6, rf7, rf8⟩ := cf9 hR.out
  have rlt := hR.out.lt
  go_wp2_with fail
  refine bodyPost_ret (results_row rfl _ _ w.heap.size 65 _ _ rfl (((((((((hR.out.set_ 0 _).set_ 1 _).set_ 2 _).set_ 3 _).set_ 4 _).set_ 5 _).set_ 6 _).set_ 7 _).set_ 8 _) Tryz.underlying65 rfl (by kernel_rfl)) rfl ?_
  exact ⟨(((((((((hB.out.setCell le9 _).setCell le9 _).setCell le9 _).setCell le9 _).setCell le9 _).setCell le9 _).setCell le9 _).setCell le9 _).setCell le9 _), by rw [hpl.out]; rfl⟩
 ·refine (ris_any A m c l wa (i) [110, 111, 116] hm ht0).mono ?_
  rintro x w1 ⟨rfl, rfl⟩
  rw [q2.out]
  go_wp2_with fail
  refine (rcmp_any A m c l wa (i + 1) hm ht0).mono ?_
  rintro x w1 ⟨rfl, rfl⟩
  rw [q3.out]
  go_wp2_with fail
  refine (rnm_any A m c l wa (i) hm hok ht0).mono ?_
  rintro x w1 ⟨rfl, rfl⟩
  rw [q4.out]
  go_wp2_with fail
  obtain ⟨pl, hpl⟩ : ∃ k, Hid (placeI e l (i) = k) := ⟨_, hd9 rfl⟩
  refine (rwrong_any A m c l wa e (i) hm ht0).mono ?_
  rintro x wz ⟨rfl, hbz⟩
  rw [hpl.out]
  have hB := hd9 (hb0.out.trans (hbz.mono hb0.out.size))
  have hR := hd9 (hR0.out.below hbz hR0.out.lt)
  clear hbz
  unfold gotE
  obtain ⟨rc0, rc1, rc2, rc3, rc4, rc5, rc6, rc7, rc8, rf0, rf1, rf2, rf3, rf4, rf5, rf6, rf7, rf8⟩ := cf9 hR.out
  have rlt := hR.out.lt
  go_wp2_with fail
  refine bodyPost_ret (results_row rfl _ _ w.heap.size 65 _ _ rfl (((((((((hR.out.set_ 0 _).set_ 1 _).set_ 2 _).set_ 3 _).set_ 4 _).set_ 5 _).set_ 6 _).set_ 7 _).set_ 8 _) Tryz.underlying65 rfl (by kernel_rfl)) rfl ?_
  exact ⟨(((((((((hB.out.setCell le9 _).setCell le9 _).setCell le9 _).setCell le9 _).setCell le9 _).setCell le9 _).setCell le9 _).setCell le9 _).setCell le9 _), by rw [hpl.out]; rfl⟩
set_option maxRecDepth 100000 in
set_option maxHeartbeats 3200000 in
theorem ratom_no_cmp (A : Option Addr) (m c e : Nat) (l : List Tok) (hm : Hid (l.length = m)) (hm4 : m ≤ 4096) (w : World) (i : Nat) (hi : i ≤ m) (htk : Hid (TokAt w 0 A l)) (q1 : Hid (atI (isT [40]) l i = false)) (qn : Hid (atI (isT [110, 111, 116]) l i = false) ∨ Hid (atI (isT [110, 111, 116]) l i = true) ∧ Hid (atI cmpT l (i + 1) = true)) (hok : Hid (TokOk l)) (q4 : Hid (atI nameT l i = true)) (q5 : Hid (atI cmpT l (i + 1) = false)) :
  Calls Tryz.prog 148 #[.slice A m c, .int .i64 i, .int .i64 e] w (fun x w' => Below w.heap.size w w' ∧ x = .returned (.agg (gotE 2 (placeI e l (i + 1))))) := by
 have hb0 : Hid (Below w.heap.size w (w.alloc (.cells #[.int .i64 0, .int .i64 0, .string ⟨#[]⟩, .string ⟨#[]⟩, .int .i64 0, .slice none 0 0, .int .i64 0, .int .i64 0, .int .i64 0] 65))) := (Below.refl _ w).alloc le9 _
 have hR0 := hd9 (Blk.new w 65 #[.int .i64 0, .int .i64 0, .string ⟨#[]⟩, .string ⟨#[]⟩, .int .i64 0, .slice none 0 0, .int .i64 0, .int .i64 0, .int .i64 0])
 have ht0 := hd9 (htk.out.below hb0.out)
 have hs0 : Hid ((w.alloc (.cells #[.int .i64 0, .int .i64 0, .string ⟨#[]⟩, .string ⟨#[]⟩, .int .i64 0, .slice none 0 0, .int .i64 0, .int .i64 0, .int .i64 0] 65)).heap.size = w.heap.size + 1) := by unfold Hid; simp
 have w1x : IntKind.i64.wrap ((i : Int) + 1) = ((i + 1 : Nat) : Int) := by rw [IntWalk.i64_in _ (by omega)]; omega
 have w2x : IntKind.i64.wrap ((i : Int) + 2) = ((i + 2 : Nat) : Int) := by rw [IntWalk.i64_in _ (by omega)]; omega
 go_enter Tryz.func148, Tryz.ntmps148
 go_wp2_with fail
 obtain ⟨wa, hwa⟩ : ∃ x, Hid (w.alloc (.cells #[.int .i64 0, .int .i64 0, .string ⟨#[]⟩, .string ⟨#[]⟩, .int .i64 0, .slice none 0 0, .int .i64 0, .int .i64 0, .int .i64 0] 65) = x) := ⟨_, hd9 rfl⟩
 change Calls Tryz.prog 48 _ (w.alloc (.cells #[.int .i64 0, .int .i64 0, .string ⟨#[]⟩, .string ⟨#[]⟩, .int .i64 0, .slice none 0 0, .int .i64 0, .int .i64 0, .int .i64 0] 65)) _
 rw [hwa.out] at hb0 hR0 ht0 hs0 ⊢
 clear hwa
 refine (ris_any A m c l wa (i) [40] hm ht0).mono ?_
 rintro x w1 ⟨rfl, rfl⟩
 rw [q1.out]
 go_wp2_with fail
 rcases qn with q2 | ⟨q2, q3⟩
 ·refine (ris_any A m c l wa (i) [110, 111, 116] hm ht0).mono ?_
  rintro x w1 ⟨rfl, rfl⟩
  rw [q2.out]
  go_wp2_with fail
  refine (rnm_any A m c l wa (i) hm hok ht0).mono ?_
  rintro x w1 ⟨rfl, rfl⟩
  rw [q4.out]
  go_wp2_with fail
  refine (rcmp_any A m c l wa (i + 1) hm ht0).mono ?_
  rintro x w1 ⟨rfl, rfl⟩
  rw [q5.out]
  go_wp2_with fail
  obtain ⟨pl, hpl⟩ : ∃ k, Hid (placeI e l (i + 1) = k) := ⟨_, hd9 rfl⟩
  refine (rwrong_any A m c l wa e (i + 1) hm ht0).mono ?_
  rintro x wz ⟨rfl, hbz⟩
  rw [hpl.out]
  have hB := hd9 (hb0.out.trans (hbz.mono hb0.out.size))
  have hR := hd9 (hR0.out.below hbz hR0.out.lt)
  clear hbz
  unfold gotE
  obtain ⟨rc0, rc1, rc2, rc3, rc4, rc5, rc6, rc7, rc8, rf0, rf1, rf2, rf3, rf4, rf5, rf6, rf7, rf8⟩ := cf9 hR.out
  have rlt := hR.out.lt
  go_wp2_with fail
  refine bodyPost_ret (results_row rfl _ _ w.heap.size 65 _ _ rfl (((((((((hR.out.set_ 0 _).set_ 1 _).set_ 2 _).set_ 3 _).set_ 4 _).set_ 5 _).set_ 6 _).set_ 7 _).set_ 8 _) Tryz.underlying65 rfl (by kernel_rfl)) rfl ?_
  exact ⟨(((((((((hB.out.setCell le9 _).setCell le9 _).setCell le9 _).setCell le9 _).setCell le9 _).setCell le9 _).setCell le9 _).setCell le9 _).setCell le9 _), by rw [hpl.out]; rfl⟩
 ·refine (ris_any A m c l wa (i) [110, 111, 116] hm ht0).mono ?_
  rintro x w1 ⟨rfl, rfl⟩
  rw [q2.out]
  go_wp2_with fail
  refine (rcmp_any A m c l wa (i + 1) hm ht0).mono ?_
  rintro x w1 ⟨rfl, rfl⟩
  rw [q3.out]
  go_wp2_with fail
  refine (rnm_any A m c l wa (i) hm hok ht0).mono ?_
  rintro x w1 ⟨rfl, rfl⟩
  rw [q4.out]
  go_wp2_with fail
  refine (rcmp_any A m c l wa (i + 1) hm ht0).mono ?_
  rintro x w1 ⟨rfl, rfl⟩
  rw [q5.out]
  go_wp2_with fail
  obtain ⟨pl, hpl⟩ : ∃ k, Hid (placeI e l (i + 1) = k) := ⟨_, hd9 rfl⟩
  refine (rwrong_any A m c l wa e (i + 1) hm ht0).mono ?_
  rintro x wz ⟨rfl, hbz⟩
  rw [hpl.out]
  have hB := hd9 (hb0.out.trans (hbz.mono hb0.out.size))
  have hR := hd9 (hR0.out.below hbz hR0.out.lt)
  clear hbz
  unfold gotE
  obtain ⟨rc0, rc1, rc2, rc3, rc4, rc5, rc6, rc7, rc8, rf0, rf1, rf2, rf3, rf4, rf5, rf6, rf7, rf8⟩ := cf9 hR.out
  have rlt := hR.out.lt
  go_wp2_with fail
  refine bodyPost_ret (results_row rfl _ _ w.heap.size 65 _ _ rfl (((((((((hR.out.set_ 0 _).set_ 1 _).set_ 2 _).set_ 3 _).set_ 4 _).set_ 5 _).set_ 6 _).set_ 7 _).set_ 8 _) Tryz.underlying65 rfl (by kernel_rfl)) rfl ?_
  exact ⟨(((((((((hB.out.setCell le9 _).setCell le9 _).setCell le9 _).setCell le9 _).setCell le9 _).setCell le9 _).setCell le9 _).setCell le9 _).setCell le9 _), by rw [hpl.out]; rfl⟩
set_option maxRecDepth 100000 in
set_option maxHeartbeats 3200000 in
theorem ratom_num_end (A : Option Addr) (m c e : Nat) (l : List Tok) (hm : Hid (l.length = m)) (hm4 : m ≤ 4096) (w : World) (i : Nat) (_hi : i ≤ m) (htk : Hid (TokAt w 0 A l)) (q1 : Hid (atI (isT [40]) l i = false)) (qn : Hid (atI (isT [110, 111, 116]) l i = false) ∨ Hid (atI (isT [110, 111, 116]) l i = true) ∧ Hid (atI cmpT l (i + 1) = true)) (hok : Hid (TokOk l)) (f : Tok) (hf : Hid (l[i]? = some f)) (hi2 : i + 2 ≤ m) (q4 : Hid (atI nameT l i = true)) (q5 : Hid (atI cmpT l (i + 1) = true)) (ble bge : Bool) (q6 : Hid (atI (isT [60, 61]) l (i + 1) = ble)) (q7 : Hid (atI (isT [62, 61]) l (i + 1) = bge)) (hb : ble = true ∨ bge = true) (hend : m ≤ i + 2) :
  Calls Tryz.prog 148 #[.slice A m c, .int .i64 i, .int .i64 e] w (fun x w' => Below w.heap.size w w' ∧ x = .returned (.agg (gotE 2 (placeI e l (i + 2))))) := by
 have hb0 : Hid (Below w.heap.size w (w.alloc (.cells #[.int .i64 0, .int .i64 0, .string ⟨#[]⟩, .string ⟨#[]⟩, .int .i64 0, .slice none 0 0, .int .i64 0, .int .i64 0, .int .i64 0] 65))) := (Below.refl _ w).alloc le9 _
 have hR0 := hd9 (Blk.new w 65 #[.int .i64 0, .int .i64 0, .string ⟨#[]⟩, .string ⟨#[]⟩, .int .i64 0, .slice none 0 0, .int .i64 0, .int .i64 0, .int .i64 0])
 have ht0 := hd9 (htk.out.below hb0.out)
 have hs0 : Hid ((w.alloc (.cells #[.int .i64 0, .int .i64 0, .string ⟨#[]⟩, .string ⟨#[]⟩, .int .i64 0, .slice none 0 0, .int .i64 0, .int .i64 0, .int .i64 0] 65)).heap.size = w.heap.size + 1) := by unfold Hid; simp
 have w1x : IntKind.i64.wrap ((i : Int) + 1) = ((i + 1 : Nat) : Int) := by rw [IntWalk.i64_in _ (by omega)]; omega
 have w2x : IntKind.i64.wrap ((i : Int) + 2) = ((i + 2 : Nat) : Int) := by rw [IntWalk.i64_in _ (by omega)]; omega
 go_enter Tryz.func148, Tryz.ntmps148
 go_wp2_with fail
 obtain ⟨wa, hwa⟩ : ∃ x, Hid (w.alloc (.cells #[.int .i64 0, .int .i64 0, .string ⟨#[]⟩, .string ⟨#[]⟩, .int .i64 0, .slice none 0 0, .int .i64 0, .int .i64 0, .int .i64 0] 65) = x) := ⟨_, hd9 rfl⟩
 change Calls Tryz.prog 48 _ (w.alloc (.cells #[.int .i64 0, .int .i64 0, .string ⟨#[]⟩, .string ⟨#[]⟩, .int .i64 0, .slice none 0 0, .int .i64 0, .int .i64 0, .int .i64 0] 65)) _
 rw [hwa.out] at hb0 hR0 ht0 hs0 ⊢
 clear hwa
 refine (ris_any A m c l wa (i) [40] hm ht0).mono ?_
 rintro x w1 ⟨rfl, rfl⟩
 rw [q1.out]
 go_wp2_with fail
 rcases qn with q2 | ⟨q2, q3⟩
 ·refine (ris_any A m c l wa (i) [110, 111, 116] hm ht0).mono ?_
  rintro x w1 ⟨rfl, rfl⟩
  rw [q2.out]
  go_wp2_with fail
  have hfm : i < m := by omega
  have im : (i : Int) < (m : Int) := by omega
  have i0 : (0 : Int) ≤ (i : Int) := by omega
  obtain ⟨g, off, rfl, hg, h0, h1, h2⟩ := ht0.out i f hf.out
  refine (rnm_any _ m c l wa (i) hm hok ht0).mono ?_
  rintro x w1 ⟨rfl, rfl⟩
  rw [q4.out]
  go_wp2_with fail
  refine (rcmp_any _ m c l wa (i + 1) hm ht0).mono ?_
  rintro x w1 ⟨rfl, rfl⟩
  rw [q5.out]
  go_wp2_with fail
  have hbl : Below wa.heap.size wa (wa.alloc (.cells #[.int .i64 0, .int .i64 0, .string ⟨f.text.toArray⟩, .string ⟨#[]⟩, .int .i64 0, .slice none 0 0] 25)) := (Below.refl _ wa).alloc le9 _
  have hX := hd9 (Blk.new wa 25 #[.int .i64 0, .int .i64 0, .string ⟨f.text.toArray⟩, .string ⟨#[]⟩, .int .i64 0, .slice none 0 0])
  have hRb := hd9 (hR0.out.below hbl hR0.out.lt)
  have hBb := hd9 (hb0.out.trans (hbl.mono hb0.out.size))
  have htb := hd9 (ht0.out.below hbl)
  have hsz : w.heap.size + 1 ≤ wa.heap.size := by have := hs0.out; omega
  have ne1 : wa.heap.size ≠ w.heap.size := by omega
  have ne2 : w.heap.size ≠ wa.heap.size := by omega
  obtain ⟨wb, hwb⟩ : ∃ x, Hid (wa.alloc (.cells #[.int .i64 0, .int .i64 0, .string ⟨f.text.toArray⟩, .string ⟨#[]⟩, .int .i64 0, .slice none 0 0] 25) = x) := ⟨_, hd9 rfl⟩
  rw [hwb.out] at hX hRb hBb htb ⊢
  clear hbl hwb h0 h1 h2 ht0 hR0 hb0
  have bk : decide ((m : Int) ≤ ((i + 2 : Nat) : Int)) = true := by simp; omega
  have bk2 : decide (((i + 2 : Nat) : Int) < (m : Int)) = false := by simp; omega
  cases ble with
  | true =>
   refine (ris_any _ m c l wb (i + 1) [60, 61] hm htb).mono ?_
   rintro x w1 ⟨rfl, rfl⟩
   rw [q6.out]
   go_wp2_with fail
   obtain ⟨pl, hpl⟩ : ∃ k, Hid (placeI e l (i + 2) = k) := ⟨_, hd9 rfl⟩
   refine (rwrong_any _ m c l wb e (i + 2) hm htb).mono ?_
   rintro x wz ⟨rfl, hbz⟩
   rw [hpl.out]
   have hB := hd9 (hBb.out.trans (hbz.mono hBb.out.size))
   have hR := hd9 (hRb.out.below hbz hRb.out.lt)
   clear hbz
   unfold gotE
   obtain ⟨rc0, rc1, rc2, rc3, rc4, rc5, rc6, rc7, rc8, rf0, rf1, rf2, rf3, rf4, rf5, rf6, rf7, rf8⟩ := cf9 hR.out
   have rlt := hR.out.lt
   go_wp2_with fail
   refine bodyPost_ret (results_row rfl _ _ w.heap.size 65 _ _ rfl (((((((((hR.out.set_ 0 _).set_ 1 _).set_ 2 _).set_ 3 _).set_ 4 _).set_ 5 _).set_ 6 _).set_ 7 _).set_ 8 _) Tryz.underlying65 rfl (by kernel_rfl)) rfl ?_
   exact ⟨(((((((((hB.out.setCell le9 _).setCell le9 _).setCell le9 _).setCell le9 _).setCell le9 _).setCell le9 _).setCell le9 _).setCell le9 _).setCell le9 _), by rw [hpl.out]; rfl⟩
  | false =>
   have hbg : bge = true := by rcases hb with h | h <;> simp_all
   refine (ris_any _ m c l wb (i + 1) [60, 61] hm htb).mono ?_
   rintro x w1 ⟨rfl, rfl⟩
   rw [q6.out]
   go_wp2_with fail
   subst hbg
   refine (ris_any _ m c l wb (i + 1) [62, 61] hm htb).mono ?_
   rintro x w1 ⟨rfl, rfl⟩
   rw [q7.out]
   go_wp2_with fail
   obtain ⟨pl, hpl⟩ : ∃ k, Hid (placeI e l (i + 2) = k) := ⟨_, hd9 rfl⟩
   refine (rwrong_any _ m c l wb e (i + 2) hm htb).mono ?_
   rintro x wz ⟨rfl, hbz⟩
   rw [hpl.out]
   have hB := hd9 (hBb.out.trans (hbz.mono hBb.out.size))
   have hR := hd9 (hRb.out.below hbz hRb.out.lt)
   clear hbz
   unfold gotE
   obtain ⟨rc0, rc1, rc2, rc3, rc4, rc5, rc6, rc7, rc8, rf0, rf1, rf2, rf3, rf4, rf5, rf6, rf7, rf8⟩ := cf9 hR.out
   have rlt := hR.out.lt
   go_wp2_with fail
   refine bodyPost_ret (results_row rfl _ _ w.heap.size 65 _ _ rfl (((((((((hR.out.set_ 0 _).set_ 1 _).set_ 2 _).set_ 3 _).set_ 4 _).set_ 5 _).set_ 6 _).set_ 7 _).set_ 8 _) Tryz.underlying65 rfl (by kernel_rfl)) rfl ?_
   exact ⟨(((((((((hB.out.setCell le9 _).setCell le9 _).setCell le9 _).setCell le9 _).setCell le9 _).setCell le9 _).setCell le9 _).setCell le9 _).setCell le9 _), by rw [hpl.out]; rfl⟩
 ·refine (ris_any A m c l wa (i) [110, 111, 116] hm ht0).mono ?_
  rintro x w1 ⟨rfl, rfl⟩
  rw [q2.out]
  go_wp2_with fail
  refine (rcmp_any A m c l wa (i + 1) hm ht0).mono ?_
  rintro x w1 ⟨rfl, rfl⟩
  rw [q3.out]
  go_wp2_with fail
  have hfm : i < m := by omega
  have im : (i : Int) < (m : Int) := by omega
  have i0 : (0 : Int) ≤ (i : Int) := by omega
  obtain ⟨g, off, rfl, hg, h0, h1, h2⟩ := ht0.out i f hf.out
  refine (rnm_any _ m c l wa (i) hm hok ht0).mono ?_
  rintro x w1 ⟨rfl, rfl⟩
  rw [q4.out]
  go_wp2_with fail
  refine (rcmp_any _ m c l wa (i + 1) hm ht0).mono ?_
  rintro x w1 ⟨rfl, rfl⟩
  rw [q5.out]
  go_wp2_with fail
  have hbl : Below wa.heap.size wa (wa.alloc (.cells #[.int .i64 0, .int .i64 0, .string ⟨f.text.toArray⟩, .string ⟨#[]⟩, .int .i64 0, .slice none 0 0] 25)) := (Below.refl _ wa).alloc le9 _
  have hX := hd9 (Blk.new wa 25 #[.int .i64 0, .int .i64 0, .string ⟨f.text.toArray⟩, .string ⟨#[]⟩, .int .i64 0, .slice none 0 0])
  have hRb := hd9 (hR0.out.below hbl hR0.out.lt)
  have hBb := hd9 (hb0.out.trans (hbl.mono hb0.out.size))
  have htb := hd9 (ht0.out.below hbl)
  have hsz : w.heap.size + 1 ≤ wa.heap.size := by have := hs0.out; omega
  have ne1 : wa.heap.size ≠ w.heap.size := by omega
  have ne2 : w.heap.size ≠ wa.heap.size := by omega
  obtain ⟨wb, hwb⟩ : ∃ x, Hid (wa.alloc (.cells #[.int .i64 0, .int .i64 0, .string ⟨f.text.toArray⟩, .string ⟨#[]⟩, .int .i64 0, .slice none 0 0] 25) = x) := ⟨_, hd9 rfl⟩
  rw [hwb.out] at hX hRb hBb htb ⊢
  clear hbl hwb h0 h1 h2 ht0 hR0 hb0
  have bk : decide ((m : Int) ≤ ((i + 2 : Nat) : Int)) = true := by simp; omega
  have bk2 : decide (((i + 2 : Nat) : Int) < (m : Int)) = false := by simp; omega
  cases ble with
  | true =>
   refine (ris_any _ m c l wb (i + 1) [60, 61] hm htb).mono ?_
   rintro x w1 ⟨rfl, rfl⟩
   rw [q6.out]
   go_wp2_with fail
   obtain ⟨pl, hpl⟩ : ∃ k, Hid (placeI e l (i + 2) = k) := ⟨_, hd9 rfl⟩
   refine (rwrong_any _ m c l wb e (i + 2) hm htb).mono ?_
   rintro x wz ⟨rfl, hbz⟩
   rw [hpl.out]
   have hB := hd9 (hBb.out.trans (hbz.mono hBb.out.size))
   have hR := hd9 (hRb.out.below hbz hRb.out.lt)
   clear hbz
   unfold gotE
   obtain ⟨rc0, rc1, rc2, rc3, rc4, rc5, rc6, rc7, rc8, rf0, rf1, rf2, rf3, rf4, rf5, rf6, rf7, rf8⟩ := cf9 hR.out
   have rlt := hR.out.lt
   go_wp2_with fail
   refine bodyPost_ret (results_row rfl _ _ w.heap.size 65 _ _ rfl (((((((((hR.out.set_ 0 _).set_ 1 _).set_ 2 _).set_ 3 _).set_ 4 _).set_ 5 _).set_ 6 _).set_ 7 _).set_ 8 _) Tryz.underlying65 rfl (by kernel_rfl)) rfl ?_
   exact ⟨(((((((((hB.out.setCell le9 _).setCell le9 _).setCell le9 _).setCell le9 _).setCell le9 _).setCell le9 _).setCell le9 _).setCell le9 _).setCell le9 _), by rw [hpl.out]; rfl⟩
  | false =>
   have hbg : bge = true := by rcases hb with h | h <;> simp_all
   refine (ris_any _ m c l wb (i + 1) [60, 61] hm htb).mono ?_
   rintro x w1 ⟨rfl, rfl⟩
   rw [q6.out]
   go_wp2_with fail
   subst hbg
   refine (ris_any _ m c l wb (i + 1) [62, 61] hm htb).mono ?_
   rintro x w1 ⟨rfl, rfl⟩
   rw [q7.out]
   go_wp2_with fail
   obtain ⟨pl, hpl⟩ : ∃ k, Hid (placeI e l (i + 2) = k) := ⟨_, hd9 rfl⟩
   refine (rwrong_any _ m c l wb e (i + 2) hm htb).mono ?_
   rintro x wz ⟨rfl, hbz⟩
   rw [hpl.out]
   have hB := hd9 (hBb.out.trans (hbz.mono hBb.out.size))
   have hR := hd9 (hRb.out.below hbz hRb.out.lt)
   clear hbz
   unfold gotE
   obtain ⟨rc0, rc1, rc2, rc3, rc4, rc5, rc6, rc7, rc8, rf0, rf1, rf2, rf3, rf4, rf5, rf6, rf7, rf8⟩ := cf9 hR.out
   have rlt := hR.out.lt
   go_wp2_with fail
   refine bodyPost_ret (results_row rfl _ _ w.heap.size 65 _ _ rfl (((((((((hR.out.set_ 0 _).set_ 1 _).set_ 2 _).set_ 3 _).set_ 4 _).set_ 5 _).set_ 6 _).set_ 7 _).set_ 8 _) Tryz.underlying65 rfl (by kernel_rfl)) rfl ?_
   exact ⟨(((((((((hB.out.setCell le9 _).setCell le9 _).setCell le9 _).setCell le9 _).setCell le9 _).setCell le9 _).setCell le9 _).setCell le9 _).setCell le9 _), by rw [hpl.out]; rfl⟩
set_option maxRecDepth 100000 in
set_option maxHeartbeats 3200000 in
theorem ratom_num_no (A : Option Addr) (m c e : Nat) (l : List Tok) (hm : Hid (l.length = m)) (hm4 : m ≤ 4096) (w : World) (i : Nat) (_hi : i ≤ m) (htk : Hid (TokAt w 0 A l)) (q1 : Hid (atI (isT [40]) l i = false)) (qn : Hid (atI (isT [110, 111, 116]) l i = false) ∨ Hid (atI (isT [110, 111, 116]) l i = true) ∧ Hid (atI cmpT l (i + 1) = true)) (hok : Hid (TokOk l)) (f : Tok) (hf : Hid (l[i]? = some f)) (hi2 : i + 2 ≤ m) (q4 : Hid (atI nameT l i = true)) (q5 : Hid (atI cmpT l (i + 1) = true)) (ble bge : Bool) (q6 : Hid (atI (isT [60, 61]) l (i + 1) = ble)) (q7 : Hid (atI (isT [62, 61]) l (i + 1) = bge)) (hb : ble = true ∨ bge = true) (t : Tok) (ht : Hid (l[i + 2]? = some t)) (hk : t.kind ≠ 2) :
  Calls Tryz.prog 148 #[.slice A m c, .int .i64 i, .int .i64 e] w (fun x w' => Below w.heap.size w w' ∧ x = .returned (.agg (gotE 2 (placeI e l (i + 2))))) := by
 have hb0 : Hid (Below w.heap.size w (w.alloc (.cells #[.int .i64 0, .int .i64 0, .string ⟨#[]⟩, .string ⟨#[]⟩, .int .i64 0, .slice none 0 0, .int .i64 0, .int .i64 0, .int .i64 0] 65))) := (Below.refl _ w).alloc le9 _
 have hR0 := hd9 (Blk.new w 65 #[.int .i64 0, .int .i64 0, .string ⟨#[]⟩, .string ⟨#[]⟩, .int .i64 0, .slice none 0 0, .int .i64 0, .int .i64 0, .int .i64 0])
 have ht0 := hd9 (htk.out.below hb0.out)
 have hs0 : Hid ((w.alloc (.cells #[.int .i64 0, .int .i64 0, .string ⟨#[]⟩, .string ⟨#[]⟩, .int .i64 0, .slice none 0 0, .int .i64 0, .int .i64 0, .int .i64 0] 65)).heap.size = w.heap.size + 1) := by unfold Hid; simp
 have w1x : IntKind.i64.wrap ((i : Int) + 1) = ((i + 1 : Nat) : Int) := by rw [IntWalk.i64_in _ (by omega)]; omega
 have w2x : IntKind.i64.wrap ((i : Int) + 2) = ((i + 2 : Nat) : Int) := by rw [IntWalk.i64_in _ (by omega)]; omega
 go_enter Tryz.func148, Tryz.ntmps148
 go_wp2_with fail
 obtain ⟨wa, hwa⟩ : ∃ x, Hid (w.alloc (.cells #[.int .i64 0, .int .i64 0, .string ⟨#[]⟩, .string ⟨#[]⟩, .int .i64 0, .slice none 0 0, .int .i64 0, .int .i64 0, .int .i64 0] 65) = x) := ⟨_, hd9 rfl⟩
 change Calls Tryz.prog 48 _ (w.alloc (.cells #[.int .i64 0, .int .i64 0, .string ⟨#[]⟩, .string ⟨#[]⟩, .int .i64 0, .slice none 0 0, .int .i64 0, .int .i64 0, .int .i64 0] 65)) _
 rw [hwa.out] at hb0 hR0 ht0 hs0 ⊢
 clear hwa
 refine (ris_any A m c l wa (i) [40] hm ht0).mono ?_
 rintro x w1 ⟨rfl, rfl⟩
 rw [q1.out]
 go_wp2_with fail
 rcases qn with q2 | ⟨q2, q3⟩
 ·refine (ris_any A m c l wa (i) [110, 111, 116] hm ht0).mono ?_
  rintro x w1 ⟨rfl, rfl⟩
  rw [q2.out]
  go_wp2_with fail
  have hfm : i < m := by omega
  have im : (i : Int) < (m : Int) := by omega
  have i0 : (0 : Int) ≤ (i : Int) := by omega
  obtain ⟨g, off, rfl, hg, h0, h1, h2⟩ := ht0.out i f hf.out
  refine (rnm_any _ m c l wa (i) hm hok ht0).mono ?_
  rintro x w1 ⟨rfl, rfl⟩
  rw [q4.out]
  go_wp2_with fail
  refine (rcmp_any _ m c l wa (i + 1) hm ht0).mono ?_
  rintro x w1 ⟨rfl, rfl⟩
  rw [q5.out]
  go_wp2_with fail
  have hbl : Below wa.heap.size wa (wa.alloc (.cells #[.int .i64 0, .int .i64 0, .string ⟨f.text.toArray⟩, .string ⟨#[]⟩, .int .i64 0, .slice none 0 0] 25)) := (Below.refl _ wa).alloc le9 _
  have hX := hd9 (Blk.new wa 25 #[.int .i64 0, .int .i64 0, .string ⟨f.text.toArray⟩, .string ⟨#[]⟩, .int .i64 0, .slice none 0 0])
  have hRb := hd9 (hR0.out.below hbl hR0.out.lt)
  have hBb := hd9 (hb0.out.trans (hbl.mono hb0.out.size))
  have htb := hd9 (ht0.out.below hbl)
  have hsz : w.heap.size + 1 ≤ wa.heap.size := by have := hs0.out; omega
  have ne1 : wa.heap.size ≠ w.heap.size := by omega
  have ne2 : w.heap.size ≠ wa.heap.size := by omega
  obtain ⟨wb, hwb⟩ : ∃ x, Hid (wa.alloc (.cells #[.int .i64 0, .int .i64 0, .string ⟨f.text.toArray⟩, .string ⟨#[]⟩, .int .i64 0, .slice none 0 0] 25) = x) := ⟨_, hd9 rfl⟩
  rw [hwb.out] at hX hRb hBb htb ⊢
  clear hbl hwb h0 h1 h2 ht0 hR0 hb0
  have hk2 : i + 2 < m := by have := (List.getElem?_eq_some_iff.1 ht.out).1; have := hm.out; omega
  have km : ((i + 2 : Nat) : Int) < (m : Int) := by omega
  have k0 : (0 : Int) ≤ ((i + 2 : Nat) : Int) := by omega
  have bk : decide ((m : Int) ≤ ((i + 2 : Nat) : Int)) = false := by simp; omega
  have bk2 : decide (((i + 2 : Nat) : Int) < (m : Int)) = true := by simp; omega
  obtain ⟨c0, c2⟩ := htb.out.at_ ht.out
  have bt : (t.kind != 2) = true := by simp [hk]
  cases ble with
  | true =>
   refine (ris_any _ m c l wb (i + 1) [60, 61] hm htb).mono ?_
   rintro x w1 ⟨rfl, rfl⟩
   rw [q6.out]
   go_wp2_with fail
   obtain ⟨pl, hpl⟩ : ∃ k, Hid (placeI e l (i + 2) = k) := ⟨_, hd9 rfl⟩
   refine (rwrong_any _ m c l wb e (i + 2) hm htb).mono ?_
   rintro x wz ⟨rfl, hbz⟩
   rw [hpl.out]
   have hB := hd9 (hBb.out.trans (hbz.mono hBb.out.size))
   have hR := hd9 (hRb.out.below hbz hRb.out.lt)
   clear hbz
   unfold gotE
   obtain ⟨rc0, rc1, rc2, rc3, rc4, rc5, rc6, rc7, rc8, rf0, rf1, rf2, rf3, rf4, rf5, rf6, rf7, rf8⟩ := cf9 hR.out
   have rlt := hR.out.lt
   go_wp2_with fail
   refine bodyPost_ret (results_row rfl _ _ w.heap.size 65 _ _ rfl (((((((((hR.out.set_ 0 _).set_ 1 _).set_ 2 _).set_ 3 _).set_ 4 _).set_ 5 _).set_ 6 _).set_ 7 _).set_ 8 _) Tryz.underlying65 rfl (by kernel_rfl)) rfl ?_
   exact ⟨(((((((((hB.out.setCell le9 _).setCell le9 _).setCell le9 _).setCell le9 _).setCell le9 _).setCell le9 _).setCell le9 _).setCell le9 _).setCell le9 _), by rw [hpl.out]; rfl⟩
  | false =>
   have hbg : bge = true := by rcases hb with h | h <;> simp_all
   refine (ris_any _ m c l wb (i + 1) [60, 61] hm htb).mono ?_
   rintro x w1 ⟨rfl, rfl⟩
   rw [q6.out]
   go_wp2_with fail
   subst hbg
   refine (ris_any _ m c l wb (i + 1) [62, 61] hm htb).mono ?_
   rintro x w1 ⟨rfl, rfl⟩
   rw [q7.out]
   go_wp2_with fail
   obtain ⟨pl, hpl⟩ : ∃ k, Hid (placeI e l (i + 2) = k) := ⟨_, hd9 rfl⟩
   refine (rwrong_any _ m c l wb e (i + 2) hm htb).mono ?_
   rintro x wz ⟨rfl, hbz⟩
   rw [hpl.out]
   have hB := hd9 (hBb.out.trans (hbz.mono hBb.out.size))
   have hR := hd9 (hRb.out.below hbz hRb.out.lt)
   clear hbz
   unfold gotE
   obtain ⟨rc0, rc1, rc2, rc3, rc4, rc5, rc6, rc7, rc8, rf0, rf1, rf2, rf3, rf4, rf5, rf6, rf7, rf8⟩ := cf9 hR.out
   have rlt := hR.out.lt
   go_wp2_with fail
   refine bodyPost_ret (results_row rfl _ _ w.heap.size 65 _ _ rfl (((((((((hR.out.set_ 0 _).set_ 1 _).set_ 2 _).set_ 3 _).set_ 4 _).set_ 5 _).set_ 6 _).set_ 7 _).set_ 8 _) Tryz.underlying65 rfl (by kernel_rfl)) rfl ?_
   exact ⟨(((((((((hB.out.setCell le9 _).setCell le9 _).setCell le9 _).setCell le9 _).setCell le9 _).setCell le9 _).setCell le9 _).setCell le9 _).setCell le9 _), by rw [hpl.out]; rfl⟩
 ·refine (ris_any A m c l wa (i) [110, 111, 116] hm ht0).mono ?_
  rintro x w1 ⟨rfl, rfl⟩
  rw [q2.out]
  go_wp2_with fail
  refine (rcmp_any A m c l wa (i + 1) hm ht0).mono ?_
  rintro x w1 ⟨rfl, rfl⟩
  rw [q3.out]
  go_wp2_with fail
  have hfm : i < m := by omega
  have im : (i : Int) < (m : Int) := by omega
  have i0 : (0 : Int) ≤ (i : Int) := by omega
  obtain ⟨g, off, rfl, hg, h0, h1, h2⟩ := ht0.out i f hf.out
  refine (rnm_any _ m c l wa (i) hm hok ht0).mono ?_
  rintro x w1 ⟨rfl, rfl⟩
  rw [q4.out]
  go_wp2_with fail
  refine (rcmp_any _ m c l wa (i + 1) hm ht0).mono ?_
  rintro x w1 ⟨rfl, rfl⟩
  rw [q5.out]
  go_wp2_with fail
  have hbl : Below wa.heap.size wa (wa.alloc (.cells #[.int .i64 0, .int .i64 0, .string ⟨f.text.toArray⟩, .string ⟨#[]⟩, .int .i64 0, .slice none 0 0] 25)) := (Below.refl _ wa).alloc le9 _
  have hX := hd9 (Blk.new wa 25 #[.int .i64 0, .int .i64 0, .string ⟨f.text.toArray⟩, .string ⟨#[]⟩, .int .i64 0, .slice none 0 0])
  have hRb := hd9 (hR0.out.below hbl hR0.out.lt)
  have hBb := hd9 (hb0.out.trans (hbl.mono hb0.out.size))
  have htb := hd9 (ht0.out.below hbl)
  have hsz : w.heap.size + 1 ≤ wa.heap.size := by have := hs0.out; omega
  have ne1 : wa.heap.size ≠ w.heap.size := by omega
  have ne2 : w.heap.size ≠ wa.heap.size := by omega
  obtain ⟨wb, hwb⟩ : ∃ x, Hid (wa.alloc (.cells #[.int .i64 0, .int .i64 0, .string ⟨f.text.toArray⟩, .string ⟨#[]⟩, .int .i64 0, .slice none 0 0] 25) = x) := ⟨_, hd9 rfl⟩
  rw [hwb.out] at hX hRb hBb htb ⊢
  clear hbl hwb h0 h1 h2 ht0 hR0 hb0
  have hk2 : i + 2 < m := by have := (List.getElem?_eq_some_iff.1 ht.out).1; have := hm.out; omega
  have km : ((i + 2 : Nat) : Int) < (m : Int) := by omega
  have k0 : (0 : Int) ≤ ((i + 2 : Nat) : Int) := by omega
  have bk : decide ((m : Int) ≤ ((i + 2 : Nat) : Int)) = false := by simp; omega
  have bk2 : decide (((i + 2 : Nat) : Int) < (m : Int)) = true := by simp; omega
  obtain ⟨c0, c2⟩ := htb.out.at_ ht.out
  have bt : (t.kind != 2) = true := by simp [hk]
  cases ble with
  | true =>
   refine (ris_any _ m c l wb (i + 1) [60, 61] hm htb).mono ?_
   rintro x w1 ⟨rfl, rfl⟩
   rw [q6.out]
   go_wp2_with fail
   obtain ⟨pl, hpl⟩ : ∃ k, Hid (placeI e l (i + 2) = k) := ⟨_, hd9 rfl⟩
   refine (rwrong_any _ m c l wb e (i + 2) hm htb).mono ?_
   rintro x wz ⟨rfl, hbz⟩
   rw [hpl.out]
   have hB := hd9 (hBb.out.trans (hbz.mono hBb.out.size))
   have hR := hd9 (hRb.out.below hbz hRb.out.lt)
   clear hbz
   unfold gotE
   obtain ⟨rc0, rc1, rc2, rc3, rc4, rc5, rc6, rc7, rc8, rf0, rf1, rf2, rf3, rf4, rf5, rf6, rf7, rf8⟩ := cf9 hR.out
   have rlt := hR.out.lt
   go_wp2_with fail
   refine bodyPost_ret (results_row rfl _ _ w.heap.size 65 _ _ rfl (((((((((hR.out.set_ 0 _).set_ 1 _).set_ 2 _).set_ 3 _).set_ 4 _).set_ 5 _).set_ 6 _).set_ 7 _).set_ 8 _) Tryz.underlying65 rfl (by kernel_rfl)) rfl ?_
   exact ⟨(((((((((hB.out.setCell le9 _).setCell le9 _).setCell le9 _).setCell le9 _).setCell le9 _).setCell le9 _).setCell le9 _).setCell le9 _).setCell le9 _), by rw [hpl.out]; rfl⟩
  | false =>
   have hbg : bge = true := by rcases hb with h | h <;> simp_all
   refine (ris_any _ m c l wb (i + 1) [60, 61] hm htb).mono ?_
   rintro x w1 ⟨rfl, rfl⟩
   rw [q6.out]
   go_wp2_with fail
   subst hbg
   refine (ris_any _ m c l wb (i + 1) [62, 61] hm htb).mono ?_
   rintro x w1 ⟨rfl, rfl⟩
   rw [q7.out]
   go_wp2_with fail
   obtain ⟨pl, hpl⟩ : ∃ k, Hid (placeI e l (i + 2) = k) := ⟨_, hd9 rfl⟩
   refine (rwrong_any _ m c l wb e (i + 2) hm htb).mono ?_
   rintro x wz ⟨rfl, hbz⟩
   rw [hpl.out]
   have hB := hd9 (hBb.out.trans (hbz.mono hBb.out.size))
   have hR := hd9 (hRb.out.below hbz hRb.out.lt)
   clear hbz
   unfold gotE
   obtain ⟨rc0, rc1, rc2, rc3, rc4, rc5, rc6, rc7, rc8, rf0, rf1, rf2, rf3, rf4, rf5, rf6, rf7, rf8⟩ := cf9 hR.out
   have rlt := hR.out.lt
   go_wp2_with fail
   refine bodyPost_ret (results_row rfl _ _ w.heap.size 65 _ _ rfl (((((((((hR.out.set_ 0 _).set_ 1 _).set_ 2 _).set_ 3 _).set_ 4 _).set_ 5 _).set_ 6 _).set_ 7 _).set_ 8 _) Tryz.underlying65 rfl (by kernel_rfl)) rfl ?_
   exact ⟨(((((((((hB.out.setCell le9 _).setCell le9 _).setCell le9 _).setCell le9 _).setCell le9 _).setCell le9 _).setCell le9 _).setCell le9 _).setCell le9 _), by rw [hpl.out]; rfl⟩
end Go.Proofs.YtjkmhlfjheiekaaGreatDoor

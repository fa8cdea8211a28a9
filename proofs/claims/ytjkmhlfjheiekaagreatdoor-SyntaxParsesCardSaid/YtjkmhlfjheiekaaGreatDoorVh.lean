import Derived.Test.YtjkmhlfjheiekaaGreatDoorVe
namespace Go.Proofs.YtjkmhlfjheiekaaGreatDoor
open Go Go.RowKit Go.BigFrame Go.Maps
set_option maxRecDepth 100000 in
set_option maxHeartbeats 3200000 in
theorem ratom_num_ok (A : Option Addr) (m c e : Nat) (l : List Tok) (hm : Hid (l.length = m)) (hm4 : m ≤ 4096) (w : World) (i : Nat) (_hi : i ≤ m) (htk : Hid (TokAt w 0 A l)) (q1 : Hid (atI (isT [40]) l i = false)) (qn : Hid (atI (isT [110, 111, 116]) l i = false) ∨ Hid (atI (isT [110, 111, 116]) l i = true) ∧ Hid (atI cmpT l (i + 1) = true)) (hok : Hid (TokOk l)) (f : Tok) (hf : Hid (l[i]? = some f)) (hi2 : i + 2 ≤ m) (q4 : Hid (atI nameT l i = true)) (q5 : Hid (atI cmpT l (i + 1) = true)) (ble bge : Bool) (q6 : Hid (atI (isT [60, 61]) l (i + 1) = ble)) (q7 : Hid (atI (isT [62, 61]) l (i + 1) = bge)) (hb : ble = true ∨ bge = true) (t : Tok) (ht : Hid (l[i + 2]? = some t)) (hk : t.kind = 2) :
  Calls Tryz.prog 148 #[.slice A m c, .int .i64 i, .int .i64 e] w (fun x w' => Below w.heap.size w w' ∧ ∃ T9, x = .returned (.agg (gotV T9 (i + 3))) ∧ TreeAt w' (fun b => w.heap.size ≤ b) T9 ∧ strip T9 = (.mk (if bge = true then 6 else 5) 0 f.text [] (numV t.text : Nat) [])) := by
 have hb0 : Hid (Below w.heap.size w (w.alloc (.cells #[.int .i64 0, .int .i64 0, .string ⟨#[]⟩, .string ⟨#[]⟩, .int .i64 0, .slice none 0 0, .int .i64 0, .int .i64 0, .int .i64 0] 65))) := (Below.refl _ w).alloc le9 _
 have hR0 := hd9 (Blk.new w 65 #[.int .i64 0, .int .i64 0, .string ⟨#[]⟩, .string ⟨#[]⟩, .int .i64 0, .slice none 0 0, .int .i64 0, .int .i64 0, .int .i64 0])
 have ht0 := hd9 (htk.out.below hb0.out)
 have hs0 : Hid ((w.alloc (.cells #[.int .i64 0, .int .i64 0, .string ⟨#[]⟩, .string ⟨#[]⟩, .int .i64 0, .slice none 0 0, .int .i64 0, .int .i64 0, .int .i64 0] 65)).heap.size = w.heap.size + 1) := by unfold Hid; simp
 have w1x : IntKind.i64.wrap ((i : Int) + 1) = ((i + 1 : Nat) : Int) := by rw [IntWalk.i64_in _ (by omega)]; omega
 have w2x : IntKind.i64.wrap ((i : Int) + 2) = ((i + 2 : Nat) : Int) := by rw [IntWalk.i64_in _ (by omega)]; omega
 have w3x : IntKind.i64.wrap ((i : Int) + 2 + 1) = ((i + 3 : Nat) : Int) := by rw [IntWalk.i64_in _ (by omega)]; omega
 have w4x : IntKind.i64.wrap ((i : Int) + 2 + 2) = ((i + 4 : Nat) : Int) := by rw [IntWalk.i64_in _ (by omega)]; omega
 have w5x : IntKind.i64.wrap ((i : Int) + 2 + 3) = ((i + 5 : Nat) : Int) := by rw [IntWalk.i64_in _ (by omega)]; omega
 have hnum : Hid (∀ W, Calls Tryz.prog 97 #[.string ⟨t.text.toArray⟩] W fun x w' => x = .returned (.int .i64 (numV t.text : Nat)) ∧ W = w') := fun W => by
  obtain ⟨hlen, hd⟩ := hok.out _ t ht.out
  obtain ⟨hd1, _, hd2⟩ := hd hk
  have := rnumber_any ⟨t.text.toArray⟩ W (by rw [size_list]; unfold maxLen; omega) (by unfold Hid; simpa using hd1) (by unfold mostN at hd2; unfold Hid; simpa using hd2)
  simpa using this
 go_enter Tryz.func148, Tryz.ntmps148
 go_wp2_with fail
 obtain ⟨wa, hwa⟩ : ∃ x, Hid (w.alloc (.cells #[.int .i64 0, .int .i64 0, .string ⟨#[]⟩, .string ⟨#[]⟩, .int .i64 0, .slice none 0 0, .int .i64 0, .int .i64 0, .int .i64 0] 65) = x) := ⟨_, hd9 rfl⟩
 change Calls Tryz.prog 48 _ (w.alloc (.cells #[.int .i64 0, .int .i64 0, .string ⟨#[]⟩, .string ⟨#[]⟩, .int .i64 0, .slice none 0 0, .int .i64 0, .int .i64 0, .int .i64 0] 65)) _
 rw [hwa.out] at hb0 hR0 ht0 hs0 ⊢
 clear hwa
 refine (ris_any A m c l wa (i) [40] hm ht0).mono ?_
 rintro x w1 ⟨rfl, rfl⟩
 rw [q1.out]
 go_wp2_with fail
 rcases qn with q2 | ⟨q2, q3⟩
 ·refine (ris_any A m c l wa (i) [110, 111, 116] hm ht0).mono ?_
  rintro x w1 ⟨rfl, rfl⟩
  rw [q2.out]
  go_wp2_with fail
  have hfm : i < m := by omega
  have im : (i : Int) < (m : Int) := by omega
  have i0 : (0 : Int) ≤ (i : Int) := by omega
  obtain ⟨g, off, rfl, hg, h0, h1, h2⟩ := ht0.out i f hf.out
  refine (rnm_any _ m c l wa (i) hm hok ht0).mono ?_
  rintro x w1 ⟨rfl, rfl⟩
  rw [q4.out]
  go_wp2_with fail
  refine (rcmp_any _ m c l wa (i + 1) hm ht0).mono ?_
  rintro x w1 ⟨rfl, rfl⟩
  rw [q5.out]
  go_wp2_with fail
  have hbl : Below wa.heap.size wa (wa.alloc (.cells #[.int .i64 0, .int .i64 0, .string ⟨f.text.toArray⟩, .string ⟨#[]⟩, .int .i64 0, .slice none 0 0] 25)) := (Below.refl _ wa).alloc le9 _
  have hX := hd9 (Blk.new wa 25 #[.int .i64 0, .int .i64 0, .string ⟨f.text.toArray⟩, .string ⟨#[]⟩, .int .i64 0, .slice none 0 0])
  have hRb := hd9 (hR0.out.below hbl hR0.out.lt)
  have hBb := hd9 (hb0.out.trans (hbl.mono hb0.out.size))
  have htb := hd9 (ht0.out.below hbl)
  have hsz : w.heap.size + 1 ≤ wa.heap.size := by have := hs0.out; omega
  have ne1 : wa.heap.size ≠ w.heap.size := by omega
  have ne2 : w.heap.size ≠ wa.heap.size := by omega
  obtain ⟨wb, hwb⟩ : ∃ x, Hid (wa.alloc (.cells #[.int .i64 0, .int .i64 0, .string ⟨f.text.toArray⟩, .string ⟨#[]⟩, .int .i64 0, .slice none 0 0] 25) = x) := ⟨_, hd9 rfl⟩
  rw [hwb.out] at hX hRb hBb htb ⊢
  have hgl : Hid (g ≠ wa.heap.size) := by unfold Hid; have h9 : g < wa.heap.size := World.block_lt_of_cell? wa _ h0; omega
  clear hbl hwb h0 h1 h2 ht0 hR0 hb0
  have hk2 : i + 2 < m := by have := (List.getElem?_eq_some_iff.1 ht.out).1; have := hm.out; omega
  have km : ((i + 2 : Nat) : Int) < (m : Int) := by omega
  have k0 : (0 : Int) ≤ ((i + 2 : Nat) : Int) := by omega
  have bk : decide ((m : Int) ≤ ((i + 2 : Nat) : Int)) = false := by simp; omega
  have bk2 : decide (((i + 2 : Nat) : Int) < (m : Int)) = true := by simp; omega
  obtain ⟨c0, c2⟩ := htb.out.at_ ht.out
  have bt : (t.kind != 2) = false := by simp [hk]
  have xc0 : wb.cell? ⟨wa.heap.size, 0, none⟩ = some (.int .i64 0) := hX.out.cell 0
  have xf0 := hX.out.frozen 0
  have xlt := hX.out.lt
  cases ble with
  | true =>
   refine (ris_any _ m c l wb (i + 1) [60, 61] hm htb).mono ?_
   rintro x w1 ⟨rfl, rfl⟩
   rw [q6.out]
   go_wp2_with fail
   clear c0 c2 xc0 xf0 xlt
   have hX := hd9 (hX.out.set_ 0 (.int .i64 5))
   have hRb := hd9 (hRb.out.far (p := ⟨wa.heap.size, 0, none⟩) ne2 (.int .i64 5))
   have hBb : Hid (Below w.heap.size w (wb.setCell ⟨wa.heap.size, 0, none⟩ (.int .i64 5))) := hBb.out.setCell (p := ⟨wa.heap.size, 0, none⟩) (by show w.heap.size ≤ wa.heap.size; omega) _
   have htb : Hid (TokAt (wb.setCell ⟨wa.heap.size, 0, none⟩ (.int .i64 5)) 0 (some ⟨g, off, none⟩) l) := tok_far htb.out hgl.out
   obtain ⟨wc, hnxt⟩ : ∃ x, Hid ((wb.setCell ⟨wa.heap.size, 0, none⟩ (.int .i64 5)) = x) := ⟨_, hd9 rfl⟩
   change Calls Tryz.prog 48 _ (wb.setCell ⟨wa.heap.size, 0, none⟩ (.int .i64 5)) _
   rw [hnxt.out] at hX hRb hBb htb ⊢
   clear hnxt
   refine (ris_any _ m c l wc (i + 1) [62, 61] hm htb).mono ?_
   rintro x w1 ⟨rfl, rfl⟩
   rw [q7.out]
   obtain ⟨c0, c2⟩ := htb.out.at_ ht.out
   cases bge with
   | true =>
    have xc0 : wc.cell? ⟨wa.heap.size, 0, none⟩ = some (.int .i64 5) := hX.out.cell 0
    have xf0 := hX.out.frozen 0
    have xlt := hX.out.lt
    go_wp2_with fail
    clear xc0 xf0 xlt
    have hX := hd9 (hX.out.set_ 0 (.int .i64 6))
    have hRb := hd9 (hRb.out.far (p := ⟨wa.heap.size, 0, none⟩) ne2 (.int .i64 6))
    have hBb : Hid (Below w.heap.size w (wc.setCell ⟨wa.heap.size, 0, none⟩ (.int .i64 6))) := hBb.out.setCell (p := ⟨wa.heap.size, 0, none⟩) (by show w.heap.size ≤ wa.heap.size; omega) _
    have htb : Hid (TokAt (wc.setCell ⟨wa.heap.size, 0, none⟩ (.int .i64 6)) 0 (some ⟨g, off, none⟩) l) := tok_far htb.out hgl.out
    obtain ⟨wd, hnxt⟩ : ∃ x, Hid ((wc.setCell ⟨wa.heap.size, 0, none⟩ (.int .i64 6)) = x) := ⟨_, hd9 rfl⟩
    clear c0 c2
    change Calls Tryz.prog 97 _ (wc.setCell ⟨wa.heap.size, 0, none⟩ (.int .i64 6)) _
    rw [hnxt.out] at hX hRb hBb htb ⊢
    clear hnxt
    refine (hnum.out wd).mono ?_
    rintro x w1 ⟨rfl, rfl⟩
    obtain ⟨xc0, xc1, xc2, xc3, xc4, xc5, xf0, xf1, xf2, xf3, xf4, xf5⟩ := cf6 hX.out
    have xlt := hX.out.lt
    obtain ⟨rc0, rc1, rc2, rc3, rc4, rc5, rc6, rc7, rc8, rf0, rf1, rf2, rf3, rf4, rf5, rf6, rf7, rf8⟩ := cf9 hRb.out
    have rlt := hRb.out.lt
    go_wp2_with fail
    refine bodyPost_ret (results_row rfl _ _ w.heap.size 65 _ _ rfl ((((((((((hRb.out.far (p := ⟨wa.heap.size, 4, none⟩) ne2 _).set_ 0 _).set_ 1 _).set_ 2 _).set_ 3 _).set_ 4 _).set_ 5 _).set_ 6 _).set_ 7 _).set_ 8 _) Tryz.underlying65 rfl (by kernel_rfl)) rfl ?_
    refine ⟨((((((((((hBb.out.setCell (p := ⟨wa.heap.size, 4, none⟩) (by show w.heap.size ≤ wa.heap.size; omega) _).setCell le9 _).setCell le9 _).setCell le9 _).setCell le9 _).setCell le9 _).setCell le9 _).setCell le9 _).setCell le9 _).setCell le9 _), .mk 6 0 f.text [] (numV t.text : Nat) none 0 [], by simp [gotV], tree_leaf _ _ _ _ _ _ _ _ _, by rw [strip_leaf]; try rfl⟩
   | false =>
    go_wp2_with fail
    clear c0 c2
    refine (hnum.out wc).mono ?_
    rintro x w1 ⟨rfl, rfl⟩
    obtain ⟨xc0, xc1, xc2, xc3, xc4, xc5, xf0, xf1, xf2, xf3, xf4, xf5⟩ := cf6 hX.out
    have xlt := hX.out.lt
    obtain ⟨rc0, rc1, rc2, rc3, rc4, rc5, rc6, rc7, rc8, rf0, rf1, rf2, rf3, rf4, rf5, rf6, rf7, rf8⟩ := cf9 hRb.out
    have rlt := hRb.out.lt
    go_wp2_with fail
    refine bodyPost_ret (results_row rfl _ _ w.heap.size 65 _ _ rfl ((((((((((hRb.out.far (p := ⟨wa.heap.size, 4, none⟩) ne2 _).set_ 0 _).set_ 1 _).set_ 2 _).set_ 3 _).set_ 4 _).set_ 5 _).set_ 6 _).set_ 7 _).set_ 8 _) Tryz.underlying65 rfl (by kernel_rfl)) rfl ?_
    refine ⟨((((((((((hBb.out.setCell (p := ⟨wa.heap.size, 4, none⟩) (by show w.heap.size ≤ wa.heap.size; omega) _).setCell le9 _).setCell le9 _).setCell le9 _).setCell le9 _).setCell le9 _).setCell le9 _).setCell le9 _).setCell le9 _).setCell le9 _), .mk 5 0 f.text [] (numV t.text : Nat) none 0 [], by simp [gotV], tree_leaf _ _ _ _ _ _ _ _ _, by rw [strip_leaf]; try rfl⟩
  | false =>
   have hbg : bge = true := by rcases hb with h | h <;> simp_all
   refine (ris_any _ m c l wb (i + 1) [60, 61] hm htb).mono ?_
   rintro x w1 ⟨rfl, rfl⟩
   rw [q6.out]
   go_wp2_with fail
   subst hbg
   refine (ris_any _ m c l wb (i + 1) [62, 61] hm htb).mono ?_
   rintro x w1 ⟨rfl, rfl⟩
   rw [q7.out]
   go_wp2_with fail
   clear c0 c2 xc0 xf0 xlt
   have hX := hd9 (hX.out.set_ 0 (.int .i64 5))
   have hRb := hd9 (hRb.out.far (p := ⟨wa.heap.size, 0, none⟩) ne2 (.int .i64 5))
   have hBb : Hid (Below w.heap.size w (wb.setCell ⟨wa.heap.size, 0, none⟩ (.int .i64 5))) := hBb.out.setCell (p := ⟨wa.heap.size, 0, none⟩) (by show w.heap.size ≤ wa.heap.size; omega) _
   have htb : Hid (TokAt (wb.setCell ⟨wa.heap.size, 0, none⟩ (.int .i64 5)) 0 (some ⟨g, off, none⟩) l) := tok_far htb.out hgl.out
   obtain ⟨wc, hnxt⟩ : ∃ x, Hid ((wb.setCell ⟨wa.heap.size, 0, none⟩ (.int .i64 5)) = x) := ⟨_, hd9 rfl⟩
   change Calls Tryz.prog 48 _ (wb.setCell ⟨wa.heap.size, 0, none⟩ (.int .i64 5)) _
   rw [hnxt.out] at hX hRb hBb htb ⊢
   clear hnxt
   refine (ris_any _ m c l wc (i + 1) [62, 61] hm htb).mono ?_
   rintro x w1 ⟨rfl, rfl⟩
   rw [q7.out]
   obtain ⟨c0, c2⟩ := htb.out.at_ ht.out
   have xc0 : wc.cell? ⟨wa.heap.size, 0, none⟩ = some (.int .i64 5) := hX.out.cell 0
   have xf0 := hX.out.frozen 0
   have xlt := hX.out.lt
   go_wp2_with fail
   clear xc0 xf0 xlt
   have hX := hd9 (hX.out.set_ 0 (.int .i64 6))
   have hRb := hd9 (hRb.out.far (p := ⟨wa.heap.size, 0, none⟩) ne2 (.int .i64 6))
   have hBb : Hid (Below w.heap.size w (wc.setCell ⟨wa.heap.size, 0, none⟩ (.int .i64 6))) := hBb.out.setCell (p := ⟨wa.heap.size, 0, none⟩) (by show w.heap.size ≤ wa.heap.size; omega) _
   have htb : Hid (TokAt (wc.setCell ⟨wa.heap.size, 0, none⟩ (.int .i64 6)) 0 (some ⟨g, off, none⟩) l) := tok_far htb.out hgl.out
   obtain ⟨wd, hnxt⟩ : ∃ x, Hid ((wc.setCell ⟨wa.heap.size, 0, none⟩ (.int .i64 6)) = x) := ⟨_, hd9 rfl⟩
   clear c0 c2
   change Calls Tryz.prog 97 _ (wc.setCell ⟨wa.heap.size, 0, none⟩ (.int .i64 6)) _
   rw [hnxt.out] at hX hRb hBb htb ⊢
   clear hnxt
   refine (hnum.out wd).mono ?_
   rintro x w1 ⟨rfl, rfl⟩
   obtain ⟨xc0, xc1, xc2, xc3, xc4, xc5, xf0, xf1, xf2, xf3, xf4, xf5⟩ := cf6 hX.out
   have xlt := hX.out.lt
   obtain ⟨rc0, rc1, rc2, rc3, rc4, rc5, rc6, rc7, rc8, rf0, rf1, rf2, rf3, rf4, rf5, rf6, rf7, rf8⟩ := cf9 hRb.out
   have rlt := hRb.out.lt
   go_wp2_with fail
   refine bodyPost_ret (results_row rfl _ _ w.heap.size 65 _ _ rfl ((((((((((hRb.out.far (p := ⟨wa.heap.size, 4, none⟩) ne2 _).set_ 0 _).set_ 1 _).set_ 2 _).set_ 3 _).set_ 4 _).set_ 5 _).set_ 6 _).set_ 7 _).set_ 8 _) Tryz.underlying65 rfl (by kernel_rfl)) rfl ?_
   refine ⟨((((((((((hBb.out.setCell (p := ⟨wa.heap.size, 4, none⟩) (by show w.heap.size ≤ wa.heap.size; omega) _).setCell le9 _).setCell le9 _).setCell le9 _).setCell le9 _).setCell le9 _).setCell le9 _).setCell le9 _).setCell le9 _).setCell le9 _), .mk 6 0 f.text [] (numV t.text : Nat) none 0 [], by simp [gotV], tree_leaf _ _ _ _ _ _ _ _ _, by rw [strip_leaf]; try rfl⟩
 ·refine (ris_any A m c l wa (i) [110, 111, 116] hm ht0).mono ?_
  rintro x w1 ⟨rfl, rfl⟩
  rw [q2.out]
  go_wp2_with fail
  refine (rcmp_any A m c l wa (i + 1) hm ht0).mono ?_
  rintro x w1 ⟨rfl, rfl⟩
  rw [q3.out]
  go_wp2_with fail
  have hfm : i < m := by omega
  have im : (i : Int) < (m : Int) := by omega
  have i0 : (0 : Int) ≤ (i : Int) := by omega
  obtain ⟨g, off, rfl, hg, h0, h1, h2⟩ := ht0.out i f hf.out
  refine (rnm_any _ m c l wa (i) hm hok ht0).mono ?_
  rintro x w1 ⟨rfl, rfl⟩
  rw [q4.out]
  go_wp2_with fail
  refine (rcmp_any _ m c l wa (i + 1) hm ht0).mono ?_
  rintro x w1 ⟨rfl, rfl⟩
  rw [q5.out]
  go_wp2_with fail
  have hbl : Below wa.heap.size wa (wa.alloc (.cells #[.int .i64 0, .int .i64 0, .string ⟨f.text.toArray⟩, .string ⟨#[]⟩, .int .i64 0, .slice none 0 0] 25)) := (Below.refl _ wa).alloc le9 _
  have hX := hd9 (Blk.new wa 25 #[.int .i64 0, .int .i64 0, .string ⟨f.text.toArray⟩, .string ⟨#[]⟩, .int .i64 0, .slice none 0 0])
  have hRb := hd9 (hR0.out.below hbl hR0.out.lt)
  have hBb := hd9 (hb0.out.trans (hbl.mono hb0.out.size))
  have htb := hd9 (ht0.out.below hbl)
  have hsz : w.heap.size + 1 ≤ wa.heap.size := by have := hs0.out; omega
  have ne1 : wa.heap.size ≠ w.heap.size := by omega
  have ne2 : w.heap.size ≠ wa.heap.size := by omega
  obtain ⟨wb, hwb⟩ : ∃ x, Hid (wa.alloc (.cells #[.int .i64 0, .int .i64 0, .string ⟨f.text.toArray⟩, .string ⟨#[]⟩, .int .i64 0, .slice none 0 0] 25) = x) := ⟨_, hd9 rfl⟩
  rw [hwb.out] at hX hRb hBb htb ⊢
  have hgl : Hid (g ≠ wa.heap.size) := by unfold Hid; have h9 : g < wa.heap.size := World.block_lt_of_cell? wa _ h0; omega
  clear hbl hwb h0 h1 h2 ht0 hR0 hb0
  have hk2 : i + 2 < m := by have := (List.getElem?_eq_some_iff.1 ht.out).1; have := hm.out; omega
  have km : ((i + 2 : Nat) : Int) < (m : Int) := by omega
  have k0 : (0 : Int) ≤ ((i + 2 : Nat) : Int) := by omega
  have bk : decide ((m : Int) ≤ ((i + 2 : Nat) : Int)) = false := by simp; omega
  have bk2 : decide (((i + 2 : Nat) : Int) < (m : Int)) = true := by simp; omega
  obtain ⟨c0, c2⟩ := htb.out.at_ ht.out
  have bt : (t.kind != 2) = false := by simp [hk]
  have xc0 : wb.cell? ⟨wa.heap.size, 0, none⟩ = some (.int .i64 0) := hX.out.cell 0
  have xf0 := hX.out.frozen 0
  have xlt := hX.out.lt
  cases ble with
  | true =>
   refine (ris_any _ m c l wb (i + 1) [60, 61] hm htb).mono ?_
   rintro x w1 ⟨rfl, rfl⟩
   rw [q6.out]
   go_wp2_with fail
   clear c0 c2 xc0 xf0 xlt
   have hX := hd9 (hX.out.set_ 0 (.int .i64 5))
   have hRb := hd9 (hRb.out.far (p := ⟨wa.heap.size, 0, none⟩) ne2 (.int .i64 5))
   have hBb : Hid (Below w.heap.size w (wb.setCell ⟨wa.heap.size, 0, none⟩ (.int .i64 5))) := hBb.out.setCell (p := ⟨wa.heap.size, 0, none⟩) (by show w.heap.size ≤ wa.heap.size; omega) _
   have htb : Hid (TokAt (wb.setCell ⟨wa.heap.size, 0, none⟩ (.int .i64 5)) 0 (some ⟨g, off, none⟩) l) := tok_far htb.out hgl.out
   obtain ⟨wc, hnxt⟩ : ∃ x, Hid ((wb.setCell ⟨wa.heap.size, 0, none⟩ (.int .i64 5)) = x) := ⟨_, hd9 rfl⟩
   change Calls Tryz.prog 48 _ (wb.setCell ⟨wa.heap.size, 0, none⟩ (.int .i64 5)) _
   rw [hnxt.out] at hX hRb hBb htb ⊢
   clear hnxt
   refine (ris_any _ m c l wc (i + 1) [62, 61] hm htb).mono ?_
   rintro x w1 ⟨rfl, rfl⟩
   rw [q7.out]
   obtain ⟨c0, c2⟩ := htb.out.at_ ht.out
   cases bge with
   | true =>
    have xc0 : wc.cell? ⟨wa.heap.size, 0, none⟩ = some (.int .i64 5) := hX.out.cell 0
    have xf0 := hX.out.frozen 0
    have xlt := hX.out.lt
    go_wp2_with fail
    clear xc0 xf0 xlt
    have hX := hd9 (hX.out.set_ 0 (.int .i64 6))
    have hRb := hd9 (hRb.out.far (p := ⟨wa.heap.size, 0, none⟩) ne2 (.int .i64 6))
    have hBb : Hid (Below w.heap.size w (wc.setCell ⟨wa.heap.size, 0, none⟩ (.int .i64 6))) := hBb.out.setCell (p := ⟨wa.heap.size, 0, none⟩) (by show w.heap.size ≤ wa.heap.size; omega) _
    have htb : Hid (TokAt (wc.setCell ⟨wa.heap.size, 0, none⟩ (.int .i64 6)) 0 (some ⟨g, off, none⟩) l) := tok_far htb.out hgl.out
    obtain ⟨wd, hnxt⟩ : ∃ x, Hid ((wc.setCell ⟨wa.heap.size, 0, none⟩ (.int .i64 6)) = x) := ⟨_, hd9 rfl⟩
    clear c0 c2
    change Calls Tryz.prog 97 _ (wc.setCell ⟨wa.heap.size, 0, none⟩ (.int .i64 6)) _
    rw [hnxt.out] at hX hRb hBb htb ⊢
    clear hnxt
    refine (hnum.out wd).mono ?_
    rintro x w1 ⟨rfl, rfl⟩
    obtain ⟨xc0, xc1, xc2, xc3, xc4, xc5, xf0, xf1, xf2, xf3, xf4, xf5⟩ := cf6 hX.out
    have xlt := hX.out.lt
    obtain ⟨rc0, rc1, rc2, rc3, rc4, rc5, rc6, rc7, rc8, rf0, rf1, rf2, rf3, rf4, rf5, rf6, rf7, rf8⟩ := cf9 hRb.out
    have rlt := hRb.out.lt
    go_wp2_with fail
    refine bodyPost_ret (results_row rfl _ _ w.heap.size 65 _ _ rfl ((((((((((hRb.out.far (p := ⟨wa.heap.size, 4, none⟩) ne2 _).set_ 0 _).set_ 1 _).set_ 2 _).set_ 3 _).set_ 4 _).set_ 5 _).set_ 6 _).set_ 7 _).set_ 8 _) Tryz.underlying65 rfl (by kernel_rfl)) rfl ?_
    refine ⟨((((((((((hBb.out.setCell (p := ⟨wa.heap.size, 4, none⟩) (by show w.heap.size ≤ wa.heap.size; omega) _).setCell le9 _).setCell le9 _).setCell le9 _).setCell le9 _).setCell le9 _).setCell le9 _).setCell le9 _).setCell le9 _).setCell le9 _), .mk 6 0 f.text [] (numV t.text : Nat) none 0 [], by simp [gotV], tree_leaf _ _ _ _ _ _ _ _ _, by rw [strip_leaf]; try rfl⟩
   | false =>
    go_wp2_with fail
    clear c0 c2
    refine (hnum.out wc).mono ?_
    rintro x w1 ⟨rfl, rfl⟩
    obtain ⟨xc0, xc1, xc2, xc3, xc4, xc5, xf0, xf1, xf2, xf3, xf4, xf5⟩ := cf6 hX.out
    have xlt := hX.out.lt
    obtain ⟨rc0, rc1, rc2, rc3, rc4, rc5, rc6, rc7, rc8, rf0, rf1, rf2, rf3, rf4, rf5, rf6, rf7, rf8⟩ := cf9 hRb.out
    have rlt := hRb.out.lt
    go_wp2_with fail
    refine bodyPost_ret (results_row rfl _ _ w.heap.size 65 _ _ rfl ((((((((((hRb.out.far (p := ⟨wa.heap.size, 4, none⟩) ne2 _).set_ 0 _).set_ 1 _).set_ 2 _).set_ 3 _).set_ 4 _).set_ 5 _).set_ 6 _).set_ 7 _).set_ 8 _) Tryz.underlying65 rfl (by kernel_rfl)) rfl ?_
    refine ⟨((((((((((hBb.out.setCell (p := ⟨wa.heap.size, 4, none⟩) (by show w.heap.size ≤ wa.heap.size; omega) _).setCell le9 _).setCell le9 _).setCell le9 _).setCell le9 _).setCell le9 _).setCell le9 _).setCell le9 _).setCell le9 _).setCell le9 _), .mk 5 0 f.text [] (numV t.text : Nat) none 0 [], by simp [gotV], tree_leaf _ _ _ _ _ _ _ _ _, by rw [strip_leaf]; try rfl⟩
  | false =>
   have hbg : bge = true := by rcases hb with h | h <;> simp_all
   refine (ris_any _ m c l wb (i + 1) [60, 61] hm htb).mono ?_
   rintro x w1 ⟨rfl, rfl⟩
   rw [q6.out]
   go_wp2_with fail
   subst hbg
   refine (ris_any _ m c l wb (i + 1) [62, 61] hm htb).mono ?_
   rintro x w1 ⟨rfl, rfl⟩
   rw [q7.out]
   go_wp2_with fail
   clear c0 c2 xc0 xf0 xlt
   have hX := hd9 (hX.out.set_ 0 (.int .i64 5))
   have hRb := hd9 (hRb.out.far (p := ⟨wa.heap.size, 0, none⟩) ne2 (.int .i64 5))
   have hBb : Hid (Below w.heap.size w (wb.setCell ⟨wa.heap.size, 0, none⟩ (.int .i64 5))) := hBb.out.setCell (p := ⟨wa.heap.size, 0, none⟩) (by show w.heap.size ≤ wa.heap.size; omega) _
   have htb : Hid (TokAt (wb.setCell ⟨wa.heap.size, 0, none⟩ (.int .i64 5)) 0 (some ⟨g, off, none⟩) l) := tok_far htb.out hgl.out
   obtain ⟨wc, hnxt⟩ : ∃ x, Hid ((wb.setCell ⟨wa.heap.size, 0, none⟩ (.int .i64 5)) = x) := ⟨_, hd9 rfl⟩
   change Calls Tryz.prog 48 _ (wb.setCell ⟨wa.heap.size, 0, none⟩ (.int .i64 5)) _
   rw [hnxt.out] at hX hRb hBb htb ⊢
   clear hnxt
   refine (ris_any _ m c l wc (i + 1) [62, 61] hm htb).mono ?_
   rintro x w1 ⟨rfl, rfl⟩
   rw [q7.out]
   obtain ⟨c0, c2⟩ := htb.out.at_ ht.out
   have xc0 : wc.cell? ⟨wa.heap.size, 0, none⟩ = some (.int .i64 5) := hX.out.cell 0
   have xf0 := hX.out.frozen 0
   have xlt := hX.out.lt
   go_wp2_with fail
   clear xc0 xf0 xlt
   have hX := hd9 (hX.out.set_ 0 (.int .i64 6))
   have hRb := hd9 (hRb.out.far (p := ⟨wa.heap.size, 0, none⟩) ne2 (.int .i64 6))
   have hBb : Hid (Below w.heap.size w (wc.setCell ⟨wa.heap.size, 0, none⟩ (.int .i64 6))) := hBb.out.setCell (p := ⟨wa.heap.size, 0, none⟩) (by show w.heap.size ≤ wa.heap.size; omega) _
   have htb : Hid (TokAt (wc.setCell ⟨wa.heap.size, 0, none⟩ (.int .i64 6)) 0 (some ⟨g, off, none⟩) l) := tok_far htb.out hgl.out
   obtain ⟨wd, hnxt⟩ : ∃ x, Hid ((wc.setCell ⟨wa.heap.size, 0, none⟩ (.int .i64 6)) = x) := ⟨_, hd9 rfl⟩
   clear c0 c2
   change Calls Tryz.prog 97 _ (wc.setCell ⟨wa.heap.size, 0, none⟩ (.int .i64 6)) _
   rw [hnxt.out] at hX hRb hBb htb ⊢
   clear hnxt
   refine (hnum.out wd).mono ?_
   rintro x w1 ⟨rfl, rfl⟩
   obtain ⟨xc0, xc1, xc2, xc3, xc4, xc5, xf0, xf1, xf2, xf3, xf4, xf5⟩ := cf6 hX.out
   have xlt := hX.out.lt
   obtain ⟨rc0, rc1, rc2, rc3, rc4, rc5, rc6, rc7, rc8, rf0, rf1, rf2, rf3, rf4, rf5, rf6, rf7, rf8⟩ := cf9 hRb.out
   have rlt := hRb.out.lt
   go_wp2_with fail
   refine bodyPost_ret (results_row rfl _ _ w.heap.size 65 _ _ rfl ((((((((((hRb.out.far (p := ⟨wa.heap.size, 4, none⟩) ne2 _).set_ 0 _).set_ 1 _).set_ 2 _).set_ 3 _).set_ 4 _).set_ 5 _).set_ 6 _).set_ 7 _).set_ 8 _) Tryz.underlying65 rfl (by kernel_rfl)) rfl ?_
   refine ⟨((((((((((hBb.out.setCell (p := ⟨wa.heap.size, 4, none⟩) (by show w.heap.size ≤ wa.heap.size; omega) _).setCell le9 _).setCell le9 _).setCell le9 _).setCell le9 _).setCell le9 _).setCell le9 _).setCell le9 _).setCell le9 _).setCell le9 _), .mk 6 0 f.text [] (numV t.text : Nat) none 0 [], by simp [gotV], tree_leaf _ _ _ _ _ _ _ _ _, by rw [strip_leaf]; try rfl⟩
set_option maxRecDepth 100000 in
set_option maxHeartbeats 3200000 in
theorem ratom_text_ok (A : Option Addr) (m c e : Nat) (l : List Tok) (hm : Hid (l.length = m)) (hm4 : m ≤ 4096) (w : World) (i : Nat) (_hi : i ≤ m) (htk : Hid (TokAt w 0 A l)) (q1 : Hid (atI (isT [40]) l i = false)) (qn : Hid (atI (isT [110, 111, 116]) l i = false) ∨ Hid (atI (isT [110, 111, 116]) l i = true) ∧ Hid (atI cmpT l (i + 1) = true)) (hok : Hid (TokOk l)) (f : Tok) (hf : Hid (l[i]? = some f)) (hi2 : i + 2 ≤ m) (q4 : Hid (atI nameT l i = true)) (q5 : Hid (atI cmpT l (i + 1) = true)) (q6 : Hid (atI (isT [60, 61]) l (i + 1) = false)) (q7 : Hid (atI (isT [62, 61]) l (i + 1) = false)) (btl : Bool) (q8 : Hid (atI (isT [126]) l (i + 1) = btl)) (t : Tok) (ht : Hid (l[i + 2]? = some t)) (hk : t.kind = 3) :
  Calls Tryz.prog 148 #[.slice A m c, .int .i64 i, .int .i64 e] w (fun x w' => Below w.heap.size w w' ∧ ∃ T9, x = .returned (.agg (gotV T9 (i + 3))) ∧ TreeAt w' (fun b => w.heap.size ≤ b) T9 ∧ strip T9 = (.mk (if btl = true then 4 else 3) 0 f.text t.text 0 [])) := by
 have hb0 : Hid (Below w.heap.size w (w.alloc (.cells #[.int .i64 0, .int .i64 0, .string ⟨#[]⟩, .string ⟨#[]⟩, .int .i64 0, .slice none 0 0, .int .i64 0, .int .i64 0, .int .i64 0] 65))) := (Below.refl _ w).alloc le9 _
 have hR0 := hd9 (Blk.new w 65 #[.int .i64 0, .int .i64 0, .string ⟨#[]⟩, .string ⟨#[]⟩, .int .i64 0, .slice none 0 0, .int .i64 0, .int .i64 0, .int .i64 0])
 have ht0 := hd9 (htk.out.below hb0.out)
 have hs0 : Hid ((w.alloc (.cells #[.int .i64 0, .int .i64 0, .string ⟨#[]⟩, .string ⟨#[]⟩, .int .i64 0, .slice none 0 0, .int .i64 0, .int .i64 0, .int .i64 0] 65)).heap.size = w.heap.size + 1) := by unfold Hid; simp
 have w1x : IntKind.i64.wrap ((i : Int) + 1) = ((i + 1 : Nat) : Int) := by rw [IntWalk.i64_in _ (by omega)]; omega
 have w2x : IntKind.i64.wrap ((i : Int) + 2) = ((i + 2 : Nat) : Int) := by rw [IntWalk.i64_in _ (by omega)]; omega
 have w3x : IntKind.i64.wrap ((i : Int) + 2 + 1) = ((i + 3 : Nat) : Int) := by rw [IntWalk.i64_in _ (by omega)]; omega
 have w4x : IntKind.i64.wrap ((i : Int) + 2 + 2) = ((i + 4 : Nat) : Int) := by rw [IntWalk.i64_in _ (by omega)]; omega
 have w5x : IntKind.i64.wrap ((i : Int) + 2 + 3) = ((i + 5 : Nat) : Int) := by rw [IntWalk.i64_in _ (by omega)]; omega
 go_enter Tryz.func148, Tryz.ntmps148
 go_wp2_with fail
 obtain ⟨wa, hwa⟩ : ∃ x, Hid (w.alloc (.cells #[.int .i64 0, .int .i64 0, .string ⟨#[]⟩, .string ⟨#[]⟩, .int .i64 0, .slice none 0 0, .int .i64 0, .int .i64 0, .int .i64 0] 65) = x) := ⟨_, hd9 rfl⟩
 change Calls Tryz.prog 48 _ (w.alloc (.cells #[.int .i64 0, .int .i64 0, .string ⟨#[]⟩, .string ⟨#[]⟩, .int .i64 0, .slice none 0 0, .int .i64 0, .int .i64 0, .int .i64 0] 65)) _
 rw [hwa.out] at hb0 hR0 ht0 hs0 ⊢
 clear hwa
 refine (ris_any A m c l wa (i) [40] hm ht0).mono ?_
 rintro x w1 ⟨rfl, rfl⟩
 rw [q1.out]
 go_wp2_with fail
 rcases qn with q2 | ⟨q2, q3⟩
 ·refine (ris_any A m c l wa (i) [110, 111, 116] hm ht0).mono ?_
  rintro x w1 ⟨rfl, rfl⟩
  rw [q2.out]
  go_wp2_with fail
  have hfm : i < m := by omega
  have im : (i : Int) < (m : Int) := by omega
  have i0 : (0 : Int) ≤ (i : Int) := by omega
  obtain ⟨g, off, rfl, hg, h0, h1, h2⟩ := ht0.out i f hf.out
  refine (rnm_any _ m c l wa (i) hm hok ht0).mono ?_
  rintro x w1 ⟨rfl, rfl⟩
  rw [q4.out]
  go_wp2_with fail
  refine (rcmp_any _ m c l wa (i + 1) hm ht0).mono ?_
  rintro x w1 ⟨rfl, rfl⟩
  rw [q5.out]
  go_wp2_with fail
  have hbl : Below wa.heap.size wa (wa.alloc (.cells #[.int .i64 0, .int .i64 0, .string ⟨f.text.toArray⟩, .string ⟨#[]⟩, .int .i64 0, .slice none 0 0] 25)) := (Below.refl _ wa).alloc le9 _
  have hX := hd9 (Blk.new wa 25 #[.int .i64 0, .int .i64 0, .string ⟨f.text.toArray⟩, .string ⟨#[]⟩, .int .i64 0, .slice none 0 0])
  have hRb := hd9 (hR0.out.below hbl hR0.out.lt)
  have hBb := hd9 (hb0.out.trans (hbl.mono hb0.out.size))
  have htb := hd9 (ht0.out.below hbl)
  have hsz : w.heap.size + 1 ≤ wa.heap.size := by have := hs0.out; omega
  have ne1 : wa.heap.size ≠ w.heap.size := by omega
  have ne2 : w.heap.size ≠ wa.heap.size := by omega
  obtain ⟨wb, hwb⟩ : ∃ x, Hid (wa.alloc (.cells #[.int .i64 0, .int .i64 0, .string ⟨f.text.toArray⟩, .string ⟨#[]⟩, .int .i64 0, .slice none 0 0] 25) = x) := ⟨_, hd9 rfl⟩
  rw [hwb.out] at hX hRb hBb htb ⊢
  have hgl : Hid (g ≠ wa.heap.size) := by unfold Hid; have h9 : g < wa.heap.size := World.block_lt_of_cell? wa _ h0; omega
  clear hbl hwb h0 h1 h2 ht0 hR0 hb0
  have hk2 : i + 2 < m := by have := (List.getElem?_eq_some_iff.1 ht.out).1; have := hm.out; omega
  have km : ((i + 2 : Nat) : Int) < (m : Int) := by omega
  have k0 : (0 : Int) ≤ ((i + 2 : Nat) : Int) := by omega
  have bk : decide ((m : Int) ≤ ((i + 2 : Nat) : Int)) = false := by simp; omega
  have bk2 : decide (((i + 2 : Nat) : Int) < (m : Int)) = true := by simp; omega
  obtain ⟨c0, c2⟩ := htb.out.at_ ht.out
  have bt : (t.kind == 3) = true := by simp [hk]
  have xc0 : wb.cell? ⟨wa.heap.size, 0, none⟩ = some (.int .i64 0) := hX.out.cell 0
  have xf0 := hX.out.frozen 0
  have xlt := hX.out.lt
  refine (ris_any _ m c l wb (i + 1) [60, 61] hm htb).mono ?_
  rintro x w1 ⟨rfl, rfl⟩
  rw [q6.out]
  go_wp2_with fail
  refine (ris_any _ m c l wb (i + 1) [62, 61] hm htb).mono ?_
  rintro x w1 ⟨rfl, rfl⟩
  rw [q7.out]
  go_wp2_with fail
  clear c0 c2 xc0 xf0 xlt
  have hX := hd9 (hX.out.set_ 0 (.int .i64 3))
  have hRb := hd9 (hRb.out.far (p := ⟨wa.heap.size, 0, none⟩) ne2 (.int .i64 3))
  have hBb : Hid (Below w.heap.size w (wb.setCell ⟨wa.heap.size, 0, none⟩ (.int .i64 3))) := hBb.out.setCell (p := ⟨wa.heap.size, 0, none⟩) (by show w.heap.size ≤ wa.heap.size; omega) _
  have htb : Hid (TokAt (wb.setCell ⟨wa.heap.size, 0, none⟩ (.int .i64 3)) 0 (some ⟨g, off, none⟩) l) := tok_far htb.out hgl.out
  obtain ⟨wc, hnxt⟩ : ∃ x, Hid ((wb.setCell ⟨wa.heap.size, 0, none⟩ (.int .i64 3)) = x) := ⟨_, hd9 rfl⟩
  change Calls Tryz.prog 48 _ (wb.setCell ⟨wa.heap.size, 0, none⟩ (.int .i64 3)) _
  rw [hnxt.out] at hX hRb hBb htb ⊢
  clear hnxt
  refine (ris_any _ m c l wc (i + 1) [126] hm htb).mono ?_
  rintro x w1 ⟨rfl, rfl⟩
  rw [q8.out]
  obtain ⟨c0, c2⟩ := htb.out.at_ ht.out
  cases btl with
  | true =>
   obtain ⟨xc0, xc1, xc2, xc3, xc4, xc5, xf0, xf1, xf2, xf3, xf4, xf5⟩ := cf6 hX.out
   have xlt := hX.out.lt
   obtain ⟨rc0, rc1, rc2, rc3, rc4, rc5, rc6, rc7, rc8, rf0, rf1, rf2, rf3, rf4, rf5, rf6, rf7, rf8⟩ := cf9 hRb.out
   have rlt := hRb.out.lt
   go_wp2_with fail
   refine bodyPost_ret (results_row rfl _ _ w.heap.size 65 _ _ rfl (((((((((((hRb.out.far (p := ⟨wa.heap.size, 0, none⟩) ne2 _).far (p := ⟨wa.heap.size, 3, none⟩) ne2 _).set_ 0 _).set_ 1 _).set_ 2 _).set_ 3 _).set_ 4 _).set_ 5 _).set_ 6 _).set_ 7 _).set_ 8 _) Tryz.underlying65 rfl (by kernel_rfl)) rfl ?_
   refine ⟨(((((((((((hBb.out.setCell (p := ⟨wa.heap.size, 0, none⟩) (by show w.heap.size ≤ wa.heap.size; omega) _).setCell (p := ⟨wa.heap.size, 3, none⟩) (by show w.heap.size ≤ wa.heap.size; omega) _).setCell le9 _).setCell le9 _).setCell le9 _).setCell le9 _).setCell le9 _).setCell le9 _).setCell le9 _).setCell le9 _).setCell le9 _), .mk 4 0 f.text t.text 0 none 0 [], by simp [gotV], tree_leaf _ _ _ _ _ _ _ _ _, by rw [strip_leaf]; try rfl⟩
  | false =>
   obtain ⟨xc0, xc1, xc2, xc3, xc4, xc5, xf0, xf1, xf2, xf3, xf4, xf5⟩ := cf6 hX.out
   have xlt := hX.out.lt
   obtain ⟨rc0, rc1, rc2, rc3, rc4, rc5, rc6, rc7, rc8, rf0, rf1, rf2, rf3, rf4, rf5, rf6, rf7, rf8⟩ := cf9 hRb.out
   have rlt := hRb.out.lt
   go_wp2_with fail
   refine bodyPost_ret (results_row rfl _ _ w.heap.size 65 _ _ rfl ((((((((((hRb.out.far (p := ⟨wa.heap.size, 3, none⟩) ne2 _).set_ 0 _).set_ 1 _).set_ 2 _).set_ 3 _).set_ 4 _).set_ 5 _).set_ 6 _).set_ 7 _).set_ 8 _) Tryz.underlying65 rfl (by kernel_rfl)) rfl ?_
   refine ⟨((((((((((hBb.out.setCell (p := ⟨wa.heap.size, 3, none⟩) (by show w.heap.size ≤ wa.heap.size; omega) _).setCell le9 _).setCell le9 _).setCell le9 _).setCell le9 _).setCell le9 _).setCell le9 _).setCell le9 _).setCell le9 _).setCell le9 _), .mk 3 0 f.text t.text 0 none 0 [], by simp [gotV], tree_leaf _ _ _ _ _ _ _ _ _, by rw [strip_leaf]; try rfl⟩
 ·refine (ris_any A m c l wa (i) [110, 111, 116] hm ht0).mono ?_
  rintro x w1 ⟨rfl, rfl⟩
  rw [q2.out]
  go_wp2_with fail
  refine (rcmp_any A m c l wa (i + 1) hm ht0).mono ?_
  rintro x w1 ⟨rfl, rfl⟩
  rw [q3.out]
  go_wp2_with fail
  have hfm : i < m := by omega
  have im : (i : Int) < (m : Int) := by omega
  have i0 : (0 : Int) ≤ (i : Int) := by omega
  obtain ⟨g, off, rfl, hg, h0, h1, h2⟩ := ht0.out i f hf.out
  refine (rnm_any _ m c l wa (i) hm hok ht0).mono ?_
  rintro x w1 ⟨rfl, rfl⟩
  rw [q4.out]
  go_wp2_with fail
  refine (rcmp_any _ m c l wa (i + 1) hm ht0).mono ?_
  rintro x w1 ⟨rfl, rfl⟩
  rw [q5.out]
  go_wp2_with fail
  have hbl : Below wa.heap.size wa (wa.alloc (.cells #[.int .i64 0, .int .i64 0, .string ⟨f.text.toArray⟩, .string ⟨#[]⟩, .int .i64 0, .slice none 0 0] 25)) := (Below.refl _ wa).alloc le9 _
  have hX := hd9 (Blk.new wa 25 #[.int .i64 0, .int .i64 0, .string ⟨f.text.toArray⟩, .string ⟨#[]⟩, .int .i64 0, .slice none 0 0])
  have hRb := hd9 (hR0.out.below hbl hR0.out.lt)
  have hBb := hd9 (hb0.out.trans (hbl.mono hb0.out.size))
  have htb := hd9 (ht0.out.below hbl)
  have hsz : w.heap.size + 1 ≤ wa.heap.size := by have := hs0.out; omega
  have ne1 : wa.heap.size ≠ w.heap.size := by omega
  have ne2 : w.heap.size ≠ wa.heap.size := by omega
  obtain ⟨wb, hwb⟩ : ∃ x, Hid (wa.alloc (.cells #[.int .i64 0, .int .i64 0, .string ⟨f.text.toArray⟩, .string ⟨#[]⟩, .int .i64 0, .slice none 0 0] 25) = x) := ⟨_, hd9 rfl⟩
  rw [hwb.out] at hX hRb hBb htb ⊢
  have hgl : Hid (g ≠ wa.heap.size) := by unfold Hid; have h9 : g < wa.heap.size := World.block_lt_of_cell? wa _ h0; omega
  clear hbl hwb h0 h1 h2 ht0 hR0 hb0
  have hk2 : i + 2 < m := by have := (List.getElem?_eq_some_iff.1 ht.out).1; have := hm.out; omega
  have km : ((i + 2 : Nat) : Int) < (m : Int) := by omega
  have k0 : (0 : Int) ≤ ((i + 2 : Nat) : Int) := by omega
  have bk : decide ((m : Int) ≤ ((i + 2 : Nat) : Int)) = false := by simp; omega
  have bk2 : decide (((i + 2 : Nat) : Int) < (m : Int)) = true := by simp; omega
  obtain ⟨c0, c2⟩ := htb.out.at_ ht.out
  have bt : (t.kind == 3) = true := by simp [hk]
  have xc0 : wb.cell? ⟨wa.heap.size, 0, none⟩ = some (.int .i64 0) := hX.out.cell 0
  have xf0 := hX.out.frozen 0
  have xlt := hX.out.lt
  refine (ris_any _ m c l wb (i + 1) [60, 61] hm htb).mono ?_
  rintro x w1 ⟨rfl, rfl⟩
  rw [q6.out]
  go_wp2_with fail
  refine (ris_any _ m c l wb (i + 1) [62, 61] hm htb).mono ?_
  rintro x w1 ⟨rfl, rfl⟩
  rw [q7.out]
  go_wp2_with fail
  clear c0 c2 xc0 xf0 xlt
  have hX := hd9 (hX.out.set_ 0 (.int .i64 3))
  have hRb := hd9 (hRb.out.far (p := ⟨wa.heap.size, 0, none⟩) ne2 (.int .i64 3))
  have hBb : Hid (Below w.heap.size w (wb.setCell ⟨wa.heap.size, 0, none⟩ (.int .i64 3))) := hBb.out.setCell (p := ⟨wa.heap.size, 0, none⟩) (by show w.heap.size ≤ wa.heap.size; omega) _
  have htb : Hid (TokAt (wb.setCell ⟨wa.heap.size, 0, none⟩ (.int .i64 3)) 0 (some ⟨g, off, none⟩) l) := tok_far htb.out hgl.out
  obtain ⟨wc, hnxt⟩ : ∃ x, Hid ((wb.setCell ⟨wa.heap.size, 0, none⟩ (.int .i64 3)) = x) := ⟨_, hd9 rfl⟩
  change Calls Tryz.prog 48 _ (wb.setCell ⟨wa.heap.size, 0, none⟩ (.int .i64 3)) _
  rw [hnxt.out] at hX hRb hBb htb ⊢
  clear hnxt
  refine (ris_any _ m c l wc (i + 1) [126] hm htb).mono ?_
  rintro x w1 ⟨rfl, rfl⟩
  rw [q8.out]
  obtain ⟨c0, c2⟩ := htb.out.at_ ht.out
  cases btl with
  | true =>
   obtain ⟨xc0, xc1, xc2, xc3, xc4, xc5, xf0, xf1, xf2, xf3, xf4, xf5⟩ := cf6 hX.out
   have xlt := hX.out.lt
   obtain ⟨rc0, rc1, rc2, rc3, rc4, rc5, rc6, rc7, rc8, rf0, rf1, rf2, rf3, rf4, rf5, rf6, rf7, rf8⟩ := cf9 hRb.out
   have rlt := hRb.out.lt
   go_wp2_with fail
   refine bodyPost_ret (results_row rfl _ _ w.heap.size 65 _ _ rfl (((((((((((hRb.out.far (p := ⟨wa.heap.size, 0, none⟩) ne2 _).far (p := ⟨wa.heap.size, 3, none⟩) ne2 _).set_ 0 _).set_ 1 _).set_ 2 _).set_ 3 _).set_ 4 _).set_ 5 _).set_ 6 _).set_ 7 _).set_ 8 _) Tryz.underlying65 rfl (by kernel_rfl)) rfl ?_
   refine ⟨(((((((((((hBb.out.setCell (p := ⟨wa.heap.size, 0, none⟩) (by show w.heap.size ≤ wa.heap.size; omega) _).setCell (p := ⟨wa.heap.size, 3, none⟩) (by show w.heap.size ≤ wa.heap.size; omega) _).setCell le9 _).setCell le9 _).setCell le9 _).setCell le9 _).setCell le9 _).setCell le9 _).setCell le9 _).setCell le9 _).setCell le9 _), .mk 4 0 f.text t.text 0 none 0 [], by simp [gotV], tree_leaf _ _ _ _ _ _ _ _ _, by rw [strip_leaf]; try rfl⟩
  | false =>
   obtain ⟨xc0, xc1, xc2, xc3, xc4, xc5, xf0, xf1, xf2, xf3, xf4, xf5⟩ := cf6 hX.out
   have xlt := hX.out.lt
   obtain ⟨rc0, rc1, rc2, rc3, rc4, rc5, rc6, rc7, rc8, rf0, rf1, rf2, rf3, rf4, rf5, rf6, rf7, rf8⟩ := cf9 hRb.out
   have rlt := hRb.out.lt
   go_wp2_with fail
   refine bodyPost_ret (results_row rfl _ _ w.heap.size 65 _ _ rfl ((((((((((hRb.out.far (p := ⟨wa.heap.size, 3, none⟩) ne2 _).set_ 0 _).set_ 1 _).set_ 2 _).set_ 3 _).set_ 4 _).set_ 5 _).set_ 6 _).set_ 7 _).set_ 8 _) Tryz.underlying65 rfl (by kernel_rfl)) rfl ?_
   refine ⟨((((((((((hBb.out.setCell (p := ⟨wa.heap.size, 3, none⟩) (by show w.heap.size ≤ wa.heap.size; omega) _).setCell le9 _).setCell le9 _).setCell le9 _).setCell le9 _).setCell le9 _).setCell le9 _).setCell le9 _).setCell le9 _).setCell le9 _), .mk 3 0 f.text t.text 0 none 0 [], by simp [gotV], tree_leaf _ _ _ _ _ _ _ _ _, by rw [strip_leaf]; try rfl⟩
end Go.Proofs.YtjkmhlfjheiekaaGreatDoor

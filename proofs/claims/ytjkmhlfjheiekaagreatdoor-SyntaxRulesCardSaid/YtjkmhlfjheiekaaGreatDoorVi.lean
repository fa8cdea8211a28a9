/- The document's reader of rules: an atom (walk of atom, its other half). -/
import Derived.Test.YtjkmhlfjheiekaaGreatDoorVd
namespace Go.Proofs.YtjkmhlfjheiekaaGreatDoor
open Go Go.RowKit Go.BigFrame Go.Maps


set_option maxRecDepth 100000 in
set_option maxHeartbeats 3200000 in
theorem ratom_text_no (A : Option Addr) (m c e : Nat) (l : List Tok) (hm : Hid (l.length = m)) (hm4 : m ≤ 4096) (w : World) (i : Nat) (_hi : i ≤ m) (htk : Hid (TokAt w 0 A l)) (q1 : Hid (atI (isT [40]) l i = false)) (qn : Hid (atI (isT [110, 111, 116]) l i = false) ∨ Hid (atI (isT [110, 111, 116]) l i = true) ∧ Hid (atI cmpT l (i + 1) = true)) (hok : Hid (TokOk l)) (f : Tok) (hf : Hid (l[i]? = some f)) (hi2 : i + 2 ≤ m) (q4 : Hid (atI nameT l i = true)) (q5 : Hid (atI cmpT l (i + 1) = true)) (q6 : Hid (atI (isT [60, 61]) l (i + 1) = false)) (q7 : Hid (atI (isT [62, 61]) l (i + 1) = false)) (hk3 : m ≤ i + 2 ∨ ∃ t, l[i + 2]? = some t ∧ t.kind ≠ 3) (q8 : Hid (atI (isT [126]) l (i + 1) = true)) :
    Calls Tryz.prog 148 #[.slice A m c, .int .i64 i, .int .i64 e] w (fun x w' => Below w.heap.size w w' ∧ x = .returned (.agg (gotE 2 (placeI e l (i + 2))))) := by
  have hb0 : Hid (Below w.heap.size w (w.alloc (.cells #[.int .i64 0, .int .i64 0, .string ⟨#[]⟩, .string ⟨#[]⟩, .int .i64 0, .slice none 0 0, .int .i64 0, .int .i64 0, .int .i64 0] 65))) := (Below.refl _ w).alloc (Nat.le_refl _) _
  have hR0 := Lib.hid (Blk.new w 65 #[.int .i64 0, .int .i64 0, .string ⟨#[]⟩, .string ⟨#[]⟩, .int .i64 0, .slice none 0 0, .int .i64 0, .int .i64 0, .int .i64 0])
  have ht0 := Lib.hid (htk.out.below hb0.out)
  have hs0 : Hid ((w.alloc (.cells #[.int .i64 0, .int .i64 0, .string ⟨#[]⟩, .string ⟨#[]⟩, .int .i64 0, .slice none 0 0, .int .i64 0, .int .i64 0, .int .i64 0] 65)).heap.size = w.heap.size + 1) := by unfold Hid; simp
  have w1x : IntKind.i64.wrap ((i : Int) + 1) = ((i + 1 : Nat) : Int) := by rw [IntWalk.i64_in _ (by omega)]; omega
  have w2x : IntKind.i64.wrap ((i : Int) + 2) = ((i + 2 : Nat) : Int) := by rw [IntWalk.i64_in _ (by omega)]; omega
  go_enter Tryz.func148, Tryz.ntmps148
  go_wp2_with fail
  obtain ⟨wa, hwa⟩ : ∃ x, Hid (w.alloc (.cells #[.int .i64 0, .int .i64 0, .string ⟨#[]⟩, .string ⟨#[]⟩, .int .i64 0, .slice none 0 0, .int .i64 0, .int .i64 0, .int .i64 0] 65) = x) := ⟨_, Lib.hid rfl⟩
  change Calls Tryz.prog 48 _ (w.alloc (.cells #[.int .i64 0, .int .i64 0, .string ⟨#[]⟩, .string ⟨#[]⟩, .int .i64 0, .slice none 0 0, .int .i64 0, .int .i64 0, .int .i64 0] 65)) _
  rw [hwa.out] at hb0 hR0 ht0 hs0 ⊢
  clear hwa
  refine (ris_any A m c l wa (i) [40] hm ht0).mono ?_
  rintro x w1 ⟨rfl, rfl⟩
  rw [q1.out]
  go_wp2_with fail
  rcases qn with q2 | ⟨q2, q3⟩
  · refine (ris_any A m c l wa (i) [110, 111, 116] hm ht0).mono ?_
    rintro x w1 ⟨rfl, rfl⟩
    rw [q2.out]
    go_wp2_with fail
    have hfm : i < m := by omega
    have im : (i : Int) < (m : Int) := by omega
    have i0 : (0 : Int) ≤ (i : Int) := by omega
    obtain ⟨g, off, rfl, hg, h0, h1, h2⟩ := ht0.out i f hf.out
    refine (rnm_any _ m c l wa (i) hm hok ht0).mono ?_
    rintro x w1 ⟨rfl, rfl⟩
    rw [q4.out]
    go_wp2_with fail
    refine (rcmp_any _ m c l wa (i + 1) hm ht0).mono ?_
    rintro x w1 ⟨rfl, rfl⟩
    rw [q5.out]
    go_wp2_with fail
    have hbl : Below wa.heap.size wa (wa.alloc (.cells #[.int .i64 0, .int .i64 0, .string ⟨f.text.toArray⟩, .string ⟨#[]⟩, .int .i64 0, .slice none 0 0] 25)) := (Below.refl _ wa).alloc (Nat.le_refl _) _
    have hX := Lib.hid (Blk.new wa 25 #[.int .i64 0, .int .i64 0, .string ⟨f.text.toArray⟩, .string ⟨#[]⟩, .int .i64 0, .slice none 0 0])
    have hRb := Lib.hid (hR0.out.below hbl hR0.out.lt)
    have hBb := Lib.hid (hb0.out.trans (hbl.mono hb0.out.size))
    have htb := Lib.hid (ht0.out.below hbl)
    have hsz : w.heap.size + 1 ≤ wa.heap.size := by have := hs0.out; omega
    have ne1 : wa.heap.size ≠ w.heap.size := by omega
    have ne2 : w.heap.size ≠ wa.heap.size := by omega
    obtain ⟨wb, hwb⟩ : ∃ x, Hid (wa.alloc (.cells #[.int .i64 0, .int .i64 0, .string ⟨f.text.toArray⟩, .string ⟨#[]⟩, .int .i64 0, .slice none 0 0] 25) = x) := ⟨_, Lib.hid rfl⟩
    rw [hwb.out] at hX hRb hBb htb ⊢
    have hgl : Hid (g ≠ wa.heap.size) := by unfold Hid; have h9 : g < wa.heap.size := World.block_lt_of_cell? wa _ h0; omega
    clear hbl hwb h0 h1 h2 ht0 hR0 hb0
    have hkk : (¬ i + 2 < m ∧ decide (((i + 2 : Nat) : Int) < (m : Int)) = false) ∨ (∃ kd : Int, i + 2 < m ∧ decide (((i + 2 : Nat) : Int) < (m : Int)) = true ∧ ((i + 2 : Nat) : Int) < (m : Int) ∧ (kd == 3) = false ∧ wb.cell? ⟨g, off + (i + 2) * 3, none⟩ = some (.int .i64 kd)) := by
      rcases hk3 with h | ⟨t, ht, hk⟩
      · exact .inl ⟨by omega, by simp; omega⟩
      · have hk2 : i + 2 < m := by have := (List.getElem?_eq_some_iff.1 ht).1; have := hm.out; omega
        exact .inr ⟨t.kind, hk2, by simp; omega, by omega, by simp [hk], (htb.out.at_ ht).1⟩
    have k0 : (0 : Int) ≤ ((i + 2 : Nat) : Int) := by omega
    rcases hkk with ⟨z1, z2⟩ | ⟨kd, z1, z2, z3, z4, z5⟩
    · refine (ris_any _ m c l wb (i + 1) [60, 61] hm htb).mono ?_
      rintro x w1 ⟨rfl, rfl⟩
      rw [q6.out]
      go_wp2_with fail
      refine (ris_any _ m c l wb (i + 1) [62, 61] hm htb).mono ?_
      rintro x w1 ⟨rfl, rfl⟩
      rw [q7.out]
      go_wp2_with fail
      refine (ris_any _ m c l wb (i + 1) [126] hm htb).mono ?_
      rintro x w1 ⟨rfl, rfl⟩
      rw [q8.out]
      go_wp2_with fail
      obtain ⟨pl, hpl⟩ : ∃ k, Hid (placeI e l (i + 2) = k) := ⟨_, Lib.hid rfl⟩
      refine (rwrong_any _ m c l wb e (i + 2) hm htb).mono ?_
      rintro x wz ⟨rfl, hbz⟩
      rw [hpl.out]
      have hB := Lib.hid (hBb.out.trans (hbz.mono hBb.out.size))
      have hR := Lib.hid (hRb.out.below hbz hRb.out.lt)
      clear hbz
      unfold gotE
      have rc0 : wz.cell? ⟨w.heap.size, 0, none⟩ = some (.int .i64 0) := hR.out.cell 0
      have rc1 : wz.cell? ⟨w.heap.size, 1, none⟩ = some (.int .i64 0) := hR.out.cell 1
      have rc2 : wz.cell? ⟨w.heap.size, 2, none⟩ = some (.string ⟨#[]⟩) := hR.out.cell 2
      have rc3 : wz.cell? ⟨w.heap.size, 3, none⟩ = some (.string ⟨#[]⟩) := hR.out.cell 3
      have rc4 : wz.cell? ⟨w.heap.size, 4, none⟩ = some (.int .i64 0) := hR.out.cell 4
      have rc5 : wz.cell? ⟨w.heap.size, 5, none⟩ = some (.slice none 0 0) := hR.out.cell 5
      have rc6 : wz.cell? ⟨w.heap.size, 6, none⟩ = some (.int .i64 0) := hR.out.cell 6
      have rc7 : wz.cell? ⟨w.heap.size, 7, none⟩ = some (.int .i64 0) := hR.out.cell 7
      have rc8 : wz.cell? ⟨w.heap.size, 8, none⟩ = some (.int .i64 0) := hR.out.cell 8
      have rf0 := hR.out.frozen 0
      have rf1 := hR.out.frozen 1
      have rf2 := hR.out.frozen 2
      have rf3 := hR.out.frozen 3
      have rf4 := hR.out.frozen 4
      have rf5 := hR.out.frozen 5
      have rf6 := hR.out.frozen 6
      have rf7 := hR.out.frozen 7
      have rf8 := hR.out.frozen 8
      have rlt := hR.out.lt
      go_wp2_with fail
      refine bodyPost_ret (results_row rfl _ _ w.heap.size 65 _ _ rfl (((((((((hR.out.set_ 0 _).set_ 1 _).set_ 2 _).set_ 3 _).set_ 4 _).set_ 5 _).set_ 6 _).set_ 7 _).set_ 8 _) Tryz.underlying65 rfl (by kernel_rfl)) rfl ?_
      exact ⟨(((((((((hB.out.setCell (Nat.le_refl _) _).setCell (Nat.le_refl _) _).setCell (Nat.le_refl _) _).setCell (Nat.le_refl _) _).setCell (Nat.le_refl _) _).setCell (Nat.le_refl _) _).setCell (Nat.le_refl _) _).setCell (Nat.le_refl _) _).setCell (Nat.le_refl _) _), by rw [hpl.out]; rfl⟩
    · refine (ris_any _ m c l wb (i + 1) [60, 61] hm htb).mono ?_
      rintro x w1 ⟨rfl, rfl⟩
      rw [q6.out]
      go_wp2_with fail
      refine (ris_any _ m c l wb (i + 1) [62, 61] hm htb).mono ?_
      rintro x w1 ⟨rfl, rfl⟩
      rw [q7.out]
      go_wp2_with fail
      refine (ris_any _ m c l wb (i + 1) [126] hm htb).mono ?_
      rintro x w1 ⟨rfl, rfl⟩
      rw [q8.out]
      go_wp2_with fail
      obtain ⟨pl, hpl⟩ : ∃ k, Hid (placeI e l (i + 2) = k) := ⟨_, Lib.hid rfl⟩
      refine (rwrong_any _ m c l wb e (i + 2) hm htb).mono ?_
      rintro x wz ⟨rfl, hbz⟩
      rw [hpl.out]
      have hB := Lib.hid (hBb.out.trans (hbz.mono hBb.out.size))
      have hR := Lib.hid (hRb.out.below hbz hRb.out.lt)
      clear hbz
      unfold gotE
      have rc0 : wz.cell? ⟨w.heap.size, 0, none⟩ = some (.int .i64 0) := hR.out.cell 0
      have rc1 : wz.cell? ⟨w.heap.size, 1, none⟩ = some (.int .i64 0) := hR.out.cell 1
      have rc2 : wz.cell? ⟨w.heap.size, 2, none⟩ = some (.string ⟨#[]⟩) := hR.out.cell 2
      have rc3 : wz.cell? ⟨w.heap.size, 3, none⟩ = some (.string ⟨#[]⟩) := hR.out.cell 3
      have rc4 : wz.cell? ⟨w.heap.size, 4, none⟩ = some (.int .i64 0) := hR.out.cell 4
      have rc5 : wz.cell? ⟨w.heap.size, 5, none⟩ = some (.slice none 0 0) := hR.out.cell 5
      have rc6 : wz.cell? ⟨w.heap.size, 6, none⟩ = some (.int .i64 0) := hR.out.cell 6
      have rc7 : wz.cell? ⟨w.heap.size, 7, none⟩ = some (.int .i64 0) := hR.out.cell 7
      have rc8 : wz.cell? ⟨w.heap.size, 8, none⟩ = some (.int .i64 0) := hR.out.cell 8
      have rf0 := hR.out.frozen 0
      have rf1 := hR.out.frozen 1
      have rf2 := hR.out.frozen 2
      have rf3 := hR.out.frozen 3
      have rf4 := hR.out.frozen 4
      have rf5 := hR.out.frozen 5
      have rf6 := hR.out.frozen 6
      have rf7 := hR.out.frozen 7
      have rf8 := hR.out.frozen 8
      have rlt := hR.out.lt
      go_wp2_with fail
      refine bodyPost_ret (results_row rfl _ _ w.heap.size 65 _ _ rfl (((((((((hR.out.set_ 0 _).set_ 1 _).set_ 2 _).set_ 3 _).set_ 4 _).set_ 5 _).set_ 6 _).set_ 7 _).set_ 8 _) Tryz.underlying65 rfl (by kernel_rfl)) rfl ?_
      exact ⟨(((((((((hB.out.setCell (Nat.le_refl _) _).setCell (Nat.le_refl _) _).setCell (Nat.le_refl _) _).setCell (Nat.le_refl _) _).setCell (Nat.le_refl _) _).setCell (Nat.le_refl _) _).setCell (Nat.le_refl _) _).setCell (Nat.le_refl _) _).setCell (Nat.le_refl _) _), by rw [hpl.out]; rfl⟩
  · refine (ris_any A m c l wa (i) [110, 111, 116] hm ht0).mono ?_
    rintro x w1 ⟨rfl, rfl⟩
    rw [q2.out]
    go_wp2_with fail
    refine (rcmp_any A m c l wa (i + 1) hm ht0).mono ?_
    rintro x w1 ⟨rfl, rfl⟩
    rw [q3.out]
    go_wp2_with fail
    have hfm : i < m := by omega
    have im : (i : Int) < (m : Int) := by omega
    have i0 : (0 : Int) ≤ (i : Int) := by omega
    obtain ⟨g, off, rfl, hg, h0, h1, h2⟩ := ht0.out i f hf.out
    refine (rnm_any _ m c l wa (i) hm hok ht0).mono ?_
    rintro x w1 ⟨rfl, rfl⟩
    rw [q4.out]
    go_wp2_with fail
    refine (rcmp_any _ m c l wa (i + 1) hm ht0).mono ?_
    rintro x w1 ⟨rfl, rfl⟩
    rw [q5.out]
    go_wp2_with fail
    have hbl : Below wa.heap.size wa (wa.alloc (.cells #[.int .i64 0, .int .i64 0, .string ⟨f.text.toArray⟩, .string ⟨#[]⟩, .int .i64 0, .slice none 0 0] 25)) := (Below.refl _ wa).alloc (Nat.le_refl _) _
    have hX := Lib.hid (Blk.new wa 25 #[.int .i64 0, .int .i64 0, .string ⟨f.text.toArray⟩, .string ⟨#[]⟩, .int .i64 0, .slice none 0 0])
    have hRb := Lib.hid (hR0.out.below hbl hR0.out.lt)
    have hBb := Lib.hid (hb0.out.trans (hbl.mono hb0.out.size))
    have htb := Lib.hid (ht0.out.below hbl)
    have hsz : w.heap.size + 1 ≤ wa.heap.size := by have := hs0.out; omega
    have ne1 : wa.heap.size ≠ w.heap.size := by omega
    have ne2 : w.heap.size ≠ wa.heap.size := by omega
    obtain ⟨wb, hwb⟩ : ∃ x, Hid (wa.alloc (.cells #[.int .i64 0, .int .i64 0, .string ⟨f.text.toArray⟩, .string ⟨#[]⟩, .int .i64 0, .slice none 0 0] 25) = x) := ⟨_, Lib.hid rfl⟩
    rw [hwb.out] at hX hRb hBb htb ⊢
    have hgl : Hid (g ≠ wa.heap.size) := by unfold Hid; have h9 : g < wa.heap.size := World.block_lt_of_cell? wa _ h0; omega
    clear hbl hwb h0 h1 h2 ht0 hR0 hb0
    have hkk : (¬ i + 2 < m ∧ decide (((i + 2 : Nat) : Int) < (m : Int)) = false) ∨ (∃ kd : Int, i + 2 < m ∧ decide (((i + 2 : Nat) : Int) < (m : Int)) = true ∧ ((i + 2 : Nat) : Int) < (m : Int) ∧ (kd == 3) = false ∧ wb.cell? ⟨g, off + (i + 2) * 3, none⟩ = some (.int .i64 kd)) := by
      rcases hk3 with h | ⟨t, ht, hk⟩
      · exact .inl ⟨by omega, by simp; omega⟩
      · have hk2 : i + 2 < m := by have := (List.getElem?_eq_some_iff.1 ht).1; have := hm.out; omega
        exact .inr ⟨t.kind, hk2, by simp; omega, by omega, by simp [hk], (htb.out.at_ ht).1⟩
    have k0 : (0 : Int) ≤ ((i + 2 : Nat) : Int) := by omega
    rcases hkk with ⟨z1, z2⟩ | ⟨kd, z1, z2, z3, z4, z5⟩
    · refine (ris_any _ m c l wb (i + 1) [60, 61] hm htb).mono ?_
      rintro x w1 ⟨rfl, rfl⟩
      rw [q6.out]
      go_wp2_with fail
      refine (ris_any _ m c l wb (i + 1) [62, 61] hm htb).mono ?_
      rintro x w1 ⟨rfl, rfl⟩
      rw [q7.out]
      go_wp2_with fail
      refine (ris_any _ m c l wb (i + 1) [126] hm htb).mono ?_
      rintro x w1 ⟨rfl, rfl⟩
      rw [q8.out]
      go_wp2_with fail
      obtain ⟨pl, hpl⟩ : ∃ k, Hid (placeI e l (i + 2) = k) := ⟨_, Lib.hid rfl⟩
      refine (rwrong_any _ m c l wb e (i + 2) hm htb).mono ?_
      rintro x wz ⟨rfl, hbz⟩
      rw [hpl.out]
      have hB := Lib.hid (hBb.out.trans (hbz.mono hBb.out.size))
      have hR := Lib.hid (hRb.out.below hbz hRb.out.lt)
      clear hbz
      unfold gotE
      have rc0 : wz.cell? ⟨w.heap.size, 0, none⟩ = some (.int .i64 0) := hR.out.cell 0
      have rc1 : wz.cell? ⟨w.heap.size, 1, none⟩ = some (.int .i64 0) := hR.out.cell 1
      have rc2 : wz.cell? ⟨w.heap.size, 2, none⟩ = some (.string ⟨#[]⟩) := hR.out.cell 2
      have rc3 : wz.cell? ⟨w.heap.size, 3, none⟩ = some (.string ⟨#[]⟩) := hR.out.cell 3
      have rc4 : wz.cell? ⟨w.heap.size, 4, none⟩ = some (.int .i64 0) := hR.out.cell 4
      have rc5 : wz.cell? ⟨w.heap.size, 5, none⟩ = some (.slice none 0 0) := hR.out.cell 5
      have rc6 : wz.cell? ⟨w.heap.size, 6, none⟩ = some (.int .i64 0) := hR.out.cell 6
      have rc7 : wz.cell? ⟨w.heap.size, 7, none⟩ = some (.int .i64 0) := hR.out.cell 7
      have rc8 : wz.cell? ⟨w.heap.size, 8, none⟩ = some (.int .i64 0) := hR.out.cell 8
      have rf0 := hR.out.frozen 0
      have rf1 := hR.out.frozen 1
      have rf2 := hR.out.frozen 2
      have rf3 := hR.out.frozen 3
      have rf4 := hR.out.frozen 4
      have rf5 := hR.out.frozen 5
      have rf6 := hR.out.frozen 6
      have rf7 := hR.out.frozen 7
      have rf8 := hR.out.frozen 8
      have rlt := hR.out.lt
      go_wp2_with fail
      refine bodyPost_ret (results_row rfl _ _ w.heap.size 65 _ _ rfl (((((((((hR.out.set_ 0 _).set_ 1 _).set_ 2 _).set_ 3 _).set_ 4 _).set_ 5 _).set_ 6 _).set_ 7 _).set_ 8 _) Tryz.underlying65 rfl (by kernel_rfl)) rfl ?_
      exact ⟨(((((((((hB.out.setCell (Nat.le_refl _) _).setCell (Nat.le_refl _) _).setCell (Nat.le_refl _) _).setCell (Nat.le_refl _) _).setCell (Nat.le_refl _) _).setCell (Nat.le_refl _) _).setCell (Nat.le_refl _) _).setCell (Nat.le_refl _) _).setCell (Nat.le_refl _) _), by rw [hpl.out]; rfl⟩
    · refine (ris_any _ m c l wb (i + 1) [60, 61] hm htb).mono ?_
      rintro x w1 ⟨rfl, rfl⟩
      rw [q6.out]
      go_wp2_with fail
      refine (ris_any _ m c l wb (i + 1) [62, 61] hm htb).mono ?_
      rintro x w1 ⟨rfl, rfl⟩
      rw [q7.out]
      go_wp2_with fail
      refine (ris_any _ m c l wb (i + 1) [126] hm htb).mono ?_
      rintro x w1 ⟨rfl, rfl⟩
      rw [q8.out]
      go_wp2_with fail
      obtain ⟨pl, hpl⟩ : ∃ k, Hid (placeI e l (i + 2) = k) := ⟨_, Lib.hid rfl⟩
      refine (rwrong_any _ m c l wb e (i + 2) hm htb).mono ?_
      rintro x wz ⟨rfl, hbz⟩
      rw [hpl.out]
      have hB := Lib.hid (hBb.out.trans (hbz.mono hBb.out.size))
      have hR := Lib.hid (hRb.out.below hbz hRb.out.lt)
      clear hbz
      unfold gotE
      have rc0 : wz.cell? ⟨w.heap.size, 0, none⟩ = some (.int .i64 0) := hR.out.cell 0
      have rc1 : wz.cell? ⟨w.heap.size, 1, none⟩ = some (.int .i64 0) := hR.out.cell 1
      have rc2 : wz.cell? ⟨w.heap.size, 2, none⟩ = some (.string ⟨#[]⟩) := hR.out.cell 2
      have rc3 : wz.cell? ⟨w.heap.size, 3, none⟩ = some (.string ⟨#[]⟩) := hR.out.cell 3
      have rc4 : wz.cell? ⟨w.heap.size, 4, none⟩ = some (.int .i64 0) := hR.out.cell 4
      have rc5 : wz.cell? ⟨w.heap.size, 5, none⟩ = some (.slice none 0 0) := hR.out.cell 5
      have rc6 : wz.cell? ⟨w.heap.size, 6, none⟩ = some (.int .i64 0) := hR.out.cell 6
      have rc7 : wz.cell? ⟨w.heap.size, 7, none⟩ = some (.int .i64 0) := hR.out.cell 7
      have rc8 : wz.cell? ⟨w.heap.size, 8, none⟩ = some (.int .i64 0) := hR.out.cell 8
      have rf0 := hR.out.frozen 0
      have rf1 := hR.out.frozen 1
      have rf2 := hR.out.frozen 2
      have rf3 := hR.out.frozen 3
      have rf4 := hR.out.frozen 4
      have rf5 := hR.out.frozen 5
      have rf6 := hR.out.frozen 6
      have rf7 := hR.out.frozen 7
      have rf8 := hR.out.frozen 8
      have rlt := hR.out.lt
      go_wp2_with fail
      refine bodyPost_ret (results_row rfl _ _ w.heap.size 65 _ _ rfl (((((((((hR.out.set_ 0 _).set_ 1 _).set_ 2 _).set_ 3 _).set_ 4 _).set_ 5 _).set_ 6 _).set_ 7 _).set_ 8 _) Tryz.underlying65 rfl (by kernel_rfl)) rfl ?_
      exact ⟨(((((((((hB.out.setCell (Nat.le_refl _) _).setCell (Nat.le_refl _) _).setCell (Nat.le_refl _) _).setCell (Nat.le_refl _) _).setCell (Nat.le_refl _) _).setCell (Nat.le_refl _) _).setCell (Nat.le_refl _) _).setCell (Nat.le_refl _) _).setCell (Nat.le_refl _) _), by rw [hpl.out]; rfl⟩


set_option maxRecDepth 100000 in
set_option maxHeartbeats 3200000 in
theorem ratom_paper_no (A : Option Addr) (m c e : Nat) (l : List Tok) (hm : Hid (l.length = m)) (hm4 : m ≤ 4096) (w : World) (i : Nat) (_hi : i ≤ m) (htk : Hid (TokAt w 0 A l)) (q1 : Hid (atI (isT [40]) l i = false)) (qn : Hid (atI (isT [110, 111, 116]) l i = false) ∨ Hid (atI (isT [110, 111, 116]) l i = true) ∧ Hid (atI cmpT l (i + 1) = true)) (hok : Hid (TokOk l)) (f : Tok) (hf : Hid (l[i]? = some f)) (hi2 : i + 2 ≤ m) (q4 : Hid (atI nameT l i = true)) (q5 : Hid (atI cmpT l (i + 1) = true)) (q6 : Hid (atI (isT [60, 61]) l (i + 1) = false)) (q7 : Hid (atI (isT [62, 61]) l (i + 1) = false)) (hk3 : m ≤ i + 2 ∨ ∃ t, l[i + 2]? = some t ∧ t.kind ≠ 3) (q8 : Hid (atI (isT [126]) l (i + 1) = false)) (pv : Int) (qp : Hid (papI l (i + 2) = pv)) (hpv : pv < 0) :
    Calls Tryz.prog 148 #[.slice A m c, .int .i64 i, .int .i64 e] w (fun x w' => Below w.heap.size w w' ∧ x = .returned (.agg (gotE 2 (placeI e l (i + 2))))) := by
  have hb0 : Hid (Below w.heap.size w (w.alloc (.cells #[.int .i64 0, .int .i64 0, .string ⟨#[]⟩, .string ⟨#[]⟩, .int .i64 0, .slice none 0 0, .int .i64 0, .int .i64 0, .int .i64 0] 65))) := (Below.refl _ w).alloc (Nat.le_refl _) _
  have hR0 := Lib.hid (Blk.new w 65 #[.int .i64 0, .int .i64 0, .string ⟨#[]⟩, .string ⟨#[]⟩, .int .i64 0, .slice none 0 0, .int .i64 0, .int .i64 0, .int .i64 0])
  have ht0 := Lib.hid (htk.out.below hb0.out)
  have hs0 : Hid ((w.alloc (.cells #[.int .i64 0, .int .i64 0, .string ⟨#[]⟩, .string ⟨#[]⟩, .int .i64 0, .slice none 0 0, .int .i64 0, .int .i64 0, .int .i64 0] 65)).heap.size = w.heap.size + 1) := by unfold Hid; simp
  have w1x : IntKind.i64.wrap ((i : Int) + 1) = ((i + 1 : Nat) : Int) := by rw [IntWalk.i64_in _ (by omega)]; omega
  have w2x : IntKind.i64.wrap ((i : Int) + 2) = ((i + 2 : Nat) : Int) := by rw [IntWalk.i64_in _ (by omega)]; omega
  go_enter Tryz.func148, Tryz.ntmps148
  go_wp2_with fail
  obtain ⟨wa, hwa⟩ : ∃ x, Hid (w.alloc (.cells #[.int .i64 0, .int .i64 0, .string ⟨#[]⟩, .string ⟨#[]⟩, .int .i64 0, .slice none 0 0, .int .i64 0, .int .i64 0, .int .i64 0] 65) = x) := ⟨_, Lib.hid rfl⟩
  change Calls Tryz.prog 48 _ (w.alloc (.cells #[.int .i64 0, .int .i64 0, .string ⟨#[]⟩, .string ⟨#[]⟩, .int .i64 0, .slice none 0 0, .int .i64 0, .int .i64 0, .int .i64 0] 65)) _
  rw [hwa.out] at hb0 hR0 ht0 hs0 ⊢
  clear hwa
  refine (ris_any A m c l wa (i) [40] hm ht0).mono ?_
  rintro x w1 ⟨rfl, rfl⟩
  rw [q1.out]
  go_wp2_with fail
  rcases qn with q2 | ⟨q2, q3⟩
  · refine (ris_any A m c l wa (i) [110, 111, 116] hm ht0).mono ?_
    rintro x w1 ⟨rfl, rfl⟩
    rw [q2.out]
    go_wp2_with fail
    have bpv : decide (pv < 0) = true := by simp [hpv]
    have hfm : i < m := by omega
    have im : (i : Int) < (m : Int) := by omega
    have i0 : (0 : Int) ≤ (i : Int) := by omega
    obtain ⟨g, off, rfl, hg, h0, h1, h2⟩ := ht0.out i f hf.out
    refine (rnm_any _ m c l wa (i) hm hok ht0).mono ?_
    rintro x w1 ⟨rfl, rfl⟩
    rw [q4.out]
    go_wp2_with fail
    refine (rcmp_any _ m c l wa (i + 1) hm ht0).mono ?_
    rintro x w1 ⟨rfl, rfl⟩
    rw [q5.out]
    go_wp2_with fail
    have hbl : Below wa.heap.size wa (wa.alloc (.cells #[.int .i64 0, .int .i64 0, .string ⟨f.text.toArray⟩, .string ⟨#[]⟩, .int .i64 0, .slice none 0 0] 25)) := (Below.refl _ wa).alloc (Nat.le_refl _) _
    have hX := Lib.hid (Blk.new wa 25 #[.int .i64 0, .int .i64 0, .string ⟨f.text.toArray⟩, .string ⟨#[]⟩, .int .i64 0, .slice none 0 0])
    have hRb := Lib.hid (hR0.out.below hbl hR0.out.lt)
    have hBb := Lib.hid (hb0.out.trans (hbl.mono hb0.out.size))
    have htb := Lib.hid (ht0.out.below hbl)
    have hsz : w.heap.size + 1 ≤ wa.heap.size := by have := hs0.out; omega
    have ne1 : wa.heap.size ≠ w.heap.size := by omega
    have ne2 : w.heap.size ≠ wa.heap.size := by omega
    obtain ⟨wb, hwb⟩ : ∃ x, Hid (wa.alloc (.cells #[.int .i64 0, .int .i64 0, .string ⟨f.text.toArray⟩, .string ⟨#[]⟩, .int .i64 0, .slice none 0 0] 25) = x) := ⟨_, Lib.hid rfl⟩
    rw [hwb.out] at hX hRb hBb htb ⊢
    have hgl : Hid (g ≠ wa.heap.size) := by unfold Hid; have h9 : g < wa.heap.size := World.block_lt_of_cell? wa _ h0; omega
    clear hbl hwb h0 h1 h2 ht0 hR0 hb0
    have hkk : (¬ i + 2 < m ∧ decide (((i + 2 : Nat) : Int) < (m : Int)) = false) ∨ (∃ kd : Int, i + 2 < m ∧ decide (((i + 2 : Nat) : Int) < (m : Int)) = true ∧ ((i + 2 : Nat) : Int) < (m : Int) ∧ (kd == 3) = false ∧ wb.cell? ⟨g, off + (i + 2) * 3, none⟩ = some (.int .i64 kd)) := by
      rcases hk3 with h | ⟨t, ht, hk⟩
      · exact .inl ⟨by omega, by simp; omega⟩
      · have hk2 : i + 2 < m := by have := (List.getElem?_eq_some_iff.1 ht).1; have := hm.out; omega
        exact .inr ⟨t.kind, hk2, by simp; omega, by omega, by simp [hk], (htb.out.at_ ht).1⟩
    have k0 : (0 : Int) ≤ ((i + 2 : Nat) : Int) := by omega
    rcases hkk with ⟨z1, z2⟩ | ⟨kd, z1, z2, z3, z4, z5⟩
    · refine (ris_any _ m c l wb (i + 1) [60, 61] hm htb).mono ?_
      rintro x w1 ⟨rfl, rfl⟩
      rw [q6.out]
      go_wp2_with fail
      refine (ris_any _ m c l wb (i + 1) [62, 61] hm htb).mono ?_
      rintro x w1 ⟨rfl, rfl⟩
      rw [q7.out]
      go_wp2_with fail
      refine (ris_any _ m c l wb (i + 1) [126] hm htb).mono ?_
      rintro x w1 ⟨rfl, rfl⟩
      rw [q8.out]
      go_wp2_with fail
      refine (rpaper_any _ m c l wb (i + 2) hm htb).mono ?_
      rintro x wp ⟨rfl, hbp⟩
      rw [qp.out]
      have hX := Lib.hid (hX.out.below hbp hX.out.lt)
      have hRb := Lib.hid (hRb.out.below hbp hRb.out.lt)
      have hBb := Lib.hid (hBb.out.trans (hbp.mono hBb.out.size))
      have htb := Lib.hid (htb.out.below hbp)
      have hgp : wa.heap.size < wp.heap.size := hX.out.lt
      clear hbp
      go_wp2_with fail
      obtain ⟨pl, hpl⟩ : ∃ k, Hid (placeI e l (i + 2) = k) := ⟨_, Lib.hid rfl⟩
      refine (rwrong_any _ m c l wp e (i + 2) hm htb).mono ?_
      rintro x wz ⟨rfl, hbz⟩
      rw [hpl.out]
      have hB := Lib.hid (hBb.out.trans (hbz.mono hBb.out.size))
      have hR := Lib.hid (hRb.out.below hbz hRb.out.lt)
      clear hbz
      unfold gotE
      have rc0 : wz.cell? ⟨w.heap.size, 0, none⟩ = some (.int .i64 0) := hR.out.cell 0
      have rc1 : wz.cell? ⟨w.heap.size, 1, none⟩ = some (.int .i64 0) := hR.out.cell 1
      have rc2 : wz.cell? ⟨w.heap.size, 2, none⟩ = some (.string ⟨#[]⟩) := hR.out.cell 2
      have rc3 : wz.cell? ⟨w.heap.size, 3, none⟩ = some (.string ⟨#[]⟩) := hR.out.cell 3
      have rc4 : wz.cell? ⟨w.heap.size, 4, none⟩ = some (.int .i64 0) := hR.out.cell 4
      have rc5 : wz.cell? ⟨w.heap.size, 5, none⟩ = some (.slice none 0 0) := hR.out.cell 5
      have rc6 : wz.cell? ⟨w.heap.size, 6, none⟩ = some (.int .i64 0) := hR.out.cell 6
      have rc7 : wz.cell? ⟨w.heap.size, 7, none⟩ = some (.int .i64 0) := hR.out.cell 7
      have rc8 : wz.cell? ⟨w.heap.size, 8, none⟩ = some (.int .i64 0) := hR.out.cell 8
      have rf0 := hR.out.frozen 0
      have rf1 := hR.out.frozen 1
      have rf2 := hR.out.frozen 2
      have rf3 := hR.out.frozen 3
      have rf4 := hR.out.frozen 4
      have rf5 := hR.out.frozen 5
      have rf6 := hR.out.frozen 6
      have rf7 := hR.out.frozen 7
      have rf8 := hR.out.frozen 8
      have rlt := hR.out.lt
      go_wp2_with fail
      refine bodyPost_ret (results_row rfl _ _ w.heap.size 65 _ _ rfl (((((((((hR.out.set_ 0 _).set_ 1 _).set_ 2 _).set_ 3 _).set_ 4 _).set_ 5 _).set_ 6 _).set_ 7 _).set_ 8 _) Tryz.underlying65 rfl (by kernel_rfl)) rfl ?_
      exact ⟨(((((((((hB.out.setCell (Nat.le_refl _) _).setCell (Nat.le_refl _) _).setCell (Nat.le_refl _) _).setCell (Nat.le_refl _) _).setCell (Nat.le_refl _) _).setCell (Nat.le_refl _) _).setCell (Nat.le_refl _) _).setCell (Nat.le_refl _) _).setCell (Nat.le_refl _) _), by rw [hpl.out]; rfl⟩
    · refine (ris_any _ m c l wb (i + 1) [60, 61] hm htb).mono ?_
      rintro x w1 ⟨rfl, rfl⟩
      rw [q6.out]
      go_wp2_with fail
      refine (ris_any _ m c l wb (i + 1) [62, 61] hm htb).mono ?_
      rintro x w1 ⟨rfl, rfl⟩
      rw [q7.out]
      go_wp2_with fail
      refine (ris_any _ m c l wb (i + 1) [126] hm htb).mono ?_
      rintro x w1 ⟨rfl, rfl⟩
      rw [q8.out]
      go_wp2_with fail
      refine (rpaper_any _ m c l wb (i + 2) hm htb).mono ?_
      rintro x wp ⟨rfl, hbp⟩
      rw [qp.out]
      have hX := Lib.hid (hX.out.below hbp hX.out.lt)
      have hRb := Lib.hid (hRb.out.below hbp hRb.out.lt)
      have hBb := Lib.hid (hBb.out.trans (hbp.mono hBb.out.size))
      have htb := Lib.hid (htb.out.below hbp)
      have hgp : wa.heap.size < wp.heap.size := hX.out.lt
      clear hbp
      go_wp2_with fail
      obtain ⟨pl, hpl⟩ : ∃ k, Hid (placeI e l (i + 2) = k) := ⟨_, Lib.hid rfl⟩
      refine (rwrong_any _ m c l wp e (i + 2) hm htb).mono ?_
      rintro x wz ⟨rfl, hbz⟩
      rw [hpl.out]
      have hB := Lib.hid (hBb.out.trans (hbz.mono hBb.out.size))
      have hR := Lib.hid (hRb.out.below hbz hRb.out.lt)
      clear hbz
      unfold gotE
      have rc0 : wz.cell? ⟨w.heap.size, 0, none⟩ = some (.int .i64 0) := hR.out.cell 0
      have rc1 : wz.cell? ⟨w.heap.size, 1, none⟩ = some (.int .i64 0) := hR.out.cell 1
      have rc2 : wz.cell? ⟨w.heap.size, 2, none⟩ = some (.string ⟨#[]⟩) := hR.out.cell 2
      have rc3 : wz.cell? ⟨w.heap.size, 3, none⟩ = some (.string ⟨#[]⟩) := hR.out.cell 3
      have rc4 : wz.cell? ⟨w.heap.size, 4, none⟩ = some (.int .i64 0) := hR.out.cell 4
      have rc5 : wz.cell? ⟨w.heap.size, 5, none⟩ = some (.slice none 0 0) := hR.out.cell 5
      have rc6 : wz.cell? ⟨w.heap.size, 6, none⟩ = some (.int .i64 0) := hR.out.cell 6
      have rc7 : wz.cell? ⟨w.heap.size, 7, none⟩ = some (.int .i64 0) := hR.out.cell 7
      have rc8 : wz.cell? ⟨w.heap.size, 8, none⟩ = some (.int .i64 0) := hR.out.cell 8
      have rf0 := hR.out.frozen 0
      have rf1 := hR.out.frozen 1
      have rf2 := hR.out.frozen 2
      have rf3 := hR.out.frozen 3
      have rf4 := hR.out.frozen 4
      have rf5 := hR.out.frozen 5
      have rf6 := hR.out.frozen 6
      have rf7 := hR.out.frozen 7
      have rf8 := hR.out.frozen 8
      have rlt := hR.out.lt
      go_wp2_with fail
      refine bodyPost_ret (results_row rfl _ _ w.heap.size 65 _ _ rfl (((((((((hR.out.set_ 0 _).set_ 1 _).set_ 2 _).set_ 3 _).set_ 4 _).set_ 5 _).set_ 6 _).set_ 7 _).set_ 8 _) Tryz.underlying65 rfl (by kernel_rfl)) rfl ?_
      exact ⟨(((((((((hB.out.setCell (Nat.le_refl _) _).setCell (Nat.le_refl _) _).setCell (Nat.le_refl _) _).setCell (Nat.le_refl _) _).setCell (Nat.le_refl _) _).setCell (Nat.le_refl _) _).setCell (Nat.le_refl _) _).setCell (Nat.le_refl _) _).setCell (Nat.le_refl _) _), by rw [hpl.out]; rfl⟩
  · refine (ris_any A m c l wa (i) [110, 111, 116] hm ht0).mono ?_
    rintro x w1 ⟨rfl, rfl⟩
    rw [q2.out]
    go_wp2_with fail
    refine (rcmp_any A m c l wa (i + 1) hm ht0).mono ?_
    rintro x w1 ⟨rfl, rfl⟩
    rw [q3.out]
    go_wp2_with fail
    have bpv : decide (pv < 0) = true := by simp [hpv]
    have hfm : i < m := by omega
    have im : (i : Int) < (m : Int) := by omega
    have i0 : (0 : Int) ≤ (i : Int) := by omega
    obtain ⟨g, off, rfl, hg, h0, h1, h2⟩ := ht0.out i f hf.out
    refine (rnm_any _ m c l wa (i) hm hok ht0).mono ?_
    rintro x w1 ⟨rfl, rfl⟩
    rw [q4.out]
    go_wp2_with fail
    refine (rcmp_any _ m c l wa (i + 1) hm ht0).mono ?_
    rintro x w1 ⟨rfl, rfl⟩
    rw [q5.out]
    go_wp2_with fail
    have hbl : Below wa.heap.size wa (wa.alloc (.cells #[.int .i64 0, .int .i64 0, .string ⟨f.text.toArray⟩, .string ⟨#[]⟩, .int .i64 0, .slice none 0 0] 25)) := (Below.refl _ wa).alloc (Nat.le_refl _) _
    have hX := Lib.hid (Blk.new wa 25 #[.int .i64 0, .int .i64 0, .string ⟨f.text.toArray⟩, .string ⟨#[]⟩, .int .i64 0, .slice none 0 0])
    have hRb := Lib.hid (hR0.out.below hbl hR0.out.lt)
    have hBb := Lib.hid (hb0.out.trans (hbl.mono hb0.out.size))
    have htb := Lib.hid (ht0.out.below hbl)
    have hsz : w.heap.size + 1 ≤ wa.heap.size := by have := hs0.out; omega
    have ne1 : wa.heap.size ≠ w.heap.size := by omega
    have ne2 : w.heap.size ≠ wa.heap.size := by omega
    obtain ⟨wb, hwb⟩ : ∃ x, Hid (wa.alloc (.cells #[.int .i64 0, .int .i64 0, .string ⟨f.text.toArray⟩, .string ⟨#[]⟩, .int .i64 0, .slice none 0 0] 25) = x) := ⟨_, Lib.hid rfl⟩
    rw [hwb.out] at hX hRb hBb htb ⊢
    have hgl : Hid (g ≠ wa.heap.size) := by unfold Hid; have h9 : g < wa.heap.size := World.block_lt_of_cell? wa _ h0; omega
    clear hbl hwb h0 h1 h2 ht0 hR0 hb0
    have hkk : (¬ i + 2 < m ∧ decide (((i + 2 : Nat) : Int) < (m : Int)) = false) ∨ (∃ kd : Int, i + 2 < m ∧ decide (((i + 2 : Nat) : Int) < (m : Int)) = true ∧ ((i + 2 : Nat) : Int) < (m : Int) ∧ (kd == 3) = false ∧ wb.cell? ⟨g, off + (i + 2) * 3, none⟩ = some (.int .i64 kd)) := by
      rcases hk3 with h | ⟨t, ht, hk⟩
      · exact .inl ⟨by omega, by simp; omega⟩
      · have hk2 : i + 2 < m := by have := (List.getElem?_eq_some_iff.1 ht).1; have := hm.out; omega
        exact .inr ⟨t.kind, hk2, by simp; omega, by omega, by simp [hk], (htb.out.at_ ht).1⟩
    have k0 : (0 : Int) ≤ ((i + 2 : Nat) : Int) := by omega
    rcases hkk with ⟨z1, z2⟩ | ⟨kd, z1, z2, z3, z4, z5⟩
    · refine (ris_any _ m c l wb (i + 1) [60, 61] hm htb).mono ?_
      rintro x w1 ⟨rfl, rfl⟩
      rw [q6.out]
      go_wp2_with fail
      refine (ris_any _ m c l wb (i + 1) [62, 61] hm htb).mono ?_
      rintro x w1 ⟨rfl, rfl⟩
      rw [q7.out]
      go_wp2_with fail
      refine (ris_any _ m c l wb (i + 1) [126] hm htb).mono ?_
      rintro x w1 ⟨rfl, rfl⟩
      rw [q8.out]
      go_wp2_with fail
      refine (rpaper_any _ m c l wb (i + 2) hm htb).mono ?_
      rintro x wp ⟨rfl, hbp⟩
      rw [qp.out]
      have hX := Lib.hid (hX.out.below hbp hX.out.lt)
      have hRb := Lib.hid (hRb.out.below hbp hRb.out.lt)
      have hBb := Lib.hid (hBb.out.trans (hbp.mono hBb.out.size))
      have htb := Lib.hid (htb.out.below hbp)
      have hgp : wa.heap.size < wp.heap.size := hX.out.lt
      clear hbp
      go_wp2_with fail
      obtain ⟨pl, hpl⟩ : ∃ k, Hid (placeI e l (i + 2) = k) := ⟨_, Lib.hid rfl⟩
      refine (rwrong_any _ m c l wp e (i + 2) hm htb).mono ?_
      rintro x wz ⟨rfl, hbz⟩
      rw [hpl.out]
      have hB := Lib.hid (hBb.out.trans (hbz.mono hBb.out.size))
      have hR := Lib.hid (hRb.out.below hbz hRb.out.lt)
      clear hbz
      unfold gotE
      have rc0 : wz.cell? ⟨w.heap.size, 0, none⟩ = some (.int .i64 0) := hR.out.cell 0
      have rc1 : wz.cell? ⟨w.heap.size, 1, none⟩ = some (.int .i64 0) := hR.out.cell 1
      have rc2 : wz.cell? ⟨w.heap.size, 2, none⟩ = some (.string ⟨#[]⟩) := hR.out.cell 2
      have rc3 : wz.cell? ⟨w.heap.size, 3, none⟩ = some (.string ⟨#[]⟩) := hR.out.cell 3
      have rc4 : wz.cell? ⟨w.heap.size, 4, none⟩ = some (.int .i64 0) := hR.out.cell 4
      have rc5 : wz.cell? ⟨w.heap.size, 5, none⟩ = some (.slice none 0 0) := hR.out.cell 5
      have rc6 : wz.cell? ⟨w.heap.size, 6, none⟩ = some (.int .i64 0) := hR.out.cell 6
      have rc7 : wz.cell? ⟨w.heap.size, 7, none⟩ = some (.int .i64 0) := hR.out.cell 7
      have rc8 : wz.cell? ⟨w.heap.size, 8, none⟩ = some (.int .i64 0) := hR.out.cell 8
      have rf0 := hR.out.frozen 0
      have rf1 := hR.out.frozen 1
      have rf2 := hR.out.frozen 2
      have rf3 := hR.out.frozen 3
      have rf4 := hR.out.frozen 4
      have rf5 := hR.out.frozen 5
      have rf6 := hR.out.frozen 6
      have rf7 := hR.out.frozen 7
      have rf8 := hR.out.frozen 8
      have rlt := hR.out.lt
      go_wp2_with fail
      refine bodyPost_ret (results_row rfl _ _ w.heap.size 65 _ _ rfl (((((((((hR.out.set_ 0 _).set_ 1 _).set_ 2 _).set_ 3 _).set_ 4 _).set_ 5 _).set_ 6 _).set_ 7 _).set_ 8 _) Tryz.underlying65 rfl (by kernel_rfl)) rfl ?_
      exact ⟨(((((((((hB.out.setCell (Nat.le_refl _) _).setCell (Nat.le_refl _) _).setCell (Nat.le_refl _) _).setCell (Nat.le_refl _) _).setCell (Nat.le_refl _) _).setCell (Nat.le_refl _) _).setCell (Nat.le_refl _) _).setCell (Nat.le_refl _) _).setCell (Nat.le_refl _) _), by rw [hpl.out]; rfl⟩
    · refine (ris_any _ m c l wb (i + 1) [60, 61] hm htb).mono ?_
      rintro x w1 ⟨rfl, rfl⟩
      rw [q6.out]
      go_wp2_with fail
      refine (ris_any _ m c l wb (i + 1) [62, 61] hm htb).mono ?_
      rintro x w1 ⟨rfl, rfl⟩
      rw [q7.out]
      go_wp2_with fail
      refine (ris_any _ m c l wb (i + 1) [126] hm htb).mono ?_
      rintro x w1 ⟨rfl, rfl⟩
      rw [q8.out]
      go_wp2_with fail
      refine (rpaper_any _ m c l wb (i + 2) hm htb).mono ?_
      rintro x wp ⟨rfl, hbp⟩
      rw [qp.out]
      have hX := Lib.hid (hX.out.below hbp hX.out.lt)
      have hRb := Lib.hid (hRb.out.below hbp hRb.out.lt)
      have hBb := Lib.hid (hBb.out.trans (hbp.mono hBb.out.size))
      have htb := Lib.hid (htb.out.below hbp)
      have hgp : wa.heap.size < wp.heap.size := hX.out.lt
      clear hbp
      go_wp2_with fail
      obtain ⟨pl, hpl⟩ : ∃ k, Hid (placeI e l (i + 2) = k) := ⟨_, Lib.hid rfl⟩
      refine (rwrong_any _ m c l wp e (i + 2) hm htb).mono ?_
      rintro x wz ⟨rfl, hbz⟩
      rw [hpl.out]
      have hB := Lib.hid (hBb.out.trans (hbz.mono hBb.out.size))
      have hR := Lib.hid (hRb.out.below hbz hRb.out.lt)
      clear hbz
      unfold gotE
      have rc0 : wz.cell? ⟨w.heap.size, 0, none⟩ = some (.int .i64 0) := hR.out.cell 0
      have rc1 : wz.cell? ⟨w.heap.size, 1, none⟩ = some (.int .i64 0) := hR.out.cell 1
      have rc2 : wz.cell? ⟨w.heap.size, 2, none⟩ = some (.string ⟨#[]⟩) := hR.out.cell 2
      have rc3 : wz.cell? ⟨w.heap.size, 3, none⟩ = some (.string ⟨#[]⟩) := hR.out.cell 3
      have rc4 : wz.cell? ⟨w.heap.size, 4, none⟩ = some (.int .i64 0) := hR.out.cell 4
      have rc5 : wz.cell? ⟨w.heap.size, 5, none⟩ = some (.slice none 0 0) := hR.out.cell 5
      have rc6 : wz.cell? ⟨w.heap.size, 6, none⟩ = some (.int .i64 0) := hR.out.cell 6
      have rc7 : wz.cell? ⟨w.heap.size, 7, none⟩ = some (.int .i64 0) := hR.out.cell 7
      have rc8 : wz.cell? ⟨w.heap.size, 8, none⟩ = some (.int .i64 0) := hR.out.cell 8
      have rf0 := hR.out.frozen 0
      have rf1 := hR.out.frozen 1
      have rf2 := hR.out.frozen 2
      have rf3 := hR.out.frozen 3
      have rf4 := hR.out.frozen 4
      have rf5 := hR.out.frozen 5
      have rf6 := hR.out.frozen 6
      have rf7 := hR.out.frozen 7
      have rf8 := hR.out.frozen 8
      have rlt := hR.out.lt
      go_wp2_with fail
      refine bodyPost_ret (results_row rfl _ _ w.heap.size 65 _ _ rfl (((((((((hR.out.set_ 0 _).set_ 1 _).set_ 2 _).set_ 3 _).set_ 4 _).set_ 5 _).set_ 6 _).set_ 7 _).set_ 8 _) Tryz.underlying65 rfl (by kernel_rfl)) rfl ?_
      exact ⟨(((((((((hB.out.setCell (Nat.le_refl _) _).setCell (Nat.le_refl _) _).setCell (Nat.le_refl _) _).setCell (Nat.le_refl _) _).setCell (Nat.le_refl _) _).setCell (Nat.le_refl _) _).setCell (Nat.le_refl _) _).setCell (Nat.le_refl _) _).setCell (Nat.le_refl _) _), by rw [hpl.out]; rfl⟩


set_option maxRecDepth 100000 in
set_option maxHeartbeats 3200000 in
theorem ratom_dot_no (A : Option Addr) (m c e : Nat) (l : List Tok) (hm : Hid (l.length = m)) (hm4 : m ≤ 4096) (w : World) (i : Nat) (_hi : i ≤ m) (htk : Hid (TokAt w 0 A l)) (q1 : Hid (atI (isT [40]) l i = false)) (qn : Hid (atI (isT [110, 111, 116]) l i = false) ∨ Hid (atI (isT [110, 111, 116]) l i = true) ∧ Hid (atI cmpT l (i + 1) = true)) (hok : Hid (TokOk l)) (f : Tok) (hf : Hid (l[i]? = some f)) (_hi2 : i + 2 ≤ m) (q4 : Hid (atI nameT l i = true)) (q5 : Hid (atI cmpT l (i + 1) = true)) (q6 : Hid (atI (isT [60, 61]) l (i + 1) = false)) (q7 : Hid (atI (isT [62, 61]) l (i + 1) = false)) (hk3 : ∃ t, l[i + 2]? = some t ∧ t.kind ≠ 3) (q8 : Hid (atI (isT [126]) l (i + 1) = false)) (pv : Int) (qp : Hid (papI l (i + 2) = pv)) (hpv : ¬ pv < 0) (hi3 : i + 3 ≤ m) (q9 : Hid (atI (isT [46]) l (i + 3) = false)) :
    Calls Tryz.prog 148 #[.slice A m c, .int .i64 i, .int .i64 e] w (fun x w' => Below w.heap.size w w' ∧ x = .returned (.agg (gotE 2 (placeI e l (i + 3))))) := by
  have hb0 : Hid (Below w.heap.size w (w.alloc (.cells #[.int .i64 0, .int .i64 0, .string ⟨#[]⟩, .string ⟨#[]⟩, .int .i64 0, .slice none 0 0, .int .i64 0, .int .i64 0, .int .i64 0] 65))) := (Below.refl _ w).alloc (Nat.le_refl _) _
  have hR0 := Lib.hid (Blk.new w 65 #[.int .i64 0, .int .i64 0, .string ⟨#[]⟩, .string ⟨#[]⟩, .int .i64 0, .slice none 0 0, .int .i64 0, .int .i64 0, .int .i64 0])
  have ht0 := Lib.hid (htk.out.below hb0.out)
  have hs0 : Hid ((w.alloc (.cells #[.int .i64 0, .int .i64 0, .string ⟨#[]⟩, .string ⟨#[]⟩, .int .i64 0, .slice none 0 0, .int .i64 0, .int .i64 0, .int .i64 0] 65)).heap.size = w.heap.size + 1) := by unfold Hid; simp
  have w1x : IntKind.i64.wrap ((i : Int) + 1) = ((i + 1 : Nat) : Int) := by rw [IntWalk.i64_in _ (by omega)]; omega
  have w2x : IntKind.i64.wrap ((i : Int) + 2) = ((i + 2 : Nat) : Int) := by rw [IntWalk.i64_in _ (by omega)]; omega
  have w3x : IntKind.i64.wrap ((i : Int) + 2 + 1) = ((i + 3 : Nat) : Int) := by rw [IntWalk.i64_in _ (by omega)]; omega
  have w4x : IntKind.i64.wrap ((i : Int) + 2 + 2) = ((i + 4 : Nat) : Int) := by rw [IntWalk.i64_in _ (by omega)]; omega
  have w5x : IntKind.i64.wrap ((i : Int) + 2 + 3) = ((i + 5 : Nat) : Int) := by rw [IntWalk.i64_in _ (by omega)]; omega
  go_enter Tryz.func148, Tryz.ntmps148
  go_wp2_with fail
  obtain ⟨wa, hwa⟩ : ∃ x, Hid (w.alloc (.cells #[.int .i64 0, .int .i64 0, .string ⟨#[]⟩, .string ⟨#[]⟩, .int .i64 0, .slice none 0 0, .int .i64 0, .int .i64 0, .int .i64 0] 65) = x) := ⟨_, Lib.hid rfl⟩
  change Calls Tryz.prog 48 _ (w.alloc (.cells #[.int .i64 0, .int .i64 0, .string ⟨#[]⟩, .string ⟨#[]⟩, .int .i64 0, .slice none 0 0, .int .i64 0, .int .i64 0, .int .i64 0] 65)) _
  rw [hwa.out] at hb0 hR0 ht0 hs0 ⊢
  clear hwa
  refine (ris_any A m c l wa (i) [40] hm ht0).mono ?_
  rintro x w1 ⟨rfl, rfl⟩
  rw [q1.out]
  go_wp2_with fail
  rcases qn with q2 | ⟨q2, q3⟩
  · refine (ris_any A m c l wa (i) [110, 111, 116] hm ht0).mono ?_
    rintro x w1 ⟨rfl, rfl⟩
    rw [q2.out]
    go_wp2_with fail
    have bpv : decide (pv < 0) = false := by simp [hpv]
    have hfm : i < m := by omega
    have im : (i : Int) < (m : Int) := by omega
    have i0 : (0 : Int) ≤ (i : Int) := by omega
    obtain ⟨g, off, rfl, hg, h0, h1, h2⟩ := ht0.out i f hf.out
    refine (rnm_any _ m c l wa (i) hm hok ht0).mono ?_
    rintro x w1 ⟨rfl, rfl⟩
    rw [q4.out]
    go_wp2_with fail
    refine (rcmp_any _ m c l wa (i + 1) hm ht0).mono ?_
    rintro x w1 ⟨rfl, rfl⟩
    rw [q5.out]
    go_wp2_with fail
    have hbl : Below wa.heap.size wa (wa.alloc (.cells #[.int .i64 0, .int .i64 0, .string ⟨f.text.toArray⟩, .string ⟨#[]⟩, .int .i64 0, .slice none 0 0] 25)) := (Below.refl _ wa).alloc (Nat.le_refl _) _
    have hX := Lib.hid (Blk.new wa 25 #[.int .i64 0, .int .i64 0, .string ⟨f.text.toArray⟩, .string ⟨#[]⟩, .int .i64 0, .slice none 0 0])
    have hRb := Lib.hid (hR0.out.below hbl hR0.out.lt)
    have hBb := Lib.hid (hb0.out.trans (hbl.mono hb0.out.size))
    have htb := Lib.hid (ht0.out.below hbl)
    have hsz : w.heap.size + 1 ≤ wa.heap.size := by have := hs0.out; omega
    have ne1 : wa.heap.size ≠ w.heap.size := by omega
    have ne2 : w.heap.size ≠ wa.heap.size := by omega
    obtain ⟨wb, hwb⟩ : ∃ x, Hid (wa.alloc (.cells #[.int .i64 0, .int .i64 0, .string ⟨f.text.toArray⟩, .string ⟨#[]⟩, .int .i64 0, .slice none 0 0] 25) = x) := ⟨_, Lib.hid rfl⟩
    rw [hwb.out] at hX hRb hBb htb ⊢
    have hgl : Hid (g ≠ wa.heap.size) := by unfold Hid; have h9 : g < wa.heap.size := World.block_lt_of_cell? wa _ h0; omega
    clear hbl hwb h0 h1 h2 ht0 hR0 hb0
    obtain ⟨kd, z1, z2, z3, z4, z5⟩ : ∃ kd : Int, i + 2 < m ∧ decide (((i + 2 : Nat) : Int) < (m : Int)) = true ∧ ((i + 2 : Nat) : Int) < (m : Int) ∧ (kd == 3) = false ∧ wb.cell? ⟨g, off + (i + 2) * 3, none⟩ = some (.int .i64 kd) := by
      obtain ⟨t, ht, hk⟩ := hk3
      have hk2 : i + 2 < m := by have := (List.getElem?_eq_some_iff.1 ht).1; have := hm.out; omega
      exact ⟨t.kind, hk2, by simp; omega, by omega, by simp [hk], (htb.out.at_ ht).1⟩
    have k0 : (0 : Int) ≤ ((i + 2 : Nat) : Int) := by omega
    refine (ris_any _ m c l wb (i + 1) [60, 61] hm htb).mono ?_
    rintro x w1 ⟨rfl, rfl⟩
    rw [q6.out]
    go_wp2_with fail
    refine (ris_any _ m c l wb (i + 1) [62, 61] hm htb).mono ?_
    rintro x w1 ⟨rfl, rfl⟩
    rw [q7.out]
    go_wp2_with fail
    refine (ris_any _ m c l wb (i + 1) [126] hm htb).mono ?_
    rintro x w1 ⟨rfl, rfl⟩
    rw [q8.out]
    go_wp2_with fail
    refine (rpaper_any _ m c l wb (i + 2) hm htb).mono ?_
    rintro x wp ⟨rfl, hbp⟩
    rw [qp.out]
    have hX := Lib.hid (hX.out.below hbp hX.out.lt)
    have hRb := Lib.hid (hRb.out.below hbp hRb.out.lt)
    have hBb := Lib.hid (hBb.out.trans (hbp.mono hBb.out.size))
    have htb := Lib.hid (htb.out.below hbp)
    have hgp : wa.heap.size < wp.heap.size := hX.out.lt
    clear hbp
    go_wp2_with fail
    refine (ris_any _ m c l wp (i + 3) [46] hm htb).mono ?_
    rintro x w1 ⟨rfl, rfl⟩
    rw [q9.out]
    go_wp2_with fail
    obtain ⟨pl, hpl⟩ : ∃ k, Hid (placeI e l (i + 3) = k) := ⟨_, Lib.hid rfl⟩
    refine (rwrong_any _ m c l wp e (i + 3) hm htb).mono ?_
    rintro x wz ⟨rfl, hbz⟩
    rw [hpl.out]
    have hB := Lib.hid (hBb.out.trans (hbz.mono hBb.out.size))
    have hR := Lib.hid (hRb.out.below hbz hRb.out.lt)
    clear hbz
    unfold gotE
    have rc0 : wz.cell? ⟨w.heap.size, 0, none⟩ = some (.int .i64 0) := hR.out.cell 0
    have rc1 : wz.cell? ⟨w.heap.size, 1, none⟩ = some (.int .i64 0) := hR.out.cell 1
    have rc2 : wz.cell? ⟨w.heap.size, 2, none⟩ = some (.string ⟨#[]⟩) := hR.out.cell 2
    have rc3 : wz.cell? ⟨w.heap.size, 3, none⟩ = some (.string ⟨#[]⟩) := hR.out.cell 3
    have rc4 : wz.cell? ⟨w.heap.size, 4, none⟩ = some (.int .i64 0) := hR.out.cell 4
    have rc5 : wz.cell? ⟨w.heap.size, 5, none⟩ = some (.slice none 0 0) := hR.out.cell 5
    have rc6 : wz.cell? ⟨w.heap.size, 6, none⟩ = some (.int .i64 0) := hR.out.cell 6
    have rc7 : wz.cell? ⟨w.heap.size, 7, none⟩ = some (.int .i64 0) := hR.out.cell 7
    have rc8 : wz.cell? ⟨w.heap.size, 8, none⟩ = some (.int .i64 0) := hR.out.cell 8
    have rf0 := hR.out.frozen 0
    have rf1 := hR.out.frozen 1
    have rf2 := hR.out.frozen 2
    have rf3 := hR.out.frozen 3
    have rf4 := hR.out.frozen 4
    have rf5 := hR.out.frozen 5
    have rf6 := hR.out.frozen 6
    have rf7 := hR.out.frozen 7
    have rf8 := hR.out.frozen 8
    have rlt := hR.out.lt
    go_wp2_with fail
    refine bodyPost_ret (results_row rfl _ _ w.heap.size 65 _ _ rfl (((((((((hR.out.set_ 0 _).set_ 1 _).set_ 2 _).set_ 3 _).set_ 4 _).set_ 5 _).set_ 6 _).set_ 7 _).set_ 8 _) Tryz.underlying65 rfl (by kernel_rfl)) rfl ?_
    exact ⟨(((((((((hB.out.setCell (Nat.le_refl _) _).setCell (Nat.le_refl _) _).setCell (Nat.le_refl _) _).setCell (Nat.le_refl _) _).setCell (Nat.le_refl _) _).setCell (Nat.le_refl _) _).setCell (Nat.le_refl _) _).setCell (Nat.le_refl _) _).setCell (Nat.le_refl _) _), by rw [hpl.out]; rfl⟩
  · refine (ris_any A m c l wa (i) [110, 111, 116] hm ht0).mono ?_
    rintro x w1 ⟨rfl, rfl⟩
    rw [q2.out]
    go_wp2_with fail
    refine (rcmp_any A m c l wa (i + 1) hm ht0).mono ?_
    rintro x w1 ⟨rfl, rfl⟩
    rw [q3.out]
    go_wp2_with fail
    have bpv : decide (pv < 0) = false := by simp [hpv]
    have hfm : i < m := by omega
    have im : (i : Int) < (m : Int) := by omega
    have i0 : (0 : Int) ≤ (i : Int) := by omega
    obtain ⟨g, off, rfl, hg, h0, h1, h2⟩ := ht0.out i f hf.out
    refine (rnm_any _ m c l wa (i) hm hok ht0).mono ?_
    rintro x w1 ⟨rfl, rfl⟩
    rw [q4.out]
    go_wp2_with fail
    refine (rcmp_any _ m c l wa (i + 1) hm ht0).mono ?_
    rintro x w1 ⟨rfl, rfl⟩
    rw [q5.out]
    go_wp2_with fail
    have hbl : Below wa.heap.size wa (wa.alloc (.cells #[.int .i64 0, .int .i64 0, .string ⟨f.text.toArray⟩, .string ⟨#[]⟩, .int .i64 0, .slice none 0 0] 25)) := (Below.refl _ wa).alloc (Nat.le_refl _) _
    have hX := Lib.hid (Blk.new wa 25 #[.int .i64 0, .int .i64 0, .string ⟨f.text.toArray⟩, .string ⟨#[]⟩, .int .i64 0, .slice none 0 0])
    have hRb := Lib.hid (hR0.out.below hbl hR0.out.lt)
    have hBb := Lib.hid (hb0.out.trans (hbl.mono hb0.out.size))
    have htb := Lib.hid (ht0.out.below hbl)
    have hsz : w.heap.size + 1 ≤ wa.heap.size := by have := hs0.out; omega
    have ne1 : wa.heap.size ≠ w.heap.size := by omega
    have ne2 : w.heap.size ≠ wa.heap.size := by omega
    obtain ⟨wb, hwb⟩ : ∃ x, Hid (wa.alloc (.cells #[.int .i64 0, .int .i64 0, .string ⟨f.text.toArray⟩, .string ⟨#[]⟩, .int .i64 0, .slice none 0 0] 25) = x) := ⟨_, Lib.hid rfl⟩
    rw [hwb.out] at hX hRb hBb htb ⊢
    have hgl : Hid (g ≠ wa.heap.size) := by unfold Hid; have h9 : g < wa.heap.size := World.block_lt_of_cell? wa _ h0; omega
    clear hbl hwb h0 h1 h2 ht0 hR0 hb0
    obtain ⟨kd, z1, z2, z3, z4, z5⟩ : ∃ kd : Int, i + 2 < m ∧ decide (((i + 2 : Nat) : Int) < (m : Int)) = true ∧ ((i + 2 : Nat) : Int) < (m : Int) ∧ (kd == 3) = false ∧ wb.cell? ⟨g, off + (i + 2) * 3, none⟩ = some (.int .i64 kd) := by
      obtain ⟨t, ht, hk⟩ := hk3
      have hk2 : i + 2 < m := by have := (List.getElem?_eq_some_iff.1 ht).1; have := hm.out; omega
      exact ⟨t.kind, hk2, by simp; omega, by omega, by simp [hk], (htb.out.at_ ht).1⟩
    have k0 : (0 : Int) ≤ ((i + 2 : Nat) : Int) := by omega
    refine (ris_any _ m c l wb (i + 1) [60, 61] hm htb).mono ?_
    rintro x w1 ⟨rfl, rfl⟩
    rw [q6.out]
    go_wp2_with fail
    refine (ris_any _ m c l wb (i + 1) [62, 61] hm htb).mono ?_
    rintro x w1 ⟨rfl, rfl⟩
    rw [q7.out]
    go_wp2_with fail
    refine (ris_any _ m c l wb (i + 1) [126] hm htb).mono ?_
    rintro x w1 ⟨rfl, rfl⟩
    rw [q8.out]
    go_wp2_with fail
    refine (rpaper_any _ m c l wb (i + 2) hm htb).mono ?_
    rintro x wp ⟨rfl, hbp⟩
    rw [qp.out]
    have hX := Lib.hid (hX.out.below hbp hX.out.lt)
    have hRb := Lib.hid (hRb.out.below hbp hRb.out.lt)
    have hBb := Lib.hid (hBb.out.trans (hbp.mono hBb.out.size))
    have htb := Lib.hid (htb.out.below hbp)
    have hgp : wa.heap.size < wp.heap.size := hX.out.lt
    clear hbp
    go_wp2_with fail
    refine (ris_any _ m c l wp (i + 3) [46] hm htb).mono ?_
    rintro x w1 ⟨rfl, rfl⟩
    rw [q9.out]
    go_wp2_with fail
    obtain ⟨pl, hpl⟩ : ∃ k, Hid (placeI e l (i + 3) = k) := ⟨_, Lib.hid rfl⟩
    refine (rwrong_any _ m c l wp e (i + 3) hm htb).mono ?_
    rintro x wz ⟨rfl, hbz⟩
    rw [hpl.out]
    have hB := Lib.hid (hBb.out.trans (hbz.mono hBb.out.size))
    have hR := Lib.hid (hRb.out.below hbz hRb.out.lt)
    clear hbz
    unfold gotE
    have rc0 : wz.cell? ⟨w.heap.size, 0, none⟩ = some (.int .i64 0) := hR.out.cell 0
    have rc1 : wz.cell? ⟨w.heap.size, 1, none⟩ = some (.int .i64 0) := hR.out.cell 1
    have rc2 : wz.cell? ⟨w.heap.size, 2, none⟩ = some (.string ⟨#[]⟩) := hR.out.cell 2
    have rc3 : wz.cell? ⟨w.heap.size, 3, none⟩ = some (.string ⟨#[]⟩) := hR.out.cell 3
    have rc4 : wz.cell? ⟨w.heap.size, 4, none⟩ = some (.int .i64 0) := hR.out.cell 4
    have rc5 : wz.cell? ⟨w.heap.size, 5, none⟩ = some (.slice none 0 0) := hR.out.cell 5
    have rc6 : wz.cell? ⟨w.heap.size, 6, none⟩ = some (.int .i64 0) := hR.out.cell 6
    have rc7 : wz.cell? ⟨w.heap.size, 7, none⟩ = some (.int .i64 0) := hR.out.cell 7
    have rc8 : wz.cell? ⟨w.heap.size, 8, none⟩ = some (.int .i64 0) := hR.out.cell 8
    have rf0 := hR.out.frozen 0
    have rf1 := hR.out.frozen 1
    have rf2 := hR.out.frozen 2
    have rf3 := hR.out.frozen 3
    have rf4 := hR.out.frozen 4
    have rf5 := hR.out.frozen 5
    have rf6 := hR.out.frozen 6
    have rf7 := hR.out.frozen 7
    have rf8 := hR.out.frozen 8
    have rlt := hR.out.lt
    go_wp2_with fail
    refine bodyPost_ret (results_row rfl _ _ w.heap.size 65 _ _ rfl (((((((((hR.out.set_ 0 _).set_ 1 _).set_ 2 _).set_ 3 _).set_ 4 _).set_ 5 _).set_ 6 _).set_ 7 _).set_ 8 _) Tryz.underlying65 rfl (by kernel_rfl)) rfl ?_
    exact ⟨(((((((((hB.out.setCell (Nat.le_refl _) _).setCell (Nat.le_refl _) _).setCell (Nat.le_refl _) _).setCell (Nat.le_refl _) _).setCell (Nat.le_refl _) _).setCell (Nat.le_refl _) _).setCell (Nat.le_refl _) _).setCell (Nat.le_refl _) _).setCell (Nat.le_refl _) _), by rw [hpl.out]; rfl⟩


set_option maxRecDepth 100000 in
set_option maxHeartbeats 3200000 in
theorem ratom_like_no (A : Option Addr) (m c e : Nat) (l : List Tok) (hm : Hid (l.length = m)) (hm4 : m ≤ 4096) (w : World) (i : Nat) (_hi : i ≤ m) (htk : Hid (TokAt w 0 A l)) (q1 : Hid (atI (isT [40]) l i = false)) (qn : Hid (atI (isT [110, 111, 116]) l i = false) ∨ Hid (atI (isT [110, 111, 116]) l i = true) ∧ Hid (atI cmpT l (i + 1) = true)) (hok : Hid (TokOk l)) (f : Tok) (hf : Hid (l[i]? = some f)) (_hi2 : i + 2 ≤ m) (q4 : Hid (atI nameT l i = true)) (q5 : Hid (atI cmpT l (i + 1) = true)) (q6 : Hid (atI (isT [60, 61]) l (i + 1) = false)) (q7 : Hid (atI (isT [62, 61]) l (i + 1) = false)) (hk3 : ∃ t, l[i + 2]? = some t ∧ t.kind ≠ 3) (q8 : Hid (atI (isT [126]) l (i + 1) = false)) (pv : Int) (qp : Hid (papI l (i + 2) = pv)) (hpv : ¬ pv < 0) (hi4 : i + 4 ≤ m) (q9 : Hid (atI (isT [46]) l (i + 3) = true)) (q10 : Hid (atI nameT l (i + 4) = false)) :
    Calls Tryz.prog 148 #[.slice A m c, .int .i64 i, .int .i64 e] w (fun x w' => Below w.heap.size w w' ∧ x = .returned (.agg (gotE 2 (placeI e l (i + 4))))) := by
  have hb0 : Hid (Below w.heap.size w (w.alloc (.cells #[.int .i64 0, .int .i64 0, .string ⟨#[]⟩, .string ⟨#[]⟩, .int .i64 0, .slice none 0 0, .int .i64 0, .int .i64 0, .int .i64 0] 65))) := (Below.refl _ w).alloc (Nat.le_refl _) _
  have hR0 := Lib.hid (Blk.new w 65 #[.int .i64 0, .int .i64 0, .string ⟨#[]⟩, .string ⟨#[]⟩, .int .i64 0, .slice none 0 0, .int .i64 0, .int .i64 0, .int .i64 0])
  have ht0 := Lib.hid (htk.out.below hb0.out)
  have hs0 : Hid ((w.alloc (.cells #[.int .i64 0, .int .i64 0, .string ⟨#[]⟩, .string ⟨#[]⟩, .int .i64 0, .slice none 0 0, .int .i64 0, .int .i64 0, .int .i64 0] 65)).heap.size = w.heap.size + 1) := by unfold Hid; simp
  have w1x : IntKind.i64.wrap ((i : Int) + 1) = ((i + 1 : Nat) : Int) := by rw [IntWalk.i64_in _ (by omega)]; omega
  have w2x : IntKind.i64.wrap ((i : Int) + 2) = ((i + 2 : Nat) : Int) := by rw [IntWalk.i64_in _ (by omega)]; omega
  have w3x : IntKind.i64.wrap ((i : Int) + 2 + 1) = ((i + 3 : Nat) : Int) := by rw [IntWalk.i64_in _ (by omega)]; omega
  have w4x : IntKind.i64.wrap ((i : Int) + 2 + 2) = ((i + 4 : Nat) : Int) := by rw [IntWalk.i64_in _ (by omega)]; omega
  have w5x : IntKind.i64.wrap ((i : Int) + 2 + 3) = ((i + 5 : Nat) : Int) := by rw [IntWalk.i64_in _ (by omega)]; omega
  go_enter Tryz.func148, Tryz.ntmps148
  go_wp2_with fail
  obtain ⟨wa, hwa⟩ : ∃ x, Hid (w.alloc (.cells #[.int .i64 0, .int .i64 0, .string ⟨#[]⟩, .string ⟨#[]⟩, .int .i64 0, .slice none 0 0, .int .i64 0, .int .i64 0, .int .i64 0] 65) = x) := ⟨_, Lib.hid rfl⟩
  change Calls Tryz.prog 48 _ (w.alloc (.cells #[.int .i64 0, .int .i64 0, .string ⟨#[]⟩, .string ⟨#[]⟩, .int .i64 0, .slice none 0 0, .int .i64 0, .int .i64 0, .int .i64 0] 65)) _
  rw [hwa.out] at hb0 hR0 ht0 hs0 ⊢
  clear hwa
  refine (ris_any A m c l wa (i) [40] hm ht0).mono ?_
  rintro x w1 ⟨rfl, rfl⟩
  rw [q1.out]
  go_wp2_with fail
  rcases qn with q2 | ⟨q2, q3⟩
  · refine (ris_any A m c l wa (i) [110, 111, 116] hm ht0).mono ?_
    rintro x w1 ⟨rfl, rfl⟩
    rw [q2.out]
    go_wp2_with fail
    have bpv : decide (pv < 0) = false := by simp [hpv]
    have hfm : i < m := by omega
    have im : (i : Int) < (m : Int) := by omega
    have i0 : (0 : Int) ≤ (i : Int) := by omega
    obtain ⟨g, off, rfl, hg, h0, h1, h2⟩ := ht0.out i f hf.out
    refine (rnm_any _ m c l wa (i) hm hok ht0).mono ?_
    rintro x w1 ⟨rfl, rfl⟩
    rw [q4.out]
    go_wp2_with fail
    refine (rcmp_any _ m c l wa (i + 1) hm ht0).mono ?_
    rintro x w1 ⟨rfl, rfl⟩
    rw [q5.out]
    go_wp2_with fail
    have hbl : Below wa.heap.size wa (wa.alloc (.cells #[.int .i64 0, .int .i64 0, .string ⟨f.text.toArray⟩, .string ⟨#[]⟩, .int .i64 0, .slice none 0 0] 25)) := (Below.refl _ wa).alloc (Nat.le_refl _) _
    have hX := Lib.hid (Blk.new wa 25 #[.int .i64 0, .int .i64 0, .string ⟨f.text.toArray⟩, .string ⟨#[]⟩, .int .i64 0, .slice none 0 0])
    have hRb := Lib.hid (hR0.out.below hbl hR0.out.lt)
    have hBb := Lib.hid (hb0.out.trans (hbl.mono hb0.out.size))
    have htb := Lib.hid (ht0.out.below hbl)
    have hsz : w.heap.size + 1 ≤ wa.heap.size := by have := hs0.out; omega
    have ne1 : wa.heap.size ≠ w.heap.size := by omega
    have ne2 : w.heap.size ≠ wa.heap.size := by omega
    obtain ⟨wb, hwb⟩ : ∃ x, Hid (wa.alloc (.cells #[.int .i64 0, .int .i64 0, .string ⟨f.text.toArray⟩, .string ⟨#[]⟩, .int .i64 0, .slice none 0 0] 25) = x) := ⟨_, Lib.hid rfl⟩
    rw [hwb.out] at hX hRb hBb htb ⊢
    have hgl : Hid (g ≠ wa.heap.size) := by unfold Hid; have h9 : g < wa.heap.size := World.block_lt_of_cell? wa _ h0; omega
    clear hbl hwb h0 h1 h2 ht0 hR0 hb0
    obtain ⟨kd, z1, z2, z3, z4, z5⟩ : ∃ kd : Int, i + 2 < m ∧ decide (((i + 2 : Nat) : Int) < (m : Int)) = true ∧ ((i + 2 : Nat) : Int) < (m : Int) ∧ (kd == 3) = false ∧ wb.cell? ⟨g, off + (i + 2) * 3, none⟩ = some (.int .i64 kd) := by
      obtain ⟨t, ht, hk⟩ := hk3
      have hk2 : i + 2 < m := by have := (List.getElem?_eq_some_iff.1 ht).1; have := hm.out; omega
      exact ⟨t.kind, hk2, by simp; omega, by omega, by simp [hk], (htb.out.at_ ht).1⟩
    have k0 : (0 : Int) ≤ ((i + 2 : Nat) : Int) := by omega
    refine (ris_any _ m c l wb (i + 1) [60, 61] hm htb).mono ?_
    rintro x w1 ⟨rfl, rfl⟩
    rw [q6.out]
    go_wp2_with fail
    refine (ris_any _ m c l wb (i + 1) [62, 61] hm htb).mono ?_
    rintro x w1 ⟨rfl, rfl⟩
    rw [q7.out]
    go_wp2_with fail
    refine (ris_any _ m c l wb (i + 1) [126] hm htb).mono ?_
    rintro x w1 ⟨rfl, rfl⟩
    rw [q8.out]
    go_wp2_with fail
    refine (rpaper_any _ m c l wb (i + 2) hm htb).mono ?_
    rintro x wp ⟨rfl, hbp⟩
    rw [qp.out]
    have hX := Lib.hid (hX.out.below hbp hX.out.lt)
    have hRb := Lib.hid (hRb.out.below hbp hRb.out.lt)
    have hBb := Lib.hid (hBb.out.trans (hbp.mono hBb.out.size))
    have htb := Lib.hid (htb.out.below hbp)
    have hgp : wa.heap.size < wp.heap.size := hX.out.lt
    clear hbp
    go_wp2_with fail
    refine (ris_any _ m c l wp (i + 3) [46] hm htb).mono ?_
    rintro x w1 ⟨rfl, rfl⟩
    rw [q9.out]
    go_wp2_with fail
    refine (rnm_any _ m c l wp (i + 4) hm hok htb).mono ?_
    rintro x w1 ⟨rfl, rfl⟩
    rw [q10.out]
    go_wp2_with fail
    obtain ⟨pl, hpl⟩ : ∃ k, Hid (placeI e l (i + 4) = k) := ⟨_, Lib.hid rfl⟩
    refine (rwrong_any _ m c l wp e (i + 4) hm htb).mono ?_
    rintro x wz ⟨rfl, hbz⟩
    rw [hpl.out]
    have hB := Lib.hid (hBb.out.trans (hbz.mono hBb.out.size))
    have hR := Lib.hid (hRb.out.below hbz hRb.out.lt)
    clear hbz
    unfold gotE
    have rc0 : wz.cell? ⟨w.heap.size, 0, none⟩ = some (.int .i64 0) := hR.out.cell 0
    have rc1 : wz.cell? ⟨w.heap.size, 1, none⟩ = some (.int .i64 0) := hR.out.cell 1
    have rc2 : wz.cell? ⟨w.heap.size, 2, none⟩ = some (.string ⟨#[]⟩) := hR.out.cell 2
    have rc3 : wz.cell? ⟨w.heap.size, 3, none⟩ = some (.string ⟨#[]⟩) := hR.out.cell 3
    have rc4 : wz.cell? ⟨w.heap.size, 4, none⟩ = some (.int .i64 0) := hR.out.cell 4
    have rc5 : wz.cell? ⟨w.heap.size, 5, none⟩ = some (.slice none 0 0) := hR.out.cell 5
    have rc6 : wz.cell? ⟨w.heap.size, 6, none⟩ = some (.int .i64 0) := hR.out.cell 6
    have rc7 : wz.cell? ⟨w.heap.size, 7, none⟩ = some (.int .i64 0) := hR.out.cell 7
    have rc8 : wz.cell? ⟨w.heap.size, 8, none⟩ = some (.int .i64 0) := hR.out.cell 8
    have rf0 := hR.out.frozen 0
    have rf1 := hR.out.frozen 1
    have rf2 := hR.out.frozen 2
    have rf3 := hR.out.frozen 3
    have rf4 := hR.out.frozen 4
    have rf5 := hR.out.frozen 5
    have rf6 := hR.out.frozen 6
    have rf7 := hR.out.frozen 7
    have rf8 := hR.out.frozen 8
    have rlt := hR.out.lt
    go_wp2_with fail
    refine bodyPost_ret (results_row rfl _ _ w.heap.size 65 _ _ rfl (((((((((hR.out.set_ 0 _).set_ 1 _).set_ 2 _).set_ 3 _).set_ 4 _).set_ 5 _).set_ 6 _).set_ 7 _).set_ 8 _) Tryz.underlying65 rfl (by kernel_rfl)) rfl ?_
    exact ⟨(((((((((hB.out.setCell (Nat.le_refl _) _).setCell (Nat.le_refl _) _).setCell (Nat.le_refl _) _).setCell (Nat.le_refl _) _).setCell (Nat.le_refl _) _).setCell (Nat.le_refl _) _).setCell (Nat.le_refl _) _).setCell (Nat.le_refl _) _).setCell (Nat.le_refl _) _), by rw [hpl.out]; rfl⟩
  · refine (ris_any A m c l wa (i) [110, 111, 116] hm ht0).mono ?_
    rintro x w1 ⟨rfl, rfl⟩
    rw [q2.out]
    go_wp2_with fail
    refine (rcmp_any A m c l wa (i + 1) hm ht0).mono ?_
    rintro x w1 ⟨rfl, rfl⟩
    rw [q3.out]
    go_wp2_with fail
    have bpv : decide (pv < 0) = false := by simp [hpv]
    have hfm : i < m := by omega
    have im : (i : Int) < (m : Int) := by omega
    have i0 : (0 : Int) ≤ (i : Int) := by omega
    obtain ⟨g, off, rfl, hg, h0, h1, h2⟩ := ht0.out i f hf.out
    refine (rnm_any _ m c l wa (i) hm hok ht0).mono ?_
    rintro x w1 ⟨rfl, rfl⟩
    rw [q4.out]
    go_wp2_with fail
    refine (rcmp_any _ m c l wa (i + 1) hm ht0).mono ?_
    rintro x w1 ⟨rfl, rfl⟩
    rw [q5.out]
    go_wp2_with fail
    have hbl : Below wa.heap.size wa (wa.alloc (.cells #[.int .i64 0, .int .i64 0, .string ⟨f.text.toArray⟩, .string ⟨#[]⟩, .int .i64 0, .slice none 0 0] 25)) := (Below.refl _ wa).alloc (Nat.le_refl _) _
    have hX := Lib.hid (Blk.new wa 25 #[.int .i64 0, .int .i64 0, .string ⟨f.text.toArray⟩, .string ⟨#[]⟩, .int .i64 0, .slice none 0 0])
    have hRb := Lib.hid (hR0.out.below hbl hR0.out.lt)
    have hBb := Lib.hid (hb0.out.trans (hbl.mono hb0.out.size))
    have htb := Lib.hid (ht0.out.below hbl)
    have hsz : w.heap.size + 1 ≤ wa.heap.size := by have := hs0.out; omega
    have ne1 : wa.heap.size ≠ w.heap.size := by omega
    have ne2 : w.heap.size ≠ wa.heap.size := by omega
    obtain ⟨wb, hwb⟩ : ∃ x, Hid (wa.alloc (.cells #[.int .i64 0, .int .i64 0, .string ⟨f.text.toArray⟩, .string ⟨#[]⟩, .int .i64 0, .slice none 0 0] 25) = x) := ⟨_, Lib.hid rfl⟩
    rw [hwb.out] at hX hRb hBb htb ⊢
    have hgl : Hid (g ≠ wa.heap.size) := by unfold Hid; have h9 : g < wa.heap.size := World.block_lt_of_cell? wa _ h0; omega
    clear hbl hwb h0 h1 h2 ht0 hR0 hb0
    obtain ⟨kd, z1, z2, z3, z4, z5⟩ : ∃ kd : Int, i + 2 < m ∧ decide (((i + 2 : Nat) : Int) < (m : Int)) = true ∧ ((i + 2 : Nat) : Int) < (m : Int) ∧ (kd == 3) = false ∧ wb.cell? ⟨g, off + (i + 2) * 3, none⟩ = some (.int .i64 kd) := by
      obtain ⟨t, ht, hk⟩ := hk3
      have hk2 : i + 2 < m := by have := (List.getElem?_eq_some_iff.1 ht).1; have := hm.out; omega
      exact ⟨t.kind, hk2, by simp; omega, by omega, by simp [hk], (htb.out.at_ ht).1⟩
    have k0 : (0 : Int) ≤ ((i + 2 : Nat) : Int) := by omega
    refine (ris_any _ m c l wb (i + 1) [60, 61] hm htb).mono ?_
    rintro x w1 ⟨rfl, rfl⟩
    rw [q6.out]
    go_wp2_with fail
    refine (ris_any _ m c l wb (i + 1) [62, 61] hm htb).mono ?_
    rintro x w1 ⟨rfl, rfl⟩
    rw [q7.out]
    go_wp2_with fail
    refine (ris_any _ m c l wb (i + 1) [126] hm htb).mono ?_
    rintro x w1 ⟨rfl, rfl⟩
    rw [q8.out]
    go_wp2_with fail
    refine (rpaper_any _ m c l wb (i + 2) hm htb).mono ?_
    rintro x wp ⟨rfl, hbp⟩
    rw [qp.out]
    have hX := Lib.hid (hX.out.below hbp hX.out.lt)
    have hRb := Lib.hid (hRb.out.below hbp hRb.out.lt)
    have hBb := Lib.hid (hBb.out.trans (hbp.mono hBb.out.size))
    have htb := Lib.hid (htb.out.below hbp)
    have hgp : wa.heap.size < wp.heap.size := hX.out.lt
    clear hbp
    go_wp2_with fail
    refine (ris_any _ m c l wp (i + 3) [46] hm htb).mono ?_
    rintro x w1 ⟨rfl, rfl⟩
    rw [q9.out]
    go_wp2_with fail
    refine (rnm_any _ m c l wp (i + 4) hm hok htb).mono ?_
    rintro x w1 ⟨rfl, rfl⟩
    rw [q10.out]
    go_wp2_with fail
    obtain ⟨pl, hpl⟩ : ∃ k, Hid (placeI e l (i + 4) = k) := ⟨_, Lib.hid rfl⟩
    refine (rwrong_any _ m c l wp e (i + 4) hm htb).mono ?_
    rintro x wz ⟨rfl, hbz⟩
    rw [hpl.out]
    have hB := Lib.hid (hBb.out.trans (hbz.mono hBb.out.size))
    have hR := Lib.hid (hRb.out.below hbz hRb.out.lt)
    clear hbz
    unfold gotE
    have rc0 : wz.cell? ⟨w.heap.size, 0, none⟩ = some (.int .i64 0) := hR.out.cell 0
    have rc1 : wz.cell? ⟨w.heap.size, 1, none⟩ = some (.int .i64 0) := hR.out.cell 1
    have rc2 : wz.cell? ⟨w.heap.size, 2, none⟩ = some (.string ⟨#[]⟩) := hR.out.cell 2
    have rc3 : wz.cell? ⟨w.heap.size, 3, none⟩ = some (.string ⟨#[]⟩) := hR.out.cell 3
    have rc4 : wz.cell? ⟨w.heap.size, 4, none⟩ = some (.int .i64 0) := hR.out.cell 4
    have rc5 : wz.cell? ⟨w.heap.size, 5, none⟩ = some (.slice none 0 0) := hR.out.cell 5
    have rc6 : wz.cell? ⟨w.heap.size, 6, none⟩ = some (.int .i64 0) := hR.out.cell 6
    have rc7 : wz.cell? ⟨w.heap.size, 7, none⟩ = some (.int .i64 0) := hR.out.cell 7
    have rc8 : wz.cell? ⟨w.heap.size, 8, none⟩ = some (.int .i64 0) := hR.out.cell 8
    have rf0 := hR.out.frozen 0
    have rf1 := hR.out.frozen 1
    have rf2 := hR.out.frozen 2
    have rf3 := hR.out.frozen 3
    have rf4 := hR.out.frozen 4
    have rf5 := hR.out.frozen 5
    have rf6 := hR.out.frozen 6
    have rf7 := hR.out.frozen 7
    have rf8 := hR.out.frozen 8
    have rlt := hR.out.lt
    go_wp2_with fail
    refine bodyPost_ret (results_row rfl _ _ w.heap.size 65 _ _ rfl (((((((((hR.out.set_ 0 _).set_ 1 _).set_ 2 _).set_ 3 _).set_ 4 _).set_ 5 _).set_ 6 _).set_ 7 _).set_ 8 _) Tryz.underlying65 rfl (by kernel_rfl)) rfl ?_
    exact ⟨(((((((((hB.out.setCell (Nat.le_refl _) _).setCell (Nat.le_refl _) _).setCell (Nat.le_refl _) _).setCell (Nat.le_refl _) _).setCell (Nat.le_refl _) _).setCell (Nat.le_refl _) _).setCell (Nat.le_refl _) _).setCell (Nat.le_refl _) _).setCell (Nat.le_refl _) _), by rw [hpl.out]; rfl⟩


set_option maxRecDepth 100000 in
set_option maxHeartbeats 3200000 in
theorem ratom_like_ok (A : Option Addr) (m c e : Nat) (l : List Tok) (hm : Hid (l.length = m)) (hm4 : m ≤ 4096) (w : World) (i : Nat) (_hi : i ≤ m) (htk : Hid (TokAt w 0 A l)) (q1 : Hid (atI (isT [40]) l i = false)) (qn : Hid (atI (isT [110, 111, 116]) l i = false) ∨ Hid (atI (isT [110, 111, 116]) l i = true) ∧ Hid (atI cmpT l (i + 1) = true)) (hok : Hid (TokOk l)) (f : Tok) (hf : Hid (l[i]? = some f)) (_hi2 : i + 2 ≤ m) (q4 : Hid (atI nameT l i = true)) (q5 : Hid (atI cmpT l (i + 1) = true)) (q6 : Hid (atI (isT [60, 61]) l (i + 1) = false)) (q7 : Hid (atI (isT [62, 61]) l (i + 1) = false)) (hk3 : ∃ t, l[i + 2]? = some t ∧ t.kind ≠ 3) (q8 : Hid (atI (isT [126]) l (i + 1) = false)) (pv : Int) (qp : Hid (papI l (i + 2) = pv)) (hpv : ¬ pv < 0) (hi5 : i + 5 ≤ m) (q9 : Hid (atI (isT [46]) l (i + 3) = true)) (q10 : Hid (atI nameT l (i + 4) = true)) (y : Tok) (hy : Hid (l[i + 4]? = some y)) :
    Calls Tryz.prog 148 #[.slice A m c, .int .i64 i, .int .i64 e] w (fun x w' => Below w.heap.size w w' ∧ ∃ T9, x = .returned (.agg (gotV T9 (i + 5))) ∧ TreeAt w' (fun b => w.heap.size ≤ b) T9 ∧ strip T9 = (.mk 7 pv f.text y.text 0 [])) := by
  have hb0 : Hid (Below w.heap.size w (w.alloc (.cells #[.int .i64 0, .int .i64 0, .string ⟨#[]⟩, .string ⟨#[]⟩, .int .i64 0, .slice none 0 0, .int .i64 0, .int .i64 0, .int .i64 0] 65))) := (Below.refl _ w).alloc (Nat.le_refl _) _
  have hR0 := Lib.hid (Blk.new w 65 #[.int .i64 0, .int .i64 0, .string ⟨#[]⟩, .string ⟨#[]⟩, .int .i64 0, .slice none 0 0, .int .i64 0, .int .i64 0, .int .i64 0])
  have ht0 := Lib.hid (htk.out.below hb0.out)
  have hs0 : Hid ((w.alloc (.cells #[.int .i64 0, .int .i64 0, .string ⟨#[]⟩, .string ⟨#[]⟩, .int .i64 0, .slice none 0 0, .int .i64 0, .int .i64 0, .int .i64 0] 65)).heap.size = w.heap.size + 1) := by unfold Hid; simp
  have w1x : IntKind.i64.wrap ((i : Int) + 1) = ((i + 1 : Nat) : Int) := by rw [IntWalk.i64_in _ (by omega)]; omega
  have w2x : IntKind.i64.wrap ((i : Int) + 2) = ((i + 2 : Nat) : Int) := by rw [IntWalk.i64_in _ (by omega)]; omega
  have w3x : IntKind.i64.wrap ((i : Int) + 2 + 1) = ((i + 3 : Nat) : Int) := by rw [IntWalk.i64_in _ (by omega)]; omega
  have w4x : IntKind.i64.wrap ((i : Int) + 2 + 2) = ((i + 4 : Nat) : Int) := by rw [IntWalk.i64_in _ (by omega)]; omega
  have w5x : IntKind.i64.wrap ((i : Int) + 2 + 3) = ((i + 5 : Nat) : Int) := by rw [IntWalk.i64_in _ (by omega)]; omega
  go_enter Tryz.func148, Tryz.ntmps148
  go_wp2_with fail
  obtain ⟨wa, hwa⟩ : ∃ x, Hid (w.alloc (.cells #[.int .i64 0, .int .i64 0, .string ⟨#[]⟩, .string ⟨#[]⟩, .int .i64 0, .slice none 0 0, .int .i64 0, .int .i64 0, .int .i64 0] 65) = x) := ⟨_, Lib.hid rfl⟩
  change Calls Tryz.prog 48 _ (w.alloc (.cells #[.int .i64 0, .int .i64 0, .string ⟨#[]⟩, .string ⟨#[]⟩, .int .i64 0, .slice none 0 0, .int .i64 0, .int .i64 0, .int .i64 0] 65)) _
  rw [hwa.out] at hb0 hR0 ht0 hs0 ⊢
  clear hwa
  refine (ris_any A m c l wa (i) [40] hm ht0).mono ?_
  rintro x w1 ⟨rfl, rfl⟩
  rw [q1.out]
  go_wp2_with fail
  rcases qn with q2 | ⟨q2, q3⟩
  · refine (ris_any A m c l wa (i) [110, 111, 116] hm ht0).mono ?_
    rintro x w1 ⟨rfl, rfl⟩
    rw [q2.out]
    go_wp2_with fail
    have bpv : decide (pv < 0) = false := by simp [hpv]
    have hfm : i < m := by omega
    have im : (i : Int) < (m : Int) := by omega
    have i0 : (0 : Int) ≤ (i : Int) := by omega
    obtain ⟨g, off, rfl, hg, h0, h1, h2⟩ := ht0.out i f hf.out
    refine (rnm_any _ m c l wa (i) hm hok ht0).mono ?_
    rintro x w1 ⟨rfl, rfl⟩
    rw [q4.out]
    go_wp2_with fail
    refine (rcmp_any _ m c l wa (i + 1) hm ht0).mono ?_
    rintro x w1 ⟨rfl, rfl⟩
    rw [q5.out]
    go_wp2_with fail
    have hbl : Below wa.heap.size wa (wa.alloc (.cells #[.int .i64 0, .int .i64 0, .string ⟨f.text.toArray⟩, .string ⟨#[]⟩, .int .i64 0, .slice none 0 0] 25)) := (Below.refl _ wa).alloc (Nat.le_refl _) _
    have hX := Lib.hid (Blk.new wa 25 #[.int .i64 0, .int .i64 0, .string ⟨f.text.toArray⟩, .string ⟨#[]⟩, .int .i64 0, .slice none 0 0])
    have hRb := Lib.hid (hR0.out.below hbl hR0.out.lt)
    have hBb := Lib.hid (hb0.out.trans (hbl.mono hb0.out.size))
    have htb := Lib.hid (ht0.out.below hbl)
    have hsz : w.heap.size + 1 ≤ wa.heap.size := by have := hs0.out; omega
    have ne1 : wa.heap.size ≠ w.heap.size := by omega
    have ne2 : w.heap.size ≠ wa.heap.size := by omega
    obtain ⟨wb, hwb⟩ : ∃ x, Hid (wa.alloc (.cells #[.int .i64 0, .int .i64 0, .string ⟨f.text.toArray⟩, .string ⟨#[]⟩, .int .i64 0, .slice none 0 0] 25) = x) := ⟨_, Lib.hid rfl⟩
    rw [hwb.out] at hX hRb hBb htb ⊢
    have hgl : Hid (g ≠ wa.heap.size) := by unfold Hid; have h9 : g < wa.heap.size := World.block_lt_of_cell? wa _ h0; omega
    clear hbl hwb h0 h1 h2 ht0 hR0 hb0
    obtain ⟨kd, z1, z2, z3, z4, z5⟩ : ∃ kd : Int, i + 2 < m ∧ decide (((i + 2 : Nat) : Int) < (m : Int)) = true ∧ ((i + 2 : Nat) : Int) < (m : Int) ∧ (kd == 3) = false ∧ wb.cell? ⟨g, off + (i + 2) * 3, none⟩ = some (.int .i64 kd) := by
      obtain ⟨t, ht, hk⟩ := hk3
      have hk2 : i + 2 < m := by have := (List.getElem?_eq_some_iff.1 ht).1; have := hm.out; omega
      exact ⟨t.kind, hk2, by simp; omega, by omega, by simp [hk], (htb.out.at_ ht).1⟩
    have k0 : (0 : Int) ≤ ((i + 2 : Nat) : Int) := by omega
    refine (ris_any _ m c l wb (i + 1) [60, 61] hm htb).mono ?_
    rintro x w1 ⟨rfl, rfl⟩
    rw [q6.out]
    go_wp2_with fail
    refine (ris_any _ m c l wb (i + 1) [62, 61] hm htb).mono ?_
    rintro x w1 ⟨rfl, rfl⟩
    rw [q7.out]
    go_wp2_with fail
    refine (ris_any _ m c l wb (i + 1) [126] hm htb).mono ?_
    rintro x w1 ⟨rfl, rfl⟩
    rw [q8.out]
    go_wp2_with fail
    refine (rpaper_any _ m c l wb (i + 2) hm htb).mono ?_
    rintro x wp ⟨rfl, hbp⟩
    rw [qp.out]
    have hX := Lib.hid (hX.out.below hbp hX.out.lt)
    have hRb := Lib.hid (hRb.out.below hbp hRb.out.lt)
    have hBb := Lib.hid (hBb.out.trans (hbp.mono hBb.out.size))
    have htb := Lib.hid (htb.out.below hbp)
    have hgp : wa.heap.size < wp.heap.size := hX.out.lt
    clear hbp
    go_wp2_with fail
    refine (ris_any _ m c l wp (i + 3) [46] hm htb).mono ?_
    rintro x w1 ⟨rfl, rfl⟩
    rw [q9.out]
    go_wp2_with fail
    refine (rnm_any _ m c l wp (i + 4) hm hok htb).mono ?_
    rintro x w1 ⟨rfl, rfl⟩
    rw [q10.out]
    have xc0 : wp.cell? ⟨wa.heap.size, 0, none⟩ = some (.int .i64 0) := hX.out.cell 0
    have xf0 := hX.out.frozen 0
    have xlt := hX.out.lt
    go_wp2_with fail
    clear xc0 xf0 xlt
    have hX := Lib.hid (hX.out.set_ 0 (.int .i64 7))
    have hRb := Lib.hid (hRb.out.far (p := ⟨wa.heap.size, 0, none⟩) ne2 (.int .i64 7))
    have hBb : Hid (Below w.heap.size w (wp.setCell ⟨wa.heap.size, 0, none⟩ (.int .i64 7))) := hBb.out.setCell (p := ⟨wa.heap.size, 0, none⟩) (by show w.heap.size ≤ wa.heap.size; omega) _
    have htb : Hid (TokAt (wp.setCell ⟨wa.heap.size, 0, none⟩ (.int .i64 7)) 0 (some ⟨g, off, none⟩) l) := tok_far htb.out hgl.out
    obtain ⟨wq, hnxt⟩ : ∃ x, Hid ((wp.setCell ⟨wa.heap.size, 0, none⟩ (.int .i64 7)) = x) := ⟨_, Lib.hid rfl⟩
    change Calls Tryz.prog 98 _ (wp.setCell ⟨wa.heap.size, 0, none⟩ (.int .i64 7)) _
    rw [hnxt.out] at hX hRb hBb htb ⊢
    clear hnxt
    refine (rpaper_any _ m c l wq (i + 2) hm htb).mono ?_
    rintro x wr ⟨rfl, hbp⟩
    rw [qp.out]
    have hX := Lib.hid (hX.out.below hbp hX.out.lt)
    have hRb := Lib.hid (hRb.out.below hbp hRb.out.lt)
    have hBb := Lib.hid (hBb.out.trans (hbp.mono hBb.out.size))
    have htb := Lib.hid (htb.out.below hbp)
    have hgp : wa.heap.size < wr.heap.size := hX.out.lt
    clear hbp
    obtain ⟨y0, y2⟩ := htb.out.at_ hy.out
    have ym : ((i + 4 : Nat) : Int) < (m : Int) := by omega
    have yk0 : (0 : Int) ≤ ((i + 4 : Nat) : Int) := by omega
    have xc0 : wr.cell? ⟨wa.heap.size, 0, none⟩ = some (.int .i64 7) := hX.out.cell 0
    have xf0 := hX.out.frozen 0
    have xc1 : wr.cell? ⟨wa.heap.size, 1, none⟩ = some (.int .i64 0) := hX.out.cell 1
    have xf1 := hX.out.frozen 1
    have xc2 : wr.cell? ⟨wa.heap.size, 2, none⟩ = some (.string ⟨f.text.toArray⟩) := hX.out.cell 2
    have xf2 := hX.out.frozen 2
    have xc3 : wr.cell? ⟨wa.heap.size, 3, none⟩ = some (.string ⟨#[]⟩) := hX.out.cell 3
    have xf3 := hX.out.frozen 3
    have xc4 : wr.cell? ⟨wa.heap.size, 4, none⟩ = some (.int .i64 0) := hX.out.cell 4
    have xf4 := hX.out.frozen 4
    have xc5 : wr.cell? ⟨wa.heap.size, 5, none⟩ = some (.slice none 0 0) := hX.out.cell 5
    have xf5 := hX.out.frozen 5
    have xlt := hX.out.lt
    have rc0 : wr.cell? ⟨w.heap.size, 0, none⟩ = some (.int .i64 0) := hRb.out.cell 0
    have rc1 : wr.cell? ⟨w.heap.size, 1, none⟩ = some (.int .i64 0) := hRb.out.cell 1
    have rc2 : wr.cell? ⟨w.heap.size, 2, none⟩ = some (.string ⟨#[]⟩) := hRb.out.cell 2
    have rc3 : wr.cell? ⟨w.heap.size, 3, none⟩ = some (.string ⟨#[]⟩) := hRb.out.cell 3
    have rc4 : wr.cell? ⟨w.heap.size, 4, none⟩ = some (.int .i64 0) := hRb.out.cell 4
    have rc5 : wr.cell? ⟨w.heap.size, 5, none⟩ = some (.slice none 0 0) := hRb.out.cell 5
    have rc6 : wr.cell? ⟨w.heap.size, 6, none⟩ = some (.int .i64 0) := hRb.out.cell 6
    have rc7 : wr.cell? ⟨w.heap.size, 7, none⟩ = some (.int .i64 0) := hRb.out.cell 7
    have rc8 : wr.cell? ⟨w.heap.size, 8, none⟩ = some (.int .i64 0) := hRb.out.cell 8
    have rf0 := hRb.out.frozen 0
    have rf1 := hRb.out.frozen 1
    have rf2 := hRb.out.frozen 2
    have rf3 := hRb.out.frozen 3
    have rf4 := hRb.out.frozen 4
    have rf5 := hRb.out.frozen 5
    have rf6 := hRb.out.frozen 6
    have rf7 := hRb.out.frozen 7
    have rf8 := hRb.out.frozen 8
    have rlt := hRb.out.lt
    go_wp2_with fail
    refine bodyPost_ret (results_row rfl _ _ w.heap.size 65 _ _ rfl (((((((((((hRb.out.far (p := ⟨wa.heap.size, 1, none⟩) ne2 _).far (p := ⟨wa.heap.size, 3, none⟩) ne2 _).set_ 0 _).set_ 1 _).set_ 2 _).set_ 3 _).set_ 4 _).set_ 5 _).set_ 6 _).set_ 7 _).set_ 8 _) Tryz.underlying65 rfl (by kernel_rfl)) rfl ?_
    refine ⟨(((((((((((hBb.out.setCell (p := ⟨wa.heap.size, 1, none⟩) (by show w.heap.size ≤ wa.heap.size; omega) _).setCell (p := ⟨wa.heap.size, 3, none⟩) (by show w.heap.size ≤ wa.heap.size; omega) _).setCell (Nat.le_refl _) _).setCell (Nat.le_refl _) _).setCell (Nat.le_refl _) _).setCell (Nat.le_refl _) _).setCell (Nat.le_refl _) _).setCell (Nat.le_refl _) _).setCell (Nat.le_refl _) _).setCell (Nat.le_refl _) _).setCell (Nat.le_refl _) _), .mk 7 pv f.text y.text 0 none 0 [], by simp [gotV], tree_leaf _ _ _ _ _ _ _ _ _, by rw [strip_leaf]; try rfl⟩
  · refine (ris_any A m c l wa (i) [110, 111, 116] hm ht0).mono ?_
    rintro x w1 ⟨rfl, rfl⟩
    rw [q2.out]
    go_wp2_with fail
    refine (rcmp_any A m c l wa (i + 1) hm ht0).mono ?_
    rintro x w1 ⟨rfl, rfl⟩
    rw [q3.out]
    go_wp2_with fail
    have bpv : decide (pv < 0) = false := by simp [hpv]
    have hfm : i < m := by omega
    have im : (i : Int) < (m : Int) := by omega
    have i0 : (0 : Int) ≤ (i : Int) := by omega
    obtain ⟨g, off, rfl, hg, h0, h1, h2⟩ := ht0.out i f hf.out
    refine (rnm_any _ m c l wa (i) hm hok ht0).mono ?_
    rintro x w1 ⟨rfl, rfl⟩
    rw [q4.out]
    go_wp2_with fail
    refine (rcmp_any _ m c l wa (i + 1) hm ht0).mono ?_
    rintro x w1 ⟨rfl, rfl⟩
    rw [q5.out]
    go_wp2_with fail
    have hbl : Below wa.heap.size wa (wa.alloc (.cells #[.int .i64 0, .int .i64 0, .string ⟨f.text.toArray⟩, .string ⟨#[]⟩, .int .i64 0, .slice none 0 0] 25)) := (Below.refl _ wa).alloc (Nat.le_refl _) _
    have hX := Lib.hid (Blk.new wa 25 #[.int .i64 0, .int .i64 0, .string ⟨f.text.toArray⟩, .string ⟨#[]⟩, .int .i64 0, .slice none 0 0])
    have hRb := Lib.hid (hR0.out.below hbl hR0.out.lt)
    have hBb := Lib.hid (hb0.out.trans (hbl.mono hb0.out.size))
    have htb := Lib.hid (ht0.out.below hbl)
    have hsz : w.heap.size + 1 ≤ wa.heap.size := by have := hs0.out; omega
    have ne1 : wa.heap.size ≠ w.heap.size := by omega
    have ne2 : w.heap.size ≠ wa.heap.size := by omega
    obtain ⟨wb, hwb⟩ : ∃ x, Hid (wa.alloc (.cells #[.int .i64 0, .int .i64 0, .string ⟨f.text.toArray⟩, .string ⟨#[]⟩, .int .i64 0, .slice none 0 0] 25) = x) := ⟨_, Lib.hid rfl⟩
    rw [hwb.out] at hX hRb hBb htb ⊢
    have hgl : Hid (g ≠ wa.heap.size) := by unfold Hid; have h9 : g < wa.heap.size := World.block_lt_of_cell? wa _ h0; omega
    clear hbl hwb h0 h1 h2 ht0 hR0 hb0
    obtain ⟨kd, z1, z2, z3, z4, z5⟩ : ∃ kd : Int, i + 2 < m ∧ decide (((i + 2 : Nat) : Int) < (m : Int)) = true ∧ ((i + 2 : Nat) : Int) < (m : Int) ∧ (kd == 3) = false ∧ wb.cell? ⟨g, off + (i + 2) * 3, none⟩ = some (.int .i64 kd) := by
      obtain ⟨t, ht, hk⟩ := hk3
      have hk2 : i + 2 < m := by have := (List.getElem?_eq_some_iff.1 ht).1; have := hm.out; omega
      exact ⟨t.kind, hk2, by simp; omega, by omega, by simp [hk], (htb.out.at_ ht).1⟩
    have k0 : (0 : Int) ≤ ((i + 2 : Nat) : Int) := by omega
    refine (ris_any _ m c l wb (i + 1) [60, 61] hm htb).mono ?_
    rintro x w1 ⟨rfl, rfl⟩
    rw [q6.out]
    go_wp2_with fail
    refine (ris_any _ m c l wb (i + 1) [62, 61] hm htb).mono ?_
    rintro x w1 ⟨rfl, rfl⟩
    rw [q7.out]
    go_wp2_with fail
    refine (ris_any _ m c l wb (i + 1) [126] hm htb).mono ?_
    rintro x w1 ⟨rfl, rfl⟩
    rw [q8.out]
    go_wp2_with fail
    refine (rpaper_any _ m c l wb (i + 2) hm htb).mono ?_
    rintro x wp ⟨rfl, hbp⟩
    rw [qp.out]
    have hX := Lib.hid (hX.out.below hbp hX.out.lt)
    have hRb := Lib.hid (hRb.out.below hbp hRb.out.lt)
    have hBb := Lib.hid (hBb.out.trans (hbp.mono hBb.out.size))
    have htb := Lib.hid (htb.out.below hbp)
    have hgp : wa.heap.size < wp.heap.size := hX.out.lt
    clear hbp
    go_wp2_with fail
    refine (ris_any _ m c l wp (i + 3) [46] hm htb).mono ?_
    rintro x w1 ⟨rfl, rfl⟩
    rw [q9.out]
    go_wp2_with fail
    refine (rnm_any _ m c l wp (i + 4) hm hok htb).mono ?_
    rintro x w1 ⟨rfl, rfl⟩
    rw [q10.out]
    have xc0 : wp.cell? ⟨wa.heap.size, 0, none⟩ = some (.int .i64 0) := hX.out.cell 0
    have xf0 := hX.out.frozen 0
    have xlt := hX.out.lt
    go_wp2_with fail
    clear xc0 xf0 xlt
    have hX := Lib.hid (hX.out.set_ 0 (.int .i64 7))
    have hRb := Lib.hid (hRb.out.far (p := ⟨wa.heap.size, 0, none⟩) ne2 (.int .i64 7))
    have hBb : Hid (Below w.heap.size w (wp.setCell ⟨wa.heap.size, 0, none⟩ (.int .i64 7))) := hBb.out.setCell (p := ⟨wa.heap.size, 0, none⟩) (by show w.heap.size ≤ wa.heap.size; omega) _
    have htb : Hid (TokAt (wp.setCell ⟨wa.heap.size, 0, none⟩ (.int .i64 7)) 0 (some ⟨g, off, none⟩) l) := tok_far htb.out hgl.out
    obtain ⟨wq, hnxt⟩ : ∃ x, Hid ((wp.setCell ⟨wa.heap.size, 0, none⟩ (.int .i64 7)) = x) := ⟨_, Lib.hid rfl⟩
    change Calls Tryz.prog 98 _ (wp.setCell ⟨wa.heap.size, 0, none⟩ (.int .i64 7)) _
    rw [hnxt.out] at hX hRb hBb htb ⊢
    clear hnxt
    refine (rpaper_any _ m c l wq (i + 2) hm htb).mono ?_
    rintro x wr ⟨rfl, hbp⟩
    rw [qp.out]
    have hX := Lib.hid (hX.out.below hbp hX.out.lt)
    have hRb := Lib.hid (hRb.out.below hbp hRb.out.lt)
    have hBb := Lib.hid (hBb.out.trans (hbp.mono hBb.out.size))
    have htb := Lib.hid (htb.out.below hbp)
    have hgp : wa.heap.size < wr.heap.size := hX.out.lt
    clear hbp
    obtain ⟨y0, y2⟩ := htb.out.at_ hy.out
    have ym : ((i + 4 : Nat) : Int) < (m : Int) := by omega
    have yk0 : (0 : Int) ≤ ((i + 4 : Nat) : Int) := by omega
    have xc0 : wr.cell? ⟨wa.heap.size, 0, none⟩ = some (.int .i64 7) := hX.out.cell 0
    have xf0 := hX.out.frozen 0
    have xc1 : wr.cell? ⟨wa.heap.size, 1, none⟩ = some (.int .i64 0) := hX.out.cell 1
    have xf1 := hX.out.frozen 1
    have xc2 : wr.cell? ⟨wa.heap.size, 2, none⟩ = some (.string ⟨f.text.toArray⟩) := hX.out.cell 2
    have xf2 := hX.out.frozen 2
    have xc3 : wr.cell? ⟨wa.heap.size, 3, none⟩ = some (.string ⟨#[]⟩) := hX.out.cell 3
    have xf3 := hX.out.frozen 3
    have xc4 : wr.cell? ⟨wa.heap.size, 4, none⟩ = some (.int .i64 0) := hX.out.cell 4
    have xf4 := hX.out.frozen 4
    have xc5 : wr.cell? ⟨wa.heap.size, 5, none⟩ = some (.slice none 0 0) := hX.out.cell 5
    have xf5 := hX.out.frozen 5
    have xlt := hX.out.lt
    have rc0 : wr.cell? ⟨w.heap.size, 0, none⟩ = some (.int .i64 0) := hRb.out.cell 0
    have rc1 : wr.cell? ⟨w.heap.size, 1, none⟩ = some (.int .i64 0) := hRb.out.cell 1
    have rc2 : wr.cell? ⟨w.heap.size, 2, none⟩ = some (.string ⟨#[]⟩) := hRb.out.cell 2
    have rc3 : wr.cell? ⟨w.heap.size, 3, none⟩ = some (.string ⟨#[]⟩) := hRb.out.cell 3
    have rc4 : wr.cell? ⟨w.heap.size, 4, none⟩ = some (.int .i64 0) := hRb.out.cell 4
    have rc5 : wr.cell? ⟨w.heap.size, 5, none⟩ = some (.slice none 0 0) := hRb.out.cell 5
    have rc6 : wr.cell? ⟨w.heap.size, 6, none⟩ = some (.int .i64 0) := hRb.out.cell 6
    have rc7 : wr.cell? ⟨w.heap.size, 7, none⟩ = some (.int .i64 0) := hRb.out.cell 7
    have rc8 : wr.cell? ⟨w.heap.size, 8, none⟩ = some (.int .i64 0) := hRb.out.cell 8
    have rf0 := hRb.out.frozen 0
    have rf1 := hRb.out.frozen 1
    have rf2 := hRb.out.frozen 2
    have rf3 := hRb.out.frozen 3
    have rf4 := hRb.out.frozen 4
    have rf5 := hRb.out.frozen 5
    have rf6 := hRb.out.frozen 6
    have rf7 := hRb.out.frozen 7
    have rf8 := hRb.out.frozen 8
    have rlt := hRb.out.lt
    go_wp2_with fail
    refine bodyPost_ret (results_row rfl _ _ w.heap.size 65 _ _ rfl (((((((((((hRb.out.far (p := ⟨wa.heap.size, 1, none⟩) ne2 _).far (p := ⟨wa.heap.size, 3, none⟩) ne2 _).set_ 0 _).set_ 1 _).set_ 2 _).set_ 3 _).set_ 4 _).set_ 5 _).set_ 6 _).set_ 7 _).set_ 8 _) Tryz.underlying65 rfl (by kernel_rfl)) rfl ?_
    refine ⟨(((((((((((hBb.out.setCell (p := ⟨wa.heap.size, 1, none⟩) (by show w.heap.size ≤ wa.heap.size; omega) _).setCell (p := ⟨wa.heap.size, 3, none⟩) (by show w.heap.size ≤ wa.heap.size; omega) _).setCell (Nat.le_refl _) _).setCell (Nat.le_refl _) _).setCell (Nat.le_refl _) _).setCell (Nat.le_refl _) _).setCell (Nat.le_refl _) _).setCell (Nat.le_refl _) _).setCell (Nat.le_refl _) _).setCell (Nat.le_refl _) _).setCell (Nat.le_refl _) _), .mk 7 pv f.text y.text 0 none 0 [], by simp [gotV], tree_leaf _ _ _ _ _ _ _ _ _, by rw [strip_leaf]; try rfl⟩

end Go.Proofs.YtjkmhlfjheiekaaGreatDoor

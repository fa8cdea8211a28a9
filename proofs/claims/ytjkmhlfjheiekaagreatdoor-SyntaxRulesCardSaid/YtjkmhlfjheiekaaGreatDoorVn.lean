/- The document's Rule of a text. -/
import Derived.Test.YtjkmhlfjheiekaaGreatDoorVm
namespace Go.Proofs.YtjkmhlfjheiekaaGreatDoor
open Go Go.RowKit Go.BigFrame Go.Maps

theorem whole_suf {e n : Nat} {ts ts' : List Tok} {r : Rul} (h : wholeP e n ts = some (.ok (r, ts'))) : ts' <:+ ts := by
  unfold wholeP at h
  split at h
  · cases h
  · cases h
  · rename_i r1 t1 h1
    split at h
    · cases h
    · simp only [Option.some.injEq, Except.ok.injEq, Prod.mk.injEq] at h
      obtain ⟨_, rfl⟩ := h
      exact row_suf n (row_suf n (one_suf e n)) _ _ _ h1
set_option maxRecDepth 100000 in
set_option maxHeartbeats 2400000 in
theorem rrule_full_any (s : ByteArray) (w : World) (hs : s.size ≤ maxLen) : Calls Tryz.prog 14 #[.string s] w (RuleOut w s.data.toList) := by
  have hln : Hid (s.data.toList.length = s.size) := by unfold Hid; simp
  have hR0 : Hid (Blk (w.alloc (.cells zeroN 25)) w.heap.size 25 zeroN) := Blk.new w 25 zeroN
  have hB0 : Hid (Below w.heap.size w (w.alloc (.cells zeroN 25))) := (Below.refl _ w).alloc (Nat.le_refl _) _
  have hsz0 : Hid ((w.alloc (.cells zeroN 25)).heap.size = w.heap.size + 1) := by unfold Hid; simp
  have hsc := Lib.hid (fun W => rscan_any s W hs)
  unfold maxLen at hs
  have hs' := Lib.hid hs
  clear hs
  by_cases hbig : 4096 < s.size
  · have b1 : decide ((4096 : Int) < (s.size : Int)) = true := by simp; omega
    have hres : Hid (ruleT s.data.toList = .error (0, 7)) := by unfold Hid; rw [ruleT, if_pos (by rw [hln.out]; exact hbig)]
    go_enter Tryz.func14, Tryz.ntmps14
    go_wp2_with fail
    refine bodyPost_ret (results_row_tmp2 rfl _ _ w.heap.size 25 _ _ rfl (Blk.new w 25 _) Tryz.underlying25 rfl (by kernel_rfl)) rfl ?_
    unfold RuleOut
    rw [hres.out]
    exact ⟨(Below.refl _ w).alloc (Nat.le_refl _) _, rfl, by decide⟩
  have b1 : decide ((4096 : Int) < (s.size : Int)) = false := by simp; omega
  go_enter Tryz.func14, Tryz.ntmps14
  go_wp2_with fail
  change Calls Tryz.prog 34 _ (w.alloc (.cells zeroN 25)) _
  obtain ⟨wa, hwa⟩ : ∃ x, Hid (w.alloc (.cells zeroN 25) = x) := ⟨_, Lib.hid rfl⟩
  rw [hwa.out] at hR0 hB0 hsz0 ⊢
  clear hwa
  refine (hsc.out wa).mono ?_
  rintro x w1 ⟨hb1, hcase⟩
  have hR1 := Lib.hid (hR0.out.below hb1 hR0.out.lt)
  have hB1 : Hid (Below w.heap.size w w1) := hB0.out.trans (hb1.mono hB0.out.size)
  have hsz1 : Hid (w.heap.size + 1 ≤ w1.heap.size) := by have := hb1.size; have := hsz0.out; unfold Hid; omega
  have hle : Hid (w.heap.size + 1 ≤ wa.heap.size) := by have := hsz0.out; unfold Hid; omega
  clear hb1 hR0 hB0 hsc
  rcases hcase with ⟨l, v, hsc, rfl, hl, hown⟩ | ⟨k, cd, hsc, hcd, rfl⟩
  · obtain ⟨A, c, rfl⟩ := own_slice hown
    by_cases hnil : l = []
    · subst hnil
      have hres : Hid (ruleT s.data.toList = .ok emptyR) := rule_empty (by rw [hln.out]; omega) hsc
      clear hown hsc hl
      have rc0 : w1.cell? ⟨w.heap.size, 0, none⟩ = some (.int .i64 0) := hR1.out.cell 0
      have rc1 : w1.cell? ⟨w.heap.size, 1, none⟩ = some (.int .i64 0) := hR1.out.cell 1
      have rc2 : w1.cell? ⟨w.heap.size, 2, none⟩ = some (.string ⟨#[]⟩) := hR1.out.cell 2
      have rc3 : w1.cell? ⟨w.heap.size, 3, none⟩ = some (.string ⟨#[]⟩) := hR1.out.cell 3
      have rc4 : w1.cell? ⟨w.heap.size, 4, none⟩ = some (.int .i64 0) := hR1.out.cell 4
      have rc5 : w1.cell? ⟨w.heap.size, 5, none⟩ = some (.slice none 0 0) := hR1.out.cell 5
      have rf0 := hR1.out.frozen 0
      have rf1 := hR1.out.frozen 1
      have rf2 := hR1.out.frozen 2
      have rf3 := hR1.out.frozen 3
      have rf4 := hR1.out.frozen 4
      have rf5 := hR1.out.frozen 5
      have rlt := hR1.out.lt
      go_wp2_with fail
      refine bodyPost_ret (results_row_tmp2 rfl _ _ w.heap.size 25 _ _ rfl ((((((hR1.out.set_ 0 _).set_ 1 _).set_ 2 _).set_ 3 _).set_ 4 _).set_ 5 _) Tryz.underlying25 rfl (by kernel_rfl)) rfl ?_
      unfold RuleOut
      rw [hres.out]
      exact ⟨((((((hB1.out.setCell (Nat.le_refl _) _).setCell (Nat.le_refl _) _).setCell (Nat.le_refl _) _).setCell (Nat.le_refl _) _).setCell (Nat.le_refl _) _).setCell (Nat.le_refl _) _), .mk 0 0 [] [] 0 none 0 [], rfl, tree_leaf _ _ _ _ _ _ _ _ _, strip_leaf _ _ _ _ _ _ _⟩
    · obtain ⟨⟨r0, st0⟩, y, _, hwp, _, _⟩ := (whole_agree s.size l (2 * l.length + 2) (by omega)).2 ⟨0, 0, 0⟩ ⟨rfl, Nat.zero_le _⟩ (by simp; omega)
      have hres : Hid (ruleT s.data.toList = endM y) := by
        unfold Hid
        cases l with
        | nil => exact absurd rfl hnil
        | cons t ts =>
          rw [ruleT, if_neg (by rw [hln.out]; exact hbig), hsc]
          simp only
          simp only [List.drop_zero, List.length_cons] at hwp
          rw [hln.out, hwp]
          rcases y with q | ⟨r', _ | ⟨a, b⟩⟩ <;> rfl
      have hok : Hid (TokOk l) := tokens_ok hsc (by rw [hln.out]; omega)
      have hgd := scan_goodL hsc
      have htk : Hid (TokAt w1 0 A l) := tok_own hown (by have := hle.out; omega)
      have hwc := Lib.hid (rwhole_any A c s.size l hgd hok hl (2 * l.length + 2) (by omega) w1 0 y (Nat.zero_le _) hwp htk)
      have b0 : ((l.length : Int) == 0) = false := by simp; exact hnil
      have hlm := Lib.hid hl
      have hsuf : Hid (∀ r ts, y = .ok (r, ts) → ts <:+ l) := fun r ts h => by
        have := whole_suf (h ▸ hwp)
        simpa using this
      clear hown hwp hnil hsc hl hgd
      go_wp2_with fail
      refine hwc.out.mono ?_
      rintro x w2 ⟨hb2, hgot⟩
      obtain ⟨⟨tk, tp, tf, tx, tn, tA, tc, tL⟩, nx, ee, at_, rfl, hT1, hM1⟩ := got_any hgot
      have hM1' := Lib.hid hM1
      have hT1' : Hid (TreeAt w2 (fun b => w.heap.size + 1 ≤ b) (.mk tk tp tf tx tn tA tc tL)) := hT1.mono fun b _ hb => by have := hsz1.out; omega
      have hB2 : Hid (Below w.heap.size w w2) := hB1.out.trans (hb2.mono hB1.out.size)
      have hR2 := Lib.hid (hR1.out.below hb2 hR1.out.lt)
      have htk2 := Lib.hid (htk.out.below hb2)
      have hsz : w.heap.size + 1 ≤ w2.heap.size := by have := hb2.size; have := hsz1.out; omega
      have ne1 : w2.heap.size ≠ w.heap.size := by omega
      have ne2 : w.heap.size ≠ w2.heap.size := by omega
      clear hgot hM1 hT1 hb2 hwc hB1 hR1 htk
      unfold gotG
      have hbl : Below w2.heap.size w2 (w2.alloc (.cells #[.int .i64 tk, .int .i64 tp, .string ⟨tf.toArray⟩, .string ⟨tx.toArray⟩, .int .i64 tn, .slice tA tL.length tc, .int .i64 nx, .int .i64 ee, .int .i64 at_] 65)) := (Below.refl _ w2).alloc (Nat.le_refl _) _
      have hN := Lib.hid (Blk.new w2 65 #[.int .i64 tk, .int .i64 tp, .string ⟨tf.toArray⟩, .string ⟨tx.toArray⟩, .int .i64 tn, .slice tA tL.length tc, .int .i64 nx, .int .i64 ee, .int .i64 at_])
      have hRb := Lib.hid (hR2.out.below hbl hR2.out.lt)
      have hBb := Lib.hid (hB2.out.trans (hbl.mono hB2.out.size))
      have hTb := Lib.hid (hT1'.out.below hbl)
      have htkb := Lib.hid (htk2.out.below hbl)
      obtain ⟨wb, hwb⟩ : ∃ x, Hid (w2.alloc (.cells #[.int .i64 tk, .int .i64 tp, .string ⟨tf.toArray⟩, .string ⟨tx.toArray⟩, .int .i64 tn, .slice tA tL.length tc, .int .i64 nx, .int .i64 ee, .int .i64 at_] 65) = x) := ⟨_, Lib.hid rfl⟩
      go_upto_region 9 with fail
      rw [hwb.out] at hN hRb hBb hTb htkb ⊢
      obtain ⟨G, hG⟩ : ∃ x, Hid (w2.heap.size = x) := ⟨_, Lib.hid rfl⟩
      rw [hG.out] at hN ne1 ne2 hsz ⊢
      clear hbl hwb hB2 hR2 hT1' htk2 hG
      rcases y with ⟨pl, cd⟩ | ⟨r, ts⟩
      · obtain ⟨het, rfl, rfl, rfl, hcd⟩ := hM1'.out
        simp only [Tree.mk.injEq] at het
        obtain ⟨rfl, rfl, rfl, rfl, rfl, rfl, rfl, rfl⟩ := het
        have b3 : (ee == 0) = false := by simp [hcd]
        have b4 : (ee != 0) = true := by simp [hcd]
        have hcd' := Lib.hid hcd
        clear hcd
        have hres2 : Hid (ruleT s.data.toList = .error (at_, ee)) := hres.out
        have nc0 : wb.cell? ⟨G, 0, none⟩ = some (.int .i64 0) := hN.out.cell 0
        have nc1 : wb.cell? ⟨G, 1, none⟩ = some (.int .i64 0) := hN.out.cell 1
        have nc2 : wb.cell? ⟨G, 2, none⟩ = some (.string ⟨[].toArray⟩) := hN.out.cell 2
        have nc3 : wb.cell? ⟨G, 3, none⟩ = some (.string ⟨[].toArray⟩) := hN.out.cell 3
        have nc4 : wb.cell? ⟨G, 4, none⟩ = some (.int .i64 0) := hN.out.cell 4
        have nc5 : wb.cell? ⟨G, 5, none⟩ = some (.slice none 0 0) := hN.out.cell 5
        have nc6 : wb.cell? ⟨G, 6, none⟩ = some (.int .i64 (0 : Nat)) := hN.out.cell 6
        have nc7 : wb.cell? ⟨G, 7, none⟩ = some (.int .i64 ee) := hN.out.cell 7
        have nc8 : wb.cell? ⟨G, 8, none⟩ = some (.int .i64 at_) := hN.out.cell 8
        have nlt := hN.out.lt
        have rc0 : wb.cell? ⟨w.heap.size, 0, none⟩ = some (.int .i64 0) := hRb.out.cell 0
        have rc1 : wb.cell? ⟨w.heap.size, 1, none⟩ = some (.int .i64 0) := hRb.out.cell 1
        have rc2 : wb.cell? ⟨w.heap.size, 2, none⟩ = some (.string ⟨#[]⟩) := hRb.out.cell 2
        have rc3 : wb.cell? ⟨w.heap.size, 3, none⟩ = some (.string ⟨#[]⟩) := hRb.out.cell 3
        have rc4 : wb.cell? ⟨w.heap.size, 4, none⟩ = some (.int .i64 0) := hRb.out.cell 4
        have rc5 : wb.cell? ⟨w.heap.size, 5, none⟩ = some (.slice none 0 0) := hRb.out.cell 5
        have rf0 := hRb.out.frozen 0
        have rf1 := hRb.out.frozen 1
        have rf2 := hRb.out.frozen 2
        have rf3 := hRb.out.frozen 3
        have rf4 := hRb.out.frozen 4
        have rf5 := hRb.out.frozen 5
        have rlt := hRb.out.lt
        go_wp2_with fail
        go_region
        all_goals
          go_wp2_with fail
          refine bodyPost_ret (results_row_tmp2 rfl _ _ w.heap.size 25 _ _ rfl (Blk.drew ((((((hRb.out.set_ 0 _).set_ 1 _).set_ 2 _).set_ 3 _).set_ 4 _).set_ 5 _)) Tryz.underlying25 rfl (by kernel_rfl)) rfl ?_
          unfold RuleOut
          rw [hres2.out]
          exact ⟨(Below.drew ((((((hBb.out.setCell (Nat.le_refl _) _).setCell (Nat.le_refl _) _).setCell (Nat.le_refl _) _).setCell (Nat.le_refl _) _).setCell (Nat.le_refl _) _).setCell (Nat.le_refl _) _)), rfl, hcd'.out⟩
      · obtain ⟨hnx, rfl, rfl, hst⟩ := hM1'.out
        have hsx := hsuf.out r ts rfl
        have hdr : Hid (l.drop nx = ts) := by unfold Hid; rw [hnx]; exact (List.suffix_iff_eq_drop.1 hsx).symm
        have hst' := Lib.hid hst
        have hnl : nx + ts.length = l.length := by have := hsx.length_le; omega
        clear hM1' hnx hst hsuf hsx
        have nc0 : wb.cell? ⟨G, 0, none⟩ = some (.int .i64 tk) := hN.out.cell 0
        have nc1 : wb.cell? ⟨G, 1, none⟩ = some (.int .i64 tp) := hN.out.cell 1
        have nc2 : wb.cell? ⟨G, 2, none⟩ = some (.string ⟨tf.toArray⟩) := hN.out.cell 2
        have nc3 : wb.cell? ⟨G, 3, none⟩ = some (.string ⟨tx.toArray⟩) := hN.out.cell 3
        have nc4 : wb.cell? ⟨G, 4, none⟩ = some (.int .i64 tn) := hN.out.cell 4
        have nc5 : wb.cell? ⟨G, 5, none⟩ = some (.slice tA tL.length tc) := hN.out.cell 5
        have nc6 : wb.cell? ⟨G, 6, none⟩ = some (.int .i64 nx) := hN.out.cell 6
        have nc7 : wb.cell? ⟨G, 7, none⟩ = some (.int .i64 0) := hN.out.cell 7
        have nc8 : wb.cell? ⟨G, 8, none⟩ = some (.int .i64 (0 : Nat)) := hN.out.cell 8
        have nf0 := hN.out.frozen 0
        have nf1 := hN.out.frozen 1
        have nf2 := hN.out.frozen 2
        have nf3 := hN.out.frozen 3
        have nf4 := hN.out.frozen 4
        have nf5 := hN.out.frozen 5
        have nf6 := hN.out.frozen 6
        have nf7 := hN.out.frozen 7
        have nf8 := hN.out.frozen 8
        have nlt := hN.out.lt
        cases ts with
        | nil =>
          have b3 : decide ((nx : Int) < (l.length : Int)) = false := by simp at hnl ⊢; omega
          have b4 : ¬ nx < l.length := by simp at hnl ⊢; omega
          have b5 : decide (nx < l.length) = false := by simpa using b4
          have hres2 : Hid (ruleT s.data.toList = .ok r) := hres.out
          have rc0 : wb.cell? ⟨w.heap.size, 0, none⟩ = some (.int .i64 0) := hRb.out.cell 0
          have rc1 : wb.cell? ⟨w.heap.size, 1, none⟩ = some (.int .i64 0) := hRb.out.cell 1
          have rc2 : wb.cell? ⟨w.heap.size, 2, none⟩ = some (.string ⟨#[]⟩) := hRb.out.cell 2
          have rc3 : wb.cell? ⟨w.heap.size, 3, none⟩ = some (.string ⟨#[]⟩) := hRb.out.cell 3
          have rc4 : wb.cell? ⟨w.heap.size, 4, none⟩ = some (.int .i64 0) := hRb.out.cell 4
          have rc5 : wb.cell? ⟨w.heap.size, 5, none⟩ = some (.slice none 0 0) := hRb.out.cell 5
          have rf0 := hRb.out.frozen 0
          have rf1 := hRb.out.frozen 1
          have rf2 := hRb.out.frozen 2
          have rf3 := hRb.out.frozen 3
          have rf4 := hRb.out.frozen 4
          have rf5 := hRb.out.frozen 5
          have rlt := hRb.out.lt
          go_wp2_with fail
          have hTf := hTb.out
          have hh : ∀ b, w.heap.size + 1 ≤ b → b ≠ w.heap.size := fun b hb => by omega
          refine bodyPost_ret (results_row_tmp2 rfl _ _ w.heap.size 25 _ _ rfl ((((((hRb.out.set_ 0 _).set_ 1 _).set_ 2 _).set_ 3 _).set_ 4 _).set_ 5 _) Tryz.underlying25 rfl (by kernel_rfl)) rfl ?_
          unfold RuleOut
          rw [hres2.out]
          exact ⟨((((((hBb.out.setCell (Nat.le_refl _) _).setCell (Nat.le_refl _) _).setCell (Nat.le_refl _) _).setCell (Nat.le_refl _) _).setCell (Nat.le_refl _) _).setCell (Nat.le_refl _) _), .mk tk tp tf tx tn tA tc tL, rfl, (((((((hTf.far hh 0 _).far hh 1 _).far hh 2 _).far hh 3 _).far hh 4 _).far hh 5 _).mono fun b _ hk => by omega), hst'.out⟩
        | cons t' ts' =>
          have b3 : decide ((nx : Int) < (l.length : Int)) = true := by simp at hnl ⊢; omega
          have b4 : nx < l.length := by simp at hnl ⊢; omega
          have b5 : decide (nx < l.length) = true := by simpa using b4
          have hpl : Hid (placeI s.size l nx = t'.place) := by
            unfold Hid placeI
            have : l[nx]? = some t' := by
              have h := congrArg List.head? hdr.out
              rw [List.head?_drop] at h
              exact h
            rw [this]
          have hres2 : Hid (ruleT s.data.toList = .error (t'.place, 2)) := hres.out
          obtain ⟨pl, hplx⟩ : ∃ k, Hid (t'.place = k) := ⟨_, Lib.hid rfl⟩
          rw [hplx.out] at hpl hres2
          have hwr := Lib.hid (rwrong_any A l.length c l wb s.size nx rfl htkb)
          rw [hpl.out] at hwr
          clear hres hdr hplx hTb hst' htkb
          go_wp2_with fail
          refine hwr.out.mono ?_
          rintro x w5 ⟨rfl, hb5⟩
          have hR5 := Lib.hid (hRb.out.below hb5 hRb.out.lt)
          have hB5 := Lib.hid (hBb.out.trans (hb5.mono hBb.out.size))
          have hN5 := Lib.hid (hN.out.below hb5 hN.out.lt)
          clear hb5 hRb hBb hN hwr nc0 nc1 nc2 nc3 nc4 nc5 nc6 nc7 nc8 nf0 nf1 nf2 nf3 nf4 nf5 nf6 nf7 nf8 nlt
          unfold gotE
          have nc0 : w5.cell? ⟨G, 0, none⟩ = some (.int .i64 tk) := hN5.out.cell 0
          have nc1 : w5.cell? ⟨G, 1, none⟩ = some (.int .i64 tp) := hN5.out.cell 1
          have nc2 : w5.cell? ⟨G, 2, none⟩ = some (.string ⟨tf.toArray⟩) := hN5.out.cell 2
          have nc3 : w5.cell? ⟨G, 3, none⟩ = some (.string ⟨tx.toArray⟩) := hN5.out.cell 3
          have nc4 : w5.cell? ⟨G, 4, none⟩ = some (.int .i64 tn) := hN5.out.cell 4
          have nc5 : w5.cell? ⟨G, 5, none⟩ = some (.slice tA tL.length tc) := hN5.out.cell 5
          have nc6 : w5.cell? ⟨G, 6, none⟩ = some (.int .i64 nx) := hN5.out.cell 6
          have nc7 : w5.cell? ⟨G, 7, none⟩ = some (.int .i64 0) := hN5.out.cell 7
          have nc8 : w5.cell? ⟨G, 8, none⟩ = some (.int .i64 (0 : Nat)) := hN5.out.cell 8
          have nf0 := hN5.out.frozen 0
          have nf1 := hN5.out.frozen 1
          have nf2 := hN5.out.frozen 2
          have nf3 := hN5.out.frozen 3
          have nf4 := hN5.out.frozen 4
          have nf5 := hN5.out.frozen 5
          have nf6 := hN5.out.frozen 6
          have nf7 := hN5.out.frozen 7
          have nf8 := hN5.out.frozen 8
          have nlt := hN5.out.lt
          have hleG : w.heap.size ≤ G := by omega
          go_upto_region 11 with fail
          have hN6 := Lib.hid (blk9 hN5.out (.int .i64 0) (.int .i64 0) (.string ⟨#[]⟩) (.string ⟨#[]⟩) (.int .i64 0) (.slice none 0 0) (.int .i64 0) (.int .i64 2) (.int .i64 (pl : Nat)))
          have hR6 : Hid (Blk (((((((((w5.setCell ⟨G, 0, none⟩ (.int .i64 0)).setCell ⟨G, 1, none⟩ (.int .i64 0)).setCell ⟨G, 2, none⟩ (.string ⟨#[]⟩)).setCell ⟨G, 3, none⟩ (.string ⟨#[]⟩)).setCell ⟨G, 4, none⟩ (.int .i64 0)).setCell ⟨G, 5, none⟩ (.slice none 0 0)).setCell ⟨G, 6, none⟩ (.int .i64 0)).setCell ⟨G, 7, none⟩ (.int .i64 2)).setCell ⟨G, 8, none⟩ (.int .i64 (pl : Nat))) w.heap.size 25 zeroN) := (((((((((hR5.out.far (p := ⟨G, 0, none⟩) ne2 _).far (p := ⟨G, 1, none⟩) ne2 _).far (p := ⟨G, 2, none⟩) ne2 _).far (p := ⟨G, 3, none⟩) ne2 _).far (p := ⟨G, 4, none⟩) ne2 _).far (p := ⟨G, 5, none⟩) ne2 _).far (p := ⟨G, 6, none⟩) ne2 _).far (p := ⟨G, 7, none⟩) ne2 _).far (p := ⟨G, 8, none⟩) ne2 _)
          have hB6 : Hid (Below w.heap.size w (((((((((w5.setCell ⟨G, 0, none⟩ (.int .i64 0)).setCell ⟨G, 1, none⟩ (.int .i64 0)).setCell ⟨G, 2, none⟩ (.string ⟨#[]⟩)).setCell ⟨G, 3, none⟩ (.string ⟨#[]⟩)).setCell ⟨G, 4, none⟩ (.int .i64 0)).setCell ⟨G, 5, none⟩ (.slice none 0 0)).setCell ⟨G, 6, none⟩ (.int .i64 0)).setCell ⟨G, 7, none⟩ (.int .i64 2)).setCell ⟨G, 8, none⟩ (.int .i64 (pl : Nat)))) := (((((((((hB5.out.setCell hleG _).setCell hleG _).setCell hleG _).setCell hleG _).setCell hleG _).setCell hleG _).setCell hleG _).setCell hleG _).setCell hleG _)
          obtain ⟨w6, hw6⟩ : ∃ x, Hid ((((((((((w5.setCell ⟨G, 0, none⟩ (.int .i64 0)).setCell ⟨G, 1, none⟩ (.int .i64 0)).setCell ⟨G, 2, none⟩ (.string ⟨#[]⟩)).setCell ⟨G, 3, none⟩ (.string ⟨#[]⟩)).setCell ⟨G, 4, none⟩ (.int .i64 0)).setCell ⟨G, 5, none⟩ (.slice none 0 0)).setCell ⟨G, 6, none⟩ (.int .i64 0)).setCell ⟨G, 7, none⟩ (.int .i64 2)).setCell ⟨G, 8, none⟩ (.int .i64 (pl : Nat))) = x) := ⟨_, Lib.hid rfl⟩
          rw [hw6.out] at hN6 hR6 hB6 ⊢
          clear hw6 hN5 hR5 hB5 nc0 nc1 nc2 nc3 nc4 nc5 nc6 nc7 nc8 nf0 nf1 nf2 nf3 nf4 nf5 nf6 nf7 nf8 nlt
          have mc0 : w6.cell? ⟨G, 0, none⟩ = some (.int .i64 0) := hN6.out.cell 0
          have mc1 : w6.cell? ⟨G, 1, none⟩ = some (.int .i64 0) := hN6.out.cell 1
          have mc2 : w6.cell? ⟨G, 2, none⟩ = some (.string ⟨#[]⟩) := hN6.out.cell 2
          have mc3 : w6.cell? ⟨G, 3, none⟩ = some (.string ⟨#[]⟩) := hN6.out.cell 3
          have mc4 : w6.cell? ⟨G, 4, none⟩ = some (.int .i64 0) := hN6.out.cell 4
          have mc5 : w6.cell? ⟨G, 5, none⟩ = some (.slice none 0 0) := hN6.out.cell 5
          have mc6 : w6.cell? ⟨G, 6, none⟩ = some (.int .i64 0) := hN6.out.cell 6
          have mc7 : w6.cell? ⟨G, 7, none⟩ = some (.int .i64 2) := hN6.out.cell 7
          have mc8 : w6.cell? ⟨G, 8, none⟩ = some (.int .i64 (pl : Nat)) := hN6.out.cell 8
          have mlt := hN6.out.lt
          have rc0 : w6.cell? ⟨w.heap.size, 0, none⟩ = some (.int .i64 0) := hR6.out.cell 0
          have rc1 : w6.cell? ⟨w.heap.size, 1, none⟩ = some (.int .i64 0) := hR6.out.cell 1
          have rc2 : w6.cell? ⟨w.heap.size, 2, none⟩ = some (.string ⟨#[]⟩) := hR6.out.cell 2
          have rc3 : w6.cell? ⟨w.heap.size, 3, none⟩ = some (.string ⟨#[]⟩) := hR6.out.cell 3
          have rc4 : w6.cell? ⟨w.heap.size, 4, none⟩ = some (.int .i64 0) := hR6.out.cell 4
          have rc5 : w6.cell? ⟨w.heap.size, 5, none⟩ = some (.slice none 0 0) := hR6.out.cell 5
          have rf0 := hR6.out.frozen 0
          have rf1 := hR6.out.frozen 1
          have rf2 := hR6.out.frozen 2
          have rf3 := hR6.out.frozen 3
          have rf4 := hR6.out.frozen 4
          have rf5 := hR6.out.frozen 5
          have rlt := hR6.out.lt
          go_wp2_with fail
          go_region
          all_goals
            go_wp2_with fail
            refine bodyPost_ret (results_row_tmp2 rfl _ _ w.heap.size 25 _ _ rfl (Blk.drew ((((((hR6.out.set_ 0 _).set_ 1 _).set_ 2 _).set_ 3 _).set_ 4 _).set_ 5 _)) Tryz.underlying25 rfl (by kernel_rfl)) rfl ?_
            unfold RuleOut
            rw [hres2.out]
            exact ⟨(Below.drew ((((((hB6.out.setCell (Nat.le_refl _) _).setCell (Nat.le_refl _) _).setCell (Nat.le_refl _) _).setCell (Nat.le_refl _) _).setCell (Nat.le_refl _) _).setCell (Nat.le_refl _) _)), rfl, by decide⟩
  · have hres : Hid (ruleT s.data.toList = .error (k, cd)) := by unfold Hid; rw [ruleT, if_neg (by rw [hln.out]; exact hbig), hsc]
    have b2 : (cd != 0) = true := by simp [hcd]
    have hcd' := Lib.hid hcd
    clear hcd hsc
    have rc0 : w1.cell? ⟨w.heap.size, 0, none⟩ = some (.int .i64 0) := hR1.out.cell 0
    have rc1 : w1.cell? ⟨w.heap.size, 1, none⟩ = some (.int .i64 0) := hR1.out.cell 1
    have rc2 : w1.cell? ⟨w.heap.size, 2, none⟩ = some (.string ⟨#[]⟩) := hR1.out.cell 2
    have rc3 : w1.cell? ⟨w.heap.size, 3, none⟩ = some (.string ⟨#[]⟩) := hR1.out.cell 3
    have rc4 : w1.cell? ⟨w.heap.size, 4, none⟩ = some (.int .i64 0) := hR1.out.cell 4
    have rc5 : w1.cell? ⟨w.heap.size, 5, none⟩ = some (.slice none 0 0) := hR1.out.cell 5
    have rf0 := hR1.out.frozen 0
    have rf1 := hR1.out.frozen 1
    have rf2 := hR1.out.frozen 2
    have rf3 := hR1.out.frozen 3
    have rf4 := hR1.out.frozen 4
    have rf5 := hR1.out.frozen 5
    have rlt := hR1.out.lt
    go_wp2_with fail
    refine bodyPost_ret (results_row_tmp2 rfl _ _ w.heap.size 25 _ _ rfl ((((((hR1.out.set_ 0 _).set_ 1 _).set_ 2 _).set_ 3 _).set_ 4 _).set_ 5 _) Tryz.underlying25 rfl (by kernel_rfl)) rfl ?_
    unfold RuleOut
    rw [hres.out]
    exact ⟨((((((hB1.out.setCell (Nat.le_refl _) _).setCell (Nat.le_refl _) _).setCell (Nat.le_refl _) _).setCell (Nat.le_refl _) _).setCell (Nat.le_refl _) _).setCell (Nat.le_refl _) _), rfl, hcd'.out⟩

end Go.Proofs.YtjkmhlfjheiekaaGreatDoor

/- The document's scanner: the token at a place (walk of one, large letters, texts). -/
import Derived.Test.YtjkmhlfjheiekaaGreatDoorSb
namespace Go.Proofs.YtjkmhlfjheiekaaGreatDoor
open Go Go.RowKit Go.BigFrame Go.Maps

theorem large_parts {c : UInt8} (h : largeB c = true) : decide (65 ≤ (c.toNat : Int)) = true ∧ decide ((c.toNat : Int) ≤ 90) = true := by
  rw [large_eq, Bool.and_eq_true] at h; exact h
set_option maxRecDepth 100000 in
set_option maxHeartbeats 3200000 in
theorem rone_large (s : ByteArray) (k : Nat) (w : World) (hk : k < s.size) (hs : s.size ≤ maxLen) (h1 : Hid (smallB s[k] = false)) (h2 : Hid (largeB s[k] = true)) : Calls Tryz.prog 70 #[.string s, .int .i64 k] w (OneOut w s k) := by
  unfold maxLen at hs
  have hT : Hid (Blk (w.alloc (.cells #[.int .i64 0, .int .i64 0, .string ⟨#[]⟩] 89)) w.heap.size 89 #[.int .i64 0, .int .i64 0, .string ⟨#[]⟩]) := Blk.new w 89 _
  have hB : Hid (Below w.heap.size w (w.alloc (.cells #[.int .i64 0, .int .i64 0, .string ⟨#[]⟩] 89))) := (Below.refl _ w).alloc (Nat.le_refl _) _
  have i1 : (k : Int) < (s.size : Int) := by omega
  have i2 : (0 : Int) ≤ (k : Int) := by omega
  have w1 : IntKind.i64.wrap ((k : Int) + 1) = ((k + 1 : Nat) : Int) := by rw [IntWalk.i64_in _ (by omega)]; omega
  have hone := Lib.hid (one_large hk h1.out h2.out)
  obtain ⟨l1, l2⟩ := large_parts h2.out
  go_enter Tryz.func70, Tryz.ntmps70
  go_wp2_with fail
  refine (rrun_any s[k] _).mono ?_
  rintro x w1 ⟨rfl, rfl⟩
  rw [h1.out]
  obtain ⟨wa, hwa⟩ : ∃ x, Hid (w.alloc (.cells #[.int .i64 0, .int .i64 0, .string ⟨#[]⟩] 89) = x) := ⟨_, Lib.hid rfl⟩
  rw [hwa.out] at hT hB ⊢
  clear hwa
  go_wp2_with fail
  go_loopg [8] (s.size - (k + 1)) (fun gg v wr => ∃ j : Nat, k + 1 ≤ j ∧ j ≤ s.size ∧ gg = s.size - j ∧ v = .int .i64 j ∧ Hid (endP largeB s k = endP largeB s j) ∧ wa = wr)
  case atStart => exact ⟨k + 1, Nat.le_refl _, hk, rfl, rfl, end_yes hk h2.out, rfl⟩
  case round =>
    clear l1 l2
    obtain ⟨j, hkj, hj, hg, rfl, he, rfl⟩ := hrel
    have hg' := Lib.hid hg
    clear hg
    have i4 : (0 : Int) ≤ (j : Int) := by omega
    by_cases hlt : j < s.size
    · have hl1 : decide ((j : Int) < (s.size : Int)) = true := by simp; omega
      have i3 : (j : Int) < (s.size : Int) := by omega
      have w2 : IntKind.i64.wrap ((j : Int) + 1) = ((j + 1 : Nat) : Int) := by rw [IntWalk.i64_in _ (by omega)]; omega
      have hle := Lib.hid (large_eq s[j])
      cases g1 : decide (65 ≤ (s[j].toNat : Int)) with
      | false =>
        have hj' : Hid (endP largeB s k = j) := by unfold Hid; rw [he.out, end_no hlt (by rw [hle.out, g1]; rfl)]
        have hjle : j ≤ s.size := by omega
        rw [hj'.out] at hone
        have f0 := hT.out.frozen 0
        have f1 := hT.out.frozen 1
        have f2 := hT.out.frozen 2
        have r0 : wa.cell? ⟨w.heap.size, 0, none⟩ = some (.int .i64 0) := hT.out.cell 0
        have r1 : wa.cell? ⟨w.heap.size, 1, none⟩ = some (.int .i64 0) := hT.out.cell 1
        have r2 : wa.cell? ⟨w.heap.size, 2, none⟩ = some (.string ⟨#[]⟩) := hT.out.cell 2
        have rlt := hT.out.lt
        have w3 : IntKind.i64.wrap ((j : Int) - (k : Int)) = ((j - k : Nat) : Int) := by rw [IntWalk.i64_in _ (by omega)]; omega
        have i5 : (j : Int) ≤ (s.size : Int) := by omega
        have i6 : (k : Int) ≤ (j : Int) := by omega
        by_cases h3 : j - k = 3
        · rw [if_pos h3] at hone
          have b9 : (((j - k : Nat) : Int) != 3) = false := by rw [h3]; rfl
          go_wp2_with fail
          refine bodyPost_ret (results_row_tmp2 rfl _ _ w.heap.size 89 _ _ rfl (((hT.out.set_ 0 _).set_ 1 _).set_ 2 _) Tryz.underlying89 rfl (by kernel_rfl)) rfl ?_
          exact .ok (((hB.out.setCell (Nat.le_refl _) _).setCell (Nat.le_refl _) _).setCell (Nat.le_refl _) _) hone.out (by omega) (by omega) (by rw [show k + 3 = j by omega]; rfl)
        · rw [if_neg h3] at hone
          have b9 : (((j - k : Nat) : Int) != 3) = true := by simp only [bne_iff_ne, ne_eq]; omega
          go_wp2_with fail
          refine bodyPost_ret (results_row_tmp2 rfl _ _ w.heap.size 89 _ _ rfl (((hT.out.set_ 0 _).set_ 1 _).set_ 2 _) Tryz.underlying89 rfl (by kernel_rfl)) rfl ?_
          exact .bad (((hB.out.setCell (Nat.le_refl _) _).setCell (Nat.le_refl _) _).setCell (Nat.le_refl _) _) hone.out (by decide) rfl
      | true =>
        cases g2 : decide ((s[j].toNat : Int) ≤ 90) with
        | false =>
          have hj' : Hid (endP largeB s k = j) := by unfold Hid; rw [he.out, end_no hlt (by rw [hle.out, g1, g2]; rfl)]
          have hjle : j ≤ s.size := by omega
          rw [hj'.out] at hone
          have f0 := hT.out.frozen 0
          have f1 := hT.out.frozen 1
          have f2 := hT.out.frozen 2
          have r0 : wa.cell? ⟨w.heap.size, 0, none⟩ = some (.int .i64 0) := hT.out.cell 0
          have r1 : wa.cell? ⟨w.heap.size, 1, none⟩ = some (.int .i64 0) := hT.out.cell 1
          have r2 : wa.cell? ⟨w.heap.size, 2, none⟩ = some (.string ⟨#[]⟩) := hT.out.cell 2
          have rlt := hT.out.lt
          have w3 : IntKind.i64.wrap ((j : Int) - (k : Int)) = ((j - k : Nat) : Int) := by rw [IntWalk.i64_in _ (by omega)]; omega
          have i5 : (j : Int) ≤ (s.size : Int) := by omega
          have i6 : (k : Int) ≤ (j : Int) := by omega
          by_cases h3 : j - k = 3
          · rw [if_pos h3] at hone
            have b9 : (((j - k : Nat) : Int) != 3) = false := by rw [h3]; rfl
            go_wp2_with fail
            refine bodyPost_ret (results_row_tmp2 rfl _ _ w.heap.size 89 _ _ rfl (((hT.out.set_ 0 _).set_ 1 _).set_ 2 _) Tryz.underlying89 rfl (by kernel_rfl)) rfl ?_
            exact .ok (((hB.out.setCell (Nat.le_refl _) _).setCell (Nat.le_refl _) _).setCell (Nat.le_refl _) _) hone.out (by omega) (by omega) (by rw [show k + 3 = j by omega]; rfl)
          · rw [if_neg h3] at hone
            have b9 : (((j - k : Nat) : Int) != 3) = true := by simp only [bne_iff_ne, ne_eq]; omega
            go_wp2_with fail
            refine bodyPost_ret (results_row_tmp2 rfl _ _ w.heap.size 89 _ _ rfl (((hT.out.set_ 0 _).set_ 1 _).set_ 2 _) Tryz.underlying89 rfl (by kernel_rfl)) rfl ?_
            exact .bad (((hB.out.setCell (Nat.le_refl _) _).setCell (Nat.le_refl _) _).setCell (Nat.le_refl _) _) hone.out (by decide) rfl
        | true =>
          have hst : Hid (endP largeB s k = endP largeB s (j + 1)) := by unfold Hid; rw [he.out, end_yes hlt (by rw [hle.out, g1, g2]; rfl)]
          go_wp2_with fail
          go_roundg (s.size - (j + 1))
          case measure => have := hg'.out; omega
          case rel => exact ⟨j + 1, by omega, hlt, rfl, rfl, hst, rfl⟩
    · have hl1 : decide ((j : Int) < (s.size : Int)) = false := by simp; omega
      have hj' : Hid (endP largeB s k = j) := by unfold Hid; rw [he.out, end_end (by omega)]
      have hjle : j ≤ s.size := by omega
      rw [hj'.out] at hone
      have f0 := hT.out.frozen 0
      have f1 := hT.out.frozen 1
      have f2 := hT.out.frozen 2
      have r0 : wa.cell? ⟨w.heap.size, 0, none⟩ = some (.int .i64 0) := hT.out.cell 0
      have r1 : wa.cell? ⟨w.heap.size, 1, none⟩ = some (.int .i64 0) := hT.out.cell 1
      have r2 : wa.cell? ⟨w.heap.size, 2, none⟩ = some (.string ⟨#[]⟩) := hT.out.cell 2
      have rlt := hT.out.lt
      have w3 : IntKind.i64.wrap ((j : Int) - (k : Int)) = ((j - k : Nat) : Int) := by rw [IntWalk.i64_in _ (by omega)]; omega
      have i5 : (j : Int) ≤ (s.size : Int) := by omega
      have i6 : (k : Int) ≤ (j : Int) := by omega
      by_cases h3 : j - k = 3
      · rw [if_pos h3] at hone
        have b9 : (((j - k : Nat) : Int) != 3) = false := by rw [h3]; rfl
        go_wp2_with fail
        refine bodyPost_ret (results_row_tmp2 rfl _ _ w.heap.size 89 _ _ rfl (((hT.out.set_ 0 _).set_ 1 _).set_ 2 _) Tryz.underlying89 rfl (by kernel_rfl)) rfl ?_
        exact .ok (((hB.out.setCell (Nat.le_refl _) _).setCell (Nat.le_refl _) _).setCell (Nat.le_refl _) _) hone.out (by omega) (by omega) (by rw [show k + 3 = j by omega]; rfl)
      · rw [if_neg h3] at hone
        have b9 : (((j - k : Nat) : Int) != 3) = true := by simp only [bne_iff_ne, ne_eq]; omega
        go_wp2_with fail
        refine bodyPost_ret (results_row_tmp2 rfl _ _ w.heap.size 89 _ _ rfl (((hT.out.set_ 0 _).set_ 1 _).set_ 2 _) Tryz.underlying89 rfl (by kernel_rfl)) rfl ?_
        exact .bad (((hB.out.setCell (Nat.le_refl _) _).setCell (Nat.le_refl _) _).setCell (Nat.le_refl _) _) hone.out (by decide) rfl


theorem large_not {c : UInt8} (h : largeB c = false) : decide (65 ≤ (c.toNat : Int)) = false ∨ decide (65 ≤ (c.toNat : Int)) = true ∧ decide ((c.toNat : Int) ≤ 90) = false := by
  rw [large_eq, Bool.and_eq_false_iff] at h
  cases g : decide (65 ≤ (c.toNat : Int)) with
  | false => exact .inl rfl
  | true => rw [g] at h; exact .inr ⟨rfl, h.resolve_left (by simp)⟩
set_option maxRecDepth 100000 in
set_option maxHeartbeats 3200000 in
theorem rone_quote (s : ByteArray) (k : Nat) (w : World) (hk : k < s.size) (hs : s.size ≤ maxLen) (h1 : Hid (smallB s[k] = false)) (h3 : Hid (s[k] = 34)) : Calls Tryz.prog 70 #[.string s, .int .i64 k] w (OneOut w s k) := by
  unfold maxLen at hs
  have hT : Hid (Blk (w.alloc (.cells #[.int .i64 0, .int .i64 0, .string ⟨#[]⟩] 89)) w.heap.size 89 #[.int .i64 0, .int .i64 0, .string ⟨#[]⟩]) := Blk.new w 89 _
  have hB : Hid (Below w.heap.size w (w.alloc (.cells #[.int .i64 0, .int .i64 0, .string ⟨#[]⟩] 89))) := (Below.refl _ w).alloc (Nat.le_refl _) _
  have i1 : (k : Int) < (s.size : Int) := by omega
  have i2 : (0 : Int) ≤ (k : Int) := by omega
  have w1 : IntKind.i64.wrap ((k : Int) + 1) = ((k + 1 : Nat) : Int) := by rw [IntWalk.i64_in _ (by omega)]; omega
  have l1 : decide (65 ≤ (s[k].toNat : Int)) = false := by rw [h3.out]; rfl
  have l2 : ((s[k].toNat : Int) == 34) = true := by rw [h3.out]; rfl
  go_enter Tryz.func70, Tryz.ntmps70
  go_wp2_with fail
  refine (rrun_any s[k] _).mono ?_
  rintro x w1 ⟨rfl, rfl⟩
  rw [h1.out]
  obtain ⟨wa, hwa⟩ : ∃ x, Hid (w.alloc (.cells #[.int .i64 0, .int .i64 0, .string ⟨#[]⟩] 89) = x) := ⟨_, Lib.hid rfl⟩
  rw [hwa.out] at hT hB ⊢
  clear hwa
  go_wp2_with fail
  go_loopg [8] (s.size - (k + 1)) (fun gg v wr => ∃ j : Nat, k + 1 ≤ j ∧ j ≤ s.size ∧ gg = s.size - j ∧ v = .int .i64 j ∧ Hid (endP plainB s (k + 1) = endP plainB s j) ∧ wa = wr)
  case atStart => exact ⟨k + 1, Nat.le_refl _, hk, rfl, rfl, rfl, rfl⟩
  case round =>
    clear l1 l2
    obtain ⟨j, hkj, hj, hg, rfl, he, rfl⟩ := hrel
    have hg' := Lib.hid hg
    clear hg
    have i4 : (0 : Int) ≤ (j : Int) := by omega
    by_cases hlt : j < s.size
    · have hl1 : decide ((j : Int) < (s.size : Int)) = true := by simp; omega
      have i3 : (j : Int) < (s.size : Int) := by omega
      have w2 : IntKind.i64.wrap ((j : Int) + 1) = ((j + 1 : Nat) : Int) := by rw [IntWalk.i64_in _ (by omega)]; omega
      have hpe := Lib.hid (plain_eq s[j])
      by_cases hq : s[j] = 34
      · have g1 : ((s[j].toNat : Int) != 34) = false := by rw [hq]; rfl
        have hj' : endP plainB s (k + 1) = j := by rw [he.out, end_no hlt (by rw [hpe.out, g1]; rfl)]
        have hone := Lib.hid (one_quote_yes hk h3.out hj' hlt hq)
        have i5 : (j : Int) ≤ (s.size : Int) := by omega
        have i6 : ((k + 1 : Nat) : Int) ≤ (j : Int) := by omega
        have i7 : (0 : Int) ≤ ((k + 1 : Nat) : Int) := by omega
        have b9 : ((j : Int) == (s.size : Int)) = false := by simp; omega
        clear hq hj'
        have f0 := hT.out.frozen 0
        have f1 := hT.out.frozen 1
        have f2 := hT.out.frozen 2
        have r0 : wa.cell? ⟨w.heap.size, 0, none⟩ = some (.int .i64 0) := hT.out.cell 0
        have r1 : wa.cell? ⟨w.heap.size, 1, none⟩ = some (.int .i64 0) := hT.out.cell 1
        have r2 : wa.cell? ⟨w.heap.size, 2, none⟩ = some (.string ⟨#[]⟩) := hT.out.cell 2
        have rlt := hT.out.lt
        have w4 : IntKind.i64.wrap ((j : Int) + 1) = ((j + 1 : Nat) : Int) := w2
        go_wp2_with fail
        refine bodyPost_ret (results_row_tmp2 rfl _ _ w.heap.size 89 _ _ rfl (((hT.out.set_ 0 _).set_ 1 _).set_ 2 _) Tryz.underlying89 rfl (by kernel_rfl)) rfl ?_
        exact .ok (((hB.out.setCell (Nat.le_refl _) _).setCell (Nat.le_refl _) _).setCell (Nat.le_refl _) _) hone.out (by omega) (by omega) (by rw [show k + (j + 1 - k) = j + 1 by omega]; rfl)
      · have g1 : ((s[j].toNat : Int) != 34) = true := by have this : ((s[j].toNat : Int) == 34) = false := byte_no (n := 34) (by omega) hq; simp only [bne]; rw [this]; rfl
        have hno : plainB s[j] = false → Hid (oneM (s.data.toList.drop k) = .error 2) := fun hp => one_quote_no hk h3.out (by rw [he.out, end_no hlt hp]) (fun _ => hq)
        have hno' := Lib.hid hno
        clear hno hq
        cases g2 : decide (32 ≤ (s[j].toNat : Int)) with
        | false =>
          have hone := hno'.out (by rw [hpe.out, g1, g2]; rfl)
          have g3 : decide ((s[j].toNat : Int) < 32) = true := by simp at g2 ⊢; omega
          have f0 := hT.out.frozen 0
          have f1 := hT.out.frozen 1
          have f2 := hT.out.frozen 2
          have r0 : wa.cell? ⟨w.heap.size, 0, none⟩ = some (.int .i64 0) := hT.out.cell 0
          have r1 : wa.cell? ⟨w.heap.size, 1, none⟩ = some (.int .i64 0) := hT.out.cell 1
          have r2 : wa.cell? ⟨w.heap.size, 2, none⟩ = some (.string ⟨#[]⟩) := hT.out.cell 2
          have rlt := hT.out.lt
          go_wp2_with fail
          refine bodyPost_ret (results_row_tmp2 rfl _ _ w.heap.size 89 _ _ rfl (((hT.out.set_ 0 _).set_ 1 _).set_ 2 _) Tryz.underlying89 rfl (by kernel_rfl)) rfl ?_
          exact .bad (((hB.out.setCell (Nat.le_refl _) _).setCell (Nat.le_refl _) _).setCell (Nat.le_refl _) _) hone.out (by decide) rfl
        | true =>
          have g3 : decide ((s[j].toNat : Int) < 32) = false := by simp at g2 ⊢; omega
          cases g4 : decide ((s[j].toNat : Int) ≤ 126) with
          | false =>
            have hone := hno'.out (by rw [hpe.out, g1, g2, g4]; rfl)
            have g5 : decide (126 < (s[j].toNat : Int)) = true := by simp at g4 ⊢; omega
            have f0 := hT.out.frozen 0
            have f1 := hT.out.frozen 1
            have f2 := hT.out.frozen 2
            have r0 : wa.cell? ⟨w.heap.size, 0, none⟩ = some (.int .i64 0) := hT.out.cell 0
            have r1 : wa.cell? ⟨w.heap.size, 1, none⟩ = some (.int .i64 0) := hT.out.cell 1
            have r2 : wa.cell? ⟨w.heap.size, 2, none⟩ = some (.string ⟨#[]⟩) := hT.out.cell 2
            have rlt := hT.out.lt
            go_wp2_with fail
            refine bodyPost_ret (results_row_tmp2 rfl _ _ w.heap.size 89 _ _ rfl (((hT.out.set_ 0 _).set_ 1 _).set_ 2 _) Tryz.underlying89 rfl (by kernel_rfl)) rfl ?_
            exact .bad (((hB.out.setCell (Nat.le_refl _) _).setCell (Nat.le_refl _) _).setCell (Nat.le_refl _) _) hone.out (by decide) rfl
          | true =>
            have g5 : decide (126 < (s[j].toNat : Int)) = false := by simp at g4 ⊢; omega
            have hst : Hid (endP plainB s (k + 1) = endP plainB s (j + 1)) := by unfold Hid; rw [he.out, end_yes hlt (by rw [hpe.out, g1, g2, g4]; rfl)]
            go_wp2_with fail
            go_roundg (s.size - (j + 1))
            case measure => have := hg'.out; omega
            case rel => exact ⟨j + 1, by omega, hlt, rfl, rfl, hst, rfl⟩
    · have hl1 : decide ((j : Int) < (s.size : Int)) = false := by simp; omega
      have b9 : ((j : Int) == (s.size : Int)) = true := by simp; omega
      have hone := Lib.hid (one_quote_no hk h3.out (by rw [he.out, end_end (by omega)]) (fun h => absurd h hlt))
      have f0 := hT.out.frozen 0
      have f1 := hT.out.frozen 1
      have f2 := hT.out.frozen 2
      have r0 : wa.cell? ⟨w.heap.size, 0, none⟩ = some (.int .i64 0) := hT.out.cell 0
      have r1 : wa.cell? ⟨w.heap.size, 1, none⟩ = some (.int .i64 0) := hT.out.cell 1
      have r2 : wa.cell? ⟨w.heap.size, 2, none⟩ = some (.string ⟨#[]⟩) := hT.out.cell 2
      have rlt := hT.out.lt
      go_wp2_with fail
      refine bodyPost_ret (results_row_tmp2 rfl _ _ w.heap.size 89 _ _ rfl (((hT.out.set_ 0 _).set_ 1 _).set_ 2 _) Tryz.underlying89 rfl (by kernel_rfl)) rfl ?_
      exact .bad (((hB.out.setCell (Nat.le_refl _) _).setCell (Nat.le_refl _) _).setCell (Nat.le_refl _) _) hone.out (by decide) rfl

end Go.Proofs.YtjkmhlfjheiekaaGreatDoor

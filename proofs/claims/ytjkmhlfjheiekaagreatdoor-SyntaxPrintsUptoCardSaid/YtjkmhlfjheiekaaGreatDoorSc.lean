/- The document's scanner: all tokens of a text (walk of Scan). -/
import Derived.Test.YtjkmhlfjheiekaaGreatDoorSe
namespace Go.Proofs.YtjkmhlfjheiekaaGreatDoor
open Go Go.RowKit Go.BigFrame Go.Maps


set_option maxRecDepth 100000 in
set_option maxHeartbeats 3200000 in
theorem rscan_any (s : ByteArray) (w : World) (hs : s.size ≤ maxLen) :
    Calls Tryz.prog 34 #[.string s] w fun e w' => Below w.heap.size w w' ∧
      ((∃ l v, scanT s.data.toList = .ok l ∧ e = .returned (.tuple #[v, .int .i64 s.size, .int .i64 0]) ∧ l.length ≤ 4096 ∧ w'.ownsRow w.heap.size 89 3 v l.length (tokL l)) ∨
       (∃ k cd, scanT s.data.toList = .error (k, cd) ∧ cd ≠ 0 ∧ e = .returned (.tuple #[.slice none 0 0, .int .i64 (k : Nat), .int .i64 cd]))) := by
  have hs' := Lib.hid hs
  unfold maxLen at hs
  obtain ⟨i0, hi, hz0, hz1, hz2⟩ := info_parts (P := Tryz.prog) (e := 89) (z := .agg #[.int .i64 0, .int .i64 0, .string ⟨#[]⟩]) (size := 3) (bytes := 32) (by kernel_rfl)
  have hB0 : Hid (Below w.heap.size w (w.alloc (.cells #[] 89))) := (Below.refl _ w).alloc (Nat.le_refl _) _
  have ho0 : Hid ((w.alloc (.cells #[] 89)).ownsRow w.heap.size 89 3 (.slice (some ⟨w.heap.size, 0, none⟩) 0 0) 0 []) := own_new w 89 3
  go_enter Tryz.func34, Tryz.ntmps34
  go_wp2_with fail
  obtain ⟨wa, hwa⟩ : ∃ wa, Hid (w.alloc (.cells #[] 89) = wa) := ⟨_, Lib.hid rfl⟩
  rw [hwa.out] at hB0 ho0 ⊢
  clear hwa
  go_loopg [5, 6, 7, 8, 9] (s.size + 1) (fun gg v a _ _ _ wr => ∃ (l : List Tok) (k f : Nat), k ≤ s.size ∧ gg = s.size + 1 - k ∧ a = .int .i64 k ∧ s.size - k < f ∧ l.length ≤ 4096 ∧ Hid (scanT s.data.toList = preX l (scanM f l.length k (s.data.toList.drop k))) ∧ Hid (wr.ownsRow w.heap.size 89 3 v l.length (tokL l)) ∧ Hid (Below w.heap.size w wr))
  case atStart =>
    refine ⟨[], 0, s.size + 1, by omega, by omega, rfl, by omega, by simp, ?_, ho0, hB0⟩
    unfold Hid scanT
    rw [List.drop_zero, show s.data.toList.length = s.size by simp]
    show _ = preX [] (scanM (s.size + 1) 0 0 s.data.toList)
    cases scanM (s.size + 1) 0 0 s.data.toList <;> rfl
  case round =>
    obtain ⟨l, k, f, hk, hgg, rfl, hf, hl, hsc, hown, hBr⟩ := hrel
    have hgg' := Lib.hid hgg
    clear hgg
    obtain ⟨f, rfl⟩ : ∃ f', f = f' + 1 := ⟨f - 1, by omega⟩
    obtain ⟨p, c, rfl⟩ := own_slice hown.out
    obtain ⟨wo, hwo⟩ : ∃ wo : World, wo = wr := ⟨_, rfl⟩
    go_wp2_with fail
    go_loopg [6] (s.size - k) (fun gg a wx => ∃ j : Nat, k ≤ j ∧ j ≤ s.size ∧ gg = s.size - j ∧ a = .int .i64 j ∧ Hid (endP blankB s k = endP blankB s j) ∧ wo = wx)
    case atStart => exact ⟨k, Nat.le_refl _, hk, rfl, rfl, rfl, hwo⟩
    case round =>
      rw [← hwo] at hown hBr
      clear hwo
      obtain ⟨j, hkj, hj, hg, rfl, he, rfl⟩ := hrel
      have hg' := Lib.hid hg
      clear hg
      have i4 : (0 : Int) ≤ (j : Int) := by omega
      by_cases hlt : j < s.size
      · have hl1 : decide ((j : Int) < (s.size : Int)) = true := by simp; omega
        have i3 : (j : Int) < (s.size : Int) := by omega
        have w2 : IntKind.i64.wrap ((j : Int) + 1) = ((j + 1 : Nat) : Int) := by rw [IntWalk.i64_in _ (by omega)]; omega
        have hbe := Lib.hid (blank_eq s[j])
        have b1 : ((j : Int) == (s.size : Int)) = false := by simp; omega
        cases g1 : ((s[j].toNat : Int) == 32) with
        | true =>
          have hst : Hid (endP blankB s k = endP blankB s (j + 1)) := by unfold Hid; rw [he.out, end_yes hlt (by rw [hbe.out, g1]; rfl)]
          go_wp2_with fail
          go_roundg (s.size - (j + 1))
          case measure => have := hg'.out; omega
          case rel => exact ⟨j + 1, by omega, hlt, rfl, rfl, hst, rfl⟩
        | false =>
          cases g2 : ((s[j].toNat : Int) == 10) with
          | true =>
            have hst : Hid (endP blankB s k = endP blankB s (j + 1)) := by unfold Hid; rw [he.out, end_yes hlt (by rw [hbe.out, g1, g2]; rfl)]
            go_wp2_with fail
            go_roundg (s.size - (j + 1))
            case measure => have := hg'.out; omega
            case rel => exact ⟨j + 1, by omega, hlt, rfl, rfl, hst, rfl⟩
          | false =>
            have hj : Hid (endP blankB s k = j) := by unfold Hid; rw [he.out, end_no hlt (by rw [hbe.out, g1, g2]; rfl)]
            by_cases hfull : 4096 ≤ l.length
            · have b2 : decide ((4096 : Int) ≤ (l.length : Int)) = true := by simp; omega
              have hst := Lib.hid (scan_full (f := f) hj.out hlt hfull)
              go_wp2_with fail
              go_ret3
              exact ⟨hBr.out, .inr ⟨j, 7, by rw [hsc.out, hst.out]; rfl, by decide, rfl⟩⟩
            · have b2 : decide ((4096 : Int) ≤ (l.length : Int)) = false := by simp; omega
              go_wp2_with fail
              refine (rone_any s j wo hlt hs'.out).mono ?_
              rintro e w3 ⟨hb3, hcase⟩
              have hown3 := Lib.hid (own_below hown.out hb3)
              have hB3 : Hid (Below w.heap.size w w3) := hBr.out.trans (hb3.mono hBr.out.size)
              rcases hcase with ⟨kd, tx, m, hone, hm, hle, rfl⟩ | ⟨cd, hone, hcd, rfl⟩
              · have hst := Lib.hid (scan_good (f := f) (n := l.length) hj.out hlt (by omega) hone)
                have hq1 : Hid (l.length + 1 ≤ maxLen) := by unfold Hid maxLen; omega
                have hq2 : Hid ((l.length + 1) * 32 ≤ 140737488355328) := by unfold Hid; omega
                clear hb3 hone hown hBr
                unfold tokC
                go_wp2_with (at_builtin; go_must (refine wpList_app3 w.heap.size rfl (.tmp 50) (.tmp 52) 53 rfl 89 i0 _ 3 32 Tryz.underlying53 hi hz0 hz1 hz2 rfl (by decide) _ l.length (tokL l) rfl (w3.heap.size + 1) 1 #[.int .i64 kd, .int .i64 j, .string ⟨tx.toArray⟩] rfl ((hown3.out.alloc _).alloc _) (blk_second w3 _ 89 _) rfl (tokC_one _ _ _) hq1.out hq2.out (Nat.le_trans hB3.out.size (by simp; omega)) ?_); intro v5 w5 ho5 hb5 hg5)
                have hB5 : Hid (Below w.heap.size w w5) := ((hB3.out.alloc hB3.out.size _).alloc (by have := hB3.out.size; simp; omega) _).trans hb5
                have ho5' := Lib.hid ho5
                clear ho5 hg5 hb5
                go_roundg (s.size + 1 - (j + m))
                case measure => have := hgg'.out; omega
                case rel =>
                  refine ⟨l ++ [⟨kd, j, tx⟩], j + m, f, hle, rfl, rfl, by omega, by simp; omega, ?_, ?_, hB5⟩
                  · rw [hsc.out, hst.out, List.length_append, List.length_singleton]
                    exact preX_cons _ _ _
                  · rw [tokL_snoc, List.length_append, List.length_singleton]
                    exact ho5'.out
              · have hst := Lib.hid (scan_bad (f := f) (n := l.length) hj.out hlt (by omega) hone)
                have b3 : (cd != 0) = true := by simp [hcd]
                clear hb3 hone
                unfold noTok
                go_wp2_with fail
                go_ret3
                exact ⟨hB3.out.alloc hB3.out.size _, .inr ⟨j, cd, by rw [hsc.out, hst.out]; rfl, hcd, rfl⟩⟩
      · have hl1 : decide ((j : Int) < (s.size : Int)) = false := by simp; omega
        have b1 : ((j : Int) == (s.size : Int)) = true := by simp; omega
        have hj : Hid (endP blankB s k = j) := by unfold Hid; rw [he.out, end_end (by omega)]
        have hst := Lib.hid (scan_end (f := f) (n := l.length) hj.out (by omega))
        have hjs : Hid (j = s.size) := by unfold Hid; omega
        go_wp2_with fail
        go_ret3
        exact ⟨hBr.out, .inl ⟨l, _, by rw [hsc.out, hst.out]; simp [preX], by rw [hjs.out]; rfl, hl, hown.out⟩⟩
end Go.Proofs.YtjkmhlfjheiekaaGreatDoor

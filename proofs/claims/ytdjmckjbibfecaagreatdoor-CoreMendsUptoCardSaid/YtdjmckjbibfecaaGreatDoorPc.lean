/- The document's cure of a field of an invoice. -/
import Derived.Test.YtdjmckjbibfecaaGreatDoorAb
import Derived.Test.YtdjmckjbibfecaaGreatDoorFv
import Derived.Test.YtdjmckjbibfecaaGreatDoorMc
import Derived.Test.YtdjmckjbibfecaaGreatDoorMd
namespace Go.Proofs.YtdjmckjbibfecaaGreatDoor
open Go Go.RowKit Go.BigFrame Go.Maps

def dg (n : Nat) : UInt8 := UInt8.ofNat (48 + n % 10)
theorem dec_dg (n : Nat) : Lib.decDigits n = if n < 10 then [dg n] else Lib.decDigits (n / 10) ++ [dg n] := by
  by_cases h : n < 10
  · rw [dec_small n h, if_pos h, dg, Nat.mod_eq_of_lt h]
  · rw [dec_more n h, if_neg h]; rfl
theorem conv_dg (W : World) (n : Nat) : (convert 33 9 (.slice (some ⟨W.heap.size, 0, none⟩) 1 1)).run Tryz.prog (W.alloc (.cells #[.int .u8 (48 + (n : Int) % 10)] 5)) = .ok (.string ⟨[dg n].toArray⟩) (W.alloc (.cells #[.int .u8 (48 + (n : Int) % 10)] 5)) := by
  rw [conv_new W (48 + (n : Int) % 10), show (48 + (n : Int) % 10).toNat = 48 + n % 10 by omega]
  rfl
set_option maxRecDepth 100000 in
set_option maxHeartbeats 1600000 in
theorem dig28_any (n : Nat) (hn : n ≤ 9223372036854775807) (w : World) : Calls Tryz.prog 137 #[.int .i64 n] w fun e w' => e = .returned (.string ⟨(Lib.decDigits n).toArray⟩) ∧ Below w.heap.size w w' := by
  have hc0 := conv_dg w n
  have hd0 : Hid (Lib.decDigits n = if n < 10 then [dg n] else Lib.decDigits (n / 10) ++ [dg n]) := dec_dg n
  have hn1 : n < 10 ^ 20 := by omega
  have hn' := Lib.hid hn
  obtain ⟨R, hR⟩ : ∃ x, Hid (Lib.decDigits n = x) := ⟨_, Lib.hid rfl⟩
  rw [hR.out] at hd0 ⊢
  have w1 : IntKind.i64.wrap (48 + (n : Int) % 10) = 48 + (n : Int) % 10 := IntWalk.i64_in _ (by omega)
  have w2 : IntKind.u8.wrap (48 + (n : Int) % 10) = 48 + (n : Int) % 10 := IntWalk.u8_in _ (by omega)
  have t1 : (n : Int).tmod 10 = (n : Int) % 10 := IntWalk.rem_in _ _ (by omega)
  clear hn
  go_enter Tryz.func137, Tryz.ntmps137
  go_wp2_with fail
  go_loopg [0, 3] 19 (fun gg a v wr => ∃ (m : Nat) (s : List UInt8), a = .int .i64 m ∧ v = .string ⟨s.toArray⟩ ∧ Hid (m < 10 ^ (gg + 1)) ∧ Hid (R = if m < 10 then s else Lib.decDigits (m / 10) ++ s) ∧ Hid (s.length + gg = 20) ∧ Hid (m ≤ 9223372036854775807) ∧ Hid (Below w.heap.size w wr))
  case atStart => exact ⟨n, [dg n], rfl, rfl, hn1, hd0, rfl, hn', (Below.refl _ w).alloc (Nat.le_refl _) _⟩
  case round =>
    clear hd0 hc0 hn1 w1 w2 t1
    obtain ⟨m, s, rfl, rfl, hm, hs, hl, hmm, hB⟩ := hrel
    have hm2 := hmm.out
    by_cases h9 : m < 10
    · have i1 : decide ((9 : Int) < (m : Int)) = false := by simp; omega
      have hr : Hid (R = s) := by unfold Hid; rw [hs.out, if_pos h9]
      go_wp2_with fail
      go_ret
      exact ⟨by rw [hr.out]; rfl, hB.out⟩
    · have i1 : decide ((9 : Int) < (m : Int)) = true := by simp; omega
      obtain ⟨g, rfl⟩ : ∃ g, gk = g + 1 := by
        cases gk with
        | zero => exact absurd hm.out (by rw [Nat.zero_add, Nat.pow_one]; exact h9)
        | succ g => exact ⟨g, rfl⟩
      obtain ⟨q, hq⟩ : ∃ q, Hid (m / 10 = q) := ⟨_, Lib.hid rfl⟩
      have hqm : q ≤ m / 10 ∧ m / 10 ≤ q := by have := hq.out; omega
      have hc1 := conv_dg wr q
      have e0 : Hid (({ data := #[dg q] } : ByteArray) ++ { data := s.toArray } = ⟨([dg q] ++ s).toArray⟩) := ByteArray.ext (by simp)
      have hl2 := hl.out
      have z1 : ¬ 9223372036854775807 < 1 + s.length := by omega
      have d1 : (m : Int).tdiv 10 = (q : Int) := by rw [Int.tdiv_eq_ediv_of_nonneg (by omega)]; omega
      have w0 : IntKind.i64.wrap (q : Int) = (q : Int) := IntWalk.i64_in _ (by omega)
      have t1 : (q : Int).tmod 10 = (q : Int) % 10 := IntWalk.rem_in _ _ (by omega)
      have w1 : IntKind.i64.wrap (48 + (q : Int) % 10) = 48 + (q : Int) % 10 := IntWalk.i64_in _ (by omega)
      have w2 : IntKind.u8.wrap (48 + (q : Int) % 10) = 48 + (q : Int) % 10 := IntWalk.u8_in _ (by omega)
      have hs2 : Hid (R = if q < 10 then [dg q] ++ s else Lib.decDigits (q / 10) ++ ([dg q] ++ s)) := by
        unfold Hid
        rw [hs.out, if_neg h9, hq.out, dec_dg]
        split <;> simp
      have hm3 : Hid (q < 10 ^ (g + 1)) := by have h := hm.out; rw [Nat.pow_succ] at h; unfold Hid; omega
      have hl3 : Hid (([dg q] ++ s).length + g = 20) := by unfold Hid; simp; omega
      have hm4 : Hid (q ≤ 9223372036854775807) := by unfold Hid; omega
      clear hs hm hmm hl hq
      go_wp2_with fail
      go_roundg g
      case measure => omega
      case rel => exact ⟨q, [dg q] ++ s, rfl, congrArg Value.string e0.out, hm3, hs2, hl3, hm4, hB.out.alloc hB.out.size _⟩
set_option maxRecDepth 100000 in
set_option maxHeartbeats 1600000 in
theorem dig32_neg (n : Nat) (h1 : 1 ≤ n) (hn : n ≤ 9223372036854775808) (w : World) : Calls Tryz.prog 126 #[.int .i64 (-(n : Int))] w fun e w' => e = .returned (.string ⟨(45 :: Lib.decDigits n).toArray⟩) ∧ Below w.heap.size w w' := by
  have hn1 : n < 10 ^ 20 := by omega
  have i0 : decide (-(n : Int) < 0) = true := by simp; omega
  obtain ⟨R, hR⟩ : ∃ x, Hid (Lib.decDigits n = x) := ⟨_, Lib.hid rfl⟩
  have hd0 : Hid (R = Lib.decDigits n ++ []) := by unfold Hid; rw [hR.out]; simp
  rw [hR.out]
  have h1' := Lib.hid h1
  have hn' := Lib.hid hn
  clear hn h1
  go_enter Tryz.func126, Tryz.ntmps126
  go_wp2_with fail
  go_loopg [0, 3] 19 (fun gg a v wr => ∃ (m : Nat) (s : List UInt8), a = .int .i64 (-(m : Int)) ∧ v = .string ⟨s.toArray⟩ ∧ Hid (m < 10 ^ (gg + 1)) ∧ Hid (R = Lib.decDigits m ++ s) ∧ Hid (s.length + gg = 19) ∧ Hid (1 ≤ m ∧ m ≤ 9223372036854775808) ∧ Hid (Below w.heap.size w wr))
  case atStart => exact ⟨n, [], rfl, rfl, hn1, hd0, rfl, ⟨h1'.out, hn'.out⟩, Below.refl _ w⟩
  case round =>
    clear hd0 hn1 i0 hn' h1'
    obtain ⟨m, s, rfl, rfl, hm, hs, hl, hmm, hB⟩ := hrel
    obtain ⟨hm1, hm2⟩ := hmm.out
    have hl2 := hl.out
    have t1 : (-(m : Int)).tmod 10 = -((m : Int) % 10) := by rw [Int.neg_tmod, Int.tmod_eq_emod_of_nonneg (by omega)]
    have w1 : IntKind.i64.wrap (48 - -((m : Int) % 10)) = 48 + (m : Int) % 10 := by rw [IntWalk.i64_in _ (by omega)]; omega
    have w1' : IntKind.i64.wrap (48 + (m : Int) % 10) = 48 + (m : Int) % 10 := IntWalk.i64_in _ (by omega)
    have w2 : IntKind.u8.wrap (48 + (m : Int) % 10) = 48 + (m : Int) % 10 := IntWalk.u8_in _ (by omega)
    have hc1 := conv_dg wr m
    by_cases h9 : m < 10
    · have i1 : decide (-(m : Int) < -9) = false := by simp; omega
      have hr : Hid (R = [dg m] ++ s) := by unfold Hid; rw [hs.out, dec_dg, if_pos h9]
      have e0 : Hid (({ data := #[45] } : ByteArray) ++ { data := #[dg m] } ++ { data := s.toArray } = ⟨(45 :: R).toArray⟩) := by unfold Hid; rw [hr.out]; exact ByteArray.ext (by simp)
      have z1 : ¬ 9223372036854775807 < 1 + 1 := by omega
      have z2 : ¬ 9223372036854775807 < 1 + 1 + s.length := by omega
      clear hs hm hmm hl hr
      go_wp2_with fail
      go_ret
      exact ⟨congrArg (fun x => Ending.returned (.string x)) e0.out, hB.out.alloc hB.out.size _⟩
    · have i1 : decide (-(m : Int) < -9) = true := by simp; omega
      obtain ⟨g, rfl⟩ : ∃ g, gk = g + 1 := by
        cases gk with
        | zero => exact absurd hm.out (by rw [Nat.zero_add, Nat.pow_one]; exact h9)
        | succ g => exact ⟨g, rfl⟩
      obtain ⟨q, hq⟩ : ∃ q, Hid (m / 10 = q) := ⟨_, Lib.hid rfl⟩
      have hqm : q ≤ m / 10 ∧ m / 10 ≤ q := by have := hq.out; omega
      have e0 : Hid (({ data := #[dg m] } : ByteArray) ++ { data := s.toArray } = ⟨([dg m] ++ s).toArray⟩) := ByteArray.ext (by simp)
      have z1 : ¬ 9223372036854775807 < 1 + s.length := by omega
      have d1 : (-(m : Int)).tdiv 10 = -(q : Int) := by rw [Int.neg_tdiv, Int.tdiv_eq_ediv_of_nonneg (by omega)]; omega
      have w0 : IntKind.i64.wrap (-(q : Int)) = -(q : Int) := IntWalk.i64_in _ (by omega)
      have hs2 : Hid (R = Lib.decDigits q ++ ([dg m] ++ s)) := by
        unfold Hid
        rw [hs.out, dec_dg m, if_neg h9, hq.out]
        simp
      have hm3 : Hid (q < 10 ^ (g + 1)) := by have h := hm.out; rw [Nat.pow_succ] at h; unfold Hid; omega
      have hl3 : Hid (([dg m] ++ s).length + g = 19) := by unfold Hid; simp; omega
      have hm4 : Hid (1 ≤ q ∧ q ≤ 9223372036854775808) := by unfold Hid; omega
      clear hs hm hmm hl hq
      go_wp2_with fail
      go_roundg g
      case measure => omega
      case rel => exact ⟨q, [dg m] ++ s, rfl, congrArg Value.string e0.out, hm3, hs2, hl3, hm4, hB.out.alloc hB.out.size _⟩
set_option maxRecDepth 100000 in
set_option maxHeartbeats 800000 in
theorem dig32_any (n : Int) (w : World) (h : -9223372036854775808 ≤ n ∧ n ≤ 9223372036854775807) :
    Calls Tryz.prog 126 #[.int .i64 n] w fun e w' => e = .returned (.string (mkB (Lib.itoa n))) ∧ Below w.heap.size w w' := by
  by_cases h0 : 0 ≤ n
  · obtain ⟨m, rfl⟩ := Int.eq_ofNat_of_zero_le h0
    have i0 : decide ((m : Int) < 0) = false := by simp
    have hd := Lib.hid (dig28_any m (by omega) w)
    have e0 : Hid (mkB (Lib.itoa (m : Int)) = ⟨(Lib.decDigits m).toArray⟩) := by unfold Hid; rw [itoa_nat]; rfl
    rw [e0.out]
    clear h h0
    go_enter Tryz.func126, Tryz.ntmps126
    go_wp2_with fail
    refine hd.out.mono ?_
    rintro e w1 ⟨rfl, hb⟩
    have hb' := Lib.hid hb
    clear hb hd
    go_wp2_with fail
    go_ret
    exact ⟨rfl, hb'.out⟩
  · obtain ⟨m, hm⟩ : ∃ m : Nat, n = -(m : Int) := ⟨n.natAbs, by omega⟩
    subst hm
    rw [show mkB (Lib.itoa (-(m : Int))) = ⟨(45 :: Lib.decDigits m).toArray⟩ by rw [itoa_neg m (by omega)]; rfl]
    exact dig32_neg m (by omega) (by omega) w
end Go.Proofs.YtdjmckjbibfecaaGreatDoor
namespace Go.Proofs.YtdjmckjbibfecaaGreatDoor
open Go Go.RowKit Go.BigFrame Go.Maps

/-- What the document's Set has still to lay. -/
def restS (d : Bool) (r : List Fld) (nm vl : ByteArray) : List Fld := if d then r else setF r nm vl

set_option maxRecDepth 100000 in
set_option maxHeartbeats 1600000 in
theorem setR_any (A : Option Addr) (n c : Nat) (l : List Fld) (nm vl : ByteArray) (w : World) (hn : n ≤ 1000000) (hl : Hid (l.length = n)) (hA : Hid (FieldsAt w A l)) :
    Calls Tryz.prog 75 #[.slice A n c, .string nm, .string vl] w fun e w' => ∃ v, e = .returned v ∧ w'.ownsRow w.heap.size 108 2 v (setF l nm vl).length (flF (setF l nm vl)) ∧ Below w.heap.size w w' := by
  obtain ⟨i0, hi, hz0, hz1, hz2⟩ := info_parts Tryz.info108
  have hnew := Lib.hid (own_new w 108 2)
  go_enter Tryz.func75, Tryz.ntmps75
  go_wp2_with fail
  go_loopw [7, 8, 9] (fun v d i wr => ∃ (k : Nat) (b : Bool) (out : List Fld), k ≤ n ∧ i = .int .i64 (k : Int) ∧ d = .bool b ∧ out.length = k ∧ Hid (wr.ownsRow w.heap.size 108 2 v k (flF out)) ∧ Hid (setF l nm vl = out ++ restS b (l.drop k) nm vl) ∧ Hid (Below w.heap.size w wr)) (fun _ _ i _ => n - (intOf i).toNat)
  case atStart => exact ⟨0, false, [], Nat.zero_le _, rfl, rfl, rfl, hnew, rfl, (Below.refl _ w).alloc (Nat.le_refl _) _⟩
  case round =>
    obtain ⟨k, b, out, hk, rfl, rfl, hol, hown, hs, hB⟩ := hrel
    obtain ⟨Av, cw, rfl⟩ : ∃ A c, u7 = .slice A k c := by
      rcases hown.out.2 with ⟨h, h0⟩ | ⟨g, cap, cur, h, _⟩
      · exact ⟨_, _, by rw [h, h0]⟩
      · exact ⟨_, _, h⟩
    by_cases hlt : k < n
    · obtain ⟨x, hx⟩ : ∃ x, l[k]? = some x := ⟨_, List.getElem?_eq_getElem (by have := hl.out; omega)⟩
      obtain ⟨b0, off, rfl, h0, h1⟩ := (hA.out.below hB.out) k x hx
      have hd : Hid (l.drop k = x :: l.drop (k + 1)) := by
        obtain ⟨hkl, he⟩ := List.getElem?_eq_some_iff.1 hx
        unfold Hid; rw [List.drop_eq_getElem_cons hkl, he]
      clear hx
      obtain ⟨xn, xv⟩ := x
      simp only at h0 h1
      have hq1 : Hid (k + 1 ≤ maxLen) := by unfold Hid maxLen; omega
      have hq2 : Hid ((k + 1) * 32 ≤ 140737488355328) := by unfold Hid; omega
      have hB1 : Hid (Below w.heap.size w (wr.alloc (.cells #[.string xn, .string xv] 108))) := hB.out.alloc hB.out.size _
      have hsz : Hid (w.heap.size ≤ wr.heap.size) := hB.out.size
      have hown1 := Lib.hid (hown.out.alloc (.cells #[.string xn, .string xv] 108))
      by_cases hdone : b = true
      · subst hdone
        have hres : Hid (setF l nm vl = (out ++ [⟨xn, xv⟩]) ++ restS true (l.drop (k + 1)) nm vl) := by unfold Hid; rw [hs.out, hd.out]; simp [restS]
        cases hq : (xn.toList == nm.toList) with
        | true =>
          go_wp2_with (at_builtin; go_must (refine wpList_app3 w.heap.size rfl (.tmp 32) (.tmp 34) 59 rfl 108 i0 _ 2 32 Tryz.underlying59 hi hz0 hz1 hz2 rfl (by decide) (.slice Av k cw) k (flF out) rfl (wr.heap.size + 1) 1 #[.string xn, .string xv] rfl (hown1.out.alloc _) (blk_second wr _ 108 _) rfl (flF_one [⟨xn, xv⟩]) hq1.out hq2.out (Nat.le_trans hsz.out (by simp; omega)) ?_); intro v5 w5 ho5 hb5 hg5)
          have ho5' : Hid (w5.ownsRow w.heap.size 108 2 v5 (k + 1) (flF (out ++ [⟨xn, xv⟩]))) := by rw [flF_append]; exact Lib.hid ho5
          have hB5 : Hid (Below w.heap.size w w5) := (hB1.out.alloc hB1.out.size _).trans hb5
          clear ho5 hb5 hg5
          go_roundw
          case rel => exact ⟨k + 1, true, _, by omega, by go_num, rfl, by simp [hol], ho5', hres, hB5⟩
          case measure => simp [intOf]; omega
        | false =>
          go_wp2_with (at_builtin; go_must (refine wpList_app3 w.heap.size rfl (.tmp 32) (.tmp 34) 59 rfl 108 i0 _ 2 32 Tryz.underlying59 hi hz0 hz1 hz2 rfl (by decide) (.slice Av k cw) k (flF out) rfl (wr.heap.size + 1) 1 #[.string xn, .string xv] rfl (hown1.out.alloc _) (blk_second wr _ 108 _) rfl (flF_one [⟨xn, xv⟩]) hq1.out hq2.out (Nat.le_trans hsz.out (by simp; omega)) ?_); intro v5 w5 ho5 hb5 hg5)
          have ho5' : Hid (w5.ownsRow w.heap.size 108 2 v5 (k + 1) (flF (out ++ [⟨xn, xv⟩]))) := by rw [flF_append]; exact Lib.hid ho5
          have hB5 : Hid (Below w.heap.size w w5) := (hB1.out.alloc hB1.out.size _).trans hb5
          clear ho5 hb5 hg5
          go_roundw
          case rel => exact ⟨k + 1, true, _, by omega, by go_num, rfl, by simp [hol], ho5', hres, hB5⟩
          case measure => simp [intOf]; omega
      · obtain rfl : b = false := by simpa using hdone
        by_cases hq : xn.toList = nm.toList
        · have hq1' : (xn.toList == nm.toList) = true := by simp [hq]
          have hres : Hid (setF l nm vl = (out ++ [⟨xn, vl⟩]) ++ restS true (l.drop (k + 1)) nm vl) := by unfold Hid; rw [hs.out, hd.out]; simp [restS, setF, hq]
          clear hq
          have hown3 := Lib.hid ((hown.out.alloc (.cells #[.string xn, .string vl] 108)).alloc (.cells #[.string xn, .string vl] 108))
          have hB3 : Hid (Below w.heap.size w (wr.alloc (.cells #[.string xn, .string vl] 108))) := hB.out.alloc hsz.out _
          go_wp2_with (at_builtin; go_must (refine wpList_app3 w.heap.size rfl (.tmp 32) (.tmp 34) 59 rfl 108 i0 _ 2 32 Tryz.underlying59 hi hz0 hz1 hz2 rfl (by decide) (.slice Av k cw) k (flF out) rfl (wr.heap.size + 1) 1 #[.string xn, .string vl] rfl hown3.out (blk_second wr _ 108 _) rfl (flF_one [⟨xn, vl⟩]) hq1.out hq2.out (Nat.le_trans hsz.out (by simp; omega)) ?_); intro v5 w5 ho5 hb5 hg5)
          have ho5' : Hid (w5.ownsRow w.heap.size 108 2 v5 (k + 1) (flF (out ++ [⟨xn, vl⟩]))) := by rw [flF_append]; exact Lib.hid ho5
          have hB5 : Hid (Below w.heap.size w w5) := (hB3.out.alloc hB3.out.size _).trans hb5
          clear ho5 hb5 hg5
          go_roundw
          case rel => exact ⟨k + 1, true, _, by omega, by go_num, rfl, by simp [hol], ho5', hres, hB5⟩
          case measure => simp [intOf]; omega
        · have hq1' : (xn.toList == nm.toList) = false := by simp [hq]
          have hres : Hid (setF l nm vl = (out ++ [⟨xn, xv⟩]) ++ restS false (l.drop (k + 1)) nm vl) := by unfold Hid; rw [hs.out, hd.out]; simp [restS, setF, hq]
          clear hq
          go_wp2_with (at_builtin; go_must (refine wpList_app3 w.heap.size rfl (.tmp 32) (.tmp 34) 59 rfl 108 i0 _ 2 32 Tryz.underlying59 hi hz0 hz1 hz2 rfl (by decide) (.slice Av k cw) k (flF out) rfl (wr.heap.size + 1) 1 #[.string xn, .string xv] rfl (hown1.out.alloc _) (blk_second wr _ 108 _) rfl (flF_one [⟨xn, xv⟩]) hq1.out hq2.out (Nat.le_trans hsz.out (by simp; omega)) ?_); intro v5 w5 ho5 hb5 hg5)
          have ho5' : Hid (w5.ownsRow w.heap.size 108 2 v5 (k + 1) (flF (out ++ [⟨xn, xv⟩]))) := by rw [flF_append]; exact Lib.hid ho5
          have hB5 : Hid (Below w.heap.size w w5) := (hB1.out.alloc hB1.out.size _).trans hb5
          clear ho5 hb5 hg5
          go_roundw
          case rel => exact ⟨k + 1, false, _, by omega, by go_num, rfl, by simp [hol], ho5', hres, hB5⟩
          case measure => simp [intOf]; omega
    · have e : k = n := by omega
      have eD : l.drop k = [] := List.drop_eq_nil_of_le (by have := hl.out; omega)
      have hs' := hs.out
      rw [eD] at hs'
      have hsz : Hid (w.heap.size ≤ wr.heap.size) := hB.out.size
      have hq1 : Hid (k + 1 ≤ maxLen) := by unfold Hid maxLen; omega
      have hq2 : Hid ((k + 1) * 32 ≤ 140737488355328) := by unfold Hid; omega
      clear eD
      cases b with
      | true =>
        have hE : Hid (setF l nm vl = out) := by unfold Hid; rw [hs']; simp [restS]
        clear hs'
        go_wp2_with fail
        go_ret
        exact ⟨_, rfl, by rw [hE.out, hol]; exact hown.out, hB.out⟩
      | false =>
        have hE : Hid (setF l nm vl = out ++ [⟨nm, vl⟩]) := by unfold Hid; rw [hs']; simp [restS, setF]
        have hown1 := Lib.hid (hown.out.alloc (.cells #[.string nm, .string vl] 108))
        clear hs' e
        go_wp2_with (at_builtin; go_must (refine wpList_app3 w.heap.size rfl (.tmp 38) (.tmp 42) 59 rfl 108 i0 _ 2 32 Tryz.underlying59 hi hz0 hz1 hz2 rfl (by decide) (.slice Av k cw) k (flF out) rfl wr.heap.size 1 #[.string nm, .string vl] rfl hown1.out (Blk.new wr 108 _) rfl (flF_one [⟨nm, vl⟩]) hq1.out hq2.out (Nat.le_trans hsz.out (by simp)) ?_); intro v5 w5 ho5 hb5 hg5)
        go_ret
        exact ⟨_, rfl, by rw [hE.out, flF_append, List.length_append, hol]; exact ho5, (hB.out.alloc hsz.out _).trans hb5⟩

/-- Is the day of a bill too late? -/
def lateB (c : Crd) (n day : Int) : Bool := decide (c.latest < n) || behindB day n c.within
set_option maxRecDepth 100000 in
set_option maxHeartbeats 1600000 in
theorem late_any (C : Array Value) (c : Crd) (hC : Hid (CrdAt C c)) (n day : Int) (hn : -4611686018427387904 ≤ n ∧ n ≤ 4611686018427387904) (hd : -1073741824 ≤ day ∧ day ≤ 1073741824) (w : World) :
    Calls Tryz.prog 125 #[.agg C, .int .i64 n, .int .i64 day] w fun e w' => e = .returned (.bool (lateB c n day)) ∧ Below w.heap.size w w' := by
  have hb0 := Lib.hid ((Below.refl _ w).alloc (Nat.le_refl _) (.cells C 46))
  have hbk := Blk.new w 46 C
  have c11 : (w.alloc (.cells C 46)).cell? ⟨w.heap.size, 11, none⟩ = some (.int .i64 c.latest) := (hbk.cell 11).trans hC.out.latest
  have c13 : (w.alloc (.cells C 46)).cell? ⟨w.heap.size, 13, none⟩ = some (.int .i64 c.within) := (hbk.cell 13).trans hC.out.within
  have hlt := hbk.lt
  have hw : IntKind.i64.wrap (day - n) = day - n := IntWalk.i64_in _ (by omega)
  clear hbk
  obtain ⟨w1, hw1⟩ : ∃ X, w.alloc (.cells C 46) = X := ⟨_, rfl⟩
  rw [hw1] at hb0 c11 c13 hlt
  obtain ⟨L, hL⟩ : ∃ z, Hid (lateB c n day = z) := ⟨_, rfl⟩
  rw [hL.out]
  by_cases h1 : c.latest < n
  · have i1 : decide (c.latest < n) = true := decide_eq_true h1
    have hr : Hid (L = true) := by unfold Hid; rw [← hL.out, lateB, i1]; rfl
    clear h1 hL
    go_enter Tryz.func125, Tryz.ntmps125
    go_wp2_with (rw [hw1])
    go_ret
    exact ⟨by rw [hr.out]; rfl, hb0.out⟩
  · have i1 : decide (c.latest < n) = false := decide_eq_false h1
    have i2 : decide (c.within < day - n) = behindB day n c.within := by
      unfold behindB
      by_cases h2 : c.within < day - n
      · rw [decide_eq_true h2, decide_eq_true (by omega)]
      · rw [decide_eq_false h2, decide_eq_false (by omega)]
    have hr : Hid (L = behindB day n c.within) := by unfold Hid; rw [← hL.out, lateB, i1]; rfl
    clear h1 hL
    go_enter Tryz.func125, Tryz.ntmps125
    go_wp2_with (rw [hw1])
    go_ret
    exact ⟨by rw [hr.out]; rfl, hb0.out⟩
end Go.Proofs.YtdjmckjbibfecaaGreatDoor
namespace Go.Proofs.YtdjmckjbibfecaaGreatDoor
open Go Go.RowKit Go.BigFrame Go.Maps

theorem inv_none {c : Crd} {d : Pap} {s : ByteArray} (h0 : s.toList ≠ nSeller.toList) (h1 : s.toList ≠ nBuyer.toList) (h2 : s.toList ≠ nCurrency.toList) (h3 : s.toList ≠ nSum.toList) : (partyM c d s).or (sumM c d s) = none := by
  unfold partyM sumM
  rw [if_neg h0, if_neg h1, if_neg h2, if_neg (fun h : d.kind = 0 ∧ s.toList = nSum.toList => h3 h.2)]
  split <;> rfl
theorem inv_sum {c : Crd} {d : Pap} {s v : ByteArray} {b : Bool} (hk : d.kind = 0) (h3 : s.toList = nSum.toList) (hv : getV d.fields s = v) (hb : getB d.fields s = b) : (partyM c d s).or (sumM c d s) = (match (if b = true then numF v.data.toList else none) with
    | none => some (mkB (Lib.itoa c.amount))
    | some n => if boundsB c = true ∧ mostC c < n then some (mkB (Lib.itoa (mostC c))) else if boundsB c = true ∧ n < leastY c then some (mkB (Lib.itoa (leastY c))) else none) := by
  subst hv; subst hb
  have h0 : s.toList ≠ nSeller.toList := by rw [h3, nSeller_list, nSum_list]; decide
  have h1 : s.toList ≠ nBuyer.toList := by rw [h3, nBuyer_list, nSum_list]; decide
  have h2 : s.toList ≠ nCurrency.toList := by rw [h3, nCurrency_list, nSum_list]; decide
  unfold partyM sumM numV
  rw [if_neg h0, if_neg h1, if_neg h2, if_pos hk, if_pos ⟨hk, h3⟩]
  exact Option.none_or
theorem inv_party {c : Crd} {d : Pap} {s v r : ByteArray} {b : Bool} (hk : d.kind = 0) (h3 : s.toList ≠ nSum.toList) (hr : (if s.toList = nSeller.toList then some c.beneficiary else if s.toList = nBuyer.toList then some c.applicant else if s.toList = nCurrency.toList then some c.currency else none) = some r) (hv : getV d.fields s = v) (hb : getB d.fields s = b) :
    (partyM c d s).or (sumM c d s) = if b = true ∧ v.toList = r.toList then none else some r := by
  subst hv; subst hb
  unfold partyM sumM
  rw [hr, if_pos hk, if_neg (fun h => h3 h.2), Option.bind_some]
  split <;> rfl

set_option maxRecDepth 100000 in
set_option maxHeartbeats 3200000 in
theorem rinvoice_any (C : Array Value) (c : Crd) (hC : Hid (CrdAt C c)) (hO : Hid c.okC) (d : Pap) (hk0 : Hid (d.kind = 0)) (s : ByteArray) (w : World) (hlen : Hid (d.fields.length ≤ maxLen)) (hF : Hid (FieldsAt w d.fA d.fields)) :
    Calls Tryz.prog 124 #[.agg C, .agg #[.int .i64 d.kind, .string d.number, .string d.issuer, .slice d.fA d.fields.length d.fc], .string s] w (CuredR ((partyM c d s).or (sumM c d s)) w) := by
  have hsz : Hid ((Tryz.prog.info? 46).map (·.size) = some C.size) := by unfold Hid; rw [hC.out.size]; kernel_rfl
  obtain ⟨w1, hw1⟩ : ∃ X, Hid ((w.alloc (.cells C 46)).alloc (.cells #[.int .i64 d.kind, .string d.number, .string d.issuer, .slice d.fA d.fields.length d.fc] 61) = X) := ⟨_, rfl⟩
  have hs1 : (w.alloc (.cells C 46)).heap.size = w.heap.size + 1 := by simp
  have hb1 : Hid (Below w.heap.size w w1) := by
    rw [← hw1.out]
    have h1 := (Below.refl w.heap.size w).alloc (Nat.le_refl _) (.cells C 46)
    exact h1.alloc h1.size _
  have hK1 : Hid (Blk w1 w.heap.size 46 C) := by rw [← hw1.out]; exact Lib.hid ((Blk.new _ _ _).alloc _)
  have hD1 : Hid (Blk w1 (w.heap.size + 1) 61 #[.int .i64 d.kind, .string d.number, .string d.issuer, .slice d.fA d.fields.length d.fc]) := by rw [← hw1.out, ← hs1]; exact Lib.hid (Blk.new _ _ _)
  have d3 : w1.cell? ⟨w.heap.size + 1, 3, none⟩ = some (.slice d.fA d.fields.length d.fc) := hD1.out.cell 3
  have hg := Lib.hid (getR_any d.fA d.fields.length d.fc d.fields s w1 hlen.out (Lib.hid rfl) (Lib.hid (hF.out.below hb1.out)))
  obtain ⟨v, hv⟩ : ∃ z, Hid (getV d.fields s = z) := ⟨_, rfl⟩
  obtain ⟨b, hb⟩ : ∃ z, Hid (getB d.fields s = z) := ⟨_, rfl⟩
  rw [hv.out, hb.out] at hg
  have hN : Hid (s.toList ≠ nSeller.toList → s.toList ≠ nBuyer.toList → s.toList ≠ nCurrency.toList → s.toList ≠ nSum.toList → (partyM c d s).or (sumM c d s) = none) := Lib.hid fun h0 h1 h2 h3 => inv_none h0 h1 h2 h3
  have hS : Hid (s.toList = nSum.toList → _) := Lib.hid fun h3 => inv_sum (c := c) hk0.out h3 hv.out hb.out
  have hQ : Hid (∀ r, s.toList ≠ nSum.toList → _ → _) := Lib.hid fun r h3 hr => inv_party (c := c) (r := r) hk0.out h3 hr hv.out hb.out
  obtain ⟨P, hPd⟩ : ∃ z, Hid ((partyM c d s).or (sumM c d s) = z) := ⟨_, rfl⟩
  rw [hPd.out] at hN hS hQ ⊢
  obtain ⟨dk, hdk⟩ : ∃ z, Hid (d.kind = z) := ⟨_, rfl⟩
  obtain ⟨dn, hdn⟩ : ∃ z, Hid (d.number = z) := ⟨_, rfl⟩
  obtain ⟨di, hdi⟩ : ∃ z, Hid (d.issuer = z) := ⟨_, rfl⟩
  obtain ⟨df, hdf⟩ : ∃ z, Hid ((.slice d.fA d.fields.length d.fc : Value) = z) := ⟨_, rfl⟩
  rw [hdk.out, hdn.out, hdi.out, hdf.out] at hD1 hw1 ⊢
  rw [hdf.out] at d3 hg
  clear hdk hdn hdi hdf hF hPd hv hb hk0 hlen
  by_cases h0 : s.toList = nSeller.toList
  · have q0 : (s.toList == [115, 101, 108, 108, 101, 114]) = true := beq_iff_eq.2 (h0.trans nSeller_list)
    have h9 : s.toList ≠ nSum.toList := by rw [h0, nSeller_list, nSum_list]; decide
    have hP0 := Lib.hid (hQ.out c.beneficiary h9 (by rw [if_pos h0]))
    clear h9 h0
    clear hN hS hQ
    go_enter Tryz.func124, Tryz.ntmps124
    go_wp2_with (rw [hw1.out])
    refine hg.out.mono ?_
    rintro e w2 ⟨rfl, hb2⟩
    have hB2 : Hid (Below w.heap.size w w2) := hb1.out.trans (hb2.mono hb1.out.size)
    have hK2 := Lib.hid (hK1.out.below hb2 hK1.out.lt)
    clear hb2 hg hb1 hK1 hD1 d3
    have c2 : w2.cell? ⟨w.heap.size, 2, none⟩ = some (.string c.beneficiary) := (hK2.out.cell 2).trans hC.out.beneficiary
    clear hK2
    cases b with
    | false =>
      have hP : Hid (P = some c.beneficiary) := by unfold Hid; rw [hP0.out, if_neg (by simp)]
      clear hP0
      go_wp2_with fail
      go_ret2
      exact curedR (by rw [hP.out]; rfl) hB2.out
    | true =>
      by_cases hq : v.toList = c.beneficiary.toList
      · have hP : Hid (P = none) := by unfold Hid; rw [hP0.out, if_pos ⟨rfl, hq⟩]
        have q9 : (v.toList == c.beneficiary.toList) = true := beq_iff_eq.2 hq
        clear hP0 hq
        go_wp2_with fail
        go_ret2
        exact curedR (by rw [hP.out]; rfl) hB2.out
      · have hP : Hid (P = some c.beneficiary) := by unfold Hid; rw [hP0.out, if_neg (fun h => hq h.2)]
        have q9 : (v.toList == c.beneficiary.toList) = false := beq_eq_false_iff_ne.2 hq
        clear hP0 hq
        go_wp2_with fail
        go_ret2
        exact curedR (by rw [hP.out]; rfl) hB2.out
  · have q0 : (s.toList == [115, 101, 108, 108, 101, 114]) = false := beq_eq_false_iff_ne.2 (fun h => h0 (h.trans nSeller_list.symm))
    by_cases h1 : s.toList = nBuyer.toList
    · have q1 : (s.toList == [98, 117, 121, 101, 114]) = true := beq_iff_eq.2 (h1.trans nBuyer_list)
      have h9 : s.toList ≠ nSum.toList := by rw [h1, nBuyer_list, nSum_list]; decide
      have hP0 := Lib.hid (hQ.out c.applicant h9 (by rw [if_neg h0]; rw [if_pos h1]))
      clear h9 h0 h1
      clear hN hS hQ
      go_enter Tryz.func124, Tryz.ntmps124
      go_wp2_with (rw [hw1.out])
      refine hg.out.mono ?_
      rintro e w2 ⟨rfl, hb2⟩
      have hB2 : Hid (Below w.heap.size w w2) := hb1.out.trans (hb2.mono hb1.out.size)
      have hK2 := Lib.hid (hK1.out.below hb2 hK1.out.lt)
      clear hb2 hg hb1 hK1 hD1 d3
      have c1 : w2.cell? ⟨w.heap.size, 1, none⟩ = some (.string c.applicant) := (hK2.out.cell 1).trans hC.out.applicant
      clear hK2
      cases b with
      | false =>
        have hP : Hid (P = some c.applicant) := by unfold Hid; rw [hP0.out, if_neg (by simp)]
        clear hP0
        go_wp2_with fail
        go_ret2
        exact curedR (by rw [hP.out]; rfl) hB2.out
      | true =>
        by_cases hq : v.toList = c.applicant.toList
        · have hP : Hid (P = none) := by unfold Hid; rw [hP0.out, if_pos ⟨rfl, hq⟩]
          have q9 : (v.toList == c.applicant.toList) = true := beq_iff_eq.2 hq
          clear hP0 hq
          go_wp2_with fail
          go_ret2
          exact curedR (by rw [hP.out]; rfl) hB2.out
        · have hP : Hid (P = some c.applicant) := by unfold Hid; rw [hP0.out, if_neg (fun h => hq h.2)]
          have q9 : (v.toList == c.applicant.toList) = false := beq_eq_false_iff_ne.2 hq
          clear hP0 hq
          go_wp2_with fail
          go_ret2
          exact curedR (by rw [hP.out]; rfl) hB2.out
    · have q1 : (s.toList == [98, 117, 121, 101, 114]) = false := beq_eq_false_iff_ne.2 (fun h => h1 (h.trans nBuyer_list.symm))
      by_cases h2 : s.toList = nCurrency.toList
      · have q2 : (s.toList == [99, 117, 114, 114, 101, 110, 99, 121]) = true := beq_iff_eq.2 (h2.trans nCurrency_list)
        have h9 : s.toList ≠ nSum.toList := by rw [h2, nCurrency_list, nSum_list]; decide
        have hP0 := Lib.hid (hQ.out c.currency h9 (by rw [if_neg h0]; rw [if_neg h1]; rw [if_pos h2]))
        clear h9 h0 h1 h2
        clear hN hS hQ
        go_enter Tryz.func124, Tryz.ntmps124
        go_wp2_with (rw [hw1.out])
        refine hg.out.mono ?_
        rintro e w2 ⟨rfl, hb2⟩
        have hB2 : Hid (Below w.heap.size w w2) := hb1.out.trans (hb2.mono hb1.out.size)
        have hK2 := Lib.hid (hK1.out.below hb2 hK1.out.lt)
        clear hb2 hg hb1 hK1 hD1 d3
        have c7 : w2.cell? ⟨w.heap.size, 7, none⟩ = some (.string c.currency) := (hK2.out.cell 7).trans hC.out.currency
        clear hK2
        cases b with
        | false =>
          have hP : Hid (P = some c.currency) := by unfold Hid; rw [hP0.out, if_neg (by simp)]
          clear hP0
          go_wp2_with fail
          go_ret2
          exact curedR (by rw [hP.out]; rfl) hB2.out
        | true =>
          by_cases hq : v.toList = c.currency.toList
          · have hP : Hid (P = none) := by unfold Hid; rw [hP0.out, if_pos ⟨rfl, hq⟩]
            have q9 : (v.toList == c.currency.toList) = true := beq_iff_eq.2 hq
            clear hP0 hq
            go_wp2_with fail
            go_ret2
            exact curedR (by rw [hP.out]; rfl) hB2.out
          · have hP : Hid (P = some c.currency) := by unfold Hid; rw [hP0.out, if_neg (fun h => hq h.2)]
            have q9 : (v.toList == c.currency.toList) = false := beq_eq_false_iff_ne.2 hq
            clear hP0 hq
            go_wp2_with fail
            go_ret2
            exact curedR (by rw [hP.out]; rfl) hB2.out
      · have q2 : (s.toList == [99, 117, 114, 114, 101, 110, 99, 121]) = false := beq_eq_false_iff_ne.2 (fun h => h2 (h.trans nCurrency_list.symm))
        by_cases h3 : s.toList = nSum.toList
        · have q3 : (s.toList == [115, 117, 109]) = true := beq_iff_eq.2 (h3.trans nSum_list)
          have hP := Lib.hid (hS.out h3)
          clear h0 h1 h2 h3
          clear hN hS hQ
          go_enter Tryz.func124, Tryz.ntmps124
          go_wp2_with (rw [hw1.out])
          refine hg.out.mono ?_
          rintro e w2 ⟨rfl, hb2⟩
          have hB2 : Hid (Below w.heap.size w w2) := hb1.out.trans (hb2.mono hb1.out.size)
          have hK2 := Lib.hid (hK1.out.below hb2 hK1.out.lt)
          clear hb2 hg hb1 hK1 hD1 d3
          go_wp2_with fail
          refine (numberR_any v w2).mono ?_
          rintro e w3 ⟨rfl, hb3⟩
          have hB3 : Hid (Below w.heap.size w w3) := hB2.out.trans (hb3.mono hB2.out.size)
          have hK3 := Lib.hid (hK2.out.below hb3 hK2.out.lt)
          have c8 : w3.cell? ⟨w.heap.size, 8, none⟩ = some (.int .i64 c.amount) := (hK3.out.cell 8).trans hC.out.amount
          clear hb3 hK2
          cases b with
          | false =>
            rw [if_neg (by decide)] at hP
            obtain ⟨tn, htn⟩ : ∃ z, numF v.data.toList = z := ⟨_, rfl⟩
            rw [htn]
            cases tn <;> (first | rw [twoN_none] | rw [twoN_some])
            all_goals
              go_wp2_with fail
              refine (dig32_any c.amount w3 hO.out.amount).mono ?_
              rintro e w9 ⟨rfl, hb9⟩
              have hB9 : Hid (Below w.heap.size w w9) := hB3.out.trans (hb9.mono hB3.out.size)
              clear hb9
              go_wp2_with fail
              go_ret2
              exact curedR (by rw [hP.out]; rfl) hB9.out
          | true =>
            rw [if_pos rfl] at hP
            cases hr : numF v.data.toList with
            | none =>
              rw [hr] at hP
              rw [twoN_none]
              clear hr
              go_wp2_with fail
              refine (dig32_any c.amount w3 hO.out.amount).mono ?_
              rintro e w9 ⟨rfl, hb9⟩
              have hB9 : Hid (Below w.heap.size w w9) := hB3.out.trans (hb9.mono hB3.out.size)
              clear hb9
              go_wp2_with fail
              go_ret2
              exact curedR (by rw [hP.out]; rfl) hB9.out
            | some n =>
              have hP2 : Hid (P = if boundsB c = true ∧ mostC c < n then some (mkB (Lib.itoa (mostC c))) else if boundsB c = true ∧ n < leastY c then some (mkB (Lib.itoa (leastY c))) else none) := by rw [hr] at hP; exact hP
              clear hP
              have hn := Lib.hid (numF_in hr)
              rw [twoN_some]
              clear hr
              go_wp2_with (first | (refine wpList_load_blk rfl 46 (.tmp 3) rfl w.heap.size C 46 _ rfl hK3.out Tryz.underlying46 rfl hsz.out ?_) | (refine wpList_load_blkg rfl 46 (.tmp 3) rfl w.heap.size C 46 _ rfl hK3.out Tryz.underlying46 rfl hsz.out ?_))
              refine (rbounds_any C c hC w3).mono ?_
              rintro e w4 ⟨rfl, hb4⟩
              have hB4 := Lib.hid (hB3.out.trans (hb4.mono hB3.out.size))
              have hK4 := Lib.hid (hK3.out.below hb4 hK3.out.lt)
              clear hb4 c8 hK3
              cases hbd : boundsB c with
              | false =>
                have hP : Hid (P = none) := by unfold Hid; rw [hP2.out, hbd]; simp
                go_wp2_with (first | (refine wpList_load_blk rfl 46 (.tmp 3) rfl w.heap.size C 46 _ rfl hK4.out Tryz.underlying46 rfl hsz.out ?_) | (refine wpList_load_blkg rfl 46 (.tmp 3) rfl w.heap.size C 46 _ rfl hK4.out Tryz.underlying46 rfl hsz.out ?_))
                refine (rbounds_any C c hC w4).mono ?_
                rintro e w5 ⟨rfl, hb5⟩
                have hB5 := Lib.hid (hB4.out.trans (hb5.mono hB4.out.size))
                rw [hbd]
                clear hb5 hbd
                go_wp2_with fail
                go_ret2
                exact curedR (by rw [hP.out]; rfl) hB5.out
              | true =>
                have hrm := Lib.hid (most_range hbd)
                have hrl := Lib.hid (least_range hbd)
                go_wp2_with (first | (refine wpList_load_blk rfl 46 (.tmp 3) rfl w.heap.size C 46 _ rfl hK4.out Tryz.underlying46 rfl hsz.out ?_) | (refine wpList_load_blkg rfl 46 (.tmp 3) rfl w.heap.size C 46 _ rfl hK4.out Tryz.underlying46 rfl hsz.out ?_))
                refine (rmost_any C c hC hbd w4).mono ?_
                rintro e w5 ⟨rfl, hb5⟩
                have hB5 := Lib.hid (hB4.out.trans (hb5.mono hB4.out.size))
                have hK5 := Lib.hid (hK4.out.below hb5 hK4.out.lt)
                clear hb5 hK4
                by_cases h5 : mostC c < n
                · have hP : Hid (P = some (mkB (Lib.itoa (mostC c)))) := by unfold Hid; rw [hP2.out, if_pos ⟨hbd, h5⟩]
                  go_wp2_with (first | (refine wpList_load_blk rfl 46 (.tmp 3) rfl w.heap.size C 46 _ rfl hK5.out Tryz.underlying46 rfl hsz.out ?_) | (refine wpList_load_blkg rfl 46 (.tmp 3) rfl w.heap.size C 46 _ rfl hK5.out Tryz.underlying46 rfl hsz.out ?_))
                  all_goals try (exfalso; omega)
                  refine (rmost_any C c hC hbd w5).mono ?_
                  rintro e w6 ⟨rfl, hb6⟩
                  have hB6 := Lib.hid (hB5.out.trans (hb6.mono hB5.out.size))
                  clear hb6 hbd h5
                  go_wp2_with fail
                  refine (dig32_any (mostC c) w6 hrm.out).mono ?_
                  rintro e w9 ⟨rfl, hb9⟩
                  have hB9 : Hid (Below w.heap.size w w9) := hB6.out.trans (hb9.mono hB6.out.size)
                  clear hb9
                  go_wp2_with fail
                  go_ret2
                  exact curedR (by rw [hP.out]; rfl) hB9.out
                · have hP3 : Hid (P = if n < leastY c then some (mkB (Lib.itoa (leastY c))) else none) := by unfold Hid; rw [hP2.out, if_neg (fun h => h5 h.2), hbd]; simp
                  go_wp2_with (first | (refine wpList_load_blk rfl 46 (.tmp 3) rfl w.heap.size C 46 _ rfl hK5.out Tryz.underlying46 rfl hsz.out ?_) | (refine wpList_load_blkg rfl 46 (.tmp 3) rfl w.heap.size C 46 _ rfl hK5.out Tryz.underlying46 rfl hsz.out ?_))
                  all_goals try (exfalso; omega)
                  refine (rbounds_any C c hC w5).mono ?_
                  rintro e w6 ⟨rfl, hb6⟩
                  have hB6 := Lib.hid (hB5.out.trans (hb6.mono hB5.out.size))
                  have hK6 := Lib.hid (hK5.out.below hb6 hK5.out.lt)
                  clear hb6 hK5 h5
                  rw [hbd]
                  go_wp2_with (first | (refine wpList_load_blk rfl 46 (.tmp 3) rfl w.heap.size C 46 _ rfl hK6.out Tryz.underlying46 rfl hsz.out ?_) | (refine wpList_load_blkg rfl 46 (.tmp 3) rfl w.heap.size C 46 _ rfl hK6.out Tryz.underlying46 rfl hsz.out ?_))
                  refine (rleast_any C c hC hbd w6).mono ?_
                  rintro e w7 ⟨rfl, hb7⟩
                  have hB7 := Lib.hid (hB6.out.trans (hb7.mono hB6.out.size))
                  have hK7 := Lib.hid (hK6.out.below hb7 hK6.out.lt)
                  clear hb7 hK6
                  by_cases h6 : n < leastY c
                  · have hP : Hid (P = some (mkB (Lib.itoa (leastY c)))) := by unfold Hid; rw [hP3.out, if_pos h6]
                    go_wp2_with (first | (refine wpList_load_blk rfl 46 (.tmp 3) rfl w.heap.size C 46 _ rfl hK7.out Tryz.underlying46 rfl hsz.out ?_) | (refine wpList_load_blkg rfl 46 (.tmp 3) rfl w.heap.size C 46 _ rfl hK7.out Tryz.underlying46 rfl hsz.out ?_))
                    all_goals try (exfalso; omega)
                    refine (rleast_any C c hC hbd w7).mono ?_
                    rintro e w8 ⟨rfl, hb8⟩
                    have hB8 := Lib.hid (hB7.out.trans (hb8.mono hB7.out.size))
                    clear hb8 hbd h6
                    go_wp2_with fail
                    refine (dig32_any (leastY c) w8 hrl.out).mono ?_
                    rintro e w9 ⟨rfl, hb9⟩
                    have hB9 : Hid (Below w.heap.size w w9) := hB8.out.trans (hb9.mono hB8.out.size)
                    clear hb9
                    go_wp2_with fail
                    go_ret2
                    exact curedR (by rw [hP.out]; rfl) hB9.out
                  · have hP : Hid (P = none) := by unfold Hid; rw [hP3.out, if_neg h6]
                    go_wp2_with fail
                    all_goals try (exfalso; omega)
                    go_ret2
                    exact curedR (by rw [hP.out]; rfl) hB7.out
        · have q3 : (s.toList == [115, 117, 109]) = false := beq_eq_false_iff_ne.2 (fun h => h3 (h.trans nSum_list.symm))
          have hP : Hid (P = none) := Lib.hid (hN.out h0 h1 h2 h3)
          clear h0 h1 h2 h3
          clear hN hS hQ
          go_enter Tryz.func124, Tryz.ntmps124
          go_wp2_with (rw [hw1.out])
          refine hg.out.mono ?_
          rintro e w2 ⟨rfl, hb2⟩
          have hB2 : Hid (Below w.heap.size w w2) := hb1.out.trans (hb2.mono hb1.out.size)
          have hK2 := Lib.hid (hK1.out.below hb2 hK1.out.lt)
          clear hb2 hg hb1 hK1 hD1 d3
          go_wp2_with fail
          go_ret2
          exact curedR (by rw [hP.out]; rfl) hB2.out
end Go.Proofs.YtdjmckjbibfecaaGreatDoor

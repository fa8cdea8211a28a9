/- The document's Digits: a number's numeral. -/
import Derived.Test.YtjkmhlfjheiekaaGreatDoorTf
import Derived.Test.YtjkmhlfjheiekaaGreatDoorSb
namespace Go.Proofs.YtjkmhlfjheiekaaGreatDoor
open Go Go.RowKit Go.BigFrame Go.Maps

def dg (n : Nat) : UInt8 := UInt8.ofNat (48 + n % 10)
theorem decN_dg (f n : Nat) : decN (f + 1) n = if n < 10 then [dg n] else decN f (n / 10) ++ [dg n] := by
  rw [decN]
  split
  · rename_i h; unfold dg; rw [Nat.mod_eq_of_lt h]
  · rfl
theorem conv_dg (W : World) (n : Nat) : (convert 68 9 (.slice (some ⟨W.heap.size, 0, none⟩) 1 1)).run Tryz.prog (W.alloc (.cells #[.int .u8 (48 + (n : Int) % 10)] 5)) = .ok (.string ⟨[dg n].toArray⟩) (W.alloc (.cells #[.int .u8 (48 + (n : Int) % 10)] 5)) := by
  rw [conv_new W (48 + (n : Int) % 10), show (48 + (n : Int) % 10).toNat = 48 + n % 10 by omega]
  rfl
set_option maxRecDepth 100000 in
set_option maxHeartbeats 1600000 in
theorem rdigitsN_any (n : Nat) (hn : n ≤ 1099511627776) (w : World) : Calls Tryz.prog 58 #[.int .i64 n] w fun e w' => e = .returned (.string ⟨(decN 20 n).toArray⟩) ∧ Below w.heap.size w w' := by
  have hc0 := conv_dg w n
  have hd0 : Hid (decN 20 n = if n < 10 then [dg n] else decN 19 (n / 10) ++ [dg n]) := decN_dg 19 n
  have hn1 : n < 10 ^ 20 := by omega
  have hn' := Lib.hid hn
  obtain ⟨R, hR⟩ : ∃ x, Hid (decN 20 n = x) := ⟨_, Lib.hid rfl⟩
  rw [hR.out] at hd0 ⊢
  clear hn
  go_enter Tryz.func58, Tryz.ntmps58
  go_wp2_with fail
  go_loopg [0, 3] 19 (fun gg a v wr => ∃ (m : Nat) (s : Txt), a = .int .i64 m ∧ v = .string ⟨s.toArray⟩ ∧ Hid (m < 10 ^ (gg + 1)) ∧ Hid (R = if m < 10 then s else decN gg (m / 10) ++ s) ∧ Hid (s.length + gg = 20) ∧ Hid (m ≤ 1099511627776) ∧ Hid (Below w.heap.size w wr))
  case atStart => exact ⟨n, [dg n], rfl, rfl, hn1, hd0, rfl, hn', (Below.refl _ w).alloc (Nat.le_refl _) _⟩
  case round =>
    clear hd0 hc0 hn1
    obtain ⟨m, s, rfl, rfl, hm, hs, hl, hmm, hB⟩ := hrel
    have hm2 := hmm.out
    by_cases h9 : m < 10
    · have i1 : decide ((9 : Int) < (m : Int)) = false := by simp; omega
      have hr : Hid (R = s) := by unfold Hid; rw [hs.out, if_pos h9]
      go_wp2_with fail
      go_ret
      exact ⟨by rw [hr.out]; rfl, hB.out⟩
    · have i1 : decide ((9 : Int) < (m : Int)) = true := by simp; omega
      obtain ⟨g, rfl⟩ : ∃ g, gk = g + 1 := by
        cases gk with
        | zero => exact absurd hm.out (by rw [Nat.zero_add, Nat.pow_one]; exact h9)
        | succ g => exact ⟨g, rfl⟩
      obtain ⟨q, hq⟩ : ∃ q, Hid (m / 10 = q) := ⟨_, Lib.hid rfl⟩
      have hqm : q ≤ m / 10 ∧ m / 10 ≤ q := by have := hq.out; omega
      have hc1 := conv_dg wr q
      have e0 : Hid (({ data := #[dg q] } : ByteArray) ++ { data := s.toArray } = ⟨([dg q] ++ s).toArray⟩) := ByteArray.ext (by simp)
      have hl2 := hl.out
      have z1 : ¬ 9223372036854775807 < 1 + s.length := by omega
      have d1 : (m : Int).tdiv 10 = (q : Int) := by rw [Int.tdiv_eq_ediv_of_nonneg (by omega)]; omega
      have w0 : IntKind.i64.wrap (q : Int) = (q : Int) := IntWalk.i64_in _ (by omega)
      have t1 : (q : Int).tmod 10 = (q : Int) % 10 := IntWalk.rem_in _ _ (by omega)
      have w1 : IntKind.i64.wrap (48 + (q : Int) % 10) = 48 + (q : Int) % 10 := IntWalk.i64_in _ (by omega)
      have w2 : IntKind.u8.wrap (48 + (q : Int) % 10) = 48 + (q : Int) % 10 := IntWalk.u8_in _ (by omega)
      have hs2 : Hid (R = if q < 10 then [dg q] ++ s else decN g (q / 10) ++ ([dg q] ++ s)) := by
        unfold Hid
        rw [hs.out, if_neg h9, hq.out, decN_dg]
        split <;> simp
      have hm3 : Hid (q < 10 ^ (g + 1)) := by have h := hm.out; rw [Nat.pow_succ] at h; unfold Hid; omega
      have hl3 : Hid (([dg q] ++ s).length + g = 20) := by unfold Hid; simp; omega
      have hm4 : Hid (q ≤ 1099511627776) := by unfold Hid; omega
      clear hs hm hmm hl hq
      go_wp2_with fail
      go_roundg g
      case measure => omega
      case rel => exact ⟨q, [dg q] ++ s, rfl, congrArg Value.string e0.out, hm3, hs2, hl3, hm4, hB.out.alloc hB.out.size _⟩
end Go.Proofs.YtjkmhlfjheiekaaGreatDoor

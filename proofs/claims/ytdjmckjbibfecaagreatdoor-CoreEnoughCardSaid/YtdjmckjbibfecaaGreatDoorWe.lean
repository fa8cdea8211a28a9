/- bits.OnesCount of small sets; the order of sets. -/
import Derived.Test.YtdjmckjbibfecaaGreatDoorWd
namespace Go.Proofs.YtdjmckjbibfecaaGreatDoor
open Go Go.RowKit Go.BigFrame Go.Maps

def pa1 (x : Nat) : Nat := (x / 2 &&& 6148914691236517205) + (x &&& 6148914691236517205)
def pa2 (a : Nat) : Nat := (a / 4 &&& 3689348814741910323) + (a &&& 3689348814741910323)
def pa3 (a : Nat) : Nat := a / 16 + a &&& 1085102592571150095
def pa4 (a : Nat) : Nat := a + a / 256
def pa5 (a : Nat) : Nat := a + a / 65536
def pa6 (a : Nat) : Nat := a + a / 4294967296
def popN (x : Nat) : Nat := pa6 (pa5 (pa4 (pa3 (pa2 (pa1 x))))) &&& 127
def popOk (x : Nat) : Bool := decide (pa1 x < 65536) && decide (pa2 (pa1 x) < 65536) && decide (pa3 (pa2 (pa1 x)) < 65536) && decide (popN x = (plcM 0 12 x).length)
theorem pop_all : (List.range 4096).all popOk = true := by decide +kernel
theorem pop_ok {x : Nat} (h : x < 4096) : pa1 x < 65536 ∧ pa2 (pa1 x) < 65536 ∧ pa3 (pa2 (pa1 x)) < 65536 ∧ popN x = (plcM 0 12 x).length := by
  have := List.all_eq_true.1 pop_all x (List.mem_range.2 h)
  unfold popOk at this
  simp only [Bool.and_eq_true, decide_eq_true_eq] at this
  exact ⟨this.1.1.1, this.1.1.2, this.1.2, this.2⟩
theorem plc_top : ∀ (d n k x : Nat), x < 2 ^ n → (plcM k (n + d) x).length = (plcM k n x).length
  | 0, _, _, _, _ => rfl
  | d + 1, n, k, x, h => by
    have hb : x.testBit (n + d) = false := Nat.testBit_lt_two_pow (Nat.lt_of_lt_of_le h (Nat.pow_le_pow_right (by omega) (by omega)))
    rw [show n + (d + 1) = (n + d) + 1 by omega, plcM, hb]
    simp only [Bool.false_eq_true, if_false]
    have e : ∀ (n k j x : Nat), (plcM k n x).length = (plcM j n x).length := by
      intro n
      induction n with
      | zero => intro k j x; rfl
      | succ n ih => intro k j x; rw [plcM, plcM]; split <;> simp [ih (k + 1) (j + 1) x]
    rw [e _ (k + 1) k]
    exact plc_top d n k x h
theorem pop_plc {m x : Nat} (hm : m ≤ 12) (h : x < 2 ^ m) : popN x = (plcM 0 m x).length := by
  have hx : x < 4096 := Nat.lt_of_lt_of_le h (Nat.pow_le_pow_right (by omega) hm)
  rw [(pop_ok hx).2.2.2]
  have := plc_top (12 - m) m 0 x h
  rwa [show m + (12 - m) = 12 by omega] at this
theorem wrapU' {v : Int} (n : Nat) (e : v = (n : Int)) (h : n < 18446744073709551616) : IntKind.u64.wrap v = (n : Int) := by rw [e]; exact wrapU n h
set_option maxRecDepth 100000 in
set_option maxHeartbeats 1600000 in
theorem ones64_any (x : Nat) (w : World) (hx : x < 4096) : Calls Tryz.prog 92 #[.int .u64 (x : Int)] w fun e w' => e = .returned (.int .i64 (popN x : Int)) ∧ w = w' := by
  have h0 : (0 : Int) ≤ (x : Int) := by omega
  obtain ⟨o1, o2, o3, _⟩ := pop_ok hx
  have hpop : Hid (popN x = (pa6 (pa5 (pa4 (pa3 (pa2 (pa1 x))))) &&& 127)) := rfl
  obtain ⟨P1, hP1⟩ : ∃ z, x / 2 &&& 6148914691236517205 = z := ⟨_, rfl⟩
  obtain ⟨P2, hP2⟩ : ∃ z, x &&& 6148914691236517205 = z := ⟨_, rfl⟩
  have b1 : bits .and .u64 ((x : Int) / 2) 6148914691236517205 = (P1 : Int) := by rw [← hP1]; exact bits_and_u64_nat (x / 2) 6148914691236517205 (by omega) (by omega)
  have b2 : bits .and .u64 (x : Int) 6148914691236517205 = (P2 : Int) := by rw [← hP2]; exact bits_and_u64_nat x 6148914691236517205 (by omega) (by omega)
  obtain ⟨A1, hA1⟩ : ∃ z, pa1 x = z := ⟨_, rfl⟩
  have eA1 : P1 + P2 = A1 := by rw [← hA1, ← hP1, ← hP2]; rfl
  rw [hA1] at hpop o1 o2 o3
  have u1 : IntKind.u64.wrap ((P1 : Int) + (P2 : Int)) = (A1 : Int) := wrapU' A1 (by omega) (by omega)
  obtain ⟨Q1, hQ1⟩ : ∃ z, A1 / 4 &&& 3689348814741910323 = z := ⟨_, rfl⟩
  obtain ⟨Q2, hQ2⟩ : ∃ z, A1 &&& 3689348814741910323 = z := ⟨_, rfl⟩
  have b3 : bits .and .u64 ((A1 : Int) / 4) 3689348814741910323 = (Q1 : Int) := by rw [← hQ1]; exact bits_and_u64_nat (A1 / 4) 3689348814741910323 (by omega) (by omega)
  have b4 : bits .and .u64 (A1 : Int) 3689348814741910323 = (Q2 : Int) := by rw [← hQ2]; exact bits_and_u64_nat A1 3689348814741910323 (by omega) (by omega)
  obtain ⟨A2, hA2⟩ : ∃ z, pa2 A1 = z := ⟨_, rfl⟩
  have eA2 : Q1 + Q2 = A2 := by rw [← hA2, ← hQ1, ← hQ2]; rfl
  rw [hA2] at hpop o2 o3
  have u2 : IntKind.u64.wrap ((Q1 : Int) + (Q2 : Int)) = (A2 : Int) := wrapU' A2 (by omega) (by omega)
  obtain ⟨S2, hS2⟩ : ∃ z, A2 / 16 + A2 = z := ⟨_, rfl⟩
  have u3 : IntKind.u64.wrap ((A2 : Int) / 16 + (A2 : Int)) = (S2 : Int) := wrapU' S2 (by omega) (by omega)
  obtain ⟨A3, hA3⟩ : ∃ z, pa3 A2 = z := ⟨_, rfl⟩
  rw [hA3] at hpop o3
  have b5 : bits .and .u64 (S2 : Int) 1085102592571150095 = (A3 : Int) := by rw [← hA3, pa3, hS2]; exact bits_and_u64_nat S2 1085102592571150095 (by omega) (by omega)
  obtain ⟨A4, hA4⟩ : ∃ z, pa4 A3 = z := ⟨_, rfl⟩
  have u4 : IntKind.u64.wrap ((A3 : Int) + (A3 : Int) / 256) = (A4 : Int) := wrapU' A4 (by rw [← hA4, pa4]; omega) (by rw [← hA4, pa4]; omega)
  have o4 : A4 < 131072 := by rw [← hA4, pa4]; omega
  rw [hA4] at hpop
  obtain ⟨A5, hA5⟩ : ∃ z, pa5 A4 = z := ⟨_, rfl⟩
  have u5 : IntKind.u64.wrap ((A4 : Int) + (A4 : Int) / 65536) = (A5 : Int) := wrapU' A5 (by rw [← hA5, pa5]; omega) (by rw [← hA5, pa5]; omega)
  have o5 : A5 < 262144 := by rw [← hA5, pa5]; omega
  rw [hA5] at hpop
  obtain ⟨A6, hA6⟩ : ∃ z, pa6 A5 = z := ⟨_, rfl⟩
  have u6 : IntKind.u64.wrap ((A5 : Int) + (A5 : Int) / 4294967296) = (A6 : Int) := wrapU' A6 (by rw [← hA6, pa6]; omega) (by rw [← hA6, pa6]; omega)
  have o6 : A6 < 524288 := by rw [← hA6, pa6]; omega
  rw [hA6] at hpop
  have u7 : IntKind.i64.wrap (A6 : Int) = (A6 : Int) := IntWalk.i64_in _ (by omega)
  obtain ⟨R, hR⟩ : ∃ z, A6 &&& 127 = z := ⟨_, rfl⟩
  have b6 : bits .and .i64 (A6 : Int) 127 = (R : Int) := by rw [← hR]; exact bits_and_i64 A6 127 (by omega) (by omega)
  rw [hR] at hpop
  clear hP1 hP2 hA1 eA1 hQ1 hQ2 hA2 eA2 hS2 hA3 hA4 hA5 hA6 hR o1 o2 o3 o4 o5
  go_enter Tryz.func92, Tryz.ntmps92
  go_wp2_with fail
  go_ret
  exact ⟨by rw [hpop.out]; rfl, rfl⟩
theorem ones_any (x : Nat) (w : World) (hx : x < 4096) : Calls Tryz.prog 42 #[.int .u64 (x : Int)] w fun e w' => e = .returned (.int .i64 (popN x : Int)) ∧ w = w' := by
  have ho := Lib.hid (ones64_any x w hx)
  have h0 : (0 : Int) ≤ (x : Int) := by omega
  have hx' := Lib.hid hx
  clear hx
  go_enter Tryz.func42, Tryz.ntmps42
  go_wp2_with fail
  refine ho.out.mono ?_
  rintro e w1 ⟨rfl, rfl⟩
  go_wp2_with fail
  go_ret
  exact ⟨rfl, rfl⟩
end Go.Proofs.YtdjmckjbibfecaaGreatDoor

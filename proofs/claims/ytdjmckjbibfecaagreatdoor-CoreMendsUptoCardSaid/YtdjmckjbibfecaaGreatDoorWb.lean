/- crossed: two sets of ways, joined. -/
import Derived.Laws.Bits64b
import Derived.IntWalk
import Derived.Test.YtdjmckjbibfecaaGreatDoorWa
namespace Go.Proofs.YtdjmckjbibfecaaGreatDoor
open Go Go.RowKit Go.BigFrame Go.Maps

theorem bits_and_i64 (a b : Nat) (ha : a < 9223372036854775808) (hb : b < 9223372036854775808) : bits .and .i64 (a : Int) (b : Int) = ((a &&& b : Nat) : Int) := by
  have e : (BitVec.ofInt IntKind.i64.bits (a : Int) &&& BitVec.ofInt IntKind.i64.bits (b : Int)).toNat = a &&& b := by
    rw [BitVec.toNat_and]
    have e1 : ∀ c : Nat, c < 9223372036854775808 → (BitVec.ofInt IntKind.i64.bits (c : Int)).toNat = c := fun c hc => by
      show (BitVec.ofInt 64 (c : Int)).toNat = c
      rw [BitVec.ofInt_natCast, BitVec.toNat_ofNat]
      exact Nat.mod_eq_of_lt (by omega)
    rw [e1 a ha, e1 b hb]
  show IntKind.i64.wrap ((BitVec.ofInt IntKind.i64.bits (a : Int) &&& BitVec.ofInt IntKind.i64.bits (b : Int)).toNat : Int) = _
  rw [e]
  have : a &&& b ≤ a := Nat.and_le_left
  exact IntWalk.i64_in _ (by omega)
theorem bits_or_i64 (a b n : Nat) (ha : a < 2 ^ n) (hb : b < 2 ^ n) (hn : n ≤ 62) : bits .or .i64 (a : Int) (b : Int) = ((a ||| b : Nat) : Int) := by
  have hp : 2 ^ n ≤ 2 ^ 62 := Nat.pow_le_pow_right (by omega) hn
  have e : (BitVec.ofInt IntKind.i64.bits (a : Int) ||| BitVec.ofInt IntKind.i64.bits (b : Int)).toNat = a ||| b := by
    rw [BitVec.toNat_or]
    have e1 : ∀ c : Nat, c < 2 ^ n → (BitVec.ofInt IntKind.i64.bits (c : Int)).toNat = c := fun c hc => by
      show (BitVec.ofInt 64 (c : Int)).toNat = c
      rw [BitVec.ofInt_natCast, BitVec.toNat_ofNat]
      exact Nat.mod_eq_of_lt (by omega)
    rw [e1 a ha, e1 b hb]
  show IntKind.i64.wrap ((BitVec.ofInt IntKind.i64.bits (a : Int) ||| BitVec.ofInt IntKind.i64.bits (b : Int)).toNat : Int) = _
  rw [e]
  have : a ||| b < 2 ^ n := Nat.or_lt_two_pow ha hb
  exact IntWalk.i64_in _ (by omega)
theorem and_bit (a i : Nat) : a &&& 2 ^ i = if a.testBit i then 2 ^ i else 0 := by
  apply Nat.eq_of_testBit_eq
  intro q
  rw [Nat.testBit_and, Nat.testBit_two_pow]
  by_cases h : i = q
  · subst h
    cases hb : a.testBit i <;> simp
  · cases hb : a.testBit i <;> simp [h]
def stepQ (op : Nat → Nat → Nat) (a b : Nat) (s q : Nat) : Nat := if a.testBit (q / 3) && b.testBit (q % 3) then s ||| 2 ^ op (q / 3) (q % 3) else s
def crossQ (op : Nat → Nat → Nat) (a b n : Nat) : Nat := (List.range n).foldl (stepQ op a b) 0
theorem crossQ_all (op : Nat → Nat → Nat) (a b : Nat) : crossM op a b = crossQ op a b 9 := rfl
theorem crossQ_succ (op : Nat → Nat → Nat) (a b n : Nat) : crossQ op a b (n + 1) = stepQ op a b (crossQ op a b n) n := by
  unfold crossQ; rw [List.range_succ, List.foldl_append]; rfl
theorem crossQ_in (op : Nat → Nat → Nat) (a b k l : Nat) (hl : l < 3) : crossQ op a b (3 * k + (l + 1)) = if a.testBit k && b.testBit l then crossQ op a b (3 * k + l) ||| 2 ^ op k l else crossQ op a b (3 * k + l) := by
  rw [show 3 * k + (l + 1) = 3 * k + l + 1 by omega, crossQ_succ, stepQ, show (3 * k + l) / 3 = k by omega, show (3 * k + l) % 3 = l by omega]
theorem crossQ_lt {op : Nat → Nat → Nat} {a b : Nat} (h : ∀ i j, i < 3 → j < 3 → a.testBit i = true → b.testBit j = true → op i j < 3) : ∀ n, n ≤ 9 → crossQ op a b n < 2 ^ 3
  | 0, _ => by simp [crossQ]
  | n + 1, hn => by
    rw [crossQ_succ, stepQ]
    have ih := crossQ_lt h n (by omega)
    split
    · rename_i hc
      rw [Bool.and_eq_true] at hc
      have := h (n / 3) (n % 3) (by omega) (by omega) hc.1 hc.2
      exact Nat.or_lt_two_pow ih (Nat.pow_lt_pow_right (by omega) this)
    · exact ih
theorem wrap_pow (i : Nat) (h : i < 3) : IntKind.i64.wrap (2 ^ i) = ((2 ^ i : Nat) : Int) := by
  have : i = 0 ∨ i = 1 ∨ i = 2 := by omega
  rcases this with rfl | rfl | rfl <;> decide
theorem join_max (i j : Nat) (w : World) (hi : i < 3) (hj : j < 3) : Calls Tryz.prog 150 #[.int .i64 (i : Int), .int .i64 (j : Int)] w fun e w' => e = .returned (.int .i64 ((max i j : Nat) : Int)) ∧ w = w' := by
  have hi' : i = 0 ∨ i = 1 ∨ i = 2 := by omega
  have hj' : j = 0 ∨ j = 1 ∨ j = 2 := by omega
  rcases hi' with rfl | rfl | rfl <;> rcases hj' with rfl | rfl | rfl
  all_goals
    go_enter Tryz.func150, Tryz.ntmps150
    go_wp2
    go_ret
    exact ⟨rfl, rfl⟩
theorem join_min (i j : Nat) (w : World) (hi : i < 3) (hj : j < 3) : Calls Tryz.prog 151 #[.int .i64 (i : Int), .int .i64 (j : Int)] w fun e w' => e = .returned (.int .i64 ((min i j : Nat) : Int)) ∧ w = w' := by
  have hi' : i = 0 ∨ i = 1 ∨ i = 2 := by omega
  have hj' : j = 0 ∨ j = 1 ∨ j = 2 := by omega
  rcases hi' with rfl | rfl | rfl <;> rcases hj' with rfl | rfl | rfl
  all_goals
    go_enter Tryz.func151, Tryz.ntmps151
    go_wp2
    go_ret
    exact ⟨rfl, rfl⟩
theorem join_not (i j : Nat) (w : World) (hi : i < 3) (hj : j = 2) : Calls Tryz.prog 152 #[.int .i64 (i : Int), .int .i64 (j : Int)] w fun e w' => e = .returned (.int .i64 ((j - i : Nat) : Int)) ∧ w = w' := by
  have hi' : i = 0 ∨ i = 1 ∨ i = 2 := by omega
  subst hj
  rcases hi' with rfl | rfl | rfl
  all_goals
    go_enter Tryz.func152, Tryz.ntmps152
    go_wp2
    go_ret
    exact ⟨rfl, rfl⟩
set_option maxRecDepth 100000 in
set_option maxHeartbeats 3200000 in
theorem crossed_max (a b : Nat) (w : World) (ha : a < 8) (hb : b < 8) :
    Calls Tryz.prog 149 #[.int .i64 (a : Int), .int .i64 (b : Int), .func (.func 150) #[] #[]] w fun e w' => e = .returned (.int .i64 ((crossM max a b : Nat) : Int)) ∧ w = w' := by
  have hlt3 : ∀ i j, i < 3 → j < 3 → a.testBit i = true → b.testBit j = true → max i j < 3 := by intro i j hi hj _ _; omega
  have hq := Lib.hid (crossQ_lt hlt3)
  have hlt3' := Lib.hid hlt3
  rw [crossQ_all]
  clear hlt3
  have hab := Lib.hid (And.intro ha hb)
  clear ha hb
  go_enter Tryz.func149, Tryz.ntmps149
  go_wp2
  go_loopw [7, 8, 9] (fun s i j wr => ∃ k : Nat, k ≤ 3 ∧ i = .int .i64 k ∧ s = .int .i64 ((crossQ max a b (3 * k) : Nat) : Int) ∧ w = wr) (fun _ i _ _ => 3 - (intOf i).toNat)
  case atStart => exact ⟨0, by omega, rfl, rfl, rfl⟩
  case round =>
    obtain ⟨k, hk, rfl, rfl, rfl⟩ := hrel
    by_cases hlt : k < 3
    · have d1 : decide ((k : Int) ≤ 2) = true := by simp; omega
      have d2 : decide (k ≤ 2) = true := by simp; omega
      obtain ⟨PI, hPI⟩ : ∃ z : Int, Hid (((2 ^ k : Nat) : Int) = z) := ⟨_, rfl⟩
      have hw1 : IntKind.i64.wrap (2 ^ k) = PI := by rw [wrap_pow k hlt]; exact hPI.out
      obtain ⟨RI, hRI⟩ : ∃ z : Int, Hid (((a &&& 2 ^ k : Nat) : Int) = z) := ⟨_, rfl⟩
      have hpk : 2 ^ k < 9223372036854775808 := Nat.lt_of_le_of_lt (Nat.pow_le_pow_right (by omega) (by omega : k ≤ 2)) (by decide)
      have hba : bits .and .i64 (a : Int) PI = RI := by rw [← hPI.out, bits_and_i64 a _ (by have := hab.out.1; omega) hpk]; exact hRI.out
      have hk2 : (0 : Int) ≤ (k : Int) := by omega
      have hk3 : (k : Int) ≤ 64 := by omega
      go_wp2
      go_loopw [7, 9] (fun s j wr => ∃ l : Nat, l ≤ 3 ∧ j = .int .i64 l ∧ s = .int .i64 ((crossQ max a b (3 * k + l) : Nat) : Int) ∧ w = wr) (fun _ j _ => 3 - (intOf j).toNat)
      case atStart => exact ⟨0, by omega, rfl, rfl, rfl⟩
      case round =>
        obtain ⟨l, hl, rfl, rfl, rfl⟩ := hrel
        by_cases hlt2 : l < 3
        · have f1 : decide ((l : Int) ≤ 2) = true := by simp; omega
          have f2 : decide (l ≤ 2) = true := by simp; omega
          obtain ⟨PJ, hPJ⟩ : ∃ z : Int, Hid (((2 ^ l : Nat) : Int) = z) := ⟨_, rfl⟩
          have hw2 : IntKind.i64.wrap (2 ^ l) = PJ := by rw [wrap_pow l hlt2]; exact hPJ.out
          obtain ⟨RJ, hRJ⟩ : ∃ z : Int, Hid (((b &&& 2 ^ l : Nat) : Int) = z) := ⟨_, rfl⟩
          have hpl : 2 ^ l < 9223372036854775808 := Nat.lt_of_le_of_lt (Nat.pow_le_pow_right (by omega) (by omega : l ≤ 2)) (by decide)
          have hbb : bits .and .i64 (b : Int) PJ = RJ := by rw [← hPJ.out, bits_and_i64 b _ (by have := hab.out.2; omega) hpl]; exact hRJ.out
          have hl2 : (0 : Int) ≤ (l : Int) := by omega
          have hl3 : (l : Int) ≤ 64 := by omega
          have hin := Lib.hid (crossQ_in max a b k l hlt2)
          have hcur := hq.out (3 * k + l) (by omega)
          obtain ⟨S, hS⟩ : ∃ S, crossQ max a b (3 * k + l) = S := ⟨_, rfl⟩
          rw [hS] at hin hcur ⊢
          have hS' := Lib.hid hS
          have hcur' := Lib.hid hcur
          clear hS hcur hpl
          have hea := and_bit a k
          have heb := and_bit b l
          cases hta : a.testBit k with
          | false =>
            have hz : RI = 0 := by rw [← hRI.out, hea, hta]; rfl
            rw [hz] at hba
            clear hz hRI
            have hn := hin.out
            rw [hta, Bool.false_and, if_neg (by simp)] at hn
            have hn' := Lib.hid hn
            clear hea heb hn
            go_wp2
            go_roundw
            case rel => exact ⟨l + 1, by omega, by go_num, by rw [hn'.out], by first | trivial | rfl⟩
            case measure => simp [intOf]; omega
          | true =>
            have hpos : 2 ^ k ≠ 0 := Nat.ne_of_gt (Nat.two_pow_pos k)
            have hne : ¬ RI = 0 := by rw [← hRI.out, hea, hta, if_pos rfl]; omega
            have hz : (RI == 0) = false := by simpa using hne
            have hz9 : (RI != 0) = true := by simpa using hne
            have hz8 : decide (RI = 0) = false := by simpa using hne
            cases htb : b.testBit l with
            | false =>
              have hz2 : RJ = 0 := by rw [← hRJ.out, heb, htb]; rfl
              rw [hz2] at hbb
              clear hz2 hRJ
              have hn := hin.out
              rw [hta, htb, Bool.and_false, if_neg (by simp)] at hn
              have hn' := Lib.hid hn
              clear hea heb hn hpos
              go_wp2
              go_roundw
              case rel => exact ⟨l + 1, by omega, by go_num, by rw [hn'.out], by first | trivial | rfl⟩
              case measure => simp [intOf]; omega
            | true =>
              have hpos2 : 2 ^ l ≠ 0 := Nat.ne_of_gt (Nat.two_pow_pos l)
              have hne2 : ¬ RJ = 0 := by rw [← hRJ.out, heb, htb, if_pos rfl]; omega
              have hz2 : (RJ == 0) = false := by simpa using hne2
              have hz7 : (RJ != 0) = true := by simpa using hne2
              have hz6 : decide (RJ = 0) = false := by simpa using hne2
              clear hpos2
              have hn := hin.out
              rw [hta, htb, Bool.and_true, if_pos rfl] at hn
              have hn' := Lib.hid hn
              have hop := hlt3'.out k l hlt hlt2 hta htb
              have hjn := Lib.hid (join_max k l w hlt hlt2)
              obtain ⟨V, hV⟩ : ∃ V, max k l = V := ⟨_, rfl⟩
              have hVr : max k l = V := hV
              rw [hV] at hop hn
              have hjn1 := hjn.out
              rw [hVr] at hjn1
              have hjn2 := Lib.hid hjn1
              clear hjn hjn1
              have hn'' := Lib.hid hn
              have hw3 : IntKind.i64.wrap (2 ^ V) = ((2 ^ V : Nat) : Int) := wrap_pow V hop
              obtain ⟨T, hT⟩ : ∃ z : Int, Hid (((2 ^ V : Nat) : Int) = z) := ⟨_, rfl⟩
              rw [hT.out] at hw3
              have hor : bits .or .i64 (S : Int) T = ((S ||| 2 ^ V : Nat) : Int) := by rw [← hT.out]; exact bits_or_i64 S _ 3 hcur'.out (Nat.pow_lt_pow_right (by omega) hop) (by omega)
              have hV2 : (0 : Int) ≤ (V : Int) := by omega
              have hV3 : (V : Int) ≤ 64 := by omega
              clear hea heb hn hn' hpos hV hVr hop
              go_wp2_with fail
              refine hjn2.out.mono ?_
              rintro e w1 ⟨rfl, rfl⟩
              go_wp2_with fail
              go_roundw
              case rel => exact ⟨l + 1, by omega, by go_num, by rw [hn''.out], by first | trivial | rfl⟩
              case measure => simp [intOf]; omega
        · have f1 : decide ((l : Int) ≤ 2) = false := by simp; omega
          have f2 : decide (l ≤ 2) = false := by simp; omega
          have h3 : l = 3 := by omega
          have h3' := Lib.hid h3
          clear h3
          go_wp2
          go_roundw
          case rel => exact ⟨k + 1, by omega, by go_num, by rw [h3'.out]; rfl, by first | trivial | rfl⟩
          case measure => simp [intOf]; omega
    · have d1 : decide ((k : Int) ≤ 2) = false := by simp; omega
      have d2 : decide (k ≤ 2) = false := by simp; omega
      have h3 : k = 3 := by omega
      have h3' := Lib.hid h3
      clear h3
      go_wp2
      go_ret
      exact ⟨by rw [h3'.out]; rfl, rfl⟩
set_option maxRecDepth 100000 in
set_option maxHeartbeats 3200000 in
theorem crossed_min (a b : Nat) (w : World) (ha : a < 8) (hb : b < 8) :
    Calls Tryz.prog 149 #[.int .i64 (a : Int), .int .i64 (b : Int), .func (.func 151) #[] #[]] w fun e w' => e = .returned (.int .i64 ((crossM min a b : Nat) : Int)) ∧ w = w' := by
  have hlt3 : ∀ i j, i < 3 → j < 3 → a.testBit i = true → b.testBit j = true → min i j < 3 := by intro i j hi hj _ _; omega
  have hq := Lib.hid (crossQ_lt hlt3)
  have hlt3' := Lib.hid hlt3
  rw [crossQ_all]
  clear hlt3
  have hab := Lib.hid (And.intro ha hb)
  clear ha hb
  go_enter Tryz.func149, Tryz.ntmps149
  go_wp2
  go_loopw [7, 8, 9] (fun s i j wr => ∃ k : Nat, k ≤ 3 ∧ i = .int .i64 k ∧ s = .int .i64 ((crossQ min a b (3 * k) : Nat) : Int) ∧ w = wr) (fun _ i _ _ => 3 - (intOf i).toNat)
  case atStart => exact ⟨0, by omega, rfl, rfl, rfl⟩
  case round =>
    obtain ⟨k, hk, rfl, rfl, rfl⟩ := hrel
    by_cases hlt : k < 3
    · have d1 : decide ((k : Int) ≤ 2) = true := by simp; omega
      have d2 : decide (k ≤ 2) = true := by simp; omega
      obtain ⟨PI, hPI⟩ : ∃ z : Int, Hid (((2 ^ k : Nat) : Int) = z) := ⟨_, rfl⟩
      have hw1 : IntKind.i64.wrap (2 ^ k) = PI := by rw [wrap_pow k hlt]; exact hPI.out
      obtain ⟨RI, hRI⟩ : ∃ z : Int, Hid (((a &&& 2 ^ k : Nat) : Int) = z) := ⟨_, rfl⟩
      have hpk : 2 ^ k < 9223372036854775808 := Nat.lt_of_le_of_lt (Nat.pow_le_pow_right (by omega) (by omega : k ≤ 2)) (by decide)
      have hba : bits .and .i64 (a : Int) PI = RI := by rw [← hPI.out, bits_and_i64 a _ (by have := hab.out.1; omega) hpk]; exact hRI.out
      have hk2 : (0 : Int) ≤ (k : Int) := by omega
      have hk3 : (k : Int) ≤ 64 := by omega
      go_wp2
      go_loopw [7, 9] (fun s j wr => ∃ l : Nat, l ≤ 3 ∧ j = .int .i64 l ∧ s = .int .i64 ((crossQ min a b (3 * k + l) : Nat) : Int) ∧ w = wr) (fun _ j _ => 3 - (intOf j).toNat)
      case atStart => exact ⟨0, by omega, rfl, rfl, rfl⟩
      case round =>
        obtain ⟨l, hl, rfl, rfl, rfl⟩ := hrel
        by_cases hlt2 : l < 3
        · have f1 : decide ((l : Int) ≤ 2) = true := by simp; omega
          have f2 : decide (l ≤ 2) = true := by simp; omega
          obtain ⟨PJ, hPJ⟩ : ∃ z : Int, Hid (((2 ^ l : Nat) : Int) = z) := ⟨_, rfl⟩
          have hw2 : IntKind.i64.wrap (2 ^ l) = PJ := by rw [wrap_pow l hlt2]; exact hPJ.out
          obtain ⟨RJ, hRJ⟩ : ∃ z : Int, Hid (((b &&& 2 ^ l : Nat) : Int) = z) := ⟨_, rfl⟩
          have hpl : 2 ^ l < 9223372036854775808 := Nat.lt_of_le_of_lt (Nat.pow_le_pow_right (by omega) (by omega : l ≤ 2)) (by decide)
          have hbb : bits .and .i64 (b : Int) PJ = RJ := by rw [← hPJ.out, bits_and_i64 b _ (by have := hab.out.2; omega) hpl]; exact hRJ.out
          have hl2 : (0 : Int) ≤ (l : Int) := by omega
          have hl3 : (l : Int) ≤ 64 := by omega
          have hin := Lib.hid (crossQ_in min a b k l hlt2)
          have hcur := hq.out (3 * k + l) (by omega)
          obtain ⟨S, hS⟩ : ∃ S, crossQ min a b (3 * k + l) = S := ⟨_, rfl⟩
          rw [hS] at hin hcur ⊢
          have hS' := Lib.hid hS
          have hcur' := Lib.hid hcur
          clear hS hcur hpl
          have hea := and_bit a k
          have heb := and_bit b l
          cases hta : a.testBit k with
          | false =>
            have hz : RI = 0 := by rw [← hRI.out, hea, hta]; rfl
            rw [hz] at hba
            clear hz hRI
            have hn := hin.out
            rw [hta, Bool.false_and, if_neg (by simp)] at hn
            have hn' := Lib.hid hn
            clear hea heb hn
            go_wp2
            go_roundw
            case rel => exact ⟨l + 1, by omega, by go_num, by rw [hn'.out], by first | trivial | rfl⟩
            case measure => simp [intOf]; omega
          | true =>
            have hpos : 2 ^ k ≠ 0 := Nat.ne_of_gt (Nat.two_pow_pos k)
            have hne : ¬ RI = 0 := by rw [← hRI.out, hea, hta, if_pos rfl]; omega
            have hz : (RI == 0) = false := by simpa using hne
            have hz9 : (RI != 0) = true := by simpa using hne
            have hz8 : decide (RI = 0) = false := by simpa using hne
            cases htb : b.testBit l with
            | false =>
              have hz2 : RJ = 0 := by rw [← hRJ.out, heb, htb]; rfl
              rw [hz2] at hbb
              clear hz2 hRJ
              have hn := hin.out
              rw [hta, htb, Bool.and_false, if_neg (by simp)] at hn
              have hn' := Lib.hid hn
              clear hea heb hn hpos
              go_wp2
              go_roundw
              case rel => exact ⟨l + 1, by omega, by go_num, by rw [hn'.out], by first | trivial | rfl⟩
              case measure => simp [intOf]; omega
            | true =>
              have hpos2 : 2 ^ l ≠ 0 := Nat.ne_of_gt (Nat.two_pow_pos l)
              have hne2 : ¬ RJ = 0 := by rw [← hRJ.out, heb, htb, if_pos rfl]; omega
              have hz2 : (RJ == 0) = false := by simpa using hne2
              have hz7 : (RJ != 0) = true := by simpa using hne2
              have hz6 : decide (RJ = 0) = false := by simpa using hne2
              clear hpos2
              have hn := hin.out
              rw [hta, htb, Bool.and_true, if_pos rfl] at hn
              have hn' := Lib.hid hn
              have hop := hlt3'.out k l hlt hlt2 hta htb
              have hjn := Lib.hid (join_min k l w hlt hlt2)
              obtain ⟨V, hV⟩ : ∃ V, min k l = V := ⟨_, rfl⟩
              have hVr : min k l = V := hV
              rw [hV] at hop hn
              have hjn1 := hjn.out
              rw [hVr] at hjn1
              have hjn2 := Lib.hid hjn1
              clear hjn hjn1
              have hn'' := Lib.hid hn
              have hw3 : IntKind.i64.wrap (2 ^ V) = ((2 ^ V : Nat) : Int) := wrap_pow V hop
              obtain ⟨T, hT⟩ : ∃ z : Int, Hid (((2 ^ V : Nat) : Int) = z) := ⟨_, rfl⟩
              rw [hT.out] at hw3
              have hor : bits .or .i64 (S : Int) T = ((S ||| 2 ^ V : Nat) : Int) := by rw [← hT.out]; exact bits_or_i64 S _ 3 hcur'.out (Nat.pow_lt_pow_right (by omega) hop) (by omega)
              have hV2 : (0 : Int) ≤ (V : Int) := by omega
              have hV3 : (V : Int) ≤ 64 := by omega
              clear hea heb hn hn' hpos hV hVr hop
              go_wp2_with fail
              refine hjn2.out.mono ?_
              rintro e w1 ⟨rfl, rfl⟩
              go_wp2_with fail
              go_roundw
              case rel => exact ⟨l + 1, by omega, by go_num, by rw [hn''.out], by first | trivial | rfl⟩
              case measure => simp [intOf]; omega
        · have f1 : decide ((l : Int) ≤ 2) = false := by simp; omega
          have f2 : decide (l ≤ 2) = false := by simp; omega
          have h3 : l = 3 := by omega
          have h3' := Lib.hid h3
          clear h3
          go_wp2
          go_roundw
          case rel => exact ⟨k + 1, by omega, by go_num, by rw [h3'.out]; rfl, by first | trivial | rfl⟩
          case measure => simp [intOf]; omega
    · have d1 : decide ((k : Int) ≤ 2) = false := by simp; omega
      have d2 : decide (k ≤ 2) = false := by simp; omega
      have h3 : k = 3 := by omega
      have h3' := Lib.hid h3
      clear h3
      go_wp2
      go_ret
      exact ⟨by rw [h3'.out]; rfl, rfl⟩
set_option maxRecDepth 100000 in
set_option maxHeartbeats 3200000 in
theorem crossed_not (a b : Nat) (w : World) (ha : a < 8) (hb : b < 8) (hb4 : Hid (b = 4)) :
    Calls Tryz.prog 149 #[.int .i64 (a : Int), .int .i64 (b : Int), .func (.func 152) #[] #[]] w fun e w' => e = .returned (.int .i64 ((crossM (fun x y => y - x) a b : Nat) : Int)) ∧ w = w' := by
  have hlt3 : ∀ i j, i < 3 → j < 3 → a.testBit i = true → b.testBit j = true → (fun x y => y - x) i j < 3 := by intro i j hi hj _ _; show j - i < 3; omega
  have hq := Lib.hid (crossQ_lt hlt3)
  have hlt3' := Lib.hid hlt3
  rw [crossQ_all]
  clear hlt3
  have hab := Lib.hid (And.intro ha hb)
  clear ha hb
  go_enter Tryz.func149, Tryz.ntmps149
  go_wp2
  go_loopw [7, 8, 9] (fun s i j wr => ∃ k : Nat, k ≤ 3 ∧ i = .int .i64 k ∧ s = .int .i64 ((crossQ (fun x y => y - x) a b (3 * k) : Nat) : Int) ∧ w = wr) (fun _ i _ _ => 3 - (intOf i).toNat)
  case atStart => exact ⟨0, by omega, rfl, rfl, rfl⟩
  case round =>
    obtain ⟨k, hk, rfl, rfl, rfl⟩ := hrel
    by_cases hlt : k < 3
    · have d1 : decide ((k : Int) ≤ 2) = true := by simp; omega
      have d2 : decide (k ≤ 2) = true := by simp; omega
      obtain ⟨PI, hPI⟩ : ∃ z : Int, Hid (((2 ^ k : Nat) : Int) = z) := ⟨_, rfl⟩
      have hw1 : IntKind.i64.wrap (2 ^ k) = PI := by rw [wrap_pow k hlt]; exact hPI.out
      obtain ⟨RI, hRI⟩ : ∃ z : Int, Hid (((a &&& 2 ^ k : Nat) : Int) = z) := ⟨_, rfl⟩
      have hpk : 2 ^ k < 9223372036854775808 := Nat.lt_of_le_of_lt (Nat.pow_le_pow_right (by omega) (by omega : k ≤ 2)) (by decide)
      have hba : bits .and .i64 (a : Int) PI = RI := by rw [← hPI.out, bits_and_i64 a _ (by have := hab.out.1; omega) hpk]; exact hRI.out
      have hk2 : (0 : Int) ≤ (k : Int) := by omega
      have hk3 : (k : Int) ≤ 64 := by omega
      go_wp2
      go_loopw [7, 9] (fun s j wr => ∃ l : Nat, l ≤ 3 ∧ j = .int .i64 l ∧ s = .int .i64 ((crossQ (fun x y => y - x) a b (3 * k + l) : Nat) : Int) ∧ w = wr) (fun _ j _ => 3 - (intOf j).toNat)
      case atStart => exact ⟨0, by omega, rfl, rfl, rfl⟩
      case round =>
        obtain ⟨l, hl, rfl, rfl, rfl⟩ := hrel
        by_cases hlt2 : l < 3
        · have f1 : decide ((l : Int) ≤ 2) = true := by simp; omega
          have f2 : decide (l ≤ 2) = true := by simp; omega
          obtain ⟨PJ, hPJ⟩ : ∃ z : Int, Hid (((2 ^ l : Nat) : Int) = z) := ⟨_, rfl⟩
          have hw2 : IntKind.i64.wrap (2 ^ l) = PJ := by rw [wrap_pow l hlt2]; exact hPJ.out
          obtain ⟨RJ, hRJ⟩ : ∃ z : Int, Hid (((b &&& 2 ^ l : Nat) : Int) = z) := ⟨_, rfl⟩
          have hpl : 2 ^ l < 9223372036854775808 := Nat.lt_of_le_of_lt (Nat.pow_le_pow_right (by omega) (by omega : l ≤ 2)) (by decide)
          have hbb : bits .and .i64 (b : Int) PJ = RJ := by rw [← hPJ.out, bits_and_i64 b _ (by have := hab.out.2; omega) hpl]; exact hRJ.out
          have hl2 : (0 : Int) ≤ (l : Int) := by omega
          have hl3 : (l : Int) ≤ 64 := by omega
          have hin := Lib.hid (crossQ_in (fun x y => y - x) a b k l hlt2)
          have hcur := hq.out (3 * k + l) (by omega)
          obtain ⟨S, hS⟩ : ∃ S, crossQ (fun x y => y - x) a b (3 * k + l) = S := ⟨_, rfl⟩
          rw [hS] at hin hcur ⊢
          have hS' := Lib.hid hS
          have hcur' := Lib.hid hcur
          clear hS hcur hpl
          have hea := and_bit a k
          have heb := and_bit b l
          cases hta : a.testBit k with
          | false =>
            have hz : RI = 0 := by rw [← hRI.out, hea, hta]; rfl
            rw [hz] at hba
            clear hz hRI
            have hn := hin.out
            rw [hta, Bool.false_and, if_neg (by simp)] at hn
            have hn' := Lib.hid hn
            clear hea heb hn
            go_wp2
            go_roundw
            case rel => exact ⟨l + 1, by omega, by go_num, by rw [hn'.out], by first | trivial | rfl⟩
            case measure => simp [intOf]; omega
          | true =>
            have hpos : 2 ^ k ≠ 0 := Nat.ne_of_gt (Nat.two_pow_pos k)
            have hne : ¬ RI = 0 := by rw [← hRI.out, hea, hta, if_pos rfl]; omega
            have hz : (RI == 0) = false := by simpa using hne
            have hz9 : (RI != 0) = true := by simpa using hne
            have hz8 : decide (RI = 0) = false := by simpa using hne
            cases htb : b.testBit l with
            | false =>
              have hz2 : RJ = 0 := by rw [← hRJ.out, heb, htb]; rfl
              rw [hz2] at hbb
              clear hz2 hRJ
              have hn := hin.out
              rw [hta, htb, Bool.and_false, if_neg (by simp)] at hn
              have hn' := Lib.hid hn
              clear hea heb hn hpos
              go_wp2
              go_roundw
              case rel => exact ⟨l + 1, by omega, by go_num, by rw [hn'.out], by first | trivial | rfl⟩
              case measure => simp [intOf]; omega
            | true =>
              have hpos2 : 2 ^ l ≠ 0 := Nat.ne_of_gt (Nat.two_pow_pos l)
              have hne2 : ¬ RJ = 0 := by rw [← hRJ.out, heb, htb, if_pos rfl]; omega
              have hz2 : (RJ == 0) = false := by simpa using hne2
              have hz7 : (RJ != 0) = true := by simpa using hne2
              have hz6 : decide (RJ = 0) = false := by simpa using hne2
              clear hpos2
              have hn := hin.out
              rw [hta, htb, Bool.and_true, if_pos rfl] at hn
              have hn' := Lib.hid hn
              have hop := hlt3'.out k l hlt hlt2 hta htb
              have hjn := Lib.hid (join_not k l w hlt (by have h1 := htb; rw [hb4.out] at h1; have := bit_two (r := 2) (v := l); exact (this.1 h1).symm))
              obtain ⟨V, hV⟩ : ∃ V, (fun x y => y - x) k l = V := ⟨_, rfl⟩
              have hVr : l - k = V := hV
              replace hop : l - k < 3 := hop
              replace hn : crossQ (fun x y => y - x) a b (3 * k + (l + 1)) = S ||| 2 ^ (l - k) := hn
              rw [hVr] at hop hn
              have hjn1 := hjn.out
              rw [hVr] at hjn1
              have hjn2 := Lib.hid hjn1
              clear hjn hjn1
              have hn'' := Lib.hid hn
              have hw3 : IntKind.i64.wrap (2 ^ V) = ((2 ^ V : Nat) : Int) := wrap_pow V hop
              obtain ⟨T, hT⟩ : ∃ z : Int, Hid (((2 ^ V : Nat) : Int) = z) := ⟨_, rfl⟩
              rw [hT.out] at hw3
              have hor : bits .or .i64 (S : Int) T = ((S ||| 2 ^ V : Nat) : Int) := by rw [← hT.out]; exact bits_or_i64 S _ 3 hcur'.out (Nat.pow_lt_pow_right (by omega) hop) (by omega)
              have hV2 : (0 : Int) ≤ (V : Int) := by omega
              have hV3 : (V : Int) ≤ 64 := by omega
              clear hea heb hn hn' hpos hV hVr hop
              go_wp2_with fail
              refine hjn2.out.mono ?_
              rintro e w1 ⟨rfl, rfl⟩
              go_wp2_with fail
              go_roundw
              case rel => exact ⟨l + 1, by omega, by go_num, by rw [hn''.out], by first | trivial | rfl⟩
              case measure => simp [intOf]; omega
        · have f1 : decide ((l : Int) ≤ 2) = false := by simp; omega
          have f2 : decide (l ≤ 2) = false := by simp; omega
          have h3 : l = 3 := by omega
          have h3' := Lib.hid h3
          clear h3
          go_wp2
          go_roundw
          case rel => exact ⟨k + 1, by omega, by go_num, by rw [h3'.out]; rfl, by first | trivial | rfl⟩
          case measure => simp [intOf]; omega
    · have d1 : decide ((k : Int) ≤ 2) = false := by simp; omega
      have d2 : decide (k ≤ 2) = false := by simp; omega
      have h3 : k = 3 := by omega
      have h3' := Lib.hid h3
      clear h3
      go_wp2
      go_ret
      exact ⟨by rw [h3'.out]; rfl, rfl⟩
end Go.Proofs.YtdjmckjbibfecaaGreatDoor

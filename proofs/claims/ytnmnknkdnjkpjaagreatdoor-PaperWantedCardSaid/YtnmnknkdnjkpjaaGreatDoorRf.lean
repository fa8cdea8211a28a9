/- The document's field, number, Join. -/
import Derived.Test.YtnmnknkdnjkpjaaGreatDoorEa
import Derived.Test.YtnmnknkdnjkpjaaGreatDoorH
namespace Go.Proofs.YtnmnknkdnjkpjaaGreatDoor
open Go Go.RowKit Go.BigFrame Go.Maps

set_option maxRecDepth 100000 in
theorem rfield_any (n v : ByteArray) (w : World) :
    Calls Tryz.prog 35 #[.string n, .string v] w fun e w' => e = .returned (.agg #[.string n, .string v]) ∧ Below w.heap.size w w' := by
  go_enter Tryz.func35, Tryz.ntmps35
  go_wp2_with fail
  refine bodyPost_ret (results_row rfl _ _ w.heap.size 79 _ _ rfl (Blk.new w 79 #[.string n, .string v]) Tryz.underlying79 rfl (by kernel_rfl)) rfl ?_
  exact ⟨rfl, (Below.refl _ w).alloc (Nat.le_refl _) _⟩
set_option maxRecDepth 100000 in
theorem rnum_any (n : ByteArray) (x : Int) (w : World) (h0 : -9223372036854775808 ≤ x) (h1 : x ≤ 9223372036854775807) :
    Calls Tryz.prog 36 #[.string n, .int .i64 x] w fun e w' => e = .returned (.agg #[.string n, .string (mkB (Lib.itoa x))]) ∧ Below w.heap.size w w' := by
  have h' := Lib.hid (And.intro h0 h1)
  clear h0 h1
  obtain ⟨w0, hw0⟩ : ∃ w0, Hid (w.alloc (.cells #[.string ⟨#[]⟩, .string ⟨#[]⟩] 79) = w0) := ⟨_, rfl⟩
  have hb0 : Hid (Below w.heap.size w w0) := by rw [← hw0.out]; exact (Below.refl _ w).alloc (Nat.le_refl _) _
  have hz0 : Hid (Blk w0 w.heap.size 79 #[.string ⟨#[]⟩, .string ⟨#[]⟩]) := by rw [← hw0.out]; exact Lib.hid (Blk.new _ _ _)
  go_enter Tryz.func36, Tryz.ntmps36
  go_wp2_with fail
  rw [hw0.out]
  refine (digits_any x w0 h'.out.1 h'.out.2).mono ?_
  rintro e w1 ⟨rfl, hb1⟩
  have hz1 := Lib.hid (hz0.out.below hb1 hz0.out.lt)
  have hB1 : Hid (Below w.heap.size w w1) := hb0.out.trans (hb1.mono hb0.out.size)
  clear hb1
  go_wp2_with fail
  refine (rfield_any n (mkB (Lib.itoa x)) w1).mono ?_
  rintro e w2 ⟨rfl, hb2⟩
  have hz2 := hz1.out.below hb2 hz1.out.lt
  have hB2 : Hid (Below w.heap.size w w2) := hB1.out.trans (hb2.mono hB1.out.size)
  clear hb2
  have z0 := hz2.cell 0
  have z1 := hz2.cell 1
  have zf := hz2.frozen
  simp only [List.getElem?_toArray, List.getElem?_cons_zero, List.getElem?_cons_succ] at z0 z1
  have hz5 := Lib.hid ((hz2.set_ 0 (.string n)).set_ 1 (.string (mkB (Lib.itoa x))))
  clear hz2
  go_wp2_with fail
  refine bodyPost_ret (results_row rfl _ _ w.heap.size 79 _ _ rfl hz5.out Tryz.underlying79 rfl (by kernel_rfl)) rfl ?_
  exact ⟨rfl, (hB2.out.setCell (Nat.le_refl _) _).setCell (Nat.le_refl _) _⟩

theorem join_take {l : List (List UInt8)} {k : Nat} {x : List UInt8} (h : l[k]? = some x) : Lib.join (l.take (k + 1)) [44] = (if 0 < k then Lib.join (l.take k) [44] ++ [44] else []) ++ x := by
  match l, k with
  | [], k => simp at h
  | y :: l, 0 => simp at h; subst h; simp [Lib.join_one]
  | y :: l, k + 1 =>
    rw [if_pos (by omega), List.take_succ_cons, List.take_succ_cons, Lib.join_cons, Lib.join_cons, Lib.joinTail_take_succ [44] l k x (by simpa using h)]
    simp
theorem cat_mkB (a b : List UInt8) : mkB a ++ mkB b = mkB (a ++ b) := ByteArray.ext (by simp [mkB])
set_option maxRecDepth 100000 in
theorem rjoin_any (A : Option Addr) (n c : Nat) (l : List (List UInt8)) (w : World) (hl : Hid (l.length = n)) (hA : Hid (StrsAt w A (l.map mkB))) (hn : n ≤ 1000) (hlen : ∀ k, (Lib.join (l.take k) [44]).length ≤ 1000000) :
    Calls Tryz.prog 38 #[.slice A n c] w fun e w' => e = .returned (.string (mkB (Lib.join l [44]))) ∧ Below w.heap.size w w' := by
  have hlen' := Lib.hid hlen
  clear hlen
  go_enter Tryz.func38, Tryz.ntmps38
  go_wp2_with fail
  go_loopw [3, 4] (fun s i wr => ∃ k : Nat, k ≤ n ∧ i = .int .i64 (k : Int) ∧ s = .string (mkB (Lib.join (l.take k) [44])) ∧ wr = w) (fun _ i _ => n - (intOf i).toNat)
  case atStart => exact ⟨0, Nat.zero_le _, rfl, by simp [Lib.join_nil]; rfl, rfl⟩
  case round =>
    obtain ⟨k, hk, rfl, rfl, rfl⟩ := hrel
    have hL1 := hlen'.out k
    have hL2 := hlen'.out (k + 1)
    by_cases hlt : k < n
    · obtain ⟨x, hx⟩ : ∃ x, l[k]? = some x := ⟨_, List.getElem?_eq_getElem (by have := hl.out; omega)⟩
      obtain ⟨b, off, rfl, h0⟩ := hA.out k (mkB x) (by rw [List.getElem?_map, hx]; rfl)
      have hj := Lib.hid (join_take hx)
      rw [hj.out] at hL2
      clear hx
      obtain ⟨J, hJ⟩ : ∃ J, Hid (Lib.join (l.take k) [44] = J) := ⟨_, rfl⟩
      rw [hJ.out] at hL1 hL2 hj ⊢
      have e1 : (mkB J).size = J.length := size_list J
      have e2 : (mkB x).size = x.length := size_list x
      by_cases h0k : 0 < k
      · have hp : (0 : Int) < (k : Int) := by omega
        rw [if_pos h0k] at hL2 hj
        simp at hL2
        go_wp2_with fail
        go_roundw
        case rel => exact ⟨k + 1, by omega, by go_num, by rw [hj.out]; exact congrArg Value.string (ByteArray.ext (by simp [mkB])), trivial⟩
        case measure => simp [intOf]; omega
      · have hp : ¬ (0 : Int) < (k : Int) := by omega
        have hJ0 : Hid (J = []) := by
          obtain rfl : k = 0 := by omega
          rw [← hJ.out]
          exact Lib.hid (by simp [Lib.join_nil])
        rw [if_neg h0k] at hL2 hj
        simp at hL2
        go_wp2_with fail
        go_roundw
        case rel => exact ⟨k + 1, by omega, by go_num, by rw [hj.out]; exact congrArg Value.string (ByteArray.ext (by simp [mkB, hJ0.out])), trivial⟩
        case measure => simp [intOf]; omega
    · have e : k = n := by omega
      have eT : l.take k = l := List.take_of_length_le (by have := hl.out; omega)
      rw [eT]
      go_wp2_with fail
      go_ret
      exact ⟨rfl, Below.refl _ _⟩
end Go.Proofs.YtnmnknkdnjkpjaaGreatDoor

/- What the program's and the library's own variables hold; numbers' digits. -/
import Derived.IntWalk
import Derived.Test.YtdjmckjbibfecaaGreatDoorG
import Derived.Test.YtdjmckjbibfecaaGreatDoorShelf
namespace Go.Proofs.YtdjmckjbibfecaaGreatDoor
open Go Go.RowKit Go.BigFrame

theorem below_grows (w : World) (k : Nat) (os : Array Obj) : Below w.heap.size w (Go.Sort.grow (w.drewN k) os) := by
  refine ⟨rfl, rfl, rfl, by simp [Go.Sort.grow], fun j hj => ?_⟩
  show (w.heap ++ os)[j]? = w.heap[j]?
  rw [Array.getElem?_append_left hj]

def mkB (l : List UInt8) : ByteArray := ⟨l.toArray⟩

/-- What the library's own variables hold. -/
structure Env (w : World) : Prop where
  tab : Lib.TabIs Tryz.prog w "internal/strconv.uint64pow10" .u64 Lib.pow10Tab
  most : ∃ m, w.cell? ⟨5, 0, none⟩ = some (.int .i64 m)
  syn : ∃ te pe, w.cell? ⟨6, 0, none⟩ = some (.iface te pe)
  ran : ∃ te pe, w.cell? ⟨7, 0, none⟩ = some (.iface te pe)
  size : 12 ≤ w.heap.size
theorem Env.below {w w' : World} (h : Env w) (hb : Below w.heap.size w w') : Env w' := by
  have hs := h.size
  have hc : ∀ b n, b < 12 → w'.cell? ⟨b, n, none⟩ = w.cell? ⟨b, n, none⟩ := fun b n hn => hb.cell (by show b < w.heap.size; omega)
  refine ⟨var?_below hb (g := 8) (by kernel_rfl) (by omega) h.tab, ?_, ?_, ?_, Nat.le_trans hs hb.size⟩
  · obtain ⟨m, hm⟩ := h.most
    exact ⟨m, by rw [hc _ _ (by omega)]; exact hm⟩
  · obtain ⟨t, p, hm⟩ := h.syn
    exact ⟨t, p, by rw [hc _ _ (by omega)]; exact hm⟩
  · obtain ⟨t, p, hm⟩ := h.ran
    exact ⟨t, p, by rw [hc _ _ (by omega)]; exact hm⟩
theorem dec_small (u : Nat) (h : u < 10) : Lib.decDigits u = [UInt8.ofNat (48 + u)] := by rw [Lib.decDigits, dif_pos h]
theorem dec_more (u : Nat) (h : ¬ u < 10) : Lib.decDigits u = Lib.decDigits (u / 10) ++ [UInt8.ofNat (48 + u % 10)] := by rw [Lib.decDigits, dif_neg h]
theorem dec_lenK : ∀ (k n : Nat), n < 10 ^ (k + 1) → (Lib.decDigits n).length ≤ k + 1
  | 0, n, h => by rw [dec_small n (by simpa using h)]; simp
  | k + 1, n, h => by
    by_cases h1 : n < 10
    · rw [dec_small n h1]; simp
    · rw [dec_more n h1, List.length_append]
      have := dec_lenK k (n / 10) (by rw [Nat.pow_succ] at h; omega)
      simp; omega
theorem itoa_len {n : Int} (h0 : -9223372036854775808 ≤ n) (h1 : n ≤ 9223372036854775807) : (Lib.itoa n).length ≤ 20 := by
  unfold Lib.itoa
  split
  · have := dec_lenK 18 n.natAbs (by simp; omega)
    simp; omega
  · have := dec_lenK 18 n.toNat (by simp; omega)
    omega
theorem conv_at (W : World) (g : Nat) (k : Int) (h : Blk W g 5 #[.int .u8 k]) : (convert 33 9 (.slice (some ⟨g, 0, none⟩) 1 1)).run Tryz.prog W = .ok (.string ⟨#[UInt8.ofNat k.toNat]⟩) W := by
  have := run_convert_bytes_arg (P := Tryz.prog) W 33 5 Tryz.underlying33 Tryz.underlying5 g 0 1 1 [k] rfl
  exact this (fun i hi => by obtain rfl : i = 0 := by omega
                             exact h.cell 0) 9 Tryz.underlying9
theorem conv_new (W : World) (k : Int) : (convert 33 9 (.slice (some ⟨W.heap.size, 0, none⟩) 1 1)).run Tryz.prog (W.alloc (.cells #[.int .u8 k] 5)) = .ok (.string ⟨#[UInt8.ofNat k.toNat]⟩) (W.alloc (.cells #[.int .u8 k] 5)) :=
  conv_at _ _ _ (Blk.new W 5 _)
theorem cat_mk (a b : List UInt8) : (⟨a.toArray⟩ : ByteArray) ++ ⟨b.toArray⟩ = ⟨(a ++ b).toArray⟩ := by
  apply ByteArray.ext
  simp

theorem itoa_nat (m : Nat) : Lib.itoa (m : Int) = Lib.decDigits m := by unfold Lib.itoa; rw [if_neg (by omega)]; simp
theorem itoa_neg (m : Nat) (h : 1 ≤ m) : Lib.itoa (-(m : Int)) = 45 :: Lib.decDigits m := by unfold Lib.itoa; rw [if_pos (by omega)]; simp

set_option maxRecDepth 100000 in
set_option maxHeartbeats 800000 in
theorem digits_small (m : Nat) (w : World) (hm : m < 10) :
    Calls Tryz.prog 133 #[.int .i64 (m : Int)] w fun e w' => e = .returned (.string (mkB (Lib.itoa (m : Int)))) ∧ Below w.heap.size w w' := by
  have hcv := conv_new w (48 + (m : Int))
  go_enter Tryz.func133, Tryz.ntmps133
  go_wp2
  go_ret
  refine ⟨?_, (Below.refl _ w).alloc (Nat.le_refl _) _⟩
  rw [itoa_nat, dec_small m hm]
  simp [mkB]

set_option maxRecDepth 100000 in
set_option maxHeartbeats 800000 in
theorem digits_one (m : Nat) (w : World) (h1 : 1 ≤ m) (hm : m < 10) :
    Calls Tryz.prog 133 #[.int .i64 (-(m : Int))] w fun e w' => e = .returned (.string (mkB (Lib.itoa (-(m : Int))))) ∧ Below w.heap.size w w' := by
  have hcv := conv_new w (48 - -(m : Int))
  have hcv2 := conv_new w (48 + (m : Int))
  go_enter Tryz.func133, Tryz.ntmps133
  go_wp2
  go_ret
  refine ⟨?_, (Below.refl _ w).alloc (Nat.le_refl _) _⟩
  rw [itoa_neg m h1, dec_small m hm]
  have e : (48 + (m : Int)).toNat = 48 + m := by omega
  simp [mkB]
  exact ByteArray.ext (by simp)

theorem retDig (m : Nat) (hm : 10 ≤ m) : Ending.returned (.string (mkB (Lib.itoa ((m : Int) / 10)) ++ ⟨#[UInt8.ofNat (48 + m % 10)]⟩)) = .returned (.string (mkB (Lib.itoa (m : Int)))) := by
  have e1 : ((m : Int) / 10) = ((m / 10 : Nat) : Int) := by omega
  rw [e1, itoa_nat, itoa_nat, dec_more m (by omega)]
  exact congrArg (fun s => Ending.returned (.string s)) (cat_mk _ [_])

set_option maxRecDepth 100000 in
set_option maxHeartbeats 1600000 in
theorem digits_more (m : Nat) (w : World) (hm : 10 ≤ m) (hm2 : m ≤ 9223372036854775807)
    (ih : ∀ W, Calls Tryz.prog 133 #[.int .i64 ((m : Int) / 10)] W fun e w' => e = .returned (.string (mkB (Lib.itoa ((m : Int) / 10)))) ∧ Below W.heap.size W w') :
    Calls Tryz.prog 133 #[.int .i64 (m : Int)] w fun e w' => e = .returned (.string (mkB (Lib.itoa (m : Int)))) ∧ Below w.heap.size w w' := by
  have w0 : IntKind.i64.wrap ((m : Int) / 10) = (m : Int) / 10 := IntWalk.i64_in _ (by omega)
  have w1 : IntKind.i64.wrap (48 + (m : Int) % 10) = 48 + (m : Int) % 10 := IntWalk.i64_in _ (by omega)
  have w2 : IntKind.u8.wrap (48 + (m : Int) % 10) = 48 + (m : Int) % 10 := IntWalk.u8_in _ (by omega)
  have hz : (mkB (Lib.itoa ((m : Int) / 10))).size ≤ 20 := by rw [mkB, size_list]; exact itoa_len (by omega) (by omega)
  have t1 : (m : Int).tmod 10 = (m : Int) % 10 := IntWalk.rem_in _ _ (by omega)
  have hcv := fun W => conv_new W (48 + (m : Int) % 10)
  have hcv3 := conv_at ((w.alloc (.cells #[.int .u8 (48 + (m : Int) % 10)] 5)).drew) w.heap.size (48 + (m : Int) % 10) (Blk.new w 5 _).drew
  go_enter Tryz.func133, Tryz.ntmps133
  go_wp2_with fail
  go_region_with ((go_at_call 133; (with_reducible refine (ih _).mono ?_); rintro e w2 ⟨rfl, hb2⟩; first | (have hB2 : Below w.heap.size w w2 := ((Below.refl _ w).drew.trans hb2); skip) | (have hB2 : Below w.heap.size w w2 := (((Below.refl _ w).alloc (Nat.le_refl _) _).drew.trans (hb2.mono (by show _ ≤ (w.alloc _).heap.size; simp))); have hcq := conv_at w2 w.heap.size (48 + (m : Int) % 10) (Blk.below (show Blk ((w.alloc (.cells #[.int .u8 (48 + (m : Int) % 10)] 5)).drew) w.heap.size 5 #[.int .u8 (48 + (m : Int) % 10)] from (Blk.new w 5 _).drew) hb2 (by show _ < (w.alloc _).heap.size; simp)))))
  all_goals
    go_wp2_with fail
    go_ret
    refine ⟨Eq.trans (by simp [Act.put]) (retDig m hm), ?_⟩
    first | exact hB2 | exact hB2.alloc hB2.size _ | exact hB2.trans ((Below.refl _ _).alloc (hB2.size) _)

theorem retDigN (m q r : Nat) (hm : 10 ≤ m) (hq : m / 10 = q) (hr : m % 10 = r) : Ending.returned (.string (mkB (Lib.itoa (-(q : Int))) ++ ⟨#[UInt8.ofNat (48 + r)]⟩)) = .returned (.string (mkB (Lib.itoa (-(m : Int))))) := by
  rw [itoa_neg q (by omega), itoa_neg m (by omega), dec_more m (by omega), hq, hr]
  exact congrArg (fun s => Ending.returned (.string s)) (cat_mk _ [_])

set_option maxRecDepth 100000 in
set_option maxHeartbeats 1600000 in
theorem digits_neg (m : Nat) (w : World) (hm : 10 ≤ m) (hm2 : m ≤ 9223372036854775808)
    (ih : ∀ W, Calls Tryz.prog 133 #[.int .i64 (-((m / 10 : Nat) : Int))] W fun e w' => e = .returned (.string (mkB (Lib.itoa (-((m / 10 : Nat) : Int))))) ∧ Below W.heap.size W w') :
    Calls Tryz.prog 133 #[.int .i64 (-(m : Int))] w fun e w' => e = .returned (.string (mkB (Lib.itoa (-(m : Int))))) ∧ Below w.heap.size w w' := by
  obtain ⟨q, hq⟩ : ∃ q, Hid (m / 10 = q) := ⟨_, rfl⟩
  obtain ⟨r, hr⟩ : ∃ r, Hid (m % 10 = r) := ⟨_, rfl⟩
  rw [hq.out] at ih
  have hr10 : r < 10 := by rw [← hr.out]; exact Nat.mod_lt _ (by omega)
  have hq10 : q ≤ 922337203685477581 := by rw [← hq.out]; omega
  have d1 : (-(m : Int)).tdiv 10 = -(q : Int) := by rw [Int.neg_tdiv, Int.tdiv_eq_ediv_of_nonneg (by omega), ← hq.out]; omega
  have t1 : (-(m : Int)).tmod 10 = -(r : Int) := by rw [Int.neg_tmod, Int.tmod_eq_emod_of_nonneg (by omega), ← hr.out]; omega
  have w0 : IntKind.i64.wrap (-(q : Int)) = -(q : Int) := IntWalk.i64_in _ (by omega)
  have w1 : IntKind.i64.wrap (48 - -(r : Int)) = 48 + (r : Int) := by rw [IntWalk.i64_in _ (by omega)]; omega
  have w1' : IntKind.i64.wrap (48 + (r : Int)) = 48 + (r : Int) := IntWalk.i64_in _ (by omega)
  have w2 : IntKind.u8.wrap (48 + (r : Int)) = 48 + (r : Int) := IntWalk.u8_in _ (by omega)
  have hz : (mkB (Lib.itoa (-(q : Int)))).size ≤ 20 := by rw [mkB, size_list]; exact itoa_len (by omega) (by omega)
  have hcv := fun W => conv_new W (48 + (r : Int))
  have hcv3 := conv_at ((w.alloc (.cells #[.int .u8 (48 + (r : Int))] 5)).drew) w.heap.size (48 + (r : Int)) (Blk.new w 5 _).drew
  go_enter Tryz.func133, Tryz.ntmps133
  go_wp2_with fail
  go_region_with ((go_at_call 133; (with_reducible refine (ih _).mono ?_); rintro e w2 ⟨rfl, hb2⟩; first | (have hB2 : Below w.heap.size w w2 := ((Below.refl _ w).drew.trans hb2); skip) | (have hB2 : Below w.heap.size w w2 := (((Below.refl _ w).alloc (Nat.le_refl _) _).drew.trans (hb2.mono (by show _ ≤ (w.alloc _).heap.size; simp))); have hcq := conv_at w2 w.heap.size (48 + (r : Int)) (Blk.below (show Blk ((w.alloc (.cells #[.int .u8 (48 + (r : Int))] 5)).drew) w.heap.size 5 #[.int .u8 (48 + (r : Int))] from (Blk.new w 5 _).drew) hb2 (by show _ < (w.alloc _).heap.size; simp)))))
  all_goals
    go_wp2_with fail
    go_ret
    refine ⟨Eq.trans (by simp [Act.put]) (retDigN m q r hm hq.out hr.out), ?_⟩
    first | exact hB2 | exact hB2.alloc hB2.size _ | exact hB2.trans ((Below.refl _ _).alloc (hB2.size) _)

theorem digits_pos : ∀ (f m : Nat), m < 10 ^ (f + 1) → m ≤ 9223372036854775807 → ∀ w, Calls Tryz.prog 133 #[.int .i64 (m : Int)] w fun e w' => e = .returned (.string (mkB (Lib.itoa (m : Int)))) ∧ Below w.heap.size w w'
  | 0, m, h, _, w => digits_small m w (by simpa using h)
  | f + 1, m, h, h2, w => by
    by_cases hs : m < 10
    · exact digits_small m w hs
    · refine digits_more m w (by omega) h2 fun W => ?_
      have e : ((m : Int) / 10) = ((m / 10 : Nat) : Int) := by omega
      rw [e]
      exact digits_pos f (m / 10) (by rw [Nat.pow_succ] at h; omega) (by omega) W
theorem digits_negs : ∀ (f m : Nat), m < 10 ^ (f + 1) → m ≤ 9223372036854775808 → 1 ≤ m → ∀ w, Calls Tryz.prog 133 #[.int .i64 (-(m : Int))] w fun e w' => e = .returned (.string (mkB (Lib.itoa (-(m : Int))))) ∧ Below w.heap.size w w'
  | 0, m, h, _, h1, w => digits_one m w h1 (by simpa using h)
  | f + 1, m, h, h2, h1, w => by
    by_cases hs : m < 10
    · exact digits_one m w h1 hs
    · exact digits_neg m w (by omega) h2 fun W => digits_negs f (m / 10) (by rw [Nat.pow_succ] at h; omega) (by omega) (by omega) W
theorem digits_any (n : Int) (w : World) (h0 : -9223372036854775808 ≤ n) (h1 : n ≤ 9223372036854775807) :
    Calls Tryz.prog 133 #[.int .i64 n] w fun e w' => e = .returned (.string (mkB (Lib.itoa n))) ∧ Below w.heap.size w w' := by
  by_cases h : 0 ≤ n
  · obtain ⟨m, rfl⟩ := Int.eq_ofNat_of_zero_le h
    exact digits_pos 18 m (by simp; omega) (by omega) w
  · obtain ⟨m, hm⟩ : ∃ m : Nat, n = -(m : Int) := ⟨n.natAbs, by omega⟩
    subst hm
    exact digits_negs 18 m (by simp; omega) (by omega) (by omega) w
end Go.Proofs.YtdjmckjbibfecaaGreatDoor

/- Marks of boxes: mark.digits, mark.Sum, mark.Make at small numbers. -/
import Derived.Test.YtheiogafjinihaaDoorEv
import Derived.Test.YtheiogafjinihaaDoorPl
import Derived.IntWalk
namespace Go.Proofs.YtheiogafjinihaaDoor
open Go Go.RowKit Go.BigFrame Go.Maps

/-- A text in just so many signs, noughts ahead. -/
def padL (n : Nat) (s : List UInt8) : List UInt8 := List.replicate (n - s.length) 48 ++ s
theorem dec_small_len {v : Nat} (h : v < 100) : (Lib.decDigits v).length ≤ 2 ∧ 1 ≤ (Lib.decDigits v).length := by
  refine ⟨dec_len 1 v (by omega), ?_⟩
  cases e : Lib.decDigits v with
  | nil => exact absurd e (qdec_ne_nil v)
  | cons a l => simp
theorem itoa_small (v : Nat) (hv : v < 100) (w : World) : Calls Tryd.prog 41 #[.int .i64 (v : Int)] w fun e w' => e = .returned (.string ⟨(Lib.decDigits v).toArray⟩) ∧ w = w' :=
  (Tryd.strconv_Itoa_small v hv w).mono fun _ _ ⟨h1, h2⟩ => ⟨h1, h2.symm⟩
theorem pad_step (s : List UInt8) (j : Nat) : (48 : UInt8) :: (List.replicate j 48 ++ s) = List.replicate (j + 1) 48 ++ s := by
  rw [List.replicate_succ]; rfl
set_option maxHeartbeats 800000 in
theorem digits_any (v wd : Nat) (hv : v < 100) (h2 : 2 ≤ wd) (h10 : wd ≤ 10) (w : World) : Calls Tryd.prog 55 #[.int .i64 (v : Int), .int .i64 (wd : Int)] w fun e w' => e = .returned (.string ⟨(padL wd (Lib.decDigits v)).toArray⟩) ∧ w = w' := by
  have hit := Lib.hid (itoa_small v hv w)
  obtain ⟨hd2, hd1⟩ := dec_small_len hv
  obtain ⟨s, hs⟩ : ∃ s, Lib.decDigits v = s := ⟨_, rfl⟩
  have hit' := hit.out
  rw [hs] at hit' hd2 hd1
  rw [hs]
  have hit2 := Lib.hid hit'
  clear hit hit' hs hv
  go_enter Tryd.func55, Tryd.ntmps55
  go_wp2_with (go_at_call 41; refine hit2.out.mono ?_; rintro e w' ⟨rfl, rfl⟩)
  go_loopg [5] wd (fun gg t wr => ∃ (j : Nat) (u : List UInt8), j + s.length ≤ wd ∧ gg = wd - j ∧ t = .string ⟨u.toArray⟩ ∧ Hid (u = List.replicate j 48 ++ s) ∧ Hid (u.length = j + s.length) ∧ w = wr)
  case atStart => exact ⟨0, s, by omega, by omega, rfl, rfl, Lib.hid (by omega), rfl⟩
  case round =>
    obtain ⟨j, u, hj, hg, rfl, hu, hul, rfl⟩ := hrel
    have hg' := Lib.hid hg
    clear hg
    have hul2 := hul.out
    obtain ⟨n, hn⟩ : ∃ n, Hid (u.length = n) := ⟨_, Lib.hid rfl⟩
    by_cases hlt : j + s.length < wd
    · have b1 : decide ((u.length : Int) < (wd : Int)) = true := by simp; omega
      have b2 : decide (u.length < wd) = true := by simp; omega
      have z1 : ¬ 9223372036854775807 < 1 + u.length := by omega
      have z2 : ¬ 9223372036854775807 < u.length + 1 := by omega
      have e0 : Hid (({ data := #[48] } : ByteArray) ++ { data := u.toArray } = ⟨(48 :: u).toArray⟩) := ByteArray.ext (by simp)
      have hnu : Hid (48 :: u = List.replicate (j + 1) 48 ++ s) := by unfold Hid; rw [hu.out, pad_step]
      have hnl : Hid ((48 :: u).length = j + 1 + s.length) := by unfold Hid; simp; omega
      clear hul2
      go_wp2_with fail
      go_roundg (wd - (j + 1))
      case measure => have := hg'.out; omega
      case rel => exact ⟨j + 1, 48 :: u, by omega, rfl, congrArg Value.string e0.out, hnu.out, hnl.out, rfl⟩
    · have b1 : decide ((u.length : Int) < (wd : Int)) = false := by simp; omega
      have b2 : decide (u.length < wd) = false := by simp; omega
      have hfin : Hid (padL wd s = u) := by unfold Hid padL; rw [hu.out, show wd - s.length = j by omega]
      clear hul2
      go_wp2_with fail
      go_ret
      exact ⟨by rw [hfin.out]; rfl, rfl⟩

def valC (k : Nat) (c : UInt8) : Nat := if k < 4 then c.toNat - 97 + 1 else c.toNat - 48
def sumTo (s : List UInt8) : Nat → Nat
  | 0 => 0
  | k + 1 => sumTo s k + valC k (s.getD k 0) * (k + 1)
/-- Four letters, six digits. -/
def OwnerWf (s : ByteArray) : Prop := ∀ k (h : k < s.size), k < 10 → (k < 4 → 97 ≤ s[k].toNat ∧ s[k].toNat ≤ 122) ∧ (4 ≤ k → 48 ≤ s[k].toNat ∧ s[k].toNat ≤ 57)
theorem wrapI {n : Int} (h0 : -9223372036854775808 ≤ n) (h1 : n ≤ 9223372036854775807) : wrap64 n = n := by
  unfold wrap64; omega
theorem prod_in {x : Int} {k : Nat} (h0 : 0 ≤ x) (h1 : x ≤ 26) (hk : k < 10) : wrap64 (x * ((k : Int) + 1)) = x * ((k : Int) + 1) ∧ 0 ≤ x * ((k : Int) + 1) ∧ x * ((k : Int) + 1) ≤ 260 := by
  have h2 : 0 ≤ x * ((k : Int) + 1) := Int.mul_nonneg h0 (by omega)
  have h3 : x * ((k : Int) + 1) ≤ 26 * 10 := Int.mul_le_mul h1 (by omega) (by omega) (by omega)
  exact ⟨wrapI (by omega) (by omega), h2, by omega⟩
set_option maxRecDepth 100000 in
set_option maxHeartbeats 1600000 in
theorem sum_any (s : ByteArray) (w : World) (h10 : 10 ≤ s.size) (hs : s.size ≤ 100) (hwf : Hid (OwnerWf s)) :
    Calls Tryd.prog 56 #[.string s] w fun e w' => e = .returned (.int .i64 ((sumTo s.data.toList 10 % 97 : Nat) : Int)) ∧ w = w' := by
  have b0 : decide ((s.size : Int) < 10) = false := by simp; omega
  have b00 : decide (s.size < 10) = false := by simp; omega
  go_enter Tryd.func56, Tryd.ntmps56
  go_wp2_with fail
  go_loopg [3, 9] 10 (fun gg t i wr => ∃ (k a : Nat), k ≤ 10 ∧ gg = 10 - k ∧ i = .int .i64 (k : Int) ∧ t = .int .i64 (a : Int) ∧ Hid (a = sumTo s.data.toList k) ∧ a ≤ k * 260 ∧ w = wr)
  case atStart => exact ⟨0, 0, by omega, by omega, rfl, rfl, rfl, by omega, rfl⟩
  case round =>
    obtain ⟨k, a, hk, hg, rfl, rfl, ha, hab, rfl⟩ := hrel
    have hg' := Lib.hid hg
    clear hg
    by_cases hlt : k < 10
    · have hks : k < s.size := by omega
      obtain ⟨hw1, hw2⟩ := hwf.out k hks hlt
      obtain ⟨cc, hcc⟩ : ∃ cc : UInt8, s[k] = cc := ⟨_, rfl⟩
      rw [hcc] at hw1 hw2
      have hget : s.data.toList.getD k 0 = cc := by
        rw [← hcc]
        have : k < s.data.toList.length := by simpa using hks
        rw [List.getD_eq_getElem?_getD, List.getElem?_eq_getElem this]
        rfl
      have hsu : Hid (sumTo s.data.toList (k + 1) = a + valC k cc * (k + 1)) := by unfold Hid; rw [sumTo, hget, ← ha.out]
      have hcc' := Lib.hid hcc
      clear hget hcc
      have i1 : (k : Int) < (s.size : Int) := by omega
      have i2 : (0 : Int) ≤ (k : Int) := by omega
      have i3 : decide ((k : Int) < 10) = true := by simp; omega
      have hidx := hcc'.out
      by_cases h4 : k < 4
      · obtain ⟨hc1, hc2⟩ := hw1 h4
        have hlet : Hid (letterB cc = true) := by unfold Hid letterB; simp; omega
        have j1 : decide ((k : Int) < 4) = true := by simp; omega
        have j2 : (97 : Int) ≤ (cc.toNat : Int) := by omega
        have j3 : (cc.toNat : Int) ≤ 122 := by omega
        have hv : Hid (valC k cc = cc.toNat - 97 + 1) := by unfold Hid valC; rw [if_pos h4]
        clear hw1 hw2
        go_wp2_with (go_at_call 54; refine (isLetter_any cc _).mono ?_; rintro e w' ⟨rfl, rfl⟩; rw [hlet.out])
        have hp := prod_in (x := (cc.toNat : Int) - 97 + 1) (k := k) (by omega) (by omega) (by omega)
        have hval : Hid (wrap64 ((a : Int) + wrap64 (((cc.toNat : Int) - 97 + 1) * ((k : Int) + 1))) = ((a + valC k cc * (k + 1) : Nat) : Int)) := by
          unfold Hid
          rw [hp.1, hv.out, wrapI (by omega) (by omega)]
          push_cast
          congr 2
          omega
        have hbd : Hid (a + valC k cc * (k + 1) ≤ (k + 1) * 260) := by
          have := Nat.mul_le_mul (show valC k cc ≤ 26 by rw [hv.out]; omega) (show k + 1 ≤ 10 by omega)
          unfold Hid; omega
        go_roundg (10 - (k + 1))
        case measure => have := hg'.out; omega
        case rel => exact ⟨k + 1, a + valC k cc * (k + 1), by omega, rfl, by go_num, congrArg (Value.int .i64) hval.out, hsu.out.symm, hbd.out, rfl⟩
      · obtain ⟨hc1, hc2⟩ := hw2 (by omega)
        have hlet : Hid (numB cc = true) := by unfold Hid numB; simp; omega
        have j1 : decide ((k : Int) < 4) = false := by simp; omega
        have j11 : decide (4 ≤ (k : Int)) = true := by simp; omega
        have j2 : (48 : Int) ≤ (cc.toNat : Int) := by omega
        have j3 : (cc.toNat : Int) ≤ 57 := by omega
        have hv : Hid (valC k cc = cc.toNat - 48) := by unfold Hid valC; rw [if_neg h4]
        clear hw1 hw2
        go_wp2_with (go_at_call 57; refine (isNum_any cc _).mono ?_; rintro e w' ⟨rfl, rfl⟩; rw [hlet.out])
        have hp := prod_in (x := (cc.toNat : Int) - 48) (k := k) (by omega) (by omega) (by omega)
        have hval : Hid (wrap64 ((a : Int) + wrap64 (((cc.toNat : Int) - 48) * ((k : Int) + 1))) = ((a + valC k cc * (k + 1) : Nat) : Int)) := by
          unfold Hid
          rw [hp.1, hv.out, wrapI (by omega) (by omega)]
          push_cast
          congr 2
          omega
        have hbd : Hid (a + valC k cc * (k + 1) ≤ (k + 1) * 260) := by
          have := Nat.mul_le_mul (show valC k cc ≤ 26 by rw [hv.out]; omega) (show k + 1 ≤ 10 by omega)
          unfold Hid; omega
        go_roundg (10 - (k + 1))
        case measure => have := hg'.out; omega
        case rel => exact ⟨k + 1, a + valC k cc * (k + 1), by omega, rfl, by go_num, congrArg (Value.int .i64) hval.out, hsu.out.symm, hbd.out, rfl⟩
    · have hk10 : k = 10 := by omega
      subst hk10
      have i3 : decide (((10 : Nat) : Int) < 10) = false := by decide
      have t1 : (a : Int).tmod 97 = (a : Int) % 97 := IntWalk.rem_in _ _ (by omega)
      have hfin : Hid ((a : Int) % 97 = ((sumTo s.data.toList 10 % 97 : Nat) : Int)) := by unfold Hid; rw [← ha.out]; omega
      go_wp2_with fail
      go_ret
      exact ⟨retI (by first | exact hfin.out | (rw [← hfin.out]; rfl)), rfl⟩

def boxsB : ByteArray := ⟨#[98, 111, 120, 115]⟩
def ownB (n : Nat) : ByteArray := boxsB ++ ⟨(padL 6 (Lib.decDigits n)).toArray⟩
/-- The mark of a box, of a small number. -/
def mkB (n : Nat) : ByteArray := ownB n ++ ⟨(padL 2 (Lib.decDigits (sumTo (ownB n).data.toList 10 % 97))).toArray⟩
theorem pad_len {n : Nat} {s : List UInt8} (h : s.length ≤ n) : (padL n s).length = n := by unfold padL; simp; omega
theorem ownB_list (n : Nat) : (ownB n).data.toList = [98, 111, 120, 115] ++ padL 6 (Lib.decDigits n) := by simp [ownB, boxsB]
theorem ownB_size {n : Nat} (h : n < 100) : (ownB n).size = 10 := by
  have h1 : (ownB n).size = (ownB n).data.toList.length := by rw [Array.length_toList]; rfl
  rw [h1, ownB_list, List.length_append, pad_len (by have := (dec_small_len h).1; omega)]
  rfl
theorem pad_digit {n : Nat} {s : List UInt8} (h : ∀ c ∈ s, 48 ≤ c.toNat ∧ c.toNat ≤ 57) : ∀ c ∈ padL n s, 48 ≤ c.toNat ∧ c.toNat ≤ 57 := by
  intro c hc
  rcases List.mem_append.1 hc with h1 | h1
  · rw [(List.mem_replicate.1 h1).2]; decide
  · exact h c h1
theorem ownB_wf (n : Nat) : OwnerWf (ownB n) := by
  intro k hk _
  have hk' : k < (ownB n).data.toList.length := by rw [Array.length_toList]; exact hk
  have e : (ownB n)[k] = (ownB n).data.toList[k] := rfl
  rw [e]
  have hall : ∀ (l : List UInt8) (hl : l = [98, 111, 120, 115] ++ padL 6 (Lib.decDigits n)) (hkl : k < l.length), (k < 4 → 97 ≤ l[k].toNat ∧ l[k].toNat ≤ 122) ∧ (4 ≤ k → 48 ≤ l[k].toNat ∧ l[k].toNat ≤ 57) := by
    intro l hl hkl
    subst hl
    constructor
    · intro h4
      rw [List.getElem_append_left (by simpa using h4)]
      have hc : k = 0 ∨ k = 1 ∨ k = 2 ∨ k = 3 := by omega
      rcases hc with rfl | rfl | rfl | rfl
      · show 97 ≤ (98 : UInt8).toNat ∧ (98 : UInt8).toNat ≤ 122; decide
      · show 97 ≤ (111 : UInt8).toNat ∧ (111 : UInt8).toNat ≤ 122; decide
      · show 97 ≤ (120 : UInt8).toNat ∧ (120 : UInt8).toNat ≤ 122; decide
      · show 97 ≤ (115 : UInt8).toNat ∧ (115 : UInt8).toNat ≤ 122; decide
    · intro h4
      rw [List.getElem_append_right (by simpa using h4)]
      exact pad_digit (qdec_digits n) _ (List.getElem_mem _)
  exact hall _ (ownB_list n) hk'
set_option maxRecDepth 100000 in
set_option maxHeartbeats 1600000 in
theorem make_any (n : Nat) (hn : n < 100) (w : World) : Calls Tryd.prog 31 #[.string ⟨#[98, 111, 120, 115]⟩, .int .i64 (n : Int)] w fun e w' => e = .returned (.tuple #[.string (mkB n), .int .i64 0]) ∧ w = w' := by
  have hdg := Lib.hid (digits_any n 6 hn (by omega) (by omega))
  have hsm := Lib.hid (fun W => sum_any (ownB n) W (by rw [ownB_size hn]; omega) (by rw [ownB_size hn]; omega) (ownB_wf n))
  obtain ⟨v, hv⟩ : ∃ v, Hid (sumTo (ownB n).data.toList 10 % 97 = v) := ⟨_, Lib.hid rfl⟩
  have hv97 : v < 97 := by rw [← hv.out]; exact Nat.mod_lt _ (by omega)
  have hd2 := Lib.hid (digits_any v 2 (by omega) (by omega) (by omega))
  have hsm2 := hsm.out
  rw [hv.out] at hsm2
  have hsm' := Lib.hid hsm2
  have hmk : Hid (mkB n = ownB n ++ ⟨(padL 2 (Lib.decDigits v)).toArray⟩) := by unfold Hid mkB; rw [hv.out]
  have hob : Hid (ownB n = boxsB ++ ⟨(padL 6 (Lib.decDigits n)).toArray⟩) := Lib.hid rfl
  have hp6 : (padL 6 (Lib.decDigits n)).length = 6 := pad_len (by have := (dec_small_len hn).1; omega)
  have hp2 : (padL 2 (Lib.decDigits v)).length = 2 := pad_len (by have := (dec_small_len (show v < 100 by omega)).1; omega)
  obtain ⟨P6, hP6⟩ : ∃ P6, padL 6 (Lib.decDigits n) = P6 := ⟨_, rfl⟩
  obtain ⟨P2, hP2⟩ : ∃ P2, padL 2 (Lib.decDigits v) = P2 := ⟨_, rfl⟩
  rw [hP6] at hdg hob hp6
  rw [hP2] at hd2 hmk hp2
  have hP6l := Lib.hid hp6
  have hP2l := Lib.hid hp2
  have hlet : Hid (∀ k (h : k < boxsB.size), letterB boxsB[k] = true) := by
    intro k hk
    have hc : k = 0 ∨ k = 1 ∨ k = 2 ∨ k = 3 := by
      have : boxsB.size = 4 := rfl
      omega
    rcases hc with rfl | rfl | rfl | rfl
    · show letterB 98 = true; decide
    · show letterB 111 = true; decide
    · show letterB 120 = true; decide
    · show letterB 115 = true; decide
  have hbs : boxsB.size = 4 := rfl
  have hos : Hid ((ownB n).size = 10) := ownB_size hn
  show Calls Tryd.prog 31 #[.string boxsB, .int .i64 (n : Int)] w _
  obtain ⟨ob, hobe⟩ : ∃ ob, ownB n = ob := ⟨_, rfl⟩
  rw [hobe] at hsm' hmk hob hos
  obtain ⟨bx, hbx⟩ : ∃ bx, boxsB = bx := ⟨_, rfl⟩
  rw [hbx] at hob hlet hbs ⊢
  clear hsm hsm2 hv hP6 hP2 hp6 hp2 hobe hbx
  have hbs' := Lib.hid hbs
  have b0 : ((bx.size : Int) != 4) = false := by rw [hbs]; decide
  have b1 : decide (999999 < (n : Int)) = false := by simp; omega
  have b2 : decide (999999 < n) = false := by simp; omega
  have b3 : decide ((n : Int) < 0) = false := by simp
  clear hbs
  go_enter Tryd.func31, Tryd.ntmps31
  go_wp2_with fail
  go_loopg [11] 4 (fun gg i wr => ∃ k : Nat, k ≤ 4 ∧ gg = 4 - k ∧ i = .int .i64 (k : Int) ∧ w = wr)
  case atStart => exact ⟨0, by omega, by omega, rfl, rfl⟩
  case round =>
    obtain ⟨k, hk, hg, rfl, rfl⟩ := hrel
    have hg' := Lib.hid hg
    clear hg
    by_cases hlt : k < 4
    · have hks : k < bx.size := by have := hbs'.out; omega
      have hl := hlet.out k hks
      obtain ⟨cc, hcc⟩ : ∃ cc : UInt8, bx[k] = cc := ⟨_, rfl⟩
      rw [hcc] at hl
      have hl' := Lib.hid hl
      clear hl
      have i1 : (k : Int) < (bx.size : Int) := by omega
      have i2 : (0 : Int) ≤ (k : Int) := by omega
      have i3 : decide ((k : Int) < 4) = true := by simp; omega
      have i4 : decide (k < 4) = true := by simp; omega
      go_wp2_with (go_at_call 54; refine (isLetter_any cc _).mono ?_; rintro e w' ⟨rfl, rfl⟩; rw [hl'.out])
      go_roundg (4 - (k + 1))
      case measure => have := hg'.out; omega
      case rel => exact ⟨k + 1, by omega, rfl, by go_num, rfl⟩
    · have i3 : decide ((k : Int) < 4) = false := by simp; omega
      have i4 : decide (k < 4) = false := by simp; omega
      have s1 := hbs'.out
      have s2 := hP6l.out
      have z1 : ¬ 9223372036854775807 < bx.size + P6.length := by omega
      go_wp2_with fail
      refine (hdg.out _).mono ?_
      rintro e w' ⟨rfl, rfl⟩
      go_upto_region 12 with fail
      rw [← hob.out]
      have s3 := hos.out
      have s4 := hP2l.out
      have z2 : ¬ 9223372036854775807 < ob.size + P2.length := by omega
      clear s1 s2 z1
      go_wp2_with (first | (go_at_call 56; refine (hsm'.out _).mono ?_; rintro e w' ⟨rfl, rfl⟩) | (go_at_call 55; refine (hd2.out _).mono ?_; rintro e w' ⟨rfl, rfl⟩))
      go_ret2
      exact ⟨by rw [hmk.out]; rfl, rfl⟩
end Go.Proofs.YtheiogafjinihaaDoor

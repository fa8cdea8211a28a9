/- The document's Print, walked. -/
import Derived.Test.YtheiogafjinihaaDoorRn
import Derived.Test.YtheiogafjinihaaDoorPt
import Derived.Test.YtheiogafjinihaaDoorLa5
import Derived.Test.YtheiogafjinihaaDoorSk
namespace Go.Proofs.YtheiogafjinihaaDoor
open Go Go.RowKit Go.BigFrame Go.Maps

/-- The text of the first steps. -/
def textD (l : List Stp) : List UInt8 := l.flatMap fun x => lineD x ++ [10]
theorem textD_snoc {l : List Stp} {k : Nat} {x : Stp} (hx : l[k]? = some x) : textD (l.take (k + 1)) = textD (l.take k) ++ (lineD x ++ [10]) := by
  obtain ⟨hk, he⟩ := List.getElem?_eq_some_iff.1 hx
  unfold textD
  rw [List.take_succ_eq_append_getElem hk, he, List.flatMap_append]
  simp
theorem printM_D (l : List Stp) : printM l = if l.all rightB = true then (textD l, 0) else ([], 1) := by
  unfold printM
  rw [linesM_eq]
  split
  · rename_i h
    split at h
    · rename_i g; rw [if_pos g]; simp only [Option.some.injEq] at h; rw [← h]; rfl
    · cases h
  · rename_i h
    split at h
    · cases h
    · rename_i g; rw [if_neg g]
theorem lineD_len {x : Stp} (hr : rightB x = true) : (lineD x).length ≤ 500 := by
  have h := lineM_eq x
  rw [if_pos hr] at h
  have := lines_len (l := [x]) (t := lineD x ++ [10]) (by rw [linesM, h]; rfl)
  simp at this
  omega
set_option maxRecDepth 100000 in
set_option maxHeartbeats 3200000 in
theorem rprint_any (A : Option Addr) (n c : Nat) (l : List Stp) (w : World) (hn : n ≤ 61) (hl : Hid (l.length = n)) (hA : Hid (StepsAt w A l)) (hf : Hid (∀ x ∈ l, Fine x)) (hs : Hid (∀ x ∈ l, shortS x = true)) :
    Calls Tryd.prog 12 #[.slice A n c] w (PrintR (printM l) w) := by
  go_enter Tryd.func12, Tryd.ntmps12
  go_wp2_with fail
  go_loopw [4, 5] (fun s i wr => ∃ (k : Nat) (tb : ByteArray), k ≤ n ∧ s = .string tb ∧ i = .int .i64 k ∧ Hid (tb = ⟨(textD (l.take k)).toArray⟩) ∧ Hid ((l.take k).all rightB = true) ∧ tb.size ≤ k * 501 ∧ Below w.heap.size w wr) (fun _ i _ => n - (intOf i).toNat)
  case atStart => exact ⟨0, ⟨#[]⟩, Nat.zero_le _, rfl, rfl, rfl, rfl, by decide, Below.refl _ w⟩
  case round =>
    obtain ⟨k, tb, hk, rfl, rfl, htb, hal, hts, hB⟩ := hrel
    have hB' := Lib.hid hB
    clear hB
    by_cases hlt : k < n
    · obtain ⟨x, hx⟩ : ∃ x, l[k]? = some x := ⟨_, List.getElem?_eq_getElem (by have := hl.out; omega)⟩
      have hsn := Lib.hid (textD_snoc hx)
      have hall : Hid ((l.take (k + 1)).all rightB = ((l.take k).all rightB && rightB x)) := by
        obtain ⟨hk, he⟩ := List.getElem?_eq_some_iff.1 hx
        unfold Hid
        rw [List.take_succ_eq_append_getElem hk, he]
        simp
      have hmem := List.mem_of_getElem? hx
      have hfx := Lib.hid (hf.out x hmem)
      have hsx := hs.out x hmem
      have hri : Hid (∀ W, Calls Tryd.prog 25 #[.agg x.cells] W fun e w' => e = .returned (.bool (rightB x)) ∧ Below W.heap.size W w') := fun W => right_any x W (by have := hfx.out.party; unfold maxLen; omega) (by have := hfx.out.deal; unfold maxLen; omega)
      have hmemH := Lib.hid hmem
      have hA2 := Lib.hid (hA.out.below hB'.out)
      obtain ⟨b, off, rfl, h0, h1, h2, h3, h4, h5⟩ := hA2.out k x hx
      have hbl : b < wr.heap.size := World.block_lt_of_cell? wr _ h0
      clear hx hmem
      have i1 : (k : Int) < (n : Int) := by omega
      have i2 : (0 : Int) ≤ (k : Int) := by omega
      cases hr : rightB x with
      | false =>
        have hno : Hid (printM l = ([], 1)) := by
          unfold Hid
          rw [printM_D, if_neg]
          intro h
          have := List.all_eq_true.1 h x hmemH.out
          rw [hr] at this
          cases this
        rw [hr] at hri
        obtain ⟨xk, xn, xp, xa, xc, xd⟩ := x
        simp only [Stp.cells] at hri h0 h1 h2 h3 h4 h5
        clear hsn hall hfx hsx hmemH hr
        go_wp2_with fail
        refine (hri.out _).mono ?_
        rintro e w1 ⟨rfl, hb1⟩
        have hB1 := Lib.hid (hB'.out.trans (hb1.mono hB'.out.size))
        clear hb1 h0 h1 h2 h3 h4 h5
        go_wp2_with fail
        go_ret2
        exact ⟨by rw [hno.out]; rfl, hB1.out⟩
      | true =>
        have hli : Hid (∀ W, Calls Tryd.prog 26 #[.agg x.cells] W fun e w' => e = .returned (.string ⟨(lineD x).toArray⟩) ∧ Below W.heap.size W w') := fun W => line_any x W hfx hsx hr
        have hlen := lineD_len hr
        have hall2 : Hid ((l.take (k + 1)).all rightB = true) := by unfold Hid; rw [hall.out, hal.out, hr]; rfl
        obtain ⟨lb, hlb⟩ : ∃ z : ByteArray, (⟨(lineD x).toArray⟩ : ByteArray) = z := ⟨_, rfl⟩
        have zl : lb.size ≤ 500 := by rw [← hlb]; simpa [ByteArray.size] using hlen
        have zn : (⟨#[10]⟩ : ByteArray).size = 1 := rfl
        rw [hlb] at hli
        obtain ⟨s24, hq24, hz24, hs24⟩ := cat_run tb lb (by omega)
        obtain ⟨s25, hq25, hz25, hs25⟩ := cat_run s24 ⟨#[10]⟩ (by omega)
        have hnew : Hid (s25 = ⟨(textD (l.take (k + 1))).toArray⟩) := by
          unfold Hid
          rw [hsn.out, ← hq25.out, ← hq24.out, htb.out, ← hlb, cat_bytes2]
          refine (bytes_eq ?_)
          simp
        have hns : s25.size ≤ (k + 1) * 501 := by omega
        have hnsH := Lib.hid hns
        rw [hr] at hri
        obtain ⟨xk, xn, xp, xa, xc, xd⟩ := x
        simp only [Stp.cells] at hri hli h0 h1 h2 h3 h4 h5
        clear hsn hall hfx hsx hmemH hr hlb zl zn hz24 hz25 hq24 hq25 hns hlen
        have hcs : Hid (wr.cell? ⟨b, off + k * 6, none⟩ = some (.int .i64 xk) ∧ wr.cell? ⟨b, off + k * 6 + 1, none⟩ = some (.int .i64 xn) ∧ wr.cell? ⟨b, off + k * 6 + 2, none⟩ = some (.string ⟨xp.toArray⟩) ∧ wr.cell? ⟨b, off + k * 6 + 3, none⟩ = some (.int .i64 xa) ∧ wr.cell? ⟨b, off + k * 6 + 4, none⟩ = some (.int .i64 xc) ∧ wr.cell? ⟨b, off + k * 6 + 5, none⟩ = some (.string ⟨xd.toArray⟩)) := ⟨h0, h1, h2, h3, h4, h5⟩
        go_wp2_with fail
        refine (hri.out _).mono ?_
        rintro e w1 ⟨rfl, hb1⟩
        have hB1 := Lib.hid (hB'.out.trans (hb1.mono hB'.out.size))
        have hbc : ∀ j, w1.cell? ⟨b, j, none⟩ = wr.cell? ⟨b, j, none⟩ := fun j => hb1.cell hbl
        clear hb1 h0 h1 h2 h3 h4 h5
        obtain ⟨h0, h1, h2, h3, h4, h5⟩ := hcs.out
        rw [← hbc] at h0 h1 h2 h3 h4 h5
        clear hbc
        go_wp2_with fail
        refine (hli.out _).mono ?_
        rintro e w2 ⟨rfl, hb2⟩
        have hB2 := Lib.hid (hB1.out.trans (hb2.mono hB1.out.size))
        clear hb2 h0 h1 h2 h3 h4 h5
        go_wp2_with fail
        go_roundw
        case rel => exact ⟨k + 1, s25, by omega, rfl, by go_num, hnew, hall2, hnsH.out, hB2.out⟩
        case measure => simp [intOf]; omega
    · have hno : Hid (printM l = (textD l, 0)) := by
        unfold Hid
        have := hal.out
        rw [List.take_of_length_le (by have := hl.out; omega)] at this
        rw [printM_D, if_pos this]
      have htb2 : Hid (tb = ⟨(textD l).toArray⟩) := by
        unfold Hid
        have := htb.out
        rw [List.take_of_length_le (by have := hl.out; omega)] at this
        exact this
      have b1 : decide (4096 < (n : Int)) = false := by simp; omega
      have b2 : decide (4096 < n) = false := by simp; omega
      clear htb hal
      go_wp2_with fail
      go_ret2
      exact ⟨by rw [hno.out, htb2.out]; rfl, hB'.out⟩
end Go.Proofs.YtheiogafjinihaaDoor

namespace Go.Proofs.YtheiogafjinihaaDoor
open Go Go.RowKit Go.BigFrame Go.Maps

set_option maxRecDepth 100000 in
set_option maxHeartbeats 3200000 in
theorem prints_any (A : Option Addr) (n c : Nat) (l : List Stp) (w : World) (hn : n ≤ maxLen) (hl : Hid (l.length = n)) (hA : Hid (StepsAt w A l)) (hf : Hid (∀ x ∈ l, Fine x)) (he : Hid (Env w)) :
    Calls Tryd.prog 4 #[.slice A n c] w fun e w' => e = .returned (.bool true) ∧ Below w.heap.size w w' := by
  have hn0 := hn
  unfold maxLen at hn0
  have haw := Lib.hid (awake_any w he)
  go_enter Tryd.func4, Tryd.ntmps4
  go_wp2_with fail
  refine haw.out.mono ?_
  rintro e w1 ⟨rfl, hb1⟩
  have hB1 := Lib.hid hb1
  have hfe := Lib.hid (few_any A n c l w1 hn hl (Lib.hid (hA.out.below hb1)) hf)
  clear haw hb1
  go_wp2_with fail
  refine hfe.out.mono ?_
  rintro e w2 ⟨rfl, hb2⟩
  have hB2 := Lib.hid (hB1.out.trans (hb2.mono hB1.out.size))
  clear hfe hb2 hB1
  cases hfl : fewS l with
  | false =>
    go_wp2_with fail
    go_ret
    exact ⟨rfl, hB2.out⟩
  | true =>
    have hn61 : n ≤ 61 := by have h1 := fewS_len hfl; have := hl.out; omega
    have hsh := Lib.hid (fewS_short hfl)
    have hpr := Lib.hid (print_any A n c l w2 (by omega) hl (Lib.hid (hA.out.below hB2.out)) hf hsh (Lib.hid (he.out.below hB2.out)))
    obtain ⟨o, ho⟩ : ∃ o, printM l = o := ⟨_, rfl⟩
    obtain ⟨t, z⟩ := o
    rw [ho] at hpr
    unfold PrintR at hpr
    obtain ⟨tb, htb⟩ : ∃ b : ByteArray, (⟨t.toArray⟩ : ByteArray) = b := ⟨_, rfl⟩
    simp only [htb] at hpr
    go_wp2_with fail
    refine hpr.out.mono ?_
    rintro e w3 ⟨rfl, hb3⟩
    have hB3 := Lib.hid (hB2.out.trans (hb3.mono hB2.out.size))
    clear hpr hb3 hB2
    have hrp := Lib.hid (rprint_any A n c l w3 hn61 hl (Lib.hid (hA.out.below hB3.out)) hf hsh)
    rw [ho] at hrp
    unfold PrintR at hrp
    simp only [htb] at hrp
    go_wp2_with fail
    refine hrp.out.mono ?_
    rintro e w4 ⟨rfl, hb4⟩
    have hB4 := Lib.hid (hB3.out.trans (hb4.mono hB3.out.size))
    clear hrp hb4 hB3
    go_wp2_with fail
    go_ret
    exact ⟨by simp, hB4.out⟩
end Go.Proofs.YtheiogafjinihaaDoor

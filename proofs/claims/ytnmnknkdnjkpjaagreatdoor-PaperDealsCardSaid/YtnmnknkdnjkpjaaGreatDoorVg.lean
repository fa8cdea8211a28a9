/- The checks of an order and one consignment. -/
import Derived.Test.YtnmnknkdnjkpjaaGreatDoorVf
import Derived.Laws.EntriesVeiled
namespace Go.Proofs.YtnmnknkdnjkpjaaGreatDoor
open Go Go.RowKit Go.BigFrame Go.Maps

set_option maxRecDepth 100000 in
set_option maxHeartbeats 1600000 in
theorem first_any (x1 x2 : Bool) (g l p r : Nat) (w : World) (hr : Hid (Blk w r 137 #[.int .i64 1, .func (.func 78) #[] #[pO g, pO l], .int .i64 4, .func (.func 83) #[] #[pO l, pO p]]))
    (h1 : Hid (∀ w1, Below w.heap.size w w1 → Calls Tryz.prog 78 #[pO g, pO l] w1 fun e w' => e = .returned (.bool x1) ∧ Below w1.heap.size w1 w'))
    (h2 : Hid (∀ w1, Below w.heap.size w w1 → Calls Tryz.prog 83 #[pO l, pO p] w1 fun e w' => e = .returned (.bool x2) ∧ Below w1.heap.size w1 w')) :
    Calls Tryz.prog 77 #[.slice (some ⟨r, 0, none⟩) 2 2] w fun e w' => e = .returned (.int .i64 (if x1 = true then 1 else if x2 = true then 4 else 0)) ∧ Below w.heap.size w w' := by
  go_enter Tryz.func77, Tryz.ntmps77
  go_wp2_with fail
  go_loopw [7] (fun i wr => ∃ k : Nat, k ≤ 2 ∧ i = .int .i64 (k : Int) ∧ Hid (1 ≤ k → x1 = false) ∧ Hid (2 ≤ k → x2 = false) ∧ Hid (Below w.heap.size w wr)) (fun i _ => 2 - (intOf i).toNat)
  case atStart => exact ⟨0, Nat.zero_le _, rfl, (fun h => by omega), (fun h => by omega), Below.refl _ _⟩
  case round =>
    obtain ⟨k, hk, rfl, e1, e2, hB⟩ := hrel
    have hk0 := Lib.hid (hr.out.below hB.out hr.out.lt)
    have c0 : wr.cell? ⟨r, 0, none⟩ = some (.int .i64 1) := hk0.out.cell 0
    have c1 : wr.cell? ⟨r, 1, none⟩ = some (.func (.func 78) #[] #[pO g, pO l]) := hk0.out.cell 1
    have c2 : wr.cell? ⟨r, 2, none⟩ = some (.int .i64 4) := hk0.out.cell 2
    have c3 : wr.cell? ⟨r, 3, none⟩ = some (.func (.func 83) #[] #[pO l, pO p]) := hk0.out.cell 3
    have hlt0 : r < wr.heap.size := hk0.out.lt
    obtain rfl | rfl | rfl : k = 0 ∨ k = 1 ∨ k = 2 := by omega
    · obtain ⟨wa, hwa⟩ : ∃ W, Hid (wr.alloc (.cells #[.int .i64 1, .func (.func 78) #[] #[pO g, pO l]] 137) = W) := ⟨_, rfl⟩
      have hka : Hid (Blk wa wr.heap.size 137 #[.int .i64 1, .func (.func 78) #[] #[pO g, pO l]]) := by rw [← hwa.out]; exact Lib.hid (Blk.new _ _ _)
      have hBa : Hid (Below w.heap.size w wa) := by rw [← hwa.out]; exact hB.out.alloc hB.out.size _
      have a1 : wa.cell? ⟨wr.heap.size, 1, none⟩ = some (.func (.func 78) #[] #[pO g, pO l]) := hka.out.cell 1
      have al : wr.heap.size < wa.heap.size := hka.out.lt
      have hcall := Lib.hid (h1.out wa hBa.out)
      go_wp2_with (rw [hwa.out])
      refine hcall.out.mono ?_
      rintro e w1 ⟨rfl, hb1⟩
      have hB1 : Hid (Below w.heap.size w w1) := hBa.out.trans (hb1.mono hBa.out.size)
      have b0 : w1.cell? ⟨wr.heap.size, 0, none⟩ = some (.int .i64 1) := (hka.out.below hb1 hka.out.lt).cell 0
      have bl : wr.heap.size < w1.heap.size := (hka.out.below hb1 hka.out.lt).lt
      clear hb1
      cases x1 with
      | true =>
        go_wp2_with fail
        go_ret
        exact ⟨rfl, hB1.out⟩
      | false =>
        go_wp2_with fail
        go_roundw
        case rel => exact ⟨1, by omega, by go_num, (fun _ => by first | trivial | rfl), (fun h => by omega), hB1⟩
        case measure => simp [intOf]
    · obtain rfl := e1.out (by omega)
      obtain ⟨wa, hwa⟩ : ∃ W, Hid (wr.alloc (.cells #[.int .i64 4, .func (.func 83) #[] #[pO l, pO p]] 137) = W) := ⟨_, rfl⟩
      have hka : Hid (Blk wa wr.heap.size 137 #[.int .i64 4, .func (.func 83) #[] #[pO l, pO p]]) := by rw [← hwa.out]; exact Lib.hid (Blk.new _ _ _)
      have hBa : Hid (Below w.heap.size w wa) := by rw [← hwa.out]; exact hB.out.alloc hB.out.size _
      have a1 : wa.cell? ⟨wr.heap.size, 1, none⟩ = some (.func (.func 83) #[] #[pO l, pO p]) := hka.out.cell 1
      have al : wr.heap.size < wa.heap.size := hka.out.lt
      have hcall := Lib.hid (h2.out wa hBa.out)
      go_wp2_with (rw [hwa.out])
      refine hcall.out.mono ?_
      rintro e w1 ⟨rfl, hb1⟩
      have hB1 : Hid (Below w.heap.size w w1) := hBa.out.trans (hb1.mono hBa.out.size)
      have b0 : w1.cell? ⟨wr.heap.size, 0, none⟩ = some (.int .i64 4) := (hka.out.below hb1 hka.out.lt).cell 0
      have bl : wr.heap.size < w1.heap.size := (hka.out.below hb1 hka.out.lt).lt
      clear hb1
      cases x2 with
      | true =>
        go_wp2_with fail
        go_ret
        exact ⟨rfl, hB1.out⟩
      | false =>
        go_wp2_with fail
        go_roundw
        case rel => exact ⟨2, by omega, by go_num, (fun _ => by first | trivial | rfl), (fun _ => by first | trivial | rfl), hB1⟩
        case measure => simp [intOf]
    · obtain rfl := e1.out (by omega)
      obtain rfl := e2.out (by omega)
      go_wp2_with fail
      go_ret
      exact ⟨rfl, hB.out⟩

def chkV (o : Od) (c : Cn) : Int := if (!mayO o || !ofB o c) = true then 1 else if lackC o c = true then 4 else 0

set_option maxRecDepth 100000 in
set_option maxHeartbeats 1600000 in
theorem checks_any (o : Od) (c : Cn) (b : Nat) (w : World) (ho : Hid (o.ok w)) (hc : Hid (c.ok w)) (hb : Hid (Blk w b 59 c.cells)) :
    Calls Tryz.prog 65 #[.agg o.cells, .slice (some ⟨b, 0, none⟩) 1 1] w fun e w' => e = .returned (.int .i64 (chkV o c)) ∧ Below w.heap.size w w' := by
  obtain ⟨r, hr⟩ : ∃ r, Hid (chkV o c = r) := ⟨_, rfl⟩
  obtain ⟨D, hD⟩ : ∃ X, Hid (o.cells = X) := ⟨_, rfl⟩
  have hDs : Hid (D.size = 8) := by rw [← hD.out]; exact Lib.hid rfl
  obtain ⟨w0, hw0⟩ : ∃ W, Hid (w.alloc (.cells D 56) = W) := ⟨_, rfl⟩
  have hb0 : Hid (Below w.heap.size w w0) := by rw [← hw0.out]; exact (Below.refl _ w).alloc (Nat.le_refl _) _
  have hk0 : Hid (Blk w0 w.heap.size 56 D) := by rw [← hw0.out]; exact Lib.hid (Blk.new _ _ _)
  obtain ⟨w1, hw1⟩ : ∃ W, Hid (w0.alloc (.cells #[.slice (some ⟨b, 0, none⟩) 1 1] 119) = W) := ⟨_, rfl⟩
  have hb1 : Hid (Below w.heap.size w w1) := by rw [← hw1.out]; exact hb0.out.alloc hb0.out.size _
  have hb01 : Hid (Below w0.heap.size w0 w1) := by rw [← hw1.out]; exact (Below.refl _ w0).alloc (Nat.le_refl _) _
  have hl1 : Hid (Blk w1 w0.heap.size 119 #[.slice (some ⟨b, 0, none⟩) 1 1]) := by rw [← hw1.out]; exact Lib.hid (Blk.new _ _ _)
  have hk1 := Lib.hid (hk0.out.below hb01.out hk0.out.lt)
  have hcall := Lib.hid (byGood_any o w1 (Lib.hid (ho.out.below hb1.out)))
  rw [hD.out] at hcall
  rw [hD.out, hr.out]
  go_enter Tryz.func65, Tryz.ntmps65
  go_wp2_with (first | (refine wpList_get_blk rfl 56 _ rfl w.heap.size D 56 _ rfl hk1.out Tryz.underlying56 rfl (by rw [hDs.out]; kernel_rfl) ?_) | rw [hw0.out] | rw [hw1.out])
  refine hcall.out.mono ?_
  rintro e w2 ⟨m, n, rfl, hm, hM, hb2⟩
  have hB2 : Hid (Below w.heap.size w w2) := hb1.out.trans (hb2.mono hb1.out.size)
  obtain ⟨w3, hw3⟩ : ∃ W, Hid (w2.alloc (.cells #[.map (some m)] 120) = W) := ⟨_, rfl⟩
  have hb3 : Hid (Below w2.heap.size w2 w3) := by rw [← hw3.out]; exact (Below.refl _ w2).alloc (Nat.le_refl _) _
  have hp3 : Hid (Blk w3 w2.heap.size 120 #[.map (some m)]) := by rw [← hw3.out]; exact Lib.hid (Blk.new _ _ _)
  obtain ⟨w4, hw4⟩ : ∃ W, Hid (w3.alloc (.cells #[.int .i64 1, .func (.func 78) #[] #[pO w.heap.size, pO w0.heap.size], .int .i64 4, .func (.func 83) #[] #[pO w0.heap.size, pO w2.heap.size]] 137) = W) := ⟨_, rfl⟩
  have hb4 : Hid (Below w3.heap.size w3 w4) := by rw [← hw4.out]; exact (Below.refl _ w3).alloc (Nat.le_refl _) _
  have hr4 : Hid (Blk w4 w3.heap.size 137 #[.int .i64 1, .func (.func 78) #[] #[pO w.heap.size, pO w0.heap.size], .int .i64 4, .func (.func 83) #[] #[pO w0.heap.size, pO w2.heap.size]]) := by rw [← hw4.out]; exact Lib.hid (Blk.new _ _ _)
  have hB4 : Hid (Below w.heap.size w w4) := (hB2.out.trans (hb3.out.mono hB2.out.size)).trans (hb4.out.mono (hB2.out.trans (hb3.out.mono hB2.out.size)).size)
  have hM4 := Lib.hid ((hM.below hb3.out).below hb4.out)
  have hp4 := Lib.hid (hp3.out.below hb4.out hp3.out.lt)
  have hl4 := Lib.hid (((hl1.out.below hb2 hl1.out.lt).below hb3.out (hl1.out.below hb2 hl1.out.lt).lt).below hb4.out ((hl1.out.below hb2 hl1.out.lt).below hb3.out (hl1.out.below hb2 hl1.out.lt).lt).lt)
  have hk4 := Lib.hid (((hk1.out.below hb2 hk1.out.lt).below hb3.out (hk1.out.below hb2 hk1.out.lt).lt).below hb4.out ((hk1.out.below hb2 hk1.out.lt).below hb3.out (hk1.out.below hb2 hk1.out.lt).lt).lt)
  have hc4 := Lib.hid (hb.out.below hB4.out hb.out.lt)
  have ho4 := Lib.hid (ho.out.below hB4.out)
  have hq4 := Lib.hid (hc.out.below hB4.out)
  rw [← hD.out] at hk4
  have hend := Lib.hid (first_any (!mayO o || !ofB o c) (lackC o c) w.heap.size w0.heap.size w2.heap.size w3.heap.size w4 hr4
    (Lib.hid fun w5 h5 => checks1_any o c w.heap.size b w0.heap.size w5 (Lib.hid (ho4.out.below h5)) (Lib.hid (hq4.out.below h5)) (Lib.hid (hk4.out.below h5 hk4.out.lt)) (Lib.hid (hc4.out.below h5 hc4.out.lt)) (Lib.hid (hl4.out.below h5 hl4.out.lt)))
    (Lib.hid fun w5 h5 => checks2_any o c m n w2.heap.size b w0.heap.size w5 (Lib.hid (hq4.out.below h5)) (Lib.hid (hM4.out.below h5)) (Lib.hid (hp4.out.below h5 hp4.out.lt)) (Lib.hid (hc4.out.below h5 hc4.out.lt)) (Lib.hid (hl4.out.below h5 hl4.out.lt))))
  have hre : Hid ((if (!mayO o || !ofB o c) = true then (1 : Int) else if lackC o c = true then 4 else 0) = r) := hr
  rw [hre.out] at hend
  clear hM hm hb2
  go_wp2_with (first | rw [hw3.out] | rw [hw4.out])
  refine hend.out.mono ?_
  rintro e w6 ⟨rfl, hb6⟩
  go_wp2_with fail
  go_ret
  exact ⟨rfl, hB4.out.trans (hb6.mono hB4.out.size)⟩
end Go.Proofs.YtnmnknkdnjkpjaaGreatDoor

/- The document's Same: of like sets it is true. -/
import Derived.Test.YtdjmckjbibfecaaGreatDoorVf
namespace Go.Proofs.YtdjmckjbibfecaaGreatDoor
open Go Go.RowKit Go.BigFrame Go.Maps

theorem row_cell {w : World} {B n c : Nat} {e : TypeId} {A : Option Addr} {xs : List Value} {j : Nat} {x : Value} (h : w.ownsRow B e 1 (.slice A n c) n xs) (hx : xs[j]? = some x) : ∃ g, A = some ⟨g, 0, none⟩ ∧ w.cell? ⟨g, j, none⟩ = some x := by
  have hj := (List.getElem?_eq_some_iff.1 hx).1
  have := h.1
  obtain ⟨g, c', e9, _, _⟩ := own_formS h (by omega)
  obtain rfl : A = some ⟨g, 0, none⟩ := by injection e9
  refine ⟨g, rfl, ?_⟩
  rw [h.cellAt j (by omega)]; exact hx
set_option maxRecDepth 100000 in
set_option maxHeartbeats 3200000 in
theorem sameR_any (LL : List (List Nat)) (v v' : Value) (B B' : Nat) (w : World) (hle : LL.length ≤ 5000) (hpl : Hid (∀ p ∈ LL, p.length ≤ 12)) (h1 : Hid (CoresAt w B v LL)) (h2 : Hid (CoresAt w B' v' LL)) :
    Calls Tryz.prog 15 #[v, v'] w fun e w' => e = .returned (.bool true) ∧ Below w.heap.size w w' := by
  obtain ⟨vs, hl1, hr1, hf1⟩ := h1.out
  obtain ⟨us, hl2, hr2, hf2⟩ := h2.out
  obtain ⟨nO, hnO⟩ : ∃ n, LL.length = n := ⟨_, rfl⟩
  rw [hnO] at hl1 hl2 hr1 hr2 hle
  have hnO' := Lib.hid hnO
  obtain ⟨A1, c1, rfl⟩ := own_form hr1
  obtain ⟨A2, c2, rfl⟩ := own_form hr2
  have hr1' := Lib.hid hr1
  have hr2' := Lib.hid hr2
  have hf1' := Lib.hid hf1
  have hf2' := Lib.hid hf2
  have hl1' := Lib.hid hl1
  have hl2' := Lib.hid hl2
  clear h1 h2 hl1 hl2 hr1 hr2 hf1 hf2 hnO
  go_enter Tryz.func15, Tryz.ntmps15
  go_wp2_with fail
  go_loopw [5] (fun i wr => ∃ j : Nat, j ≤ nO ∧ i = .int .i64 j ∧ Hid (Below w.heap.size w wr)) (fun i _ => nO - (intOf i).toNat)
  case atStart => exact ⟨0, Nat.zero_le _, rfl, Lib.hid (Below.refl _ _)⟩
  case round =>
    obtain ⟨j, hj, rfl, hB⟩ := hrel
    by_cases hlt : j < nO
    · have hkm : decide (j < nO) = true := decide_eq_true hlt
      have j1 : (j : Int) < (nO : Int) := by omega
      have j2 : (0 : Int) ≤ (j : Int) := by omega
      obtain ⟨p9, hp9⟩ : ∃ x, LL[j]? = some x := ⟨_, List.getElem?_eq_getElem (by have := hnO'.out; omega)⟩
      obtain ⟨x9, hx9⟩ : ∃ x, vs[j]? = some x := ⟨_, List.getElem?_eq_getElem (by have := hl1'.out; omega)⟩
      obtain ⟨y9, hy9⟩ : ∃ x, us[j]? = some x := ⟨_, List.getElem?_eq_getElem (by have := hl2'.out; omega)⟩
      have hrx := hf1'.out j p9 x9 hp9 hx9
      have hry := hf2'.out j p9 y9 hp9 hy9
      obtain ⟨xn, hxn⟩ : ∃ n, p9.length = n := ⟨_, rfl⟩
      have hxn12 : xn ≤ 12 := by rw [← hxn]; exact hpl.out p9 (List.mem_of_getElem? hp9)
      rw [hxn] at hrx hry
      obtain ⟨xA, xc, rfl⟩ := own_form hrx
      obtain ⟨yA, yc, rfl⟩ := own_form hry
      obtain ⟨g1, rfl, k1⟩ := row_cell (own_below hr1'.out hB.out) hx9
      obtain ⟨g2, rfl, k2⟩ := row_cell (own_below hr2'.out hB.out) hy9
      have hix := Lib.hid (nats_cells hrx)
      have hiy := Lib.hid (nats_cells hry)
      have hxn' := Lib.hid hxn
      have hx9' := Lib.hid hx9
      have hy9' := Lib.hid hy9
      clear hp9 hx9 hy9 hrx hry hxn
      go_wp2_with fail
      go_quiet (fail)
      go_wp2_with fail
      go_loopw [6] (fun i wr2 => ∃ kk : Nat, kk ≤ xn ∧ i = .int .i64 kk ∧ Hid (Below w.heap.size w wr2)) (fun i _ => xn - (intOf i).toNat)
      case atStart => exact ⟨0, Nat.zero_le _, rfl, Lib.hid (below_drewN hB.out _)⟩
      case round =>
        clear k1 k2 hB
        obtain ⟨kk, hkk, rfl, hB⟩ := hrel
        obtain ⟨g1', e1, k1⟩ := row_cell (own_below hr1'.out hB.out) hx9'.out
        obtain rfl : g1 = g1' := by simpa using e1
        obtain ⟨g2', e2, k2⟩ := row_cell (own_below hr2'.out hB.out) hy9'.out
        obtain rfl : g2 = g2' := by simpa using e2
        clear e1 e2
        by_cases hlt2 : kk < xn
        · have hkm2 : decide (kk < xn) = true := decide_eq_true hlt2
          have i1 : (kk : Int) < (xn : Int) := by omega
          have i2 : (0 : Int) ≤ (kk : Int) := by omega
          obtain ⟨a, ha⟩ : ∃ a, p9[kk]? = some a := ⟨_, List.getElem?_eq_getElem (by have := hxn'.out; omega)⟩
          obtain ⟨gx, ox, rfl, cx⟩ := (hix.out.below hB.out) kk a (by rw [List.getElem?_map, ha]; rfl)
          obtain ⟨gy, oy, rfl, cy⟩ := (hiy.out.below hB.out) kk a (by rw [List.getElem?_map, ha]; rfl)
          clear ha
          go_wp2_with fail
          go_quiet (fail)
          go_wp2_with fail
          go_roundw
          case rel => exact ⟨kk + 1, by omega, by go_num, Lib.hid (below_drewN hB.out _)⟩
          case measure => simp [intOf]; omega
        · have hkm2 : decide (kk < xn) = false := decide_eq_false hlt2
          go_wp2_with fail
          go_roundw
          case rel => exact ⟨j + 1, by omega, by go_num, hB⟩
          case measure => simp [intOf]; omega
    · have hkm : decide (j < nO) = false := decide_eq_false hlt
      go_wp2_with fail
      go_ret
      exact ⟨rfl, hB.out⟩
end Go.Proofs.YtdjmckjbibfecaaGreatDoor

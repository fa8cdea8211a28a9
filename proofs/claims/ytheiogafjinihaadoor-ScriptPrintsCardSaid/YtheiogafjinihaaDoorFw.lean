/- few: are steps few, and their names short? -/
import Derived.Test.YtheiogafjinihaaDoorEq
import Derived.IntWalk
namespace Go.Proofs.YtheiogafjinihaaDoor
open Go Go.RowKit Go.BigFrame Go.Maps

def shortS (x : Stp) : Bool := decide (x.party.length + x.deal.length ≤ 100)
def fewS (l : List Stp) : Bool := decide (l.length ≤ 61) && l.all shortS
theorem all_step {l : List Stp} {k : Nat} {x : Stp} {p : Stp → Bool} (hx : l[k]? = some x) : (l.drop k).all p = (p x && (l.drop (k + 1)).all p) := by
  obtain ⟨hk, he⟩ := List.getElem?_eq_some_iff.1 hx
  rw [List.drop_eq_getElem_cons hk, he, List.all_cons]
set_option maxHeartbeats 1600000 in
theorem few_any (A : Option Addr) (n c : Nat) (l : List Stp) (w : World) (hn : n ≤ maxLen) (hl : Hid (l.length = n)) (hA : Hid (StepsAt w A l)) (hf : Hid (∀ x ∈ l, Fine x)) :
    Calls Tryd.prog 10 #[.slice A n c] w fun e w' => e = .returned (.bool (fewS l)) ∧ Below w.heap.size w w' := by
  unfold maxLen at hn
  go_enter Tryd.func10, Tryd.ntmps10
  go_wp2
  go_loopw [3] (fun i wr => ∃ k : Nat, k ≤ n ∧ k ≤ 61 ∧ i = .int .i64 k ∧ Hid (l.all shortS = (l.drop k).all shortS) ∧ Below w.heap.size w wr) (fun i _ => n - (intOf i).toNat)
  case atStart => exact ⟨0, Nat.zero_le _, by omega, rfl, rfl, Below.refl _ _⟩
  case round =>
    obtain ⟨k, hk, hk1, rfl, hal, hB⟩ := hrel
    by_cases hlt : k < n
    · obtain ⟨x, hx⟩ : ∃ x, l[k]? = some x := ⟨_, List.getElem?_eq_getElem (by have := hl.out; omega)⟩
      have hst := Lib.hid (all_step (p := shortS) hx)
      have hfx := hf.out x (List.mem_of_getElem? hx)
      obtain ⟨b, off, rfl, h0, h1, h2, h3, h4, h5⟩ := (hA.out.below hB) k x hx
      clear hx h0 h1 h3 h4
      have i1 : (k : Int) < (n : Int) := by omega
      have i2 : (0 : Int) ≤ (k : Int) := by omega
      obtain ⟨xk, xn, xp, xa, xc, xd⟩ := x
      have hp1 := hfx.party
      have hd1 := hfx.deal
      simp only at hp1 hd1 h2 h5
      clear hfx
      by_cases h60 : 60 < k
      · have hno : Hid (fewS l = false) := by unfold Hid fewS; have := hl.out; simp; omega
        have b1 : decide (60 < (k : Int)) = true := by simp; omega
        have b2 : decide (60 < k) = true := by simp; omega
        clear hst
        go_wp2
        go_quiet (fail)
        go_wp2
        go_ret
        exact ⟨by rw [hno.out]; rfl, below_drewN hB _⟩
      · have b1 : decide (60 < (k : Int)) = false := by simp; omega
        have b2 : decide (60 < k) = false := by simp; omega
        have w1 : IntKind.i64.wrap ((xp.length : Int) + (xd.length : Int)) = (xp.length : Int) + (xd.length : Int) := IntWalk.i64_in _ (by omega)
        by_cases hs : xp.length + xd.length ≤ 100
        · have b3 : decide (100 < (xp.length : Int) + (xd.length : Int)) = false := by simp; omega
          have b4 : decide (100 < xp.length + xd.length) = false := by simp; omega
          have hyes : Hid (l.all shortS = (l.drop (k + 1)).all shortS) := by
            unfold Hid
            rw [hal.out, hst.out, show shortS ⟨xk, xn, xp, xa, xc, xd⟩ = true from decide_eq_true hs]
            rfl
          clear hst hs
          go_wp2
          go_quiet (fail)
          go_wp2
          go_roundw
          case rel => exact ⟨k + 1, by omega, by omega, by go_num, hyes.out, below_drewN hB _⟩
          case measure => simp [intOf]; omega
        · have b3 : decide (100 < (xp.length : Int) + (xd.length : Int)) = true := by simp; omega
          have b4 : decide (100 < xp.length + xd.length) = true := by simp; omega
          have hno : Hid (fewS l = false) := by
            unfold Hid fewS
            rw [hal.out, hst.out, show shortS ⟨xk, xn, xp, xa, xc, xd⟩ = false from decide_eq_false hs]
            simp
          clear hst hs
          go_wp2
          go_quiet (fail)
          go_wp2
          go_ret
          exact ⟨by rw [hno.out]; rfl, below_drewN hB _⟩
    · have hyes : Hid (fewS l = true) := by
        unfold Hid fewS
        rw [hal.out, List.drop_eq_nil_of_le (by have := hl.out; omega)]
        have := hl.out
        simp; omega
      go_wp2
      go_ret
      exact ⟨by rw [hyes.out]; rfl, hB⟩
end Go.Proofs.YtheiogafjinihaaDoor

/- The walk of the law ExamineTexts. -/
import Derived.Test.YtpnkpnocipkedaaDoorP
import Derived.Test.YtpnkpnocipkedaaDoorI
namespace Go.Proofs.YtpnkpnocipkedaaDoor
open Go Go.RowKit Go.BigFrame Go.Maps

def shortF (l : List Flt) : Prop := ∀ x ∈ l, x.field.size ≤ 100 ∧ -1152921504606846976 ≤ x.paper ∧ x.paper ≤ 1152921504606846976
theorem short_snoc {l : List Flt} {k : Nat} {x : Flt} (h : shortF (l.take k)) (hx : l[k]? = some x) (hf : x.field.size ≤ 100) (h0 : -1152921504606846976 ≤ x.paper) (h1 : x.paper ≤ 1152921504606846976) : shortF (l.take (k + 1)) := by
  obtain ⟨hk, he⟩ := List.getElem?_eq_some_iff.1 hx
  rw [List.take_succ_eq_append_getElem hk, he]
  intro y hy
  rcases List.mem_append.1 hy with hy | hy
  · exact h y hy
  · simp at hy; subst hy; exact ⟨hf, h0, h1⟩

set_option maxRecDepth 100000 in
set_option maxHeartbeats 1600000 in
theorem texts_law (A : Option Addr) (n c : Nat) (l : List Flt) (w : World) (hn : n ≤ maxLen) (hl : Hid (l.length = n)) (hA : Hid (FaultsAt w A l)) (he : Env w) :
    Calls Tryd.prog 4 #[.slice A n c] w fun e w' => e = .returned (.bool true) ∧ Below w.heap.size w w' := by
  have he' := Lib.hid he
  clear he
  unfold maxLen at hn
  go_enter Tryd.func4, Tryd.ntmps4
  go_wp2_with fail
  refine (awake_any w he'.out).mono ?_
  rintro e w1 ⟨rfl, hb1⟩
  have hA1 : Hid (FaultsAt w1 A l) := hA.out.below hb1
  go_wp2_with fail
  go_loopw [2, 3] (fun _ i wr => w1 = wr ∧ ∃ k : Nat, k ≤ n ∧ k ≤ 41 ∧ i = .int .i64 k ∧ Hid (shortF (l.take k))) (fun _ i _ => n - (intOf i).toNat)
  case atStart => exact ⟨rfl, 0, Nat.zero_le _, by omega, rfl, by intro x hx; simp at hx⟩
  case round =>
    obtain ⟨rfl, k, hk, hk41, rfl, hsh⟩ := hrel
    by_cases hlt : k < n
    · obtain ⟨x, hx⟩ : ∃ x, l[k]? = some x := ⟨_, List.getElem?_eq_getElem (by have := hl.out; omega)⟩
      have hx' := Lib.hid hx
      clear hx
      obtain ⟨b, off, rfl, h0, h1, h2, h3⟩ := hA1.out k x hx'.out
      obtain ⟨pp, kk, ff, ww⟩ := x
      simp only at h0 h1 h2 h3
      go_wp2_with fail
      all_goals first
        | (go_ret; exact ⟨rfl, hb1⟩)
        | (go_roundw
           case rel => exact ⟨trivial, k + 1, by omega, by omega, by go_num, short_snoc hsh.out hx'.out (by simp only; omega) (by simp only; omega) (by simp only; omega)⟩
           case measure => simp [intOf]; omega)
    · obtain rfl : k = n := by omega
      have hS : Hid (smallF l) := fun x hx => by
        have := hsh.out x (by rw [List.take_of_length_le (by have := hl.out; omega)]; exact hx)
        omega
      go_wp2_with fail
      refine (textE_any A k c l w1 (by omega) hl hA1 hS (he'.out.below hb1)).mono ?_
      rintro e w2 ⟨rfl, hb2⟩
      go_wp2_with fail
      refine (textR_any A k c l w2 (by omega) hl (hA1.out.below hb2) hS).mono ?_
      rintro e w3 ⟨rfl, hb3⟩
      go_wp2_with fail
      go_ret
      exact ⟨by simp, hb1.trans ((hb2.trans (hb3.mono hb2.size)).mono hb1.size)⟩
end Go.Proofs.YtpnkpnocipkedaaDoor

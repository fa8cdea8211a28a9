/- The document's examples: the walk of awake. -/
import Derived.Test.YtjkmhlfjheiekaaGreatDoorTf
namespace Go.Proofs.YtjkmhlfjheiekaaGreatDoor
open Go Go.RowKit Go.BigFrame Go.Maps

def ex1 : Txt := [110, 111, 116, 32, 40, 97, 32, 61, 32, 34, 120, 34, 32, 111, 114, 32, 98, 32, 60, 61, 32, 53, 41, 32, 97, 110, 100, 32, 99, 32, 126, 32, 34, 121, 34]
def ex2 : Txt := [115, 117, 109, 32, 61, 32, 105, 110, 118, 111, 105, 99, 101, 46, 115, 117, 109]
def exR1 : Rul := .mk 0 0 [] [] 0 [.mk 2 0 [] [] 0 [.mk 1 0 [] [] 0 [.mk 3 0 [97] [120] 0 [], .mk 5 0 [98] [] 5 []]], .mk 4 0 [99] [121] 0 []]
def exR2 : Rul := .mk 7 0 [115, 117, 109] [115, 117, 109] 0 []
theorem ex1_rule : ruleT ex1 = .ok exR1 := by kernel_rfl
theorem ex2_rule : ruleT ex2 = .ok exR2 := by kernel_rfl
theorem ex1_shown : shownR exR1 = ex1 := by kernel_rfl
theorem ex1_size : szR exR1 ≤ mostZ := of_decide_eq_true (by kernel_rfl)
theorem strips_two {L : List Tree} {a b : Rul} (h : strips L = [a, b]) : ∃ t u, L = [t, u] ∧ strip t = a ∧ strip u = b := by
  match L, h with
  | [t, u], h =>
    rw [strips, strips, strips] at h
    simp only [List.cons.injEq, and_true] at h
    exact ⟨t, u, rfl, h.1, h.2⟩
  | [], h => rw [strips] at h; cases h
  | [t], h => rw [strips, strips] at h; simp at h
  | t :: u :: v :: L, h => rw [strips, strips, strips] at h; simp at h

set_option maxRecDepth 100000 in
set_option maxHeartbeats 3200000 in
theorem awake_any (w : World) (he : Hid (Env w)) : Calls Tryz.prog 12 #[] w fun e w' => e = .returned (.bool true) ∧ Below w.heap.size w w' := by
  have hc1 : Hid (Calls Tryz.prog 13 #[.string ⟨#[110, 111, 116, 32, 40, 97, 32, 61, 32, 34, 120, 34, 32, 111, 114, 32, 98, 32, 60, 61, 32, 53, 41, 32, 97, 110, 100, 32, 99, 32, 126, 32, 34, 121, 34]⟩] w (RuleOut w ex1)) := rule_full_any ⟨#[110, 111, 116, 32, 40, 97, 32, 61, 32, 34, 120, 34, 32, 111, 114, 32, 98, 32, 60, 61, 32, 53, 41, 32, 97, 110, 100, 32, 99, 32, 126, 32, 34, 121, 34]⟩ w (by unfold maxLen; decide) he
  have hc2 : Hid (∀ W, Below w.heap.size w W → Calls Tryz.prog 13 #[.string ⟨#[115, 117, 109, 32, 61, 32, 105, 110, 118, 111, 105, 99, 101, 46, 115, 117, 109]⟩] W (RuleOut W ex2)) := fun W hW => rule_full_any ⟨#[115, 117, 109, 32, 61, 32, 105, 110, 118, 111, 105, 99, 101, 46, 115, 117, 109]⟩ W (by unfold maxLen; decide) (he.out.below hW)
  have ht1 : (⟨#[110, 111, 116, 32, 40, 97, 32, 61, 32, 34, 120, 34, 32, 111, 114, 32, 98, 32, 60, 61, 32, 53, 41, 32, 97, 110, 100, 32, 99, 32, 126, 32, 34, 121, 34]⟩ : ByteArray).toList = [110, 111, 116, 32, 40, 97, 32, 61, 32, 34, 120, 34, 32, 111, 114, 32, 98, 32, 60, 61, 32, 53, 41, 32, 97, 110, 100, 32, 99, 32, 126, 32, 34, 121, 34] := by simp [ByteArray.toList_eq]
  go_enter Tryz.func12, Tryz.ntmps12
  go_wp2_with fail
  refine hc1.out.mono ?_
  rintro e w1 ⟨hB1, hcase⟩
  rw [ex1_rule] at hcase
  obtain ⟨t, rfl, hT, hst⟩ := hcase
  have hB1' := Lib.hid hB1
  have hshow : Hid (∀ W, Below w1.heap.size w1 W → Calls Tryz.prog 17 #[.agg t.cells] W fun e w' => e = .returned (.string ⟨#[110, 111, 116, 32, 40, 97, 32, 61, 32, 34, 120, 34, 32, 111, 114, 32, 98, 32, 60, 61, 32, 53, 41, 32, 97, 110, 100, 32, 99, 32, 126, 32, 34, 121, 34]⟩) ∧ Below W.heap.size W w') := fun W hW => by
    have := showR_any t W _ (he.out.below (hB1.trans (hW.mono hB1.size))) (Lib.hid (hT.below hW)) (by unfold Hid; rw [hst]; exact ex1_size)
    rw [hst, ex1_shown] at this
    exact this
  obtain ⟨k, p, f, x, n, A, c, L⟩ := t
  rw [strip, exR1] at hst
  simp only [Rul.mk.injEq] at hst
  obtain ⟨rfl, rfl, rfl, rfl, rfl, hL⟩ := hst
  obtain ⟨t1, t2, rfl, hs1, hs2⟩ := strips_two hL
  rw [TreeAt, RowsAt, RowsAt, RowsAt] at hT
  obtain ⟨⟨hc1', _, hc2', _, _⟩, _⟩ := hT
  obtain ⟨k1, p1, f1, x1, n1, A1, cc1, LL1⟩ := t1
  obtain ⟨k2, p2, f2, x2, n2, A2, cc2, LL2⟩ := t2
  rw [strip] at hs1 hs2
  simp only [Rul.mk.injEq] at hs1 hs2
  obtain ⟨rfl, _⟩ := hs1
  obtain ⟨rfl, _⟩ := hs2
  obtain ⟨bb, off, rfl, _, g0, _⟩ := hc1'
  obtain ⟨bb', off', ho, _, g1, _⟩ := hc2'
  simp only [Option.some.injEq, Addr.mk.injEq, and_true] at ho
  obtain ⟨rfl, rfl⟩ := ho
  rw [Nat.zero_mul, Nat.add_zero] at g0
  rw [Nat.zero_add, Nat.one_mul] at g1
  have glt : bb < w1.heap.size := World.block_lt_of_cell? w1 _ g0
  have hbl : Below w1.heap.size w1 (w1.alloc (.cells #[.int .i64 0, .int .i64 0, .string ⟨#[]⟩, .string ⟨#[]⟩, .int .i64 0, .slice (some ⟨bb, off, none⟩) 2 c] 25)) := (Below.refl _ w1).alloc (Nat.le_refl _) _
  have hsw := Lib.hid (hshow.out _ hbl)
  have hB2 := Lib.hid (hB1.trans (hbl.mono hB1.size))
  unfold Tree.cells at hsw
  simp only [List.length_cons, List.length_nil, Nat.zero_add, Nat.reduceAdd] at hsw
  clear hbl hc1 hB1 hshow hL
  unfold Tree.cells
  simp only [List.length_cons, List.length_nil, Nat.zero_add, Nat.reduceAdd]
  go_wp2_with fail
  refine hsw.out.mono ?_
  rintro e w2 ⟨rfl, hb2⟩
  have hB3 := Lib.hid (hB2.out.trans (hb2.mono hB2.out.size))
  have hc3 := Lib.hid (hc2.out w2 hB3.out)
  clear hb2 hsw hc2 g0 g1 glt
  go_wp2_with fail
  refine hc3.out.mono ?_
  rintro e w3 ⟨hB4, hcase⟩
  rw [ex2_rule] at hcase
  obtain ⟨t, rfl, _, hst⟩ := hcase
  have hB5 := Lib.hid (hB3.out.trans (hB4.mono hB3.out.size))
  obtain ⟨k, p, f, x, n, A, c9, L⟩ := t
  rw [strip, exR2] at hst
  simp only [Rul.mk.injEq] at hst
  obtain ⟨rfl, rfl, rfl, rfl, rfl, hL⟩ := hst
  have ht2 : (⟨[115, 117, 109].toArray⟩ : ByteArray).toList = [115, 117, 109] := by simp [ByteArray.toList_eq]
  clear hB4 hc3 hL
  unfold Tree.cells
  go_wp2_with fail
  go_ret
  exact ⟨rfl, hB5.out.alloc hB5.out.size _⟩
end Go.Proofs.YtjkmhlfjheiekaaGreatDoor

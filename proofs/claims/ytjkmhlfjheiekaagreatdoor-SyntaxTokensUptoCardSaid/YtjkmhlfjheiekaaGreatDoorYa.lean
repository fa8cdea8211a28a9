/- Small questions about credits: the rule that always holds, yes and no, bounds, a need, a currency. -/
import Derived.Test.YtjkmhlfjheiekaaGreatDoorTc
import Derived.Test.YtjkmhlfjheiekaaGreatDoorWc
namespace Go.Proofs.YtjkmhlfjheiekaaGreatDoor
open Go Go.RowKit Go.BigFrame Go.Maps

/-- Is it the rule that always holds? -/
def alwaysR : Rul → Bool
  | .mk k p f x n L => k == 0 && p == 0 && n == 0 && f == [] && x == [] && L.length == 0


set_option maxRecDepth 100000 in
set_option maxHeartbeats 3200000 in
theorem always_any (t : Tree) (w : World) : Calls Tryz.prog 107 #[.agg t.cells] w fun e w' => e = .returned (.bool (alwaysR (strip t))) ∧ Below w.heap.size w w' := by
  obtain ⟨k, p, f, x, n, A, c, L⟩ := t
  obtain ⟨m, hm⟩ : ∃ m, Hid (L.length = m) := ⟨_, Lib.hid rfl⟩
  have hres : Hid (alwaysR (strip (.mk k p f x n A c L)) = (k == 0 && p == 0 && n == 0 && f == [] && x == [] && m == 0)) := by unfold Hid; rw [strip, alwaysR, strips_map, List.length_map, hm.out]
  rw [hres.out]
  simp only [Tree.cells]
  rw [hm.out]
  clear hres hm
  have hb0 : Hid (Below w.heap.size w (w.alloc (.cells #[.int .i64 k, .int .i64 p, .string ⟨f.toArray⟩, .string ⟨x.toArray⟩, .int .i64 n, .slice A m c] 25))) := (Below.refl _ w).alloc (Nat.le_refl _) _
  have ef := tx_list f
  have ex := tx_list x
  by_cases hk : ¬ (k = 0)
  · have bk : (k == 0) = false := by simp [hk]
    rw [bk]
    go_enter Tryz.func107, Tryz.ntmps107
    go_wp2_with fail
    go_ret
    exact ⟨by simp, hb0.out⟩
  obtain rfl := Classical.not_not.1 hk
  clear hk
  by_cases hp : ¬ (p = 0)
  · have bp : (p == 0) = false := by simp [hp]
    rw [bp]
    go_enter Tryz.func107, Tryz.ntmps107
    go_wp2_with fail
    go_ret
    exact ⟨by simp, hb0.out⟩
  obtain rfl := Classical.not_not.1 hp
  clear hp
  by_cases hn : ¬ (n = 0)
  · have bn : (n == 0) = false := by simp [hn]
    rw [bn]
    go_enter Tryz.func107, Tryz.ntmps107
    go_wp2_with fail
    go_ret
    exact ⟨by simp, hb0.out⟩
  obtain rfl := Classical.not_not.1 hn
  clear hn
  by_cases hf : ¬ (f = [])
  · have bf : (f == []) = false := by simp [hf]
    rw [bf]
    go_enter Tryz.func107, Tryz.ntmps107
    go_wp2_with fail
    go_ret
    exact ⟨by simp, hb0.out⟩
  obtain rfl := Classical.not_not.1 hf
  clear hf
  by_cases hx : ¬ (x = [])
  · have bx : (x == []) = false := by simp [hx]
    rw [bx]
    go_enter Tryz.func107, Tryz.ntmps107
    go_wp2_with fail
    go_ret
    exact ⟨by simp, hb0.out⟩
  obtain rfl := Classical.not_not.1 hx
  clear hx
  by_cases hm : ¬ (m = 0)
  · have bm : (m == 0) = false := by simp [hm]
    have bm1 : ((m : Int) == 0) = false := by simp; omega
    rw [bm]
    go_enter Tryz.func107, Tryz.ntmps107
    go_wp2_with fail
    go_ret
    exact ⟨by simp, hb0.out⟩
  obtain rfl := Classical.not_not.1 hm
  clear hm
  go_enter Tryz.func107, Tryz.ntmps107
  go_wp2_with fail
  go_ret
  exact ⟨by simp, hb0.out⟩


def yesT (b : Bool) : Txt := if b = true then [121, 101, 115] else [110, 111]


set_option maxRecDepth 100000 in
theorem yes_any (b : Bool) (w : World) : Calls Tryz.prog 106 #[.bool b] w fun e w' => e = .returned (.string ⟨(yesT b).toArray⟩) ∧ w = w' := by
  cases b
  all_goals
    go_enter Tryz.func106, Tryz.ntmps106
    go_wp2_with fail
    go_ret
    exact ⟨rfl, rfl⟩


set_option maxRecDepth 100000 in
theorem between_any (n lo hi : Int) (w : World) : Calls Tryz.prog 100 #[.int .i64 n, .int .i64 lo, .int .i64 hi] w fun e w' => e = .returned (.bool (decide (lo ≤ n) && decide (n ≤ hi))) ∧ w = w' := by
  cases h1 : decide (lo ≤ n) <;> cases h2 : decide (n ≤ hi)
  all_goals
    go_enter Tryz.func100, Tryz.ntmps100
    go_wp2_with fail
    go_ret
    exact ⟨by first | rfl | simp, rfl⟩
/-- May a need be? -/
def needM (x : Nd) : Bool := decide (0 ≤ x.kind) && decide (x.kind < 6) && (decide (1 ≤ x.count) && decide (x.count ≤ 9)) && (alwaysR (strip x.rule) || (decide (depthR (strip x.rule) ≤ 16) && mayR (strip x.rule)))


set_option maxRecDepth 100000 in
set_option maxHeartbeats 3200000 in
theorem needMay_any (x : Nd) (w : World) (ok : Nat → Prop) (he : Hid (Env w)) (hT : Hid (TreeAt w ok x.rule)) (hz : Hid (szR (strip x.rule) ≤ mostZ)) : Calls Tryz.prog 103 #[.agg x.cells.toArray] w fun e w' => e = .returned (.bool (needM x)) ∧ Below w.heap.size w w' := by
  obtain ⟨al, hal⟩ : ∃ b, Hid (alwaysR (strip x.rule) = b) := ⟨_, Lib.hid rfl⟩
  obtain ⟨dp, hdp⟩ : ∃ b, Hid (decide (depthR (strip x.rule) ≤ 16) = b) := ⟨_, Lib.hid rfl⟩
  obtain ⟨my, hmy⟩ : ∃ b, Hid (mayR (strip x.rule) = b) := ⟨_, Lib.hid rfl⟩
  have hres : Hid (needM x = (decide (0 ≤ x.kind) && decide (x.kind < 6) && (decide (1 ≤ x.count) && decide (x.count ≤ 9)) && (al || (dp && my)))) := by unfold Hid needM; rw [hal.out, hdp.out, hmy.out]
  rw [hres.out]
  have c1 : Hid (∀ W, Calls Tryz.prog 107 #[.agg x.rule.cells] W fun e w' => e = .returned (.bool al) ∧ Below W.heap.size W w') := fun W => by
    have h := always_any x.rule W
    rw [hal.out] at h
    exact h
  have c2 : Hid (∀ W, Below w.heap.size w W → Calls Tryz.prog 68 #[.agg x.rule.cells, .int .i64 16] W fun e w' => e = .returned (.bool dp) ∧ Below W.heap.size W w') := fun W hW => by
    have h := within_any x.rule 16 W ok (by omega) (hT.out.below hW)
    rw [hdp.out] at h
    exact h
  have c3 : Hid (∀ W, Below w.heap.size w W → Calls Tryz.prog 37 #[.agg x.rule.cells] W fun e w' => e = .returned (.bool my) ∧ Below W.heap.size W w') := fun W hW => by
    have h := may_any x.rule W ok (he.out.below hW) (hT.out.below hW) hz
    rw [hmy.out] at h
    exact h
  clear hres hal hdp hmy hT hz
  obtain ⟨xk, xn, ⟨k, p, f, x, n, A, c, L⟩⟩ := x
  obtain ⟨m, hm⟩ : ∃ m, Hid (L.length = m) := ⟨_, Lib.hid rfl⟩
  simp only [Nd.cells, Tree.cells, hm.out] at c1 c2 c3 ⊢
  clear hm
  show Calls Tryz.prog 103 #[.agg #[.int .i64 xk, .int .i64 xn, .int .i64 k, .int .i64 p, .string ⟨f.toArray⟩, .string ⟨x.toArray⟩, .int .i64 n, .slice A m c]] w _
  have hb0 : Hid (Below w.heap.size w (w.alloc (.cells #[.int .i64 xk, .int .i64 xn, .int .i64 k, .int .i64 p, .string ⟨f.toArray⟩, .string ⟨x.toArray⟩, .int .i64 n, .slice A m c] 74))) := (Below.refl _ w).alloc (Nat.le_refl _) _
  have hx0 := Lib.hid (Blk.new w 74 #[.int .i64 xk, .int .i64 xn, .int .i64 k, .int .i64 p, .string ⟨f.toArray⟩, .string ⟨x.toArray⟩, .int .i64 n, .slice A m c])
  obtain ⟨wa, hwa⟩ : ∃ y, Hid (w.alloc (.cells #[.int .i64 xk, .int .i64 xn, .int .i64 k, .int .i64 p, .string ⟨f.toArray⟩, .string ⟨x.toArray⟩, .int .i64 n, .slice A m c] 74) = y) := ⟨_, Lib.hid rfl⟩
  obtain ⟨q1, hq1⟩ : ∃ b, Hid ((decide (0 ≤ xk) && decide (xk < 6)) = b) := ⟨_, Lib.hid rfl⟩
  obtain ⟨q2, hq2⟩ : ∃ b, Hid ((decide (1 ≤ xn) && decide (xn ≤ 9)) = b) := ⟨_, Lib.hid rfl⟩
  rw [hq1.out, hq2.out]
  have d1 : Hid (∀ W, Calls Tryz.prog 77 #[.int .i64 xk] W fun e w' => e = .returned (.bool q1) ∧ W = w') := fun W => by
    have h := isPaper_any xk W
    rw [hq1.out] at h
    exact h
  have d2 : Hid (∀ W, Calls Tryz.prog 100 #[.int .i64 xn, .int .i64 1, .int .i64 9] W fun e w' => e = .returned (.bool q2) ∧ W = w') := fun W => by
    have h := between_any xn 1 9 W
    rw [hq2.out] at h
    exact h
  clear hq1 hq2
  go_enter Tryz.func103, Tryz.ntmps103
  go_wp2_with fail
  rw [hwa.out] at hb0 hx0 ⊢
  clear hwa
  have m0 : wa.cell? ⟨w.heap.size, 0, none⟩ = some (.int .i64 xk) := hx0.out.cell 0
  have m1 : wa.cell? ⟨w.heap.size, 1, none⟩ = some (.int .i64 xn) := hx0.out.cell 1
  have m2 : wa.cell? ⟨w.heap.size, 2, none⟩ = some (.int .i64 k) := hx0.out.cell 2
  have m3 : wa.cell? ⟨w.heap.size, 3, none⟩ = some (.int .i64 p) := hx0.out.cell 3
  have m4 : wa.cell? ⟨w.heap.size, 4, none⟩ = some (.string ⟨f.toArray⟩) := hx0.out.cell 4
  have m5 : wa.cell? ⟨w.heap.size, 5, none⟩ = some (.string ⟨x.toArray⟩) := hx0.out.cell 5
  have m6 : wa.cell? ⟨w.heap.size, 6, none⟩ = some (.int .i64 n) := hx0.out.cell 6
  have m7 : wa.cell? ⟨w.heap.size, 7, none⟩ = some (.slice A m c) := hx0.out.cell 7
  have mlt := hx0.out.lt
  refine (d1.out wa).mono ?_
  rintro e w1 ⟨rfl, rfl⟩
  cases q1 with
  | false =>
    go_wp2_with fail
    go_ret
    exact ⟨by simp, hb0.out⟩
  | true =>
    go_wp2_with fail
    refine (d2.out wa).mono ?_
    rintro e w1 ⟨rfl, rfl⟩
    cases q2 with
    | false =>
      go_wp2_with fail
      go_ret
      exact ⟨by simp, hb0.out⟩
    | true =>
      go_wp2_with fail
      refine (c1.out wa).mono ?_
      rintro e w1 ⟨rfl, hb1⟩
      have hB1 := Lib.hid (hb0.out.trans (hb1.mono hb0.out.size))
      have hx1 := Lib.hid (hx0.out.below hb1 hx0.out.lt)
      clear hb1 hb0 hx0 m0 m1 m2 m3 m4 m5 m6 m7 mlt
      cases al with
      | true =>
        go_wp2_with fail
        go_ret
        exact ⟨by simp, hB1.out⟩
      | false =>
        have m0 : w1.cell? ⟨w.heap.size, 0, none⟩ = some (.int .i64 xk) := hx1.out.cell 0
        have m1 : w1.cell? ⟨w.heap.size, 1, none⟩ = some (.int .i64 xn) := hx1.out.cell 1
        have m2 : w1.cell? ⟨w.heap.size, 2, none⟩ = some (.int .i64 k) := hx1.out.cell 2
        have m3 : w1.cell? ⟨w.heap.size, 3, none⟩ = some (.int .i64 p) := hx1.out.cell 3
        have m4 : w1.cell? ⟨w.heap.size, 4, none⟩ = some (.string ⟨f.toArray⟩) := hx1.out.cell 4
        have m5 : w1.cell? ⟨w.heap.size, 5, none⟩ = some (.string ⟨x.toArray⟩) := hx1.out.cell 5
        have m6 : w1.cell? ⟨w.heap.size, 6, none⟩ = some (.int .i64 n) := hx1.out.cell 6
        have m7 : w1.cell? ⟨w.heap.size, 7, none⟩ = some (.slice A m c) := hx1.out.cell 7
        have mlt := hx1.out.lt
        go_wp2_with fail
        refine (c2.out w1 hB1.out).mono ?_
        rintro e w2 ⟨rfl, hb2⟩
        have hB2 := Lib.hid (hB1.out.trans (hb2.mono hB1.out.size))
        have hx2 := Lib.hid (hx1.out.below hb2 hx1.out.lt)
        clear hb2 hB1 hx1 m0 m1 m2 m3 m4 m5 m6 m7 mlt
        cases dp with
        | false =>
          go_wp2_with fail
          go_ret
          exact ⟨by simp, hB2.out⟩
        | true =>
          have m0 : w2.cell? ⟨w.heap.size, 0, none⟩ = some (.int .i64 xk) := hx2.out.cell 0
          have m1 : w2.cell? ⟨w.heap.size, 1, none⟩ = some (.int .i64 xn) := hx2.out.cell 1
          have m2 : w2.cell? ⟨w.heap.size, 2, none⟩ = some (.int .i64 k) := hx2.out.cell 2
          have m3 : w2.cell? ⟨w.heap.size, 3, none⟩ = some (.int .i64 p) := hx2.out.cell 3
          have m4 : w2.cell? ⟨w.heap.size, 4, none⟩ = some (.string ⟨f.toArray⟩) := hx2.out.cell 4
          have m5 : w2.cell? ⟨w.heap.size, 5, none⟩ = some (.string ⟨x.toArray⟩) := hx2.out.cell 5
          have m6 : w2.cell? ⟨w.heap.size, 6, none⟩ = some (.int .i64 n) := hx2.out.cell 6
          have m7 : w2.cell? ⟨w.heap.size, 7, none⟩ = some (.slice A m c) := hx2.out.cell 7
          have mlt := hx2.out.lt
          go_wp2_with fail
          refine (c3.out w2 hB2.out).mono ?_
          rintro e w3 ⟨rfl, hb3⟩
          go_wp2_with fail
          go_ret
          exact ⟨by simp, hB2.out.trans (hb3.mono hB2.out.size)⟩

end Go.Proofs.YtjkmhlfjheiekaaGreatDoor

/- The law SyntaxShows: any rule's text is the document's, and is read as that rule. -/
import Derived.Test.YtjkmhlfjheiekaaGreatDoorXb
import Derived.Test.YtjkmhlfjheiekaaGreatDoorWa
import Derived.Test.YtjkmhlfjheiekaaGreatDoorTg
namespace Go.Proofs.YtjkmhlfjheiekaaGreatDoor
open Go Go.RowKit Go.BigFrame Go.Maps

theorem parTk_some {b : Bool} {l : List (Int × Txt)} (h : l ≠ []) : parTk b l ≠ [] := by
  unfold parTk; split
  · simp
  · exact h
theorem tkL_some {o : Int} {sep : List (Int × Txt)} {a : Rul} {L : List Rul} (h : tokR a ≠ []) : tkL o sep (a :: L) ≠ [] := by
  rw [tkL]
  intro h0
  rw [List.append_eq_nil_iff, List.append_eq_nil_iff] at h0
  exact parTk_some h h0.1.1
theorem tokR_some : ∀ (d : Nat) (r : Rul), depthR r ≤ d → mayR r = true → tokR r ≠ [] := by
  intro d
  induction d with
  | zero =>
    intro r hd hm
    have h7 := kind7 hm
    obtain ⟨k, p, f, x, n, L⟩ := r
    simp only [Rul.kind] at h7
    rw [depthR] at hd
    cases L with
    | cons a L => rw [depthL] at hd; omega
    | nil =>
      rcases (by omega : k = 0 ∨ k = 1 ∨ k = 2 ∨ k = 3 ∨ k = 4 ∨ k = 5 ∨ k = 6 ∨ k = 7) with rfl | rfl | rfl | rfl | rfl | rfl | rfl | rfl
      · rw [mayR] at hm; simp at hm
      · rw [mayR] at hm; simp at hm
      all_goals (rw [tokR]; simp)
  | succ d ih =>
    intro r hd hm
    have h7 := kind7 hm
    obtain ⟨k, p, f, x, n, L⟩ := r
    simp only [Rul.kind] at h7
    rw [depthR] at hd
    have hrow : k = 0 ∨ k = 1 → ∃ a L', L = a :: L' ∧ tokR a ≠ [] := fun hk => by
      rw [mayR, if_pos hk] at hm
      simp only [Bool.and_eq_true, decide_eq_true_eq] at hm
      cases L with
      | nil => simp at hm
      | cons a L' =>
        have ha := hm.2
        rw [mayL, Bool.and_eq_true] at ha
        rw [depthL] at hd
        exact ⟨a, L', rfl, ih a (by omega) ha.1⟩
    rcases (by omega : k = 0 ∨ k = 1 ∨ k = 2 ∨ k = 3 ∨ k = 4 ∨ k = 5 ∨ k = 6 ∨ k = 7) with rfl | rfl | rfl | rfl | rfl | rfl | rfl | rfl
    · obtain ⟨a, L', rfl, ha⟩ := hrow (.inl rfl)
      rw [tokR]
      exact tkL_some ha
    · obtain ⟨a, L', rfl, ha⟩ := hrow (.inr rfl)
      rw [tokR]
      exact tkL_some ha
    all_goals (rw [tokR]; simp)
mutual
theorem few_depth : ∀ (d : Nat) (r : Rul), fewR d r = true → depthR r + d ≤ 20
  | d, .mk k p f x n L, h => by
    rw [fewR, Bool.and_eq_true] at h
    have h1 := few_depthL (d + 1) L h.2
    have h0 := h.1
    simp only [Bool.not_eq_true', Bool.or_eq_false_iff, decide_eq_false_iff_not] at h0
    rw [depthR]
    omega
theorem few_depthL : ∀ (d : Nat) (L : List Rul), fewL d L = true → depthL L = 0 ∨ depthL L + d ≤ 21
  | _, [], _ => .inl (by rw [depthL])
  | d, r :: L, h => by
    rw [fewL, Bool.and_eq_true] at h
    have h1 := few_depth d r h.1
    have h2 := few_depthL d L h.2
    rw [depthL]
    omega
end

set_option maxRecDepth 100000 in
set_option maxHeartbeats 6400000 in
theorem shows_law (t : Tree) (w : World) (ok : Nat → Prop) (he : Hid (Env w)) (hT : Hid (TreeAt w ok t)) (hz : Hid (szR (strip t) ≤ mostZ)) : Calls Tryz.prog 4 #[.agg t.cells] w fun e w' => e = .returned (.bool true) ∧ Below w.heap.size w w' := by
  obtain ⟨fw, hfw⟩ : ∃ b, Hid (fewR 0 (strip t) = b) := ⟨_, Lib.hid rfl⟩
  obtain ⟨sh, hsh⟩ : ∃ b, Hid (shownR (strip t) = b) := ⟨_, Lib.hid rfl⟩
  obtain ⟨dd, hdd⟩ : ∃ b, Hid (depthR (strip t) = b) := ⟨_, Lib.hid rfl⟩
  have c1 : Hid (∀ W, Below w.heap.size w W → Calls Tryz.prog 16 #[.agg t.cells, .int .i64 0] W fun e w' => e = .returned (.bool fw) ∧ Below W.heap.size W w') := fun W hW => by
    have h := few_any t 0 W ok (by omega) (hT.out.below hW)
    rw [hfw.out] at h
    exact h
  have c2 : Hid (∀ W, Below w.heap.size w W → Hid (Env W) → Calls Tryz.prog 17 #[.agg t.cells] W fun e w' => e = .returned (.string ⟨sh.toArray⟩) ∧ Below W.heap.size W w') := fun W hW hE => by
    have h := showR_any t W ok hE (hT.out.below hW) hz
    rw [hsh.out] at h
    exact h
  have c3 : Hid (∀ W, Below w.heap.size w W → Calls Tryz.prog 18 #[.agg t.cells] W fun e w' => e = .returned (.string ⟨sh.toArray⟩) ∧ Below W.heap.size W w') := fun W hW => by
    have h := rshowR_any t W ok (hT.out.below hW) hz
    rw [hsh.out] at h
    exact h
  have c4 : Hid (fw = true → ∀ W, Below w.heap.size w W → Calls Tryz.prog 19 #[.agg t.cells] W fun e w' => e = .returned (.int .i64 (dd : Nat)) ∧ Below W.heap.size W w') := fun hf W hW => by
    have h := depth_any t W ok (hT.out.below hW) (by have := few_depth 0 (strip t) (by rw [hfw.out]; exact hf); omega)
    rw [hdd.out] at h
    exact h
  have c5 : Hid (sh ≠ [] → dd ≤ 16 → sh.length ≤ 4096 → ruleT sh = .ok (strip t)) := fun h1 h2 h3 => by
    have h := hsh.out
    unfold shownR at h
    cases hm : mayR (strip t) with
    | false => rw [hm] at h; exact absurd h.symm h1
    | true =>
      rw [hm, if_pos rfl] at h
      rw [← h]
      exact show_back hm (by rw [hdd.out]; exact h2) (by rw [h]; exact h3) (tokR_some _ _ (Nat.le_refl _) hm)
  have c6 : Hid (∀ (u : Tree), strip u = strip t → ∀ W okU, Below w.heap.size w W → Hid (TreeAt W okU u) → Calls Tryz.prog 15 #[.agg t.cells, .agg u.cells] W fun e w' => e = .returned (.bool true) ∧ Below W.heap.size W w') := fun u hu W okU hW hU => by
    have h := same_any t u W ok okU (hT.out.below hW) hU
    rw [hu, eqR_refl] at h
    exact h
  have c7 : Hid (∀ (u : Tree), strip u = strip t → ∀ W okU, Hid (Env W) → Hid (TreeAt W okU u) → Calls Tryz.prog 17 #[.agg u.cells] W fun e w' => e = .returned (.string ⟨sh.toArray⟩) ∧ Below W.heap.size W w') := fun u hu W okU hE hU => by
    have h := showR_any u W okU hE hU (by rw [hu]; exact hz)
    rw [hu, hsh.out] at h
    exact h
  obtain ⟨R, hR⟩ : ∃ r, Hid (strip t = r) := ⟨_, Lib.hid rfl⟩
  rw [hR.out] at c5 c6 c7
  clear hfw hsh hdd hT hz hR
  obtain ⟨k, p, f, x, n, A, c, L⟩ := t
  simp only [Tree.cells] at c1 c2 c3 c4 c6 ⊢
  obtain ⟨m, hm⟩ : ∃ m, Hid (L.length = m) := ⟨_, Lib.hid rfl⟩
  rw [hm.out] at c1 c2 c3 c4 c6 ⊢
  have hb0 : Hid (Below w.heap.size w (w.alloc (.cells #[.int .i64 k, .int .i64 p, .string ⟨f.toArray⟩, .string ⟨x.toArray⟩, .int .i64 n, .slice A m c] 25))) := (Below.refl _ w).alloc (Nat.le_refl _) _
  have hx0 := Lib.hid (Blk.new w 25 #[.int .i64 k, .int .i64 p, .string ⟨f.toArray⟩, .string ⟨x.toArray⟩, .int .i64 n, .slice A m c])
  have he0 := Lib.hid (he.out.below hb0.out)
  obtain ⟨wa, hwa⟩ : ∃ y, Hid (w.alloc (.cells #[.int .i64 k, .int .i64 p, .string ⟨f.toArray⟩, .string ⟨x.toArray⟩, .int .i64 n, .slice A m c] 25) = y) := ⟨_, Lib.hid rfl⟩
  go_enter Tryz.func4, Tryz.ntmps4
  go_wp2_with fail
  change Calls Tryz.prog 12 _ (w.alloc (.cells #[.int .i64 k, .int .i64 p, .string ⟨f.toArray⟩, .string ⟨x.toArray⟩, .int .i64 n, .slice A m c] 25)) _
  rw [hwa.out] at hb0 hx0 he0 ⊢
  clear hwa
  refine (awake_any wa he0).mono ?_
  rintro e w1 ⟨rfl, hb1⟩
  have hB0 := hb0
  have hB1 := Lib.hid (hB0.out.trans (hb1.mono hB0.out.size))
  have hx1 := Lib.hid (hx0.out.below hb1 hx0.out.lt)
  have he1 := Lib.hid (he0.out.below hb1)
  clear hb1 hB0 hx0 he0
  have m0 : w1.cell? ⟨w.heap.size, 0, none⟩ = some (.int .i64 k) := hx1.out.cell 0
  have m1 : w1.cell? ⟨w.heap.size, 1, none⟩ = some (.int .i64 p) := hx1.out.cell 1
  have m2 : w1.cell? ⟨w.heap.size, 2, none⟩ = some (.string ⟨f.toArray⟩) := hx1.out.cell 2
  have m3 : w1.cell? ⟨w.heap.size, 3, none⟩ = some (.string ⟨x.toArray⟩) := hx1.out.cell 3
  have m4 : w1.cell? ⟨w.heap.size, 4, none⟩ = some (.int .i64 n) := hx1.out.cell 4
  have m5 : w1.cell? ⟨w.heap.size, 5, none⟩ = some (.slice A m c) := hx1.out.cell 5
  have mlt := hx1.out.lt
  go_wp2_with fail
  refine (c1.out w1 hB1.out).mono ?_
  rintro e w2 ⟨rfl, hb2⟩
  clear m0 m1 m2 m3 m4 m5 mlt
  have hB2 := Lib.hid (hB1.out.trans (hb2.mono hB1.out.size))
  have hx2 := Lib.hid (hx1.out.below hb2 hx1.out.lt)
  have he2 := Lib.hid (he1.out.below hb2)
  clear hb2 hB1 hx1 he1
  cases fw with
  | false =>
    go_wp2_with fail
    refine (awake_any w2 he2).mono ?_
    rintro e w3 ⟨rfl, hb3⟩
    go_wp2_with fail
    go_ret
    exact ⟨rfl, hB2.out.trans (hb3.mono hB2.out.size)⟩
  | true =>
    have m0 : w2.cell? ⟨w.heap.size, 0, none⟩ = some (.int .i64 k) := hx2.out.cell 0
    have m1 : w2.cell? ⟨w.heap.size, 1, none⟩ = some (.int .i64 p) := hx2.out.cell 1
    have m2 : w2.cell? ⟨w.heap.size, 2, none⟩ = some (.string ⟨f.toArray⟩) := hx2.out.cell 2
    have m3 : w2.cell? ⟨w.heap.size, 3, none⟩ = some (.string ⟨x.toArray⟩) := hx2.out.cell 3
    have m4 : w2.cell? ⟨w.heap.size, 4, none⟩ = some (.int .i64 n) := hx2.out.cell 4
    have m5 : w2.cell? ⟨w.heap.size, 5, none⟩ = some (.slice A m c) := hx2.out.cell 5
    have mlt := hx2.out.lt
    go_wp2_with fail
    refine (c2.out w2 hB2.out he2).mono ?_
    rintro e w3 ⟨rfl, hb3⟩
    clear m0 m1 m2 m3 m4 m5 mlt
    have hB3 := Lib.hid (hB2.out.trans (hb3.mono hB2.out.size))
    have hx3 := Lib.hid (hx2.out.below hb3 hx2.out.lt)
    have he3 := Lib.hid (he2.out.below hb3)
    clear hb3 hB2 hx2 he2
    have m0 : w3.cell? ⟨w.heap.size, 0, none⟩ = some (.int .i64 k) := hx3.out.cell 0
    have m1 : w3.cell? ⟨w.heap.size, 1, none⟩ = some (.int .i64 p) := hx3.out.cell 1
    have m2 : w3.cell? ⟨w.heap.size, 2, none⟩ = some (.string ⟨f.toArray⟩) := hx3.out.cell 2
    have m3 : w3.cell? ⟨w.heap.size, 3, none⟩ = some (.string ⟨x.toArray⟩) := hx3.out.cell 3
    have m4 : w3.cell? ⟨w.heap.size, 4, none⟩ = some (.int .i64 n) := hx3.out.cell 4
    have m5 : w3.cell? ⟨w.heap.size, 5, none⟩ = some (.slice A m c) := hx3.out.cell 5
    have mlt := hx3.out.lt
    go_wp2_with fail
    refine (c3.out w3 hB3.out).mono ?_
    rintro e w4 ⟨rfl, hb4⟩
    clear m0 m1 m2 m3 m4 m5 mlt
    have hB4 := Lib.hid (hB3.out.trans (hb4.mono hB3.out.size))
    have hx4 := Lib.hid (hx3.out.below hb4 hx3.out.lt)
    have he4 := Lib.hid (he3.out.below hb4)
    clear hb4 hB3 hx3 he3
    have ezl : (⟨sh.toArray⟩ : ByteArray).size = sh.length := by simp [ByteArray.size]
    by_cases hs : sh = []
    · subst hs
      go_wp2_with fail
      go_ret
      exact ⟨rfl, hB4.out⟩
    · have j1 : (sh == []) = false := by simpa using hs
      by_cases hl : 4096 < sh.length
      · have b1 : decide ((4096 : Int) < (sh.length : Int)) = true := by simp; omega
        have b2 : decide (4096 < sh.length) = true := by simpa using hl
        go_wp2_with fail
        go_ret
        exact ⟨rfl, hB4.out⟩
      · have b1 : decide ((4096 : Int) < (sh.length : Int)) = false := by simp; omega
        have b2 : decide (4096 < sh.length) = false := by simpa using hl
        have m0 : w4.cell? ⟨w.heap.size, 0, none⟩ = some (.int .i64 k) := hx4.out.cell 0
        have m1 : w4.cell? ⟨w.heap.size, 1, none⟩ = some (.int .i64 p) := hx4.out.cell 1
        have m2 : w4.cell? ⟨w.heap.size, 2, none⟩ = some (.string ⟨f.toArray⟩) := hx4.out.cell 2
        have m3 : w4.cell? ⟨w.heap.size, 3, none⟩ = some (.string ⟨x.toArray⟩) := hx4.out.cell 3
        have m4 : w4.cell? ⟨w.heap.size, 4, none⟩ = some (.int .i64 n) := hx4.out.cell 4
        have m5 : w4.cell? ⟨w.heap.size, 5, none⟩ = some (.slice A m c) := hx4.out.cell 5
        have mlt := hx4.out.lt
        go_wp2_with fail
        refine (c4.out (by first | rfl | trivial) w4 hB4.out).mono ?_
        rintro e w5 ⟨rfl, hb5⟩
        clear m0 m1 m2 m3 m4 m5 mlt
        have hB5 := Lib.hid (hB4.out.trans (hb5.mono hB4.out.size))
        have hx5 := Lib.hid (hx4.out.below hb5 hx4.out.lt)
        have he5 := Lib.hid (he4.out.below hb5)
        clear hb5 hB4 hx4 he4
        by_cases hd : 16 < dd
        · have b3 : decide ((16 : Int) < (dd : Int)) = true := by simp; omega
          have b4 : decide (16 < dd) = true := by simpa using hd
          go_wp2_with fail
          go_ret
          exact ⟨rfl, hB5.out⟩
        · have b3 : decide ((16 : Int) < (dd : Int)) = false := by simp; omega
          have b4 : decide (16 < dd) = false := by simpa using hd
          have hrt := Lib.hid (c5.out hs (by omega) (by omega))
          have hrf : Hid (Calls Tryz.prog 13 #[.string ⟨sh.toArray⟩] w5 (RuleOut w5 sh)) := rule_full_any ⟨sh.toArray⟩ w5 (by rw [ezl]; unfold maxLen; omega) he5
          clear c1 c2 c3 c4 c5
          go_wp2_with fail
          refine hrf.out.mono ?_
          rintro e w6 ⟨hb6, hcase⟩
          rw [hrt.out] at hcase
          obtain ⟨u, rfl, hU, hsu⟩ := hcase
          have hU' := Lib.hid hU
          have hB6 := Lib.hid (hB5.out.trans (hb6.mono hB5.out.size))
          have hx6 := Lib.hid (hx5.out.below hb6 hx5.out.lt)
          have he6 := Lib.hid (he5.out.below hb6)
          clear hb6 hB5 hx5 he5
          clear hU hrf hrt
          have hbl : Below w6.heap.size w6 (w6.alloc (.cells u.cells 25)) := (Below.refl _ w6).alloc (Nat.le_refl _) _
          have hB7 := Lib.hid (hB6.out.trans (hbl.mono hB6.out.size))
          have hx7 := Lib.hid (hx6.out.below hbl hx6.out.lt)
          have he7 := Lib.hid (he6.out.below hbl)
          have hM7 := Lib.hid (Blk.new w6 25 u.cells)
          have hU7 := Lib.hid (hU'.out.below hbl)
          have d6 := Lib.hid (c6.out u hsu (w6.alloc (.cells u.cells 25)) _ hB7.out hU7)
          have d7 := Lib.hid (fun W (hW : Below (w6.alloc (.cells u.cells 25)).heap.size (w6.alloc (.cells u.cells 25)) W) => c7.out u hsu W _ (he7.out.below hW) (Lib.hid (hU7.out.below hW)))
          have ne1 : w6.heap.size ≠ w.heap.size := by have := hx6.out.lt; omega
          have ne2 : w.heap.size ≠ w6.heap.size := by have := hx6.out.lt; omega
          clear hbl hB6 hx6 he6 hU' hU7 c6 c7 hsu he7
          obtain ⟨uk, up, uf, ux, un, uA, uc, uL⟩ := u
          simp only [Tree.cells] at hB7 hx7 hM7 d6 d7 ⊢
          obtain ⟨wb, hwb⟩ : ∃ y, Hid (w6.alloc (.cells #[.int .i64 uk, .int .i64 up, .string ⟨uf.toArray⟩, .string ⟨ux.toArray⟩, .int .i64 un, .slice uA uL.length uc] 25) = y) := ⟨_, Lib.hid rfl⟩
          go_upto_region 9 with fail
          rw [hwb.out] at hB7 hx7 hM7 d6 d7 ⊢
          clear hwb
          have m0 : wb.cell? ⟨w.heap.size, 0, none⟩ = some (.int .i64 k) := hx7.out.cell 0
          have m1 : wb.cell? ⟨w.heap.size, 1, none⟩ = some (.int .i64 p) := hx7.out.cell 1
          have m2 : wb.cell? ⟨w.heap.size, 2, none⟩ = some (.string ⟨f.toArray⟩) := hx7.out.cell 2
          have m3 : wb.cell? ⟨w.heap.size, 3, none⟩ = some (.string ⟨x.toArray⟩) := hx7.out.cell 3
          have m4 : wb.cell? ⟨w.heap.size, 4, none⟩ = some (.int .i64 n) := hx7.out.cell 4
          have m5 : wb.cell? ⟨w.heap.size, 5, none⟩ = some (.slice A m c) := hx7.out.cell 5
          have mlt := hx7.out.lt
          have v0 : wb.cell? ⟨w6.heap.size, 0, none⟩ = some (.int .i64 uk) := hM7.out.cell 0
          have v1 : wb.cell? ⟨w6.heap.size, 1, none⟩ = some (.int .i64 up) := hM7.out.cell 1
          have v2 : wb.cell? ⟨w6.heap.size, 2, none⟩ = some (.string ⟨uf.toArray⟩) := hM7.out.cell 2
          have v3 : wb.cell? ⟨w6.heap.size, 3, none⟩ = some (.string ⟨ux.toArray⟩) := hM7.out.cell 3
          have v4 : wb.cell? ⟨w6.heap.size, 4, none⟩ = some (.int .i64 un) := hM7.out.cell 4
          have v5 : wb.cell? ⟨w6.heap.size, 5, none⟩ = some (.slice uA uL.length uc) := hM7.out.cell 5
          have vlt := hM7.out.lt
          go_wp2_with fail
          refine d6.out.mono ?_
          rintro e w8 ⟨rfl, hb8⟩
          have hM8 := Lib.hid (hM7.out.below hb8 hM7.out.lt)
          have hB8 := Lib.hid (hB7.out.trans (hb8.mono hB7.out.size))
          have d8 := Lib.hid (d7.out w8 hb8)
          clear m0 m1 m2 m3 m4 m5 mlt v0 v1 v2 v3 v4 v5 vlt hb8 hx7 hM7 d6 d7 hB7
          have v0 : w8.cell? ⟨w6.heap.size, 0, none⟩ = some (.int .i64 uk) := hM8.out.cell 0
          have v1 : w8.cell? ⟨w6.heap.size, 1, none⟩ = some (.int .i64 up) := hM8.out.cell 1
          have v2 : w8.cell? ⟨w6.heap.size, 2, none⟩ = some (.string ⟨uf.toArray⟩) := hM8.out.cell 2
          have v3 : w8.cell? ⟨w6.heap.size, 3, none⟩ = some (.string ⟨ux.toArray⟩) := hM8.out.cell 3
          have v4 : w8.cell? ⟨w6.heap.size, 4, none⟩ = some (.int .i64 un) := hM8.out.cell 4
          have v5 : w8.cell? ⟨w6.heap.size, 5, none⟩ = some (.slice uA uL.length uc) := hM8.out.cell 5
          have vlt := hM8.out.lt
          go_wp2_with fail
          refine d8.out.mono ?_
          rintro e w9 ⟨rfl, hb9⟩
          go_wp2_with fail
          go_ret
          exact ⟨by simp, hB8.out.trans (hb9.mono hB8.out.size)⟩

end Go.Proofs.YtjkmhlfjheiekaaGreatDoor

/- The walk of the law ExamineTurns. -/
import Derived.Test.YtpnkpnocipkedaaDoorTb
namespace Go.Proofs.YtpnkpnocipkedaaDoor
open Go Go.RowKit Go.BigFrame Go.Maps

theorem quiet_blk {P : Program} {C : World → Prop} {K : Act → Prop} {o : Oper} {a : Act} (ty : TypeId) (x : Operand) (ho : o.op = .load ty x) (g : Nat) (cs : Array Value) (t : TypeId) (d : TypeDesc) (hx : a.eval x = .pointer (some ⟨g, 0, none⟩))
    (hb : ∀ w, C w → Blk w g t cs) (hu : P.underlying ty = some d) (hd : (match d with | .struct _ | .array _ _ => true | _ => false) = true) (hi : (P.info? ty).map (·.size) = some cs.size)
    (hk : K (a.put o.dst (.agg cs))) : o.quiet P a C K := by
  refine ⟨_, fun w hw => ?_, hk⟩
  unfold Oper.quietAt execOp
  simp only [ho, hx, Instr.loadAt, Instr.sureAddr, Sem.run_bind, Sem.run_pure, Result.andThen_ok, run_loadVar_row w g t ty cs (0, 0) d (hb w hw) hu hd hi]
  exact ⟨rfl, rfl⟩
theorem wpList_load_if {P : Program} {ops : Array Oper} {o : Oper} {rest : List Oper} {a : Act} {w : World} {Q : Exit → Act → World → Prop} (hw : Region.wanted o (yielded ops a.tmps) = true) (ty : TypeId) (x : Operand) (ho : o.op = .load ty x) (g : Nat) (cs : Array Value) (t : TypeId) (d : TypeDesc) (hx : a.eval x = .pointer (some ⟨g, 0, none⟩))
    (hb : Blk w g t cs) (hu : P.underlying ty = some d) (hd : (match d with | .struct _ | .array _ _ => true | _ => false) = true) (hi : (P.info? ty).map (·.size) = some cs.size)
    (h : wpList P ops Q rest (a.put o.dst (.agg cs)) w) : wpList P ops Q (o :: rest) a w := by
  rw [wpList, if_pos hw]
  exact .inl (wp_load_row ty x ho g hx t cs (0, 0) d hb hu hd hi h)
set_option maxRecDepth 100000 in
set_option maxHeartbeats 6400000 in
theorem turns_law (s t : Tree) (A : Option Addr) (nn c : Nat) (docs : List Pap) (a : Int) (w : World) (hS : Hid (TreeAt w s)) (hT : Hid (TreeAt w t)) (hLS : Hid (LongT s)) (hLT : Hid (LongT t)) (hnn : Hid (docs.length = nn)) (hmn : nn ≤ maxLen) (hD : Hid (DocsAt w A docs)) (hLD : Hid (LongD docs)) (he : Hid (Env w)) :
    Calls Tryd.prog 5 #[.agg s.cells, .agg t.cells, .slice A nn c, .int .i64 a] w fun e w' => e = .returned (.bool true) ∧ Below w.heap.size w w' := by
  have hmn' := Lib.hid hmn
  clear hmn
  have hszS := Lib.hid (fun W m (h : m ≤ 1000) (hT : Hid (TreeAt W s)) => size_any s m W h hLS hT)
  have hszT := Lib.hid (fun W m (h : m ≤ 1000) (hT : Hid (TreeAt W t)) => size_any t m W h hLT hT)
  obtain ⟨zs, hzs⟩ : ∃ zs, Hid (sizeT s 200 = zs) := ⟨_, rfl⟩
  obtain ⟨zt, hzt⟩ : ∃ zs, Hid (sizeT t 200 = zs) := ⟨_, rfl⟩
  have hcs : Hid (∃ k p f x n A c L m, s.cells = #[.int .i64 k, .int .i64 p, .string f, .string x, .int .i64 n, .slice A m c] ∧ s = .mk k p f x n A c L ∧ L.length = m) := by
    obtain ⟨k, p, f, x, n, A, c, L⟩ := s
    exact ⟨k, p, f, x, n, A, c, L, _, rfl, rfl, rfl⟩
  have hct : Hid (∃ k p f x n A c L m, t.cells = #[.int .i64 k, .int .i64 p, .string f, .string x, .int .i64 n, .slice A m c] ∧ t = .mk k p f x n A c L ∧ L.length = m) := by
    obtain ⟨k, p, f, x, n, A, c, L⟩ := t
    exact ⟨k, p, f, x, n, A, c, L, _, rfl, rfl, rfl⟩
  obtain ⟨sk, sp, sf, sx, sn, sA, sc, sL, sm, hsc, hrs, hrt⟩ := hcs.out
  clear hrs hrt
  obtain ⟨tk, tp, tf, tx, tn, tA, tc, tL, tm, htc, hrs, hrt⟩ := hct.out
  clear hrs hrt hcs hct
  have hsc' := Lib.hid hsc
  have htc' := Lib.hid htc
  rw [hsc, htc]
  clear hsc htc
  have hb0 := Lib.hid (((Below.refl _ w).alloc (Nat.le_refl _) (.cells #[.int .i64 sk, .int .i64 sp, .string sf, .string sx, .int .i64 sn, .slice sA sm sc] 24)).alloc (by simp) (.cells #[.int .i64 tk, .int .i64 tp, .string tf, .string tx, .int .i64 tn, .slice tA tm tc] 24))
  have hbs0 := Lib.hid ((Blk.new w 24 #[.int .i64 sk, .int .i64 sp, .string sf, .string sx, .int .i64 sn, .slice sA sm sc]).alloc (.cells #[.int .i64 tk, .int .i64 tp, .string tf, .string tx, .int .i64 tn, .slice tA tm tc] 24))
  have hbt0 := Lib.hid (blk_second w (.cells #[.int .i64 sk, .int .i64 sp, .string sf, .string sx, .int .i64 sn, .slice sA sm sc] 24) 24 #[.int .i64 tk, .int .i64 tp, .string tf, .string tx, .int .i64 tn, .slice tA tm tc])
  go_enter Tryd.func5, Tryd.ntmps5
  go_wp2_with fail
  refine (awake_any _ (he.out.below hb0.out)).mono ?_
  rintro e w1 ⟨rfl, hb1⟩
  have hB1 : Hid (Below w.heap.size w w1) := hb0.out.trans (hb1.mono (by simp; omega))
  have hbs1 := Lib.hid (hbs0.out.below hb1 hbs0.out.lt)
  have hbt1 := Lib.hid (hbt0.out.below hb1 hbt0.out.lt)
  clear hb1 hbs0 hbt0
  go_wp2_with fail
  refine (few_any _ none 0 0 [] A nn c docs w1 ?hc1 ?hc2 rfl hnn (Nat.zero_le _) hmn'.out (fun k x hk => by simp at hk) (hD.out.below hB1.out) hLD).mono ?_
  case hc1 => rfl
  case hc2 => rfl
  rintro e w2 ⟨rfl, hb2⟩
  have hB2 : Hid (Below w.heap.size w w2) := hB1.out.trans (hb2.mono hB1.out.size)
  have hbs2 := Lib.hid (hbs1.out.below hb2 hbs1.out.lt)
  have hbt2 := Lib.hid (hbt1.out.below hb2 hbt1.out.lt)
  clear hb2 hbs1 hbt1
  obtain ⟨fb, hfb⟩ : ∃ fb, Hid (fewB [] docs = fb) := ⟨_, rfl⟩
  rw [hfb.out]
  cases fb with
  | false =>
    go_wp2_with fail
    go_ret
    exact ⟨rfl, hB2.out⟩
  | true =>
    obtain ⟨_, hn12, hsd, _⟩ := few_docs hfb.out
    have hsd' := Lib.hid hsd
    have hn12' : Hid (nn ≤ 1000) := by have := hnn.out; unfold Hid; omega
    clear hsd hn12
    have hHf := Lib.hid (fun d m (hd : docs[m]? = some d) => holdsF_of A nn c docs m d hd)
    go_wp2_with (refine wpList_load_if rfl 24 (.tmp 4) rfl w.heap.size _ 24 _ rfl hbs2.out Tryd.underlying24 rfl (by kernel_rfl) ?_)
    have hz1 := hszS.out w2 200 (by omega) (hS.out.below hB2.out)
    rw [hsc'.out, hzs.out] at hz1
    refine hz1.mono ?_
    clear hz1
    rintro e w3 ⟨rfl, hb3⟩
    have hB3 : Hid (Below w.heap.size w w3) := hB2.out.trans (hb3.mono hB2.out.size)
    have hbs3 := Lib.hid (hbs2.out.below hb3 hbs2.out.lt)
    have hbt3 := Lib.hid (hbt2.out.below hb3 hbt2.out.lt)
    clear hb3 hbs2 hbt2
    by_cases hz4 : 40 < zs
    · have hz4' : decide (40 < zs) = true := by simp [hz4]
      go_wp2_with fail
      all_goals try (exfalso; omega)
      go_ret
      exact ⟨rfl, hB3.out⟩
    have hz4' : decide (40 < zs) = false := by simp; omega
    go_wp2_with (refine wpList_load_if rfl 24 (.tmp 5) rfl (w.heap.size + 1) _ 24 _ rfl hbt3.out Tryd.underlying24 rfl (by kernel_rfl) ?_)
    all_goals try (exfalso; omega)
    have hz1 := hszT.out w3 200 (by omega) (hT.out.below hB3.out)
    rw [htc'.out, hzt.out] at hz1
    refine hz1.mono ?_
    clear hz1
    rintro e w4 ⟨rfl, hb4⟩
    have hB4 : Hid (Below w.heap.size w w4) := hB3.out.trans (hb4.mono hB3.out.size)
    have hbs4 := Lib.hid (hbs3.out.below hb4 hbs3.out.lt)
    have hbt4 := Lib.hid (hbt3.out.below hb4 hbt3.out.lt)
    clear hb4 hbs3 hbt3 hz4'
    by_cases hz5 : 40 < zt
    · have hz5' : decide (40 < zt) = true := by simp [hz5]
      go_wp2_with fail
      all_goals try (exfalso; omega)
      go_ret
      exact ⟨rfl, hB4.out⟩
    have hz5' : decide (40 < zt) = false := by simp; omega
    by_cases hat : 0 ≤ a ∧ a < nn
    · obtain ⟨m, rfl⟩ : ∃ m : Nat, a = m := ⟨a.toNat, by omega⟩
      obtain ⟨d, hd⟩ : ∃ d, docs[m]? = some d := ⟨_, List.getElem?_eq_getElem (by have := hnn.out; omega)⟩
      have hHd := Lib.hid (hHf.out d m hd)
      obtain ⟨x, hx⟩ : ∃ x, Hid (holdsT docs d s = x) := ⟨_, rfl⟩
      obtain ⟨yv, hy⟩ : ∃ y, Hid (holdsT docs d t = y) := ⟨_, rfl⟩
      have hx2 := holdsT_range docs d s
      have hy2 := holdsT_range docs d t
      rw [hx.out] at hx2
      rw [hy.out] at hy2
      have ha1 : decide ((m : Int) < 0) = false := by simp
      have ha2 : decide ((nn : Int) ≤ (m : Int)) = false := by simp; omega
      go_upto_region 8 with (first | (refine wpList_load_blk rfl 24 (.tmp 4) rfl w.heap.size _ 24 _ rfl (by first | exact hbs4.out | exact (hbs4.out.alloc _).alloc _) Tryd.underlying24 rfl (by kernel_rfl) ?_) | (refine wpList_load_blk rfl 24 (.tmp 5) rfl (w.heap.size + 1) _ 24 _ rfl (by first | exact hbt4.out | exact (hbt4.out.alloc _).alloc _) Tryd.underlying24 rfl (by kernel_rfl) ?_))
      all_goals try (exfalso; omega)
      have hST : Hid (s.cells ++ t.cells = #[.int .i64 sk, .int .i64 sp, .string sf, .string sx, .int .i64 sn, .slice sA sm sc, .int .i64 tk, .int .i64 tp, .string tf, .string tx, .int .i64 tn, .slice tA tm tc]) := by unfold Hid; rw [hsc'.out, htc'.out]; rfl
      obtain ⟨w5, hw5⟩ : ∃ W, W = (((w4.alloc (.cells #[.int .i64 sk, .int .i64 sp, .string sf, .string sx, .int .i64 sn, .slice sA sm sc, .int .i64 tk, .int .i64 tp, .string tf, .string tx, .int .i64 tn, .slice tA tm tc] 24)).alloc (.cells (ruC 0 (.slice (some ⟨w4.heap.size, 0, none⟩) 2 2)) 24)).alloc (.cells #[.int .i64 sk, .int .i64 sp, .string sf, .string sx, .int .i64 sn, .slice sA sm sc, .int .i64 tk, .int .i64 tp, .string tf, .string tx, .int .i64 tn, .slice tA tm tc] 24)).alloc (.cells (ruC 1 (.slice (some ⟨w4.heap.size + 1 + 1, 0, none⟩) 2 2)) 24) := ⟨_, rfl⟩
      have hmem := turn_mem (hS.out.below hB4.out) (hT.out.below hB4.out) hST.out hw5
      rw [← hw5]
      clear hw5
      obtain ⟨hb5, hka, hky, hTa, hTy⟩ := hmem
      have hB5 := Lib.hid (hB4.out.trans (hb5.mono hB4.out.size))
      have hbs5 := Lib.hid (hbs4.out.below hb5 hbs4.out.lt)
      have hbt5 := Lib.hid (hbt4.out.below hb5 hbt4.out.lt)
      have hka5 := Lib.hid hka
      have hky5 := Lib.hid hky
      have hTa5 := Lib.hid hTa
      have hTy5 := Lib.hid hTy
      obtain ⟨ga, hga⟩ : ∃ g, Hid (w4.heap.size = g) := ⟨_, rfl⟩
      rw [hga.out] at hka5 hky5 hTa5 hTy5 ⊢
      clear hb5 hka hky hTa hTy hbs4 hbt4 hz5' ha1 ha2
      have hRo : Hid (∀ y : Ext w5, Room y.wd A nn docs ∧ TreeAt y.wd s ∧ TreeAt y.wd t) := fun y => by
        have hb : Below w.heap.size w y.wd := hB5.out.trans (y.below.mono hB5.out.size)
        exact ⟨⟨hnn.out, hn12'.out, hD.out.below hb, he.out.below hb, hsd'.out⟩, hS.out.below hb, hT.out.below hb⟩
      have hh1 : Hid (∀ y : Ext w5, Calls Tryd.prog 17 #[.agg #[.int .i64 sk, .int .i64 sp, .string sf, .string sx, .int .i64 sn, .slice sA sm sc], .slice A nn c, .int .i64 m] y.wd fun e w' => e = .returned (.int .i64 x) ∧ Below y.wd.heap.size y.wd w') := fun y => by
        have := hHd.out s y.wd (hRo.out y).2.1 (hRo.out y).1
        rw [hsc'.out, hx.out] at this
        exact this
      have hh2 : Hid (∀ y : Ext w5, Calls Tryd.prog 17 #[.agg #[.int .i64 tk, .int .i64 tp, .string tf, .string tx, .int .i64 tn, .slice tA tm tc], .slice A nn c, .int .i64 m] y.wd fun e w' => e = .returned (.int .i64 yv) ∧ Below y.wd.heap.size y.wd w') := fun y => by
        have := hHd.out t y.wd (hRo.out y).2.2 (hRo.out y).1
        rw [htc'.out, hy.out] at this
        exact this
      refine wp_region_ext (by kernel_rfl) (by kernel_rfl) ?_
      repeat (first
        | (go_big_quiet_want; (refine quiet_blk 24 (.tmp 4) rfl w.heap.size _ 24 _ rfl (by rintro _ ⟨y, rfl⟩; exact hbs5.out.below y.below hbs5.out.lt) Tryd.underlying24 rfl (by kernel_rfl) ?_); go_big_quiet_on; simp only [Act.put, List.setIfInBounds_toArray, List.set_cons_zero, List.set_cons_succ])
        | (go_big_quiet_want; (refine quiet_blk 24 (.tmp 5) rfl (w.heap.size + 1) _ 24 _ rfl (by rintro _ ⟨y, rfl⟩; exact hbt5.out.below y.below hbt5.out.lt) Tryd.underlying24 rfl (by kernel_rfl) ?_); go_big_quiet_on; simp only [Act.put, List.setIfInBounds_toArray, List.set_cons_zero, List.set_cons_succ])
        | go_big_quiet_step ((go_at_call 17; first | with_reducible exact Calls.ext_of (hh1.out _) | with_reducible exact Calls.ext_of (hh2.out _))))
      refine wpQuiet_nil ?_
      rintro _ ⟨y, rfl⟩
      have hb6 := Lib.hid y.below
      obtain ⟨w6, hw6⟩ : ∃ w6, y.wd = w6 := ⟨_, rfl⟩
      rw [hw6] at hb6 ⊢
      clear hw6 y hh1 hh2 hRo
      have hB6 := Lib.hid (hB5.out.trans (hb6.out.mono hB5.out.size))
      have hbs6 := Lib.hid (hbs5.out.below hb6.out hbs5.out.lt)
      have hbt6 := Lib.hid (hbt5.out.below hb6.out hbt5.out.lt)
      have hka6 := Lib.hid (hka5.out.below hb6.out hka5.out.lt)
      have hky6 := Lib.hid (hky5.out.below hb6.out hky5.out.lt)
      have hTa6 := Lib.hid (hTa5.out.below hb6.out)
      have hTy6 := Lib.hid (hTy5.out.below hb6.out)
      clear hb6 hbs5 hbt5 hka5 hky5 hTa5 hTy5
      have hRw : Hid (∀ W, Below w.heap.size w W → Room W A nn docs ∧ TreeAt W s ∧ TreeAt W t) := fun W hb => ⟨⟨hnn.out, hn12'.out, hD.out.below hb, he.out.below hb, hsd'.out⟩, hS.out.below hb, hT.out.below hb⟩
      have hq1 : (x : Int) ≤ 2 := hx2.2
      have hq0 : (0 : Int) ≤ x := hx2.1
      have hp1 : decide (x < 0) = false := decide_eq_false (by omega)
      have hp2 : decide (2 < x) = false := decide_eq_false (by omega)
      have hn1 : Hid (∀ W g, TreeAt W (ruT 2 g [s]) → Room W A nn docs → Calls Tryd.prog 17 #[.agg (ruC 2 (.slice (some ⟨g, 0, none⟩) 1 1)), .slice A nn c, .int .i64 m] W fun e w' => e = .returned (.int .i64 (2 - x)) ∧ Below W.heap.size W w') := fun W g hT hR => by
        have := hHd.out (ruT 2 g [s]) W hT hR
        rw [turn_not, hx.out] at this
        exact this
      have hn2 : Hid (∀ W g g', TreeAt W (ruT 2 g' [ruT 2 g [s]]) → Room W A nn docs → Calls Tryd.prog 17 #[.agg (ruC 2 (.slice (some ⟨g', 0, none⟩) 1 1)), .slice A nn c, .int .i64 m] W fun e w' => e = .returned (.int .i64 x) ∧ Below W.heap.size W w') := fun W g g' hT hR => by
        have := hHd.out (ruT 2 g' [ruT 2 g [s]]) W hT hR
        rw [turn_not, turn_not, hx.out, show 2 - (2 - x) = x by omega] at this
        exact this
      go_wp2_with (refine wpList_load_if rfl 24 (.tmp 4) rfl w.heap.size _ 24 _ rfl hbs6.out Tryd.underlying24 rfl (by kernel_rfl) ?_)
      refine (not_any _ _ _ _).mono ?_
      rintro e w7 ⟨rfl, hb7⟩
      have ha7 := below_new w6 (.cells #[.int .i64 sk, .int .i64 sp, .string sf, .string sx, .int .i64 sn, .slice sA sm sc] 24)
      have hm7 := Lib.hid ((mem_one 2 (w := w6) (hRw.out w6 hB6.out).2.1 hsc'.out).below hb7)
      have hb67 := Lib.hid (ha7.trans (hb7.mono ha7.size))
      have hs67 : w6.heap.size < w7.heap.size := by have := hb7.size; rw [World.size_alloc] at this; omega
      clear ha7 hb7
      have hbs7 := Lib.hid (hbs6.out.below hb67.out hbs6.out.lt)
      have hbt7 := Lib.hid (hbt6.out.below hb67.out hbt6.out.lt)
      have hka7 := Lib.hid (hka6.out.below hb67.out hka6.out.lt)
      have hky7 := Lib.hid (hky6.out.below hb67.out hky6.out.lt)
      have hTa7 := Lib.hid (hTa6.out.below hb67.out)
      have hTy7 := Lib.hid (hTy6.out.below hb67.out)
      have hB7 := Lib.hid (hB6.out.trans (hb67.out.mono hB6.out.size))
      clear hbs6 hbt6 hka6 hky6 hTa6 hTy6 hb67
      go_wp2_with fail
      refine (not_any _ _ _ _).mono ?_
      rintro e w8 ⟨rfl, hb8⟩
      have ha8 := below_new w7 (.cells (ruC 2 (.slice (some ⟨w6.heap.size, 0, none⟩) 1 1)) 24)
      have hm8 := Lib.hid ((mem_one 2 (w := w7) hm7.out rfl).below hb8)
      have hb78 := Lib.hid (ha8.trans (hb8.mono ha8.size))
      clear ha8 hb8
      have hbs8 := Lib.hid (hbs7.out.below hb78.out hbs7.out.lt)
      have hbt8 := Lib.hid (hbt7.out.below hb78.out hbt7.out.lt)
      have hka8 := Lib.hid (hka7.out.below hb78.out hka7.out.lt)
      have hky8 := Lib.hid (hky7.out.below hb78.out hky7.out.lt)
      have hTa8 := Lib.hid (hTa7.out.below hb78.out)
      have hTy8 := Lib.hid (hTy7.out.below hb78.out)
      have hB8 := Lib.hid (hB7.out.trans (hb78.out.mono hB7.out.size))
      clear hbs7 hbt7 hka7 hky7 hTa7 hTy7 hb78
      go_wp2_with fail
      refine (hn2.out w8 _ _ hm8.out (hRw.out w8 hB8.out).1).mono ?_
      rintro e w9 ⟨rfl, hb9⟩
      have hbs9 := Lib.hid (hbs8.out.below hb9 hbs8.out.lt)
      have hbt9 := Lib.hid (hbt8.out.below hb9 hbt8.out.lt)
      have hka9 := Lib.hid (hka8.out.below hb9 hka8.out.lt)
      have hky9 := Lib.hid (hky8.out.below hb9 hky8.out.lt)
      have hTa9 := Lib.hid (hTa8.out.below hb9)
      have hTy9 := Lib.hid (hTy8.out.below hb9)
      have hB9 := Lib.hid (hB8.out.trans (hb9.mono hB8.out.size))
      clear hbs8 hbt8 hka8 hky8 hTa8 hTy8 hb9 hm7 hm8
      go_wp2_with (refine wpList_load_if rfl 24 (.tmp 4) rfl w.heap.size _ 24 _ rfl hbs9.out Tryd.underlying24 rfl (by kernel_rfl) ?_)
      refine (not_any _ _ _ _).mono ?_
      rintro e wa ⟨rfl, hba⟩
      have haa := below_new w9 (.cells #[.int .i64 sk, .int .i64 sp, .string sf, .string sx, .int .i64 sn, .slice sA sm sc] 24)
      have hma := Lib.hid ((mem_one 2 (w := w9) (hRw.out w9 hB9.out).2.1 hsc'.out).below hba)
      have hb9a := Lib.hid (haa.trans (hba.mono haa.size))
      clear haa hba
      have hbsa := Lib.hid (hbs9.out.below hb9a.out hbs9.out.lt)
      have hbta := Lib.hid (hbt9.out.below hb9a.out hbt9.out.lt)
      have hkaa := Lib.hid (hka9.out.below hb9a.out hka9.out.lt)
      have hkya := Lib.hid (hky9.out.below hb9a.out hky9.out.lt)
      have hTaa := Lib.hid (hTa9.out.below hb9a.out)
      have hTya := Lib.hid (hTy9.out.below hb9a.out)
      have hBa := Lib.hid (hB9.out.trans (hb9a.out.mono hB9.out.size))
      clear hbs9 hbt9 hka9 hky9 hTa9 hTy9
      clear hb9a
      go_wp2_with fail
      refine (hn1.out wa _ hma.out (hRw.out wa hBa.out).1).mono ?_
      rintro e wb ⟨rfl, hbb⟩
      have hbsb := Lib.hid (hbsa.out.below hbb hbsa.out.lt)
      have hbtb := Lib.hid (hbta.out.below hbb hbta.out.lt)
      have hkab := Lib.hid (hkaa.out.below hbb hkaa.out.lt)
      have hkyb := Lib.hid (hkya.out.below hbb hkya.out.lt)
      have hTab := Lib.hid (hTaa.out.below hbb)
      have hTyb := Lib.hid (hTya.out.below hbb)
      have hBb := Lib.hid (hBa.out.trans (hbb.mono hBa.out.size))
      clear hbsa hbta hkaa hkya hTaa hTya
      clear hbb hma
      have hmx : Hid (∀ W, TreeAt W (ruT 0 ga [s, t]) → Room W A nn docs → Calls Tryd.prog 17 #[.agg (ruC 0 (.slice (some ⟨ga, 0, none⟩) 2 2)), .slice A nn c, .int .i64 m] W fun e w' => e = .returned (.int .i64 (max x yv)) ∧ Below W.heap.size W w') := fun W hT hR => by
        have := hHd.out (ruT 0 ga [s, t]) W hT hR
        rw [turn_all, hx.out, hy.out] at this
        exact this
      have hmn : Hid (∀ W, TreeAt W (ruT 1 (ga + 1 + 1) [s, t]) → Room W A nn docs → Calls Tryd.prog 17 #[.agg (ruC 1 (.slice (some ⟨ga + 1 + 1, 0, none⟩) 2 2)), .slice A nn c, .int .i64 m] W fun e w' => e = .returned (.int .i64 (min x yv)) ∧ Below W.heap.size W w') := fun W hT hR => by
        have := hHd.out (ruT 1 (ga + 1 + 1) [s, t]) W hT hR
        rw [turn_any, hx.out, hy.out] at this
        exact this
      go_wp2_with (refine wpList_load_blk rfl 24 (.tmp 10) rfl (ga + 1) _ 24 _ rfl hkab.out Tryd.underlying24 rfl (by kernel_rfl) ?_)
      refine (hmx.out wb hTab.out (hRw.out wb hBb.out).1).mono ?_
      rintro e wc ⟨rfl, hbc⟩
      have hbsc := Lib.hid (hbsb.out.below hbc hbsb.out.lt)
      have hbtc := Lib.hid (hbtb.out.below hbc hbtb.out.lt)
      have hkac := Lib.hid (hkab.out.below hbc hkab.out.lt)
      have hkyc := Lib.hid (hkyb.out.below hbc hkyb.out.lt)
      have hTac := Lib.hid (hTab.out.below hbc)
      have hTyc := Lib.hid (hTyb.out.below hbc)
      have hBc := Lib.hid (hBb.out.trans (hbc.mono hBb.out.size))
      clear hbsb hbtb hkab hkyb hTab hTyb
      clear hbc
      go_wp2_with (refine wpList_load_if rfl 24 (.tmp 11) rfl (ga + 1 + 1 + 1) _ 24 _ rfl hkyc.out Tryd.underlying24 rfl (by kernel_rfl) ?_)
      refine (hmn.out wc hTyc.out (hRw.out wc hBc.out).1).mono ?_
      rintro e we ⟨rfl, hbe⟩
      have hbse := Lib.hid (hbsc.out.below hbe hbsc.out.lt)
      have hbte := Lib.hid (hbtc.out.below hbe hbtc.out.lt)
      have hkae := Lib.hid (hkac.out.below hbe hkac.out.lt)
      have hkye := Lib.hid (hkyc.out.below hbe hkyc.out.lt)
      have hTae := Lib.hid (hTac.out.below hbe)
      have hTye := Lib.hid (hTyc.out.below hbe)
      have hBe := Lib.hid (hBc.out.trans (hbe.mono hBc.out.size))
      clear hbsc hbtc hkac hkyc hTac hTyc
      clear hbe
      go_wp2_with fail
      have hRx : ∀ W, Below we.heap.size we W → Room W A nn docs ∧ TreeAt W s ∧ TreeAt W t ∧ TreeAt W (ruT 0 ga [s, t]) := fun W hb => by
        have h := hRw.out W (hBe.out.trans (hb.mono hBe.out.size))
        exact ⟨h.1, h.2.1, h.2.2, hTae.out.below hb⟩
      have hall : Hid (holdsT docs d (ruT 0 ga [s, t]) = max x yv) := by unfold Hid; rw [turn_all, hx.out, hy.out]
      have hbkS : Hid (Blk we w.heap.size 24 s.cells) := by unfold Hid; rw [hsc'.out]; exact hbse.out
      have hbkT : Hid (Blk we (w.heap.size + 1) 24 t.cells) := by unfold Hid; rw [htc'.out]; exact hbte.out
      have hbkA : Hid (Blk we (ga + 1) 24 (ruT 0 ga [s, t]).cells) := hkae.out
      have hsS : s.cells.size = 6 := by rw [hsc'.out]; rfl
      have hsT : t.cells.size = 6 := by rw [htc'.out]; rfl
      refine wp_region_grow 145 (fun i v W => ∀ g, (turnG docs d A nn c m ga s t x yv)[i]? = some g → g v W) (by kernel_rfl) (by kernel_rfl) (by kernel_rfl) rfl ?mono ?step ?fin
      case mono => exact fun i v W W' h hb g hg => turnG_mono docs d A nn c m ga s t x yv g (List.mem_of_getElem? hg) v W W' (h g hg) hb
      case step =>
        refine allOps_cons (fun a W hl => stepped_one (st_val (wanted_no rfl) (run_mv rfl (hl.2.2.1 9 (by kernel_rfl))))) ?_
        refine allOps_cons (fun a W hl => stepped_one (st_val (wanted_no rfl) (run_ld rfl (hl.2.2.1 10 (by kernel_rfl)) ((hbkA.out.below hl.1 hbkA.out.lt)) rfl))) ?_
        refine allOps_cons (fun a W hl => stepped_one (st_row1 (wanted_no rfl) rfl ⟨ruT 0 ga [s, t], (hl.2.2.2 1 107 (by kernel_rfl) _ rfl), (hRx W hl.1).2.2.2, hall.out⟩)) ?_
        refine allOps_cons (fun a W hl => stepped_one (st_not1 (wanted_no rfl) rfl (hl.2.2.2 0 106 (by kernel_rfl) _ rfl) (hl.2.2.2 2 108 (by kernel_rfl) _ rfl))) ?_
        refine allOps_cons (fun a W hl => stepped_one (st_val (wanted_no rfl) (run_mv rfl (hl.2.2.1 2 (by kernel_rfl))))) ?_
        refine allOps_cons (fun a W hl => stepped_one (st_val (wanted_no rfl) (run_mv rfl (hl.2.2.1 3 (by kernel_rfl))))) ?_
        refine allOps_cons (fun a W hl => stepped_one (st_holds hHd.out (hRx W hl.1).1 (wanted_no rfl) rfl (hl.2.2.2 3 109 (by kernel_rfl) _ rfl) (hl.2.2.2 4 110 (by kernel_rfl) _ rfl) (hl.2.2.2 5 111 (by kernel_rfl) _ rfl))) ?_
        refine allOps_cons (fun a W hl => stepped_one (st_val (wanted_no rfl) (run_mv rfl (hl.2.2.1 9 (by kernel_rfl))))) ?_
        refine allOps_cons (fun a W hl => stepped_one (st_val (wanted_no rfl) (run_ld rfl (hl.2.2.1 4 (by kernel_rfl)) ((hbkS.out.below hl.1 hbkS.out.lt)) hsS))) ?_
        refine allOps_cons (fun a W hl => stepped_one (st_row1 (wanted_no rfl) rfl ⟨s, (hl.2.2.2 8 114 (by kernel_rfl) _ rfl), (hRx W hl.1).2.1, hx.out⟩)) ?_
        refine allOps_cons (fun a W hl => stepped_one (st_not1 (wanted_no rfl) rfl (hl.2.2.2 7 113 (by kernel_rfl) _ rfl) (hl.2.2.2 9 115 (by kernel_rfl) _ rfl))) ?_
        refine allOps_cons (fun a W hl => stepped_one (st_val (wanted_no rfl) (run_mv rfl (hl.2.2.1 9 (by kernel_rfl))))) ?_
        refine allOps_cons (fun a W hl => stepped_one (st_val (wanted_no rfl) (run_ld rfl (hl.2.2.1 5 (by kernel_rfl)) ((hbkT.out.below hl.1 hbkT.out.lt)) hsT))) ?_
        refine allOps_cons (fun a W hl => stepped_one (st_row1 (wanted_no rfl) rfl ⟨t, (hl.2.2.2 12 118 (by kernel_rfl) _ rfl), (hRx W hl.1).2.2.1, hy.out⟩)) ?_
        refine allOps_cons (fun a W hl => stepped_one (st_not1 (wanted_no rfl) rfl (hl.2.2.2 11 117 (by kernel_rfl) _ rfl) (hl.2.2.2 13 119 (by kernel_rfl) _ rfl))) ?_
        refine allOps_cons (fun a W hl => stepped_one (st_row2 (wanted_no rfl) rfl (hl.2.2.2 10 116 (by kernel_rfl) _ rfl) (hl.2.2.2 14 120 (by kernel_rfl) _ rfl))) ?_
        refine allOps_cons (fun a W hl => stepped_one (st_any2 (wanted_no rfl) rfl (hl.2.2.2 15 121 (by kernel_rfl) _ rfl))) ?_
        refine allOps_cons (fun a W hl => stepped_one (st_val (wanted_no rfl) (run_mv rfl (hl.2.2.1 2 (by kernel_rfl))))) ?_
        refine allOps_cons (fun a W hl => stepped_one (st_val (wanted_no rfl) (run_mv rfl (hl.2.2.1 3 (by kernel_rfl))))) ?_
        refine allOps_cons (fun a W hl => stepped_one (st_holds hHd.out (hRx W hl.1).1 (wanted_no rfl) rfl (hl.2.2.2 16 122 (by kernel_rfl) _ rfl) (hl.2.2.2 17 123 (by kernel_rfl) _ rfl) (hl.2.2.2 18 124 (by kernel_rfl) _ rfl))) ?_
        refine allOps_cons (fun a W hl => stepped_one (st_eq (wanted_no rfl) rfl (hl.2.2.2 6 112 (by kernel_rfl) _ rfl) (hl.2.2.2 19 125 (by kernel_rfl) _ rfl) (by omega))) ?_
        refine allOps_cons (fun a W hl => stepped_one (st_val (wanted_no rfl) (run_mv rfl (hl.2.2.2 20 126 (by kernel_rfl) _ rfl)))) ?_
        refine allOps_cons (fun a W hl => stepped_one (st_val (wanted_true (j := 21) (e := 127) rfl rfl (by rw [hl.2.1]; decide) (hl.2.2.2 21 127 (by kernel_rfl) _ rfl)) (run_mv rfl (hl.2.2.1 9 (by kernel_rfl))))) ?_
        refine allOps_cons (fun a W hl => stepped_one (st_val (wanted_true (j := 21) (e := 127) rfl rfl (by rw [hl.2.1]; decide) (hl.2.2.2 21 127 (by kernel_rfl) _ rfl)) (run_ld rfl (hl.2.2.1 4 (by kernel_rfl)) ((hbkS.out.below hl.1 hbkS.out.lt)) hsS))) ?_
        refine allOps_cons (fun a W hl => stepped_one (st_val (wanted_true (j := 21) (e := 127) rfl rfl (by rw [hl.2.1]; decide) (hl.2.2.2 21 127 (by kernel_rfl) _ rfl)) (run_ld rfl (hl.2.2.1 5 (by kernel_rfl)) ((hbkT.out.below hl.1 hbkT.out.lt)) hsT))) ?_
        refine allOps_cons (fun a W hl => stepped_one (st_row2 (wanted_true (j := 21) (e := 127) rfl rfl (by rw [hl.2.1]; decide) (hl.2.2.2 21 127 (by kernel_rfl) _ rfl)) rfl ⟨s, (hl.2.2.2 23 129 (by kernel_rfl) _ rfl), (hRx W hl.1).2.1, hx.out⟩ ⟨t, (hl.2.2.2 24 130 (by kernel_rfl) _ rfl), (hRx W hl.1).2.2.1, hy.out⟩)) ?_
        refine allOps_cons (fun a W hl => stepped_one (st_not2 (wanted_true (j := 21) (e := 127) rfl rfl (by rw [hl.2.1]; decide) (hl.2.2.2 21 127 (by kernel_rfl) _ rfl)) rfl (hl.2.2.2 22 128 (by kernel_rfl) _ rfl) (hl.2.2.2 25 131 (by kernel_rfl) _ rfl))) ?_
        refine allOps_cons (fun a W hl => stepped_one (st_val (wanted_true (j := 21) (e := 127) rfl rfl (by rw [hl.2.1]; decide) (hl.2.2.2 21 127 (by kernel_rfl) _ rfl)) (run_mv rfl (hl.2.2.1 2 (by kernel_rfl))))) ?_
        refine allOps_cons (fun a W hl => stepped_one (st_val (wanted_true (j := 21) (e := 127) rfl rfl (by rw [hl.2.1]; decide) (hl.2.2.2 21 127 (by kernel_rfl) _ rfl)) (run_mv rfl (hl.2.2.1 3 (by kernel_rfl))))) ?_
        refine allOps_cons (fun a W hl => stepped_one (st_holds hHd.out (hRx W hl.1).1 (wanted_true (j := 21) (e := 127) rfl rfl (by rw [hl.2.1]; decide) (hl.2.2.2 21 127 (by kernel_rfl) _ rfl)) rfl (hl.2.2.2 26 132 (by kernel_rfl) _ rfl) (hl.2.2.2 27 133 (by kernel_rfl) _ rfl) (hl.2.2.2 28 134 (by kernel_rfl) _ rfl))) ?_
        refine allOps_cons (fun a W hl => stepped_one (st_val (wanted_true (j := 21) (e := 127) rfl rfl (by rw [hl.2.1]; decide) (hl.2.2.2 21 127 (by kernel_rfl) _ rfl)) (run_mv rfl (hl.2.2.1 9 (by kernel_rfl))))) ?_
        refine allOps_cons (fun a W hl => stepped_one (st_val (wanted_true (j := 21) (e := 127) rfl rfl (by rw [hl.2.1]; decide) (hl.2.2.2 21 127 (by kernel_rfl) _ rfl)) (run_ld rfl (hl.2.2.1 10 (by kernel_rfl)) ((hbkA.out.below hl.1 hbkA.out.lt)) rfl))) ?_
        refine allOps_cons (fun a W hl => stepped_one (st_row1 (wanted_true (j := 21) (e := 127) rfl rfl (by rw [hl.2.1]; decide) (hl.2.2.2 21 127 (by kernel_rfl) _ rfl)) rfl ⟨ruT 0 ga [s, t], (hl.2.2.2 31 137 (by kernel_rfl) _ rfl), (hRx W hl.1).2.2.2, hall.out⟩)) ?_
        refine allOps_cons (fun a W hl => stepped_one (st_not1 (wanted_true (j := 21) (e := 127) rfl rfl (by rw [hl.2.1]; decide) (hl.2.2.2 21 127 (by kernel_rfl) _ rfl)) rfl (hl.2.2.2 30 136 (by kernel_rfl) _ rfl) (hl.2.2.2 32 138 (by kernel_rfl) _ rfl))) ?_
        refine allOps_cons (fun a W hl => stepped_one (st_val (wanted_true (j := 21) (e := 127) rfl rfl (by rw [hl.2.1]; decide) (hl.2.2.2 21 127 (by kernel_rfl) _ rfl)) (run_mv rfl (hl.2.2.1 2 (by kernel_rfl))))) ?_
        refine allOps_cons (fun a W hl => stepped_one (st_val (wanted_true (j := 21) (e := 127) rfl rfl (by rw [hl.2.1]; decide) (hl.2.2.2 21 127 (by kernel_rfl) _ rfl)) (run_mv rfl (hl.2.2.1 3 (by kernel_rfl))))) ?_
        refine allOps_cons (fun a W hl => stepped_one (st_holds hHd.out (hRx W hl.1).1 (wanted_true (j := 21) (e := 127) rfl rfl (by rw [hl.2.1]; decide) (hl.2.2.2 21 127 (by kernel_rfl) _ rfl)) rfl (hl.2.2.2 33 139 (by kernel_rfl) _ rfl) (hl.2.2.2 34 140 (by kernel_rfl) _ rfl) (hl.2.2.2 35 141 (by kernel_rfl) _ rfl))) ?_
        refine allOps_cons (fun a W hl => stepped_one (st_eq (wanted_true (j := 21) (e := 127) rfl rfl (by rw [hl.2.1]; decide) (hl.2.2.2 21 127 (by kernel_rfl) _ rfl)) rfl (hl.2.2.2 29 135 (by kernel_rfl) _ rfl) (hl.2.2.2 36 142 (by kernel_rfl) _ rfl) rfl)) ?_
        refine allOps_cons (fun a W hl => stepped_one (st_val (wanted_no rfl) (run_pk rfl (hl.2.2.2 21 127 (by kernel_rfl) _ rfl) (hl.2.2.2 37 143 (by kernel_rfl) _ rfl) rfl))) ?_
        refine allOps_cons (fun a W hl => stepped_one (st_val (wanted_no rfl) (run_as rfl (hl.2.2.2 38 144 (by kernel_rfl) _ rfl)))) ?_
        exact allOps_nil
      case fin =>
        intro vs W hb hG
        have h39 : vs 39 = .bool true := hG 39 (by simp) _ rfl
        have hBz := Lib.hid (hBe.out.trans (hb.mono hBe.out.size))
        simp only [putAll, Act.put, List.setIfInBounds_toArray, List.set_cons_zero, List.set_cons_succ, h39]
        go_wp2_with fail
        go_ret
        exact ⟨rfl, hBz.out⟩
    · go_wp2_with fail
      all_goals try (exfalso; omega)
      all_goals (go_ret; exact ⟨rfl, hB4.out⟩)
end Go.Proofs.YtpnkpnocipkedaaDoor

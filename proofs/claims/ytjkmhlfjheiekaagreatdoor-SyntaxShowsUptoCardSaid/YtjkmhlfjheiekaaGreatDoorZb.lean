/- The parser: a rule to its end (walk of whole). -/
import Derived.Test.YtjkmhlfjheiekaaGreatDoorZa
namespace Go.Proofs.YtjkmhlfjheiekaaGreatDoor
open Go Go.RowKit Go.BigFrame Go.Maps

theorem whole_some {e : Nat} {l : List Tok} {n : Nat} {st : St} {r : Rul × St} (h : wholeS e l n st = some r) : ∃ r0 s1, ruleS e l n st = some (r0, s1) ∧ r = (r0, if s1.cd = 0 ∧ (16 < depthR r0 ∨ crowdR r0 = true) then failS s1 (placeS e l st) 7 else s1) := by
  unfold wholeS at h
  cases hr : ruleS e l n st with
  | none => rw [hr] at h; simp at h
  | some x =>
    obtain ⟨r0, s1⟩ := x
    rw [hr] at h
    simp only [Option.some.injEq] at h
    exact ⟨r0, s1, rfl, h.symm⟩

set_option maxRecDepth 100000 in
set_option maxHeartbeats 3200000 in
theorem whole_any (pb : Nat) (A : Option Addr) (c e : Nat) (l : List Tok) (h8 : Hid (8 ≤ pb)) (hok : Hid (TokOk l)) (n : Nat) (hn : n ≤ 100000) : Reads' pb A c e l 31 (wholeS e l n) := by
  intro w st r hr hp he
  have hrule : Hid (Reads' pb A c e l 67 (ruleS e l n)) := rule_any pb A c e l _ h8 (all_any pb A c e l _ h8 (one_any pb A c e l h8 hok n hn) n hn) n hn
  obtain ⟨r0, s1, h1, rfl⟩ := whole_some hr
  have hlt0 := hp.out.row.lt
  have hneR : Hid (w.heap.size ≠ pb) := by unfold Hid; omega
  have hR0 : Hid (Blk (w.alloc (.cells zeroN 25)) w.heap.size 25 zeroN) := Blk.new w 25 zeroN
  have hB0 : Hid (But pb w (w.alloc (.cells zeroN 25))) := (But.refl pb w).below ((Below.refl _ w).alloc (Nat.le_refl _) _)
  have hp0 : Hid (ParAt (w.alloc (.cells zeroN 25)) pb A c e l st) := hp.out.below ((Below.refl _ w).alloc (Nat.le_refl _) _)
  have hsz0 : Hid (w.heap.size + 1 ≤ (w.alloc (.cells zeroN 25)).heap.size) := by unfold Hid; simp
  obtain ⟨at_, hat⟩ : ∃ k, Hid (placeS e l st = k) := ⟨_, Lib.hid rfl⟩
  rw [hat.out]
  obtain ⟨s9, hs9⟩ : ∃ s, Hid ((if s1.cd = 0 ∧ (16 < depthR r0 ∨ crowdR r0 = true) then failS s1 at_ 7 else s1) = s) := ⟨_, Lib.hid rfl⟩
  rw [hs9.out]
  clear hr hlt0
  go_enter Tryz.func31, Tryz.ntmps31
  go_wp2_with fail
  change Calls Tryz.prog 33 _ (w.alloc (.cells zeroN 25)) _
  obtain ⟨wa, hwa⟩ : ∃ x, Hid (w.alloc (.cells zeroN 25) = x) := ⟨_, Lib.hid rfl⟩
  rw [hwa.out] at hR0 hB0 hp0 hsz0 ⊢
  clear hwa
  refine (place_any wa pb A c e l st hp0).mono ?_
  rintro x w1 ⟨rfl, hb1⟩
  rw [hat.out]
  have hp1 := Lib.hid (hp0.out.below hb1)
  have hB1 := Lib.hid (hB0.out.below hb1)
  have hR1 := Lib.hid (hR0.out.below hb1 hR0.out.lt)
  have hsz1 : Hid (w.heap.size + 1 ≤ w1.heap.size) := Nat.le_trans hsz0.out hb1.size
  clear hb1 hR0 hB0 hp0 hsz0
  go_wp2_with fail
  refine (hrule.out w1 st (r0, s1) h1 hp1 (he.out.but hB1.out h8.out)).mono ?_
  rintro x w2 ⟨hu2, hq2, ⟨uk, up, uf, ux, un, uA, uc, uL⟩, rfl, ht2, hs2⟩
  have hsz2 : Hid (w.heap.size + 1 ≤ w2.heap.size) := Nat.le_trans hsz1.out hu2.size
  have hs2' := Lib.hid hs2
  have hbl : ∀ o, Below w2.heap.size w2 (w2.alloc o) := fun o => (Below.refl _ w2).alloc (Nat.le_refl _) o
  have hN : Hid (Blk (w2.alloc (.cells #[.int .i64 uk, .int .i64 up, .string ⟨uf.toArray⟩, .string ⟨ux.toArray⟩, .int .i64 un, .slice uA uL.length uc] 25)) w2.heap.size 25 #[.int .i64 uk, .int .i64 up, .string ⟨uf.toArray⟩, .string ⟨ux.toArray⟩, .int .i64 un, .slice uA uL.length uc]) := Blk.new w2 25 _
  have hR := Lib.hid ((hu2.blk hR1.out hneR.out).alloc (.cells #[.int .i64 uk, .int .i64 up, .string ⟨uf.toArray⟩, .string ⟨ux.toArray⟩, .int .i64 un, .slice uA uL.length uc] 25))
  have hB := Lib.hid ((hB1.out.trans hu2).below (hbl (.cells #[.int .i64 uk, .int .i64 up, .string ⟨uf.toArray⟩, .string ⟨ux.toArray⟩, .int .i64 un, .slice uA uL.length uc] 25)))
  have hq := Lib.hid (hq2.below (hbl (.cells #[.int .i64 uk, .int .i64 up, .string ⟨uf.toArray⟩, .string ⟨ux.toArray⟩, .int .i64 un, .slice uA uL.length uc] 25)))
  have ht : Hid (TreeAt (w2.alloc (.cells #[.int .i64 uk, .int .i64 up, .string ⟨uf.toArray⟩, .string ⟨ux.toArray⟩, .int .i64 un, .slice uA uL.length uc] 25)) (fun b => w.heap.size + 1 ≤ b) (.mk uk up uf ux un uA uc uL)) := (ht2.mono (fun b _ hb => Nat.le_trans hsz1.out hb)).below (hbl _)
  have hR2w := Lib.hid (hu2.blk hR1.out hneR.out)
  have hB2w := Lib.hid (hB1.out.trans hu2)
  have hq2w := Lib.hid hq2
  have ht2w : Hid (TreeAt w2 (fun b => w.heap.size + 1 ≤ b) (.mk uk up uf ux un uA uc uL)) := ht2.mono (fun b _ hb => Nat.le_trans hsz1.out hb)
  have hneN : Hid (w2.heap.size ≠ pb) := by have := hq2.row.lt; unfold Hid; omega
  have hneNR : Hid (w2.heap.size ≠ w.heap.size) := by have := hsz2.out; unfold Hid; omega
  have hneRN : Hid (w.heap.size ≠ w2.heap.size) := by have := hsz2.out; unfold Hid; omega
  have ne1 := hneNR.out
  have ne2 := hneRN.out
  have d4 : w2.cell? ⟨pb, 4, none⟩ = some (.int .i64 s1.cd) := hq2.row.cell 4
  have dlt := hq2.row.lt
  clear hu2 hq2 ht2 hs2 hbl hR1 hB1 hp1 hsz1 h1
  unfold Tree.cells
  obtain ⟨cd, hcd⟩ : ∃ k, Hid (s1.cd = k) := ⟨_, Lib.hid rfl⟩
  rw [hcd.out] at d4
  by_cases hz : cd = 0
  · have b1 : (cd == 0) = true := by simp [hz]
    have hz' : Hid (s1.cd = 0) := by unfold Hid; rw [hcd.out, hz]
    clear hz
    go_wp2_with fail
    obtain ⟨wb, hwb⟩ : ∃ x, Hid (w2.alloc (.cells #[.int .i64 uk, .int .i64 up, .string ⟨uf.toArray⟩, .string ⟨ux.toArray⟩, .int .i64 un, .slice uA uL.length uc] 25) = x) := ⟨_, Lib.hid rfl⟩
    have hszb : Hid (w.heap.size + 1 ≤ wb.heap.size) := by rw [← hwb.out]; exact Nat.le_trans hsz2.out (by simp)
    rw [hwb.out] at hN hR hB hq ht ⊢
    clear hwb d4 dlt
    have hwi : Hid (Calls Tryz.prog 68 #[.agg #[.int .i64 uk, .int .i64 up, .string ⟨uf.toArray⟩, .string ⟨ux.toArray⟩, .int .i64 un, .slice uA uL.length uc], .int .i64 16] wb fun e w' => e = .returned (.bool (decide (depthR r0 ≤ 16))) ∧ Below wb.heap.size wb w') := by
      have := within_any (.mk uk up uf ux un uA uc uL) 16 wb _ (by omega) ht
      rw [hs2'.out] at this
      exact this
    refine hwi.out.mono ?_
    rintro x w3 ⟨rfl, hb3⟩
    clear hwi
    have hszb : Hid (w.heap.size + 1 ≤ w3.heap.size) := Nat.le_trans hszb.out hb3.size
    have hN := Lib.hid (hN.out.below hb3 hN.out.lt)
    have hR := Lib.hid (hR.out.below hb3 hR.out.lt)
    have hB := Lib.hid (hB.out.below hb3)
    have hq := Lib.hid (hq.out.below hb3)
    have ht := Lib.hid (ht.out.below hb3)
    clear hb3
    by_cases hdp : depthR r0 ≤ 16
    · rw [decide_eq_true hdp]
      have nc0 : w3.cell? ⟨w2.heap.size, 0, none⟩ = some (.int .i64 uk) := hN.out.cell 0
      have nc1 : w3.cell? ⟨w2.heap.size, 1, none⟩ = some (.int .i64 up) := hN.out.cell 1
      have nc2 : w3.cell? ⟨w2.heap.size, 2, none⟩ = some (.string ⟨uf.toArray⟩) := hN.out.cell 2
      have nc3 : w3.cell? ⟨w2.heap.size, 3, none⟩ = some (.string ⟨ux.toArray⟩) := hN.out.cell 3
      have nc4 : w3.cell? ⟨w2.heap.size, 4, none⟩ = some (.int .i64 un) := hN.out.cell 4
      have nc5 : w3.cell? ⟨w2.heap.size, 5, none⟩ = some (.slice uA uL.length uc) := hN.out.cell 5
      have nlt := hN.out.lt
      go_wp2_with fail
      have hcr : Hid (Calls Tryz.prog 69 #[.agg #[.int .i64 uk, .int .i64 up, .string ⟨uf.toArray⟩, .string ⟨ux.toArray⟩, .int .i64 un, .slice uA uL.length uc]] w3 fun e w' => e = .returned (.bool (crowdR r0)) ∧ Below w3.heap.size w3 w') := by
        have := crowd_any (.mk uk up uf ux un uA uc uL) w3 _ ht
        rw [hs2'.out] at this
        exact this
      clear nc0 nc1 nc2 nc3 nc4 nc5 nlt
      refine hcr.out.mono ?_
      rintro x w4 ⟨rfl, hb4⟩
      clear hcr
      have hszb : Hid (w.heap.size + 1 ≤ w4.heap.size) := Nat.le_trans hszb.out hb4.size
      have hN := Lib.hid (hN.out.below hb4 hN.out.lt)
      have hR := Lib.hid (hR.out.below hb4 hR.out.lt)
      have hB := Lib.hid (hB.out.below hb4)
      have hq := Lib.hid (hq.out.below hb4)
      have ht := Lib.hid (ht.out.below hb4)
      clear hb4
      cases hcw : crowdR r0 with
      | false =>
        have hst : Hid (s9 = s1) := by unfold Hid; rw [← hs9.out, if_neg (by rw [hcw]; simp; omega)]
        clear hcw hdp hs9
        have hq : Hid (ParAt w4 pb A c e l s9) := by rw [hst.out]; exact hq
        clear hst
        have nc0 : w4.cell? ⟨w2.heap.size, 0, none⟩ = some (.int .i64 uk) := hN.out.cell 0
        have nc1 : w4.cell? ⟨w2.heap.size, 1, none⟩ = some (.int .i64 up) := hN.out.cell 1
        have nc2 : w4.cell? ⟨w2.heap.size, 2, none⟩ = some (.string ⟨uf.toArray⟩) := hN.out.cell 2
        have nc3 : w4.cell? ⟨w2.heap.size, 3, none⟩ = some (.string ⟨ux.toArray⟩) := hN.out.cell 3
        have nc4 : w4.cell? ⟨w2.heap.size, 4, none⟩ = some (.int .i64 un) := hN.out.cell 4
        have nc5 : w4.cell? ⟨w2.heap.size, 5, none⟩ = some (.slice uA uL.length uc) := hN.out.cell 5
        have rc0 : w4.cell? ⟨w.heap.size, 0, none⟩ = some (.int .i64 0) := hR.out.cell 0
        have rc1 : w4.cell? ⟨w.heap.size, 1, none⟩ = some (.int .i64 0) := hR.out.cell 1
        have rc2 : w4.cell? ⟨w.heap.size, 2, none⟩ = some (.string ⟨#[]⟩) := hR.out.cell 2
        have rc3 : w4.cell? ⟨w.heap.size, 3, none⟩ = some (.string ⟨#[]⟩) := hR.out.cell 3
        have rc4 : w4.cell? ⟨w.heap.size, 4, none⟩ = some (.int .i64 0) := hR.out.cell 4
        have rc5 : w4.cell? ⟨w.heap.size, 5, none⟩ = some (.slice none 0 0) := hR.out.cell 5
        have rf0 := hR.out.frozen 0
        have rf1 := hR.out.frozen 1
        have rf2 := hR.out.frozen 2
        have rf3 := hR.out.frozen 3
        have rf4 := hR.out.frozen 4
        have rf5 := hR.out.frozen 5
        have rlt := hR.out.lt
        have nlt := hN.out.lt
        go_wp2_with fail
        refine bodyPost_ret (results_row rfl _ _ w.heap.size 25 _ _ rfl ((((((hR.out.set_ 0 _).set_ 1 _).set_ 2 _).set_ 3 _).set_ 4 _).set_ 5 _) Tryz.underlying25 rfl (by kernel_rfl)) rfl ?_
        have hh : ∀ b, (w.heap.size + 1 ≤ b) → b ≠ w.heap.size := fun b hb => by omega
        unfold Ruled
        refine ⟨((((((hB.out.far (Nat.le_refl _) _ _).far (Nat.le_refl _) _ _).far (Nat.le_refl _) _ _).far (Nat.le_refl _) _ _).far (Nat.le_refl _) _ _).far (Nat.le_refl _) _ _), ⟨((((((hq.out.row.far (p := ⟨w.heap.size, 0, none⟩) hneR.out.symm _).far (p := ⟨w.heap.size, 1, none⟩) hneR.out.symm _).far (p := ⟨w.heap.size, 2, none⟩) hneR.out.symm _).far (p := ⟨w.heap.size, 3, none⟩) hneR.out.symm _).far (p := ⟨w.heap.size, 4, none⟩) hneR.out.symm _).far (p := ⟨w.heap.size, 5, none⟩) hneR.out.symm _), hp.out.tok.but ((((((hB.out.far (Nat.le_refl _) _ _).far (Nat.le_refl _) _ _).far (Nat.le_refl _) _ _).far (Nat.le_refl _) _ _).far (Nat.le_refl _) _ _).far (Nat.le_refl _) _ _), hq.out.len, hq.out.pos⟩, .mk uk up uf ux un uA uc uL, rfl, ?_, hs2'.out⟩
        exact (((((((ht.out.far hh _ _).far hh _ _).far hh _ _).far hh _ _).far hh _ _).far hh _ _)).mono (fun b _ hk => by omega)
      | true =>
        have hst : Hid (s9 = failS s1 at_ 7) := by unfold Hid; rw [← hs9.out, if_pos ⟨hz'.out, .inr hcw⟩]
        clear hcw hdp hs9
        go_wp2_with fail
        refine (fail_any w4 pb A c e l s1 at_ 7 hq).mono ?_
        rintro x w5 ⟨rfl, hu5, hq5⟩
        have hN := Lib.hid (hu5.blk hN.out hneN.out)
        have hR := Lib.hid (hu5.blk hR.out hneR.out)
        have hB := Lib.hid (hB.out.trans hu5)
        have hq := Lib.hid hq5
        have ht := Lib.hid (ht.out.but hu5 (fun b hb => by have := hp.out.row.lt; omega))
        clear hu5 hq5
        have hq : Hid (ParAt w5 pb A c e l s9) := by rw [hst.out]; exact hq
        clear hst
        have nc0 : w5.cell? ⟨w2.heap.size, 0, none⟩ = some (.int .i64 uk) := hN.out.cell 0
        have nc1 : w5.cell? ⟨w2.heap.size, 1, none⟩ = some (.int .i64 up) := hN.out.cell 1
        have nc2 : w5.cell? ⟨w2.heap.size, 2, none⟩ = some (.string ⟨uf.toArray⟩) := hN.out.cell 2
        have nc3 : w5.cell? ⟨w2.heap.size, 3, none⟩ = some (.string ⟨ux.toArray⟩) := hN.out.cell 3
        have nc4 : w5.cell? ⟨w2.heap.size, 4, none⟩ = some (.int .i64 un) := hN.out.cell 4
        have nc5 : w5.cell? ⟨w2.heap.size, 5, none⟩ = some (.slice uA uL.length uc) := hN.out.cell 5
        have rc0 : w5.cell? ⟨w.heap.size, 0, none⟩ = some (.int .i64 0) := hR.out.cell 0
        have rc1 : w5.cell? ⟨w.heap.size, 1, none⟩ = some (.int .i64 0) := hR.out.cell 1
        have rc2 : w5.cell? ⟨w.heap.size, 2, none⟩ = some (.string ⟨#[]⟩) := hR.out.cell 2
        have rc3 : w5.cell? ⟨w.heap.size, 3, none⟩ = some (.string ⟨#[]⟩) := hR.out.cell 3
        have rc4 : w5.cell? ⟨w.heap.size, 4, none⟩ = some (.int .i64 0) := hR.out.cell 4
        have rc5 : w5.cell? ⟨w.heap.size, 5, none⟩ = some (.slice none 0 0) := hR.out.cell 5
        have rf0 := hR.out.frozen 0
        have rf1 := hR.out.frozen 1
        have rf2 := hR.out.frozen 2
        have rf3 := hR.out.frozen 3
        have rf4 := hR.out.frozen 4
        have rf5 := hR.out.frozen 5
        have rlt := hR.out.lt
        have nlt := hN.out.lt
        go_wp2_with fail
        refine bodyPost_ret (results_row rfl _ _ w.heap.size 25 _ _ rfl ((((((hR.out.set_ 0 _).set_ 1 _).set_ 2 _).set_ 3 _).set_ 4 _).set_ 5 _) Tryz.underlying25 rfl (by kernel_rfl)) rfl ?_
        have hh : ∀ b, (w.heap.size + 1 ≤ b) → b ≠ w.heap.size := fun b hb => by omega
        unfold Ruled
        refine ⟨((((((hB.out.far (Nat.le_refl _) _ _).far (Nat.le_refl _) _ _).far (Nat.le_refl _) _ _).far (Nat.le_refl _) _ _).far (Nat.le_refl _) _ _).far (Nat.le_refl _) _ _), ⟨((((((hq.out.row.far (p := ⟨w.heap.size, 0, none⟩) hneR.out.symm _).far (p := ⟨w.heap.size, 1, none⟩) hneR.out.symm _).far (p := ⟨w.heap.size, 2, none⟩) hneR.out.symm _).far (p := ⟨w.heap.size, 3, none⟩) hneR.out.symm _).far (p := ⟨w.heap.size, 4, none⟩) hneR.out.symm _).far (p := ⟨w.heap.size, 5, none⟩) hneR.out.symm _), hp.out.tok.but ((((((hB.out.far (Nat.le_refl _) _ _).far (Nat.le_refl _) _ _).far (Nat.le_refl _) _ _).far (Nat.le_refl _) _ _).far (Nat.le_refl _) _ _).far (Nat.le_refl _) _ _), hq.out.len, hq.out.pos⟩, .mk uk up uf ux un uA uc uL, rfl, ?_, hs2'.out⟩
        exact (((((((ht.out.far hh _ _).far hh _ _).far hh _ _).far hh _ _).far hh _ _).far hh _ _)).mono (fun b _ hk => by omega)
    · rw [decide_eq_false hdp]
      have hst : Hid (s9 = failS s1 at_ 7) := by unfold Hid; rw [← hs9.out, if_pos ⟨hz'.out, .inl (by omega)⟩]
      clear hdp hs9
      go_wp2_with fail
      refine (fail_any w3 pb A c e l s1 at_ 7 hq).mono ?_
      rintro x w5 ⟨rfl, hu5, hq5⟩
      have hN := Lib.hid (hu5.blk hN.out hneN.out)
      have hR := Lib.hid (hu5.blk hR.out hneR.out)
      have hB := Lib.hid (hB.out.trans hu5)
      have hq := Lib.hid hq5
      have ht := Lib.hid (ht.out.but hu5 (fun b hb => by have := hp.out.row.lt; omega))
      clear hu5 hq5
      have hq : Hid (ParAt w5 pb A c e l s9) := by rw [hst.out]; exact hq
      clear hst
      have nc0 : w5.cell? ⟨w2.heap.size, 0, none⟩ = some (.int .i64 uk) := hN.out.cell 0
      have nc1 : w5.cell? ⟨w2.heap.size, 1, none⟩ = some (.int .i64 up) := hN.out.cell 1
      have nc2 : w5.cell? ⟨w2.heap.size, 2, none⟩ = some (.string ⟨uf.toArray⟩) := hN.out.cell 2
      have nc3 : w5.cell? ⟨w2.heap.size, 3, none⟩ = some (.string ⟨ux.toArray⟩) := hN.out.cell 3
      have nc4 : w5.cell? ⟨w2.heap.size, 4, none⟩ = some (.int .i64 un) := hN.out.cell 4
      have nc5 : w5.cell? ⟨w2.heap.size, 5, none⟩ = some (.slice uA uL.length uc) := hN.out.cell 5
      have rc0 : w5.cell? ⟨w.heap.size, 0, none⟩ = some (.int .i64 0) := hR.out.cell 0
      have rc1 : w5.cell? ⟨w.heap.size, 1, none⟩ = some (.int .i64 0) := hR.out.cell 1
      have rc2 : w5.cell? ⟨w.heap.size, 2, none⟩ = some (.string ⟨#[]⟩) := hR.out.cell 2
      have rc3 : w5.cell? ⟨w.heap.size, 3, none⟩ = some (.string ⟨#[]⟩) := hR.out.cell 3
      have rc4 : w5.cell? ⟨w.heap.size, 4, none⟩ = some (.int .i64 0) := hR.out.cell 4
      have rc5 : w5.cell? ⟨w.heap.size, 5, none⟩ = some (.slice none 0 0) := hR.out.cell 5
      have rf0 := hR.out.frozen 0
      have rf1 := hR.out.frozen 1
      have rf2 := hR.out.frozen 2
      have rf3 := hR.out.frozen 3
      have rf4 := hR.out.frozen 4
      have rf5 := hR.out.frozen 5
      have rlt := hR.out.lt
      have nlt := hN.out.lt
      go_wp2_with fail
      refine bodyPost_ret (results_row rfl _ _ w.heap.size 25 _ _ rfl ((((((hR.out.set_ 0 _).set_ 1 _).set_ 2 _).set_ 3 _).set_ 4 _).set_ 5 _) Tryz.underlying25 rfl (by kernel_rfl)) rfl ?_
      have hh : ∀ b, (w.heap.size + 1 ≤ b) → b ≠ w.heap.size := fun b hb => by omega
      unfold Ruled
      refine ⟨((((((hB.out.far (Nat.le_refl _) _ _).far (Nat.le_refl _) _ _).far (Nat.le_refl _) _ _).far (Nat.le_refl _) _ _).far (Nat.le_refl _) _ _).far (Nat.le_refl _) _ _), ⟨((((((hq.out.row.far (p := ⟨w.heap.size, 0, none⟩) hneR.out.symm _).far (p := ⟨w.heap.size, 1, none⟩) hneR.out.symm _).far (p := ⟨w.heap.size, 2, none⟩) hneR.out.symm _).far (p := ⟨w.heap.size, 3, none⟩) hneR.out.symm _).far (p := ⟨w.heap.size, 4, none⟩) hneR.out.symm _).far (p := ⟨w.heap.size, 5, none⟩) hneR.out.symm _), hp.out.tok.but ((((((hB.out.far (Nat.le_refl _) _ _).far (Nat.le_refl _) _ _).far (Nat.le_refl _) _ _).far (Nat.le_refl _) _ _).far (Nat.le_refl _) _ _).far (Nat.le_refl _) _ _), hq.out.len, hq.out.pos⟩, .mk uk up uf ux un uA uc uL, rfl, ?_, hs2'.out⟩
      exact (((((((ht.out.far hh _ _).far hh _ _).far hh _ _).far hh _ _).far hh _ _).far hh _ _)).mono (fun b _ hk => by omega)
  · have b1 : (cd == 0) = false := by simp [hz]
    have hst : Hid (s9 = s1) := by unfold Hid; rw [← hs9.out, if_neg (fun h => hz (hcd.out ▸ h.1))]
    clear hz hs9
    have hR := hR2w
    have hB := hB2w
    have hq : Hid (ParAt w2 pb A c e l s9) := by rw [hst.out]; exact hq2w
    clear hst
    have ht := ht2w
    have rc0 : w2.cell? ⟨w.heap.size, 0, none⟩ = some (.int .i64 0) := hR.out.cell 0
    have rc1 : w2.cell? ⟨w.heap.size, 1, none⟩ = some (.int .i64 0) := hR.out.cell 1
    have rc2 : w2.cell? ⟨w.heap.size, 2, none⟩ = some (.string ⟨#[]⟩) := hR.out.cell 2
    have rc3 : w2.cell? ⟨w.heap.size, 3, none⟩ = some (.string ⟨#[]⟩) := hR.out.cell 3
    have rc4 : w2.cell? ⟨w.heap.size, 4, none⟩ = some (.int .i64 0) := hR.out.cell 4
    have rc5 : w2.cell? ⟨w.heap.size, 5, none⟩ = some (.slice none 0 0) := hR.out.cell 5
    have rf0 := hR.out.frozen 0
    have rf1 := hR.out.frozen 1
    have rf2 := hR.out.frozen 2
    have rf3 := hR.out.frozen 3
    have rf4 := hR.out.frozen 4
    have rf5 := hR.out.frozen 5
    have rlt := hR.out.lt
    go_wp2_with fail
    refine bodyPost_ret (results_row rfl _ _ w.heap.size 25 _ _ rfl (((((((hR.out.set_ 0 _).set_ 1 _).set_ 2 _).set_ 3 _).set_ 4 _).set_ 5 _).alloc _) Tryz.underlying25 rfl (by kernel_rfl)) rfl ?_
    have hh : ∀ b, (w.heap.size + 1 ≤ b) → b ≠ w.heap.size := fun b hb => by omega
    unfold Ruled
    refine ⟨((((((hB.out.far (Nat.le_refl _) _ _).far (Nat.le_refl _) _ _).far (Nat.le_refl _) _ _).far (Nat.le_refl _) _ _).far (Nat.le_refl _) _ _).far (Nat.le_refl _) _ _).below ((Below.refl _ _).alloc (Nat.le_refl _) _), ⟨((((((hq.out.row.far (p := ⟨w.heap.size, 0, none⟩) hneR.out.symm _).far (p := ⟨w.heap.size, 1, none⟩) hneR.out.symm _).far (p := ⟨w.heap.size, 2, none⟩) hneR.out.symm _).far (p := ⟨w.heap.size, 3, none⟩) hneR.out.symm _).far (p := ⟨w.heap.size, 4, none⟩) hneR.out.symm _).far (p := ⟨w.heap.size, 5, none⟩) hneR.out.symm _).alloc _, hp.out.tok.but (((((((hB.out.far (Nat.le_refl _) _ _).far (Nat.le_refl _) _ _).far (Nat.le_refl _) _ _).far (Nat.le_refl _) _ _).far (Nat.le_refl _) _ _).far (Nat.le_refl _) _ _).below ((Below.refl _ _).alloc (Nat.le_refl _) _)), hq.out.len, hq.out.pos⟩, .mk uk up uf ux un uA uc uL, rfl, ?_, hs2'.out⟩
    exact (((((((ht.out.far hh _ _).far hh _ _).far hh _ _).far hh _ _).far hh _ _).far hh _ _).below ((Below.refl _ _).alloc (Nat.le_refl _) _)).mono (fun b _ hk => by omega)
end Go.Proofs.YtjkmhlfjheiekaaGreatDoor

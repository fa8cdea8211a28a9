import Derived.Test.YtjkmhlfjheiekaaGreatDoorX
import Derived.Test.YtjkmhlfjheiekaaGreatDoorZb
namespace Go.Proofs.YtjkmhlfjheiekaaGreatDoor
open Go Go.RowKit Go.BigFrame Go.Maps
theorem results_row_tmp2 {P : Program} {fn : Func} {p u v : Tmp} {ty : TypeId} (h : fn.results = #[.cell p ty, .tmp u, .tmp v]) (tmps : Array Value) (w : World) (g : Nat) (t : TypeId) (cs : Array Value) (d : TypeDesc)
  (hp : tmps.getD p undef = .pointer (some ⟨g, 0, none⟩)) (hg : Blk w g t cs)
  (hu : P.underlying ty = some d) (hd : (match d with | .struct _ | .array _ _ => true | _ => false) = true) (hi : (P.info? ty).map (·.size) = some cs.size) :
  (results fn tmps).run P w = .ok (.tuple #[.agg cs, tmps.getD u undef, tmps.getD v undef]) w := by
 have hp' : tmps[p]?.getD undef = .pointer (some ⟨g, 0, none⟩) := by simpa using hp
 simp [results, h, hp', asAddr, run_loadVar_row w g t ty cs (0, 0) d hg hu hd hi, Result.andThen]
theorem tokL_get : ∀ (T : List Tok) (k : Nat) (t : Tok), T[k]? = some t → ∀ i, i < 3 → (tokL T)[k * 3 + i]? = t.cells.toList[i]?
 | [], k, x, h, i, hi => by simp at h
 | y :: T, 0, x, h, i, hi => by
  simp only [List.getElem?_cons_zero, Option.some.injEq] at h; subst h
  show (y.cells.toList ++ tokL T)[0 * 3 + i]? = _
  rw [Nat.zero_mul, Nat.zero_add, List.getElem?_append_left (by simp [Tok.cells, tokC]; exact hi)]
 | y :: T, k + 1, x, h, i, hi => by
  have ih := tokL_get T k x (by simpa using h) i hi
  show (y.cells.toList ++ tokL T)[(k + 1) * 3 + i]? = _
  rw [List.getElem?_append_right (by simp [Tok.cells, tokC]; omega), show y.cells.toList.length = 3 from rfl, show (k + 1) * 3 + i - 3 = k * 3 + i by omega]
  exact ih
theorem tok_own {w : World} {B pb n : Nat} {p : Option Addr} {c : Nat} {l : List Tok} (h : w.ownsRow B 89 3 (.slice p n c) l.length (tokL l)) (hB : pb < B) : TokAt w pb p l := by
 intro i t ht
 have hlt := (List.getElem?_eq_some_iff.1 ht).1
 rcases h.2 with ⟨h1, h0⟩ | ⟨g, cap, cur, hv, hg, _⟩
 ·omega
 ·obtain rfl : p = some ⟨g, 0, none⟩ := by simp at hv; exact hv.1
  have hh := h
  simp only [Value.slice.injEq] at hv
  obtain ⟨_, rfl, rfl⟩ := hv
  have hc : ∀ j, j < 3 → ∀ u, t.cells.toList[j]? = some u → w.cell? ⟨g, 0 + i * 3 + j, none⟩ = some u := fun j hj u hu => by
   have := hh.cells (g := g) rfl (i * 3 + j) u (by rw [tokL_get l i t ht j hj]; exact hu)
   rwa [show Addr.add ⟨g, 0, none⟩ (i * 3 + j) = ⟨g, 0 + i * 3 + j, none⟩ by unfold Addr.add; split <;> simp_all] at this
  exact ⟨g, 0, rfl, by omega, hc 0 (by omega) _ rfl, hc 1 (by omega) _ rfl, hc 2 (by omega) _ rfl⟩
def RuleOut (w : World) (s : Txt) (x : Ending) (w' : World) : Prop := Below w.heap.size w w' ∧ match ruleT s with
 | .ok r => ∃ t, x = .returned (.tuple #[.agg t.cells, .int .i64 0, .int .i64 0]) ∧ TreeAt w' (fun b => w.heap.size ≤ b) t ∧ strip t = r
 | .error (k, cd) => x = .returned (.tuple #[.agg zeroN, .int .i64 (k : Nat), .int .i64 cd]) ∧ cd ≠ 0
theorem rule_empty {s : Txt} (h1 : s.length ≤ 4096) (h2 : scanT s = .ok []) : ruleT s = .ok emptyR := by
 rw [ruleT, if_neg (by omega), h2]
theorem rule_noscan {s : Txt} {k : Nat} {cd : Int} (h : 4096 < s.length ∧ k = 0 ∧ cd = 7 ∨ s.length ≤ 4096 ∧ scanT s = .error (k, cd)) : ruleT s = .error (k, cd) := by
 rcases h with ⟨h, rfl, rfl⟩ | ⟨h1, h2⟩
 ·rw [ruleT, if_pos h]
 ·rw [ruleT, if_neg (by omega), h2]
def endM (y : Res Rul) : Except (Nat × Int) Rul := match y with
 | .error x => .error x
 | .ok (r, []) => .ok r
 | .ok (_, t' :: _) => .error (t'.place, 2)
theorem rule_tokens {s : Txt} {l : List Tok} (h1 : s.length ≤ 4096) (h2 : scanT s = .ok l) (hne : l ≠ []) (hln : l.length ≤ 4096) : ∃ r st, wholeS s.length l (2 * l.length + 2) ⟨0, 0, 0⟩ = some (r, st) ∧
  (if st.cd = 0 then (if st.k < l.length then ruleT s = .error (placeS s.length l st, 2) else ruleT s = .ok r) else ruleT s = .error (st.pl, st.cd)) := by
 obtain ⟨⟨r, st⟩, y, h3, h4, h5, _⟩ := (whole_agree s.length l (2 * l.length + 2) (by omega)).2 ⟨0, 0, 0⟩ ⟨rfl, Nat.zero_le _⟩ (by simp; omega)
 refine ⟨r, st, h3, ?_⟩
 rw [List.drop_zero] at h4
 have hr : ruleT s = endM y := by
  cases l with
  | nil => exact absurd rfl hne
  | cons t ts =>
   rw [List.length_cons] at h4
   rw [ruleT, if_neg (by omega), h2]
   simp only
   rw [h4]
   rcases y with q | ⟨r', _ | ⟨a, b⟩⟩ <;> rfl
 rw [hr]
 cases y with
 | error q =>
  obtain ⟨pl, cd⟩ := q
  have hb : st.cd ≠ 0 := h5.bad
  rw [if_neg hb]
  unfold endM
  exact congrArg Except.error (Prod.ext h5.2.1.symm h5.1.symm)
 | ok y =>
  obtain ⟨r', ts'⟩ := y
  obtain ⟨rfl, g, rfl⟩ := h5.fine
  simp only at g ⊢
  rw [if_pos g.1]
  by_cases hk : st.k < l.length
  ·rw [if_pos hk]
   obtain ⟨u, hu⟩ : ∃ u, l[st.k]? = some u := ⟨_, List.getElem?_eq_getElem hk⟩
   rw [drop_cons hu]
   unfold placeS endM
   rw [hu]
  ·rw [if_neg hk, List.drop_eq_nil_of_le (by omega)]
   rfl
set_option maxRecDepth 100000 in
set_option maxHeartbeats 3200000 in
theorem rule_full_any (s : ByteArray) (w : World) (hs : s.size ≤ maxLen) (he : Hid (Env w)) : Calls Tryz.prog 13 #[.string s] w (RuleOut w s.data.toList) := by
 have hln : Hid (s.data.toList.length = s.size) := by unfold Hid; simp
 have h8 : Hid (8 ≤ w.heap.size + 1) := by have := he.out.size; unfold Hid; omega
 have hR0 : Hid (Blk (w.alloc (.cells zeroN 25)) w.heap.size 25 zeroN) := Blk.new w 25 zeroN
 have hB0 : Hid (Below w.heap.size w (w.alloc (.cells zeroN 25))) := (Below.refl _ w).alloc le9 _
 have hsz0 : Hid ((w.alloc (.cells zeroN 25)).heap.size = w.heap.size + 1) := by unfold Hid; simp
 have ne1 : w.heap.size + 1 ≠ w.heap.size := by omega
 have ne2 : w.heap.size ≠ w.heap.size + 1 := by omega
 go_enter Tryz.func13, Tryz.ntmps13
 go_wp2_with fail
 change Calls Tryz.prog 30 _ (w.alloc (.cells zeroN 25)) _
 obtain ⟨wa, hwa⟩ : ∃ x, Hid (w.alloc (.cells zeroN 25) = x) := ⟨_, hd9 rfl⟩
 rw [hwa.out] at hR0 hB0 hsz0 ⊢
 clear hwa
 refine (begin_any s wa hs (he.out.below hB0.out)).mono ?_
 rintro x w1 ⟨rfl, hb1, hcase⟩
 rw [hsz0.out] at hcase ⊢
 have hR1 := hd9 (hR0.out.below hb1 hR0.out.lt)
 have hB1 : Hid (Below w.heap.size w w1) := hB0.out.trans (hb1.mono hB0.out.size)
 have hsz1 : Hid (w.heap.size + 1 ≤ w1.heap.size) := by have := hb1.size; have := hsz0.out; unfold Hid; omega
 clear hb1 hR0 hB0
 rcases hcase with ⟨l, v, h4096, hsc, hl, hown, hrow⟩ | ⟨k, cd, hbad, hcd, hrow⟩
 ·obtain ⟨A, c, rfl⟩ := own_slice hown
  have hrow' := hd9 hrow
  by_cases hnil : l = []
  ·subst hnil
   have hres := hd9 (rule_empty (by rw [hln.out]; exact h4096) hsc)
   clear hown hrow hsc hl
   have hR := hR1
   have hB := hB1
   have d0 : w1.cell? ⟨w.heap.size + 1, 0, none⟩ = some (.slice A 0 c) := hrow'.out.cell 0
   have d4 : w1.cell? ⟨w.heap.size + 1, 4, none⟩ = some (.int .i64 0) := hrow'.out.cell 4
   have dlt := hrow'.out.lt
   obtain ⟨rc0, rc1, rc2, rc3, rc4, rc5, rf0, rf1, rf2, rf3, rf4, rf5⟩ := cf6 hR.out
   have rlt := hR.out.lt
   go_wp2_with fail
   refine bodyPost_ret (results_row_tmp2 rfl _ _ w.heap.size 25 _ _ rfl ((((((hR.out.set_ 0 _).set_ 1 _).set_ 2 _).set_ 3 _).set_ 4 _).set_ 5 _) Tryz.underlying25 rfl (by kernel_rfl)) rfl ?_
   unfold RuleOut
   rw [hres.out]
   exact ⟨((((((hB.out.setCell le9 _).setCell le9 _).setCell le9 _).setCell le9 _).setCell le9 _).setCell le9 _), .mk 0 0 [] [] 0 none 0 [], rfl, tree_leaf _ _ _ _ _ _ _ _ _, strip_leaf _ _ _ _ _ _ _⟩
  ·obtain ⟨r, st, hwh, hres0⟩ := rule_tokens (by rw [hln.out]; exact h4096) hsc hnil hl
   rw [hln.out] at hwh hres0
   have hres1 := hd9 hres0
   have hok : Hid (TokOk l) := tokens_ok hsc (by rw [hln.out]; exact h4096)
   have hpar : Hid (ParAt w1 (w.heap.size + 1) A c s.size l ⟨0, 0, 0⟩) := ⟨hrow, tok_own hown (Nat.lt_succ_self _), hl, Nat.zero_le _⟩
   have hl0 : 0 < l.length := List.length_pos_iff.2 hnil
   have b0 : ((l.length : Int) == 0) = false := by simp; exact hnil
   have hwc := hd9 (whole_any (w.heap.size + 1) A c s.size l h8 hok (2 * l.length + 2) (by omega) w1 ⟨0, 0, 0⟩ (r, st) hwh hpar (he.out.below hB1.out))
   have d0 : w1.cell? ⟨w.heap.size + 1, 0, none⟩ = some (.slice A l.length c) := hrow'.out.cell 0
   have d4 : w1.cell? ⟨w.heap.size + 1, 4, none⟩ = some (.int .i64 0) := hrow'.out.cell 4
   have dlt := hrow'.out.lt
   have hlc := hd9 hl
   clear hown hrow hsc hl hnil hwh hres0
   go_wp2_with fail
   refine hwc.out.mono ?_
   rintro x w2 ⟨hu2, hq2, ⟨uk, up, uf, ux, un, uA, uc, uL⟩, rfl, ht2, hs2⟩
   have hsz2 : Hid (w.heap.size + 1 ≤ w2.heap.size) := Nat.le_trans hsz1.out hu2.size
   have hs2' := hd9 hs2
   have hbl : ∀ o, Below w2.heap.size w2 (w2.alloc o) := fun o => (Below.refl _ w2).alloc le9 o
   have hN : Hid (Blk (w2.alloc (.cells #[.int .i64 uk, .int .i64 up, .string ⟨uf.toArray⟩, .string ⟨ux.toArray⟩, .int .i64 un, .slice uA uL.length uc] 25)) w2.heap.size 25 #[.int .i64 uk, .int .i64 up, .string ⟨uf.toArray⟩, .string ⟨ux.toArray⟩, .int .i64 un, .slice uA uL.length uc]) := Blk.new w2 25 _
   have hR := hd9 ((hu2.blk hR1.out (by omega)).alloc (.cells #[.int .i64 uk, .int .i64 up, .string ⟨uf.toArray⟩, .string ⟨ux.toArray⟩, .int .i64 un, .slice uA uL.length uc] 25))
   have hB2 : Hid (Below w.heap.size w w2) := hu2.to_below hB1.out (by omega) hB1.out.size
   have hB : Hid (Below w.heap.size w (w2.alloc (.cells #[.int .i64 uk, .int .i64 up, .string ⟨uf.toArray⟩, .string ⟨ux.toArray⟩, .int .i64 un, .slice uA uL.length uc] 25))) := hB2.out.alloc hB2.out.size _
   have hq := hd9 (hq2.below (hbl (.cells #[.int .i64 uk, .int .i64 up, .string ⟨uf.toArray⟩, .string ⟨ux.toArray⟩, .int .i64 un, .slice uA uL.length uc] 25)))
   have ht : Hid (TreeAt (w2.alloc (.cells #[.int .i64 uk, .int .i64 up, .string ⟨uf.toArray⟩, .string ⟨ux.toArray⟩, .int .i64 un, .slice uA uL.length uc] 25)) (fun b => w.heap.size + 1 ≤ b) (.mk uk up uf ux un uA uc uL)) := (ht2.mono (fun b _ hb => Nat.le_trans hsz1.out hb)).below (hbl _)
   have ne3 : w2.heap.size ≠ w.heap.size := by have := hsz2.out; omega
   have ne4 : w.heap.size ≠ w2.heap.size := by have := hsz2.out; omega
   have ne5 : w2.heap.size ≠ w.heap.size + 1 := by have := hq2.row.lt; omega
   have ne6 : w.heap.size + 1 ≠ w2.heap.size := by have := hq2.row.lt; omega
   obtain ⟨sk, sp, sc⟩ := st
   have d0 : w2.cell? ⟨w.heap.size + 1, 0, none⟩ = some (.slice A l.length c) := hq2.row.cell 0
   have d1 : w2.cell? ⟨w.heap.size + 1, 1, none⟩ = some (.int .i64 sk) := hq2.row.cell 1
   have dlt := hq2.row.lt
   clear hu2 hq2 ht2 hs2 hbl hwc
   unfold Tree.cells
   obtain ⟨wb, hwb⟩ : ∃ x, Hid (w2.alloc (.cells #[.int .i64 uk, .int .i64 up, .string ⟨uf.toArray⟩, .string ⟨ux.toArray⟩, .int .i64 un, .slice uA uL.length uc] 25) = x) := ⟨_, hd9 rfl⟩
   go_wp2_with fail
   have d0 : (w2.alloc (.cells #[.int .i64 uk, .int .i64 up, .string ⟨uf.toArray⟩, .string ⟨ux.toArray⟩, .int .i64 un, .slice uA uL.length uc] 25)).cell? ⟨w.heap.size + 1, 0, none⟩ = some (.slice A l.length c) := hq.out.row.cell 0
   have d1 : (w2.alloc (.cells #[.int .i64 uk, .int .i64 up, .string ⟨uf.toArray⟩, .string ⟨ux.toArray⟩, .int .i64 un, .slice uA uL.length uc] 25)).cell? ⟨w.heap.size + 1, 1, none⟩ = some (.int .i64 sk) := hq.out.row.cell 1
   have d4 : (w2.alloc (.cells #[.int .i64 uk, .int .i64 up, .string ⟨uf.toArray⟩, .string ⟨ux.toArray⟩, .int .i64 un, .slice uA uL.length uc] 25)).cell? ⟨w.heap.size + 1, 4, none⟩ = some (.int .i64 sc) := hq.out.row.cell 4
   rw [hwb.out] at hN hR hB hq ht d0 d1 d4 ⊢
   clear hwb
   have hBq : Hid (∀ k, Below wb.heap.size wb (wb.drewN k)) := fun k => below_drewN (Below.refl _ _) k
   by_cases hk : sk < l.length
   ·have b1 : decide ((sk : Int) < (l.length : Int)) = true := by simp; omega
    go_quiet (fail)
    go_wp2_with fail
    obtain ⟨pl, hpl⟩ : ∃ k, Hid (placeS s.size l ⟨sk, sp, sc⟩ = k) := ⟨_, hd9 rfl⟩
    refine (place_any _ (w.heap.size + 1) A c s.size l ⟨sk, sp, sc⟩ (hq.out.below (hBq.out _))).mono ?_
    rintro x w3 ⟨rfl, hb3⟩
    rw [hpl.out]
    have hb3' : Hid (Below wb.heap.size wb w3) := (hBq.out _).trans (hb3.mono (hBq.out _).size)
    clear hb3
    have hR := hd9 (hR.out.below hb3'.out hR.out.lt)
    have hB := hd9 (hB.out.trans (hb3'.out.mono hB.out.size))
    have hq := hd9 (hq.out.below hb3'.out)
    clear hb3' d0 d1 d4 hN ht
    go_wp2_with fail
    refine (fail_any w3 (w.heap.size + 1) A c s.size l ⟨sk, sp, sc⟩ pl 2 hq).mono ?_
    rintro x w4 ⟨rfl, hu4, hq4⟩
    have hR := hd9 (hu4.blk hR.out (by omega))
    have hB : Hid (Below w.heap.size w w4) := hu4.to_below hB.out (by omega) hB.out.size
    clear hu4 hq
    by_cases hz : sc = 0
    ·subst hz
     have hq : Hid (ParAt w4 (w.heap.size + 1) A c s.size l ⟨sk, pl, 2⟩) := hq4
     have hres : Hid (ruleT s.data.toList = .error (pl, 2)) := by
      have h := hres1.out
      rw [if_pos rfl, if_pos hk] at h
      rw [← hpl.out]; exact h
     have hcn : Hid ((2 : Int) ≠ 0) := by unfold Hid; decide
     clear hq4 hres1 b1
     obtain ⟨rc0, rc1, rc2, rc3, rc4, rc5, rf0, rf1, rf2, rf3, rf4, rf5⟩ := cf6 hR.out
     have rlt := hR.out.lt
     have d3 : w4.cell? ⟨w.heap.size + 1, 3, none⟩ = some (.int .i64 (pl : Nat)) := hq.out.row.cell 3
     have d4 : w4.cell? ⟨w.heap.size + 1, 4, none⟩ = some (.int .i64 2) := hq.out.row.cell 4
     have dlt := hq.out.row.lt
     go_wp2_with fail
     go_region
     all_goals
      go_wp2_with fail
      refine bodyPost_ret (results_row_tmp2 rfl _ _ w.heap.size 25 _ _ rfl (Blk.drew ((((((hR.out.set_ 0 _).set_ 1 _).set_ 2 _).set_ 3 _).set_ 4 _).set_ 5 _)) Tryz.underlying25 rfl (by kernel_rfl)) rfl ?_
      unfold RuleOut
      rw [hres.out]
      exact ⟨Below.drew ((((((hB.out.setCell le9 _).setCell le9 _).setCell le9 _).setCell le9 _).setCell le9 _).setCell le9 _), rfl, hcn.out⟩
    ·have hq : Hid (ParAt w4 (w.heap.size + 1) A c s.size l ⟨sk, sp, sc⟩) := by rw [fail_bad hz] at hq4; exact hq4
     have hres : Hid (ruleT s.data.toList = .error (sp, sc)) := by
      have h := hres1.out
      rw [if_neg hz] at h
      exact h
     have hcn := hd9 hz
     have b2 : (sc != 0) = true := by simp [hz]
     clear hq4 hres1 b1 hz
     obtain ⟨rc0, rc1, rc2, rc3, rc4, rc5, rf0, rf1, rf2, rf3, rf4, rf5⟩ := cf6 hR.out
     have rlt := hR.out.lt
     have d3 : w4.cell? ⟨w.heap.size + 1, 3, none⟩ = some (.int .i64 (sp : Nat)) := hq.out.row.cell 3
     have d4 : w4.cell? ⟨w.heap.size + 1, 4, none⟩ = some (.int .i64 sc) := hq.out.row.cell 4
     have dlt := hq.out.row.lt
     go_wp2_with fail
     go_region
     all_goals
      go_wp2_with fail
      refine bodyPost_ret (results_row_tmp2 rfl _ _ w.heap.size 25 _ _ rfl (Blk.drew ((((((hR.out.set_ 0 _).set_ 1 _).set_ 2 _).set_ 3 _).set_ 4 _).set_ 5 _)) Tryz.underlying25 rfl (by kernel_rfl)) rfl ?_
      unfold RuleOut
      rw [hres.out]
      exact ⟨Below.drew ((((((hB.out.setCell le9 _).setCell le9 _).setCell le9 _).setCell le9 _).setCell le9 _).setCell le9 _), rfl, hcn.out⟩
   ·have b1 : decide ((sk : Int) < (l.length : Int)) = false := by simp; omega
    by_cases hz : sc = 0
    ·subst hz
     have hres : Hid (ruleT s.data.toList = .ok r) := by
      have h := hres1.out
      rw [if_pos rfl, if_neg hk] at h
      exact h
     clear hres1
     have nlt := hN.out.lt
     obtain ⟨nc0, nc1, nc2, nc3, nc4, nc5⟩ := cs6 hN.out
     obtain ⟨rc0, rc1, rc2, rc3, rc4, rc5, rf0, rf1, rf2, rf3, rf4, rf5⟩ := cf6 hR.out
     have rlt := hR.out.lt
     have dlt := hq.out.row.lt
     go_quiet (fail)
     go_wp2_with fail
     refine bodyPost_ret (results_row_tmp2 rfl _ _ w.heap.size 25 _ _ rfl (((((((hR.out.drewN _).set_ 0 _).set_ 1 _).set_ 2 _).set_ 3 _).set_ 4 _).set_ 5 _) Tryz.underlying25 rfl (by kernel_rfl)) rfl ?_
     unfold RuleOut
     rw [hres.out]
     have hh : ∀ b, (w.heap.size + 1 ≤ b) → b ≠ w.heap.size := fun b hb => by omega
     refine ⟨(((((((below_drewN hB.out _).setCell le9 _).setCell le9 _).setCell le9 _).setCell le9 _).setCell le9 _).setCell le9 _), .mk uk up uf ux un uA uc uL, rfl, ?_, hs2'.out⟩
     exact ((((((((ht.out.below (hBq.out _)).far hh _ _).far hh _ _).far hh _ _).far hh _ _).far hh _ _).far hh _ _)).mono (fun b _ hk => by omega)
    ·have hres : Hid (ruleT s.data.toList = .error (sp, sc)) := by
      have h := hres1.out
      rw [if_neg hz] at h
      exact h
     have hcn := hd9 hz
     have b2 : (sc != 0) = true := by simp [hz]
     clear hres1 hz
     go_quiet (fail)
     have hR := hd9 (hR.out.drewN nq)
     have hB := hd9 (below_drewN hB.out nq)
     have hq := hd9 (hq.out.below (hBq.out nq))
     obtain ⟨wc, hwc⟩ : ∃ x, Hid (wb.drewN nq = x) := ⟨_, hd9 rfl⟩
     rw [hwc.out] at hR hB hq ⊢
     clear hwc
     clear d0 d1 d4
     obtain ⟨rc0, rc1, rc2, rc3, rc4, rc5, rf0, rf1, rf2, rf3, rf4, rf5⟩ := cf6 hR.out
     have rlt := hR.out.lt
     have d3 : wc.cell? ⟨w.heap.size + 1, 3, none⟩ = some (.int .i64 (sp : Nat)) := hq.out.row.cell 3
     have d4 : wc.cell? ⟨w.heap.size + 1, 4, none⟩ = some (.int .i64 sc) := hq.out.row.cell 4
     have dlt := hq.out.row.lt
     go_wp2_with fail
     go_region
     all_goals
      go_wp2_with fail
      refine bodyPost_ret (results_row_tmp2 rfl _ _ w.heap.size 25 _ _ rfl (Blk.drew ((((((hR.out.set_ 0 _).set_ 1 _).set_ 2 _).set_ 3 _).set_ 4 _).set_ 5 _)) Tryz.underlying25 rfl (by kernel_rfl)) rfl ?_
      unfold RuleOut
      rw [hres.out]
      exact ⟨Below.drew ((((((hB.out.setCell le9 _).setCell le9 _).setCell le9 _).setCell le9 _).setCell le9 _).setCell le9 _), rfl, hcn.out⟩
 ·have hres := hd9 (rule_noscan (by rw [hln.out]; exact hbad))
  have hcn := hd9 hcd
  have hpar : Hid (ParAt w1 (w.heap.size + 1) none 0 s.size [] ⟨0, k, cd⟩) := ⟨hrow, fun i t h => by simp at h, by simp, Nat.zero_le _⟩
  obtain ⟨r, hwh⟩ := (whole_agree s.size [] 1 (by omega)).1 ⟨0, k, cd⟩ hcd
  have hok : Hid (TokOk []) := fun i t h => by simp at h
  have hwc := hd9 (whole_any (w.heap.size + 1) none 0 s.size [] h8 hok 1 (by omega) w1 ⟨0, k, cd⟩ (r, ⟨0, k, cd⟩) hwh hpar (he.out.below hB1.out))
  have b0 : (cd == 0) = false := by simp [hcd]
  have b2 : (cd != 0) = true := by simp [hcd]
  have d0 : w1.cell? ⟨w.heap.size + 1, 0, none⟩ = some (.slice none 0 0) := hrow.cell 0
  have d4 : w1.cell? ⟨w.heap.size + 1, 4, none⟩ = some (.int .i64 cd) := hrow.cell 4
  have dlt := hrow.lt
  clear hrow hbad hcd hwh
  go_wp2_with fail
  refine hwc.out.mono ?_
  rintro x w2 ⟨hu2, hq2, ⟨uk, up, uf, ux, un, uA, uc, uL⟩, rfl, ht2, hs2⟩
  have hsz2 : Hid (w.heap.size + 1 ≤ w2.heap.size) := Nat.le_trans hsz1.out hu2.size
  have hbl : ∀ o, Below w2.heap.size w2 (w2.alloc o) := fun o => (Below.refl _ w2).alloc le9 o
  have hR := hd9 ((hu2.blk hR1.out (by omega)).alloc (.cells #[.int .i64 uk, .int .i64 up, .string ⟨uf.toArray⟩, .string ⟨ux.toArray⟩, .int .i64 un, .slice uA uL.length uc] 25))
  have hB2 : Hid (Below w.heap.size w w2) := hu2.to_below hB1.out (by omega) hB1.out.size
  have hB : Hid (Below w.heap.size w (w2.alloc (.cells #[.int .i64 uk, .int .i64 up, .string ⟨uf.toArray⟩, .string ⟨ux.toArray⟩, .int .i64 un, .slice uA uL.length uc] 25))) := hB2.out.alloc hB2.out.size _
  have hq := hd9 (hq2.below (hbl (.cells #[.int .i64 uk, .int .i64 up, .string ⟨uf.toArray⟩, .string ⟨ux.toArray⟩, .int .i64 un, .slice uA uL.length uc] 25)))
  have ne3 : w2.heap.size ≠ w.heap.size := by have := hsz2.out; omega
  have ne4 : w.heap.size ≠ w2.heap.size := by have := hsz2.out; omega
  have ne5 : w2.heap.size ≠ w.heap.size + 1 := by have := hq2.row.lt; omega
  have ne6 : w.heap.size + 1 ≠ w2.heap.size := by have := hq2.row.lt; omega
  have dlt := hq2.row.lt
  clear hu2 hq2 ht2 hs2 hbl hwc d0 d4
  unfold Tree.cells
  obtain ⟨wb, hwb⟩ : ∃ x, Hid (w2.alloc (.cells #[.int .i64 uk, .int .i64 up, .string ⟨uf.toArray⟩, .string ⟨ux.toArray⟩, .int .i64 un, .slice uA uL.length uc] 25) = x) := ⟨_, hd9 rfl⟩
  go_wp2_with fail
  have d0 : (w2.alloc (.cells #[.int .i64 uk, .int .i64 up, .string ⟨uf.toArray⟩, .string ⟨ux.toArray⟩, .int .i64 un, .slice uA uL.length uc] 25)).cell? ⟨w.heap.size + 1, 0, none⟩ = some (.slice none 0 0) := hq.out.row.cell 0
  have d1 : (w2.alloc (.cells #[.int .i64 uk, .int .i64 up, .string ⟨uf.toArray⟩, .string ⟨ux.toArray⟩, .int .i64 un, .slice uA uL.length uc] 25)).cell? ⟨w.heap.size + 1, 1, none⟩ = some (.int .i64 0) := hq.out.row.cell 1
  rw [hwb.out] at hR hB hq d0 d1 ⊢
  clear hwb
  have hBq : Hid (∀ k, Below wb.heap.size wb (wb.drewN k)) := fun k => below_drewN (Below.refl _ _) k
  go_quiet (fail)
  have hR := hd9 (hR.out.drewN nq)
  have hB := hd9 (below_drewN hB.out nq)
  have hq := hd9 (hq.out.below (hBq.out nq))
  obtain ⟨wc, hwc⟩ : ∃ x, Hid (wb.drewN nq = x) := ⟨_, hd9 rfl⟩
  rw [hwc.out] at hR hB hq ⊢
  clear hwc
  clear d0 d1
  obtain ⟨rc0, rc1, rc2, rc3, rc4, rc5, rf0, rf1, rf2, rf3, rf4, rf5⟩ := cf6 hR.out
  have rlt := hR.out.lt
  have d3 : wc.cell? ⟨w.heap.size + 1, 3, none⟩ = some (.int .i64 (k : Nat)) := hq.out.row.cell 3
  have d4 : wc.cell? ⟨w.heap.size + 1, 4, none⟩ = some (.int .i64 cd) := hq.out.row.cell 4
  have dlt := hq.out.row.lt
  go_wp2_with fail
  go_region
  all_goals
   go_wp2_with fail
   refine bodyPost_ret (results_row_tmp2 rfl _ _ w.heap.size 25 _ _ rfl (Blk.drew ((((((hR.out.set_ 0 _).set_ 1 _).set_ 2 _).set_ 3 _).set_ 4 _).set_ 5 _)) Tryz.underlying25 rfl (by kernel_rfl)) rfl ?_
   unfold RuleOut
   rw [hres.out]
   exact ⟨Below.drew ((((((hB.out.setCell le9 _).setCell le9 _).setCell le9 _).setCell le9 _).setCell le9 _).setCell le9 _), rfl, hcn.out⟩
end Go.Proofs.YtjkmhlfjheiekaaGreatDoor

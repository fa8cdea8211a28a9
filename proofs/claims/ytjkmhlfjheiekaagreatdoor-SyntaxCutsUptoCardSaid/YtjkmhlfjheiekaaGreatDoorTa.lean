import Derived.Test.YtjkmhlfjheiekaaGreatDoorC
import Derived.Test.YtjkmhlfjheiekaaGreatDoorShelf
import Derived.Test.YtjkmhlfjheiekaaGreatDoorX
import Derived.Test.YtjkmhlfjheiekaaGreatDoorZb
set_option maxRecDepth 1000000
set_option maxHeartbeats 51200000
namespace Go.Proofs.YtjkmhlfjheiekaaGreatDoor
open Go Go.RowKit Go.BigFrame Go.Maps
theorem rr2z {P : Program} {fn : Func} {p u v : Tmp} {ty : TypeId} (h : fn.results = #[.cell p ty, .tmp u, .tmp v]) (tmps : Array Value) (w : World) (g : Nat) (t : TypeId) (cs : Array Value) (d : TypeDesc)
  (hp : tmps.getD p undef = .pointer (some (Az g 0))) (hg : Blk w g t cs)
  (hu : P.underlying ty = some d) (hd : (match d with | .struct _ | .array _ _ => true | _ => false) = true) (hi : (P.info? ty).map (·.size) = some cs.size) :
  (results fn tmps).run P w = .ok (.tuple #[.agg cs, tmps.getD u undef, tmps.getD v undef]) w := by
 have hp' : tmps[p]?.getD undef = .pointer (some (Az g 0)) := by simpa using hp
 simp [results, h, hp', asAddr, run_loadVar_row w g t ty cs (0, 0) d hg hu hd hi, Result.andThen]
theorem tokL_get : ∀ (T : List Tok) (k : Nat) (t : Tok), T[k]? = some t → ∀ i, i < 3 → (tokL T)[k * 3 + i]? = t.cells.toList[i]?
 | [], k, x, h, i, hi => by simp at h
 | y :: T, 0, x, h, i, hi => by
  simp only [List.getElem?_cons_zero, Option.some.injEq] at h; subst h; show (y.cells.toList ++ tokL T)[0 * 3 + i]? = _; rw [Nat.zero_mul, Nat.zero_add, List.getElem?_append_left (by simp [Tok.cells, tokC]; exact hi)]
 | y :: T, k + 1, x, h, i, hi => by
  have ih := tokL_get T k x (by simpa using h) i hi; show (y.cells.toList ++ tokL T)[(k + 1) * 3 + i]? = _; rw [List.getElem?_append_right (by simp [Tok.cells, tokC]; omega), show y.cells.toList.length = 3 from rfl, show (k + 1) * 3 + i - 3 = k * 3 + i by omega]; exact ih
theorem tok_own {w : World} {B pb n : Nat} {p : Option Addr} {c : Nat} {l : List Tok} (h : w.ownsRow B 89 3 (.slice p n c) l.length (tokL l)) (hB : pb < B) : TokAt w pb p l := by
 intro i t ht
 have hlt := (List.getElem?_eq_some_iff.1 ht).1
 rcases h.2 with ⟨h1, h0⟩ | ⟨g, cap, cur, hv, hg, _⟩
 ·omega
 ·obtain rfl : p = some (Az g 0) := by simp at hv; exact hv.1
  have hh := h; simp only [Value.slice.injEq] at hv; obtain ⟨_, rfl, rfl⟩ := hv
  have hc : ∀ j, j < 3 → ∀ u, t.cells.toList[j]? = some u → w.cell? ⟨g, 0 + i * 3 + j, none⟩ = some u := fun j hj u hu => by
   have := hh.cells (g := g) rfl (i * 3 + j) u (by rw [tokL_get l i t ht j hj]; exact hu)
   rwa [show Addr.add (Az g 0) (i * 3 + j) = ⟨g, 0 + i * 3 + j, none⟩ by unfold Addr.add; split <;> simp_all] at this
  exact ⟨g, 0, rfl, by omega, hc 0 (by omega) _ rfl, hc 1 (by omega) _ rfl, hc 2 (by omega) _ rfl⟩
def RuleOut (w : World) (s : Txt) (x : Ending) (w' : World) : Prop := Bz w w' ∧ match ruleT s with
 | .ok r => ∃ t, x = .returned (.tuple #[.agg t.cells, Iz 0, Iz 0]) ∧ TAz w' (fun b => w.heap.size ≤ b) t ∧ stz t = r
 | .error (k, cd) => x = .returned (.tuple #[.agg zeroN, Iz (k : Nat), Iz cd]) ∧ cd ≠ 0
theorem rule_empty {s : Txt} (h1 : s.length ≤ 4096) (h2 : scanT s = .ok []) : ruleT s = .ok emptyR := by
 rw [ruleT, if_neg (by omega), h2]
theorem rule_noscan {s : Txt} {k : Nat} {cd : Int} (h : 4096 < s.length ∧ k = 0 ∧ cd = 7 ∨ s.length ≤ 4096 ∧ scanT s = .error (k, cd)) : ruleT s = .error (k, cd) := by
 rcases h with ⟨h, rfl, rfl⟩ | ⟨h1, h2⟩
 ·rw [ruleT, if_pos h]
 ·rw [ruleT, if_neg (by omega), h2]
def endM (y : Res Rul) : Except (Nat × Int) Rul := match y with
 | .error x => .error x
 | .ok (r, []) => .ok r
 | .ok (_, t' :: _) => .error (t'.place, 2)
theorem rule_tokens {s : Txt} {l : List Tok} (h1 : s.length ≤ 4096) (h2 : scanT s = .ok l) (hne : l ≠ []) (hln : l.length ≤ 4096) : ∃ r st, wholeS s.length l (2 * l.length + 2) ⟨0, 0, 0⟩ = some (r, st) ∧
  (if st.cd = 0 then (if st.k < l.length then ruleT s = .error (placeS s.length l st, 2) else ruleT s = .ok r) else ruleT s = .error (st.pl, st.cd)) := by
 obtain ⟨⟨r, st⟩, y, h3, h4, h5, _⟩ := (whole_agree s.length l (2 * l.length + 2) (by omega)).2 ⟨0, 0, 0⟩ ⟨rfl, Nat.zero_le _⟩ (by simp; omega)
 refine ⟨r, st, h3, ?_⟩
 rw [List.drop_zero] at h4
 have hr : ruleT s = endM y := by
  cases l with
  | nil => exact absurd rfl hne
  | cons t ts =>
   rw [List.length_cons] at h4; rw [ruleT, if_neg (by omega), h2]; simp only; rw [h4]
   rcases y with q | ⟨r', _ | ⟨a, b⟩⟩ <;> rfl
 rw [hr]
 cases y with
 | error q =>
  obtain ⟨pl, cd⟩ := q; have hb : st.cd ≠ 0 := h5.bad; rw [if_neg hb]; unfold endM; exact congrArg Except.error (Prod.ext h5.2.1.symm h5.1.symm)
 | ok y =>
  obtain ⟨r', ts'⟩ := y; obtain ⟨rfl, g, rfl⟩ := h5.fine; simp only at g ⊢; rw [if_pos g.1]
  by_cases hk : st.k < l.length
  ·rw [if_pos hk]
   obtain ⟨u, hu⟩ : ∃ u, l[st.k]? = some u := ⟨_, List.getElem?_eq_getElem hk⟩; rw [drop_cons hu]; unfold placeS endM; rw [hu]
  ·rw [if_neg hk, List.drop_eq_nil_of_le (by omega)]
   rfl
theorem rule_full_any (s : ByteArray) (w : World) (hs : s.size ≤ maxLen) (he : Hid (Env w)) : Cz 13 #[.string s] w (RuleOut w s.data.toList) := by
 have hln : Hid (s.data.toList.length = s.size) := by unfold Hid; simp
 have h8 : Hid (8 ≤ w.heap.size + 1) := by have := he.out.size; unfold Hid; omega
 have hR0 : Hid (Blk (w.alloc (.cells zeroN 25)) w.heap.size 25 zeroN) := Blk.new w 25 zeroN
 have hB0 : Hid (Bz w (w.alloc (.cells zeroN 25))) := (Below.refl _ w).alloc leZ _
 have hsz0 : Hid ((w.alloc (.cells zeroN 25)).heap.size = w.heap.size + 1) := by unfold Hid; simp
 have ne1 : w.heap.size + 1 ≠ w.heap.size := by omega
 have ne2 : w.heap.size ≠ w.heap.size + 1 := by omega
 go_enter Tryz.func13, Tryz.ntmps13
 go_wp2_with fail
 change Cz 30 _ (w.alloc (.cells zeroN 25)) _
 obtain ⟨wa, hwa⟩ := nmZ (w.alloc (.cells zeroN 25))
 rw [hwa.out] at hR0 hB0 hsz0 ⊢
 clear hwa
 refine (begin_any s wa hs (he.out.below hB0.out)).mono ?_
 rintro x w1 ⟨rfl, hb1, hcase⟩
 rw [hsz0.out] at hcase ⊢
 have hR1 := hdZ (hR0.out.below hb1 hR0.out.lt)
 have hB1 : Hid (Bz w w1) := hB0.out.trans (hb1.mono hB0.out.size)
 have hsz1 : Hid (w.heap.size + 1 ≤ w1.heap.size) := by have := hb1.size; have := hsz0.out; unfold Hid; omega
 clear hb1 hR0 hB0
 rcases hcase with ⟨l, v, h4096, hsc, hl, hown, hrow⟩ | ⟨k, cd, hbad, hcd, hrow⟩
 ·obtain ⟨A, c, rfl⟩ := osz hown
  have hrow' := hdZ hrow
  by_cases hnil : l = []
  ·subst hnil
   have hres := hdZ (rule_empty (by rw [hln.out]; exact h4096) hsc); clear hown hrow hsc hl; have hR := hR1; have hB := hB1; have d0 : w1.cell? ⟨w.heap.size + 1, 0, none⟩ = some (.slice A 0 c) := hrow'.out.cell 0; have d4 : w1.cell? ⟨w.heap.size + 1, 4, none⟩ = some (Iz 0) := hrow'.out.cell 4; have dlt := hrow'.out.lt; obtain ⟨rc0, rc1, rc2, rc3, rc4, rc5, rf0, rf1, rf2, rf3, rf4, rf5⟩ := cf6 hR.out; have rlt := hR.out.lt; go_wp2_with fail; refine bodyPost_ret (rr2z rfl _ _ w.heap.size 25 _ _ rfl ((((((hR.out.set_ 0 _).set_ 1 _).set_ 2 _).set_ 3 _).set_ 4 _).set_ 5 _) Tryz.underlying25 rfl (by kernel_rfl)) rfl ?_; unfold RuleOut; rw [hres.out]; exact ⟨((((((hB.out.setCell leZ _).setCell leZ _).setCell leZ _).setCell leZ _).setCell leZ _).setCell leZ _), .mk 0 0 [] [] 0 none 0 [], rfl, tlz _ _ _ _ _ _ _ _ _, slz _ _ _ _ _ _ _⟩
  ·obtain ⟨r, st, hwh, hres0⟩ := rule_tokens (by rw [hln.out]; exact h4096) hsc hnil hl
   rw [hln.out] at hwh hres0; have hres1 := hdZ hres0; have hok : Hid (TokOk l) := tokens_ok hsc (by rw [hln.out]; exact h4096); have hpar : Hid (ParAt w1 (w.heap.size + 1) A c s.size l ⟨0, 0, 0⟩) := ⟨hrow, tok_own hown (Nat.lt_succ_self _), hl, Nat.zero_le _⟩; have hl0 : 0 < l.length := List.length_pos_iff.2 hnil; have b0 : ((l.length : Int) == 0) = false := by simp; exact hnil
   have hwc := hdZ (whole_any (w.heap.size + 1) A c s.size l h8 hok (2 * l.length + 2) (by omega) w1 ⟨0, 0, 0⟩ (r, st) hwh hpar (he.out.below hB1.out)); have d0 : w1.cell? ⟨w.heap.size + 1, 0, none⟩ = some (.slice A l.length c) := hrow'.out.cell 0; have d4 : w1.cell? ⟨w.heap.size + 1, 4, none⟩ = some (Iz 0) := hrow'.out.cell 4; have dlt := hrow'.out.lt; have hlc := hdZ hl; clear hown hrow hsc hl hnil hwh hres0; go_wp2_with fail; refine hwc.out.mono ?_; rintro x w2 ⟨hu2, hq2, ⟨uk, up, uf, ux, un, uA, uc, uL⟩, rfl, ht2, hs2⟩; have hsz2 : Hid (w.heap.size + 1 ≤ w2.heap.size) := Nat.le_trans hsz1.out hu2.size; have hs2' := hdZ hs2; have hbl : ∀ o, Bz w2 (w2.alloc o) := fun o => (Below.refl _ w2).alloc leZ o
   have hN : Hid (Blk (w2.alloc (.cells (z1z uk up uf ux un uA uL.length uc) 25)) w2.heap.size 25 (z1z uk up uf ux un uA uL.length uc)) := Blk.new w2 25 _; have hR := hdZ ((hu2.blk hR1.out (by omega)).alloc (.cells (z1z uk up uf ux un uA uL.length uc) 25)); have hB2 : Hid (Bz w w2) := hu2.to_below hB1.out (by omega) hB1.out.size; have hB : Hid (Bz w (w2.alloc (.cells (z1z uk up uf ux un uA uL.length uc) 25))) := hB2.out.alloc hB2.out.size _; have hq := hdZ (hq2.below (hbl (.cells (z1z uk up uf ux un uA uL.length uc) 25))); have ht : Hid (TAz (w2.alloc (.cells (z1z uk up uf ux un uA uL.length uc) 25)) (fun b => w.heap.size + 1 ≤ b) (.mk uk up uf ux un uA uc uL)) := (ht2.mono (fun b _ hb => Nat.le_trans hsz1.out hb)).below (hbl _); have ne3 : w2.heap.size ≠ w.heap.size := by have := hsz2.out; omega
   have ne4 : w.heap.size ≠ w2.heap.size := by have := hsz2.out; omega
   have ne5 : w2.heap.size ≠ w.heap.size + 1 := by have := hq2.row.lt; omega
   have ne6 : w.heap.size + 1 ≠ w2.heap.size := by have := hq2.row.lt; omega
   obtain ⟨sk, sp, sc⟩ := st; have d0 : w2.cell? ⟨w.heap.size + 1, 0, none⟩ = some (.slice A l.length c) := hq2.row.cell 0; have d1 : w2.cell? ⟨w.heap.size + 1, 1, none⟩ = some (Iz sk) := hq2.row.cell 1; have dlt := hq2.row.lt; clear hu2 hq2 ht2 hs2 hbl hwc; unfold Tree.cells; obtain ⟨wb, hwb⟩ := nmZ (w2.alloc (.cells (z1z uk up uf ux un uA uL.length uc) 25)); go_wp2_with fail; have d0 : (w2.alloc (.cells (z1z uk up uf ux un uA uL.length uc) 25)).cell? ⟨w.heap.size + 1, 0, none⟩ = some (.slice A l.length c) := hq.out.row.cell 0; have d1 : (w2.alloc (.cells (z1z uk up uf ux un uA uL.length uc) 25)).cell? ⟨w.heap.size + 1, 1, none⟩ = some (Iz sk) := hq.out.row.cell 1; have d4 : (w2.alloc (.cells (z1z uk up uf ux un uA uL.length uc) 25)).cell? ⟨w.heap.size + 1, 4, none⟩ = some (Iz sc) := hq.out.row.cell 4; rw [hwb.out] at hN hR hB hq ht d0 d1 d4 ⊢; clear hwb; have hBq : Hid (∀ k, Bz wb (wb.drewN k)) := fun k => bdz (Below.refl _ _) k
   by_cases hk : sk < l.length
   ·have b1 : decide ((sk : Int) < (l.length : Int)) = true := by simp; omega
    go_quiet (fail)
    go_wp2_with fail; obtain ⟨pl, hpl⟩ := nmZ (placeS s.size l ⟨sk, sp, sc⟩); refine (place_any _ (w.heap.size + 1) A c s.size l ⟨sk, sp, sc⟩ (hq.out.below (hBq.out _))).mono ?_; rintro x w3 ⟨rfl, hb3⟩; rw [hpl.out]; have hb3' : Hid (Bz wb w3) := (hBq.out _).trans (hb3.mono (hBq.out _).size); clear hb3; have hR := hdZ (hR.out.below hb3'.out hR.out.lt); have hB := hdZ (hB.out.trans (hb3'.out.mono hB.out.size)); have hq := hdZ (hq.out.below hb3'.out); clear hb3' d0 d1 d4 hN ht; go_wp2_with fail; refine (fail_any w3 (w.heap.size + 1) A c s.size l ⟨sk, sp, sc⟩ pl 2 hq).mono ?_; rintro x w4 ⟨rfl, hu4, hq4⟩; have hR := hdZ (hu4.blk hR.out (by omega)); have hB : Hid (Bz w w4) := hu4.to_below hB.out (by omega) hB.out.size; clear hu4 hq
    by_cases hz : sc = 0
    ·subst hz
     have hq : Hid (ParAt w4 (w.heap.size + 1) A c s.size l ⟨sk, pl, 2⟩) := hq4
     have hres : Hid (ruleT s.data.toList = .error (pl, 2)) := by
      have h := hres1.out; rw [if_pos rfl, if_pos hk] at h; rw [← hpl.out]; exact h
     have hcn : Hid ((2 : Int) ≠ 0) := by unfold Hid; decide
     clear hq4 hres1 b1; obtain ⟨rc0, rc1, rc2, rc3, rc4, rc5, rf0, rf1, rf2, rf3, rf4, rf5⟩ := cf6 hR.out; have rlt := hR.out.lt; have d3 : w4.cell? ⟨w.heap.size + 1, 3, none⟩ = some (Iz (pl : Nat)) := hq.out.row.cell 3; have d4 : w4.cell? ⟨w.heap.size + 1, 4, none⟩ = some (Iz 2) := hq.out.row.cell 4; have dlt := hq.out.row.lt; go_wp2_with fail
     go_region
     all_goals
      go_wp2_with fail; refine bodyPost_ret (rr2z rfl _ _ w.heap.size 25 _ _ rfl (Blk.drew ((((((hR.out.set_ 0 _).set_ 1 _).set_ 2 _).set_ 3 _).set_ 4 _).set_ 5 _)) Tryz.underlying25 rfl (by kernel_rfl)) rfl ?_; unfold RuleOut; rw [hres.out]; exact ⟨Below.drew ((((((hB.out.setCell leZ _).setCell leZ _).setCell leZ _).setCell leZ _).setCell leZ _).setCell leZ _), rfl, hcn.out⟩
    ·have hq : Hid (ParAt w4 (w.heap.size + 1) A c s.size l ⟨sk, sp, sc⟩) := by rw [fail_bad hz] at hq4; exact hq4
     have hres : Hid (ruleT s.data.toList = .error (sp, sc)) := by
      have h := hres1.out; rw [if_neg hz] at h; exact h
     have hcn := hdZ hz; have b2 : (sc != 0) = true := by simp [hz]
     clear hq4 hres1 b1 hz; obtain ⟨rc0, rc1, rc2, rc3, rc4, rc5, rf0, rf1, rf2, rf3, rf4, rf5⟩ := cf6 hR.out; have rlt := hR.out.lt; have d3 : w4.cell? ⟨w.heap.size + 1, 3, none⟩ = some (Iz (sp : Nat)) := hq.out.row.cell 3; have d4 : w4.cell? ⟨w.heap.size + 1, 4, none⟩ = some (Iz sc) := hq.out.row.cell 4; have dlt := hq.out.row.lt; go_wp2_with fail
     go_region
     all_goals
      go_wp2_with fail; refine bodyPost_ret (rr2z rfl _ _ w.heap.size 25 _ _ rfl (Blk.drew ((((((hR.out.set_ 0 _).set_ 1 _).set_ 2 _).set_ 3 _).set_ 4 _).set_ 5 _)) Tryz.underlying25 rfl (by kernel_rfl)) rfl ?_; unfold RuleOut; rw [hres.out]; exact ⟨Below.drew ((((((hB.out.setCell leZ _).setCell leZ _).setCell leZ _).setCell leZ _).setCell leZ _).setCell leZ _), rfl, hcn.out⟩
   ·have b1 : decide ((sk : Int) < (l.length : Int)) = false := by simp; omega
    by_cases hz : sc = 0
    ·subst hz
     have hres : Hid (ruleT s.data.toList = .ok r) := by
      have h := hres1.out; rw [if_pos rfl, if_neg hk] at h; exact h
     clear hres1; have nlt := hN.out.lt; obtain ⟨nc0, nc1, nc2, nc3, nc4, nc5⟩ := cs6 hN.out; obtain ⟨rc0, rc1, rc2, rc3, rc4, rc5, rf0, rf1, rf2, rf3, rf4, rf5⟩ := cf6 hR.out; have rlt := hR.out.lt; have dlt := hq.out.row.lt
     go_quiet (fail)
     go_wp2_with fail; refine bodyPost_ret (rr2z rfl _ _ w.heap.size 25 _ _ rfl (((((((hR.out.drewN _).set_ 0 _).set_ 1 _).set_ 2 _).set_ 3 _).set_ 4 _).set_ 5 _) Tryz.underlying25 rfl (by kernel_rfl)) rfl ?_; unfold RuleOut; rw [hres.out]; have hh : ∀ b, (w.heap.size + 1 ≤ b) → b ≠ w.heap.size := fun b hb => by omega
     refine ⟨(((((((bdz hB.out _).setCell leZ _).setCell leZ _).setCell leZ _).setCell leZ _).setCell leZ _).setCell leZ _), .mk uk up uf ux un uA uc uL, rfl, ?_, hs2'.out⟩; exact ((((((((ht.out.below (hBq.out _)).far hh _ _).far hh _ _).far hh _ _).far hh _ _).far hh _ _).far hh _ _)).mono (fun b _ hk => by omega)
    ·have hres : Hid (ruleT s.data.toList = .error (sp, sc)) := by
      have h := hres1.out; rw [if_neg hz] at h; exact h
     have hcn := hdZ hz; have b2 : (sc != 0) = true := by simp [hz]
     clear hres1 hz
     go_quiet (fail)
     have hR := hdZ (hR.out.drewN nq); have hB := hdZ (bdz hB.out nq); have hq := hdZ (hq.out.below (hBq.out nq)); obtain ⟨wc, hwc⟩ := nmZ (wb.drewN nq); rw [hwc.out] at hR hB hq ⊢; clear hwc; clear d0 d1 d4; obtain ⟨rc0, rc1, rc2, rc3, rc4, rc5, rf0, rf1, rf2, rf3, rf4, rf5⟩ := cf6 hR.out; have rlt := hR.out.lt; have d3 : wc.cell? ⟨w.heap.size + 1, 3, none⟩ = some (Iz (sp : Nat)) := hq.out.row.cell 3; have d4 : wc.cell? ⟨w.heap.size + 1, 4, none⟩ = some (Iz sc) := hq.out.row.cell 4; have dlt := hq.out.row.lt; go_wp2_with fail
     go_region
     all_goals
      go_wp2_with fail; refine bodyPost_ret (rr2z rfl _ _ w.heap.size 25 _ _ rfl (Blk.drew ((((((hR.out.set_ 0 _).set_ 1 _).set_ 2 _).set_ 3 _).set_ 4 _).set_ 5 _)) Tryz.underlying25 rfl (by kernel_rfl)) rfl ?_; unfold RuleOut; rw [hres.out]; exact ⟨Below.drew ((((((hB.out.setCell leZ _).setCell leZ _).setCell leZ _).setCell leZ _).setCell leZ _).setCell leZ _), rfl, hcn.out⟩
 ·have hres := hdZ (rule_noscan (by rw [hln.out]; exact hbad))
  have hcn := hdZ hcd; have hpar : Hid (ParAt w1 (w.heap.size + 1) none 0 s.size [] ⟨0, k, cd⟩) := ⟨hrow, fun i t h => by simp at h, by simp, Nat.zero_le _⟩; obtain ⟨r, hwh⟩ := (whole_agree s.size [] 1 (by omega)).1 ⟨0, k, cd⟩ hcd; have hok : Hid (TokOk []) := fun i t h => by simp at h
  have hwc := hdZ (whole_any (w.heap.size + 1) none 0 s.size [] h8 hok 1 (by omega) w1 ⟨0, k, cd⟩ (r, ⟨0, k, cd⟩) hwh hpar (he.out.below hB1.out)); have b0 : (cd == 0) = false := by simp [hcd]
  have b2 : (cd != 0) = true := by simp [hcd]
  have d0 : w1.cell? ⟨w.heap.size + 1, 0, none⟩ = some (.slice none 0 0) := hrow.cell 0; have d4 : w1.cell? ⟨w.heap.size + 1, 4, none⟩ = some (Iz cd) := hrow.cell 4; have dlt := hrow.lt; clear hrow hbad hcd hwh; go_wp2_with fail; refine hwc.out.mono ?_; rintro x w2 ⟨hu2, hq2, ⟨uk, up, uf, ux, un, uA, uc, uL⟩, rfl, ht2, hs2⟩; have hsz2 : Hid (w.heap.size + 1 ≤ w2.heap.size) := Nat.le_trans hsz1.out hu2.size; have hbl : ∀ o, Bz w2 (w2.alloc o) := fun o => (Below.refl _ w2).alloc leZ o
  have hR := hdZ ((hu2.blk hR1.out (by omega)).alloc (.cells (z1z uk up uf ux un uA uL.length uc) 25)); have hB2 : Hid (Bz w w2) := hu2.to_below hB1.out (by omega) hB1.out.size; have hB : Hid (Bz w (w2.alloc (.cells (z1z uk up uf ux un uA uL.length uc) 25))) := hB2.out.alloc hB2.out.size _; have hq := hdZ (hq2.below (hbl (.cells (z1z uk up uf ux un uA uL.length uc) 25))); have ne3 : w2.heap.size ≠ w.heap.size := by have := hsz2.out; omega
  have ne4 : w.heap.size ≠ w2.heap.size := by have := hsz2.out; omega
  have ne5 : w2.heap.size ≠ w.heap.size + 1 := by have := hq2.row.lt; omega
  have ne6 : w.heap.size + 1 ≠ w2.heap.size := by have := hq2.row.lt; omega
  have dlt := hq2.row.lt; clear hu2 hq2 ht2 hs2 hbl hwc d0 d4; unfold Tree.cells; obtain ⟨wb, hwb⟩ := nmZ (w2.alloc (.cells (z1z uk up uf ux un uA uL.length uc) 25)); go_wp2_with fail; have d0 : (w2.alloc (.cells (z1z uk up uf ux un uA uL.length uc) 25)).cell? ⟨w.heap.size + 1, 0, none⟩ = some (.slice none 0 0) := hq.out.row.cell 0; have d1 : (w2.alloc (.cells (z1z uk up uf ux un uA uL.length uc) 25)).cell? ⟨w.heap.size + 1, 1, none⟩ = some (Iz 0) := hq.out.row.cell 1; rw [hwb.out] at hR hB hq d0 d1 ⊢; clear hwb; have hBq : Hid (∀ k, Bz wb (wb.drewN k)) := fun k => bdz (Below.refl _ _) k
  go_quiet (fail)
  have hR := hdZ (hR.out.drewN nq); have hB := hdZ (bdz hB.out nq); have hq := hdZ (hq.out.below (hBq.out nq)); obtain ⟨wc, hwc⟩ := nmZ (wb.drewN nq); rw [hwc.out] at hR hB hq ⊢; clear hwc; clear d0 d1; obtain ⟨rc0, rc1, rc2, rc3, rc4, rc5, rf0, rf1, rf2, rf3, rf4, rf5⟩ := cf6 hR.out; have rlt := hR.out.lt; have d3 : wc.cell? ⟨w.heap.size + 1, 3, none⟩ = some (Iz (k : Nat)) := hq.out.row.cell 3; have d4 : wc.cell? ⟨w.heap.size + 1, 4, none⟩ = some (Iz cd) := hq.out.row.cell 4; have dlt := hq.out.row.lt; go_wp2_with fail
  go_region
  all_goals
   go_wp2_with fail; refine bodyPost_ret (rr2z rfl _ _ w.heap.size 25 _ _ rfl (Blk.drew ((((((hR.out.set_ 0 _).set_ 1 _).set_ 2 _).set_ 3 _).set_ 4 _).set_ 5 _)) Tryz.underlying25 rfl (by kernel_rfl)) rfl ?_; unfold RuleOut; rw [hres.out]; exact ⟨Below.drew ((((((hB.out.setCell leZ _).setCell leZ _).setCell leZ _).setCell leZ _).setCell leZ _).setCell leZ _), rfl, hcn.out⟩
open Go Go.RowKit
def signsL : List Txt := [[40], [41], [44], [59], [58], [46], [61], [126], [60, 61], [62, 61]]
structure GoodT (t : Tok) : Prop where
 kind : 0 ≤ t.kind ∧ t.kind ≤ 5
 name : t.kind ≤ 2 → nameM t.text = true ∧ (rankM t.text).1 = t.kind
 text : t.kind = 3 → textM t.text = true
 code : t.kind = 4 → t.text.length = 3 ∧ t.text.all lgB = true
 sign : t.kind = 5 → signsL.contains t.text = true
theorem fold_big : ∀ (t : Txt) (a : Nat), a * 10 ^ t.length ≤ foldV a t
 | [], a => by simp [foldV]
 | c :: r, a => by
  have := fold_big r (10 * a + (c.toNat - 48)); have h2 : foldV a (c :: r) = foldV (10 * a + (c.toNat - 48)) r := rfl; rw [h2, List.length_cons, Nat.pow_succ]; refine Nat.le_trans ?_ this; have : a * (10 ^ r.length * 10) = (10 * a) * 10 ^ r.length := by rw [Nat.mul_comm (10 ^ r.length), ← Nat.mul_assoc, Nat.mul_comm a]
  rw [this]; exact Nat.mul_le_mul_right _ (by omega)
theorem digit_nought : ∀ c : UInt8, dgB c = true → c ≠ 48 → 1 ≤ c.toNat - 48 :=
 byte_all (P := fun c => dgB c = true → c ≠ 48 → 1 ≤ c.toNat - 48) (by decide)
theorem num_short {t : Txt} (hd : t.all dgB = true) (h1 : ¬ (1 < t.length ∧ t.head? = some 48)) (hm : numV t ≤ mostN) : t.length ≤ 16 := by
 cases t with
 | nil => simp
 | cons c r =>
  by_cases hr : r = []
  ·rw [hr]; simp
  ·have hc : c ≠ 48 := fun h => h1 ⟨by cases r with | nil => exact absurd rfl hr | cons => simp, by rw [h]; rfl⟩
   rw [List.all_cons, Bool.and_eq_true] at hd; have hg := digit_nought c hd.1 hc; have hf : numV (c :: r) = foldV (10 * 0 + (c.toNat - 48)) r := rfl; have hb := fold_big r (10 * 0 + (c.toNat - 48)); rw [← hf] at hb; unfold mostN at hm
   by_cases hl : r.length ≤ 15
   ·simp; omega
   ·exfalso
    have h10 : 10 ^ 13 ≤ 10 ^ r.length := Nat.pow_le_pow_right (by omega) (by omega); have h11 : 1 * 10 ^ r.length ≤ (10 * 0 + (c.toNat - 48)) * 10 ^ r.length := Nat.mul_le_mul_right _ (by omega); omega
theorem word_short : ∀ t : Txt, wordsL.contains t = true → t.length ≤ 16 := by
 intro t ht
 have h : wordsL.all (fun t => decide (t.length ≤ 16)) = true := by decide
 have := List.all_eq_true.1 h t (by simpa using ht)
 simpa using this
theorem rank_good {t : Txt} (h0 : (rankM t).2 = 0) (hs : t.all smB = true) (hne : t ≠ []) : nameM t = true := by
 have h1 : 1 ≤ t.length := by cases t with | nil => exact absurd rfl hne | cons => simp
 have h16 : t.length ≤ 16 := by
  unfold rankM at h0
  split at h0
  ·rename_i hd
   simp only at h0
   split at h0
   ·exact absurd h0 (by decide)
   ·rename_i h
    split at h0
    ·exact absurd h0 (by decide)
    ·exact num_short hd h (by omega)
  ·split at h0
   ·rename_i hw; exact word_short t hw
   ·simp only at h0
    split at h0
    ·assumption
    ·exact absurd h0 (by decide)
 unfold nameM
 simp [h1, h16, hs, h0]
theorem one_good {s t : Txt} {kd : Int} {m p : Nat} (h : oneM s = .ok (kd, t, m)) : GoodT ⟨kd, p, t⟩ := by
 cases s with
 | nil => simp [oneM] at h
 | cons c r =>
  rw [oneM] at h
  split at h
  ·rename_i hc
   split at h
   ·rename_i h0
    simp only [Except.ok.injEq, Prod.mk.injEq] at h; obtain ⟨rfl, rfl, rfl⟩ := h; have hk := rank_kind ((c :: r).takeWhile smB); have hn := rank_good h0 List.all_takeWhile (by rw [List.takeWhile_cons, if_pos hc]; simp); refine ⟨by simp only; omega, fun _ => ⟨hn, rfl⟩, fun h => ?_, fun h => ?_, fun h => ?_⟩ <;> simp only at h <;> omega
   ·cases h
  ·split at h
   ·split at h
    ·rename_i h3
     simp only [Except.ok.injEq, Prod.mk.injEq] at h; obtain ⟨rfl, rfl, rfl⟩ := h; exact ⟨by simp, fun h => absurd h (by simp), fun h => absurd h (by simp), fun _ => ⟨h3, List.all_takeWhile⟩, fun h => absurd h (by simp)⟩
    ·cases h
   ·split at h
    ·split at h
     ·simp only [Except.ok.injEq, Prod.mk.injEq] at h
      obtain ⟨rfl, rfl, rfl⟩ := h; exact ⟨by simp, fun h => absurd h (by simp), fun _ => List.all_takeWhile, fun h => absurd h (by simp), fun h => absurd h (by simp)⟩
     ·cases h
    ·split at h
     ·rename_i hc
      split at h
      ·simp only [Except.ok.injEq, Prod.mk.injEq] at h
       obtain ⟨rfl, rfl, rfl⟩ := h; refine ⟨by simp, fun h => absurd h (by simp), fun h => absurd h (by simp), fun h => absurd h (by simp), fun _ => ?_⟩; show signsL.contains _ = true
       rcases hc with rfl | rfl <;> rfl
      ·cases h
     ·split at h
      ·rename_i hc
       simp only [Except.ok.injEq, Prod.mk.injEq] at h; obtain ⟨rfl, rfl, rfl⟩ := h; refine ⟨by simp, fun h => absurd h (by simp), fun h => absurd h (by simp), fun h => absurd h (by simp), fun _ => ?_⟩; simp at hc; show signsL.contains _ = true
       rcases hc with rfl | rfl | rfl | rfl | rfl | rfl | rfl | rfl <;> rfl
      ·cases h
theorem scan_good_all : ∀ (f n k : Nat) (s : Txt) (l : List Tok), scanM f n k s = .ok l → ∀ t ∈ l, GoodT t
 | 0, n, k, s, l, h => by simp [scanM] at h
 | f + 1, n, k, s, l, h => by
  rw [scanM] at h
  split at h
  ·obtain rfl := Except.ok.inj h
   intro t ht; cases ht
  ·split at h
   ·cases h
   ·split at h
    ·cases h
    ·rename_i kd tx m ho
     split at h
     ·cases h
     ·rename_i l' hq
      obtain rfl := Except.ok.inj h; have ih := scan_good_all f _ _ _ l' hq; intro t ht
      rcases List.mem_cons.1 ht with rfl | ht
      ·exact one_good ho
      ·exact ih t ht
def GoodL (l : List Tok) : Prop := ∀ t ∈ l, GoodT t
theorem scan_goodL {s : Txt} {l : List Tok} (h : scanT s = .ok l) : GoodL l := scan_good_all _ _ _ _ _ h
theorem takeM_good {e : Nat} {p : Tok → Bool} {ts r : List Tok} {x : Txt} (h : takeM e p ts = .ok (x, r)) (hg : GoodL ts) : GoodL r ∧ ∃ t, GoodT t ∧ p t = true ∧ x = t.text := by
 obtain ⟨t, rfl, h1, h2⟩ := takeM_ok h
 exact ⟨fun u hu => hg u (by simp [hu]), t, hg t (by simp), h1, h2⟩
theorem numM_good {e : Nat} {lo hi x : Int} {ts r : List Tok} (h : numM e lo hi ts = .ok (x, r)) (hg : GoodL ts) : GoodL r ∧ lo ≤ x ∧ x ≤ hi := by
 unfold numM at h
 split at h
 ·cases h
 ·rename_i t r' ht
  split at h
  ·cases h
  ·simp only [Except.ok.injEq, Prod.mk.injEq] at h
   obtain ⟨rfl, rfl⟩ := h; exact ⟨(takeM_good ht hg).1, by omega, by omega⟩
theorem named_good {t : Tok} (h : GoodT t) (hn : nmB t = true) : nameM t.text = true := by
 refine (h.name ?_).1
 unfold nmB at hn
 simp at hn
 omega
theorem atomM_good {e : Nat} {ts r : List Tok} {x : Rul} (h : atomM e ts = .ok (x, r)) (hg : GoodL ts) : GoodL r ∧ mayR x = true := by
 unfold atomM at h
 obtain ⟨f, t1, h1, h⟩ := bsz h
 obtain ⟨o, t2, h2, h⟩ := bsz h
 obtain ⟨g1, tf, gf, pf, rfl⟩ := takeM_good h1 hg
 obtain ⟨g2, _, _, _, rfl⟩ := takeM_good h2 g1
 have nf := named_good gf pf
 split at h
 ·split at h
  ·obtain ⟨_, t3, h3, h⟩ := bsz h
   obtain ⟨_, t4, h4, h⟩ := bsz h; obtain ⟨_, t5, h5, h⟩ := bsz h; obtain ⟨g3, tp, gp, pp, rfl⟩ := takeM_good h3 g2; obtain ⟨g4, _⟩ := takeM_good h4 g3; obtain ⟨g5, tn, gn, pn, rfl⟩ := takeM_good h5 g4; simp only [Except.ok.injEq, Prod.mk.injEq] at h; obtain ⟨rfl, rfl⟩ := h; have nn := named_good gn pn
   have hp : 0 ≤ paperI tp.text ∧ paperI tp.text < 6 := by
    unfold ppB at pp; simp at pp; refine ⟨pp.2, ?_⟩; unfold paperI
    split <;> omega
   refine ⟨g5, ?_⟩; rw [mayR, if_neg (by decide), if_neg (by decide), if_neg (by decide), if_neg (by decide), if_pos rfl]; simp [nf, nn, hp]
  ·obtain ⟨_, t3, h3, h⟩ := bsz h
   obtain ⟨g3, tx, gx, px, rfl⟩ := takeM_good h3 g2; simp only [Except.ok.injEq, Prod.mk.injEq] at h; obtain ⟨rfl, rfl⟩ := h; have nx := gx.text (by simpa [kdB] using px); refine ⟨g3, ?_⟩; rw [mayR, if_neg (by decide), if_neg (by decide), if_pos (by decide)]; simp [nf, nx]
 ·split at h
  ·obtain ⟨_, t3, h3, h⟩ := bsz h
   obtain ⟨g3, tx, gx, px, rfl⟩ := takeM_good h3 g2; simp only [Except.ok.injEq, Prod.mk.injEq] at h; obtain ⟨rfl, rfl⟩ := h; have nx := gx.text (by simpa [kdB] using px); refine ⟨g3, ?_⟩; rw [mayR, if_neg (by decide), if_neg (by decide), if_pos (by decide)]; simp [nf, nx]
  ·split at h
   all_goals
    obtain ⟨nv, t3, h3, h⟩ := bsz h; obtain ⟨g3, hlo, hhi⟩ := numM_good h3 g2; simp only [Except.ok.injEq, Prod.mk.injEq] at h; obtain ⟨rfl, rfl⟩ := h; refine ⟨g3, ?_⟩; rw [mayR, if_neg (by decide), if_neg (by decide), if_neg (by decide), if_pos (by decide)]; simp [nf, hlo, hhi]
def Wide (part : List Tok → Option (Res Rul)) : Prop := ∀ ts r ts', part ts = some (.ok (r, ts')) → GoodL ts → GoodL ts' ∧ (crowdR r = false → mayR r = true)
theorem parts_wide {part : List Tok → Option (Res Rul)} (sep : Txt) (h : Wide part) : ∀ (n : Nat) (ts : List Tok) (L : List Rul) (ts' : List Tok), partsP part sep n ts = some (.ok (L, ts')) → GoodL ts → GoodL ts' ∧ (crowdL L = false → mayL L = true) ∧ L ≠ []
 | 0, _, _, _, hp, _ => by simp [partsP] at hp
 | n + 1, ts, L, ts', hp, hg => by
  rw [partsP] at hp
  split at hp
  ·cases hp
  ·cases hp
  ·rename_i r t1 h1
   obtain ⟨g1, m1⟩ := h _ _ _ h1 hg
   split at hp
   ·split at hp
    ·cases hp
    ·cases hp
    ·rename_i l t2 h2
     simp only [Option.some.injEq, Except.ok.injEq, Prod.mk.injEq] at hp; obtain ⟨rfl, rfl⟩ := hp; obtain ⟨g2, m2, _⟩ := parts_wide sep h n _ _ _ h2 (fun u hu => g1 u (List.mem_of_mem_tail hu)); refine ⟨g2, fun hc => ?_, by simp⟩; rw [crowdL, Bool.or_eq_false_iff] at hc; rw [mayL, m1 hc.1, m2 hc.2]; rfl
   ·simp only [Option.some.injEq, Except.ok.injEq, Prod.mk.injEq] at hp
    obtain ⟨rfl, rfl⟩ := hp; refine ⟨g1, fun hc => ?_, by simp⟩; rw [crowdL, Bool.or_eq_false_iff] at hc; rw [mayL, m1 hc.1]; rfl
theorem row_wide {part : List Tok → Option (Res Rul)} {sep : Txt} {k : Int} (hk : k = 0 ∨ k = 1) (n : Nat) (h : Wide part) : Wide (rowP part sep k n) := by
 intro ts r ts' hr hg
 unfold rowP at hr
 split at hr
 ·cases hr
 ·cases hr
 ·rename_i L t1 h1
  simp only [Option.some.injEq, Except.ok.injEq, Prod.mk.injEq] at hr; obtain ⟨rfl, rfl⟩ := hr; obtain ⟨g1, m1, hne⟩ := parts_wide sep h n _ _ _ h1 hg; refine ⟨g1, fun hc => ?_⟩
  match L, hne, hc with
  | [], hne, _ => exact absurd rfl hne
  | [r], _, hc =>
   have : crowdL [r] = false := by rw [crowdL, crowdL]; simpa [joinK] using hc
   have := m1 this; rw [mayL, Bool.and_eq_true] at this; exact this.1
  | r1 :: r2 :: L, _, hc =>
   rw [joinK] at hc ⊢
   ·rw [crowdR, Bool.or_eq_false_iff] at hc
    have h64 : ¬ 64 < (r1 :: r2 :: L).length := by simpa using hc.1
    rw [mayR, if_pos hk, m1 hc.2]; simp only [List.length_cons] at h64 ⊢; simp; omega
   ·intro r h; simp at h
   ·intro r h; simp at h
theorem one_wide (e : Nat) : ∀ n, Wide (oneP e n)
 | 0 => fun ts r ts' h _ => by simp [oneP] at h
 | n + 1 => fun ts r ts' h hg => by
  have ih := one_wide e n; rw [oneP] at h; have htl : GoodL ts.tail := fun u hu => hg u (List.mem_of_mem_tail hu)
  split at h
  ·split at h
   ·cases h
   ·cases h
   ·rename_i r1 t1 h1
    simp only [Option.some.injEq, Except.ok.injEq, Prod.mk.injEq] at h; obtain ⟨rfl, rfl⟩ := h; obtain ⟨g1, m1⟩ := ih _ _ _ h1 htl; refine ⟨g1, fun hc => ?_⟩; rw [crowdR, Bool.or_eq_false_iff, crowdL, Bool.or_eq_false_iff] at hc; rw [mayR, if_neg (by decide), if_pos rfl, mayL, m1 hc.2.1]
    rfl
  ·split at h
   ·split at h
    ·cases h
    ·cases h
    ·rename_i r1 t1 h1
     simp only [Option.some.injEq] at h; obtain ⟨_, t2, h2, h⟩ := bsz h; simp only [Except.ok.injEq, Prod.mk.injEq] at h; obtain ⟨rfl, rfl⟩ := h; obtain ⟨g1, m1⟩ := (row_wide (.inr rfl) n (row_wide (.inl rfl) n ih)) _ _ _ h1 htl; exact ⟨(takeM_good h2 g1).1, m1⟩
   ·simp only [Option.some.injEq] at h
    obtain ⟨g1, m1⟩ := atomM_good h hg; exact ⟨g1, fun _ => m1⟩
theorem rule_wide (e n : Nat) : Wide (ruleP e n) := row_wide (.inr rfl) n (row_wide (.inl rfl) n (one_wide e n))
theorem rule_may {e n : Nat} {ts ts' : List Tok} {r : Rul} (h : ruleP e n ts = some (.ok (r, ts'))) (hg : GoodL ts) : mayR r = !crowdR r := by
 cases hc : crowdR r with
 | false => rw [(rule_wide e n _ _ _ h hg).2 hc]; rfl
 | true =>
  cases hm : mayR r with
  | false => rfl
  | true => rw [may_crowd r hm] at hc; cases hc
end Go.Proofs.YtjkmhlfjheiekaaGreatDoor
namespace Go.Proofs
open Go
def Tryz.lays166_ren : Go.Shelf.Ren := ⟨fun | 166 => 79 | 240 => 126 | 276 => 151 | n => n, fun | 70 => 67 | 9 => 9 | 3 => 3 | 75 => 120 | 0 => 0 | 72 => 70 | 37 => 68 | 4 => 4 | 164 => 161 | 80 => 72 | 5 => 5 | n => n, fun | n => n⟩
theorem Tryz.lays166 : Go.Proofs.Lays.n166 Tryz.prog Tryz.lays166_ren := {
 mixed := by kernel_rfl
 f166 := Tryz.func79.trans (congrArg some (by kernel_rfl))
 f240 := Tryz.func126.trans (congrArg some (by kernel_rfl))
 f276 := Tryz.func151.trans (congrArg some (by kernel_rfl))
 t0 := Tryz.underlying0
 a0 := Tryz.isAgg0
 z0 := Tryz.sizeOf0
 v0 := Tryz.zeroValue0
 t3 := Tryz.underlying3
 a3 := Tryz.isAgg3
 z3 := Tryz.sizeOf3
 v3 := Tryz.zeroValue3
 t4 := Tryz.underlying4
 a4 := Tryz.isAgg4
 z4 := Tryz.sizeOf4
 v4 := Tryz.zeroValue4
 t9 := Tryz.underlying9
 a9 := Tryz.isAgg9
 z9 := Tryz.sizeOf9
 v9 := Tryz.zeroValue9
 t20 := Tryz.underlying20
 a20 := Tryz.isAgg20
 z20 := Tryz.sizeOf20
 v20 := Tryz.zeroValue20
 t37 := Tryz.underlying68
 a37 := Tryz.isAgg68
 z37 := Tryz.sizeOf68
 v37 := Tryz.zeroValue68
 t70 := Tryz.underlying67
 a70 := Tryz.isAgg67
 z70 := Tryz.sizeOf67
 v70 := Tryz.zeroValue67
 t72 := Tryz.underlying70
 a72 := Tryz.isAgg70
 z72 := Tryz.sizeOf70
 v72 := Tryz.zeroValue70
 t75 := Tryz.underlying120
 a75 := Tryz.isAgg120
 z75 := Tryz.sizeOf120
 v75 := Tryz.zeroValue120
 t164 := Tryz.underlying161
 a164 := Tryz.isAgg161
 z164 := Tryz.sizeOf161
 v164 := Tryz.zeroValue161 }

theorem Tryz.Builder_Extra_166 : Builder.Extra Tryz.prog Tryz.lays166_ren := {
 sizeBuilder := by kernel_rfl
 liesBuilder := by kernel_rfl
 t5 := Tryz.underlying5
 a5 := Tryz.isAgg5
 z5 := Tryz.sizeOf5
 v5 := Tryz.zeroValue5
 infoByte := by kernel_rfl
 cellsByte := by kernel_rfl
 sizeByte := by kernel_rfl
 neB5 := by decide }

open Go.RowKit in
theorem Tryz.Builder_WriteString_k (B b : Nat) (bs : List Value) (s : ByteArray) (w : World) (h : Lib.IsBuilderF 70 5 B b bs w) (hlen : bs.length + s.size ≤ 140737488355328) (hBw : B ≤ w.heap.size) :
  Calls Tryz.prog 79 #[.pointer (some ⟨b, 0, none⟩), .string s] w fun e w' => e = .returned (.tuple #[.int .i64 s.size, .nilIface]) ∧ (Lib.BuilderAtF 70 5 B b (.pointer (some ⟨b, 0, none⟩)) (bs ++ Lib.strCells s) w' ∧ Below B w w' ∧ Lib.OthersKept 5 (some b) w w') := Any.Builder_WriteString_k Tryz.lays166 Tryz.Builder_Extra_166 B b bs s w h hlen hBw
end Go.Proofs

namespace Go.Proofs.YtjkmhlfjheiekaaGreatDoor
open Go Go.RowKit Go.BigFrame Go.Maps
theorem run_all {s : ByteArray} {k : Nat} {r : Bool} {p : UInt8 → Bool} (hk : k < s.size) (h : r = (s.data.toList.drop k).all p) : r = (p s[k] && (s.data.toList.drop (k + 1)).all p) := by
 rw [h, drop_byte hk, List.all_cons]
theorem plain_nat (c : UInt8) : plB c = (!decide ((c.toNat : Int) < 32) && !decide (126 < (c.toNat : Int)) && !((c.toNat : Int) == 34)) :=
 byte_all (P := fun c => plB c = (!decide ((c.toNat : Int) < 32) && !decide (126 < (c.toNat : Int)) && !((c.toNat : Int) == 34))) (by decide) c
theorem isText_any (s : ByteArray) (w : World) (hs : s.size ≤ maxLen) : Cz 76 #[.string s] w fun e w' => e = .returned (.bool (textM s.data.toList)) ∧ w = w' := by
 unfold maxLen at hs
 show Cz 76 #[.string s] w fun e w' => e = .returned (.bool (s.data.toList.all plB)) ∧ w = w'
 go_enter Tryz.func76, Tryz.ntmps76
 go_wp2_with fail
 go_loopg [3, 6] s.size (fun gg _ i wr => ∃ k : Nat, k ≤ s.size ∧ gg = s.size - k ∧ i = Iz k ∧ w = wr ∧ Hid (s.data.toList.all plB = (s.data.toList.drop k).all plB))
 case atStart => exact ⟨0, Nat.zero_le _, by simp, rfl, rfl, rfl⟩
 case round =>
  obtain ⟨k, hk, hg, rfl, rfl, hall⟩ := hrel; have hg' := hdZ hg; clear hg
  by_cases hlt : k < s.size
  ·have hst := hdZ (run_all hlt hall.out)
   rw [plain_nat] at hst; have i1 : (k : Int) < (s.size : Int) := by omega
   have i2 : (0 : Int) ≤ (k : Int) := by omega
   have i3 : decide ((k : Int) < (s.size : Int)) = true := by simp; omega
   cases h1 : decide ((s[k].toNat : Int) < 32) <;> cases h2 : decide (126 < (s[k].toNat : Int)) <;> cases h3 : ((s[k].toNat : Int) == 34)
   all_goals
    rw [h1, h2, h3] at hst; go_wp2_with fail
    first
     | (go_roundg (s.size - (k + 1))
        case measure => have := hg'.out; omega
        case rel => exact ⟨k + 1, by omega, rfl, by go_num, rfl, by rw [hst.out]; first | rfl | simp⟩)
     | (go_ret
        exact ⟨by rw [hst.out]; rfl, rfl⟩)
  ·have hr : Hid (s.data.toList.all plB = true) := by unfold Hid; rw [hall.out, List.drop_eq_nil_of_le (by simp; omega)]; rfl
   have i3 : decide ((k : Int) < (s.size : Int)) = false := by simp; omega
   go_wp2_with fail; go_ret; exact ⟨by rw [hr.out]; first | done | rfl, rfl⟩
theorem take_all {p : UInt8 → Bool} : ∀ {s : Txt}, s.all p = true → s.takeWhile p = s
 | [], _ => rfl
 | c :: r, h => by
  rw [List.all_cons, Bool.and_eq_true] at h; rw [List.takeWhile_cons, if_pos h.1, take_all h.2]
theorem small_blank {c : UInt8} (h : smB c = true) : bkB c = false := small_not_blank h
theorem scan_mark {s : Txt} (h : markB s = true) : scanT s = if (rankM s).2 = 0 then .ok [⟨(rankM s).1, 0, s⟩] else .error (0, (rankM s).2) := by
 unfold markB at h
 simp only [Bool.and_eq_true, decide_eq_true_eq] at h
 obtain ⟨⟨h1, _⟩, h3⟩ := h
 cases s with
 | nil => simp at h1
 | cons c r =>
  have hc : smB c = true := by rw [List.all_cons, Bool.and_eq_true] at h3; exact h3.1
  have hb := small_blank hc; have htw := take_all h3; unfold scanT; rw [List.length_cons, scanM, List.dropWhile_cons, List.takeWhile_cons, hb]; simp only [Bool.false_eq_true, if_false, reduceCtorEq, List.length_nil, Nat.add_zero, Nat.zero_add]; rw [if_neg (by omega), oneM, if_pos hc, htw]
  by_cases h0 : (rankM (c :: r)).2 = 0
  ·rw [if_pos h0, if_pos h0]
   simp only; rw [List.drop_length, scanM]; simp
  ·rw [if_neg h0, if_neg h0]
theorem mark_name {s : Txt} : nameM s = (markB s && decide ((rankM s).2 = 0)) := rfl
theorem rank_named (s : Txt) (p : Nat) : nmB ⟨(rankM s).1, p, s⟩ = true := named_nm s p
theorem isName_any (s : ByteArray) (w : World) (hs : s.size ≤ maxLen) (he : Hid (Env w)) : Cz 75 #[.string s] w fun e w' => e = .returned (.bool (nameM s.data.toList)) ∧ Bz w w' := by
 have hcall := hdZ (markName_any s w hs)
 have hsc := hdZ (scan_any s w hs he)
 have hnm := hdZ (mark_name (s := s.data.toList))
 cases hm : markB s.data.toList with
 | false =>
  rw [hm] at hcall hnm; clear hsc
  go_enter Tryz.func75, Tryz.ntmps75
  go_wp2_with (go_at_call 124; refine hcall.out.mono ?_; rintro e w1 ⟨rfl, rfl⟩)
  go_ret; exact ⟨by rw [hnm.out]; rfl, Below.refl _ _⟩
 | true =>
  have hsm := hdZ (scan_mark hm); rw [hm] at hcall hnm
  go_enter Tryz.func75, Tryz.ntmps75
  go_wp2_with fail; refine hcall.out.mono ?_; rintro e w1 ⟨rfl, rfl⟩; clear hm hcall; go_wp2_with fail; refine hsc.out.mono ?_; rintro e w1 ⟨hB, hcase⟩; have hB' := hdZ hB
  rcases hcase with ⟨l, v, h1, rfl, hl, hown⟩ | ⟨k, cd, h1, hcd, rfl⟩
  ·rw [hsm.out] at h1
   have h0 : (rankM s.data.toList).2 = 0 := by
    by_cases h : (rankM s.data.toList).2 = 0
    ·exact h
    ·rw [if_neg h] at h1; cases h1
   rw [if_pos h0] at h1; obtain rfl := Except.ok.inj h1; obtain ⟨p, c, rfl⟩ := osz hown; obtain ⟨g, off, rfl, hg, c0, c1, c2⟩ := tok_own (pb := 0) hown (by omega) 0 _ rfl; rw [Nat.zero_mul, Nat.add_zero] at c0 c1 c2; have hnd := hdZ (named_fits w1 w1 ⟨(rankM s.data.toList).1, 0, s.data.toList⟩ (Below.refl _ _)); rw [rank_named] at hnd; have hn1 : Hid (nameM s.data.toList = true) := by unfold Hid; rw [hnm.out, h0]; rfl
   obtain ⟨rk, hrk⟩ := nmZ ((rankM s.data.toList).1); rw [hrk.out] at hnd c0; clear hown h1 h0 hsm hsc hl hB hnm; simp only at hnd c0 c1 c2; go_wp2_with fail; change Cz 125 #[.agg #[Iz rk, Iz (0 : Nat), .string ⟨s.data.toList.toArray⟩]] w1 _; refine Calls.mono (hnd.out) ?_; rintro e w2 ⟨rfl, hB2⟩; go_wp2_with fail; go_ret; exact ⟨by rw [hn1.out]; rfl, hB'.out.trans (hB2.mono hB'.out.size)⟩
  ·have h0 : ¬ (rankM s.data.toList).2 = 0 := fun h => by rw [hsm.out, if_pos h] at h1; cases h1
   have hn1 : Hid (nameM s.data.toList = false) := by unfold Hid; rw [hnm.out, decide_eq_false h0]; rfl
   have b1 : (cd == 0) = false := by simp [hcd]
   clear h1 h0 hsm hsc hB hnm; go_wp2_with fail; go_ret; exact ⟨by rw [hn1.out]; rfl, hB'.out⟩
theorem isPaper_any (p : Int) (w : World) : Cz 77 #[Iz p] w fun e w' => e = .returned (.bool (decide (0 ≤ p) && decide (p < 6))) ∧ w = w' := by
 cases h1 : decide (0 ≤ p) <;> cases h2 : decide (p < 6)
 all_goals
  go_enter Tryz.func77, Tryz.ntmps77
  go_wp2_with fail; go_ret; exact ⟨rfl, rfl⟩
end Go.Proofs.YtjkmhlfjheiekaaGreatDoor

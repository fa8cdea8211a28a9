/- The law SyntaxRules: of any text the rule, or where it goes wrong, and how, are the document's. -/
import Derived.Test.YtjkmhlfjheiekaaGreatDoorVn
import Derived.Test.YtjkmhlfjheiekaaGreatDoorVl
import Derived.Test.YtjkmhlfjheiekaaGreatDoorTg
namespace Go.Proofs.YtjkmhlfjheiekaaGreatDoor
open Go Go.RowKit Go.BigFrame Go.Maps

def kR (s : Txt) : Nat := match ruleT s with | .ok _ => 0 | .error (k, _) => k
def cR (s : Txt) : Int := match ruleT s with | .ok _ => 0 | .error (_, c) => c
def rR (s : Txt) : Rul := match ruleT s with | .ok r => r | .error _ => emptyR
theorem ruleOut_all {w w' : World} {s : Txt} {x : Ending} (h : RuleOut w s x w') : Below w.heap.size w w' ∧ ∃ t, x = .returned (.tuple #[.agg t.cells, .int .i64 (kR s : Nat), .int .i64 (cR s)]) ∧ TreeAt w' (fun b => w.heap.size ≤ b) t ∧ strip t = rR s := by
  unfold RuleOut at h
  unfold kR cR rR
  obtain ⟨hb, h⟩ := h
  refine ⟨hb, ?_⟩
  cases hr : ruleT s with
  | ok r =>
    rw [hr] at h
    exact h
  | error q =>
    obtain ⟨k, c⟩ := q
    rw [hr] at h
    exact ⟨.mk 0 0 [] [] 0 none 0 [], h.1, tree_leaf _ _ _ _ _ _ _ _ _, strip_leaf _ _ _ _ _ _ _⟩
set_option maxRecDepth 100000 in
set_option maxHeartbeats 6400000 in
theorem rules_law (s : ByteArray) (w : World) (hs : s.size ≤ maxLen) (he : Hid (Env w)) : Calls Tryz.prog 3 #[.string s] w fun e w' => e = .returned (.bool true) ∧ Below w.heap.size w w' := by
  have hs' := Lib.hid hs
  unfold maxLen at hs
  go_enter Tryz.func3, Tryz.ntmps3
  go_wp2_with fail
  refine (awake_any w he).mono ?_
  rintro e w1 ⟨rfl, hb1⟩
  have he1 := Lib.hid (he.out.below hb1)
  have hB1 := Lib.hid hb1
  by_cases hbig : 5000 < s.size
  · have b1 : decide ((5000 : Int) < (s.size : Int)) = true := by simp; omega
    go_wp2_with fail
    refine (awake_any w1 he1).mono ?_
    rintro e w2 ⟨rfl, hb2⟩
    go_wp2_with fail
    go_ret
    exact ⟨rfl, hB1.out.trans (hb2.mono hB1.out.size)⟩
  · have b1 : decide ((5000 : Int) < (s.size : Int)) = false := by simp; omega
    clear hb1
    go_wp2_with fail
    refine (rule_full_any s w1 hs'.out he1).mono ?_
    rintro x w2 hout
    obtain ⟨hb2, ⟨tk, tp, tf, tx, tn, tA, tc, tL⟩, rfl, hT, hst⟩ := ruleOut_all hout
    have hB2 := Lib.hid (hB1.out.trans (hb2.mono hB1.out.size))
    have hT' := Lib.hid hT
    have hst' := Lib.hid hst
    clear hout hT hst hb2 hB1
    unfold Tree.cells
    have hbl : Below w2.heap.size w2 (w2.alloc (.cells #[.int .i64 tk, .int .i64 tp, .string ⟨tf.toArray⟩, .string ⟨tx.toArray⟩, .int .i64 tn, .slice tA tL.length tc] 25)) := (Below.refl _ w2).alloc (Nat.le_refl _) _
    have hN := Lib.hid (Blk.new w2 25 #[.int .i64 tk, .int .i64 tp, .string ⟨tf.toArray⟩, .string ⟨tx.toArray⟩, .int .i64 tn, .slice tA tL.length tc])
    have hBb := Lib.hid (hB2.out.trans (hbl.mono hB2.out.size))
    have hTb := Lib.hid (hT'.out.below hbl)
    obtain ⟨wb, hwb⟩ : ∃ x, Hid (w2.alloc (.cells #[.int .i64 tk, .int .i64 tp, .string ⟨tf.toArray⟩, .string ⟨tx.toArray⟩, .int .i64 tn, .slice tA tL.length tc] 25) = x) := ⟨_, Lib.hid rfl⟩
    go_upto_region 4 with fail
    rw [hwb.out] at hN hBb hTb ⊢
    obtain ⟨G, hG⟩ : ∃ x, Hid (w2.heap.size = x) := ⟨_, Lib.hid rfl⟩
    rw [hG.out] at hN ⊢
    clear hbl hwb hB2 hT' hG
    go_wp2_with fail
    refine (rrule_full_any s wb hs'.out).mono ?_
    rintro x w3 hout
    obtain ⟨hb3, ⟨uk, up, uf, ux, un, uA, uc, uL⟩, rfl, hU, hsu⟩ := ruleOut_all hout
    have hB3 := Lib.hid (hBb.out.trans (hb3.mono hBb.out.size))
    have hN3 := Lib.hid (hN.out.below hb3 hN.out.lt)
    have hT3 := Lib.hid (hTb.out.below hb3)
    have hU' := Lib.hid hU
    have hsu' := Lib.hid hsu
    have hbl : Below w3.heap.size w3 (w3.alloc (.cells #[.int .i64 uk, .int .i64 up, .string ⟨uf.toArray⟩, .string ⟨ux.toArray⟩, .int .i64 un, .slice uA uL.length uc] 25)) := (Below.refl _ w3).alloc (Nat.le_refl _) _
    have hM := Lib.hid (Blk.new w3 25 #[.int .i64 uk, .int .i64 up, .string ⟨uf.toArray⟩, .string ⟨ux.toArray⟩, .int .i64 un, .slice uA uL.length uc])
    have hN4 := Lib.hid (hN3.out.below hbl hN3.out.lt)
    have hB4 := Lib.hid (hB3.out.trans (hbl.mono hB3.out.size))
    have hsame := Lib.hid (same_any (.mk tk tp tf tx tn tA tc tL) (.mk uk up uf ux un uA uc uL) (w3.alloc (.cells #[.int .i64 uk, .int .i64 up, .string ⟨uf.toArray⟩, .string ⟨ux.toArray⟩, .int .i64 un, .slice uA uL.length uc] 25)) _ _ (hT3.out.below hbl) (hU'.out.below hbl))
    have heq : eqR (strip (.mk tk tp tf tx tn tA tc tL)) (strip (.mk uk up uf ux un uA uc uL)) = true := by rw [hst'.out, hsu'.out]; exact eqR_refl _
    rw [heq] at hsame
    have ne1 : w3.heap.size ≠ G := by have := hN3.out.lt; omega
    have ne2 : G ≠ w3.heap.size := by have := hN3.out.lt; omega
    clear hout hU hsu hb3 hBb hN hTb hB3 hN3 hT3 hU' hst' hsu' hbl heq
    simp only [Tree.cells] at hsame ⊢
    obtain ⟨k9, hk9⟩ : ∃ k, Hid (kR s.data.toList = k) := ⟨_, Lib.hid rfl⟩
    obtain ⟨c9, hc9⟩ : ∃ k, Hid (cR s.data.toList = k) := ⟨_, Lib.hid rfl⟩
    rw [hk9.out, hc9.out]
    obtain ⟨wc, hwc⟩ : ∃ x, Hid (w3.alloc (.cells #[.int .i64 uk, .int .i64 up, .string ⟨uf.toArray⟩, .string ⟨ux.toArray⟩, .int .i64 un, .slice uA uL.length uc] 25) = x) := ⟨_, Lib.hid rfl⟩
    go_upto_region 5 with fail
    rw [hwc.out] at hM hN4 hB4 hsame ⊢
    clear hwc
    have nc0 : wc.cell? ⟨G, 0, none⟩ = some (.int .i64 tk) := hN4.out.cell 0
    have nc1 : wc.cell? ⟨G, 1, none⟩ = some (.int .i64 tp) := hN4.out.cell 1
    have nc2 : wc.cell? ⟨G, 2, none⟩ = some (.string ⟨tf.toArray⟩) := hN4.out.cell 2
    have nc3 : wc.cell? ⟨G, 3, none⟩ = some (.string ⟨tx.toArray⟩) := hN4.out.cell 3
    have nc4 : wc.cell? ⟨G, 4, none⟩ = some (.int .i64 tn) := hN4.out.cell 4
    have nc5 : wc.cell? ⟨G, 5, none⟩ = some (.slice tA tL.length tc) := hN4.out.cell 5
    have nlt := hN4.out.lt
    have mc0 : wc.cell? ⟨w3.heap.size, 0, none⟩ = some (.int .i64 uk) := hM.out.cell 0
    have mc1 : wc.cell? ⟨w3.heap.size, 1, none⟩ = some (.int .i64 up) := hM.out.cell 1
    have mc2 : wc.cell? ⟨w3.heap.size, 2, none⟩ = some (.string ⟨uf.toArray⟩) := hM.out.cell 2
    have mc3 : wc.cell? ⟨w3.heap.size, 3, none⟩ = some (.string ⟨ux.toArray⟩) := hM.out.cell 3
    have mc4 : wc.cell? ⟨w3.heap.size, 4, none⟩ = some (.int .i64 un) := hM.out.cell 4
    have mc5 : wc.cell? ⟨w3.heap.size, 5, none⟩ = some (.slice uA uL.length uc) := hM.out.cell 5
    have mlt := hM.out.lt
    go_wp2_with fail
    refine hsame.out.mono ?_
    rintro e w5 ⟨rfl, hb5⟩
    go_wp2_with fail
    go_ret
    exact ⟨by simp, hB4.out.trans (hb5.mono hB4.out.size)⟩

end Go.Proofs.YtjkmhlfjheiekaaGreatDoor

/- The law ScriptBack, walked. -/
import Derived.Test.YtheiogafjinihaaDoorGe
import Derived.Test.YtheiogafjinihaaDoorLa5
import Derived.Test.YtheiogafjinihaaDoorPt
namespace Go.Proofs.YtheiogafjinihaaDoor
open Go Go.RowKit Go.BigFrame Go.Maps

theorem parseW_bad : ∀ (ws : List (List UInt8)) (acc out : List Stp) (k e : Nat), parseW ws acc = (out, k, e) → e ≠ 0 → out = []
  | [], acc, out, k, e, h, he => by
    rw [parseW] at h
    simp only [Prod.mk.injEq] at h
    exact absurd h.2.2.symm he
  | [w], acc, out, k, e, h, he => by
    rw [parseW] at h
    split at h
    · simp only [Prod.mk.injEq] at h
      exact absurd h.2.2.symm he
    · split at h <;> (simp only [Prod.mk.injEq] at h; exact h.1.symm)
  | w :: v :: ws, acc, out, k, e, h, he => by
    rw [parseW] at h
    split at h
    · simp only [Prod.mk.injEq] at h; exact h.1.symm
    · cases hr : readM w with
      | none => rw [hr] at h; simp only [Prod.mk.injEq] at h; exact h.1.symm
      | some x =>
        rw [hr] at h
        exact parseW_bad (v :: ws) (acc ++ [x]) out k e h he
theorem printM_some {l : List Stp} {t : List UInt8} (h : linesM l = some t) : printM l = (t, 0) := by unfold printM; rw [h]
theorem printM_none {l : List Stp} (h : linesM l = none) : printM l = ([], 1) := by unfold printM; rw [h]
theorem fine_of_lines {l : List Stp} {t : List UInt8} (h : linesM l = some t) : (∀ x ∈ l, Fine x) ∧ ∀ x ∈ l, shortS x = true :=
  ⟨fun x hx => let ⟨_, h1⟩ := lines_all h x hx; (line_fine h1).2, fun x hx => let ⟨_, h1⟩ := lines_all h x hx; (line_fine h1).1⟩
set_option maxRecDepth 100000 in
set_option maxHeartbeats 3200000 in
/-- The second half: what is parsed is printed to the same text. -/
theorem back_any (A : Option Addr) (n c : Nat) (l : List Stp) (s : List UInt8) (w : World) (hn : n ≤ maxLen) (hl : Hid (l.length = n)) (hA : Hid (StepsAt w A l)) (hf : Hid (∀ x ∈ l, Fine x)) (he : Hid (Env w)) (hsl : s.length ≤ 281474976710656) :
    Calls Tryd.prog 5 #[.slice A n c, .string ⟨s.toArray⟩] w fun e w' => e = .returned (.bool true) ∧ Below w.heap.size w w' := by
  have hn0 := hn
  unfold maxLen at hn0
  have haw := Lib.hid (awake_any w he)
  go_enter Tryd.func5, Tryd.ntmps5
  go_wp2_with fail
  refine haw.out.mono ?_
  rintro e w1 ⟨rfl, hb1⟩
  have hB1 := Lib.hid hb1
  have hA1 := Lib.hid (hA.out.below hb1)
  have he1 := Lib.hid (he.out.below hb1)
  have hfe := Lib.hid (few_any A n c l w1 hn hl hA1 hf)
  clear haw hb1
  go_wp2_with fail
  refine hfe.out.mono ?_
  rintro e w2 ⟨rfl, hb2⟩
  have hB2 := Lib.hid (hB1.out.trans (hb2.mono hB1.out.size))
  have hA2 := Lib.hid (hA.out.below hB2.out)
  have he2 := Lib.hid (he.out.below hB2.out)
  clear hfe hb2 hB1 hA1 he1
  cases hfl : fewS l with
  | false =>
    go_wp2_with fail
    go_ret
    exact ⟨rfl, hB2.out⟩
  | true =>
    have h61 := fewS_len hfl
    have hn61 : n ≤ 61 := by have := hl.out; omega
    by_cases hs : 3000 < s.length
    · have d1 : decide ((3000 : Int) < (s.length : Int)) = true := by simp; omega
      go_wp2_with fail
      go_ret
      exact ⟨rfl, hB2.out⟩
    · have d1 : decide ((3000 : Int) < (s.length : Int)) = false := by simp; omega
      have hpr := Lib.hid (print_any A n c l w2 (by omega) hl hA2 hf (Lib.hid (fewS_short hfl)) he2)
      go_wp2_with fail
      refine hpr.out.mono ?_
      rintro e w3 ⟨rfl, hb3⟩
      have hB3 := Lib.hid (hB2.out.trans (hb3.mono hB2.out.size))
      have hA3 := Lib.hid (hA.out.below hB3.out)
      have he3 := Lib.hid (he.out.below hB3.out)
      clear hpr hb3 hA2 he2 hB2
      cases hln : linesM l with
      | none =>
        rw [printM_none hln]
        have hpt := Lib.hid (parse_any [] w3 he3.out (by simp))
        obtain ⟨m, k0, g0, hm⟩ : ∃ m k0 g0, parseM [] = (m, k0, g0) := ⟨_, _, _, rfl⟩
        rw [hm] at hpt
        go_wp2_with fail
        refine hpt.out.mono ?_
        rintro e w4 ⟨mv, rfl, hmrow, hb4⟩
        obtain ⟨mA, mc, rfl⟩ := own_form2 hmrow
        clear hpt hmrow
        have hB4 := Lib.hid (hB3.out.trans (hb4.mono hB3.out.size))
        have he4 := Lib.hid (he3.out.below hb4)
        clear hb4 he3 hA3 hB3
        obtain ⟨x, k, g, hx⟩ : ∃ x k g, parseM s = (x, k, g) := ⟨_, _, _, rfl⟩
        have hps := Lib.hid (parse_any s w4 he4.out (by omega))
        rw [hx] at hps
        go_wp2_with fail
        refine hps.out.mono ?_
        rintro e w5 ⟨xv, rfl, hxrow, hb5⟩
        obtain ⟨xA, xc, rfl⟩ := own_form2 hxrow
        simp only at hxrow
        have hxA := Lib.hid (own_steps hxrow rfl)
        have hB5 := Lib.hid (hB4.out.trans (hb5.mono hB4.out.size))
        have he5 := Lib.hid (he4.out.below hb5)
        have hxl := parseM_len hx
        clear hps hb5 he4 hxrow hB4
        match g, hx with
        | 0, hx =>
          obtain ⟨hlx, rfl⟩ := parse_print hx
          have hpx := Lib.hid (print_any xA x.length xc x w5 (by omega) rfl hxA (Lib.hid (fine_of_lines hlx).1) (Lib.hid (fine_of_lines hlx).2) he5)
          rw [printM_some hlx] at hpx
          go_wp2_with fail
          refine hpx.out.mono ?_
          rintro e w6 ⟨rfl, hb6⟩
          have hB6 := Lib.hid (hB5.out.trans (hb6.mono hB5.out.size))
          clear hpx hb6 hxA
          go_wp2_with fail
          go_ret
          exact ⟨by simp, hB6.out⟩
        | 1, hx =>
          obtain rfl := parseW_bad _ _ _ _ _ hx (by decide)
          go_wp2_with fail
          go_ret
          exact ⟨rfl, hB5.out⟩
        | g + 2, hx =>
          obtain rfl := parseW_bad _ _ _ _ _ hx (by omega)
          have hcd : codeP (g + 2) = 7 := rfl
          go_wp2_with fail
          go_ret
          exact ⟨rfl, hB5.out⟩
      | some t =>
        rw [printM_some hln]
        have htl := lines_len hln
        have hpt := Lib.hid (parse_any t w3 he3.out (by omega))
        rw [parse_back hln (by omega)] at hpt
        go_wp2_with fail
        refine hpt.out.mono ?_
        rintro e w40 ⟨mv, rfl, hmrow, hb40⟩
        obtain ⟨mA, mc, rfl⟩ := own_form2 hmrow
        have hm4 := Lib.hid (own_steps hmrow rfl)
        have hA4 := Lib.hid (hA3.out.below hb40)
        have hsm := Lib.hid (same_any A mA n c l.length mc l l w40 hn (by rw [hl.out]; exact hn) hl rfl hA4 hm4)
        rw [sameS_refl] at hsm
        have hln2 : (l.length : Int) = n := by rw [hl.out]
        clear hpt hmrow
        go_wp2_with fail
        refine hsm.out.mono ?_
        rintro e w4 ⟨rfl, hb4b⟩
        have hb4 := hb40.trans (hb4b.mono hb40.size)
        clear hsm hb4b hb40 hm4 hA4
        have hB4 := Lib.hid (hB3.out.trans (hb4.mono hB3.out.size))
        have he4 := Lib.hid (he3.out.below hb4)
        clear hb4 he3 hA3 hB3
        obtain ⟨x, k, g, hx⟩ : ∃ x k g, parseM s = (x, k, g) := ⟨_, _, _, rfl⟩
        have hps := Lib.hid (parse_any s w4 he4.out (by omega))
        rw [hx] at hps
        go_wp2_with fail
        refine hps.out.mono ?_
        rintro e w5 ⟨xv, rfl, hxrow, hb5⟩
        obtain ⟨xA, xc, rfl⟩ := own_form2 hxrow
        simp only at hxrow
        have hxA := Lib.hid (own_steps hxrow rfl)
        have hB5 := Lib.hid (hB4.out.trans (hb5.mono hB4.out.size))
        have he5 := Lib.hid (he4.out.below hb5)
        have hxl := parseM_len hx
        clear hps hb5 he4 hxrow hB4
        match g, hx with
        | 0, hx =>
          obtain ⟨hlx, rfl⟩ := parse_print hx
          have hpx := Lib.hid (print_any xA x.length xc x w5 (by omega) rfl hxA (Lib.hid (fine_of_lines hlx).1) (Lib.hid (fine_of_lines hlx).2) he5)
          rw [printM_some hlx] at hpx
          go_wp2_with fail
          refine hpx.out.mono ?_
          rintro e w6 ⟨rfl, hb6⟩
          have hB6 := Lib.hid (hB5.out.trans (hb6.mono hB5.out.size))
          clear hpx hb6 hxA
          go_wp2_with fail
          go_ret
          exact ⟨by simp, hB6.out⟩
        | 1, hx =>
          obtain rfl := parseW_bad _ _ _ _ _ hx (by decide)
          go_wp2_with fail
          go_ret
          exact ⟨rfl, hB5.out⟩
        | g + 2, hx =>
          obtain rfl := parseW_bad _ _ _ _ _ hx (by omega)
          have hcd : codeP (g + 2) = 7 := rfl
          go_wp2_with fail
          go_ret
          exact ⟨rfl, hB5.out⟩
end Go.Proofs.YtheiogafjinihaaDoor

/- Copies of boxes. -/
import Derived.Test.YtnmnknkdnjkpjaaGreatDoorVh
namespace Go.Proofs.YtnmnknkdnjkpjaaGreatDoor
open Go Go.RowKit Go.BigFrame Go.Maps

theorem infoLot : (Tryz.prog.info? 63).map (fun i => (i.zero, i.size, i.bytes)) = some (some (.agg #[.string ⟨#[]⟩, .int .i64 0]), 2, 24) := by kernel_rfl
theorem infoBox : (Tryz.prog.info? 71).map (fun i => (i.zero, i.size, i.bytes)) = some (some (.agg #[.string ⟨#[]⟩, .int .i64 0, .slice none 0 0]), 3, 48) := by kernel_rfl
theorem encLL (x : Lt) : (encL x).length = 2 := rfl
theorem encBL (x : Bx) : (encB x).length = 3 := rfl
theorem flL_one (l : List Lt) : ∀ u ∈ l.flatMap encL, u.oneCell' = true := by
  intro u hu
  obtain ⟨x, _, hx⟩ := List.mem_flatMap.1 hu
  simp [encL] at hx
  rcases hx with rfl | rfl <;> rfl
theorem flB_one (l : List Bx) : ∀ u ∈ l.flatMap encB, u.oneCell' = true := by
  intro u hu
  obtain ⟨x, _, hx⟩ := List.mem_flatMap.1 hu
  simp [encB] at hx
  rcases hx with rfl | rfl | rfl <;> rfl
theorem row_zero {α : Type} {enc : α → List Value} {k : Nat} {w : World} {l : List α} (h : RowOf enc k w none l) : l = [] := by
  rcases l with _ | ⟨x, r⟩
  · rfl
  · obtain ⟨b, off, e, _⟩ := h 0 x rfl
    cases e

set_option maxRecDepth 100000 in
set_option maxHeartbeats 800000 in
theorem cloneL_any (A : Option Addr) (n c : Nat) (l : List Lt) (w : World) (hn : n ≤ 1000000) (hl : Hid (l.length = n)) (hA : Hid (RowOf encL 2 w A l)) :
    Calls Tryz.prog 88 #[.slice A n c] w fun e w' => (∃ A' c', e = .returned (.slice A' n c')) ∧ Below w.heap.size w w' := by
  obtain ⟨i0, hi, hz0, hz1, hz2⟩ := info_parts infoLot
  have q22 : ∀ (w : World) (a : Option Addr) (n c n' c' : Nat), (binOp .eql 57 (.slice a n c) (.slice none n' c')).run Tryz.prog w = .ok (.bool a.isNone) w := fun w a n c n' c' => Lib.run_eql_slice_nil w _ _ a n c n' c' Tryz.underlying57
  rcases A with _ | ad
  · have hl0 := row_zero hA.out
    subst hl0
    have h0 : n = 0 := hl.out.symm
    subst h0
    go_enter Tryz.func88, Tryz.ntmps88
    go_wp2_with fail
    go_ret
    exact ⟨⟨_, _, rfl⟩, Below.refl _ _⟩
  · have hr := Lib.hid (hA.out.reads encLL (by decide))
    have hn1 : Hid (0 + n ≤ maxLen) := by unfold Hid maxLen; omega
    have hn2 : Hid ((0 + n) * 24 ≤ 140737488355328) := by unfold Hid; omega
    have ho' := Lib.hid (flL_one l)
    rw [hl.out] at hr
    go_enter Tryz.func88, Tryz.ntmps88
    go_wp2_with (at_builtin; go_must (refine wpList_append_any _ rfl (.tmp 5) (.tmp 6) 57 rfl w.heap.size 63 i0 _ 2 24 Tryz.underlying57 hi hz0 hz1 hz2 rfl (by decide) (.slice (some ⟨w.heap.size, 0, none⟩) 0 0) 0 [] rfl (own_new w 63 2) w.heap.size _ n c (l.flatMap encL) rfl (hr.out.alloc (Nat.le_refl _) _) ho'.out hn1.out hn2.out (by simp) ?_); intro v w1 how hgr hvb)
    have how' : w1.ownsRow w.heap.size 63 2 v n (l.flatMap encL) := by simpa using how
    obtain ⟨A', c', rfl, _, _⟩ := RowOf.of_own encLL how' hl.out
    go_ret
    refine ⟨⟨_, _, rfl⟩, ?_⟩
    exact ((Below.refl _ w).alloc (Nat.le_refl _) _).grown hgr (by simp) (fun k hk => by simp [Value.ownBlock] at hk; omega)

set_option maxRecDepth 100000 in
set_option maxHeartbeats 800000 in
theorem cloneB_any (A : Option Addr) (n c : Nat) (l : List Bx) (w : World) (hn : n ≤ 1000000) (hl : Hid (l.length = n)) (hA : Hid (RowOf encB 3 w A l)) :
    Calls Tryz.prog 87 #[.slice A n c] w fun e w' => ∃ v, e = .returned v ∧ w'.ownsRow w.heap.size 71 3 v n (l.flatMap encB) ∧ Below w.heap.size w w' := by
  obtain ⟨i0, hi, hz0, hz1, hz2⟩ := info_parts infoBox
  have q22 : ∀ (w : World) (a : Option Addr) (n c n' c' : Nat), (binOp .eql 24 (.slice a n c) (.slice none n' c')).run Tryz.prog w = .ok (.bool a.isNone) w := fun w a n c n' c' => Lib.run_eql_slice_nil w _ _ a n c n' c' Tryz.underlying24
  rcases A with _ | ad
  · have hl0 := row_zero hA.out
    subst hl0
    have h0 : n = 0 := hl.out.symm
    subst h0
    go_enter Tryz.func87, Tryz.ntmps87
    go_wp2_with fail
    go_ret
    exact ⟨_, rfl, World.ownsRow_nil _ _ _ _, Below.refl _ _⟩
  · have hr := Lib.hid (hA.out.reads encBL (by decide))
    have hn1 : Hid (0 + n ≤ maxLen) := by unfold Hid maxLen; omega
    have hn2 : Hid ((0 + n) * 48 ≤ 140737488355328) := by unfold Hid; omega
    have ho' := Lib.hid (flB_one l)
    rw [hl.out] at hr
    go_enter Tryz.func87, Tryz.ntmps87
    go_wp2_with (at_builtin; go_must (refine wpList_append_any _ rfl (.tmp 5) (.tmp 6) 24 rfl w.heap.size 71 i0 _ 3 48 Tryz.underlying24 hi hz0 hz1 hz2 rfl (by decide) (.slice (some ⟨w.heap.size, 0, none⟩) 0 0) 0 [] rfl (own_new w 71 3) w.heap.size _ n c (l.flatMap encB) rfl (hr.out.alloc (Nat.le_refl _) _) ho'.out hn1.out hn2.out (by simp) ?_); intro v w1 how hgr hvb)
    go_ret
    refine ⟨_, rfl, by simpa using how, ?_⟩
    exact ((Below.refl _ w).alloc (Nat.le_refl _) _).grown hgr (by simp) (fun k hk => by simp [Value.ownBlock] at hk; omega)

set_option maxRecDepth 100000 in
set_option maxHeartbeats 1600000 in
theorem copyBoxes_any (A : Option Addr) (n c : Nat) (l : List Bx) (w : World) (hn : n ≤ 30) (hl : Hid (l.length = n)) (hA : Hid (BoxesAt w A l)) (hfew : Hid (∀ x ∈ l, x.lots.length ≤ 30)) :
    Calls Tryz.prog 67 #[.slice A n c] w fun e w' => (∃ A' c', e = .returned (.slice A' n c')) ∧ Below w.heap.size w w' := by
  have hcall := Lib.hid (cloneB_any A n c l w (by omega) hl (Lib.hid hA.out.1))
  go_enter Tryz.func67, Tryz.ntmps67
  go_wp2_with fail
  refine hcall.out.mono ?_
  rintro e w1 ⟨v, rfl, hrow, hb1⟩
  have hb1' := Lib.hid hb1
  obtain ⟨A1, c1, hv, hnc, hR⟩ := RowOf.of_own encBL hrow hl.out
  rcases Blk.of_row hrow with h0 | ⟨g, c2, cs, h1, hg, hblk⟩
  · have hn0 : n = 0 := by rw [h0] at hv; simp only [Value.slice.injEq] at hv; exact hv.2.1.symm
    clear hv hrow hR hb1
    subst hn0
    subst h0
    go_wp2_with fail
    go_loopw [9] (fun i wr => i = .int .i64 0 ∧ Hid (Below w.heap.size w wr)) (fun _ _ => 0)
    case atStart => exact ⟨rfl, hb1'⟩
    case round =>
      obtain ⟨rfl, hB⟩ := hrel
      go_wp2_with fail
      go_ret
      exact ⟨⟨_, _, rfl⟩, hB.out⟩
  · subst h1
    simp only [Value.slice.injEq] at hv
    obtain ⟨rfl, _, rfl⟩ := hv
    have hg' := Lib.hid hg
    have hcs : Hid (∀ (i : Nat) (x : Bx), 0 ≤ i → l[i]? = some x → cs[i * 3 + 2]? = some (.slice x.A x.lots.length x.c)) := by
      intro i x _ hx
      obtain ⟨b, off, e, hc⟩ := hR i x hx
      simp only [Option.some.injEq, Addr.mk.injEq, and_true] at e
      obtain ⟨rfl, rfl⟩ := e
      have := hc 2 _ rfl
      rw [hblk.cell] at this
      rw [← this, Nat.zero_add]
    have hblk' := Lib.hid hblk
    clear hrow hR hb1 hblk hg
    go_wp2_with fail
    go_loopw [4, 9] (fun _ i wr => ∃ (k : Nat) (cs : Array Value), k ≤ n ∧ i = .int .i64 (k : Int) ∧ Hid (Blk wr g 71 cs) ∧ Hid (∀ (i : Nat) (x : Bx), k ≤ i → l[i]? = some x → cs[i * 3 + 2]? = some (.slice x.A x.lots.length x.c)) ∧ Hid (Below w.heap.size w wr)) (fun _ i _ => n - (intOf i).toNat)
    case atStart => exact ⟨0, cs, Nat.zero_le _, rfl, hblk', hcs, hb1'⟩
    case round =>
      obtain ⟨k, cs, hk, rfl, hK, hC, hB⟩ := hrel
      by_cases hlt : k < n
      · obtain ⟨x, hx⟩ : ∃ x, l[k]? = some x := ⟨_, List.getElem?_eq_getElem (by have := hl.out; omega)⟩
        have hkm : decide (k < n) = true := decide_eq_true hlt
        obtain ⟨q, hq⟩ : ∃ q, Hid (x.lots.length = q) := ⟨_, rfl⟩
        have hq30 : q ≤ 30 := by rw [← hq.out]; exact hfew.out x (List.mem_of_getElem? hx)
        have hc2 := hC.out k x (Nat.le_refl _) hx
        rw [hq.out] at hc2
        have hcell : wr.cell? ⟨g, k * 3 + 2, none⟩ = some (.slice x.A q x.c) := (hK.out.cell _).trans hc2
        have hgl : g < wr.heap.size := hK.out.lt
        have hcl := Lib.hid (cloneL_any x.A q x.c x.lots wr (by omega) hq (Lib.hid ((hA.out.below hB.out).2 x (List.mem_of_getElem? hx)).1))
        have hsz : Hid (k * 3 + 2 < cs.size) := (Array.getElem?_eq_some_iff.1 hc2).1
        clear hc2
        go_wp2_with fail
        refine hcl.out.mono ?_
        rintro e w2 ⟨⟨A3, c3, rfl⟩, hb2⟩
        have hK2 := Lib.hid (hK.out.below hb2 hK.out.lt)
        have hB2 : Hid (Below w.heap.size w w2) := hB.out.trans (hb2.mono hB.out.size)
        have hcell2 : w2.cell? ⟨g, k * 3 + 2, none⟩ = some (.slice x.A q x.c) := (hb2.cell hgl).trans hcell
        have hfr : w2.frozen? ⟨g, k * 3 + 2, none⟩ = false := hK2.out.frozen _
        have hgl2 : g < w2.heap.size := hK2.out.lt
        clear hb2
        go_wp2_with fail
        have hK3 := Lib.hid (hK2.out.set_ (k * 3 + 2) (.slice A3 q c3))
        have hC3 : Hid (∀ (i : Nat) (x : Bx), k + 1 ≤ i → l[i]? = some x → (cs.setIfInBounds (k * 3 + 2) (.slice A3 q c3))[i * 3 + 2]? = some (.slice x.A x.lots.length x.c)) := by
          intro i y hi hy
          rw [Array.getElem?_setIfInBounds_ne (by omega)]
          exact hC.out i y (by omega) hy
        have hB3 : Hid (Below w.heap.size w (w2.setCell ⟨g, k * 3 + 2, none⟩ (.slice A3 q c3))) := hB2.out.setCell hg'.out _
        go_roundw
        case rel => exact ⟨k + 1, _, by omega, by go_num, hK3, hC3, hB3⟩
        case measure => simp [intOf]; omega
      · have hkm : decide (k < n) = false := decide_eq_false hlt
        go_wp2_with fail
        go_ret
        exact ⟨⟨_, _, rfl⟩, hB.out⟩
end Go.Proofs.YtnmnknkdnjkpjaaGreatDoor

/- What is asked of the sum and of the day of issue; the walk of ask. -/
import Derived.Test.YtbpngfppddigjaaGreatDoorEf
import Derived.Test.YtbpngfppddigjaaGreatDoorOc
namespace Go.Proofs.YtbpngfppddigjaaGreatDoor
open Go Go.RowKit Go.BigFrame Go.Maps

theorem wpList_load_cr {ops : Array Oper} {rest : List Oper} {op : Oper} {a : Act} {w : World} {Q : Exit → Act → World → Prop} (hgd : op.guard = none) (x : Operand) (ho : op.op = .load 26 x)
    (xb : Nat) (hx : a.eval x = .pointer (some ⟨xb, 0, none⟩)) (C : Array Value) (hc : w.rangeAt xb 0 C.toList) (hC : C.size = 18)
    (h : wpList Tryz.prog ops Q rest (a.put op.dst (.agg C)) w) : wpList Tryz.prog ops Q (op :: rest) a w :=
  wpList_load_mid hgd 26 x ho xb 0 hx C.toList _ hc Tryz.underlying26 rfl (by rw [Array.length_toList, hC]; kernel_rfl) (by rw [Array.toArray_toList]; exact h)
theorem twoN_none : twoN none = .tuple #[.int .i64 0, .bool false] := rfl
theorem twoN_some (n : Int) : twoN (some n) = .tuple #[.int .i64 n, .bool true] := rfl
theorem numF_in {s : List UInt8} {n : Int} (h : numF s = some n) : -4611686018427387904 ≤ n ∧ n ≤ 4611686018427387904 := by
  unfold numF at h
  split at h
  · split at h
    · simp only [Option.some.injEq] at h; subst h; rename_i h; exact ⟨h.1, h.2.1⟩
    · cases h
  · cases h

set_option maxRecDepth 100000 in
set_option maxHeartbeats 1600000 in
theorem sum_any (C : Array Value) (c : Crd) (hC : Hid (CrdAt C c)) (A : Option Addr) (nn cc : Nat) (day : Int) (ct cf xb pb : Nat) (v : ByteArray) (hv : v.size ≤ 1000000) (w : World) (hx : Hid (Blk w xb 55 (exX C A nn cc day ct cf))) (hp : Hid (Blk w pb 52 #[.pointer (some ⟨xb, 0, none⟩)])) (he : Hid (Env w)) :
    Calls Tryz.prog 48 #[.string v, .pointer (some ⟨pb, 0, none⟩)] w fun e w' => e = .returned (.int .i64 (sumW c v)) ∧ Below w.heap.size w w' := by
  have hsz := Lib.hid hC.out.size
  go_enter Tryz.func48, Tryz.ntmps48
  go_wp2_with fail
  refine (number_any v w hv he.out).mono ?_
  rintro e w1 ⟨rfl, hb1⟩
  have hB1 := Lib.hid hb1
  have hx1 := Lib.hid (hx.out.below hb1 hx.out.lt)
  have hp1 := Lib.hid (hp.out.below hb1 hp.out.lt)
  clear hb1
  cases hr : numF v.data.toList with
  | none =>
    have hw : Hid (sumW c v = 2) := by unfold Hid sumW; rw [hr]
    clear hr
    rw [twoN_none]
    go_wp2_with fail
    go_ret
    exact ⟨by rw [hw.out]; first | done | rfl, hB1.out⟩
  | some n =>
    have hw : Hid (sumW c v = if boundsB c = true ∧ mostC c < n then 5 else if boundsB c = true ∧ n < leastC c then 6 else 0) := by unfold Hid sumW; rw [hr]
    clear hr
    rw [twoN_some]
    have cp : w1.cell? ⟨pb, 0, none⟩ = some (.pointer (some ⟨xb, 0, none⟩)) := hp1.out.cell 0
    go_wp2_with (refine wpList_load_cr rfl (.tmp 20) rfl xb rfl C (exX_range hsz.out hx1.out) hsz.out ?_)
    refine (Most_any C c hC w1).mono ?_
    rintro e w2 ⟨rfl, hb2⟩
    have hB2 := Lib.hid (hB1.out.trans (hb2.mono hB1.out.size))
    have hx2 := Lib.hid (hx1.out.below hb2 hx1.out.lt)
    have hp2 := Lib.hid (hp1.out.below hb2 hp1.out.lt)
    clear hb2 cp
    have cp : w2.cell? ⟨pb, 0, none⟩ = some (.pointer (some ⟨xb, 0, none⟩)) := hp2.out.cell 0
    cases hbd : boundsB c
    · have hw0 : Hid (sumW c v = 0) := by unfold Hid; rw [hw.out, hbd]; simp
      have em : Hid (most2 c = .tuple #[.int .i64 0, .int .i64 1]) := by unfold Hid most2; rw [hbd]; rfl
      have el : Hid (least2 c = .tuple #[.int .i64 0, .int .i64 1]) := by unfold Hid least2; rw [hbd]; rfl
      clear hbd
      rw [em.out]
      go_wp2_with (refine wpList_load_cr rfl (.tmp 35) rfl xb rfl C (exX_range hsz.out hx2.out) hsz.out ?_)
      refine (Least_any C c hC w2).mono ?_
      rintro e w3 ⟨rfl, hb3⟩
      have hB3 := Lib.hid (hB2.out.trans (hb3.mono hB2.out.size))
      clear hb3
      rw [el.out]
      go_wp2_with fail
      go_ret
      exact ⟨by rw [hw0.out]; first | done | rfl, hB3.out⟩
    · have em : Hid (most2 c = .tuple #[.int .i64 (mostC c), .int .i64 0]) := by unfold Hid most2; rw [hbd]; rfl
      have el : Hid (least2 c = .tuple #[.int .i64 (leastC c), .int .i64 0]) := by unfold Hid least2; rw [hbd]; rfl
      rw [em.out]
      by_cases h5 : mostC c < n
      · have hw0 : Hid (sumW c v = 5) := by unfold Hid; rw [hw.out, if_pos ⟨hbd, h5⟩]
        clear hbd
        go_wp2_with fail
        all_goals try (exfalso; omega)
        go_ret
        exact ⟨by rw [hw0.out]; first | done | rfl, hB2.out⟩
      · have hwx : Hid (sumW c v = if n < leastC c then 6 else 0) := by unfold Hid; rw [hw.out, if_neg (by simp [h5]), hbd]; simp
        clear hbd
        go_wp2_with (refine wpList_load_cr rfl (.tmp 35) rfl xb rfl C (exX_range hsz.out hx2.out) hsz.out ?_)
        all_goals try (exfalso; omega)
        refine (Least_any C c hC w2).mono ?_
        rintro e w3 ⟨rfl, hb3⟩
        have hB3 := Lib.hid (hB2.out.trans (hb3.mono hB2.out.size))
        clear hb3
        rw [el.out]
        by_cases h6 : n < leastC c
        · have hw0 : Hid (sumW c v = 6) := by unfold Hid; rw [hwx.out, if_pos h6]
          go_wp2_with fail
          all_goals try (exfalso; omega)
          go_ret
          exact ⟨by rw [hw0.out]; first | done | rfl, hB3.out⟩
        · have hw0 : Hid (sumW c v = 0) := by unfold Hid; rw [hwx.out, if_neg h6]
          go_wp2_with fail
          all_goals try (exfalso; omega)
          go_ret
          exact ⟨by rw [hw0.out]; first | done | rfl, hB3.out⟩

set_option maxRecDepth 100000 in
set_option maxHeartbeats 1600000 in
theorem issued_any (C : Array Value) (c : Crd) (hC : Hid (CrdAt C c)) (hO : Hid (c.okC)) (A : Option Addr) (nn cc : Nat) (day : Int) (hday : Hid (-9223372036854775808 ≤ day ∧ day ≤ 9223372036854775807)) (ct cf xb pb : Nat) (v : ByteArray) (hv : v.size ≤ 1000000) (w : World) (hx : Hid (Blk w xb 55 (exX C A nn cc day ct cf))) (hp : Hid (Blk w pb 52 #[.pointer (some ⟨xb, 0, none⟩)])) (he : Hid (Env w)) :
    Calls Tryz.prog 52 #[.string v, .pointer (some ⟨pb, 0, none⟩)] w fun e w' => e = .returned (.int .i64 (issuedW c day v)) ∧ Below w.heap.size w w' := by
  have hsz := Lib.hid hC.out.size
  go_enter Tryz.func52, Tryz.ntmps52
  go_wp2_with fail
  refine (number_any v w hv he.out).mono ?_
  rintro e w1 ⟨rfl, hb1⟩
  have hB1 := Lib.hid hb1
  have hx1 := Lib.hid (hx.out.below hb1 hx.out.lt)
  have hp1 := Lib.hid (hp.out.below hb1 hp.out.lt)
  clear hb1
  cases hr : numF v.data.toList with
  | none =>
    have hw : Hid (issuedW c day v = 2) := by unfold Hid issuedW; rw [hr]
    clear hr
    rw [twoN_none]
    go_wp2_with fail
    go_ret
    exact ⟨by rw [hw.out]; first | done | rfl, hB1.out⟩
  | some n =>
    have hn := Lib.hid (numF_in hr)
    have hw : Hid (issuedW c day v = if c.latest < n ∨ n + c.within < day then 4 else 0) := by unfold Hid issuedW; rw [hr]
    clear hr
    rw [twoN_some]
    have cp : ∀ y : Ext w1, y.wd.cell? ⟨pb, 0, none⟩ = some (.pointer (some ⟨xb, 0, none⟩)) := fun y => (y.cell _ hp1.out.lt).trans (hp1.out.cell 0)
    have c11 : ∀ y : Ext w1, y.wd.cell? ⟨xb, 11, none⟩ = some (.int .i64 c.latest) := fun y => (y.cell _ hx1.out.lt).trans ((hx1.out.cell 11).trans ((exX_cell hsz.out (by omega)).trans hC.out.latest))
    have c13 : ∀ y : Ext w1, y.wd.cell? ⟨xb, 13, none⟩ = some (.int .i64 c.within) := fun y => (y.cell _ hx1.out.lt).trans ((hx1.out.cell 13).trans ((exX_cell hsz.out (by omega)).trans hC.out.within))
    have c19 : ∀ y : Ext w1, y.wd.cell? ⟨xb, 19, none⟩ = some (.int .i64 day) := fun y => (y.cell _ hx1.out.lt).trans ((hx1.out.cell 19).trans (exX_day hsz.out))
    have hbh : Hid (∀ y : Ext w1, Calls Tryz.prog 53 #[.int .i64 day, .int .i64 n, .int .i64 c.within] y.wd fun e w' => e = .returned (.bool (behindB day n c.within)) ∧ y.wd = w') := fun y => behind_any day n c.within y.wd hday.out (by have := hn.out; omega) hO.out.within
    cases hl : decide (c.latest < n)
    · have hl' := Lib.hid (of_decide_eq_false hl)
      go_wp2_with fail
      refine wp_region_ext (by kernel_rfl) (by kernel_rfl) ?_
      repeat (go_big_quiet_step (first | (go_at_call 53; exact Calls.ext_of_same (hbh.out _))))
      refine wpQuiet_nil ?_
      rintro _ ⟨y, rfl⟩
      have hBy := Lib.hid (hB1.out.trans (y.below.mono hB1.out.size))
      clear cp c11 c13 c19 hbh hl
      cases hb : behindB day n c.within
      · have hw0 : Hid (issuedW c day v = 0) := by
          unfold Hid
          rw [hw.out, if_neg]
          rintro (h | h)
          · exact absurd h (by have := hl'.out; omega)
          · exact of_decide_eq_false hb h
        clear hb
        go_wp2_with fail
        go_ret
        exact ⟨by rw [hw0.out]; first | done | rfl, hBy.out⟩
      · have hw0 : Hid (issuedW c day v = 4) := by unfold Hid; rw [hw.out, if_pos (.inr (of_decide_eq_true hb))]
        clear hb
        go_wp2_with fail
        go_ret
        exact ⟨by rw [hw0.out]; first | done | rfl, hBy.out⟩
    · have hw0 : Hid (issuedW c day v = 4) := by unfold Hid; rw [hw.out, if_pos (.inl (of_decide_eq_true hl))]
      go_wp2_with fail
      refine wp_region_ext (by kernel_rfl) (by kernel_rfl) ?_
      repeat (go_big_quiet_step (fail))
      refine wpQuiet_nil ?_
      rintro _ ⟨y, rfl⟩
      have hBy := Lib.hid (hB1.out.trans (y.below.mono hB1.out.size))
      clear cp c11 c13 c19 hbh hl
      go_wp2_with fail
      go_ret
      exact ⟨by rw [hw0.out]; first | done | rfl, hBy.out⟩
end Go.Proofs.YtbpngfppddigjaaGreatDoor

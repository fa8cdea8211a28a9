/- How much may be drawn under a credit; what the examiner's own questions answer. -/
import Derived.Test.YtdjmckjbibfecaaGreatDoorEe
namespace Go.Proofs.YtdjmckjbibfecaaGreatDoor
open Go Go.RowKit Go.BigFrame Go.Maps

/-- A credit's cells that are read. -/
structure CrdAt (C : Array Value) (c : Crd) : Prop where
  size : C.size = 18
  applicant : C[1]? = some (.string c.applicant)
  beneficiary : C[2]? = some (.string c.beneficiary)
  currency : C[7]? = some (.string c.currency)
  amount : C[8]? = some (.int .i64 c.amount)
  above : C[9]? = some (.int .i64 c.above)
  below : C[10]? = some (.int .i64 c.below)
  latest : C[11]? = some (.int .i64 c.latest)
  expiry : C[12]? = some (.int .i64 c.expiry)
  within : C[13]? = some (.int .i64 c.within)
theorem Crd.at_ (c : Crd) (v : Value) : CrdAt (c.cells v) c := ⟨rfl, rfl, rfl, rfl, rfl, rfl, rfl, rfl, rfl, rfl⟩
def tolB (n : Int) : Bool := decide (0 ≤ n ∧ n ≤ 1000)
theorem tol_any (n : Int) (w : World) : Calls Tryz.prog 222 #[.int .i64 n] w fun e w' => e = .returned (.bool (tolB n)) ∧ w = w' := by
  by_cases h0 : 0 ≤ n
  · by_cases h1 : n ≤ 1000
    · have hb : Hid (tolB n = true) := by unfold Hid tolB; simp [h0, h1]
      go_enter Tryz.func222, Tryz.ntmps222
      go_wp2_with fail
      all_goals try (exfalso; omega)
      go_ret
      exact ⟨by rw [hb.out]; first | rfl | simp [h0, h1], rfl⟩
    · have hb : Hid (tolB n = false) := by unfold Hid tolB; simp [h1]
      have h2 : decide (n ≤ 1000) = false := by simpa using h1
      go_enter Tryz.func222, Tryz.ntmps222
      go_wp2_with fail
      all_goals try (exfalso; omega)
      go_ret
      exact ⟨by rw [hb.out]; first | rfl | simp [h0, h1], rfl⟩
  · have hb : Hid (tolB n = false) := by unfold Hid tolB; simp [h0]
    have h2 : decide (0 ≤ n) = false := by simpa using h0
    go_enter Tryz.func222, Tryz.ntmps222
    go_wp2_with fail
    all_goals try (exfalso; omega)
    go_ret
    exact ⟨by rw [hb.out]; first | rfl | simp [h0], rfl⟩
theorem bounds_eq (c : Crd) : boundsB c = (decide (1 ≤ c.amount) && decide (c.amount ≤ 1099511627776) && tolB c.above && tolB c.below && decide (0 ≤ c.expiry) && decide (c.expiry ≤ 1048576)) := by
  unfold boundsB tolB
  rw [Bool.eq_iff_iff]
  simp only [Bool.and_eq_true, decide_eq_true_eq]
  constructor
  · rintro ⟨a, b, c, d, e, f, g, h⟩; exact ⟨⟨⟨⟨⟨a, b⟩, c, d⟩, e, f⟩, g⟩, h⟩
  · rintro ⟨⟨⟨⟨⟨a, b⟩, c, d⟩, e, f⟩, g⟩, h⟩; exact ⟨a, b, c, d, e, f, g, h⟩

set_option maxRecDepth 100000 in
set_option maxHeartbeats 1600000 in
theorem bounded_any (C : Array Value) (c : Crd) (hC : Hid (CrdAt C c)) (w : World) :
    Calls Tryz.prog 197 #[.agg C] w fun e w' => e = .returned (.bool (boundsB c)) ∧ Below w.heap.size w w' := by
  have hb0 := Lib.hid ((Below.refl _ w).alloc (Nat.le_refl _) (.cells C 46))
  have hbk := Blk.new w 46 C
  have c8 : (w.alloc (.cells C 46)).cell? ⟨w.heap.size, 8, none⟩ = some (.int .i64 c.amount) := (hbk.cell 8).trans hC.out.amount
  have c9 : (w.alloc (.cells C 46)).cell? ⟨w.heap.size, 9, none⟩ = some (.int .i64 c.above) := (hbk.cell 9).trans hC.out.above
  have c10 : (w.alloc (.cells C 46)).cell? ⟨w.heap.size, 10, none⟩ = some (.int .i64 c.below) := (hbk.cell 10).trans hC.out.below
  have c12 : (w.alloc (.cells C 46)).cell? ⟨w.heap.size, 12, none⟩ = some (.int .i64 c.expiry) := (hbk.cell 12).trans hC.out.expiry
  clear hbk
  have hbd := Lib.hid (bounds_eq c)

  cases e1 : decide (1 ≤ c.amount)
  · go_enter Tryz.func197, Tryz.ntmps197
    go_wp2_with (go_at_call 222; refine (tol_any _ _).mono ?_; rintro e w1 ⟨rfl, rfl⟩)
    go_ret
    exact ⟨retBl (by rw [hbd.out]; simp [e1]), hb0.out⟩
  cases e2 : decide (c.amount ≤ 1099511627776)
  · go_enter Tryz.func197, Tryz.ntmps197
    go_wp2_with (go_at_call 222; refine (tol_any _ _).mono ?_; rintro e w1 ⟨rfl, rfl⟩)
    go_ret
    exact ⟨retBl (by rw [hbd.out]; simp [e1, e2]), hb0.out⟩
  cases e3 : tolB c.above
  · go_enter Tryz.func197, Tryz.ntmps197
    go_wp2_with (go_at_call 222; refine (tol_any _ _).mono ?_; rintro e w1 ⟨rfl, rfl⟩)
    go_ret
    exact ⟨retBl (by rw [hbd.out]; simp [e1, e2, e3]), hb0.out⟩
  cases e4 : tolB c.below
  · go_enter Tryz.func197, Tryz.ntmps197
    go_wp2_with (go_at_call 222; refine (tol_any _ _).mono ?_; rintro e w1 ⟨rfl, rfl⟩)
    go_ret
    exact ⟨retBl (by rw [hbd.out]; simp [e1, e2, e3, e4]), hb0.out⟩
  cases e5 : decide (0 ≤ c.expiry)
  · go_enter Tryz.func197, Tryz.ntmps197
    go_wp2_with (go_at_call 222; refine (tol_any _ _).mono ?_; rintro e w1 ⟨rfl, rfl⟩)
    go_ret
    exact ⟨retBl (by rw [hbd.out]; simp [e1, e2, e3, e4, e5]), hb0.out⟩
  cases e6 : decide (c.expiry ≤ 1048576)
  · go_enter Tryz.func197, Tryz.ntmps197
    go_wp2_with (go_at_call 222; refine (tol_any _ _).mono ?_; rintro e w1 ⟨rfl, rfl⟩)
    go_ret
    exact ⟨retBl (by rw [hbd.out]; simp [e1, e2, e3, e4, e5, e6]), hb0.out⟩
  go_enter Tryz.func197, Tryz.ntmps197
  go_wp2_with (go_at_call 222; refine (tol_any _ _).mono ?_; rintro e w1 ⟨rfl, rfl⟩)
  go_ret
  exact ⟨retBl (by rw [hbd.out]; simp [e1, e2, e3, e4, e5, e6]), hb0.out⟩

set_option maxRecDepth 100000 in
set_option maxHeartbeats 1600000 in
theorem most_any (C : Array Value) (c : Crd) (hC : Hid (CrdAt C c)) (hb : boundsB c = true) (w : World) :
    Calls Tryz.prog 198 #[.agg C] w fun e w' => e = .returned (.int .i64 (mostC c)) ∧ Below w.heap.size w w' := by
  have hb0 := Lib.hid ((Below.refl _ w).alloc (Nat.le_refl _) (.cells C 46))
  have hbk := Blk.new w 46 C
  have hb := of_decide_eq_true hb
  have c8 : (w.alloc (.cells C 46)).cell? ⟨w.heap.size, 8, none⟩ = some (.int .i64 c.amount) := (hbk.cell 8).trans hC.out.amount
  have c9 : (w.alloc (.cells C 46)).cell? ⟨w.heap.size, 9, none⟩ = some (.int .i64 c.above) := (hbk.cell 9).trans hC.out.above
  clear hbk
  obtain ⟨x1, hx1⟩ : ∃ x, Hid (c.amount = x) := ⟨_, rfl⟩
  obtain ⟨x2, hx2⟩ : ∃ x, Hid (c.above = x) := ⟨_, rfl⟩
  rw [hx1.out] at c8 hb
  rw [hx2.out] at c9 hb
  obtain ⟨h1, h2, h3, h4, _⟩ := hb
  have hp0 : 0 ≤ x1 * (1000 + x2) := Int.mul_nonneg (by omega) (by omega)
  have hp1 : x1 * (1000 + x2) ≤ 1099511627776 * 2000 := Int.mul_le_mul (by omega) (by omega) (by omega) (by omega)
  have hm : Hid (mostC c = x1 * (1000 + x2) / 1000) := by unfold Hid mostC; rw [hx1.out, hx2.out]
  go_enter Tryz.func198, Tryz.ntmps198
  go_wp2_with fail
  go_ret
  exact ⟨by rw [hm.out]; first | done | rfl, hb0.out⟩
set_option maxRecDepth 100000 in
set_option maxHeartbeats 1600000 in
theorem least_any (C : Array Value) (c : Crd) (hC : Hid (CrdAt C c)) (hb : boundsB c = true) (w : World) :
    Calls Tryz.prog 199 #[.agg C] w fun e w' => e = .returned (.int .i64 (leastY c)) ∧ Below w.heap.size w w' := by
  have hb0 := Lib.hid ((Below.refl _ w).alloc (Nat.le_refl _) (.cells C 46))
  have hbk := Blk.new w 46 C
  have hb := of_decide_eq_true hb
  have c8 : (w.alloc (.cells C 46)).cell? ⟨w.heap.size, 8, none⟩ = some (.int .i64 c.amount) := (hbk.cell 8).trans hC.out.amount
  have c9 : (w.alloc (.cells C 46)).cell? ⟨w.heap.size, 10, none⟩ = some (.int .i64 c.below) := (hbk.cell 10).trans hC.out.below
  clear hbk
  obtain ⟨x1, hx1⟩ : ∃ x, Hid (c.amount = x) := ⟨_, rfl⟩
  obtain ⟨x2, hx2⟩ : ∃ x, Hid (c.below = x) := ⟨_, rfl⟩
  rw [hx1.out] at c8 hb
  rw [hx2.out] at c9 hb
  obtain ⟨h1, h2, _, _, h3, h4, _⟩ := hb
  have hp0 : 0 ≤ x1 * (1000 - x2) := Int.mul_nonneg (by omega) (by omega)
  have hp1 : x1 * (1000 - x2) ≤ 1099511627776 * 2000 := Int.mul_le_mul (by omega) (by omega) (by omega) (by omega)
  have hm : Hid (leastY c = (x1 * (1000 - x2) + 1000 - 1) / 1000) := by unfold Hid leastY; rw [hx1.out, hx2.out]; congr 1; omega
  go_enter Tryz.func199, Tryz.ntmps199
  go_wp2_with fail
  go_ret
  exact ⟨by rw [hm.out]; first | done | rfl, hb0.out⟩

/-- What Most hands back. -/
def most2 (c : Crd) : Value := .tuple #[.int .i64 (if boundsB c then mostC c else 0), .int .i64 (if boundsB c then 0 else 1)]
set_option maxRecDepth 100000 in
set_option maxHeartbeats 1600000 in
theorem Most_any (C : Array Value) (c : Crd) (hC : Hid (CrdAt C c)) (w : World) :
    Calls Tryz.prog 162 #[.agg C] w fun e w' => e = .returned (most2 c) ∧ Below w.heap.size w w' := by
  have hb0 := Lib.hid ((Below.refl _ w).alloc (Nat.le_refl _) (.cells C 46))
  have hbk := Lib.hid (Blk.new w 46 C)
  have hsz : Hid ((Tryz.prog.info? 46).map (·.size) = some C.size) := by unfold Hid; rw [hC.out.size]; kernel_rfl
  go_enter Tryz.func162, Tryz.ntmps162
  go_wp2_with (refine wpList_load_blk rfl 46 (.tmp 1) rfl w.heap.size C 46 _ rfl hbk.out Tryz.underlying46 rfl hsz.out ?_)
  refine (bounded_any C c hC _).mono ?_
  rintro e w1 ⟨rfl, hb1⟩
  have hB1 := Lib.hid (hb0.out.trans (hb1.mono (by simp)))
  have hbk1 := Lib.hid (hbk.out.below hb1 hbk.out.lt)
  clear hb1
  cases hbd : boundsB c
  · have e2 : Hid (most2 c = .tuple #[.int .i64 0, .int .i64 1]) := by unfold Hid most2; rw [hbd]; rfl
    clear hbd
    go_wp2_with fail
    go_ret2
    exact ⟨by rw [e2.out]; first | done | rfl, hB1.out⟩
  · have e2 : Hid (most2 c = .tuple #[.int .i64 (mostC c), .int .i64 0]) := by unfold Hid most2; rw [hbd]; rfl
    have hbd' := Lib.hid hbd
    clear hbd
    go_wp2_with (refine wpList_load_blk rfl 46 (.tmp 1) rfl w.heap.size C 46 _ rfl hbk1.out Tryz.underlying46 rfl hsz.out ?_)
    refine (most_any C c hC hbd'.out _).mono ?_
    rintro e w2 ⟨rfl, hb2⟩
    have hB2 := Lib.hid (hB1.out.trans (hb2.mono hB1.out.size))
    clear hb2
    go_wp2_with fail
    go_ret2
    exact ⟨by rw [e2.out]; first | done | rfl, hB2.out⟩

/-- What Least hands back. -/
def least2 (c : Crd) : Value := .tuple #[.int .i64 (if boundsB c then leastY c else 0), .int .i64 (if boundsB c then 0 else 1)]
set_option maxRecDepth 100000 in
set_option maxHeartbeats 1600000 in
theorem Least_any (C : Array Value) (c : Crd) (hC : Hid (CrdAt C c)) (w : World) :
    Calls Tryz.prog 163 #[.agg C] w fun e w' => e = .returned (least2 c) ∧ Below w.heap.size w w' := by
  have hb0 := Lib.hid ((Below.refl _ w).alloc (Nat.le_refl _) (.cells C 46))
  have hbk := Lib.hid (Blk.new w 46 C)
  have hsz : Hid ((Tryz.prog.info? 46).map (·.size) = some C.size) := by unfold Hid; rw [hC.out.size]; kernel_rfl
  go_enter Tryz.func163, Tryz.ntmps163
  go_wp2_with (refine wpList_load_blk rfl 46 (.tmp 1) rfl w.heap.size C 46 _ rfl hbk.out Tryz.underlying46 rfl hsz.out ?_)
  refine (bounded_any C c hC _).mono ?_
  rintro e w1 ⟨rfl, hb1⟩
  have hB1 := Lib.hid (hb0.out.trans (hb1.mono (by simp)))
  have hbk1 := Lib.hid (hbk.out.below hb1 hbk.out.lt)
  clear hb1
  cases hbd : boundsB c
  · have e2 : Hid (least2 c = .tuple #[.int .i64 0, .int .i64 1]) := by unfold Hid least2; rw [hbd]; rfl
    clear hbd
    go_wp2_with fail
    go_ret2
    exact ⟨by rw [e2.out]; first | done | rfl, hB1.out⟩
  · have e2 : Hid (least2 c = .tuple #[.int .i64 (leastY c), .int .i64 0]) := by unfold Hid least2; rw [hbd]; rfl
    have hbd' := Lib.hid hbd
    clear hbd
    go_wp2_with (refine wpList_load_blk rfl 46 (.tmp 1) rfl w.heap.size C 46 _ rfl hbk1.out Tryz.underlying46 rfl hsz.out ?_)
    refine (least_any C c hC hbd'.out _).mono ?_
    rintro e w2 ⟨rfl, hb2⟩
    have hB2 := Lib.hid (hB1.out.trans (hb2.mono hB1.out.size))
    clear hb2
    go_wp2_with fail
    go_ret2
    exact ⟨by rw [e2.out]; first | done | rfl, hB2.out⟩

def behindB (day n days : Int) : Bool := decide (n + days < day)
set_option maxHeartbeats 800000 in
theorem behind_any (day n days : Int) (w : World) (hd : -9223372036854775808 ≤ day ∧ day ≤ 9223372036854775807) (hn : -9223372036854775808 ≤ n ∧ n ≤ 9223372036854775807) (hs : -9223372036854775808 ≤ days ∧ days ≤ 9223372036854775807) :
    Calls Tryz.prog 165 #[.int .i64 day, .int .i64 n, .int .i64 days] w fun e w' => e = .returned (.bool (behindB day n days)) ∧ w = w' := by
  obtain ⟨hd0, hd1⟩ := hd
  obtain ⟨hn0, hn1⟩ := hn
  obtain ⟨hs0, hs1⟩ := hs
  by_cases h0 : 0 < days
  · by_cases h1 : 9223372036854775807 - days < n
    · have hb : Hid (behindB day n days = false) := by unfold Hid behindB; simp; omega
      go_enter Tryz.func165, Tryz.ntmps165
      go_wp2_with fail
      all_goals try (exfalso; omega)
      go_ret
      exact ⟨by rw [hb.out]; first | done | rfl, rfl⟩
    · have hb : Hid (behindB day n days = decide (n + days < day)) := rfl
      have h2 : ¬ days < 0 := by omega
      have h3 : n + days ≤ 9223372036854775807 := by omega
      have h4 : -9223372036854775808 ≤ n + days := by omega
      go_enter Tryz.func165, Tryz.ntmps165
      go_wp2_with fail
      all_goals try (exfalso; omega)
      go_ret
      exact ⟨by rw [hb.out]; first | done | rfl, rfl⟩
  · by_cases h2 : days < 0
    · by_cases h1 : n < -9223372036854775808 - days
      · have hb : Hid (behindB day n days = true) := by unfold Hid behindB; simp; omega
        go_enter Tryz.func165, Tryz.ntmps165
        go_wp2_with fail
        all_goals try (exfalso; omega)
        go_ret
        exact ⟨by rw [hb.out]; first | done | rfl, rfl⟩
      · have hb : Hid (behindB day n days = decide (n + days < day)) := rfl
        have h3 : n + days ≤ 9223372036854775807 := by omega
        have h4 : -9223372036854775808 ≤ n + days := by omega
        go_enter Tryz.func165, Tryz.ntmps165
        go_wp2_with fail
        all_goals try (exfalso; omega)
        go_ret
        exact ⟨by rw [hb.out]; first | done | rfl, rfl⟩
    · have hb : Hid (behindB day n days = decide (n + days < day)) := rfl
      have h3 : n + days ≤ 9223372036854775807 := by omega
      have h4 : -9223372036854775808 ≤ n + days := by omega
      go_enter Tryz.func165, Tryz.ntmps165
      go_wp2_with fail
      all_goals try (exfalso; omega)
      go_ret
      exact ⟨by rw [hb.out]; first | done | rfl, rfl⟩
theorem is_any (t v : ByteArray) (g : Nat) (w : World) (h : w.cell? ⟨g, 0, none⟩ = some (.string t)) :
    Calls Tryz.prog 159 #[.string v, .pointer (some ⟨g, 0, none⟩)] w fun e w' => e = .returned (.int .i64 (isW t v)) ∧ Below w.heap.size w w' := by
  by_cases hq : v.toList = t.toList
  · have hw : Hid (isW t v = 0) := by unfold Hid isW; rw [if_pos hq]
    have hq1 : (v.toList == t.toList) = true := by simp [hq]
    clear hq
    go_enter Tryz.func159, Tryz.ntmps159
    go_wp2_with fail
    go_ret
    exact ⟨by rw [hw.out]; first | done | rfl, Below.refl _ _⟩
  · have hw : Hid (isW t v = 3) := by unfold Hid isW; rw [if_neg hq]
    have hq1 : (v.toList == t.toList) = false := by simp [hq]
    clear hq
    go_enter Tryz.func159, Tryz.ntmps159
    go_wp2_with fail
    go_ret
    exact ⟨by rw [hw.out]; first | done | rfl, Below.refl _ _⟩
theorem mkIs_any (t : ByteArray) (w : World) : Calls Tryz.prog 158 #[.string t] w fun e w' => e = .returned (.func (Fn.func 159) #[] #[.pointer (some ⟨w.heap.size, 0, none⟩)]) ∧ w' = w.alloc (.cells #[.string t] 9) := by
  go_enter Tryz.func158, Tryz.ntmps158
  go_wp2_with fail
  go_ret
  exact ⟨rfl, rfl⟩
end Go.Proofs.YtdjmckjbibfecaaGreatDoor

/- deals: of two deals that say the same, true. -/
import Derived.Test.YtheiogafjinihaaDoorGe
namespace Go.Proofs.YtheiogafjinihaaDoor
open Go Go.RowKit Go.BigFrame Go.Maps

theorem Tryd.held51 : Tryd.prog.stoodInHeld 51 = false := by kernel_rfl
theorem Tryd.fields51 : Tryd.prog.underlying 51 = some (.struct (Tryd.prog.fieldsOf 51)) := by kernel_rfl
theorem Tryd.held98 : Tryd.prog.stoodInHeld 98 = false := by kernel_rfl
theorem Tryd.fields98 : Tryd.prog.underlying 98 = some (.struct (Tryd.prog.fieldsOf 98)) := by kernel_rfl
theorem Tryd.held56 : Tryd.prog.stoodInHeld 56 = false := by kernel_rfl
theorem Tryd.fields56 : Tryd.prog.underlying 56 = some (.struct (Tryd.prog.fieldsOf 56)) := by kernel_rfl
theorem Tryd.held58 : Tryd.prog.stoodInHeld 58 = false := by kernel_rfl
theorem Tryd.fields58 : Tryd.prog.underlying 58 = some (.struct (Tryd.prog.fieldsOf 58)) := by kernel_rfl
theorem Tryd.eqg98 : Tryd.prog.eqGuardType Tryd.prog.depth 98 = false := by kernel_rfl
theorem Tryd.eqg56 : Tryd.prog.eqGuardType Tryd.prog.depth 56 = false := by kernel_rfl
theorem Tryd.eqg58 : Tryd.prog.eqGuardType Tryd.prog.depth 58 = false := by kernel_rfl
theorem neq_mon (a : ByteArray) (b : Int) (W : World) : (binOp .neq 51 (.agg #[.string a, .int .i64 b]) (.agg #[.string a, .int .i64 b])).run Tryd.prog W = .ok (.bool false) W := by
  rw [run_neq_struct, run_equalIn_struct _ _ _ _ _ Tryd.fields51 Tryd.held51]
  unfold Program.fieldsOf
  rw [Tryd.underlying51]
  simp [go_sem]
theorem neq_lot (a : ByteArray) (b : Int) (W : World) : (binOp .neq 98 (.agg #[.string a, .int .i64 b]) (.agg #[.string a, .int .i64 b])).run Tryd.prog W = .ok (.bool false) W := by
  rw [run_neq_struct, run_equalIn_struct _ _ _ _ _ Tryd.fields98 Tryd.held98]
  unfold Program.fieldsOf
  rw [Tryd.underlying98]
  simp [go_sem]
theorem neq_party (a b : ByteArray) (k : Int) (W : World) : (binOp .neq 56 (.agg #[.string a, .string b, .int .i64 k]) (.agg #[.string a, .string b, .int .i64 k])).run Tryd.prog W = .ok (.bool false) W := by
  rw [run_neq_struct, run_equalIn_struct _ _ _ _ _ Tryd.fields56 Tryd.held56]
  unfold Program.fieldsOf
  rw [Tryd.underlying56]
  simp [go_sem]
theorem neq_entry (a b : ByteArray) (k : Int) (W : World) : (binOp .neq 58 (.agg #[.string a, .string b, .int .i64 k]) (.agg #[.string a, .string b, .int .i64 k])).run Tryd.prog W = .ok (.bool false) W := by
  rw [run_neq_struct, run_equalIn_struct _ _ _ _ _ Tryd.fields58 Tryd.held58]
  unfold Program.fieldsOf
  rw [Tryd.underlying58]
  simp [go_sem]

set_option maxRecDepth 100000 in
set_option maxHeartbeats 6400000 in
theorem deals_any (d : SDeal) (bx bx' : Value) (w : World) (hl : d.boxes.length ≤ 1000) (h : Hid (BoxesAt w bx d.boxes)) (h' : Hid (BoxesAt w bx' d.boxes)) :
    Calls Tryd.prog 15 #[.agg (d.cells bx), .agg (d.cells bx')] w fun e w' => e = .returned (.bool true) ∧ Below w.heap.size w w' := by
  obtain ⟨A, c, rfl, hbx⟩ := h.out
  obtain ⟨A', c', rfl, hbx'⟩ := h'.out
  have hb1 := Lib.hid hbx
  have hb2 := Lib.hid hbx'
  clear hbx hbx' h h'
  obtain ⟨num, sel, buy, car, iss, hou, ins, cur, pri, bs, ter, lat, exp, ten, dut⟩ := d
  simp only [SDeal.cells] at hl hb1 hb2 ⊢
  obtain ⟨n, hn⟩ : ∃ n, bs.length = n := ⟨_, rfl⟩
  rw [hn] at hl ⊢
  have hn' := Lib.hid hn
  clear hn
  obtain ⟨w0, hw0⟩ : ∃ W, Hid ((w.alloc (.cells #[.string num, .string sel, .string buy, .string car, .string iss, .string hou, .string ins, .string riga, .string oslo, .string cur, .int .i64 pri, .slice A n c, .int .i64 ter, .int .i64 lat, .int .i64 exp, .int .i64 ten, .int .i64 dut] 54)).alloc (.cells #[.string num, .string sel, .string buy, .string car, .string iss, .string hou, .string ins, .string riga, .string oslo, .string cur, .int .i64 pri, .slice A' n c', .int .i64 ter, .int .i64 lat, .int .i64 exp, .int .i64 ten, .int .i64 dut] 54) = W) := ⟨_, rfl⟩
  have hB0 : Hid (Below w.heap.size w w0) := by rw [← hw0.out]; exact ((Below.refl _ w).alloc (Nat.le_refl _) _).alloc (Nat.le_of_lt (Blk.new w _ _).lt) _
  have hk0 : Hid (Blk w0 w.heap.size 54 #[.string num, .string sel, .string buy, .string car, .string iss, .string hou, .string ins, .string riga, .string oslo, .string cur, .int .i64 pri, .slice A n c, .int .i64 ter, .int .i64 lat, .int .i64 exp, .int .i64 ten, .int .i64 dut]) := by
    rw [← hw0.out]
    exact Lib.hid ((Blk.new w _ _).below ((Below.refl _ _).alloc (Nat.le_refl _) _) (Blk.new w _ _).lt)
  have hq0 : Hid (Blk w0 (w.heap.size + 1) 54 #[.string num, .string sel, .string buy, .string car, .string iss, .string hou, .string ins, .string riga, .string oslo, .string cur, .int .i64 pri, .slice A' n c', .int .i64 ter, .int .i64 lat, .int .i64 exp, .int .i64 ten, .int .i64 dut]) := by
    rw [← hw0.out]; exact Lib.hid (blk_second _ _ _ _)
  have p0 : w0.cell? ⟨w.heap.size, 0, none⟩ = some (.string num) := hk0.out.cell 0
  have q0 : w0.cell? ⟨w.heap.size + 1, 0, none⟩ = some (.string num) := hq0.out.cell 0
  have p1 : w0.cell? ⟨w.heap.size, 1, none⟩ = some (.string sel) := hk0.out.cell 1
  have q1 : w0.cell? ⟨w.heap.size + 1, 1, none⟩ = some (.string sel) := hq0.out.cell 1
  have p2 : w0.cell? ⟨w.heap.size, 2, none⟩ = some (.string buy) := hk0.out.cell 2
  have q2 : w0.cell? ⟨w.heap.size + 1, 2, none⟩ = some (.string buy) := hq0.out.cell 2
  have p3 : w0.cell? ⟨w.heap.size, 3, none⟩ = some (.string car) := hk0.out.cell 3
  have q3 : w0.cell? ⟨w.heap.size + 1, 3, none⟩ = some (.string car) := hq0.out.cell 3
  have p4 : w0.cell? ⟨w.heap.size, 4, none⟩ = some (.string iss) := hk0.out.cell 4
  have q4 : w0.cell? ⟨w.heap.size + 1, 4, none⟩ = some (.string iss) := hq0.out.cell 4
  have p5 : w0.cell? ⟨w.heap.size, 5, none⟩ = some (.string hou) := hk0.out.cell 5
  have q5 : w0.cell? ⟨w.heap.size + 1, 5, none⟩ = some (.string hou) := hq0.out.cell 5
  have p6 : w0.cell? ⟨w.heap.size, 6, none⟩ = some (.string ins) := hk0.out.cell 6
  have q6 : w0.cell? ⟨w.heap.size + 1, 6, none⟩ = some (.string ins) := hq0.out.cell 6
  have p7 : w0.cell? ⟨w.heap.size, 7, none⟩ = some (.string riga) := hk0.out.cell 7
  have q7 : w0.cell? ⟨w.heap.size + 1, 7, none⟩ = some (.string riga) := hq0.out.cell 7
  have p8 : w0.cell? ⟨w.heap.size, 8, none⟩ = some (.string oslo) := hk0.out.cell 8
  have q8 : w0.cell? ⟨w.heap.size + 1, 8, none⟩ = some (.string oslo) := hq0.out.cell 8
  have p9 : w0.cell? ⟨w.heap.size, 9, none⟩ = some (.string cur) := hk0.out.cell 9
  have q9 : w0.cell? ⟨w.heap.size + 1, 9, none⟩ = some (.string cur) := hq0.out.cell 9
  have p10 : w0.cell? ⟨w.heap.size, 10, none⟩ = some (.int .i64 pri) := hk0.out.cell 10
  have q10 : w0.cell? ⟨w.heap.size + 1, 10, none⟩ = some (.int .i64 pri) := hq0.out.cell 10
  have p11 : w0.cell? ⟨w.heap.size, 11, none⟩ = some (.slice A n c) := hk0.out.cell 11
  have q11 : w0.cell? ⟨w.heap.size + 1, 11, none⟩ = some (.slice A' n c') := hq0.out.cell 11
  have p12 : w0.cell? ⟨w.heap.size, 12, none⟩ = some (.int .i64 ter) := hk0.out.cell 12
  have q12 : w0.cell? ⟨w.heap.size + 1, 12, none⟩ = some (.int .i64 ter) := hq0.out.cell 12
  have p13 : w0.cell? ⟨w.heap.size, 13, none⟩ = some (.int .i64 lat) := hk0.out.cell 13
  have q13 : w0.cell? ⟨w.heap.size + 1, 13, none⟩ = some (.int .i64 lat) := hq0.out.cell 13
  have p14 : w0.cell? ⟨w.heap.size, 14, none⟩ = some (.int .i64 exp) := hk0.out.cell 14
  have q14 : w0.cell? ⟨w.heap.size + 1, 14, none⟩ = some (.int .i64 exp) := hq0.out.cell 14
  have p15 : w0.cell? ⟨w.heap.size, 15, none⟩ = some (.int .i64 ten) := hk0.out.cell 15
  have q15 : w0.cell? ⟨w.heap.size + 1, 15, none⟩ = some (.int .i64 ten) := hq0.out.cell 15
  have p16 : w0.cell? ⟨w.heap.size, 16, none⟩ = some (.int .i64 dut) := hk0.out.cell 16
  have q16 : w0.cell? ⟨w.heap.size + 1, 16, none⟩ = some (.int .i64 dut) := hq0.out.cell 16
  have hmon := neq_mon cur pri
  have hmg := Tryd.eqg51
  go_enter Tryd.func15, Tryd.ntmps15
  go_wp2_with (rw [hw0.out])
  clear p0 q0 p1 q1 p2 q2 p3 q3 p4 q4 p5 q5 p6 q6 p7 q7 p8 q8 p9 q9 p10 q10 p11 q11 p12 q12 p13 q13 p14 q14 p15 q15 p16 q16 hmon hmg
  go_loopw [5] (fun i wr => ∃ k : Nat, k ≤ n ∧ i = .int .i64 (k : Int) ∧ Hid (Below w0.heap.size w0 wr)) (fun i _ => n - (intOf i).toNat)
  case atStart => exact ⟨0, Nat.zero_le _, rfl, Below.refl _ _⟩
  case round =>
    obtain ⟨k, hk, rfl, hB⟩ := hrel
    have hpr := hk0.out.below hB.out hk0.out.lt
    have hqr := hq0.out.below hB.out hq0.out.lt
    have p10 : wr.cell? ⟨w.heap.size, 11, none⟩ = some (.slice A n c) := hpr.cell 11
    have q10 : wr.cell? ⟨w.heap.size + 1, 11, none⟩ = some (.slice A' n c') := hqr.cell 11
    have hkl : w.heap.size < wr.heap.size := hpr.lt
    have hql : w.heap.size + 1 < wr.heap.size := hqr.lt
    clear hpr hqr
    by_cases hlt : k < n
    · obtain ⟨x, hx⟩ : ∃ x, bs[k]? = some x := ⟨_, List.getElem?_eq_getElem (by have := hn'.out; omega)⟩
      obtain ⟨b, off, z, rfl, c0, c1, c2, c3, c4⟩ := hb1.out k x hx
      obtain ⟨b', off', z', rfl, d0, d1, d2, d3, d4⟩ := hb2.out k x hx
      clear hx
      obtain ⟨mk, kd, ct⟩ := x
      simp only at c0 c1 c2 c3 c4 d0 d1 d2 d3 d4
      have key : ∀ (g j : Nat) (v : Value), w.cell? ⟨g, j, none⟩ = some v → ∀ y : Ext wr, y.wd.cell? ⟨g, j, none⟩ = some v := fun g j v h y => by
        have h1 := World.block_lt_of_cell? w _ h
        have h2 := hB0.out.trans (hB.out.mono hB0.out.size)
        exact ((h2.trans (y.below.mono h2.size)).cell h1).trans h
      have r0 := key _ _ _ c0
      have r1 := key _ _ _ c1
      have r2 := key _ _ _ c2
      have r3 := key _ _ _ c3
      have r4 := key _ _ _ c4
      have s0 := key _ _ _ d0
      have s1 := key _ _ _ d1
      have s2 := key _ _ _ d2
      have s3 := key _ _ _ d3
      have s4 := key _ _ _ d4
      have u5 : ∀ y : Ext wr, y.wd.cell? ⟨w.heap.size, 11, none⟩ = some (.slice (some ⟨b, off, none⟩) n c) := fun y => (y.cell ⟨w.heap.size, 11, none⟩ hkl).trans p10
      have v5 : ∀ y : Ext wr, y.wd.cell? ⟨w.heap.size + 1, 11, none⟩ = some (.slice (some ⟨b', off', none⟩) n c') := fun y => (y.cell ⟨w.heap.size + 1, 11, none⟩ hql).trans q10
      clear key c0 c1 c2 c3 c4 d0 d1 d2 d3 d4
      have hkm : decide (k < n) = true := decide_eq_true hlt
      have hlo := neq_lot tea ct
      have hlg := Tryd.eqg98
      go_wp2_with fail
      refine wp_region_ext (by kernel_rfl) (by kernel_rfl) ?_
      simp only [List.append_eq, List.cons_append, List.nil_append]
      repeat (go_big_quiet_step (fail))
      refine wpQuiet_nil ?_
      rintro _ ⟨y, rfl⟩
      have hbz := Lib.hid y.below
      obtain ⟨wy, hwy⟩ : ∃ w6, y.wd = w6 := ⟨_, rfl⟩
      rw [hwy] at hbz ⊢
      clear hwy y r0 r1 r2 r3 r4 s0 s1 s2 s3 s4 u5 v5 hlo hlg
      have hB2 : Hid (Below w0.heap.size w0 wy) := hB.out.trans (hbz.out.mono hB.out.size)
      go_wp2_with fail
      go_roundw
      case rel => exact ⟨k + 1, by omega, by go_num, hB2⟩
      case measure => simp [intOf]; omega
    · have hkm : decide (k < n) = false := decide_eq_false hlt
      go_wp2_with fail
      go_ret
      exact ⟨rfl, hB0.out.trans (hB.out.mono hB0.out.size)⟩
end Go.Proofs.YtheiogafjinihaaDoor

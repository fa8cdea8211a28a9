/- The document's comparison of rules, of credits. -/
import Derived.Test.YtnmnknkdnjkpjaaGreatDoorWb
namespace Go.Proofs.YtnmnknkdnjkpjaaGreatDoor
open Go Go.RowKit Go.BigFrame Go.Maps

abbrev atC (x : Atm) : Array Value := #[.int .i64 x.kind, .int .i64 0, .string x.field, .string x.text, .int .i64 x.number, .slice none 0 0]
abbrev allC (v : Value) : Array Value := #[.int .i64 0, .int .i64 0, .string ⟨#[]⟩, .string ⟨#[]⟩, .int .i64 0, v]

set_option maxRecDepth 100000 in
set_option maxHeartbeats 1600000 in
theorem nodes_atom (k : Int) (f t : ByteArray) (x : Int) (w : World) : Calls Tryz.prog 59 #[.agg #[.int .i64 k, .int .i64 0, .string f, .string t, .int .i64 x, .slice none 0 0], .agg #[.int .i64 k, .int .i64 0, .string f, .string t, .int .i64 x, .slice none 0 0]] w fun e w' => e = .returned (.bool true) ∧ Below w.heap.size w w' := by
  obtain ⟨w0, hw0⟩ : ∃ W, Hid ((w.alloc (.cells #[.int .i64 k, .int .i64 0, .string f, .string t, .int .i64 x, .slice none 0 0] 109)).alloc (.cells #[.int .i64 k, .int .i64 0, .string f, .string t, .int .i64 x, .slice none 0 0] 109) = W) := ⟨_, rfl⟩
  have hb0 : Hid (Below w.heap.size w w0) := by rw [← hw0.out]; exact ((Below.refl _ w).alloc (Nat.le_refl _) _).alloc (by simp) _
  have hp0 : Blk w0 w.heap.size 109 #[.int .i64 k, .int .i64 0, .string f, .string t, .int .i64 x, .slice none 0 0] := by rw [← hw0.out]; exact (Blk.new w 109 _).alloc _
  have hq0 : Blk w0 (w.heap.size + 1) 109 #[.int .i64 k, .int .i64 0, .string f, .string t, .int .i64 x, .slice none 0 0] := by rw [← hw0.out]; exact blk_second w _ _ _
  have p0 : w0.cell? ⟨w.heap.size, 0, none⟩ = some (.int .i64 k) := hp0.cell 0
  have p1 : w0.cell? ⟨w.heap.size, 1, none⟩ = some (.int .i64 0) := hp0.cell 1
  have p2 : w0.cell? ⟨w.heap.size, 2, none⟩ = some (.string f) := hp0.cell 2
  have p3 : w0.cell? ⟨w.heap.size, 3, none⟩ = some (.string t) := hp0.cell 3
  have p4 : w0.cell? ⟨w.heap.size, 4, none⟩ = some (.int .i64 x) := hp0.cell 4
  have p5 : w0.cell? ⟨w.heap.size, 5, none⟩ = some (.slice none 0 0) := hp0.cell 5
  have q0 : w0.cell? ⟨w.heap.size + 1, 0, none⟩ = some (.int .i64 k) := hq0.cell 0
  have q1 : w0.cell? ⟨w.heap.size + 1, 1, none⟩ = some (.int .i64 0) := hq0.cell 1
  have q2 : w0.cell? ⟨w.heap.size + 1, 2, none⟩ = some (.string f) := hq0.cell 2
  have q3 : w0.cell? ⟨w.heap.size + 1, 3, none⟩ = some (.string t) := hq0.cell 3
  have q4 : w0.cell? ⟨w.heap.size + 1, 4, none⟩ = some (.int .i64 x) := hq0.cell 4
  have q5 : w0.cell? ⟨w.heap.size + 1, 5, none⟩ = some (.slice none 0 0) := hq0.cell 5
  clear hp0 hq0
  go_enter Tryz.func59, Tryz.ntmps59
  go_wp2_with (rw [hw0.out])
  go_loopw [5] (fun i wr => i = .int .i64 0 ∧ wr = w0) (fun _ _ => 0)
  case atStart => exact ⟨rfl, rfl⟩
  case round =>
    obtain ⟨rfl, rfl⟩ := hrel
    go_wp2_with fail
    go_ret
    exact ⟨rfl, hb0.out⟩

set_option maxRecDepth 100000 in
set_option maxHeartbeats 3200000 in
theorem nodes_all (A A' : Option Addr) (n c c' : Nat) (l : List Atm) (w : World) (hn : n ≤ 1000) (hl : Hid (l.length = n)) (hA : Hid (RowOf encT 6 w A l)) (hA' : Hid (RowOf encT 6 w A' l)) :
    Calls Tryz.prog 59 #[.agg (allC (.slice A n c)), .agg (allC (.slice A' n c'))] w fun e w' => e = .returned (.bool true) ∧ Below w.heap.size w w' := by
  obtain ⟨w0, hw0⟩ : ∃ W, Hid ((w.alloc (.cells (allC (.slice A n c)) 109)).alloc (.cells (allC (.slice A' n c')) 109) = W) := ⟨_, rfl⟩
  have hb0 : Hid (Below w.heap.size w w0) := by rw [← hw0.out]; exact ((Below.refl _ w).alloc (Nat.le_refl _) _).alloc (by simp) _
  have hp0 : Hid (Blk w0 w.heap.size 109 (allC (.slice A n c))) := by rw [← hw0.out]; exact Lib.hid ((Blk.new w 109 _).alloc _)
  have hq0 : Hid (Blk w0 (w.heap.size + 1) 109 (allC (.slice A' n c'))) := by rw [← hw0.out]; exact Lib.hid (blk_second w _ _ _)
  have p0 : w0.cell? ⟨w.heap.size, 0, none⟩ = some (.int .i64 0) := hp0.out.cell 0
  have p1 : w0.cell? ⟨w.heap.size, 1, none⟩ = some (.int .i64 0) := hp0.out.cell 1
  have p2 : w0.cell? ⟨w.heap.size, 2, none⟩ = some (.string ⟨#[]⟩) := hp0.out.cell 2
  have p3 : w0.cell? ⟨w.heap.size, 3, none⟩ = some (.string ⟨#[]⟩) := hp0.out.cell 3
  have p4 : w0.cell? ⟨w.heap.size, 4, none⟩ = some (.int .i64 0) := hp0.out.cell 4
  have p5 : w0.cell? ⟨w.heap.size, 5, none⟩ = some (.slice A n c) := hp0.out.cell 5
  have q0 : w0.cell? ⟨w.heap.size + 1, 0, none⟩ = some (.int .i64 0) := hq0.out.cell 0
  have q1 : w0.cell? ⟨w.heap.size + 1, 1, none⟩ = some (.int .i64 0) := hq0.out.cell 1
  have q2 : w0.cell? ⟨w.heap.size + 1, 2, none⟩ = some (.string ⟨#[]⟩) := hq0.out.cell 2
  have q3 : w0.cell? ⟨w.heap.size + 1, 3, none⟩ = some (.string ⟨#[]⟩) := hq0.out.cell 3
  have q4 : w0.cell? ⟨w.heap.size + 1, 4, none⟩ = some (.int .i64 0) := hq0.out.cell 4
  have q5 : w0.cell? ⟨w.heap.size + 1, 5, none⟩ = some (.slice A' n c') := hq0.out.cell 5
  go_enter Tryz.func59, Tryz.ntmps59
  go_wp2_with (rw [hw0.out])
  clear p0 p1 p2 p3 p4 p5 q0 q1 q2 q3 q4 q5
  go_loopw [5] (fun i wr => ∃ k : Nat, k ≤ n ∧ i = .int .i64 (k : Int) ∧ Hid (Below w0.heap.size w0 wr)) (fun i _ => n - (intOf i).toNat)
  case atStart => exact ⟨0, Nat.zero_le _, rfl, Below.refl _ _⟩
  case round =>
    obtain ⟨k, hk, rfl, hB⟩ := hrel
    have hpr := hp0.out.below hB.out hp0.out.lt
    have hqr := hq0.out.below hB.out hq0.out.lt
    have p5 : wr.cell? ⟨w.heap.size, 5, none⟩ = some (.slice A n c) := hpr.cell 5
    have q5 : wr.cell? ⟨w.heap.size + 1, 5, none⟩ = some (.slice A' n c') := hqr.cell 5
    have hkl : w.heap.size < wr.heap.size := hpr.lt
    have hql : w.heap.size + 1 < wr.heap.size := hqr.lt
    clear hpr hqr
    by_cases hlt : k < n
    · obtain ⟨x, hx⟩ : ∃ x, l[k]? = some x := ⟨_, List.getElem?_eq_getElem (by have := hl.out; omega)⟩
      obtain ⟨b, off, rfl, hc0⟩ := ((hA.out.below hb0.out).below hB.out) k x hx
      obtain ⟨b', off', rfl, hd0⟩ := ((hA'.out.below hb0.out).below hB.out) k x hx
      clear hx
      obtain ⟨kd, fd, tx, nb⟩ := x
      have hcl : Hid (∀ y : Ext wr, Calls Tryz.prog 59 #[.agg #[.int .i64 kd, .int .i64 0, .string fd, .string tx, .int .i64 nb, .slice none 0 0], .agg #[.int .i64 kd, .int .i64 0, .string fd, .string tx, .int .i64 nb, .slice none 0 0]] y.wd fun e w' => e = .returned (.bool true) ∧ Below y.wd.heap.size y.wd w') := fun y => nodes_atom kd fd tx nb y.wd
      have r0 : ∀ y : Ext wr, y.wd.cell? ⟨b, off + k * 6, none⟩ = some (.int .i64 kd) := fun y => (y.cell ⟨b, _, none⟩ (World.block_lt_of_cell? wr _ (hc0 0 _ rfl))).trans (hc0 0 _ rfl)
      have r1 : ∀ y : Ext wr, y.wd.cell? ⟨b, off + k * 6 + 1, none⟩ = some (.int .i64 0) := fun y => (y.cell ⟨b, _, none⟩ (World.block_lt_of_cell? wr _ (hc0 1 _ rfl))).trans (hc0 1 _ rfl)
      have r2 : ∀ y : Ext wr, y.wd.cell? ⟨b, off + k * 6 + 2, none⟩ = some (.string fd) := fun y => (y.cell ⟨b, _, none⟩ (World.block_lt_of_cell? wr _ (hc0 2 _ rfl))).trans (hc0 2 _ rfl)
      have r3 : ∀ y : Ext wr, y.wd.cell? ⟨b, off + k * 6 + 3, none⟩ = some (.string tx) := fun y => (y.cell ⟨b, _, none⟩ (World.block_lt_of_cell? wr _ (hc0 3 _ rfl))).trans (hc0 3 _ rfl)
      have r4 : ∀ y : Ext wr, y.wd.cell? ⟨b, off + k * 6 + 4, none⟩ = some (.int .i64 nb) := fun y => (y.cell ⟨b, _, none⟩ (World.block_lt_of_cell? wr _ (hc0 4 _ rfl))).trans (hc0 4 _ rfl)
      have r5 : ∀ y : Ext wr, y.wd.cell? ⟨b, off + k * 6 + 5, none⟩ = some (.slice none 0 0) := fun y => (y.cell ⟨b, _, none⟩ (World.block_lt_of_cell? wr _ (hc0 5 _ rfl))).trans (hc0 5 _ rfl)
      have s0 : ∀ y : Ext wr, y.wd.cell? ⟨b', off' + k * 6, none⟩ = some (.int .i64 kd) := fun y => (y.cell ⟨b', _, none⟩ (World.block_lt_of_cell? wr _ (hd0 0 _ rfl))).trans (hd0 0 _ rfl)
      have s1 : ∀ y : Ext wr, y.wd.cell? ⟨b', off' + k * 6 + 1, none⟩ = some (.int .i64 0) := fun y => (y.cell ⟨b', _, none⟩ (World.block_lt_of_cell? wr _ (hd0 1 _ rfl))).trans (hd0 1 _ rfl)
      have s2 : ∀ y : Ext wr, y.wd.cell? ⟨b', off' + k * 6 + 2, none⟩ = some (.string fd) := fun y => (y.cell ⟨b', _, none⟩ (World.block_lt_of_cell? wr _ (hd0 2 _ rfl))).trans (hd0 2 _ rfl)
      have s3 : ∀ y : Ext wr, y.wd.cell? ⟨b', off' + k * 6 + 3, none⟩ = some (.string tx) := fun y => (y.cell ⟨b', _, none⟩ (World.block_lt_of_cell? wr _ (hd0 3 _ rfl))).trans (hd0 3 _ rfl)
      have s4 : ∀ y : Ext wr, y.wd.cell? ⟨b', off' + k * 6 + 4, none⟩ = some (.int .i64 nb) := fun y => (y.cell ⟨b', _, none⟩ (World.block_lt_of_cell? wr _ (hd0 4 _ rfl))).trans (hd0 4 _ rfl)
      have s5 : ∀ y : Ext wr, y.wd.cell? ⟨b', off' + k * 6 + 5, none⟩ = some (.slice none 0 0) := fun y => (y.cell ⟨b', _, none⟩ (World.block_lt_of_cell? wr _ (hd0 5 _ rfl))).trans (hd0 5 _ rfl)
      have u5 : ∀ y : Ext wr, y.wd.cell? ⟨w.heap.size, 5, none⟩ = some (.slice (some ⟨b, off, none⟩) n c) := fun y => (y.cell ⟨w.heap.size, 5, none⟩ (by first | exact hkl | exact hql)).trans p5
      have v5 : ∀ y : Ext wr, y.wd.cell? ⟨w.heap.size + 1, 5, none⟩ = some (.slice (some ⟨b', off', none⟩) n c') := fun y => (y.cell ⟨w.heap.size + 1, 5, none⟩ (by first | exact hkl | exact hql)).trans q5
      clear hc0 hd0
      have hkm : decide (k < n) = true := decide_eq_true hlt
      go_wp2_with fail
      refine wp_region_ext (by kernel_rfl) (by kernel_rfl) ?_
      repeat (go_big_quiet_step ((go_at_call 59; exact Calls.ext_of (hcl.out _))))
      refine wpQuiet_nil ?_
      rintro _ ⟨y, rfl⟩
      have hby := Lib.hid y.below
      obtain ⟨wy, hwy⟩ : ∃ w6, y.wd = w6 := ⟨_, rfl⟩
      rw [hwy] at hby ⊢
      clear hwy y r0 r1 r2 r3 r4 r5 s0 s1 s2 s3 s4 s5 u5 v5 hcl
      have hB1 : Hid (Below w0.heap.size w0 wy) := hB.out.trans (hby.out.mono hB.out.size)
      go_wp2_with fail
      go_roundw
      case rel => exact ⟨k + 1, by omega, by go_num, hB1⟩
      case measure => simp [intOf]; omega
    · have hkm : decide (k < n) = false := decide_eq_false hlt
      go_wp2_with fail
      go_ret
      exact ⟨rfl, hb0.out.trans (hB.out.mono hb0.out.size)⟩

theorem Tryz.held23 : Tryz.prog.stoodInHeld 23 = false := by kernel_rfl
theorem Tryz.fields23 : Tryz.prog.underlying 23 = some (.struct (Tryz.prog.fieldsOf 23)) := by kernel_rfl
theorem neq_mon (a : ByteArray) (b : Int) (W : World) : (binOp .neq 23 (.agg #[.string a, .int .i64 b]) (.agg #[.string a, .int .i64 b])).run Tryz.prog W = .ok (.bool false) W := by
  rw [run_neq_struct, run_equalIn_struct _ _ _ _ _ Tryz.fields23 Tryz.held23]
  unfold Program.fieldsOf
  rw [Tryz.underlying23]
  simp [go_sem]

set_option maxRecDepth 100000 in
set_option maxHeartbeats 6400000 in
theorem credits_any (d : Dl) (A A' : Option Addr) (n c c' : Nat) (l l' : List Ndd) (w : World) (hn : n ≤ 1000) (hl : Hid (l.length = n)) (he : Hid (l.map Ndd.pl = l'.map Ndd.pl)) (hs : Hid (∀ x ∈ l, x.rules.length ≤ 1000)) (hA : Hid (RowOf encN 8 w A l)) (hA' : Hid (RowOf encN 8 w A' l')) (hO : Hid (OwnN w l)) (hO' : Hid (OwnN w l')) :
    Calls Tryz.prog 25 #[.agg (crC d (.slice A n c)), .agg (crC d (.slice A' n c'))] w fun e w' => e = .returned (.bool true) ∧ Below w.heap.size w w' := by
  obtain ⟨X, hX⟩ : ∃ X, Hid (crC d (.slice A n c) = X) := ⟨_, rfl⟩
  obtain ⟨Y, hY⟩ : ∃ X, Hid (crC d (.slice A' n c') = X) := ⟨_, rfl⟩
  rw [hX.out, hY.out]
  obtain ⟨w0, hw0⟩ : ∃ W, Hid ((w.alloc (.cells X 52)).alloc (.cells Y 52) = W) := ⟨_, rfl⟩
  have hb0 : Hid (Below w.heap.size w w0) := by rw [← hw0.out]; exact ((Below.refl _ w).alloc (Nat.le_refl _) _).alloc (by simp) _
  have hp0 : Hid (Blk w0 w.heap.size 52 X) := by rw [← hw0.out]; exact Lib.hid ((Blk.new w 52 _).alloc _)
  have hq0 : Hid (Blk w0 (w.heap.size + 1) 52 Y) := by rw [← hw0.out]; exact Lib.hid (blk_second w _ _ _)
  have hX17 : Hid (X[17]? = some (.slice A n c)) := by rw [← hX.out]; exact Lib.hid rfl
  have hY17 : Hid (Y[17]? = some (.slice A' n c')) := by rw [← hY.out]; exact Lib.hid rfl
  have p0 : w0.cell? ⟨w.heap.size, 0, none⟩ = some (.string d.number) := (hp0.out.cell 0).trans (by rw [← hX.out]; rfl)
  have p1 : w0.cell? ⟨w.heap.size, 1, none⟩ = some (.string d.buyer) := (hp0.out.cell 1).trans (by rw [← hX.out]; rfl)
  have p2 : w0.cell? ⟨w.heap.size, 2, none⟩ = some (.string d.seller) := (hp0.out.cell 2).trans (by rw [← hX.out]; rfl)
  have p3 : w0.cell? ⟨w.heap.size, 3, none⟩ = some (.string d.issuer) := (hp0.out.cell 3).trans (by rw [← hX.out]; rfl)
  have p4 : w0.cell? ⟨w.heap.size, 4, none⟩ = some (.string ⟨#[]⟩) := (hp0.out.cell 4).trans (by rw [← hX.out]; rfl)
  have p5 : w0.cell? ⟨w.heap.size, 5, none⟩ = some (.string d.frm) := (hp0.out.cell 5).trans (by rw [← hX.out]; rfl)
  have p6 : w0.cell? ⟨w.heap.size, 6, none⟩ = some (.string d.toP) := (hp0.out.cell 6).trans (by rw [← hX.out]; rfl)
  have p7 : w0.cell? ⟨w.heap.size, 7, none⟩ = some (.string d.currency) := (hp0.out.cell 7).trans (by rw [← hX.out]; rfl)
  have p8 : w0.cell? ⟨w.heap.size, 8, none⟩ = some (.int .i64 d.amount) := (hp0.out.cell 8).trans (by rw [← hX.out]; rfl)
  have p9 : w0.cell? ⟨w.heap.size, 9, none⟩ = some (.int .i64 0) := (hp0.out.cell 9).trans (by rw [← hX.out]; rfl)
  have p10 : w0.cell? ⟨w.heap.size, 10, none⟩ = some (.int .i64 0) := (hp0.out.cell 10).trans (by rw [← hX.out]; rfl)
  have p11 : w0.cell? ⟨w.heap.size, 11, none⟩ = some (.int .i64 d.latest) := (hp0.out.cell 11).trans (by rw [← hX.out]; rfl)
  have p12 : w0.cell? ⟨w.heap.size, 12, none⟩ = some (.int .i64 d.expiry) := (hp0.out.cell 12).trans (by rw [← hX.out]; rfl)
  have p13 : w0.cell? ⟨w.heap.size, 13, none⟩ = some (.int .i64 21) := (hp0.out.cell 13).trans (by rw [← hX.out]; rfl)
  have p14 : w0.cell? ⟨w.heap.size, 14, none⟩ = some (.int .i64 d.tenor) := (hp0.out.cell 14).trans (by rw [← hX.out]; rfl)
  have p15 : w0.cell? ⟨w.heap.size, 15, none⟩ = some (.bool false) := (hp0.out.cell 15).trans (by rw [← hX.out]; rfl)
  have p16 : w0.cell? ⟨w.heap.size, 16, none⟩ = some (.bool true) := (hp0.out.cell 16).trans (by rw [← hX.out]; rfl)
  have p17 : w0.cell? ⟨w.heap.size, 17, none⟩ = some (.slice A n c) := (hp0.out.cell 17).trans (by rw [← hX.out]; rfl)
  have q0 : w0.cell? ⟨w.heap.size + 1, 0, none⟩ = some (.string d.number) := (hq0.out.cell 0).trans (by rw [← hY.out]; rfl)
  have q1 : w0.cell? ⟨w.heap.size + 1, 1, none⟩ = some (.string d.buyer) := (hq0.out.cell 1).trans (by rw [← hY.out]; rfl)
  have q2 : w0.cell? ⟨w.heap.size + 1, 2, none⟩ = some (.string d.seller) := (hq0.out.cell 2).trans (by rw [← hY.out]; rfl)
  have q3 : w0.cell? ⟨w.heap.size + 1, 3, none⟩ = some (.string d.issuer) := (hq0.out.cell 3).trans (by rw [← hY.out]; rfl)
  have q4 : w0.cell? ⟨w.heap.size + 1, 4, none⟩ = some (.string ⟨#[]⟩) := (hq0.out.cell 4).trans (by rw [← hY.out]; rfl)
  have q5 : w0.cell? ⟨w.heap.size + 1, 5, none⟩ = some (.string d.frm) := (hq0.out.cell 5).trans (by rw [← hY.out]; rfl)
  have q6 : w0.cell? ⟨w.heap.size + 1, 6, none⟩ = some (.string d.toP) := (hq0.out.cell 6).trans (by rw [← hY.out]; rfl)
  have q7 : w0.cell? ⟨w.heap.size + 1, 7, none⟩ = some (.string d.currency) := (hq0.out.cell 7).trans (by rw [← hY.out]; rfl)
  have q8 : w0.cell? ⟨w.heap.size + 1, 8, none⟩ = some (.int .i64 d.amount) := (hq0.out.cell 8).trans (by rw [← hY.out]; rfl)
  have q9 : w0.cell? ⟨w.heap.size + 1, 9, none⟩ = some (.int .i64 0) := (hq0.out.cell 9).trans (by rw [← hY.out]; rfl)
  have q10 : w0.cell? ⟨w.heap.size + 1, 10, none⟩ = some (.int .i64 0) := (hq0.out.cell 10).trans (by rw [← hY.out]; rfl)
  have q11 : w0.cell? ⟨w.heap.size + 1, 11, none⟩ = some (.int .i64 d.latest) := (hq0.out.cell 11).trans (by rw [← hY.out]; rfl)
  have q12 : w0.cell? ⟨w.heap.size + 1, 12, none⟩ = some (.int .i64 d.expiry) := (hq0.out.cell 12).trans (by rw [← hY.out]; rfl)
  have q13 : w0.cell? ⟨w.heap.size + 1, 13, none⟩ = some (.int .i64 21) := (hq0.out.cell 13).trans (by rw [← hY.out]; rfl)
  have q14 : w0.cell? ⟨w.heap.size + 1, 14, none⟩ = some (.int .i64 d.tenor) := (hq0.out.cell 14).trans (by rw [← hY.out]; rfl)
  have q15 : w0.cell? ⟨w.heap.size + 1, 15, none⟩ = some (.bool false) := (hq0.out.cell 15).trans (by rw [← hY.out]; rfl)
  have q16 : w0.cell? ⟨w.heap.size + 1, 16, none⟩ = some (.bool true) := (hq0.out.cell 16).trans (by rw [← hY.out]; rfl)
  have q17 : w0.cell? ⟨w.heap.size + 1, 17, none⟩ = some (.slice A' n c') := (hq0.out.cell 17).trans (by rw [← hY.out]; rfl)
  have hmq := neq_mon d.currency d.amount
  go_enter Tryz.func25, Tryz.ntmps25
  go_wp2_with (rw [hw0.out])
  clear p0 p1 p2 p3 p4 p5 p6 p7 p8 p9 p10 p11 p12 p13 p14 p15 p16 p17 q0 q1 q2 q3 q4 q5 q6 q7 q8 q9 q10 q11 q12 q13 q14 q15 q16 q17 hmq
  go_loopw [5] (fun i wr => ∃ k : Nat, k ≤ n ∧ i = .int .i64 (k : Int) ∧ Hid (Below w0.heap.size w0 wr)) (fun i _ => n - (intOf i).toNat)
  case atStart => exact ⟨0, Nat.zero_le _, rfl, Below.refl _ _⟩
  case round =>
    obtain ⟨k, hk, rfl, hB⟩ := hrel
    have hpr := hp0.out.below hB.out hp0.out.lt
    have hqr := hq0.out.below hB.out hq0.out.lt
    have p17 : wr.cell? ⟨w.heap.size, 17, none⟩ = some (.slice A n c) := (hpr.cell 17).trans hX17.out
    have q17 : wr.cell? ⟨w.heap.size + 1, 17, none⟩ = some (.slice A' n c') := (hqr.cell 17).trans hY17.out
    have hkl : w.heap.size < wr.heap.size := hpr.lt
    have hql : w.heap.size + 1 < wr.heap.size := hqr.lt
    clear hpr hqr
    by_cases hlt : k < n
    · obtain ⟨x, hx⟩ : ∃ x, l[k]? = some x := ⟨_, List.getElem?_eq_getElem (by have := hl.out; omega)⟩
      obtain ⟨y, hy, hxy⟩ : ∃ y, l'[k]? = some y ∧ y.pl = x.pl := by
        have h1 : (l.map Ndd.pl)[k]? = some x.pl := by rw [List.getElem?_map, hx]; rfl
        rw [he.out, List.getElem?_map] at h1
        cases h2 : l'[k]? with
        | none => rw [h2] at h1; simp at h1
        | some y => rw [h2] at h1; exact ⟨y, rfl, by simpa using h1⟩
      have hox := hO.out x (List.mem_of_getElem? hx)
      have hoy := hO'.out y (List.mem_of_getElem? hy)
      have hsx := hs.out x (List.mem_of_getElem? hx)
      obtain ⟨b, off, rfl, hc0⟩ := ((hA.out.below hb0.out).below hB.out) k x hx
      obtain ⟨b', off', rfl, hd0⟩ := ((hA'.out.below hb0.out).below hB.out) k y hy
      clear hx hy
      obtain ⟨kd, rA, rn, rc, rl⟩ := x
      obtain ⟨kd', rA', rn', rc', rl'⟩ := y
      simp only [Ndd.pl, Prod.mk.injEq] at hxy
      obtain ⟨rfl, rfl⟩ := hxy
      simp only at hox hoy hsx
      obtain rfl : rn' = rn := by rw [← hox.1, ← hoy.1]
      have hrl : Hid (rl'.length = rn') := hox.1
      have hrn : rn' ≤ 1000 := by rw [← hox.1]; exact hsx
      obtain ⟨A1, c1, e1, _, hr1⟩ := RowOf.of_own encT_len hox.2 hox.1
      obtain ⟨A2, c2, e2, _, hr2⟩ := RowOf.of_own encT_len hoy.2 hox.1
      simp only [Value.slice.injEq, true_and] at e1 e2
      obtain ⟨rfl, rfl⟩ := e1
      obtain ⟨rfl, rfl⟩ := e2
      have hr1' := Lib.hid ((hr1.below hb0.out).below hB.out)
      have hr2' := Lib.hid ((hr2.below hb0.out).below hB.out)
      clear hr1 hr2 hox hoy hsx
      have hcl : Hid (∀ y : Ext wr, Calls Tryz.prog 59 #[.agg (allC (.slice rA rn' rc)), .agg (allC (.slice rA' rn' rc'))] y.wd fun e w' => e = .returned (.bool true) ∧ Below y.wd.heap.size y.wd w') := fun y =>
        nodes_all rA rA' rn' rc rc' rl' y.wd hrn hrl (Lib.hid (hr1'.out.below y.below)) (Lib.hid (hr2'.out.below y.below))
      have r0 : ∀ y : Ext wr, y.wd.cell? ⟨b, off + k * 8, none⟩ = some (.int .i64 kd') := fun y => (y.cell ⟨b, _, none⟩ (World.block_lt_of_cell? wr _ (hc0 0 _ rfl))).trans (hc0 0 _ rfl)
      have r1 : ∀ y : Ext wr, y.wd.cell? ⟨b, off + k * 8 + 1, none⟩ = some (.int .i64 1) := fun y => (y.cell ⟨b, _, none⟩ (World.block_lt_of_cell? wr _ (hc0 1 _ rfl))).trans (hc0 1 _ rfl)
      have r2 : ∀ y : Ext wr, y.wd.cell? ⟨b, off + k * 8 + 2, none⟩ = some (.int .i64 0) := fun y => (y.cell ⟨b, _, none⟩ (World.block_lt_of_cell? wr _ (hc0 2 _ rfl))).trans (hc0 2 _ rfl)
      have r3 : ∀ y : Ext wr, y.wd.cell? ⟨b, off + k * 8 + 3, none⟩ = some (.int .i64 0) := fun y => (y.cell ⟨b, _, none⟩ (World.block_lt_of_cell? wr _ (hc0 3 _ rfl))).trans (hc0 3 _ rfl)
      have r4 : ∀ y : Ext wr, y.wd.cell? ⟨b, off + k * 8 + 4, none⟩ = some (.string ⟨#[]⟩) := fun y => (y.cell ⟨b, _, none⟩ (World.block_lt_of_cell? wr _ (hc0 4 _ rfl))).trans (hc0 4 _ rfl)
      have r5 : ∀ y : Ext wr, y.wd.cell? ⟨b, off + k * 8 + 5, none⟩ = some (.string ⟨#[]⟩) := fun y => (y.cell ⟨b, _, none⟩ (World.block_lt_of_cell? wr _ (hc0 5 _ rfl))).trans (hc0 5 _ rfl)
      have r6 : ∀ y : Ext wr, y.wd.cell? ⟨b, off + k * 8 + 6, none⟩ = some (.int .i64 0) := fun y => (y.cell ⟨b, _, none⟩ (World.block_lt_of_cell? wr _ (hc0 6 _ rfl))).trans (hc0 6 _ rfl)
      have r7 : ∀ y : Ext wr, y.wd.cell? ⟨b, off + k * 8 + 7, none⟩ = some (.slice rA rn' rc) := fun y => (y.cell ⟨b, _, none⟩ (World.block_lt_of_cell? wr _ (hc0 7 _ rfl))).trans (hc0 7 _ rfl)
      have s0 : ∀ y : Ext wr, y.wd.cell? ⟨b', off' + k * 8, none⟩ = some (.int .i64 kd') := fun y => (y.cell ⟨b', _, none⟩ (World.block_lt_of_cell? wr _ (hd0 0 _ rfl))).trans (hd0 0 _ rfl)
      have s1 : ∀ y : Ext wr, y.wd.cell? ⟨b', off' + k * 8 + 1, none⟩ = some (.int .i64 1) := fun y => (y.cell ⟨b', _, none⟩ (World.block_lt_of_cell? wr _ (hd0 1 _ rfl))).trans (hd0 1 _ rfl)
      have s2 : ∀ y : Ext wr, y.wd.cell? ⟨b', off' + k * 8 + 2, none⟩ = some (.int .i64 0) := fun y => (y.cell ⟨b', _, none⟩ (World.block_lt_of_cell? wr _ (hd0 2 _ rfl))).trans (hd0 2 _ rfl)
      have s3 : ∀ y : Ext wr, y.wd.cell? ⟨b', off' + k * 8 + 3, none⟩ = some (.int .i64 0) := fun y => (y.cell ⟨b', _, none⟩ (World.block_lt_of_cell? wr _ (hd0 3 _ rfl))).trans (hd0 3 _ rfl)
      have s4 : ∀ y : Ext wr, y.wd.cell? ⟨b', off' + k * 8 + 4, none⟩ = some (.string ⟨#[]⟩) := fun y => (y.cell ⟨b', _, none⟩ (World.block_lt_of_cell? wr _ (hd0 4 _ rfl))).trans (hd0 4 _ rfl)
      have s5 : ∀ y : Ext wr, y.wd.cell? ⟨b', off' + k * 8 + 5, none⟩ = some (.string ⟨#[]⟩) := fun y => (y.cell ⟨b', _, none⟩ (World.block_lt_of_cell? wr _ (hd0 5 _ rfl))).trans (hd0 5 _ rfl)
      have s6 : ∀ y : Ext wr, y.wd.cell? ⟨b', off' + k * 8 + 6, none⟩ = some (.int .i64 0) := fun y => (y.cell ⟨b', _, none⟩ (World.block_lt_of_cell? wr _ (hd0 6 _ rfl))).trans (hd0 6 _ rfl)
      have s7 : ∀ y : Ext wr, y.wd.cell? ⟨b', off' + k * 8 + 7, none⟩ = some (.slice rA' rn' rc') := fun y => (y.cell ⟨b', _, none⟩ (World.block_lt_of_cell? wr _ (hd0 7 _ rfl))).trans (hd0 7 _ rfl)
      have u5 : ∀ y : Ext wr, y.wd.cell? ⟨w.heap.size, 17, none⟩ = some (.slice (some ⟨b, off, none⟩) n c) := fun y => (y.cell ⟨w.heap.size, 17, none⟩ (by first | exact hkl | exact hql)).trans p17
      have v5 : ∀ y : Ext wr, y.wd.cell? ⟨w.heap.size + 1, 17, none⟩ = some (.slice (some ⟨b', off', none⟩) n c') := fun y => (y.cell ⟨w.heap.size + 1, 17, none⟩ (by first | exact hkl | exact hql)).trans q17
      clear hc0 hd0
      have hkm : decide (k < n) = true := decide_eq_true hlt
      go_wp2_with fail
      refine wp_region_ext (by kernel_rfl) (by kernel_rfl) ?_
      repeat (go_big_quiet_step ((go_at_call 59; exact Calls.ext_of (hcl.out _))))
      refine wpQuiet_nil ?_
      rintro _ ⟨y, rfl⟩
      have hby := Lib.hid y.below
      obtain ⟨wy, hwy⟩ : ∃ w6, y.wd = w6 := ⟨_, rfl⟩
      rw [hwy] at hby ⊢
      clear hwy y r0 r1 r2 r3 r4 r5 r6 r7 s0 s1 s2 s3 s4 s5 s6 s7 u5 v5 hcl
      have hB1 : Hid (Below w0.heap.size w0 wy) := hB.out.trans (hby.out.mono hB.out.size)
      go_wp2_with fail
      go_roundw
      case rel => exact ⟨k + 1, by omega, by go_num, hB1⟩
      case measure => simp [intOf]; omega
    · have hkm : decide (k < n) = false := decide_eq_false hlt
      go_wp2_with fail
      go_ret
      exact ⟨rfl, hb0.out.trans (hB.out.mono hb0.out.size)⟩
end Go.Proofs.YtnmnknkdnjkpjaaGreatDoor

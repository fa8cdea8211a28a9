/- Two credits are one: the walk of the program's Same. -/
import Derived.ChangeKeysEq
import Derived.Test.YtjkmhlfjheiekaaGreatDoorTa
import Derived.Test.YtjkmhlfjheiekaaGreatDoorWc
namespace Go.Proofs.YtjkmhlfjheiekaaGreatDoor
open Go Go.RowKit Go.BigFrame Go.Maps

theorem quiet_blk {P : Program} {C : World → Prop} {K : Act → Prop} {o : Oper} {a : Act} (ty : TypeId) (x : Operand) (ho : o.op = .load ty x) (g : Nat) (cs : Array Value) (t : TypeId) (d : TypeDesc) (hx : a.eval x = .pointer (some ⟨g, 0, none⟩))
    (hb : ∀ w, C w → Blk w g t cs) (hu : P.underlying ty = some d) (hd : (match d with | .struct _ | .array _ _ => true | _ => false) = true) (hi : (P.info? ty).map (·.size) = some cs.size)
    (hk : K (a.put o.dst (.agg cs))) : o.quiet P a C K := by
  refine ⟨_, fun w hw => ?_, hk⟩
  unfold Oper.quietAt execOp
  simp only [ho, hx, Instr.loadAt, Instr.sureAddr, Sem.run_bind, Sem.run_pure, Result.andThen_ok, run_loadVar_row w g t ty cs (0, 0) d (hb w hw) hu hd hi]
  exact ⟨rfl, rfl⟩
section
variable {P : Program} (w : World)
theorem items_str (d : Nat) {e : TypeId} (hp : P.plainKey e = true) (he : P.underlying e = some .string) {xs ys : Array Value} {i : Nat} {is : List Nat} {a b : Txt} (hx : xs[i]? = some (.string ⟨a.toArray⟩)) (hy : ys[i]? = some (.string ⟨b.toArray⟩)) :
    (Op.eqItems (d + 1) e 1 xs ys (i :: is)).run P w = if (a == b) = true then (Op.eqItems (d + 1) e 1 xs ys is).run P w else .ok false w := by
  have h1 := run_part_plain w hp hx
  have h2 := run_part_plain w hp hy
  rw [Op.eqItems]
  simp only [Nat.mul_one, Sem.run_bind, h1, h2, Result.andThen_ok, run_equalIn_string w d e _ _ he, tx_list]
  generalize (a == b) = r
  cases r <;> simp
theorem items_int (d : Nat) {e : TypeId} {k : IntKind} (hp : P.plainKey e = true) (he : P.underlying e = some (.int k)) {xs ys : Array Value} {i : Nat} {is : List Nat} {a b : Int} (hx : xs[i]? = some (.int .i64 a)) (hy : ys[i]? = some (.int .i64 b)) :
    (Op.eqItems (d + 1) e 1 xs ys (i :: is)).run P w = if (a == b) = true then (Op.eqItems (d + 1) e 1 xs ys is).run P w else .ok false w := by
  have h1 := run_part_plain w hp hx
  have h2 := run_part_plain w hp hy
  rw [Op.eqItems]
  simp only [Nat.mul_one, Sem.run_bind, h1, h2, Result.andThen_ok, run_equalIn_int w d e _ _ _ _ he]
  generalize (a == b) = r
  cases r <;> simp
end
set_option maxRecDepth 100000 in
theorem eq_names (w : World) (s0 s1 s2 s3 s4 s5 s6 t0 t1 t2 t3 t4 t5 t6 : Txt) : (Op.equalIn 10000 75 (.agg #[.string ⟨s0.toArray⟩, .string ⟨s1.toArray⟩, .string ⟨s2.toArray⟩, .string ⟨s3.toArray⟩, .string ⟨s4.toArray⟩, .string ⟨s5.toArray⟩, .string ⟨s6.toArray⟩]) (.agg #[.string ⟨t0.toArray⟩, .string ⟨t1.toArray⟩, .string ⟨t2.toArray⟩, .string ⟨t3.toArray⟩, .string ⟨t4.toArray⟩, .string ⟨t5.toArray⟩, .string ⟨t6.toArray⟩])).run Tryz.prog w = .ok (s0 == t0 && s1 == t1 && s2 == t2 && s3 == t3 && s4 == t4 && s5 == t5 && s6 == t6) w := by
  have h0 : (Tryz.prog.info? 9).isSome = true := by kernel_rfl
  obtain ⟨i0, hi⟩ := Option.isSome_iff_exists.1 h0
  clear h0
  have hp : Tryz.prog.plainKey 9 = true := by kernel_rfl
  have hc : Tryz.prog.cellsOf 9 = 1 := by kernel_rfl
  rw [show (10000 : Nat) = 9998 + 1 + 1 from rfl, run_equalIn_array w (9998 + 1) _ _ Tryz.underlying75 hi, hc, show List.range 7 = [0, 1, 2, 3, 4, 5, 6] from rfl]
  rw [items_str w 9998 hp Tryz.underlying9 (by rfl) (by rfl), items_str w 9998 hp Tryz.underlying9 (by rfl) (by rfl), items_str w 9998 hp Tryz.underlying9 (by rfl) (by rfl), items_str w 9998 hp Tryz.underlying9 (by rfl) (by rfl), items_str w 9998 hp Tryz.underlying9 (by rfl) (by rfl), items_str w 9998 hp Tryz.underlying9 (by rfl) (by rfl), items_str w 9998 hp Tryz.underlying9 (by rfl) (by rfl), Op.eqItems]
  cases s0 == t0 <;> cases s1 == t1 <;> cases s2 == t2 <;> cases s3 == t3 <;> cases s4 == t4 <;> cases s5 == t5 <;> cases s6 == t6 <;> rfl
set_option maxRecDepth 100000 in
theorem eq_nums (w : World) (s0 s1 s2 s3 s4 s5 t0 t1 t2 t3 t4 t5 : Int) : (Op.equalIn 10000 77 (.agg #[.int .i64 s0, .int .i64 s1, .int .i64 s2, .int .i64 s3, .int .i64 s4, .int .i64 s5]) (.agg #[.int .i64 t0, .int .i64 t1, .int .i64 t2, .int .i64 t3, .int .i64 t4, .int .i64 t5])).run Tryz.prog w = .ok (s0 == t0 && s1 == t1 && s2 == t2 && s3 == t3 && s4 == t4 && s5 == t5) w := by
  have h0 : (Tryz.prog.info? 3).isSome = true := by kernel_rfl
  obtain ⟨i0, hi⟩ := Option.isSome_iff_exists.1 h0
  clear h0
  have hp : Tryz.prog.plainKey 3 = true := by kernel_rfl
  have hc : Tryz.prog.cellsOf 3 = 1 := by kernel_rfl
  rw [show (10000 : Nat) = 9998 + 1 + 1 from rfl, run_equalIn_array w (9998 + 1) _ _ Tryz.underlying77 hi, hc, show List.range 6 = [0, 1, 2, 3, 4, 5] from rfl]
  rw [items_int w 9998 hp Tryz.underlying3 (by rfl) (by rfl), items_int w 9998 hp Tryz.underlying3 (by rfl) (by rfl), items_int w 9998 hp Tryz.underlying3 (by rfl) (by rfl), items_int w 9998 hp Tryz.underlying3 (by rfl) (by rfl), items_int w 9998 hp Tryz.underlying3 (by rfl) (by rfl), items_int w 9998 hp Tryz.underlying3 (by rfl) (by rfl), Op.eqItems]
  cases s0 == t0 <;> cases s1 == t1 <;> cases s2 == t2 <;> cases s3 == t3 <;> cases s4 == t4 <;> cases s5 == t5 <;> rfl
/-- Are two credits one, but for their needs? -/
def eqNm (c d : Crd) : Bool := c.number == d.number && c.applicant == d.applicant && c.beneficiary == d.beneficiary && c.issuer == d.issuer && c.confirmer == d.confirmer && c.orig == d.orig && c.dest == d.dest
def eqNu (c d : Crd) : Bool := c.above == d.above && c.below == d.below && c.latest == d.latest && c.expiry == d.expiry && c.within == d.within && c.tenor == d.tenor
def eqCr (c d : Crd) : Bool := eqNm c d && eqNu c d && c.currency == d.currency && c.amount == d.amount && c.part == d.part && c.change == d.change

set_option maxRecDepth 100000 in
set_option maxHeartbeats 12800000 in
theorem same_prog (C D : Array Value) (c d : Crd) (A : Option Addr) (n cc : Nat) (l : List Nd) (A' : Option Addr) (n' cc' : Nat) (l' : List Nd) (ok ok' : Nat → Prop) (w : World) (hC : Hid (C = c.cells (.slice A n cc))) (hD : Hid (D = d.cells (.slice A' n' cc'))) (hn : n ≤ maxLen) (hn' : n' ≤ maxLen) (hl : Hid (l.length = n)) (hl' : Hid (l'.length = n'))
    (hN : Hid (NdsAt w ok A l)) (hN' : Hid (NdsAt w ok' A' l')) : Calls Tryz.prog 21 #[.agg C, .agg D] w fun e w' => e = .returned (.bool (eqCr c d && eqBy eqNd l l')) ∧ Below w.heap.size w w' := by
  have e42 : ∀ (args : Array Value) (w : World), (callFunc 42 args).run Tryz.prog w = .ok (.enter 42 args) w := enters_of Tryz.func42 (by kernel_rfl) rfl
  have e43 : ∀ (args : Array Value) (w : World), (callFunc 43 args).run Tryz.prog w = .ok (.enter 43 args) w := enters_of Tryz.func43 (by kernel_rfl) rfl
  have e45 : ∀ (args : Array Value) (w : World), (callFunc 45 args).run Tryz.prog w = .ok (.enter 45 args) w := enters_of Tryz.func45 (by kernel_rfl) rfl
  have hb0 : Hid (Below w.heap.size w ((w.alloc (.cells C 41)).alloc (.cells D 41))) := ((Below.refl _ w).alloc (Nat.le_refl _) _).alloc (by simp) _
  have hbx := Lib.hid ((Blk.new w 41 C).alloc (.cells D 41))
  have hby : Hid (Blk ((w.alloc (.cells C 41)).alloc (.cells D 41)) (w.heap.size + 1) 41 D) := by
    have h := Blk.new (w.alloc (.cells C 41)) 41 D
    have hs : (w.alloc (.cells C 41)).heap.size = w.heap.size + 1 := by simp
    rw [hs] at h
    exact h
  have hsC : Hid ((Tryz.prog.info? 41).map (·.size) = some C.size) := by unfold Hid; rw [hC.out]; kernel_rfl
  have hsD : Hid ((Tryz.prog.info? 41).map (·.size) = some D.size) := by unfold Hid; rw [hD.out]; kernel_rfl
  have q1 := Lib.hid (fun y : Ext ((w.alloc (.cells C 41)).alloc (.cells D 41)) => names_any C c _ hC y.wd)
  have q2 := Lib.hid (fun y : Ext ((w.alloc (.cells C 41)).alloc (.cells D 41)) => names_any D d _ hD y.wd)
  have q3 := Lib.hid (fun y : Ext ((w.alloc (.cells C 41)).alloc (.cells D 41)) => nums_any C c _ hC y.wd)
  have q4 := Lib.hid (fun y : Ext ((w.alloc (.cells C 41)).alloc (.cells D 41)) => nums_any D d _ hD y.wd)
  have hcall := Lib.hid (fun y : Ext ((w.alloc (.cells C 41)).alloc (.cells D 41)) => equal_needs A n cc l A' n' cc' l' ok ok' 45 e45 eqNd y.wd hn hn' hl hl' (hN.out.below (hb0.out.trans (y.below.mono hb0.out.size))) (hN'.out.below (hb0.out.trans (y.below.mono hb0.out.size))) (fun W t u ht hu hW => sameNeed_any t u W ok ok'
    (by obtain ⟨k, hk⟩ := List.mem_iff_getElem?.1 ht; obtain ⟨_, _, _, _, _, hT⟩ := hN.out k t hk; exact hT.below (hb0.out.trans ((y.below.trans (hW.mono y.below.size)).mono hb0.out.size)))
    (by obtain ⟨k, hk⟩ := List.mem_iff_getElem?.1 hu; obtain ⟨_, _, _, _, _, hT⟩ := hN'.out k u hk; exact hT.below (hb0.out.trans ((y.below.trans (hW.mono y.below.size)).mono hb0.out.size)))))
  obtain ⟨bl, hbl⟩ : ∃ b, Hid (eqBy eqNd l l' = b) := ⟨_, Lib.hid rfl⟩
  rw [hbl.out] at hcall ⊢
  clear hN hN' hbl
  have f7 : ∀ y : Ext ((w.alloc (.cells C 41)).alloc (.cells D 41)), y.wd.cell? ⟨w.heap.size, 7, none⟩ = some (.string ⟨c.currency.toArray⟩) := fun y => (y.cell ⟨w.heap.size, 7, none⟩ hbx.out.lt).trans ((hbx.out.cell 7).trans (by rw [hC.out]; rfl))
  have g7 : ∀ y : Ext ((w.alloc (.cells C 41)).alloc (.cells D 41)), y.wd.cell? ⟨w.heap.size + 1, 7, none⟩ = some (.string ⟨d.currency.toArray⟩) := fun y => (y.cell ⟨w.heap.size + 1, 7, none⟩ hby.out.lt).trans ((hby.out.cell 7).trans (by rw [hD.out]; rfl))
  have f8 : ∀ y : Ext ((w.alloc (.cells C 41)).alloc (.cells D 41)), y.wd.cell? ⟨w.heap.size, 8, none⟩ = some (.int .i64 c.amount) := fun y => (y.cell ⟨w.heap.size, 8, none⟩ hbx.out.lt).trans ((hbx.out.cell 8).trans (by rw [hC.out]; rfl))
  have g8 : ∀ y : Ext ((w.alloc (.cells C 41)).alloc (.cells D 41)), y.wd.cell? ⟨w.heap.size + 1, 8, none⟩ = some (.int .i64 d.amount) := fun y => (y.cell ⟨w.heap.size + 1, 8, none⟩ hby.out.lt).trans ((hby.out.cell 8).trans (by rw [hD.out]; rfl))
  have f15 : ∀ y : Ext ((w.alloc (.cells C 41)).alloc (.cells D 41)), y.wd.cell? ⟨w.heap.size, 15, none⟩ = some (.bool c.part) := fun y => (y.cell ⟨w.heap.size, 15, none⟩ hbx.out.lt).trans ((hbx.out.cell 15).trans (by rw [hC.out]; rfl))
  have g15 : ∀ y : Ext ((w.alloc (.cells C 41)).alloc (.cells D 41)), y.wd.cell? ⟨w.heap.size + 1, 15, none⟩ = some (.bool d.part) := fun y => (y.cell ⟨w.heap.size + 1, 15, none⟩ hby.out.lt).trans ((hby.out.cell 15).trans (by rw [hD.out]; rfl))
  have f16 : ∀ y : Ext ((w.alloc (.cells C 41)).alloc (.cells D 41)), y.wd.cell? ⟨w.heap.size, 16, none⟩ = some (.bool c.change) := fun y => (y.cell ⟨w.heap.size, 16, none⟩ hbx.out.lt).trans ((hbx.out.cell 16).trans (by rw [hC.out]; rfl))
  have g16 : ∀ y : Ext ((w.alloc (.cells C 41)).alloc (.cells D 41)), y.wd.cell? ⟨w.heap.size + 1, 16, none⟩ = some (.bool d.change) := fun y => (y.cell ⟨w.heap.size + 1, 16, none⟩ hby.out.lt).trans ((hby.out.cell 16).trans (by rw [hD.out]; rfl))
  have f17 : ∀ y : Ext ((w.alloc (.cells C 41)).alloc (.cells D 41)), y.wd.cell? ⟨w.heap.size, 17, none⟩ = some (.slice A n cc) := fun y => (y.cell ⟨w.heap.size, 17, none⟩ hbx.out.lt).trans ((hbx.out.cell 17).trans (by rw [hC.out]; rfl))
  have g17 : ∀ y : Ext ((w.alloc (.cells C 41)).alloc (.cells D 41)), y.wd.cell? ⟨w.heap.size + 1, 17, none⟩ = some (.slice A' n' cc') := fun y => (y.cell ⟨w.heap.size + 1, 17, none⟩ hby.out.lt).trans ((hby.out.cell 17).trans (by rw [hD.out]; rfl))
  clear hC hD
  obtain ⟨s0, s1, s2, s3, s4, s5, s6, s7, n8, n9, n10, n11, n12, n13, n14, b15, b16⟩ := c
  obtain ⟨s0', s1', s2', s3', s4', s5', s6', s7', n8', n9', n10', n11', n12', n13', n14', b15', b16'⟩ := d
  obtain ⟨nm, hnm⟩ : ∃ b, Hid ((s0 == s0' && s1 == s1' && s2 == s2' && s3 == s3' && s4 == s4' && s5 == s5' && s6 == s6') = b) := ⟨_, Lib.hid rfl⟩
  obtain ⟨nu, hnu⟩ : ∃ b, Hid ((n9 == n9' && n10 == n10' && n11 == n11' && n12 == n12' && n13 == n13' && n14 == n14') = b) := ⟨_, Lib.hid rfl⟩
  have hres : Hid (eqCr ⟨s0, s1, s2, s3, s4, s5, s6, s7, n8, n9, n10, n11, n12, n13, n14, b15, b16⟩ ⟨s0', s1', s2', s3', s4', s5', s6', s7', n8', n9', n10', n11', n12', n13', n14', b15', b16'⟩ = (nm && nu && s7 == s7' && n8 == n8' && b15 == b15' && b16 == b16')) := by unfold Hid eqCr eqNm eqNu; rw [← hnm.out, ← hnu.out]
  rw [hres.out]
  simp only [Crd.names, Crd.nums] at q1 q2 q3 q4
  clear hres
  have z1 : ∀ W, (Op.equalIn 10000 75 (.agg #[.string ⟨s0.toArray⟩, .string ⟨s1.toArray⟩, .string ⟨s2.toArray⟩, .string ⟨s3.toArray⟩, .string ⟨s4.toArray⟩, .string ⟨s5.toArray⟩, .string ⟨s6.toArray⟩]) (.agg #[.string ⟨s0'.toArray⟩, .string ⟨s1'.toArray⟩, .string ⟨s2'.toArray⟩, .string ⟨s3'.toArray⟩, .string ⟨s4'.toArray⟩, .string ⟨s5'.toArray⟩, .string ⟨s6'.toArray⟩])).run Tryz.prog W = .ok nm W := fun W => by rw [eq_names, hnm.out]
  have z2 : ∀ W, (Op.equalIn 10000 77 (.agg #[.int .i64 n9, .int .i64 n10, .int .i64 n11, .int .i64 n12, .int .i64 n13, .int .i64 n14]) (.agg #[.int .i64 n9', .int .i64 n10', .int .i64 n11', .int .i64 n12', .int .i64 n13', .int .i64 n14'])).run Tryz.prog W = .ok nu W := fun W => by rw [eq_nums, hnu.out]
  have t7 := tx_list s7
  have t7' := tx_list s7'
  cases nm with
  | false =>
    go_enter Tryz.func21, Tryz.ntmps21
    go_upto_region 3 with fail
    refine wp_region_ext (by kernel_rfl) (by kernel_rfl) ?_
    repeat (first
      | (go_big_quiet_want; (refine quiet_blk 41 (.tmp 2) rfl w.heap.size C 41 _ rfl (by rintro _ ⟨y, rfl⟩; exact hbx.out.below y.below hbx.out.lt) Tryz.underlying41 rfl hsC.out ?_); go_big_quiet_on; simp only [Act.put, List.setIfInBounds_toArray, List.set_cons_zero, List.set_cons_succ])
      | (go_big_quiet_want; (refine quiet_blk 41 (.tmp 3) rfl (w.heap.size + 1) D 41 _ rfl (by rintro _ ⟨y, rfl⟩; exact hby.out.below y.below hby.out.lt) Tryz.underlying41 rfl hsD.out ?_); go_big_quiet_on; simp only [Act.put, List.setIfInBounds_toArray, List.set_cons_zero, List.set_cons_succ])
      | go_big_quiet_step ((first
          | (go_at_fn 42; (first | with_reducible exact Calls.ext_of (q1.out _) | with_reducible exact Calls.ext_of (q2.out _)))
          | (go_at_fn 43; (first | with_reducible exact Calls.ext_of (q3.out _) | with_reducible exact Calls.ext_of (q4.out _)))
          | (go_at_call 44; with_reducible exact Calls.ext_of (hcall.out _)))))
    refine wpQuiet_nil ?_
    rintro _ ⟨y, rfl⟩
    have hby9 := hb0.out.trans (y.below.mono hb0.out.size)
    go_wp2_with fail
    go_ret
    exact ⟨by simp, hby9⟩
  | true =>
  cases nu with
  | false =>
    go_enter Tryz.func21, Tryz.ntmps21
    go_upto_region 3 with fail
    refine wp_region_ext (by kernel_rfl) (by kernel_rfl) ?_
    repeat (first
      | (go_big_quiet_want; (refine quiet_blk 41 (.tmp 2) rfl w.heap.size C 41 _ rfl (by rintro _ ⟨y, rfl⟩; exact hbx.out.below y.below hbx.out.lt) Tryz.underlying41 rfl hsC.out ?_); go_big_quiet_on; simp only [Act.put, List.setIfInBounds_toArray, List.set_cons_zero, List.set_cons_succ])
      | (go_big_quiet_want; (refine quiet_blk 41 (.tmp 3) rfl (w.heap.size + 1) D 41 _ rfl (by rintro _ ⟨y, rfl⟩; exact hby.out.below y.below hby.out.lt) Tryz.underlying41 rfl hsD.out ?_); go_big_quiet_on; simp only [Act.put, List.setIfInBounds_toArray, List.set_cons_zero, List.set_cons_succ])
      | go_big_quiet_step ((first
          | (go_at_fn 42; (first | with_reducible exact Calls.ext_of (q1.out _) | with_reducible exact Calls.ext_of (q2.out _)))
          | (go_at_fn 43; (first | with_reducible exact Calls.ext_of (q3.out _) | with_reducible exact Calls.ext_of (q4.out _)))
          | (go_at_call 44; with_reducible exact Calls.ext_of (hcall.out _)))))
    refine wpQuiet_nil ?_
    rintro _ ⟨y, rfl⟩
    have hby9 := hb0.out.trans (y.below.mono hb0.out.size)
    go_wp2_with fail
    go_ret
    exact ⟨by simp, hby9⟩
  | true =>
  by_cases h7 : ¬ (s7 = s7')
  · have k7 : (s7 == s7') = false := by simp [h7]
    rw [k7]
    go_enter Tryz.func21, Tryz.ntmps21
    go_upto_region 3 with fail
    refine wp_region_ext (by kernel_rfl) (by kernel_rfl) ?_
    repeat (first
      | (go_big_quiet_want; (refine quiet_blk 41 (.tmp 2) rfl w.heap.size C 41 _ rfl (by rintro _ ⟨y, rfl⟩; exact hbx.out.below y.below hbx.out.lt) Tryz.underlying41 rfl hsC.out ?_); go_big_quiet_on; simp only [Act.put, List.setIfInBounds_toArray, List.set_cons_zero, List.set_cons_succ])
      | (go_big_quiet_want; (refine quiet_blk 41 (.tmp 3) rfl (w.heap.size + 1) D 41 _ rfl (by rintro _ ⟨y, rfl⟩; exact hby.out.below y.below hby.out.lt) Tryz.underlying41 rfl hsD.out ?_); go_big_quiet_on; simp only [Act.put, List.setIfInBounds_toArray, List.set_cons_zero, List.set_cons_succ])
      | go_big_quiet_step ((first
          | (go_at_fn 42; (first | with_reducible exact Calls.ext_of (q1.out _) | with_reducible exact Calls.ext_of (q2.out _)))
          | (go_at_fn 43; (first | with_reducible exact Calls.ext_of (q3.out _) | with_reducible exact Calls.ext_of (q4.out _)))
          | (go_at_call 44; with_reducible exact Calls.ext_of (hcall.out _)))))
    refine wpQuiet_nil ?_
    rintro _ ⟨y, rfl⟩
    have hby9 := hb0.out.trans (y.below.mono hb0.out.size)
    go_wp2_with fail
    go_ret
    exact ⟨by simp, hby9⟩
  obtain rfl := Classical.not_not.1 h7
  clear h7
  by_cases h8 : ¬ (n8 = n8')
  · have k8 : (n8 == n8') = false := by simp [h8]
    rw [k8]
    go_enter Tryz.func21, Tryz.ntmps21
    go_upto_region 3 with fail
    refine wp_region_ext (by kernel_rfl) (by kernel_rfl) ?_
    repeat (first
      | (go_big_quiet_want; (refine quiet_blk 41 (.tmp 2) rfl w.heap.size C 41 _ rfl (by rintro _ ⟨y, rfl⟩; exact hbx.out.below y.below hbx.out.lt) Tryz.underlying41 rfl hsC.out ?_); go_big_quiet_on; simp only [Act.put, List.setIfInBounds_toArray, List.set_cons_zero, List.set_cons_succ])
      | (go_big_quiet_want; (refine quiet_blk 41 (.tmp 3) rfl (w.heap.size + 1) D 41 _ rfl (by rintro _ ⟨y, rfl⟩; exact hby.out.below y.below hby.out.lt) Tryz.underlying41 rfl hsD.out ?_); go_big_quiet_on; simp only [Act.put, List.setIfInBounds_toArray, List.set_cons_zero, List.set_cons_succ])
      | go_big_quiet_step ((first
          | (go_at_fn 42; (first | with_reducible exact Calls.ext_of (q1.out _) | with_reducible exact Calls.ext_of (q2.out _)))
          | (go_at_fn 43; (first | with_reducible exact Calls.ext_of (q3.out _) | with_reducible exact Calls.ext_of (q4.out _)))
          | (go_at_call 44; with_reducible exact Calls.ext_of (hcall.out _)))))
    refine wpQuiet_nil ?_
    rintro _ ⟨y, rfl⟩
    have hby9 := hb0.out.trans (y.below.mono hb0.out.size)
    go_wp2_with fail
    go_ret
    exact ⟨by simp, hby9⟩
  obtain rfl := Classical.not_not.1 h8
  clear h8
  by_cases h15 : ¬ (b15 = b15')
  · have k15 : (b15 == b15') = false := by simp [h15]
    rw [k15]
    go_enter Tryz.func21, Tryz.ntmps21
    go_upto_region 3 with fail
    refine wp_region_ext (by kernel_rfl) (by kernel_rfl) ?_
    repeat (first
      | (go_big_quiet_want; (refine quiet_blk 41 (.tmp 2) rfl w.heap.size C 41 _ rfl (by rintro _ ⟨y, rfl⟩; exact hbx.out.below y.below hbx.out.lt) Tryz.underlying41 rfl hsC.out ?_); go_big_quiet_on; simp only [Act.put, List.setIfInBounds_toArray, List.set_cons_zero, List.set_cons_succ])
      | (go_big_quiet_want; (refine quiet_blk 41 (.tmp 3) rfl (w.heap.size + 1) D 41 _ rfl (by rintro _ ⟨y, rfl⟩; exact hby.out.below y.below hby.out.lt) Tryz.underlying41 rfl hsD.out ?_); go_big_quiet_on; simp only [Act.put, List.setIfInBounds_toArray, List.set_cons_zero, List.set_cons_succ])
      | go_big_quiet_step ((first
          | (go_at_fn 42; (first | with_reducible exact Calls.ext_of (q1.out _) | with_reducible exact Calls.ext_of (q2.out _)))
          | (go_at_fn 43; (first | with_reducible exact Calls.ext_of (q3.out _) | with_reducible exact Calls.ext_of (q4.out _)))
          | (go_at_call 44; with_reducible exact Calls.ext_of (hcall.out _)))))
    refine wpQuiet_nil ?_
    rintro _ ⟨y, rfl⟩
    have hby9 := hb0.out.trans (y.below.mono hb0.out.size)
    go_wp2_with fail
    go_ret
    exact ⟨by simp, hby9⟩
  obtain rfl := Classical.not_not.1 h15
  clear h15
  by_cases h16 : ¬ (b16 = b16')
  · have k16 : (b16 == b16') = false := by simp [h16]
    rw [k16]
    go_enter Tryz.func21, Tryz.ntmps21
    go_upto_region 3 with fail
    refine wp_region_ext (by kernel_rfl) (by kernel_rfl) ?_
    repeat (first
      | (go_big_quiet_want; (refine quiet_blk 41 (.tmp 2) rfl w.heap.size C 41 _ rfl (by rintro _ ⟨y, rfl⟩; exact hbx.out.below y.below hbx.out.lt) Tryz.underlying41 rfl hsC.out ?_); go_big_quiet_on; simp only [Act.put, List.setIfInBounds_toArray, List.set_cons_zero, List.set_cons_succ])
      | (go_big_quiet_want; (refine quiet_blk 41 (.tmp 3) rfl (w.heap.size + 1) D 41 _ rfl (by rintro _ ⟨y, rfl⟩; exact hby.out.below y.below hby.out.lt) Tryz.underlying41 rfl hsD.out ?_); go_big_quiet_on; simp only [Act.put, List.setIfInBounds_toArray, List.set_cons_zero, List.set_cons_succ])
      | go_big_quiet_step ((first
          | (go_at_fn 42; (first | with_reducible exact Calls.ext_of (q1.out _) | with_reducible exact Calls.ext_of (q2.out _)))
          | (go_at_fn 43; (first | with_reducible exact Calls.ext_of (q3.out _) | with_reducible exact Calls.ext_of (q4.out _)))
          | (go_at_call 44; with_reducible exact Calls.ext_of (hcall.out _)))))
    refine wpQuiet_nil ?_
    rintro _ ⟨y, rfl⟩
    have hby9 := hb0.out.trans (y.below.mono hb0.out.size)
    go_wp2_with fail
    go_ret
    exact ⟨by simp, hby9⟩
  obtain rfl := Classical.not_not.1 h16
  clear h16
  go_enter Tryz.func21, Tryz.ntmps21
  go_upto_region 3 with fail
  refine wp_region_ext (by kernel_rfl) (by kernel_rfl) ?_
  repeat (first
    | (go_big_quiet_want; (refine quiet_blk 41 (.tmp 2) rfl w.heap.size C 41 _ rfl (by rintro _ ⟨y, rfl⟩; exact hbx.out.below y.below hbx.out.lt) Tryz.underlying41 rfl hsC.out ?_); go_big_quiet_on; simp only [Act.put, List.setIfInBounds_toArray, List.set_cons_zero, List.set_cons_succ])
    | (go_big_quiet_want; (refine quiet_blk 41 (.tmp 3) rfl (w.heap.size + 1) D 41 _ rfl (by rintro _ ⟨y, rfl⟩; exact hby.out.below y.below hby.out.lt) Tryz.underlying41 rfl hsD.out ?_); go_big_quiet_on; simp only [Act.put, List.setIfInBounds_toArray, List.set_cons_zero, List.set_cons_succ])
    | go_big_quiet_step ((first
        | (go_at_fn 42; (first | with_reducible exact Calls.ext_of (q1.out _) | with_reducible exact Calls.ext_of (q2.out _)))
        | (go_at_fn 43; (first | with_reducible exact Calls.ext_of (q3.out _) | with_reducible exact Calls.ext_of (q4.out _)))
        | (go_at_call 44; with_reducible exact Calls.ext_of (hcall.out _)))))
  refine wpQuiet_nil ?_
  rintro _ ⟨y, rfl⟩
  have hby9 := hb0.out.trans (y.below.mono hb0.out.size)
  go_wp2_with fail
  go_ret
  exact ⟨by simp, hby9⟩

end Go.Proofs.YtjkmhlfjheiekaaGreatDoor

import Derived.Test.YtjkmhlfjheiekaaGreatDoorSg
import Derived.Test.YtjkmhlfjheiekaaGreatDoorTa
namespace Go.Proofs.YtjkmhlfjheiekaaGreatDoor
open Go Go.RowKit Go.BigFrame Go.Maps
def Tree.kind : Tree → Int | .mk k _ _ _ _ _ _ _ => k
mutual
def szR : Rul → Nat
 | .mk _ _ f x _ L => f.length + x.length + 64 + szL L
def szL : List Rul → Nat
 | [] => 0
 | r :: L => szR r + 16 + szL L
end
theorem szL_mem : ∀ {L : List Rul} {r : Rul}, r ∈ L → szR r ≤ szL L
 | [], _, h => by cases h
 | u :: L, r, h => by
  rw [szL]
  rcases List.mem_cons.1 h with rfl | h
  ·omega
  ·have := szL_mem h; omega
def mostZ : Nat := 70368744177664
theorem sz_parts {k p : Int} {f x : Txt} {n : Int} {A : Option Addr} {c : Nat} {L : List Tree} (h : szR (strip (.mk k p f x n A c L)) ≤ mostZ) : f.length ≤ 70368744177664 ∧ x.length ≤ 70368744177664 ∧ ∀ t ∈ L, szR (strip t) ≤ mostZ := by
 unfold mostZ at h ⊢
 rw [strip, szR] at h
 refine ⟨by omega, by omega, fun t ht => ?_⟩
 have : szR (strip t) ≤ szL (strips L) := szL_mem (by rw [strips_map]; exact List.mem_map_of_mem ht)
 omega
theorem mayL_any : ∀ L : List Tree, mayL (strips L) = !L.any fun t => !mayR (strip t)
 | [] => by rw [strips, mayL]; rfl
 | t :: L => by rw [strips, mayL, mayL_any L, List.any_cons]; cases mayR (strip t) <;> simp
def MayC (t : Tree) : Prop := ∀ (w : World) (ok : Nat → Prop), Hid (Env w) → Hid (TreeAt w ok t) → Hid (szR (strip t) ≤ mostZ) → Calls Tryz.prog 37 #[.agg t.cells] w fun e w' => e = .returned (.bool (mayR (strip t))) ∧ Below w.heap.size w w'
set_option maxRecDepth 100000 in
set_option maxHeartbeats 1600000 in
theorem may1_any (t : Tree) (ih : MayC t) (w : World) (ok : Nat → Prop) (he : Hid (Env w)) (hT : Hid (TreeAt w ok t)) (hz : Hid (szR (strip t) ≤ mostZ)) :
  Calls Tryz.prog 74 (#[.agg t.cells] ++ #[]) w fun e w' => e = .returned (.bool (!mayR (strip t))) ∧ Below w.heap.size w w' := by
 obtain ⟨k, p, f, x, n, A, c, L⟩ := t
 obtain ⟨b, hb⟩ : ∃ b, Hid (mayR (strip (.mk k p f x n A c L)) = b) := ⟨_, hd9 rfl⟩
 have hbl : Hid (∀ o, Below w.heap.size w (w.alloc o)) := fun o => (Below.refl _ w).alloc le9 o
 have hcall : Hid (∀ o, Calls Tryz.prog 37 #[.agg (Tree.mk k p f x n A c L).cells] (w.alloc o) fun e w' => e = .returned (.bool b) ∧ Below (w.alloc o).heap.size (w.alloc o) w') := fun o => by
  rw [← hb.out]
  exact ih (w.alloc o) ok (he.out.below (hbl.out o)) (hT.out.below (hbl.out o)) hz
 rw [hb.out]
 clear ih hT
 unfold Tree.cells at hcall
 show Calls Tryz.prog 74 #[.agg #[.int .i64 k, .int .i64 p, .string ⟨f.toArray⟩, .string ⟨x.toArray⟩, .int .i64 n, .slice A L.length c]] w _
 go_enter Tryz.func74, Tryz.ntmps74
 go_wp2_with (go_at_call 37; refine (hcall.out _).mono ?_; rintro e w1 ⟨rfl, hB1⟩)
 go_ret
 exact ⟨rfl, (hbl.out _).trans (hB1.mono (hbl.out _).size)⟩
set_option maxRecDepth 100000 in
set_option maxHeartbeats 3200000 in
theorem may_row0 (t : Tree) (ih : ∀ u ∈ t.sub, MayC u) (hk : t.kind = 0) : MayC t := by
 intro w ok he hT hz
 obtain ⟨k, p, f, x, n, A, c, L⟩ := t
 replace hk : k = 0 := hk
 obtain ⟨hfl, hxl, hsz⟩ := sz_parts hz.out
 have hsz' := hd9 hsz
 have hT0 := hT.out
 rw [TreeAt] at hT0
 obtain ⟨hR, hlen⟩ := hT0
 have hR' := hd9 hR
 obtain ⟨m, hm⟩ : ∃ m, Hid (L.length = m) := ⟨_, hd9 rfl⟩
 rw [hm.out] at hlen
 have ih' := hd9 ih
 clear ih hT hR hsz hz
 obtain ⟨bp, qp⟩ : ∃ b, (p == 0) = b := ⟨_, rfl⟩
 obtain ⟨bn, qn⟩ : ∃ b, (n == 0) = b := ⟨_, rfl⟩
 obtain ⟨bf, qf⟩ : ∃ b, (f == []) = b := ⟨_, rfl⟩
 obtain ⟨bx, qx⟩ : ∃ b, (x == []) = b := ⟨_, rfl⟩
 have dp : decide (p = 0) = bp := by rw [← qp]; rfl
 have dn : decide (n = 0) = bn := by rw [← qn]; rfl
 have df : decide (f = []) = bf := by rw [← qf]; cases f <;> rfl
 have dx : decide (x = []) = bx := by rw [← qx]; cases x <;> rfl
 have ef := tx_list f
 have ex := tx_list x
 show Calls Tryz.prog 37 #[.agg #[.int .i64 k, .int .i64 p, .string ⟨f.toArray⟩, .string ⟨x.toArray⟩, .int .i64 n, .slice A L.length c]] w _
 rw [hm.out]
 have hb0 : Hid (Below w.heap.size w (w.alloc (.cells #[.int .i64 k, .int .i64 p, .string ⟨f.toArray⟩, .string ⟨x.toArray⟩, .int .i64 n, .slice A m c] 25))) := (Below.refl _ w).alloc le9 _
 obtain ⟨b, hb⟩ : ∃ b, Hid (L.any (fun t => !mayR (strip t)) = b) := ⟨_, hd9 rfl⟩
 obtain ⟨b2, q2⟩ : ∃ b, decide (2 ≤ m) = b := ⟨_, rfl⟩
 obtain ⟨b3, q3⟩ : ∃ b, decide (m ≤ 64) = b := ⟨_, rfl⟩
 have r2 : decide ((2 : Int) ≤ (m : Int)) = b2 := by rw [← q2, Bool.eq_iff_iff]; simp; omega
 have r3 : decide ((m : Int) ≤ 64) = b3 := by rw [← q3, Bool.eq_iff_iff]; simp; omega
 have hres : Hid (mayR (strip (.mk k p f x n A c L)) = (bp && bn && bf && bx && b2 && b3 && !b)) := by
  unfold Hid
  rw [strip, mayR, if_pos (by omega), mayL_any, hb.out, dp, dn, df, dx, strips_map, List.length_map, hm.out, q2, q3]
 have hcall : Hid (Calls Tryz.prog 73 #[.slice A m c, .func (.func 74) #[] #[]] (w.alloc (.cells #[.int .i64 k, .int .i64 p, .string ⟨f.toArray⟩, .string ⟨x.toArray⟩, .int .i64 n, .slice A m c] 25)) fun e w' => e = .returned (.bool b) ∧ Below (w.alloc (.cells #[.int .i64 k, .int .i64 p, .string ⟨f.toArray⟩, .string ⟨x.toArray⟩, .int .i64 n, .slice A m c] 25)).heap.size (w.alloc (.cells #[.int .i64 k, .int .i64 p, .string ⟨f.toArray⟩, .string ⟨x.toArray⟩, .int .i64 n, .slice A m c] 25)) w') := by
  have e74 : ∀ (args : Array Value) (w : World), (callFunc 74 args).run Tryz.prog w = .ok (.enter 74 args) w := enters_of Tryz.func74 (by kernel_rfl) rfl
  rw [← hb.out]
  have hR2 := hR'.out.below hb0.out
  exact contains_any A m c L ok 74 #[] e74 (fun t => !mayR (strip t)) _ hlen hm hR2 (fun W t ht hbl => may1_any t (ih'.out t ht) W ok (he.out.below (hb0.out.trans (hbl.mono hb0.out.size))) ((hR2.mem ht).below hbl) (hsz'.out t ht))
 clear dp dn df dx q2 q3
 subst hk
 cases bp with
 | false =>
  go_enter Tryz.func37, Tryz.ntmps37
  go_wp2_with fail
  go_ret
  exact ⟨by rw [hres.out]; simp, hb0.out⟩
 | true =>
  cases bn with
  | false =>
   go_enter Tryz.func37, Tryz.ntmps37
   go_wp2_with fail
   go_ret
   exact ⟨by rw [hres.out]; simp, hb0.out⟩
  | true =>
   cases bf with
   | false =>
    go_enter Tryz.func37, Tryz.ntmps37
    go_wp2_with fail
    go_ret
    exact ⟨by rw [hres.out]; simp, hb0.out⟩
   | true =>
    cases bx with
    | false =>
     go_enter Tryz.func37, Tryz.ntmps37
     go_wp2_with fail
     go_ret
     exact ⟨by rw [hres.out]; simp, hb0.out⟩
    | true =>
     cases b2 with
     | false =>
      go_enter Tryz.func37, Tryz.ntmps37
      go_wp2_with fail
      go_ret
      exact ⟨by rw [hres.out]; simp, hb0.out⟩
     | true =>
      cases b3 with
      | false =>
       go_enter Tryz.func37, Tryz.ntmps37
       go_wp2_with fail
       go_ret
       exact ⟨by rw [hres.out]; simp, hb0.out⟩
      | true =>
       go_enter Tryz.func37, Tryz.ntmps37
       go_wp2_with (go_at_call 73; refine hcall.out.mono ?_; rintro e w1 ⟨rfl, hB1⟩)
       go_ret
       exact ⟨by rw [hres.out]; simp, hb0.out.trans (hB1.mono hb0.out.size)⟩
set_option maxRecDepth 100000 in
set_option maxHeartbeats 3200000 in
theorem may_row1 (t : Tree) (ih : ∀ u ∈ t.sub, MayC u) (hk : t.kind = 1) : MayC t := by
 intro w ok he hT hz
 obtain ⟨k, p, f, x, n, A, c, L⟩ := t
 replace hk : k = 1 := hk
 obtain ⟨hfl, hxl, hsz⟩ := sz_parts hz.out
 have hsz' := hd9 hsz
 have hT0 := hT.out
 rw [TreeAt] at hT0
 obtain ⟨hR, hlen⟩ := hT0
 have hR' := hd9 hR
 obtain ⟨m, hm⟩ : ∃ m, Hid (L.length = m) := ⟨_, hd9 rfl⟩
 rw [hm.out] at hlen
 have ih' := hd9 ih
 clear ih hT hR hsz hz
 obtain ⟨bp, qp⟩ : ∃ b, (p == 0) = b := ⟨_, rfl⟩
 obtain ⟨bn, qn⟩ : ∃ b, (n == 0) = b := ⟨_, rfl⟩
 obtain ⟨bf, qf⟩ : ∃ b, (f == []) = b := ⟨_, rfl⟩
 obtain ⟨bx, qx⟩ : ∃ b, (x == []) = b := ⟨_, rfl⟩
 have dp : decide (p = 0) = bp := by rw [← qp]; rfl
 have dn : decide (n = 0) = bn := by rw [← qn]; rfl
 have df : decide (f = []) = bf := by rw [← qf]; cases f <;> rfl
 have dx : decide (x = []) = bx := by rw [← qx]; cases x <;> rfl
 have ef := tx_list f
 have ex := tx_list x
 show Calls Tryz.prog 37 #[.agg #[.int .i64 k, .int .i64 p, .string ⟨f.toArray⟩, .string ⟨x.toArray⟩, .int .i64 n, .slice A L.length c]] w _
 rw [hm.out]
 have hb0 : Hid (Below w.heap.size w (w.alloc (.cells #[.int .i64 k, .int .i64 p, .string ⟨f.toArray⟩, .string ⟨x.toArray⟩, .int .i64 n, .slice A m c] 25))) := (Below.refl _ w).alloc le9 _
 obtain ⟨b, hb⟩ : ∃ b, Hid (L.any (fun t => !mayR (strip t)) = b) := ⟨_, hd9 rfl⟩
 obtain ⟨b2, q2⟩ : ∃ b, decide (2 ≤ m) = b := ⟨_, rfl⟩
 obtain ⟨b3, q3⟩ : ∃ b, decide (m ≤ 64) = b := ⟨_, rfl⟩
 have r2 : decide ((2 : Int) ≤ (m : Int)) = b2 := by rw [← q2, Bool.eq_iff_iff]; simp; omega
 have r3 : decide ((m : Int) ≤ 64) = b3 := by rw [← q3, Bool.eq_iff_iff]; simp; omega
 have hres : Hid (mayR (strip (.mk k p f x n A c L)) = (bp && bn && bf && bx && b2 && b3 && !b)) := by
  unfold Hid
  rw [strip, mayR, if_pos (by omega), mayL_any, hb.out, dp, dn, df, dx, strips_map, List.length_map, hm.out, q2, q3]
 have hcall : Hid (Calls Tryz.prog 73 #[.slice A m c, .func (.func 74) #[] #[]] (w.alloc (.cells #[.int .i64 k, .int .i64 p, .string ⟨f.toArray⟩, .string ⟨x.toArray⟩, .int .i64 n, .slice A m c] 25)) fun e w' => e = .returned (.bool b) ∧ Below (w.alloc (.cells #[.int .i64 k, .int .i64 p, .string ⟨f.toArray⟩, .string ⟨x.toArray⟩, .int .i64 n, .slice A m c] 25)).heap.size (w.alloc (.cells #[.int .i64 k, .int .i64 p, .string ⟨f.toArray⟩, .string ⟨x.toArray⟩, .int .i64 n, .slice A m c] 25)) w') := by
  have e74 : ∀ (args : Array Value) (w : World), (callFunc 74 args).run Tryz.prog w = .ok (.enter 74 args) w := enters_of Tryz.func74 (by kernel_rfl) rfl
  rw [← hb.out]
  have hR2 := hR'.out.below hb0.out
  exact contains_any A m c L ok 74 #[] e74 (fun t => !mayR (strip t)) _ hlen hm hR2 (fun W t ht hbl => may1_any t (ih'.out t ht) W ok (he.out.below (hb0.out.trans (hbl.mono hb0.out.size))) ((hR2.mem ht).below hbl) (hsz'.out t ht))
 clear dp dn df dx q2 q3
 subst hk
 cases bp with
 | false =>
  go_enter Tryz.func37, Tryz.ntmps37
  go_wp2_with fail
  go_ret
  exact ⟨by rw [hres.out]; simp, hb0.out⟩
 | true =>
  cases bn with
  | false =>
   go_enter Tryz.func37, Tryz.ntmps37
   go_wp2_with fail
   go_ret
   exact ⟨by rw [hres.out]; simp, hb0.out⟩
  | true =>
   cases bf with
   | false =>
    go_enter Tryz.func37, Tryz.ntmps37
    go_wp2_with fail
    go_ret
    exact ⟨by rw [hres.out]; simp, hb0.out⟩
   | true =>
    cases bx with
    | false =>
     go_enter Tryz.func37, Tryz.ntmps37
     go_wp2_with fail
     go_ret
     exact ⟨by rw [hres.out]; simp, hb0.out⟩
    | true =>
     cases b2 with
     | false =>
      go_enter Tryz.func37, Tryz.ntmps37
      go_wp2_with fail
      go_ret
      exact ⟨by rw [hres.out]; simp, hb0.out⟩
     | true =>
      cases b3 with
      | false =>
       go_enter Tryz.func37, Tryz.ntmps37
       go_wp2_with fail
       go_ret
       exact ⟨by rw [hres.out]; simp, hb0.out⟩
      | true =>
       go_enter Tryz.func37, Tryz.ntmps37
       go_wp2_with (go_at_call 73; refine hcall.out.mono ?_; rintro e w1 ⟨rfl, hB1⟩)
       go_ret
       exact ⟨by rw [hres.out]; simp, hb0.out.trans (hB1.mono hb0.out.size)⟩
set_option maxRecDepth 100000 in
set_option maxHeartbeats 3200000 in
theorem may_not (t : Tree) (ih : ∀ u ∈ t.sub, MayC u) (hk : t.kind = 2) : MayC t := by
 intro w ok he hT hz
 obtain ⟨k, p, f, x, n, A, c, L⟩ := t
 replace hk : k = 2 := hk
 obtain ⟨hfl, hxl, hsz⟩ := sz_parts hz.out
 have hsz' := hd9 hsz
 have hT0 := hT.out
 rw [TreeAt] at hT0
 obtain ⟨hR, hlen⟩ := hT0
 have hR' := hd9 hR
 obtain ⟨m, hm⟩ : ∃ m, Hid (L.length = m) := ⟨_, hd9 rfl⟩
 rw [hm.out] at hlen
 have ih' := hd9 ih
 clear ih hT hR hsz hz
 obtain ⟨bp, qp⟩ : ∃ b, (p == 0) = b := ⟨_, rfl⟩
 obtain ⟨bn, qn⟩ : ∃ b, (n == 0) = b := ⟨_, rfl⟩
 obtain ⟨bf, qf⟩ : ∃ b, (f == []) = b := ⟨_, rfl⟩
 obtain ⟨bx, qx⟩ : ∃ b, (x == []) = b := ⟨_, rfl⟩
 have dp : decide (p = 0) = bp := by rw [← qp]; rfl
 have dn : decide (n = 0) = bn := by rw [← qn]; rfl
 have df : decide (f = []) = bf := by rw [← qf]; cases f <;> rfl
 have dx : decide (x = []) = bx := by rw [← qx]; cases x <;> rfl
 have ef := tx_list f
 have ex := tx_list x
 show Calls Tryz.prog 37 #[.agg #[.int .i64 k, .int .i64 p, .string ⟨f.toArray⟩, .string ⟨x.toArray⟩, .int .i64 n, .slice A L.length c]] w _
 rw [hm.out]
 have hb0 : Hid (Below w.heap.size w (w.alloc (.cells #[.int .i64 k, .int .i64 p, .string ⟨f.toArray⟩, .string ⟨x.toArray⟩, .int .i64 n, .slice A m c] 25))) := (Below.refl _ w).alloc le9 _
 obtain ⟨b1, q1⟩ : ∃ b, decide (m = 1) = b := ⟨_, rfl⟩
 have r1 : ((m : Int) == 1) = b1 := by rw [← q1, Bool.eq_iff_iff]; simp; omega
 obtain ⟨b, hb⟩ : ∃ b, Hid (mayL (strips L) = b) := ⟨_, hd9 rfl⟩
 have hres : Hid (mayR (strip (.mk k p f x n A c L)) = (bp && bn && bf && bx && b1 && b)) := by
  unfold Hid
  rw [strip, mayR, if_neg (by omega), if_pos hk, hb.out, dp, dn, df, dx, strips_map, List.length_map, hm.out, q1]
 clear dp dn df dx
 subst hk
 cases bp with
 | false =>
  go_enter Tryz.func37, Tryz.ntmps37
  go_wp2_with fail
  go_ret
  exact ⟨by rw [hres.out]; simp, hb0.out⟩
 | true =>
  cases bn with
  | false =>
   go_enter Tryz.func37, Tryz.ntmps37
   go_wp2_with fail
   go_ret
   exact ⟨by rw [hres.out]; simp, hb0.out⟩
  | true =>
   cases bf with
   | false =>
    go_enter Tryz.func37, Tryz.ntmps37
    go_wp2_with fail
    go_ret
    exact ⟨by rw [hres.out]; simp, hb0.out⟩
   | true =>
    cases bx with
    | false =>
     go_enter Tryz.func37, Tryz.ntmps37
     go_wp2_with fail
     go_ret
     exact ⟨by rw [hres.out]; simp, hb0.out⟩
    | true =>
     cases b1 with
     | false =>
      go_enter Tryz.func37, Tryz.ntmps37
      go_wp2_with fail
      go_ret
      exact ⟨by rw [hres.out]; simp, hb0.out⟩
     | true =>
      have hm1 : m = 1 := by simpa using q1
      clear q1
      subst hm1
      obtain ⟨t, rfl⟩ : ∃ t, L = [t] := by
       have := hm.out
       match L, this with
       | [t], _ => exact ⟨t, rfl⟩
      have hbt : Hid (mayR (strip t) = b) := by unfold Hid; rw [← hb.out, strips, strips, mayL, mayL, Bool.and_true]
      have hcl := hd9 ((hR'.out.below hb0.out).get 0 t rfl)
      have hcall : Hid (Calls Tryz.prog 37 #[.agg t.cells] (w.alloc (.cells #[.int .i64 2, .int .i64 p, .string ⟨f.toArray⟩, .string ⟨x.toArray⟩, .int .i64 n, .slice A 1 c] 25)) fun e w' => e = .returned (.bool b) ∧ Below (w.alloc (.cells #[.int .i64 2, .int .i64 p, .string ⟨f.toArray⟩, .string ⟨x.toArray⟩, .int .i64 n, .slice A 1 c] 25)).heap.size (w.alloc (.cells #[.int .i64 2, .int .i64 p, .string ⟨f.toArray⟩, .string ⟨x.toArray⟩, .int .i64 n, .slice A 1 c] 25)) w') := by
       rw [← hbt.out]
       exact ih'.out t (by simp [Tree.sub]) _ ok (he.out.below hb0.out) hcl.out.2 (hsz'.out t (by simp))
      have hcw := (hR'.out.get 0 t rfl).1
      clear hcl
      obtain ⟨tk, tp, tf, tx, tn, tA, tc, tL⟩ := t
      obtain ⟨bb, off, rfl, _, k0, k1, k2, k3, k4, k5⟩ := hcw
      rw [Nat.zero_add, Nat.zero_mul, Nat.add_zero] at k0 k1 k2 k3 k4 k5
      have klt : bb < w.heap.size := World.block_lt_of_cell? w _ k0
      unfold Tree.cells at hcall
      go_enter Tryz.func37, Tryz.ntmps37
      go_wp2_with (go_at_call 37; refine hcall.out.mono ?_; rintro e w1 ⟨rfl, hB1⟩)
      go_ret
      exact ⟨by rw [hres.out]; simp, hb0.out.trans (hB1.mono hb0.out.size)⟩
set_option maxRecDepth 100000 in
set_option maxHeartbeats 3200000 in
theorem may_text3 (t : Tree) (ih : ∀ u ∈ t.sub, MayC u) (hk : t.kind = 3) : MayC t := by
 intro w ok he hT hz
 obtain ⟨k, p, f, x, n, A, c, L⟩ := t
 replace hk : k = 3 := hk
 obtain ⟨hfl, hxl, hsz⟩ := sz_parts hz.out
 have hsz' := hd9 hsz
 have hT0 := hT.out
 rw [TreeAt] at hT0
 obtain ⟨hR, hlen⟩ := hT0
 have hR' := hd9 hR
 obtain ⟨m, hm⟩ : ∃ m, Hid (L.length = m) := ⟨_, hd9 rfl⟩
 rw [hm.out] at hlen
 have ih' := hd9 ih
 clear ih hT hR hsz hz
 obtain ⟨bp, qp⟩ : ∃ b, (p == 0) = b := ⟨_, rfl⟩
 obtain ⟨bn, qn⟩ : ∃ b, (n == 0) = b := ⟨_, rfl⟩
 obtain ⟨bf, qf⟩ : ∃ b, (f == []) = b := ⟨_, rfl⟩
 obtain ⟨bx, qx⟩ : ∃ b, (x == []) = b := ⟨_, rfl⟩
 have dp : decide (p = 0) = bp := by rw [← qp]; rfl
 have dn : decide (n = 0) = bn := by rw [← qn]; rfl
 have df : decide (f = []) = bf := by rw [← qf]; cases f <;> rfl
 have dx : decide (x = []) = bx := by rw [← qx]; cases x <;> rfl
 have ef := tx_list f
 have ex := tx_list x
 show Calls Tryz.prog 37 #[.agg #[.int .i64 k, .int .i64 p, .string ⟨f.toArray⟩, .string ⟨x.toArray⟩, .int .i64 n, .slice A L.length c]] w _
 rw [hm.out]
 have hb0 : Hid (Below w.heap.size w (w.alloc (.cells #[.int .i64 k, .int .i64 p, .string ⟨f.toArray⟩, .string ⟨x.toArray⟩, .int .i64 n, .slice A m c] 25))) := (Below.refl _ w).alloc le9 _
 obtain ⟨b1, q1⟩ : ∃ b, decide (m = 0) = b := ⟨_, rfl⟩
 have r1 : ((m : Int) == 0) = b1 := by rw [← q1, Bool.eq_iff_iff]; simp
 obtain ⟨bm, hbm⟩ : ∃ b, Hid (nameM f = b) := ⟨_, hd9 rfl⟩
 obtain ⟨bt, hbt⟩ : ∃ b, Hid (textM x = b) := ⟨_, hd9 rfl⟩
 have hres : Hid (mayR (strip (.mk k p f x n A c L)) = (bp && bn && b1 && bm && bt)) := by
  unfold Hid
  rw [strip, mayR, if_neg (by omega), if_neg (by omega), if_pos (by omega), dp, dn, hbm.out, hbt.out, strips_map, List.length_map, hm.out, q1]
 have hc1 := hd9 (isName_any ⟨f.toArray⟩ _ (by rw [size_list]; unfold maxLen; omega) (he.out.below hb0.out))
 have hc2 : Hid (∀ W, Calls Tryz.prog 76 #[.string ⟨x.toArray⟩] W fun e w' => e = .returned (.bool bt) ∧ W = w') := fun W => by
  have := isText_any ⟨x.toArray⟩ W (by rw [size_list]; unfold maxLen; omega)
  rw [show (⟨x.toArray⟩ : ByteArray).data.toList = x by simp, hbt.out] at this
  exact this
 rw [show (⟨f.toArray⟩ : ByteArray).data.toList = f by simp, hbm.out] at hc1
 clear dp dn df dx q1
 subst hk
 cases bp with
 | false =>
  go_enter Tryz.func37, Tryz.ntmps37
  go_wp2_with fail
  go_ret
  exact ⟨by rw [hres.out]; simp, hb0.out⟩
 | true =>
  cases bn with
  | false =>
   go_enter Tryz.func37, Tryz.ntmps37
   go_wp2_with fail
   go_ret
   exact ⟨by rw [hres.out]; simp, hb0.out⟩
  | true =>
   cases b1 with
   | false =>
    go_enter Tryz.func37, Tryz.ntmps37
    go_wp2_with fail
    go_ret
    exact ⟨by rw [hres.out]; simp, hb0.out⟩
   | true =>
    cases bm with
    | false =>
     go_enter Tryz.func37, Tryz.ntmps37
     go_wp2_with (go_at_call 75; refine hc1.out.mono ?_; rintro e w1 ⟨rfl, hB1⟩)
     go_ret
     exact ⟨by rw [hres.out]; simp, hb0.out.trans (hB1.mono hb0.out.size)⟩
    | true =>
     go_enter Tryz.func37, Tryz.ntmps37
     go_wp2_with fail
     refine hc1.out.mono ?_
     rintro e w1 ⟨rfl, hB1⟩
     have hBx : Hid (Below w.heap.size w w1) := hb0.out.trans (hB1.mono hb0.out.size)
     have s3 : w1.cell? ⟨w.heap.size, 3, none⟩ = some (.string ⟨x.toArray⟩) := by rw [hB1.cell (by simp), (Blk.new w 25 _).cell]; rfl
     have slt : w.heap.size < w1.heap.size := by have := hB1.size; simp at this; omega
     clear hB1
     go_wp2_with fail
     refine (hc2.out _).mono ?_
     rintro e w2 ⟨rfl, rfl⟩
     go_wp2_with fail
     go_ret
     exact ⟨by rw [hres.out]; simp, hBx.out⟩
set_option maxRecDepth 100000 in
set_option maxHeartbeats 3200000 in
theorem may_text4 (t : Tree) (ih : ∀ u ∈ t.sub, MayC u) (hk : t.kind = 4) : MayC t := by
 intro w ok he hT hz
 obtain ⟨k, p, f, x, n, A, c, L⟩ := t
 replace hk : k = 4 := hk
 obtain ⟨hfl, hxl, hsz⟩ := sz_parts hz.out
 have hsz' := hd9 hsz
 have hT0 := hT.out
 rw [TreeAt] at hT0
 obtain ⟨hR, hlen⟩ := hT0
 have hR' := hd9 hR
 obtain ⟨m, hm⟩ : ∃ m, Hid (L.length = m) := ⟨_, hd9 rfl⟩
 rw [hm.out] at hlen
 have ih' := hd9 ih
 clear ih hT hR hsz hz
 obtain ⟨bp, qp⟩ : ∃ b, (p == 0) = b := ⟨_, rfl⟩
 obtain ⟨bn, qn⟩ : ∃ b, (n == 0) = b := ⟨_, rfl⟩
 obtain ⟨bf, qf⟩ : ∃ b, (f == []) = b := ⟨_, rfl⟩
 obtain ⟨bx, qx⟩ : ∃ b, (x == []) = b := ⟨_, rfl⟩
 have dp : decide (p = 0) = bp := by rw [← qp]; rfl
 have dn : decide (n = 0) = bn := by rw [← qn]; rfl
 have df : decide (f = []) = bf := by rw [← qf]; cases f <;> rfl
 have dx : decide (x = []) = bx := by rw [← qx]; cases x <;> rfl
 have ef := tx_list f
 have ex := tx_list x
 show Calls Tryz.prog 37 #[.agg #[.int .i64 k, .int .i64 p, .string ⟨f.toArray⟩, .string ⟨x.toArray⟩, .int .i64 n, .slice A L.length c]] w _
 rw [hm.out]
 have hb0 : Hid (Below w.heap.size w (w.alloc (.cells #[.int .i64 k, .int .i64 p, .string ⟨f.toArray⟩, .string ⟨x.toArray⟩, .int .i64 n, .slice A m c] 25))) := (Below.refl _ w).alloc le9 _
 obtain ⟨b1, q1⟩ : ∃ b, decide (m = 0) = b := ⟨_, rfl⟩
 have r1 : ((m : Int) == 0) = b1 := by rw [← q1, Bool.eq_iff_iff]; simp
 obtain ⟨bm, hbm⟩ : ∃ b, Hid (nameM f = b) := ⟨_, hd9 rfl⟩
 obtain ⟨bt, hbt⟩ : ∃ b, Hid (textM x = b) := ⟨_, hd9 rfl⟩
 have hres : Hid (mayR (strip (.mk k p f x n A c L)) = (bp && bn && b1 && bm && bt)) := by
  unfold Hid
  rw [strip, mayR, if_neg (by omega), if_neg (by omega), if_pos (by omega), dp, dn, hbm.out, hbt.out, strips_map, List.length_map, hm.out, q1]
 have hc1 := hd9 (isName_any ⟨f.toArray⟩ _ (by rw [size_list]; unfold maxLen; omega) (he.out.below hb0.out))
 have hc2 : Hid (∀ W, Calls Tryz.prog 76 #[.string ⟨x.toArray⟩] W fun e w' => e = .returned (.bool bt) ∧ W = w') := fun W => by
  have := isText_any ⟨x.toArray⟩ W (by rw [size_list]; unfold maxLen; omega)
  rw [show (⟨x.toArray⟩ : ByteArray).data.toList = x by simp, hbt.out] at this
  exact this
 rw [show (⟨f.toArray⟩ : ByteArray).data.toList = f by simp, hbm.out] at hc1
 clear dp dn df dx q1
 subst hk
 cases bp with
 | false =>
  go_enter Tryz.func37, Tryz.ntmps37
  go_wp2_with fail
  go_ret
  exact ⟨by rw [hres.out]; simp, hb0.out⟩
 | true =>
  cases bn with
  | false =>
   go_enter Tryz.func37, Tryz.ntmps37
   go_wp2_with fail
   go_ret
   exact ⟨by rw [hres.out]; simp, hb0.out⟩
  | true =>
   cases b1 with
   | false =>
    go_enter Tryz.func37, Tryz.ntmps37
    go_wp2_with fail
    go_ret
    exact ⟨by rw [hres.out]; simp, hb0.out⟩
   | true =>
    cases bm with
    | false =>
     go_enter Tryz.func37, Tryz.ntmps37
     go_wp2_with (go_at_call 75; refine hc1.out.mono ?_; rintro e w1 ⟨rfl, hB1⟩)
     go_ret
     exact ⟨by rw [hres.out]; simp, hb0.out.trans (hB1.mono hb0.out.size)⟩
    | true =>
     go_enter Tryz.func37, Tryz.ntmps37
     go_wp2_with fail
     refine hc1.out.mono ?_
     rintro e w1 ⟨rfl, hB1⟩
     have hBx : Hid (Below w.heap.size w w1) := hb0.out.trans (hB1.mono hb0.out.size)
     have s3 : w1.cell? ⟨w.heap.size, 3, none⟩ = some (.string ⟨x.toArray⟩) := by rw [hB1.cell (by simp), (Blk.new w 25 _).cell]; rfl
     have slt : w.heap.size < w1.heap.size := by have := hB1.size; simp at this; omega
     clear hB1
     go_wp2_with fail
     refine (hc2.out _).mono ?_
     rintro e w2 ⟨rfl, rfl⟩
     go_wp2_with fail
     go_ret
     exact ⟨by rw [hres.out]; simp, hBx.out⟩
end Go.Proofs.YtjkmhlfjheiekaaGreatDoor

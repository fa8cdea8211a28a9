import Derived.Test.YtjkmhlfjheiekaaGreatDoorTa
import Derived.Test.YtjkmhlfjheiekaaGreatDoorWc
import Derived.Test.YtjkmhlfjheiekaaGreatDoorWd
set_option maxRecDepth 1000000
set_option maxHeartbeats 51200000
namespace Go.Proofs.YtjkmhlfjheiekaaGreatDoor
open Go Go.RowKit Go.BigFrame Go.Maps
def Tree.kind : Tree → Int | .mk k _ _ _ _ _ _ _ => k
mutual
def szR : Rul → Nat
 | .mk _ _ f x _ L => f.length + x.length + 64 + szL L
def szL : List Rul → Nat
 | [] => 0
 | r :: L => szR r + 16 + szL L
end
theorem szL_mem : ∀ {L : List Rul} {r : Rul}, r ∈ L → szR r ≤ szL L
 | [], _, h => by cases h
 | u :: L, r, h => by
  rw [szL]
  rcases List.mem_cons.1 h with rfl | h
  ·omega
  ·have := szL_mem h; omega
def mostZ : Nat := 70368744177664
theorem sz_parts {k p : Int} {f x : Txt} {n : Int} {A : Option Addr} {c : Nat} {L : List Tree} (h : szR (stz (.mk k p f x n A c L)) ≤ mostZ) : f.length ≤ 70368744177664 ∧ x.length ≤ 70368744177664 ∧ ∀ t ∈ L, szR (stz t) ≤ mostZ := by
 unfold mostZ at h ⊢
 rw [stz, szR] at h
 refine ⟨by omega, by omega, fun t ht => ?_⟩
 have : szR (stz t) ≤ szL (sSz L) := szL_mem (by rw [smz]; exact List.mem_map_of_mem ht)
 omega
theorem mayL_any : ∀ L : List Tree, mayL (sSz L) = !L.any fun t => !mayR (stz t)
 | [] => by rw [sSz, mayL]; rfl
 | t :: L => by rw [sSz, mayL, mayL_any L, List.any_cons]; cases mayR (stz t) <;> simp
def MayC (t : Tree) : Prop := ∀ (w : World) (ok : Nat → Prop), Hid (Env w) → Hid (TAz w ok t) → Hid (szR (stz t) ≤ mostZ) → Cz 37 #[.agg t.cells] w fun e w' => e = .returned (.bool (mayR (stz t))) ∧ Bz w w'
theorem may1_any (t : Tree) (ih : MayC t) (w : World) (ok : Nat → Prop) (he : Hid (Env w)) (hT : Hid (TAz w ok t)) (hz : Hid (szR (stz t) ≤ mostZ)) :
  Cz 74 (#[.agg t.cells] ++ #[]) w fun e w' => e = .returned (.bool (!mayR (stz t))) ∧ Bz w w' := by
 obtain ⟨k, p, f, x, n, A, c, L⟩ := t
 obtain ⟨b, hb⟩ := nmZ (mayR (stz (.mk k p f x n A c L)))
 have hbl : Hid (∀ o, Bz w (w.alloc o)) := fun o => (Below.refl _ w).alloc leZ o
 have hcall : Hid (∀ o, Cz 37 #[.agg (Tree.mk k p f x n A c L).cells] (w.alloc o) fun e w' => e = .returned (.bool b) ∧ Below (w.alloc o).heap.size (w.alloc o) w') := fun o => by
  rw [← hb.out]; exact ih (w.alloc o) ok (he.out.below (hbl.out o)) (hT.out.below (hbl.out o)) hz
 rw [hb.out]
 clear ih hT
 unfold Tree.cells at hcall
 show Cz 74 #[.agg (z1z k p f x n A L.length c)] w _
 go_enter Tryz.func74, Tryz.ntmps74
 go_wp2_with (go_at_call 37; refine (hcall.out _).mono ?_; rintro e w1 ⟨rfl, hB1⟩)
 go_ret
 exact ⟨rfl, (hbl.out _).trans (hB1.mono (hbl.out _).size)⟩
theorem may_row0 (t : Tree) (ih : ∀ u ∈ t.sub, MayC u) (hk : t.kind = 0) : MayC t := by
 intro w ok he hT hz
 obtain ⟨k, p, f, x, n, A, c, L⟩ := t
 replace hk : k = 0 := hk
 obtain ⟨hfl, hxl, hsz⟩ := sz_parts hz.out
 have hsz' := hdZ hsz
 have hT0 := hT.out
 rw [TAz] at hT0
 obtain ⟨hR, hlen⟩ := hT0
 have hR' := hdZ hR
 obtain ⟨m, hm⟩ := nmZ (L.length)
 rw [hm.out] at hlen
 have ih' := hdZ ih
 clear ih hT hR hsz hz
 obtain ⟨bp, qp⟩ : ∃ b, (p == 0) = b := ⟨_, rfl⟩
 obtain ⟨bn, qn⟩ : ∃ b, (n == 0) = b := ⟨_, rfl⟩
 obtain ⟨bf, qf⟩ : ∃ b, (f == []) = b := ⟨_, rfl⟩
 obtain ⟨bx, qx⟩ : ∃ b, (x == []) = b := ⟨_, rfl⟩
 have dp : decide (p = 0) = bp := by rw [← qp]; rfl
 have dn : decide (n = 0) = bn := by rw [← qn]; rfl
 have df : decide (f = []) = bf := by rw [← qf]; cases f <;> rfl
 have dx : decide (x = []) = bx := by rw [← qx]; cases x <;> rfl
 have ef := txz f
 have ex := txz x
 show Cz 37 #[.agg (z1z k p f x n A L.length c)] w _
 rw [hm.out]
 have hb0 : Hid (Bz w (w.alloc (.cells (z1z k p f x n A m c) 25))) := (Below.refl _ w).alloc leZ _
 obtain ⟨b, hb⟩ := nmZ (L.any (fun t => !mayR (stz t)))
 obtain ⟨b2, q2⟩ : ∃ b, decide (2 ≤ m) = b := ⟨_, rfl⟩
 obtain ⟨b3, q3⟩ : ∃ b, decide (m ≤ 64) = b := ⟨_, rfl⟩
 have r2 : decide ((2 : Int) ≤ (m : Int)) = b2 := by rw [← q2, Bool.eq_iff_iff]; simp; omega
 have r3 : decide ((m : Int) ≤ 64) = b3 := by rw [← q3, Bool.eq_iff_iff]; simp; omega
 have hres : Hid (mayR (stz (.mk k p f x n A c L)) = (bp && bn && bf && bx && b2 && b3 && !b)) := by
  unfold Hid; rw [stz, mayR, if_pos (by omega), mayL_any, hb.out, dp, dn, df, dx, smz, List.length_map, hm.out, q2, q3]
 have hcall : Hid (Cz 73 #[.slice A m c, .func (.func 74) #[] #[]] (w.alloc (.cells (z1z k p f x n A m c) 25)) fun e w' => e = .returned (.bool b) ∧ Below (w.alloc (.cells (z1z k p f x n A m c) 25)).heap.size (w.alloc (.cells (z1z k p f x n A m c) 25)) w') := by
  have e74 := enters_of Tryz.func74 (by kernel_rfl) rfl; rw [← hb.out]; have hR2 := hR'.out.below hb0.out; exact contains_any A m c L ok 74 #[] e74 (fun t => !mayR (stz t)) _ hlen hm hR2 (fun W t ht hbl => may1_any t (ih'.out t ht) W ok (he.out.below (hb0.out.trans (hbl.mono hb0.out.size))) ((hR2.mem ht).below hbl) (hsz'.out t ht))
 clear dp dn df dx q2 q3
 subst hk
 cases bp with
 | false =>
  go_enter Tryz.func37, Tryz.ntmps37
  go_wp2_with fail; go_ret; exact ⟨by rw [hres.out]; simp, hb0.out⟩
 | true =>
  cases bn with
  | false =>
   go_enter Tryz.func37, Tryz.ntmps37
   go_wp2_with fail; go_ret; exact ⟨by rw [hres.out]; simp, hb0.out⟩
  | true =>
   cases bf with
   | false =>
    go_enter Tryz.func37, Tryz.ntmps37
    go_wp2_with fail; go_ret; exact ⟨by rw [hres.out]; simp, hb0.out⟩
   | true =>
    cases bx with
    | false =>
     go_enter Tryz.func37, Tryz.ntmps37
     go_wp2_with fail; go_ret; exact ⟨by rw [hres.out]; simp, hb0.out⟩
    | true =>
     cases b2 with
     | false =>
      go_enter Tryz.func37, Tryz.ntmps37
      go_wp2_with fail; go_ret; exact ⟨by rw [hres.out]; simp, hb0.out⟩
     | true =>
      cases b3 with
      | false =>
       go_enter Tryz.func37, Tryz.ntmps37
       go_wp2_with fail; go_ret; exact ⟨by rw [hres.out]; simp, hb0.out⟩
      | true =>
       go_enter Tryz.func37, Tryz.ntmps37
       go_wp2_with (go_at_call 73; refine hcall.out.mono ?_; rintro e w1 ⟨rfl, hB1⟩)
       go_ret; exact ⟨by rw [hres.out]; simp, hb0.out.trans (hB1.mono hb0.out.size)⟩
theorem may_row1 (t : Tree) (ih : ∀ u ∈ t.sub, MayC u) (hk : t.kind = 1) : MayC t := by
 intro w ok he hT hz
 obtain ⟨k, p, f, x, n, A, c, L⟩ := t
 replace hk : k = 1 := hk
 obtain ⟨hfl, hxl, hsz⟩ := sz_parts hz.out
 have hsz' := hdZ hsz
 have hT0 := hT.out
 rw [TAz] at hT0
 obtain ⟨hR, hlen⟩ := hT0
 have hR' := hdZ hR
 obtain ⟨m, hm⟩ := nmZ (L.length)
 rw [hm.out] at hlen
 have ih' := hdZ ih
 clear ih hT hR hsz hz
 obtain ⟨bp, qp⟩ : ∃ b, (p == 0) = b := ⟨_, rfl⟩
 obtain ⟨bn, qn⟩ : ∃ b, (n == 0) = b := ⟨_, rfl⟩
 obtain ⟨bf, qf⟩ : ∃ b, (f == []) = b := ⟨_, rfl⟩
 obtain ⟨bx, qx⟩ : ∃ b, (x == []) = b := ⟨_, rfl⟩
 have dp : decide (p = 0) = bp := by rw [← qp]; rfl
 have dn : decide (n = 0) = bn := by rw [← qn]; rfl
 have df : decide (f = []) = bf := by rw [← qf]; cases f <;> rfl
 have dx : decide (x = []) = bx := by rw [← qx]; cases x <;> rfl
 have ef := txz f
 have ex := txz x
 show Cz 37 #[.agg (z1z k p f x n A L.length c)] w _
 rw [hm.out]
 have hb0 : Hid (Bz w (w.alloc (.cells (z1z k p f x n A m c) 25))) := (Below.refl _ w).alloc leZ _
 obtain ⟨b, hb⟩ := nmZ (L.any (fun t => !mayR (stz t)))
 obtain ⟨b2, q2⟩ : ∃ b, decide (2 ≤ m) = b := ⟨_, rfl⟩
 obtain ⟨b3, q3⟩ : ∃ b, decide (m ≤ 64) = b := ⟨_, rfl⟩
 have r2 : decide ((2 : Int) ≤ (m : Int)) = b2 := by rw [← q2, Bool.eq_iff_iff]; simp; omega
 have r3 : decide ((m : Int) ≤ 64) = b3 := by rw [← q3, Bool.eq_iff_iff]; simp; omega
 have hres : Hid (mayR (stz (.mk k p f x n A c L)) = (bp && bn && bf && bx && b2 && b3 && !b)) := by
  unfold Hid; rw [stz, mayR, if_pos (by omega), mayL_any, hb.out, dp, dn, df, dx, smz, List.length_map, hm.out, q2, q3]
 have hcall : Hid (Cz 73 #[.slice A m c, .func (.func 74) #[] #[]] (w.alloc (.cells (z1z k p f x n A m c) 25)) fun e w' => e = .returned (.bool b) ∧ Below (w.alloc (.cells (z1z k p f x n A m c) 25)).heap.size (w.alloc (.cells (z1z k p f x n A m c) 25)) w') := by
  have e74 := enters_of Tryz.func74 (by kernel_rfl) rfl; rw [← hb.out]; have hR2 := hR'.out.below hb0.out; exact contains_any A m c L ok 74 #[] e74 (fun t => !mayR (stz t)) _ hlen hm hR2 (fun W t ht hbl => may1_any t (ih'.out t ht) W ok (he.out.below (hb0.out.trans (hbl.mono hb0.out.size))) ((hR2.mem ht).below hbl) (hsz'.out t ht))
 clear dp dn df dx q2 q3
 subst hk
 cases bp with
 | false =>
  go_enter Tryz.func37, Tryz.ntmps37
  go_wp2_with fail; go_ret; exact ⟨by rw [hres.out]; simp, hb0.out⟩
 | true =>
  cases bn with
  | false =>
   go_enter Tryz.func37, Tryz.ntmps37
   go_wp2_with fail; go_ret; exact ⟨by rw [hres.out]; simp, hb0.out⟩
  | true =>
   cases bf with
   | false =>
    go_enter Tryz.func37, Tryz.ntmps37
    go_wp2_with fail; go_ret; exact ⟨by rw [hres.out]; simp, hb0.out⟩
   | true =>
    cases bx with
    | false =>
     go_enter Tryz.func37, Tryz.ntmps37
     go_wp2_with fail; go_ret; exact ⟨by rw [hres.out]; simp, hb0.out⟩
    | true =>
     cases b2 with
     | false =>
      go_enter Tryz.func37, Tryz.ntmps37
      go_wp2_with fail; go_ret; exact ⟨by rw [hres.out]; simp, hb0.out⟩
     | true =>
      cases b3 with
      | false =>
       go_enter Tryz.func37, Tryz.ntmps37
       go_wp2_with fail; go_ret; exact ⟨by rw [hres.out]; simp, hb0.out⟩
      | true =>
       go_enter Tryz.func37, Tryz.ntmps37
       go_wp2_with (go_at_call 73; refine hcall.out.mono ?_; rintro e w1 ⟨rfl, hB1⟩)
       go_ret; exact ⟨by rw [hres.out]; simp, hb0.out.trans (hB1.mono hb0.out.size)⟩
theorem may_not (t : Tree) (ih : ∀ u ∈ t.sub, MayC u) (hk : t.kind = 2) : MayC t := by
 intro w ok he hT hz
 obtain ⟨k, p, f, x, n, A, c, L⟩ := t
 replace hk : k = 2 := hk
 obtain ⟨hfl, hxl, hsz⟩ := sz_parts hz.out
 have hsz' := hdZ hsz
 have hT0 := hT.out
 rw [TAz] at hT0
 obtain ⟨hR, hlen⟩ := hT0
 have hR' := hdZ hR
 obtain ⟨m, hm⟩ := nmZ (L.length)
 rw [hm.out] at hlen
 have ih' := hdZ ih
 clear ih hT hR hsz hz
 obtain ⟨bp, qp⟩ : ∃ b, (p == 0) = b := ⟨_, rfl⟩
 obtain ⟨bn, qn⟩ : ∃ b, (n == 0) = b := ⟨_, rfl⟩
 obtain ⟨bf, qf⟩ : ∃ b, (f == []) = b := ⟨_, rfl⟩
 obtain ⟨bx, qx⟩ : ∃ b, (x == []) = b := ⟨_, rfl⟩
 have dp : decide (p = 0) = bp := by rw [← qp]; rfl
 have dn : decide (n = 0) = bn := by rw [← qn]; rfl
 have df : decide (f = []) = bf := by rw [← qf]; cases f <;> rfl
 have dx : decide (x = []) = bx := by rw [← qx]; cases x <;> rfl
 have ef := txz f
 have ex := txz x
 show Cz 37 #[.agg (z1z k p f x n A L.length c)] w _
 rw [hm.out]
 have hb0 : Hid (Bz w (w.alloc (.cells (z1z k p f x n A m c) 25))) := (Below.refl _ w).alloc leZ _
 obtain ⟨b1, q1⟩ : ∃ b, decide (m = 1) = b := ⟨_, rfl⟩
 have r1 : ((m : Int) == 1) = b1 := by rw [← q1, Bool.eq_iff_iff]; simp; omega
 obtain ⟨b, hb⟩ := nmZ (mayL (sSz L))
 have hres : Hid (mayR (stz (.mk k p f x n A c L)) = (bp && bn && bf && bx && b1 && b)) := by
  unfold Hid; rw [stz, mayR, if_neg (by omega), if_pos hk, hb.out, dp, dn, df, dx, smz, List.length_map, hm.out, q1]
 clear dp dn df dx
 subst hk
 cases bp with
 | false =>
  go_enter Tryz.func37, Tryz.ntmps37
  go_wp2_with fail; go_ret; exact ⟨by rw [hres.out]; simp, hb0.out⟩
 | true =>
  cases bn with
  | false =>
   go_enter Tryz.func37, Tryz.ntmps37
   go_wp2_with fail; go_ret; exact ⟨by rw [hres.out]; simp, hb0.out⟩
  | true =>
   cases bf with
   | false =>
    go_enter Tryz.func37, Tryz.ntmps37
    go_wp2_with fail; go_ret; exact ⟨by rw [hres.out]; simp, hb0.out⟩
   | true =>
    cases bx with
    | false =>
     go_enter Tryz.func37, Tryz.ntmps37
     go_wp2_with fail; go_ret; exact ⟨by rw [hres.out]; simp, hb0.out⟩
    | true =>
     cases b1 with
     | false =>
      go_enter Tryz.func37, Tryz.ntmps37
      go_wp2_with fail; go_ret; exact ⟨by rw [hres.out]; simp, hb0.out⟩
     | true =>
      have hm1 : m = 1 := by simpa using q1
      clear q1; subst hm1
      obtain ⟨t, rfl⟩ : ∃ t, L = [t] := by
       have := hm.out
       match L, this with
       | [t], _ => exact ⟨t, rfl⟩
      have hbt : Hid (mayR (stz t) = b) := by unfold Hid; rw [← hb.out, sSz, sSz, mayL, mayL, Bool.and_true]
      have hcl := hdZ ((hR'.out.below hb0.out).get 0 t rfl)
      have hcall : Hid (Cz 37 #[.agg t.cells] (w.alloc (.cells (z1z 2 p f x n A 1 c) 25)) fun e w' => e = .returned (.bool b) ∧ Below (w.alloc (.cells (z1z 2 p f x n A 1 c) 25)).heap.size (w.alloc (.cells (z1z 2 p f x n A 1 c) 25)) w') := by
       rw [← hbt.out]; exact ih'.out t (by simp [Tree.sub]) _ ok (he.out.below hb0.out) hcl.out.2 (hsz'.out t (by simp))
      have hcw := (hR'.out.get 0 t rfl).1; clear hcl; obtain ⟨tk, tp, tf, tx, tn, tA, tc, tL⟩ := t; obtain ⟨bb, off, rfl, _, k0, k1, k2, k3, k4, k5⟩ := hcw; rw [Nat.zero_add, Nat.zero_mul, Nat.add_zero] at k0 k1 k2 k3 k4 k5; have klt : bb < w.heap.size := World.block_lt_of_cell? w _ k0; unfold Tree.cells at hcall
      go_enter Tryz.func37, Tryz.ntmps37
      go_wp2_with (go_at_call 37; refine hcall.out.mono ?_; rintro e w1 ⟨rfl, hB1⟩)
      go_ret; exact ⟨by rw [hres.out]; simp, hb0.out.trans (hB1.mono hb0.out.size)⟩
theorem may_text3 (t : Tree) (ih : ∀ u ∈ t.sub, MayC u) (hk : t.kind = 3) : MayC t := by
 intro w ok he hT hz
 obtain ⟨k, p, f, x, n, A, c, L⟩ := t
 replace hk : k = 3 := hk
 obtain ⟨hfl, hxl, hsz⟩ := sz_parts hz.out
 have hsz' := hdZ hsz
 have hT0 := hT.out
 rw [TAz] at hT0
 obtain ⟨hR, hlen⟩ := hT0
 have hR' := hdZ hR
 obtain ⟨m, hm⟩ := nmZ (L.length)
 rw [hm.out] at hlen
 have ih' := hdZ ih
 clear ih hT hR hsz hz
 obtain ⟨bp, qp⟩ : ∃ b, (p == 0) = b := ⟨_, rfl⟩
 obtain ⟨bn, qn⟩ : ∃ b, (n == 0) = b := ⟨_, rfl⟩
 obtain ⟨bf, qf⟩ : ∃ b, (f == []) = b := ⟨_, rfl⟩
 obtain ⟨bx, qx⟩ : ∃ b, (x == []) = b := ⟨_, rfl⟩
 have dp : decide (p = 0) = bp := by rw [← qp]; rfl
 have dn : decide (n = 0) = bn := by rw [← qn]; rfl
 have df : decide (f = []) = bf := by rw [← qf]; cases f <;> rfl
 have dx : decide (x = []) = bx := by rw [← qx]; cases x <;> rfl
 have ef := txz f
 have ex := txz x
 show Cz 37 #[.agg (z1z k p f x n A L.length c)] w _
 rw [hm.out]
 have hb0 : Hid (Bz w (w.alloc (.cells (z1z k p f x n A m c) 25))) := (Below.refl _ w).alloc leZ _
 obtain ⟨b1, q1⟩ : ∃ b, decide (m = 0) = b := ⟨_, rfl⟩
 have r1 : ((m : Int) == 0) = b1 := by rw [← q1, Bool.eq_iff_iff]; simp
 obtain ⟨bm, hbm⟩ := nmZ (nameM f)
 obtain ⟨bt, hbt⟩ := nmZ (textM x)
 have hres : Hid (mayR (stz (.mk k p f x n A c L)) = (bp && bn && b1 && bm && bt)) := by
  unfold Hid; rw [stz, mayR, if_neg (by omega), if_neg (by omega), if_pos (by omega), dp, dn, hbm.out, hbt.out, smz, List.length_map, hm.out, q1]
 have hc1 := hdZ (isName_any ⟨f.toArray⟩ _ (by rw [szl]; unfold maxLen; omega) (he.out.below hb0.out))
 have hc2 : Hid (∀ W, Cz 76 #[Sz x] W fun e w' => e = .returned (.bool bt) ∧ W = w') := fun W => by
  have := isText_any ⟨x.toArray⟩ W (by rw [szl]; unfold maxLen; omega); rw [show (⟨x.toArray⟩ : ByteArray).data.toList = x by simp, hbt.out] at this; exact this
 rw [show (⟨f.toArray⟩ : ByteArray).data.toList = f by simp, hbm.out] at hc1
 clear dp dn df dx q1
 subst hk
 cases bp with
 | false =>
  go_enter Tryz.func37, Tryz.ntmps37
  go_wp2_with fail; go_ret; exact ⟨by rw [hres.out]; simp, hb0.out⟩
 | true =>
  cases bn with
  | false =>
   go_enter Tryz.func37, Tryz.ntmps37
   go_wp2_with fail; go_ret; exact ⟨by rw [hres.out]; simp, hb0.out⟩
  | true =>
   cases b1 with
   | false =>
    go_enter Tryz.func37, Tryz.ntmps37
    go_wp2_with fail; go_ret; exact ⟨by rw [hres.out]; simp, hb0.out⟩
   | true =>
    cases bm with
    | false =>
     go_enter Tryz.func37, Tryz.ntmps37
     go_wp2_with (go_at_call 75; refine hc1.out.mono ?_; rintro e w1 ⟨rfl, hB1⟩)
     go_ret; exact ⟨by rw [hres.out]; simp, hb0.out.trans (hB1.mono hb0.out.size)⟩
    | true =>
     go_enter Tryz.func37, Tryz.ntmps37
     go_wp2_with fail; refine hc1.out.mono ?_; rintro e w1 ⟨rfl, hB1⟩; have hBx : Hid (Bz w w1) := hb0.out.trans (hB1.mono hb0.out.size); have s3 : w1.cell? (Az w.heap.size 3) = some (Sz x) := by rw [hB1.cell (by simp), (Blk.new w 25 _).cell]; rfl
     have slt : w.heap.size < w1.heap.size := by have := hB1.size; simp at this; omega
     clear hB1; go_wp2_with fail; refine (hc2.out _).mono ?_; rintro e w2 ⟨rfl, rfl⟩; go_wp2_with fail; go_ret; exact ⟨by rw [hres.out]; simp, hBx.out⟩
theorem may_text4 (t : Tree) (ih : ∀ u ∈ t.sub, MayC u) (hk : t.kind = 4) : MayC t := by
 intro w ok he hT hz
 obtain ⟨k, p, f, x, n, A, c, L⟩ := t
 replace hk : k = 4 := hk
 obtain ⟨hfl, hxl, hsz⟩ := sz_parts hz.out
 have hsz' := hdZ hsz
 have hT0 := hT.out
 rw [TAz] at hT0
 obtain ⟨hR, hlen⟩ := hT0
 have hR' := hdZ hR
 obtain ⟨m, hm⟩ := nmZ (L.length)
 rw [hm.out] at hlen
 have ih' := hdZ ih
 clear ih hT hR hsz hz
 obtain ⟨bp, qp⟩ : ∃ b, (p == 0) = b := ⟨_, rfl⟩
 obtain ⟨bn, qn⟩ : ∃ b, (n == 0) = b := ⟨_, rfl⟩
 obtain ⟨bf, qf⟩ : ∃ b, (f == []) = b := ⟨_, rfl⟩
 obtain ⟨bx, qx⟩ : ∃ b, (x == []) = b := ⟨_, rfl⟩
 have dp : decide (p = 0) = bp := by rw [← qp]; rfl
 have dn : decide (n = 0) = bn := by rw [← qn]; rfl
 have df : decide (f = []) = bf := by rw [← qf]; cases f <;> rfl
 have dx : decide (x = []) = bx := by rw [← qx]; cases x <;> rfl
 have ef := txz f
 have ex := txz x
 show Cz 37 #[.agg (z1z k p f x n A L.length c)] w _
 rw [hm.out]
 have hb0 : Hid (Bz w (w.alloc (.cells (z1z k p f x n A m c) 25))) := (Below.refl _ w).alloc leZ _
 obtain ⟨b1, q1⟩ : ∃ b, decide (m = 0) = b := ⟨_, rfl⟩
 have r1 : ((m : Int) == 0) = b1 := by rw [← q1, Bool.eq_iff_iff]; simp
 obtain ⟨bm, hbm⟩ := nmZ (nameM f)
 obtain ⟨bt, hbt⟩ := nmZ (textM x)
 have hres : Hid (mayR (stz (.mk k p f x n A c L)) = (bp && bn && b1 && bm && bt)) := by
  unfold Hid; rw [stz, mayR, if_neg (by omega), if_neg (by omega), if_pos (by omega), dp, dn, hbm.out, hbt.out, smz, List.length_map, hm.out, q1]
 have hc1 := hdZ (isName_any ⟨f.toArray⟩ _ (by rw [szl]; unfold maxLen; omega) (he.out.below hb0.out))
 have hc2 : Hid (∀ W, Cz 76 #[Sz x] W fun e w' => e = .returned (.bool bt) ∧ W = w') := fun W => by
  have := isText_any ⟨x.toArray⟩ W (by rw [szl]; unfold maxLen; omega); rw [show (⟨x.toArray⟩ : ByteArray).data.toList = x by simp, hbt.out] at this; exact this
 rw [show (⟨f.toArray⟩ : ByteArray).data.toList = f by simp, hbm.out] at hc1
 clear dp dn df dx q1
 subst hk
 cases bp with
 | false =>
  go_enter Tryz.func37, Tryz.ntmps37
  go_wp2_with fail; go_ret; exact ⟨by rw [hres.out]; simp, hb0.out⟩
 | true =>
  cases bn with
  | false =>
   go_enter Tryz.func37, Tryz.ntmps37
   go_wp2_with fail; go_ret; exact ⟨by rw [hres.out]; simp, hb0.out⟩
  | true =>
   cases b1 with
   | false =>
    go_enter Tryz.func37, Tryz.ntmps37
    go_wp2_with fail; go_ret; exact ⟨by rw [hres.out]; simp, hb0.out⟩
   | true =>
    cases bm with
    | false =>
     go_enter Tryz.func37, Tryz.ntmps37
     go_wp2_with (go_at_call 75; refine hc1.out.mono ?_; rintro e w1 ⟨rfl, hB1⟩)
     go_ret; exact ⟨by rw [hres.out]; simp, hb0.out.trans (hB1.mono hb0.out.size)⟩
    | true =>
     go_enter Tryz.func37, Tryz.ntmps37
     go_wp2_with fail; refine hc1.out.mono ?_; rintro e w1 ⟨rfl, hB1⟩; have hBx : Hid (Bz w w1) := hb0.out.trans (hB1.mono hb0.out.size); have s3 : w1.cell? (Az w.heap.size 3) = some (Sz x) := by rw [hB1.cell (by simp), (Blk.new w 25 _).cell]; rfl
     have slt : w.heap.size < w1.heap.size := by have := hB1.size; simp at this; omega
     clear hB1; go_wp2_with fail; refine (hc2.out _).mono ?_; rintro e w2 ⟨rfl, rfl⟩; go_wp2_with fail; go_ret; exact ⟨by rw [hres.out]; simp, hBx.out⟩
theorem may_num5 (t : Tree) (ih : ∀ u ∈ t.sub, MayC u) (hk : t.kind = 5) : MayC t := by
 intro w ok he hT hz
 obtain ⟨k, p, f, x, n, A, c, L⟩ := t
 replace hk : k = 5 := hk
 obtain ⟨hfl, hxl, hsz⟩ := sz_parts hz.out
 have hsz' := hdZ hsz
 have hT0 := hT.out
 rw [TAz] at hT0
 obtain ⟨hR, hlen⟩ := hT0
 have hR' := hdZ hR
 obtain ⟨m, hm⟩ := nmZ (L.length)
 rw [hm.out] at hlen
 have ih' := hdZ ih
 clear ih hT hR hsz hz
 obtain ⟨bp, qp⟩ : ∃ b, (p == 0) = b := ⟨_, rfl⟩
 obtain ⟨bn, qn⟩ : ∃ b, (n == 0) = b := ⟨_, rfl⟩
 obtain ⟨bf, qf⟩ : ∃ b, (f == []) = b := ⟨_, rfl⟩
 obtain ⟨bx, qx⟩ : ∃ b, (x == []) = b := ⟨_, rfl⟩
 have dp : decide (p = 0) = bp := by rw [← qp]; rfl
 have dn : decide (n = 0) = bn := by rw [← qn]; rfl
 have df : decide (f = []) = bf := by rw [← qf]; cases f <;> rfl
 have dx : decide (x = []) = bx := by rw [← qx]; cases x <;> rfl
 have ef := txz f
 have ex := txz x
 show Cz 37 #[.agg (z1z k p f x n A L.length c)] w _
 rw [hm.out]
 have hb0 : Hid (Bz w (w.alloc (.cells (z1z k p f x n A m c) 25))) := (Below.refl _ w).alloc leZ _
 obtain ⟨b1, q1⟩ : ∃ b, decide (m = 0) = b := ⟨_, rfl⟩
 have r1 : ((m : Int) == 0) = b1 := by rw [← q1, Bool.eq_iff_iff]; simp
 obtain ⟨bm, hbm⟩ := nmZ (nameM f)
 obtain ⟨b4, q4⟩ : ∃ b, decide (0 ≤ n) = b := ⟨_, rfl⟩
 obtain ⟨b5, q5⟩ : ∃ b, decide (n ≤ 1099511627776) = b := ⟨_, rfl⟩
 have hres : Hid (mayR (stz (.mk k p f x n A c L)) = (bp && bx && b1 && bm && b4 && b5)) := by
  unfold Hid; rw [stz, mayR, if_neg (by omega), if_neg (by omega), if_neg (by omega), if_pos (by omega), dp, dx, hbm.out, smz, List.length_map, hm.out, q1, q4, q5]
 have hc1 := hdZ (isName_any ⟨f.toArray⟩ _ (by rw [szl]; unfold maxLen; omega) (he.out.below hb0.out))
 rw [show (⟨f.toArray⟩ : ByteArray).data.toList = f by simp, hbm.out] at hc1
 clear dp dn df dx q1
 subst hk
 cases bn
 all_goals
  cases bp with
  | false =>
   go_enter Tryz.func37, Tryz.ntmps37
   go_wp2_with fail; go_ret; exact ⟨by rw [hres.out]; simp, hb0.out⟩
  | true =>
   cases bx with
   | false =>
    go_enter Tryz.func37, Tryz.ntmps37
    go_wp2_with fail; go_ret; exact ⟨by rw [hres.out]; simp, hb0.out⟩
   | true =>
    cases b1 with
    | false =>
     go_enter Tryz.func37, Tryz.ntmps37
     go_wp2_with fail; go_ret; exact ⟨by rw [hres.out]; simp, hb0.out⟩
    | true =>
     cases bm with
     | false =>
      go_enter Tryz.func37, Tryz.ntmps37
      go_wp2_with (go_at_call 75; refine hc1.out.mono ?_; rintro e w1 ⟨rfl, hB1⟩)
      go_ret; exact ⟨by rw [hres.out]; simp, hb0.out.trans (hB1.mono hb0.out.size)⟩
     | true =>
      cases b4 <;> cases b5
      all_goals
       go_enter Tryz.func37, Tryz.ntmps37
       go_wp2_with fail; refine hc1.out.mono ?_; rintro e w1 ⟨rfl, hB1⟩; have hBx : Hid (Bz w w1) := hb0.out.trans (hB1.mono hb0.out.size); have s4 : w1.cell? (Az w.heap.size 4) = some (Iz n) := by rw [hB1.cell (by simp), (Blk.new w 25 _).cell]; rfl
       have slt : w.heap.size < w1.heap.size := by have := hB1.size; simp at this; omega
       clear hB1; go_wp2_with fail; go_ret; exact ⟨by rw [hres.out]; simp, hBx.out⟩
theorem may_num6 (t : Tree) (ih : ∀ u ∈ t.sub, MayC u) (hk : t.kind = 6) : MayC t := by
 intro w ok he hT hz
 obtain ⟨k, p, f, x, n, A, c, L⟩ := t
 replace hk : k = 6 := hk
 obtain ⟨hfl, hxl, hsz⟩ := sz_parts hz.out
 have hsz' := hdZ hsz
 have hT0 := hT.out
 rw [TAz] at hT0
 obtain ⟨hR, hlen⟩ := hT0
 have hR' := hdZ hR
 obtain ⟨m, hm⟩ := nmZ (L.length)
 rw [hm.out] at hlen
 have ih' := hdZ ih
 clear ih hT hR hsz hz
 obtain ⟨bp, qp⟩ : ∃ b, (p == 0) = b := ⟨_, rfl⟩
 obtain ⟨bn, qn⟩ : ∃ b, (n == 0) = b := ⟨_, rfl⟩
 obtain ⟨bf, qf⟩ : ∃ b, (f == []) = b := ⟨_, rfl⟩
 obtain ⟨bx, qx⟩ : ∃ b, (x == []) = b := ⟨_, rfl⟩
 have dp : decide (p = 0) = bp := by rw [← qp]; rfl
 have dn : decide (n = 0) = bn := by rw [← qn]; rfl
 have df : decide (f = []) = bf := by rw [← qf]; cases f <;> rfl
 have dx : decide (x = []) = bx := by rw [← qx]; cases x <;> rfl
 have ef := txz f
 have ex := txz x
 show Cz 37 #[.agg (z1z k p f x n A L.length c)] w _
 rw [hm.out]
 have hb0 : Hid (Bz w (w.alloc (.cells (z1z k p f x n A m c) 25))) := (Below.refl _ w).alloc leZ _
 obtain ⟨b1, q1⟩ : ∃ b, decide (m = 0) = b := ⟨_, rfl⟩
 have r1 : ((m : Int) == 0) = b1 := by rw [← q1, Bool.eq_iff_iff]; simp
 obtain ⟨bm, hbm⟩ := nmZ (nameM f)
 obtain ⟨b4, q4⟩ : ∃ b, decide (0 ≤ n) = b := ⟨_, rfl⟩
 obtain ⟨b5, q5⟩ : ∃ b, decide (n ≤ 1099511627776) = b := ⟨_, rfl⟩
 have hres : Hid (mayR (stz (.mk k p f x n A c L)) = (bp && bx && b1 && bm && b4 && b5)) := by
  unfold Hid; rw [stz, mayR, if_neg (by omega), if_neg (by omega), if_neg (by omega), if_pos (by omega), dp, dx, hbm.out, smz, List.length_map, hm.out, q1, q4, q5]
 have hc1 := hdZ (isName_any ⟨f.toArray⟩ _ (by rw [szl]; unfold maxLen; omega) (he.out.below hb0.out))
 rw [show (⟨f.toArray⟩ : ByteArray).data.toList = f by simp, hbm.out] at hc1
 clear dp dn df dx q1
 subst hk
 cases bn
 all_goals
  cases bp with
  | false =>
   go_enter Tryz.func37, Tryz.ntmps37
   go_wp2_with fail; go_ret; exact ⟨by rw [hres.out]; simp, hb0.out⟩
  | true =>
   cases bx with
   | false =>
    go_enter Tryz.func37, Tryz.ntmps37
    go_wp2_with fail; go_ret; exact ⟨by rw [hres.out]; simp, hb0.out⟩
   | true =>
    cases b1 with
    | false =>
     go_enter Tryz.func37, Tryz.ntmps37
     go_wp2_with fail; go_ret; exact ⟨by rw [hres.out]; simp, hb0.out⟩
    | true =>
     cases bm with
     | false =>
      go_enter Tryz.func37, Tryz.ntmps37
      go_wp2_with (go_at_call 75; refine hc1.out.mono ?_; rintro e w1 ⟨rfl, hB1⟩)
      go_ret; exact ⟨by rw [hres.out]; simp, hb0.out.trans (hB1.mono hb0.out.size)⟩
     | true =>
      cases b4 <;> cases b5
      all_goals
       go_enter Tryz.func37, Tryz.ntmps37
       go_wp2_with fail; refine hc1.out.mono ?_; rintro e w1 ⟨rfl, hB1⟩; have hBx : Hid (Bz w w1) := hb0.out.trans (hB1.mono hb0.out.size); have s4 : w1.cell? (Az w.heap.size 4) = some (Iz n) := by rw [hB1.cell (by simp), (Blk.new w 25 _).cell]; rfl
       have slt : w.heap.size < w1.heap.size := by have := hB1.size; simp at this; omega
       clear hB1; go_wp2_with fail; go_ret; exact ⟨by rw [hres.out]; simp, hBx.out⟩
theorem may_like (t : Tree) (ih : ∀ u ∈ t.sub, MayC u) (hk : t.kind = 7) : MayC t := by
 intro w ok he hT hz
 obtain ⟨k, p, f, x, n, A, c, L⟩ := t
 replace hk : k = 7 := hk
 obtain ⟨hfl, hxl, hsz⟩ := sz_parts hz.out
 have hsz' := hdZ hsz
 have hT0 := hT.out
 rw [TAz] at hT0
 obtain ⟨hR, hlen⟩ := hT0
 have hR' := hdZ hR
 obtain ⟨m, hm⟩ := nmZ (L.length)
 rw [hm.out] at hlen
 have ih' := hdZ ih
 clear ih hT hR hsz hz
 obtain ⟨bp, qp⟩ : ∃ b, (p == 0) = b := ⟨_, rfl⟩
 obtain ⟨bn, qn⟩ : ∃ b, (n == 0) = b := ⟨_, rfl⟩
 obtain ⟨bf, qf⟩ : ∃ b, (f == []) = b := ⟨_, rfl⟩
 obtain ⟨bx, qx⟩ : ∃ b, (x == []) = b := ⟨_, rfl⟩
 have dp : decide (p = 0) = bp := by rw [← qp]; rfl
 have dn : decide (n = 0) = bn := by rw [← qn]; rfl
 have df : decide (f = []) = bf := by rw [← qf]; cases f <;> rfl
 have dx : decide (x = []) = bx := by rw [← qx]; cases x <;> rfl
 have ef := txz f
 have ex := txz x
 show Cz 37 #[.agg (z1z k p f x n A L.length c)] w _
 rw [hm.out]
 have hb0 : Hid (Bz w (w.alloc (.cells (z1z k p f x n A m c) 25))) := (Below.refl _ w).alloc leZ _
 obtain ⟨b1, q1⟩ : ∃ b, decide (m = 0) = b := ⟨_, rfl⟩
 have r1 : ((m : Int) == 0) = b1 := by rw [← q1, Bool.eq_iff_iff]; simp
 obtain ⟨bm, hbm⟩ := nmZ (nameM f)
 obtain ⟨bt, hbt⟩ := nmZ (nameM x)
 obtain ⟨b4, hb4⟩ := nmZ ((decide (0 ≤ p) && decide (p < 6)))
 have hres : Hid (mayR (stz (.mk k p f x n A c L)) = (bn && b1 && bm && bt && b4)) := by
  unfold Hid; rw [stz, mayR, if_neg (by omega), if_neg (by omega), if_neg (by omega), if_neg (by omega), if_pos hk, dn, hbm.out, hbt.out, smz, List.length_map, hm.out, q1, Bool.and_assoc _ (decide (0 ≤ p)), hb4.out]
 have hc1 : Hid (∀ (W : World) (s : Txt), s.length ≤ 70368744177664 → Bz w W → Cz 75 #[Sz s] W fun e w' => e = .returned (.bool (nameM s)) ∧ Bz W w') := fun W s hs hb => by
  have := isName_any ⟨s.toArray⟩ W (by rw [szl]; unfold maxLen; omega) (he.out.below hb); rw [show (⟨s.toArray⟩ : ByteArray).data.toList = s by simp] at this; exact this
 have hc2 : Hid (∀ W, Cz 77 #[Iz p] W fun e w' => e = .returned (.bool b4) ∧ W = w') := fun W => by
  have := isPaper_any p W; rw [hb4.out] at this; exact this
 clear dp dn df dx q1
 subst hk
 cases bp
 all_goals
  cases bn with
  | false =>
   go_enter Tryz.func37, Tryz.ntmps37
   go_wp2_with fail; go_ret; exact ⟨by rw [hres.out]; simp, hb0.out⟩
  | true =>
   cases b1 with
   | false =>
    go_enter Tryz.func37, Tryz.ntmps37
    go_wp2_with fail; go_ret; exact ⟨by rw [hres.out]; simp, hb0.out⟩
   | true =>
    go_enter Tryz.func37, Tryz.ntmps37
    go_wp2_with fail; refine (hc1.out _ f hfl hb0.out).mono ?_; rintro e w1 ⟨rfl, hB1⟩; rw [hbm.out]; have hBx : Hid (Bz w w1) := hb0.out.trans (hB1.mono hb0.out.size); have s3 : w1.cell? (Az w.heap.size 3) = some (Sz x) := by rw [hB1.cell (by simp), (Blk.new w 25 _).cell]; rfl
    have s1 : w1.cell? (Az w.heap.size 1) = some (Iz p) := by rw [hB1.cell (by simp), (Blk.new w 25 _).cell]; rfl
    have slt : w.heap.size < w1.heap.size := by have := hB1.size; simp at this; omega
    clear hB1
    cases bm with
    | false =>
     go_wp2_with fail; go_ret; exact ⟨by rw [hres.out]; simp, hBx.out⟩
    | true =>
     go_wp2_with fail; refine (hc1.out _ x hxl hBx.out).mono ?_; rintro e w2 ⟨rfl, hB2⟩; rw [hbt.out]; have hBy : Hid (Bz w w2) := hBx.out.trans (hB2.mono hBx.out.size); have s1 : w2.cell? (Az w.heap.size 1) = some (Iz p) := by rw [hB2.cell slt]; exact s1
     have slt2 : w.heap.size < w2.heap.size := Nat.lt_of_lt_of_le slt hB2.size; clear hB2
     cases bt with
     | false =>
      go_wp2_with fail; go_ret; exact ⟨by rw [hres.out]; simp, hBy.out⟩
     | true =>
      go_wp2_with fail; refine (hc2.out _).mono ?_; rintro e w3 ⟨rfl, rfl⟩; go_wp2_with fail; go_ret; exact ⟨by rw [hres.out]; simp, hBy.out⟩
theorem may_else (t : Tree) (ih : ∀ u ∈ t.sub, MayC u) (hk : t.kind < 0 ∨ 7 < t.kind) : MayC t := by
 intro w ok he hT hz
 obtain ⟨k, p, f, x, n, A, c, L⟩ := t
 replace hk : k < 0 ∨ 7 < k := hk
 obtain ⟨hfl, hxl, hsz⟩ := sz_parts hz.out
 have hsz' := hdZ hsz
 have hT0 := hT.out
 rw [TAz] at hT0
 obtain ⟨hR, hlen⟩ := hT0
 have hR' := hdZ hR
 obtain ⟨m, hm⟩ := nmZ (L.length)
 rw [hm.out] at hlen
 have ih' := hdZ ih
 clear ih hT hR hsz hz
 obtain ⟨bp, qp⟩ : ∃ b, (p == 0) = b := ⟨_, rfl⟩
 obtain ⟨bn, qn⟩ : ∃ b, (n == 0) = b := ⟨_, rfl⟩
 obtain ⟨bf, qf⟩ : ∃ b, (f == []) = b := ⟨_, rfl⟩
 obtain ⟨bx, qx⟩ : ∃ b, (x == []) = b := ⟨_, rfl⟩
 have dp : decide (p = 0) = bp := by rw [← qp]; rfl
 have dn : decide (n = 0) = bn := by rw [← qn]; rfl
 have df : decide (f = []) = bf := by rw [← qf]; cases f <;> rfl
 have dx : decide (x = []) = bx := by rw [← qx]; cases x <;> rfl
 have ef := txz f
 have ex := txz x
 show Cz 37 #[.agg (z1z k p f x n A L.length c)] w _
 rw [hm.out]
 have hb0 : Hid (Bz w (w.alloc (.cells (z1z k p f x n A m c) 25))) := (Below.refl _ w).alloc leZ _
 have hres : Hid (mayR (stz (.mk k p f x n A c L)) = false) := by
  unfold Hid; rw [stz, mayR, if_neg (by omega), if_neg (by omega), if_neg (by omega), if_neg (by omega), if_neg (by omega)]
 have g0 : (k == 0) = false := by simp; omega
 have g1 : (k == 1) = false := by simp; omega
 have g2 : (k == 2) = false := by simp; omega
 have g3 : (k == 3) = false := by simp; omega
 have g4 : (k == 4) = false := by simp; omega
 have g5 : (k == 5) = false := by simp; omega
 have g6 : (k == 6) = false := by simp; omega
 have g7 : (k == 7) = false := by simp; omega
 clear dp dn df dx hk
 cases bp <;> cases bn
 all_goals
  go_enter Tryz.func37, Tryz.ntmps37
  go_wp2_with fail; go_ret; exact ⟨by rw [hres.out]; rfl, hb0.out⟩
theorem may_any : ∀ t : Tree, MayC t := Tree.every fun t ih => by
 rcases (by omega : t.kind = 0 ∨ t.kind = 1 ∨ t.kind = 2 ∨ t.kind = 3 ∨ t.kind = 4 ∨ t.kind = 5 ∨ t.kind = 6 ∨ t.kind = 7 ∨ (t.kind < 0 ∨ 7 < t.kind)) with h | h | h | h | h | h | h | h | h
 ·exact may_row0 t ih h
 ·exact may_row1 t ih h
 ·exact may_not t ih h
 ·exact may_text3 t ih h
 ·exact may_text4 t ih h
 ·exact may_num5 t ih h
 ·exact may_num6 t ih h
 ·exact may_like t ih h
 ·exact may_else t ih h
def alwaysR : Rul → Bool
 | .mk k p f x n L => k == 0 && p == 0 && n == 0 && f == [] && x == [] && L.length == 0
theorem always_any (t : Tree) (w : World) : Cz 107 #[.agg t.cells] w fun e w' => e = .returned (.bool (alwaysR (stz t))) ∧ Bz w w' := by
 obtain ⟨k, p, f, x, n, A, c, L⟩ := t
 obtain ⟨m, hm⟩ := nmZ (L.length)
 have hres : Hid (alwaysR (stz (.mk k p f x n A c L)) = (k == 0 && p == 0 && n == 0 && f == [] && x == [] && m == 0)) := by unfold Hid; rw [stz, alwaysR, smz, List.length_map, hm.out]
 rw [hres.out]
 simp only [Tree.cells]
 rw [hm.out]
 clear hres hm
 have hb0 : Hid (Bz w (w.alloc (.cells (z1z k p f x n A m c) 25))) := (Below.refl _ w).alloc leZ _
 have ef := txz f
 have ex := txz x
 by_cases hk : ¬ (k = 0)
 ·have bk : (k == 0) = false := by simp [hk]
  rw [bk]
  go_enter Tryz.func107, Tryz.ntmps107
  go_wp2_with fail; go_ret; exact ⟨by simp, hb0.out⟩
 obtain rfl := Classical.not_not.1 hk
 clear hk
 by_cases hp : ¬ (p = 0)
 ·have bp : (p == 0) = false := by simp [hp]
  rw [bp]
  go_enter Tryz.func107, Tryz.ntmps107
  go_wp2_with fail; go_ret; exact ⟨by simp, hb0.out⟩
 obtain rfl := Classical.not_not.1 hp
 clear hp
 by_cases hn : ¬ (n = 0)
 ·have bn : (n == 0) = false := by simp [hn]
  rw [bn]
  go_enter Tryz.func107, Tryz.ntmps107
  go_wp2_with fail; go_ret; exact ⟨by simp, hb0.out⟩
 obtain rfl := Classical.not_not.1 hn
 clear hn
 by_cases hf : ¬ (f = [])
 ·have bf : (f == []) = false := by simp [hf]
  rw [bf]
  go_enter Tryz.func107, Tryz.ntmps107
  go_wp2_with fail; go_ret; exact ⟨by simp, hb0.out⟩
 obtain rfl := Classical.not_not.1 hf
 clear hf
 by_cases hx : ¬ (x = [])
 ·have bx : (x == []) = false := by simp [hx]
  rw [bx]
  go_enter Tryz.func107, Tryz.ntmps107
  go_wp2_with fail; go_ret; exact ⟨by simp, hb0.out⟩
 obtain rfl := Classical.not_not.1 hx
 clear hx
 by_cases hm : ¬ (m = 0)
 ·have bm : (m == 0) = false := by simp [hm]
  have bm1 : ((m : Int) == 0) = false := by simp; omega
  rw [bm]
  go_enter Tryz.func107, Tryz.ntmps107
  go_wp2_with fail; go_ret; exact ⟨by simp, hb0.out⟩
 obtain rfl := Classical.not_not.1 hm
 clear hm
 go_enter Tryz.func107, Tryz.ntmps107
 go_wp2_with fail
 go_ret
 exact ⟨by simp, hb0.out⟩
def yesT (b : Bool) : Txt := if b = true then [121, 101, 115] else [110, 111]
theorem yes_any (b : Bool) (w : World) : Cz 106 #[.bool b] w fun e w' => e = .returned (.string ⟨(yesT b).toArray⟩) ∧ w = w' := by
 cases b
 all_goals
  go_enter Tryz.func106, Tryz.ntmps106
  go_wp2_with fail; go_ret; exact ⟨rfl, rfl⟩
theorem between_any (n lo hi : Int) (w : World) : Cz 100 #[Iz n, Iz lo, Iz hi] w fun e w' => e = .returned (.bool (decide (lo ≤ n) && decide (n ≤ hi))) ∧ w = w' := by
 cases h1 : decide (lo ≤ n) <;> cases h2 : decide (n ≤ hi)
 all_goals
  go_enter Tryz.func100, Tryz.ntmps100
  go_wp2_with fail; go_ret; exact ⟨by first | rfl | simp, rfl⟩
def needM (x : Nd) : Bool := decide (0 ≤ x.kind) && decide (x.kind < 6) && (decide (1 ≤ x.count) && decide (x.count ≤ 9)) && (alwaysR (stz x.rule) || (decide (depthR (stz x.rule) ≤ 16) && mayR (stz x.rule)))
theorem needMay_any (x : Nd) (w : World) (ok : Nat → Prop) (he : Hid (Env w)) (hT : Hid (TAz w ok x.rule)) (hz : Hid (szR (stz x.rule) ≤ mostZ)) : Cz 103 #[.agg x.cells.toArray] w fun e w' => e = .returned (.bool (needM x)) ∧ Bz w w' := by
 obtain ⟨al, hal⟩ := nmZ (alwaysR (stz x.rule))
 obtain ⟨dp, hdp⟩ := nmZ (decide (depthR (stz x.rule) ≤ 16))
 obtain ⟨my, hmy⟩ := nmZ (mayR (stz x.rule))
 have hres : Hid (needM x = (decide (0 ≤ x.kind) && decide (x.kind < 6) && (decide (1 ≤ x.count) && decide (x.count ≤ 9)) && (al || (dp && my)))) := by unfold Hid needM; rw [hal.out, hdp.out, hmy.out]
 rw [hres.out]
 have c1 : Hid (∀ W, Cz 107 #[.agg x.rule.cells] W fun e w' => e = .returned (.bool al) ∧ Bz W w') := fun W => by
  have h := always_any x.rule W; rw [hal.out] at h; exact h
 have c2 : Hid (∀ W, Bz w W → Cz 68 #[.agg x.rule.cells, Iz 16] W fun e w' => e = .returned (.bool dp) ∧ Bz W w') := fun W hW => by
  have h := within_any x.rule 16 W ok (by omega) (hT.out.below hW); rw [hdp.out] at h; exact h
 have c3 : Hid (∀ W, Bz w W → Cz 37 #[.agg x.rule.cells] W fun e w' => e = .returned (.bool my) ∧ Bz W w') := fun W hW => by
  have h := may_any x.rule W ok (he.out.below hW) (hT.out.below hW) hz; rw [hmy.out] at h; exact h
 clear hres hal hdp hmy hT hz
 obtain ⟨xk, xn, ⟨k, p, f, x, n, A, c, L⟩⟩ := x
 obtain ⟨m, hm⟩ := nmZ (L.length)
 simp only [Nd.cells, Tree.cells, hm.out] at c1 c2 c3 ⊢
 clear hm
 show Cz 103 #[.agg (z4z xk xn k p f x n A m c)] w _
 have hb0 : Hid (Bz w (w.alloc (.cells (z4z xk xn k p f x n A m c) 74))) := (Below.refl _ w).alloc leZ _
 have hx0 := hdZ (Blk.new w 74 (z4z xk xn k p f x n A m c))
 obtain ⟨wa, hwa⟩ := nmZ (w.alloc (.cells (z4z xk xn k p f x n A m c) 74))
 obtain ⟨q1, hq1⟩ := nmZ ((decide (0 ≤ xk) && decide (xk < 6)))
 obtain ⟨q2, hq2⟩ := nmZ ((decide (1 ≤ xn) && decide (xn ≤ 9)))
 rw [hq1.out, hq2.out]
 have d1 : Hid (∀ W, Cz 77 #[Iz xk] W fun e w' => e = .returned (.bool q1) ∧ W = w') := fun W => by
  have h := isPaper_any xk W; rw [hq1.out] at h; exact h
 have d2 : Hid (∀ W, Cz 100 #[Iz xn, Iz 1, Iz 9] W fun e w' => e = .returned (.bool q2) ∧ W = w') := fun W => by
  have h := between_any xn 1 9 W; rw [hq2.out] at h; exact h
 clear hq1 hq2
 go_enter Tryz.func103, Tryz.ntmps103
 go_wp2_with fail
 rw [hwa.out] at hb0 hx0 ⊢
 clear hwa
 obtain ⟨m0, m1, m2, m3, m4, m5, m6, m7⟩ := cs8 hx0.out
 have mlt := hx0.out.lt
 refine (d1.out wa).mono ?_
 rintro e w1 ⟨rfl, rfl⟩
 cases q1 with
 | false =>
  go_wp2_with fail; go_ret; exact ⟨by simp, hb0.out⟩
 | true =>
  go_wp2_with fail; refine (d2.out wa).mono ?_; rintro e w1 ⟨rfl, rfl⟩
  cases q2 with
  | false =>
   go_wp2_with fail; go_ret; exact ⟨by simp, hb0.out⟩
  | true =>
   go_wp2_with fail; refine (c1.out wa).mono ?_; rintro e w1 ⟨rfl, hb1⟩; have hB1 := hdZ (hb0.out.trans (hb1.mono hb0.out.size)); have hx1 := hdZ (hx0.out.below hb1 hx0.out.lt); clear hb1 hb0 hx0 m0 m1 m2 m3 m4 m5 m6 m7 mlt
   cases al with
   | true =>
    go_wp2_with fail; go_ret; exact ⟨by simp, hB1.out⟩
   | false =>
    obtain ⟨m0, m1, m2, m3, m4, m5, m6, m7⟩ := cs8 hx1.out; have mlt := hx1.out.lt; go_wp2_with fail; refine (c2.out w1 hB1.out).mono ?_; rintro e w2 ⟨rfl, hb2⟩; have hB2 := hdZ (hB1.out.trans (hb2.mono hB1.out.size)); have hx2 := hdZ (hx1.out.below hb2 hx1.out.lt); clear hb2 hB1 hx1 m0 m1 m2 m3 m4 m5 m6 m7 mlt
    cases dp with
    | false =>
     go_wp2_with fail; go_ret; exact ⟨by simp, hB2.out⟩
    | true =>
     obtain ⟨m0, m1, m2, m3, m4, m5, m6, m7⟩ := cs8 hx2.out; have mlt := hx2.out.lt; go_wp2_with fail; refine (c3.out w2 hB2.out).mono ?_; rintro e w3 ⟨rfl, hb3⟩; go_wp2_with fail; go_ret; exact ⟨by simp, hB2.out.trans (hb3.mono hB2.out.size)⟩
end Go.Proofs.YtjkmhlfjheiekaaGreatDoor

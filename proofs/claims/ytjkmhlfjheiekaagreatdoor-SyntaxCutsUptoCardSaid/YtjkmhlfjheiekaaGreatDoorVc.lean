import Derived.Test.YtjkmhlfjheiekaaGreatDoorVb
set_option maxRecDepth 1000000
set_option maxHeartbeats 51200000
namespace Go.Proofs.YtjkmhlfjheiekaaGreatDoor
open Go Go.RowKit Go.BigFrame Go.Maps
theorem right_text3 (t : Tree) (ih : ∀ u ∈ t.sub, RightC u) (hk : t.kind = 3) : RightC t := by
 intro w ok hpos hT hz
 obtain ⟨k, p, f, x, n, A, c, L⟩ := t
 replace hk : k = 3 := hk
 obtain ⟨hfl, hxl, hsz⟩ := sz_parts hz.out
 have hsz' := hdZ hsz
 have hT0 := hT.out
 rw [TAz] at hT0
 obtain ⟨hR, hlen⟩ := hT0
 have hR' := hdZ hR
 obtain ⟨m, hm⟩ := nmZ (L.length)
 rw [hm.out] at hlen
 unfold maxLen at hlen
 have ih' : Hid (∀ u ∈ L, RightC u) := ih
 clear ih hT hR hsz hz
 obtain ⟨bp, qp⟩ : ∃ b, (p == 0) = b := ⟨_, rfl⟩
 obtain ⟨bn, qn⟩ : ∃ b, (n == 0) = b := ⟨_, rfl⟩
 obtain ⟨bf, qf⟩ : ∃ b, (f == []) = b := ⟨_, rfl⟩
 obtain ⟨bx, qx⟩ : ∃ b, (x == []) = b := ⟨_, rfl⟩
 have dp : decide (p = 0) = bp := by rw [← qp, Bool.eq_iff_iff]; simp
 have dn : decide (n = 0) = bn := by rw [← qn, Bool.eq_iff_iff]; simp
 have df : decide (f = []) = bf := by rw [← qf, Bool.eq_iff_iff]; simp
 have dx : decide (x = []) = bx := by rw [← qx, Bool.eq_iff_iff]; simp
 have ef := txz f
 have ex := txz x
 show Cz 40 #[.agg (z1z k p f x n A L.length c)] w _
 rw [hm.out]
 have hb0 : Hid (Bz w (w.alloc (.cells (z1z k p f x n A m c) 25))) := (Below.refl _ w).alloc leZ _
 obtain ⟨b1, q1⟩ : ∃ b, decide (m = 0) = b := ⟨_, rfl⟩
 have r1 : ((m : Int) == 0) = b1 := by rw [← q1, Bool.eq_iff_iff]; simp
 have hc1 : Hid (∀ (W : World) (s : Txt), s.length ≤ 70368744177664 → Bz w W → Cz 82 #[Sz s] W fun e w' => e = .returned (.bool (nameM s)) ∧ Bz W w') := fun W s hs hb => by
  have := rnameL_any ⟨s.toArray⟩ W (by rw [szl]; unfold maxLen; omega) (Nat.lt_of_lt_of_le hpos hb.size); rw [show (⟨s.toArray⟩ : ByteArray).data.toList = s by simp] at this; exact this
 have hc2 : Hid (∀ W, Cz 83 #[Sz x] W fun e w' => e = .returned (.bool (textM x)) ∧ W = w') := fun W => by
  have := rtext_any ⟨x.toArray⟩ W (by rw [szl]; unfold maxLen; omega); rw [show (⟨x.toArray⟩ : ByteArray).data.toList = x by simp] at this; exact this
 obtain ⟨bm, hbm⟩ := nmZ (nameM f)
 obtain ⟨bt, hbt⟩ := nmZ (textM x)
 have hres : Hid (mayR (stz (.mk k p f x n A c L)) = (b1 && bp && bn && bm && bt)) := by
  unfold Hid; rw [stz, mayR, if_neg (by omega), if_neg (by omega), if_pos (by omega), dp, dn, hbm.out, hbt.out, smz, List.length_map, hm.out, q1]
  cases b1 <;> cases bp <;> cases bn <;> simp
 clear dp dn df dx q1
 subst hk
 have hsza : Hid (w.heap.size < (w.alloc (.cells (z1z 3 p f x n A m c) 25)).heap.size) := by unfold Hid; simp
 cases b1 with
 | false =>
  go_enter Tryz.func40, Tryz.ntmps40
  go_wp2_with fail; go_ret; exact ⟨by rw [hres.out]; simp, hb0.out⟩
 | true =>
  cases bp with
  | false =>
   go_enter Tryz.func40, Tryz.ntmps40
   go_wp2_with fail; go_ret; exact ⟨by rw [hres.out]; simp, hb0.out⟩
  | true =>
   cases bn with
   | false =>
    go_enter Tryz.func40, Tryz.ntmps40
    go_wp2_with fail; go_ret; exact ⟨by rw [hres.out]; simp, hb0.out⟩
   | true =>
    go_enter Tryz.func40, Tryz.ntmps40
    go_wp2_with fail; refine (hc1.out _ f hfl hb0.out).mono ?_; rintro e w1 ⟨rfl, hB1⟩; rw [hbm.out]; have hBx : Hid (Bz w w1) := hb0.out.trans (hB1.mono hb0.out.size); have s3 : w1.cell? (Az w.heap.size 3) = some (Sz x) := by rw [hB1.cell (hsza.out), (Blk.new w 25 _).cell]; rfl
    have slt : w.heap.size < w1.heap.size := by have := hB1.size; have := hb0.out.size; have h9 := hsza.out; omega
    clear hB1
    cases bm with
    | false =>
     go_wp2_with fail; go_ret; exact ⟨by rw [hres.out]; simp, hBx.out⟩
    | true =>
     go_wp2_with fail; refine (hc2.out _).mono ?_; rintro e w2 ⟨rfl, rfl⟩; rw [hbt.out]; go_wp2_with fail; go_ret; exact ⟨by rw [hres.out]; simp, hBx.out⟩
theorem right_text4 (t : Tree) (ih : ∀ u ∈ t.sub, RightC u) (hk : t.kind = 4) : RightC t := by
 intro w ok hpos hT hz
 obtain ⟨k, p, f, x, n, A, c, L⟩ := t
 replace hk : k = 4 := hk
 obtain ⟨hfl, hxl, hsz⟩ := sz_parts hz.out
 have hsz' := hdZ hsz
 have hT0 := hT.out
 rw [TAz] at hT0
 obtain ⟨hR, hlen⟩ := hT0
 have hR' := hdZ hR
 obtain ⟨m, hm⟩ := nmZ (L.length)
 rw [hm.out] at hlen
 unfold maxLen at hlen
 have ih' : Hid (∀ u ∈ L, RightC u) := ih
 clear ih hT hR hsz hz
 obtain ⟨bp, qp⟩ : ∃ b, (p == 0) = b := ⟨_, rfl⟩
 obtain ⟨bn, qn⟩ : ∃ b, (n == 0) = b := ⟨_, rfl⟩
 obtain ⟨bf, qf⟩ : ∃ b, (f == []) = b := ⟨_, rfl⟩
 obtain ⟨bx, qx⟩ : ∃ b, (x == []) = b := ⟨_, rfl⟩
 have dp : decide (p = 0) = bp := by rw [← qp, Bool.eq_iff_iff]; simp
 have dn : decide (n = 0) = bn := by rw [← qn, Bool.eq_iff_iff]; simp
 have df : decide (f = []) = bf := by rw [← qf, Bool.eq_iff_iff]; simp
 have dx : decide (x = []) = bx := by rw [← qx, Bool.eq_iff_iff]; simp
 have ef := txz f
 have ex := txz x
 show Cz 40 #[.agg (z1z k p f x n A L.length c)] w _
 rw [hm.out]
 have hb0 : Hid (Bz w (w.alloc (.cells (z1z k p f x n A m c) 25))) := (Below.refl _ w).alloc leZ _
 obtain ⟨b1, q1⟩ : ∃ b, decide (m = 0) = b := ⟨_, rfl⟩
 have r1 : ((m : Int) == 0) = b1 := by rw [← q1, Bool.eq_iff_iff]; simp
 have hc1 : Hid (∀ (W : World) (s : Txt), s.length ≤ 70368744177664 → Bz w W → Cz 82 #[Sz s] W fun e w' => e = .returned (.bool (nameM s)) ∧ Bz W w') := fun W s hs hb => by
  have := rnameL_any ⟨s.toArray⟩ W (by rw [szl]; unfold maxLen; omega) (Nat.lt_of_lt_of_le hpos hb.size); rw [show (⟨s.toArray⟩ : ByteArray).data.toList = s by simp] at this; exact this
 have hc2 : Hid (∀ W, Cz 83 #[Sz x] W fun e w' => e = .returned (.bool (textM x)) ∧ W = w') := fun W => by
  have := rtext_any ⟨x.toArray⟩ W (by rw [szl]; unfold maxLen; omega); rw [show (⟨x.toArray⟩ : ByteArray).data.toList = x by simp] at this; exact this
 obtain ⟨bm, hbm⟩ := nmZ (nameM f)
 obtain ⟨bt, hbt⟩ := nmZ (textM x)
 have hres : Hid (mayR (stz (.mk k p f x n A c L)) = (b1 && bp && bn && bm && bt)) := by
  unfold Hid; rw [stz, mayR, if_neg (by omega), if_neg (by omega), if_pos (by omega), dp, dn, hbm.out, hbt.out, smz, List.length_map, hm.out, q1]
  cases b1 <;> cases bp <;> cases bn <;> simp
 clear dp dn df dx q1
 subst hk
 have hsza : Hid (w.heap.size < (w.alloc (.cells (z1z 4 p f x n A m c) 25)).heap.size) := by unfold Hid; simp
 cases b1 with
 | false =>
  go_enter Tryz.func40, Tryz.ntmps40
  go_wp2_with fail; go_ret; exact ⟨by rw [hres.out]; simp, hb0.out⟩
 | true =>
  cases bp with
  | false =>
   go_enter Tryz.func40, Tryz.ntmps40
   go_wp2_with fail; go_ret; exact ⟨by rw [hres.out]; simp, hb0.out⟩
  | true =>
   cases bn with
   | false =>
    go_enter Tryz.func40, Tryz.ntmps40
    go_wp2_with fail; go_ret; exact ⟨by rw [hres.out]; simp, hb0.out⟩
   | true =>
    go_enter Tryz.func40, Tryz.ntmps40
    go_wp2_with fail; refine (hc1.out _ f hfl hb0.out).mono ?_; rintro e w1 ⟨rfl, hB1⟩; rw [hbm.out]; have hBx : Hid (Bz w w1) := hb0.out.trans (hB1.mono hb0.out.size); have s3 : w1.cell? (Az w.heap.size 3) = some (Sz x) := by rw [hB1.cell (hsza.out), (Blk.new w 25 _).cell]; rfl
    have slt : w.heap.size < w1.heap.size := by have := hB1.size; have := hb0.out.size; have h9 := hsza.out; omega
    clear hB1
    cases bm with
    | false =>
     go_wp2_with fail; go_ret; exact ⟨by rw [hres.out]; simp, hBx.out⟩
    | true =>
     go_wp2_with fail; refine (hc2.out _).mono ?_; rintro e w2 ⟨rfl, rfl⟩; rw [hbt.out]; go_wp2_with fail; go_ret; exact ⟨by rw [hres.out]; simp, hBx.out⟩
theorem right_num5 (t : Tree) (ih : ∀ u ∈ t.sub, RightC u) (hk : t.kind = 5) : RightC t := by
 intro w ok hpos hT hz
 obtain ⟨k, p, f, x, n, A, c, L⟩ := t
 replace hk : k = 5 := hk
 obtain ⟨hfl, hxl, hsz⟩ := sz_parts hz.out
 have hsz' := hdZ hsz
 have hT0 := hT.out
 rw [TAz] at hT0
 obtain ⟨hR, hlen⟩ := hT0
 have hR' := hdZ hR
 obtain ⟨m, hm⟩ := nmZ (L.length)
 rw [hm.out] at hlen
 unfold maxLen at hlen
 have ih' : Hid (∀ u ∈ L, RightC u) := ih
 clear ih hT hR hsz hz
 obtain ⟨bp, qp⟩ : ∃ b, (p == 0) = b := ⟨_, rfl⟩
 obtain ⟨bn, qn⟩ : ∃ b, (n == 0) = b := ⟨_, rfl⟩
 obtain ⟨bf, qf⟩ : ∃ b, (f == []) = b := ⟨_, rfl⟩
 obtain ⟨bx, qx⟩ : ∃ b, (x == []) = b := ⟨_, rfl⟩
 have dp : decide (p = 0) = bp := by rw [← qp, Bool.eq_iff_iff]; simp
 have dn : decide (n = 0) = bn := by rw [← qn, Bool.eq_iff_iff]; simp
 have df : decide (f = []) = bf := by rw [← qf, Bool.eq_iff_iff]; simp
 have dx : decide (x = []) = bx := by rw [← qx, Bool.eq_iff_iff]; simp
 have ef := txz f
 have ex := txz x
 show Cz 40 #[.agg (z1z k p f x n A L.length c)] w _
 rw [hm.out]
 have hb0 : Hid (Bz w (w.alloc (.cells (z1z k p f x n A m c) 25))) := (Below.refl _ w).alloc leZ _
 obtain ⟨b1, q1⟩ : ∃ b, decide (m = 0) = b := ⟨_, rfl⟩
 have r1 : ((m : Int) == 0) = b1 := by rw [← q1, Bool.eq_iff_iff]; simp
 have hc1 : Hid (∀ (W : World) (s : Txt), s.length ≤ 70368744177664 → Bz w W → Cz 82 #[Sz s] W fun e w' => e = .returned (.bool (nameM s)) ∧ Bz W w') := fun W s hs hb => by
  have := rnameL_any ⟨s.toArray⟩ W (by rw [szl]; unfold maxLen; omega) (Nat.lt_of_lt_of_le hpos hb.size); rw [show (⟨s.toArray⟩ : ByteArray).data.toList = s by simp] at this; exact this
 have hc2 : Hid (∀ W, Cz 83 #[Sz x] W fun e w' => e = .returned (.bool (textM x)) ∧ W = w') := fun W => by
  have := rtext_any ⟨x.toArray⟩ W (by rw [szl]; unfold maxLen; omega); rw [show (⟨x.toArray⟩ : ByteArray).data.toList = x by simp] at this; exact this
 obtain ⟨bm, hbm⟩ := nmZ (nameM f)
 obtain ⟨b4, q4⟩ : ∃ b, decide (0 ≤ n) = b := ⟨_, rfl⟩
 obtain ⟨b5, q5⟩ : ∃ b, decide (n ≤ 1099511627776) = b := ⟨_, rfl⟩
 have hres : Hid (mayR (stz (.mk k p f x n A c L)) = (b1 && bp && bx && bm && b4 && b5)) := by
  unfold Hid; rw [stz, mayR, if_neg (by omega), if_neg (by omega), if_neg (by omega), if_pos (by omega), dp, dx, hbm.out, smz, List.length_map, hm.out, q1, q4, q5]
  cases b1 <;> cases bp <;> cases bx <;> simp
 clear dp dn df dx q1
 subst hk
 have hsza : Hid (w.heap.size < (w.alloc (.cells (z1z 5 p f x n A m c) 25)).heap.size) := by unfold Hid; simp
 cases b1 with
 | false =>
  go_enter Tryz.func40, Tryz.ntmps40
  go_wp2_with fail; go_ret; exact ⟨by rw [hres.out]; simp, hb0.out⟩
 | true =>
  cases bp with
  | false =>
   go_enter Tryz.func40, Tryz.ntmps40
   go_wp2_with fail; go_ret; exact ⟨by rw [hres.out]; simp, hb0.out⟩
  | true =>
   cases bx with
   | false =>
    go_enter Tryz.func40, Tryz.ntmps40
    go_wp2_with fail; go_ret; exact ⟨by rw [hres.out]; simp, hb0.out⟩
   | true =>
    cases b4 <;> cases b5
    all_goals
     go_enter Tryz.func40, Tryz.ntmps40
     go_wp2_with fail; refine (hc1.out _ f hfl hb0.out).mono ?_; rintro e w1 ⟨rfl, hB1⟩; rw [hbm.out]; have hBx : Hid (Bz w w1) := hb0.out.trans (hB1.mono hb0.out.size); have s4 : w1.cell? (Az w.heap.size 4) = some (Iz n) := by rw [hB1.cell (hsza.out), (Blk.new w 25 _).cell]; rfl
     have slt : w.heap.size < w1.heap.size := by have := hB1.size; have := hb0.out.size; have h9 := hsza.out; omega
     clear hB1
     cases bm
     all_goals
      go_wp2_with fail; go_ret; exact ⟨by rw [hres.out]; simp, hBx.out⟩
theorem right_num6 (t : Tree) (ih : ∀ u ∈ t.sub, RightC u) (hk : t.kind = 6) : RightC t := by
 intro w ok hpos hT hz
 obtain ⟨k, p, f, x, n, A, c, L⟩ := t
 replace hk : k = 6 := hk
 obtain ⟨hfl, hxl, hsz⟩ := sz_parts hz.out
 have hsz' := hdZ hsz
 have hT0 := hT.out
 rw [TAz] at hT0
 obtain ⟨hR, hlen⟩ := hT0
 have hR' := hdZ hR
 obtain ⟨m, hm⟩ := nmZ (L.length)
 rw [hm.out] at hlen
 unfold maxLen at hlen
 have ih' : Hid (∀ u ∈ L, RightC u) := ih
 clear ih hT hR hsz hz
 obtain ⟨bp, qp⟩ : ∃ b, (p == 0) = b := ⟨_, rfl⟩
 obtain ⟨bn, qn⟩ : ∃ b, (n == 0) = b := ⟨_, rfl⟩
 obtain ⟨bf, qf⟩ : ∃ b, (f == []) = b := ⟨_, rfl⟩
 obtain ⟨bx, qx⟩ : ∃ b, (x == []) = b := ⟨_, rfl⟩
 have dp : decide (p = 0) = bp := by rw [← qp, Bool.eq_iff_iff]; simp
 have dn : decide (n = 0) = bn := by rw [← qn, Bool.eq_iff_iff]; simp
 have df : decide (f = []) = bf := by rw [← qf, Bool.eq_iff_iff]; simp
 have dx : decide (x = []) = bx := by rw [← qx, Bool.eq_iff_iff]; simp
 have ef := txz f
 have ex := txz x
 show Cz 40 #[.agg (z1z k p f x n A L.length c)] w _
 rw [hm.out]
 have hb0 : Hid (Bz w (w.alloc (.cells (z1z k p f x n A m c) 25))) := (Below.refl _ w).alloc leZ _
 obtain ⟨b1, q1⟩ : ∃ b, decide (m = 0) = b := ⟨_, rfl⟩
 have r1 : ((m : Int) == 0) = b1 := by rw [← q1, Bool.eq_iff_iff]; simp
 have hc1 : Hid (∀ (W : World) (s : Txt), s.length ≤ 70368744177664 → Bz w W → Cz 82 #[Sz s] W fun e w' => e = .returned (.bool (nameM s)) ∧ Bz W w') := fun W s hs hb => by
  have := rnameL_any ⟨s.toArray⟩ W (by rw [szl]; unfold maxLen; omega) (Nat.lt_of_lt_of_le hpos hb.size); rw [show (⟨s.toArray⟩ : ByteArray).data.toList = s by simp] at this; exact this
 have hc2 : Hid (∀ W, Cz 83 #[Sz x] W fun e w' => e = .returned (.bool (textM x)) ∧ W = w') := fun W => by
  have := rtext_any ⟨x.toArray⟩ W (by rw [szl]; unfold maxLen; omega); rw [show (⟨x.toArray⟩ : ByteArray).data.toList = x by simp] at this; exact this
 obtain ⟨bm, hbm⟩ := nmZ (nameM f)
 obtain ⟨b4, q4⟩ : ∃ b, decide (0 ≤ n) = b := ⟨_, rfl⟩
 obtain ⟨b5, q5⟩ : ∃ b, decide (n ≤ 1099511627776) = b := ⟨_, rfl⟩
 have hres : Hid (mayR (stz (.mk k p f x n A c L)) = (b1 && bp && bx && bm && b4 && b5)) := by
  unfold Hid; rw [stz, mayR, if_neg (by omega), if_neg (by omega), if_neg (by omega), if_pos (by omega), dp, dx, hbm.out, smz, List.length_map, hm.out, q1, q4, q5]
  cases b1 <;> cases bp <;> cases bx <;> simp
 clear dp dn df dx q1
 subst hk
 have hsza : Hid (w.heap.size < (w.alloc (.cells (z1z 6 p f x n A m c) 25)).heap.size) := by unfold Hid; simp
 cases b1 with
 | false =>
  go_enter Tryz.func40, Tryz.ntmps40
  go_wp2_with fail; go_ret; exact ⟨by rw [hres.out]; simp, hb0.out⟩
 | true =>
  cases bp with
  | false =>
   go_enter Tryz.func40, Tryz.ntmps40
   go_wp2_with fail; go_ret; exact ⟨by rw [hres.out]; simp, hb0.out⟩
  | true =>
   cases bx with
   | false =>
    go_enter Tryz.func40, Tryz.ntmps40
    go_wp2_with fail; go_ret; exact ⟨by rw [hres.out]; simp, hb0.out⟩
   | true =>
    cases b4 <;> cases b5
    all_goals
     go_enter Tryz.func40, Tryz.ntmps40
     go_wp2_with fail; refine (hc1.out _ f hfl hb0.out).mono ?_; rintro e w1 ⟨rfl, hB1⟩; rw [hbm.out]; have hBx : Hid (Bz w w1) := hb0.out.trans (hB1.mono hb0.out.size); have s4 : w1.cell? (Az w.heap.size 4) = some (Iz n) := by rw [hB1.cell (hsza.out), (Blk.new w 25 _).cell]; rfl
     have slt : w.heap.size < w1.heap.size := by have := hB1.size; have := hb0.out.size; have h9 := hsza.out; omega
     clear hB1
     cases bm
     all_goals
      go_wp2_with fail; go_ret; exact ⟨by rw [hres.out]; simp, hBx.out⟩
theorem right_like (t : Tree) (ih : ∀ u ∈ t.sub, RightC u) (hk : t.kind = 7) : RightC t := by
 intro w ok hpos hT hz
 obtain ⟨k, p, f, x, n, A, c, L⟩ := t
 replace hk : k = 7 := hk
 obtain ⟨hfl, hxl, hsz⟩ := sz_parts hz.out
 have hsz' := hdZ hsz
 have hT0 := hT.out
 rw [TAz] at hT0
 obtain ⟨hR, hlen⟩ := hT0
 have hR' := hdZ hR
 obtain ⟨m, hm⟩ := nmZ (L.length)
 rw [hm.out] at hlen
 unfold maxLen at hlen
 have ih' : Hid (∀ u ∈ L, RightC u) := ih
 clear ih hT hR hsz hz
 obtain ⟨bp, qp⟩ : ∃ b, (p == 0) = b := ⟨_, rfl⟩
 obtain ⟨bn, qn⟩ : ∃ b, (n == 0) = b := ⟨_, rfl⟩
 obtain ⟨bf, qf⟩ : ∃ b, (f == []) = b := ⟨_, rfl⟩
 obtain ⟨bx, qx⟩ : ∃ b, (x == []) = b := ⟨_, rfl⟩
 have dp : decide (p = 0) = bp := by rw [← qp, Bool.eq_iff_iff]; simp
 have dn : decide (n = 0) = bn := by rw [← qn, Bool.eq_iff_iff]; simp
 have df : decide (f = []) = bf := by rw [← qf, Bool.eq_iff_iff]; simp
 have dx : decide (x = []) = bx := by rw [← qx, Bool.eq_iff_iff]; simp
 have ef := txz f
 have ex := txz x
 show Cz 40 #[.agg (z1z k p f x n A L.length c)] w _
 rw [hm.out]
 have hb0 : Hid (Bz w (w.alloc (.cells (z1z k p f x n A m c) 25))) := (Below.refl _ w).alloc leZ _
 obtain ⟨b1, q1⟩ : ∃ b, decide (m = 0) = b := ⟨_, rfl⟩
 have r1 : ((m : Int) == 0) = b1 := by rw [← q1, Bool.eq_iff_iff]; simp
 have hc1 : Hid (∀ (W : World) (s : Txt), s.length ≤ 70368744177664 → Bz w W → Cz 82 #[Sz s] W fun e w' => e = .returned (.bool (nameM s)) ∧ Bz W w') := fun W s hs hb => by
  have := rnameL_any ⟨s.toArray⟩ W (by rw [szl]; unfold maxLen; omega) (Nat.lt_of_lt_of_le hpos hb.size); rw [show (⟨s.toArray⟩ : ByteArray).data.toList = s by simp] at this; exact this
 have hc2 : Hid (∀ W, Cz 83 #[Sz x] W fun e w' => e = .returned (.bool (textM x)) ∧ W = w') := fun W => by
  have := rtext_any ⟨x.toArray⟩ W (by rw [szl]; unfold maxLen; omega); rw [show (⟨x.toArray⟩ : ByteArray).data.toList = x by simp] at this; exact this
 obtain ⟨bm, hbm⟩ := nmZ (nameM f)
 obtain ⟨bt, hbt⟩ := nmZ (nameM x)
 obtain ⟨b4, q4⟩ : ∃ b, decide (0 ≤ p) = b := ⟨_, rfl⟩
 obtain ⟨b5, q5⟩ : ∃ b, decide (p ≤ 5) = b := ⟨_, rfl⟩
 have q6 : decide (p < 6) = b5 := by rw [← q5, Bool.eq_iff_iff]; simp; omega
 have hres : Hid (mayR (stz (.mk k p f x n A c L)) = (b1 && bn && bm && bt && b4 && b5)) := by
  unfold Hid; rw [stz, mayR, if_neg (by omega), if_neg (by omega), if_neg (by omega), if_neg (by omega), if_pos hk, dn, hbm.out, hbt.out, smz, List.length_map, hm.out, q1, q4, q6]
  cases b1 <;> cases bn <;> cases bm <;> cases bt <;> simp
 clear dp dn df dx q1 q6
 subst hk
 have hsza : Hid (w.heap.size < (w.alloc (.cells (z1z 7 p f x n A m c) 25)).heap.size) := by unfold Hid; simp
 cases b1 with
 | false =>
  go_enter Tryz.func40, Tryz.ntmps40
  go_wp2_with fail; go_ret; exact ⟨by rw [hres.out]; simp, hb0.out⟩
 | true =>
  cases bn with
  | false =>
   go_enter Tryz.func40, Tryz.ntmps40
   go_wp2_with fail; go_ret; exact ⟨by rw [hres.out]; simp, hb0.out⟩
  | true =>
   go_enter Tryz.func40, Tryz.ntmps40
   go_wp2_with fail; refine (hc1.out _ f hfl hb0.out).mono ?_; rintro e w1 ⟨rfl, hB1⟩; rw [hbm.out]; have hBx : Hid (Bz w w1) := hb0.out.trans (hB1.mono hb0.out.size); have s1 : w1.cell? (Az w.heap.size 1) = some (Iz p) := by rw [hB1.cell (hsza.out), (Blk.new w 25 _).cell]; rfl
   have s3 : w1.cell? (Az w.heap.size 3) = some (Sz x) := by rw [hB1.cell (hsza.out), (Blk.new w 25 _).cell]; rfl
   have slt : w.heap.size < w1.heap.size := by have := hB1.size; have := hb0.out.size; have h9 := hsza.out; omega
   clear hB1
   cases bm with
   | false =>
    go_wp2_with fail; go_ret; exact ⟨by rw [hres.out]; simp, hBx.out⟩
   | true =>
    cases b4 <;> cases b5
    all_goals
     go_wp2_with fail
     try
      refine (hc1.out _ x hxl hBx.out).mono ?_; rintro e w2 ⟨rfl, hB2⟩; rw [hbt.out]; have hBx : Hid (Bz w w2) := hBx.out.trans (hB2.mono hBx.out.size)
      cases bt
      all_goals
       go_wp2_with fail; go_ret; exact ⟨by rw [hres.out]; simp, hBx.out⟩
     try
      go_ret; exact ⟨by rw [hres.out]; simp, hBx.out⟩
theorem right_else (t : Tree) (ih : ∀ u ∈ t.sub, RightC u) (hk : t.kind < 0 ∨ 7 < t.kind) : RightC t := by
 intro w ok hpos hT hz
 obtain ⟨k, p, f, x, n, A, c, L⟩ := t
 replace hk : k < 0 ∨ 7 < k := hk
 obtain ⟨hfl, hxl, hsz⟩ := sz_parts hz.out
 have hsz' := hdZ hsz
 have hT0 := hT.out
 rw [TAz] at hT0
 obtain ⟨hR, hlen⟩ := hT0
 have hR' := hdZ hR
 obtain ⟨m, hm⟩ := nmZ (L.length)
 rw [hm.out] at hlen
 unfold maxLen at hlen
 have ih' : Hid (∀ u ∈ L, RightC u) := ih
 clear ih hT hR hsz hz
 obtain ⟨bp, qp⟩ : ∃ b, (p == 0) = b := ⟨_, rfl⟩
 obtain ⟨bn, qn⟩ : ∃ b, (n == 0) = b := ⟨_, rfl⟩
 obtain ⟨bf, qf⟩ : ∃ b, (f == []) = b := ⟨_, rfl⟩
 obtain ⟨bx, qx⟩ : ∃ b, (x == []) = b := ⟨_, rfl⟩
 have dp : decide (p = 0) = bp := by rw [← qp, Bool.eq_iff_iff]; simp
 have dn : decide (n = 0) = bn := by rw [← qn, Bool.eq_iff_iff]; simp
 have df : decide (f = []) = bf := by rw [← qf, Bool.eq_iff_iff]; simp
 have dx : decide (x = []) = bx := by rw [← qx, Bool.eq_iff_iff]; simp
 have ef := txz f
 have ex := txz x
 show Cz 40 #[.agg (z1z k p f x n A L.length c)] w _
 rw [hm.out]
 have hb0 : Hid (Bz w (w.alloc (.cells (z1z k p f x n A m c) 25))) := (Below.refl _ w).alloc leZ _
 have hres : Hid (mayR (stz (.mk k p f x n A c L)) = false) := by
  unfold Hid; rw [stz, mayR, if_neg (by omega), if_neg (by omega), if_neg (by omega), if_neg (by omega), if_neg (by omega)]
 have g0 : (k == 0) = false := by simp; omega
 have g1 : (k == 1) = false := by simp; omega
 have g2 : (k == 2) = false := by simp; omega
 have g3 : (k == 3) = false := by simp; omega
 have g4 : (k == 4) = false := by simp; omega
 have g5 : (k == 5) = false := by simp; omega
 have g6 : (k == 6) = false := by simp; omega
 have g7 : (k == 7) = false := by simp; omega
 clear dp dn df dx hk
 go_enter Tryz.func40, Tryz.ntmps40
 go_wp2_with fail
 go_ret
 exact ⟨by rw [hres.out]; rfl, hb0.out⟩
theorem right_any : ∀ t : Tree, RightC t := Tree.every fun t ih => by
 rcases (by omega : t.kind = 0 ∨ t.kind = 1 ∨ t.kind = 2 ∨ t.kind = 3 ∨ t.kind = 4 ∨ t.kind = 5 ∨ t.kind = 6 ∨ t.kind = 7 ∨ (t.kind < 0 ∨ 7 < t.kind)) with h | h | h | h | h | h | h | h | h
 ·exact right_row0 t ih h
 ·exact right_row1 t ih h
 ·exact right_not t ih h
 ·exact right_text3 t ih h
 ·exact right_text4 t ih h
 ·exact right_num5 t ih h
 ·exact right_num6 t ih h
 ·exact right_like t ih h
 ·exact right_else t ih h
theorem depthL_snoc (r : Rul) : ∀ L : List Rul, depthL (L ++ [r]) = max (depthL L) (depthR r + 1)
 | [] => by simp [depthL]
 | u :: L => by rw [List.cons_append, depthL, depthL, depthL_snoc r L]; omega
theorem depthL_ge {L : List Rul} {r : Rul} (h : r ∈ L) : depthR r + 1 ≤ depthL L := (depthL_le (depthL L) L).1 leZ r h
def DepthC (t : Tree) : Prop := ∀ (w : World) (ok : Nat → Prop), Hid (TAz w ok t) → depthR (stz t) ≤ 1000000 → Cz 19 #[.agg t.cells] w fun e w' => e = .returned (Iz (depthR (stz t) : Nat)) ∧ Bz w w'
theorem depth_walk (t : Tree) (ih : ∀ u ∈ t.sub, DepthC u) : DepthC t := by
 intro w ok hT hd
 obtain ⟨k, p, f, x, n, A, c, L⟩ := t
 have hT0 := hT.out
 rw [TAz] at hT0
 obtain ⟨hR, hlen⟩ := hT0
 have hR' := hdZ hR
 obtain ⟨m, hm⟩ := nmZ (L.length)
 rw [hm.out] at hlen
 unfold maxLen at hlen
 have ih' : Hid (∀ u ∈ L, DepthC u) := ih
 have hres : Hid (depthR (stz (.mk k p f x n A c L)) = depthL (sSz L)) := by unfold Hid; rw [stz, depthR]
 have hd' : Hid (depthL (sSz L) ≤ 1000000) := by unfold Hid; rw [← hres.out]; exact hd
 rw [hres.out]
 clear ih hT hR hd hres
 show Cz 19 #[.agg (z1z k p f x n A L.length c)] w _
 rw [hm.out]
 have hb0 : Hid (Bz w (w.alloc (.cells (z1z k p f x n A m c) 25))) := (Below.refl _ w).alloc leZ _
 have hbx := hdZ (Blk.new w 25 (z1z k p f x n A m c))
 obtain ⟨wa, hwa⟩ := nmZ (w.alloc (.cells (z1z k p f x n A m c) 25))
 go_enter Tryz.func19, Tryz.ntmps19
 go_wp2_with fail
 rw [hwa.out] at hb0 hbx ⊢
 clear hwa
 go_loopg [3, 4, 5] m (fun gg d a _ wr => ∃ q : Nat, q ≤ m ∧ gg = m - q ∧ a = Iz q ∧ d = Iz (depthL (sSz (L.take q)) : Nat) ∧ Hid (Bz w wr) ∧ Hid (Blk wr w.heap.size 25 (z1z k p f x n A m c)))
 case atStart => exact ⟨0, Nat.zero_le _, rfl, rfl, rfl, hb0, hbx⟩
 case round =>
  clear hb0 hbx; obtain ⟨q, hq, hg, rfl, rfl, hB, hbk⟩ := hrel; have hg' := hdZ hg; clear hg; have e5 : wr.cell? (Az w.heap.size 5) = some (.slice A m c) := hbk.out.cell 5; have elt := hbk.out.lt
  by_cases hlt : q < m
  ·have i1 : decide ((q : Int) < (m : Int)) = true := by simp; omega
   have i2 : (q : Int) < (m : Int) := by omega
   have i3 : (0 : Int) ≤ (q : Int) := by omega
   obtain ⟨t, ht⟩ : ∃ t, L[q]? = some t := ⟨_, List.getElem?_eq_getElem (by have := hm.out; omega)⟩; have hmem := hdZ (List.mem_of_getElem? ht); have hge : depthR (stz t) + 1 ≤ depthL (sSz L) := depthL_ge (by rw [smz]; exact List.mem_map_of_mem hmem.out); have hd1 := hd'.out
   have hst : Hid (depthL (sSz (L.take (q + 1))) = max (depthL (sSz (L.take q))) (depthR (stz t) + 1)) := by
    unfold Hid
    have : L.take (q + 1) = L.take q ++ [t] := by
     obtain ⟨hq', he⟩ := List.getElem?_eq_some_iff.1 ht; rw [List.take_add_one, List.getElem?_eq_getElem hq', he]; rfl
    rw [this, strips_app, depthL_snoc]
   obtain ⟨hc, hTt⟩ := (hR'.out.below hB.out).get q t ht; have hcall := hdZ (ih'.out t hmem.out wr ok hTt (by omega)); clear ht hTt; obtain ⟨d9, hd9⟩ := nmZ (depthR (stz t)); obtain ⟨d8, hd8⟩ := nmZ (depthL (sSz (L.take q))); rw [hd9.out] at hst hcall hge; rw [hd8.out] at hst ⊢; have w1 : IntKind.i64.wrap (1 + (d9 : Int)) = ((d9 + 1 : Nat) : Int) := by rw [IntWalk.i64_in _ (by omega)]; omega
   obtain ⟨tk, tp, tf, tx, tn, tA, tc, tL⟩ := t; obtain ⟨bb, off, rfl, _, h0, h1, h2, h3, h4, h5⟩ := hc; rw [Nat.zero_add] at h0 h1 h2 h3 h4 h5; unfold Tree.cells at hcall; go_wp2_with fail; refine hcall.out.mono ?_; rintro e w1 ⟨rfl, hb1⟩; have hB1 : Hid (Bz w w1) := hB.out.trans (hb1.mono hB.out.size); have hbk1 := hdZ (hbk.out.below hb1 hbk.out.lt); clear hb1 h0 h1 h2 h3 h4 h5 e5 elt hcall
   by_cases hgt : d8 < d9 + 1
   ·have b1 : decide ((d8 : Int) < ((d9 + 1 : Nat) : Int)) = true := by simp; omega
    go_wp2_with fail
    go_roundg (m - (q + 1))
    case measure => have := hg'.out; omega
    case rel => exact ⟨q + 1, by omega, rfl, by go_num, by rw [hst.out, Nat.max_eq_right (by omega)]; rfl, hB1, hbk1⟩
   ·have b1 : decide ((d8 : Int) < ((d9 + 1 : Nat) : Int)) = false := by simp; omega
    go_wp2_with fail
    go_roundg (m - (q + 1))
    case measure => have := hg'.out; omega
    case rel => exact ⟨q + 1, by omega, rfl, by go_num, by rw [hst.out, Nat.max_eq_left (by omega)], hB1, hbk1⟩
  ·have i1 : decide ((q : Int) < (m : Int)) = false := by simp; omega
   have hfin : Hid (L.take q = L) := List.take_of_length_le (by have := hm.out; omega); rw [hfin.out]; go_wp2_with fail; go_ret; exact ⟨rfl, hB.out⟩
theorem depth_any : ∀ t : Tree, DepthC t := Tree.every fun t ih => depth_walk t ih
end Go.Proofs.YtjkmhlfjheiekaaGreatDoor

import Derived.Test.YtjkmhlfjheiekaaGreatDoorTb
namespace Go.Proofs.YtjkmhlfjheiekaaGreatDoor
open Go Go.RowKit Go.BigFrame Go.Maps
set_option maxRecDepth 100000 in
set_option maxHeartbeats 3200000 in
theorem may_num5 (t : Tree) (ih : ∀ u ∈ t.sub, MayC u) (hk : t.kind = 5) : MayC t := by
 intro w ok he hT hz
 obtain ⟨k, p, f, x, n, A, c, L⟩ := t
 replace hk : k = 5 := hk
 obtain ⟨hfl, hxl, hsz⟩ := sz_parts hz.out
 have hsz' := hd9 hsz
 have hT0 := hT.out
 rw [TreeAt] at hT0
 obtain ⟨hR, hlen⟩ := hT0
 have hR' := hd9 hR
 obtain ⟨m, hm⟩ : ∃ m, Hid (L.length = m) := ⟨_, hd9 rfl⟩
 rw [hm.out] at hlen
 have ih' := hd9 ih
 clear ih hT hR hsz hz
 obtain ⟨bp, qp⟩ : ∃ b, (p == 0) = b := ⟨_, rfl⟩
 obtain ⟨bn, qn⟩ : ∃ b, (n == 0) = b := ⟨_, rfl⟩
 obtain ⟨bf, qf⟩ : ∃ b, (f == []) = b := ⟨_, rfl⟩
 obtain ⟨bx, qx⟩ : ∃ b, (x == []) = b := ⟨_, rfl⟩
 have dp : decide (p = 0) = bp := by rw [← qp]; rfl
 have dn : decide (n = 0) = bn := by rw [← qn]; rfl
 have df : decide (f = []) = bf := by rw [← qf]; cases f <;> rfl
 have dx : decide (x = []) = bx := by rw [← qx]; cases x <;> rfl
 have ef := tx_list f
 have ex := tx_list x
 show Calls Tryz.prog 37 #[.agg #[.int .i64 k, .int .i64 p, .string ⟨f.toArray⟩, .string ⟨x.toArray⟩, .int .i64 n, .slice A L.length c]] w _
 rw [hm.out]
 have hb0 : Hid (Below w.heap.size w (w.alloc (.cells #[.int .i64 k, .int .i64 p, .string ⟨f.toArray⟩, .string ⟨x.toArray⟩, .int .i64 n, .slice A m c] 25))) := (Below.refl _ w).alloc le9 _
 obtain ⟨b1, q1⟩ : ∃ b, decide (m = 0) = b := ⟨_, rfl⟩
 have r1 : ((m : Int) == 0) = b1 := by rw [← q1, Bool.eq_iff_iff]; simp
 obtain ⟨bm, hbm⟩ : ∃ b, Hid (nameM f = b) := ⟨_, hd9 rfl⟩
 obtain ⟨b4, q4⟩ : ∃ b, decide (0 ≤ n) = b := ⟨_, rfl⟩
 obtain ⟨b5, q5⟩ : ∃ b, decide (n ≤ 1099511627776) = b := ⟨_, rfl⟩
 have hres : Hid (mayR (strip (.mk k p f x n A c L)) = (bp && bx && b1 && bm && b4 && b5)) := by
  unfold Hid
  rw [strip, mayR, if_neg (by omega), if_neg (by omega), if_neg (by omega), if_pos (by omega), dp, dx, hbm.out, strips_map, List.length_map, hm.out, q1, q4, q5]
 have hc1 := hd9 (isName_any ⟨f.toArray⟩ _ (by rw [size_list]; unfold maxLen; omega) (he.out.below hb0.out))
 rw [show (⟨f.toArray⟩ : ByteArray).data.toList = f by simp, hbm.out] at hc1
 clear dp dn df dx q1
 subst hk
 cases bn
 all_goals
  cases bp with
  | false =>
   go_enter Tryz.func37, Tryz.ntmps37
   go_wp2_with fail
   go_ret
   exact ⟨by rw [hres.out]; simp, hb0.out⟩
  | true =>
   cases bx with
   | false =>
    go_enter Tryz.func37, Tryz.ntmps37
    go_wp2_with fail
    go_ret
    exact ⟨by rw [hres.out]; simp, hb0.out⟩
   | true =>
    cases b1 with
    | false =>
     go_enter Tryz.func37, Tryz.ntmps37
     go_wp2_with fail
     go_ret
     exact ⟨by rw [hres.out]; simp, hb0.out⟩
    | true =>
     cases bm with
     | false =>
      go_enter Tryz.func37, Tryz.ntmps37
      go_wp2_with (go_at_call 75; refine hc1.out.mono ?_; rintro e w1 ⟨rfl, hB1⟩)
      go_ret
      exact ⟨by rw [hres.out]; simp, hb0.out.trans (hB1.mono hb0.out.size)⟩
     | true =>
      cases b4 <;> cases b5
      all_goals
       go_enter Tryz.func37, Tryz.ntmps37
       go_wp2_with fail
       refine hc1.out.mono ?_
       rintro e w1 ⟨rfl, hB1⟩
       have hBx : Hid (Below w.heap.size w w1) := hb0.out.trans (hB1.mono hb0.out.size)
       have s4 : w1.cell? ⟨w.heap.size, 4, none⟩ = some (.int .i64 n) := by rw [hB1.cell (by simp), (Blk.new w 25 _).cell]; rfl
       have slt : w.heap.size < w1.heap.size := by have := hB1.size; simp at this; omega
       clear hB1
       go_wp2_with fail
       go_ret
       exact ⟨by rw [hres.out]; simp, hBx.out⟩
set_option maxRecDepth 100000 in
set_option maxHeartbeats 3200000 in
theorem may_num6 (t : Tree) (ih : ∀ u ∈ t.sub, MayC u) (hk : t.kind = 6) : MayC t := by
 intro w ok he hT hz
 obtain ⟨k, p, f, x, n, A, c, L⟩ := t
 replace hk : k = 6 := hk
 obtain ⟨hfl, hxl, hsz⟩ := sz_parts hz.out
 have hsz' := hd9 hsz
 have hT0 := hT.out
 rw [TreeAt] at hT0
 obtain ⟨hR, hlen⟩ := hT0
 have hR' := hd9 hR
 obtain ⟨m, hm⟩ : ∃ m, Hid (L.length = m) := ⟨_, hd9 rfl⟩
 rw [hm.out] at hlen
 have ih' := hd9 ih
 clear ih hT hR hsz hz
 obtain ⟨bp, qp⟩ : ∃ b, (p == 0) = b := ⟨_, rfl⟩
 obtain ⟨bn, qn⟩ : ∃ b, (n == 0) = b := ⟨_, rfl⟩
 obtain ⟨bf, qf⟩ : ∃ b, (f == []) = b := ⟨_, rfl⟩
 obtain ⟨bx, qx⟩ : ∃ b, (x == []) = b := ⟨_, rfl⟩
 have dp : decide (p = 0) = bp := by rw [← qp]; rfl
 have dn : decide (n = 0) = bn := by rw [← qn]; rfl
 have df : decide (f = []) = bf := by rw [← qf]; cases f <;> rfl
 have dx : decide (x = []) = bx := by rw [← qx]; cases x <;> rfl
 have ef := tx_list f
 have ex := tx_list x
 show Calls Tryz.prog 37 #[.agg #[.int .i64 k, .int .i64 p, .string ⟨f.toArray⟩, .string ⟨x.toArray⟩, .int .i64 n, .slice A L.length c]] w _
 rw [hm.out]
 have hb0 : Hid (Below w.heap.size w (w.alloc (.cells #[.int .i64 k, .int .i64 p, .string ⟨f.toArray⟩, .string ⟨x.toArray⟩, .int .i64 n, .slice A m c] 25))) := (Below.refl _ w).alloc le9 _
 obtain ⟨b1, q1⟩ : ∃ b, decide (m = 0) = b := ⟨_, rfl⟩
 have r1 : ((m : Int) == 0) = b1 := by rw [← q1, Bool.eq_iff_iff]; simp
 obtain ⟨bm, hbm⟩ : ∃ b, Hid (nameM f = b) := ⟨_, hd9 rfl⟩
 obtain ⟨b4, q4⟩ : ∃ b, decide (0 ≤ n) = b := ⟨_, rfl⟩
 obtain ⟨b5, q5⟩ : ∃ b, decide (n ≤ 1099511627776) = b := ⟨_, rfl⟩
 have hres : Hid (mayR (strip (.mk k p f x n A c L)) = (bp && bx && b1 && bm && b4 && b5)) := by
  unfold Hid
  rw [strip, mayR, if_neg (by omega), if_neg (by omega), if_neg (by omega), if_pos (by omega), dp, dx, hbm.out, strips_map, List.length_map, hm.out, q1, q4, q5]
 have hc1 := hd9 (isName_any ⟨f.toArray⟩ _ (by rw [size_list]; unfold maxLen; omega) (he.out.below hb0.out))
 rw [show (⟨f.toArray⟩ : ByteArray).data.toList = f by simp, hbm.out] at hc1
 clear dp dn df dx q1
 subst hk
 cases bn
 all_goals
  cases bp with
  | false =>
   go_enter Tryz.func37, Tryz.ntmps37
   go_wp2_with fail
   go_ret
   exact ⟨by rw [hres.out]; simp, hb0.out⟩
  | true =>
   cases bx with
   | false =>
    go_enter Tryz.func37, Tryz.ntmps37
    go_wp2_with fail
    go_ret
    exact ⟨by rw [hres.out]; simp, hb0.out⟩
   | true =>
    cases b1 with
    | false =>
     go_enter Tryz.func37, Tryz.ntmps37
     go_wp2_with fail
     go_ret
     exact ⟨by rw [hres.out]; simp, hb0.out⟩
    | true =>
     cases bm with
     | false =>
      go_enter Tryz.func37, Tryz.ntmps37
      go_wp2_with (go_at_call 75; refine hc1.out.mono ?_; rintro e w1 ⟨rfl, hB1⟩)
      go_ret
      exact ⟨by rw [hres.out]; simp, hb0.out.trans (hB1.mono hb0.out.size)⟩
     | true =>
      cases b4 <;> cases b5
      all_goals
       go_enter Tryz.func37, Tryz.ntmps37
       go_wp2_with fail
       refine hc1.out.mono ?_
       rintro e w1 ⟨rfl, hB1⟩
       have hBx : Hid (Below w.heap.size w w1) := hb0.out.trans (hB1.mono hb0.out.size)
       have s4 : w1.cell? ⟨w.heap.size, 4, none⟩ = some (.int .i64 n) := by rw [hB1.cell (by simp), (Blk.new w 25 _).cell]; rfl
       have slt : w.heap.size < w1.heap.size := by have := hB1.size; simp at this; omega
       clear hB1
       go_wp2_with fail
       go_ret
       exact ⟨by rw [hres.out]; simp, hBx.out⟩
set_option maxRecDepth 100000 in
set_option maxHeartbeats 3200000 in
theorem may_like (t : Tree) (ih : ∀ u ∈ t.sub, MayC u) (hk : t.kind = 7) : MayC t := by
 intro w ok he hT hz
 obtain ⟨k, p, f, x, n, A, c, L⟩ := t
 replace hk : k = 7 := hk
 obtain ⟨hfl, hxl, hsz⟩ := sz_parts hz.out
 have hsz' := hd9 hsz
 have hT0 := hT.out
 rw [TreeAt] at hT0
 obtain ⟨hR, hlen⟩ := hT0
 have hR' := hd9 hR
 obtain ⟨m, hm⟩ : ∃ m, Hid (L.length = m) := ⟨_, hd9 rfl⟩
 rw [hm.out] at hlen
 have ih' := hd9 ih
 clear ih hT hR hsz hz
 obtain ⟨bp, qp⟩ : ∃ b, (p == 0) = b := ⟨_, rfl⟩
 obtain ⟨bn, qn⟩ : ∃ b, (n == 0) = b := ⟨_, rfl⟩
 obtain ⟨bf, qf⟩ : ∃ b, (f == []) = b := ⟨_, rfl⟩
 obtain ⟨bx, qx⟩ : ∃ b, (x == []) = b := ⟨_, rfl⟩
 have dp : decide (p = 0) = bp := by rw [← qp]; rfl
 have dn : decide (n = 0) = bn := by rw [← qn]; rfl
 have df : decide (f = []) = bf := by rw [← qf]; cases f <;> rfl
 have dx : decide (x = []) = bx := by rw [← qx]; cases x <;> rfl
 have ef := tx_list f
 have ex := tx_list x
 show Calls Tryz.prog 37 #[.agg #[.int .i64 k, .int .i64 p, .string ⟨f.toArray⟩, .string ⟨x.toArray⟩, .int .i64 n, .slice A L.length c]] w _
 rw [hm.out]
 have hb0 : Hid (Below w.heap.size w (w.alloc (.cells #[.int .i64 k, .int .i64 p, .string ⟨f.toArray⟩, .string ⟨x.toArray⟩, .int .i64 n, .slice A m c] 25))) := (Below.refl _ w).alloc le9 _
 obtain ⟨b1, q1⟩ : ∃ b, decide (m = 0) = b := ⟨_, rfl⟩
 have r1 : ((m : Int) == 0) = b1 := by rw [← q1, Bool.eq_iff_iff]; simp
 obtain ⟨bm, hbm⟩ : ∃ b, Hid (nameM f = b) := ⟨_, hd9 rfl⟩
 obtain ⟨bt, hbt⟩ : ∃ b, Hid (nameM x = b) := ⟨_, hd9 rfl⟩
 obtain ⟨b4, hb4⟩ : ∃ b, Hid ((decide (0 ≤ p) && decide (p < 6)) = b) := ⟨_, hd9 rfl⟩
 have hres : Hid (mayR (strip (.mk k p f x n A c L)) = (bn && b1 && bm && bt && b4)) := by
  unfold Hid
  rw [strip, mayR, if_neg (by omega), if_neg (by omega), if_neg (by omega), if_neg (by omega), if_pos hk, dn, hbm.out, hbt.out, strips_map, List.length_map, hm.out, q1, Bool.and_assoc _ (decide (0 ≤ p)), hb4.out]
 have hc1 : Hid (∀ (W : World) (s : Txt), s.length ≤ 70368744177664 → Below w.heap.size w W → Calls Tryz.prog 75 #[.string ⟨s.toArray⟩] W fun e w' => e = .returned (.bool (nameM s)) ∧ Below W.heap.size W w') := fun W s hs hb => by
  have := isName_any ⟨s.toArray⟩ W (by rw [size_list]; unfold maxLen; omega) (he.out.below hb)
  rw [show (⟨s.toArray⟩ : ByteArray).data.toList = s by simp] at this
  exact this
 have hc2 : Hid (∀ W, Calls Tryz.prog 77 #[.int .i64 p] W fun e w' => e = .returned (.bool b4) ∧ W = w') := fun W => by
  have := isPaper_any p W
  rw [hb4.out] at this; exact this
 clear dp dn df dx q1
 subst hk
 cases bp
 all_goals
  cases bn with
  | false =>
   go_enter Tryz.func37, Tryz.ntmps37
   go_wp2_with fail
   go_ret
   exact ⟨by rw [hres.out]; simp, hb0.out⟩
  | true =>
   cases b1 with
   | false =>
    go_enter Tryz.func37, Tryz.ntmps37
    go_wp2_with fail
    go_ret
    exact ⟨by rw [hres.out]; simp, hb0.out⟩
   | true =>
    go_enter Tryz.func37, Tryz.ntmps37
    go_wp2_with fail
    refine (hc1.out _ f hfl hb0.out).mono ?_
    rintro e w1 ⟨rfl, hB1⟩
    rw [hbm.out]
    have hBx : Hid (Below w.heap.size w w1) := hb0.out.trans (hB1.mono hb0.out.size)
    have s3 : w1.cell? ⟨w.heap.size, 3, none⟩ = some (.string ⟨x.toArray⟩) := by rw [hB1.cell (by simp), (Blk.new w 25 _).cell]; rfl
    have s1 : w1.cell? ⟨w.heap.size, 1, none⟩ = some (.int .i64 p) := by rw [hB1.cell (by simp), (Blk.new w 25 _).cell]; rfl
    have slt : w.heap.size < w1.heap.size := by have := hB1.size; simp at this; omega
    clear hB1
    cases bm with
    | false =>
     go_wp2_with fail
     go_ret
     exact ⟨by rw [hres.out]; simp, hBx.out⟩
    | true =>
     go_wp2_with fail
     refine (hc1.out _ x hxl hBx.out).mono ?_
     rintro e w2 ⟨rfl, hB2⟩
     rw [hbt.out]
     have hBy : Hid (Below w.heap.size w w2) := hBx.out.trans (hB2.mono hBx.out.size)
     have s1 : w2.cell? ⟨w.heap.size, 1, none⟩ = some (.int .i64 p) := by rw [hB2.cell slt]; exact s1
     have slt2 : w.heap.size < w2.heap.size := Nat.lt_of_lt_of_le slt hB2.size
     clear hB2
     cases bt with
     | false =>
      go_wp2_with fail
      go_ret
      exact ⟨by rw [hres.out]; simp, hBy.out⟩
     | true =>
      go_wp2_with fail
      refine (hc2.out _).mono ?_
      rintro e w3 ⟨rfl, rfl⟩
      go_wp2_with fail
      go_ret
      exact ⟨by rw [hres.out]; simp, hBy.out⟩
set_option maxRecDepth 100000 in
set_option maxHeartbeats 3200000 in
theorem may_else (t : Tree) (ih : ∀ u ∈ t.sub, MayC u) (hk : t.kind < 0 ∨ 7 < t.kind) : MayC t := by
 intro w ok he hT hz
 obtain ⟨k, p, f, x, n, A, c, L⟩ := t
 replace hk : k < 0 ∨ 7 < k := hk
 obtain ⟨hfl, hxl, hsz⟩ := sz_parts hz.out
 have hsz' := hd9 hsz
 have hT0 := hT.out
 rw [TreeAt] at hT0
 obtain ⟨hR, hlen⟩ := hT0
 have hR' := hd9 hR
 obtain ⟨m, hm⟩ : ∃ m, Hid (L.length = m) := ⟨_, hd9 rfl⟩
 rw [hm.out] at hlen
 have ih' := hd9 ih
 clear ih hT hR hsz hz
 obtain ⟨bp, qp⟩ : ∃ b, (p == 0) = b := ⟨_, rfl⟩
 obtain ⟨bn, qn⟩ : ∃ b, (n == 0) = b := ⟨_, rfl⟩
 obtain ⟨bf, qf⟩ : ∃ b, (f == []) = b := ⟨_, rfl⟩
 obtain ⟨bx, qx⟩ : ∃ b, (x == []) = b := ⟨_, rfl⟩
 have dp : decide (p = 0) = bp := by rw [← qp]; rfl
 have dn : decide (n = 0) = bn := by rw [← qn]; rfl
 have df : decide (f = []) = bf := by rw [← qf]; cases f <;> rfl
 have dx : decide (x = []) = bx := by rw [← qx]; cases x <;> rfl
 have ef := tx_list f
 have ex := tx_list x
 show Calls Tryz.prog 37 #[.agg #[.int .i64 k, .int .i64 p, .string ⟨f.toArray⟩, .string ⟨x.toArray⟩, .int .i64 n, .slice A L.length c]] w _
 rw [hm.out]
 have hb0 : Hid (Below w.heap.size w (w.alloc (.cells #[.int .i64 k, .int .i64 p, .string ⟨f.toArray⟩, .string ⟨x.toArray⟩, .int .i64 n, .slice A m c] 25))) := (Below.refl _ w).alloc le9 _
 have hres : Hid (mayR (strip (.mk k p f x n A c L)) = false) := by
  unfold Hid
  rw [strip, mayR, if_neg (by omega), if_neg (by omega), if_neg (by omega), if_neg (by omega), if_neg (by omega)]
 have g0 : (k == 0) = false := by simp; omega
 have g1 : (k == 1) = false := by simp; omega
 have g2 : (k == 2) = false := by simp; omega
 have g3 : (k == 3) = false := by simp; omega
 have g4 : (k == 4) = false := by simp; omega
 have g5 : (k == 5) = false := by simp; omega
 have g6 : (k == 6) = false := by simp; omega
 have g7 : (k == 7) = false := by simp; omega
 clear dp dn df dx hk
 cases bp <;> cases bn
 all_goals
  go_enter Tryz.func37, Tryz.ntmps37
  go_wp2_with fail
  go_ret
  exact ⟨by rw [hres.out]; rfl, hb0.out⟩
theorem may_any : ∀ t : Tree, MayC t := Tree.every fun t ih => by
 rcases (by omega : t.kind = 0 ∨ t.kind = 1 ∨ t.kind = 2 ∨ t.kind = 3 ∨ t.kind = 4 ∨ t.kind = 5 ∨ t.kind = 6 ∨ t.kind = 7 ∨ (t.kind < 0 ∨ 7 < t.kind)) with h | h | h | h | h | h | h | h | h
 ·exact may_row0 t ih h
 ·exact may_row1 t ih h
 ·exact may_not t ih h
 ·exact may_text3 t ih h
 ·exact may_text4 t ih h
 ·exact may_num5 t ih h
 ·exact may_num6 t ih h
 ·exact may_like t ih h
 ·exact may_else t ih h
end Go.Proofs.YtjkmhlfjheiekaaGreatDoor

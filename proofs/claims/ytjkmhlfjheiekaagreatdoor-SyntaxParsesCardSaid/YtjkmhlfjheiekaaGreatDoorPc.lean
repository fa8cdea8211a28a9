import Derived.Test.YtjkmhlfjheiekaaGreatDoorPb
namespace Go.Proofs.YtjkmhlfjheiekaaGreatDoor
open Go Go.RowKit Go.BigFrame Go.Maps
set_option maxRecDepth 100000 in
set_option maxHeartbeats 3200000 in
theorem sum_any (w0 w : World) (pb : Nat) (A : Option Addr) (c e : Nat) (l : List Tok) (st : St) (cb : Nat) (v0 v1 v2 v3 v4 v5 v6 v7 v8 v9 v10 v11 v12 v13 v14 v15 v16 v17 : Value) (xb xt : Nat) (X : Array Value) (hB : Hid (But pb w0 w)) (ht : Hid (TokAt w0 pb A l)) (hcb : Hid (w0.heap.size ≤ cb)) (ne_hC : Hid (cb ≠ pb)) (ne_hX : Hid (xb ≠ pb)) (ne_xc : Hid (xb ≠ cb)) (hC : Hid (Blk w cb 41 #[v0, v1, v2, v3, v4, v5, v6, v7, v8, v9, v10, v11, v12, v13, v14, v15, v16, v17])) (hX : Hid (Blk w xb xt X)) (hp : Hid (ParAt w pb A c e l st)) (hok : Hid (TokOk l)) :
  Calls Tryz.prog 88 #[.pointer (some ⟨pb, 0, none⟩), .pointer (some ⟨cb, 0, none⟩)] w fun x w' => x = .returned (.tuple #[]) ∧ But pb w0 w' ∧ Blk w' cb 41 #[v0, v1, v2, v3, v4, v5, v6, .string ⟨(sumS e l st).1.cur.toArray⟩, .int .i64 (sumS e l st).1.amount, .int .i64 (sumS e l st).1.above, .int .i64 (sumS e l st).1.below, v11, v12, v13, v14, v15, v16, v17] ∧ Blk w' xb xt X ∧ ParAt w' pb A c e l (sumS e l st).2 := by
 have e131 : ∀ (args : Array Value) (w : World), (callFunc 131 args).run Tryz.prog w = .ok (.enter 131 args) w := enters_of Tryz.func131 (by kernel_rfl) rfl
 have e159 : ∀ (args : Array Value) (w : World), (callFunc 159 args).run Tryz.prog w = .ok (.enter 159 args) w := enters_of Tryz.func159 (by kernel_rfl) rfl
 go_enter Tryz.func88, Tryz.ntmps88
 go_wp2_with fail
 refine (word_any _ _ _ _).mono ?_
 rintro x wz ⟨rfl, rfl⟩
 go_wp2_with fail
 have hC := hd9 (hC.out.below (below_wOne w wSum) hC.out.lt)
 have hX := hd9 (hX.out.below (below_wOne w wSum) hX.out.lt)
 have hB := hd9 (hB.out.below (below_wOne w wSum))
 have hp := hd9 (hp.out.below (below_wOne w wSum))
 obtain ⟨⟨t1, s1⟩, h1⟩ : ∃ r, Hid (takeS e l (wordB wSum) st = r) := ⟨_, hd9 rfl⟩
 refine (take_any (wOne w wSum) pb A c e l st 131 _ e131 (wordB wSum) hp (word_new w wSum)).mono ?_
 rintro x w1 ⟨rfl, hu, hq⟩
 rw [h1.out] at hq ⊢
 have hC := hd9 (hu.blk hC.out ne_hC.out)
 have hX := hd9 (hu.blk hX.out ne_hX.out)
 have hB := hd9 (hB.out.trans hu)
 have hp := hd9 hq
 clear hu hq
 simp only at hp ⊢
 go_wp2_with fail
 refine (kind_any _ 4).mono ?_
 rintro x wz ⟨rfl, rfl⟩
 go_wp2_with fail
 have hC := hd9 (hC.out.below ((Below.refl _ w1).alloc le9 (.cells #[.int .i64 4] 3)) hC.out.lt)
 have hX := hd9 (hX.out.below ((Below.refl _ w1).alloc le9 (.cells #[.int .i64 4] 3)) hX.out.lt)
 have hB := hd9 (hB.out.below ((Below.refl _ w1).alloc le9 (.cells #[.int .i64 4] 3)))
 have hp := hd9 (hp.out.below ((Below.refl _ w1).alloc le9 (.cells #[.int .i64 4] 3)))
 obtain ⟨⟨t2, s2⟩, h2⟩ : ∃ r, Hid (takeS e l (kindB 4) s1 = r) := ⟨_, hd9 rfl⟩
 refine (take_any (w1.alloc (.cells #[.int .i64 4] 3)) pb A c e l s1 159 _ e159 (kindB 4) hp (kind_new w1 4)).mono ?_
 rintro x w2 ⟨rfl, hu, hq⟩
 rw [h2.out] at hq ⊢
 have hC := hd9 (hu.blk hC.out ne_hC.out)
 have hX := hd9 (hu.blk hX.out ne_hX.out)
 have hB := hd9 (hB.out.trans hu)
 have hp := hd9 hq
 clear hu hq
 simp only at hp ⊢
 have hCc7 : w2.cell? ⟨cb, 7, none⟩ = some (v7) := hC.out.cell 7
 have hCf7 := hC.out.frozen 7
 have hCl := hC.out.lt
 go_wp2_with fail
 have hC : Hid (Blk (w2.setCell ⟨cb, 7, none⟩ (.string ⟨t2.toArray⟩)) cb 41 #[v0, v1, v2, v3, v4, v5, v6, .string ⟨t2.toArray⟩, v8, v9, v10, v11, v12, v13, v14, v15, v16, v17]) := (hC.out.set_ 7 (.string ⟨t2.toArray⟩))
 have hX : Hid (Blk (w2.setCell ⟨cb, 7, none⟩ (.string ⟨t2.toArray⟩)) xb xt X) := (hX.out.far (p := ⟨cb, 7, none⟩) ne_xc.out _)
 have hB : Hid (But pb w0 (w2.setCell ⟨cb, 7, none⟩ (.string ⟨t2.toArray⟩))) := (hB.out.far hcb.out _ _)
 have hp : Hid (ParAt (w2.setCell ⟨cb, 7, none⟩ (.string ⟨t2.toArray⟩)) pb A c e l s2) := ⟨(hp.out.row.far (p := ⟨cb, 7, none⟩) (Ne.symm ne_hC.out) _), ht.out.but hB.out, hp.out.len, hp.out.pos⟩
 obtain ⟨w3, hw⟩ : ∃ x, Hid ((w2.setCell ⟨cb, 7, none⟩ (.string ⟨t2.toArray⟩)) = x) := ⟨_, hd9 rfl⟩
 have hsw : Hid (w2.heap.size = w3.heap.size) := by unfold Hid; rw [← hw.out]; simp
 rw [hw.out] at hC hX hB hp ⊢
 clear hw hCc7 hCf7 hCl
 try rw [hsw.out]
 clear hsw
 obtain ⟨⟨n3, s3⟩, h3⟩ : ∃ r, Hid (numS e l 1 1099511627776 s2 = r) := ⟨_, hd9 rfl⟩
 refine (number_any w3 pb A c e l s2 1 1099511627776 hp hok).mono ?_
 rintro x w4 ⟨rfl, hu, hq⟩
 rw [h3.out] at hq ⊢
 have hC := hd9 (hu.blk hC.out ne_hC.out)
 have hX := hd9 (hu.blk hX.out ne_hX.out)
 have hB := hd9 (hB.out.trans hu)
 have hp := hd9 hq
 clear hu hq
 simp only at hp ⊢
 have hCc8 : w4.cell? ⟨cb, 8, none⟩ = some (v8) := hC.out.cell 8
 have hCf8 := hC.out.frozen 8
 have hCl := hC.out.lt
 go_wp2_with fail
 have hC : Hid (Blk (w4.setCell ⟨cb, 8, none⟩ (.int .i64 n3)) cb 41 #[v0, v1, v2, v3, v4, v5, v6, .string ⟨t2.toArray⟩, .int .i64 n3, v9, v10, v11, v12, v13, v14, v15, v16, v17]) := (hC.out.set_ 8 (.int .i64 n3))
 have hX : Hid (Blk (w4.setCell ⟨cb, 8, none⟩ (.int .i64 n3)) xb xt X) := (hX.out.far (p := ⟨cb, 8, none⟩) ne_xc.out _)
 have hB : Hid (But pb w0 (w4.setCell ⟨cb, 8, none⟩ (.int .i64 n3))) := (hB.out.far hcb.out _ _)
 have hp : Hid (ParAt (w4.setCell ⟨cb, 8, none⟩ (.int .i64 n3)) pb A c e l s3) := ⟨(hp.out.row.far (p := ⟨cb, 8, none⟩) (Ne.symm ne_hC.out) _), ht.out.but hB.out, hp.out.len, hp.out.pos⟩
 obtain ⟨w5, hw⟩ : ∃ x, Hid ((w4.setCell ⟨cb, 8, none⟩ (.int .i64 n3)) = x) := ⟨_, hd9 rfl⟩
 have hsw : Hid (w4.heap.size = w5.heap.size) := by unfold Hid; rw [← hw.out]; simp
 rw [hw.out] at hC hX hB hp ⊢
 clear hw hCc8 hCf8 hCl
 try rw [hsw.out]
 clear hsw
 refine (word_any _ _ _ _).mono ?_
 rintro x wz ⟨rfl, rfl⟩
 go_wp2_with fail
 have hC := hd9 (hC.out.below (below_wOne w5 wAbove) hC.out.lt)
 have hX := hd9 (hX.out.below (below_wOne w5 wAbove) hX.out.lt)
 have hB := hd9 (hB.out.below (below_wOne w5 wAbove))
 have hp := hd9 (hp.out.below (below_wOne w5 wAbove))
 obtain ⟨⟨t4, s4⟩, h4⟩ : ∃ r, Hid (takeS e l (wordB wAbove) s3 = r) := ⟨_, hd9 rfl⟩
 refine (take_any (wOne w5 wAbove) pb A c e l s3 131 _ e131 (wordB wAbove) hp (word_new w5 wAbove)).mono ?_
 rintro x w6 ⟨rfl, hu, hq⟩
 rw [h4.out] at hq ⊢
 have hC := hd9 (hu.blk hC.out ne_hC.out)
 have hX := hd9 (hu.blk hX.out ne_hX.out)
 have hB := hd9 (hB.out.trans hu)
 have hp := hd9 hq
 clear hu hq
 simp only at hp ⊢
 go_wp2_with fail
 obtain ⟨⟨n5, s5⟩, h5⟩ : ∃ r, Hid (numS e l 0 1000 s4 = r) := ⟨_, hd9 rfl⟩
 refine (number_any w6 pb A c e l s4 0 1000 hp hok).mono ?_
 rintro x w7 ⟨rfl, hu, hq⟩
 rw [h5.out] at hq ⊢
 have hC := hd9 (hu.blk hC.out ne_hC.out)
 have hX := hd9 (hu.blk hX.out ne_hX.out)
 have hB := hd9 (hB.out.trans hu)
 have hp := hd9 hq
 clear hu hq
 simp only at hp ⊢
 have hCc9 : w7.cell? ⟨cb, 9, none⟩ = some (v9) := hC.out.cell 9
 have hCf9 := hC.out.frozen 9
 have hCl := hC.out.lt
 go_wp2_with fail
 have hC : Hid (Blk (w7.setCell ⟨cb, 9, none⟩ (.int .i64 n5)) cb 41 #[v0, v1, v2, v3, v4, v5, v6, .string ⟨t2.toArray⟩, .int .i64 n3, .int .i64 n5, v10, v11, v12, v13, v14, v15, v16, v17]) := (hC.out.set_ 9 (.int .i64 n5))
 have hX : Hid (Blk (w7.setCell ⟨cb, 9, none⟩ (.int .i64 n5)) xb xt X) := (hX.out.far (p := ⟨cb, 9, none⟩) ne_xc.out _)
 have hB : Hid (But pb w0 (w7.setCell ⟨cb, 9, none⟩ (.int .i64 n5))) := (hB.out.far hcb.out _ _)
 have hp : Hid (ParAt (w7.setCell ⟨cb, 9, none⟩ (.int .i64 n5)) pb A c e l s5) := ⟨(hp.out.row.far (p := ⟨cb, 9, none⟩) (Ne.symm ne_hC.out) _), ht.out.but hB.out, hp.out.len, hp.out.pos⟩
 obtain ⟨w8, hw⟩ : ∃ x, Hid ((w7.setCell ⟨cb, 9, none⟩ (.int .i64 n5)) = x) := ⟨_, hd9 rfl⟩
 have hsw : Hid (w7.heap.size = w8.heap.size) := by unfold Hid; rw [← hw.out]; simp
 rw [hw.out] at hC hX hB hp ⊢
 clear hw hCc9 hCf9 hCl
 try rw [hsw.out]
 clear hsw
 refine (word_any _ _ _ _).mono ?_
 rintro x wz ⟨rfl, rfl⟩
 go_wp2_with fail
 have hC := hd9 (hC.out.below (below_wOne w8 wBelow) hC.out.lt)
 have hX := hd9 (hX.out.below (below_wOne w8 wBelow) hX.out.lt)
 have hB := hd9 (hB.out.below (below_wOne w8 wBelow))
 have hp := hd9 (hp.out.below (below_wOne w8 wBelow))
 obtain ⟨⟨t6, s6⟩, h6⟩ : ∃ r, Hid (takeS e l (wordB wBelow) s5 = r) := ⟨_, hd9 rfl⟩
 refine (take_any (wOne w8 wBelow) pb A c e l s5 131 _ e131 (wordB wBelow) hp (word_new w8 wBelow)).mono ?_
 rintro x w9 ⟨rfl, hu, hq⟩
 rw [h6.out] at hq ⊢
 have hC := hd9 (hu.blk hC.out ne_hC.out)
 have hX := hd9 (hu.blk hX.out ne_hX.out)
 have hB := hd9 (hB.out.trans hu)
 have hp := hd9 hq
 clear hu hq
 simp only at hp ⊢
 go_wp2_with fail
 obtain ⟨⟨n7, s7⟩, h7⟩ : ∃ r, Hid (numS e l 0 1000 s6 = r) := ⟨_, hd9 rfl⟩
 refine (number_any w9 pb A c e l s6 0 1000 hp hok).mono ?_
 rintro x w10 ⟨rfl, hu, hq⟩
 rw [h7.out] at hq ⊢
 have hC := hd9 (hu.blk hC.out ne_hC.out)
 have hX := hd9 (hu.blk hX.out ne_hX.out)
 have hB := hd9 (hB.out.trans hu)
 have hp := hd9 hq
 clear hu hq
 simp only at hp ⊢
 have hCc10 : w10.cell? ⟨cb, 10, none⟩ = some (v10) := hC.out.cell 10
 have hCf10 := hC.out.frozen 10
 have hCl := hC.out.lt
 go_wp2_with fail
 have hC : Hid (Blk (w10.setCell ⟨cb, 10, none⟩ (.int .i64 n7)) cb 41 #[v0, v1, v2, v3, v4, v5, v6, .string ⟨t2.toArray⟩, .int .i64 n3, .int .i64 n5, .int .i64 n7, v11, v12, v13, v14, v15, v16, v17]) := (hC.out.set_ 10 (.int .i64 n7))
 have hX : Hid (Blk (w10.setCell ⟨cb, 10, none⟩ (.int .i64 n7)) xb xt X) := (hX.out.far (p := ⟨cb, 10, none⟩) ne_xc.out _)
 have hB : Hid (But pb w0 (w10.setCell ⟨cb, 10, none⟩ (.int .i64 n7))) := (hB.out.far hcb.out _ _)
 have hp : Hid (ParAt (w10.setCell ⟨cb, 10, none⟩ (.int .i64 n7)) pb A c e l s7) := ⟨(hp.out.row.far (p := ⟨cb, 10, none⟩) (Ne.symm ne_hC.out) _), ht.out.but hB.out, hp.out.len, hp.out.pos⟩
 obtain ⟨w11, hw⟩ : ∃ x, Hid ((w10.setCell ⟨cb, 10, none⟩ (.int .i64 n7)) = x) := ⟨_, hd9 rfl⟩
 have hsw : Hid (w10.heap.size = w11.heap.size) := by unfold Hid; rw [← hw.out]; simp
 rw [hw.out] at hC hX hB hp ⊢
 clear hw hCc10 hCf10 hCl
 try rw [hsw.out]
 clear hsw
 refine (end_any w11 pb A c e l s7 hp).mono ?_
 rintro x w12 ⟨rfl, hu, hq⟩
 have hC := hd9 (hu.blk hC.out ne_hC.out)
 have hX := hd9 (hu.blk hX.out ne_hX.out)
 have hB := hd9 (hB.out.trans hu)
 have hp := hd9 hq
 clear hu hq
 go_wp2_with fail
 go_end0
 have hr : Hid (sumS e l st = (⟨t2, n3, n5, n7⟩, endS e l s7)) := by unfold Hid sumS; simp only [h1.out, h2.out, h3.out, h4.out, h5.out, h6.out, h7.out]
 rw [hr.out]
 exact ⟨rfl, hB.out, hC.out, hX.out, hp.out⟩
def zeroD : Array Value := #[.int .i64 0, .int .i64 0, .int .i64 0, .int .i64 0, .string ⟨#[]⟩, .string ⟨#[]⟩, .int .i64 0, .slice none 0 0]
def needC (k n : Int) : Tree → Array Value | .mk tk tp tf tx tn tA tc tL => #[.int .i64 k, .int .i64 n, .int .i64 tk, .int .i64 tp, .string ⟨tf.toArray⟩, .string ⟨tx.toArray⟩, .int .i64 tn, .slice tA tL.length tc]
def Needed (w : World) (pb : Nat) (A : Option Addr) (c e : Nat) (l : List Tok) (r : NdP × St) (x : Ending) (w' : World) : Prop :=
 But pb w w' ∧ ParAt w' pb A c e l r.2 ∧ ∃ t, x = .returned (.agg (needC r.1.1 r.1.2.1 t)) ∧ TreeAt w' (fun b => w.heap.size ≤ b) t ∧ strip t = r.1.2.2
set_option maxRecDepth 100000 in
set_option maxHeartbeats 3200000 in
theorem need_any_p (w : World) (pb : Nat) (A : Option Addr) (c e : Nat) (l : List Tok) (st : St) (hp : Hid (ParAt w pb A c e l st)) (hok : Hid (TokOk l)) (he : Hid (Env w)) (h8 : Hid (8 ≤ pb)) :
  Calls Tryz.prog 95 #[.pointer (some ⟨pb, 0, none⟩)] w (Needed w pb A c e l (needS e l st)) := by
 have e131 : ∀ (args : Array Value) (w : World), (callFunc 131 args).run Tryz.prog w = .ok (.enter 131 args) w := enters_of Tryz.func131 (by kernel_rfl) rfl
 have e137 : ∀ (args : Array Value) (w : World), (callFunc 137 args).run Tryz.prog w = .ok (.enter 137 args) w := enters_of Tryz.func137 (by kernel_rfl) rfl
 have e159 : ∀ (args : Array Value) (w : World), (callFunc 159 args).run Tryz.prog w = .ok (.enter 159 args) w := enters_of Tryz.func159 (by kernel_rfl) rfl
 have ht := hd9 hp.out.tok
 have hpbs := hd9 hp.out.row.lt
 have hln0 := hp.out.len
 have ne_hR : Hid (w.heap.size ≠ pb) := by have := hpbs.out; unfold Hid; omega
 have ne_hN : Hid (w.heap.size + 1 ≠ pb) := by have := hpbs.out; unfold Hid; omega
 have ne_rn : Hid (w.heap.size ≠ w.heap.size + 1) := by unfold Hid; omega
 have ne1 := ne_rn.out
 have ne2 := ne_rn.out.symm
 have hle1 : Hid (w.heap.size ≤ w.heap.size + 1) := by unfold Hid; omega
 have hR : Hid (Blk ((w.alloc (.cells zeroD 74)).alloc (.cells zeroD 74)) w.heap.size 74 #[.int .i64 0, .int .i64 0, .int .i64 0, .int .i64 0, .string ⟨#[]⟩, .string ⟨#[]⟩, .int .i64 0, .slice none 0 0]) := (Blk.new w 74 zeroD).alloc _
 have hN : Hid (Blk ((w.alloc (.cells zeroD 74)).alloc (.cells zeroD 74)) (w.heap.size + 1) 74 #[.int .i64 0, .int .i64 0, .int .i64 0, .int .i64 0, .string ⟨#[]⟩, .string ⟨#[]⟩, .int .i64 0, .slice none 0 0]) := by
  have h := Blk.new (w.alloc (.cells zeroD 74)) 74 zeroD
  have hs : (w.alloc (.cells zeroD 74)).heap.size = w.heap.size + 1 := by simp
  rw [hs] at h
  exact h
 have hb0 : Below w.heap.size w ((w.alloc (.cells zeroD 74)).alloc (.cells zeroD 74)) := ((Below.refl _ w).alloc le9 _).alloc (by simp) _
 have hB := hd9 ((But.refl pb w).below hb0)
 have hp := hd9 (hp.out.below hb0)
 clear hb0
 go_enter Tryz.func95, Tryz.ntmps95
 go_wp2_with fail
 obtain ⟨wa, hwa⟩ : ∃ x, Hid ((w.alloc (.cells zeroD 74)).alloc (.cells zeroD 74) = x) := ⟨_, hd9 rfl⟩
 have hwa' : ((w.alloc (.cells #[.int .i64 0, .int .i64 0, .int .i64 0, .int .i64 0, .string ⟨#[]⟩, .string ⟨#[]⟩, .int .i64 0, .slice none 0 0] 74)).alloc (.cells #[.int .i64 0, .int .i64 0, .int .i64 0, .int .i64 0, .string ⟨#[]⟩, .string ⟨#[]⟩, .int .i64 0, .slice none 0 0] 74)) = wa := hwa.out
 have hsa : Hid (w.heap.size + 1 + 1 = wa.heap.size) := by unfold Hid; rw [← hwa.out]; simp
 rw [hwa'] at ⊢
 rw [hwa.out] at hR hN hB hp
 try rw [hsa.out]
 refine (word_any _ _ _ _).mono ?_
 rintro x wz ⟨rfl, rfl⟩
 go_wp2_with fail
 have hR := hd9 (hR.out.below (below_wOne wa wWants) hR.out.lt)
 have hN := hd9 (hN.out.below (below_wOne wa wWants) hN.out.lt)
 have hB := hd9 (hB.out.below (below_wOne wa wWants))
 have hp := hd9 (hp.out.below (below_wOne wa wWants))
 obtain ⟨⟨t1, s1⟩, h1⟩ : ∃ r, Hid (takeS e l (wordB wWants) st = r) := ⟨_, hd9 rfl⟩
 refine (take_any (wOne wa wWants) pb A c e l st 131 _ e131 (wordB wWants) hp (word_new wa wWants)).mono ?_
 rintro x w1 ⟨rfl, hu, hq⟩
 rw [h1.out] at hq ⊢
 have hR := hd9 (hu.blk hR.out ne_hR.out)
 have hN := hd9 (hu.blk hN.out ne_hN.out)
 have hB := hd9 (hB.out.trans hu)
 have hp := hd9 hq
 clear hu hq
 simp only at hp ⊢
 go_wp2_with fail
 obtain ⟨⟨t2, s2⟩, h2⟩ : ∃ r, Hid (takeS e l paperB s1 = r) := ⟨_, hd9 rfl⟩
 refine (take_any w1 pb A c e l s1 137 #[] e137 paperB hp (paper_fits (hd9 (he.out.but hB.out h8.out)))).mono ?_
 rintro x w2 ⟨rfl, hu, hq⟩
 rw [h2.out] at hq ⊢
 have hR := hd9 (hu.blk hR.out ne_hR.out)
 have hN := hd9 (hu.blk hN.out ne_hN.out)
 have hB := hd9 (hB.out.trans hu)
 have hp := hd9 hq
 clear hu hq
 simp only at hp ⊢
 go_wp2_with fail
 refine (paperOf_any ⟨t2.toArray⟩ w2 (hd9 (he.out.but hB.out h8.out))).mono ?_
 rintro x w3 ⟨rfl, rfl⟩
 rw [show ((⟨t2.toArray⟩ : ByteArray).data.toList) = t2 by simp]
 have hNc0 : w2.cell? ⟨(w.heap.size + 1), 0, none⟩ = some (.int .i64 0) := hN.out.cell 0
 have hNf0 := hN.out.frozen 0
 have hNl := hN.out.lt
 obtain ⟨pi, hpi⟩ : ∃ i, Hid (paperI t2 = i) := ⟨_, hd9 rfl⟩
 rw [hpi.out]
 go_wp2_with fail
 have hN : Hid (Blk (w2.setCell ⟨(w.heap.size + 1), 0, none⟩ (.int .i64 (max pi 0))) (w.heap.size + 1) 74 #[.int .i64 (max pi 0), .int .i64 0, .int .i64 0, .int .i64 0, .string ⟨#[]⟩, .string ⟨#[]⟩, .int .i64 0, .slice none 0 0]) := (hN.out.set_ 0 (.int .i64 (max pi 0)))
 have hR : Hid (Blk (w2.setCell ⟨(w.heap.size + 1), 0, none⟩ (.int .i64 (max pi 0))) w.heap.size 74 #[.int .i64 0, .int .i64 0, .int .i64 0, .int .i64 0, .string ⟨#[]⟩, .string ⟨#[]⟩, .int .i64 0, .slice none 0 0]) := (hR.out.far (p := ⟨(w.heap.size + 1), 0, none⟩) ne_rn.out _)
 have hB : Hid (But pb w (w2.setCell ⟨(w.heap.size + 1), 0, none⟩ (.int .i64 (max pi 0)))) := (hB.out.far hle1.out _ _)
 have hp : Hid (ParAt (w2.setCell ⟨(w.heap.size + 1), 0, none⟩ (.int .i64 (max pi 0))) pb A c e l s2) := ⟨(hp.out.row.far (p := ⟨(w.heap.size + 1), 0, none⟩) (Ne.symm ne_hN.out) _), ht.out.but hB.out, hp.out.len, hp.out.pos⟩
 obtain ⟨w4, hw⟩ : ∃ x, Hid ((w2.setCell ⟨(w.heap.size + 1), 0, none⟩ (.int .i64 (max pi 0))) = x) := ⟨_, hd9 rfl⟩
 have hsw : Hid (w2.heap.size = w4.heap.size) := by unfold Hid; rw [← hw.out]; simp
 rw [hw.out] at hR hN hB hp ⊢
 clear hw hNc0 hNf0 hNl
 try rw [hsw.out]
 clear hsw
 refine (word_any _ _ _ _).mono ?_
 rintro x wz ⟨rfl, rfl⟩
 go_wp2_with fail
 have hR := hd9 (hR.out.below (below_wOne w4 wCopies) hR.out.lt)
 have hN := hd9 (hN.out.below (below_wOne w4 wCopies) hN.out.lt)
 have hB := hd9 (hB.out.below (below_wOne w4 wCopies))
 have hp := hd9 (hp.out.below (below_wOne w4 wCopies))
 obtain ⟨⟨t3, s3⟩, h3⟩ : ∃ r, Hid (takeS e l (wordB wCopies) s2 = r) := ⟨_, hd9 rfl⟩
 refine (take_any (wOne w4 wCopies) pb A c e l s2 131 _ e131 (wordB wCopies) hp (word_new w4 wCopies)).mono ?_
 rintro x w5 ⟨rfl, hu, hq⟩
 rw [h3.out] at hq ⊢
 have hR := hd9 (hu.blk hR.out ne_hR.out)
 have hN := hd9 (hu.blk hN.out ne_hN.out)
 have hB := hd9 (hB.out.trans hu)
 have hp := hd9 hq
 clear hu hq
 simp only at hp ⊢
 go_wp2_with fail
 obtain ⟨⟨n4, s4⟩, h4⟩ : ∃ r, Hid (numS e l 1 9 s3 = r) := ⟨_, hd9 rfl⟩
 refine (number_any w5 pb A c e l s3 1 9 hp hok).mono ?_
 rintro x w6 ⟨rfl, hu, hq⟩
 rw [h4.out] at hq ⊢
 have hR := hd9 (hu.blk hR.out ne_hR.out)
 have hN := hd9 (hu.blk hN.out ne_hN.out)
 have hB := hd9 (hB.out.trans hu)
 have hp := hd9 hq
 clear hu hq
 simp only at hp ⊢
 have hNc1 : w6.cell? ⟨(w.heap.size + 1), 1, none⟩ = some (.int .i64 0) := hN.out.cell 1
 have hNf1 := hN.out.frozen 1
 have hNl := hN.out.lt
 go_wp2_with fail
 have hN : Hid (Blk (w6.setCell ⟨(w.heap.size + 1), 1, none⟩ (.int .i64 n4)) (w.heap.size + 1) 74 #[.int .i64 (max pi 0), .int .i64 n4, .int .i64 0, .int .i64 0, .string ⟨#[]⟩, .string ⟨#[]⟩, .int .i64 0, .slice none 0 0]) := (hN.out.set_ 1 (.int .i64 n4))
 have hR : Hid (Blk (w6.setCell ⟨(w.heap.size + 1), 1, none⟩ (.int .i64 n4)) w.heap.size 74 #[.int .i64 0, .int .i64 0, .int .i64 0, .int .i64 0, .string ⟨#[]⟩, .string ⟨#[]⟩, .int .i64 0, .slice none 0 0]) := (hR.out.far (p := ⟨(w.heap.size + 1), 1, none⟩) ne_rn.out _)
 have hB : Hid (But pb w (w6.setCell ⟨(w.heap.size + 1), 1, none⟩ (.int .i64 n4))) := (hB.out.far hle1.out _ _)
 have hp : Hid (ParAt (w6.setCell ⟨(w.heap.size + 1), 1, none⟩ (.int .i64 n4)) pb A c e l s4) := ⟨(hp.out.row.far (p := ⟨(w.heap.size + 1), 1, none⟩) (Ne.symm ne_hN.out) _), ht.out.but hB.out, hp.out.len, hp.out.pos⟩
 obtain ⟨w7, hw⟩ : ∃ x, Hid ((w6.setCell ⟨(w.heap.size + 1), 1, none⟩ (.int .i64 n4)) = x) := ⟨_, hd9 rfl⟩
 have hsw : Hid (w6.heap.size = w7.heap.size) := by unfold Hid; rw [← hw.out]; simp
 rw [hw.out] at hR hN hB hp ⊢
 clear hw hNc1 hNf1 hNl
 try rw [hsw.out]
 clear hsw
 refine (word_any _ _ _ _).mono ?_
 rintro x wz ⟨rfl, rfl⟩
 go_wp2_with fail
 have hR := hd9 (hR.out.below (below_wOne w7 wWith) hR.out.lt)
 have hN := hd9 (hN.out.below (below_wOne w7 wWith) hN.out.lt)
 have hB := hd9 (hB.out.below (below_wOne w7 wWith))
 have hp := hd9 (hp.out.below (below_wOne w7 wWith))
 obtain ⟨b5, h5⟩ : ∃ b, Hid (askS l s4 0 (wordB wWith) = b) := ⟨_, hd9 rfl⟩
 refine (sees_any (wOne w7 wWith) pb A c e l s4 131 _ e131 (wordB wWith) hp (word_new w7 wWith)).mono ?_
 rintro x w8 ⟨rfl, hb⟩
 rw [h5.out]
 have hR := hd9 (hR.out.below hb hR.out.lt)
 have hN := hd9 (hN.out.below hb hN.out.lt)
 have hB := hd9 (hB.out.below hb)
 have hp := hd9 (hp.out.below hb)
 clear hb
 have hr0 : Hid (needS e l st = ((max pi 0, n4, (withS e l s4).1), endS e l (withS e l s4).2)) := by unfold Hid needS; simp only [h1.out, h2.out, h3.out, h4.out, hpi.out]
 cases b5 with
 | false =>
  have hwi : Hid (withS e l s4 = (emptyR, s4)) := by unfold Hid withS; rw [if_neg (by rw [h5.out]; simp)]
  rw [hwi.out] at hr0
  go_wp2_with fail
  refine (end_any w8 pb A c e l s4 hp).mono ?_
  rintro x w9 ⟨rfl, hu, hq⟩
  have hR := hd9 (hu.blk hR.out ne_hR.out)
  have hN := hd9 (hu.blk hN.out ne_hN.out)
  have hB := hd9 (hB.out.trans hu)
  have hp := hd9 hq
  clear hu hq
  obtain ⟨hNc0, hNc1, hNc2, hNc3, hNc4, hNc5, hNc6, hNc7, hNf0, hNf1, hNf2, hNf3, hNf4, hNf5, hNf6, hNf7⟩ := cf8 hN.out
  have hNl := hN.out.lt
  obtain ⟨hRc0, hRc1, hRc2, hRc3, hRc4, hRc5, hRc6, hRc7, hRf0, hRf1, hRf2, hRf3, hRf4, hRf5, hRf6, hRf7⟩ := cf8 hR.out
  have hRl := hR.out.lt
  go_wp2_with fail
  refine bodyPost_ret (results_row rfl _ _ w.heap.size 74 _ _ rfl (((((((((hR.out.set_ 0 _).set_ 1 _).set_ 2 _).set_ 3 _).set_ 4 _).set_ 5 _).set_ 6 _).set_ 7 _)) Tryz.underlying74 rfl (by kernel_rfl)) rfl ?_
  unfold Needed
  rw [hr0.out]
  refine ⟨((((((((hB.out.far le9 _ _).far le9 _ _).far le9 _ _).far le9 _ _).far le9 _ _).far le9 _ _).far le9 _ _).far le9 _ _), ⟨((((((((hp.out.row.far (p := ⟨w.heap.size, 0, none⟩) (Ne.symm ne_hR.out) _).far (p := ⟨w.heap.size, 1, none⟩) (Ne.symm ne_hR.out) _).far (p := ⟨w.heap.size, 2, none⟩) (Ne.symm ne_hR.out) _).far (p := ⟨w.heap.size, 3, none⟩) (Ne.symm ne_hR.out) _).far (p := ⟨w.heap.size, 4, none⟩) (Ne.symm ne_hR.out) _).far (p := ⟨w.heap.size, 5, none⟩) (Ne.symm ne_hR.out) _).far (p := ⟨w.heap.size, 6, none⟩) (Ne.symm ne_hR.out) _).far (p := ⟨w.heap.size, 7, none⟩) (Ne.symm ne_hR.out) _), ht.out.but ((((((((hB.out.far le9 _ _).far le9 _ _).far le9 _ _).far le9 _ _).far le9 _ _).far le9 _ _).far le9 _ _).far le9 _ _), hp.out.len, hp.out.pos⟩, .mk 0 0 [] [] 0 none 0 [], rfl, ?_, strip_leaf _ _ _ _ _ _ _⟩
  exact tree_leaf _ _ _ _ _ _ _ _ _
 | true =>
  obtain ⟨hcd, tk0, hlk, _, _⟩ := ask_step h5.out
  have hlt : s4.k < l.length := (List.getElem?_eq_some_iff.1 hlk).1
  have hwi : Hid (withS e l s4 = wholeG e l s4.step) := by unfold Hid withS; rw [if_pos h5.out]
  rw [hwi.out] at hr0
  have hfu := whole_fuel (e := e) (st := s4.step) (.inr (show s4.k + 1 ≤ l.length by omega))
  obtain ⟨⟨rr, s5⟩, h6⟩ : ∃ r, Hid (wholeG e l s4.step = r) := ⟨_, hd9 rfl⟩
  rw [h6.out] at hfu hr0
  obtain ⟨k1, hk1⟩ : ∃ k, Hid (s4.k = k) := ⟨_, hd9 rfl⟩
  have hpar := hd9 (step_par hp.out hlt k1 hk1.out)
  have hu : Hid (But pb w8 (w8.setCell ⟨pb, 1, none⟩ (.int .i64 ((k1 : Int) + 1)))) := (But.refl pb _).setCell _ _
  have c1 : w8.cell? ⟨pb, 1, none⟩ = some (.int .i64 k1) := by rw [← hk1.out]; exact hp.out.row.cell 1
  have y1 := hp.out.row.frozen 1
  have hln := hp.out.len
  have hlt1 := hp.out.row.lt
  rw [hk1.out] at hlt
  have w1' : IntKind.i64.wrap ((k1 : Int) + 1) = (k1 : Int) + 1 := IntWalk.i64_in _ (by omega)
  clear hlk
  go_wp2_with fail
  obtain ⟨wy, hwy⟩ : ∃ x, Hid (w8.setCell ⟨pb, 1, none⟩ (.int .i64 ((k1 : Int) + 1)) = x) := ⟨_, hd9 rfl⟩
  have hR := hd9 (hu.out.blk hR.out ne_hR.out)
  have hN := hd9 (hu.out.blk hN.out ne_hN.out)
  have hB := hd9 (hB.out.trans hu.out)
  rw [hwy.out] at hpar hB hR hN ⊢
  have hp := hpar
  clear hwy hu hpar c1 y1
  have hszy : Hid (w.heap.size + 2 ≤ wy.heap.size) := by have := hN.out.lt; unfold Hid; omega
  refine (whole_any pb A c e l h8 hok (2 * l.length + 2) (by omega) wy s4.step (rr, s5) hfu hp (hd9 (he.out.but hB.out h8.out))).mono ?_
  rintro x w19 ⟨hu, hq, ⟨uk, up, uf, ux, un, uA, uc, uL⟩, rfl, htr, hst⟩
  have hR := hd9 (hu.blk hR.out ne_hR.out)
  have hN := hd9 (hu.blk hN.out ne_hN.out)
  have hB := hd9 (hB.out.trans hu)
  have hp := hd9 hq
  clear hu hq
  simp only at hp ⊢
  have htr : Hid (TreeAt w19 (fun b => w.heap.size + 2 ≤ b) _) := htr.mono (fun b _ hk => Nat.le_trans hszy.out hk)
  unfold Tree.cells
  obtain ⟨hNc0, hNc1, hNc2, hNc3, hNc4, hNc5, hNc6, hNc7, hNf0, hNf1, hNf2, hNf3, hNf4, hNf5, hNf6, hNf7⟩ := cf8 hN.out
  have hNl := hN.out.lt
  go_wp2_with fail
  have hh : ∀ b, w.heap.size + 2 ≤ b → b ≠ w.heap.size + 1 := fun b hb => by omega
  have htr : Hid (TreeAt ((((((w19.setCell ⟨(w.heap.size + 1), 2, none⟩ (.int .i64 uk)).setCell ⟨(w.heap.size + 1), 3, none⟩ (.int .i64 up)).setCell ⟨(w.heap.size + 1), 4, none⟩ (.string ⟨uf.toArray⟩)).setCell ⟨(w.heap.size + 1), 5, none⟩ (.string ⟨ux.toArray⟩)).setCell ⟨(w.heap.size + 1), 6, none⟩ (.int .i64 un)).setCell ⟨(w.heap.size + 1), 7, none⟩ (.slice uA uL.length uc)) (fun b => w.heap.size + 2 ≤ b) (.mk uk up uf ux un uA uc uL)) := ((((((htr.out.far hh 2 _).far hh 3 _).far hh 4 _).far hh 5 _).far hh 6 _).far hh 7 _)
  have hN : Hid (Blk ((((((w19.setCell ⟨(w.heap.size + 1), 2, none⟩ (.int .i64 uk)).setCell ⟨(w.heap.size + 1), 3, none⟩ (.int .i64 up)).setCell ⟨(w.heap.size + 1), 4, none⟩ (.string ⟨uf.toArray⟩)).setCell ⟨(w.heap.size + 1), 5, none⟩ (.string ⟨ux.toArray⟩)).setCell ⟨(w.heap.size + 1), 6, none⟩ (.int .i64 un)).setCell ⟨(w.heap.size + 1), 7, none⟩ (.slice uA uL.length uc)) (w.heap.size + 1) 74 #[.int .i64 (max pi 0), .int .i64 n4, .int .i64 uk, .int .i64 up, .string ⟨uf.toArray⟩, .string ⟨ux.toArray⟩, .int .i64 un, .slice uA uL.length uc]) := ((((((hN.out.set_ 2 (.int .i64 uk)).set_ 3 (.int .i64 up)).set_ 4 (.string ⟨uf.toArray⟩)).set_ 5 (.string ⟨ux.toArray⟩)).set_ 6 (.int .i64 un)).set_ 7 (.slice uA uL.length uc))
  have hR : Hid (Blk ((((((w19.setCell ⟨(w.heap.size + 1), 2, none⟩ (.int .i64 uk)).setCell ⟨(w.heap.size + 1), 3, none⟩ (.int .i64 up)).setCell ⟨(w.heap.size + 1), 4, none⟩ (.string ⟨uf.toArray⟩)).setCell ⟨(w.heap.size + 1), 5, none⟩ (.string ⟨ux.toArray⟩)).setCell ⟨(w.heap.size + 1), 6, none⟩ (.int .i64 un)).setCell ⟨(w.heap.size + 1), 7, none⟩ (.slice uA uL.length uc)) w.heap.size 74 #[.int .i64 0, .int .i64 0, .int .i64 0, .int .i64 0, .string ⟨#[]⟩, .string ⟨#[]⟩, .int .i64 0, .slice none 0 0]) := ((((((hR.out.far (p := ⟨(w.heap.size + 1), 2, none⟩) ne_rn.out _).far (p := ⟨(w.heap.size + 1), 3, none⟩) ne_rn.out _).far (p := ⟨(w.heap.size + 1), 4, none⟩) ne_rn.out _).far (p := ⟨(w.heap.size + 1), 5, none⟩) ne_rn.out _).far (p := ⟨(w.heap.size + 1), 6, none⟩) ne_rn.out _).far (p := ⟨(w.heap.size + 1), 7, none⟩) ne_rn.out _)
  have hB : Hid (But pb w ((((((w19.setCell ⟨(w.heap.size + 1), 2, none⟩ (.int .i64 uk)).setCell ⟨(w.heap.size + 1), 3, none⟩ (.int .i64 up)).setCell ⟨(w.heap.size + 1), 4, none⟩ (.string ⟨uf.toArray⟩)).setCell ⟨(w.heap.size + 1), 5, none⟩ (.string ⟨ux.toArray⟩)).setCell ⟨(w.heap.size + 1), 6, none⟩ (.int .i64 un)).setCell ⟨(w.heap.size + 1), 7, none⟩ (.slice uA uL.length uc))) := ((((((hB.out.far hle1.out _ _).far hle1.out _ _).far hle1.out _ _).far hle1.out _ _).far hle1.out _ _).far hle1.out _ _)
  have hp : Hid (ParAt ((((((w19.setCell ⟨(w.heap.size + 1), 2, none⟩ (.int .i64 uk)).setCell ⟨(w.heap.size + 1), 3, none⟩ (.int .i64 up)).setCell ⟨(w.heap.size + 1), 4, none⟩ (.string ⟨uf.toArray⟩)).setCell ⟨(w.heap.size + 1), 5, none⟩ (.string ⟨ux.toArray⟩)).setCell ⟨(w.heap.size + 1), 6, none⟩ (.int .i64 un)).setCell ⟨(w.heap.size + 1), 7, none⟩ (.slice uA uL.length uc)) pb A c e l s5) := ⟨((((((hp.out.row.far (p := ⟨(w.heap.size + 1), 2, none⟩) (Ne.symm ne_hN.out) _).far (p := ⟨(w.heap.size + 1), 3, none⟩) (Ne.symm ne_hN.out) _).far (p := ⟨(w.heap.size + 1), 4, none⟩) (Ne.symm ne_hN.out) _).far (p := ⟨(w.heap.size + 1), 5, none⟩) (Ne.symm ne_hN.out) _).far (p := ⟨(w.heap.size + 1), 6, none⟩) (Ne.symm ne_hN.out) _).far (p := ⟨(w.heap.size + 1), 7, none⟩) (Ne.symm ne_hN.out) _), ht.out.but hB.out, hp.out.len, hp.out.pos⟩
  obtain ⟨w20, hw⟩ : ∃ x, Hid (((((((w19.setCell ⟨(w.heap.size + 1), 2, none⟩ (.int .i64 uk)).setCell ⟨(w.heap.size + 1), 3, none⟩ (.int .i64 up)).setCell ⟨(w.heap.size + 1), 4, none⟩ (.string ⟨uf.toArray⟩)).setCell ⟨(w.heap.size + 1), 5, none⟩ (.string ⟨ux.toArray⟩)).setCell ⟨(w.heap.size + 1), 6, none⟩ (.int .i64 un)).setCell ⟨(w.heap.size + 1), 7, none⟩ (.slice uA uL.length uc)) = x) := ⟨_, hd9 rfl⟩
  have hsw : Hid (w19.heap.size = w20.heap.size) := by unfold Hid; rw [← hw.out]; simp
  rw [hw.out] at hR hN hB hp htr ⊢
  clear hw hNc0 hNf0 hNc1 hNf1 hNc2 hNf2 hNc3 hNf3 hNc4 hNf4 hNc5 hNf5 hNc6 hNf6 hNc7 hNf7 hNl
  try rw [hsw.out]
  clear hsw
  refine (end_any w20 pb A c e l s5 hp).mono ?_
  rintro x w21 ⟨rfl, hu, hq⟩
  have hR := hd9 (hu.blk hR.out ne_hR.out)
  have hN := hd9 (hu.blk hN.out ne_hN.out)
  have hB := hd9 (hB.out.trans hu)
  have hp := hd9 hq
  have htr := hd9 (htr.out.but hu (fun b hb => by have := hp.out.row; have := hpbs.out; omega))
  clear hu hq
  clear hh
  obtain ⟨hNc0, hNc1, hNc2, hNc3, hNc4, hNc5, hNc6, hNc7, hNf0, hNf1, hNf2, hNf3, hNf4, hNf5, hNf6, hNf7⟩ := cf8 hN.out
  have hNl := hN.out.lt
  obtain ⟨hRc0, hRc1, hRc2, hRc3, hRc4, hRc5, hRc6, hRc7, hRf0, hRf1, hRf2, hRf3, hRf4, hRf5, hRf6, hRf7⟩ := cf8 hR.out
  have hRl := hR.out.lt
  go_wp2_with fail
  refine bodyPost_ret (results_row rfl _ _ w.heap.size 74 _ _ rfl (((((((((hR.out.set_ 0 _).set_ 1 _).set_ 2 _).set_ 3 _).set_ 4 _).set_ 5 _).set_ 6 _).set_ 7 _)) Tryz.underlying74 rfl (by kernel_rfl)) rfl ?_
  unfold Needed
  rw [hr0.out]
  refine ⟨((((((((hB.out.far le9 _ _).far le9 _ _).far le9 _ _).far le9 _ _).far le9 _ _).far le9 _ _).far le9 _ _).far le9 _ _), ⟨((((((((hp.out.row.far (p := ⟨w.heap.size, 0, none⟩) (Ne.symm ne_hR.out) _).far (p := ⟨w.heap.size, 1, none⟩) (Ne.symm ne_hR.out) _).far (p := ⟨w.heap.size, 2, none⟩) (Ne.symm ne_hR.out) _).far (p := ⟨w.heap.size, 3, none⟩) (Ne.symm ne_hR.out) _).far (p := ⟨w.heap.size, 4, none⟩) (Ne.symm ne_hR.out) _).far (p := ⟨w.heap.size, 5, none⟩) (Ne.symm ne_hR.out) _).far (p := ⟨w.heap.size, 6, none⟩) (Ne.symm ne_hR.out) _).far (p := ⟨w.heap.size, 7, none⟩) (Ne.symm ne_hR.out) _), ht.out.but ((((((((hB.out.far le9 _ _).far le9 _ _).far le9 _ _).far le9 _ _).far le9 _ _).far le9 _ _).far le9 _ _).far le9 _ _), hp.out.len, hp.out.pos⟩, .mk uk up uf ux un uA uc uL, rfl, ?_, hst⟩
  have hh : ∀ b, w.heap.size + 2 ≤ b → b ≠ w.heap.size := fun b hb => by omega
  exact (((((((((htr.out.far hh 0 _).far hh 1 _).far hh 2 _).far hh 3 _).far hh 4 _).far hh 5 _).far hh 6 _).far hh 7 _)).mono (fun b _ hk => by omega)
end Go.Proofs.YtjkmhlfjheiekaaGreatDoor

import Derived.Test.YtjkmhlfjheiekaaGreatDoorPb
set_option maxRecDepth 1000000
set_option maxHeartbeats 51200000
namespace Go.Proofs.YtjkmhlfjheiekaaGreatDoor
open Go Go.RowKit Go.BigFrame Go.Maps
theorem sum_any (w0 w : World) (pb : Nat) (A : Option Addr) (c e : Nat) (l : List Tok) (st : St) (cb : Nat) (v0 v1 v2 v3 v4 v5 v6 v7 v8 v9 v10 v11 v12 v13 v14 v15 v16 v17 : Value) (xb xt : Nat) (X : Array Value) (hB : Hid (But pb w0 w)) (ht : Hid (TokAt w0 pb A l)) (hcb : Hid (w0.heap.size ≤ cb)) (ne_hC : Hid (cb ≠ pb)) (ne_hX : Hid (xb ≠ pb)) (ne_xc : Hid (xb ≠ cb)) (hC : Hid (Blk w cb 41 #[v0, v1, v2, v3, v4, v5, v6, v7, v8, v9, v10, v11, v12, v13, v14, v15, v16, v17])) (hX : Hid (Blk w xb xt X)) (hp : Hid (ParAt w pb A c e l st)) (hok : Hid (TokOk l)) :
  Cz 88 #[.pointer (some (Az pb 0)), .pointer (some (Az cb 0))] w fun x w' => x = .returned (.tuple #[]) ∧ But pb w0 w' ∧ Blk w' cb 41 #[v0, v1, v2, v3, v4, v5, v6, .string ⟨(sumS e l st).1.cur.toArray⟩, Iz (sumS e l st).1.amount, Iz (sumS e l st).1.above, Iz (sumS e l st).1.below, v11, v12, v13, v14, v15, v16, v17] ∧ Blk w' xb xt X ∧ ParAt w' pb A c e l (sumS e l st).2 := by
 have e131 := enters_of Tryz.func131 (by kernel_rfl) rfl
 have e159 := enters_of Tryz.func159 (by kernel_rfl) rfl
 go_enter Tryz.func88, Tryz.ntmps88
 go_wp2_with fail
 refine (word_any _ _ _ _).mono ?_
 rintro x wz ⟨rfl, rfl⟩
 go_wp2_with fail
 have hC := hdZ (hC.out.below (bwz w wSum) hC.out.lt)
 have hX := hdZ (hX.out.below (bwz w wSum) hX.out.lt)
 have hB := hdZ (hB.out.below (bwz w wSum))
 have hp := hdZ (hp.out.below (bwz w wSum))
 obtain ⟨⟨t1, s1⟩, h1⟩ := nmZ (tkz e l (wdz wSum) st)
 refine (tnz (wOne w wSum) pb A c e l st 131 _ e131 (wdz wSum) hp (word_new w wSum)).mono ?_
 rintro x w1 ⟨rfl, hu, hq⟩
 rw [h1.out] at hq ⊢
 have hC := hdZ (hu.blk hC.out ne_hC.out)
 have hX := hdZ (hu.blk hX.out ne_hX.out)
 have hB := hdZ (hB.out.trans hu)
 have hp := hdZ hq
 clear hu hq
 simp only at hp ⊢
 go_wp2_with fail
 refine (kind_any _ 4).mono ?_
 rintro x wz ⟨rfl, rfl⟩
 go_wp2_with fail
 have hC := hdZ (hC.out.below ((Below.refl _ w1).alloc leZ (.cells #[Iz 4] 3)) hC.out.lt)
 have hX := hdZ (hX.out.below ((Below.refl _ w1).alloc leZ (.cells #[Iz 4] 3)) hX.out.lt)
 have hB := hdZ (hB.out.below ((Below.refl _ w1).alloc leZ (.cells #[Iz 4] 3)))
 have hp := hdZ (hp.out.below ((Below.refl _ w1).alloc leZ (.cells #[Iz 4] 3)))
 obtain ⟨⟨t2, s2⟩, h2⟩ := nmZ (tkz e l (kdB 4) s1)
 refine (tnz (w1.alloc (.cells #[Iz 4] 3)) pb A c e l s1 159 _ e159 (kdB 4) hp (kind_new w1 4)).mono ?_
 rintro x w2 ⟨rfl, hu, hq⟩
 rw [h2.out] at hq ⊢
 have hC := hdZ (hu.blk hC.out ne_hC.out)
 have hX := hdZ (hu.blk hX.out ne_hX.out)
 have hB := hdZ (hB.out.trans hu)
 have hp := hdZ hq
 clear hu hq
 simp only at hp ⊢
 have hCc7 : w2.cell? (Az cb 7) = some (v7) := hC.out.cell 7
 have hCf7 := hC.out.frozen 7
 have hCl := hC.out.lt
 go_wp2_with fail
 have hC : Hid (Blk (w2.setCell (Az cb 7) (Sz t2)) cb 41 #[v0, v1, v2, v3, v4, v5, v6, Sz t2, v8, v9, v10, v11, v12, v13, v14, v15, v16, v17]) := (hC.out.set_ 7 (Sz t2))
 have hX : Hid (Blk (w2.setCell (Az cb 7) (Sz t2)) xb xt X) := (hX.out.far (p := (Az cb 7)) ne_xc.out _)
 have hB : Hid (But pb w0 (w2.setCell (Az cb 7) (Sz t2))) := (hB.out.far hcb.out _ _)
 have hp : Hid (ParAt (w2.setCell (Az cb 7) (Sz t2)) pb A c e l s2) := ⟨(hp.out.row.far (p := (Az cb 7)) (Ne.symm ne_hC.out) _), ht.out.but hB.out, hp.out.len, hp.out.pos⟩
 obtain ⟨w3, hw⟩ := nmZ ((w2.setCell (Az cb 7) (Sz t2)))
 have hsw : Hid (w2.heap.size = w3.heap.size) := by unfold Hid; rw [← hw.out]; simp
 rw [hw.out] at hC hX hB hp ⊢
 clear hw hCc7 hCf7 hCl
 try rw [hsw.out]
 clear hsw
 obtain ⟨⟨n3, s3⟩, h3⟩ := nmZ (numS e l 1 1099511627776 s2)
 refine (number_any w3 pb A c e l s2 1 1099511627776 hp hok).mono ?_
 rintro x w4 ⟨rfl, hu, hq⟩
 rw [h3.out] at hq ⊢
 have hC := hdZ (hu.blk hC.out ne_hC.out)
 have hX := hdZ (hu.blk hX.out ne_hX.out)
 have hB := hdZ (hB.out.trans hu)
 have hp := hdZ hq
 clear hu hq
 simp only at hp ⊢
 have hCc8 : w4.cell? (Az cb 8) = some (v8) := hC.out.cell 8
 have hCf8 := hC.out.frozen 8
 have hCl := hC.out.lt
 go_wp2_with fail
 have hC : Hid (Blk (w4.setCell (Az cb 8) (Iz n3)) cb 41 #[v0, v1, v2, v3, v4, v5, v6, Sz t2, Iz n3, v9, v10, v11, v12, v13, v14, v15, v16, v17]) := (hC.out.set_ 8 (Iz n3))
 have hX : Hid (Blk (w4.setCell (Az cb 8) (Iz n3)) xb xt X) := (hX.out.far (p := (Az cb 8)) ne_xc.out _)
 have hB : Hid (But pb w0 (w4.setCell (Az cb 8) (Iz n3))) := (hB.out.far hcb.out _ _)
 have hp : Hid (ParAt (w4.setCell (Az cb 8) (Iz n3)) pb A c e l s3) := ⟨(hp.out.row.far (p := (Az cb 8)) (Ne.symm ne_hC.out) _), ht.out.but hB.out, hp.out.len, hp.out.pos⟩
 obtain ⟨w5, hw⟩ := nmZ ((w4.setCell (Az cb 8) (Iz n3)))
 have hsw : Hid (w4.heap.size = w5.heap.size) := by unfold Hid; rw [← hw.out]; simp
 rw [hw.out] at hC hX hB hp ⊢
 clear hw hCc8 hCf8 hCl
 try rw [hsw.out]
 clear hsw
 refine (word_any _ _ _ _).mono ?_
 rintro x wz ⟨rfl, rfl⟩
 go_wp2_with fail
 have hC := hdZ (hC.out.below (bwz w5 wAbove) hC.out.lt)
 have hX := hdZ (hX.out.below (bwz w5 wAbove) hX.out.lt)
 have hB := hdZ (hB.out.below (bwz w5 wAbove))
 have hp := hdZ (hp.out.below (bwz w5 wAbove))
 obtain ⟨⟨t4, s4⟩, h4⟩ := nmZ (tkz e l (wdz wAbove) s3)
 refine (tnz (wOne w5 wAbove) pb A c e l s3 131 _ e131 (wdz wAbove) hp (word_new w5 wAbove)).mono ?_
 rintro x w6 ⟨rfl, hu, hq⟩
 rw [h4.out] at hq ⊢
 have hC := hdZ (hu.blk hC.out ne_hC.out)
 have hX := hdZ (hu.blk hX.out ne_hX.out)
 have hB := hdZ (hB.out.trans hu)
 have hp := hdZ hq
 clear hu hq
 simp only at hp ⊢
 go_wp2_with fail
 obtain ⟨⟨n5, s5⟩, h5⟩ := nmZ (numS e l 0 1000 s4)
 refine (number_any w6 pb A c e l s4 0 1000 hp hok).mono ?_
 rintro x w7 ⟨rfl, hu, hq⟩
 rw [h5.out] at hq ⊢
 have hC := hdZ (hu.blk hC.out ne_hC.out)
 have hX := hdZ (hu.blk hX.out ne_hX.out)
 have hB := hdZ (hB.out.trans hu)
 have hp := hdZ hq
 clear hu hq
 simp only at hp ⊢
 have hCc9 : w7.cell? (Az cb 9) = some (v9) := hC.out.cell 9
 have hCf9 := hC.out.frozen 9
 have hCl := hC.out.lt
 go_wp2_with fail
 have hC : Hid (Blk (w7.setCell (Az cb 9) (Iz n5)) cb 41 #[v0, v1, v2, v3, v4, v5, v6, Sz t2, Iz n3, Iz n5, v10, v11, v12, v13, v14, v15, v16, v17]) := (hC.out.set_ 9 (Iz n5))
 have hX : Hid (Blk (w7.setCell (Az cb 9) (Iz n5)) xb xt X) := (hX.out.far (p := (Az cb 9)) ne_xc.out _)
 have hB : Hid (But pb w0 (w7.setCell (Az cb 9) (Iz n5))) := (hB.out.far hcb.out _ _)
 have hp : Hid (ParAt (w7.setCell (Az cb 9) (Iz n5)) pb A c e l s5) := ⟨(hp.out.row.far (p := (Az cb 9)) (Ne.symm ne_hC.out) _), ht.out.but hB.out, hp.out.len, hp.out.pos⟩
 obtain ⟨w8, hw⟩ := nmZ ((w7.setCell (Az cb 9) (Iz n5)))
 have hsw : Hid (w7.heap.size = w8.heap.size) := by unfold Hid; rw [← hw.out]; simp
 rw [hw.out] at hC hX hB hp ⊢
 clear hw hCc9 hCf9 hCl
 try rw [hsw.out]
 clear hsw
 refine (word_any _ _ _ _).mono ?_
 rintro x wz ⟨rfl, rfl⟩
 go_wp2_with fail
 have hC := hdZ (hC.out.below (bwz w8 wBelow) hC.out.lt)
 have hX := hdZ (hX.out.below (bwz w8 wBelow) hX.out.lt)
 have hB := hdZ (hB.out.below (bwz w8 wBelow))
 have hp := hdZ (hp.out.below (bwz w8 wBelow))
 obtain ⟨⟨t6, s6⟩, h6⟩ := nmZ (tkz e l (wdz wBelow) s5)
 refine (tnz (wOne w8 wBelow) pb A c e l s5 131 _ e131 (wdz wBelow) hp (word_new w8 wBelow)).mono ?_
 rintro x w9 ⟨rfl, hu, hq⟩
 rw [h6.out] at hq ⊢
 have hC := hdZ (hu.blk hC.out ne_hC.out)
 have hX := hdZ (hu.blk hX.out ne_hX.out)
 have hB := hdZ (hB.out.trans hu)
 have hp := hdZ hq
 clear hu hq
 simp only at hp ⊢
 go_wp2_with fail
 obtain ⟨⟨n7, s7⟩, h7⟩ := nmZ (numS e l 0 1000 s6)
 refine (number_any w9 pb A c e l s6 0 1000 hp hok).mono ?_
 rintro x w10 ⟨rfl, hu, hq⟩
 rw [h7.out] at hq ⊢
 have hC := hdZ (hu.blk hC.out ne_hC.out)
 have hX := hdZ (hu.blk hX.out ne_hX.out)
 have hB := hdZ (hB.out.trans hu)
 have hp := hdZ hq
 clear hu hq
 simp only at hp ⊢
 have hCc10 : w10.cell? (Az cb 10) = some (v10) := hC.out.cell 10
 have hCf10 := hC.out.frozen 10
 have hCl := hC.out.lt
 go_wp2_with fail
 have hC : Hid (Blk (w10.setCell (Az cb 10) (Iz n7)) cb 41 #[v0, v1, v2, v3, v4, v5, v6, Sz t2, Iz n3, Iz n5, Iz n7, v11, v12, v13, v14, v15, v16, v17]) := (hC.out.set_ 10 (Iz n7))
 have hX : Hid (Blk (w10.setCell (Az cb 10) (Iz n7)) xb xt X) := (hX.out.far (p := (Az cb 10)) ne_xc.out _)
 have hB : Hid (But pb w0 (w10.setCell (Az cb 10) (Iz n7))) := (hB.out.far hcb.out _ _)
 have hp : Hid (ParAt (w10.setCell (Az cb 10) (Iz n7)) pb A c e l s7) := ⟨(hp.out.row.far (p := (Az cb 10)) (Ne.symm ne_hC.out) _), ht.out.but hB.out, hp.out.len, hp.out.pos⟩
 obtain ⟨w11, hw⟩ := nmZ ((w10.setCell (Az cb 10) (Iz n7)))
 have hsw : Hid (w10.heap.size = w11.heap.size) := by unfold Hid; rw [← hw.out]; simp
 rw [hw.out] at hC hX hB hp ⊢
 clear hw hCc10 hCf10 hCl
 try rw [hsw.out]
 clear hsw
 refine (end_any w11 pb A c e l s7 hp).mono ?_
 rintro x w12 ⟨rfl, hu, hq⟩
 have hC := hdZ (hu.blk hC.out ne_hC.out)
 have hX := hdZ (hu.blk hX.out ne_hX.out)
 have hB := hdZ (hB.out.trans hu)
 have hp := hdZ hq
 clear hu hq
 go_wp2_with fail
 go_end0
 have hr : Hid (sumS e l st = (⟨t2, n3, n5, n7⟩, endS e l s7)) := by unfold Hid sumS; simp only [h1.out, h2.out, h3.out, h4.out, h5.out, h6.out, h7.out]
 rw [hr.out]
 exact ⟨rfl, hB.out, hC.out, hX.out, hp.out⟩
def zeroD : Array Value := (z3z 0 0 0 0 0 none 0 0)
def needC (k n : Int) : Tree → Array Value | .mk tk tp tf tx tn tA tc tL => (z4z k n tk tp tf tx tn tA tL.length tc)
def Needed (w : World) (pb : Nat) (A : Option Addr) (c e : Nat) (l : List Tok) (r : NdP × St) (x : Ending) (w' : World) : Prop :=
 But pb w w' ∧ ParAt w' pb A c e l r.2 ∧ ∃ t, x = .returned (.agg (needC r.1.1 r.1.2.1 t)) ∧ TAz w' (fun b => w.heap.size ≤ b) t ∧ stz t = r.1.2.2
theorem need_any_p (w : World) (pb : Nat) (A : Option Addr) (c e : Nat) (l : List Tok) (st : St) (hp : Hid (ParAt w pb A c e l st)) (hok : Hid (TokOk l)) (he : Hid (Env w)) (h8 : Hid (8 ≤ pb)) :
  Cz 95 #[.pointer (some (Az pb 0))] w (Needed w pb A c e l (needS e l st)) := by
 have e131 := enters_of Tryz.func131 (by kernel_rfl) rfl
 have e137 := enters_of Tryz.func137 (by kernel_rfl) rfl
 have e159 := enters_of Tryz.func159 (by kernel_rfl) rfl
 have ht := hdZ hp.out.tok
 have hpbs := hdZ hp.out.row.lt
 have hln0 := hp.out.len
 have ne_hR : Hid (w.heap.size ≠ pb) := by have := hpbs.out; unfold Hid; omega
 have ne_hN : Hid (w.heap.size + 1 ≠ pb) := by have := hpbs.out; unfold Hid; omega
 have ne_rn : Hid (w.heap.size ≠ w.heap.size + 1) := by unfold Hid; omega
 have ne1 := ne_rn.out
 have ne2 := ne_rn.out.symm
 have hle1 : Hid (w.heap.size ≤ w.heap.size + 1) := by unfold Hid; omega
 have hR : Hid (Blk ((w.alloc (.cells zeroD 74)).alloc (.cells zeroD 74)) w.heap.size 74 (z3z 0 0 0 0 0 none 0 0)) := (Blk.new w 74 zeroD).alloc _
 have hN : Hid (Blk ((w.alloc (.cells zeroD 74)).alloc (.cells zeroD 74)) (w.heap.size + 1) 74 (z3z 0 0 0 0 0 none 0 0)) := by
  have h := Blk.new (w.alloc (.cells zeroD 74)) 74 zeroD; have hs : (w.alloc (.cells zeroD 74)).heap.size = w.heap.size + 1 := by simp
  rw [hs] at h; exact h
 have hb0 : Bz w ((w.alloc (.cells zeroD 74)).alloc (.cells zeroD 74)) := ((Below.refl _ w).alloc leZ _).alloc (by simp) _
 have hB := hdZ ((But.refl pb w).below hb0)
 have hp := hdZ (hp.out.below hb0)
 clear hb0
 go_enter Tryz.func95, Tryz.ntmps95
 go_wp2_with fail
 obtain ⟨wa, hwa⟩ := nmZ ((w.alloc (.cells zeroD 74)).alloc (.cells zeroD 74))
 have hwa' : ((w.alloc (.cells (z3z 0 0 0 0 0 none 0 0) 74)).alloc (.cells (z3z 0 0 0 0 0 none 0 0) 74)) = wa := hwa.out
 have hsa : Hid (w.heap.size + 1 + 1 = wa.heap.size) := by unfold Hid; rw [← hwa.out]; simp
 rw [hwa'] at ⊢
 rw [hwa.out] at hR hN hB hp
 try rw [hsa.out]
 refine (word_any _ _ _ _).mono ?_
 rintro x wz ⟨rfl, rfl⟩
 go_wp2_with fail
 have hR := hdZ (hR.out.below (bwz wa wWz) hR.out.lt)
 have hN := hdZ (hN.out.below (bwz wa wWz) hN.out.lt)
 have hB := hdZ (hB.out.below (bwz wa wWz))
 have hp := hdZ (hp.out.below (bwz wa wWz))
 obtain ⟨⟨t1, s1⟩, h1⟩ := nmZ (tkz e l (wdz wWz) st)
 refine (tnz (wOne wa wWz) pb A c e l st 131 _ e131 (wdz wWz) hp (word_new wa wWz)).mono ?_
 rintro x w1 ⟨rfl, hu, hq⟩
 rw [h1.out] at hq ⊢
 have hR := hdZ (hu.blk hR.out ne_hR.out)
 have hN := hdZ (hu.blk hN.out ne_hN.out)
 have hB := hdZ (hB.out.trans hu)
 have hp := hdZ hq
 clear hu hq
 simp only at hp ⊢
 go_wp2_with fail
 obtain ⟨⟨t2, s2⟩, h2⟩ := nmZ (tkz e l ppB s1)
 refine (tnz w1 pb A c e l s1 137 #[] e137 ppB hp (paper_fits (hdZ (he.out.but hB.out h8.out)))).mono ?_
 rintro x w2 ⟨rfl, hu, hq⟩
 rw [h2.out] at hq ⊢
 have hR := hdZ (hu.blk hR.out ne_hR.out)
 have hN := hdZ (hu.blk hN.out ne_hN.out)
 have hB := hdZ (hB.out.trans hu)
 have hp := hdZ hq
 clear hu hq
 simp only at hp ⊢
 go_wp2_with fail
 refine (paperOf_any ⟨t2.toArray⟩ w2 (hdZ (he.out.but hB.out h8.out))).mono ?_
 rintro x w3 ⟨rfl, rfl⟩
 rw [show ((⟨t2.toArray⟩ : ByteArray).data.toList) = t2 by simp]
 have hNc0 : w2.cell? ⟨(w.heap.size + 1), 0, none⟩ = some (Iz 0) := hN.out.cell 0
 have hNf0 := hN.out.frozen 0
 have hNl := hN.out.lt
 obtain ⟨pi, hpi⟩ := nmZ (paperI t2)
 rw [hpi.out]
 go_wp2_with fail
 have hN : Hid (Blk (w2.setCell ⟨(w.heap.size + 1), 0, none⟩ (Iz (max pi 0))) (w.heap.size + 1) 74 (z3z (max pi 0) 0 0 0 0 none 0 0)) := (hN.out.set_ 0 (Iz (max pi 0)))
 have hR : Hid (Blk (w2.setCell ⟨(w.heap.size + 1), 0, none⟩ (Iz (max pi 0))) w.heap.size 74 (z3z 0 0 0 0 0 none 0 0)) := (hR.out.far (p := ⟨(w.heap.size + 1), 0, none⟩) ne_rn.out _)
 have hB : Hid (But pb w (w2.setCell ⟨(w.heap.size + 1), 0, none⟩ (Iz (max pi 0)))) := (hB.out.far hle1.out _ _)
 have hp : Hid (ParAt (w2.setCell ⟨(w.heap.size + 1), 0, none⟩ (Iz (max pi 0))) pb A c e l s2) := ⟨(hp.out.row.far (p := ⟨(w.heap.size + 1), 0, none⟩) (Ne.symm ne_hN.out) _), ht.out.but hB.out, hp.out.len, hp.out.pos⟩
 obtain ⟨w4, hw⟩ := nmZ ((w2.setCell ⟨(w.heap.size + 1), 0, none⟩ (Iz (max pi 0))))
 have hsw : Hid (w2.heap.size = w4.heap.size) := by unfold Hid; rw [← hw.out]; simp
 rw [hw.out] at hR hN hB hp ⊢
 clear hw hNc0 hNf0 hNl
 try rw [hsw.out]
 clear hsw
 refine (word_any _ _ _ _).mono ?_
 rintro x wz ⟨rfl, rfl⟩
 go_wp2_with fail
 have hR := hdZ (hR.out.below (bwz w4 wCz) hR.out.lt)
 have hN := hdZ (hN.out.below (bwz w4 wCz) hN.out.lt)
 have hB := hdZ (hB.out.below (bwz w4 wCz))
 have hp := hdZ (hp.out.below (bwz w4 wCz))
 obtain ⟨⟨t3, s3⟩, h3⟩ := nmZ (tkz e l (wdz wCz) s2)
 refine (tnz (wOne w4 wCz) pb A c e l s2 131 _ e131 (wdz wCz) hp (word_new w4 wCz)).mono ?_
 rintro x w5 ⟨rfl, hu, hq⟩
 rw [h3.out] at hq ⊢
 have hR := hdZ (hu.blk hR.out ne_hR.out)
 have hN := hdZ (hu.blk hN.out ne_hN.out)
 have hB := hdZ (hB.out.trans hu)
 have hp := hdZ hq
 clear hu hq
 simp only at hp ⊢
 go_wp2_with fail
 obtain ⟨⟨n4, s4⟩, h4⟩ := nmZ (numS e l 1 9 s3)
 refine (number_any w5 pb A c e l s3 1 9 hp hok).mono ?_
 rintro x w6 ⟨rfl, hu, hq⟩
 rw [h4.out] at hq ⊢
 have hR := hdZ (hu.blk hR.out ne_hR.out)
 have hN := hdZ (hu.blk hN.out ne_hN.out)
 have hB := hdZ (hB.out.trans hu)
 have hp := hdZ hq
 clear hu hq
 simp only at hp ⊢
 have hNc1 : w6.cell? ⟨(w.heap.size + 1), 1, none⟩ = some (Iz 0) := hN.out.cell 1
 have hNf1 := hN.out.frozen 1
 have hNl := hN.out.lt
 go_wp2_with fail
 have hN : Hid (Blk (w6.setCell ⟨(w.heap.size + 1), 1, none⟩ (Iz n4)) (w.heap.size + 1) 74 (z3z (max pi 0) n4 0 0 0 none 0 0)) := (hN.out.set_ 1 (Iz n4))
 have hR : Hid (Blk (w6.setCell ⟨(w.heap.size + 1), 1, none⟩ (Iz n4)) w.heap.size 74 (z3z 0 0 0 0 0 none 0 0)) := (hR.out.far (p := ⟨(w.heap.size + 1), 1, none⟩) ne_rn.out _)
 have hB : Hid (But pb w (w6.setCell ⟨(w.heap.size + 1), 1, none⟩ (Iz n4))) := (hB.out.far hle1.out _ _)
 have hp : Hid (ParAt (w6.setCell ⟨(w.heap.size + 1), 1, none⟩ (Iz n4)) pb A c e l s4) := ⟨(hp.out.row.far (p := ⟨(w.heap.size + 1), 1, none⟩) (Ne.symm ne_hN.out) _), ht.out.but hB.out, hp.out.len, hp.out.pos⟩
 obtain ⟨w7, hw⟩ := nmZ ((w6.setCell ⟨(w.heap.size + 1), 1, none⟩ (Iz n4)))
 have hsw : Hid (w6.heap.size = w7.heap.size) := by unfold Hid; rw [← hw.out]; simp
 rw [hw.out] at hR hN hB hp ⊢
 clear hw hNc1 hNf1 hNl
 try rw [hsw.out]
 clear hsw
 refine (word_any _ _ _ _).mono ?_
 rintro x wz ⟨rfl, rfl⟩
 go_wp2_with fail
 have hR := hdZ (hR.out.below (bwz w7 wWith) hR.out.lt)
 have hN := hdZ (hN.out.below (bwz w7 wWith) hN.out.lt)
 have hB := hdZ (hB.out.below (bwz w7 wWith))
 have hp := hdZ (hp.out.below (bwz w7 wWith))
 obtain ⟨b5, h5⟩ := nmZ (askS l s4 0 (wdz wWith))
 refine (sees_any (wOne w7 wWith) pb A c e l s4 131 _ e131 (wdz wWith) hp (word_new w7 wWith)).mono ?_
 rintro x w8 ⟨rfl, hb⟩
 rw [h5.out]
 have hR := hdZ (hR.out.below hb hR.out.lt)
 have hN := hdZ (hN.out.below hb hN.out.lt)
 have hB := hdZ (hB.out.below hb)
 have hp := hdZ (hp.out.below hb)
 clear hb
 have hr0 : Hid (needS e l st = ((max pi 0, n4, (withS e l s4).1), endS e l (withS e l s4).2)) := by unfold Hid needS; simp only [h1.out, h2.out, h3.out, h4.out, hpi.out]
 cases b5 with
 | false =>
  have hwi : Hid (withS e l s4 = (emptyR, s4)) := by unfold Hid withS; rw [if_neg (by rw [h5.out]; simp)]
  rw [hwi.out] at hr0; go_wp2_with fail; refine (end_any w8 pb A c e l s4 hp).mono ?_; rintro x w9 ⟨rfl, hu, hq⟩; have hR := hdZ (hu.blk hR.out ne_hR.out); have hN := hdZ (hu.blk hN.out ne_hN.out); have hB := hdZ (hB.out.trans hu); have hp := hdZ hq; clear hu hq; obtain ⟨hNc0, hNc1, hNc2, hNc3, hNc4, hNc5, hNc6, hNc7, hNf0, hNf1, hNf2, hNf3, hNf4, hNf5, hNf6, hNf7⟩ := cf8 hN.out; have hNl := hN.out.lt; obtain ⟨hRc0, hRc1, hRc2, hRc3, hRc4, hRc5, hRc6, hRc7, hRf0, hRf1, hRf2, hRf3, hRf4, hRf5, hRf6, hRf7⟩ := cf8 hR.out; have hRl := hR.out.lt; go_wp2_with fail; refine bodyPost_ret (rrz rfl _ _ w.heap.size 74 _ _ rfl (((((((((hR.out.set_ 0 _).set_ 1 _).set_ 2 _).set_ 3 _).set_ 4 _).set_ 5 _).set_ 6 _).set_ 7 _)) Tryz.underlying74 rfl (by kernel_rfl)) rfl ?_; unfold Needed; rw [hr0.out]; refine ⟨((((((((hB.out.far leZ _ _).far leZ _ _).far leZ _ _).far leZ _ _).far leZ _ _).far leZ _ _).far leZ _ _).far leZ _ _), ⟨((((((((hp.out.row.far (p := (Az w.heap.size 0)) (Ne.symm ne_hR.out) _).far (p := (Az w.heap.size 1)) (Ne.symm ne_hR.out) _).far (p := (Az w.heap.size 2)) (Ne.symm ne_hR.out) _).far (p := (Az w.heap.size 3)) (Ne.symm ne_hR.out) _).far (p := (Az w.heap.size 4)) (Ne.symm ne_hR.out) _).far (p := (Az w.heap.size 5)) (Ne.symm ne_hR.out) _).far (p := (Az w.heap.size 6)) (Ne.symm ne_hR.out) _).far (p := (Az w.heap.size 7)) (Ne.symm ne_hR.out) _), ht.out.but ((((((((hB.out.far leZ _ _).far leZ _ _).far leZ _ _).far leZ _ _).far leZ _ _).far leZ _ _).far leZ _ _).far leZ _ _), hp.out.len, hp.out.pos⟩, .mk 0 0 [] [] 0 none 0 [], rfl, ?_, slz _ _ _ _ _ _ _⟩; exact tlz _ _ _ _ _ _ _ _ _
 | true =>
  obtain ⟨hcd, tk0, hlk, _, _⟩ := ask_step h5.out; have hlt : s4.k < l.length := (List.getElem?_eq_some_iff.1 hlk).1; have hwi : Hid (withS e l s4 = wholeG e l s4.step) := by unfold Hid withS; rw [if_pos h5.out]
  rw [hwi.out] at hr0; have hfu := whole_fuel (e := e) (st := s4.step) (.inr (show s4.k + 1 ≤ l.length by omega)); obtain ⟨⟨rr, s5⟩, h6⟩ := nmZ (wholeG e l s4.step); rw [h6.out] at hfu hr0; obtain ⟨k1, hk1⟩ := nmZ (s4.k); have hpar := hdZ (step_par hp.out hlt k1 hk1.out); have hu : Hid (But pb w8 (w8.setCell (Az pb 1) (Iz ((k1 : Int) + 1)))) := (But.refl pb _).setCell _ _; have c1 : w8.cell? (Az pb 1) = some (Iz k1) := by rw [← hk1.out]; exact hp.out.row.cell 1
  have y1 := hp.out.row.frozen 1; have hln := hp.out.len; have hlt1 := hp.out.row.lt; rw [hk1.out] at hlt; have w1' : IntKind.i64.wrap ((k1 : Int) + 1) = (k1 : Int) + 1 := IntWalk.i64_in _ (by omega); clear hlk; go_wp2_with fail; obtain ⟨wy, hwy⟩ := nmZ (w8.setCell (Az pb 1) (Iz ((k1 : Int) + 1))); have hR := hdZ (hu.out.blk hR.out ne_hR.out); have hN := hdZ (hu.out.blk hN.out ne_hN.out); have hB := hdZ (hB.out.trans hu.out); rw [hwy.out] at hpar hB hR hN ⊢; have hp := hpar; clear hwy hu hpar c1 y1; have hszy : Hid (w.heap.size + 2 ≤ wy.heap.size) := by have := hN.out.lt; unfold Hid; omega
  refine (whole_any pb A c e l h8 hok (2 * l.length + 2) (by omega) wy s4.step (rr, s5) hfu hp (hdZ (he.out.but hB.out h8.out))).mono ?_; rintro x w19 ⟨hu, hq, ⟨uk, up, uf, ux, un, uA, uc, uL⟩, rfl, htr, hst⟩; have hR := hdZ (hu.blk hR.out ne_hR.out); have hN := hdZ (hu.blk hN.out ne_hN.out); have hB := hdZ (hB.out.trans hu); have hp := hdZ hq; clear hu hq; simp only at hp ⊢; have htr : Hid (TAz w19 (fun b => w.heap.size + 2 ≤ b) _) := htr.mono (fun b _ hk => Nat.le_trans hszy.out hk); unfold Tree.cells; obtain ⟨hNc0, hNc1, hNc2, hNc3, hNc4, hNc5, hNc6, hNc7, hNf0, hNf1, hNf2, hNf3, hNf4, hNf5, hNf6, hNf7⟩ := cf8 hN.out; have hNl := hN.out.lt; go_wp2_with fail; have hh : ∀ b, w.heap.size + 2 ≤ b → b ≠ w.heap.size + 1 := fun b hb => by omega
  have htr : Hid (TAz ((((((w19.setCell ⟨(w.heap.size + 1), 2, none⟩ (Iz uk)).setCell ⟨(w.heap.size + 1), 3, none⟩ (Iz up)).setCell ⟨(w.heap.size + 1), 4, none⟩ (Sz uf)).setCell ⟨(w.heap.size + 1), 5, none⟩ (Sz ux)).setCell ⟨(w.heap.size + 1), 6, none⟩ (Iz un)).setCell ⟨(w.heap.size + 1), 7, none⟩ (.slice uA uL.length uc)) (fun b => w.heap.size + 2 ≤ b) (.mk uk up uf ux un uA uc uL)) := ((((((htr.out.far hh 2 _).far hh 3 _).far hh 4 _).far hh 5 _).far hh 6 _).far hh 7 _); have hN : Hid (Blk ((((((w19.setCell ⟨(w.heap.size + 1), 2, none⟩ (Iz uk)).setCell ⟨(w.heap.size + 1), 3, none⟩ (Iz up)).setCell ⟨(w.heap.size + 1), 4, none⟩ (Sz uf)).setCell ⟨(w.heap.size + 1), 5, none⟩ (Sz ux)).setCell ⟨(w.heap.size + 1), 6, none⟩ (Iz un)).setCell ⟨(w.heap.size + 1), 7, none⟩ (.slice uA uL.length uc)) (w.heap.size + 1) 74 (z4z (max pi 0) n4 uk up uf ux un uA uL.length uc)) := ((((((hN.out.set_ 2 (Iz uk)).set_ 3 (Iz up)).set_ 4 (Sz uf)).set_ 5 (Sz ux)).set_ 6 (Iz un)).set_ 7 (.slice uA uL.length uc)); have hR : Hid (Blk ((((((w19.setCell ⟨(w.heap.size + 1), 2, none⟩ (Iz uk)).setCell ⟨(w.heap.size + 1), 3, none⟩ (Iz up)).setCell ⟨(w.heap.size + 1), 4, none⟩ (Sz uf)).setCell ⟨(w.heap.size + 1), 5, none⟩ (Sz ux)).setCell ⟨(w.heap.size + 1), 6, none⟩ (Iz un)).setCell ⟨(w.heap.size + 1), 7, none⟩ (.slice uA uL.length uc)) w.heap.size 74 (z3z 0 0 0 0 0 none 0 0)) := ((((((hR.out.far (p := ⟨(w.heap.size + 1), 2, none⟩) ne_rn.out _).far (p := ⟨(w.heap.size + 1), 3, none⟩) ne_rn.out _).far (p := ⟨(w.heap.size + 1), 4, none⟩) ne_rn.out _).far (p := ⟨(w.heap.size + 1), 5, none⟩) ne_rn.out _).far (p := ⟨(w.heap.size + 1), 6, none⟩) ne_rn.out _).far (p := ⟨(w.heap.size + 1), 7, none⟩) ne_rn.out _); have hB : Hid (But pb w ((((((w19.setCell ⟨(w.heap.size + 1), 2, none⟩ (Iz uk)).setCell ⟨(w.heap.size + 1), 3, none⟩ (Iz up)).setCell ⟨(w.heap.size + 1), 4, none⟩ (Sz uf)).setCell ⟨(w.heap.size + 1), 5, none⟩ (Sz ux)).setCell ⟨(w.heap.size + 1), 6, none⟩ (Iz un)).setCell ⟨(w.heap.size + 1), 7, none⟩ (.slice uA uL.length uc))) := ((((((hB.out.far hle1.out _ _).far hle1.out _ _).far hle1.out _ _).far hle1.out _ _).far hle1.out _ _).far hle1.out _ _); have hp : Hid (ParAt ((((((w19.setCell ⟨(w.heap.size + 1), 2, none⟩ (Iz uk)).setCell ⟨(w.heap.size + 1), 3, none⟩ (Iz up)).setCell ⟨(w.heap.size + 1), 4, none⟩ (Sz uf)).setCell ⟨(w.heap.size + 1), 5, none⟩ (Sz ux)).setCell ⟨(w.heap.size + 1), 6, none⟩ (Iz un)).setCell ⟨(w.heap.size + 1), 7, none⟩ (.slice uA uL.length uc)) pb A c e l s5) := ⟨((((((hp.out.row.far (p := ⟨(w.heap.size + 1), 2, none⟩) (Ne.symm ne_hN.out) _).far (p := ⟨(w.heap.size + 1), 3, none⟩) (Ne.symm ne_hN.out) _).far (p := ⟨(w.heap.size + 1), 4, none⟩) (Ne.symm ne_hN.out) _).far (p := ⟨(w.heap.size + 1), 5, none⟩) (Ne.symm ne_hN.out) _).far (p := ⟨(w.heap.size + 1), 6, none⟩) (Ne.symm ne_hN.out) _).far (p := ⟨(w.heap.size + 1), 7, none⟩) (Ne.symm ne_hN.out) _), ht.out.but hB.out, hp.out.len, hp.out.pos⟩
  obtain ⟨w20, hw⟩ := nmZ (((((((w19.setCell ⟨(w.heap.size + 1), 2, none⟩ (Iz uk)).setCell ⟨(w.heap.size + 1), 3, none⟩ (Iz up)).setCell ⟨(w.heap.size + 1), 4, none⟩ (Sz uf)).setCell ⟨(w.heap.size + 1), 5, none⟩ (Sz ux)).setCell ⟨(w.heap.size + 1), 6, none⟩ (Iz un)).setCell ⟨(w.heap.size + 1), 7, none⟩ (.slice uA uL.length uc))); have hsw : Hid (w19.heap.size = w20.heap.size) := by unfold Hid; rw [← hw.out]; simp
  rw [hw.out] at hR hN hB hp htr ⊢; clear hw hNc0 hNf0 hNc1 hNf1 hNc2 hNf2 hNc3 hNf3 hNc4 hNf4 hNc5 hNf5 hNc6 hNf6 hNc7 hNf7 hNl; try rw [hsw.out]
  clear hsw; refine (end_any w20 pb A c e l s5 hp).mono ?_; rintro x w21 ⟨rfl, hu, hq⟩; have hR := hdZ (hu.blk hR.out ne_hR.out); have hN := hdZ (hu.blk hN.out ne_hN.out); have hB := hdZ (hB.out.trans hu); have hp := hdZ hq; have htr := hdZ (htr.out.but hu (fun b hb => by have := hp.out.row; have := hpbs.out; omega)); clear hu hq; clear hh; obtain ⟨hNc0, hNc1, hNc2, hNc3, hNc4, hNc5, hNc6, hNc7, hNf0, hNf1, hNf2, hNf3, hNf4, hNf5, hNf6, hNf7⟩ := cf8 hN.out; have hNl := hN.out.lt; obtain ⟨hRc0, hRc1, hRc2, hRc3, hRc4, hRc5, hRc6, hRc7, hRf0, hRf1, hRf2, hRf3, hRf4, hRf5, hRf6, hRf7⟩ := cf8 hR.out; have hRl := hR.out.lt; go_wp2_with fail; refine bodyPost_ret (rrz rfl _ _ w.heap.size 74 _ _ rfl (((((((((hR.out.set_ 0 _).set_ 1 _).set_ 2 _).set_ 3 _).set_ 4 _).set_ 5 _).set_ 6 _).set_ 7 _)) Tryz.underlying74 rfl (by kernel_rfl)) rfl ?_; unfold Needed; rw [hr0.out]; refine ⟨((((((((hB.out.far leZ _ _).far leZ _ _).far leZ _ _).far leZ _ _).far leZ _ _).far leZ _ _).far leZ _ _).far leZ _ _), ⟨((((((((hp.out.row.far (p := (Az w.heap.size 0)) (Ne.symm ne_hR.out) _).far (p := (Az w.heap.size 1)) (Ne.symm ne_hR.out) _).far (p := (Az w.heap.size 2)) (Ne.symm ne_hR.out) _).far (p := (Az w.heap.size 3)) (Ne.symm ne_hR.out) _).far (p := (Az w.heap.size 4)) (Ne.symm ne_hR.out) _).far (p := (Az w.heap.size 5)) (Ne.symm ne_hR.out) _).far (p := (Az w.heap.size 6)) (Ne.symm ne_hR.out) _).far (p := (Az w.heap.size 7)) (Ne.symm ne_hR.out) _), ht.out.but ((((((((hB.out.far leZ _ _).far leZ _ _).far leZ _ _).far leZ _ _).far leZ _ _).far leZ _ _).far leZ _ _).far leZ _ _), hp.out.len, hp.out.pos⟩, .mk uk up uf ux un uA uc uL, rfl, ?_, hst⟩; have hh : ∀ b, w.heap.size + 2 ≤ b → b ≠ w.heap.size := fun b hb => by omega
  exact (((((((((htr.out.far hh 0 _).far hh 1 _).far hh 2 _).far hh 3 _).far hh 4 _).far hh 5 _).far hh 6 _).far hh 7 _)).mono (fun b _ hk => by omega)
end Go.Proofs.YtjkmhlfjheiekaaGreatDoor

import Derived.Test.YtjkmhlfjheiekaaGreatDoorR
namespace Go.Proofs.YtjkmhlfjheiekaaGreatDoor
open Go Go.RowKit Go.BigFrame Go.Maps
def atomS (e : Nat) (l : List Tok) (st : St) : Rul × St :=
 if (takeS e l compB (takeS e l namedB st).2).1 = sEq then
  (if askS l (takeS e l compB (takeS e l namedB st).2).2 0 paperB = true then
   (.mk 7 (paperI (takeS e l paperB (takeS e l compB (takeS e l namedB st).2).2).1) (takeS e l namedB st).1 (takeS e l namedB (takeS e l (signB sDot) (takeS e l paperB (takeS e l compB (takeS e l namedB st).2).2).2).2).1 0 [],
    (takeS e l namedB (takeS e l (signB sDot) (takeS e l paperB (takeS e l compB (takeS e l namedB st).2).2).2).2).2)
   else (.mk 3 0 (takeS e l namedB st).1 (takeS e l (kindB 3) (takeS e l compB (takeS e l namedB st).2).2).1 0 [], (takeS e l (kindB 3) (takeS e l compB (takeS e l namedB st).2).2).2))
 else if (takeS e l compB (takeS e l namedB st).2).1 = sTilde then (.mk 4 0 (takeS e l namedB st).1 (takeS e l (kindB 3) (takeS e l compB (takeS e l namedB st).2).2).1 0 [], (takeS e l (kindB 3) (takeS e l compB (takeS e l namedB st).2).2).2)
 else if (takeS e l compB (takeS e l namedB st).2).1 = sLe then (.mk 5 0 (takeS e l namedB st).1 [] (numS e l 0 1099511627776 (takeS e l compB (takeS e l namedB st).2).2).1 [], (numS e l 0 1099511627776 (takeS e l compB (takeS e l namedB st).2).2).2)
 else if (takeS e l compB (takeS e l namedB st).2).1 = sGe then (.mk 6 0 (takeS e l namedB st).1 [] (numS e l 0 1099511627776 (takeS e l compB (takeS e l namedB st).2).2).1 [], (numS e l 0 1099511627776 (takeS e l compB (takeS e l namedB st).2).2).2)
 else (.mk 0 0 (takeS e l namedB st).1 [] 0 [], (takeS e l compB (takeS e l namedB st).2).2)
set_option maxRecDepth 100000 in
set_option maxHeartbeats 6400000 in
theorem atom_any (w : World) (pb : Nat) (A : Option Addr) (c e : Nat) (l : List Tok) (st : St) (hp : Hid (ParAt w pb A c e l st)) (hok : Hid (TokOk l)) (he : Hid (Env w)) (h8 : Hid (8 ≤ pb)) :
  Calls Tryz.prog 165 #[.pointer (some ⟨pb, 0, none⟩)] w (Ruled w pb A c e l (atomS e l st)) := by
 have e125 : ∀ (args : Array Value) (w : World), (callFunc 125 args).run Tryz.prog w = .ok (.enter 125 args) w := enters_of Tryz.func125 (by kernel_rfl) rfl
 have e164 : ∀ (args : Array Value) (w : World), (callFunc 164 args).run Tryz.prog w = .ok (.enter 164 args) w := enters_of Tryz.func164 (by kernel_rfl) rfl
 have e137 : ∀ (args : Array Value) (w : World), (callFunc 137 args).run Tryz.prog w = .ok (.enter 137 args) w := enters_of Tryz.func137 (by kernel_rfl) rfl
 have e159 : ∀ (args : Array Value) (w : World), (callFunc 159 args).run Tryz.prog w = .ok (.enter 159 args) w := enters_of Tryz.func159 (by kernel_rfl) rfl
 have e161 : ∀ (args : Array Value) (w : World), (callFunc 161 args).run Tryz.prog w = .ok (.enter 161 args) w := enters_of Tryz.func161 (by kernel_rfl) rfl
 have hlt0 := hp.out.row.lt
 have hR0 : Hid (Blk (w.alloc (.cells zeroN 25)) w.heap.size 25 zeroN) := Blk.new w 25 zeroN
 have hB0 : Hid (But pb w (w.alloc (.cells zeroN 25))) := (But.refl pb w).below ((Below.refl _ w).alloc le9 _)
 have hp0 : Hid (ParAt (w.alloc (.cells zeroN 25)) pb A c e l st) := hp.out.below ((Below.refl _ w).alloc le9 _)
 have hneR : Hid (w.heap.size ≠ pb) := by unfold Hid; omega
 obtain ⟨⟨ft, s1⟩, hft⟩ : ∃ r, Hid (takeS e l namedB st = r) := ⟨_, hd9 rfl⟩
 obtain ⟨⟨ot, s2⟩, hot⟩ : ∃ r, Hid (takeS e l compB s1 = r) := ⟨_, hd9 rfl⟩
 go_enter Tryz.func165, Tryz.ntmps165
 go_wp2_with fail
 refine (take_any (w.alloc (.cells zeroN 25)) pb A c e l st 125 #[] e125 namedB hp0 (named_fits _)).mono ?_
 rintro x w1 ⟨rfl, hu1, hp1⟩
 rw [hft.out] at hp1
 rw [hft.out]
 have hneN : Hid (w1.heap.size ≠ pb) := by have := hp1.row.lt; unfold Hid; omega
 have hsz1 : Hid (w.heap.size + 1 ≤ w1.heap.size) := by have := hu1.size; unfold Hid; simpa using this
 have hle1 : Hid (w.heap.size ≤ w1.heap.size) := by have := hsz1.out; unfold Hid; omega
 have hneNR : Hid (w1.heap.size ≠ w.heap.size) := by have := hsz1.out; unfold Hid; omega
 have hNa : Hid (Blk (w1.alloc (.cells #[.int .i64 0, .int .i64 0, .string ⟨ft.toArray⟩, .string ⟨#[]⟩, .int .i64 0, .slice none 0 0] 25)) w1.heap.size 25 #[.int .i64 0, .int .i64 0, .string ⟨ft.toArray⟩, .string ⟨#[]⟩, .int .i64 0, .slice none 0 0]) := Blk.new w1 25 _
 have hRa : Hid (Blk (w1.alloc (.cells #[.int .i64 0, .int .i64 0, .string ⟨ft.toArray⟩, .string ⟨#[]⟩, .int .i64 0, .slice none 0 0] 25)) w.heap.size 25 zeroN) := (hu1.blk hR0.out hneR.out).alloc _
 have hpa : Hid (ParAt (w1.alloc (.cells #[.int .i64 0, .int .i64 0, .string ⟨ft.toArray⟩, .string ⟨#[]⟩, .int .i64 0, .slice none 0 0] 25)) pb A c e l s1) := hp1.below ((Below.refl _ w1).alloc le9 _)
 have hBa : Hid (But pb w (w1.alloc (.cells #[.int .i64 0, .int .i64 0, .string ⟨ft.toArray⟩, .string ⟨#[]⟩, .int .i64 0, .slice none 0 0] 25))) := (hB0.out.trans hu1).below ((Below.refl _ w1).alloc le9 _)
 go_wp2_with fail
 obtain ⟨wa, hwa⟩ : ∃ wa, Hid (w1.alloc (.cells #[.int .i64 0, .int .i64 0, .string ⟨ft.toArray⟩, .string ⟨#[]⟩, .int .i64 0, .slice none 0 0] 25) = wa) := ⟨_, hd9 rfl⟩
 rw [hwa.out] at hNa hRa hpa hBa ⊢
 clear hwa hp1 hu1 hp0 hB0 hR0
 have hN := hNa
 have hR := hRa
 have hB := hBa
 clear hNa hRa hBa
 refine (take_any wa pb A c e l s1 164 #[] e164 compB hpa (comp_fits _)).mono ?_
 rintro x w2 ⟨rfl, hu, hq⟩
 rw [hot.out] at hq
 rw [hot.out]
 have hB := hd9 (hB.out.trans hu)
 have hN := hd9 (hu.blk hN.out hneN.out)
 have hR := hd9 (hu.blk hR.out hneR.out)
 have hp2 := hd9 hq
 clear hu hq
 have hlt2 := hp2.out.row.lt
 have he2 := hd9 (he.out.but hB.out h8.out)
 have hA : Hid (atomS e l st = (if ot = sEq then (if askS l s2 0 paperB = true then (.mk 7 (paperI (takeS e l paperB s2).1) ft (takeS e l namedB (takeS e l (signB sDot) (takeS e l paperB s2).2).2).1 0 [], (takeS e l namedB (takeS e l (signB sDot) (takeS e l paperB s2).2).2).2) else (.mk 3 0 ft (takeS e l (kindB 3) s2).1 0 [], (takeS e l (kindB 3) s2).2)) else if ot = sTilde then (.mk 4 0 ft (takeS e l (kindB 3) s2).1 0 [], (takeS e l (kindB 3) s2).2) else if ot = sLe then (.mk 5 0 ft [] (numS e l 0 1099511627776 s2).1 [], (numS e l 0 1099511627776 s2).2) else if ot = sGe then (.mk 6 0 ft [] (numS e l 0 1099511627776 s2).1 [], (numS e l 0 1099511627776 s2).2) else (.mk 0 0 ft [] 0 [], s2))) := by unfold Hid atomS; rw [hft.out]; simp only; rw [hot.out]
 by_cases h1 : ot = sEq
 ·have q1 : (ot == [61]) = true := by rw [h1]; rfl
  rw [if_pos h1] at hA
  clear h1
  go_wp2_with fail
  refine (sees_any w2 pb A c e l s2 137 #[] e137 paperB hp2 (paper_fits he2)).mono ?_
  rintro x w3 ⟨rfl, hb3⟩
  have hN := hd9 (hN.out.below hb3 hN.out.lt)
  have hR := hd9 (hR.out.below hb3 hR.out.lt)
  have hB := hd9 (hB.out.below hb3)
  have hp3 := hd9 (hp2.out.below hb3)
  clear hb3
  obtain ⟨pv, hpv⟩ : ∃ b, Hid (askS l s2 0 paperB = b) := ⟨_, hd9 rfl⟩
  rw [hpv.out] at hA ⊢
  cases pv with
  | true =>
   rw [if_pos rfl] at hA
   obtain ⟨nc0, nc1, nc2, nc3, nc4, nc5, nf0, nf1, nf2, nf3, nf4, nf5⟩ := cf6 hN.out
   have nlt := hN.out.lt
   go_wp2_with fail
   clear nc0 nf0 nc1 nf1 nc2 nf2 nc3 nf3 nc4 nf4 nc5 nf5 nlt
   have hN : Hid (Blk (w3.setCell ⟨w1.heap.size, 0, none⟩ (.int .i64 7)) w1.heap.size 25 #[.int .i64 7, .int .i64 0, .string ⟨ft.toArray⟩, .string ⟨#[]⟩, .int .i64 0, .slice none 0 0]) := hN.out.set_ 0 (.int .i64 7)
   have hR : Hid (Blk (w3.setCell ⟨w1.heap.size, 0, none⟩ (.int .i64 7)) w.heap.size 25 zeroN) := hR.out.far (p := ⟨w1.heap.size, 0, none⟩) hneNR.out.symm _
   have hB : Hid (But pb w (w3.setCell ⟨w1.heap.size, 0, none⟩ (.int .i64 7))) := hB.out.far hle1.out _ _
   have hp4 : Hid (ParAt (w3.setCell ⟨w1.heap.size, 0, none⟩ (.int .i64 7)) pb A c e l _) := ⟨hp3.out.row.far (p := ⟨w1.heap.size, 0, none⟩) hneN.out.symm _, hp.out.tok.but hB.out, hp3.out.len, hp3.out.pos⟩
   obtain ⟨w4, hw⟩ : ∃ x, Hid ((w3.setCell ⟨w1.heap.size, 0, none⟩ (.int .i64 7)) = x) := ⟨_, hd9 rfl⟩
   rw [hw.out] at hN hR hB hp4 ⊢
   clear hw
   obtain ⟨⟨xt, s3⟩, hx⟩ : ∃ r, Hid (takeS e l paperB s2 = r) := ⟨_, hd9 rfl⟩
   have he4 := hd9 (he.out.but hB.out h8.out)
   refine (take_any w4 pb A c e l s2 137 #[] e137 paperB hp4 (paper_fits he4)).mono ?_
   rintro x w5 ⟨rfl, hu, hq⟩
   rw [hx.out] at hq
   rw [hx.out]
   have hB := hd9 (hB.out.trans hu)
   have hN := hd9 (hu.blk hN.out hneN.out)
   have hR := hd9 (hu.blk hR.out hneR.out)
   have hp5 := hd9 hq
   clear hu hq
   have he5 := hd9 (he.out.but hB.out h8.out)
   have hpo := hd9 (paperOf_any ⟨xt.toArray⟩ w5 he5)
   rw [show (⟨xt.toArray⟩ : ByteArray).data.toList = xt by simp] at hpo
   obtain ⟨pi, hpi⟩ : ∃ r, Hid (paperI xt = r) := ⟨_, hd9 rfl⟩
   rw [hx.out] at hA
   try simp only at hA
   rw [hpi.out] at hA hpo
   go_wp2_with fail
   refine hpo.out.mono ?_
   rintro x w6 ⟨rfl, rfl⟩
   obtain ⟨nc0, nc1, nc2, nc3, nc4, nc5, nf0, nf1, nf2, nf3, nf4, nf5⟩ := cf6 hN.out
   have nlt := hN.out.lt
   go_wp2_with fail
   clear nc0 nf0 nc1 nf1 nc2 nf2 nc3 nf3 nc4 nf4 nc5 nf5 nlt
   have hN : Hid (Blk (w5.setCell ⟨w1.heap.size, 1, none⟩ (.int .i64 pi)) w1.heap.size 25 #[.int .i64 7, .int .i64 pi, .string ⟨ft.toArray⟩, .string ⟨#[]⟩, .int .i64 0, .slice none 0 0]) := hN.out.set_ 1 (.int .i64 pi)
   have hR : Hid (Blk (w5.setCell ⟨w1.heap.size, 1, none⟩ (.int .i64 pi)) w.heap.size 25 zeroN) := hR.out.far (p := ⟨w1.heap.size, 1, none⟩) hneNR.out.symm _
   have hB : Hid (But pb w (w5.setCell ⟨w1.heap.size, 1, none⟩ (.int .i64 pi))) := hB.out.far hle1.out _ _
   have hp6 : Hid (ParAt (w5.setCell ⟨w1.heap.size, 1, none⟩ (.int .i64 pi)) pb A c e l _) := ⟨hp5.out.row.far (p := ⟨w1.heap.size, 1, none⟩) hneN.out.symm _, hp.out.tok.but hB.out, hp5.out.len, hp5.out.pos⟩
   obtain ⟨w6, hw⟩ : ∃ x, Hid ((w5.setCell ⟨w1.heap.size, 1, none⟩ (.int .i64 pi)) = x) := ⟨_, hd9 rfl⟩
   have hsw : Hid (w5.heap.size = w6.heap.size) := by unfold Hid; rw [← hw.out]; simp
   rw [hw.out] at hN hR hB hp6 ⊢
   clear hw
   rw [hsw.out]
   refine (sgn_any _ _ _ _).mono ?_
   rintro x w7 ⟨rfl, rfl⟩
   change _
   have hN : Hid (Blk (wOne w6 sDot) _ 25 _) := hN.out.below (by first | exact (Below.refl _ w6).alloc le9 _ | exact below_wOne _ _) hN.out.lt
   have hR : Hid (Blk (wOne w6 sDot) _ 25 _) := hR.out.below (by first | exact (Below.refl _ w6).alloc le9 _ | exact below_wOne _ _) hR.out.lt
   have hB : Hid (But pb w (wOne w6 sDot)) := hB.out.below (by first | exact (Below.refl _ w6).alloc le9 _ | exact below_wOne _ _)
   have hp7 : Hid (ParAt (wOne w6 sDot) pb A c e l _) := hp6.out.below (by first | exact (Below.refl _ w6).alloc le9 _ | exact below_wOne _ _)
   obtain ⟨⟨dt, s4⟩, hd⟩ : ∃ r, Hid (takeS e l (signB sDot) s3 = r) := ⟨_, hd9 rfl⟩
   rw [hd.out] at hA
   go_wp2_with fail
   refine (take_any (wOne w6 sDot) pb A c e l s3 161 _ e161 (signB sDot) hp7 (sign_new w6 sDot)).mono ?_
   rintro x w8 ⟨rfl, hu, hq⟩
   rw [hd.out] at hq
   rw [hd.out]
   have hB := hd9 (hB.out.trans hu)
   have hN := hd9 (hu.blk hN.out hneN.out)
   have hR := hd9 (hu.blk hR.out hneR.out)
   have hp8 := hd9 hq
   clear hu hq
   obtain ⟨⟨yt, s5⟩, hy⟩ : ∃ r, Hid (takeS e l namedB s4 = r) := ⟨_, hd9 rfl⟩
   try simp only at hA
   rw [hy.out] at hA
   go_wp2_with fail
   refine (take_any w8 pb A c e l s4 125 #[] e125 namedB hp8 (named_fits _)).mono ?_
   rintro x w9 ⟨rfl, hu, hq⟩
   rw [hy.out] at hq
   rw [hy.out]
   have hB := hd9 (hB.out.trans hu)
   have hN := hd9 (hu.blk hN.out hneN.out)
   have hR := hd9 (hu.blk hR.out hneR.out)
   have hp9 := hd9 hq
   clear hu hq
   obtain ⟨nc0, nc1, nc2, nc3, nc4, nc5, nf0, nf1, nf2, nf3, nf4, nf5⟩ := cf6 hN.out
   have nlt := hN.out.lt
   obtain ⟨rc0, rc1, rc2, rc3, rc4, rc5, rf0, rf1, rf2, rf3, rf4, rf5⟩ := cf6 hR.out
   have rlt := hR.out.lt
   have ne1 : w1.heap.size ≠ w.heap.size := hneNR.out
   have ne2 : w.heap.size ≠ w1.heap.size := fun h => hneNR.out h.symm
   go_wp2_with fail
   refine bodyPost_ret (results_row rfl _ _ w.heap.size 25 _ _ rfl (((((((hR.out.far (p := ⟨w1.heap.size, 3, none⟩) hneNR.out.symm _).set_ 0 _).set_ 1 _).set_ 2 _).set_ 3 _).set_ 4 _).set_ 5 _) Tryz.underlying25 rfl (by kernel_rfl)) rfl ?_
   unfold Ruled
   rw [hA.out]
   refine ⟨(((((((hB.out.far hle1.out _ _).far le9 _ _).far le9 _ _).far le9 _ _).far le9 _ _).far le9 _ _).far le9 _ _), ⟨(((((((hp9.out.row.far (p := ⟨w1.heap.size, 3, none⟩) hneN.out.symm _).far (p := ⟨w.heap.size, 0, none⟩) hneR.out.symm _).far (p := ⟨w.heap.size, 1, none⟩) hneR.out.symm _).far (p := ⟨w.heap.size, 2, none⟩) hneR.out.symm _).far (p := ⟨w.heap.size, 3, none⟩) hneR.out.symm _).far (p := ⟨w.heap.size, 4, none⟩) hneR.out.symm _).far (p := ⟨w.heap.size, 5, none⟩) hneR.out.symm _), hp.out.tok.but (((((((hB.out.far hle1.out _ _).far le9 _ _).far le9 _ _).far le9 _ _).far le9 _ _).far le9 _ _).far le9 _ _), hp9.out.len, hp9.out.pos⟩, .mk 7 pi ft yt 0 none 0 [], rfl, tree_leaf _ _ _ _ _ _ _ _ _, strip_leaf _ _ _ _ _ _ _⟩
  | false =>
   rw [if_neg (by simp)] at hA
   obtain ⟨nc0, nc1, nc2, nc3, nc4, nc5, nf0, nf1, nf2, nf3, nf4, nf5⟩ := cf6 hN.out
   have nlt := hN.out.lt
   go_wp2_with fail
   clear nc0 nf0 nc1 nf1 nc2 nf2 nc3 nf3 nc4 nf4 nc5 nf5 nlt
   have hN : Hid (Blk (w3.setCell ⟨w1.heap.size, 0, none⟩ (.int .i64 3)) w1.heap.size 25 #[.int .i64 3, .int .i64 0, .string ⟨ft.toArray⟩, .string ⟨#[]⟩, .int .i64 0, .slice none 0 0]) := hN.out.set_ 0 (.int .i64 3)
   have hR : Hid (Blk (w3.setCell ⟨w1.heap.size, 0, none⟩ (.int .i64 3)) w.heap.size 25 zeroN) := hR.out.far (p := ⟨w1.heap.size, 0, none⟩) hneNR.out.symm _
   have hB : Hid (But pb w (w3.setCell ⟨w1.heap.size, 0, none⟩ (.int .i64 3))) := hB.out.far hle1.out _ _
   have hp4 : Hid (ParAt (w3.setCell ⟨w1.heap.size, 0, none⟩ (.int .i64 3)) pb A c e l _) := ⟨hp3.out.row.far (p := ⟨w1.heap.size, 0, none⟩) hneN.out.symm _, hp.out.tok.but hB.out, hp3.out.len, hp3.out.pos⟩
   obtain ⟨w4, hw⟩ : ∃ x, Hid ((w3.setCell ⟨w1.heap.size, 0, none⟩ (.int .i64 3)) = x) := ⟨_, hd9 rfl⟩
   rw [hw.out] at hN hR hB hp4 ⊢
   clear hw
   refine (kind_any w4 3).mono ?_
   rintro x w5 ⟨rfl, rfl⟩
   have hN : Hid (Blk (w4.alloc (.cells #[.int .i64 3] 3)) _ 25 _) := hN.out.below (by first | exact (Below.refl _ w4).alloc le9 _ | exact below_wOne _ _) hN.out.lt
   have hR : Hid (Blk (w4.alloc (.cells #[.int .i64 3] 3)) _ 25 _) := hR.out.below (by first | exact (Below.refl _ w4).alloc le9 _ | exact below_wOne _ _) hR.out.lt
   have hB : Hid (But pb w (w4.alloc (.cells #[.int .i64 3] 3))) := hB.out.below (by first | exact (Below.refl _ w4).alloc le9 _ | exact below_wOne _ _)
   have hp5 : Hid (ParAt (w4.alloc (.cells #[.int .i64 3] 3)) pb A c e l _) := hp4.out.below (by first | exact (Below.refl _ w4).alloc le9 _ | exact below_wOne _ _)
   go_wp2_with fail
   obtain ⟨⟨xt, s3⟩, hx⟩ : ∃ r, Hid (takeS e l (kindB 3) s2 = r) := ⟨_, hd9 rfl⟩
   rw [hx.out] at hA
   refine (take_any (w4.alloc (.cells #[.int .i64 3] 3)) pb A c e l s2 159 _ e159 (kindB 3) hp5 (kind_new w4 3)).mono ?_
   rintro x w6 ⟨rfl, hu, hq⟩
   rw [hx.out] at hq
   rw [hx.out]
   have hB := hd9 (hB.out.trans hu)
   have hN := hd9 (hu.blk hN.out hneN.out)
   have hR := hd9 (hu.blk hR.out hneR.out)
   have hp6 := hd9 hq
   clear hu hq
   obtain ⟨nc0, nc1, nc2, nc3, nc4, nc5, nf0, nf1, nf2, nf3, nf4, nf5⟩ := cf6 hN.out
   have nlt := hN.out.lt
   obtain ⟨rc0, rc1, rc2, rc3, rc4, rc5, rf0, rf1, rf2, rf3, rf4, rf5⟩ := cf6 hR.out
   have rlt := hR.out.lt
   have ne1 : w1.heap.size ≠ w.heap.size := hneNR.out
   have ne2 : w.heap.size ≠ w1.heap.size := fun h => hneNR.out h.symm
   go_wp2_with fail
   refine bodyPost_ret (results_row rfl _ _ w.heap.size 25 _ _ rfl (((((((hR.out.far (p := ⟨w1.heap.size, 3, none⟩) hneNR.out.symm _).set_ 0 _).set_ 1 _).set_ 2 _).set_ 3 _).set_ 4 _).set_ 5 _) Tryz.underlying25 rfl (by kernel_rfl)) rfl ?_
   unfold Ruled
   rw [hA.out]
   refine ⟨(((((((hB.out.far hle1.out _ _).far le9 _ _).far le9 _ _).far le9 _ _).far le9 _ _).far le9 _ _).far le9 _ _), ⟨(((((((hp6.out.row.far (p := ⟨w1.heap.size, 3, none⟩) hneN.out.symm _).far (p := ⟨w.heap.size, 0, none⟩) hneR.out.symm _).far (p := ⟨w.heap.size, 1, none⟩) hneR.out.symm _).far (p := ⟨w.heap.size, 2, none⟩) hneR.out.symm _).far (p := ⟨w.heap.size, 3, none⟩) hneR.out.symm _).far (p := ⟨w.heap.size, 4, none⟩) hneR.out.symm _).far (p := ⟨w.heap.size, 5, none⟩) hneR.out.symm _), hp.out.tok.but (((((((hB.out.far hle1.out _ _).far le9 _ _).far le9 _ _).far le9 _ _).far le9 _ _).far le9 _ _).far le9 _ _), hp6.out.len, hp6.out.pos⟩, .mk 3 0 ft xt 0 none 0 [], rfl, tree_leaf _ _ _ _ _ _ _ _ _, strip_leaf _ _ _ _ _ _ _⟩
 ·have q1 : (ot == [61]) = false := by simp only [beq_eq_false_iff_ne, ne_eq]; exact h1
  rw [if_neg h1] at hA
  clear h1
  by_cases h1 : ot = sTilde
  ·have q2 : (ot == [126]) = true := by rw [h1]; rfl
   rw [if_pos h1] at hA
   clear h1
   obtain ⟨nc0, nc1, nc2, nc3, nc4, nc5, nf0, nf1, nf2, nf3, nf4, nf5⟩ := cf6 hN.out
   have nlt := hN.out.lt
   go_wp2_with fail
   clear nc0 nf0 nc1 nf1 nc2 nf2 nc3 nf3 nc4 nf4 nc5 nf5 nlt
   have hN : Hid (Blk (w2.setCell ⟨w1.heap.size, 0, none⟩ (.int .i64 4)) w1.heap.size 25 #[.int .i64 4, .int .i64 0, .string ⟨ft.toArray⟩, .string ⟨#[]⟩, .int .i64 0, .slice none 0 0]) := hN.out.set_ 0 (.int .i64 4)
   have hR : Hid (Blk (w2.setCell ⟨w1.heap.size, 0, none⟩ (.int .i64 4)) w.heap.size 25 zeroN) := hR.out.far (p := ⟨w1.heap.size, 0, none⟩) hneNR.out.symm _
   have hB : Hid (But pb w (w2.setCell ⟨w1.heap.size, 0, none⟩ (.int .i64 4))) := hB.out.far hle1.out _ _
   have hp4 : Hid (ParAt (w2.setCell ⟨w1.heap.size, 0, none⟩ (.int .i64 4)) pb A c e l _) := ⟨hp2.out.row.far (p := ⟨w1.heap.size, 0, none⟩) hneN.out.symm _, hp.out.tok.but hB.out, hp2.out.len, hp2.out.pos⟩
   obtain ⟨w4, hw⟩ : ∃ x, Hid ((w2.setCell ⟨w1.heap.size, 0, none⟩ (.int .i64 4)) = x) := ⟨_, hd9 rfl⟩
   rw [hw.out] at hN hR hB hp4 ⊢
   clear hw
   refine (kind_any w4 3).mono ?_
   rintro x w5 ⟨rfl, rfl⟩
   have hN : Hid (Blk (w4.alloc (.cells #[.int .i64 3] 3)) _ 25 _) := hN.out.below (by first | exact (Below.refl _ w4).alloc le9 _ | exact below_wOne _ _) hN.out.lt
   have hR : Hid (Blk (w4.alloc (.cells #[.int .i64 3] 3)) _ 25 _) := hR.out.below (by first | exact (Below.refl _ w4).alloc le9 _ | exact below_wOne _ _) hR.out.lt
   have hB : Hid (But pb w (w4.alloc (.cells #[.int .i64 3] 3))) := hB.out.below (by first | exact (Below.refl _ w4).alloc le9 _ | exact below_wOne _ _)
   have hp5 : Hid (ParAt (w4.alloc (.cells #[.int .i64 3] 3)) pb A c e l _) := hp4.out.below (by first | exact (Below.refl _ w4).alloc le9 _ | exact below_wOne _ _)
   go_wp2_with fail
   obtain ⟨⟨xt, s3⟩, hx⟩ : ∃ r, Hid (takeS e l (kindB 3) s2 = r) := ⟨_, hd9 rfl⟩
   rw [hx.out] at hA
   refine (take_any (w4.alloc (.cells #[.int .i64 3] 3)) pb A c e l s2 159 _ e159 (kindB 3) hp5 (kind_new w4 3)).mono ?_
   rintro x w6 ⟨rfl, hu, hq⟩
   rw [hx.out] at hq
   rw [hx.out]
   have hB := hd9 (hB.out.trans hu)
   have hN := hd9 (hu.blk hN.out hneN.out)
   have hR := hd9 (hu.blk hR.out hneR.out)
   have hp6 := hd9 hq
   clear hu hq
   obtain ⟨nc0, nc1, nc2, nc3, nc4, nc5, nf0, nf1, nf2, nf3, nf4, nf5⟩ := cf6 hN.out
   have nlt := hN.out.lt
   obtain ⟨rc0, rc1, rc2, rc3, rc4, rc5, rf0, rf1, rf2, rf3, rf4, rf5⟩ := cf6 hR.out
   have rlt := hR.out.lt
   have ne1 : w1.heap.size ≠ w.heap.size := hneNR.out
   have ne2 : w.heap.size ≠ w1.heap.size := fun h => hneNR.out h.symm
   go_wp2_with fail
   refine bodyPost_ret (results_row rfl _ _ w.heap.size 25 _ _ rfl (((((((hR.out.far (p := ⟨w1.heap.size, 3, none⟩) hneNR.out.symm _).set_ 0 _).set_ 1 _).set_ 2 _).set_ 3 _).set_ 4 _).set_ 5 _) Tryz.underlying25 rfl (by kernel_rfl)) rfl ?_
   unfold Ruled
   rw [hA.out]
   refine ⟨(((((((hB.out.far hle1.out _ _).far le9 _ _).far le9 _ _).far le9 _ _).far le9 _ _).far le9 _ _).far le9 _ _), ⟨(((((((hp6.out.row.far (p := ⟨w1.heap.size, 3, none⟩) hneN.out.symm _).far (p := ⟨w.heap.size, 0, none⟩) hneR.out.symm _).far (p := ⟨w.heap.size, 1, none⟩) hneR.out.symm _).far (p := ⟨w.heap.size, 2, none⟩) hneR.out.symm _).far (p := ⟨w.heap.size, 3, none⟩) hneR.out.symm _).far (p := ⟨w.heap.size, 4, none⟩) hneR.out.symm _).far (p := ⟨w.heap.size, 5, none⟩) hneR.out.symm _), hp.out.tok.but (((((((hB.out.far hle1.out _ _).far le9 _ _).far le9 _ _).far le9 _ _).far le9 _ _).far le9 _ _).far le9 _ _), hp6.out.len, hp6.out.pos⟩, .mk 4 0 ft xt 0 none 0 [], rfl, tree_leaf _ _ _ _ _ _ _ _ _, strip_leaf _ _ _ _ _ _ _⟩
  ·have q2 : (ot == [126]) = false := by simp only [beq_eq_false_iff_ne, ne_eq]; exact h1
   rw [if_neg h1] at hA
   clear h1
   by_cases h1 : ot = sLe
   ·have q3 : (ot == [60, 61]) = true := by rw [h1]; rfl
    rw [if_pos h1] at hA
    clear h1
    obtain ⟨nc0, nc1, nc2, nc3, nc4, nc5, nf0, nf1, nf2, nf3, nf4, nf5⟩ := cf6 hN.out
    have nlt := hN.out.lt
    go_wp2_with fail
    clear nc0 nf0 nc1 nf1 nc2 nf2 nc3 nf3 nc4 nf4 nc5 nf5 nlt
    have hN : Hid (Blk (w2.setCell ⟨w1.heap.size, 0, none⟩ (.int .i64 5)) w1.heap.size 25 #[.int .i64 5, .int .i64 0, .string ⟨ft.toArray⟩, .string ⟨#[]⟩, .int .i64 0, .slice none 0 0]) := hN.out.set_ 0 (.int .i64 5)
    have hR : Hid (Blk (w2.setCell ⟨w1.heap.size, 0, none⟩ (.int .i64 5)) w.heap.size 25 zeroN) := hR.out.far (p := ⟨w1.heap.size, 0, none⟩) hneNR.out.symm _
    have hB : Hid (But pb w (w2.setCell ⟨w1.heap.size, 0, none⟩ (.int .i64 5))) := hB.out.far hle1.out _ _
    have hp4 : Hid (ParAt (w2.setCell ⟨w1.heap.size, 0, none⟩ (.int .i64 5)) pb A c e l _) := ⟨hp2.out.row.far (p := ⟨w1.heap.size, 0, none⟩) hneN.out.symm _, hp.out.tok.but hB.out, hp2.out.len, hp2.out.pos⟩
    obtain ⟨w4, hw⟩ : ∃ x, Hid ((w2.setCell ⟨w1.heap.size, 0, none⟩ (.int .i64 5)) = x) := ⟨_, hd9 rfl⟩
    rw [hw.out] at hN hR hB hp4 ⊢
    clear hw
    obtain ⟨⟨nn, s3⟩, hx⟩ : ∃ r, Hid (numS e l 0 1099511627776 s2 = r) := ⟨_, hd9 rfl⟩
    rw [hx.out] at hA
    refine (number_any w4 pb A c e l s2 0 1099511627776 hp4 hok).mono ?_
    rintro x w6 ⟨rfl, hu, hq⟩
    rw [hx.out] at hq
    rw [hx.out]
    have hB := hd9 (hB.out.trans hu)
    have hN := hd9 (hu.blk hN.out hneN.out)
    have hR := hd9 (hu.blk hR.out hneR.out)
    have hp6 := hd9 hq
    clear hu hq
    obtain ⟨nc0, nc1, nc2, nc3, nc4, nc5, nf0, nf1, nf2, nf3, nf4, nf5⟩ := cf6 hN.out
    have nlt := hN.out.lt
    obtain ⟨rc0, rc1, rc2, rc3, rc4, rc5, rf0, rf1, rf2, rf3, rf4, rf5⟩ := cf6 hR.out
    have rlt := hR.out.lt
    have ne1 : w1.heap.size ≠ w.heap.size := hneNR.out
    have ne2 : w.heap.size ≠ w1.heap.size := fun h => hneNR.out h.symm
    go_wp2_with fail
    refine bodyPost_ret (results_row rfl _ _ w.heap.size 25 _ _ rfl (((((((hR.out.far (p := ⟨w1.heap.size, 4, none⟩) hneNR.out.symm _).set_ 0 _).set_ 1 _).set_ 2 _).set_ 3 _).set_ 4 _).set_ 5 _) Tryz.underlying25 rfl (by kernel_rfl)) rfl ?_
    unfold Ruled
    rw [hA.out]
    refine ⟨(((((((hB.out.far hle1.out _ _).far le9 _ _).far le9 _ _).far le9 _ _).far le9 _ _).far le9 _ _).far le9 _ _), ⟨(((((((hp6.out.row.far (p := ⟨w1.heap.size, 4, none⟩) hneN.out.symm _).far (p := ⟨w.heap.size, 0, none⟩) hneR.out.symm _).far (p := ⟨w.heap.size, 1, none⟩) hneR.out.symm _).far (p := ⟨w.heap.size, 2, none⟩) hneR.out.symm _).far (p := ⟨w.heap.size, 3, none⟩) hneR.out.symm _).far (p := ⟨w.heap.size, 4, none⟩) hneR.out.symm _).far (p := ⟨w.heap.size, 5, none⟩) hneR.out.symm _), hp.out.tok.but (((((((hB.out.far hle1.out _ _).far le9 _ _).far le9 _ _).far le9 _ _).far le9 _ _).far le9 _ _).far le9 _ _), hp6.out.len, hp6.out.pos⟩, .mk 5 0 ft [] nn none 0 [], rfl, tree_leaf _ _ _ _ _ _ _ _ _, strip_leaf _ _ _ _ _ _ _⟩
   ·have q3 : (ot == [60, 61]) = false := by simp only [beq_eq_false_iff_ne, ne_eq]; exact h1
    rw [if_neg h1] at hA
    clear h1
    by_cases h1 : ot = sGe
    ·have q4 : (ot == [62, 61]) = true := by rw [h1]; rfl
     rw [if_pos h1] at hA
     clear h1
     obtain ⟨nc0, nc1, nc2, nc3, nc4, nc5, nf0, nf1, nf2, nf3, nf4, nf5⟩ := cf6 hN.out
     have nlt := hN.out.lt
     go_wp2_with fail
     clear nc0 nf0 nc1 nf1 nc2 nf2 nc3 nf3 nc4 nf4 nc5 nf5 nlt
     have hN : Hid (Blk (w2.setCell ⟨w1.heap.size, 0, none⟩ (.int .i64 6)) w1.heap.size 25 #[.int .i64 6, .int .i64 0, .string ⟨ft.toArray⟩, .string ⟨#[]⟩, .int .i64 0, .slice none 0 0]) := hN.out.set_ 0 (.int .i64 6)
     have hR : Hid (Blk (w2.setCell ⟨w1.heap.size, 0, none⟩ (.int .i64 6)) w.heap.size 25 zeroN) := hR.out.far (p := ⟨w1.heap.size, 0, none⟩) hneNR.out.symm _
     have hB : Hid (But pb w (w2.setCell ⟨w1.heap.size, 0, none⟩ (.int .i64 6))) := hB.out.far hle1.out _ _
     have hp4 : Hid (ParAt (w2.setCell ⟨w1.heap.size, 0, none⟩ (.int .i64 6)) pb A c e l _) := ⟨hp2.out.row.far (p := ⟨w1.heap.size, 0, none⟩) hneN.out.symm _, hp.out.tok.but hB.out, hp2.out.len, hp2.out.pos⟩
     obtain ⟨w4, hw⟩ : ∃ x, Hid ((w2.setCell ⟨w1.heap.size, 0, none⟩ (.int .i64 6)) = x) := ⟨_, hd9 rfl⟩
     rw [hw.out] at hN hR hB hp4 ⊢
     clear hw
     obtain ⟨⟨nn, s3⟩, hx⟩ : ∃ r, Hid (numS e l 0 1099511627776 s2 = r) := ⟨_, hd9 rfl⟩
     rw [hx.out] at hA
     refine (number_any w4 pb A c e l s2 0 1099511627776 hp4 hok).mono ?_
     rintro x w6 ⟨rfl, hu, hq⟩
     rw [hx.out] at hq
     rw [hx.out]
     have hB := hd9 (hB.out.trans hu)
     have hN := hd9 (hu.blk hN.out hneN.out)
     have hR := hd9 (hu.blk hR.out hneR.out)
     have hp6 := hd9 hq
     clear hu hq
     obtain ⟨nc0, nc1, nc2, nc3, nc4, nc5, nf0, nf1, nf2, nf3, nf4, nf5⟩ := cf6 hN.out
     have nlt := hN.out.lt
     obtain ⟨rc0, rc1, rc2, rc3, rc4, rc5, rf0, rf1, rf2, rf3, rf4, rf5⟩ := cf6 hR.out
     have rlt := hR.out.lt
     have ne1 : w1.heap.size ≠ w.heap.size := hneNR.out
     have ne2 : w.heap.size ≠ w1.heap.size := fun h => hneNR.out h.symm
     go_wp2_with fail
     refine bodyPost_ret (results_row rfl _ _ w.heap.size 25 _ _ rfl (((((((hR.out.far (p := ⟨w1.heap.size, 4, none⟩) hneNR.out.symm _).set_ 0 _).set_ 1 _).set_ 2 _).set_ 3 _).set_ 4 _).set_ 5 _) Tryz.underlying25 rfl (by kernel_rfl)) rfl ?_
     unfold Ruled
     rw [hA.out]
     refine ⟨(((((((hB.out.far hle1.out _ _).far le9 _ _).far le9 _ _).far le9 _ _).far le9 _ _).far le9 _ _).far le9 _ _), ⟨(((((((hp6.out.row.far (p := ⟨w1.heap.size, 4, none⟩) hneN.out.symm _).far (p := ⟨w.heap.size, 0, none⟩) hneR.out.symm _).far (p := ⟨w.heap.size, 1, none⟩) hneR.out.symm _).far (p := ⟨w.heap.size, 2, none⟩) hneR.out.symm _).far (p := ⟨w.heap.size, 3, none⟩) hneR.out.symm _).far (p := ⟨w.heap.size, 4, none⟩) hneR.out.symm _).far (p := ⟨w.heap.size, 5, none⟩) hneR.out.symm _), hp.out.tok.but (((((((hB.out.far hle1.out _ _).far le9 _ _).far le9 _ _).far le9 _ _).far le9 _ _).far le9 _ _).far le9 _ _), hp6.out.len, hp6.out.pos⟩, .mk 6 0 ft [] nn none 0 [], rfl, tree_leaf _ _ _ _ _ _ _ _ _, strip_leaf _ _ _ _ _ _ _⟩
    ·have q4 : (ot == [62, 61]) = false := by simp only [beq_eq_false_iff_ne, ne_eq]; exact h1
     rw [if_neg h1] at hA
     clear h1
     obtain ⟨nc0, nc1, nc2, nc3, nc4, nc5, nf0, nf1, nf2, nf3, nf4, nf5⟩ := cf6 hN.out
     have nlt := hN.out.lt
     obtain ⟨rc0, rc1, rc2, rc3, rc4, rc5, rf0, rf1, rf2, rf3, rf4, rf5⟩ := cf6 hR.out
     have rlt := hR.out.lt
     have ne1 : w1.heap.size ≠ w.heap.size := hneNR.out
     have ne2 : w.heap.size ≠ w1.heap.size := fun h => hneNR.out h.symm
     go_wp2_with fail
     refine bodyPost_ret (results_row rfl _ _ w.heap.size 25 _ _ rfl ((((((hR.out.set_ 0 _).set_ 1 _).set_ 2 _).set_ 3 _).set_ 4 _).set_ 5 _) Tryz.underlying25 rfl (by kernel_rfl)) rfl ?_
     unfold Ruled
     rw [hA.out]
     refine ⟨((((((hB.out.far le9 _ _).far le9 _ _).far le9 _ _).far le9 _ _).far le9 _ _).far le9 _ _), ⟨((((((hp2.out.row.far (p := ⟨w.heap.size, 0, none⟩) hneR.out.symm _).far (p := ⟨w.heap.size, 1, none⟩) hneR.out.symm _).far (p := ⟨w.heap.size, 2, none⟩) hneR.out.symm _).far (p := ⟨w.heap.size, 3, none⟩) hneR.out.symm _).far (p := ⟨w.heap.size, 4, none⟩) hneR.out.symm _).far (p := ⟨w.heap.size, 5, none⟩) hneR.out.symm _), hp.out.tok.but ((((((hB.out.far le9 _ _).far le9 _ _).far le9 _ _).far le9 _ _).far le9 _ _).far le9 _ _), hp2.out.len, hp2.out.pos⟩, .mk 0 0 ft [] 0 none 0 [], rfl, tree_leaf _ _ _ _ _ _ _ _ _, strip_leaf _ _ _ _ _ _ _⟩
end Go.Proofs.YtjkmhlfjheiekaaGreatDoor

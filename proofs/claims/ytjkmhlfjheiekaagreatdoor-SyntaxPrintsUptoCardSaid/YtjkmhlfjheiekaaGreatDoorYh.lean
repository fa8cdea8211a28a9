/- A credit's text by the document: the walk of its Print. -/
import Derived.Test.YtjkmhlfjheiekaaGreatDoorYf
import Derived.Test.YtjkmhlfjheiekaaGreatDoorYe
import Derived.Test.YtjkmhlfjheiekaaGreatDoorXb
import Derived.Test.YtjkmhlfjheiekaaGreatDoorWf
namespace Go.Proofs.YtjkmhlfjheiekaaGreatDoor
open Go Go.RowKit Go.BigFrame Go.Maps

def printT (c : Crd) (l : List Nd) : Txt := if creditM c l = true then (if 4096 < (creditT c l).length then [] else creditT c l) else []
def printE (c : Crd) (l : List Nd) : Int := if creditM c l = true then (if 4096 < (creditT c l).length then 7 else 0) else 1
def midA (c : Crd) : List (List Txt) := [[[102, 114, 111, 109], c.orig], [[116, 111], c.dest], [[115, 117, 109], c.currency, decN 20 c.amount.toNat, [97, 98, 111, 118, 101], decN 20 c.above.toNat, [98, 101, 108, 111, 119], decN 20 c.below.toNat]]
def midB (c : Crd) : List (List Txt) := [[[108, 97, 116, 101, 115, 116], decN 20 c.latest.toNat], [[101, 120, 112, 105, 114, 121], decN 20 c.expiry.toNat], [[119, 105, 116, 104, 105, 110], decN 20 c.within.toNat, [100, 97, 121, 115]]]
theorem rdig_any (n : Int) (h0 : 0 ≤ n) (h1 : n ≤ 1099511627776) (W : World) : Calls Tryz.prog 58 #[.int .i64 n] W fun e w' => e = .returned (.string ⟨(decN 20 n.toNat).toArray⟩) ∧ Below W.heap.size W w' := by
  have h := rdigitsN_any n.toNat (by omega) W
  rwa [Int.toNat_of_nonneg h0] at h
set_option maxRecDepth 100000 in
set_option maxHeartbeats 6400000 in
theorem rprint_any (C : Array Value) (c : Crd) (A : Option Addr) (n cc : Nat) (l : List Nd) (w : World) (ok : Nat → Prop) (hC : Hid (C = c.cells (.slice A n cc))) (hs : Hid c.short) (hn : n ≤ maxLen) (hl : Hid (l.length = n)) (hN : Hid (NdsAt w ok A l)) (hz : Hid (∀ x ∈ l, szR (strip x.rule) ≤ 100000000 ∧ depthR (strip x.rule) ≤ 1000000)) :
    Calls Tryz.prog 26 #[.agg C] w fun e w' => e = .returned (.tuple #[.string ⟨(printT c l).toArray⟩, .int .i64 (printE c l)]) ∧ Below w.heap.size w w' := by
  have hk : Hid (∀ i, i < 18 → C[i]? = (c.cells (.slice A n cc))[i]?) := fun i _ => by rw [hC.out]
  have hb0 : Hid (Below w.heap.size w (w.alloc (.cells C 41))) := (Below.refl _ w).alloc (Nat.le_refl _) _
  have hx0 := Lib.hid (Blk.new w 41 C)
  have hsC : Hid ((Tryz.prog.info? 41).map (·.size) = some C.size) := by unfold Hid; rw [hC.out]; kernel_rfl
  have p1 := Lib.hid (fits_any C c A n cc l (w.alloc (.cells C 41)) ok hC hs hn hl (hN.out.below hb0.out) (Lib.hid fun x hx => ⟨by have := (hz.out x hx).1; unfold mostZ; omega, (hz.out x hx).2⟩))
  have e1 : Hid (printT c l = if creditM c l = true then (if 4096 < (creditT c l).length then [] else creditT c l) else []) := rfl
  have e2 : Hid (printE c l = if creditM c l = true then (if 4096 < (creditT c l).length then 7 else 0) else 1) := rfl
  have hsm : Hid (creditM c l = true → c.small ∧ l.length ≤ 64 ∧ ∀ x ∈ l, needM x = true) := small_of
  obtain ⟨b, hb⟩ : ∃ b, Hid (creditM c l = b) := ⟨_, Lib.hid rfl⟩
  obtain ⟨rt, hrt⟩ : ∃ b, Hid (printT c l = b) := ⟨_, Lib.hid rfl⟩
  obtain ⟨re, hre⟩ : ∃ b, Hid (printE c l = b) := ⟨_, Lib.hid rfl⟩
  rw [hrt.out, hb.out] at e1
  rw [hre.out, hb.out] at e2
  rw [hb.out] at p1 hsm
  rw [hrt.out, hre.out]
  clear hb hrt hre hC hs
  unfold maxLen at hn
  go_enter Tryz.func26, Tryz.ntmps26
  go_wp2_with (refine wpList_load_blkg rfl 41 _ rfl w.heap.size C 41 _ rfl hx0.out Tryz.underlying41 rfl hsC.out ?_)
  obtain ⟨wa, hwa⟩ : ∃ x, Hid (w.alloc (.cells C 41) = x) := ⟨_, Lib.hid rfl⟩
  rw [hwa.out] at hb0 hx0 p1 ⊢
  clear hwa
  refine p1.out.mono ?_
  rintro e w1 ⟨rfl, hb1⟩
  have hB1 := Lib.hid (hb0.out.trans (hb1.mono hb0.out.size))
  have hX1 := Lib.hid (hx0.out.below hb1 hx0.out.lt)
  clear hb1 hb0 hx0 p1
  cases b with
  | false =>
    go_wp2_with fail
    go_ret2
    exact ⟨by rw [e1.out, e2.out]; rfl, hB1.out⟩
  | true =>
  obtain ⟨hs, hn64, hneeds⟩ := hsm.out rfl
  have hn64' : Hid (n ≤ 64) := by rw [← hl.out]; exact hn64
  have hneeds' := Lib.hid hneeds
  have hs' := Lib.hid hs
  have htop := Lib.hid (top_len hs)
  have s0 := hs.number
  have s1 := hs.applicant
  have s2 := hs.beneficiary
  have s3 := hs.issuer
  have s4 := hs.confirmer
  have s5 := hs.orig
  have s6 := hs.dest
  have s7 := hs.currency
  clear hn64 hneeds hs hsm
  have eTT : Hid (rt = if 4096 < (creditT c l).length then [] else creditT c l) := e1.out
  have eEE : Hid (re = if 4096 < (creditT c l).length then 7 else 0) := e2.out
  clear e1 e2
  have m0 : w1.cell? ⟨w.heap.size, 0, none⟩ = some (.string ⟨c.number.toArray⟩) := (hX1.out.cell 0).trans (hk.out 0 (by decide))
  have m1 : w1.cell? ⟨w.heap.size, 1, none⟩ = some (.string ⟨c.applicant.toArray⟩) := (hX1.out.cell 1).trans (hk.out 1 (by decide))
  have m2 : w1.cell? ⟨w.heap.size, 2, none⟩ = some (.string ⟨c.beneficiary.toArray⟩) := (hX1.out.cell 2).trans (hk.out 2 (by decide))
  have m3 : w1.cell? ⟨w.heap.size, 3, none⟩ = some (.string ⟨c.issuer.toArray⟩) := (hX1.out.cell 3).trans (hk.out 3 (by decide))
  have mlt := hX1.out.lt
  have z0 : ¬ 9223372036854775807 < 7 + c.number.length := by omega
  have z1 : ¬ 9223372036854775807 < 7 + c.number.length + 12 := by omega
  have z2 : ¬ 9223372036854775807 < 7 + c.number.length + 12 + c.applicant.length := by omega
  have z3 : ¬ 9223372036854775807 < 7 + c.number.length + 12 + c.applicant.length + 14 := by omega
  have z4 : ¬ 9223372036854775807 < 7 + c.number.length + 12 + c.applicant.length + 14 + c.beneficiary.length := by omega
  have z5 : ¬ 9223372036854775807 < 7 + c.number.length + 12 + c.applicant.length + 14 + c.beneficiary.length + 9 := by omega
  have z6 : ¬ 9223372036854775807 < 7 + c.number.length + 12 + c.applicant.length + 14 + c.beneficiary.length + 9 + c.issuer.length := by omega
  have z7 : ¬ 9223372036854775807 < 7 + c.number.length + 12 + c.applicant.length + 14 + c.beneficiary.length + 9 + c.issuer.length + 2 := by omega
  have e0 : Hid (({ data := #[99, 114, 101, 100, 105, 116, 32] } : ByteArray) ++ ({ data := c.number.toArray } : ByteArray) ++ ({ data := #[59, 10, 97, 112, 112, 108, 105, 99, 97, 110, 116, 32] } : ByteArray) ++ ({ data := c.applicant.toArray } : ByteArray) ++ ({ data := #[59, 10, 98, 101, 110, 101, 102, 105, 99, 105, 97, 114, 121, 32] } : ByteArray) ++ ({ data := c.beneficiary.toArray } : ByteArray) ++ ({ data := #[59, 10, 105, 115, 115, 117, 101, 114, 32] } : ByteArray) ++ ({ data := c.issuer.toArray } : ByteArray) ++ ({ data := #[59, 10] } : ByteArray) = ⟨(textL (heads c)).toArray⟩) := ByteArray.ext (by simp [textL, heads, lineT, spaced_cons, spaced_one])
  go_upto_region 4 with fail
  rw [e0.out]
  clear e0 z0 z1 z2 z3 z4 z5 z6 z7 m0 m1 m2 m3 mlt
  obtain ⟨t1, ht1⟩ : ∃ y, Hid (textL (heads c) = y) := ⟨_, Lib.hid rfl⟩
  have hL1 : Hid (t1.length ≤ 150) := by
    have h : textL (heads c) = [99, 114, 101, 100, 105, 116, 32] ++ c.number ++ [59, 10, 97, 112, 112, 108, 105, 99, 97, 110, 116, 32] ++ c.applicant ++ [59, 10, 98, 101, 110, 101, 102, 105, 99, 105, 97, 114, 121, 32] ++ c.beneficiary ++ [59, 10, 105, 115, 115, 117, 101, 114, 32] ++ c.issuer ++ [59, 10] := by simp [textL, heads, lineT, spaced_cons, spaced_one]
    rw [← ht1.out, h]
    simp only [List.length_append, List.length_cons, List.length_nil]
    unfold Hid; omega
  rw [ht1.out]
  have m4 : w1.cell? ⟨w.heap.size, 4, none⟩ = some (.string ⟨c.confirmer.toArray⟩) := (hX1.out.cell 4).trans (hk.out 4 (by decide))
  have mlt := hX1.out.lt
  have etc := tx_list c.confirmer
  go_upto_if 28 with fail
  go_cut [4] (fun v wx => w1 = wx ∧ ∃ t2, v = .string ⟨t2.toArray⟩ ∧ Hid (textL (heads c ++ confL c) = t2) ∧ Hid (t2.length ≤ 190))
  case first =>
    by_cases hc0 : c.confirmer = []
    · have bc : (c.confirmer == []) = true := by simp [hc0]
      have be : c.confirmer.isEmpty = true := by simp [hc0]
      have e5 : heads c ++ confL c = heads c := by unfold confL; rw [if_pos hc0]; simp
      simp only [be, Bool.not_true]
      clear hc0
      go_wp2_with fail
      go_meet
      case rel => exact ⟨rfl, _, rfl, by rw [e5]; exact ht1, Nat.le_trans hL1.out (by decide)⟩
    · have bc : (c.confirmer == []) = false := by simp [hc0]
      have be : c.confirmer.isEmpty = false := by simp [hc0]
      have e5 : heads c ++ confL c = heads c ++ [[[99, 111, 110, 102, 105, 114, 109, 101, 114], c.confirmer]] := by unfold confL; rw [if_neg hc0]
      simp only [be, Bool.not_false]
      have hL1' := hL1.out
      have z0 : ¬ 9223372036854775807 < t1.length + 10 := by omega
      have z1 : ¬ 9223372036854775807 < t1.length + 10 + c.confirmer.length := by omega
      have z2 : ¬ 9223372036854775807 < t1.length + 10 + c.confirmer.length + 2 := by omega
      have e0 : Hid (({ data := t1.toArray } : ByteArray) ++ ({ data := #[99, 111, 110, 102, 105, 114, 109, 101, 114, 32] } : ByteArray) ++ ({ data := c.confirmer.toArray } : ByteArray) ++ ({ data := #[59, 10] } : ByteArray) = ⟨(t1 ++ [99, 111, 110, 102, 105, 114, 109, 101, 114, 32] ++ c.confirmer ++ [59, 10]).toArray⟩) := ByteArray.ext (by simp)
      have et : Hid (textL (heads c ++ confL c) = t1 ++ [99, 111, 110, 102, 105, 114, 109, 101, 114, 32] ++ c.confirmer ++ [59, 10]) := by
        unfold Hid; rw [e5, textL_app, ht1.out]; simp [textL, lineT, spaced_cons, spaced_one]
      go_wp2_with fail
      rw [e0.out]
      go_meet
      case rel => exact ⟨rfl, _, rfl, et, by unfold Hid; simp; omega⟩
  case rest =>
  obtain ⟨rfl, t2, rfl, ht2, hL2⟩ := hcut
  clear ht1 hL1 m4 mlt etc
  have hLk := hL2.out
  obtain ⟨da, hda⟩ : ∃ y, Hid (decN 20 c.amount.toNat = y) := ⟨_, Lib.hid rfl⟩
  have lda : da.length ≤ 20 := by rw [← hda.out]; exact dec_len19
  have qda : Hid (∀ y : Ext w1, Calls Tryz.prog 58 #[.int .i64 c.amount] y.wd fun e w' => e = .returned (.string ⟨da.toArray⟩) ∧ Below y.wd.heap.size y.wd w') := fun y => by rw [← hda.out]; exact rdig_any _ hs'.out.amount.1 hs'.out.amount.2 y.wd
  obtain ⟨db, hdb⟩ : ∃ y, Hid (decN 20 c.above.toNat = y) := ⟨_, Lib.hid rfl⟩
  have ldb : db.length ≤ 20 := by rw [← hdb.out]; exact dec_len19
  have qdb : Hid (∀ y : Ext w1, Calls Tryz.prog 58 #[.int .i64 c.above] y.wd fun e w' => e = .returned (.string ⟨db.toArray⟩) ∧ Below y.wd.heap.size y.wd w') := fun y => by rw [← hdb.out]; exact rdig_any _ hs'.out.above.1 hs'.out.above.2 y.wd
  obtain ⟨dc, hdc⟩ : ∃ y, Hid (decN 20 c.below.toNat = y) := ⟨_, Lib.hid rfl⟩
  have ldc : dc.length ≤ 20 := by rw [← hdc.out]; exact dec_len19
  have qdc : Hid (∀ y : Ext w1, Calls Tryz.prog 58 #[.int .i64 c.below] y.wd fun e w' => e = .returned (.string ⟨dc.toArray⟩) ∧ Below y.wd.heap.size y.wd w') := fun y => by rw [← hdc.out]; exact rdig_any _ hs'.out.below.1 hs'.out.below.2 y.wd
  have f5 : ∀ y : Ext w1, y.wd.cell? ⟨w.heap.size, 5, none⟩ = some (.string ⟨c.orig.toArray⟩) := fun y => (y.cell ⟨w.heap.size, 5, none⟩ hX1.out.lt).trans ((hX1.out.cell 5).trans (hk.out 5 (by decide)))
  have f6 : ∀ y : Ext w1, y.wd.cell? ⟨w.heap.size, 6, none⟩ = some (.string ⟨c.dest.toArray⟩) := fun y => (y.cell ⟨w.heap.size, 6, none⟩ hX1.out.lt).trans ((hX1.out.cell 6).trans (hk.out 6 (by decide)))
  have f7 : ∀ y : Ext w1, y.wd.cell? ⟨w.heap.size, 7, none⟩ = some (.string ⟨c.currency.toArray⟩) := fun y => (y.cell ⟨w.heap.size, 7, none⟩ hX1.out.lt).trans ((hX1.out.cell 7).trans (hk.out 7 (by decide)))
  have f8 : ∀ y : Ext w1, y.wd.cell? ⟨w.heap.size, 8, none⟩ = some (.int .i64 c.amount) := fun y => (y.cell ⟨w.heap.size, 8, none⟩ hX1.out.lt).trans ((hX1.out.cell 8).trans (hk.out 8 (by decide)))
  have f9 : ∀ y : Ext w1, y.wd.cell? ⟨w.heap.size, 9, none⟩ = some (.int .i64 c.above) := fun y => (y.cell ⟨w.heap.size, 9, none⟩ hX1.out.lt).trans ((hX1.out.cell 9).trans (hk.out 9 (by decide)))
  have f10 : ∀ y : Ext w1, y.wd.cell? ⟨w.heap.size, 10, none⟩ = some (.int .i64 c.below) := fun y => (y.cell ⟨w.heap.size, 10, none⟩ hX1.out.lt).trans ((hX1.out.cell 10).trans (hk.out 10 (by decide)))
  have z0 : ¬ 9223372036854775807 < t2.length + 5 := by omega
  have z1 : ¬ 9223372036854775807 < t2.length + 5 + c.orig.length := by omega
  have z2 : ¬ 9223372036854775807 < t2.length + 5 + c.orig.length + 5 := by omega
  have z3 : ¬ 9223372036854775807 < t2.length + 5 + c.orig.length + 5 + c.dest.length := by omega
  have z4 : ¬ 9223372036854775807 < t2.length + 5 + c.orig.length + 5 + c.dest.length + 6 := by omega
  have z5 : ¬ 9223372036854775807 < t2.length + 5 + c.orig.length + 5 + c.dest.length + 6 + c.currency.length := by omega
  have z6 : ¬ 9223372036854775807 < t2.length + 5 + c.orig.length + 5 + c.dest.length + 6 + c.currency.length + 1 := by omega
  have z7 : ¬ 9223372036854775807 < t2.length + 5 + c.orig.length + 5 + c.dest.length + 6 + c.currency.length + 1 + da.length := by omega
  have z8 : ¬ 9223372036854775807 < t2.length + 5 + c.orig.length + 5 + c.dest.length + 6 + c.currency.length + 1 + da.length + 7 := by omega
  have z9 : ¬ 9223372036854775807 < t2.length + 5 + c.orig.length + 5 + c.dest.length + 6 + c.currency.length + 1 + da.length + 7 + db.length := by omega
  have z10 : ¬ 9223372036854775807 < t2.length + 5 + c.orig.length + 5 + c.dest.length + 6 + c.currency.length + 1 + da.length + 7 + db.length + 7 := by omega
  have z11 : ¬ 9223372036854775807 < t2.length + 5 + c.orig.length + 5 + c.dest.length + 6 + c.currency.length + 1 + da.length + 7 + db.length + 7 + dc.length := by omega
  have z12 : ¬ 9223372036854775807 < t2.length + 5 + c.orig.length + 5 + c.dest.length + 6 + c.currency.length + 1 + da.length + 7 + db.length + 7 + dc.length + 2 := by omega
  have e0 : Hid (({ data := t2.toArray } : ByteArray) ++ ({ data := #[102, 114, 111, 109, 32] } : ByteArray) ++ ({ data := c.orig.toArray } : ByteArray) ++ ({ data := #[59, 10, 116, 111, 32] } : ByteArray) ++ ({ data := c.dest.toArray } : ByteArray) ++ ({ data := #[59, 10, 115, 117, 109, 32] } : ByteArray) ++ ({ data := c.currency.toArray } : ByteArray) ++ ({ data := #[32] } : ByteArray) ++ ({ data := da.toArray } : ByteArray) ++ ({ data := #[32, 97, 98, 111, 118, 101, 32] } : ByteArray) ++ ({ data := db.toArray } : ByteArray) ++ ({ data := #[32, 98, 101, 108, 111, 119, 32] } : ByteArray) ++ ({ data := dc.toArray } : ByteArray) ++ ({ data := #[59, 10] } : ByteArray) = ⟨(t2 ++ [102, 114, 111, 109, 32] ++ c.orig ++ [59, 10, 116, 111, 32] ++ c.dest ++ [59, 10, 115, 117, 109, 32] ++ c.currency ++ [32] ++ da ++ [32, 97, 98, 111, 118, 101, 32] ++ db ++ [32, 98, 101, 108, 111, 119, 32] ++ dc ++ [59, 10]).toArray⟩) := ByteArray.ext (by simp)
  have et : Hid (textL (heads c ++ confL c ++ midA c) = t2 ++ [102, 114, 111, 109, 32] ++ c.orig ++ [59, 10, 116, 111, 32] ++ c.dest ++ [59, 10, 115, 117, 109, 32] ++ c.currency ++ [32] ++ da ++ [32, 97, 98, 111, 118, 101, 32] ++ db ++ [32, 98, 101, 108, 111, 119, 32] ++ dc ++ [59, 10]) := by
    unfold Hid; rw [textL_app, ht2.out, ← hda.out, ← hdb.out, ← hdc.out]; simp [textL, lineT, midA, spaced_cons, spaced_one]
  have eln : Hid ((t2 ++ [102, 114, 111, 109, 32] ++ c.orig ++ [59, 10, 116, 111, 32] ++ c.dest ++ [59, 10, 115, 117, 109, 32] ++ c.currency ++ [32] ++ da ++ [32, 97, 98, 111, 118, 101, 32] ++ db ++ [32, 98, 101, 108, 111, 119, 32] ++ dc ++ [59, 10]).length ≤ 400) := by unfold Hid; simp only [List.length_append, List.length_cons, List.length_nil]; omega
  go_upto_region 6 with fail
  refine wp_region_ext (by kernel_rfl) (by kernel_rfl) ?_
  repeat (go_big_quiet_step (first | (go_at_call 58; first | with_reducible exact Calls.ext_of (qda.out _) | with_reducible exact Calls.ext_of (qdb.out _) | with_reducible exact Calls.ext_of (qdc.out _))))
  refine wpQuiet_nil ?_
  rintro _ ⟨y, rfl⟩
  have hB2 := Lib.hid (hB1.out.trans (y.below.mono hB1.out.size))
  have hX2 := Lib.hid (hX1.out.below y.below hX1.out.lt)
  obtain ⟨w2, hw2⟩ : ∃ v, y.wd = v := ⟨_, rfl⟩
  rw [hw2] at hB2 hX2 ⊢
  rw [e0.out]
  obtain ⟨t3, htt⟩ : ∃ v, Hid (t2 ++ [102, 114, 111, 109, 32] ++ c.orig ++ [59, 10, 116, 111, 32] ++ c.dest ++ [59, 10, 115, 117, 109, 32] ++ c.currency ++ [32] ++ da ++ [32, 97, 98, 111, 118, 101, 32] ++ db ++ [32, 98, 101, 108, 111, 119, 32] ++ dc ++ [59, 10] = v) := ⟨_, Lib.hid rfl⟩
  rw [htt.out] at et eln ⊢
  have ht3 := et
  have hL3 := eln
  clear hw2 htt et eln e0 z0 z1 z2 z3 z4 z5 z6 z7 z8 z9 z10 z11 z12 hLk hB1 hX1 ht2 hL2 f5 f6 f7 f8 f9 f10 qda hda lda qdb hdb ldb qdc hdc ldc
  have hLk := hL3.out
  obtain ⟨da, hda⟩ : ∃ y, Hid (decN 20 c.latest.toNat = y) := ⟨_, Lib.hid rfl⟩
  have lda : da.length ≤ 20 := by rw [← hda.out]; exact dec_len19
  have qda : Hid (∀ y : Ext w2, Calls Tryz.prog 58 #[.int .i64 c.latest] y.wd fun e w' => e = .returned (.string ⟨da.toArray⟩) ∧ Below y.wd.heap.size y.wd w') := fun y => by rw [← hda.out]; exact rdig_any _ hs'.out.latest.1 hs'.out.latest.2 y.wd
  obtain ⟨db, hdb⟩ : ∃ y, Hid (decN 20 c.expiry.toNat = y) := ⟨_, Lib.hid rfl⟩
  have ldb : db.length ≤ 20 := by rw [← hdb.out]; exact dec_len19
  have qdb : Hid (∀ y : Ext w2, Calls Tryz.prog 58 #[.int .i64 c.expiry] y.wd fun e w' => e = .returned (.string ⟨db.toArray⟩) ∧ Below y.wd.heap.size y.wd w') := fun y => by rw [← hdb.out]; exact rdig_any _ hs'.out.expiry.1 hs'.out.expiry.2 y.wd
  obtain ⟨dc, hdc⟩ : ∃ y, Hid (decN 20 c.within.toNat = y) := ⟨_, Lib.hid rfl⟩
  have ldc : dc.length ≤ 20 := by rw [← hdc.out]; exact dec_len19
  have qdc : Hid (∀ y : Ext w2, Calls Tryz.prog 58 #[.int .i64 c.within] y.wd fun e w' => e = .returned (.string ⟨dc.toArray⟩) ∧ Below y.wd.heap.size y.wd w') := fun y => by rw [← hdc.out]; exact rdig_any _ hs'.out.within.1 hs'.out.within.2 y.wd
  have f11 : ∀ y : Ext w2, y.wd.cell? ⟨w.heap.size, 11, none⟩ = some (.int .i64 c.latest) := fun y => (y.cell ⟨w.heap.size, 11, none⟩ hX2.out.lt).trans ((hX2.out.cell 11).trans (hk.out 11 (by decide)))
  have f12 : ∀ y : Ext w2, y.wd.cell? ⟨w.heap.size, 12, none⟩ = some (.int .i64 c.expiry) := fun y => (y.cell ⟨w.heap.size, 12, none⟩ hX2.out.lt).trans ((hX2.out.cell 12).trans (hk.out 12 (by decide)))
  have f13 : ∀ y : Ext w2, y.wd.cell? ⟨w.heap.size, 13, none⟩ = some (.int .i64 c.within) := fun y => (y.cell ⟨w.heap.size, 13, none⟩ hX2.out.lt).trans ((hX2.out.cell 13).trans (hk.out 13 (by decide)))
  have z0 : ¬ 9223372036854775807 < t3.length + 7 := by omega
  have z1 : ¬ 9223372036854775807 < t3.length + 7 + da.length := by omega
  have z2 : ¬ 9223372036854775807 < t3.length + 7 + da.length + 9 := by omega
  have z3 : ¬ 9223372036854775807 < t3.length + 7 + da.length + 9 + db.length := by omega
  have z4 : ¬ 9223372036854775807 < t3.length + 7 + da.length + 9 + db.length + 9 := by omega
  have z5 : ¬ 9223372036854775807 < t3.length + 7 + da.length + 9 + db.length + 9 + dc.length := by omega
  have z6 : ¬ 9223372036854775807 < t3.length + 7 + da.length + 9 + db.length + 9 + dc.length + 7 := by omega
  have e0 : Hid (({ data := t3.toArray } : ByteArray) ++ ({ data := #[108, 97, 116, 101, 115, 116, 32] } : ByteArray) ++ ({ data := da.toArray } : ByteArray) ++ ({ data := #[59, 10, 101, 120, 112, 105, 114, 121, 32] } : ByteArray) ++ ({ data := db.toArray } : ByteArray) ++ ({ data := #[59, 10, 119, 105, 116, 104, 105, 110, 32] } : ByteArray) ++ ({ data := dc.toArray } : ByteArray) ++ ({ data := #[32, 100, 97, 121, 115, 59, 10] } : ByteArray) = ⟨(t3 ++ [108, 97, 116, 101, 115, 116, 32] ++ da ++ [59, 10, 101, 120, 112, 105, 114, 121, 32] ++ db ++ [59, 10, 119, 105, 116, 104, 105, 110, 32] ++ dc ++ [32, 100, 97, 121, 115, 59, 10]).toArray⟩) := ByteArray.ext (by simp)
  have et : Hid (textL (heads c ++ confL c ++ midA c ++ midB c) = t3 ++ [108, 97, 116, 101, 115, 116, 32] ++ da ++ [59, 10, 101, 120, 112, 105, 114, 121, 32] ++ db ++ [59, 10, 119, 105, 116, 104, 105, 110, 32] ++ dc ++ [32, 100, 97, 121, 115, 59, 10]) := by
    unfold Hid; rw [textL_app, ht3.out, ← hda.out, ← hdb.out, ← hdc.out]; simp [textL, lineT, midB, spaced_cons, spaced_one]
  have eln : Hid ((t3 ++ [108, 97, 116, 101, 115, 116, 32] ++ da ++ [59, 10, 101, 120, 112, 105, 114, 121, 32] ++ db ++ [59, 10, 119, 105, 116, 104, 105, 110, 32] ++ dc ++ [32, 100, 97, 121, 115, 59, 10]).length ≤ 550) := by unfold Hid; simp only [List.length_append, List.length_cons, List.length_nil]; omega
  go_upto_region 7 with fail
  refine wp_region_ext (by kernel_rfl) (by kernel_rfl) ?_
  repeat (go_big_quiet_step (first | (go_at_call 58; first | with_reducible exact Calls.ext_of (qda.out _) | with_reducible exact Calls.ext_of (qdb.out _) | with_reducible exact Calls.ext_of (qdc.out _))))
  refine wpQuiet_nil ?_
  rintro _ ⟨y, rfl⟩
  have hB3 := Lib.hid (hB2.out.trans (y.below.mono hB2.out.size))
  have hX3 := Lib.hid (hX2.out.below y.below hX2.out.lt)
  obtain ⟨w3, hw3⟩ : ∃ v, y.wd = v := ⟨_, rfl⟩
  rw [hw3] at hB3 hX3 ⊢
  rw [e0.out]
  obtain ⟨t4, htt⟩ : ∃ v, Hid (t3 ++ [108, 97, 116, 101, 115, 116, 32] ++ da ++ [59, 10, 101, 120, 112, 105, 114, 121, 32] ++ db ++ [59, 10, 119, 105, 116, 104, 105, 110, 32] ++ dc ++ [32, 100, 97, 121, 115, 59, 10] = v) := ⟨_, Lib.hid rfl⟩
  rw [htt.out] at et eln ⊢
  have ht4 := et
  have hL4 := eln
  clear hw3 htt et eln e0 z0 z1 z2 z3 z4 z5 z6 hLk hB2 hX2 ht3 hL3 f11 f12 f13 qda hda lda qdb hdb ldb qdc hdc ldc
  have e34 : heads c ++ confL c ++ midA c ++ midB c = heads c ++ confL c ++ midL c := by simp [midL, midA, midB]
  rw [e34] at ht4
  clear e34
  have m14 : w3.cell? ⟨w.heap.size, 14, none⟩ = some (.int .i64 c.tenor) := (hX3.out.cell 14).trans (hk.out 14 (by decide))
  have mlt := hX3.out.lt
  go_upto_if 85 with fail
  go_cut [4] (fun v wx => Hid (Below w.heap.size w wx) ∧ Hid (Blk wx w.heap.size 41 C) ∧ ∃ t5, v = .string ⟨t5.toArray⟩ ∧ Hid (textL (heads c ++ confL c ++ midL c ++ tenL c) = t5) ∧ Hid (t5.length ≤ 590))
  case first =>
    have hLk := hL4.out
    by_cases ht0 : c.tenor = 0
    · have bc : (c.tenor == 0) = true := by simp [ht0]
      have bd : decide (c.tenor = 0) = true := by simp [ht0]
      have e5 : heads c ++ confL c ++ midL c ++ tenL c = heads c ++ confL c ++ midL c ++ [[[116, 101, 110, 111, 114], [115, 105, 103, 104, 116]]] := by unfold tenL; rw [if_pos ht0]
      simp only [bc]
      have z0 : ¬ 9223372036854775807 < t4.length + 13 := by omega
      have e0 : Hid (({ data := t4.toArray } : ByteArray) ++ ({ data := #[116, 101, 110, 111, 114, 32, 115, 105, 103, 104, 116, 59, 10] } : ByteArray) = ⟨(t4 ++ [116, 101, 110, 111, 114, 32, 115, 105, 103, 104, 116, 59, 10]).toArray⟩) := ByteArray.ext (by simp)
      have et : Hid (textL (heads c ++ confL c ++ midL c ++ tenL c) = t4 ++ [116, 101, 110, 111, 114, 32, 115, 105, 103, 104, 116, 59, 10]) := by
        unfold Hid; rw [e5, textL_app, ht4.out]; simp [textL, lineT, spaced_cons, spaced_one]
      go_wp2_with fail
      rw [e0.out]
      go_meet
      case rel => exact ⟨hB3, hX3, _, rfl, et, by unfold Hid; simp; omega⟩
    · have bc : (c.tenor == 0) = false := by simp [ht0]
      have bd : decide (c.tenor = 0) = false := by simp [ht0]
      have e5 : heads c ++ confL c ++ midL c ++ tenL c = heads c ++ confL c ++ midL c ++ [[[116, 101, 110, 111, 114], decN 20 c.tenor.toNat, [100, 97, 121, 115]]] := by unfold tenL; rw [if_neg ht0]
      simp only [bc]
      obtain ⟨da, hda⟩ : ∃ y, Hid (decN 20 c.tenor.toNat = y) := ⟨_, Lib.hid rfl⟩
      have lda : da.length ≤ 20 := by rw [← hda.out]; exact dec_len19
      have qda : Hid (Calls Tryz.prog 58 #[.int .i64 c.tenor] w3 fun e w' => e = .returned (.string ⟨da.toArray⟩) ∧ Below w3.heap.size w3 w') := by unfold Hid; rw [← hda.out]; exact rdig_any _ hs'.out.tenor.1 hs'.out.tenor.2 w3
      have z0 : ¬ 9223372036854775807 < t4.length + 6 := by omega
      have z1 : ¬ 9223372036854775807 < t4.length + 6 + da.length := by omega
      have z2 : ¬ 9223372036854775807 < t4.length + 6 + da.length + 7 := by omega
      have e0 : Hid (({ data := t4.toArray } : ByteArray) ++ ({ data := #[116, 101, 110, 111, 114, 32] } : ByteArray) ++ ({ data := da.toArray } : ByteArray) ++ ({ data := #[32, 100, 97, 121, 115, 59, 10] } : ByteArray) = ⟨(t4 ++ [116, 101, 110, 111, 114, 32] ++ da ++ [32, 100, 97, 121, 115, 59, 10]).toArray⟩) := ByteArray.ext (by simp)
      have et : Hid (textL (heads c ++ confL c ++ midL c ++ tenL c) = t4 ++ [116, 101, 110, 111, 114, 32] ++ da ++ [32, 100, 97, 121, 115, 59, 10]) := by
        unfold Hid; rw [e5, textL_app, ht4.out, ← hda.out]; simp [textL, lineT, spaced_cons, spaced_one]
      go_wp2_with fail
      refine qda.out.mono ?_
      rintro e v ⟨rfl, hq⟩
      have hB4 := Lib.hid (hB3.out.trans (hq.mono hB3.out.size))
      have hX4 := Lib.hid (hX3.out.below hq hX3.out.lt)
      clear hq
      go_wp2_with fail
      rw [e0.out]
      go_meet
      case rel => exact ⟨hB4, hX4, _, rfl, et, by unfold Hid; simp; omega⟩
  case rest =>
  obtain ⟨hB4, hX4, t5, rfl, ht5, hL5⟩ := hcut
  clear ht4 hL4 m14 mlt hB3 hX3
  obtain ⟨w4, hwk⟩ : ∃ y, wc = y := ⟨_, rfl⟩
  rw [hwk] at hB4 hX4 ⊢
  clear hwk
  have hLk := hL5.out
  obtain ⟨ya, hya⟩ : ∃ y, Hid (yesT c.part = y) := ⟨_, Lib.hid rfl⟩
  have lya : ya.length ≤ 20 := by rw [← hya.out]; unfold yesT; split <;> simp
  have qya : Hid (∀ y : Ext w4, Calls Tryz.prog 59 #[.bool c.part] y.wd fun e w' => e = .returned (.string ⟨ya.toArray⟩) ∧ y.wd = w') := fun y => by rw [← hya.out]; exact ryes_any _ y.wd
  obtain ⟨yb, hyb⟩ : ∃ y, Hid (yesT c.change = y) := ⟨_, Lib.hid rfl⟩
  have lyb : yb.length ≤ 20 := by rw [← hyb.out]; unfold yesT; split <;> simp
  have qyb : Hid (∀ y : Ext w4, Calls Tryz.prog 59 #[.bool c.change] y.wd fun e w' => e = .returned (.string ⟨yb.toArray⟩) ∧ y.wd = w') := fun y => by rw [← hyb.out]; exact ryes_any _ y.wd
  have f15 : ∀ y : Ext w4, y.wd.cell? ⟨w.heap.size, 15, none⟩ = some (.bool c.part) := fun y => (y.cell ⟨w.heap.size, 15, none⟩ hX4.out.lt).trans ((hX4.out.cell 15).trans (hk.out 15 (by decide)))
  have f16 : ∀ y : Ext w4, y.wd.cell? ⟨w.heap.size, 16, none⟩ = some (.bool c.change) := fun y => (y.cell ⟨w.heap.size, 16, none⟩ hX4.out.lt).trans ((hX4.out.cell 16).trans (hk.out 16 (by decide)))
  have z0 : ¬ 9223372036854775807 < t5.length + 8 := by omega
  have z1 : ¬ 9223372036854775807 < t5.length + 8 + ya.length := by omega
  have z2 : ¬ 9223372036854775807 < t5.length + 8 + ya.length + 9 := by omega
  have z3 : ¬ 9223372036854775807 < t5.length + 8 + ya.length + 9 + yb.length := by omega
  have z4 : ¬ 9223372036854775807 < t5.length + 8 + ya.length + 9 + yb.length + 2 := by omega
  have e0 : Hid (({ data := t5.toArray } : ByteArray) ++ ({ data := #[112, 97, 114, 116, 105, 97, 108, 32] } : ByteArray) ++ ({ data := ya.toArray } : ByteArray) ++ ({ data := #[59, 10, 99, 104, 97, 110, 103, 101, 32] } : ByteArray) ++ ({ data := yb.toArray } : ByteArray) ++ ({ data := #[59, 10] } : ByteArray) = ⟨(t5 ++ [112, 97, 114, 116, 105, 97, 108, 32] ++ ya ++ [59, 10, 99, 104, 97, 110, 103, 101, 32] ++ yb ++ [59, 10]).toArray⟩) := ByteArray.ext (by simp)
  have et : Hid (textL (heads c ++ confL c ++ midL c ++ tenL c ++ ([[[112, 97, 114, 116, 105, 97, 108], yesT c.part]] ++ [[[99, 104, 97, 110, 103, 101], yesT c.change]])) = t5 ++ [112, 97, 114, 116, 105, 97, 108, 32] ++ ya ++ [59, 10, 99, 104, 97, 110, 103, 101, 32] ++ yb ++ [59, 10]) := by
    unfold Hid; rw [textL_app, ht5.out, ← hya.out, ← hyb.out]; simp [textL, lineT, spaced_cons, spaced_one]
  have eln : Hid ((t5 ++ [112, 97, 114, 116, 105, 97, 108, 32] ++ ya ++ [59, 10, 99, 104, 97, 110, 103, 101, 32] ++ yb ++ [59, 10]).length ≤ 650) := by unfold Hid; simp only [List.length_append, List.length_cons, List.length_nil]; omega
  go_upto_region 11 with fail
  refine wp_region_ext (by kernel_rfl) (by kernel_rfl) ?_
  repeat (go_big_quiet_step (first | (go_at_call 59; first | with_reducible exact Calls.ext_of_same (qya.out _) | with_reducible exact Calls.ext_of_same (qyb.out _))))
  refine wpQuiet_nil ?_
  rintro _ ⟨y, rfl⟩
  have hB5 := Lib.hid (hB4.out.trans (y.below.mono hB4.out.size))
  have hX5 := Lib.hid (hX4.out.below y.below hX4.out.lt)
  obtain ⟨w5, hw5⟩ : ∃ v, y.wd = v := ⟨_, rfl⟩
  rw [hw5] at hB5 hX5 ⊢
  rw [e0.out]
  obtain ⟨t6, htt⟩ : ∃ v, Hid (t5 ++ [112, 97, 114, 116, 105, 97, 108, 32] ++ ya ++ [59, 10, 99, 104, 97, 110, 103, 101, 32] ++ yb ++ [59, 10] = v) := ⟨_, Lib.hid rfl⟩
  rw [htt.out] at et eln ⊢
  have ht6 := et
  have hL6 := eln
  clear hw5 htt et eln e0 z0 z1 z2 z3 z4 hLk hB4 hX4 ht5 hL5 f15 f16 qya hya lya qyb hyb lyb
  have ht6' : Hid (textL (topL c ++ (l.take 0).map needL) = t6) := by
    have e0 : topL c ++ (l.take 0).map needL = heads c ++ confL c ++ midL c ++ tenL c ++ ([[[112, 97, 114, 116, 105, 97, 108], yesT c.part]] ++ [[[99, 104, 97, 110, 103, 101], yesT c.change]]) := by simp [topL]
    unfold Hid; rw [e0]; exact ht6.out
  clear ht6 hL6
  have m17 : w5.cell? ⟨w.heap.size, 17, none⟩ = some (.slice A n cc) := (hX5.out.cell 17).trans (hk.out 17 (by decide))
  have mlt := hX5.out.lt
  go_wp2_with fail
  go_loopg [4, 5] n (fun gg v a wr => ∃ q : Nat, q ≤ n ∧ gg = n - q ∧ a = .int .i64 q ∧ Hid (Below w.heap.size w wr) ∧ Hid (Blk wr w.heap.size 41 C) ∧ ∃ acc : Txt, v = .string ⟨acc.toArray⟩ ∧ Hid (textL (topL c ++ (l.take q).map needL) = acc))
  case atStart => exact ⟨0, Nat.zero_le _, rfl, rfl, hB5, hX5, t6, rfl, ht6'⟩
  case round =>
    clear hB5 hX5 ht6' m17 mlt
    obtain ⟨q, hq, hg, rfl, hB, hX, acc, rfl, hacc⟩ := hrel
    have hg' := Lib.hid hg
    clear hg
    have m17 : wr.cell? ⟨w.heap.size, 17, none⟩ = some (.slice A n cc) := (hX.out.cell 17).trans (hk.out 17 (by decide))
    have mlt := hX.out.lt
    by_cases hlt : q < n
    · have i1 : decide ((q : Int) < (n : Int)) = true := by simp; omega
      have i2 : (q : Int) < (n : Int) := by omega
      have i3 : (0 : Int) ≤ (q : Int) := by omega
      obtain ⟨x, hxq⟩ : ∃ x, l[q]? = some x := ⟨_, List.getElem?_eq_getElem (by have := hl.out; omega)⟩
      have hmem := List.mem_of_getElem? hxq
      obtain ⟨k0, k6, c1', c9, hmr⟩ := need_parts (hneeds'.out x hmem)
      have hzx := (hz.out x hmem).1
      have hlen : Hid (acc.length ≤ 10000000000) := by
        have h1 := needs_len (l.take q) 100000000 (fun y hy => (hz.out y (List.mem_of_mem_take hy)).1)
        have h2 := htop.out
        have h3 : (l.take q).length ≤ 64 := by have := hn64'.out; rw [List.length_take]; omega
        have h4 : (l.take q).length * (100000000 + 100) ≤ 64 * (100000000 + 100) := Nat.mul_le_mul_right _ h3
        unfold Hid
        rw [← hacc.out, textL_app, List.length_append]
        omega
      have hstep : Hid (textL (topL c ++ (l.take (q + 1)).map needL) = acc ++ lineT (needL x)) := by
        unfold Hid
        rw [List.take_add_one, hxq]
        simp only [Option.toList, List.map_append, List.map_cons, List.map_nil, ← List.append_assoc]
        rw [textL_snoc, hacc.out]
      obtain ⟨bb, off, rfl, _, hc, hTt⟩ := (hN.out.below hB.out) q x hxq
      obtain ⟨al, hal⟩ : ∃ b, Hid (alwaysR (strip x.rule) = b) := ⟨_, Lib.hid rfl⟩
      obtain ⟨sh, hsh⟩ : ∃ b, Hid (showR (strip x.rule) = b) := ⟨_, Lib.hid rfl⟩
      obtain ⟨pt, hpt⟩ : ∃ b, Hid (paperT x.kind = b) := ⟨_, Lib.hid rfl⟩
      obtain ⟨dn, hdn⟩ : ∃ b, Hid (decN 20 x.count.toNat = b) := ⟨_, Lib.hid rfl⟩
      have lsh : sh.length ≤ 100000000 := by rw [← hsh.out]; exact Nat.le_trans (show_len _) hzx
      have lpt : pt.length ≤ 20 := by rw [← hpt.out]; exact paper_len _
      have ldn : dn.length ≤ 20 := by rw [← hdn.out]; exact dec_len19
      have hacl := hlen.out
      have c1 : Hid (∀ W, Calls Tryz.prog 61 #[.agg x.rule.cells] W fun e w' => e = .returned (.bool al) ∧ Below W.heap.size W w') := fun W => by
        have h := ralways_any x.rule W
        rw [hal.out] at h
        exact h
      have c2 : Hid (al = false → ∀ W, Below wr.heap.size wr W → Calls Tryz.prog 41 #[.agg x.rule.cells] W fun e w' => e = .returned (.string ⟨sh.toArray⟩) ∧ Below W.heap.size W w') := fun hf W hW => by
        have h := rshow_any x.rule W ok (hTt.below hW) (hmr.resolve_left (by rw [hal.out, hf]; decide)) (Lib.hid (by unfold mostZ; omega))
        rw [hsh.out] at h
        exact h
      have c3 : Hid (∀ W, Calls Tryz.prog 58 #[.int .i64 x.count] W fun e w' => e = .returned (.string ⟨dn.toArray⟩) ∧ Below W.heap.size W w') := fun W => by
        have h := rdig_any x.count (by omega) (by omega) W
        rw [hdn.out] at h
        exact h
      have hnd : Hid (needL x = [[119, 97, 110, 116, 115], pt, [99, 111, 112, 105, 101, 115], dn] ++ (if al = true then [] else [[119, 105, 116, 104], sh])) := by
        unfold Hid needL
        rw [hal.out, hpt.out, hdn.out, hsh.out]
      obtain ⟨pn, hpn⟩ : ∃ pn : Nat, x.kind = (pn : Int) := ⟨x.kind.toNat, by omega⟩
      have hp6 : pn < 6 := by omega
      have c4 : Hid (∀ W, Calls Tryz.prog 60 #[.int .i64 pn] W fun e w' => e = .returned (.string ⟨pt.toArray⟩) ∧ W = w') := fun W => by
        have h := rword_any pn hp6 W
        have e : papersL.getD pn [] = pt := by
          rw [← hpt.out, hpn]
          show _ = papersL.getD ((pn : Int)).toNat []
          rw [show ((pn : Int)).toNat = pn by omega]
        rw [e] at h
        exact h
      clear hxq hmem hmr hzx hTt hacc hal hsh hpt hdn k0 k6 c1' c9 hp6 hlen
      obtain ⟨xk, xn, ⟨tk, tp, tf, tx, tn, tA, tc, tL⟩⟩ := x
      obtain rfl : xk = (pn : Int) := hpn
      have g0 : wr.cell? ⟨bb, off + q * 8, none⟩ = some (.int .i64 pn) := hc 0 _ rfl
      have g1 : wr.cell? ⟨bb, off + q * 8 + 1, none⟩ = some (.int .i64 xn) := hc 1 _ rfl
      have g2 : wr.cell? ⟨bb, off + q * 8 + 2, none⟩ = some (.int .i64 tk) := hc 2 _ rfl
      have g3 : wr.cell? ⟨bb, off + q * 8 + 3, none⟩ = some (.int .i64 tp) := hc 3 _ rfl
      have g4 : wr.cell? ⟨bb, off + q * 8 + 4, none⟩ = some (.string ⟨tf.toArray⟩) := hc 4 _ rfl
      have g5 : wr.cell? ⟨bb, off + q * 8 + 5, none⟩ = some (.string ⟨tx.toArray⟩) := hc 5 _ rfl
      have g6 : wr.cell? ⟨bb, off + q * 8 + 6, none⟩ = some (.int .i64 tn) := hc 6 _ rfl
      have g7 : wr.cell? ⟨bb, off + q * 8 + 7, none⟩ = some (.slice tA tL.length tc) := hc 7 _ rfl
      clear hc
      simp only [Tree.cells] at c1 c2 c3
      have hbl : Below wr.heap.size wr (wr.alloc (.cells #[.int .i64 pn, .int .i64 xn, .int .i64 tk, .int .i64 tp, .string ⟨tf.toArray⟩, .string ⟨tx.toArray⟩, .int .i64 tn, .slice tA tL.length tc] 74)) := (Below.refl _ _).alloc (Nat.le_refl _) _
      have hM := Lib.hid (Blk.new wr 74 #[.int .i64 pn, .int .i64 xn, .int .i64 tk, .int .i64 tp, .string ⟨tf.toArray⟩, .string ⟨tx.toArray⟩, .int .i64 tn, .slice tA tL.length tc])
      have hBn := Lib.hid (hB.out.trans (hbl.mono hB.out.size))
      have hXn := Lib.hid (hX.out.below hbl hX.out.lt)
      have hbl' := Lib.hid hbl
      obtain ⟨wb, hwb⟩ : ∃ y, Hid (wr.alloc (.cells #[.int .i64 pn, .int .i64 xn, .int .i64 tk, .int .i64 tp, .string ⟨tf.toArray⟩, .string ⟨tx.toArray⟩, .int .i64 tn, .slice tA tL.length tc] 74) = y) := ⟨_, Lib.hid rfl⟩
      clear hbl
      go_upto_region 16 with fail
      rw [hwb.out] at hM hBn hXn hbl' ⊢
      obtain ⟨G, hG⟩ : ∃ y, Hid (wr.heap.size = y) := ⟨_, Lib.hid rfl⟩
      rw [hG.out] at hM ⊢
      clear hwb g0 g1 g2 g3 g4 g5 g6 g7 m17 mlt
      have f0 : ∀ y : Ext wb, y.wd.cell? ⟨G, 0, none⟩ = some (.int .i64 pn) := fun y => (y.cell ⟨G, 0, none⟩ hM.out.lt).trans (hM.out.cell 0)
      have f1 : ∀ y : Ext wb, y.wd.cell? ⟨G, 1, none⟩ = some (.int .i64 xn) := fun y => (y.cell ⟨G, 1, none⟩ hM.out.lt).trans (hM.out.cell 1)
      have q3 : Hid (∀ y : Ext wb, Calls Tryz.prog 58 #[.int .i64 xn] y.wd fun e w' => e = .returned (.string ⟨dn.toArray⟩) ∧ Below y.wd.heap.size y.wd w') := fun y => c3.out y.wd
      have q4 : Hid (∀ y : Ext wb, Calls Tryz.prog 60 #[.int .i64 pn] y.wd fun e w' => e = .returned (.string ⟨pt.toArray⟩) ∧ y.wd = w') := fun y => c4.out y.wd
      have z0 : ¬ 9223372036854775807 < acc.length + 6 := by omega
      have z1 : ¬ 9223372036854775807 < acc.length + 6 + pt.length := by omega
      have z2 : ¬ 9223372036854775807 < acc.length + 6 + pt.length + 8 := by omega
      have z3 : ¬ 9223372036854775807 < acc.length + 6 + pt.length + 8 + dn.length := by omega
      have e0 : Hid (({ data := acc.toArray } : ByteArray) ++ ({ data := #[119, 97, 110, 116, 115, 32] } : ByteArray) ++ ({ data := pt.toArray } : ByteArray) ++ ({ data := #[32, 99, 111, 112, 105, 101, 115, 32] } : ByteArray) ++ ({ data := dn.toArray } : ByteArray) = ⟨(acc ++ [119, 97, 110, 116, 115, 32] ++ pt ++ [32, 99, 111, 112, 105, 101, 115, 32] ++ dn).toArray⟩) := ByteArray.ext (by simp)
      refine wp_region_ext (by kernel_rfl) (by kernel_rfl) ?_
      repeat (go_big_quiet_step (first | (go_at_call 58; with_reducible exact Calls.ext_of (q3.out _)) | (go_at_call 60; with_reducible exact Calls.ext_of_same (q4.out _))))
      refine wpQuiet_nil ?_
      rintro _ ⟨y, rfl⟩
      have hB4 := Lib.hid (hBn.out.trans (y.below.mono hBn.out.size))
      have hX4 := Lib.hid (hXn.out.below y.below hXn.out.lt)
      have hM4 := Lib.hid (hM.out.below y.below hM.out.lt)
      have hl4 := Lib.hid (hbl'.out.trans (y.below.mono hbl'.out.size))
      obtain ⟨w4, hw4⟩ : ∃ v, y.wd = v := ⟨_, rfl⟩
      rw [hw4] at hB4 hX4 hM4 hl4 ⊢
      rw [e0.out]
      clear hw4 e0 f0 f1 q3 q4 hM hBn hXn hbl' z0 z1 z2 z3
      obtain ⟨ac2, hac2⟩ : ∃ v, Hid (acc ++ [119, 97, 110, 116, 115, 32] ++ pt ++ [32, 99, 111, 112, 105, 101, 115, 32] ++ dn = v) := ⟨_, Lib.hid rfl⟩
      have la2 : ac2.length ≤ 10000000100 := by rw [← hac2.out]; simp only [List.length_append, List.length_cons, List.length_nil]; omega
      rw [hac2.out]
      have m2 : w4.cell? ⟨G, 2, none⟩ = some (.int .i64 tk) := hM4.out.cell 2
      have m3 : w4.cell? ⟨G, 2 + 1, none⟩ = some (.int .i64 tp) := hM4.out.cell 3
      have m4 : w4.cell? ⟨G, 2 + 2, none⟩ = some (.string ⟨tf.toArray⟩) := hM4.out.cell 4
      have m5 : w4.cell? ⟨G, 2 + 3, none⟩ = some (.string ⟨tx.toArray⟩) := hM4.out.cell 5
      have m6 : w4.cell? ⟨G, 2 + 4, none⟩ = some (.int .i64 tn) := hM4.out.cell 6
      have m7 : w4.cell? ⟨G, 2 + 5, none⟩ = some (.slice tA tL.length tc) := hM4.out.cell 7
      have mlt := hM4.out.lt
      go_wp2_with fail
      refine (c1.out w4).mono ?_
      rintro e w5 ⟨rfl, hb5⟩
      have hB5 := Lib.hid (hB4.out.trans (hb5.mono hB4.out.size))
      have hX5 := Lib.hid (hX4.out.below hb5 hX4.out.lt)
      have hl5 := Lib.hid (hl4.out.trans (hb5.mono hl4.out.size))
      have hM5 := Lib.hid (hM4.out.below hb5 hM4.out.lt)
      clear hb5 hB4 hX4 hl4 hM4 m2 m3 m4 m5 m6 m7 mlt c1
      cases al with
      | true =>
        rw [if_pos rfl, List.append_nil] at hnd
        have z0 : ¬ 9223372036854775807 < ac2.length + 2 := by omega
        have e0 : Hid (({ data := ac2.toArray } : ByteArray) ++ ({ data := #[59, 10] } : ByteArray) = ⟨(ac2 ++ [59, 10]).toArray⟩) := ByteArray.ext (by simp)
        have et : Hid (textL (topL c ++ (l.take (q + 1)).map needL) = ac2 ++ [59, 10]) := by
          unfold Hid; rw [hstep.out, hnd.out, ← hac2.out]; simp [lineT, spaced_cons, spaced_one]
        go_wp2_with fail
        rw [e0.out]
        go_roundg (n - (q + 1))
        case measure => have := hg'.out; omega
        case rel => exact ⟨q + 1, by omega, rfl, by go_num, hB5, hX5, _, rfl, et⟩
      | false =>
        rw [if_neg (by decide)] at hnd
        have m2 : w5.cell? ⟨G, 2, none⟩ = some (.int .i64 tk) := hM5.out.cell 2
        have m3 : w5.cell? ⟨G, 2 + 1, none⟩ = some (.int .i64 tp) := hM5.out.cell 3
        have m4 : w5.cell? ⟨G, 2 + 2, none⟩ = some (.string ⟨tf.toArray⟩) := hM5.out.cell 4
        have m5 : w5.cell? ⟨G, 2 + 3, none⟩ = some (.string ⟨tx.toArray⟩) := hM5.out.cell 5
        have m6 : w5.cell? ⟨G, 2 + 4, none⟩ = some (.int .i64 tn) := hM5.out.cell 6
        have m7 : w5.cell? ⟨G, 2 + 5, none⟩ = some (.slice tA tL.length tc) := hM5.out.cell 7
        have mlt := hM5.out.lt
        have z0 : ¬ 9223372036854775807 < ac2.length + 6 := by omega
        have z1 : ¬ 9223372036854775807 < ac2.length + 6 + sh.length := by omega
        have z2 : ¬ 9223372036854775807 < ac2.length + 6 + sh.length + 2 := by omega
        have e0 : Hid (({ data := ac2.toArray } : ByteArray) ++ ({ data := #[32, 119, 105, 116, 104, 32] } : ByteArray) ++ ({ data := sh.toArray } : ByteArray) ++ ({ data := #[59, 10] } : ByteArray) = ⟨(ac2 ++ [32, 119, 105, 116, 104, 32] ++ sh ++ [59, 10]).toArray⟩) := ByteArray.ext (by simp)
        have et : Hid (textL (topL c ++ (l.take (q + 1)).map needL) = ac2 ++ [32, 119, 105, 116, 104, 32] ++ sh ++ [59, 10]) := by
          unfold Hid; rw [hstep.out, hnd.out, ← hac2.out]; simp [lineT, spaced_cons, spaced_one]
        go_wp2_with fail
        refine (c2.out (by simp) w5 hl5.out).mono ?_
        rintro e w6 ⟨rfl, hb6⟩
        have hB6 := Lib.hid (hB5.out.trans (hb6.mono hB5.out.size))
        have hX6 := Lib.hid (hX5.out.below hb6 hX5.out.lt)
        clear hb6 hB5 hX5 hl5 hM5 m2 m3 m4 m5 m6 m7 mlt c2
        go_wp2_with fail
        rw [e0.out]
        go_roundg (n - (q + 1))
        case measure => have := hg'.out; omega
        case rel => exact ⟨q + 1, by omega, rfl, by go_num, hB6, hX6, _, rfl, et⟩
    · have i1 : decide ((q : Int) < (n : Int)) = false := by simp; omega
      obtain rfl : n = q := by omega
      have hfin : Hid (creditT c l = acc) := by
        unfold Hid creditT
        rw [← hacc.out, List.take_of_length_le (by have := hl.out; omega)]
      rw [hfin.out] at eTT eEE
      clear hacc hfin
      by_cases h4 : 4096 < acc.length
      · have b1 : decide ((4096 : Int) < (acc.length : Int)) = true := by simp; omega
        have b2 : decide (4096 < acc.length) = true := by simpa using h4
        go_wp2_with fail
        go_ret2
        exact ⟨by rw [eTT.out, eEE.out]; simp [h4], hB.out⟩
      · have b1 : decide ((4096 : Int) < (acc.length : Int)) = false := by simp; omega
        have b2 : decide (4096 < acc.length) = false := by simpa using h4
        go_wp2_with fail
        go_ret2
        exact ⟨by rw [eTT.out, eEE.out]; simp [h4], hB.out⟩
end Go.Proofs.YtjkmhlfjheiekaaGreatDoor

/- The cure's method other: the first paper ahead that is asked for and has the field. -/
import Derived.Test.YtdjmckjbibfecaaGreatDoorEm
import Derived.Test.YtdjmckjbibfecaaGreatDoorMd
namespace Go.Proofs.YtdjmckjbibfecaaGreatDoor
open Go Go.RowKit Go.BigFrame Go.Maps

/-- The table of the fields that all papers are to have alike, of the package core. -/
def AlikeC (w : World) : Prop := ∀ n, n < 6 → w.cell? ⟨3, n, none⟩ = some (.string (mkB (alikeL n)))
theorem AlikeC.below {w w' : World} (h : AlikeC w) (hb : Below w.heap.size w w') : AlikeC w' := fun n hn => (hb.cell (World.block_lt_of_cell? w _ (h n hn))).trans (h n hn)
def needC (k cnt : Int) : Tree → Array Value
  | .mk k' p f x n A c L => #[.int .i64 k, .int .i64 cnt, .int .i64 k', .int .i64 p, .string f, .string x, .int .i64 n, .slice A L.length c]
set_option maxRecDepth 100000 in
set_option maxHeartbeats 1600000 in
theorem other1_any (k cnt kd : Int) (t : Tree) (g : Nat) (w : World) (hg : w.cell? ⟨g, 0, none⟩ = some (.int .i64 kd)) :
    Calls Tryz.prog 174 #[.agg (needC k cnt t), .pointer (some ⟨g, 0, none⟩)] w fun e w' => e = .returned (.bool (decide (k = kd))) ∧ Below w.heap.size w w' := by
  obtain ⟨tk, tp, tf, tx, tn, tA, tc, tL⟩ := t
  simp only [needC]
  have hgl : g < w.heap.size := World.block_lt_of_cell? w _ hg
  obtain ⟨w0, hw0⟩ : ∃ X, Hid (w.alloc (.cells #[.int .i64 k, .int .i64 cnt, .int .i64 tk, .int .i64 tp, .string tf, .string tx, .int .i64 tn, .slice tA tL.length tc] 71) = X) := ⟨_, rfl⟩
  have hb0 : Hid (Below w.heap.size w w0) := by rw [← hw0.out]; exact (Below.refl _ w).alloc (Nat.le_refl _) _
  have hN0 : Hid (Blk w0 w.heap.size 71 #[.int .i64 k, .int .i64 cnt, .int .i64 tk, .int .i64 tp, .string tf, .string tx, .int .i64 tn, .slice tA tL.length tc]) := by rw [← hw0.out]; exact Lib.hid (Blk.new _ _ _)
  have q0 : w0.cell? ⟨w.heap.size, 0, none⟩ = some (.int .i64 k) := hN0.out.cell 0
  have q1 : w0.cell? ⟨g, 0, none⟩ = some (.int .i64 kd) := (hb0.out.cell (p := ⟨g, 0, none⟩) hgl).trans hg
  go_enter Tryz.func174, Tryz.ntmps174
  go_wp2_with (rw [hw0.out])
  go_ret
  exact ⟨retBl (by rw [Bool.eq_iff_iff]; simp), hb0.out⟩
set_option maxRecDepth 100000 in
set_option maxHeartbeats 1600000 in
theorem indexN_any (A : Option Addr) (n c : Nat) (l : List Nd) (kd : Int) (g : Nat) (w : World) (hn : n ≤ 1000) (hl : Hid (l.length = n)) (hA : Hid (NdsAt w A l)) (hg : w.cell? ⟨g, 0, none⟩ = some (.int .i64 kd)) :
    Calls Tryz.prog 200 #[.slice A n c, .func (Fn.func 174) #[] #[.pointer (some ⟨g, 0, none⟩)]] w fun e w' => ∃ i : Int, e = .returned (.int .i64 i) ∧ decide (0 ≤ i) = askedB l kd ∧ Below w.heap.size w w' := by
  have hgl : g < w.heap.size := World.block_lt_of_cell? w _ hg
  have hg' := Lib.hid hg
  clear hg
  go_enter Tryz.func200, Tryz.ntmps200
  go_wp2_with fail
  go_loopw [8] (fun i wr => ∃ k : Nat, k ≤ n ∧ i = .int .i64 k ∧ Hid (askedB l kd = askedB (l.drop k) kd) ∧ Hid (Below w.heap.size w wr)) (fun i _ => n - (intOf i).toNat)
  case atStart => exact ⟨0, Nat.zero_le _, rfl, rfl, Below.refl _ _⟩
  case round =>
    obtain ⟨k, hk, rfl, hsame, hB⟩ := hrel
    by_cases hlt : k < n
    · obtain ⟨x, hx⟩ : ∃ x, l[k]? = some x := ⟨_, List.getElem?_eq_getElem (by have := hl.out; omega)⟩
      have hst : Hid (askedB (l.drop k) kd = (decide (x.kind = kd) || askedB (l.drop (k + 1)) kd)) := by
        obtain ⟨hk', he⟩ := List.getElem?_eq_some_iff.1 hx
        unfold Hid askedB
        rw [List.drop_eq_getElem_cons hk', he, List.any_cons]
      obtain ⟨_, _, _, b, off, rfl, h0, h1, h2⟩ := (hA.out.below hB.out) k x hx
      have hgr : wr.cell? ⟨g, 0, none⟩ = some (.int .i64 kd) := (hB.out.cell (p := ⟨g, 0, none⟩) hgl).trans hg'.out
      have hcall := Lib.hid (other1_any x.kind x.count kd x.rule g wr hgr)
      have hkm : decide (k < n) = true := decide_eq_true hlt
      have i1 : (k : Int) < (n : Int) := by omega
      have i2 : (0 : Int) ≤ (k : Int) := by omega
      clear hx hgr
      obtain ⟨xk, xc, t⟩ := x
      obtain ⟨tk, tp, tf, tx, tn, tA, tc, tL⟩ := t
      simp only [needC] at hcall h0 h1 h2 hst
      obtain ⟨h2, h3, h4, h5, h6, h7⟩ := h2
      obtain ⟨B, hBd⟩ : ∃ z, decide (xk = kd) = z := ⟨_, rfl⟩
      rw [hBd] at hcall hst
      clear hBd
      cases B with
      | true =>
        go_wp2_with fail
        refine hcall.out.mono ?_
        rintro e w1 ⟨rfl, hb1⟩
        have hB1 : Hid (Below w.heap.size w w1) := hB.out.trans (hb1.mono hB.out.size)
        clear hb1 h0 h1 h2 h3 h4 h5 h6 h7
        go_wp2_with fail
        go_ret
        exact ⟨k, rfl, by rw [hsame.out, hst.out]; simp, hB1.out⟩
      | false =>
        go_wp2_with fail
        refine hcall.out.mono ?_
        rintro e w1 ⟨rfl, hb1⟩
        have hB1 : Hid (Below w.heap.size w w1) := hB.out.trans (hb1.mono hB.out.size)
        clear hb1 h0 h1 h2 h3 h4 h5 h6 h7
        go_wp2_with fail
        go_roundw
        case rel => exact ⟨k + 1, by omega, by go_num, Lib.hid (by rw [hsame.out, hst.out]; rfl), hB1⟩
        case measure => simp [intOf]; omega
    · have hkm : decide (k < n) = false := decide_eq_false hlt
      have hend : Hid (askedB l kd = false) := by
        unfold Hid
        rw [hsame.out, List.drop_eq_nil_of_le (by have := hl.out; omega)]
        rfl
      go_wp2_with fail
      go_ret
      exact ⟨-1, rfl, by rw [hend.out]; rfl, hB.out⟩
set_option maxRecDepth 100000 in
theorem containsN_any (A : Option Addr) (n c : Nat) (l : List Nd) (kd : Int) (g : Nat) (w : World) (hn : n ≤ 1000) (hl : Hid (l.length = n)) (hA : Hid (NdsAt w A l)) (hg : w.cell? ⟨g, 0, none⟩ = some (.int .i64 kd)) :
    Calls Tryz.prog 173 #[.slice A n c, .func (Fn.func 174) #[] #[.pointer (some ⟨g, 0, none⟩)]] w fun e w' => e = .returned (.bool (askedB l kd)) ∧ Below w.heap.size w w' := by
  have hix := Lib.hid (indexN_any A n c l kd g w hn hl hA hg)
  clear hg
  go_enter Tryz.func173, Tryz.ntmps173
  go_wp2_with fail
  refine hix.out.mono ?_
  rintro e w1 ⟨i, rfl, hi, hb⟩
  have hi' := Lib.hid hi
  have hb' := Lib.hid hb
  clear hix hi hb
  go_wp2_with fail
  go_ret
  exact ⟨by rw [← hi'.out]; rfl, hb'.out⟩
theorem known_step (s : ByteArray) (q : Nat) : ((List.range (q + 1)).any fun i => decide ((alikeB i).toList = s.toList)) = (((List.range q).any fun i => decide ((alikeB i).toList = s.toList)) || decide ((alikeB q).toList = s.toList)) := by
  rw [List.range_succ, List.any_append]
  simp
theorem ahead_at {needs : List Nd} {l : List Pap} {q : Nat} {x : Pap} {s : ByteArray} (hx : l[q]? = some x) : aheadF needs (l.drop q) s = match (if askedB needs x.kind then getF x.fields s else none) with
    | some v => some v
    | none => aheadF needs (l.drop (q + 1)) s := by
  obtain ⟨hq, he⟩ := List.getElem?_eq_some_iff.1 hx
  rw [List.drop_eq_getElem_cons hq, he, aheadF]
  rfl
theorem getF_there {l : List Fld} {s : ByteArray} (h : getB l s = true) : getF l s = some (getV l s) := by
  unfold getB at h
  unfold getV
  cases hg : getF l s with
  | none => rw [hg] at h; cases h
  | some v => rfl
theorem getF_not {l : List Fld} {s : ByteArray} (h : getB l s = false) : getF l s = none := by
  unfold getB at h
  cases hg : getF l s with
  | none => rfl
  | some v => rw [hg] at h; cases h
set_option maxRecDepth 100000 in
set_option maxHeartbeats 6400000 in
theorem cother_any (w : World) (C : Array Value) (c : Crd) (A : Option Addr) (nn cc : Nat) (docs : List Pap) (day : Int) (a : Nat) (d : Pap) (s v : ByteArray) (b : Bool) (xb : Nat) (hS : Hid (CureS w C c A nn cc docs day a d s v b xb))
    (nA : Option Addr) (nl nc : Nat) (needs : List Nd) (hnl : Hid (needs.length = nl)) (hl12 : nl ≤ 1000) (hC17 : Hid (C[17]? = some (.slice nA nl nc))) (hN : Hid (NdsAt w nA needs)) (hal : Hid (AlikeC w)) (hcap : nn ≤ cc) :
    Calls Tryz.prog 123 #[.pointer (some ⟨xb, 0, none⟩)] w (CuredR (otherM needs (docs.take a) d s) w) := by
  have hsz := Lib.hid hS.out.crd.size
  have hnn := hS.out.room.most
  have hlen := Lib.hid hS.out.room.len
  have hlt : a < nn := by have := (List.getElem?_eq_some_iff.1 hS.out.at_).1; have := hlen.out; omega
  obtain ⟨b3, f3, rfl, _⟩ := hS.out.room.at_ a d hS.out.at_
  have hbk := Lib.hid hS.out.blk
  have hrm := Lib.hid hS.out.room
  have hP : Hid (otherM needs (docs.take a) d s = if knownB s = true ∧ b = true then (aheadF needs (docs.take a) s).bind fun u => if u.toList = v.toList then none else some u else none) := by unfold Hid otherM; rw [hS.out.val, hS.out.there]
  obtain ⟨P, hPd⟩ : ∃ z, Hid (otherM needs (docs.take a) d s = z) := ⟨_, rfl⟩
  rw [hPd.out] at hP ⊢
  have a0 := hal.out 0 (by omega)
  have a1 := hal.out 1 (by omega)
  have a2 := hal.out 2 (by omega)
  have a3 := hal.out 3 (by omega)
  have a4 := hal.out 4 (by omega)
  have a5 := hal.out 5 (by omega)
  have x21 : w.cell? ⟨xb, 21, none⟩ = some (.string s) := (hbk.out.cell 21).trans (cuX_name hsz.out)
  have x23 : w.cell? ⟨xb, 23, none⟩ = some (.bool b) := (hbk.out.cell 23).trans (cuX_there hsz.out)
  obtain ⟨L, hL⟩ : ∃ z, Hid (docs.take a = z) := ⟨_, rfl⟩
  have hLl : Hid (L.length = a) := by unfold Hid; rw [← hL.out, List.length_take]; have := hlen.out; omega
  have hLg : Hid (∀ i x, L[i]? = some x → docs[i]? = some x) := Lib.hid fun i x h => by
    rw [← hL.out, List.getElem?_take] at h
    split at h
    · exact h
    · cases h
  rw [hL.out] at hP
  clear hS hPd hL
  have hkn0 : Hid (knownB s = (List.range 6).any fun i => decide ((alikeB i).toList = s.toList)) := rfl
  go_enter Tryz.func123, Tryz.ntmps123
  go_wp2_with fail
  clear a0 a1 a2 a3 a4 a5
  go_loopw [4, 13] (fun kv i wr => ∃ q : Nat, q ≤ 6 ∧ i = .int .i64 q ∧ kv = .bool ((List.range q).any fun i => decide ((alikeB i).toList = s.toList)) ∧ w = wr) (fun _ i _ => 6 - (intOf i).toNat)
  case atStart => exact ⟨0, by omega, rfl, rfl, rfl⟩
  case round =>
    obtain ⟨q, hq, rfl, rfl, rfl⟩ := hrel
    by_cases hl6 : q < 6
    · have hix := index69m q hl6
      have hst := Lib.hid (known_step s q)
      obtain ⟨nm, hnm⟩ : ∃ nm, Hid (alikeB q = nm) := ⟨_, rfl⟩
      rw [hnm.out] at hix hst
      obtain ⟨kn, hkn⟩ : ∃ z, ((List.range q).any fun i => decide ((alikeB i).toList = s.toList)) = z := ⟨_, rfl⟩
      rw [hkn] at hst ⊢
      have hqe : Hid ((nm.toList == s.toList) = decide (nm.toList = s.toList)) := by unfold Hid; rw [Bool.eq_iff_iff]; simp
      have hkm : decide (q < 6) = true := decide_eq_true hl6
      have i1 : (q : Int) < 6 := by omega
      have i2 : (0 : Int) ≤ (q : Int) := by omega
      clear hkn
      cases kn with
      | true =>
        go_wp2_with fail
        go_roundw
        case rel => exact ⟨q + 1, by omega, by go_num, by rw [hst.out]; rfl, by first | trivial | rfl⟩
        case measure => simp [intOf]; omega
      | false =>
        go_wp2_with fail
        go_roundw
        case rel => exact ⟨q + 1, by omega, by go_num, by rw [hst.out, ← hqe.out]; rfl, by first | trivial | rfl⟩
        case measure => simp [intOf]; omega
    · have hkm : decide (q < 6) = false := decide_eq_false hl6
      have hi6 : ¬ ((q : Int) < 6) := by omega
      have hi7 : decide ((q : Int) < 6) = false := decide_eq_false hi6
      have hq6 : q = 6 := by omega
      generalize ((q : Nat) : Int) = i6 at hi6 hi7 ⊢
      subst hq6
      rw [← hkn0.out]
      clear hkn0
      obtain ⟨kn, hkn⟩ : ∃ z, knownB s = z := ⟨_, rfl⟩
      rw [hkn] at hP ⊢
      clear hkn hkm hl6 hq
      by_cases hb2 : kn = true ∧ b = true
      · obtain ⟨rfl, rfl⟩ := hb2
        rw [if_pos ⟨rfl, rfl⟩] at hP
        have x18 : w.cell? ⟨xb, 18, none⟩ = some (.slice (some ⟨b3, f3, none⟩) nn cc) := (hbk.out.cell 18).trans (cuX_docs hsz.out)
        have x20 : w.cell? ⟨xb, 20, none⟩ = some (.int .i64 (a : Int)) := (hbk.out.cell 20).trans (cuX_at hsz.out)
        have ha1000 : a ≤ 1000 := by omega
        have hP' := hP
        have e0 : Hid (aheadF needs L s = aheadF needs (L.drop 0) s) := rfl
        clear hP'
        have j1 : (a : Int) ≤ (nn : Int) := by omega
        have j2 : (0 : Int) ≤ (a : Int) := by omega
        have j3 : (a : Int) ≤ (cc : Int) := by omega
        have j4 : a ≤ cc := by omega
        have j5 : decide (a ≤ cc) = true := decide_eq_true j4
        have j6 : decide ((a : Int) ≤ (cc : Int)) = true := decide_eq_true j3
        have hc17 : Hid (∀ W, Below w.heap.size w W → W.cell? ⟨xb, 17, none⟩ = some (.slice nA nl nc)) := Lib.hid fun W hW => (hW.cell (p := ⟨xb, 17, none⟩) hbk.out.lt).trans ((hbk.out.cell 17).trans ((cuX_cell hsz.out (by omega)).trans hC17.out))
        have hc21 : Hid (∀ W, Below w.heap.size w W → W.cell? ⟨xb, 21, none⟩ = some (.string s)) := Lib.hid fun W hW => (hW.cell (p := ⟨xb, 21, none⟩) hbk.out.lt).trans x21
        have hc22 : Hid (∀ W, Below w.heap.size w W → W.cell? ⟨xb, 22, none⟩ = some (.string v)) := Lib.hid fun W hW => (hW.cell (p := ⟨xb, 22, none⟩) hbk.out.lt).trans ((hbk.out.cell 22).trans (cuX_value hsz.out))
        go_wp2_with fail
        go_quiet (fail)
        go_wp2_with fail
        clear x18 x20 x21 x23
        go_loopw [45] (fun i wx => ∃ q : Nat, q ≤ a ∧ i = .int .i64 q ∧ Hid (aheadF needs L s = aheadF needs (L.drop q) s) ∧ Hid (Below w.heap.size w wx)) (fun i _ => a - (intOf i).toNat)
        case atStart => exact ⟨0, Nat.zero_le _, rfl, e0, Lib.hid (below_drewN (Below.refl _ _) _)⟩
        case round =>
          clear e0
          obtain ⟨q, hq, rfl, hsame, hB⟩ := hrel
          by_cases hqa : q < a
          · as_aux_lemma =>
            obtain ⟨x, hx⟩ : ∃ x, L[q]? = some x := ⟨_, List.getElem?_eq_getElem (by have := hLl.out; omega)⟩
            have hst := Lib.hid (ahead_at (needs := needs) (s := s) hx)
            obtain ⟨b4, f4, e4, h0, h1, h2, h3, h4, h5, _⟩ := (hrm.out.at_.below hB.out) q x (hLg.out q x hx)
            simp only [Option.some.injEq, Addr.mk.injEq, and_true] at e4
            obtain ⟨rfl, rfl⟩ := e4
            have h4' := Lib.hid h4
            have h5' := h5
            obtain ⟨kd, nu, is, fA, fc, fs⟩ := x
            simp only at h0 h1 h2 h3 h4' h5' hst
            obtain ⟨m, hm⟩ : ∃ m, Hid (fs.length = m) := ⟨_, rfl⟩
            rw [hm.out] at h3 h5'
            obtain ⟨w5, hw5⟩ : ∃ X, Hid (wr.alloc (.cells #[.int .i64 kd, .string nu, .string is, .slice fA m fc] 61) = X) := ⟨_, rfl⟩
            have hb5 : Hid (Below wr.heap.size wr w5) := by rw [← hw5.out]; exact (Below.refl _ wr).alloc (Nat.le_refl _) _
            have hD5 : Hid (Blk w5 wr.heap.size 61 #[.int .i64 kd, .string nu, .string is, .slice fA m fc]) := by rw [← hw5.out]; exact Lib.hid (Blk.new _ _ _)
            have hB5 : Hid (Below w.heap.size w w5) := hB.out.trans (hb5.out.mono hB.out.size)
            have z17 : w5.cell? ⟨xb, 17, none⟩ = some (.slice nA nl nc) := hc17.out w5 hB5.out
            obtain ⟨gd, hgd⟩ : ∃ z, Hid (wr.heap.size = z) := ⟨_, rfl⟩
            rw [hgd.out] at hD5
            have e5 : wr.heap.size = gd := hgd.out
            have hcon := Lib.hid (containsN_any nA nl nc needs kd gd w5 hl12 hnl (Lib.hid (hN.out.below hB5.out)) (hD5.out.cell 0))
            obtain ⟨ask, hask⟩ : ∃ z, askedB needs kd = z := ⟨_, rfl⟩
            rw [hask] at hcon hst
            have i1 : (q : Int) < (a : Int) := by omega
            have i2 : (0 : Int) ≤ (q : Int) := by omega
            have hkm : decide (q < a) = true := decide_eq_true hqa
            clear hx h4 h5 hask
            go_wp2_with (rw [hw5.out])
            refine hcon.out.mono ?_
            rintro e w6 ⟨rfl, hb6⟩
            have hB6 : Hid (Below w.heap.size w w6) := hB5.out.trans (hb6.mono hB5.out.size)
            have hD6 := Lib.hid (hD5.out.below hb6 hD5.out.lt)
            have hF6 : Hid (FieldsAt w6 fA fs) := Lib.hid ((h4'.out.below hb5.out).below hb6)
            clear hb6 z17 hcon h0 h1 h2 h3 e5
            have y3 : ∀ y : Ext w6, y.wd.cell? ⟨gd, 3, none⟩ = some (.slice fA m fc) := fun y => (y.cell _ hD6.out.lt).trans (hD6.out.cell 3)
            have y21 : ∀ y : Ext w6, y.wd.cell? ⟨xb, 21, none⟩ = some (.string s) := fun y => hc21.out y.wd (hB6.out.trans (y.below.mono hB6.out.size))
            have hget : Hid (∀ y : Ext w6, Calls Tryz.prog 54 #[.slice fA m fc, .string s] y.wd fun e w' => e = .returned (.tuple #[.string (getV fs s), .bool (getB fs s)]) ∧ Below y.wd.heap.size y.wd w') := Lib.hid fun y => get_any fA m fc fs s y.wd h5' hm (Lib.hid (hF6.out.below y.below))
            obtain ⟨u, hu⟩ : ∃ z, getV fs s = z := ⟨_, rfl⟩
            obtain ⟨th, hth⟩ : ∃ z, getB fs s = z := ⟨_, rfl⟩
            have hgt : Hid (th = true → getF fs s = some u) := Lib.hid fun h => by rw [← hu]; exact getF_there (hth.trans h)
            have hgn : Hid (th = false → getF fs s = none) := Lib.hid fun h => getF_not (hth.trans h)
            rw [hu, hth] at hget
            clear hu hth
            go_wp2_with fail
            refine wp_region_ext (by kernel_rfl) (by kernel_rfl) ?_
            repeat (go_big_quiet_step (first | (go_at_call 54; exact Calls.ext_of (hget.out _))))
            refine wpQuiet_nil ?_
            rintro _ ⟨y, rfl⟩
            have hBy := Lib.hid (hB6.out.trans (y.below.mono hB6.out.size))
            obtain ⟨W, hW⟩ : ∃ W, y.wd = W := ⟨_, rfl⟩
            rw [hW] at hBy ⊢
            clear hW y y3 y21 hget
            by_cases hboth : ask = true ∧ th = true
            · obtain ⟨rfl, rfl⟩ := hboth
              have hgu := hgt.out rfl
              have hah : Hid (aheadF needs L s = some u) := by unfold Hid; rw [hsame.out, hst.out, if_pos rfl, hgu]
              have z22 := hc22.out W hBy.out
              have hne : Hid ((u.toList != v.toList) = !decide (u.toList = v.toList)) := by unfold Hid; rw [bne]; congr 1; rw [Bool.eq_iff_iff]; simp
              have hfin : Hid (P = if (!(u.toList == v.toList)) = true then some u else none) := by
                unfold Hid
                rw [hP.out, hah.out, Option.bind_some]
                by_cases h9 : u.toList = v.toList <;> simp [h9]
              clear hgu hne hst hgt hgn
              go_wp2_with fail
              go_quiet (fail)
              go_wp2_with fail
              go_ret2
              exact curedR (hfin.out) (below_drewN hBy.out _)
            · have hah : Hid (aheadF needs L s = aheadF needs (L.drop (q + 1)) s) := by
                unfold Hid
                rw [hsame.out, hst.out]
                cases ask with
                | false => rfl
                | true =>
                  cases th with
                  | true => exact absurd ⟨rfl, rfl⟩ hboth
                  | false => rw [if_pos rfl, hgn.out rfl]
              clear hst hgt hgn
              cases ask with
              | false =>
                go_wp2_with fail
                go_roundw
                case rel => exact ⟨q + 1, by omega, by go_num, hah, hBy⟩
                case measure => simp [intOf]; omega
              | true =>
                cases th with
                | true => exact absurd ⟨rfl, rfl⟩ hboth
                | false =>
                  go_wp2_with fail
                  go_roundw
                  case rel => exact ⟨q + 1, by omega, by go_num, hah, hBy⟩
                  case measure => simp [intOf]; omega
          · have hkm : decide (q < a) = false := decide_eq_false hqa
            have hah : Hid (aheadF needs L s = none) := by unfold Hid; rw [hsame.out, List.drop_eq_nil_of_le (by have := hLl.out; omega)]; rfl
            have hfin : Hid (P = none) := by unfold Hid; rw [hP.out, hah.out]; rfl
            go_wp2_with fail
            go_ret2
            exact curedR (by rw [hfin.out]; rfl) (hB.out)
      · rw [if_neg hb2] at hP
        cases kn with
        | false =>
          go_wp2_with fail
          go_ret2
          exact curedR (by rw [hP.out]; rfl) (Below.refl _ _)
        | true =>
          cases b with
          | true => exact absurd ⟨rfl, rfl⟩ hb2
          | false =>
            go_wp2_with fail
            go_ret2
            exact curedR (by rw [hP.out]; rfl) (Below.refl _ _)
end Go.Proofs.YtdjmckjbibfecaaGreatDoor

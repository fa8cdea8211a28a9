/- order.May. -/
import Derived.Test.YtnmnknkdnjkpjaaGreatDoorVb
namespace Go.Proofs.YtnmnknkdnjkpjaaGreatDoor
open Go Go.RowKit Go.BigFrame Go.Maps

def seenB (l : List Ln) (s : List UInt8) : Bool := l.any fun y => y.good.data.toList == s
def seenS (l : List Ln) : List UInt8 → Option Value := fun x => if seenB l x = true then some (.bool true) else none
theorem seenS_nil : seenS [] = fun _ => none := by funext x; simp [seenS, seenB]
theorem seenS_snoc (l : List Ln) (x : Ln) : putS (seenS l) x.good.data.toList (.bool true) = seenS (l ++ [x]) := by
  funext y
  unfold putS seenS seenB
  by_cases h : y = x.good.data.toList
  · subst h; simp
  · rw [if_neg h, List.any_append]
    have : ([x].any fun z => z.good.data.toList == y) = false := by simp; exact fun e => h e.symm
    rw [this, Bool.or_false]
theorem seenS_get (l : List Ln) (s : List UInt8) : ((seenS l) s).getD (.bool false) = .bool (seenB l s) := by
  unfold seenS
  cases h : seenB l s <;> simp
/-- The lines may be, behind some. -/
def linesB : List Ln → List Ln → Bool
  | _, [] => true
  | p, x :: r => markB x.good.data.toList && !seenB p x.good.data.toList && cntB x.count && (!decide (x.price < 0) && !decide (1073741824 < x.price)) && linesB (p ++ [x]) r
def namesL (o : Od) : List ByteArray := [o.number, o.seller, o.buyer, o.frm, o.toP]
def mayO (o : Od) : Bool :=
  (namesL o).all (fun s => markB s.data.toList) && !(o.seller.toList == o.buyer.toList) && curB o.currency.data.toList && (!decide (o.term < 0) && !decide (7 < o.term)) && (!decide ((o.lines.length : Int) < 1) && !decide (64 < (o.lines.length : Int))) && linesB [] o.lines
theorem lines_step {l : List Ln} {k : Nat} {x : Ln} {r : Bool} (hr : r = linesB (l.take k) (l.drop k)) (hx : l[k]? = some x) :
    r = (markB x.good.data.toList && !seenB (l.take k) x.good.data.toList && cntB x.count && (!decide (x.price < 0) && !decide (1073741824 < x.price)) && linesB (l.take (k + 1)) (l.drop (k + 1))) := by
  obtain ⟨hk, he⟩ := List.getElem?_eq_some_iff.1 hx
  rw [hr, List.drop_eq_getElem_cons hk, he, linesB, List.take_add_one, hx]
  rfl
theorem all_step {l : List ByteArray} {k : Nat} {x : ByteArray} {r : Bool} (hr : r = (l.drop k).all fun s => markB s.data.toList) (hx : l[k]? = some x) : r = (markB x.data.toList && (l.drop (k + 1)).all fun s => markB s.data.toList) := by
  obtain ⟨hk, he⟩ := List.getElem?_eq_some_iff.1 hx
  rw [hr, List.drop_eq_getElem_cons hk, he, List.all_cons]

set_option maxRecDepth 100000 in
set_option maxHeartbeats 6400000 in
theorem mayO_any (o : Od) (w : World) (ho : Hid (o.ok w)) :
    Calls Tryz.prog 79 #[.agg o.cells] w fun e w' => e = .returned (.bool (mayO o)) ∧ Below w.heap.size w w' := by
  obtain ⟨D, hD⟩ : ∃ X, Hid (o.cells = X) := ⟨_, rfl⟩
  rw [hD.out]
  obtain ⟨n, hn⟩ : ∃ n, Hid (o.lines.length = n) := ⟨_, rfl⟩
  have hn20 : n ≤ 20 := by rw [← hn.out]; exact ho.out.few
  obtain ⟨w0, hw0⟩ : ∃ W, Hid (w.alloc (.cells D 56) = W) := ⟨_, rfl⟩
  have hb0 : Hid (Below w.heap.size w w0) := by rw [← hw0.out]; exact (Below.refl _ w).alloc (Nat.le_refl _) _
  have hk0 : Hid (Blk w0 w.heap.size 56 D) := by rw [← hw0.out]; exact Lib.hid (Blk.new w 56 _)
  have hlt0 : w.heap.size < w0.heap.size := hk0.out.lt
  obtain ⟨NL, hNL⟩ : ∃ x, Hid (namesL o = x) := ⟨_, rfl⟩
  have hNLn : Hid (NL.length = 5) := by rw [← hNL.out]; exact Lib.hid rfl
  obtain ⟨RB, hRB⟩ : ∃ x, Hid ((!(o.seller.toList == o.buyer.toList) && curB o.currency.data.toList && (!decide (o.term < 0) && !decide (7 < o.term)) && (!decide ((o.lines.length : Int) < 1) && !decide (64 < (o.lines.length : Int))) && linesB [] o.lines) = x) := ⟨_, rfl⟩
  have hmay : Hid (mayO o = (NL.all (fun s => markB s.data.toList) && RB)) := by unfold Hid; rw [mayO, hNL.out, ← hRB.out]; simp only [Bool.and_assoc]
  rw [hmay.out]
  obtain ⟨nb, hnb⟩ : ∃ x, Hid (o.number = x) := ⟨_, rfl⟩
  obtain ⟨se, hse⟩ : ∃ x, Hid (o.seller = x) := ⟨_, rfl⟩
  obtain ⟨bu, hbu⟩ : ∃ x, Hid (o.buyer = x) := ⟨_, rfl⟩
  obtain ⟨cu, hcu⟩ : ∃ x, Hid (o.currency = x) := ⟨_, rfl⟩
  obtain ⟨fr, hfr⟩ : ∃ x, Hid (o.frm = x) := ⟨_, rfl⟩
  obtain ⟨tp, htp⟩ : ∃ x, Hid (o.toP = x) := ⟨_, rfl⟩
  obtain ⟨tm, htm⟩ : ∃ x, Hid (o.term = x) := ⟨_, rfl⟩
  have hNLc : Hid (NL = [nb, se, bu, fr, tp]) := by rw [← hNL.out, ← hnb.out, ← hse.out, ← hbu.out, ← hfr.out, ← htp.out]; exact Lib.hid rfl
  have c0 : w0.cell? ⟨w.heap.size, 0, none⟩ = some (.string nb) := (hk0.out.cell 0).trans (by rw [← hD.out, ← hnb.out]; rfl)
  have c1 : w0.cell? ⟨w.heap.size, 1, none⟩ = some (.string se) := (hk0.out.cell 1).trans (by rw [← hD.out, ← hse.out]; rfl)
  have c2 : w0.cell? ⟨w.heap.size, 2, none⟩ = some (.string bu) := (hk0.out.cell 2).trans (by rw [← hD.out, ← hbu.out]; rfl)
  have c4 : w0.cell? ⟨w.heap.size, 4, none⟩ = some (.string fr) := (hk0.out.cell 4).trans (by rw [← hD.out, ← hfr.out]; rfl)
  have c5 : w0.cell? ⟨w.heap.size, 5, none⟩ = some (.string tp) := (hk0.out.cell 5).trans (by rw [← hD.out, ← htp.out]; rfl)
  have hD1 : Hid (D[1]? = some (.string se)) := by rw [← hD.out, ← hse.out]; exact Lib.hid rfl
  have hD2 : Hid (D[2]? = some (.string bu)) := by rw [← hD.out, ← hbu.out]; exact Lib.hid rfl
  have hD3 : Hid (D[3]? = some (.string cu)) := by rw [← hD.out, ← hcu.out]; exact Lib.hid rfl
  have hD6 : Hid (D[6]? = some (.int .i64 tm)) := by rw [← hD.out, ← htm.out]; exact Lib.hid rfl
  have hD7 : Hid (D[7]? = some (.slice o.A n o.c)) := by rw [← hD.out, ← hn.out]; exact Lib.hid rfl
  have hRBc : Hid (RB = (!(se.toList == bu.toList) && curB cu.data.toList && (!decide (tm < 0) && !decide (7 < tm)) && (!decide ((n : Int) < 1) && !decide (64 < (n : Int))) && linesB [] o.lines)) := by rw [← hRB.out, ← hse.out, ← hbu.out, ← hcu.out, ← htm.out, ← hn.out]; exact Lib.hid rfl
  have hsz : Hid (nb.size ≤ maxLen ∧ se.size ≤ maxLen ∧ bu.size ≤ maxLen ∧ fr.size ≤ maxLen ∧ tp.size ≤ maxLen ∧ cu.size ≤ maxLen) := by
    rw [← hnb.out, ← hse.out, ← hbu.out, ← hfr.out, ← htp.out, ← hcu.out]
    have h1 := ho.out.number
    have h2 := ho.out.seller
    have h3 := ho.out.buyer
    have h4 := ho.out.frm
    have h5 := ho.out.toP
    have h6 := ho.out.currency
    unfold Hid maxLen
    omega
  have hNLs : Hid (∀ s ∈ NL, s.size ≤ maxLen) := by
    intro s hs
    rw [hNLc.out] at hs
    have h := hsz.out
    simp only [List.mem_cons, List.not_mem_nil, or_false] at hs
    rcases hs with rfl | rfl | rfl | rfl | rfl
    · exact h.1
    · exact h.2.1
    · exact h.2.2.1
    · exact h.2.2.2.1
    · exact h.2.2.2.2.1
  obtain ⟨w1, hw1⟩ : ∃ W, Hid (w0.alloc (.cells #[.string nb, .string se, .string bu, .string fr, .string tp] 9) = W) := ⟨_, rfl⟩
  have hb1 : Hid (Below w0.heap.size w0 w1) := by rw [← hw1.out]; exact (Below.refl _ w0).alloc (Nat.le_refl _) _
  have hNA : Hid (StrsAt w1 (some ⟨w0.heap.size, 0, none⟩) NL) := by
    rw [hNLc.out, ← hw1.out]
    intro k x hx
    refine ⟨_, _, rfl, ?_⟩
    rw [(Blk.new w0 9 _).cell, Nat.zero_add, ← Array.getElem?_toList]
    have e : (#[.string nb, .string se, .string bu, .string fr, .string tp] : Array Value).toList = [nb, se, bu, fr, tp].map Value.string := rfl
    rw [e, List.getElem?_map, hx]; rfl
  have hk1 := Lib.hid (hk0.out.below hb1.out hk0.out.lt)
  have hB1 : Hid (Below w.heap.size w w1) := hb0.out.trans (hb1.out.mono hb0.out.size)
  clear hD hnb hse hbu hcu hfr htp htm hNL hRB hmay
  go_enter Tryz.func79, Tryz.ntmps79
  go_wp2_with (rw [hw0.out])
  rw [hw1.out]
  clear c0 c1 c2 c4 c5
  go_loopw [4, 20] (fun _ i wr => ∃ k : Nat, k ≤ 5 ∧ i = .int .i64 (k : Int) ∧ wr = w1 ∧ Hid (NL.all (fun s => markB s.data.toList) = (NL.drop k).all fun s => markB s.data.toList)) (fun _ i _ => 5 - (intOf i).toNat)
  case atStart => exact ⟨0, Nat.zero_le _, rfl, rfl, rfl⟩
  case round =>
    obtain ⟨k, hk, rfl, rfl, hall⟩ := hrel
    by_cases hlt : k < 5
    · obtain ⟨s, hs⟩ : ∃ x, NL[k]? = some x := ⟨_, List.getElem?_eq_getElem (by have := hNLn.out; omega)⟩
      obtain ⟨b, off, e0, h0⟩ := hNA.out k s hs
      simp only [Option.some.injEq, Addr.mk.injEq, and_true] at e0
      obtain ⟨rfl, rfl⟩ := e0
      rw [Nat.zero_add] at h0
      have hss := hNLs.out s (List.mem_of_getElem? hs)
      have hst := Lib.hid (all_step hall.out hs)
      obtain ⟨mb, hmb⟩ : ∃ x, Hid (markB s.data.toList = x) := ⟨_, rfl⟩
      rw [hmb.out] at hst
      have hkm : decide ((k : Int) < 5) = true := decide_eq_true (by omega)
      have hkn : (k : Int) < 5 := by omega
      clear hs
      go_wp2_with fail
      refine (markName_any s _ hss).mono ?_
      rintro e w' ⟨rfl, rfl⟩
      rw [hmb.out]
      cases mb with
      | false =>
        go_wp2_with fail
        go_ret
        exact ⟨by rw [hst.out]; rfl, hB1.out⟩
      | true =>
        go_wp2_with fail
        go_roundw
        case rel => exact ⟨k + 1, by omega, by go_num, trivial, by rw [hst.out]; exact rfl⟩
        case measure => simp [intOf]; omega
    · have hkm : decide ((k : Int) < 5) = false := decide_eq_false (by omega)
      have hkn : ¬ (k : Int) < 5 := by omega
      have hA : Hid (NL.all (fun s => markB s.data.toList) = true) := by unfold Hid; rw [hall.out, List.drop_eq_nil_of_le (by have := hNLn.out; omega)]; rfl
      have hRA : Hid ((NL.all (fun s => markB s.data.toList) && RB) = (!(se.toList == bu.toList) && curB cu.data.toList && (!decide (tm < 0) && !decide (7 < tm)) && (!decide ((n : Int) < 1) && !decide (64 < (n : Int))) && linesB [] o.lines)) := by unfold Hid; rw [hA.out, Bool.true_and, hRBc.out]
      have c1 : wr.cell? ⟨w.heap.size, 1, none⟩ = some (.string se) := (hk1.out.cell 1).trans hD1.out
      have c2 : wr.cell? ⟨w.heap.size, 2, none⟩ = some (.string bu) := (hk1.out.cell 2).trans hD2.out
      have c3 : wr.cell? ⟨w.heap.size, 3, none⟩ = some (.string cu) := (hk1.out.cell 3).trans hD3.out
      have hlt1 : w.heap.size < wr.heap.size := hk1.out.lt
      obtain ⟨sb, hsb⟩ : ∃ x, Hid ((se.toList == bu.toList) = x) := ⟨_, rfl⟩
      rw [hsb.out] at hRA
      have hsq := hsb.out
      cases sb with
      | true =>
        go_wp2_with fail
        go_ret
        exact ⟨by rw [hRA.out]; rfl, hB1.out⟩
      | false =>
      obtain ⟨cb, hcb⟩ : ∃ x, Hid (curB cu.data.toList = x) := ⟨_, rfl⟩
      rw [hcb.out] at hRA
      go_wp2_with fail
      refine (moneyMay_any cu 0 _ hsz.out.2.2.2.2.2).mono ?_
      rintro e w2 ⟨rfl, hb2⟩
      have hB2 : Hid (Below w.heap.size w w2) := hB1.out.trans (hb2.mono hB1.out.size)
      have hk2 := Lib.hid (hk1.out.below hb2 hk1.out.lt)
      have d3 : w2.cell? ⟨w.heap.size, 6, none⟩ = some (.int .i64 tm) := (hk2.out.cell 6).trans hD6.out
      have d7 : w2.cell? ⟨w.heap.size, 7, none⟩ = some (.slice o.A n o.c) := (hk2.out.cell 7).trans hD7.out
      have hlt2 : w.heap.size < w2.heap.size := hk2.out.lt
      rw [hcb.out, show amtB 0 = true from rfl, Bool.and_true]
      clear c1 c2 c3 hb2 hlt1
      cases cb with
      | false =>
        go_wp2_with fail
        go_ret
        exact ⟨by rw [hRA.out]; rfl, hB2.out⟩
      | true =>
      by_cases t1 : tm < 0
      · have t1' : decide (tm < 0) = true := decide_eq_true t1
        go_wp2_with fail
        go_ret
        exact ⟨by rw [hRA.out, t1']; rfl, hB2.out⟩
      have t1' : decide (tm < 0) = false := decide_eq_false t1
      by_cases t2 : 7 < tm
      · have t2' : decide (7 < tm) = true := decide_eq_true t2
        go_wp2_with fail
        go_ret
        exact ⟨by rw [hRA.out, t1', t2']; rfl, hB2.out⟩
      have t2' : decide (7 < tm) = false := decide_eq_false t2
      rw [t1', t2'] at hRA
      by_cases t3 : (n : Int) < 1
      · have t3' : decide ((n : Int) < 1) = true := decide_eq_true t3
        have t3n : n < 1 := by omega
        have t3m : decide (n < 1) = true := decide_eq_true t3n
        go_wp2_with fail
        go_ret
        exact ⟨by rw [hRA.out, t3']; rfl, hB2.out⟩
      have t3' : decide ((n : Int) < 1) = false := decide_eq_false t3
      have t4 : ¬ 64 < (n : Int) := by omega
      have t4' : decide (64 < (n : Int)) = false := decide_eq_false t4
      rw [t3', t4'] at hRA
      have hmm := fun (n : Int) (W : World) => run_make_hint (P := Tryz.prog) Tryz.underlying154 n W
      have hm0 : Hid (MapS (w2.alloc (.map #[] 0)) Tryz.prog 9 w2.heap.size 0 (.bool false) (seenS [])) := by rw [seenS_nil]; exact Lib.hid (MapS.made _ _ _ _)
      have hbm : Hid (Below w2.heap.size w2 (w2.alloc (.map #[] 0))) := (Below.refl _ _).alloc (Nat.le_refl _) _
      have hRL : Hid ((NL.all (fun s => markB s.data.toList) && RB) = linesB [] o.lines) := by unfold Hid; rw [hRA.out]; rfl
      clear hRA
      go_wp2_with fail
      clear hmm t1 t1' t2 t2' t3 t3' t4 t4' d3 hsq
      go_loopw [65] (fun i wr => ∃ k : Nat, k ≤ n ∧ i = .int .i64 (k : Int) ∧ Hid (MapS wr Tryz.prog 9 w2.heap.size k (.bool false) (seenS (o.lines.take k))) ∧ Hid (linesB [] o.lines = linesB (o.lines.take k) (o.lines.drop k)) ∧ Hid (Below w2.heap.size w2 wr)) (fun i _ => n - (intOf i).toNat)
      case atStart => exact ⟨0, Nat.zero_le _, rfl, hm0, rfl, hbm⟩
      case round =>
        obtain ⟨k, hk, rfl, hM, hLB, hB⟩ := hrel
        have hBx : Hid (Below w.heap.size w wr) := hB2.out.trans (hB.out.mono hB2.out.size)
        by_cases hlt : k < n
        · obtain ⟨x, hx⟩ : ∃ x, o.lines[k]? = some x := ⟨_, List.getElem?_eq_getElem (by have := hn.out; omega)⟩
          obtain ⟨b, off, hA, hc⟩ := (ho.out.at_.below hBx.out) k x hx
          have hxm := ho.out.lines x (List.mem_of_getElem? hx)
          have hst := Lib.hid (lines_step hLB.out hx)
          have hsn : Hid (seenS (o.lines.take (k + 1)) = putS (seenS (o.lines.take k)) x.good.data.toList (.bool true)) := by unfold Hid; rw [seenS_snoc, List.take_add_one, hx]; rfl
          have hkm : decide (k < n) = true := decide_eq_true hlt
          obtain ⟨gd, ct, pr⟩ := x
          simp only at hst hsn hxm
          have h0 : wr.cell? ⟨b, off + k * 3, none⟩ = some (.string gd) := hc 0 _ rfl
          have h1 : wr.cell? ⟨b, off + k * 3 + 1, none⟩ = some (.int .i64 ct) := hc 1 _ rfl
          have h2 : wr.cell? ⟨b, off + k * 3 + 2, none⟩ = some (.int .i64 pr) := hc 2 _ rfl
          have hgs : gd.size ≤ maxLen := by have := hxm.1; unfold maxLen; omega
          have hgs' := Lib.hid hgs
          obtain ⟨wa, hwa⟩ : ∃ W, Hid (wr.alloc (.cells #[.string gd, .int .i64 ct, .int .i64 pr] 61) = W) := ⟨_, rfl⟩
          have hM1 : Hid (MapS wa Tryz.prog 9 w2.heap.size k (.bool false) (seenS (o.lines.take k))) := by rw [← hwa.out]; exact Lib.hid (hM.out.alloc _)
          have hba : Hid (Blk wa wr.heap.size 61 #[.string gd, .int .i64 ct, .int .i64 pr]) := by rw [← hwa.out]; exact Lib.hid (Blk.new _ _ _)
          have hB1 : Hid (Below w2.heap.size w2 wa) := by rw [← hwa.out]; exact hB.out.alloc hB.out.size _
          have hBf : Hid (Below w.heap.size w wa) := hB2.out.trans (hB1.out.mono hB2.out.size)
          have hkl : Hid (k < maxLen) := by unfold Hid maxLen; omega
          obtain ⟨mb, hmb⟩ : ∃ x, Hid (markB gd.data.toList = x) := ⟨_, rfl⟩
          obtain ⟨qb, hqb⟩ : ∃ x, Hid (seenB (o.lines.take k) gd.data.toList = x) := ⟨_, rfl⟩
          obtain ⟨nbb, hnbb⟩ : ∃ x, Hid (cntB ct = x) := ⟨_, rfl⟩
          have hlk := hM1.out.look (t := 154) (e := 4) Tryz.underlying9 Tryz.underlying154 (by kernel_rfl) hgs
          rw [seenS_get, hqb.out] at hlk
          rw [hmb.out, hqb.out, hnbb.out] at hst
          clear hx hc hxm hgs
          rw [hA]
          go_wp2_with fail
          rw [hwa.out]
          refine (markName_any gd wa hgs'.out).mono ?_
          rintro e w' ⟨rfl, rfl⟩
          rw [hmb.out]
          have a0 : wa.cell? ⟨wr.heap.size, 0, none⟩ = some (.string gd) := hba.out.cell 0
          have a1 : wa.cell? ⟨wr.heap.size, 1, none⟩ = some (.int .i64 ct) := hba.out.cell 1
          have a2 : wa.cell? ⟨wr.heap.size, 2, none⟩ = some (.int .i64 pr) := hba.out.cell 2
          have al : wr.heap.size < wa.heap.size := hba.out.lt
          cases mb with
          | false =>
            go_wp2_with fail
            go_ret
            exact ⟨by rw [hRL.out, hst.out]; rfl, hBf.out⟩
          | true =>
          cases qb with
          | true =>
            go_wp2_with fail
            go_ret
            exact ⟨by rw [hRL.out, hst.out]; rfl, hBf.out⟩
          | false =>
          go_wp2_with fail
          refine (countsO_any ct wa).mono ?_
          rintro e w' ⟨rfl, rfl⟩
          rw [hnbb.out]
          cases nbb with
          | false =>
            go_wp2_with fail
            go_ret
            exact ⟨by rw [hRL.out, hst.out]; rfl, hBf.out⟩
          | true =>
          by_cases p1 : pr < 0
          · have p1' : decide (pr < 0) = true := decide_eq_true p1
            go_wp2_with fail
            go_ret
            exact ⟨by rw [hRL.out, hst.out, p1']; rfl, hBf.out⟩
          have p1' : decide (pr < 0) = false := decide_eq_false p1
          by_cases p2 : 1073741824 < pr
          · have p2' : decide (1073741824 < pr) = true := decide_eq_true p2
            go_wp2_with fail
            go_ret
            exact ⟨by rw [hRL.out, hst.out, p1', p2']; rfl, hBf.out⟩
          have p2' : decide (1073741824 < pr) = false := decide_eq_false p2
          have hst2 : Hid (linesB [] o.lines = linesB (o.lines.take (k + 1)) (o.lines.drop (k + 1))) := by unfold Hid; rw [hst.out, p1', p2']; rfl
          clear hlk
          go_wp2_with (at_mapUpdate; go_must (refine wpList_puts _ rfl _ _ _ 154 rfl Tryz.underlying9 Tryz.underlying154 w2.heap.size k rfl hM1.out hkl.out gd (.bool true) hgs'.out rfl rfl ?_); intro w5 hM5 hg5)
          have hM5' : Hid (MapS w5 Tryz.prog 9 w2.heap.size (k + 1) (.bool false) (seenS (o.lines.take (k + 1)))) := by rw [hsn.out]; exact Lib.hid hM5
          have hB5 : Hid (Below w2.heap.size w2 w5) := hB1.out.grown hg5 hB1.out.size (fun i hi => by cases hi; exact Nat.le_refl _)
          clear hM5 hg5
          go_roundw
          case rel => exact ⟨k + 1, by omega, by go_num, hM5', hst2, hB5⟩
          case measure => simp [intOf]; omega
        · have e : k = n := by omega
          have hkm : decide (k < n) = false := decide_eq_false hlt
          have eD : o.lines.drop k = [] := List.drop_eq_nil_of_le (by have := hn.out; omega)
          have hfin : Hid (linesB [] o.lines = true) := by unfold Hid; rw [hLB.out, eD, linesB]
          clear eD
          go_wp2_with fail
          go_ret
          exact ⟨by rw [hRL.out, hfin.out]; rfl, hBx.out⟩
end Go.Proofs.YtnmnknkdnjkpjaaGreatDoor

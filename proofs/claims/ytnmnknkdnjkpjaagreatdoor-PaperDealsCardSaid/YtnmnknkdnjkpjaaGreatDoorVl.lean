/- The law PaperDeals. -/
import Derived.Test.YtnmnknkdnjkpjaaGreatDoorVk
namespace Go.Proofs.YtnmnknkdnjkpjaaGreatDoor
open Go Go.RowKit Go.BigFrame Go.Maps

set_option maxRecDepth 100000 in
set_option maxHeartbeats 6400000 in
theorem deals_law (o : Od) (c : Cn) (d : Dl) (w : World) (ho : Hid (o.wide w)) (hc : Hid (c.wide w)) (hd : Hid (d.wide w)) (he : Env w) :
    Calls Tryz.prog 6 #[.agg o.cells, .agg c.cells, .agg d.cells] w fun e w' => e = .returned (.bool true) ∧ Below w.heap.size w w' := by
  have he' := Lib.hid he
  clear he
  obtain ⟨n, hn⟩ : ∃ x, Hid (o.lines.length = x) := ⟨_, rfl⟩
  obtain ⟨q, hq⟩ : ∃ x, Hid (c.lots.length = x) := ⟨_, rfl⟩
  obtain ⟨L, hL⟩ : ∃ X, Hid (d.cells = X) := ⟨_, rfl⟩
  have hLs : Hid (L.size = 17) := by rw [← hL.out]; exact Lib.hid rfl
  obtain ⟨oA, hoA⟩ : ∃ x, Hid (o.A = x) := ⟨_, rfl⟩
  obtain ⟨oc, hoc⟩ : ∃ x, Hid (o.c = x) := ⟨_, rfl⟩
  obtain ⟨cA, hcA⟩ : ∃ x, Hid (c.A = x) := ⟨_, rfl⟩
  obtain ⟨cc, hcc⟩ : ∃ x, Hid (c.c = x) := ⟨_, rfl⟩
  obtain ⟨nb, hnb⟩ : ∃ x, Hid (o.number = x) := ⟨_, rfl⟩
  obtain ⟨se, hse⟩ : ∃ x, Hid (o.seller = x) := ⟨_, rfl⟩
  obtain ⟨bu, hbu⟩ : ∃ x, Hid (o.buyer = x) := ⟨_, rfl⟩
  obtain ⟨cu, hcu⟩ : ∃ x, Hid (o.currency = x) := ⟨_, rfl⟩
  obtain ⟨fr, hfr⟩ : ∃ x, Hid (o.frm = x) := ⟨_, rfl⟩
  obtain ⟨tp, htp⟩ : ∃ x, Hid (o.toP = x) := ⟨_, rfl⟩
  obtain ⟨tm, htm⟩ : ∃ x, Hid (o.term = x) := ⟨_, rfl⟩
  obtain ⟨od, hod⟩ : ∃ x, Hid (c.order = x) := ⟨_, rfl⟩
  obtain ⟨nu, hnu⟩ : ∃ x, Hid (c.number = x) := ⟨_, rfl⟩
  obtain ⟨la, hla⟩ : ∃ x, Hid (c.latest = x) := ⟨_, rfl⟩
  have hD : Hid (o.cells = #[.string nb, .string se, .string bu, .string cu, .string fr, .string tp, .int .i64 tm, .slice oA n oc]) := by unfold Hid Od.cells; rw [hnb.out, hse.out, hbu.out, hcu.out, hfr.out, htp.out, htm.out, hoA.out, hn.out, hoc.out]
  have hV : Hid (c.cells = #[.string od, .int .i64 nu, .int .i64 la, .slice cA q cc]) := by unfold Hid Cn.cells; rw [hod.out, hnu.out, hla.out, hcA.out, hq.out, hcc.out]
  obtain ⟨DO, hDO⟩ : ∃ X : Array Value, Hid (#[.string nb, .string se, .string bu, .string cu, .string fr, .string tp, .int .i64 tm, .slice oA n oc] = X) := ⟨_, rfl⟩
  obtain ⟨VO, hVO⟩ : ∃ X : Array Value, Hid (#[.string od, .int .i64 nu, .int .i64 la, .slice cA q cc] = X) := ⟨_, rfl⟩
  rw [hD.out, hV.out, hL.out]
  obtain ⟨w0, hw0⟩ : ∃ W, Hid (w.alloc (.cells #[.string nb, .string se, .string bu, .string cu, .string fr, .string tp, .int .i64 tm, .slice oA n oc] 56) = W) := ⟨_, rfl⟩
  have hb0 : Hid (Below w.heap.size w w0) := by rw [← hw0.out]; exact (Below.refl _ w).alloc (Nat.le_refl _) _
  have hk0 : Hid (Blk w0 w.heap.size 56 #[.string nb, .string se, .string bu, .string cu, .string fr, .string tp, .int .i64 tm, .slice oA n oc]) := by rw [← hw0.out]; exact Lib.hid (Blk.new _ _ _)
  obtain ⟨w1, hw1⟩ : ∃ W, Hid (w0.alloc (.cells #[.string od, .int .i64 nu, .int .i64 la, .slice cA q cc] 59) = W) := ⟨_, rfl⟩
  have hb01 : Hid (Below w0.heap.size w0 w1) := by rw [← hw1.out]; exact (Below.refl _ w0).alloc (Nat.le_refl _) _
  have hk1 := Lib.hid (hk0.out.below hb01.out hk0.out.lt)
  have hm1 : Hid (Blk w1 w0.heap.size 59 #[.string od, .int .i64 nu, .int .i64 la, .slice cA q cc]) := by rw [← hw1.out]; exact Lib.hid (Blk.new _ _ _)
  obtain ⟨w2, hw2⟩ : ∃ W, Hid (w1.alloc (.cells L 26) = W) := ⟨_, rfl⟩
  have hb12 : Hid (Below w1.heap.size w1 w2) := by rw [← hw2.out]; exact (Below.refl _ w1).alloc (Nat.le_refl _) _
  have hk2 := Lib.hid (hk1.out.below hb12.out hk1.out.lt)
  have hm2 := Lib.hid (hm1.out.below hb12.out hm1.out.lt)
  have hl2 : Hid (Blk w2 w1.heap.size 26 L) := by rw [← hw2.out]; exact Lib.hid (Blk.new _ _ _)
  have hb1 : Hid (Below w.heap.size w w1) := hb0.out.trans (hb01.out.mono hb0.out.size)
  have hb2 : Hid (Below w.heap.size w w2) := hb1.out.trans (hb12.out.mono hb1.out.size)
  have hx1 : Hid (w.heap.size < w0.heap.size) := hk0.out.lt
  have hx2 : Hid (w0.heap.size < w1.heap.size) := hm1.out.lt
  have hsh0 := short_any d w2 (Lib.hid (hd.out.below hb2.out))
  rw [hL.out] at hsh0
  have hsh := Lib.hid hsh0
  clear hsh0
  obtain ⟨total, htot⟩ : ∃ b : Int, Hid ((nb.size : Int) + se.size + bu.size + cu.size + fr.size + tp.size + od.size = b) := ⟨_, rfl⟩
  have g0 := ho.out.number
  have g1 := ho.out.seller
  have g2 := ho.out.buyer
  have g3 := ho.out.currency
  have g4 := ho.out.frm
  have g5 := ho.out.toP
  have g6 := hc.out.order
  rw [hnb.out] at g0
  rw [hse.out] at g1
  rw [hbu.out] at g2
  rw [hcu.out] at g3
  rw [hfr.out] at g4
  rw [htp.out] at g5
  rw [hod.out] at g6
  have s1 : Hid (IntKind.i64.wrap ((nb.size : Int) + se.size) = (nb.size : Int) + se.size) := IntWalk.i64_in _ (by omega)
  have s2 : Hid (IntKind.i64.wrap ((nb.size : Int) + se.size + bu.size) = (nb.size : Int) + se.size + bu.size) := IntWalk.i64_in _ (by omega)
  have s3 : Hid (IntKind.i64.wrap ((nb.size : Int) + se.size + bu.size + cu.size) = (nb.size : Int) + se.size + bu.size + cu.size) := IntWalk.i64_in _ (by omega)
  have s4 : Hid (IntKind.i64.wrap ((nb.size : Int) + se.size + bu.size + cu.size + fr.size) = (nb.size : Int) + se.size + bu.size + cu.size + fr.size) := IntWalk.i64_in _ (by omega)
  have s5 : Hid (IntKind.i64.wrap ((nb.size : Int) + se.size + bu.size + cu.size + fr.size + tp.size) = (nb.size : Int) + se.size + bu.size + cu.size + fr.size + tp.size) := IntWalk.i64_in _ (by omega)
  have s6 : Hid (IntKind.i64.wrap ((nb.size : Int) + se.size + bu.size + cu.size + fr.size + tp.size + od.size) = total) := by rw [htot.out]; exact IntWalk.i64_in _ (by have := htot.out; omega)
  have htb : Hid (total ≤ 300 → nb.size ≤ 1000 ∧ se.size ≤ 1000 ∧ bu.size ≤ 1000 ∧ cu.size ≤ 1000 ∧ fr.size ≤ 1000 ∧ tp.size ≤ 1000 ∧ od.size ≤ 1000) := by have := htot.out; unfold Hid; omega
  clear g0 g1 g2 g3 g4 g5 g6
  have haw : Hid (∀ W, Below w.heap.size w W → Calls Tryz.prog 8 #[] W fun e w' => e = .returned (.bool true) ∧ Below W.heap.size W w') := fun W hW => awake_any W (he'.out.below hW)
  go_enter Tryz.func6, Tryz.ntmps6
  go_wp2_with (first | (refine wpList_get_blk rfl 26 _ rfl w1.heap.size L 26 _ rfl hl2.out Tryz.underlying26 rfl (by rw [hLs.out]; kernel_rfl) ?_) | rw [hw0.out] | rw [hw1.out] | rw [hw2.out])
  refine hsh.out.mono ?_
  rintro e w3 ⟨b, rfl, hb3, hqq⟩
  have hB3 : Hid (Below w.heap.size w w3) := hb2.out.trans (hb3.mono hb2.out.size)
  have hk3 := Lib.hid (hk2.out.below hb3 hk2.out.lt)
  have hm3 := Lib.hid (hm2.out.below hb3 hm2.out.lt)
  have hl3 := Lib.hid (hl2.out.below hb3 hl2.out.lt)
  have hqq' := Lib.hid hqq
  clear hb3 hqq hsh
  cases b with
  | false =>
    go_wp2_with fail
    refine (haw.out w3 hB3.out).mono ?_
    rintro e w4 ⟨rfl, hb4⟩
    go_wp2_with fail
    go_ret
    exact ⟨rfl, hB3.out.trans (hb4.mono hB3.out.size)⟩
  | true =>
  have hok0 := hqq'.out rfl
  have hokd : Hid (d.ok w) := { hok0 with at_ := hd.out.at_ }
  clear hok0 hqq'
  have c7 : w3.cell? ⟨w.heap.size, 7, none⟩ = some (.slice oA n oc) := hk3.out.cell 7
  have d3 : w3.cell? ⟨w0.heap.size, 3, none⟩ = some (.slice cA q cc) := hm3.out.cell 3
  have lo3 : w.heap.size < w3.heap.size := hk3.out.lt
  have lc3 : w0.heap.size < w3.heap.size := hm3.out.lt
  by_cases n20 : (20 : Int) < (n : Int)
  · have n20' : decide ((20 : Int) < (n : Int)) = true := decide_eq_true n20
    have n20n : 20 < n := by omega
    go_wp2_with fail
    refine (haw.out w3 hB3.out).mono ?_
    rintro e w4 ⟨rfl, hb4⟩
    go_wp2_with fail
    go_ret
    exact ⟨rfl, hB3.out.trans (hb4.mono hB3.out.size)⟩
  have n20' : decide ((20 : Int) < (n : Int)) = false := decide_eq_false n20
  have n20n : ¬ 20 < n := by omega
  by_cases q20 : (20 : Int) < (q : Int)
  · have q20' : decide ((20 : Int) < (q : Int)) = true := decide_eq_true q20
    have q20n : 20 < q := by omega
    go_wp2_with fail
    refine (haw.out w3 hB3.out).mono ?_
    rintro e w4 ⟨rfl, hb4⟩
    go_wp2_with fail
    go_ret
    exact ⟨rfl, hB3.out.trans (hb4.mono hB3.out.size)⟩
  have q20' : decide ((20 : Int) < (q : Int)) = false := decide_eq_false q20
  have q20n : ¬ 20 < q := by omega
  have c0 : w3.cell? ⟨w.heap.size, 0, none⟩ = some (.string nb) := hk3.out.cell 0
  have c1 : w3.cell? ⟨w.heap.size, 1, none⟩ = some (.string se) := hk3.out.cell 1
  have c2 : w3.cell? ⟨w.heap.size, 2, none⟩ = some (.string bu) := hk3.out.cell 2
  have c3 : w3.cell? ⟨w.heap.size, 3, none⟩ = some (.string cu) := hk3.out.cell 3
  have c4 : w3.cell? ⟨w.heap.size, 4, none⟩ = some (.string fr) := hk3.out.cell 4
  have c5 : w3.cell? ⟨w.heap.size, 5, none⟩ = some (.string tp) := hk3.out.cell 5
  have d0 : w3.cell? ⟨w0.heap.size, 0, none⟩ = some (.string od) := hm3.out.cell 0
  have s1' := s1.out
  have s2' := s2.out
  have s3' := s3.out
  have s4' := s4.out
  have s5' := s5.out
  have s6' := s6.out
  by_cases t300 : (300 : Int) < total
  · have t300' : decide ((300 : Int) < total) = true := decide_eq_true t300
    go_wp2_with fail
    refine (haw.out w3 hB3.out).mono ?_
    rintro e w4 ⟨rfl, hb4⟩
    go_wp2_with fail
    go_ret
    exact ⟨rfl, hB3.out.trans (hb4.mono hB3.out.size)⟩
  have t300' : decide ((300 : Int) < total) = false := decide_eq_false t300
  have hsz := Lib.hid (htb.out (by omega))
  go_wp2_with fail
  clear s1' s2' s3' s4' s5' s6' c0 c1 c2 c3 c4 c5 d0 c7 d3
  have hw3 : Hid (w.heap.size ≤ w3.heap.size) := hB3.out.size
  go_loopw [64] (fun i wr => ∃ k : Nat, k ≤ n ∧ i = .int .i64 (k : Int) ∧ Hid (∀ x ∈ o.lines.take k, x.good.size ≤ 60) ∧ Hid (Below w3.heap.size w3 wr)) (fun i _ => n - (intOf i).toNat)
  case atStart => exact ⟨0, Nat.zero_le _, rfl, (fun x hx => by simp at hx), Below.refl _ _⟩
  case round =>
    obtain ⟨k, hk, rfl, hS, hB⟩ := hrel
    have hBw : Hid (Below w.heap.size w wr) := hB3.out.trans (hB.out.mono hw3.out)
    by_cases hlt : k < n
    · obtain ⟨x, hx⟩ : ∃ x, o.lines[k]? = some x := ⟨_, List.getElem?_eq_getElem (by have := hn.out; omega)⟩
      obtain ⟨b, off, hA', hcx⟩ := (ho.out.at_.below hBw.out) k x hx
      rw [hoA.out] at hA'
      have hkm : decide (k < n) = true := decide_eq_true hlt
      have hS' : Hid (x.good.size ≤ 60 → ∀ y ∈ o.lines.take (k + 1), y.good.size ≤ 60) := by
        intro h y hy
        rw [List.take_add_one, hx] at hy
        rcases List.mem_append.1 hy with h1 | h1
        · exact hS.out y h1
        · have : y = x := by simpa using h1
          rw [this]; exact h
      obtain ⟨gd, ct, pr⟩ := x
      have h0 : wr.cell? ⟨b, off + k * 3, none⟩ = some (.string gd) := hcx 0 _ rfl
      have h1 : wr.cell? ⟨b, off + k * 3 + 1, none⟩ = some (.int .i64 ct) := hcx 1 _ rfl
      have h2 : wr.cell? ⟨b, off + k * 3 + 2, none⟩ = some (.int .i64 pr) := hcx 2 _ rfl
      obtain ⟨wa, hwa⟩ : ∃ W, Hid (wr.alloc (.cells #[.string gd, .int .i64 ct, .int .i64 pr] 61) = W) := ⟨_, rfl⟩
      have hba : Hid (Blk wa wr.heap.size 61 #[.string gd, .int .i64 ct, .int .i64 pr]) := by rw [← hwa.out]; exact Lib.hid (Blk.new _ _ _)
      have hBa : Hid (Below w3.heap.size w3 wa) := by rw [← hwa.out]; exact hB.out.alloc hB.out.size _
      have hBf : Hid (Below w.heap.size w wa) := hB3.out.trans (hBa.out.mono hw3.out)
      have a0 : wa.cell? ⟨wr.heap.size, 0, none⟩ = some (.string gd) := hba.out.cell 0
      have al : wr.heap.size < wa.heap.size := hba.out.lt
      clear hx hcx
      rw [hA']
      by_cases g60 : (60 : Int) < (gd.size : Int)
      · have g60' : decide ((60 : Int) < (gd.size : Int)) = true := decide_eq_true g60
        go_wp2_with (rw [hwa.out])
        refine (haw.out wa hBf.out).mono ?_
        rintro e w4 ⟨rfl, hb4⟩
        go_wp2_with fail
        go_ret
        exact ⟨rfl, hBf.out.trans (hb4.mono hBf.out.size)⟩
      · have g60' : decide ((60 : Int) < (gd.size : Int)) = false := decide_eq_false g60
        have hSn : Hid (∀ y ∈ o.lines.take (k + 1), y.good.size ≤ 60) := hS'.out (by simp only; omega)
        go_wp2_with (rw [hwa.out])
        go_roundw
        case rel => exact ⟨k + 1, by omega, by go_num, hSn, hBa⟩
        case measure => simp [intOf]; omega
    · have hkm : decide (k < n) = false := decide_eq_false hlt
      have hlines : Hid (∀ x ∈ o.lines, x.good.size ≤ 60) := by
        have := hS.out
        rw [List.take_of_length_le (by have := hn.out; omega)] at this
        exact this
      obtain ⟨w4, hw4⟩ : ∃ x, x = wr := ⟨_, rfl⟩
      subst hw4
      have hk4 := Lib.hid (hk3.out.below hB.out hk3.out.lt)
      have hm4 := Lib.hid (hm3.out.below hB.out hm3.out.lt)
      have hl4 := Lib.hid (hl3.out.below hB.out hl3.out.lt)
      have d3 : w4.cell? ⟨w0.heap.size, 3, none⟩ = some (.slice cA q cc) := hm4.out.cell 3
      have lc4 : w0.heap.size < w4.heap.size := hm4.out.lt
      have hw4 : Hid (w.heap.size ≤ w4.heap.size) := hBw.out.size
      go_wp2_with fail
      clear d3 hkm
      go_loopw [77] (fun i wr => ∃ k : Nat, k ≤ q ∧ i = .int .i64 (k : Int) ∧ Hid (∀ x ∈ c.lots.take k, x.good.size ≤ 60) ∧ Hid (Below w4.heap.size w4 wr)) (fun i _ => q - (intOf i).toNat)
      case atStart => exact ⟨0, Nat.zero_le _, rfl, (fun x hx => by simp at hx), Below.refl _ _⟩
      case round =>
        obtain ⟨j, hj, rfl, hT, hC⟩ := hrel
        have hCw : Hid (Below w.heap.size w wr) := hBw.out.trans (hC.out.mono hw4.out)
        by_cases hjt : j < q
        · obtain ⟨x, hx⟩ : ∃ x, c.lots[j]? = some x := ⟨_, List.getElem?_eq_getElem (by have := hq.out; omega)⟩
          obtain ⟨b, off, hA', hcx⟩ := (hc.out.at_.below hCw.out) j x hx
          rw [hcA.out] at hA'
          have hjm : decide (j < q) = true := decide_eq_true hjt
          have hT' : Hid (x.good.size ≤ 60 → ∀ y ∈ c.lots.take (j + 1), y.good.size ≤ 60) := by
            intro h y hy
            rw [List.take_add_one, hx] at hy
            rcases List.mem_append.1 hy with h1 | h1
            · exact hT.out y h1
            · have : y = x := by simpa using h1
              rw [this]; exact h
          obtain ⟨gd, ct⟩ := x
          have h0 : wr.cell? ⟨b, off + j * 2, none⟩ = some (.string gd) := hcx 0 _ rfl
          have h1 : wr.cell? ⟨b, off + j * 2 + 1, none⟩ = some (.int .i64 ct) := hcx 1 _ rfl
          obtain ⟨wa, hwa⟩ : ∃ W, Hid (wr.alloc (.cells #[.string gd, .int .i64 ct] 63) = W) := ⟨_, rfl⟩
          have hba : Hid (Blk wa wr.heap.size 63 #[.string gd, .int .i64 ct]) := by rw [← hwa.out]; exact Lib.hid (Blk.new _ _ _)
          have hBa : Hid (Below w4.heap.size w4 wa) := by rw [← hwa.out]; exact hC.out.alloc hC.out.size _
          have hBf : Hid (Below w.heap.size w wa) := hBw.out.trans (hBa.out.mono hw4.out)
          have a0 : wa.cell? ⟨wr.heap.size, 0, none⟩ = some (.string gd) := hba.out.cell 0
          have al : wr.heap.size < wa.heap.size := hba.out.lt
          clear hx hcx
          rw [hA']
          by_cases g60 : (60 : Int) < (gd.size : Int)
          · have g60' : decide ((60 : Int) < (gd.size : Int)) = true := decide_eq_true g60
            go_wp2_with (rw [hwa.out])
            refine (haw.out wa hBf.out).mono ?_
            rintro e w5 ⟨rfl, hb5⟩
            go_wp2_with fail
            go_ret
            exact ⟨rfl, hBf.out.trans (hb5.mono hBf.out.size)⟩
          · have g60' : decide ((60 : Int) < (gd.size : Int)) = false := decide_eq_false g60
            have hTn : Hid (∀ y ∈ c.lots.take (j + 1), y.good.size ≤ 60) := hT'.out (by simp only; omega)
            go_wp2_with (rw [hwa.out])
            go_roundw
            case rel => exact ⟨j + 1, by omega, by go_num, hTn, hBa⟩
            case measure => simp [intOf]; omega
        · have hjm : decide (j < q) = false := decide_eq_false hjt
          have hlots : Hid (∀ x ∈ c.lots, x.good.size ≤ 60) := by
            have := hT.out
            rw [List.take_of_length_le (by have := hq.out; omega)] at this
            exact this
          obtain ⟨w5, hw5⟩ : ∃ x, x = wr := ⟨_, rfl⟩
          subst hw5
          have hk5 := Lib.hid (hk4.out.below hC.out hk4.out.lt)
          have hm5 := Lib.hid (hm4.out.below hC.out hm4.out.lt)
          have hl5 := Lib.hid (hl4.out.below hC.out hl4.out.lt)
          have hz := hsz.out
          have oko : Hid (o.ok w) := ⟨by rw [hnb.out]; omega, by rw [hse.out]; omega, by rw [hbu.out]; omega, by rw [hcu.out]; omega, by rw [hfr.out]; omega, by rw [htp.out]; omega, ho.out.term, ho.out.at_, by have := hn.out; omega, ho.out.cap, fun x hx => ⟨hlines.out x hx, (ho.out.lines x hx).1, (ho.out.lines x hx).2.1⟩⟩
          have okc : Hid (c.ok w) := ⟨by rw [hod.out]; omega, hc.out.number, hc.out.latest, hc.out.at_, by have := hq.out; omega, hc.out.cap, fun x hx => ⟨hlots.out x hx, (hc.out.lots x hx).1⟩⟩
          clear hz hC hT hS hB hlines hlots hsz
          have hval := Lib.hid (value_any o c w5 (Lib.hid (oko.out.below hCw.out)) (Lib.hid (okc.out.below hCw.out)))
          have hdeal : Hid (∀ W, Below w.heap.size w W → Calls Tryz.prog 29 #[.agg o.cells, .agg c.cells, .agg d.cells] W fun e w' => (((valV o c).2 ≠ 0 ∧ e = .returned (.tuple #[.agg zeroD, .int .i64 (valV o c).2])) ∨ ((valV o c).2 = 0 ∧ ∃ A' c', e = .returned (.tuple #[.agg (outD o c d (valV o c).1 A' c'), .int .i64 0]))) ∧ Below W.heap.size W w') :=
            fun W hW => deal_any o c d W (Lib.hid (oko.out.below hW)) (Lib.hid (okc.out.below hW)) (Lib.hid (hokd.out.below hW))
          obtain ⟨v1, hv1⟩ : ∃ x, Hid ((valV o c).1 = x) := ⟨_, rfl⟩
          obtain ⟨v2, hv2⟩ : ∃ x, Hid ((valV o c).2 = x) := ⟨_, rfl⟩
          rw [hD.out, hV.out, hv1.out, hv2.out] at hval hdeal
          rw [hL.out] at hdeal
          go_wp2_with (first | (refine wpList_get_blk rfl 56 _ rfl w.heap.size _ 56 _ rfl hk5.out Tryz.underlying56 rfl (by kernel_rfl) ?_) | (refine wpList_get_blk rfl 59 _ rfl w0.heap.size _ 59 _ rfl hm5.out Tryz.underlying59 rfl (by kernel_rfl) ?_))
          refine hval.out.mono ?_
          rintro e w6 ⟨rfl, hb6⟩
          have hB6 : Hid (Below w.heap.size w w6) := hCw.out.trans (hb6.mono hCw.out.size)
          have hk6 := Lib.hid (hk5.out.below hb6 hk5.out.lt)
          have hm6 := Lib.hid (hm5.out.below hb6 hm5.out.lt)
          have hl6 := Lib.hid (hl5.out.below hb6 hl5.out.lt)
          clear hb6
          go_wp2_with (first | (refine wpList_get_blk rfl 56 _ rfl w.heap.size _ 56 _ rfl hk6.out Tryz.underlying56 rfl (by kernel_rfl) ?_) | (refine wpList_get_blk rfl 59 _ rfl w0.heap.size _ 59 _ rfl hm6.out Tryz.underlying59 rfl (by kernel_rfl) ?_) | (refine wpList_get_blk rfl 26 _ rfl w1.heap.size L 26 _ rfl hl6.out Tryz.underlying26 rfl (by rw [hLs.out]; kernel_rfl) ?_))
          refine (hdeal.out w6 hB6.out).mono ?_
          rintro e w7 ⟨hor, hb7⟩
          have hB7 : Hid (Below w.heap.size w w7) := hB6.out.trans (hb7.mono hB6.out.size)
          have hk7 := Lib.hid (hk6.out.below hb7 hk6.out.lt)
          have hm7 := Lib.hid (hm6.out.below hb7 hm6.out.lt)
          have hl7 := Lib.hid (hl6.out.below hb7 hl6.out.lt)
          clear hb7
          obtain ⟨w8, hw8⟩ : ∃ W, Hid (w7.alloc (.cells zeroD 26) = W) := ⟨_, rfl⟩
          have hr8 : Hid (Blk w8 w7.heap.size 26 zeroD) := by rw [← hw8.out]; exact Lib.hid (Blk.new _ _ _)
          have hb8 : Hid (Below w7.heap.size w7 w8) := by rw [← hw8.out]; exact (Below.refl _ w7).alloc (Nat.le_refl _) _
          rcases hor with ⟨hne, rfl⟩ | ⟨h0, A', c', rfl⟩
          · have hne' : (v2 != 0) = true := by simpa using hne
            have hne2 : decide (v2 = 0) = false := decide_eq_false hne
            go_wp2_with (first | rw [hw8.out] | (refine wpList_put_blk rfl 26 _ _ rfl w7.heap.size zeroD zeroD 26 rfl rfl hr8.out rfl (by kernel_rfl) (by simp [Value.oneCell']) ?_; intro w9 hr9 hu9; have hb9 : Hid (Below w7.heap.size w7 w9) := hu9.to_below hb8.out (Nat.le_refl _) hb8.out.size; have hB9 : Hid (Below w.heap.size w w9) := hB7.out.trans (hb9.out.mono hB7.out.size); have yl : w7.heap.size < w9.heap.size := hr9.lt; have y0 : w9.cell? ⟨w7.heap.size, 0, none⟩ = some (.string ⟨#[]⟩) := hr9.cell 0; have y1 : w9.cell? ⟨w7.heap.size, 1, none⟩ = some (.string ⟨#[]⟩) := hr9.cell 1; have y9 : w9.cell? ⟨w7.heap.size, 9, none⟩ = some (.string ⟨#[]⟩) := hr9.cell 9; have y10 : w9.cell? ⟨w7.heap.size, 10, none⟩ = some (.int .i64 0) := hr9.cell 10; have y11 : w9.cell? ⟨w7.heap.size, 11, none⟩ = some (.slice none 0 0) := hr9.cell 11; clear hu9))
            refine (haw.out w9 hB9.out).mono ?_
            rintro e w10 ⟨rfl, hb10⟩
            go_wp2_with fail
            go_ret
            exact ⟨rfl, hB9.out.trans (hb10.mono hB9.out.size)⟩
          · subst h0
            obtain ⟨bn, hbn⟩ : ∃ x, Hid (d.boxes.length = x) := ⟨_, rfl⟩
            have hL0 : Hid (L[0]? = some (.string d.number)) := by rw [← hL.out]; exact Lib.hid rfl
            have hL3 : Hid (L[3]? = some (.string d.carrier)) := by rw [← hL.out]; exact Lib.hid rfl
            have hL4 : Hid (L[4]? = some (.string d.issuer)) := by rw [← hL.out]; exact Lib.hid rfl
            have hL5 : Hid (L[5]? = some (.string d.house)) := by rw [← hL.out]; exact Lib.hid rfl
            have hL6 : Hid (L[6]? = some (.string d.insurer)) := by rw [← hL.out]; exact Lib.hid rfl
            have hL14 : Hid (L[14]? = some (.int .i64 d.expiry)) := by rw [← hL.out]; exact Lib.hid rfl
            have hL15 : Hid (L[15]? = some (.int .i64 d.tenor)) := by rw [← hL.out]; exact Lib.hid rfl
            have hL16 : Hid (L[16]? = some (.int .i64 d.duty)) := by rw [← hL.out]; exact Lib.hid rfl
            have hL11 : Hid (L[11]? = some (.slice d.A bn d.c)) := by rw [← hL.out, ← hbn.out]; exact Lib.hid rfl
            have e9 : outD o c d v1 A' c' = #[.string d.number, .string se, .string bu, .string d.carrier, .string d.issuer, .string d.house, .string d.insurer, .string fr, .string tp, .string cu, .int .i64 v1, .slice A' bn c', .int .i64 tm, .int .i64 la, .int .i64 d.expiry, .int .i64 d.tenor, .int .i64 d.duty] := by unfold outD; rw [hse.out, hbu.out, hcu.out, hfr.out, htp.out, htm.out, hla.out, hbn.out]
            rw [e9]
            go_wp2_with (first | rw [hw8.out] | (refine wpList_put_blk rfl 26 _ _ rfl w7.heap.size zeroD #[.string d.number, .string se, .string bu, .string d.carrier, .string d.issuer, .string d.house, .string d.insurer, .string fr, .string tp, .string cu, .int .i64 v1, .slice A' bn c', .int .i64 tm, .int .i64 la, .int .i64 d.expiry, .int .i64 d.tenor, .int .i64 d.duty] 26 rfl rfl hr8.out rfl (by kernel_rfl) (by simp [Value.oneCell']) ?_; intro w9 hr9 hu9; have hb9 : Hid (Below w7.heap.size w7 w9) := hu9.to_below hb8.out (Nat.le_refl _) hb8.out.size; have hB9 : Hid (Below w.heap.size w w9) := hB7.out.trans (hb9.out.mono hB7.out.size); have yl : w7.heap.size < w9.heap.size := hr9.lt; have y0 : w9.cell? ⟨w7.heap.size, 0, none⟩ = some (.string d.number) := hr9.cell 0; have y1 : w9.cell? ⟨w7.heap.size, 1, none⟩ = some (.string se) := hr9.cell 1; have y2 : w9.cell? ⟨w7.heap.size, 2, none⟩ = some (.string bu) := hr9.cell 2; have y3 : w9.cell? ⟨w7.heap.size, 3, none⟩ = some (.string d.carrier) := hr9.cell 3; have y4 : w9.cell? ⟨w7.heap.size, 4, none⟩ = some (.string d.issuer) := hr9.cell 4; have y5 : w9.cell? ⟨w7.heap.size, 5, none⟩ = some (.string d.house) := hr9.cell 5; have y6 : w9.cell? ⟨w7.heap.size, 6, none⟩ = some (.string d.insurer) := hr9.cell 6; have y7 : w9.cell? ⟨w7.heap.size, 7, none⟩ = some (.string fr) := hr9.cell 7; have y8 : w9.cell? ⟨w7.heap.size, 8, none⟩ = some (.string tp) := hr9.cell 8; have y9 : w9.cell? ⟨w7.heap.size, 9, none⟩ = some (.string cu) := hr9.cell 9; have y10 : w9.cell? ⟨w7.heap.size, 10, none⟩ = some (.int .i64 v1) := hr9.cell 10; have y11 : w9.cell? ⟨w7.heap.size, 11, none⟩ = some (.slice A' bn c') := hr9.cell 11; have y12 : w9.cell? ⟨w7.heap.size, 12, none⟩ = some (.int .i64 tm) := hr9.cell 12; have y13 : w9.cell? ⟨w7.heap.size, 13, none⟩ = some (.int .i64 la) := hr9.cell 13; have y14 : w9.cell? ⟨w7.heap.size, 14, none⟩ = some (.int .i64 d.expiry) := hr9.cell 14; have y15 : w9.cell? ⟨w7.heap.size, 15, none⟩ = some (.int .i64 d.tenor) := hr9.cell 15; have y16 : w9.cell? ⟨w7.heap.size, 16, none⟩ = some (.int .i64 d.duty) := hr9.cell 16; have hk9 := hk7.out.below hb9.out hk7.out.lt; have hm9 := hm7.out.below hb9.out hm7.out.lt; have hl9 := hl7.out.below hb9.out hl7.out.lt; have x1 : w9.cell? ⟨w.heap.size, 1, none⟩ = some (.string se) := hk9.cell 1; have x2 : w9.cell? ⟨w.heap.size, 2, none⟩ = some (.string bu) := hk9.cell 2; have x3 : w9.cell? ⟨w.heap.size, 3, none⟩ = some (.string cu) := hk9.cell 3; have x4 : w9.cell? ⟨w.heap.size, 4, none⟩ = some (.string fr) := hk9.cell 4; have x5 : w9.cell? ⟨w.heap.size, 5, none⟩ = some (.string tp) := hk9.cell 5; have x6 : w9.cell? ⟨w.heap.size, 6, none⟩ = some (.int .i64 tm) := hk9.cell 6; have z2 : w9.cell? ⟨w0.heap.size, 2, none⟩ = some (.int .i64 la) := hm9.cell 2; have u0 : w9.cell? ⟨w1.heap.size, 0, none⟩ = some (.string d.number) := (hl9.cell 0).trans hL0.out; have u3 : w9.cell? ⟨w1.heap.size, 3, none⟩ = some (.string d.carrier) := (hl9.cell 3).trans hL3.out; have u4 : w9.cell? ⟨w1.heap.size, 4, none⟩ = some (.string d.issuer) := (hl9.cell 4).trans hL4.out; have u5 : w9.cell? ⟨w1.heap.size, 5, none⟩ = some (.string d.house) := (hl9.cell 5).trans hL5.out; have u6 : w9.cell? ⟨w1.heap.size, 6, none⟩ = some (.string d.insurer) := (hl9.cell 6).trans hL6.out; have u14 : w9.cell? ⟨w1.heap.size, 14, none⟩ = some (.int .i64 d.expiry) := (hl9.cell 14).trans hL14.out; have u15 : w9.cell? ⟨w1.heap.size, 15, none⟩ = some (.int .i64 d.tenor) := (hl9.cell 15).trans hL15.out; have u16 : w9.cell? ⟨w1.heap.size, 16, none⟩ = some (.int .i64 d.duty) := (hl9.cell 16).trans hL16.out; have u11 : w9.cell? ⟨w1.heap.size, 11, none⟩ = some (.slice d.A bn d.c) := (hl9.cell 11).trans hL11.out; have xl := hk9.lt; have zl := hm9.lt; have ul := hl9.lt; clear hk9 hm9 hl9; clear hu9))
            refine (haw.out w9 hB9.out).mono ?_
            rintro e w10 ⟨rfl, hb10⟩
            go_wp2_with fail
            go_ret
            exact ⟨rfl, hB9.out.trans (hb10.mono hB9.out.size)⟩
end Go.Proofs.YtnmnknkdnjkpjaaGreatDoor

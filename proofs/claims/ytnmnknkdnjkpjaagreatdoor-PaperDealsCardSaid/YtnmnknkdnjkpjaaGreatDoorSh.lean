/- The law's short: a deal that it lets through is short. -/
import Derived.Test.YtnmnknkdnjkpjaaGreatDoorC
namespace Go.Proofs.YtnmnknkdnjkpjaaGreatDoor
open Go Go.RowKit Go.BigFrame Go.Maps

/-- What memory bounds. -/
def reach : Nat := 140737488351232
structure Dl.wide (w : World) (d : Dl) : Prop where
  number : d.number.size ≤ 140737488351232
  seller : d.seller.size ≤ 140737488351232
  buyer : d.buyer.size ≤ 140737488351232
  carrier : d.carrier.size ≤ 140737488351232
  issuer : d.issuer.size ≤ 140737488351232
  house : d.house.size ≤ 140737488351232
  insurer : d.insurer.size ≤ 140737488351232
  frm : d.frm.size ≤ 140737488351232
  toP : d.toP.size ≤ 140737488351232
  currency : d.currency.size ≤ 140737488351232
  amount : i64 d.amount
  term : i64 d.term
  latest : i64 d.latest
  expiry : i64 d.expiry
  tenor : i64 d.tenor
  duty : i64 d.duty
  at_ : BoxesAt w d.A d.boxes
  most : d.boxes.length ≤ maxLen
  cap : d.boxes.length ≤ d.c
  marks : ∀ x ∈ d.boxes, x.mark.size ≤ 140737488351232 ∧ ∀ y ∈ x.lots, y.good.size ≤ 140737488351232
theorem Dl.wide.below {w w' : World} {d : Dl} (h : d.wide w) (hb : Below w.heap.size w w') : d.wide w' := { h with at_ := h.at_.below hb }

set_option maxRecDepth 100000 in
set_option maxHeartbeats 3200000 in
theorem short_any (d : Dl) (w : World) (hd : Hid (d.wide w)) :
    Calls Tryz.prog 7 #[.agg d.cells] w fun e w' => ∃ b, e = .returned (.bool b) ∧ Below w.heap.size w w' ∧ (b = true → d.ok w) := by
  obtain ⟨D, hD⟩ : ∃ X, Hid (d.cells = X) := ⟨_, rfl⟩
  rw [hD.out]
  obtain ⟨w1, hw1⟩ : ∃ W, Hid (w.alloc (.cells D 26) = W) := ⟨_, rfl⟩
  have hb1 : Hid (Below w.heap.size w w1) := by rw [← hw1.out]; exact (Below.refl _ w).alloc (Nat.le_refl _) _
  have hk1 : Blk w1 w.heap.size 26 D := by rw [← hw1.out]; exact Blk.new _ _ _
  have hk1' := Lib.hid hk1
  rw [← hD.out] at hk1
  have c0 : w1.cell? ⟨w.heap.size, 0, none⟩ = some (.string d.number) := hk1.cell 0
  have c1 : w1.cell? ⟨w.heap.size, 1, none⟩ = some (.string d.seller) := hk1.cell 1
  have c2 : w1.cell? ⟨w.heap.size, 2, none⟩ = some (.string d.buyer) := hk1.cell 2
  have c3 : w1.cell? ⟨w.heap.size, 3, none⟩ = some (.string d.carrier) := hk1.cell 3
  have c4 : w1.cell? ⟨w.heap.size, 4, none⟩ = some (.string d.issuer) := hk1.cell 4
  have c5 : w1.cell? ⟨w.heap.size, 5, none⟩ = some (.string d.house) := hk1.cell 5
  have c6 : w1.cell? ⟨w.heap.size, 6, none⟩ = some (.string d.insurer) := hk1.cell 6
  have c7 : w1.cell? ⟨w.heap.size, 7, none⟩ = some (.string d.frm) := hk1.cell 7
  have c8 : w1.cell? ⟨w.heap.size, 8, none⟩ = some (.string d.toP) := hk1.cell 8
  have c9 : w1.cell? ⟨w.heap.size, 9, none⟩ = some (.string d.currency) := hk1.cell 9
  have c11 : w1.cell? ⟨w.heap.size, 11, none⟩ = some (.slice d.A d.boxes.length d.c) := hk1.cell 11
  clear hk1
  have hDc : Hid (D[11]? = some (.slice d.A d.boxes.length d.c)) := by rw [← hD.out]; exact Lib.hid rfl
  have hat := Lib.hid (hd.out.at_.below hb1.out)
  obtain ⟨num, sel, buy, car, iss, hou, ins, frm, toP, cur, amt, A, c, l, trm, lat, exy, ten, dut⟩ := d
  simp only at c0 c1 c2 c3 c4 c5 c6 c7 c8 c9 c11 hDc hat
  have g0 := hd.out.number
  have g1 := hd.out.seller
  have g2 := hd.out.buyer
  have g3 := hd.out.carrier
  have g4 := hd.out.issuer
  have g5 := hd.out.house
  have g6 := hd.out.insurer
  have g7 := hd.out.frm
  have g8 := hd.out.toP
  have g9 := hd.out.currency
  simp only at g0 g1 g2 g3 g4 g5 g6 g7 g8 g9
  obtain ⟨base, hbase⟩ : ∃ b : Int, Hid ((num.size : Int) + sel.size + buy.size + car.size + iss.size + hou.size + ins.size + frm.size + toP.size + cur.size = b) := ⟨_, rfl⟩
  have s1 : IntKind.i64.wrap ((num.size : Int) + sel.size) = (num.size : Int) + sel.size := IntWalk.i64_in _ (by omega)
  have s2 : IntKind.i64.wrap ((num.size : Int) + sel.size + buy.size) = (num.size : Int) + sel.size + buy.size := IntWalk.i64_in _ (by omega)
  have s3 : IntKind.i64.wrap ((num.size : Int) + sel.size + buy.size + car.size) = (num.size : Int) + sel.size + buy.size + car.size := IntWalk.i64_in _ (by omega)
  have s4 : IntKind.i64.wrap ((num.size : Int) + sel.size + buy.size + car.size + iss.size) = (num.size : Int) + sel.size + buy.size + car.size + iss.size := IntWalk.i64_in _ (by omega)
  have s5 : IntKind.i64.wrap ((num.size : Int) + sel.size + buy.size + car.size + iss.size + hou.size) = (num.size : Int) + sel.size + buy.size + car.size + iss.size + hou.size := IntWalk.i64_in _ (by omega)
  have s6 : IntKind.i64.wrap ((num.size : Int) + sel.size + buy.size + car.size + iss.size + hou.size + ins.size) = (num.size : Int) + sel.size + buy.size + car.size + iss.size + hou.size + ins.size := IntWalk.i64_in _ (by omega)
  have s7 : IntKind.i64.wrap ((num.size : Int) + sel.size + buy.size + car.size + iss.size + hou.size + ins.size + frm.size) = (num.size : Int) + sel.size + buy.size + car.size + iss.size + hou.size + ins.size + frm.size := IntWalk.i64_in _ (by omega)
  have s8 : IntKind.i64.wrap ((num.size : Int) + sel.size + buy.size + car.size + iss.size + hou.size + ins.size + frm.size + toP.size) = (num.size : Int) + sel.size + buy.size + car.size + iss.size + hou.size + ins.size + frm.size + toP.size := IntWalk.i64_in _ (by omega)
  have s9 : IntKind.i64.wrap ((num.size : Int) + sel.size + buy.size + car.size + iss.size + hou.size + ins.size + frm.size + toP.size + cur.size) = base := by rw [hbase.out]; exact IntWalk.i64_in _ (by have := hbase.out; omega)
  have hbb : Hid (0 ≤ base ∧ base ≤ 2000000000000000) := by have := hbase.out; unfold Hid; omega
  have hbs : Hid (base ≤ 2000 → num.size ≤ 3000 ∧ sel.size ≤ 3000 ∧ buy.size ≤ 3000 ∧ car.size ≤ 3000 ∧ iss.size ≤ 3000 ∧ hou.size ≤ 3000 ∧ ins.size ≤ 3000 ∧ frm.size ≤ 3000 ∧ toP.size ≤ 3000 ∧ cur.size ≤ 3000) := by have := hbase.out; unfold Hid; omega
  clear g0 g1 g2 g3 g4 g5 g6 g7 g8 g9
  go_enter Tryz.func7, Tryz.ntmps7
  go_wp2_with (rw [hw1.out])
  clear s1 s2 s3 s4 s5 s6 s7 s8 s9 c0 c1 c2 c3 c4 c5 c6 c7 c8 c9
  have hlm := Lib.hid hd.out.most
  have hmk := Lib.hid hd.out.marks
  simp only at hlm hmk
  obtain ⟨n, hn⟩ : ∃ n, Hid (l.length = n) := ⟨_, rfl⟩
  rw [hn.out] at c11 hDc hlm ⊢
  have hnm : n ≤ maxLen := hlm.out
  unfold maxLen at hnm
  go_loopw [3, 51] (fun v i wr => ∃ (k : Nat) (m : Int), k ≤ n ∧ i = .int .i64 (k : Int) ∧ v = .int .i64 m ∧ Hid (base ≤ m ∧ m ≤ 2000000000000000) ∧ Hid (∀ x ∈ l.take k, x.mark.size ≤ 3000 ∧ x.lots.length ≤ 30 ∧ ∀ y ∈ x.lots, y.good.size ≤ 3000) ∧ Hid (Below w1.heap.size w1 wr)) (fun _ i _ => n - (intOf i).toNat)
  case atStart => exact ⟨0, base, Nat.zero_le _, rfl, rfl, ⟨Int.le_refl _, hbb.out.2⟩, by intro x hx; simp at hx, Below.refl _ _⟩
  case round =>
    obtain ⟨k, m, hk, rfl, rfl, hm, hx, hB⟩ := hrel
    obtain ⟨wo, hwo⟩ : ∃ x, x = wr := ⟨_, rfl⟩
    subst hwo
    have hkr := hk1'.out.below hB.out hk1'.out.lt
    have hkc := hkr.cell 11
    rw [hDc.out] at hkc
    clear hkr
    by_cases hlt : k < n
    · obtain ⟨x, hxk⟩ : ∃ x, l[k]? = some x := ⟨_, List.getElem?_eq_getElem (by have := hn.out; omega)⟩
      obtain ⟨b, off, rfl, hc⟩ := (hat.out.below hB.out).1 k x hxk
      obtain ⟨hr, hki, hlc, hcm, hct⟩ := (hat.out.below hB.out).2 x (List.mem_of_getElem? hxk)
      obtain ⟨hms, hgs⟩ := hmk.out x (List.mem_of_getElem? hxk)
      have h0 : wo.cell? ⟨b, off + k * 3, none⟩ = some (.string x.mark) := hc 0 _ rfl
      have h1 : wo.cell? ⟨b, off + k * 3 + 1, none⟩ = some (.int .i64 x.kind) := hc 1 _ rfl
      have h2 : wo.cell? ⟨b, off + k * 3 + 2, none⟩ = some (.slice x.A x.lots.length x.c) := hc 2 _ rfl
      have htk : Hid (∀ z ∈ l.take (k + 1), z ∈ l.take k ∨ z = x) := by
        intro z hz
        rw [List.take_add_one, hxk] at hz
        simpa using hz
      have hr' := Lib.hid hr
      have hgs' := Lib.hid hgs
      clear hxk hc hr hgs hki hct
      obtain ⟨mk, kd, bA, bc, ls⟩ := x
      simp only at h0 h1 h2 htk hr' hgs' hms hlc hcm
      obtain ⟨L, hL⟩ : ∃ n, Hid (ls.length = n) := ⟨_, rfl⟩
      rw [hL.out] at h2 hlc
      have hLm : L ≤ maxLen := Nat.le_trans hlc hcm
      unfold maxLen at hLm
      have hm1 := hm.out
      have sm : IntKind.i64.wrap (m + mk.size) = m + mk.size := IntWalk.i64_in _ (by have := hbb.out; omega)
      obtain ⟨wb, hwb⟩ : ∃ W, Hid (wo.alloc (.cells #[.string mk, .int .i64 kd, .slice bA L bc] 71) = W) := ⟨_, rfl⟩
      have hbb2 : Hid (Below wo.heap.size wo wb) := by rw [← hwb.out]; exact (Below.refl _ wo).alloc (Nat.le_refl _) _
      have hkb : Blk wb wo.heap.size 71 #[.string mk, .int .i64 kd, .slice bA L bc] := by rw [← hwb.out]; exact Blk.new _ _ _
      have hkb' := Lib.hid hkb
      have b0 : wb.cell? ⟨wo.heap.size, 0, none⟩ = some (.string mk) := hkb.cell 0
      have b2 : wb.cell? ⟨wo.heap.size, 2, none⟩ = some (.slice bA L bc) := hkb.cell 2
      clear hkb
      have hrb := Lib.hid (hr'.out.below hbb2.out)
      go_wp2_with (rw [hwb.out])
      go_loopw [3, 63] (fun v i wr => ∃ (j : Nat) (p : Int), j ≤ L ∧ i = .int .i64 (j : Int) ∧ v = .int .i64 p ∧ Hid (j ≤ 30 → m + mk.size ≤ p ∧ p ≤ m + mk.size + (j : Int) * 140737488351232 ∧ ∀ y ∈ ls.take j, m + mk.size + y.good.size ≤ p) ∧ Hid (Below wb.heap.size wb wr)) (fun _ i _ => L - (intOf i).toNat)
      case atStart => exact ⟨0, _, Nat.zero_le _, rfl, rfl, by intro _; refine ⟨Int.le_refl _, by omega, by intro y hy; simp at hy⟩, Below.refl _ _⟩
      case round =>
        obtain ⟨j, p, hj, rfl, rfl, hp, hBs⟩ := hrel
        by_cases hjl : j < L
        · obtain ⟨y, hy⟩ : ∃ y, ls[j]? = some y := ⟨_, List.getElem?_eq_getElem (by have := hL.out; omega)⟩
          obtain ⟨b', off', rfl, hyc⟩ := (hrb.out.below hBs.out) j y hy
          have y0 : wr.cell? ⟨b', off' + j * 2, none⟩ = some (.string y.good) := hyc 0 _ rfl
          have y1 : wr.cell? ⟨b', off' + j * 2 + 1, none⟩ = some (.int .i64 y.count) := hyc 1 _ rfl
          have hyg := hgs'.out y (List.mem_of_getElem? hy)
          have htj : Hid (∀ z ∈ ls.take (j + 1), z ∈ ls.take j ∨ z = y) := by
            intro z hz
            rw [List.take_add_one, hy] at hz
            simpa using hz
          clear hyc hy
          obtain ⟨gd, ct⟩ := y
          simp only at y0 y1 hyg htj
          go_wp2_with fail
          go_roundw
          case rel =>
            refine ⟨j + 1, _, by omega, by go_num, rfl, fun h30 => ?_, hBs.out.alloc hBs.out.size _⟩
            obtain ⟨q1, q2, q3⟩ := hp.out (by omega)
            have hmm := hm.out
            have hb3 := hbb.out
            have e : wrap64 (p + (gd.size : Int)) = p + gd.size := by unfold wrap64; omega
            rw [e]
            refine ⟨by omega, by push_cast; omega, fun z hz => ?_⟩
            rcases htj.out z hz with h | rfl
            · have := q3 z h; omega
            · simp only; omega
          case measure => simp [intOf]; omega
        · have e : j = L := by omega
          have hbs := hkb'.out.below hBs.out hkb'.out.lt
          have v2 : wr.cell? ⟨wo.heap.size, 2, none⟩ = some (.slice bA L bc) := hbs.cell 2
          clear hbs b0 b2
          by_cases hbig : (2000 : Int) < p
          · have d1 : decide ((2000 : Int) < p) = true := decide_eq_true hbig
            go_wp2_with fail
            go_ret
            first | exact .inl ⟨rfl, hb1.out.trans ((hB.out.trans ((hbb2.out.mono hB.out.size).trans (hBs.out.mono (Nat.le_trans hB.out.size hbb2.out.size)))).mono hb1.out.size)⟩ | exact ⟨false, rfl, hb1.out.trans ((hB.out.trans ((hbb2.out.mono hB.out.size).trans (hBs.out.mono (Nat.le_trans hB.out.size hbb2.out.size)))).mono hb1.out.size), fun h => by cases h⟩
          · have d1 : decide ((2000 : Int) < p) = false := decide_eq_false hbig
            by_cases hL30 : (30 : Int) < (L : Int)
            · have d2 : decide ((30 : Int) < (L : Int)) = true := decide_eq_true hL30
              go_wp2_with fail
              go_ret
              first | exact .inl ⟨rfl, hb1.out.trans ((hB.out.trans ((hbb2.out.mono hB.out.size).trans (hBs.out.mono (Nat.le_trans hB.out.size hbb2.out.size)))).mono hb1.out.size)⟩ | exact ⟨false, rfl, hb1.out.trans ((hB.out.trans ((hbb2.out.mono hB.out.size).trans (hBs.out.mono (Nat.le_trans hB.out.size hbb2.out.size)))).mono hb1.out.size), fun h => by cases h⟩
            · have d2 : decide ((30 : Int) < (L : Int)) = false := decide_eq_false hL30
              go_wp2_with fail
              go_roundw
              case rel =>
                have hp' := hp.out (by omega)
                rw [e, List.take_of_length_le (by have := hL.out; omega)] at hp'
                refine ⟨k + 1, p, by omega, by go_num, rfl, ⟨by have := hm.out; omega, by omega⟩, ?_, hB.out.trans ((hbb2.out.mono hB.out.size).trans (hBs.out.mono (Nat.le_trans hB.out.size hbb2.out.size)))⟩
                intro z hz
                rcases htk.out z hz with h | rfl
                · exact hx.out z h
                · have hmm := hm.out
                  have hb3 := hbb.out
                  refine ⟨by simp only; omega, by simp only; rw [hL.out]; omega, fun y hy => ?_⟩
                  have := hp'.2.2 y hy
                  omega
              case measure => simp [intOf]; omega
    · have e : k = n := by omega
      have eT : l.take k = l := List.take_of_length_le (by have := hn.out; omega)
      rw [eT] at hx
      by_cases hbig : m ≤ (2000 : Int)
      · have d1 : decide (m ≤ (2000 : Int)) = true := decide_eq_true hbig
        by_cases hL30 : (n : Int) ≤ (30 : Int)
        · have d2 : decide ((n : Int) ≤ (30 : Int)) = true := decide_eq_true hL30
          go_wp2_with fail
          go_ret
          have hok : Dl.ok w ⟨num, sel, buy, car, iss, hou, ins, frm, toP, cur, amt, A, c, l, trm, lat, exy, ten, dut⟩ := by
            obtain ⟨z0, z1, z2, z3, z4, z5, z6, z7, z8, z9⟩ := hbs.out (by have := hm.out; omega)
            exact ⟨z0, z1, z2, z3, z4, z5, z6, z7, z8, z9, hd.out.amount, hd.out.term, hd.out.latest, hd.out.expiry, hd.out.tenor, hd.out.duty, hd.out.at_, by simp only; rw [hn.out]; omega, hd.out.cap, hx.out⟩
          first | exact .inr ⟨rfl, hb1.out.trans (hB.out.mono hb1.out.size), hok⟩ | exact ⟨true, rfl, hb1.out.trans (hB.out.mono hb1.out.size), fun _ => hok⟩
        · have d2 : decide ((n : Int) ≤ (30 : Int)) = false := decide_eq_false hL30
          go_wp2_with fail
          go_ret
          first | exact .inl ⟨rfl, hb1.out.trans (hB.out.mono hb1.out.size)⟩ | exact ⟨false, rfl, hb1.out.trans (hB.out.mono hb1.out.size), fun h => by cases h⟩
      · have d1 : decide (m ≤ (2000 : Int)) = false := decide_eq_false hbig
        go_wp2_with fail
        go_ret
        first | exact .inl ⟨rfl, hb1.out.trans (hB.out.mono hb1.out.size)⟩ | exact ⟨false, rfl, hb1.out.trans (hB.out.mono hb1.out.size), fun h => by cases h⟩
end Go.Proofs.YtnmnknkdnjkpjaaGreatDoor

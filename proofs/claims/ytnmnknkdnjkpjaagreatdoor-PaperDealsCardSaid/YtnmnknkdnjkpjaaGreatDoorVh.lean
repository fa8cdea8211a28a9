/- The value of a consignment by an order. -/
import Derived.Test.YtnmnknkdnjkpjaaGreatDoorVg
namespace Go.Proofs.YtnmnknkdnjkpjaaGreatDoor
open Go Go.RowKit Go.BigFrame Go.Maps

def prV : Value → Int
  | .agg cs => (match (cs[2]? : Option Value) with | some (Value.int _ n) => n | _ => 0)
  | _ => 0
def prOf (ls : List Ln) (s : List UInt8) : Int := prV ((goodS ls s).getD lnZ)
def valGo (ls : List Ln) : List Lt → Int → Int × Int
  | [], s => (s, 0)
  | x :: r, s => if 1099511627776 < wrap64 (s + wrap64 (x.count * prOf ls x.good.data.toList)) then (0, 3) else valGo ls r (wrap64 (s + wrap64 (x.count * prOf ls x.good.data.toList)))
def valV (o : Od) (c : Cn) : Int × Int := if chkV o c = 0 then valGo o.lines c.lots 0 else (0, chkV o c)
theorem val_step {ls : List Ln} {l : List Lt} {k : Nat} {x : Lt} {r : Int × Int} {s : Int} (hr : r = valGo ls (l.drop k) s) (hx : l[k]? = some x) : r = if 1099511627776 < wrap64 (s + wrap64 (x.count * prOf ls x.good.data.toList)) then (0, 3) else valGo ls (l.drop (k + 1)) (wrap64 (s + wrap64 (x.count * prOf ls x.good.data.toList))) := by
  obtain ⟨hk, he⟩ := List.getElem?_eq_some_iff.1 hx
  rw [hr, List.drop_eq_getElem_cons hk, he, valGo]

set_option maxRecDepth 100000 in
set_option maxHeartbeats 3200000 in
theorem value_any (o : Od) (c : Cn) (w : World) (ho : Hid (o.ok w)) (hc : Hid (c.ok w)) :
    Calls Tryz.prog 28 #[.agg o.cells, .agg c.cells] w fun e w' => e = .returned (.tuple #[.int .i64 (valV o c).1, .int .i64 (valV o c).2]) ∧ Below w.heap.size w w' := by
  obtain ⟨r, hr⟩ : ∃ r, Hid (valV o c = r) := ⟨_, rfl⟩
  obtain ⟨q, hq⟩ : ∃ n, Hid (c.lots.length = n) := ⟨_, rfl⟩
  have hq20 : q ≤ 20 := by rw [← hq.out]; exact hc.out.few
  obtain ⟨D, hD⟩ : ∃ X, Hid (o.cells = X) := ⟨_, rfl⟩
  have hDs : Hid (D.size = 8) := by rw [← hD.out]; exact Lib.hid rfl
  obtain ⟨od, hod⟩ : ∃ x, Hid (c.order = x) := ⟨_, rfl⟩
  obtain ⟨nu, hnu⟩ : ∃ x, Hid (c.number = x) := ⟨_, rfl⟩
  obtain ⟨la, hla⟩ : ∃ x, Hid (c.latest = x) := ⟨_, rfl⟩
  obtain ⟨A, hA⟩ : ∃ x, Hid (c.A = x) := ⟨_, rfl⟩
  obtain ⟨cp, hcp⟩ : ∃ x, Hid (c.c = x) := ⟨_, rfl⟩
  have hV : Hid (c.cells = #[.string od, .int .i64 nu, .int .i64 la, .slice A q cp]) := by unfold Hid Cn.cells; rw [hod.out, hnu.out, hla.out, hA.out, hq.out, hcp.out]
  obtain ⟨w0, hw0⟩ : ∃ W, Hid (w.alloc (.cells D 56) = W) := ⟨_, rfl⟩
  have hb0 : Hid (Below w.heap.size w w0) := by rw [← hw0.out]; exact (Below.refl _ w).alloc (Nat.le_refl _) _
  have hk0 : Hid (Blk w0 w.heap.size 56 D) := by rw [← hw0.out]; exact Lib.hid (Blk.new _ _ _)
  obtain ⟨w1, hw1⟩ : ∃ W, Hid (w0.alloc (.cells #[.string od, .int .i64 nu, .int .i64 la, .slice A q cp] 59) = W) := ⟨_, rfl⟩
  have hb01 : Hid (Below w0.heap.size w0 w1) := by rw [← hw1.out]; exact (Below.refl _ w0).alloc (Nat.le_refl _) _
  have hb1 : Hid (Below w.heap.size w w1) := hb0.out.trans (hb01.out.mono hb0.out.size)
  have hk1 := Lib.hid (hk0.out.below hb01.out hk0.out.lt)
  have hm1 : Hid (Blk w1 w0.heap.size 59 #[.string od, .int .i64 nu, .int .i64 la, .slice A q cp]) := by rw [← hw1.out]; exact Lib.hid (Blk.new _ _ _)
  obtain ⟨w2, hw2⟩ : ∃ W, Hid (w1.alloc (.cells #[.string od, .int .i64 nu, .int .i64 la, .slice A q cp] 59) = W) := ⟨_, rfl⟩
  have hb12 : Hid (Below w1.heap.size w1 w2) := by rw [← hw2.out]; exact (Below.refl _ w1).alloc (Nat.le_refl _) _
  have hb2 : Hid (Below w.heap.size w w2) := hb1.out.trans (hb12.out.mono hb1.out.size)
  have hk2 := Lib.hid (hk1.out.below hb12.out hk1.out.lt)
  have hm2 := Lib.hid (hm1.out.below hb12.out hm1.out.lt)
  have hn2 : Hid (Blk w2 w1.heap.size 59 c.cells) := by rw [hV.out, ← hw2.out]; exact Lib.hid (Blk.new _ _ _)
  have hcall := Lib.hid (checks_any o c w1.heap.size w2 (Lib.hid (ho.out.below hb2.out)) (Lib.hid (hc.out.below hb2.out)) hn2)
  have hrv : Hid ((if chkV o c = 0 then valGo o.lines c.lots 0 else (0, chkV o c)) = r) := hr
  obtain ⟨ch, hch⟩ : ∃ r, Hid (chkV o c = r) := ⟨_, rfl⟩
  have hbg : Hid (∀ W, Below w.heap.size w W → Calls Tryz.prog 66 #[.agg D] W fun e w' => ∃ b n, e = .returned (.map (some b)) ∧ W.heap.size ≤ b ∧ MapS w' Tryz.prog 9 b n lnZ (goodS o.lines) ∧ Below W.heap.size W w') := by
    intro W hW
    have := byGood_any o W (Lib.hid (ho.out.below hW))
    rw [hD.out] at this
    exact this
  rw [hch.out] at hcall hrv
  rw [hD.out] at hcall
  rw [hD.out, hV.out, hr.out]
  go_enter Tryz.func28, Tryz.ntmps28
  go_wp2_with (first | (refine wpList_get_blk rfl 56 _ rfl w.heap.size D 56 _ rfl hk1.out Tryz.underlying56 rfl (by rw [hDs.out]; kernel_rfl) ?_) | (refine wpList_get_blk rfl 59 _ rfl w0.heap.size _ 59 _ rfl hm1.out Tryz.underlying59 rfl (by kernel_rfl) ?_) | rw [hw0.out] | rw [hw1.out] | rw [hw2.out])
  refine hcall.out.mono ?_
  rintro e w3 ⟨rfl, hb3⟩
  have hB3 : Hid (Below w.heap.size w w3) := hb2.out.trans (hb3.mono hb2.out.size)
  have hk3 := Lib.hid (hk2.out.below hb3 hk2.out.lt)
  have hm3 := Lib.hid (hm2.out.below hb3 hm2.out.lt)
  clear hb3
  by_cases h0 : ch = 0
  · subst h0
    have hrg : Hid (r = valGo o.lines c.lots 0) := hrv.out.symm
    have hcall2 := Lib.hid (hbg.out w3 hB3.out)
    go_wp2_with (first | (refine wpList_get_blk rfl 56 _ rfl w.heap.size D 56 _ rfl hk3.out Tryz.underlying56 rfl (by rw [hDs.out]; kernel_rfl) ?_))
    refine hcall2.out.mono ?_
    rintro e w4 ⟨m, n, rfl, hm, hM, hb4⟩
    have hM4 := Lib.hid hM
    have hB4 : Hid (Below w.heap.size w w4) := hB3.out.trans (hb4.mono hB3.out.size)
    have hm4 := Lib.hid (hm3.out.below hb4 hm3.out.lt)
    have c3 : w4.cell? ⟨w0.heap.size, 3, none⟩ = some (.slice A q cp) := hm4.out.cell 3
    have hl3 : w0.heap.size < w4.heap.size := hm4.out.lt
    have hst0 : Hid (r = valGo o.lines (c.lots.drop 0) 0) := hrg
    clear hM hm hb4
    go_wp2_with fail
    go_loopw [8, 23] (fun s i wr => ∃ (k : Nat) (sm : Int), k ≤ q ∧ s = .int .i64 sm ∧ i = .int .i64 (k : Int) ∧ Hid (r = valGo o.lines (c.lots.drop k) sm) ∧ Hid (Below w4.heap.size w4 wr)) (fun _ i _ => q - (intOf i).toNat)
    case atStart => exact ⟨0, 0, Nat.zero_le _, rfl, rfl, hst0, Below.refl _ _⟩
    case round =>
      obtain ⟨k, sm, hk, rfl, rfl, hR, hB⟩ := hrel
      have hBw : Hid (Below w.heap.size w wr) := hB4.out.trans (hB.out.mono hB4.out.size)
      by_cases hlt : k < q
      · obtain ⟨x, hx⟩ : ∃ x, c.lots[k]? = some x := ⟨_, List.getElem?_eq_getElem (by have := hq.out; omega)⟩
        obtain ⟨b, off, hA', hcc⟩ := (hc.out.at_.below hBw.out) k x hx
        rw [hA.out] at hA'
        have hxm := Lib.hid (hc.out.lots x (List.mem_of_getElem? hx))
        have hst := Lib.hid (val_step hR.out hx)
        have hkm : decide (k < q) = true := decide_eq_true hlt
        obtain ⟨gd, ct⟩ := x
        have h0 : wr.cell? ⟨b, off + k * 2, none⟩ = some (.string gd) := hcc 0 _ rfl
        have h1 : wr.cell? ⟨b, off + k * 2 + 1, none⟩ = some (.int .i64 ct) := hcc 1 _ rfl
        obtain ⟨wa, hwa⟩ : ∃ W, Hid (wr.alloc (.cells #[.string gd, .int .i64 ct] 63) = W) := ⟨_, rfl⟩
        have hba : Hid (Below wr.heap.size wr wa) := by rw [← hwa.out]; exact (Below.refl _ wr).alloc (Nat.le_refl _) _
        have hka : Hid (Blk wa wr.heap.size 63 #[.string gd, .int .i64 ct]) := by rw [← hwa.out]; exact Lib.hid (Blk.new _ _ _)
        have hBa : Hid (Below w4.heap.size w4 wa) := hB.out.trans (hba.out.mono hB.out.size)
        have a0 : wa.cell? ⟨wr.heap.size, 0, none⟩ = some (.string gd) := hka.out.cell 0
        have a1 : wa.cell? ⟨wr.heap.size, 1, none⟩ = some (.int .i64 ct) := hka.out.cell 1
        have al : wr.heap.size < wa.heap.size := hka.out.lt
        have hMa := Lib.hid (hM4.out.below hBa.out)
        have hlk := hMa.out.look (t := 120) (e := 61) Tryz.underlying9 Tryz.underlying120 (by kernel_rfl) (s := gd) (by have := hxm.out.1; simp only at this; unfold maxLen; omega)
        obtain ⟨g2, n2, p2, hy⟩ : ∃ g2 n2 p2, (goodS o.lines gd.data.toList).getD lnZ = .agg #[.string g2, .int .i64 n2, .int .i64 p2] := by obtain ⟨x, hx, _⟩ := goodS_at o.lines gd.data.toList; exact ⟨_, _, _, hx⟩
        have hfl : ∀ W, (Instr.field 61 (.agg #[.string g2, .int .i64 n2, .int .i64 p2]) 2).run Tryz.prog W = .ok (.int .i64 p2) W := fun _ => by kernel_rfl
        have hpr : Hid (prOf o.lines gd.data.toList = p2) := by unfold Hid prOf; rw [hy]; rfl
        rw [hy] at hlk
        simp only [hpr.out] at hst
        clear hy hx hcc
        rw [hA']
        obtain ⟨t, ht⟩ : ∃ t, Hid (wrap64 (sm + wrap64 (ct * p2)) = t) := ⟨_, rfl⟩
        rw [ht.out] at hst
        by_cases hgt : 1099511627776 < t
        · have hg' : decide (1099511627776 < t) = true := decide_eq_true hgt
          have hfin : Hid (r = (0, 3)) := by unfold Hid; rw [hst.out, if_pos hgt]
          go_wp2_with (first | rw [hwa.out] | rw [ht.out])
          go_ret2
          exact ⟨by rw [hfin.out]; rfl, hB4.out.trans (hBa.out.mono hB4.out.size)⟩
        · have hg' : decide (1099511627776 < t) = false := decide_eq_false hgt
          have hst' : Hid (r = valGo o.lines (c.lots.drop (k + 1)) t) := by unfold Hid; rw [hst.out, if_neg hgt]
          go_wp2_with (first | rw [hwa.out] | rw [ht.out])
          go_roundw
          case rel => exact ⟨k + 1, t, by omega, rfl, by go_num, hst', hBa⟩
          case measure => simp [intOf]; omega
      · have hkm : decide (k < q) = false := decide_eq_false hlt
        have eD : c.lots.drop k = [] := List.drop_eq_nil_of_le (by have := hq.out; omega)
        have hfin : Hid (r = (sm, 0)) := by unfold Hid; rw [hR.out, eD, valGo]
        clear eD
        go_wp2_with fail
        go_ret2
        exact ⟨by rw [hfin.out]; rfl, hBw.out⟩
  · have hfin : Hid (r = (0, ch)) := by unfold Hid; rw [← hrv.out, if_neg h0]
    go_wp2_with fail
    go_ret2
    exact ⟨by rw [hfin.out]; rfl, hB3.out⟩
end Go.Proofs.YtnmnknkdnjkpjaaGreatDoor

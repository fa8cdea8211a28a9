/- The second check, and the first that holds. -/
import Derived.Test.YtnmnknkdnjkpjaaGreatDoorVe
namespace Go.Proofs.YtnmnknkdnjkpjaaGreatDoor
open Go Go.RowKit Go.BigFrame Go.Maps

set_option maxRecDepth 100000 in
set_option maxHeartbeats 1600000 in
theorem idxL_any (A : Option Addr) (cp : Nat) (l : List Lt) (ls : List Ln) (m n p : Nat) (w : World) (hA : Hid (RowOf encL 2 w A l)) (hfew : Hid (l.length ≤ 20)) (hls : Hid (∀ x ∈ l, x.good.size ≤ 60)) (hM : Hid (MapS w Tryz.prog 9 m n lnZ (goodS ls))) (hp : Hid (Blk w p 120 #[.map (some m)])) :
    Calls Tryz.prog 102 #[.slice A l.length cp, .func (.func 86) #[] #[pO p]] w fun e w' => e = .returned (.int .i64 (idxOf (lackB ls) l 0)) ∧ Below w.heap.size w w' := by
  obtain ⟨q, hq⟩ : ∃ n, Hid (l.length = n) := ⟨_, rfl⟩
  obtain ⟨r, hr⟩ : ∃ r, Hid (idxOf (lackB ls) l 0 = r) := ⟨_, rfl⟩
  rw [hq.out] at hfew
  rw [hq.out, hr.out]
  have hr0 : Hid (r = idxOf (lackB ls) (l.drop 0) 0) := Lib.hid hr.out.symm
  have hq20 : q ≤ 20 := hfew.out
  go_enter Tryz.func102, Tryz.ntmps102
  go_wp2_with fail
  go_loopw [5, 8] (fun _ i wr => ∃ k : Nat, k ≤ q ∧ i = .int .i64 (k : Int) ∧ Hid (r = idxOf (lackB ls) (l.drop k) k) ∧ Hid (Below w.heap.size w wr)) (fun _ i _ => q - (intOf i).toNat)
  case atStart => exact ⟨0, Nat.zero_le _, rfl, hr0, Below.refl _ _⟩
  case round =>
    obtain ⟨k, hk, rfl, hR, hB⟩ := hrel
    by_cases hlt : k < q
    · obtain ⟨x, hx⟩ : ∃ x, l[k]? = some x := ⟨_, List.getElem?_eq_getElem (by have := hq.out; omega)⟩
      obtain ⟨b, off, hA', hc⟩ := (hA.out.below hB.out) k x hx
      have hxm := Lib.hid (hls.out x (List.mem_of_getElem? hx))
      have hst := Lib.hid (idx_step hR.out hx)
      have hcall := Lib.hid (lot86_any x ls m n p wr (Lib.hid (hM.out.below hB.out)) (Lib.hid (hp.out.below hB.out hp.out.lt)) hxm)
      have hkm : decide (k < q) = true := decide_eq_true hlt
      obtain ⟨gd, ct⟩ := x
      obtain ⟨lb, hlb⟩ : ∃ b, Hid (lackB ls ⟨gd, ct⟩ = b) := ⟨_, rfl⟩
      rw [hlb.out] at hst hcall
      simp only at hcall
      have h0 : wr.cell? ⟨b, off + k * 2, none⟩ = some (.string gd) := hc 0 _ rfl
      have h1 : wr.cell? ⟨b, off + k * 2 + 1, none⟩ = some (.int .i64 ct) := hc 1 _ rfl
      clear hx hc
      rw [hA']
      go_wp2_with fail
      refine hcall.out.mono ?_
      rintro e w1 ⟨rfl, hb1⟩
      have hB1 : Hid (Below w.heap.size w w1) := hB.out.trans (hb1.mono hB.out.size)
      clear hb1
      cases lb with
      | true =>
        go_wp2_with fail
        go_ret
        exact ⟨by rw [hst.out, if_pos (by simp)]; rfl, hB1.out⟩
      | false =>
        have hst' : Hid (r = idxOf (lackB ls) (l.drop (k + 1)) (k + 1)) := by unfold Hid; rw [hst.out, if_neg (by simp)]
        go_wp2_with fail
        go_roundw
        case rel => exact ⟨k + 1, by omega, by go_num, hst', hB1⟩
        case measure => simp [intOf]; omega
    · have hkm : decide (k < q) = false := decide_eq_false hlt
      have hfin := Lib.hid (idx_end hR.out (by have := hq.out; omega))
      go_wp2_with fail
      go_ret
      exact ⟨by rw [hfin.out]; rfl, hB.out⟩

set_option maxRecDepth 100000 in
theorem has2_any (A : Option Addr) (cp : Nat) (l : List Lt) (ls : List Ln) (m n p : Nat) (w : World) (hA : Hid (RowOf encL 2 w A l)) (hfew : Hid (l.length ≤ 20)) (hls : Hid (∀ x ∈ l, x.good.size ≤ 60)) (hM : Hid (MapS w Tryz.prog 9 m n lnZ (goodS ls))) (hp : Hid (Blk w p 120 #[.map (some m)])) :
    Calls Tryz.prog 85 #[.slice A l.length cp, .func (.func 86) #[] #[pO p]] w fun e w' => e = .returned (.bool (l.any (lackB ls))) ∧ Below w.heap.size w w' := by
  have hcall := Lib.hid (idxL_any A cp l ls m n p w hA hfew hls hM hp)
  rw [← idxOf_any (lackB ls) l 0]
  obtain ⟨r, hr⟩ : ∃ r, Hid (idxOf (lackB ls) l 0 = r) := ⟨_, rfl⟩
  obtain ⟨q, hq⟩ : ∃ n, Hid (l.length = n) := ⟨_, rfl⟩
  rw [hr.out, hq.out] at hcall
  rw [hr.out, hq.out]
  go_enter Tryz.func85, Tryz.ntmps85
  go_wp2_with fail
  refine hcall.out.mono ?_
  rintro e w1 ⟨rfl, hb1⟩
  go_wp2_with fail
  go_ret
  exact ⟨rfl, hb1⟩

def lackC (o : Od) (c : Cn) : Bool := c.lots.any (lackB o.lines)

set_option maxRecDepth 100000 in
theorem c84_any (o : Od) (c : Cn) (m n p : Nat) (w : World) (hc : Hid (c.ok w)) (hM : Hid (MapS w Tryz.prog 9 m n lnZ (goodS o.lines))) (hp : Hid (Blk w p 120 #[.map (some m)])) :
    Calls Tryz.prog 84 #[.agg c.cells, pO p] w fun e w' => e = .returned (.bool (lackC o c)) ∧ Below w.heap.size w w' := by
  obtain ⟨V, hV⟩ : ∃ X, Hid (c.cells = X) := ⟨_, rfl⟩
  rw [hV.out]
  obtain ⟨w0, hw0⟩ : ∃ W, Hid (w.alloc (.cells V 59) = W) := ⟨_, rfl⟩
  have hb0 : Hid (Below w.heap.size w w0) := by rw [← hw0.out]; exact (Below.refl _ w).alloc (Nat.le_refl _) _
  have hk0 : Hid (Blk w0 w.heap.size 59 V) := by rw [← hw0.out]; exact Lib.hid (Blk.new _ _ _)
  have hcall := Lib.hid (has2_any c.A c.c c.lots o.lines m n p w0 (Lib.hid (hc.out.at_.below hb0.out)) (Lib.hid hc.out.few) (Lib.hid fun x hx => (hc.out.lots x hx).1) (Lib.hid (hM.out.below hb0.out)) (Lib.hid (hp.out.below hb0.out hp.out.lt)))
  obtain ⟨q, hq⟩ : ∃ n, Hid (c.lots.length = n) := ⟨_, rfl⟩
  have hV3 : Hid (V[3]? = some (.slice c.A q c.c)) := by rw [← hV.out, ← hq.out]; exact Lib.hid rfl
  rw [hq.out] at hcall
  have c3 : w0.cell? ⟨w.heap.size, 3, none⟩ = some (.slice c.A q c.c) := (hk0.out.cell 3).trans hV3.out
  have hlw : w.heap.size < w0.heap.size := hk0.out.lt
  obtain ⟨lb, hlb⟩ : ∃ b, Hid (lackC o c = b) := ⟨_, rfl⟩
  have hla : Hid (c.lots.any (lackB o.lines) = lb) := hlb
  rw [hla.out] at hcall
  rw [hlb.out]
  go_enter Tryz.func84, Tryz.ntmps84
  go_wp2_with (rw [hw0.out])
  refine hcall.out.mono ?_
  rintro e w1 ⟨rfl, hb1⟩
  go_wp2_with fail
  go_ret
  exact ⟨rfl, hb0.out.trans (hb1.mono hb0.out.size)⟩

set_option maxRecDepth 100000 in
set_option maxHeartbeats 1600000 in
theorem idxC2_any (o : Od) (c : Cn) (m n p b : Nat) (w : World) (hc : Hid (c.ok w)) (hM : Hid (MapS w Tryz.prog 9 m n lnZ (goodS o.lines))) (hp : Hid (Blk w p 120 #[.map (some m)])) (hb : Hid (Blk w b 59 c.cells)) :
    Calls Tryz.prog 101 #[.slice (some ⟨b, 0, none⟩) 1 1, .func (.func 84) #[] #[pO p]] w fun e w' => e = .returned (.int .i64 (if lackC o c = true then 0 else -1)) ∧ Below w.heap.size w w' := by
  obtain ⟨fb, hfb⟩ : ∃ x, Hid (lackC o c = x) := ⟨_, rfl⟩
  have hcall := Lib.hid (c84_any o c m n p w hc hM hp)
  obtain ⟨V, hV⟩ : ∃ X, Hid (c.cells = X) := ⟨_, rfl⟩
  rw [hV.out] at hb
  rw [hV.out, hfb.out] at hcall
  rw [hfb.out]
  have hVs : Hid (V.size = 4) := by rw [← hV.out]; exact Lib.hid rfl
  go_enter Tryz.func101, Tryz.ntmps101
  go_wp2_with fail
  go_loopw [5, 8] (fun _ i wr => ∃ k : Nat, k ≤ 1 ∧ i = .int .i64 (k : Int) ∧ (k = 0 → wr = w) ∧ Hid (k = 1 → fb = false) ∧ Hid (Below w.heap.size w wr)) (fun _ i _ => 1 - (intOf i).toNat)
  case atStart => exact ⟨0, Nat.zero_le _, rfl, fun _ => rfl, (fun h => by cases h), Below.refl _ _⟩
  case round =>
    obtain ⟨k, hk, rfl, hw, hf, hB⟩ := hrel
    rcases Nat.eq_zero_or_pos k with rfl | hpos
    · obtain rfl := hw rfl
      clear hf hw
      go_wp2_with (refine wpList_get_blk rfl 59 _ rfl b V 59 _ rfl hb.out Tryz.underlying59 rfl (by rw [hVs.out]; kernel_rfl) ?_)
      refine hcall.out.mono ?_
      rintro e w1 ⟨rfl, hb1⟩
      cases fb with
      | true =>
        go_wp2_with fail
        go_ret
        exact ⟨rfl, hb1⟩
      | false =>
        go_wp2_with fail
        go_roundw
        case rel => exact ⟨1, Nat.le_refl _, by go_num, (fun h => by cases h), (fun _ => by first | trivial | rfl), hb1⟩
        case measure => simp [intOf]
    · obtain rfl : k = 1 := by omega
      obtain rfl := hf.out rfl
      clear hw hf
      go_wp2_with fail
      go_ret
      exact ⟨rfl, hB.out⟩

set_option maxRecDepth 100000 in
theorem hasC2_any (o : Od) (c : Cn) (m n p b : Nat) (w : World) (hc : Hid (c.ok w)) (hM : Hid (MapS w Tryz.prog 9 m n lnZ (goodS o.lines))) (hp : Hid (Blk w p 120 #[.map (some m)])) (hb : Hid (Blk w b 59 c.cells)) :
    Calls Tryz.prog 80 #[.slice (some ⟨b, 0, none⟩) 1 1, .func (.func 84) #[] #[pO p]] w fun e w' => e = .returned (.bool (lackC o c)) ∧ Below w.heap.size w w' := by
  obtain ⟨fb, hfb⟩ : ∃ x, Hid (lackC o c = x) := ⟨_, rfl⟩
  have hcall := Lib.hid (idxC2_any o c m n p b w hc hM hp hb)
  rw [hfb.out] at hcall
  rw [hfb.out]
  go_enter Tryz.func80, Tryz.ntmps80
  go_wp2_with fail
  refine hcall.out.mono ?_
  rintro e w1 ⟨rfl, hb1⟩
  cases fb with
  | true =>
    go_wp2_with fail
    go_ret
    exact ⟨rfl, hb1⟩
  | false =>
    go_wp2_with fail
    go_ret
    exact ⟨rfl, hb1⟩

set_option maxRecDepth 100000 in
theorem checks2_any (o : Od) (c : Cn) (m n p b l : Nat) (w : World) (hc : Hid (c.ok w)) (hM : Hid (MapS w Tryz.prog 9 m n lnZ (goodS o.lines))) (hp : Hid (Blk w p 120 #[.map (some m)])) (hb : Hid (Blk w b 59 c.cells)) (hl : Hid (Blk w l 119 #[.slice (some ⟨b, 0, none⟩) 1 1])) :
    Calls Tryz.prog 83 #[pO l, pO p] w fun e w' => e = .returned (.bool (lackC o c)) ∧ Below w.heap.size w w' := by
  have hcall := Lib.hid (hasC2_any o c m n p b w hc hM hp hb)
  have cl : w.cell? ⟨l, 0, none⟩ = some (.slice (some ⟨b, 0, none⟩) 1 1) := hl.out.cell 0
  have hll : l < w.heap.size := hl.out.lt
  go_enter Tryz.func83, Tryz.ntmps83
  go_wp2_with fail
  refine hcall.out.mono ?_
  rintro e w1 ⟨rfl, hb1⟩
  go_wp2_with fail
  go_ret
  exact ⟨rfl, hb1⟩
end Go.Proofs.YtnmnknkdnjkpjaaGreatDoor

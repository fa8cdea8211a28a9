/- What is asked first of an order and a consignment. -/
import Derived.Test.YtnmnknkdnjkpjaaGreatDoorVc
namespace Go.Proofs.YtnmnknkdnjkpjaaGreatDoor
open Go Go.RowKit Go.BigFrame Go.Maps

/-- The place of the first that holds; -1: there is none. -/
def idxOf {α : Type} (p : α → Bool) : List α → Nat → Int
  | [], _ => -1
  | x :: r, k => if p x = true then (k : Int) else idxOf p r (k + 1)
theorem idxOf_any {α : Type} (p : α → Bool) : ∀ (l : List α) (k : Nat), decide (0 ≤ idxOf p l k) = l.any p
  | [], _ => rfl
  | x :: r, k => by
    rw [idxOf, List.any_cons]
    cases h : p x with
    | true => simp
    | false => rw [if_neg (by simp), idxOf_any p r (k + 1), Bool.false_or]
theorem idx_step {α : Type} {p : α → Bool} {l : List α} {k : Nat} {x : α} {r : Int} (hr : r = idxOf p (l.drop k) k) (hx : l[k]? = some x) : r = if p x = true then (k : Int) else idxOf p (l.drop (k + 1)) (k + 1) := by
  obtain ⟨hk, he⟩ := List.getElem?_eq_some_iff.1 hx
  rw [hr, List.drop_eq_getElem_cons hk, he, idxOf]
theorem idx_end {α : Type} {p : α → Bool} {l : List α} {k : Nat} {r : Int} (hr : r = idxOf p (l.drop k) k) (hk : l.length ≤ k) : r = -1 := by
  rw [hr, List.drop_eq_nil_of_le hk, idxOf]
def lotB (x : Lt) : Bool := markB x.good.data.toList && cntB x.count
def ofB (o : Od) (c : Cn) : Bool := (c.order.toList == o.number.toList) && c.lots.all lotB
theorem lots_step {l : List Lt} {k : Nat} {x : Lt} {r : Bool} (hr : r = (l.drop k).all lotB) (hx : l[k]? = some x) : r = (lotB x && (l.drop (k + 1)).all lotB) := by
  obtain ⟨hk, he⟩ := List.getElem?_eq_some_iff.1 hx
  rw [hr, List.drop_eq_getElem_cons hk, he, List.all_cons]
abbrev pO (g : Nat) : Value := .pointer (some ⟨g, 0, none⟩)

set_option maxRecDepth 100000 in
set_option maxHeartbeats 3200000 in
theorem of_any (o : Od) (c : Cn) (w : World) (_ho : Hid (o.ok w)) (hc : Hid (c.ok w)) :
    Calls Tryz.prog 82 #[.agg o.cells, .agg c.cells] w fun e w' => e = .returned (.bool (ofB o c)) ∧ Below w.heap.size w w' := by
  obtain ⟨D, hD⟩ : ∃ X, Hid (o.cells = X) := ⟨_, rfl⟩
  obtain ⟨V, hV⟩ : ∃ X, Hid (c.cells = X) := ⟨_, rfl⟩
  rw [hD.out, hV.out]
  obtain ⟨n, hn⟩ : ∃ n, Hid (c.lots.length = n) := ⟨_, rfl⟩
  have hn20 : n ≤ 20 := by rw [← hn.out]; exact hc.out.few
  obtain ⟨w0, hw0⟩ : ∃ W, Hid ((w.alloc (.cells D 56)).alloc (.cells V 59) = W) := ⟨_, rfl⟩
  have hb0 : Hid (Below w.heap.size w w0) := by rw [← hw0.out]; exact ((Below.refl _ w).alloc (Nat.le_refl _) _).alloc (by simp) _
  have hk0 : Hid (Blk w0 w.heap.size 56 D) := by rw [← hw0.out]; exact Lib.hid ((Blk.new w 56 _).alloc _)
  have hm0 : Hid (Blk w0 (w.heap.size + 1) 59 V) := by rw [← hw0.out]; exact Lib.hid (blk_second w _ _ _)
  obtain ⟨nb, hnb⟩ : ∃ x, Hid (o.number = x) := ⟨_, rfl⟩
  obtain ⟨od, hod⟩ : ∃ x, Hid (c.order = x) := ⟨_, rfl⟩
  have c0 : w0.cell? ⟨w.heap.size, 0, none⟩ = some (.string nb) := (hk0.out.cell 0).trans (by rw [← hD.out, ← hnb.out]; rfl)
  have d0 : w0.cell? ⟨w.heap.size + 1, 0, none⟩ = some (.string od) := (hm0.out.cell 0).trans (by rw [← hV.out, ← hod.out]; rfl)
  have d3 : w0.cell? ⟨w.heap.size + 1, 3, none⟩ = some (.slice c.A n c.c) := (hm0.out.cell 3).trans (by rw [← hV.out, ← hn.out]; rfl)
  have l0 : w.heap.size < w0.heap.size := hk0.out.lt
  have l1 : w.heap.size + 1 < w0.heap.size := hm0.out.lt
  obtain ⟨qb, hqb⟩ : ∃ x, Hid ((od.toList == nb.toList) = x) := ⟨_, rfl⟩
  have hof : Hid (ofB o c = (qb && c.lots.all lotB)) := by unfold Hid; rw [ofB, hod.out, hnb.out, hqb.out]
  rw [hof.out]
  have hq := hqb.out
  clear hD hV hnb hod hof
  go_enter Tryz.func82, Tryz.ntmps82
  cases qb with
  | false =>
    go_wp2_with (rw [hw0.out])
    go_ret
    exact ⟨rfl, hb0.out⟩
  | true =>
    go_wp2_with (rw [hw0.out])
    clear c0 d0 d3 hq
    go_loopw [15] (fun i wr => ∃ k : Nat, k ≤ n ∧ i = .int .i64 (k : Int) ∧ Hid (c.lots.all lotB = (c.lots.drop k).all lotB) ∧ Hid (Below w0.heap.size w0 wr)) (fun i _ => n - (intOf i).toNat)
    case atStart => exact ⟨0, Nat.zero_le _, rfl, rfl, Below.refl _ _⟩
    case round =>
      obtain ⟨k, hk, rfl, hL, hB⟩ := hrel
      by_cases hlt : k < n
      · obtain ⟨x, hx⟩ : ∃ x, c.lots[k]? = some x := ⟨_, List.getElem?_eq_getElem (by have := hn.out; omega)⟩
        obtain ⟨b, off, hA, hcc⟩ := ((hc.out.at_.below hb0.out).below hB.out) k x hx
        have hxm := hc.out.lots x (List.mem_of_getElem? hx)
        have hst := Lib.hid (lots_step hL.out hx)
        have hkm : decide (k < n) = true := decide_eq_true hlt
        obtain ⟨gd, ct⟩ := x
        simp only [lotB] at hst
        have h0 : wr.cell? ⟨b, off + k * 2, none⟩ = some (.string gd) := hcc 0 _ rfl
        have h1 : wr.cell? ⟨b, off + k * 2 + 1, none⟩ = some (.int .i64 ct) := hcc 1 _ rfl
        have hgs : gd.size ≤ maxLen := by have := hxm.1; unfold maxLen; simp only at this; omega
        obtain ⟨wa, hwa⟩ : ∃ W, Hid (wr.alloc (.cells #[.string gd, .int .i64 ct] 63) = W) := ⟨_, rfl⟩
        have hba : Hid (Blk wa wr.heap.size 63 #[.string gd, .int .i64 ct]) := by rw [← hwa.out]; exact Lib.hid (Blk.new _ _ _)
        have hB1 : Hid (Below w0.heap.size w0 wa) := by rw [← hwa.out]; exact hB.out.alloc hB.out.size _
        have hBf : Hid (Below w.heap.size w wa) := hb0.out.trans (hB1.out.mono hb0.out.size)
        obtain ⟨mb, hmb⟩ : ∃ x, Hid (markB gd.data.toList = x) := ⟨_, rfl⟩
        obtain ⟨nbb, hnbb⟩ : ∃ x, Hid (cntB ct = x) := ⟨_, rfl⟩
        rw [hmb.out, hnbb.out] at hst
        clear hx hcc hxm
        rw [hA]
        go_wp2_with fail
        rw [hwa.out]
        refine (markName_any gd wa hgs).mono ?_
        rintro e w' ⟨rfl, rfl⟩
        rw [hmb.out]
        have a1 : wa.cell? ⟨wr.heap.size, 1, none⟩ = some (.int .i64 ct) := hba.out.cell 1
        have al : wr.heap.size < wa.heap.size := hba.out.lt
        cases mb with
        | false =>
          go_wp2_with fail
          go_ret
          exact ⟨by rw [hst.out]; rfl, hBf.out⟩
        | true =>
        go_wp2_with fail
        refine (countsO_any ct wa).mono ?_
        rintro e w' ⟨rfl, rfl⟩
        rw [hnbb.out]
        cases nbb with
        | false =>
          go_wp2_with fail
          go_ret
          exact ⟨by rw [hst.out]; rfl, hBf.out⟩
        | true =>
        go_wp2_with fail
        go_roundw
        case rel => exact ⟨k + 1, by omega, by go_num, by rw [hst.out]; exact rfl, hB1⟩
        case measure => simp [intOf]; omega
      · have hkm : decide (k < n) = false := decide_eq_false hlt
        have hfin : Hid (c.lots.all lotB = true) := by unfold Hid; rw [hL.out, List.drop_eq_nil_of_le (by have := hn.out; omega)]; rfl
        go_wp2_with fail
        go_ret
        exact ⟨by rw [hfin.out]; rfl, hb0.out.trans (hB.out.mono hb0.out.size)⟩

set_option maxRecDepth 100000 in
theorem c811_any (o : Od) (c : Cn) (g : Nat) (w : World) (ho : Hid (o.ok w)) (hc : Hid (c.ok w)) (hg : Hid (Blk w g 56 o.cells)) :
    Calls Tryz.prog 81 #[.agg c.cells, pO g] w fun e w' => e = .returned (.bool (!ofB o c)) ∧ Below w.heap.size w w' := by
  obtain ⟨D, hD⟩ : ∃ X, Hid (o.cells = X) := ⟨_, rfl⟩
  obtain ⟨V, hV⟩ : ∃ X, Hid (c.cells = X) := ⟨_, rfl⟩
  obtain ⟨w0, hw0⟩ : ∃ W, Hid (w.alloc (.cells V 59) = W) := ⟨_, rfl⟩
  have hb0 : Hid (Below w.heap.size w w0) := by rw [← hw0.out]; exact (Below.refl _ w).alloc (Nat.le_refl _) _
  have hm0 : Hid (Blk w0 w.heap.size 59 V) := by rw [← hw0.out]; exact Lib.hid (Blk.new _ _ _)
  have hk0 := Lib.hid (hg.out.below hb0.out hg.out.lt)
  have hcall := Lib.hid (of_any o c w0 (Lib.hid (ho.out.below hb0.out)) (Lib.hid (hc.out.below hb0.out)))
  rw [hD.out] at hk0
  rw [hD.out, hV.out] at hcall
  rw [hV.out]
  have hDs : Hid (D.size = 8) := by rw [← hD.out]; exact Lib.hid rfl
  have hVs : Hid (V.size = 4) := by rw [← hV.out]; exact Lib.hid rfl
  go_enter Tryz.func81, Tryz.ntmps81
  go_wp2_with (first | (refine wpList_get_blk rfl 56 _ rfl g D 56 _ rfl hk0.out Tryz.underlying56 rfl (by rw [hDs.out]; kernel_rfl) ?_) | (refine wpList_get_blk rfl 59 _ rfl w.heap.size V 59 _ rfl hm0.out Tryz.underlying59 rfl (by rw [hVs.out]; kernel_rfl) ?_) | rw [hw0.out])
  refine hcall.out.mono ?_
  rintro e w1 ⟨rfl, hb1⟩
  go_wp2_with fail
  go_ret
  exact ⟨rfl, hb0.out.trans (hb1.mono hb0.out.size)⟩

set_option maxRecDepth 100000 in
set_option maxHeartbeats 1600000 in
theorem idxC_any (o : Od) (c : Cn) (g b : Nat) (w : World) (ho : Hid (o.ok w)) (hc : Hid (c.ok w)) (hg : Hid (Blk w g 56 o.cells)) (hb : Hid (Blk w b 59 c.cells)) :
    Calls Tryz.prog 101 #[.slice (some ⟨b, 0, none⟩) 1 1, .func (.func 81) #[] #[pO g]] w fun e w' => e = .returned (.int .i64 (if ofB o c = true then -1 else 0)) ∧ Below w.heap.size w w' := by
  obtain ⟨fb, hfb⟩ : ∃ x, Hid (ofB o c = x) := ⟨_, rfl⟩
  have hcall := Lib.hid (c811_any o c g w ho hc hg)
  obtain ⟨V, hV⟩ : ∃ X, Hid (c.cells = X) := ⟨_, rfl⟩
  rw [hV.out] at hb
  rw [hV.out, hfb.out] at hcall
  rw [hfb.out]
  have hVs : Hid (V.size = 4) := by rw [← hV.out]; exact Lib.hid rfl
  go_enter Tryz.func101, Tryz.ntmps101
  go_wp2_with fail
  go_loopw [5, 8] (fun _ i wr => ∃ k : Nat, k ≤ 1 ∧ i = .int .i64 (k : Int) ∧ (k = 0 → wr = w) ∧ Hid (k = 1 → fb = true) ∧ Hid (Below w.heap.size w wr)) (fun _ i _ => 1 - (intOf i).toNat)
  case atStart => exact ⟨0, Nat.zero_le _, rfl, fun _ => rfl, (fun h => by cases h), Below.refl _ _⟩
  case round =>
    obtain ⟨k, hk, rfl, hw, hf, hB⟩ := hrel
    rcases Nat.eq_zero_or_pos k with rfl | hp
    · obtain rfl := hw rfl
      clear hf hw
      go_wp2_with (refine wpList_get_blk rfl 59 _ rfl b V 59 _ rfl hb.out Tryz.underlying59 rfl (by rw [hVs.out]; kernel_rfl) ?_)
      refine hcall.out.mono ?_
      rintro e w1 ⟨rfl, hb1⟩
      cases fb with
      | true =>
        go_wp2_with fail
        go_roundw
        case rel => exact ⟨1, Nat.le_refl _, by go_num, (fun h => by cases h), (fun _ => by first | trivial | rfl), hb1⟩
        case measure => simp [intOf]
      | false =>
        go_wp2_with fail
        go_ret
        exact ⟨rfl, hb1⟩
    · obtain rfl : k = 1 := by omega
      obtain rfl := hf.out rfl
      clear hw hf
      go_wp2_with fail
      go_ret
      exact ⟨rfl, hB.out⟩
end Go.Proofs.YtnmnknkdnjkpjaaGreatDoor

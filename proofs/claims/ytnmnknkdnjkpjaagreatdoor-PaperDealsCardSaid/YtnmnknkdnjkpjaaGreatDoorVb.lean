/- Orders and consignments in memory; the lines by their goods. -/
import Derived.Test.YtnmnknkdnjkpjaaGreatDoorMv
import Derived.Test.YtnmnknkdnjkpjaaGreatDoorVa
import Derived.Test.YtnmnknkdnjkpjaaGreatDoorVy
namespace Go.Proofs.YtnmnknkdnjkpjaaGreatDoor
open Go Go.RowKit Go.BigFrame Go.Maps

/-- A line of an order. -/
structure Ln where
  good : ByteArray
  count : Int
  price : Int
def encLn (x : Ln) : List Value := [.string x.good, .int .i64 x.count, .int .i64 x.price]
theorem encLn_len (x : Ln) : (encLn x).length = 3 := rfl
abbrev lnV (x : Ln) : Value := .agg #[.string x.good, .int .i64 x.count, .int .i64 x.price]
abbrev lnZ : Value := .agg #[.string ⟨#[]⟩, .int .i64 0, .int .i64 0]
/-- An order, a consignment. -/
structure Od where
  number : ByteArray
  seller : ByteArray
  buyer : ByteArray
  currency : ByteArray
  frm : ByteArray
  toP : ByteArray
  term : Int
  A : Option Addr
  c : Nat
  lines : List Ln
def Od.cells (o : Od) : Array Value := #[.string o.number, .string o.seller, .string o.buyer, .string o.currency, .string o.frm, .string o.toP, .int .i64 o.term, .slice o.A o.lines.length o.c]
structure Cn where
  order : ByteArray
  number : Int
  latest : Int
  A : Option Addr
  c : Nat
  lots : List Lt
def Cn.cells (o : Cn) : Array Value := #[.string o.order, .int .i64 o.number, .int .i64 o.latest, .slice o.A o.lots.length o.c]
structure Od.ok (w : World) (o : Od) : Prop where
  number : o.number.size ≤ 1000
  seller : o.seller.size ≤ 1000
  buyer : o.buyer.size ≤ 1000
  currency : o.currency.size ≤ 1000
  frm : o.frm.size ≤ 1000
  toP : o.toP.size ≤ 1000
  term : i64 o.term
  at_ : RowOf encLn 3 w o.A o.lines
  few : o.lines.length ≤ 20
  cap : o.lines.length ≤ o.c
  lines : ∀ x ∈ o.lines, x.good.size ≤ 60 ∧ i64 x.count ∧ i64 x.price
structure Cn.ok (w : World) (o : Cn) : Prop where
  order : o.order.size ≤ 1000
  number : i64 o.number
  latest : i64 o.latest
  at_ : RowOf encL 2 w o.A o.lots
  few : o.lots.length ≤ 20
  cap : o.lots.length ≤ o.c
  lots : ∀ x ∈ o.lots, x.good.size ≤ 60 ∧ i64 x.count
theorem Od.ok.below {w w' : World} {o : Od} (h : o.ok w) (hb : Below w.heap.size w w') : o.ok w' := { h with at_ := h.at_.below hb }
theorem Cn.ok.below {w w' : World} {o : Cn} (h : o.ok w) (hb : Below w.heap.size w w') : o.ok w' := { h with at_ := h.at_.below hb }

/-- The lines by their goods. -/
def goodS (l : List Ln) : List UInt8 → Option Value := l.foldl (fun S x => putS S x.good.data.toList (lnV x)) (fun _ => none)
theorem goodS_snoc {l : List Ln} {k : Nat} {x : Ln} (h : l[k]? = some x) : goodS (l.take (k + 1)) = putS (goodS (l.take k)) x.good.data.toList (lnV x) := by
  unfold goodS
  rw [List.take_add_one, h]
  simp [List.foldl_append]
set_option maxRecDepth 100000 in
set_option maxHeartbeats 1600000 in
theorem byGood_any (o : Od) (w : World) (ho : Hid (o.ok w)) :
    Calls Tryz.prog 66 #[.agg o.cells] w fun e w' => ∃ b n, e = .returned (.map (some b)) ∧ w.heap.size ≤ b ∧ MapS w' Tryz.prog 9 b n lnZ (goodS o.lines) ∧ Below w.heap.size w w' := by
  obtain ⟨D, hD⟩ : ∃ X, Hid (o.cells = X) := ⟨_, rfl⟩
  rw [hD.out]
  have hD7 : Hid (D[7]? = some (.slice o.A o.lines.length o.c)) := by rw [← hD.out]; exact Lib.hid rfl
  obtain ⟨n, hn⟩ : ∃ n, Hid (o.lines.length = n) := ⟨_, rfl⟩
  rw [hn.out] at hD7
  have hn20 : n ≤ 20 := by rw [← hn.out]; exact ho.out.few
  obtain ⟨w0, hw0⟩ : ∃ W, Hid (w.alloc (.cells D 56) = W) := ⟨_, rfl⟩
  have hb0 : Hid (Below w.heap.size w w0) := by rw [← hw0.out]; exact (Below.refl _ w).alloc (Nat.le_refl _) _
  have hk0 : Hid (Blk w0 w.heap.size 56 D) := by rw [← hw0.out]; exact Lib.hid (Blk.new w 56 _)
  have c7 : w0.cell? ⟨w.heap.size, 7, none⟩ = some (.slice o.A n o.c) := (hk0.out.cell 7).trans hD7.out
  have hlt0 : w.heap.size < w0.heap.size := hk0.out.lt
  have hm0 : Hid (MapS (w0.alloc (.map #[] 0)) Tryz.prog 9 w0.heap.size 0 lnZ (goodS [])) := Lib.hid (MapS.made _ _ _ _)
  have hbm : Hid (Below w0.heap.size w0 (w0.alloc (.map #[] 0))) := (Below.refl _ _).alloc (Nat.le_refl _) _
  have hmm := fun (n : Int) (W : World) => run_make_hint (P := Tryz.prog) Tryz.underlying120 n W
  go_enter Tryz.func66, Tryz.ntmps66
  go_wp2_with (rw [hw0.out])
  clear hmm
  go_loopw [13] (fun i wr => ∃ k : Nat, k ≤ n ∧ i = .int .i64 (k : Int) ∧ Hid (MapS wr Tryz.prog 9 w0.heap.size k lnZ (goodS (o.lines.take k))) ∧ Hid (Below w0.heap.size w0 wr)) (fun i _ => n - (intOf i).toNat)
  case atStart => exact ⟨0, Nat.zero_le _, rfl, hm0, hbm⟩
  case round =>
    obtain ⟨k, hk, rfl, hM, hB⟩ := hrel
    by_cases hlt : k < n
    · obtain ⟨x, hx⟩ : ∃ x, o.lines[k]? = some x := ⟨_, List.getElem?_eq_getElem (by have := hn.out; omega)⟩
      obtain ⟨b, off, hA, hc⟩ := ((ho.out.at_.below hb0.out).below hB.out) k x hx
      have hxm := ho.out.lines x (List.mem_of_getElem? hx)
      have hsn := Lib.hid (goodS_snoc hx)
      have hkm : decide (k < n) = true := decide_eq_true hlt
      obtain ⟨gd, ct, pr⟩ := x
      have h0 : wr.cell? ⟨b, off + k * 3, none⟩ = some (.string gd) := hc 0 _ rfl
      have h1 : wr.cell? ⟨b, off + k * 3 + 1, none⟩ = some (.int .i64 ct) := hc 1 _ rfl
      have h2 : wr.cell? ⟨b, off + k * 3 + 2, none⟩ = some (.int .i64 pr) := hc 2 _ rfl
      have hgs : Hid (gd.size ≤ maxLen) := by have := hxm.1; unfold Hid maxLen; simp only at this; omega
      have hM1 := Lib.hid (hM.out.alloc (.cells #[.string gd, .int .i64 ct, .int .i64 pr] 61))
      have hB1 : Hid (Below w0.heap.size w0 (wr.alloc (.cells #[.string gd, .int .i64 ct, .int .i64 pr] 61))) := hB.out.alloc hB.out.size _
      have hkl : Hid (k < maxLen) := by unfold Hid maxLen; omega
      clear hx hc hxm
      rw [hA]
      go_wp2_with (at_mapUpdate; go_must (refine wpList_puts _ rfl _ _ _ 120 rfl Tryz.underlying9 Tryz.underlying120 w0.heap.size k rfl hM1.out hkl.out gd (lnV ⟨gd, ct, pr⟩) hgs.out rfl rfl ?_); intro w5 hM5 hg5)
      have hM5' : Hid (MapS w5 Tryz.prog 9 w0.heap.size (k + 1) lnZ (goodS (o.lines.take (k + 1)))) := by rw [hsn.out]; exact Lib.hid hM5
      have hB5 : Hid (Below w0.heap.size w0 w5) := hB1.out.grown hg5 hB1.out.size (fun i hi => by cases hi; exact Nat.le_refl _)
      clear hM5 hg5
      go_roundw
      case rel => exact ⟨k + 1, by omega, by go_num, hM5', hB5⟩
      case measure => simp [intOf]; omega
    · have e : k = n := by omega
      have hkm : decide (k < n) = false := decide_eq_false hlt
      have eT : o.lines.take k = o.lines := List.take_of_length_le (by have := hn.out; omega)
      rw [eT] at hM
      clear eT
      go_wp2_with fail
      go_ret
      exact ⟨_, k, rfl, hb0.out.size, hM.out, hb0.out.trans (hB.out.mono hb0.out.size)⟩
end Go.Proofs.YtnmnknkdnjkpjaaGreatDoor

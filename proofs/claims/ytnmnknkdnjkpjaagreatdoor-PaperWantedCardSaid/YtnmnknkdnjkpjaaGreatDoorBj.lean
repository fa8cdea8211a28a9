/- A bill; the law's few: a bill that it lets through is short. -/
import Derived.Test.YtnmnknkdnjkpjaaGreatDoorC
import Derived.Test.YtnmnknkdnjkpjaaGreatDoorRf
namespace Go.Proofs.YtnmnknkdnjkpjaaGreatDoor
open Go Go.RowKit Go.BigFrame Go.Maps

/-- A bill, but for whether it is clean. -/
structure Bl where
  number : ByteArray
  carrier : ByteArray
  shipper : ByteArray
  frm : ByteArray
  toP : ByteArray
  bA : Option Addr
  bc : Nat
  boxes : List ByteArray
  pA : Option Addr
  pc : Nat
  parents : List ByteArray
  issued : Int
def Bl.cells (b : Bl) (cl : Bool) : Array Value := #[.string b.number, .string b.carrier, .string b.shipper, .string b.frm, .string b.toP, .slice b.bA b.boxes.length b.bc, .slice b.pA b.parents.length b.pc, .int .i64 b.issued, .bool cl]
structure Bl.wide (w : World) (b : Bl) : Prop where
  number : b.number.size ≤ 140737488351232
  carrier : b.carrier.size ≤ 140737488351232
  shipper : b.shipper.size ≤ 140737488351232
  frm : b.frm.size ≤ 140737488351232
  toP : b.toP.size ≤ 140737488351232
  boxes : StrsAt w b.bA b.boxes
  parents : StrsAt w b.pA b.parents
  bn : b.boxes.length ≤ maxLen
  pn : b.parents.length ≤ maxLen
  bcap : b.boxes.length ≤ b.bc
  pcap : b.parents.length ≤ b.pc
  bs : ∀ s ∈ b.boxes, s.size ≤ 140737488351232
  ps : ∀ s ∈ b.parents, s.size ≤ 140737488351232
  issued : i64 b.issued
structure Bl.ok (w : World) (b : Bl) : Prop where
  number : b.number.size ≤ 3000
  carrier : b.carrier.size ≤ 3000
  shipper : b.shipper.size ≤ 3000
  frm : b.frm.size ≤ 3000
  toP : b.toP.size ≤ 3000
  boxes : StrsAt w b.bA b.boxes
  parents : StrsAt w b.pA b.parents
  bn : b.boxes.length ≤ 60
  pn : b.parents.length ≤ 60
  bcap : b.boxes.length ≤ b.bc
  pcap : b.parents.length ≤ b.pc
  bs : ∀ s ∈ b.boxes, s.size ≤ 3000
  ps : ∀ s ∈ b.parents, s.size ≤ 3000
  issued : i64 b.issued
theorem StrsAt.below {w w' : World} {A : Option Addr} {l : List ByteArray} (h : StrsAt w A l) (hb : Below w.heap.size w w') : StrsAt w' A l := by
  intro k t hk
  obtain ⟨b, off, e, h0⟩ := h k t hk
  exact ⟨b, off, e, by rw [hb.cell (World.block_lt_of_cell? w _ h0)]; exact h0⟩
theorem Bl.wide.below {w w' : World} {b : Bl} (h : b.wide w) (hb : Below w.heap.size w w') : b.wide w' := { h with boxes := h.boxes.below hb, parents := h.parents.below hb }
theorem Bl.ok.below {w w' : World} {b : Bl} (h : b.ok w) (hb : Below w.heap.size w w') : b.ok w' := { h with boxes := h.boxes.below hb, parents := h.parents.below hb }

set_option maxRecDepth 100000 in
set_option maxHeartbeats 3200000 in
theorem few_any (b : Bl) (cl : Bool) (w : World) (hd : Hid (b.wide w)) :
    Calls Tryz.prog 19 #[.agg (b.cells cl)] w fun e w' => ∃ r, e = .returned (.bool r) ∧ Below w.heap.size w w' ∧ (r = true → b.ok w) := by
  obtain ⟨D, hD⟩ : ∃ X, Hid (b.cells cl = X) := ⟨_, rfl⟩
  rw [hD.out]
  obtain ⟨w1, hw1⟩ : ∃ W, Hid (w.alloc (.cells D 40) = W) := ⟨_, rfl⟩
  have hb1 : Hid (Below w.heap.size w w1) := by rw [← hw1.out]; exact (Below.refl _ w).alloc (Nat.le_refl _) _
  have hk1 : Blk w1 w.heap.size 40 D := by rw [← hw1.out]; exact Blk.new _ _ _
  rw [← hD.out] at hk1
  have c0 : w1.cell? ⟨w.heap.size, 0, none⟩ = some (.string b.number) := hk1.cell 0
  have c1 : w1.cell? ⟨w.heap.size, 1, none⟩ = some (.string b.carrier) := hk1.cell 1
  have c2 : w1.cell? ⟨w.heap.size, 2, none⟩ = some (.string b.shipper) := hk1.cell 2
  have c3 : w1.cell? ⟨w.heap.size, 3, none⟩ = some (.string b.frm) := hk1.cell 3
  have c4 : w1.cell? ⟨w.heap.size, 4, none⟩ = some (.string b.toP) := hk1.cell 4
  have c5 : w1.cell? ⟨w.heap.size, 5, none⟩ = some (.slice b.bA b.boxes.length b.bc) := hk1.cell 5
  have c6 : w1.cell? ⟨w.heap.size, 6, none⟩ = some (.slice b.pA b.parents.length b.pc) := hk1.cell 6
  clear hk1
  obtain ⟨w2, hw2⟩ : ∃ W, Hid (w1.alloc (.cells #[.slice b.bA b.boxes.length b.bc, .slice b.pA b.parents.length b.pc] 38) = W) := ⟨_, rfl⟩
  have hb2 : Hid (Below w1.heap.size w1 w2) := by rw [← hw2.out]; exact (Below.refl _ w1).alloc (Nat.le_refl _) _
  have hk2 : Hid (Blk w2 w1.heap.size 38 #[.slice b.bA b.boxes.length b.bc, .slice b.pA b.parents.length b.pc]) := by rw [← hw2.out]; exact Blk.new _ _ _
  have hB2 : Hid (Below w.heap.size w w2) := hb1.out.trans (hb2.out.mono hb1.out.size)
  have hat := Lib.hid (hd.out.below hB2.out)
  obtain ⟨num, car, shp, frm, toP, bA, bc, bl, pA, pc, pl, iss⟩ := b
  simp only at c0 c1 c2 c3 c4 c5 c6 hk2 hw2
  have g0 := hd.out.number
  have g1 := hd.out.carrier
  have g2 := hd.out.shipper
  have g3 := hd.out.frm
  have g4 := hd.out.toP
  simp only at g0 g1 g2 g3 g4
  obtain ⟨base, hbase⟩ : ∃ b : Int, Hid ((num.size : Int) + car.size + shp.size + frm.size + toP.size = b) := ⟨_, rfl⟩
  have s1 : IntKind.i64.wrap ((num.size : Int) + car.size) = (num.size : Int) + car.size := IntWalk.i64_in _ (by omega)
  have s2 : IntKind.i64.wrap ((num.size : Int) + car.size + shp.size) = (num.size : Int) + car.size + shp.size := IntWalk.i64_in _ (by omega)
  have s3 : IntKind.i64.wrap ((num.size : Int) + car.size + shp.size + frm.size) = (num.size : Int) + car.size + shp.size + frm.size := IntWalk.i64_in _ (by omega)
  have s4 : IntKind.i64.wrap ((num.size : Int) + car.size + shp.size + frm.size + toP.size) = base := by rw [hbase.out]; exact IntWalk.i64_in _ (by have := hbase.out; omega)
  have hbb : Hid (0 ≤ base ∧ base ≤ 800000000000000) := by have := hbase.out; unfold Hid; omega
  have hbs : Hid (base ≤ 3000 → num.size ≤ 3000 ∧ car.size ≤ 3000 ∧ shp.size ≤ 3000 ∧ frm.size ≤ 3000 ∧ toP.size ≤ 3000) := by have := hbase.out; unfold Hid; omega
  clear g0 g1 g2 g3 g4
  go_enter Tryz.func19, Tryz.ntmps19
  go_wp2_with (first | rw [hw1.out] | rw [hw2.out])
  clear s1 s2 s3 s4 c0 c1 c2 c3 c4 c5 c6
  go_loopw [3, 33] (fun v i wr => ∃ (k : Nat) (m : Int), k ≤ 2 ∧ i = .int .i64 (k : Int) ∧ v = .int .i64 m ∧ Hid (base ≤ m ∧ m ≤ 800000000000000 + (k : Int) * 8584986789425152) ∧ Hid (1 ≤ k → bl.length ≤ 60 ∧ ∀ s ∈ bl, base + s.size ≤ m) ∧ Hid (2 ≤ k → pl.length ≤ 60 ∧ ∀ s ∈ pl, base + s.size ≤ m) ∧ Hid (Below w2.heap.size w2 wr)) (fun _ i _ => 2 - (intOf i).toNat)
  case atStart => exact ⟨0, base, by omega, rfl, rfl, ⟨Int.le_refl _, by have := hbb.out.2; omega⟩, fun h => by omega, fun h => by omega, Below.refl _ _⟩
  case round =>
    obtain ⟨k, m, hk, rfl, rfl, hm, hx, hy, hB⟩ := hrel
    obtain ⟨wo, hwo⟩ : ∃ x, x = wr := ⟨_, rfl⟩
    subst hwo
    by_cases hlt : k < 2
    · obtain ⟨A, c, l, h0, hS, hlm, hls, hlast⟩ : ∃ (A : Option Addr) (c : Nat) (l : List ByteArray), wo.cell? ⟨w1.heap.size, k, none⟩ = some (.slice A l.length c) ∧ Hid (StrsAt wo A l) ∧ l.length ≤ maxLen ∧ Hid (∀ s ∈ l, s.size ≤ 140737488351232) ∧ Hid ((k = 0 → l = bl) ∧ (k = 1 → l = pl)) := by
        have hko := hk2.out.below hB.out hk2.out.lt
        have ha := hat.out.below hB.out
        rcases (by omega : k = 0 ∨ k = 1) with h | h
        · rw [h]
          refine ⟨bA, bc, bl, hko.cell 0, ha.boxes, ha.bn, ha.bs, fun _ => rfl, fun h => ?_⟩
          omega
        · rw [h]
          refine ⟨pA, pc, pl, hko.cell 1, ha.parents, ha.pn, ha.ps, fun h => ?_, fun _ => rfl⟩
          omega
      obtain ⟨L, hL⟩ : ∃ n, Hid (l.length = n) := ⟨_, rfl⟩
      rw [hL.out] at h0 hlm
      unfold maxLen at hlm
      have hm1 := hm.out
      have hb3 := hbb.out
      go_wp2_with fail
      go_loopw [3, 39] (fun v i ws => ∃ (j : Nat) (p : Int), j ≤ L ∧ i = .int .i64 (j : Int) ∧ v = .int .i64 p ∧ Hid (j ≤ 60 → m ≤ p ∧ p ≤ m + (j : Int) * 140737488351232 ∧ ∀ y ∈ l.take j, m + y.size ≤ p) ∧ Hid (Below wo.heap.size wo ws)) (fun _ i _ => L - (intOf i).toNat)
      case atStart => exact ⟨0, m, Nat.zero_le _, rfl, rfl, by intro _; exact ⟨Int.le_refl _, by omega, by intro y hy; simp at hy⟩, Below.refl _ _⟩
      case round =>
        obtain ⟨j, p, hj, rfl, rfl, hp, hBs⟩ := hrel
        by_cases hjl : j < L
        · obtain ⟨y, hy⟩ : ∃ y, l[j]? = some y := ⟨_, List.getElem?_eq_getElem (by have := hL.out; omega)⟩
          obtain ⟨b', off', rfl, y0⟩ := (hS.out.below hBs.out) j y hy
          have hyg := hls.out y (List.mem_of_getElem? hy)
          have htj : Hid (∀ z ∈ l.take (j + 1), z ∈ l.take j ∨ z = y) := by
            intro z hz
            rw [List.take_add_one, hy] at hz
            simpa using hz
          clear hy
          go_wp2_with fail
          go_roundw
          case rel =>
            refine ⟨j + 1, _, by omega, by go_num, rfl, fun h30 => ?_, hBs⟩
            obtain ⟨q1, q2, q3⟩ := hp.out (by omega)
            have e : wrap64 (p + (y.size : Int)) = p + y.size := by unfold wrap64; omega
            rw [e]
            refine ⟨by omega, by push_cast; omega, fun z hz => ?_⟩
            rcases htj.out z hz with h | rfl
            · have := q3 z h; omega
            · omega
          case measure => simp [intOf]; omega
        · have e : j = L := by omega
          have hB9 : Hid (Below w2.heap.size w2 wr) := hB.out.trans (hBs.out.mono hB.out.size)
          by_cases hL30 : (60 : Int) < (L : Int)
          · have d2 : decide ((60 : Int) < (L : Int)) = true := decide_eq_true hL30
            go_wp2_with fail
            go_ret
            first | exact .inl ⟨rfl, hB2.out.trans (hB9.out.mono hB2.out.size)⟩ | exact ⟨false, rfl, hB2.out.trans (hB9.out.mono hB2.out.size), fun h => by cases h⟩
          · have d2 : decide ((60 : Int) < (L : Int)) = false := decide_eq_false hL30
            go_wp2_with fail
            go_roundw
            case rel =>
              obtain ⟨q1, q2, q3⟩ := hp.out (by omega)
              rw [e, List.take_of_length_le (by have := hL.out; omega)] at q3
              refine ⟨k + 1, p, by omega, by go_num, rfl, ⟨by omega, by push_cast; omega⟩, fun h1 => ?_, fun h1 => ?_, hB9⟩
              · by_cases h : k = 0
                · have := hlast.out.1 h
                  rw [← this]
                  exact ⟨by have := hL.out; omega, fun s hs => by have := q3 s hs; omega⟩
                · obtain ⟨z1, z2⟩ := hx.out (by omega)
                  exact ⟨z1, fun s hs => by have := z2 s hs; omega⟩
              · have := hlast.out.2 (by omega)
                rw [← this]
                exact ⟨by have := hL.out; omega, fun s hs => by have := q3 s hs; omega⟩
            case measure => simp [intOf]; omega
    · have e : k = 2 := by omega
      obtain ⟨z1, z2⟩ := hx.out (by omega)
      obtain ⟨z3, z4⟩ := hy.out (by omega)
      by_cases hbig : m ≤ (3000 : Int)
      · have d1 : decide (m ≤ (3000 : Int)) = true := decide_eq_true hbig
        have hok : Bl.ok w ⟨num, car, shp, frm, toP, bA, bc, bl, pA, pc, pl, iss⟩ := by
          have hm1 := hm.out
          have hb3 := hbb.out
          obtain ⟨y0, y1, y2, y3, y4⟩ := hbs.out (by omega)
          exact ⟨y0, y1, y2, y3, y4, hd.out.boxes, hd.out.parents, z1, z3, hd.out.bcap, hd.out.pcap, fun s hs => by have := z2 s hs; omega, fun s hs => by have := z4 s hs; omega, hd.out.issued⟩
        have hok' := Lib.hid hok
        clear hok z1 z2 z3 z4
        go_wp2_with fail
        go_ret
        first | exact .inr ⟨rfl, hB2.out.trans (hB.out.mono hB2.out.size), hok'.out⟩ | exact ⟨true, rfl, hB2.out.trans (hB.out.mono hB2.out.size), fun _ => hok'.out⟩
      · have d1 : decide (m ≤ (3000 : Int)) = false := decide_eq_false hbig
        clear z1 z2 z3 z4
        go_wp2_with fail
        go_ret
        first | exact .inl ⟨rfl, hB2.out.trans (hB.out.mono hB2.out.size)⟩ | exact ⟨false, rfl, hB2.out.trans (hB.out.mono hB2.out.size), fun h => by cases h⟩
end Go.Proofs.YtnmnknkdnjkpjaaGreatDoor

namespace Go.Proofs.YtnmnknkdnjkpjaaGreatDoor
open Go Go.RowKit Go.BigFrame Go.Maps

def joinT (l : List ByteArray) : List UInt8 := Lib.join (l.map fun x => x.data.toList) [44]
theorem joinT_len {l : List ByteArray} (hn : l.length ≤ 60) (h : ∀ x ∈ l, x.size ≤ 3000) : (joinT l).length ≤ 1000000 := by
  have := join_len [44] 3000 (l.map fun x => x.data.toList) (fun x hx => by
    obtain ⟨y, hy, rfl⟩ := List.mem_map.1 hx
    have e1 : y.data.toList.length = y.size := Array.length_toList
    have := h y hy
    omega)
  simp only [List.length_map, List.length_cons, List.length_nil] at this
  unfold joinT
  have h2 := Nat.mul_le_mul_right (3000 + 1) hn
  omega
theorem map_mkB (l : List ByteArray) : (l.map fun x => x.data.toList).map mkB = l := by
  rw [List.map_map]
  have : (mkB ∘ fun (x : ByteArray) => x.data.toList) = id := by funext x; exact ByteArray.ext (by simp [mkB])
  rw [this]; simp
theorem joinB_any (A : Option Addr) (n c : Nat) (l : List ByteArray) (w : World) (hn : n ≤ 60) (hl : Hid (l.length = n)) (hs : Hid (∀ x ∈ l, x.size ≤ 3000)) (hA : Hid (StrsAt w A l)) (hc : n ≤ c) :
    Calls Tryz.prog 70 #[.slice A n c, .string ⟨#[44]⟩] w fun e w' => e = .returned (.string (mkB (joinT l))) ∧ Below w.heap.size w w' :=
  show Calls Tryz.prog 70 _ w fun e w' => e = .returned (.string (mkB (Lib.join (l.map fun x => x.data.toList) [44]))) ∧ _ from
  join_any A n c (l.map fun x => x.data.toList) w (by simpa using hl.out) (by rw [map_mkB]; exact hA.out) hc (by omega) (by have := joinT_len (by have := hl.out; omega) hs.out; unfold joinT at this; omega)
theorem rjoinB_any (A : Option Addr) (n c : Nat) (l : List ByteArray) (w : World) (hn : n ≤ 60) (hl : Hid (l.length = n)) (hs : Hid (∀ x ∈ l, x.size ≤ 3000)) (hA : Hid (StrsAt w A l)) :
    Calls Tryz.prog 38 #[.slice A n c] w fun e w' => e = .returned (.string (mkB (joinT l))) ∧ Below w.heap.size w w' := by
  refine rjoin_any A n c (l.map fun x => x.data.toList) w (by have := hl.out; unfold Hid; simpa using this) (by rw [map_mkB]; exact hA) (by omega) (fun k => ?_)
  rw [← List.map_take]
  exact joinT_len (by have := hl.out; simp; omega) (fun x hx => hs.out x (List.mem_of_mem_take hx))
def clT : Bool → ByteArray
  | true => mkB [121, 101, 115]
  | false => mkB [110, 111]
def ladingL (b : Bl) (cl : Bool) : List Fld := [⟨mkB [99, 97, 114, 114, 105, 101, 114], b.carrier⟩, ⟨mkB [115, 104, 105, 112, 112, 101, 114], b.shipper⟩, ⟨mkB [102, 114, 111, 109], b.frm⟩, ⟨mkB [116, 111], b.toP⟩, ⟨mkB [98, 111, 120, 101, 115], mkB (Lib.itoa b.boxes.length)⟩, ⟨mkB [109, 97, 114, 107, 115], mkB (joinT b.boxes)⟩, ⟨mkB [105, 115, 115, 117, 101, 100], mkB (Lib.itoa b.issued)⟩, ⟨mkB [99, 108, 101, 97, 110], clT cl⟩, ⟨mkB [112, 97, 114, 101, 110, 116, 115], mkB (joinT b.parents)⟩]
end Go.Proofs.YtnmnknkdnjkpjaaGreatDoor

/- Small functions of papers: digits, count; deals in memory. -/
import Derived.Test.YtnmnknkdnjkpjaaGreatDoorU
import Derived.Test.YtnmnknkdnjkpjaaGreatDoorB
namespace Go.Proofs.YtnmnknkdnjkpjaaGreatDoor
open Go Go.RowKit Go.BigFrame Go.Maps

set_option maxRecDepth 100000 in
theorem pdigits_any (n : Int) (w : World) (h0 : -9223372036854775808 ≤ n) (h1 : n ≤ 9223372036854775807) (he : Env w) :
    Calls Tryz.prog 33 #[.int .i64 n] w fun e w' => e = .returned (.string (mkB (Lib.itoa n))) ∧ Below w.heap.size w w' := by
  have he' := Lib.hid he
  have h' := Lib.hid (And.intro h0 h1)
  clear he h0 h1
  go_enter Tryz.func33, Tryz.ntmps33
  go_wp2_with fail
  refine (format_any n w h'.out.1 h'.out.2 he'.out).mono ?_
  rintro e w' ⟨rfl, hb⟩
  go_wp2_with fail
  go_ret
  exact ⟨rfl, hb⟩
set_option maxRecDepth 100000 in
theorem pcount_any (n : Int) (w : World) (h0 : -9223372036854775808 ≤ n) (h1 : n ≤ 9223372036854775807) (he : Env w) :
    Calls Tryz.prog 34 #[.int .i64 n] w fun e w' => e = .returned (.string (mkB (Lib.itoa n))) ∧ Below w.heap.size w w' := by
  have he' := Lib.hid he
  have h' := Lib.hid (And.intro h0 h1)
  clear he h0 h1
  go_enter Tryz.func34, Tryz.ntmps34
  go_wp2_with fail
  refine (itoa_any n w h'.out.1 h'.out.2 he'.out).mono ?_
  rintro e w' ⟨rfl, hb⟩
  go_wp2_with fail
  go_ret
  exact ⟨rfl, hb⟩

/-- A lot, a box. -/
structure Lt where
  good : ByteArray
  count : Int
def encL (x : Lt) : List Value := [.string x.good, .int .i64 x.count]
structure Bx where
  mark : ByteArray
  kind : Int
  A : Option Addr
  c : Nat
  lots : List Lt
def encB (x : Bx) : List Value := [.string x.mark, .int .i64 x.kind, .slice x.A x.lots.length x.c]
abbrev i64 (n : Int) : Prop := -9223372036854775808 ≤ n ∧ n ≤ 9223372036854775807
/-- Boxes in memory. -/
def BoxesAt (w : World) (A : Option Addr) (l : List Bx) : Prop := RowOf encB 3 w A l ∧ ∀ x ∈ l, RowOf encL 2 w x.A x.lots ∧ i64 x.kind ∧ x.lots.length ≤ x.c ∧ x.c ≤ maxLen ∧ ∀ y ∈ x.lots, i64 y.count
theorem BoxesAt.below {w w' : World} {A : Option Addr} {l : List Bx} (h : BoxesAt w A l) (hb : Below w.heap.size w w') : BoxesAt w' A l :=
  ⟨h.1.below hb, fun x hx => ⟨(h.2 x hx).1.below hb, (h.2 x hx).2⟩⟩
/-- A deal. -/
structure Dl where
  number : ByteArray
  seller : ByteArray
  buyer : ByteArray
  carrier : ByteArray
  issuer : ByteArray
  house : ByteArray
  insurer : ByteArray
  frm : ByteArray
  toP : ByteArray
  currency : ByteArray
  amount : Int
  A : Option Addr
  c : Nat
  boxes : List Bx
  term : Int
  latest : Int
  expiry : Int
  tenor : Int
  duty : Int
def Dl.cells (d : Dl) : Array Value := #[.string d.number, .string d.seller, .string d.buyer, .string d.carrier, .string d.issuer, .string d.house, .string d.insurer, .string d.frm, .string d.toP, .string d.currency, .int .i64 d.amount, .slice d.A d.boxes.length d.c, .int .i64 d.term, .int .i64 d.latest, .int .i64 d.expiry, .int .i64 d.tenor, .int .i64 d.duty]
/-- No text of a deal is too long, its numbers fit. -/
structure Dl.ok (w : World) (d : Dl) : Prop where
  number : d.number.size ≤ 3000
  seller : d.seller.size ≤ 3000
  buyer : d.buyer.size ≤ 3000
  carrier : d.carrier.size ≤ 3000
  issuer : d.issuer.size ≤ 3000
  house : d.house.size ≤ 3000
  insurer : d.insurer.size ≤ 3000
  frm : d.frm.size ≤ 3000
  toP : d.toP.size ≤ 3000
  currency : d.currency.size ≤ 3000
  amount : i64 d.amount
  term : i64 d.term
  latest : i64 d.latest
  expiry : i64 d.expiry
  tenor : i64 d.tenor
  duty : i64 d.duty
  at_ : BoxesAt w d.A d.boxes
  most : d.boxes.length ≤ 30
  cap : d.boxes.length ≤ d.c
  marks : ∀ x ∈ d.boxes, x.mark.size ≤ 3000 ∧ x.lots.length ≤ 30 ∧ ∀ y ∈ x.lots, y.good.size ≤ 3000
theorem Dl.ok.below {w w' : World} {d : Dl} (h : d.ok w) (hb : Below w.heap.size w w') : d.ok w' := { h with at_ := h.at_.below hb }
end Go.Proofs.YtnmnknkdnjkpjaaGreatDoor

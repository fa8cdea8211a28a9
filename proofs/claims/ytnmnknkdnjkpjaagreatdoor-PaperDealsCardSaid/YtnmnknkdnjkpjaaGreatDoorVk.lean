/- What is handed in of an order and a consignment. -/
import Derived.Test.YtnmnknkdnjkpjaaGreatDoorVj
import Derived.Test.YtnmnknkdnjkpjaaGreatDoorSh
namespace Go.Proofs.YtnmnknkdnjkpjaaGreatDoor
open Go Go.RowKit Go.BigFrame Go.Maps

structure Od.wide (w : World) (o : Od) : Prop where
  number : o.number.size ≤ 140737488351232
  seller : o.seller.size ≤ 140737488351232
  buyer : o.buyer.size ≤ 140737488351232
  currency : o.currency.size ≤ 140737488351232
  frm : o.frm.size ≤ 140737488351232
  toP : o.toP.size ≤ 140737488351232
  term : i64 o.term
  at_ : RowOf encLn 3 w o.A o.lines
  most : o.lines.length ≤ maxLen
  cap : o.lines.length ≤ o.c
  lines : ∀ x ∈ o.lines, i64 x.count ∧ i64 x.price ∧ x.good.size ≤ 140737488351232
structure Cn.wide (w : World) (o : Cn) : Prop where
  order : o.order.size ≤ 140737488351232
  number : i64 o.number
  latest : i64 o.latest
  at_ : RowOf encL 2 w o.A o.lots
  most : o.lots.length ≤ maxLen
  cap : o.lots.length ≤ o.c
  lots : ∀ x ∈ o.lots, i64 x.count ∧ x.good.size ≤ 140737488351232
end Go.Proofs.YtnmnknkdnjkpjaaGreatDoor

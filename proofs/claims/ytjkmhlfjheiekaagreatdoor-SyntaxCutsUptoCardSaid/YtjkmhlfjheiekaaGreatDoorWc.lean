import Derived.Deep.RegionHeld3
import Derived.Test.YtjkmhlfjheiekaaGreatDoorTa
set_option maxRecDepth 1000000
set_option maxHeartbeats 51200000
namespace Go.Proofs.YtjkmhlfjheiekaaGreatDoor
open Go Go.RowKit Go.BigFrame Go.Maps
mutual
def eqR : Rul → Rul → Bool
 | .mk k p f x n L, .mk k' p' f' x' n' L' => k == k' && p == p' && f == f' && x == x' && n == n' && eqL L L'
def eqL : List Rul → List Rul → Bool
 | [], [] => true
 | [], _ :: _ => false
 | _ :: _, [] => false
 | a :: L, b :: M => eqR a b && eqL L M
end
mutual
theorem eqR_iff : ∀ a b : Rul, eqR a b = true ↔ a = b
 | .mk k p f x n L, .mk k' p' f' x' n' L' => by
  rw [eqR]; simp only [Bool.and_eq_true, beq_iff_eq, Rul.mk.injEq, eqL_iff L L', and_assoc]
theorem eqL_iff : ∀ L M : List Rul, eqL L M = true ↔ L = M
 | [], [] => by simp [eqL]
 | [], _ :: _ => by simp [eqL]
 | _ :: _, [] => by simp [eqL]
 | a :: L, b :: M => by rw [eqL]; simp only [Bool.and_eq_true, eqR_iff a b, eqL_iff L M, List.cons.injEq]
end
theorem eqR_refl (a : Rul) : eqR a a = true := (eqR_iff a a).2 rfl
mutual
def fewR : Nat → Rul → Bool
 | d, .mk _ _ f x _ L => !(decide (20 < d) || decide (70 < L.length) || decide (40 < f.length) || decide (200 < x.length)) && fewL (d + 1) L
def fewL : Nat → List Rul → Bool
 | _, [] => true
 | d, r :: L => fewR d r && fewL d L
end
theorem fewL_step {L : List Tree} {q d : Nat} {t : Tree} {r : Bool} (h : r = fewL d (sSz (L.drop q))) (ht : L[q]? = some t) : r = (fewR d (stz t) && fewL d (sSz (L.drop (q + 1)))) := by
 obtain ⟨hq, he⟩ := List.getElem?_eq_some_iff.1 ht
 rw [h, List.drop_eq_getElem_cons hq, he, sSz, fewL]
theorem fewL_end {L : List Tree} {q d : Nat} {r : Bool} (h : r = fewL d (sSz (L.drop q))) (h1 : L.length ≤ q) : r = true := by
 rw [h, List.drop_eq_nil_of_le h1, sSz, fewL]
def FewC (t : Tree) : Prop := ∀ (d : Nat) (w : World) (ok : Nat → Prop), d ≤ 21 → Hid (TAz w ok t) → Cz 16 #[.agg t.cells, Iz d] w fun e w' => e = .returned (.bool (fewR d (stz t))) ∧ Bz w w'
theorem few_walk (t : Tree) (ih : ∀ u ∈ t.sub, FewC u) : FewC t := by
 intro d w ok hd hT
 obtain ⟨k, p, f, x, n, A, c, L⟩ := t
 have hT0 := hT.out
 rw [TAz] at hT0
 obtain ⟨hR, hlen⟩ := hT0
 have hR' := hdZ hR
 obtain ⟨m, hm⟩ := nmZ (L.length)
 rw [hm.out] at hlen
 unfold maxLen at hlen
 have ih' : Hid (∀ u ∈ L, FewC u) := ih
 have hres : Hid (fewR d (stz (.mk k p f x n A c L)) = (!(decide (20 < d) || decide (70 < m) || decide (40 < f.length) || decide (200 < x.length)) && fewL (d + 1) (sSz L))) := by unfold Hid; rw [stz, fewR, smz, List.length_map, hm.out]
 rw [hres.out]
 clear ih hT hR hres
 show Cz 16 #[.agg (z1z k p f x n A L.length c), Iz d] w _
 rw [hm.out]
 have hb0 : Hid (Bz w (w.alloc (.cells (z1z k p f x n A m c) 25))) := (Below.refl _ w).alloc leZ _
 have hbx := hdZ (Blk.new w 25 (z1z k p f x n A m c))
 have ez1 : (⟨f.toArray⟩ : ByteArray).size = f.length := by simp [ByteArray.size]
 have ez2 : (⟨x.toArray⟩ : ByteArray).size = x.length := by simp [ByteArray.size]
 obtain ⟨fl, hfl⟩ := nmZ (f.length)
 obtain ⟨xl, hxl⟩ := nmZ (x.length)
 rw [hfl.out] at ez1 ⊢
 rw [hxl.out] at ez2 ⊢
 by_cases h0 : 20 < d
 ·have b0 : decide ((20 : Int) < (d : Int)) = true := by simp; omega
  rw [show decide (20 < d) = true by simp; omega]
  go_enter Tryz.func16, Tryz.ntmps16
  go_wp2_with fail; go_ret; exact ⟨by simp, hb0.out⟩
 ·have b0 : decide ((20 : Int) < (d : Int)) = false := by simp; omega
  rw [show decide (20 < d) = false by simp; omega]
  by_cases h1 : 70 < m
  ·have b1 : decide ((70 : Int) < (m : Int)) = true := by simp; omega
   rw [show decide (70 < m) = true by simp; omega]
   go_enter Tryz.func16, Tryz.ntmps16
   go_wp2_with fail; go_ret; exact ⟨by simp, hb0.out⟩
  ·have b1 : decide ((70 : Int) < (m : Int)) = false := by simp; omega
   rw [show decide (70 < m) = false by simp; omega]
   by_cases h2 : 40 < fl
   ·have b2 : decide ((40 : Int) < (fl : Int)) = true := by simp; omega
    rw [show decide (40 < fl) = true by simp; omega]
    go_enter Tryz.func16, Tryz.ntmps16
    go_wp2_with fail; go_ret; exact ⟨by simp, hb0.out⟩
   ·have b2 : decide ((40 : Int) < (fl : Int)) = false := by simp; omega
    rw [show decide (40 < fl) = false by simp; omega]
    by_cases h3 : 200 < xl
    ·have b3 : decide ((200 : Int) < (xl : Int)) = true := by simp; omega
     rw [show decide (200 < xl) = true by simp; omega]
     go_enter Tryz.func16, Tryz.ntmps16
     go_wp2_with fail; go_ret; exact ⟨by simp, hb0.out⟩
    ·have b3 : decide ((200 : Int) < (xl : Int)) = false := by simp; omega
     rw [show decide (200 < xl) = false by simp; omega]; have w1x : IntKind.i64.wrap ((d : Int) + 1) = ((d + 1 : Nat) : Int) := by rw [IntWalk.i64_in _ (by omega)]; omega
     obtain ⟨wa, hwa⟩ := nmZ (w.alloc (.cells (z1z k p f x n A m c) 25))
     go_enter Tryz.func16, Tryz.ntmps16
     go_wp2_with fail; rw [hwa.out] at hb0 hbx ⊢; clear hwa
     go_loopg [5] m (fun gg a wr => ∃ q : Nat, q ≤ m ∧ gg = m - q ∧ a = Iz q ∧ Hid (fewL (d + 1) (sSz L) = fewL (d + 1) (sSz (L.drop q))) ∧ Hid (Bz w wr) ∧ Hid (Blk wr w.heap.size 25 (z1z k p f x n A m c)))
     case atStart => exact ⟨0, Nat.zero_le _, rfl, rfl, rfl, hb0, hbx⟩
     case round =>
      clear hb0 hbx; obtain ⟨q, hq, hg, rfl, hall, hB, hbk⟩ := hrel; have hg' := hdZ hg; clear hg; have e5 : wr.cell? (Az w.heap.size 5) = some (.slice A m c) := hbk.out.cell 5; have elt := hbk.out.lt
      by_cases hlt : q < m
      ·have i1 : decide ((q : Int) < (m : Int)) = true := by simp; omega
       have i2 : (q : Int) < (m : Int) := by omega
       have i3 : (0 : Int) ≤ (q : Int) := by omega
       obtain ⟨t, ht⟩ : ∃ t, L[q]? = some t := ⟨_, List.getElem?_eq_getElem (by have := hm.out; omega)⟩; have hmem := hdZ (List.mem_of_getElem? ht); have hst := hdZ (fewL_step hall.out ht); obtain ⟨hc, hTt⟩ := (hR'.out.below hB.out).get q t ht; have hcall := hdZ (ih'.out t hmem.out (d + 1) wr ok (by omega) hTt); clear ht hTt hall; obtain ⟨tk, tp, tf, tx, tn, tA, tc, tL⟩ := t; obtain ⟨bb, off, rfl, _, g0, g1, g2, g3, g4, g5⟩ := hc; rw [Nat.zero_add] at g0 g1 g2 g3 g4 g5; unfold Tree.cells at hcall; obtain ⟨bq, hbq⟩ := nmZ (fewR (d + 1) (stz (.mk tk tp tf tx tn tA tc tL))); rw [hbq.out] at hcall hst; go_wp2_with fail; refine hcall.out.mono ?_; rintro e w2 ⟨rfl, hB2⟩; have hBn : Hid (Bz w w2) := hB.out.trans (hB2.mono hB.out.size); have hbn := hdZ (hbk.out.below hB2 hbk.out.lt); clear hB2 g0 g1 g2 g3 g4 g5 e5 elt hcall
       cases bq with
       | true =>
        go_wp2_with fail
        go_roundg (m - (q + 1))
        case measure => have := hg'.out; omega
        case rel => exact ⟨q + 1, by omega, rfl, by go_num, hst.out.trans (Bool.true_and _), hBn, hbn⟩
       | false =>
        go_wp2_with fail; go_ret; exact ⟨by rw [hst.out]; simp, hBn.out⟩
      ·have i1 : decide ((q : Int) < (m : Int)) = false := by simp; omega
       have hfin := hdZ (fewL_end hall.out (by have := hm.out; omega)); go_wp2_with fail; go_ret; exact ⟨by rw [hfin.out]; simp, hB.out⟩
theorem few_any : ∀ t : Tree, FewC t := Tree.every fun t ih => few_walk t ih
structure Crd where
 number : Txt
 applicant : Txt
 beneficiary : Txt
 issuer : Txt
 confirmer : Txt
 orig : Txt
 dest : Txt
 currency : Txt
 amount : Int
 above : Int
 below : Int
 latest : Int
 expiry : Int
 within : Int
 tenor : Int
 part : Bool
 change : Bool
abbrev Crd.cells (c : Crd) (needs : Value) : Array Value := #[.string ⟨c.number.toArray⟩, .string ⟨c.applicant.toArray⟩, .string ⟨c.beneficiary.toArray⟩, .string ⟨c.issuer.toArray⟩, .string ⟨c.confirmer.toArray⟩, .string ⟨c.orig.toArray⟩, .string ⟨c.dest.toArray⟩, .string ⟨c.currency.toArray⟩, Iz c.amount, Iz c.above, Iz c.below, Iz c.latest, Iz c.expiry, Iz c.within, Iz c.tenor, .bool c.part, .bool c.change, needs]
structure Nd where
 kind : Int
 count : Int
 rule : Tree
def Nd.cells (x : Nd) : List Value := Iz x.kind :: Iz x.count :: x.rule.cells.toList
def NdsAt (w : World) (ok : Nat → Prop) (A : Option Addr) (l : List Nd) : Prop :=
 ∀ (k : Nat) (x : Nd), l[k]? = some x → ∃ b off, A = some (Az b off) ∧ ok b ∧ (∀ i u, x.cells[i]? = some u → w.cell? ⟨b, off + k * 8 + i, none⟩ = some u) ∧ TAz w ok x.rule
theorem Nd.cells_len (x : Nd) : x.cells.length = 8 := by obtain ⟨k, n, ⟨a, b, c, d, e, f, g, h⟩⟩ := x; rfl
theorem NdsAt.below {w w' : World} {ok : Nat → Prop} {A : Option Addr} {l : List Nd} (h : NdsAt w ok A l) (hb : Bz w w') : NdsAt w' ok A l := fun k x hx => by
 obtain ⟨b, off, e, hk, hc, hT⟩ := h k x hx
 have h0 := hc 0 _ rfl
 have hlt : b < w.heap.size := World.block_lt_of_cell? w _ h0
 exact ⟨b, off, e, hk, fun i u hu => (hb.cell (by exact hlt)).trans (hc i u hu), hT.below hb⟩
def littleN (l : List Nd) : Bool := decide (l.length ≤ 70) && l.all fun x => fewR 0 (stz x.rule)
theorem all_step {l : List Nd} {q : Nat} {x : Nd} {r : Bool} {p : Nd → Bool} (h : r = (l.drop q).all p) (hx : l[q]? = some x) : r = (p x && (l.drop (q + 1)).all p) := by
 obtain ⟨hq, he⟩ := List.getElem?_eq_some_iff.1 hx
 rw [h, List.drop_eq_getElem_cons hq, he, List.all_cons]
theorem all_end {l : List Nd} {q : Nat} {r : Bool} {p : Nd → Bool} (h : r = (l.drop q).all p) (h1 : l.length ≤ q) : r = true := by
 rw [h, List.drop_eq_nil_of_le h1, List.all_nil]
theorem little_any (C : Array Value) (A : Option Addr) (n c : Nat) (l : List Nd) (w : World) (ok : Nat → Prop) (hC17 : Hid (C[17]? = some (.slice A n c))) (hn : Hid (l.length = n)) (hml : n ≤ maxLen) (hN : Hid (NdsAt w ok A l)) :
  Cz 20 #[.agg C] w fun e w' => e = .returned (.bool (littleN l)) ∧ Bz w w' := by
 unfold maxLen at hml
 have hb0 := hdZ ((Below.refl _ w).alloc leZ (.cells C 41))
 have hbx := hdZ (Blk.new w 41 C)
 have hres : Hid (littleN l = (decide (n ≤ 70) && l.all fun x => fewR 0 (stz x.rule))) := by unfold Hid littleN; rw [hn.out]
 rw [hres.out]
 clear hres
 have c17 : (w.alloc (.cells C 41)).cell? (Az w.heap.size 17) = some (.slice A n c) := (hbx.out.cell 17).trans hC17.out
 by_cases h0 : 70 < n
 ·have b0 : decide ((70 : Int) < (n : Int)) = true := by simp; omega
  rw [show decide (n ≤ 70) = false by simp; omega]
  go_enter Tryz.func20, Tryz.ntmps20
  go_wp2_with fail; go_ret; exact ⟨by simp, hb0.out⟩
 ·have b0 : decide ((70 : Int) < (n : Int)) = false := by simp; omega
  rw [show decide (n ≤ 70) = true by simp; omega, Bool.true_and]; obtain ⟨wa, hwa⟩ := nmZ (w.alloc (.cells C 41))
  go_enter Tryz.func20, Tryz.ntmps20
  go_wp2_with fail; rw [hwa.out] at hb0 hbx ⊢; clear hwa c17
  go_loopg [3] n (fun gg a wr => ∃ q : Nat, q ≤ n ∧ gg = n - q ∧ a = Iz q ∧ Hid ((l.all fun x => fewR 0 (stz x.rule)) = (l.drop q).all fun x => fewR 0 (stz x.rule)) ∧ Hid (Bz w wr) ∧ Hid (Blk wr w.heap.size 41 C))
  case atStart => exact ⟨0, Nat.zero_le _, rfl, rfl, rfl, hb0, hbx⟩
  case round =>
   clear hb0 hbx; obtain ⟨q, hq, hg, rfl, hall, hB, hbk⟩ := hrel; have hg' := hdZ hg; clear hg; have e5 : wr.cell? (Az w.heap.size 17) = some (.slice A n c) := (hbk.out.cell 17).trans hC17.out; have elt := hbk.out.lt
   by_cases hlt : q < n
   ·have i1 : decide ((q : Int) < (n : Int)) = true := by simp; omega
    have i2 : (q : Int) < (n : Int) := by omega
    have i3 : (0 : Int) ≤ (q : Int) := by omega
    obtain ⟨x, hx⟩ : ∃ t, l[q]? = some t := ⟨_, List.getElem?_eq_getElem (by have := hn.out; omega)⟩; have hst := hdZ (all_step hall.out hx); obtain ⟨bb, off, rfl, _, hc, hTt⟩ := (hN.out.below hB.out) q x hx; have hcall := hdZ (few_any x.rule 0 wr ok (by omega) hTt); clear hx hTt hall; obtain ⟨xk, xn, ⟨tk, tp, tf, tx, tn, tA, tc, tL⟩⟩ := x; have g0 : wr.cell? ⟨bb, off + q * 8 + 2, none⟩ = some (Iz tk) := hc 2 _ rfl; have g1 : wr.cell? ⟨bb, off + q * 8 + 2 + 1, none⟩ = some (Iz tp) := hc 3 _ rfl; have g2 : wr.cell? ⟨bb, off + q * 8 + 2 + 2, none⟩ = some (Sz tf) := hc 4 _ rfl; have g3 : wr.cell? ⟨bb, off + q * 8 + 2 + 3, none⟩ = some (Sz tx) := hc 5 _ rfl; have g4 : wr.cell? ⟨bb, off + q * 8 + 2 + 4, none⟩ = some (Iz tn) := hc 6 _ rfl; have g5 : wr.cell? ⟨bb, off + q * 8 + 2 + 5, none⟩ = some (.slice tA tL.length tc) := hc 7 _ rfl; clear hc; simp only at hcall hst; unfold Tree.cells at hcall; obtain ⟨bq, hbq⟩ := nmZ (fewR 0 (stz (.mk tk tp tf tx tn tA tc tL))); rw [hbq.out] at hcall hst; go_wp2_with fail; refine hcall.out.mono ?_; rintro e w2 ⟨rfl, hB2⟩; have hBn : Hid (Bz w w2) := hB.out.trans (hB2.mono hB.out.size); have hbn := hdZ (hbk.out.below hB2 hbk.out.lt); clear hB2 g0 g1 g2 g3 g4 g5 e5 elt hcall
    cases bq with
    | true =>
     go_wp2_with fail
     go_roundg (n - (q + 1))
     case measure => have := hg'.out; omega
     case rel => exact ⟨q + 1, by omega, rfl, by go_num, hst.out.trans (Bool.true_and _), hBn, hbn⟩
    | false =>
     go_wp2_with fail; go_ret; exact ⟨by rw [hst.out]; simp, hBn.out⟩
   ·have i1 : decide ((q : Int) < (n : Int)) = false := by simp; omega
    have hfin := hdZ (all_end hall.out (by have := hn.out; omega)); go_wp2_with fail; go_ret; exact ⟨by rw [hfin.out]; rfl, hB.out⟩
def Crd.names (c : Crd) : Array Value := #[.string ⟨c.number.toArray⟩, .string ⟨c.applicant.toArray⟩, .string ⟨c.beneficiary.toArray⟩, .string ⟨c.issuer.toArray⟩, .string ⟨c.confirmer.toArray⟩, .string ⟨c.orig.toArray⟩, .string ⟨c.dest.toArray⟩]
def Crd.nums (c : Crd) : Array Value := #[Iz c.above, Iz c.below, Iz c.latest, Iz c.expiry, Iz c.within, Iz c.tenor]
theorem names_any (C : Array Value) (c : Crd) (v : Value) (hC : Hid (C = c.cells v)) (w : World) : Cz 42 #[.agg C] w fun e w' => e = .returned (.agg c.names) ∧ Bz w w' := by
 have hk : Hid (∀ i, i < 18 → C[i]? = (c.cells v)[i]?) := fun i _ => by rw [hC.out]
 have hbl : Hid (Bz w ((w.alloc (.cells C 41)).alloc (.cells #[S0z, S0z, S0z, S0z, S0z, S0z, S0z] 75))) := ((Below.refl _ w).alloc leZ _).alloc (by simp) _
 have hbx := hdZ ((Blk.new w 41 C).alloc (.cells #[S0z, S0z, S0z, S0z, S0z, S0z, S0z] 75))
 have c0 := (hbx.out.cell 0).trans (hk.out 0 (by decide))
 have c1 := (hbx.out.cell 1).trans (hk.out 1 (by decide))
 have c2 := (hbx.out.cell 2).trans (hk.out 2 (by decide))
 have c3 := (hbx.out.cell 3).trans (hk.out 3 (by decide))
 have c4 := (hbx.out.cell 4).trans (hk.out 4 (by decide))
 have c5 := (hbx.out.cell 5).trans (hk.out 5 (by decide))
 have c6 := (hbx.out.cell 6).trans (hk.out 6 (by decide))
 go_enter Tryz.func42, Tryz.ntmps42
 go_wp2_with fail
 have hby := Blk.new (w.alloc (.cells C 41)) 75 c.names
 have hs : (w.alloc (.cells C 41)).heap.size = w.heap.size + 1 := by simp
 rw [hs] at hby
 refine bodyPost_ret (rrz rfl _ _ (w.heap.size + 1) 75 _ _ rfl hby Tryz.underlying75 rfl (by kernel_rfl)) rfl ?_
 exact ⟨rfl, ((Below.refl _ w).alloc leZ _).alloc (by simp) _⟩
theorem nums_any (C : Array Value) (c : Crd) (v : Value) (hC : Hid (C = c.cells v)) (w : World) : Cz 43 #[.agg C] w fun e w' => e = .returned (.agg c.nums) ∧ Bz w w' := by
 have hk : Hid (∀ i, i < 18 → C[i]? = (c.cells v)[i]?) := fun i _ => by rw [hC.out]
 have hbl : Hid (Bz w ((w.alloc (.cells C 41)).alloc (.cells #[Iz 0, Iz 0, Iz 0, Iz 0, Iz 0, Iz 0] 77))) := ((Below.refl _ w).alloc leZ _).alloc (by simp) _
 have hbx := hdZ ((Blk.new w 41 C).alloc (.cells #[Iz 0, Iz 0, Iz 0, Iz 0, Iz 0, Iz 0] 77))
 have c0 := (hbx.out.cell 9).trans (hk.out 9 (by decide))
 have c1 := (hbx.out.cell 10).trans (hk.out 10 (by decide))
 have c2 := (hbx.out.cell 11).trans (hk.out 11 (by decide))
 have c3 := (hbx.out.cell 12).trans (hk.out 12 (by decide))
 have c4 := (hbx.out.cell 13).trans (hk.out 13 (by decide))
 have c5 := (hbx.out.cell 14).trans (hk.out 14 (by decide))
 go_enter Tryz.func43, Tryz.ntmps43
 go_wp2_with fail
 have hby := Blk.new (w.alloc (.cells C 41)) 77 c.nums
 have hs : (w.alloc (.cells C 41)).heap.size = w.heap.size + 1 := by simp
 rw [hs] at hby
 refine bodyPost_ret (rrz rfl _ _ (w.heap.size + 1) 77 _ _ rfl hby Tryz.underlying77 rfl (by kernel_rfl)) rfl ?_
 exact ⟨rfl, ((Below.refl _ w).alloc leZ _).alloc (by simp) _⟩
def eqBy {α : Type} (p : α → α → Bool) : List α → List α → Bool
 | [], [] => true
 | [], _ :: _ => false
 | _ :: _, [] => false
 | a :: L, b :: M => p a b && eqBy p L M
theorem eqBy_step {α : Type} {p : α → α → Bool} {L M : List α} {q : Nat} {t u : α} {r : Bool} (h : r = eqBy p (L.drop q) (M.drop q)) (ht : L[q]? = some t) (hu : M[q]? = some u) : r = (p t u && eqBy p (L.drop (q + 1)) (M.drop (q + 1))) := by
 obtain ⟨hq, he⟩ := List.getElem?_eq_some_iff.1 ht
 obtain ⟨hq', he'⟩ := List.getElem?_eq_some_iff.1 hu
 rw [h, List.drop_eq_getElem_cons hq, List.drop_eq_getElem_cons hq', he, he', eqBy]
theorem eqBy_end {α : Type} {p : α → α → Bool} {L M : List α} {q : Nat} {r : Bool} (h : r = eqBy p (L.drop q) (M.drop q)) (h1 : L.length ≤ q) (h2 : M.length ≤ q) : r = true := by
 rw [h, List.drop_eq_nil_of_le h1, List.drop_eq_nil_of_le h2, eqBy]
theorem eqBy_len {α : Type} {p : α → α → Bool} : ∀ {L M : List α}, eqBy p L M = true → L.length = M.length
 | [], [], _ => rfl
 | [], _ :: _, h => by cases h
 | _ :: _, [], h => by cases h
 | a :: L, b :: M, h => by
  rw [eqBy, Bool.and_eq_true] at h; rw [List.length_cons, List.length_cons, eqBy_len h.2]
theorem eqL_by : ∀ L M : List Tree, eqL (sSz L) (sSz M) = eqBy (fun t u => eqR (stz t) (stz u)) L M
 | [], [] => by rw [sSz, eqL, eqBy]
 | [], b :: M => by rw [sSz, sSz, eqL, eqBy]
 | a :: L, [] => by rw [sSz, sSz, eqL, eqBy]
 | a :: L, b :: M => by rw [sSz, sSz, eqL, eqBy, eqL_by L M]
def eqNd (x y : Nd) : Bool := x.kind == y.kind && x.count == y.count && eqR (stz x.rule) (stz y.rule)
theorem equal_nodes (A : Option Addr) (n c : Nat) (L : List Tree) (A' : Option Addr) (n' c' : Nat) (L' : List Tree) (ok ok' : Nat → Prop) (g : Nat) (eg : ∀ (args : Array Value) (w : World), (callFunc g args).run Tryz.prog w = .ok (.enter g args) w) (p : Tree → Tree → Bool) (w : World) (hn : n ≤ maxLen) (hn' : n' ≤ maxLen) (hl : Hid (L.length = n)) (hl' : Hid (L'.length = n')) (hA : Hid (RAz w ok A 0 L)) (hA' : Hid (RAz w ok' A' 0 L'))
  (hf : Hid (∀ (W : World) (t u : Tree), t ∈ L → u ∈ L' → Bz w W → Cz g #[.agg t.cells, .agg u.cells] W fun e w' => e = .returned (.bool (p t u)) ∧ Bz W w')) :
  Cz 129 #[.slice A n c, .slice A' n' c', .func (.func g) #[] #[]] w fun e w' => e = .returned (.bool (eqBy p L L')) ∧ Bz w w' := by
 unfold maxLen at hn hn'
 by_cases hne : ¬ (n = n')
 ·have b1 : ((n : Int) == (n' : Int)) = false := by simp; omega
  have b2 : ((n : Int) != (n' : Int)) = true := by simp; omega
  have hr : eqBy p L L' = false := by
   cases h : eqBy p L L' with
   | false => rfl
   | true => have := eqBy_len h; rw [hl.out, hl'.out] at this; exact absurd this hne
  rw [hr]
  go_enter Tryz.func129, Tryz.ntmps129
  go_wp2_with fail; go_ret; exact ⟨rfl, Below.refl _ _⟩
 obtain rfl := Classical.not_not.1 hne
 go_enter Tryz.func129, Tryz.ntmps129
 go_wp2_with fail
 go_loopg [17] n (fun gg i wr => ∃ q : Nat, q ≤ n ∧ gg = n - q ∧ i = Iz q ∧ Hid (eqBy p L L' = eqBy p (L.drop q) (L'.drop q)) ∧ Hid (Bz w wr))
 case atStart => exact ⟨0, Nat.zero_le _, rfl, rfl, rfl, Below.refl _ _⟩
 case round =>
  obtain ⟨q, hq, hg, rfl, hall, hB⟩ := hrel; have hg' := hdZ hg; clear hg
  by_cases hlt : q < n
  ·have i1 : decide ((q : Int) < (n : Int)) = true := by simp; omega
   have i2 : (q : Int) < (n : Int) := by omega
   have i3 : (0 : Int) ≤ (q : Int) := by omega
   obtain ⟨t, ht⟩ : ∃ t, L[q]? = some t := ⟨_, List.getElem?_eq_getElem (by have := hl.out; omega)⟩; obtain ⟨u, hu⟩ : ∃ t, L'[q]? = some t := ⟨_, List.getElem?_eq_getElem (by have := hl'.out; omega)⟩; have hst := hdZ (eqBy_step hall.out ht hu); obtain ⟨hc, _⟩ := (hA.out.below hB.out).get q t ht; obtain ⟨hc', _⟩ := (hA'.out.below hB.out).get q u hu; have hcall : Hid (∀ W, Bz wr W → Cz g #[.agg t.cells, .agg u.cells] W fun e w' => e = .returned (.bool (p t u)) ∧ Bz W w') := fun W hW => hf.out W t u (List.mem_of_getElem? ht) (List.mem_of_getElem? hu) (hB.out.trans (hW.mono hB.out.size))
   clear ht hu hall; obtain ⟨bq, hbq⟩ := nmZ (p t u); rw [hbq.out] at hcall hst; clear hbq; obtain ⟨tk, tp, tf, tx, tn, tA, tc, tL⟩ := t; obtain ⟨uk, up, uf, ux, un, uA, uc, uL⟩ := u; obtain ⟨bb, off, rfl, _, g0, g1, g2, g3, g4, g5⟩ := hc; obtain ⟨bb', off', rfl, _, k0, k1, k2, k3, k4, k5⟩ := hc'; rw [Nat.zero_add] at g0 g1 g2 g3 g4 g5 k0 k1 k2 k3 k4 k5; have lt1 : bb < wr.heap.size := cell_lt g0; have lt2 : bb' < wr.heap.size := cell_lt k0; simp only [Tree.cells] at hcall; have kk0 : (wr.alloc (.cells (z1z tk tp tf tx tn tA tL.length tc) 25)).cell? ⟨bb', off' + q * 6, none⟩ = some (Iz uk) := (((Below.refl _ wr).alloc leZ _).cell (by exact lt2)).trans k0; have kk1 : (wr.alloc (.cells (z1z tk tp tf tx tn tA tL.length tc) 25)).cell? ⟨bb', off' + q * 6 + 1, none⟩ = some (Iz up) := (((Below.refl _ wr).alloc leZ _).cell (by exact lt2)).trans k1; have kk2 : (wr.alloc (.cells (z1z tk tp tf tx tn tA tL.length tc) 25)).cell? ⟨bb', off' + q * 6 + 2, none⟩ = some (Sz uf) := (((Below.refl _ wr).alloc leZ _).cell (by exact lt2)).trans k2; have kk3 : (wr.alloc (.cells (z1z tk tp tf tx tn tA tL.length tc) 25)).cell? ⟨bb', off' + q * 6 + 3, none⟩ = some (Sz ux) := (((Below.refl _ wr).alloc leZ _).cell (by exact lt2)).trans k3; have kk4 : (wr.alloc (.cells (z1z tk tp tf tx tn tA tL.length tc) 25)).cell? ⟨bb', off' + q * 6 + 4, none⟩ = some (Iz un) := (((Below.refl _ wr).alloc leZ _).cell (by exact lt2)).trans k4; have kk5 : (wr.alloc (.cells (z1z tk tp tf tx tn tA tL.length tc) 25)).cell? ⟨bb', off' + q * 6 + 5, none⟩ = some (.slice uA uL.length uc) := (((Below.refl _ wr).alloc leZ _).cell (by exact lt2)).trans k5; have hbl : Hid (Bz wr ((wr.alloc (.cells (z1z tk tp tf tx tn tA tL.length tc) 25)).alloc (.cells (z1z uk up uf ux un uA uL.length uc) 25))) := ((Below.refl _ wr).alloc leZ _).alloc (by simp) _; have hc2 := hdZ (hcall.out _ hbl.out)
   cases bq with
   | true =>
    go_wp2_with (go_at_fn g; refine hc2.out.mono ?_; rintro e w1 ⟨rfl, hb1⟩)
    have hBn : Hid (Bz w w1) := hB.out.trans ((hbl.out.trans (hb1.mono hbl.out.size)).mono hB.out.size)
    go_roundg (n - (q + 1))
    case measure => have := hg'.out; omega
    case rel => exact ⟨q + 1, by omega, rfl, by go_num, hst.out.trans (Bool.true_and _), hBn⟩
   | false =>
    go_wp2_with (go_at_fn g; refine hc2.out.mono ?_; rintro e w1 ⟨rfl, hb1⟩)
    go_ret; exact ⟨by rw [hst.out]; rfl, hB.out.trans ((hbl.out.trans (hb1.mono hbl.out.size)).mono hB.out.size)⟩
  ·have i1 : decide ((q : Int) < (n : Int)) = false := by simp; omega
   have hfin := hdZ (eqBy_end hall.out (by have := hl.out; omega) (by have := hl'.out; omega)); go_wp2_with fail; go_ret; exact ⟨by rw [hfin.out]; rfl, hB.out⟩
def SameP (t : Tree) : Prop := ∀ (u : Tree) (w : World) (ok ok' : Nat → Prop), Hid (TAz w ok t) → Hid (TAz w ok' u) → Cz 84 #[.agg t.cells, .agg u.cells] w fun e w' => e = .returned (.bool (eqR (stz t) (stz u))) ∧ Bz w w'
theorem sameP_walk (t : Tree) (ih : ∀ u ∈ t.sub, SameP u) : SameP t := by
 intro u w ok ok' hT hU
 have e84 := enters_of Tryz.func84 (by kernel_rfl) rfl
 obtain ⟨k, p, f, x, n, A, c, L⟩ := t
 obtain ⟨k', p', f', x', n', A', c', L'⟩ := u
 have hT0 := hT.out
 have hU0 := hU.out
 rw [TAz] at hT0 hU0
 obtain ⟨hR, hlen⟩ := hT0
 obtain ⟨hS, hlen'⟩ := hU0
 obtain ⟨m, hm⟩ := nmZ (L.length)
 obtain ⟨m', hm'⟩ := nmZ (L'.length)
 rw [hm.out] at hlen
 rw [hm'.out] at hlen'
 have ih' : Hid (∀ u ∈ L, SameP u) := ih
 have hres : Hid (eqR (stz (.mk k p f x n A c L)) (stz (.mk k' p' f' x' n' A' c' L')) = (k == k' && p == p' && f == f' && x == x' && n == n' && eqL (sSz L) (sSz L'))) := by unfold Hid; rw [stz, stz, eqR]
 rw [hres.out, eqL_by]
 clear ih hT hU hres
 show Cz 84 #[.agg (z1z k p f x n A L.length c), .agg #[Iz k', Iz p', .string ⟨f'.toArray⟩, .string ⟨x'.toArray⟩, Iz n', .slice A' L'.length c']] w _
 rw [hm.out, hm'.out]
 have hb0 : Hid (Bz w ((w.alloc (.cells (z1z k p f x n A m c) 25)).alloc (.cells #[Iz k', Iz p', .string ⟨f'.toArray⟩, .string ⟨x'.toArray⟩, Iz n', .slice A' m' c'] 25))) := ((Below.refl _ w).alloc leZ _).alloc (by simp) _
 have hcall := hdZ (equal_nodes A m c L A' m' c' L' ok ok' 84 e84 (fun t u => eqR (stz t) (stz u)) _ hlen hlen' hm hm' (hR.below hb0.out) (hS.below hb0.out) (fun W t u ht hu hW => ih'.out t ht u W ok ok' (((hR.below hb0.out).mem ht).below hW) (((hS.below hb0.out).mem hu).below hW)))
 obtain ⟨bl, hbl⟩ := nmZ (eqBy (fun t u => eqR (stz t) (stz u)) L L')
 rw [hbl.out] at hcall ⊢
 clear hbl hR hS
 by_cases h0 : ¬ (k = k')
 ·have b0 : (k == k') = false := by simp [h0]
  rw [b0]
  go_enter Tryz.func84, Tryz.ntmps84
  go_wp2_with fail; go_ret; exact ⟨by simp, hb0.out⟩
 obtain rfl := Classical.not_not.1 h0
 by_cases h1 : ¬ (p = p')
 ·have b1 : (p == p') = false := by simp [h1]
  rw [b1]
  go_enter Tryz.func84, Tryz.ntmps84
  go_wp2_with fail; go_ret; exact ⟨by simp, hb0.out⟩
 obtain rfl := Classical.not_not.1 h1
 by_cases h2 : ¬ (f = f')
 ·have b2 : (f == f') = false := by simp [h2]
  rw [b2]
  go_enter Tryz.func84, Tryz.ntmps84
  go_wp2_with fail; go_ret; exact ⟨by simp, hb0.out⟩
 obtain rfl := Classical.not_not.1 h2
 by_cases h3 : ¬ (x = x')
 ·have b3 : (x == x') = false := by simp [h3]
  rw [b3]
  go_enter Tryz.func84, Tryz.ntmps84
  go_wp2_with fail; go_ret; exact ⟨by simp, hb0.out⟩
 obtain rfl := Classical.not_not.1 h3
 by_cases h4 : ¬ (n = n')
 ·have b4 : (n == n') = false := by simp [h4]
  rw [b4]
  go_enter Tryz.func84, Tryz.ntmps84
  go_wp2_with fail; go_ret; exact ⟨by simp, hb0.out⟩
 obtain rfl := Classical.not_not.1 h4
 go_enter Tryz.func84, Tryz.ntmps84
 go_wp2_with (go_at_call 129; refine hcall.out.mono ?_; rintro e w1 ⟨rfl, hB1⟩)
 go_ret
 exact ⟨by simp, hb0.out.trans (hB1.mono hb0.out.size)⟩
theorem sameP_any : ∀ t : Tree, SameP t := Tree.every fun t ih => sameP_walk t ih
theorem equal_needs (A : Option Addr) (n c : Nat) (L : List Nd) (A' : Option Addr) (n' c' : Nat) (L' : List Nd) (ok ok' : Nat → Prop) (g : Nat) (eg : ∀ (args : Array Value) (w : World), (callFunc g args).run Tryz.prog w = .ok (.enter g args) w) (p : Nd → Nd → Bool) (w : World) (hn : n ≤ maxLen) (hn' : n' ≤ maxLen) (hl : Hid (L.length = n)) (hl' : Hid (L'.length = n')) (hA : Hid (NdsAt w ok A L)) (hA' : Hid (NdsAt w ok' A' L'))
  (hf : Hid (∀ (W : World) (t u : Nd), t ∈ L → u ∈ L' → Bz w W → Cz g #[.agg t.cells.toArray, .agg u.cells.toArray] W fun e w' => e = .returned (.bool (p t u)) ∧ Bz W w')) :
  Cz 44 #[.slice A n c, .slice A' n' c', .func (.func g) #[] #[]] w fun e w' => e = .returned (.bool (eqBy p L L')) ∧ Bz w w' := by
 unfold maxLen at hn hn'
 by_cases hne : ¬ (n = n')
 ·have b1 : ((n : Int) == (n' : Int)) = false := by simp; omega
  have b2 : ((n : Int) != (n' : Int)) = true := by simp; omega
  have hr : eqBy p L L' = false := by
   cases h : eqBy p L L' with
   | false => rfl
   | true => have := eqBy_len h; rw [hl.out, hl'.out] at this; exact absurd this hne
  rw [hr]
  go_enter Tryz.func44, Tryz.ntmps44
  go_wp2_with fail; go_ret; exact ⟨rfl, Below.refl _ _⟩
 obtain rfl := Classical.not_not.1 hne
 go_enter Tryz.func44, Tryz.ntmps44
 go_wp2_with fail
 go_loopg [17] n (fun gg i wr => ∃ q : Nat, q ≤ n ∧ gg = n - q ∧ i = Iz q ∧ Hid (eqBy p L L' = eqBy p (L.drop q) (L'.drop q)) ∧ Hid (Bz w wr))
 case atStart => exact ⟨0, Nat.zero_le _, rfl, rfl, rfl, Below.refl _ _⟩
 case round =>
  obtain ⟨q, hq, hg, rfl, hall, hB⟩ := hrel; have hg' := hdZ hg; clear hg
  by_cases hlt : q < n
  ·have i1 : decide ((q : Int) < (n : Int)) = true := by simp; omega
   have i2 : (q : Int) < (n : Int) := by omega
   have i3 : (0 : Int) ≤ (q : Int) := by omega
   obtain ⟨t, ht⟩ : ∃ t, L[q]? = some t := ⟨_, List.getElem?_eq_getElem (by have := hl.out; omega)⟩; obtain ⟨u, hu⟩ : ∃ t, L'[q]? = some t := ⟨_, List.getElem?_eq_getElem (by have := hl'.out; omega)⟩; have hst := hdZ (eqBy_step hall.out ht hu); obtain ⟨bb, off, rfl, _, hc, _⟩ := (hA.out.below hB.out) q t ht; obtain ⟨bb', off', rfl, _, hc', _⟩ := (hA'.out.below hB.out) q u hu; have hcall : Hid (∀ W, Bz wr W → Cz g #[.agg t.cells.toArray, .agg u.cells.toArray] W fun e w' => e = .returned (.bool (p t u)) ∧ Bz W w') := fun W hW => hf.out W t u (List.mem_of_getElem? ht) (List.mem_of_getElem? hu) (hB.out.trans (hW.mono hB.out.size))
   clear ht hu hall; obtain ⟨bq, hbq⟩ := nmZ (p t u); rw [hbq.out] at hcall hst; clear hbq; obtain ⟨xk, xn, ⟨tk, tp, tf, tx, tn, tA, tc, tL⟩⟩ := t; obtain ⟨yk, yn, ⟨uk, up, uf, ux, un, uA, uc, uL⟩⟩ := u; have g0 : wr.cell? ⟨bb, off + q * 8, none⟩ = some (Iz xk) := hc 0 _ rfl; have k0 : wr.cell? ⟨bb', off' + q * 8, none⟩ = some (Iz yk) := hc' 0 _ rfl; have g1 : wr.cell? ⟨bb, off + q * 8 + 1, none⟩ = some (Iz xn) := hc 1 _ rfl; have k1 : wr.cell? ⟨bb', off' + q * 8 + 1, none⟩ = some (Iz yn) := hc' 1 _ rfl; have g2 : wr.cell? ⟨bb, off + q * 8 + 2, none⟩ = some (Iz tk) := hc 2 _ rfl; have k2 : wr.cell? ⟨bb', off' + q * 8 + 2, none⟩ = some (Iz uk) := hc' 2 _ rfl; have g3 : wr.cell? ⟨bb, off + q * 8 + 3, none⟩ = some (Iz tp) := hc 3 _ rfl; have k3 : wr.cell? ⟨bb', off' + q * 8 + 3, none⟩ = some (Iz up) := hc' 3 _ rfl; have g4 : wr.cell? ⟨bb, off + q * 8 + 4, none⟩ = some (Sz tf) := hc 4 _ rfl; have k4 : wr.cell? ⟨bb', off' + q * 8 + 4, none⟩ = some (Sz uf) := hc' 4 _ rfl; have g5 : wr.cell? ⟨bb, off + q * 8 + 5, none⟩ = some (Sz tx) := hc 5 _ rfl; have k5 : wr.cell? ⟨bb', off' + q * 8 + 5, none⟩ = some (Sz ux) := hc' 5 _ rfl; have g6 : wr.cell? ⟨bb, off + q * 8 + 6, none⟩ = some (Iz tn) := hc 6 _ rfl; have k6 : wr.cell? ⟨bb', off' + q * 8 + 6, none⟩ = some (Iz un) := hc' 6 _ rfl; have g7 : wr.cell? ⟨bb, off + q * 8 + 7, none⟩ = some (.slice tA tL.length tc) := hc 7 _ rfl; have k7 : wr.cell? ⟨bb', off' + q * 8 + 7, none⟩ = some (.slice uA uL.length uc) := hc' 7 _ rfl; have lt1 : bb < wr.heap.size := cell_lt g0; have lt2 : bb' < wr.heap.size := cell_lt k0; have kk0 : (wr.alloc (.cells (z4z xk xn tk tp tf tx tn tA tL.length tc) 74)).cell? ⟨bb', off' + q * 8, none⟩ = some (Iz yk) := (((Below.refl _ wr).alloc leZ _).cell (by exact lt2)).trans k0; have kk1 : (wr.alloc (.cells (z4z xk xn tk tp tf tx tn tA tL.length tc) 74)).cell? ⟨bb', off' + q * 8 + 1, none⟩ = some (Iz yn) := (((Below.refl _ wr).alloc leZ _).cell (by exact lt2)).trans k1; have kk2 : (wr.alloc (.cells (z4z xk xn tk tp tf tx tn tA tL.length tc) 74)).cell? ⟨bb', off' + q * 8 + 2, none⟩ = some (Iz uk) := (((Below.refl _ wr).alloc leZ _).cell (by exact lt2)).trans k2; have kk3 : (wr.alloc (.cells (z4z xk xn tk tp tf tx tn tA tL.length tc) 74)).cell? ⟨bb', off' + q * 8 + 3, none⟩ = some (Iz up) := (((Below.refl _ wr).alloc leZ _).cell (by exact lt2)).trans k3; have kk4 : (wr.alloc (.cells (z4z xk xn tk tp tf tx tn tA tL.length tc) 74)).cell? ⟨bb', off' + q * 8 + 4, none⟩ = some (Sz uf) := (((Below.refl _ wr).alloc leZ _).cell (by exact lt2)).trans k4
   have kk5 : (wr.alloc (.cells (z4z xk xn tk tp tf tx tn tA tL.length tc) 74)).cell? ⟨bb', off' + q * 8 + 5, none⟩ = some (Sz ux) := (((Below.refl _ wr).alloc leZ _).cell (by exact lt2)).trans k5; have kk6 : (wr.alloc (.cells (z4z xk xn tk tp tf tx tn tA tL.length tc) 74)).cell? ⟨bb', off' + q * 8 + 6, none⟩ = some (Iz un) := (((Below.refl _ wr).alloc leZ _).cell (by exact lt2)).trans k6; have kk7 : (wr.alloc (.cells (z4z xk xn tk tp tf tx tn tA tL.length tc) 74)).cell? ⟨bb', off' + q * 8 + 7, none⟩ = some (.slice uA uL.length uc) := (((Below.refl _ wr).alloc leZ _).cell (by exact lt2)).trans k7; clear hc hc'; simp only [Nd.cells, Tree.cells] at hcall; have hbl : Hid (Bz wr ((wr.alloc (.cells (z4z xk xn tk tp tf tx tn tA tL.length tc) 74)).alloc (.cells (z4z yk yn uk up uf ux un uA uL.length uc) 74))) := ((Below.refl _ wr).alloc leZ _).alloc (by simp) _; have hc2 := hdZ (hcall.out _ hbl.out)
   cases bq with
   | true =>
    go_wp2_with (go_at_fn g; refine hc2.out.mono ?_; rintro e w1 ⟨rfl, hb1⟩)
    have hBn : Hid (Bz w w1) := hB.out.trans ((hbl.out.trans (hb1.mono hbl.out.size)).mono hB.out.size)
    go_roundg (n - (q + 1))
    case measure => have := hg'.out; omega
    case rel => exact ⟨q + 1, by omega, rfl, by go_num, hst.out.trans (Bool.true_and _), hBn⟩
   | false =>
    go_wp2_with (go_at_fn g; refine hc2.out.mono ?_; rintro e w1 ⟨rfl, hb1⟩)
    go_ret; exact ⟨by rw [hst.out]; rfl, hB.out.trans ((hbl.out.trans (hb1.mono hbl.out.size)).mono hB.out.size)⟩
  ·have i1 : decide ((q : Int) < (n : Int)) = false := by simp; omega
   have hfin := hdZ (eqBy_end hall.out (by have := hl.out; omega) (by have := hl'.out; omega)); go_wp2_with fail; go_ret; exact ⟨by rw [hfin.out]; rfl, hB.out⟩
theorem sameNeed_any (x y : Nd) (w : World) (ok ok' : Nat → Prop) (hT : Hid (TAz w ok x.rule)) (hU : Hid (TAz w ok' y.rule)) : Cz 45 #[.agg x.cells.toArray, .agg y.cells.toArray] w fun e w' => e = .returned (.bool (eqNd x y)) ∧ Bz w w' := by
 obtain ⟨xk, xn, ⟨k, p, f, x, n, A, c, L⟩⟩ := x
 obtain ⟨yk, yn, ⟨k', p', f', x', n', A', c', L'⟩⟩ := y
 have hres : Hid (eqNd ⟨xk, xn, .mk k p f x n A c L⟩ ⟨yk, yn, .mk k' p' f' x' n' A' c' L'⟩ = (xk == yk && xn == yn && eqR (stz (.mk k p f x n A c L)) (stz (.mk k' p' f' x' n' A' c' L')))) := rfl
 rw [hres.out]
 clear hres
 show Cz 45 #[.agg (z4z xk xn k p f x n A L.length c), .agg #[Iz yk, Iz yn, Iz k', Iz p', .string ⟨f'.toArray⟩, .string ⟨x'.toArray⟩, Iz n', .slice A' L'.length c']] w _
 have hb0 : Hid (Bz w ((w.alloc (.cells (z4z xk xn k p f x n A L.length c) 74)).alloc (.cells #[Iz yk, Iz yn, Iz k', Iz p', .string ⟨f'.toArray⟩, .string ⟨x'.toArray⟩, Iz n', .slice A' L'.length c'] 74))) := ((Below.refl _ w).alloc leZ _).alloc (by simp) _
 have hcall := hdZ (sameP_any (.mk k p f x n A c L) (.mk k' p' f' x' n' A' c' L') _ ok ok' (hT.out.below hb0.out) (hU.out.below hb0.out))
 obtain ⟨bl, hbl⟩ := nmZ (eqR (stz (.mk k p f x n A c L)) (stz (.mk k' p' f' x' n' A' c' L')))
 rw [hbl.out] at hcall ⊢
 simp only [Tree.cells] at hcall
 clear hbl hT hU
 by_cases h0 : ¬ (xk = yk)
 ·have b0 : (xk == yk) = false := by simp [h0]
  rw [b0]
  go_enter Tryz.func45, Tryz.ntmps45
  go_wp2_with fail; go_ret; exact ⟨by simp, hb0.out⟩
 obtain rfl := Classical.not_not.1 h0
 by_cases h1 : ¬ (xn = yn)
 ·have b1 : (xn == yn) = false := by simp [h1]
  rw [b1]
  go_enter Tryz.func45, Tryz.ntmps45
  go_wp2_with fail; go_ret; exact ⟨by simp, hb0.out⟩
 obtain rfl := Classical.not_not.1 h1
 go_enter Tryz.func45, Tryz.ntmps45
 go_wp2_with (go_at_call 84; refine hcall.out.mono ?_; rintro e w1 ⟨rfl, hB1⟩)
 go_ret
 exact ⟨by simp, hb0.out.trans (hB1.mono hb0.out.size)⟩
end Go.Proofs.YtjkmhlfjheiekaaGreatDoor

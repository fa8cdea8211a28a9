import Derived.Deep.RegionHeld3
import Derived.ChangeKeysEq
import Derived.Test.YtjkmhlfjheiekaaGreatDoorSg
import Derived.Test.YtjkmhlfjheiekaaGreatDoorZc
namespace Go.Proofs.YtjkmhlfjheiekaaGreatDoor
open Go Go.RowKit Go.BigFrame Go.Maps
mutual
def eqR : Rul → Rul → Bool
 | .mk k p f x n L, .mk k' p' f' x' n' L' => k == k' && p == p' && f == f' && x == x' && n == n' && eqL L L'
def eqL : List Rul → List Rul → Bool
 | [], [] => true
 | [], _ :: _ => false
 | _ :: _, [] => false
 | a :: L, b :: M => eqR a b && eqL L M
end
mutual
theorem eqR_iff : ∀ a b : Rul, eqR a b = true ↔ a = b
 | .mk k p f x n L, .mk k' p' f' x' n' L' => by
  rw [eqR]; simp only [Bool.and_eq_true, beq_iff_eq, Rul.mk.injEq, eqL_iff L L', and_assoc]
theorem eqL_iff : ∀ L M : List Rul, eqL L M = true ↔ L = M
 | [], [] => by simp [eqL]
 | [], _ :: _ => by simp [eqL]
 | _ :: _, [] => by simp [eqL]
 | a :: L, b :: M => by rw [eqL]; simp only [Bool.and_eq_true, eqR_iff a b, eqL_iff L M, List.cons.injEq]
end
theorem eqR_refl (a : Rul) : eqR a a = true := (eqR_iff a a).2 rfl
theorem eqL_len : ∀ {L M : List Rul}, eqL L M = true → L.length = M.length := fun h => by rw [(eqL_iff _ _).1 h]
def SameC (t : Tree) : Prop := ∀ (u : Tree) (w : World) (ok ok' : Nat → Prop), Hid (TreeAt w ok t) → Hid (TreeAt w ok' u) → Calls Tryz.prog 15 #[.agg t.cells, .agg u.cells] w fun e w' => e = .returned (.bool (eqR (strip t) (strip u))) ∧ Below w.heap.size w w'
theorem eqL_step {L M : List Tree} {q : Nat} {t u : Tree} {r : Bool} (h : r = eqL (strips (L.drop q)) (strips (M.drop q))) (ht : L[q]? = some t) (hu : M[q]? = some u) : r = (eqR (strip t) (strip u) && eqL (strips (L.drop (q + 1))) (strips (M.drop (q + 1)))) := by
 obtain ⟨hq, he⟩ := List.getElem?_eq_some_iff.1 ht
 obtain ⟨hq', he'⟩ := List.getElem?_eq_some_iff.1 hu
 rw [h, List.drop_eq_getElem_cons hq, List.drop_eq_getElem_cons hq', he, he', strips, strips, eqL]
theorem eqL_end {L M : List Tree} {q : Nat} {r : Bool} (h : r = eqL (strips (L.drop q)) (strips (M.drop q))) (h1 : L.length ≤ q) (h2 : M.length ≤ q) : r = true := by
 rw [h, List.drop_eq_nil_of_le h1, List.drop_eq_nil_of_le h2, strips, eqL]
set_option maxRecDepth 100000 in
set_option maxHeartbeats 6400000 in
theorem same_walk (t : Tree) (ih : ∀ u ∈ t.sub, SameC u) : SameC t := by
 intro u w ok ok' hT hU
 obtain ⟨k, p, f, x, n, A, c, L⟩ := t
 obtain ⟨k', p', f', x', n', A', c', L'⟩ := u
 have hT0 := hT.out
 have hU0 := hU.out
 rw [TreeAt] at hT0 hU0
 obtain ⟨hR, hlen⟩ := hT0
 obtain ⟨hS, hlen'⟩ := hU0
 have hR' := hd9 hR
 have hS' := hd9 hS
 obtain ⟨m, hm⟩ : ∃ m, Hid (L.length = m) := ⟨_, hd9 rfl⟩
 obtain ⟨m', hm'⟩ : ∃ m, Hid (L'.length = m) := ⟨_, hd9 rfl⟩
 rw [hm.out] at hlen
 rw [hm'.out] at hlen'
 unfold maxLen at hlen hlen'
 have ih' : Hid (∀ u ∈ L, SameC u) := ih
 have hres : Hid (eqR (strip (.mk k p f x n A c L)) (strip (.mk k' p' f' x' n' A' c' L')) = (k == k' && p == p' && f == f' && x == x' && n == n' && eqL (strips L) (strips L'))) := by unfold Hid; rw [strip, strip, eqR]
 rw [hres.out]
 clear ih hT hU hR hS hres
 show Calls Tryz.prog 15 #[.agg #[.int .i64 k, .int .i64 p, .string ⟨f.toArray⟩, .string ⟨x.toArray⟩, .int .i64 n, .slice A L.length c], .agg #[.int .i64 k', .int .i64 p', .string ⟨f'.toArray⟩, .string ⟨x'.toArray⟩, .int .i64 n', .slice A' L'.length c']] w _
 rw [hm.out, hm'.out]
 have hb0 : Hid (Below w.heap.size w ((w.alloc (.cells #[.int .i64 k, .int .i64 p, .string ⟨f.toArray⟩, .string ⟨x.toArray⟩, .int .i64 n, .slice A m c] 25)).alloc (.cells #[.int .i64 k', .int .i64 p', .string ⟨f'.toArray⟩, .string ⟨x'.toArray⟩, .int .i64 n', .slice A' m' c'] 25))) := ((Below.refl _ w).alloc le9 _).alloc (by simp) _
 have hbx := hd9 ((Blk.new w 25 #[.int .i64 k, .int .i64 p, .string ⟨f.toArray⟩, .string ⟨x.toArray⟩, .int .i64 n, .slice A m c]).alloc (.cells #[.int .i64 k', .int .i64 p', .string ⟨f'.toArray⟩, .string ⟨x'.toArray⟩, .int .i64 n', .slice A' m' c'] 25))
 have hby : Hid (Blk ((w.alloc (.cells #[.int .i64 k, .int .i64 p, .string ⟨f.toArray⟩, .string ⟨x.toArray⟩, .int .i64 n, .slice A m c] 25)).alloc (.cells #[.int .i64 k', .int .i64 p', .string ⟨f'.toArray⟩, .string ⟨x'.toArray⟩, .int .i64 n', .slice A' m' c'] 25)) (w.heap.size + 1) 25 #[.int .i64 k', .int .i64 p', .string ⟨f'.toArray⟩, .string ⟨x'.toArray⟩, .int .i64 n', .slice A' m' c']) := by
  have := Blk.new (w.alloc (.cells #[.int .i64 k, .int .i64 p, .string ⟨f.toArray⟩, .string ⟨x.toArray⟩, .int .i64 n, .slice A m c] 25)) 25 #[.int .i64 k', .int .i64 p', .string ⟨f'.toArray⟩, .string ⟨x'.toArray⟩, .int .i64 n', .slice A' m' c']
  unfold Hid
  simpa using this
 by_cases h0 : k = k'
 ·subst h0
  by_cases h1 : p = p'
  ·subst h1
   by_cases h2 : f = f'
   ·subst h2
    by_cases h3 : x = x'
    ·subst h3
     by_cases h4 : n = n'
     ·subst h4
      by_cases h5 : m = m'
      ·subst h5
       obtain ⟨wa, hwa⟩ : ∃ y, Hid ((w.alloc (.cells #[.int .i64 k, .int .i64 p, .string ⟨f.toArray⟩, .string ⟨x.toArray⟩, .int .i64 n, .slice A m c] 25)).alloc (.cells #[.int .i64 k, .int .i64 p, .string ⟨f.toArray⟩, .string ⟨x.toArray⟩, .int .i64 n, .slice A' m c'] 25) = y) := ⟨_, hd9 rfl⟩
       go_enter Tryz.func15, Tryz.ntmps15
       go_wp2_with fail
       rw [hwa.out] at hb0 hbx hby ⊢
       clear hwa
       go_loopg [5] m (fun gg a wr => ∃ q : Nat, q ≤ m ∧ gg = m - q ∧ a = .int .i64 q ∧ Hid (eqL (strips L) (strips L') = eqL (strips (L.drop q)) (strips (L'.drop q))) ∧ Hid (Below w.heap.size w wr) ∧ Hid (Blk wr w.heap.size 25 #[.int .i64 k, .int .i64 p, .string ⟨f.toArray⟩, .string ⟨x.toArray⟩, .int .i64 n, .slice A m c]) ∧ Hid (Blk wr (w.heap.size + 1) 25 #[.int .i64 k, .int .i64 p, .string ⟨f.toArray⟩, .string ⟨x.toArray⟩, .int .i64 n, .slice A' m c']))
       case atStart => exact ⟨0, Nat.zero_le _, rfl, rfl, rfl, hb0, hbx, hby⟩
       case round =>
        clear hb0 hbx hby
        obtain ⟨q, hq, hg, rfl, hall, hB, hbk, hbk'⟩ := hrel
        have hg' := hd9 hg
        clear hg
        have e5 : wr.cell? ⟨w.heap.size, 5, none⟩ = some (.slice A m c) := hbk.out.cell 5
        have elt := hbk.out.lt
        have e5' : wr.cell? ⟨w.heap.size + 1, 5, none⟩ = some (.slice A' m c') := hbk'.out.cell 5
        have elt' := hbk'.out.lt
        by_cases hlt : q < m
        ·have i1 : decide ((q : Int) < (m : Int)) = true := by simp; omega
         have i2 : (q : Int) < (m : Int) := by omega
         have i3 : (0 : Int) ≤ (q : Int) := by omega
         obtain ⟨t, ht⟩ : ∃ t, L[q]? = some t := ⟨_, List.getElem?_eq_getElem (by have := hm.out; omega)⟩
         obtain ⟨u, hu⟩ : ∃ t, L'[q]? = some t := ⟨_, List.getElem?_eq_getElem (by have := hm'.out; omega)⟩
         have hmem := hd9 (List.mem_of_getElem? ht)
         have hst := hd9 (eqL_step hall.out ht hu)
         obtain ⟨hc, hTt⟩ := (hR'.out.below hB.out).get q t ht
         obtain ⟨hc', hTu⟩ := (hS'.out.below hB.out).get q u hu
         have hcall : Hid (∀ W, Below wr.heap.size wr W → Calls Tryz.prog 15 #[.agg t.cells, .agg u.cells] W fun e w' => e = .returned (.bool (eqR (strip t) (strip u))) ∧ Below W.heap.size W w') := fun W hW => ih'.out t hmem.out u W ok ok' (hTt.below hW) (hTu.below hW)
         clear ht hu hTt hTu hall
         obtain ⟨tk, tp, tf, tx, tn, tA, tc, tL⟩ := t
         obtain ⟨uk, up, uf, ux, un, uA, uc, uL⟩ := u
         obtain ⟨bb, off, rfl, _, g0, g1, g2, g3, g4, g5⟩ := hc
         obtain ⟨bb', off', rfl, _, k0, k1, k2, k3, k4, k5⟩ := hc'
         rw [Nat.zero_add] at g0 g1 g2 g3 g4 g5 k0 k1 k2 k3 k4 k5
         unfold Tree.cells at hcall
         obtain ⟨bq, hbq⟩ : ∃ b, Hid (eqR (strip (.mk tk tp tf tx tn tA tc tL)) (strip (.mk uk up uf ux un uA uc uL)) = b) := ⟨_, hd9 rfl⟩
         rw [hbq.out] at hcall hst
         have hS : Hid (∀ W, Below wr.heap.size wr W → (W.cell? ⟨w.heap.size, 5, none⟩ = some (.slice (some ⟨bb, off, none⟩) m c) ∧ W.cell? ⟨w.heap.size + 1, 5, none⟩ = some (.slice (some ⟨bb', off', none⟩) m c') ∧ W.cell? ⟨bb, off + q * 6, none⟩ = some (.int .i64 tk) ∧ W.cell? ⟨bb, off + q * 6 + 1, none⟩ = some (.int .i64 tp) ∧ W.cell? ⟨bb, off + q * 6 + 2, none⟩ = some (.string ⟨tf.toArray⟩) ∧ W.cell? ⟨bb, off + q * 6 + 3, none⟩ = some (.string ⟨tx.toArray⟩) ∧ W.cell? ⟨bb, off + q * 6 + 4, none⟩ = some (.int .i64 tn) ∧ W.cell? ⟨bb, off + q * 6 + 5, none⟩ = some (.slice tA tL.length tc) ∧ W.cell? ⟨bb', off' + q * 6, none⟩ = some (.int .i64 uk) ∧ W.cell? ⟨bb', off' + q * 6 + 1, none⟩ = some (.int .i64 up) ∧ W.cell? ⟨bb', off' + q * 6 + 2, none⟩ = some (.string ⟨uf.toArray⟩) ∧ W.cell? ⟨bb', off' + q * 6 + 3, none⟩ = some (.string ⟨ux.toArray⟩) ∧ W.cell? ⟨bb', off' + q * 6 + 4, none⟩ = some (.int .i64 un) ∧ W.cell? ⟨bb', off' + q * 6 + 5, none⟩ = some (.slice uA uL.length uc))) := fun W hW => by
          have l1 : bb < wr.heap.size := cell_lt g0
          have l2 : bb' < wr.heap.size := cell_lt k0
          exact ⟨(hW.cell (by exact elt)).trans e5, (hW.cell (by exact elt')).trans e5', (hW.cell (by exact l1)).trans g0, (hW.cell (by exact l1)).trans g1, (hW.cell (by exact l1)).trans g2, (hW.cell (by exact l1)).trans g3, (hW.cell (by exact l1)).trans g4, (hW.cell (by exact l1)).trans g5, (hW.cell (by exact l2)).trans k0, (hW.cell (by exact l2)).trans k1, (hW.cell (by exact l2)).trans k2, (hW.cell (by exact l2)).trans k3, (hW.cell (by exact l2)).trans k4, (hW.cell (by exact l2)).trans k5⟩
         go_upto_region 6 with fail
         go_region_held3 (fun W => W.cell? ⟨w.heap.size, 5, none⟩ = some (.slice (some ⟨bb, off, none⟩) m c) ∧ W.cell? ⟨w.heap.size + 1, 5, none⟩ = some (.slice (some ⟨bb', off', none⟩) m c') ∧ W.cell? ⟨bb, off + q * 6, none⟩ = some (.int .i64 tk) ∧ W.cell? ⟨bb, off + q * 6 + 1, none⟩ = some (.int .i64 tp) ∧ W.cell? ⟨bb, off + q * 6 + 2, none⟩ = some (.string ⟨tf.toArray⟩) ∧ W.cell? ⟨bb, off + q * 6 + 3, none⟩ = some (.string ⟨tx.toArray⟩) ∧ W.cell? ⟨bb, off + q * 6 + 4, none⟩ = some (.int .i64 tn) ∧ W.cell? ⟨bb, off + q * 6 + 5, none⟩ = some (.slice tA tL.length tc) ∧ W.cell? ⟨bb', off' + q * 6, none⟩ = some (.int .i64 uk) ∧ W.cell? ⟨bb', off' + q * 6 + 1, none⟩ = some (.int .i64 up) ∧ W.cell? ⟨bb', off' + q * 6 + 2, none⟩ = some (.string ⟨uf.toArray⟩) ∧ W.cell? ⟨bb', off' + q * 6 + 3, none⟩ = some (.string ⟨ux.toArray⟩) ∧ W.cell? ⟨bb', off' + q * 6 + 4, none⟩ = some (.int .i64 un) ∧ W.cell? ⟨bb', off' + q * 6 + 5, none⟩ = some (.slice uA uL.length uc)) (first | exact hS.out _ (Below.refl _ _) | exact hS.out _ (Below.refl _ _).drew | exact hS.out _ hB2) (first | (go_at_call 15; (with_reducible refine (hcall.out _ ?_).mono ?_); exact (Below.refl _ _).drew; rintro e w2 ⟨rfl, hB2'⟩; have hB2 : Below wr.heap.size wr w2 := (Below.refl _ _).drew.trans hB2'))
         have hBn : Hid (Below w.heap.size w w2) := hB.out.trans (hB2.mono hB.out.size)
         have hbn := hd9 (hbk.out.below hB2 hbk.out.lt)
         have hbn' := hd9 (hbk'.out.below hB2 hbk'.out.lt)
         cases bq with
         | true =>
          go_wp2_with fail
          go_roundg (m - (q + 1))
          case measure => have := hg'.out; omega
          case rel => exact ⟨q + 1, by omega, rfl, by go_num, hst.out.trans (Bool.true_and _), hBn, hbn, hbn'⟩
         | false =>
          go_wp2_with fail
          go_ret
          exact ⟨by rw [hst.out]; simp, hBn.out⟩
        ·have i1 : decide ((q : Int) < (m : Int)) = false := by simp; omega
         have hfin := hd9 (eqL_end hall.out (by have := hm.out; omega) (by have := hm'.out; omega))
         go_wp2_with fail
         go_ret
         exact ⟨by rw [hfin.out]; simp, hB.out⟩
      ·have hne : eqL (strips L) (strips L') = false := by
        cases h : eqL (strips L) (strips L') with
        | false => rfl
        | true => have := eqL_len h; rw [strips_map, strips_map, List.length_map, List.length_map, hm.out, hm'.out] at this; exact absurd this h5
       have b5 : ((m : Int) == (m' : Int)) = false := by simp; omega
       have b5' : ((m : Int) != (m' : Int)) = true := by simp; omega
       rw [hne]
       go_enter Tryz.func15, Tryz.ntmps15
       go_wp2_with fail
       go_ret
       exact ⟨by simp, hb0.out⟩
     ·have b4 : (n == n') = false := by simp [h4]
      have b4' : (n != n') = true := by simp [h4]
      rw [b4]
      go_enter Tryz.func15, Tryz.ntmps15
      go_wp2_with fail
      go_ret
      exact ⟨by simp, hb0.out⟩
    ·have b3 : (x == x') = false := by simp [h3]
     rw [b3]
     go_enter Tryz.func15, Tryz.ntmps15
     go_wp2_with fail
     go_ret
     exact ⟨by simp, hb0.out⟩
   ·have b2 : (f == f') = false := by simp [h2]
    rw [b2]
    go_enter Tryz.func15, Tryz.ntmps15
    go_wp2_with fail
    go_ret
    exact ⟨by simp, hb0.out⟩
  ·have b1 : (p == p') = false := by simp [h1]
   have b1' : (p != p') = true := by simp [h1]
   rw [b1]
   go_enter Tryz.func15, Tryz.ntmps15
   go_wp2_with fail
   go_ret
   exact ⟨by simp, hb0.out⟩
 ·have b0 : (k == k') = false := by simp [h0]
  have b0' : (k != k') = true := by simp [h0]
  rw [b0]
  go_enter Tryz.func15, Tryz.ntmps15
  go_wp2_with fail
  go_ret
  exact ⟨by simp, hb0.out⟩
theorem same_any : ∀ t : Tree, SameC t := Tree.every fun t ih => same_walk t ih
end Go.Proofs.YtjkmhlfjheiekaaGreatDoor
namespace Go.Proofs.YtjkmhlfjheiekaaGreatDoor
open Go Go.RowKit Go.BigFrame Go.Maps
end Go.Proofs.YtjkmhlfjheiekaaGreatDoor
namespace Go.Proofs.YtjkmhlfjheiekaaGreatDoor
open Go Go.RowKit Go.BigFrame Go.Maps
structure Crd where
 number : Txt
 applicant : Txt
 beneficiary : Txt
 issuer : Txt
 confirmer : Txt
 orig : Txt
 dest : Txt
 currency : Txt
 amount : Int
 above : Int
 below : Int
 latest : Int
 expiry : Int
 within : Int
 tenor : Int
 part : Bool
 change : Bool
abbrev Crd.cells (c : Crd) (needs : Value) : Array Value := #[.string ⟨c.number.toArray⟩, .string ⟨c.applicant.toArray⟩, .string ⟨c.beneficiary.toArray⟩, .string ⟨c.issuer.toArray⟩, .string ⟨c.confirmer.toArray⟩, .string ⟨c.orig.toArray⟩, .string ⟨c.dest.toArray⟩, .string ⟨c.currency.toArray⟩, .int .i64 c.amount, .int .i64 c.above, .int .i64 c.below, .int .i64 c.latest, .int .i64 c.expiry, .int .i64 c.within, .int .i64 c.tenor, .bool c.part, .bool c.change, needs]
structure Nd where
 kind : Int
 count : Int
 rule : Tree
def Nd.cells (x : Nd) : List Value := .int .i64 x.kind :: .int .i64 x.count :: x.rule.cells.toList
def NdsAt (w : World) (ok : Nat → Prop) (A : Option Addr) (l : List Nd) : Prop :=
 ∀ (k : Nat) (x : Nd), l[k]? = some x → ∃ b off, A = some ⟨b, off, none⟩ ∧ ok b ∧ (∀ i u, x.cells[i]? = some u → w.cell? ⟨b, off + k * 8 + i, none⟩ = some u) ∧ TreeAt w ok x.rule
theorem Nd.cells_len (x : Nd) : x.cells.length = 8 := by obtain ⟨k, n, ⟨a, b, c, d, e, f, g, h⟩⟩ := x; rfl
theorem NdsAt.below {w w' : World} {ok : Nat → Prop} {A : Option Addr} {l : List Nd} (h : NdsAt w ok A l) (hb : Below w.heap.size w w') : NdsAt w' ok A l := fun k x hx => by
 obtain ⟨b, off, e, hk, hc, hT⟩ := h k x hx
 have h0 := hc 0 _ rfl
 have hlt : b < w.heap.size := World.block_lt_of_cell? w _ h0
 exact ⟨b, off, e, hk, fun i u hu => (hb.cell (by exact hlt)).trans (hc i u hu), hT.below hb⟩
end Go.Proofs.YtjkmhlfjheiekaaGreatDoor
namespace Go.Proofs.YtjkmhlfjheiekaaGreatDoor
open Go Go.RowKit Go.BigFrame Go.Maps
def wCredit : Txt := [99, 114, 101, 100, 105, 116]
def wApplicant : Txt := [97, 112, 112, 108, 105, 99, 97, 110, 116]
def wBeneficiary : Txt := [98, 101, 110, 101, 102, 105, 99, 105, 97, 114, 121]
def wIssuer : Txt := [105, 115, 115, 117, 101, 114]
def wConfirmer : Txt := [99, 111, 110, 102, 105, 114, 109, 101, 114]
def wFrom : Txt := [102, 114, 111, 109]
def wTo : Txt := [116, 111]
def wSum : Txt := [115, 117, 109]
def wAbove : Txt := [97, 98, 111, 118, 101]
def wBelow : Txt := [98, 101, 108, 111, 119]
def wLatest : Txt := [108, 97, 116, 101, 115, 116]
def wExpiry : Txt := [101, 120, 112, 105, 114, 121]
def wWithin : Txt := [119, 105, 116, 104, 105, 110]
def wDays : Txt := [100, 97, 121, 115]
def wTenor : Txt := [116, 101, 110, 111, 114]
def wSight : Txt := [115, 105, 103, 104, 116]
def wPartial : Txt := [112, 97, 114, 116, 105, 97, 108]
def wChange : Txt := [99, 104, 97, 110, 103, 101]
def wYes : Txt := [121, 101, 115]
def wNo : Txt := [110, 111]
def wWants : Txt := [119, 97, 110, 116, 115]
def wCopies : Txt := [99, 111, 112, 105, 101, 115]
def wWith : Txt := [119, 105, 116, 104]
def sSemi : Txt := [59]
abbrev NdP := Int × Int × Rul
def endS (e : Nat) (l : List Tok) (st : St) : St := (takeS e l (signB sSemi) st).2
def lineS (e : Nat) (l : List Tok) (x : Txt) (st : St) : Txt × St := ((takeS e l namedB (takeS e l (wordB x) st).2).1, endS e l (takeS e l namedB (takeS e l (wordB x) st).2).2)
def dayS (e : Nat) (l : List Tok) (x : Txt) (st : St) : Int × St := ((numS e l 0 1048576 (takeS e l (wordB x) st).2).1, endS e l (numS e l 0 1048576 (takeS e l (wordB x) st).2).2)
def yesB (t : Tok) : Bool := t.kind == 0 && [wYes, wNo].contains t.text
def choiceS (e : Nat) (l : List Tok) (x : Txt) (st : St) : Bool × St := ((takeS e l yesB (takeS e l (wordB x) st).2).1 == wYes, endS e l (takeS e l yesB (takeS e l (wordB x) st).2).2)
def tenS (e : Nat) (l : List Tok) (st : St) : Int × St := if askS l st 0 (wordB wSight) = true then (0, endS e l st.step) else ((numS e l 1 1048576 st).1, endS e l (takeS e l (wordB wDays) (numS e l 1 1048576 st).2).2)
def tenorS (e : Nat) (l : List Tok) (st : St) : Int × St := tenS e l (takeS e l (wordB wTenor) st).2
structure SumS where
 cur : Txt
 amount : Int
 above : Int
 below : Int
def sumS (e : Nat) (l : List Tok) (st : St) : SumS × St :=
 let a := takeS e l (kindB 4) (takeS e l (wordB wSum) st).2
 let b := numS e l 1 1099511627776 a.2
 let c := numS e l 0 1000 (takeS e l (wordB wAbove) b.2).2
 let d := numS e l 0 1000 (takeS e l (wordB wBelow) c.2).2
 (⟨a.1, b.1, c.1, d.1⟩, endS e l d.2)
def wholeG (e : Nat) (l : List Tok) (st : St) : Rul × St := (wholeS e l (2 * l.length + 2) st).getD (emptyR, st)
def withS (e : Nat) (l : List Tok) (st : St) : Rul × St := if askS l st 0 (wordB wWith) = true then wholeG e l st.step else (emptyR, st)
def needS (e : Nat) (l : List Tok) (st : St) : NdP × St :=
 let a := takeS e l paperB (takeS e l (wordB wWants) st).2
 let b := numS e l 1 9 (takeS e l (wordB wCopies) a.2).2
 let c := withS e l b.2
 ((max (paperI a.1) 0, b.1, c.1), endS e l c.2)
def fullS (e : Nat) (l : List Tok) (c : Nat) (st : St) : St := if 64 ≤ c ∧ askS l st 0 (wordB wWants) = true then failS st (placeS e l st) 7 else st
def needsS (e : Nat) (l : List Tok) : Nat → Nat → St → List NdP × St
 | 0, _, st => ([], st)
 | n + 1, c, st => if st.cd = 0 ∧ st.k < l.length then (((needS e l (fullS e l c st)).1 :: (needsS e l n (c + 1) (needS e l (fullS e l c st)).2).1), (needsS e l n (c + 1) (needS e l (fullS e l c st)).2).2) else ([], st)
def confS (e : Nat) (l : List Tok) (st : St) : Txt × St := if askS l st 0 (wordB wConfirmer) = true then lineS e l wConfirmer st else ([], st)
def creditS (e : Nat) (l : List Tok) (st : St) : (Crd × List NdP) × St :=
 let a1 := lineS e l wCredit st
 let a2 := lineS e l wApplicant a1.2
 let a3 := lineS e l wBeneficiary a2.2
 let a4 := lineS e l wIssuer a3.2
 let a5 := confS e l a4.2
 let a6 := lineS e l wFrom a5.2
 let a7 := lineS e l wTo a6.2
 let a8 := sumS e l a7.2
 let a9 := dayS e l wLatest a8.2
 let a10 := dayS e l wExpiry a9.2
 let a11 := numS e l 0 1048576 (takeS e l (wordB wWithin) a10.2).2
 let s12 := endS e l (takeS e l (wordB wDays) a11.2).2
 let a12 := tenorS e l s12
 let a13 := choiceS e l wPartial a12.2
 let a14 := choiceS e l wChange a13.2
 let a15 := needsS e l (l.length + 1) 0 a14.2
 ((⟨a1.1, a2.1, a3.1, a4.1, a5.1, a6.1, a7.1, a8.1.cur, a8.1.amount, a8.1.above, a8.1.below, a9.1, a10.1, a11.1, a12.1, a13.1, a14.1⟩, a15.1), a15.2)
def parseT (s : Txt) : Except (Nat × Int) (Crd × List NdP) :=
 if 4096 < s.length then .error (0, 7)
 else match scanT s with
  | .error q => .error q
  | .ok l => if (creditS s.length l ⟨0, 0, 0⟩).2.cd = 0 then .ok (creditS s.length l ⟨0, 0, 0⟩).1 else .error ((creditS s.length l ⟨0, 0, 0⟩).2.pl, (creditS s.length l ⟨0, 0, 0⟩).2.cd)
def Keeps {α : Type} (f : St → α × St) : Prop := ∀ st : St, st.cd ≠ 0 → (f st).2 = st
theorem take_keeps (e : Nat) (l : List Tok) (p : Tok → Bool) : Keeps (takeS e l p) := fun st h => by rw [take_bad h]
theorem num_keeps (e : Nat) (l : List Tok) (lo hi : Int) : Keeps (numS e l lo hi) := fun st h => by rw [num_bad h]
theorem end_bad {e : Nat} {l : List Tok} {st : St} (h : st.cd ≠ 0) : endS e l st = st := take_keeps e l _ st h
theorem line_keeps (e : Nat) (l : List Tok) (x : Txt) : Keeps (lineS e l x) := fun st h => by
 unfold lineS; rw [take_bad h, take_bad h]; exact end_bad h
theorem day_keeps (e : Nat) (l : List Tok) (x : Txt) : Keeps (dayS e l x) := fun st h => by
 unfold dayS; rw [take_bad h, num_bad h]; exact end_bad h
theorem choice_keeps (e : Nat) (l : List Tok) (x : Txt) : Keeps (choiceS e l x) := fun st h => by
 unfold choiceS; rw [take_bad h, take_bad h]; exact end_bad h
theorem ten_keeps (e : Nat) (l : List Tok) : Keeps (tenS e l) := fun st h => by
 unfold tenS; rw [if_neg (by rw [ask_bad h]; simp), num_bad h, take_bad h]; exact end_bad h
theorem tenor_keeps (e : Nat) (l : List Tok) : Keeps (tenorS e l) := fun st h => by
 unfold tenorS; rw [take_bad h]; exact ten_keeps e l st h
theorem sum_keeps (e : Nat) (l : List Tok) : Keeps (sumS e l) := fun st h => by
 unfold sumS; simp only [take_bad h, num_bad h]; exact end_bad h
theorem with_keeps (e : Nat) (l : List Tok) : Keeps (withS e l) := fun st h => by
 unfold withS; rw [if_neg (by rw [ask_bad h]; simp)]
theorem need_keeps (e : Nat) (l : List Tok) : Keeps (needS e l) := fun st h => by
 unfold needS; simp only [take_bad h, num_bad h]; rw [with_keeps e l st h]; exact end_bad h
theorem conf_keeps (e : Nat) (l : List Tok) : Keeps (confS e l) := fun st h => by
 unfold confS; rw [if_neg (by rw [ask_bad h]; simp)]
theorem needs_bad {e : Nat} {l : List Tok} {st : St} (h : st.cd ≠ 0) (n c : Nat) : needsS e l n c st = ([], st) := by
 cases n with
 | zero => rfl
 | succ n => rw [needsS, if_neg (fun hx => h hx.1)]
theorem credit_bad {e : Nat} {l : List Tok} {st : St} (h : st.cd ≠ 0) : (creditS e l st).2 = st := by
 unfold creditS
 simp only [line_keeps e l _ st h, conf_keeps e l st h, sum_keeps e l st h, day_keeps e l _ st h, take_bad h, num_bad h, end_bad h, tenor_keeps e l st h, choice_keeps e l _ st h, needs_bad h]
theorem whole_fuel {e : Nat} {l : List Tok} {st : St} (h : st.cd ≠ 0 ∨ st.k ≤ l.length) : wholeS e l (2 * l.length + 2) st = some (wholeG e l st) := by
 have ha := whole_agree e l (2 * l.length + 2) (by omega)
 by_cases hz : st.cd = 0
 ·rcases h with h | h
  ·exact absurd hz h
  ·obtain ⟨x, y, h1, _⟩ := ha.2 st ⟨hz, h⟩ (by omega)
   unfold wholeG; rw [h1]; rfl
 ·obtain ⟨r, h1⟩ := ha.1 st hz
  unfold wholeG; rw [h1]; rfl
def Adv {α : Type} (f : St → α × St) : Prop := ∀ st : St, (f st).2.cd = 0 → st.cd = 0 ∧ st.k ≤ (f st).2.k
theorem take_more {e : Nat} {l : List Tok} {p : Tok → Bool} {st : St} (h : (takeS e l p st).2.cd = 0) : st.cd = 0 ∧ (takeS e l p st).2.k = st.k + 1 := by
 by_cases hz : st.cd = 0
 ·obtain ⟨t, _, _, h3⟩ := take_ok h
  exact ⟨hz, by rw [h3]; rfl⟩
 ·rw [take_bad hz] at h; exact absurd h hz
theorem num_adv (e : Nat) (l : List Tok) (lo hi : Int) : Adv (numS e l lo hi) := fun st h => by
 unfold numS at h ⊢
 by_cases hz : (takeS e l (kindB 2) st).2.cd = 0
 ·rw [if_pos hz] at h ⊢
  obtain ⟨h1, h2⟩ := take_more hz
  simp only at h ⊢
  split at h
  ·rename_i hx
   rw [fail_fine hz] at h
   exact absurd h (show ¬ ((3 : Int) = 0) by decide)
  ·rename_i hx
   rw [if_neg hx]
   exact ⟨h1, by omega⟩
 ·rw [if_neg hz] at h; exact absurd h hz
theorem end_more {e : Nat} {l : List Tok} {st : St} (h : (endS e l st).cd = 0) : st.cd = 0 ∧ (endS e l st).k = st.k + 1 := take_more h
theorem whole_adv (e : Nat) (l : List Tok) {st : St} (hk : st.k ≤ l.length) (h : (wholeG e l st).2.cd = 0) : st.cd = 0 ∧ st.k < (wholeG e l st).2.k := by
 have ha := whole_agree e l (2 * l.length + 2) (by omega)
 by_cases hz : st.cd = 0
 ·obtain ⟨x, y, h1, _, _, h4⟩ := ha.2 st ⟨hz, hk⟩ (by omega)
  unfold wholeG at h ⊢
  rw [h1] at h ⊢
  exact ⟨hz, h4 h⟩
 ·obtain ⟨r, h1⟩ := ha.1 st hz
  unfold wholeG at h
  rw [h1] at h
  exact absurd h hz
theorem with_adv (e : Nat) (l : List Tok) : Adv (withS e l) := fun st h => by
 unfold withS at h ⊢
 by_cases ha : askS l st 0 (wordB wWith) = true
 ·rw [if_pos ha] at h ⊢
  obtain ⟨hcd, t, hlk, _, _⟩ := ask_step ha
  have hlt : st.k < l.length := (List.getElem?_eq_some_iff.1 hlk).1
  have h2 := (whole_adv e l (st := st.step) (show st.k + 1 ≤ l.length from hlt) h).2
  have h3 : st.step.k = st.k + 1 := rfl
  exact ⟨hcd, by omega⟩
 ·rw [if_neg ha] at h ⊢; exact ⟨h, Nat.le_refl _⟩
theorem need_more {e : Nat} {l : List Tok} {st : St} (h : (needS e l st).2.cd = 0) : st.cd = 0 ∧ st.k < (needS e l st).2.k := by
 unfold needS at h ⊢
 simp only at h ⊢
 obtain ⟨h1, g1⟩ := end_more h
 obtain ⟨h2, g2⟩ := with_adv e l _ h1
 obtain ⟨h3, g3⟩ := num_adv e l 1 9 _ h2
 obtain ⟨h4, g4⟩ := take_more h3
 obtain ⟨h5, g5⟩ := take_more h4
 obtain ⟨h6, g6⟩ := take_more h5
 exact ⟨h6, by omega⟩
theorem full_k (e : Nat) (l : List Tok) (c : Nat) (st : St) : (fullS e l c st).k = st.k := by
 unfold fullS failS
 split
 ·split <;> rfl
 ·rfl
end Go.Proofs.YtjkmhlfjheiekaaGreatDoor
namespace Go.Proofs.YtjkmhlfjheiekaaGreatDoor
open Go Go.RowKit Go.BigFrame Go.Maps
def eqBy {α : Type} (p : α → α → Bool) : List α → List α → Bool
 | [], [] => true
 | [], _ :: _ => false
 | _ :: _, [] => false
 | a :: L, b :: M => p a b && eqBy p L M
theorem eqBy_step {α : Type} {p : α → α → Bool} {L M : List α} {q : Nat} {t u : α} {r : Bool} (h : r = eqBy p (L.drop q) (M.drop q)) (ht : L[q]? = some t) (hu : M[q]? = some u) : r = (p t u && eqBy p (L.drop (q + 1)) (M.drop (q + 1))) := by
 obtain ⟨hq, he⟩ := List.getElem?_eq_some_iff.1 ht
 obtain ⟨hq', he'⟩ := List.getElem?_eq_some_iff.1 hu
 rw [h, List.drop_eq_getElem_cons hq, List.drop_eq_getElem_cons hq', he, he', eqBy]
theorem eqBy_end {α : Type} {p : α → α → Bool} {L M : List α} {q : Nat} {r : Bool} (h : r = eqBy p (L.drop q) (M.drop q)) (h1 : L.length ≤ q) (h2 : M.length ≤ q) : r = true := by
 rw [h, List.drop_eq_nil_of_le h1, List.drop_eq_nil_of_le h2, eqBy]
theorem eqBy_len {α : Type} {p : α → α → Bool} : ∀ {L M : List α}, eqBy p L M = true → L.length = M.length
 | [], [], _ => rfl
 | [], _ :: _, h => by cases h
 | _ :: _, [], h => by cases h
 | a :: L, b :: M, h => by
  rw [eqBy, Bool.and_eq_true] at h
  rw [List.length_cons, List.length_cons, eqBy_len h.2]
def eqNd (x y : Nd) : Bool := x.kind == y.kind && x.count == y.count && eqR (strip x.rule) (strip y.rule)
end Go.Proofs.YtjkmhlfjheiekaaGreatDoor
namespace Go.Proofs.YtjkmhlfjheiekaaGreatDoor
open Go Go.RowKit Go.BigFrame Go.Maps
section
variable {P : Program} (w : World)
end
def eqNm (c d : Crd) : Bool := c.number == d.number && c.applicant == d.applicant && c.beneficiary == d.beneficiary && c.issuer == d.issuer && c.confirmer == d.confirmer && c.orig == d.orig && c.dest == d.dest
def eqNu (c d : Crd) : Bool := c.above == d.above && c.below == d.below && c.latest == d.latest && c.expiry == d.expiry && c.within == d.within && c.tenor == d.tenor
def eqCr (c d : Crd) : Bool := eqNm c d && eqNu c d && c.currency == d.currency && c.amount == d.amount && c.part == d.part && c.change == d.change
end Go.Proofs.YtjkmhlfjheiekaaGreatDoor

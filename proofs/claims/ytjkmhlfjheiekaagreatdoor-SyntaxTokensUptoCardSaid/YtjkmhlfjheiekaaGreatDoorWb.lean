/- Is a rule little: the walk of few. -/
import Derived.Deep.RegionHeld3
import Derived.Test.YtjkmhlfjheiekaaGreatDoorZc
namespace Go.Proofs.YtjkmhlfjheiekaaGreatDoor
open Go Go.RowKit Go.BigFrame Go.Maps

mutual
/-- Are two rules one? -/
def eqR : Rul → Rul → Bool
  | .mk k p f x n L, .mk k' p' f' x' n' L' => k == k' && p == p' && f == f' && x == x' && n == n' && eqL L L'
def eqL : List Rul → List Rul → Bool
  | [], [] => true
  | [], _ :: _ => false
  | _ :: _, [] => false
  | a :: L, b :: M => eqR a b && eqL L M
end
mutual
theorem eqR_iff : ∀ a b : Rul, eqR a b = true ↔ a = b
  | .mk k p f x n L, .mk k' p' f' x' n' L' => by
    rw [eqR]; simp only [Bool.and_eq_true, beq_iff_eq, Rul.mk.injEq, eqL_iff L L', and_assoc]
theorem eqL_iff : ∀ L M : List Rul, eqL L M = true ↔ L = M
  | [], [] => by simp [eqL]
  | [], _ :: _ => by simp [eqL]
  | _ :: _, [] => by simp [eqL]
  | a :: L, b :: M => by rw [eqL]; simp only [Bool.and_eq_true, eqR_iff a b, eqL_iff L M, List.cons.injEq]
end
theorem eqR_refl (a : Rul) : eqR a a = true := (eqR_iff a a).2 rfl
end Go.Proofs.YtjkmhlfjheiekaaGreatDoor
namespace Go.Proofs.YtjkmhlfjheiekaaGreatDoor
open Go Go.RowKit Go.BigFrame Go.Maps

mutual
/-- Is a rule little, so that it is gone through soon? -/
def fewR : Nat → Rul → Bool
  | d, .mk _ _ f x _ L => !(decide (20 < d) || decide (70 < L.length) || decide (40 < f.length) || decide (200 < x.length)) && fewL (d + 1) L
def fewL : Nat → List Rul → Bool
  | _, [] => true
  | d, r :: L => fewR d r && fewL d L
end
theorem fewL_step {L : List Tree} {q d : Nat} {t : Tree} {r : Bool} (h : r = fewL d (strips (L.drop q))) (ht : L[q]? = some t) : r = (fewR d (strip t) && fewL d (strips (L.drop (q + 1)))) := by
  obtain ⟨hq, he⟩ := List.getElem?_eq_some_iff.1 ht
  rw [h, List.drop_eq_getElem_cons hq, he, strips, fewL]
theorem fewL_end {L : List Tree} {q d : Nat} {r : Bool} (h : r = fewL d (strips (L.drop q))) (h1 : L.length ≤ q) : r = true := by
  rw [h, List.drop_eq_nil_of_le h1, strips, fewL]
def FewC (t : Tree) : Prop := ∀ (d : Nat) (w : World) (ok : Nat → Prop), d ≤ 21 → Hid (TreeAt w ok t) → Calls Tryz.prog 16 #[.agg t.cells, .int .i64 d] w fun e w' => e = .returned (.bool (fewR d (strip t))) ∧ Below w.heap.size w w'
set_option maxRecDepth 100000 in
set_option maxHeartbeats 6400000 in
theorem few_walk (t : Tree) (ih : ∀ u ∈ t.sub, FewC u) : FewC t := by
  intro d w ok hd hT
  obtain ⟨k, p, f, x, n, A, c, L⟩ := t
  have hT0 := hT.out
  rw [TreeAt] at hT0
  obtain ⟨hR, hlen⟩ := hT0
  have hR' := Lib.hid hR
  obtain ⟨m, hm⟩ : ∃ m, Hid (L.length = m) := ⟨_, Lib.hid rfl⟩
  rw [hm.out] at hlen
  unfold maxLen at hlen
  have ih' : Hid (∀ u ∈ L, FewC u) := ih
  have hres : Hid (fewR d (strip (.mk k p f x n A c L)) = (!(decide (20 < d) || decide (70 < m) || decide (40 < f.length) || decide (200 < x.length)) && fewL (d + 1) (strips L))) := by unfold Hid; rw [strip, fewR, strips_map, List.length_map, hm.out]
  rw [hres.out]
  clear ih hT hR hres
  show Calls Tryz.prog 16 #[.agg #[.int .i64 k, .int .i64 p, .string ⟨f.toArray⟩, .string ⟨x.toArray⟩, .int .i64 n, .slice A L.length c], .int .i64 d] w _
  rw [hm.out]
  have hb0 : Hid (Below w.heap.size w (w.alloc (.cells #[.int .i64 k, .int .i64 p, .string ⟨f.toArray⟩, .string ⟨x.toArray⟩, .int .i64 n, .slice A m c] 25))) := (Below.refl _ w).alloc (Nat.le_refl _) _
  have hbx := Lib.hid (Blk.new w 25 #[.int .i64 k, .int .i64 p, .string ⟨f.toArray⟩, .string ⟨x.toArray⟩, .int .i64 n, .slice A m c])
  have ez1 : (⟨f.toArray⟩ : ByteArray).size = f.length := by simp [ByteArray.size]
  have ez2 : (⟨x.toArray⟩ : ByteArray).size = x.length := by simp [ByteArray.size]
  obtain ⟨fl, hfl⟩ : ∃ y, Hid (f.length = y) := ⟨_, Lib.hid rfl⟩
  obtain ⟨xl, hxl⟩ : ∃ y, Hid (x.length = y) := ⟨_, Lib.hid rfl⟩
  rw [hfl.out] at ez1 ⊢
  rw [hxl.out] at ez2 ⊢
  by_cases h0 : 20 < d
  · have b0 : decide ((20 : Int) < (d : Int)) = true := by simp; omega
    rw [show decide (20 < d) = true by simp; omega]
    go_enter Tryz.func16, Tryz.ntmps16
    go_wp2_with fail
    go_ret
    exact ⟨by simp, hb0.out⟩
  · have b0 : decide ((20 : Int) < (d : Int)) = false := by simp; omega
    rw [show decide (20 < d) = false by simp; omega]
    by_cases h1 : 70 < m
    · have b1 : decide ((70 : Int) < (m : Int)) = true := by simp; omega
      rw [show decide (70 < m) = true by simp; omega]
      go_enter Tryz.func16, Tryz.ntmps16
      go_wp2_with fail
      go_ret
      exact ⟨by simp, hb0.out⟩
    · have b1 : decide ((70 : Int) < (m : Int)) = false := by simp; omega
      rw [show decide (70 < m) = false by simp; omega]
      by_cases h2 : 40 < fl
      · have b2 : decide ((40 : Int) < (fl : Int)) = true := by simp; omega
        rw [show decide (40 < fl) = true by simp; omega]
        go_enter Tryz.func16, Tryz.ntmps16
        go_wp2_with fail
        go_ret
        exact ⟨by simp, hb0.out⟩
      · have b2 : decide ((40 : Int) < (fl : Int)) = false := by simp; omega
        rw [show decide (40 < fl) = false by simp; omega]
        by_cases h3 : 200 < xl
        · have b3 : decide ((200 : Int) < (xl : Int)) = true := by simp; omega
          rw [show decide (200 < xl) = true by simp; omega]
          go_enter Tryz.func16, Tryz.ntmps16
          go_wp2_with fail
          go_ret
          exact ⟨by simp, hb0.out⟩
        · have b3 : decide ((200 : Int) < (xl : Int)) = false := by simp; omega
          rw [show decide (200 < xl) = false by simp; omega]
          have w1x : IntKind.i64.wrap ((d : Int) + 1) = ((d + 1 : Nat) : Int) := by rw [IntWalk.i64_in _ (by omega)]; omega
          obtain ⟨wa, hwa⟩ : ∃ y, Hid (w.alloc (.cells #[.int .i64 k, .int .i64 p, .string ⟨f.toArray⟩, .string ⟨x.toArray⟩, .int .i64 n, .slice A m c] 25) = y) := ⟨_, Lib.hid rfl⟩
          go_enter Tryz.func16, Tryz.ntmps16
          go_wp2_with fail
          rw [hwa.out] at hb0 hbx ⊢
          clear hwa
          go_loopg [5] m (fun gg a wr => ∃ q : Nat, q ≤ m ∧ gg = m - q ∧ a = .int .i64 q ∧ Hid (fewL (d + 1) (strips L) = fewL (d + 1) (strips (L.drop q))) ∧ Hid (Below w.heap.size w wr) ∧ Hid (Blk wr w.heap.size 25 #[.int .i64 k, .int .i64 p, .string ⟨f.toArray⟩, .string ⟨x.toArray⟩, .int .i64 n, .slice A m c]))
          case atStart => exact ⟨0, Nat.zero_le _, rfl, rfl, rfl, hb0, hbx⟩
          case round =>
            clear hb0 hbx
            obtain ⟨q, hq, hg, rfl, hall, hB, hbk⟩ := hrel
            have hg' := Lib.hid hg
            clear hg
            have e5 : wr.cell? ⟨w.heap.size, 5, none⟩ = some (.slice A m c) := hbk.out.cell 5
            have elt := hbk.out.lt
            by_cases hlt : q < m
            · have i1 : decide ((q : Int) < (m : Int)) = true := by simp; omega
              have i2 : (q : Int) < (m : Int) := by omega
              have i3 : (0 : Int) ≤ (q : Int) := by omega
              obtain ⟨t, ht⟩ : ∃ t, L[q]? = some t := ⟨_, List.getElem?_eq_getElem (by have := hm.out; omega)⟩
              have hmem := Lib.hid (List.mem_of_getElem? ht)
              have hst := Lib.hid (fewL_step hall.out ht)
              obtain ⟨hc, hTt⟩ := (hR'.out.below hB.out).get q t ht
              have hcall := Lib.hid (ih'.out t hmem.out (d + 1) wr ok (by omega) hTt)
              clear ht hTt hall
              obtain ⟨tk, tp, tf, tx, tn, tA, tc, tL⟩ := t
              obtain ⟨bb, off, rfl, _, g0, g1, g2, g3, g4, g5⟩ := hc
              rw [Nat.zero_add] at g0 g1 g2 g3 g4 g5
              unfold Tree.cells at hcall
              obtain ⟨bq, hbq⟩ : ∃ b, Hid (fewR (d + 1) (strip (.mk tk tp tf tx tn tA tc tL)) = b) := ⟨_, Lib.hid rfl⟩
              rw [hbq.out] at hcall hst
              go_wp2_with fail
              refine hcall.out.mono ?_
              rintro e w2 ⟨rfl, hB2⟩
              have hBn : Hid (Below w.heap.size w w2) := hB.out.trans (hB2.mono hB.out.size)
              have hbn := Lib.hid (hbk.out.below hB2 hbk.out.lt)
              clear hB2 g0 g1 g2 g3 g4 g5 e5 elt hcall
              cases bq with
              | true =>
                go_wp2_with fail
                go_roundg (m - (q + 1))
                case measure => have := hg'.out; omega
                case rel => exact ⟨q + 1, by omega, rfl, by go_num, hst.out.trans (Bool.true_and _), hBn, hbn⟩
              | false =>
                go_wp2_with fail
                go_ret
                exact ⟨by rw [hst.out]; simp, hBn.out⟩
            · have i1 : decide ((q : Int) < (m : Int)) = false := by simp; omega
              have hfin := Lib.hid (fewL_end hall.out (by have := hm.out; omega))
              go_wp2_with fail
              go_ret
              exact ⟨by rw [hfin.out]; simp, hB.out⟩
theorem few_any : ∀ t : Tree, FewC t := Tree.every fun t ih => few_walk t ih
end Go.Proofs.YtjkmhlfjheiekaaGreatDoor

namespace Go.Proofs.YtjkmhlfjheiekaaGreatDoor
open Go Go.RowKit Go.BigFrame Go.Maps

structure Crd where
  number : Txt
  applicant : Txt
  beneficiary : Txt
  issuer : Txt
  confirmer : Txt
  orig : Txt
  dest : Txt
  currency : Txt
  amount : Int
  above : Int
  below : Int
  latest : Int
  expiry : Int
  within : Int
  tenor : Int
  part : Bool
  change : Bool
abbrev Crd.cells (c : Crd) (needs : Value) : Array Value := #[.string ⟨c.number.toArray⟩, .string ⟨c.applicant.toArray⟩, .string ⟨c.beneficiary.toArray⟩, .string ⟨c.issuer.toArray⟩, .string ⟨c.confirmer.toArray⟩, .string ⟨c.orig.toArray⟩, .string ⟨c.dest.toArray⟩, .string ⟨c.currency.toArray⟩, .int .i64 c.amount, .int .i64 c.above, .int .i64 c.below, .int .i64 c.latest, .int .i64 c.expiry, .int .i64 c.within, .int .i64 c.tenor, .bool c.part, .bool c.change, needs]
structure Nd where
  kind : Int
  count : Int
  rule : Tree
def Nd.cells (x : Nd) : List Value := .int .i64 x.kind :: .int .i64 x.count :: x.rule.cells.toList
def NdsAt (w : World) (ok : Nat → Prop) (A : Option Addr) (l : List Nd) : Prop :=
  ∀ (k : Nat) (x : Nd), l[k]? = some x → ∃ b off, A = some ⟨b, off, none⟩ ∧ ok b ∧ (∀ i u, x.cells[i]? = some u → w.cell? ⟨b, off + k * 8 + i, none⟩ = some u) ∧ TreeAt w ok x.rule
theorem Nd.cells_len (x : Nd) : x.cells.length = 8 := by obtain ⟨k, n, ⟨a, b, c, d, e, f, g, h⟩⟩ := x; rfl
theorem NdsAt.below {w w' : World} {ok : Nat → Prop} {A : Option Addr} {l : List Nd} (h : NdsAt w ok A l) (hb : Below w.heap.size w w') : NdsAt w' ok A l := fun k x hx => by
  obtain ⟨b, off, e, hk, hc, hT⟩ := h k x hx
  have h0 := hc 0 _ rfl
  have hlt : b < w.heap.size := World.block_lt_of_cell? w _ h0
  exact ⟨b, off, e, hk, fun i u hu => (hb.cell (by exact hlt)).trans (hc i u hu), hT.below hb⟩
def littleN (l : List Nd) : Bool := decide (l.length ≤ 70) && l.all fun x => fewR 0 (strip x.rule)
theorem all_step {l : List Nd} {q : Nat} {x : Nd} {r : Bool} {p : Nd → Bool} (h : r = (l.drop q).all p) (hx : l[q]? = some x) : r = (p x && (l.drop (q + 1)).all p) := by
  obtain ⟨hq, he⟩ := List.getElem?_eq_some_iff.1 hx
  rw [h, List.drop_eq_getElem_cons hq, he, List.all_cons]
theorem all_end {l : List Nd} {q : Nat} {r : Bool} {p : Nd → Bool} (h : r = (l.drop q).all p) (h1 : l.length ≤ q) : r = true := by
  rw [h, List.drop_eq_nil_of_le h1, List.all_nil]
set_option maxRecDepth 100000 in
set_option maxHeartbeats 6400000 in
theorem little_any (C : Array Value) (A : Option Addr) (n c : Nat) (l : List Nd) (w : World) (ok : Nat → Prop) (hC17 : Hid (C[17]? = some (.slice A n c))) (hn : Hid (l.length = n)) (hml : n ≤ maxLen) (hN : Hid (NdsAt w ok A l)) :
    Calls Tryz.prog 20 #[.agg C] w fun e w' => e = .returned (.bool (littleN l)) ∧ Below w.heap.size w w' := by
  unfold maxLen at hml
  have hb0 := Lib.hid ((Below.refl _ w).alloc (Nat.le_refl _) (.cells C 41))
  have hbx := Lib.hid (Blk.new w 41 C)
  have hres : Hid (littleN l = (decide (n ≤ 70) && l.all fun x => fewR 0 (strip x.rule))) := by unfold Hid littleN; rw [hn.out]
  rw [hres.out]
  clear hres
  have c17 : (w.alloc (.cells C 41)).cell? ⟨w.heap.size, 17, none⟩ = some (.slice A n c) := (hbx.out.cell 17).trans hC17.out
  by_cases h0 : 70 < n
  · have b0 : decide ((70 : Int) < (n : Int)) = true := by simp; omega
    rw [show decide (n ≤ 70) = false by simp; omega]
    go_enter Tryz.func20, Tryz.ntmps20
    go_wp2_with fail
    go_ret
    exact ⟨by simp, hb0.out⟩
  · have b0 : decide ((70 : Int) < (n : Int)) = false := by simp; omega
    rw [show decide (n ≤ 70) = true by simp; omega, Bool.true_and]
    obtain ⟨wa, hwa⟩ : ∃ y, Hid (w.alloc (.cells C 41) = y) := ⟨_, Lib.hid rfl⟩
    go_enter Tryz.func20, Tryz.ntmps20
    go_wp2_with fail
    rw [hwa.out] at hb0 hbx ⊢
    clear hwa c17
    go_loopg [3] n (fun gg a wr => ∃ q : Nat, q ≤ n ∧ gg = n - q ∧ a = .int .i64 q ∧ Hid ((l.all fun x => fewR 0 (strip x.rule)) = (l.drop q).all fun x => fewR 0 (strip x.rule)) ∧ Hid (Below w.heap.size w wr) ∧ Hid (Blk wr w.heap.size 41 C))
    case atStart => exact ⟨0, Nat.zero_le _, rfl, rfl, rfl, hb0, hbx⟩
    case round =>
      clear hb0 hbx
      obtain ⟨q, hq, hg, rfl, hall, hB, hbk⟩ := hrel
      have hg' := Lib.hid hg
      clear hg
      have e5 : wr.cell? ⟨w.heap.size, 17, none⟩ = some (.slice A n c) := (hbk.out.cell 17).trans hC17.out
      have elt := hbk.out.lt
      by_cases hlt : q < n
      · have i1 : decide ((q : Int) < (n : Int)) = true := by simp; omega
        have i2 : (q : Int) < (n : Int) := by omega
        have i3 : (0 : Int) ≤ (q : Int) := by omega
        obtain ⟨x, hx⟩ : ∃ t, l[q]? = some t := ⟨_, List.getElem?_eq_getElem (by have := hn.out; omega)⟩
        have hst := Lib.hid (all_step hall.out hx)
        obtain ⟨bb, off, rfl, _, hc, hTt⟩ := (hN.out.below hB.out) q x hx
        have hcall := Lib.hid (few_any x.rule 0 wr ok (by omega) hTt)
        clear hx hTt hall
        obtain ⟨xk, xn, ⟨tk, tp, tf, tx, tn, tA, tc, tL⟩⟩ := x
        have g0 : wr.cell? ⟨bb, off + q * 8 + 2, none⟩ = some (.int .i64 tk) := hc 2 _ rfl
        have g1 : wr.cell? ⟨bb, off + q * 8 + 2 + 1, none⟩ = some (.int .i64 tp) := hc 3 _ rfl
        have g2 : wr.cell? ⟨bb, off + q * 8 + 2 + 2, none⟩ = some (.string ⟨tf.toArray⟩) := hc 4 _ rfl
        have g3 : wr.cell? ⟨bb, off + q * 8 + 2 + 3, none⟩ = some (.string ⟨tx.toArray⟩) := hc 5 _ rfl
        have g4 : wr.cell? ⟨bb, off + q * 8 + 2 + 4, none⟩ = some (.int .i64 tn) := hc 6 _ rfl
        have g5 : wr.cell? ⟨bb, off + q * 8 + 2 + 5, none⟩ = some (.slice tA tL.length tc) := hc 7 _ rfl
        clear hc
        simp only at hcall hst
        unfold Tree.cells at hcall
        obtain ⟨bq, hbq⟩ : ∃ b, Hid (fewR 0 (strip (.mk tk tp tf tx tn tA tc tL)) = b) := ⟨_, Lib.hid rfl⟩
        rw [hbq.out] at hcall hst
        go_wp2_with fail
        refine hcall.out.mono ?_
        rintro e w2 ⟨rfl, hB2⟩
        have hBn : Hid (Below w.heap.size w w2) := hB.out.trans (hB2.mono hB.out.size)
        have hbn := Lib.hid (hbk.out.below hB2 hbk.out.lt)
        clear hB2 g0 g1 g2 g3 g4 g5 e5 elt hcall
        cases bq with
        | true =>
          go_wp2_with fail
          go_roundg (n - (q + 1))
          case measure => have := hg'.out; omega
          case rel => exact ⟨q + 1, by omega, rfl, by go_num, hst.out.trans (Bool.true_and _), hBn, hbn⟩
        | false =>
          go_wp2_with fail
          go_ret
          exact ⟨by rw [hst.out]; simp, hBn.out⟩
      · have i1 : decide ((q : Int) < (n : Int)) = false := by simp; omega
        have hfin := Lib.hid (all_end hall.out (by have := hn.out; omega))
        go_wp2_with fail
        go_ret
        exact ⟨by rw [hfin.out]; rfl, hB.out⟩
/-- The names of a credit, as one array. -/
def Crd.names (c : Crd) : Array Value := #[.string ⟨c.number.toArray⟩, .string ⟨c.applicant.toArray⟩, .string ⟨c.beneficiary.toArray⟩, .string ⟨c.issuer.toArray⟩, .string ⟨c.confirmer.toArray⟩, .string ⟨c.orig.toArray⟩, .string ⟨c.dest.toArray⟩]
def Crd.nums (c : Crd) : Array Value := #[.int .i64 c.above, .int .i64 c.below, .int .i64 c.latest, .int .i64 c.expiry, .int .i64 c.within, .int .i64 c.tenor]
set_option maxRecDepth 100000 in
set_option maxHeartbeats 3200000 in
theorem names_any (C : Array Value) (c : Crd) (v : Value) (hC : Hid (C = c.cells v)) (w : World) : Calls Tryz.prog 42 #[.agg C] w fun e w' => e = .returned (.agg c.names) ∧ Below w.heap.size w w' := by
  have hk : Hid (∀ i, i < 18 → C[i]? = (c.cells v)[i]?) := fun i _ => by rw [hC.out]
  have hbl : Hid (Below w.heap.size w ((w.alloc (.cells C 41)).alloc (.cells #[.string ⟨#[]⟩, .string ⟨#[]⟩, .string ⟨#[]⟩, .string ⟨#[]⟩, .string ⟨#[]⟩, .string ⟨#[]⟩, .string ⟨#[]⟩] 75))) := ((Below.refl _ w).alloc (Nat.le_refl _) _).alloc (by simp) _
  have hbx := Lib.hid ((Blk.new w 41 C).alloc (.cells #[.string ⟨#[]⟩, .string ⟨#[]⟩, .string ⟨#[]⟩, .string ⟨#[]⟩, .string ⟨#[]⟩, .string ⟨#[]⟩, .string ⟨#[]⟩] 75))
  have c0 := (hbx.out.cell 0).trans (hk.out 0 (by decide))
  have c1 := (hbx.out.cell 1).trans (hk.out 1 (by decide))
  have c2 := (hbx.out.cell 2).trans (hk.out 2 (by decide))
  have c3 := (hbx.out.cell 3).trans (hk.out 3 (by decide))
  have c4 := (hbx.out.cell 4).trans (hk.out 4 (by decide))
  have c5 := (hbx.out.cell 5).trans (hk.out 5 (by decide))
  have c6 := (hbx.out.cell 6).trans (hk.out 6 (by decide))
  go_enter Tryz.func42, Tryz.ntmps42
  go_wp2_with fail
  have hby := Blk.new (w.alloc (.cells C 41)) 75 c.names
  have hs : (w.alloc (.cells C 41)).heap.size = w.heap.size + 1 := by simp
  rw [hs] at hby
  refine bodyPost_ret (results_row rfl _ _ (w.heap.size + 1) 75 _ _ rfl hby Tryz.underlying75 rfl (by kernel_rfl)) rfl ?_
  exact ⟨rfl, ((Below.refl _ w).alloc (Nat.le_refl _) _).alloc (by simp) _⟩
set_option maxRecDepth 100000 in
set_option maxHeartbeats 3200000 in
theorem nums_any (C : Array Value) (c : Crd) (v : Value) (hC : Hid (C = c.cells v)) (w : World) : Calls Tryz.prog 43 #[.agg C] w fun e w' => e = .returned (.agg c.nums) ∧ Below w.heap.size w w' := by
  have hk : Hid (∀ i, i < 18 → C[i]? = (c.cells v)[i]?) := fun i _ => by rw [hC.out]
  have hbl : Hid (Below w.heap.size w ((w.alloc (.cells C 41)).alloc (.cells #[.int .i64 0, .int .i64 0, .int .i64 0, .int .i64 0, .int .i64 0, .int .i64 0] 77))) := ((Below.refl _ w).alloc (Nat.le_refl _) _).alloc (by simp) _
  have hbx := Lib.hid ((Blk.new w 41 C).alloc (.cells #[.int .i64 0, .int .i64 0, .int .i64 0, .int .i64 0, .int .i64 0, .int .i64 0] 77))
  have c0 := (hbx.out.cell 9).trans (hk.out 9 (by decide))
  have c1 := (hbx.out.cell 10).trans (hk.out 10 (by decide))
  have c2 := (hbx.out.cell 11).trans (hk.out 11 (by decide))
  have c3 := (hbx.out.cell 12).trans (hk.out 12 (by decide))
  have c4 := (hbx.out.cell 13).trans (hk.out 13 (by decide))
  have c5 := (hbx.out.cell 14).trans (hk.out 14 (by decide))
  go_enter Tryz.func43, Tryz.ntmps43
  go_wp2_with fail
  have hby := Blk.new (w.alloc (.cells C 41)) 77 c.nums
  have hs : (w.alloc (.cells C 41)).heap.size = w.heap.size + 1 := by simp
  rw [hs] at hby
  refine bodyPost_ret (results_row rfl _ _ (w.heap.size + 1) 77 _ _ rfl hby Tryz.underlying77 rfl (by kernel_rfl)) rfl ?_
  exact ⟨rfl, ((Below.refl _ w).alloc (Nat.le_refl _) _).alloc (by simp) _⟩
end Go.Proofs.YtjkmhlfjheiekaaGreatDoor

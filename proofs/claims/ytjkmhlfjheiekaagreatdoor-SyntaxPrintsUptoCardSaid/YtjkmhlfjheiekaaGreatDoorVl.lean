/- Two rules are one: the walk of the document's Same. -/
import Derived.Test.YtjkmhlfjheiekaaGreatDoorZc
import Derived.Deep.RegionHeld3
namespace Go.Proofs.YtjkmhlfjheiekaaGreatDoor
open Go Go.RowKit Go.BigFrame Go.Maps

mutual
/-- Are two rules one? -/
def eqR : Rul → Rul → Bool
  | .mk k p f x n L, .mk k' p' f' x' n' L' => k == k' && p == p' && f == f' && x == x' && n == n' && eqL L L'
def eqL : List Rul → List Rul → Bool
  | [], [] => true
  | [], _ :: _ => false
  | _ :: _, [] => false
  | a :: L, b :: M => eqR a b && eqL L M
end
mutual
theorem eqR_iff : ∀ a b : Rul, eqR a b = true ↔ a = b
  | .mk k p f x n L, .mk k' p' f' x' n' L' => by
    rw [eqR]; simp only [Bool.and_eq_true, beq_iff_eq, Rul.mk.injEq, eqL_iff L L', and_assoc]
theorem eqL_iff : ∀ L M : List Rul, eqL L M = true ↔ L = M
  | [], [] => by simp [eqL]
  | [], _ :: _ => by simp [eqL]
  | _ :: _, [] => by simp [eqL]
  | a :: L, b :: M => by rw [eqL]; simp only [Bool.and_eq_true, eqR_iff a b, eqL_iff L M, List.cons.injEq]
end
theorem eqR_refl (a : Rul) : eqR a a = true := (eqR_iff a a).2 rfl
theorem eqL_len : ∀ {L M : List Rul}, eqL L M = true → L.length = M.length := fun h => by rw [(eqL_iff _ _).1 h]
def SameC (t : Tree) : Prop := ∀ (u : Tree) (w : World) (ok ok' : Nat → Prop), Hid (TreeAt w ok t) → Hid (TreeAt w ok' u) → Calls Tryz.prog 15 #[.agg t.cells, .agg u.cells] w fun e w' => e = .returned (.bool (eqR (strip t) (strip u))) ∧ Below w.heap.size w w'
theorem eqL_step {L M : List Tree} {q : Nat} {t u : Tree} {r : Bool} (h : r = eqL (strips (L.drop q)) (strips (M.drop q))) (ht : L[q]? = some t) (hu : M[q]? = some u) : r = (eqR (strip t) (strip u) && eqL (strips (L.drop (q + 1))) (strips (M.drop (q + 1)))) := by
  obtain ⟨hq, he⟩ := List.getElem?_eq_some_iff.1 ht
  obtain ⟨hq', he'⟩ := List.getElem?_eq_some_iff.1 hu
  rw [h, List.drop_eq_getElem_cons hq, List.drop_eq_getElem_cons hq', he, he', strips, strips, eqL]
theorem eqL_end {L M : List Tree} {q : Nat} {r : Bool} (h : r = eqL (strips (L.drop q)) (strips (M.drop q))) (h1 : L.length ≤ q) (h2 : M.length ≤ q) : r = true := by
  rw [h, List.drop_eq_nil_of_le h1, List.drop_eq_nil_of_le h2, strips, eqL]
set_option maxRecDepth 100000 in
set_option maxHeartbeats 6400000 in
theorem same_walk (t : Tree) (ih : ∀ u ∈ t.sub, SameC u) : SameC t := by
  intro u w ok ok' hT hU
  obtain ⟨k, p, f, x, n, A, c, L⟩ := t
  obtain ⟨k', p', f', x', n', A', c', L'⟩ := u
  have hT0 := hT.out
  have hU0 := hU.out
  rw [TreeAt] at hT0 hU0
  obtain ⟨hR, hlen⟩ := hT0
  obtain ⟨hS, hlen'⟩ := hU0
  have hR' := Lib.hid hR
  have hS' := Lib.hid hS
  obtain ⟨m, hm⟩ : ∃ m, Hid (L.length = m) := ⟨_, Lib.hid rfl⟩
  obtain ⟨m', hm'⟩ : ∃ m, Hid (L'.length = m) := ⟨_, Lib.hid rfl⟩
  rw [hm.out] at hlen
  rw [hm'.out] at hlen'
  unfold maxLen at hlen hlen'
  have ih' : Hid (∀ u ∈ L, SameC u) := ih
  have hres : Hid (eqR (strip (.mk k p f x n A c L)) (strip (.mk k' p' f' x' n' A' c' L')) = (k == k' && p == p' && f == f' && x == x' && n == n' && eqL (strips L) (strips L'))) := by unfold Hid; rw [strip, strip, eqR]
  rw [hres.out]
  clear ih hT hU hR hS hres
  show Calls Tryz.prog 15 #[.agg #[.int .i64 k, .int .i64 p, .string ⟨f.toArray⟩, .string ⟨x.toArray⟩, .int .i64 n, .slice A L.length c], .agg #[.int .i64 k', .int .i64 p', .string ⟨f'.toArray⟩, .string ⟨x'.toArray⟩, .int .i64 n', .slice A' L'.length c']] w _
  rw [hm.out, hm'.out]
  have hb0 : Hid (Below w.heap.size w ((w.alloc (.cells #[.int .i64 k, .int .i64 p, .string ⟨f.toArray⟩, .string ⟨x.toArray⟩, .int .i64 n, .slice A m c] 25)).alloc (.cells #[.int .i64 k', .int .i64 p', .string ⟨f'.toArray⟩, .string ⟨x'.toArray⟩, .int .i64 n', .slice A' m' c'] 25))) := ((Below.refl _ w).alloc (Nat.le_refl _) _).alloc (by simp) _
  have hbx := Lib.hid ((Blk.new w 25 #[.int .i64 k, .int .i64 p, .string ⟨f.toArray⟩, .string ⟨x.toArray⟩, .int .i64 n, .slice A m c]).alloc (.cells #[.int .i64 k', .int .i64 p', .string ⟨f'.toArray⟩, .string ⟨x'.toArray⟩, .int .i64 n', .slice A' m' c'] 25))
  have hby : Hid (Blk ((w.alloc (.cells #[.int .i64 k, .int .i64 p, .string ⟨f.toArray⟩, .string ⟨x.toArray⟩, .int .i64 n, .slice A m c] 25)).alloc (.cells #[.int .i64 k', .int .i64 p', .string ⟨f'.toArray⟩, .string ⟨x'.toArray⟩, .int .i64 n', .slice A' m' c'] 25)) (w.heap.size + 1) 25 #[.int .i64 k', .int .i64 p', .string ⟨f'.toArray⟩, .string ⟨x'.toArray⟩, .int .i64 n', .slice A' m' c']) := by
    have := Blk.new (w.alloc (.cells #[.int .i64 k, .int .i64 p, .string ⟨f.toArray⟩, .string ⟨x.toArray⟩, .int .i64 n, .slice A m c] 25)) 25 #[.int .i64 k', .int .i64 p', .string ⟨f'.toArray⟩, .string ⟨x'.toArray⟩, .int .i64 n', .slice A' m' c']
    unfold Hid
    simpa using this
  by_cases h0 : k = k'
  · subst h0
    by_cases h1 : p = p'
    · subst h1
      by_cases h2 : f = f'
      · subst h2
        by_cases h3 : x = x'
        · subst h3
          by_cases h4 : n = n'
          · subst h4
            by_cases h5 : m = m'
            · subst h5
              obtain ⟨wa, hwa⟩ : ∃ y, Hid ((w.alloc (.cells #[.int .i64 k, .int .i64 p, .string ⟨f.toArray⟩, .string ⟨x.toArray⟩, .int .i64 n, .slice A m c] 25)).alloc (.cells #[.int .i64 k, .int .i64 p, .string ⟨f.toArray⟩, .string ⟨x.toArray⟩, .int .i64 n, .slice A' m c'] 25) = y) := ⟨_, Lib.hid rfl⟩
              go_enter Tryz.func15, Tryz.ntmps15
              go_wp2_with fail
              rw [hwa.out] at hb0 hbx hby ⊢
              clear hwa
              go_loopg [5] m (fun gg a wr => ∃ q : Nat, q ≤ m ∧ gg = m - q ∧ a = .int .i64 q ∧ Hid (eqL (strips L) (strips L') = eqL (strips (L.drop q)) (strips (L'.drop q))) ∧ Hid (Below w.heap.size w wr) ∧ Hid (Blk wr w.heap.size 25 #[.int .i64 k, .int .i64 p, .string ⟨f.toArray⟩, .string ⟨x.toArray⟩, .int .i64 n, .slice A m c]) ∧ Hid (Blk wr (w.heap.size + 1) 25 #[.int .i64 k, .int .i64 p, .string ⟨f.toArray⟩, .string ⟨x.toArray⟩, .int .i64 n, .slice A' m c']))
              case atStart => exact ⟨0, Nat.zero_le _, rfl, rfl, rfl, hb0, hbx, hby⟩
              case round =>
                clear hb0 hbx hby
                obtain ⟨q, hq, hg, rfl, hall, hB, hbk, hbk'⟩ := hrel
                have hg' := Lib.hid hg
                clear hg
                have e5 : wr.cell? ⟨w.heap.size, 5, none⟩ = some (.slice A m c) := hbk.out.cell 5
                have elt := hbk.out.lt
                have e5' : wr.cell? ⟨w.heap.size + 1, 5, none⟩ = some (.slice A' m c') := hbk'.out.cell 5
                have elt' := hbk'.out.lt
                by_cases hlt : q < m
                · have i1 : decide ((q : Int) < (m : Int)) = true := by simp; omega
                  have i2 : (q : Int) < (m : Int) := by omega
                  have i3 : (0 : Int) ≤ (q : Int) := by omega
                  obtain ⟨t, ht⟩ : ∃ t, L[q]? = some t := ⟨_, List.getElem?_eq_getElem (by have := hm.out; omega)⟩
                  obtain ⟨u, hu⟩ : ∃ t, L'[q]? = some t := ⟨_, List.getElem?_eq_getElem (by have := hm'.out; omega)⟩
                  have hmem := Lib.hid (List.mem_of_getElem? ht)
                  have hst := Lib.hid (eqL_step hall.out ht hu)
                  obtain ⟨hc, hTt⟩ := (hR'.out.below hB.out).get q t ht
                  obtain ⟨hc', hTu⟩ := (hS'.out.below hB.out).get q u hu
                  have hcall : Hid (∀ W, Below wr.heap.size wr W → Calls Tryz.prog 15 #[.agg t.cells, .agg u.cells] W fun e w' => e = .returned (.bool (eqR (strip t) (strip u))) ∧ Below W.heap.size W w') := fun W hW => ih'.out t hmem.out u W ok ok' (hTt.below hW) (hTu.below hW)
                  clear ht hu hTt hTu hall
                  obtain ⟨tk, tp, tf, tx, tn, tA, tc, tL⟩ := t
                  obtain ⟨uk, up, uf, ux, un, uA, uc, uL⟩ := u
                  obtain ⟨bb, off, rfl, _, g0, g1, g2, g3, g4, g5⟩ := hc
                  obtain ⟨bb', off', rfl, _, k0, k1, k2, k3, k4, k5⟩ := hc'
                  rw [Nat.zero_add] at g0 g1 g2 g3 g4 g5 k0 k1 k2 k3 k4 k5
                  unfold Tree.cells at hcall
                  obtain ⟨bq, hbq⟩ : ∃ b, Hid (eqR (strip (.mk tk tp tf tx tn tA tc tL)) (strip (.mk uk up uf ux un uA uc uL)) = b) := ⟨_, Lib.hid rfl⟩
                  rw [hbq.out] at hcall hst
                  have hS : Hid (∀ W, Below wr.heap.size wr W → (W.cell? ⟨w.heap.size, 5, none⟩ = some (.slice (some ⟨bb, off, none⟩) m c) ∧ W.cell? ⟨w.heap.size + 1, 5, none⟩ = some (.slice (some ⟨bb', off', none⟩) m c') ∧ W.cell? ⟨bb, off + q * 6, none⟩ = some (.int .i64 tk) ∧ W.cell? ⟨bb, off + q * 6 + 1, none⟩ = some (.int .i64 tp) ∧ W.cell? ⟨bb, off + q * 6 + 2, none⟩ = some (.string ⟨tf.toArray⟩) ∧ W.cell? ⟨bb, off + q * 6 + 3, none⟩ = some (.string ⟨tx.toArray⟩) ∧ W.cell? ⟨bb, off + q * 6 + 4, none⟩ = some (.int .i64 tn) ∧ W.cell? ⟨bb, off + q * 6 + 5, none⟩ = some (.slice tA tL.length tc) ∧ W.cell? ⟨bb', off' + q * 6, none⟩ = some (.int .i64 uk) ∧ W.cell? ⟨bb', off' + q * 6 + 1, none⟩ = some (.int .i64 up) ∧ W.cell? ⟨bb', off' + q * 6 + 2, none⟩ = some (.string ⟨uf.toArray⟩) ∧ W.cell? ⟨bb', off' + q * 6 + 3, none⟩ = some (.string ⟨ux.toArray⟩) ∧ W.cell? ⟨bb', off' + q * 6 + 4, none⟩ = some (.int .i64 un) ∧ W.cell? ⟨bb', off' + q * 6 + 5, none⟩ = some (.slice uA uL.length uc))) := fun W hW => by
                    have l1 : bb < wr.heap.size := cell_lt g0
                    have l2 : bb' < wr.heap.size := cell_lt k0
                    exact ⟨(hW.cell (by exact elt)).trans e5, (hW.cell (by exact elt')).trans e5', (hW.cell (by exact l1)).trans g0, (hW.cell (by exact l1)).trans g1, (hW.cell (by exact l1)).trans g2, (hW.cell (by exact l1)).trans g3, (hW.cell (by exact l1)).trans g4, (hW.cell (by exact l1)).trans g5, (hW.cell (by exact l2)).trans k0, (hW.cell (by exact l2)).trans k1, (hW.cell (by exact l2)).trans k2, (hW.cell (by exact l2)).trans k3, (hW.cell (by exact l2)).trans k4, (hW.cell (by exact l2)).trans k5⟩
                  go_upto_region 6 with fail
                  go_region_held3 (fun W => W.cell? ⟨w.heap.size, 5, none⟩ = some (.slice (some ⟨bb, off, none⟩) m c) ∧ W.cell? ⟨w.heap.size + 1, 5, none⟩ = some (.slice (some ⟨bb', off', none⟩) m c') ∧ W.cell? ⟨bb, off + q * 6, none⟩ = some (.int .i64 tk) ∧ W.cell? ⟨bb, off + q * 6 + 1, none⟩ = some (.int .i64 tp) ∧ W.cell? ⟨bb, off + q * 6 + 2, none⟩ = some (.string ⟨tf.toArray⟩) ∧ W.cell? ⟨bb, off + q * 6 + 3, none⟩ = some (.string ⟨tx.toArray⟩) ∧ W.cell? ⟨bb, off + q * 6 + 4, none⟩ = some (.int .i64 tn) ∧ W.cell? ⟨bb, off + q * 6 + 5, none⟩ = some (.slice tA tL.length tc) ∧ W.cell? ⟨bb', off' + q * 6, none⟩ = some (.int .i64 uk) ∧ W.cell? ⟨bb', off' + q * 6 + 1, none⟩ = some (.int .i64 up) ∧ W.cell? ⟨bb', off' + q * 6 + 2, none⟩ = some (.string ⟨uf.toArray⟩) ∧ W.cell? ⟨bb', off' + q * 6 + 3, none⟩ = some (.string ⟨ux.toArray⟩) ∧ W.cell? ⟨bb', off' + q * 6 + 4, none⟩ = some (.int .i64 un) ∧ W.cell? ⟨bb', off' + q * 6 + 5, none⟩ = some (.slice uA uL.length uc)) (first | exact hS.out _ (Below.refl _ _) | exact hS.out _ (Below.refl _ _).drew | exact hS.out _ hB2) (first | (go_at_call 15; (with_reducible refine (hcall.out _ ?_).mono ?_); exact (Below.refl _ _).drew; rintro e w2 ⟨rfl, hB2'⟩; have hB2 : Below wr.heap.size wr w2 := (Below.refl _ _).drew.trans hB2'))
                  have hBn : Hid (Below w.heap.size w w2) := hB.out.trans (hB2.mono hB.out.size)
                  have hbn := Lib.hid (hbk.out.below hB2 hbk.out.lt)
                  have hbn' := Lib.hid (hbk'.out.below hB2 hbk'.out.lt)
                  cases bq with
                  | true =>
                    go_wp2_with fail
                    go_roundg (m - (q + 1))
                    case measure => have := hg'.out; omega
                    case rel => exact ⟨q + 1, by omega, rfl, by go_num, hst.out.trans (Bool.true_and _), hBn, hbn, hbn'⟩
                  | false =>
                    go_wp2_with fail
                    go_ret
                    exact ⟨by rw [hst.out]; simp, hBn.out⟩
                · have i1 : decide ((q : Int) < (m : Int)) = false := by simp; omega
                  have hfin := Lib.hid (eqL_end hall.out (by have := hm.out; omega) (by have := hm'.out; omega))
                  go_wp2_with fail
                  go_ret
                  exact ⟨by rw [hfin.out]; simp, hB.out⟩
            · have hne : eqL (strips L) (strips L') = false := by
                cases h : eqL (strips L) (strips L') with
                | false => rfl
                | true => have := eqL_len h; rw [strips_map, strips_map, List.length_map, List.length_map, hm.out, hm'.out] at this; exact absurd this h5
              have b5 : ((m : Int) == (m' : Int)) = false := by simp; omega
              have b5' : ((m : Int) != (m' : Int)) = true := by simp; omega
              rw [hne]
              go_enter Tryz.func15, Tryz.ntmps15
              go_wp2_with fail
              go_ret
              exact ⟨by simp, hb0.out⟩
          · have b4 : (n == n') = false := by simp [h4]
            have b4' : (n != n') = true := by simp [h4]
            rw [b4]
            go_enter Tryz.func15, Tryz.ntmps15
            go_wp2_with fail
            go_ret
            exact ⟨by simp, hb0.out⟩
        · have b3 : (x == x') = false := by simp [h3]
          rw [b3]
          go_enter Tryz.func15, Tryz.ntmps15
          go_wp2_with fail
          go_ret
          exact ⟨by simp, hb0.out⟩
      · have b2 : (f == f') = false := by simp [h2]
        rw [b2]
        go_enter Tryz.func15, Tryz.ntmps15
        go_wp2_with fail
        go_ret
        exact ⟨by simp, hb0.out⟩
    · have b1 : (p == p') = false := by simp [h1]
      have b1' : (p != p') = true := by simp [h1]
      rw [b1]
      go_enter Tryz.func15, Tryz.ntmps15
      go_wp2_with fail
      go_ret
      exact ⟨by simp, hb0.out⟩
  · have b0 : (k == k') = false := by simp [h0]
    have b0' : (k != k') = true := by simp [h0]
    rw [b0]
    go_enter Tryz.func15, Tryz.ntmps15
    go_wp2_with fail
    go_ret
    exact ⟨by simp, hb0.out⟩
theorem same_any : ∀ t : Tree, SameC t := Tree.every fun t ih => same_walk t ih
end Go.Proofs.YtjkmhlfjheiekaaGreatDoor

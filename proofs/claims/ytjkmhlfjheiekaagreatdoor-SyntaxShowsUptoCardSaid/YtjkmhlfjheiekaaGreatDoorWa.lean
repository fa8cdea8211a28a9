/- Is a rule little: the walk of few. -/
import Derived.Test.YtjkmhlfjheiekaaGreatDoorVl
namespace Go.Proofs.YtjkmhlfjheiekaaGreatDoor
open Go Go.RowKit Go.BigFrame Go.Maps

mutual
/-- Is a rule little, so that it is gone through soon? -/
def fewR : Nat → Rul → Bool
  | d, .mk _ _ f x _ L => !(decide (20 < d) || decide (70 < L.length) || decide (40 < f.length) || decide (200 < x.length)) && fewL (d + 1) L
def fewL : Nat → List Rul → Bool
  | _, [] => true
  | d, r :: L => fewR d r && fewL d L
end
theorem fewL_step {L : List Tree} {q d : Nat} {t : Tree} {r : Bool} (h : r = fewL d (strips (L.drop q))) (ht : L[q]? = some t) : r = (fewR d (strip t) && fewL d (strips (L.drop (q + 1)))) := by
  obtain ⟨hq, he⟩ := List.getElem?_eq_some_iff.1 ht
  rw [h, List.drop_eq_getElem_cons hq, he, strips, fewL]
theorem fewL_end {L : List Tree} {q d : Nat} {r : Bool} (h : r = fewL d (strips (L.drop q))) (h1 : L.length ≤ q) : r = true := by
  rw [h, List.drop_eq_nil_of_le h1, strips, fewL]
def FewC (t : Tree) : Prop := ∀ (d : Nat) (w : World) (ok : Nat → Prop), d ≤ 21 → Hid (TreeAt w ok t) → Calls Tryz.prog 16 #[.agg t.cells, .int .i64 d] w fun e w' => e = .returned (.bool (fewR d (strip t))) ∧ Below w.heap.size w w'
set_option maxRecDepth 100000 in
set_option maxHeartbeats 6400000 in
theorem few_walk (t : Tree) (ih : ∀ u ∈ t.sub, FewC u) : FewC t := by
  intro d w ok hd hT
  obtain ⟨k, p, f, x, n, A, c, L⟩ := t
  have hT0 := hT.out
  rw [TreeAt] at hT0
  obtain ⟨hR, hlen⟩ := hT0
  have hR' := Lib.hid hR
  obtain ⟨m, hm⟩ : ∃ m, Hid (L.length = m) := ⟨_, Lib.hid rfl⟩
  rw [hm.out] at hlen
  unfold maxLen at hlen
  have ih' : Hid (∀ u ∈ L, FewC u) := ih
  have hres : Hid (fewR d (strip (.mk k p f x n A c L)) = (!(decide (20 < d) || decide (70 < m) || decide (40 < f.length) || decide (200 < x.length)) && fewL (d + 1) (strips L))) := by unfold Hid; rw [strip, fewR, strips_map, List.length_map, hm.out]
  rw [hres.out]
  clear ih hT hR hres
  show Calls Tryz.prog 16 #[.agg #[.int .i64 k, .int .i64 p, .string ⟨f.toArray⟩, .string ⟨x.toArray⟩, .int .i64 n, .slice A L.length c], .int .i64 d] w _
  rw [hm.out]
  have hb0 : Hid (Below w.heap.size w (w.alloc (.cells #[.int .i64 k, .int .i64 p, .string ⟨f.toArray⟩, .string ⟨x.toArray⟩, .int .i64 n, .slice A m c] 25))) := (Below.refl _ w).alloc (Nat.le_refl _) _
  have hbx := Lib.hid (Blk.new w 25 #[.int .i64 k, .int .i64 p, .string ⟨f.toArray⟩, .string ⟨x.toArray⟩, .int .i64 n, .slice A m c])
  have ez1 : (⟨f.toArray⟩ : ByteArray).size = f.length := by simp [ByteArray.size]
  have ez2 : (⟨x.toArray⟩ : ByteArray).size = x.length := by simp [ByteArray.size]
  obtain ⟨fl, hfl⟩ : ∃ y, Hid (f.length = y) := ⟨_, Lib.hid rfl⟩
  obtain ⟨xl, hxl⟩ : ∃ y, Hid (x.length = y) := ⟨_, Lib.hid rfl⟩
  rw [hfl.out] at ez1 ⊢
  rw [hxl.out] at ez2 ⊢
  by_cases h0 : 20 < d
  · have b0 : decide ((20 : Int) < (d : Int)) = true := by simp; omega
    rw [show decide (20 < d) = true by simp; omega]
    go_enter Tryz.func16, Tryz.ntmps16
    go_wp2_with fail
    go_ret
    exact ⟨by simp, hb0.out⟩
  · have b0 : decide ((20 : Int) < (d : Int)) = false := by simp; omega
    rw [show decide (20 < d) = false by simp; omega]
    by_cases h1 : 70 < m
    · have b1 : decide ((70 : Int) < (m : Int)) = true := by simp; omega
      rw [show decide (70 < m) = true by simp; omega]
      go_enter Tryz.func16, Tryz.ntmps16
      go_wp2_with fail
      go_ret
      exact ⟨by simp, hb0.out⟩
    · have b1 : decide ((70 : Int) < (m : Int)) = false := by simp; omega
      rw [show decide (70 < m) = false by simp; omega]
      by_cases h2 : 40 < fl
      · have b2 : decide ((40 : Int) < (fl : Int)) = true := by simp; omega
        rw [show decide (40 < fl) = true by simp; omega]
        go_enter Tryz.func16, Tryz.ntmps16
        go_wp2_with fail
        go_ret
        exact ⟨by simp, hb0.out⟩
      · have b2 : decide ((40 : Int) < (fl : Int)) = false := by simp; omega
        rw [show decide (40 < fl) = false by simp; omega]
        by_cases h3 : 200 < xl
        · have b3 : decide ((200 : Int) < (xl : Int)) = true := by simp; omega
          rw [show decide (200 < xl) = true by simp; omega]
          go_enter Tryz.func16, Tryz.ntmps16
          go_wp2_with fail
          go_ret
          exact ⟨by simp, hb0.out⟩
        · have b3 : decide ((200 : Int) < (xl : Int)) = false := by simp; omega
          rw [show decide (200 < xl) = false by simp; omega]
          have w1x : IntKind.i64.wrap ((d : Int) + 1) = ((d + 1 : Nat) : Int) := by rw [IntWalk.i64_in _ (by omega)]; omega
          obtain ⟨wa, hwa⟩ : ∃ y, Hid (w.alloc (.cells #[.int .i64 k, .int .i64 p, .string ⟨f.toArray⟩, .string ⟨x.toArray⟩, .int .i64 n, .slice A m c] 25) = y) := ⟨_, Lib.hid rfl⟩
          go_enter Tryz.func16, Tryz.ntmps16
          go_wp2_with fail
          rw [hwa.out] at hb0 hbx ⊢
          clear hwa
          go_loopg [5] m (fun gg a wr => ∃ q : Nat, q ≤ m ∧ gg = m - q ∧ a = .int .i64 q ∧ Hid (fewL (d + 1) (strips L) = fewL (d + 1) (strips (L.drop q))) ∧ Hid (Below w.heap.size w wr) ∧ Hid (Blk wr w.heap.size 25 #[.int .i64 k, .int .i64 p, .string ⟨f.toArray⟩, .string ⟨x.toArray⟩, .int .i64 n, .slice A m c]))
          case atStart => exact ⟨0, Nat.zero_le _, rfl, rfl, rfl, hb0, hbx⟩
          case round =>
            clear hb0 hbx
            obtain ⟨q, hq, hg, rfl, hall, hB, hbk⟩ := hrel
            have hg' := Lib.hid hg
            clear hg
            have e5 : wr.cell? ⟨w.heap.size, 5, none⟩ = some (.slice A m c) := hbk.out.cell 5
            have elt := hbk.out.lt
            by_cases hlt : q < m
            · have i1 : decide ((q : Int) < (m : Int)) = true := by simp; omega
              have i2 : (q : Int) < (m : Int) := by omega
              have i3 : (0 : Int) ≤ (q : Int) := by omega
              obtain ⟨t, ht⟩ : ∃ t, L[q]? = some t := ⟨_, List.getElem?_eq_getElem (by have := hm.out; omega)⟩
              have hmem := Lib.hid (List.mem_of_getElem? ht)
              have hst := Lib.hid (fewL_step hall.out ht)
              obtain ⟨hc, hTt⟩ := (hR'.out.below hB.out).get q t ht
              have hcall := Lib.hid (ih'.out t hmem.out (d + 1) wr ok (by omega) hTt)
              clear ht hTt hall
              obtain ⟨tk, tp, tf, tx, tn, tA, tc, tL⟩ := t
              obtain ⟨bb, off, rfl, _, g0, g1, g2, g3, g4, g5⟩ := hc
              rw [Nat.zero_add] at g0 g1 g2 g3 g4 g5
              unfold Tree.cells at hcall
              obtain ⟨bq, hbq⟩ : ∃ b, Hid (fewR (d + 1) (strip (.mk tk tp tf tx tn tA tc tL)) = b) := ⟨_, Lib.hid rfl⟩
              rw [hbq.out] at hcall hst
              go_wp2_with fail
              refine hcall.out.mono ?_
              rintro e w2 ⟨rfl, hB2⟩
              have hBn : Hid (Below w.heap.size w w2) := hB.out.trans (hB2.mono hB.out.size)
              have hbn := Lib.hid (hbk.out.below hB2 hbk.out.lt)
              clear hB2 g0 g1 g2 g3 g4 g5 e5 elt hcall
              cases bq with
              | true =>
                go_wp2_with fail
                go_roundg (m - (q + 1))
                case measure => have := hg'.out; omega
                case rel => exact ⟨q + 1, by omega, rfl, by go_num, hst.out.trans (Bool.true_and _), hBn, hbn⟩
              | false =>
                go_wp2_with fail
                go_ret
                exact ⟨by rw [hst.out]; simp, hBn.out⟩
            · have i1 : decide ((q : Int) < (m : Int)) = false := by simp; omega
              have hfin := Lib.hid (fewL_end hall.out (by have := hm.out; omega))
              go_wp2_with fail
              go_ret
              exact ⟨by rw [hfin.out]; simp, hB.out⟩
theorem few_any : ∀ t : Tree, FewC t := Tree.every fun t ih => few_walk t ih
end Go.Proofs.YtjkmhlfjheiekaaGreatDoor

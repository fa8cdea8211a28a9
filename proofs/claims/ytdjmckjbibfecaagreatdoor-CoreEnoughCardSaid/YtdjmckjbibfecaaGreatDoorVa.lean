/- The document's Atom, Atoms, walked. -/
import Derived.Test.YtdjmckjbibfecaaGreatDoorWh
namespace Go.Proofs.YtdjmckjbibfecaaGreatDoor
open Go Go.RowKit Go.BigFrame Go.Maps

theorem atomR_any (t : Tree) (w : World) : Calls Tryz.prog 48 #[.agg t.cells] w fun e w' => e = .returned (.bool (isAt t.kind)) ∧ Below w.heap.size w w' := by
  obtain ⟨k, p, f, x, n, A, c, L⟩ := t
  simp only [Tree.cells, Tree.kind]
  obtain ⟨w1, hw1⟩ : ∃ X, Hid (w.alloc (.cells #[.int .i64 k, .int .i64 p, .string f, .string x, .int .i64 n, .slice A L.length c] 24) = X) := ⟨_, rfl⟩
  have hb1 : Hid (Below w.heap.size w w1) := by rw [← hw1.out]; exact (Below.refl _ w).alloc (Nat.le_refl _) _
  have hN1 : Hid (Blk w1 w.heap.size 24 #[.int .i64 k, .int .i64 p, .string f, .string x, .int .i64 n, .slice A L.length c]) := by rw [← hw1.out]; exact Lib.hid (Blk.new _ _ _)
  have q0 : w1.cell? ⟨w.heap.size, 0, none⟩ = some (.int .i64 k) := hN1.out.cell 0
  by_cases h3 : 3 ≤ k
  · have d1 : decide ((3 : Int) ≤ k) = true := decide_eq_true h3
    by_cases h7 : k ≤ 7
    · have d2 : decide (k ≤ 7) = true := decide_eq_true h7
      rw [isAt_yes ⟨h3, h7⟩]
      go_enter Tryz.func48, Tryz.ntmps48
      go_wp2_with (rw [hw1.out])
      go_ret
      exact ⟨rfl, hb1.out⟩
    · have d2 : decide (k ≤ 7) = false := decide_eq_false h7
      rw [isAt_no (by omega)]
      go_enter Tryz.func48, Tryz.ntmps48
      go_wp2_with (rw [hw1.out])
      go_ret
      exact ⟨rfl, hb1.out⟩
  · have d1 : decide ((3 : Int) ≤ k) = false := decide_eq_false h3
    rw [isAt_no (by omega)]
    go_enter Tryz.func48, Tryz.ntmps48
    go_wp2_with (rw [hw1.out])
    go_ret
    exact ⟨rfl, hb1.out⟩
/-- A row made of given elements. -/
theorem own_fresh (w : World) (e : TypeId) (size n : Nat) (cs : Array Value) (hs : cs.size = n * size) (hn : n ≤ maxLen) : (w.alloc (.cells cs e)).ownsRow w.heap.size e size (.slice (some ⟨w.heap.size, 0, none⟩) n n) n cs.toList :=
  ⟨by simpa using hs, .inr ⟨_, n, cs, rfl, Nat.le_refl _, heap_alloc_new w _, Nat.le_refl _, hn, hs, List.take_of_length_le (by simp [hs])⟩⟩
theorem own_reads {w : World} {B n : Nat} {e : TypeId} {size : Nat} {A : Option Addr} {c : Nat} {xs : List Value} (h : w.ownsRow B e size (.slice A n c) n xs) : Reads w w.heap.size size A n xs := by
  refine ⟨h.1, fun hn => ?_⟩
  obtain ⟨g, c', e, _, hg⟩ := own_formS h hn
  simp only [Value.slice.injEq, true_and] at e
  obtain ⟨rfl, rfl⟩ := e
  exact ⟨_, rfl, hg, fun j u hj => h.cells (g := g) rfl j u hj⟩
theorem cellsL_one (l : List Tree) : ∀ v ∈ cellsL l, v.oneCell' = true := by
  intro v hv
  obtain ⟨t, _, h⟩ := List.mem_flatMap.1 hv
  exact cells_one t v h
theorem own_above {w w' : World} {B n g : Nat} {e t : TypeId} {size : Nat} {v : Value} {xs : List Value} {cs : Array Value} (h : w.ownsRow B e size v n xs) (hg : g < B) (hb : Blk w g t cs) (hgr : w.grownBy w' v.ownBlock) : Blk w' g t cs :=
  Blk.kept hb hgr (fun he => by have := (h.lt g he).1; omega)
def AtomsR (t : Tree) : Prop := ∀ w : World, Hid (TreeAt w t) → (atomsT t).length ≤ 1000 → Calls Tryz.prog 14 #[.agg t.cells] w fun e w' => ∃ v, e = .returned v ∧ w'.ownsRow w.heap.size 24 6 v (atomsT t).length (cellsL (atomsT t)) ∧ Below w.heap.size w w'
set_option maxRecDepth 100000 in
set_option maxHeartbeats 3200000 in
theorem atomsR_walk (t : Tree) (ih : Hid (∀ u ∈ t.sub, AtomsR u)) : AtomsR t := by
  intro w hT hle
  obtain ⟨i0, hi, hz0, hz1, hz2⟩ := info_parts Tryz.info24
  obtain ⟨k, p, f, x, n, A, c, L⟩ := t
  have hia := fun W => atomR_any (.mk k p f x n A c L) W
  simp only [Tree.cells, Tree.kind] at hia ⊢
  obtain ⟨w1, hw1⟩ : ∃ X, Hid (w.alloc (.cells #[.int .i64 k, .int .i64 p, .string f, .string x, .int .i64 n, .slice A L.length c] 24) = X) := ⟨_, rfl⟩
  have hb1 : Hid (Below w.heap.size w w1) := by rw [← hw1.out]; exact (Below.refl _ w).alloc (Nat.le_refl _) _
  have hN1 : Hid (Blk w1 w.heap.size 24 #[.int .i64 k, .int .i64 p, .string f, .string x, .int .i64 n, .slice A L.length c]) := by rw [← hw1.out]; exact Lib.hid (Blk.new _ _ _)
  have q0 : w1.cell? ⟨w.heap.size, 0, none⟩ = some (.int .i64 k) := hN1.out.cell 0
  have q1 : w1.cell? ⟨w.heap.size, 1, none⟩ = some (.int .i64 p) := hN1.out.cell 1
  have q2 : w1.cell? ⟨w.heap.size, 2, none⟩ = some (.string f) := hN1.out.cell 2
  have q3 : w1.cell? ⟨w.heap.size, 3, none⟩ = some (.string x) := hN1.out.cell 3
  have q4 : w1.cell? ⟨w.heap.size, 4, none⟩ = some (.int .i64 n) := hN1.out.cell 4
  have q5 : w1.cell? ⟨w.heap.size, 5, none⟩ = some (.slice A L.length c) := hN1.out.cell 5
  have hia1 := Lib.hid (hia w1)
  clear hia
  go_enter Tryz.func14, Tryz.ntmps14
  go_wp2_with (rw [hw1.out])
  refine hia1.out.mono ?_
  rintro e w2 ⟨rfl, hb2⟩
  have hN2 := Lib.hid (hN1.out.below hb2 hN1.out.lt)
  have hB2 : Hid (Below w.heap.size w w2) := hb1.out.trans (hb2.mono hb1.out.size)
  clear hb2 q0 q1 q2 q3 q4 q5 hia1
  have q0 : w2.cell? ⟨w.heap.size, 0, none⟩ = some (.int .i64 k) := hN2.out.cell 0
  have q1 : w2.cell? ⟨w.heap.size, 1, none⟩ = some (.int .i64 p) := hN2.out.cell 1
  have q2 : w2.cell? ⟨w.heap.size, 2, none⟩ = some (.string f) := hN2.out.cell 2
  have q3 : w2.cell? ⟨w.heap.size, 3, none⟩ = some (.string x) := hN2.out.cell 3
  have q4 : w2.cell? ⟨w.heap.size, 4, none⟩ = some (.int .i64 n) := hN2.out.cell 4
  have q5 : w2.cell? ⟨w.heap.size, 5, none⟩ = some (.slice A L.length c) := hN2.out.cell 5
  by_cases hk : 3 ≤ k ∧ k ≤ 7
  · rw [isAt_yes hk]
    have hat : Hid (atomsT (.mk k p f x n A c L) = [.mk k p f x n A c L]) := by unfold Hid; rw [atomsT, if_pos hk]
    obtain ⟨w3, hw3⟩ : ∃ X, Hid (w2.alloc (.cells #[.int .i64 k, .int .i64 p, .string f, .string x, .int .i64 n, .slice A L.length c] 24) = X) := ⟨_, rfl⟩
    have hr3 : Hid (w3.ownsRow w2.heap.size 24 6 (.slice (some ⟨w2.heap.size, 0, none⟩) 1 1) 1 (#[.int .i64 k, .int .i64 p, .string f, .string x, .int .i64 n, .slice A L.length c] : Array Value).toList) := by rw [← hw3.out]; exact Lib.hid (own_fresh w2 24 6 1 #[.int .i64 k, .int .i64 p, .string f, .string x, .int .i64 n, .slice A L.length c] rfl (by unfold maxLen; omega))
    have hb3 : Hid (Below w.heap.size w w3) := by rw [← hw3.out]; exact Lib.hid (hB2.out.alloc hB2.out.size _)
    clear hk hle
    go_wp2_with (rw [hw3.out])
    go_ret
    refine ⟨_, rfl, ?_, hb3.out⟩
    rw [hat.out]
    exact own_mono hr3.out hB2.out.size
  rw [isAt_no hk]
  have hrow0 : Hid (RowsAt w A 0 L ∧ L.length ≤ maxLen) := by have h := hT.out; rw [TreeAt] at h; exact h
  obtain ⟨nL, hnL⟩ : ∃ m, L.length = m := ⟨_, rfl⟩
  have hnLm : nL ≤ maxLen := by rw [← hnL]; exact hrow0.out.2
  have hnL' := Lib.hid hnL
  rw [hnL] at q5 hN2 ⊢
  clear hnL
  unfold maxLen at hnLm
  obtain ⟨w3, hw3⟩ : ∃ X, Hid (w2.alloc (.cells #[] 24) = X) := ⟨_, rfl⟩
  have hr3 : Hid (w3.ownsRow w2.heap.size 24 6 (.slice (some ⟨w2.heap.size, 0, none⟩) 0 0) 0 []) := by rw [← hw3.out]; exact Lib.hid (own_new w2 24 6)
  have hb3 : Hid (Below w2.heap.size w2 w3) := by rw [← hw3.out]; exact Lib.hid ((Below.refl _ w2).alloc (Nat.le_refl _) _)
  have hN3 := Lib.hid (hN2.out.below hb3.out hN2.out.lt)
  have hB3 : Hid (Below w.heap.size w w3) := hB2.out.trans (hb3.out.mono hB2.out.size)
  clear q0 q1 q2 q3 q4 q5
  have q0 : w3.cell? ⟨w.heap.size, 0, none⟩ = some (.int .i64 k) := hN3.out.cell 0
  by_cases h3 : 0 ≤ k ∧ k ≤ 2
  · have hat : atomsT (.mk k p f x n A c L) = atomsL L := by rw [atomsT, if_neg hk, if_pos h3]
    rw [hat] at hle
    have hat' := Lib.hid hat
    have hle' := Lib.hid hle
    have hc : k = 0 ∨ k = 1 ∨ k = 2 := by omega
    have hr4 := Lib.hid (own_mono hr3.out hN2.out.lt)
    clear hat hk h3 hle hN2 hB2 hr3 hb3
    rcases hc with rfl | rfl | rfl
    all_goals
      go_wp2_with (rw [hw3.out])
      go_loopw [3, 4] (fun v i wr => ∃ (q m : Nat) (k0 : Int), q ≤ nL ∧ i = .int .i64 q ∧ Hid ((atomsL (L.take q)).length = m) ∧ Hid (wr.ownsRow (w.heap.size + 1) 24 6 v m (cellsL (atomsL (L.take q)))) ∧ Hid (Blk wr w.heap.size 24 #[.int .i64 k0, .int .i64 p, .string f, .string x, .int .i64 n, .slice A nL c]) ∧ Hid (Below w.heap.size w wr)) (fun _ i _ => nL - (intOf i).toNat)
      case atStart => exact ⟨0, 0, _, Nat.zero_le _, rfl, Lib.hid (by rw [List.take_zero, atomsL]; rfl), Lib.hid (by rw [List.take_zero, atomsL]; exact hr4.out), hN3, hB3⟩
      case round =>
        obtain ⟨q, m, k0, hq, rfl, hm, hown, hN, hB⟩ := hrel
        have r0 : wr.cell? ⟨w.heap.size, 5, none⟩ = some (.slice A nL c) := hN.out.cell 5
        clear q0
        by_cases hlt : q < nL
        · obtain ⟨u, hu⟩ : ∃ u, L[q]? = some u := ⟨_, List.getElem?_eq_getElem (by have := hnL'.out; omega)⟩
          obtain ⟨hcu, htu⟩ := hrow0.out.1.get q u hu
          have hmem := List.mem_of_getElem? hu
          have hstep : Hid (atomsL (L.take (q + 1)) = atomsL (L.take q) ++ atomsT u) := Lib.hid (atomsL_take hu)
          obtain ⟨mu, hmu⟩ : ∃ mu, Hid ((atomsT u).length = mu) := ⟨_, rfl⟩
          have hlen2 : m + mu ≤ 1000 := by
            have h1 := atomsL_take_le (q + 1) L
            rw [hstep.out, List.length_append, hm.out, hmu.out] at h1
            have h2 := hle'.out
            omega
          have hT4 := Lib.hid (htu.below hB.out)
          have hub := hB.out
          clear hu htu
          have hcall := ih.out _ hmem
          unfold AtomsR at hcall
          have hcall := hcall wr hT4 (by rw [hmu.out]; omega)
          rw [hmu.out] at hcall
          obtain ⟨au, hau⟩ : ∃ l, Hid (atomsT u = l) := ⟨_, rfl⟩
          rw [hau.out] at hcall hstep hmu
          obtain ⟨uk, up, uf, ux, un, uA, uc, uL⟩ := u
          rw [Nat.zero_add] at hcu
          obtain ⟨b, off, rfl, d0, d1, d2, d3, d4, d5⟩ := hcu
          have hbl : b < w.heap.size := World.block_lt_of_cell? w _ d0
          have key : ∀ j, wr.cell? ⟨b, j, none⟩ = w.cell? ⟨b, j, none⟩ := fun j => hub.cell hbl
          rw [← key] at d0 d1 d2 d3 d4 d5
          clear key hub
          simp only [Tree.cells] at hcall
          have hcall' := Lib.hid hcall
          have i1 : (q : Int) < (nL : Int) := by omega
          have i2 : (0 : Int) ≤ (q : Int) := by omega
          have hkm : decide (q < nL) = true := decide_eq_true hlt
          clear hmem hcall hw3
          go_wp2_with fail
          refine hcall'.out.mono ?_
          rintro e w5 ⟨v5, rfl, ho5, hb5⟩
          obtain ⟨A5, c5, rfl⟩ := own_form ho5
          have hown5 := Lib.hid (own_below hown.out hb5)
          have hN5 := Lib.hid (hN.out.below hb5 hN.out.lt)
          have hB5 : Hid (Below w.heap.size w w5) := hB.out.trans (hb5.mono hB.out.size)
          have hr5 := Lib.hid (own_reads ho5)
          have hone : Hid (∀ v ∈ cellsL au, v.oneCell' = true) := Lib.hid (cellsL_one au)
          have s1 : Hid (m + mu ≤ maxLen) := by unfold Hid maxLen; omega
          have s2 : Hid ((m + mu) * 80 ≤ 140737488355328) := by unfold Hid; omega
          have s3 : Hid (w.heap.size + 1 ≤ w5.heap.size) := hN5.out.lt
          clear hcall' d0 d1 d2 d3 d4 d5 ho5 hb5 r0
          go_wp2_with (at_builtin; go_must (refine wpList_append_any _ rfl _ _ 22 rfl (w.heap.size + 1) 24 i0 _ 6 80 Tryz.underlying22 hi hz0 hz1 hz2 rfl (by decide) _ m (cellsL (atomsL (L.take q))) rfl hown5.out _ A5 mu c5 (cellsL au) rfl hr5.out hone.out s1.out s2.out s3.out ?_); intro v6 w6 ho6 hg6 hv6; have ho6' := Lib.hid ho6; have hN6 := Lib.hid (own_above hown5.out (Nat.lt_succ_self _) hN5.out hg6); have hB6 := Lib.hid (hB5.out.grown hg6 hB5.out.size (fun j hj => Nat.le_of_succ_le (hown5.out.lt j hj).1)); clear ho6 hg6 hv6)
          go_roundw
          case rel => exact ⟨q + 1, m + mu, k0, by omega, by go_num, Lib.hid (by rw [hstep.out, List.length_append, hm.out, hmu.out]), Lib.hid (by rw [hstep.out, cellsL_app]; exact ho6'.out), hN6, hB6⟩
          case measure => simp [intOf]; omega
        · have hkm : decide (q < nL) = false := decide_eq_false hlt
          have hall : Hid (L.take q = L) := Lib.hid (List.take_of_length_le (by have := hnL'.out; omega))
          go_wp2_with fail
          go_ret
          refine ⟨_, rfl, ?_, hB.out⟩
          have h := hown.out
          rw [← hm.out, hall.out] at h
          rw [hat'.out]
          exact own_mono h (Nat.le_succ _)
  · have hat : Hid (atomsT (.mk k p f x n A c L) = []) := by unfold Hid; rw [atomsT, if_neg hk, if_neg h3]
    have e0 : (k == 0) = false := by simp; omega
    have e1 : (k == 1) = false := by simp; omega
    have e2 : (k == 2) = false := by simp; omega
    clear hk h3 hle
    go_wp2_with (rw [hw3.out])
    go_ret
    refine ⟨_, rfl, ?_, hB3.out⟩
    rw [hat.out]
    exact own_mono hr3.out hB2.out.size
theorem atomsR_any : ∀ t, AtomsR t := Tree.every fun t ih => atomsR_walk t (Lib.hid ih)
end Go.Proofs.YtdjmckjbibfecaaGreatDoor

/- The document's put: a fault, once. -/
import Derived.Test.YtbpngfppddigjaaGreatDoorEo
namespace Go.Proofs.YtbpngfppddigjaaGreatDoor
open Go Go.RowKit Go.BigFrame Go.Maps

theorem fcells_append (l m : List Flt) : fcells (l ++ m) = fcells l ++ fcells m := by simp [fcells]
theorem below_grown {w w' : World} (h : Below w.heap.size w w') (row : Option Nat) : w.grownBy w' row := ⟨h.os, h.tape, h.output, h.size, fun i hi _ => h.block i hi⟩
set_option maxRecDepth 100000 in
set_option maxHeartbeats 3200000 in
theorem put_any (B : Nat) (v : Value) (n : Nat) (l : List Flt) (f : Flt) (w : World) (hB : Hid (B ≤ w.heap.size)) (hl : Hid (l.length = n)) (hn : n ≤ 100000) (ho : Hid (w.ownsRow B 40 4 v n (fcells l))) :
    Calls Tryz.prog 12 #[v, f.agg] w fun e w' => ∃ v', e = .returned v' ∧ w'.ownsRow B 40 4 v' (addF l f).length (fcells (addF l f)) ∧ Below B w w' ∧ w.grownBy w' v.ownBlock ∧ (v'.ownBlock = v.ownBlock ∨ ∃ g, w.heap.size ≤ g ∧ v'.ownBlock = some g) := by
  obtain ⟨i0, hi, hz0, hz1, hz2⟩ := info_parts Tryz.info40
  have hb0 := Lib.hid ((Below.refl w.heap.size w).alloc (Nat.le_refl _) (.cells #[.int .i64 f.paper, .int .i64 f.kind, .string f.field, .int .i64 f.why] 40))
  have hbk := Lib.hid (Blk.new w 40 #[.int .i64 f.paper, .int .i64 f.kind, .string f.field, .int .i64 f.why])
  obtain ⟨A, c, rfl, _, hF0⟩ := own_faults ho.out hl.out
  have hF := Lib.hid (hF0.below hb0.out)
  clear hF0
  obtain ⟨w0, hw0⟩ : ∃ w0, w0 = w.alloc (.cells #[.int .i64 f.paper, .int .i64 f.kind, .string f.field, .int .i64 f.why] 40) := ⟨_, rfl⟩
  have hs0 : w0.heap.size = w.heap.size + 1 := by rw [hw0, World.size_alloc]
  rw [← hw0] at hb0 hbk hF
  go_enter Tryz.func12, Tryz.ntmps12
  go_wp2_with fail
  rw [← hw0]
  clear hw0
  go_loopw [5] (fun i wr => ∃ q : Nat, q ≤ n ∧ i = .int .i64 q ∧ Hid (anyB (l.take q) f = false) ∧ Hid (Below w0.heap.size w0 wr)) (fun i _ => n - (intOf i).toNat)
  case atStart => exact ⟨0, Nat.zero_le _, rfl, rfl, Below.refl _ _⟩
  case round =>
    obtain ⟨q, hq, rfl, hs, hB1⟩ := hrel
    have hbk1 := Lib.hid (hbk.out.below hB1.out hbk.out.lt)
    have f0 : wr.cell? ⟨w.heap.size, 0, none⟩ = _ := hbk1.out.cell 0
    have f1 : wr.cell? ⟨w.heap.size, 1, none⟩ = _ := hbk1.out.cell 1
    have f2 : wr.cell? ⟨w.heap.size, 2, none⟩ = _ := hbk1.out.cell 2
    have f3 : wr.cell? ⟨w.heap.size, 3, none⟩ = _ := hbk1.out.cell 3
    simp only [List.getElem?_toArray, List.getElem?_cons_zero, List.getElem?_cons_succ] at f0 f1 f2 f3
    by_cases hlt : q < n
    · obtain ⟨x, hx⟩ : ∃ x, l[q]? = some x := ⟨_, List.getElem?_eq_getElem (by have := hl.out; omega)⟩
      have hst : Hid (anyB (l.take (q + 1)) f = eqF x f) := by
        unfold Hid anyB; rw [any_take _ hx]
        have := hs.out
        unfold anyB at this
        rw [this]; rfl
      have hxm := Lib.hid (List.mem_of_getElem? hx)
      obtain ⟨b, off, rfl, x0, x1, x2, x3⟩ := (hF.out.below hB1.out) q x hx
      clear hx
      have i3 : (q : Int) < (n : Int) := by omega
      have i4 : (0 : Int) ≤ (q : Int) := by omega
      have hqe := eq_flt x f
      have hqg := Tryz.eqg40
      cases hxf : eqF x f with
      | true =>
        rw [hxf] at hqe
        have hin : Hid (addF l f = l) := by
          have := eqF_iff.1 hxf
          unfold Hid addF
          rw [if_pos (by rw [← this]; exact hxm.out)]
        clear hxf
        go_wp2_with fail
        go_quiet (fail)
        clear hqe f0 f1 f2 f3 x0 x1 x2 x3
        go_wp2_with fail
        go_ret
        refine ⟨_, rfl, ?_, ?_, ?_, .inl rfl⟩
        · rw [hin.out, hl.out]
          exact own_below ho.out ((hb0.out.trans (hB1.out.mono (by omega))).trans (below_drewN (Below.refl _ _) _))
        · exact (((hb0.out.trans (hB1.out.mono (by omega))).trans (below_drewN (Below.refl _ _) _))).mono hB.out
        · exact below_grown (((hb0.out.trans (hB1.out.mono (by omega))).trans (below_drewN (Below.refl _ _) _))) _
      | false =>
        rw [hxf] at hqe hst
        clear hxf
        go_wp2_with fail
        go_quiet (fail)
        clear hqe
        go_wp2_with fail
        go_roundw
        case rel => exact ⟨q + 1, by omega, by go_num, hst, below_drewN hB1.out _⟩
        case measure => simp [intOf]; omega
    · have hno : Hid (addF l f = l ++ [f]) := by
        unfold Hid addF
        rw [if_neg]
        intro h
        have h1 := hs.out
        rw [List.take_of_length_le (by have := hl.out; omega)] at h1
        rw [anyB_iff.2 h] at h1; cases h1
      have ho1 := Lib.hid (own_below ho.out (hb0.out.trans (hB1.out.mono (by omega))))
      have hBw : Hid (Below w.heap.size w wr) := hb0.out.trans (hB1.out.mono (by omega))
      have hone : Hid (∀ u ∈ (#[.int .i64 f.paper, .int .i64 f.kind, .string f.field, .int .i64 f.why] : Array Value).toList, u.oneCell' = true) := by
        intro u hu
        simp at hu
        rcases hu with rfl | rfl | rfl | rfl <;> rfl
      have hn1 : Hid (n + 1 ≤ maxLen) := by unfold Hid maxLen; omega
      have hn2 : Hid ((n + 1) * 40 ≤ 140737488355328) := by unfold Hid; omega
      have hBr : Hid (B ≤ wr.heap.size) := Nat.le_trans hB.out hBw.out.size
      clear hF
      go_wp2_with (at_builtin; go_must (refine wpList_append_any _ rfl (.tmp 19) (.tmp 21) 30 rfl B 40 i0 _ 4 40 Tryz.underlying30 hi hz0 hz1 hz2 rfl (by decide) (.slice A n c) n (fcells l) rfl (ho1.out.alloc _) (wr.alloc (.cells #[.int .i64 f.paper, .int .i64 f.kind, .string f.field, .int .i64 f.why] 40)).heap.size (some ⟨wr.heap.size, 0, none⟩) 1 1 #[.int .i64 f.paper, .int .i64 f.kind, .string f.field, .int .i64 f.why].toList rfl (blk_reads (Blk.new wr 40 _) 4 1 rfl) hone.out hn1.out hn2.out (Nat.le_trans hBr.out (by simp)) ?_); intro v2 w2 ho2 hg2 hv2; have ho2' := Lib.hid ho2; have hv2' := Lib.hid hv2; have hg2' : Hid (w.grownBy w2 (Value.slice A n c).ownBlock) := (below_grown (hBw.out.alloc hBw.out.size _) _).trans hg2; have hB2 : Hid (Below B w w2) := ((hBw.out.mono hB.out).alloc hBr.out _).grown hg2 (Nat.le_trans hBr.out (by simp)) (fun k hk => (ho1.out.lt k hk).1); clear ho2 hg2 hv2)
      go_ret
      refine ⟨_, rfl, ?_, hB2.out, hg2'.out, hv2'.out.imp id (fun h => ⟨_, ?_, h⟩)⟩
      · rw [hno.out, List.length_append, hl.out, fcells_append]
        exact ho2'.out
      · exact Nat.le_trans hBw.out.size (by simp)
end Go.Proofs.YtbpngfppddigjaaGreatDoor

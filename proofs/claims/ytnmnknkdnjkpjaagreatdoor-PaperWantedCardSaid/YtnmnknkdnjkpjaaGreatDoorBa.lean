/- paper.Spoil; the document's Set and Same. -/
import Derived.Test.YtnmnknkdnjkpjaaGreatDoorX
namespace Go.Proofs.YtnmnknkdnjkpjaaGreatDoor
open Go Go.RowKit Go.BigFrame Go.Maps

set_option maxRecDepth 100000 in
set_option maxHeartbeats 800000 in
theorem spoil_any (kd : Int) (nu is : ByteArray) (A : Option Addr) (n c : Nat) (fl : List Fld) (nm vl : ByteArray) (w : World) (hn : n ≤ 1000000) (hl : Hid (fl.length = n)) (hA : Hid (FieldsAt w A fl)) :
    Calls Tryz.prog 53 #[.agg #[.int .i64 kd, .string nu, .string is, .slice A n c], .string nm, .string vl] w fun e w' => ∃ A' c', e = .returned (.agg #[.int .i64 kd, .string nu, .string is, .slice A' (setF fl nm vl).length c']) ∧ w'.ownsRow w.heap.size 79 2 (.slice A' (setF fl nm vl).length c') (setF fl nm vl).length (flF (setF fl nm vl)) ∧ Below w.heap.size w w' := by
  obtain ⟨w0, hw0⟩ : ∃ w0, Hid (w0 = ((w.alloc (.cells #[.int .i64 kd, .string nu, .string is, .slice A n c] 32)).alloc (.cells #[.int .i64 0, .string ⟨#[]⟩, .string ⟨#[]⟩, .slice none 0 0] 32))) := ⟨_, rfl⟩
  have hb0 : Hid (Below w.heap.size w w0) := by rw [hw0.out]; exact ((Below.refl _ w).alloc (Nat.le_refl _) _).alloc (by simp) _
  have hk0 : Hid (Blk w0 w.heap.size 32 #[.int .i64 kd, .string nu, .string is, .slice A n c]) := by rw [hw0.out]; exact (Blk.new w _ _).alloc _
  have hz0 : Hid (Blk w0 (w.heap.size + 1) 32 #[.int .i64 0, .string ⟨#[]⟩, .string ⟨#[]⟩, .slice none 0 0]) := by rw [hw0.out]; exact blk_second w _ _ _
  have hs0 : Hid (w0.heap.size = w.heap.size + 2) := by rw [hw0.out]; refine Lib.hid ?_; simp
  have hcl := Lib.hid (set_any A n c fl nm vl w0 hn hl (Lib.hid (hA.out.below hb0.out)))
  obtain ⟨L, hL⟩ : ∃ L, Hid (setF fl nm vl = L) := ⟨_, rfl⟩
  rw [hL.out] at hcl ⊢
  obtain ⟨m, hm⟩ : ∃ m, Hid (L.length = m) := ⟨_, rfl⟩
  rw [hm.out] at hcl ⊢
  go_enter Tryz.func53, Tryz.ntmps53
  go_wp2_with fail
  rw [← hw0.out]
  refine hcl.out.mono ?_
  rintro e w1 ⟨v, rfl, hown, hb1⟩
  obtain ⟨A1, c1, rfl, hc1, _⟩ := fields_of_own hown hm.out
  have hk1 := Lib.hid (hk0.out.below hb1 hk0.out.lt)
  have hz1 := Lib.hid (hz0.out.below hb1 hz0.out.lt)
  have hB1 := Lib.hid (hb0.out.trans (hb1.mono hb0.out.size))
  have hown' := Lib.hid hown
  have g0 : w1.cell? ⟨w.heap.size, 0, none⟩ = _ := hk1.out.cell 0
  have g1 : w1.cell? ⟨w.heap.size, 1, none⟩ = _ := hk1.out.cell 1
  have g2 : w1.cell? ⟨w.heap.size, 2, none⟩ = _ := hk1.out.cell 2
  have g3 : w1.cell? ⟨w.heap.size, 3, none⟩ = _ := hk1.out.cell 3
  have z0 : w1.cell? ⟨w.heap.size + 1, 0, none⟩ = _ := hz1.out.cell 0
  have z1 : w1.cell? ⟨w.heap.size + 1, 1, none⟩ = _ := hz1.out.cell 1
  have z2 : w1.cell? ⟨w.heap.size + 1, 2, none⟩ = _ := hz1.out.cell 2
  have z3 : w1.cell? ⟨w.heap.size + 1, 3, none⟩ = _ := hz1.out.cell 3
  simp only [List.getElem?_toArray, List.getElem?_cons_zero, List.getElem?_cons_succ] at g0 g1 g2 g3 z0 z1 z2 z3
  have f1 := hk1.out.frozen
  have f2 := hz1.out.frozen
  have hlt1 : w.heap.size < w1.heap.size := hk1.out.lt
  have hlt2 : w.heap.size + 1 < w1.heap.size := hz1.out.lt
  clear hown hb1
  go_wp2_with fail
  have hz5 := Lib.hid (((((hz1.out.far (p := ⟨w.heap.size, 3, none⟩) (by simp) (.slice A1 m c1)).set_ 0 (.int .i64 kd)).set_ 1 (.string nu)).set_ 2 (.string is)).set_ 3 (.slice A1 m c1))
  refine bodyPost_ret (results_row rfl _ _ (w.heap.size + 1) 32 _ _ rfl hz5.out Tryz.underlying32 rfl (by kernel_rfl)) rfl ?_
  have hlt : w.heap.size + 1 < w0.heap.size := by have := hs0.out; omega
  refine ⟨A1, c1, rfl, own_mono_base (ownsRow_setCell_below (ownsRow_setCell_below (ownsRow_setCell_below (ownsRow_setCell_below (ownsRow_setCell_below hown'.out (Nat.lt_of_succ_lt hlt) _) hlt _) hlt _) hlt _) hlt _) (by omega), ?_⟩
  exact ((((hB1.out.setCell (Nat.le_refl _) _).setCell (by simp) _).setCell (by simp) _).setCell (by simp) _).setCell (by simp) _

theorem Tryz.held79 : Tryz.prog.stoodInHeld 79 = false := by kernel_rfl
theorem Tryz.fields79 : Tryz.prog.underlying 79 = some (.struct (Tryz.prog.fieldsOf 79)) := by kernel_rfl
theorem neq_fld (a b : ByteArray) (W : World) : (binOp .neq 79 (.agg #[.string a, .string b]) (.agg #[.string a, .string b])).run Tryz.prog W = .ok (.bool false) W := by
  rw [run_neq_struct, run_equalIn_struct _ _ _ _ _ Tryz.fields79 Tryz.held79]
  unfold Program.fieldsOf
  rw [Tryz.underlying79]
  simp [go_sem]

set_option maxRecDepth 100000 in
set_option maxHeartbeats 800000 in
theorem sameF_any (A A' : Option Addr) (n c c' : Nat) (l : List Fld) (w : World) (hn : n ≤ 1000000) (hl : Hid (l.length = n)) (hA : Hid (FieldsAt w A l)) (hA' : Hid (FieldsAt w A' l)) :
    Calls Tryz.prog 31 #[.slice A n c, .slice A' n c'] w fun e w' => e = .returned (.bool true) ∧ Below w.heap.size w w' := by
  go_enter Tryz.func31, Tryz.ntmps31
  go_wp2_with fail
  go_loopw [5] (fun i wr => ∃ k : Nat, k ≤ n ∧ i = .int .i64 (k : Int) ∧ Hid (Below w.heap.size w wr)) (fun i _ => n - (intOf i).toNat)
  case atStart => exact ⟨0, Nat.zero_le _, rfl, Below.refl _ _⟩
  case round =>
    obtain ⟨k, hk, rfl, hB⟩ := hrel
    by_cases hlt : k < n
    · obtain ⟨x, hx⟩ : ∃ x, l[k]? = some x := ⟨_, List.getElem?_eq_getElem (by have := hl.out; omega)⟩
      obtain ⟨b, off, rfl, h0, h1⟩ := (hA.out.below hB.out) k x hx
      obtain ⟨b', off', rfl, g0, g1⟩ := (hA'.out.below hB.out) k x hx
      clear hx
      obtain ⟨nm, vl⟩ := x
      simp only at h0 h1 g0 g1
      have hq := neq_fld nm vl
      have z1 : Hid (∀ W, Below wr.heap.size wr W → W.cell? ⟨b, off + k * 2, none⟩ = some (.string nm) ∧ W.cell? ⟨b, off + k * 2 + 1, none⟩ = some (.string vl) ∧ W.cell? ⟨b', off' + k * 2, none⟩ = some (.string nm) ∧ W.cell? ⟨b', off' + k * 2 + 1, none⟩ = some (.string vl)) := fun W hW =>
        ⟨(hW.cell (World.block_lt_of_cell? _ _ h0)).trans h0, (hW.cell (World.block_lt_of_cell? _ _ h1)).trans h1, (hW.cell (World.block_lt_of_cell? _ _ g0)).trans g0, (hW.cell (World.block_lt_of_cell? _ _ g1)).trans g1⟩
      go_wp2_with fail
      go_region_held3 (fun W => W.cell? ⟨b, off + k * 2, none⟩ = some (.string nm) ∧ W.cell? ⟨b, off + k * 2 + 1, none⟩ = some (.string vl) ∧ W.cell? ⟨b', off' + k * 2, none⟩ = some (.string nm) ∧ W.cell? ⟨b', off' + k * 2 + 1, none⟩ = some (.string vl)) (exact z1.out _ (Below.refl _ _).drew) (fail)
      all_goals
        go_wp2_with fail
        go_roundw
        case rel => exact ⟨k + 1, by omega, by go_num, hB.out.drew⟩
        case measure => simp [intOf]; omega
    · go_wp2_with fail
      go_ret
      exact ⟨rfl, hB.out⟩

/-- What the document's Set has still to lay. -/
def restS (d : Bool) (r : List Fld) (nm vl : ByteArray) : List Fld := if d then r else setF r nm vl

set_option maxRecDepth 100000 in
set_option maxHeartbeats 1600000 in
theorem setR_any (A : Option Addr) (n c : Nat) (l : List Fld) (nm vl : ByteArray) (w : World) (hn : n ≤ 1000000) (hl : Hid (l.length = n)) (hA : Hid (FieldsAt w A l)) :
    Calls Tryz.prog 57 #[.slice A n c, .string nm, .string vl] w fun e w' => ∃ v, e = .returned v ∧ w'.ownsRow w.heap.size 79 2 v (setF l nm vl).length (flF (setF l nm vl)) ∧ Below w.heap.size w w' := by
  obtain ⟨i0, hi, hz0, hz1, hz2⟩ := info_parts Tryz.info79
  have hnew := Lib.hid (own_new w 79 2)
  go_enter Tryz.func57, Tryz.ntmps57
  go_wp2_with fail
  go_loopw [7, 8, 9] (fun v d i wr => ∃ (k : Nat) (b : Bool) (out : List Fld), k ≤ n ∧ i = .int .i64 (k : Int) ∧ d = .bool b ∧ out.length = k ∧ Hid (wr.ownsRow w.heap.size 79 2 v k (flF out)) ∧ Hid (setF l nm vl = out ++ restS b (l.drop k) nm vl) ∧ Hid (Below w.heap.size w wr)) (fun _ _ i _ => n - (intOf i).toNat)
  case atStart => exact ⟨0, false, [], Nat.zero_le _, rfl, rfl, rfl, hnew, rfl, (Below.refl _ w).alloc (Nat.le_refl _) _⟩
  case round =>
    obtain ⟨k, b, out, hk, rfl, rfl, hol, hown, hs, hB⟩ := hrel
    obtain ⟨Av, cw, rfl⟩ : ∃ A c, u7 = .slice A k c := by
      rcases hown.out.2 with ⟨h, h0⟩ | ⟨g, cap, cur, h, _⟩
      · exact ⟨_, _, by rw [h, h0]⟩
      · exact ⟨_, _, h⟩
    by_cases hlt : k < n
    · obtain ⟨x, hx⟩ : ∃ x, l[k]? = some x := ⟨_, List.getElem?_eq_getElem (by have := hl.out; omega)⟩
      obtain ⟨b0, off, rfl, h0, h1⟩ := (hA.out.below hB.out) k x hx
      have hd : Hid (l.drop k = x :: l.drop (k + 1)) := by
        obtain ⟨hkl, he⟩ := List.getElem?_eq_some_iff.1 hx
        unfold Hid; rw [List.drop_eq_getElem_cons hkl, he]
      clear hx
      obtain ⟨xn, xv⟩ := x
      simp only at h0 h1
      have hq1 : Hid (k + 1 ≤ maxLen) := by unfold Hid maxLen; omega
      have hq2 : Hid ((k + 1) * 32 ≤ 140737488355328) := by unfold Hid; omega
      have hB1 : Hid (Below w.heap.size w (wr.alloc (.cells #[.string xn, .string xv] 79))) := hB.out.alloc hB.out.size _
      have hsz : Hid (w.heap.size ≤ wr.heap.size) := hB.out.size
      have hown1 := Lib.hid (hown.out.alloc (.cells #[.string xn, .string xv] 79))
      by_cases hdone : b = true
      · subst hdone
        have hres : Hid (setF l nm vl = (out ++ [⟨xn, xv⟩]) ++ restS true (l.drop (k + 1)) nm vl) := by unfold Hid; rw [hs.out, hd.out]; simp [restS]
        cases hq : (xn.toList == nm.toList) with
        | true =>
          go_wp2_with (at_builtin; go_must (refine wpList_app3 w.heap.size rfl (.tmp 32) (.tmp 34) 30 rfl 79 i0 _ 2 32 Tryz.underlying30 hi hz0 hz1 hz2 rfl (by decide) (.slice Av k cw) k (flF out) rfl (wr.heap.size + 1) 1 #[.string xn, .string xv] rfl (hown1.out.alloc _) (blk_second wr _ 79 _) rfl (flF_one [⟨xn, xv⟩]) hq1.out hq2.out (Nat.le_trans hsz.out (by simp; omega)) ?_); intro v5 w5 ho5 hb5 hg5)
          have ho5' : Hid (w5.ownsRow w.heap.size 79 2 v5 (k + 1) (flF (out ++ [⟨xn, xv⟩]))) := by rw [flF_append]; exact Lib.hid ho5
          have hB5 : Hid (Below w.heap.size w w5) := (hB1.out.alloc hB1.out.size _).trans hb5
          clear ho5 hb5 hg5
          go_roundw
          case rel => exact ⟨k + 1, true, _, by omega, by go_num, rfl, by simp [hol], ho5', hres, hB5⟩
          case measure => simp [intOf]; omega
        | false =>
          go_wp2_with (at_builtin; go_must (refine wpList_app3 w.heap.size rfl (.tmp 32) (.tmp 34) 30 rfl 79 i0 _ 2 32 Tryz.underlying30 hi hz0 hz1 hz2 rfl (by decide) (.slice Av k cw) k (flF out) rfl (wr.heap.size + 1) 1 #[.string xn, .string xv] rfl (hown1.out.alloc _) (blk_second wr _ 79 _) rfl (flF_one [⟨xn, xv⟩]) hq1.out hq2.out (Nat.le_trans hsz.out (by simp; omega)) ?_); intro v5 w5 ho5 hb5 hg5)
          have ho5' : Hid (w5.ownsRow w.heap.size 79 2 v5 (k + 1) (flF (out ++ [⟨xn, xv⟩]))) := by rw [flF_append]; exact Lib.hid ho5
          have hB5 : Hid (Below w.heap.size w w5) := (hB1.out.alloc hB1.out.size _).trans hb5
          clear ho5 hb5 hg5
          go_roundw
          case rel => exact ⟨k + 1, true, _, by omega, by go_num, rfl, by simp [hol], ho5', hres, hB5⟩
          case measure => simp [intOf]; omega
      · obtain rfl : b = false := by simpa using hdone
        by_cases hq : xn.toList = nm.toList
        · have hq1' : (xn.toList == nm.toList) = true := by simp [hq]
          have hres : Hid (setF l nm vl = (out ++ [⟨xn, vl⟩]) ++ restS true (l.drop (k + 1)) nm vl) := by unfold Hid; rw [hs.out, hd.out]; simp [restS, setF, hq]
          clear hq
          have hown3 := Lib.hid ((hown.out.alloc (.cells #[.string xn, .string vl] 79)).alloc (.cells #[.string xn, .string vl] 79))
          have hB3 : Hid (Below w.heap.size w (wr.alloc (.cells #[.string xn, .string vl] 79))) := hB.out.alloc hsz.out _
          go_wp2_with (at_builtin; go_must (refine wpList_app3 w.heap.size rfl (.tmp 32) (.tmp 34) 30 rfl 79 i0 _ 2 32 Tryz.underlying30 hi hz0 hz1 hz2 rfl (by decide) (.slice Av k cw) k (flF out) rfl (wr.heap.size + 1) 1 #[.string xn, .string vl] rfl hown3.out (blk_second wr _ 79 _) rfl (flF_one [⟨xn, vl⟩]) hq1.out hq2.out (Nat.le_trans hsz.out (by simp; omega)) ?_); intro v5 w5 ho5 hb5 hg5)
          have ho5' : Hid (w5.ownsRow w.heap.size 79 2 v5 (k + 1) (flF (out ++ [⟨xn, vl⟩]))) := by rw [flF_append]; exact Lib.hid ho5
          have hB5 : Hid (Below w.heap.size w w5) := (hB3.out.alloc hB3.out.size _).trans hb5
          clear ho5 hb5 hg5
          go_roundw
          case rel => exact ⟨k + 1, true, _, by omega, by go_num, rfl, by simp [hol], ho5', hres, hB5⟩
          case measure => simp [intOf]; omega
        · have hq1' : (xn.toList == nm.toList) = false := by simp [hq]
          have hres : Hid (setF l nm vl = (out ++ [⟨xn, xv⟩]) ++ restS false (l.drop (k + 1)) nm vl) := by unfold Hid; rw [hs.out, hd.out]; simp [restS, setF, hq]
          clear hq
          go_wp2_with (at_builtin; go_must (refine wpList_app3 w.heap.size rfl (.tmp 32) (.tmp 34) 30 rfl 79 i0 _ 2 32 Tryz.underlying30 hi hz0 hz1 hz2 rfl (by decide) (.slice Av k cw) k (flF out) rfl (wr.heap.size + 1) 1 #[.string xn, .string xv] rfl (hown1.out.alloc _) (blk_second wr _ 79 _) rfl (flF_one [⟨xn, xv⟩]) hq1.out hq2.out (Nat.le_trans hsz.out (by simp; omega)) ?_); intro v5 w5 ho5 hb5 hg5)
          have ho5' : Hid (w5.ownsRow w.heap.size 79 2 v5 (k + 1) (flF (out ++ [⟨xn, xv⟩]))) := by rw [flF_append]; exact Lib.hid ho5
          have hB5 : Hid (Below w.heap.size w w5) := (hB1.out.alloc hB1.out.size _).trans hb5
          clear ho5 hb5 hg5
          go_roundw
          case rel => exact ⟨k + 1, false, _, by omega, by go_num, rfl, by simp [hol], ho5', hres, hB5⟩
          case measure => simp [intOf]; omega
    · have e : k = n := by omega
      have eD : l.drop k = [] := List.drop_eq_nil_of_le (by have := hl.out; omega)
      have hs' := hs.out
      rw [eD] at hs'
      have hsz : Hid (w.heap.size ≤ wr.heap.size) := hB.out.size
      have hq1 : Hid (k + 1 ≤ maxLen) := by unfold Hid maxLen; omega
      have hq2 : Hid ((k + 1) * 32 ≤ 140737488355328) := by unfold Hid; omega
      clear eD
      cases b with
      | true =>
        have hE : Hid (setF l nm vl = out) := by unfold Hid; rw [hs']; simp [restS]
        clear hs'
        go_wp2_with fail
        go_ret
        exact ⟨_, rfl, by rw [hE.out, hol]; exact hown.out, hB.out⟩
      | false =>
        have hE : Hid (setF l nm vl = out ++ [⟨nm, vl⟩]) := by unfold Hid; rw [hs']; simp [restS, setF]
        have hown1 := Lib.hid (hown.out.alloc (.cells #[.string nm, .string vl] 79))
        clear hs' e
        go_wp2_with (at_builtin; go_must (refine wpList_app3 w.heap.size rfl (.tmp 38) (.tmp 42) 30 rfl 79 i0 _ 2 32 Tryz.underlying30 hi hz0 hz1 hz2 rfl (by decide) (.slice Av k cw) k (flF out) rfl wr.heap.size 1 #[.string nm, .string vl] rfl hown1.out (Blk.new wr 79 _) rfl (flF_one [⟨nm, vl⟩]) hq1.out hq2.out (Nat.le_trans hsz.out (by simp)) ?_); intro v5 w5 ho5 hb5 hg5)
        go_ret
        exact ⟨_, rfl, by rw [hE.out, flF_append, List.length_append, hol]; exact ho5, (hB.out.alloc hsz.out _).trans hb5⟩
end Go.Proofs.YtnmnknkdnjkpjaaGreatDoor

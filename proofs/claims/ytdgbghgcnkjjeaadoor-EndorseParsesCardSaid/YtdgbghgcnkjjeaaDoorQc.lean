/- The walk of the document's One (printed by wip/tools/gen_one.py). -/
import Derived.Test.YtdgbghgcnkjjeaaDoorQb
import Derived.Test.YtdgbghgcnkjjeaaDoorFam
namespace Go.Proofs.YtdgbghgcnkjjeaaDoor
open Go.RowKit Go.BigFrame

def oneCs (f t : ByteArray) (k d : Int) : Bool → Array Value
  | false => #[.string ⟨#[]⟩, .string ⟨#[]⟩, .int .i64 0, .int .i64 0]
  | true => #[.string f, .string t, .int .i64 k, .int .i64 d]
theorem one_some {W : World} {z : Nat} {f t : ByteArray} {k d : Int} (h : Blk W z 34 #[.string ⟨#[]⟩, .string ⟨#[]⟩, .int .i64 0, .int .i64 0]) (b : Bool) : Nonempty (FamT W z 34 (oneCs f t k d) b) := by
  cases b with
  | false => exact ⟨⟨_, But.refl _ _, h⟩⟩
  | true => exact ⟨⟨_, ((((But.refl z _).setCell 0 (.string f)).setCell 1 (.string t)).setCell 2 (.int .i64 k)).setCell 3 (.int .i64 d), by simpa [oneCs] using (((h.set_ 0 (.string f)).set_ 1 (.string t)).set_ 2 (.int .i64 k)).set_ 3 (.int .i64 d)⟩⟩
theorem one_val {s : List UInt8} {x : End} (h : oneX (parts 32 s) = x) : oneR s = (x, x.okB && decide (lineL x = s ++ [10])) := by unfold oneR; rw [h]
theorem line_eq (l : List UInt8) (s : ByteArray) : (l == (s ++ ⟨#[10]⟩).toList) = decide (l = s.data.toList ++ [10]) := by
  rw [ByteArray.toList_eq, Bool.eq_iff_iff]; simp
theorem mkB_inj {l : List UInt8} {a : ByteArray} (h : mkB l = a) : l = a.data.toList := by rw [← h]; simp [mkB]
theorem ones_three {s : List UInt8} {a b c : ByteArray} (h : (parts 32 s).map mkB = [a, b, c]) : oneX (parts 32 s) = ⟨b, ⟨#[]⟩, 1, numRI c.data.toList⟩ := by
  match hp : parts 32 s, h with
  | [x, y, z], h =>
    simp only [List.map_cons, List.map_nil, List.cons.injEq, and_true] at h
    obtain ⟨_, rfl, rfl⟩ := h
    rfl
theorem ones_four {s : List UInt8} {a b c d : ByteArray} (h : (parts 32 s).map mkB = [a, b, c, d]) : oneX (parts 32 s) = ⟨b, c, if a.data.toList = [111, 110, 108, 121] then 2 else 0, numRI d.data.toList⟩ := by
  match hp : parts 32 s, h with
  | [x, y, z, u], h =>
    simp only [List.map_cons, List.map_nil, List.cons.injEq, and_true] at h
    obtain ⟨rfl, rfl, rfl, rfl⟩ := h
    rfl
theorem ones_other {s : List UInt8} (h3 : (parts 32 s).length ≠ 3) (h4 : (parts 32 s).length ≠ 4) : oneX (parts 32 s) = endNone := by
  match hp : parts 32 s with
  | [] => rfl
  | [_] => rfl
  | [_, _] => rfl
  | [_, _, _] => rw [hp] at h3; simp at h3
  | [_, _, _, _] => rw [hp] at h4; simp at h4
  | _ :: _ :: _ :: _ :: _ :: _ => rfl

set_option maxRecDepth 100000 in
set_option maxHeartbeats 1600000 in
theorem one_three (s a b c : ByteArray) (w : World) (hs : s.size ≤ 3000) (hfm : b.size ≤ maxLen) (hc : c.size ≤ maxLen) (hsp : Hid ((parts 32 s.data.toList).map mkB = [a, b, c])) :
    Calls Tryd.prog 22 #[.string s] w fun e w' => e = .returned (endV (oneR s.data.toList)) ∧ Below w.heap.size w w' := by
  have hzm : (⟨#[]⟩ : ByteArray).size ≤ maxLen := by decide
  go_enter Tryd.func22, Tryd.ntmps22
  go_wp2_with fail
  refine (parts_any s 32 _ hs).mono ?_
  rintro e w1 ⟨A, n, rfl, hA, hb1⟩
  rw [hsp.out] at hA ⊢
  obtain ⟨bb, off, rfl, c0⟩ := hA 0 a rfl
  obtain ⟨_, _, e1, c1⟩ := hA 1 b rfl
  simp only [Option.some.injEq, Addr.mk.injEq, and_true] at e1
  obtain ⟨rfl, rfl⟩ := e1
  obtain ⟨_, _, e2, c2⟩ := hA 2 c rfl
  simp only [Option.some.injEq, Addr.mk.injEq, and_true] at e2
  obtain ⟨rfl, rfl⟩ := e2
  have hblt := World.block_lt_of_cell? w1 _ c0
  simp only at hblt
  simp only [Nat.add_zero] at c0
  have hB1 : Below w.heap.size w w1 := ((Below.refl _ w).alloc (Nat.le_refl _) _).trans (hb1.mono (by simp))
  have a1 : Blk w1 w.heap.size 34 #[.string ⟨#[]⟩, .string ⟨#[]⟩, .int .i64 0, .int .i64 0] := (Blk.new w 34 _).below hb1 (by simp)
  have hzw : w.heap.size < w1.heap.size := a1.lt
  clear hA
  have htm := hzm
  go_upto_region 4 with fail
  go_cut [] (fun wx => wx = (w1.alloc (.cells #[.string b, .string ⟨#[]⟩, .int .i64 1, .int .i64 (numRI c.data.toList)] 34)).drew)
  case first =>
    go_region_with ((go_at_call 33; refine (numR_any c _ hc).mono ?_; rintro e w2 ⟨rfl, rfl⟩))
    all_goals
      go_wp2_with fail
      go_meet
      case rel => rfl
  case rest =>
    subst hcut
    go_wp2_with fail
    obtain ⟨d, hd⟩ : ∃ d, Hid (d = numRI c.data.toList) := ⟨_, rfl⟩
    rw [← hd.out]
    have hone : Hid (oneX (parts 32 s.data.toList) = ⟨b, ⟨#[]⟩, 1, d⟩) := by unfold Hid; rw [hd.out]; exact ones_three hsp.out
    have hW0 : Blk (w1.alloc (.cells #[.string b, .string ⟨#[]⟩, .int .i64 1, .int .i64 d] 34)).drew w.heap.size 34 #[.string ⟨#[]⟩, .string ⟨#[]⟩, .int .i64 0, .int .i64 0] := by first | exact (a1.alloc _).drew | exact a1.alloc _
    have hX0 : Blk (w1.alloc (.cells #[.string b, .string ⟨#[]⟩, .int .i64 1, .int .i64 d] 34)).drew w1.heap.size 34 #[.string b, .string ⟨#[]⟩, .int .i64 1, .int .i64 d] := by first | exact (Blk.new w1 34 _).drew | exact Blk.new w1 34 _
    have hB0 : Below w.heap.size w (w1.alloc (.cells #[.string b, .string ⟨#[]⟩, .int .i64 1, .int .i64 d] 34)).drew := by first | exact (hB1.alloc hB1.size _).drew | exact hB1.alloc hB1.size _
    have hx0 : ∀ (b' : Bool) (y : FamT (w1.alloc (.cells #[.string b, .string ⟨#[]⟩, .int .i64 1, .int .i64 d] 34)).drew w.heap.size 34 (oneCs b ⟨#[]⟩ 1 d) b') (o : Nat), y.wd.cell? ⟨w1.heap.size, o, none⟩ = (#[.string b, .string ⟨#[]⟩, .int .i64 1, .int .i64 d] : Array Value)[o]? := fun b' y o => by
      rw [y.cell ⟨w1.heap.size, o, none⟩ hX0.lt (by show w1.heap.size ≠ w.heap.size; omega)]
      exact hX0.cell o
    cases hok : End.okB ⟨b, ⟨#[]⟩, 1, d⟩ with
    | false =>
      have hR : ∀ W, Calls Tryd.prog 17 #[.agg #[.string b, .string ⟨#[]⟩, .int .i64 1, .int .i64 d]] W fun e w' => e = .returned (.bool false) ∧ Below W.heap.size W w' := fun W => by
        have := right_any b ⟨#[]⟩ 1 d W hfm htm
        rwa [hok] at this
      apply wp_region_store 10 49 _ (fun b' w' => ∃ y : FamT (w1.alloc (.cells #[.string b, .string ⟨#[]⟩, .int .i64 1, .int .i64 d] 34)).drew w.heap.size 34 (oneCs b ⟨#[]⟩ 1 d) b', w' = y.wd) (by kernel_rfl) (by kernel_rfl) rfl rfl rfl (by kernel_rfl) (by kernel_rfl) rfl ?hC ?h1 ?hs ?h2 ?hn ?hQ
      case h1 =>
        intro b'
        haveI : Nonempty (FamT (w1.alloc (.cells #[.string b, .string ⟨#[]⟩, .int .i64 1, .int .i64 d] 34)).drew w.heap.size 34 (oneCs b ⟨#[]⟩ 1 d) b') := one_some hW0 b'
        have hx := hx0 b'
        simp only [List.take_succ_cons, List.take_zero]
        repeat (go_big_quiet_step ((go_at_call 17; exact Calls.fam_of (hR _))))
        exact wpQuiet_nil rfl
      case h2 =>
        intro b'
        haveI : Nonempty (FamT (w1.alloc (.cells #[.string b, .string ⟨#[]⟩, .int .i64 1, .int .i64 d] 34)).drew w.heap.size 34 (oneCs b ⟨#[]⟩ 1 d) b') := one_some hW0 b'
        simp only [List.drop_succ_cons, List.drop_zero]
        repeat (go_big_quiet_step (fail))
        exact wpQuiet_nil rfl
      case hn => rfl
      case hC => exact ⟨⟨World.drew (w1.alloc (.cells #[.string b, .string ⟨#[]⟩, .int .i64 1, .int .i64 d] 34)).drew, ⟨rfl, rfl, rfl, Nat.le_refl _, fun _ _ _ => rfl⟩, hW0.drew⟩, rfl⟩
      case hs =>
        rintro _ ⟨y, rfl⟩
        have hb0 : Blk y.wd w.heap.size 34 #[.string ⟨#[]⟩, .string ⟨#[]⟩, .int .i64 0, .int .i64 0] := y.2.2
        have q0 := hb0.cell 0
        have q1 := hb0.cell 1
        have q2 := hb0.cell 2
        have q3 := hb0.cell 3
        have qf := hb0.frozen
        have hbu : But w.heap.size (w1.alloc (.cells #[.string b, .string ⟨#[]⟩, .int .i64 1, .int .i64 d] 34)).drew y.wd := y.2.1
        refine ⟨_, by simp [go_sem, q0, q1, q2, q3, qf]; rfl, ?_⟩
        exact ⟨⟨_, (((hbu.setCell 0 _).setCell 1 _).setCell 2 _).setCell 3 _, by show Blk _ _ _ #[.string b, .string ⟨#[]⟩, .int .i64 1, .int .i64 d]; simpa using (((hb0.set_ 0 (.string b)).set_ 1 (.string ⟨#[]⟩)).set_ 2 (.int .i64 1)).set_ 3 (.int .i64 d)⟩, rfl⟩
      case hQ =>
        rintro _ ⟨y, rfl⟩
        have hb0 : Blk y.wd w.heap.size 34 #[.string b, .string ⟨#[]⟩, .int .i64 1, .int .i64 d] := y.2.2
        have q0 := hb0.cell 0
        have q1 := hb0.cell 1
        have q2 := hb0.cell 2
        have q3 := hb0.cell 3
        go_wp2_with fail
        refine bodyPost_ret (v := .tuple #[.agg #[.string b, .string ⟨#[]⟩, .int .i64 1, .int .i64 d], .bool false]) ?_ rfl ⟨?_, y.2.1.to_below hB0 (Nat.le_refl _) hB0.size⟩
        · simp [results, Tryd.results22, go_sem, q0, q1, q2, q3]
        · rw [one_val hone.out, hok]; simp [endV]
    | true =>
      have hR : ∀ W, Calls Tryd.prog 17 #[.agg #[.string b, .string ⟨#[]⟩, .int .i64 1, .int .i64 d]] W fun e w' => e = .returned (.bool true) ∧ Below W.heap.size W w' := fun W => by
        have := right_any b ⟨#[]⟩ 1 d W hfm htm
        rwa [hok] at this
      have hL : ∀ W, Calls Tryd.prog 18 #[.agg #[.string b, .string ⟨#[]⟩, .int .i64 1, .int .i64 d]] W fun e w' => e = .returned (.string ⟨(lineL ⟨b, ⟨#[]⟩, 1, d⟩).toArray⟩) ∧ Below W.heap.size W w' := fun W => by
        have h16 := okB_sizes hok
        exact lineR_any ⟨b, ⟨#[]⟩, 1, d⟩ W hok ⟨Nat.le_trans h16.1 (by omega), Nat.le_trans h16.2 (by omega)⟩
      apply wp_region_store 10 49 _ (fun b' w' => ∃ y : FamT (w1.alloc (.cells #[.string b, .string ⟨#[]⟩, .int .i64 1, .int .i64 d] 34)).drew w.heap.size 34 (oneCs b ⟨#[]⟩ 1 d) b', w' = y.wd) (by kernel_rfl) (by kernel_rfl) rfl rfl rfl (by kernel_rfl) (by kernel_rfl) rfl ?hC ?h1 ?hs ?h2 ?hn ?hQ
      case h1 =>
        intro b'
        haveI : Nonempty (FamT (w1.alloc (.cells #[.string b, .string ⟨#[]⟩, .int .i64 1, .int .i64 d] 34)).drew w.heap.size 34 (oneCs b ⟨#[]⟩ 1 d) b') := one_some hW0 b'
        have hx := hx0 b'
        simp only [List.take_succ_cons, List.take_zero]
        repeat (go_big_quiet_step ((first | (go_at_call 17; exact Calls.fam_of (hR _)) | (go_at_call 18; exact Calls.fam_of (hL _)))))
        exact wpQuiet_nil rfl
      case h2 =>
        intro b'
        haveI : Nonempty (FamT (w1.alloc (.cells #[.string b, .string ⟨#[]⟩, .int .i64 1, .int .i64 d] 34)).drew w.heap.size 34 (oneCs b ⟨#[]⟩ 1 d) b') := one_some hW0 b'
        simp only [List.drop_succ_cons, List.drop_zero]
        repeat (go_big_quiet_step (fail))
        exact wpQuiet_nil rfl
      case hn => rfl
      case hC => exact ⟨⟨World.drew (w1.alloc (.cells #[.string b, .string ⟨#[]⟩, .int .i64 1, .int .i64 d] 34)).drew, ⟨rfl, rfl, rfl, Nat.le_refl _, fun _ _ _ => rfl⟩, hW0.drew⟩, rfl⟩
      case hs =>
        rintro _ ⟨y, rfl⟩
        have hb0 : Blk y.wd w.heap.size 34 #[.string ⟨#[]⟩, .string ⟨#[]⟩, .int .i64 0, .int .i64 0] := y.2.2
        have q0 := hb0.cell 0
        have q1 := hb0.cell 1
        have q2 := hb0.cell 2
        have q3 := hb0.cell 3
        have qf := hb0.frozen
        have hbu : But w.heap.size (w1.alloc (.cells #[.string b, .string ⟨#[]⟩, .int .i64 1, .int .i64 d] 34)).drew y.wd := y.2.1
        refine ⟨_, by simp [go_sem, q0, q1, q2, q3, qf]; rfl, ?_⟩
        exact ⟨⟨_, (((hbu.setCell 0 _).setCell 1 _).setCell 2 _).setCell 3 _, by show Blk _ _ _ #[.string b, .string ⟨#[]⟩, .int .i64 1, .int .i64 d]; simpa using (((hb0.set_ 0 (.string b)).set_ 1 (.string ⟨#[]⟩)).set_ 2 (.int .i64 1)).set_ 3 (.int .i64 d)⟩, rfl⟩
      case hQ =>
        rintro _ ⟨y, rfl⟩
        have hb0 : Blk y.wd w.heap.size 34 #[.string b, .string ⟨#[]⟩, .int .i64 1, .int .i64 d] := y.2.2
        have q0 := hb0.cell 0
        have q1 := hb0.cell 1
        have q2 := hb0.cell 2
        have q3 := hb0.cell 3
        go_wp2_with fail
        refine bodyPost_ret (v := .tuple #[.agg #[.string b, .string ⟨#[]⟩, .int .i64 1, .int .i64 d], .bool (decide (lineL ⟨b, ⟨#[]⟩, 1, d⟩ = s.data.toList ++ [10]))]) ?_ rfl ⟨?_, y.2.1.to_below hB0 (Nat.le_refl _) hB0.size⟩
        · simp [results, Tryd.results22, go_sem, q0, q1, q2, q3, line_eq]
        · rw [one_val hone.out, hok]; simp [endV]

set_option maxRecDepth 100000 in
set_option maxHeartbeats 1600000 in
theorem one_four (s a b c d0 : ByteArray) (w : World) (hs : s.size ≤ 3000) (hfm : b.size ≤ maxLen) (htm : c.size ≤ maxLen) (hc : d0.size ≤ maxLen) (hsp : Hid ((parts 32 s.data.toList).map mkB = [a, b, c, d0])) :
    Calls Tryd.prog 22 #[.string s] w fun e w' => e = .returned (endV (oneR s.data.toList)) ∧ Below w.heap.size w w' := by
  have hzm : (⟨#[]⟩ : ByteArray).size ≤ maxLen := by decide
  go_enter Tryd.func22, Tryd.ntmps22
  go_wp2_with fail
  refine (parts_any s 32 _ hs).mono ?_
  rintro e w1 ⟨A, n, rfl, hA, hb1⟩
  rw [hsp.out] at hA ⊢
  obtain ⟨bb, off, rfl, c0⟩ := hA 0 a rfl
  obtain ⟨_, _, e1, c1⟩ := hA 1 b rfl
  simp only [Option.some.injEq, Addr.mk.injEq, and_true] at e1
  obtain ⟨rfl, rfl⟩ := e1
  obtain ⟨_, _, e2, c2⟩ := hA 2 c rfl
  simp only [Option.some.injEq, Addr.mk.injEq, and_true] at e2
  obtain ⟨rfl, rfl⟩ := e2
  obtain ⟨_, _, e3, c3⟩ := hA 3 d0 rfl
  simp only [Option.some.injEq, Addr.mk.injEq, and_true] at e3
  obtain ⟨rfl, rfl⟩ := e3
  have hblt := World.block_lt_of_cell? w1 _ c0
  simp only at hblt
  simp only [Nat.add_zero] at c0
  have hB1 : Below w.heap.size w w1 := ((Below.refl _ w).alloc (Nat.le_refl _) _).trans (hb1.mono (by simp))
  have a1 : Blk w1 w.heap.size 34 #[.string ⟨#[]⟩, .string ⟨#[]⟩, .int .i64 0, .int .i64 0] := (Blk.new w 34 _).below hb1 (by simp)
  have hzw : w.heap.size < w1.heap.size := a1.lt
  clear hA
  go_upto_region 6 with fail
  go_cut [] (fun wx => wx = (w1.alloc (.cells #[.string b, .string c, .int .i64 0, .int .i64 (numRI d0.data.toList)] 34)).drew)
  case first =>
    go_region_with ((go_at_call 33; refine (numR_any d0 _ hc).mono ?_; rintro e w2 ⟨rfl, rfl⟩))
    all_goals
      go_wp2_with fail
      go_meet
      case rel => rfl
  case rest =>
    subst hcut
    obtain ⟨d, hd⟩ : ∃ d, Hid (d = numRI d0.data.toList) := ⟨_, rfl⟩
    rw [← hd.out]
    cases ha : (a.toList == [111, 110, 108, 121]) with
    | true =>
      have hone : Hid (oneX (parts 32 s.data.toList) = ⟨b, c, 2, d⟩) := by
        unfold Hid; rw [hd.out, ones_four hsp.out, if_pos]; rw [ByteArray.toList_eq] at ha; simpa using ha
      go_wp2_with fail
      have hW0 : Blk (w1.alloc (.cells #[.string b, .string c, .int .i64 2, .int .i64 d] 34)).drew w.heap.size 34 #[.string ⟨#[]⟩, .string ⟨#[]⟩, .int .i64 0, .int .i64 0] := by first | exact (a1.alloc _).drew | exact a1.alloc _
      have hX0 : Blk (w1.alloc (.cells #[.string b, .string c, .int .i64 2, .int .i64 d] 34)).drew w1.heap.size 34 #[.string b, .string c, .int .i64 2, .int .i64 d] := by first | exact (Blk.new w1 34 _).drew | exact Blk.new w1 34 _
      have hB0 : Below w.heap.size w (w1.alloc (.cells #[.string b, .string c, .int .i64 2, .int .i64 d] 34)).drew := by first | exact (hB1.alloc hB1.size _).drew | exact hB1.alloc hB1.size _
      have hx0 : ∀ (b' : Bool) (y : FamT (w1.alloc (.cells #[.string b, .string c, .int .i64 2, .int .i64 d] 34)).drew w.heap.size 34 (oneCs b c 2 d) b') (o : Nat), y.wd.cell? ⟨w1.heap.size, o, none⟩ = (#[.string b, .string c, .int .i64 2, .int .i64 d] : Array Value)[o]? := fun b' y o => by
        rw [y.cell ⟨w1.heap.size, o, none⟩ hX0.lt (by show w1.heap.size ≠ w.heap.size; omega)]
        exact hX0.cell o
      cases hok : End.okB ⟨b, c, 2, d⟩ with
      | false =>
        have hR : ∀ W, Calls Tryd.prog 17 #[.agg #[.string b, .string c, .int .i64 2, .int .i64 d]] W fun e w' => e = .returned (.bool false) ∧ Below W.heap.size W w' := fun W => by
          have := right_any b c 2 d W hfm htm
          rwa [hok] at this
        apply wp_region_store 10 49 _ (fun b' w' => ∃ y : FamT (w1.alloc (.cells #[.string b, .string c, .int .i64 2, .int .i64 d] 34)).drew w.heap.size 34 (oneCs b c 2 d) b', w' = y.wd) (by kernel_rfl) (by kernel_rfl) rfl rfl rfl (by kernel_rfl) (by kernel_rfl) rfl ?hC ?h1 ?hs ?h2 ?hn ?hQ
        case h1 =>
          intro b'
          haveI : Nonempty (FamT (w1.alloc (.cells #[.string b, .string c, .int .i64 2, .int .i64 d] 34)).drew w.heap.size 34 (oneCs b c 2 d) b') := one_some hW0 b'
          have hx := hx0 b'
          simp only [List.take_succ_cons, List.take_zero]
          repeat (go_big_quiet_step ((go_at_call 17; exact Calls.fam_of (hR _))))
          exact wpQuiet_nil rfl
        case h2 =>
          intro b'
          haveI : Nonempty (FamT (w1.alloc (.cells #[.string b, .string c, .int .i64 2, .int .i64 d] 34)).drew w.heap.size 34 (oneCs b c 2 d) b') := one_some hW0 b'
          simp only [List.drop_succ_cons, List.drop_zero]
          repeat (go_big_quiet_step (fail))
          exact wpQuiet_nil rfl
        case hn => rfl
        case hC => exact ⟨⟨World.drew (w1.alloc (.cells #[.string b, .string c, .int .i64 2, .int .i64 d] 34)).drew, ⟨rfl, rfl, rfl, Nat.le_refl _, fun _ _ _ => rfl⟩, hW0.drew⟩, rfl⟩
        case hs =>
          rintro _ ⟨y, rfl⟩
          have hb0 : Blk y.wd w.heap.size 34 #[.string ⟨#[]⟩, .string ⟨#[]⟩, .int .i64 0, .int .i64 0] := y.2.2
          have q0 := hb0.cell 0
          have q1 := hb0.cell 1
          have q2 := hb0.cell 2
          have q3 := hb0.cell 3
          have qf := hb0.frozen
          have hbu : But w.heap.size (w1.alloc (.cells #[.string b, .string c, .int .i64 2, .int .i64 d] 34)).drew y.wd := y.2.1
          refine ⟨_, by simp [go_sem, q0, q1, q2, q3, qf]; rfl, ?_⟩
          exact ⟨⟨_, (((hbu.setCell 0 _).setCell 1 _).setCell 2 _).setCell 3 _, by show Blk _ _ _ #[.string b, .string c, .int .i64 2, .int .i64 d]; simpa using (((hb0.set_ 0 (.string b)).set_ 1 (.string c)).set_ 2 (.int .i64 2)).set_ 3 (.int .i64 d)⟩, rfl⟩
        case hQ =>
          rintro _ ⟨y, rfl⟩
          have hb0 : Blk y.wd w.heap.size 34 #[.string b, .string c, .int .i64 2, .int .i64 d] := y.2.2
          have q0 := hb0.cell 0
          have q1 := hb0.cell 1
          have q2 := hb0.cell 2
          have q3 := hb0.cell 3
          go_wp2_with fail
          refine bodyPost_ret (v := .tuple #[.agg #[.string b, .string c, .int .i64 2, .int .i64 d], .bool false]) ?_ rfl ⟨?_, y.2.1.to_below hB0 (Nat.le_refl _) hB0.size⟩
          · simp [results, Tryd.results22, go_sem, q0, q1, q2, q3]
          · rw [one_val hone.out, hok]; simp [endV]
      | true =>
        have hR : ∀ W, Calls Tryd.prog 17 #[.agg #[.string b, .string c, .int .i64 2, .int .i64 d]] W fun e w' => e = .returned (.bool true) ∧ Below W.heap.size W w' := fun W => by
          have := right_any b c 2 d W hfm htm
          rwa [hok] at this
        have hL : ∀ W, Calls Tryd.prog 18 #[.agg #[.string b, .string c, .int .i64 2, .int .i64 d]] W fun e w' => e = .returned (.string ⟨(lineL ⟨b, c, 2, d⟩).toArray⟩) ∧ Below W.heap.size W w' := fun W => by
          have h16 := okB_sizes hok
          exact lineR_any ⟨b, c, 2, d⟩ W hok ⟨Nat.le_trans h16.1 (by omega), Nat.le_trans h16.2 (by omega)⟩
        apply wp_region_store 10 49 _ (fun b' w' => ∃ y : FamT (w1.alloc (.cells #[.string b, .string c, .int .i64 2, .int .i64 d] 34)).drew w.heap.size 34 (oneCs b c 2 d) b', w' = y.wd) (by kernel_rfl) (by kernel_rfl) rfl rfl rfl (by kernel_rfl) (by kernel_rfl) rfl ?hC ?h1 ?hs ?h2 ?hn ?hQ
        case h1 =>
          intro b'
          haveI : Nonempty (FamT (w1.alloc (.cells #[.string b, .string c, .int .i64 2, .int .i64 d] 34)).drew w.heap.size 34 (oneCs b c 2 d) b') := one_some hW0 b'
          have hx := hx0 b'
          simp only [List.take_succ_cons, List.take_zero]
          repeat (go_big_quiet_step ((first | (go_at_call 17; exact Calls.fam_of (hR _)) | (go_at_call 18; exact Calls.fam_of (hL _)))))
          exact wpQuiet_nil rfl
        case h2 =>
          intro b'
          haveI : Nonempty (FamT (w1.alloc (.cells #[.string b, .string c, .int .i64 2, .int .i64 d] 34)).drew w.heap.size 34 (oneCs b c 2 d) b') := one_some hW0 b'
          simp only [List.drop_succ_cons, List.drop_zero]
          repeat (go_big_quiet_step (fail))
          exact wpQuiet_nil rfl
        case hn => rfl
        case hC => exact ⟨⟨World.drew (w1.alloc (.cells #[.string b, .string c, .int .i64 2, .int .i64 d] 34)).drew, ⟨rfl, rfl, rfl, Nat.le_refl _, fun _ _ _ => rfl⟩, hW0.drew⟩, rfl⟩
        case hs =>
          rintro _ ⟨y, rfl⟩
          have hb0 : Blk y.wd w.heap.size 34 #[.string ⟨#[]⟩, .string ⟨#[]⟩, .int .i64 0, .int .i64 0] := y.2.2
          have q0 := hb0.cell 0
          have q1 := hb0.cell 1
          have q2 := hb0.cell 2
          have q3 := hb0.cell 3
          have qf := hb0.frozen
          have hbu : But w.heap.size (w1.alloc (.cells #[.string b, .string c, .int .i64 2, .int .i64 d] 34)).drew y.wd := y.2.1
          refine ⟨_, by simp [go_sem, q0, q1, q2, q3, qf]; rfl, ?_⟩
          exact ⟨⟨_, (((hbu.setCell 0 _).setCell 1 _).setCell 2 _).setCell 3 _, by show Blk _ _ _ #[.string b, .string c, .int .i64 2, .int .i64 d]; simpa using (((hb0.set_ 0 (.string b)).set_ 1 (.string c)).set_ 2 (.int .i64 2)).set_ 3 (.int .i64 d)⟩, rfl⟩
        case hQ =>
          rintro _ ⟨y, rfl⟩
          have hb0 : Blk y.wd w.heap.size 34 #[.string b, .string c, .int .i64 2, .int .i64 d] := y.2.2
          have q0 := hb0.cell 0
          have q1 := hb0.cell 1
          have q2 := hb0.cell 2
          have q3 := hb0.cell 3
          go_wp2_with fail
          refine bodyPost_ret (v := .tuple #[.agg #[.string b, .string c, .int .i64 2, .int .i64 d], .bool (decide (lineL ⟨b, c, 2, d⟩ = s.data.toList ++ [10]))]) ?_ rfl ⟨?_, y.2.1.to_below hB0 (Nat.le_refl _) hB0.size⟩
          · simp [results, Tryd.results22, go_sem, q0, q1, q2, q3, line_eq]
          · rw [one_val hone.out, hok]; simp [endV]
    | false =>
      have hone : Hid (oneX (parts 32 s.data.toList) = ⟨b, c, 0, d⟩) := by
        unfold Hid; rw [hd.out, ones_four hsp.out, if_neg]; rw [ByteArray.toList_eq] at ha; simpa using ha
      go_wp2_with fail
      have hW0 : Blk (w1.alloc (.cells #[.string b, .string c, .int .i64 0, .int .i64 d] 34)).drew w.heap.size 34 #[.string ⟨#[]⟩, .string ⟨#[]⟩, .int .i64 0, .int .i64 0] := by first | exact (a1.alloc _).drew | exact a1.alloc _
      have hX0 : Blk (w1.alloc (.cells #[.string b, .string c, .int .i64 0, .int .i64 d] 34)).drew w1.heap.size 34 #[.string b, .string c, .int .i64 0, .int .i64 d] := by first | exact (Blk.new w1 34 _).drew | exact Blk.new w1 34 _
      have hB0 : Below w.heap.size w (w1.alloc (.cells #[.string b, .string c, .int .i64 0, .int .i64 d] 34)).drew := by first | exact (hB1.alloc hB1.size _).drew | exact hB1.alloc hB1.size _
      have hx0 : ∀ (b' : Bool) (y : FamT (w1.alloc (.cells #[.string b, .string c, .int .i64 0, .int .i64 d] 34)).drew w.heap.size 34 (oneCs b c 0 d) b') (o : Nat), y.wd.cell? ⟨w1.heap.size, o, none⟩ = (#[.string b, .string c, .int .i64 0, .int .i64 d] : Array Value)[o]? := fun b' y o => by
        rw [y.cell ⟨w1.heap.size, o, none⟩ hX0.lt (by show w1.heap.size ≠ w.heap.size; omega)]
        exact hX0.cell o
      cases hok : End.okB ⟨b, c, 0, d⟩ with
      | false =>
        have hR : ∀ W, Calls Tryd.prog 17 #[.agg #[.string b, .string c, .int .i64 0, .int .i64 d]] W fun e w' => e = .returned (.bool false) ∧ Below W.heap.size W w' := fun W => by
          have := right_any b c 0 d W hfm htm
          rwa [hok] at this
        apply wp_region_store 10 49 _ (fun b' w' => ∃ y : FamT (w1.alloc (.cells #[.string b, .string c, .int .i64 0, .int .i64 d] 34)).drew w.heap.size 34 (oneCs b c 0 d) b', w' = y.wd) (by kernel_rfl) (by kernel_rfl) rfl rfl rfl (by kernel_rfl) (by kernel_rfl) rfl ?hC ?h1 ?hs ?h2 ?hn ?hQ
        case h1 =>
          intro b'
          haveI : Nonempty (FamT (w1.alloc (.cells #[.string b, .string c, .int .i64 0, .int .i64 d] 34)).drew w.heap.size 34 (oneCs b c 0 d) b') := one_some hW0 b'
          have hx := hx0 b'
          simp only [List.take_succ_cons, List.take_zero]
          repeat (go_big_quiet_step ((go_at_call 17; exact Calls.fam_of (hR _))))
          exact wpQuiet_nil rfl
        case h2 =>
          intro b'
          haveI : Nonempty (FamT (w1.alloc (.cells #[.string b, .string c, .int .i64 0, .int .i64 d] 34)).drew w.heap.size 34 (oneCs b c 0 d) b') := one_some hW0 b'
          simp only [List.drop_succ_cons, List.drop_zero]
          repeat (go_big_quiet_step (fail))
          exact wpQuiet_nil rfl
        case hn => rfl
        case hC => exact ⟨⟨World.drew (w1.alloc (.cells #[.string b, .string c, .int .i64 0, .int .i64 d] 34)).drew, ⟨rfl, rfl, rfl, Nat.le_refl _, fun _ _ _ => rfl⟩, hW0.drew⟩, rfl⟩
        case hs =>
          rintro _ ⟨y, rfl⟩
          have hb0 : Blk y.wd w.heap.size 34 #[.string ⟨#[]⟩, .string ⟨#[]⟩, .int .i64 0, .int .i64 0] := y.2.2
          have q0 := hb0.cell 0
          have q1 := hb0.cell 1
          have q2 := hb0.cell 2
          have q3 := hb0.cell 3
          have qf := hb0.frozen
          have hbu : But w.heap.size (w1.alloc (.cells #[.string b, .string c, .int .i64 0, .int .i64 d] 34)).drew y.wd := y.2.1
          refine ⟨_, by simp [go_sem, q0, q1, q2, q3, qf]; rfl, ?_⟩
          exact ⟨⟨_, (((hbu.setCell 0 _).setCell 1 _).setCell 2 _).setCell 3 _, by show Blk _ _ _ #[.string b, .string c, .int .i64 0, .int .i64 d]; simpa using (((hb0.set_ 0 (.string b)).set_ 1 (.string c)).set_ 2 (.int .i64 0)).set_ 3 (.int .i64 d)⟩, rfl⟩
        case hQ =>
          rintro _ ⟨y, rfl⟩
          have hb0 : Blk y.wd w.heap.size 34 #[.string b, .string c, .int .i64 0, .int .i64 d] := y.2.2
          have q0 := hb0.cell 0
          have q1 := hb0.cell 1
          have q2 := hb0.cell 2
          have q3 := hb0.cell 3
          go_wp2_with fail
          refine bodyPost_ret (v := .tuple #[.agg #[.string b, .string c, .int .i64 0, .int .i64 d], .bool false]) ?_ rfl ⟨?_, y.2.1.to_below hB0 (Nat.le_refl _) hB0.size⟩
          · simp [results, Tryd.results22, go_sem, q0, q1, q2, q3]
          · rw [one_val hone.out, hok]; simp [endV]
      | true =>
        have hR : ∀ W, Calls Tryd.prog 17 #[.agg #[.string b, .string c, .int .i64 0, .int .i64 d]] W fun e w' => e = .returned (.bool true) ∧ Below W.heap.size W w' := fun W => by
          have := right_any b c 0 d W hfm htm
          rwa [hok] at this
        have hL : ∀ W, Calls Tryd.prog 18 #[.agg #[.string b, .string c, .int .i64 0, .int .i64 d]] W fun e w' => e = .returned (.string ⟨(lineL ⟨b, c, 0, d⟩).toArray⟩) ∧ Below W.heap.size W w' := fun W => by
          have h16 := okB_sizes hok
          exact lineR_any ⟨b, c, 0, d⟩ W hok ⟨Nat.le_trans h16.1 (by omega), Nat.le_trans h16.2 (by omega)⟩
        apply wp_region_store 10 49 _ (fun b' w' => ∃ y : FamT (w1.alloc (.cells #[.string b, .string c, .int .i64 0, .int .i64 d] 34)).drew w.heap.size 34 (oneCs b c 0 d) b', w' = y.wd) (by kernel_rfl) (by kernel_rfl) rfl rfl rfl (by kernel_rfl) (by kernel_rfl) rfl ?hC ?h1 ?hs ?h2 ?hn ?hQ
        case h1 =>
          intro b'
          haveI : Nonempty (FamT (w1.alloc (.cells #[.string b, .string c, .int .i64 0, .int .i64 d] 34)).drew w.heap.size 34 (oneCs b c 0 d) b') := one_some hW0 b'
          have hx := hx0 b'
          simp only [List.take_succ_cons, List.take_zero]
          repeat (go_big_quiet_step ((first | (go_at_call 17; exact Calls.fam_of (hR _)) | (go_at_call 18; exact Calls.fam_of (hL _)))))
          exact wpQuiet_nil rfl
        case h2 =>
          intro b'
          haveI : Nonempty (FamT (w1.alloc (.cells #[.string b, .string c, .int .i64 0, .int .i64 d] 34)).drew w.heap.size 34 (oneCs b c 0 d) b') := one_some hW0 b'
          simp only [List.drop_succ_cons, List.drop_zero]
          repeat (go_big_quiet_step (fail))
          exact wpQuiet_nil rfl
        case hn => rfl
        case hC => exact ⟨⟨World.drew (w1.alloc (.cells #[.string b, .string c, .int .i64 0, .int .i64 d] 34)).drew, ⟨rfl, rfl, rfl, Nat.le_refl _, fun _ _ _ => rfl⟩, hW0.drew⟩, rfl⟩
        case hs =>
          rintro _ ⟨y, rfl⟩
          have hb0 : Blk y.wd w.heap.size 34 #[.string ⟨#[]⟩, .string ⟨#[]⟩, .int .i64 0, .int .i64 0] := y.2.2
          have q0 := hb0.cell 0
          have q1 := hb0.cell 1
          have q2 := hb0.cell 2
          have q3 := hb0.cell 3
          have qf := hb0.frozen
          have hbu : But w.heap.size (w1.alloc (.cells #[.string b, .string c, .int .i64 0, .int .i64 d] 34)).drew y.wd := y.2.1
          refine ⟨_, by simp [go_sem, q0, q1, q2, q3, qf]; rfl, ?_⟩
          exact ⟨⟨_, (((hbu.setCell 0 _).setCell 1 _).setCell 2 _).setCell 3 _, by show Blk _ _ _ #[.string b, .string c, .int .i64 0, .int .i64 d]; simpa using (((hb0.set_ 0 (.string b)).set_ 1 (.string c)).set_ 2 (.int .i64 0)).set_ 3 (.int .i64 d)⟩, rfl⟩
        case hQ =>
          rintro _ ⟨y, rfl⟩
          have hb0 : Blk y.wd w.heap.size 34 #[.string b, .string c, .int .i64 0, .int .i64 d] := y.2.2
          have q0 := hb0.cell 0
          have q1 := hb0.cell 1
          have q2 := hb0.cell 2
          have q3 := hb0.cell 3
          go_wp2_with fail
          refine bodyPost_ret (v := .tuple #[.agg #[.string b, .string c, .int .i64 0, .int .i64 d], .bool (decide (lineL ⟨b, c, 0, d⟩ = s.data.toList ++ [10]))]) ?_ rfl ⟨?_, y.2.1.to_below hB0 (Nat.le_refl _) hB0.size⟩
          · simp [results, Tryd.results22, go_sem, q0, q1, q2, q3, line_eq]
          · rw [one_val hone.out, hok]; simp [endV]

set_option maxRecDepth 100000 in
set_option maxHeartbeats 1600000 in
theorem one_other (s : ByteArray) (w : World) (m : Nat) (hs : s.size ≤ 3000) (_hm : m ≤ 4000) (hsp : Hid (((parts 32 s.data.toList).map mkB).length = m)) (h3 : m ≠ 3) (h4 : m ≠ 4) :
    Calls Tryd.prog 22 #[.string s] w fun e w' => e = .returned (endV (oneR s.data.toList)) ∧ Below w.heap.size w w' := by
  have hzm : (⟨#[]⟩ : ByteArray).size ≤ maxLen := by decide
  go_enter Tryd.func22, Tryd.ntmps22
  go_wp2_with fail
  refine (parts_any s 32 _ hs).mono ?_
  rintro e w1 ⟨A, n, rfl, hA, hb1⟩
  have hB1 : Below w.heap.size w w1 := ((Below.refl _ w).alloc (Nat.le_refl _) _).trans (hb1.mono (by simp))
  have a1 : Blk w1 w.heap.size 34 #[.string ⟨#[]⟩, .string ⟨#[]⟩, .int .i64 0, .int .i64 0] := (Blk.new w 34 _).below hb1 (by simp)
  have hzw : w.heap.size < w1.heap.size := a1.lt
  clear hA
  rw [hsp.out]
  have hfm := hzm
  have htm := hzm
  have hone : Hid (oneX (parts 32 s.data.toList) = ⟨⟨#[]⟩, ⟨#[]⟩, 0, 0⟩) := ones_other (by have := hsp.out; simp at this; omega) (by have := hsp.out; simp at this; omega)
  have g3 : ((m : Int) == 3) = false := by rw [beq_eq_false_iff_ne]; omega
  have g4 : ((m : Int) == 4) = false := by rw [beq_eq_false_iff_ne]; omega
  go_wp2_with fail
  have hW0 : Blk (w1.alloc (.cells #[.string ⟨#[]⟩, .string ⟨#[]⟩, .int .i64 0, .int .i64 0] 34)) w.heap.size 34 #[.string ⟨#[]⟩, .string ⟨#[]⟩, .int .i64 0, .int .i64 0] := by first | exact (a1.alloc _).drew | exact a1.alloc _
  have hX0 : Blk (w1.alloc (.cells #[.string ⟨#[]⟩, .string ⟨#[]⟩, .int .i64 0, .int .i64 0] 34)) w1.heap.size 34 #[.string ⟨#[]⟩, .string ⟨#[]⟩, .int .i64 0, .int .i64 0] := by first | exact (Blk.new w1 34 _).drew | exact Blk.new w1 34 _
  have hB0 : Below w.heap.size w (w1.alloc (.cells #[.string ⟨#[]⟩, .string ⟨#[]⟩, .int .i64 0, .int .i64 0] 34)) := by first | exact (hB1.alloc hB1.size _).drew | exact hB1.alloc hB1.size _
  have hx0 : ∀ (b' : Bool) (y : FamT (w1.alloc (.cells #[.string ⟨#[]⟩, .string ⟨#[]⟩, .int .i64 0, .int .i64 0] 34)) w.heap.size 34 (oneCs ⟨#[]⟩ ⟨#[]⟩ 0 0) b') (o : Nat), y.wd.cell? ⟨w1.heap.size, o, none⟩ = (#[.string ⟨#[]⟩, .string ⟨#[]⟩, .int .i64 0, .int .i64 0] : Array Value)[o]? := fun b' y o => by
    rw [y.cell ⟨w1.heap.size, o, none⟩ hX0.lt (by show w1.heap.size ≠ w.heap.size; omega)]
    exact hX0.cell o
  cases hok : End.okB ⟨⟨#[]⟩, ⟨#[]⟩, 0, 0⟩ with
  | false =>
    have hR : ∀ W, Calls Tryd.prog 17 #[.agg #[.string ⟨#[]⟩, .string ⟨#[]⟩, .int .i64 0, .int .i64 0]] W fun e w' => e = .returned (.bool false) ∧ Below W.heap.size W w' := fun W => by
      have := right_any ⟨#[]⟩ ⟨#[]⟩ 0 0 W hfm htm
      rwa [hok] at this
    apply wp_region_store 10 49 _ (fun b' w' => ∃ y : FamT (w1.alloc (.cells #[.string ⟨#[]⟩, .string ⟨#[]⟩, .int .i64 0, .int .i64 0] 34)) w.heap.size 34 (oneCs ⟨#[]⟩ ⟨#[]⟩ 0 0) b', w' = y.wd) (by kernel_rfl) (by kernel_rfl) rfl rfl rfl (by kernel_rfl) (by kernel_rfl) rfl ?hC ?h1 ?hs ?h2 ?hn ?hQ
    case h1 =>
      intro b'
      haveI : Nonempty (FamT (w1.alloc (.cells #[.string ⟨#[]⟩, .string ⟨#[]⟩, .int .i64 0, .int .i64 0] 34)) w.heap.size 34 (oneCs ⟨#[]⟩ ⟨#[]⟩ 0 0) b') := one_some hW0 b'
      have hx := hx0 b'
      simp only [List.take_succ_cons, List.take_zero]
      repeat (go_big_quiet_step ((go_at_call 17; exact Calls.fam_of (hR _))))
      exact wpQuiet_nil rfl
    case h2 =>
      intro b'
      haveI : Nonempty (FamT (w1.alloc (.cells #[.string ⟨#[]⟩, .string ⟨#[]⟩, .int .i64 0, .int .i64 0] 34)) w.heap.size 34 (oneCs ⟨#[]⟩ ⟨#[]⟩ 0 0) b') := one_some hW0 b'
      simp only [List.drop_succ_cons, List.drop_zero]
      repeat (go_big_quiet_step (fail))
      exact wpQuiet_nil rfl
    case hn => rfl
    case hC => exact ⟨⟨World.drew (w1.alloc (.cells #[.string ⟨#[]⟩, .string ⟨#[]⟩, .int .i64 0, .int .i64 0] 34)), ⟨rfl, rfl, rfl, Nat.le_refl _, fun _ _ _ => rfl⟩, hW0.drew⟩, rfl⟩
    case hs =>
      rintro _ ⟨y, rfl⟩
      have hb0 : Blk y.wd w.heap.size 34 #[.string ⟨#[]⟩, .string ⟨#[]⟩, .int .i64 0, .int .i64 0] := y.2.2
      have q0 := hb0.cell 0
      have q1 := hb0.cell 1
      have q2 := hb0.cell 2
      have q3 := hb0.cell 3
      have qf := hb0.frozen
      have hbu : But w.heap.size (w1.alloc (.cells #[.string ⟨#[]⟩, .string ⟨#[]⟩, .int .i64 0, .int .i64 0] 34)) y.wd := y.2.1
      refine ⟨_, by simp [go_sem, q0, q1, q2, q3, qf]; rfl, ?_⟩
      exact ⟨⟨_, (((hbu.setCell 0 _).setCell 1 _).setCell 2 _).setCell 3 _, by show Blk _ _ _ #[.string ⟨#[]⟩, .string ⟨#[]⟩, .int .i64 0, .int .i64 0]; simpa using (((hb0.set_ 0 (.string ⟨#[]⟩)).set_ 1 (.string ⟨#[]⟩)).set_ 2 (.int .i64 0)).set_ 3 (.int .i64 0)⟩, rfl⟩
    case hQ =>
      rintro _ ⟨y, rfl⟩
      have hb0 : Blk y.wd w.heap.size 34 #[.string ⟨#[]⟩, .string ⟨#[]⟩, .int .i64 0, .int .i64 0] := y.2.2
      have q0 := hb0.cell 0
      have q1 := hb0.cell 1
      have q2 := hb0.cell 2
      have q3 := hb0.cell 3
      go_wp2_with fail
      refine bodyPost_ret (v := .tuple #[.agg #[.string ⟨#[]⟩, .string ⟨#[]⟩, .int .i64 0, .int .i64 0], .bool false]) ?_ rfl ⟨?_, y.2.1.to_below hB0 (Nat.le_refl _) hB0.size⟩
      · simp [results, Tryd.results22, go_sem, q0, q1, q2, q3]
      · rw [one_val hone.out, hok]; simp [endV]
  | true =>
    exact absurd hok (by decide)

theorem part_le (c : UInt8) : ∀ (l x : List UInt8), x ∈ parts c l → x.length ≤ l.length
  | [], x, h => by simp [parts] at h; simp [h]
  | b :: l, x, h => by
    rw [parts] at h
    split at h
    · rcases List.mem_cons.1 h with rfl | h
      · simp
      · have := part_le c l x h; simp; omega
    · cases hp : parts c l with
      | nil => exact absurd hp (parts_ne c l)
      | cons y t =>
        rw [hp] at h
        rcases List.mem_cons.1 h with rfl | h
        · have := part_le c l y (by rw [hp]; simp); simp; omega
        · have := part_le c l x (by rw [hp]; simp [h]); simp; omega
theorem parts_count (c : UInt8) : ∀ l : List UInt8, (parts c l).length ≤ l.length + 1
  | [] => by simp [parts]
  | b :: l => by
    have ih := parts_count c l
    rw [parts]
    split
    · simp; omega
    · cases hp : parts c l with
      | nil => simp
      | cons y t => rw [hp] at ih; simp at ih ⊢; omega
theorem one_any (s : ByteArray) (w : World) (hs : s.size ≤ 3000) :
    Calls Tryd.prog 22 #[.string s] w fun e w' => e = .returned (endV (oneR s.data.toList)) ∧ Below w.heap.size w w' := by
  have hsz : ∀ x ∈ (parts 32 s.data.toList).map mkB, x.size ≤ maxLen := by
    intro x hx
    obtain ⟨y, hy, rfl⟩ := List.mem_map.1 hx
    have h1 := part_le 32 _ _ hy
    have h2 : (mkB y).size = y.length := size_list y
    have h3 : s.data.toList.length = s.size := by simp
    rw [h2]; unfold maxLen; omega
  have hlen : ((parts 32 s.data.toList).map mkB).length ≤ 4000 := by
    have := parts_count 32 s.data.toList
    have h3 : s.data.toList.length = s.size := by simp
    rw [List.length_map]; omega
  match hp : (parts 32 s.data.toList).map mkB with
  | [a, b, c] => rw [hp] at hsz; exact one_three s a b c w hs (hsz b (by simp)) (hsz c (by simp)) hp
  | [a, b, c, d] => rw [hp] at hsz; exact one_four s a b c d w hs (hsz b (by simp)) (hsz c (by simp)) (hsz d (by simp)) hp
  | [] => exact one_other s w 0 hs (by omega) (by unfold Hid; rw [hp]; rfl) (by omega) (by omega)
  | [_] => exact one_other s w 1 hs (by omega) (by unfold Hid; rw [hp]; rfl) (by omega) (by omega)
  | [_, _] => exact one_other s w 2 hs (by omega) (by unfold Hid; rw [hp]; rfl) (by omega) (by omega)
  | _ :: _ :: _ :: _ :: _ :: t => rw [hp] at hlen; exact one_other s w (t.length + 5) hs (by simpa using hlen) (by unfold Hid; rw [hp]; rfl) (by omega) (by omega)
end Go.Proofs.YtdgbghgcnkjjeaaDoor

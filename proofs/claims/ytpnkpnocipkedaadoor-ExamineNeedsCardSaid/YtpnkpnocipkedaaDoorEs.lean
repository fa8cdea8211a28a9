/- The walk of the law ExamineNeeds, up to the two examinations. -/
import Derived.Test.YtpnkpnocipkedaaDoorEr
namespace Go.Proofs.YtpnkpnocipkedaaDoor
open Go Go.RowKit Go.BigFrame Go.Maps

theorem cells_one {c : Crd} {A : Option Addr} {n m : Nat} : (c.cells (.slice A n m)).all (·.oneCell') = true := by simp [Crd.cells, Value.oneCell']
theorem cells_set {c : Crd} {u v : Value} : (c.cells u).setIfInBounds 17 v = c.cells v := rfl
theorem wpList_load_blkg {P : Program} {ops : Array Oper} {o : Oper} {rest : List Oper} {a : Act} {w : World} {Q : Exit → Act → World → Prop} (hw : Region.wanted o (yielded ops a.tmps) = true) (ty : TypeId) (x : Operand) (ho : o.op = .load ty x) (g : Nat) (cs : Array Value) (t : TypeId) (d : TypeDesc) (hx : a.eval x = .pointer (some ⟨g, 0, none⟩))
    (hb : Blk w g t cs) (hu : P.underlying ty = some d) (hd : (match d with | .struct _ | .array _ _ => true | _ => false) = true) (hi : (P.info? ty).map (·.size) = some cs.size)
    (h : wpList P ops Q rest (a.put o.dst (.agg cs)) w) : wpList P ops Q (o :: rest) a w := by
  rw [wpList, if_pos hw]
  exact .inl (wp_load_row ty x ho g hx t cs (0, 0) d hb hu hd hi h)

set_option maxRecDepth 100000 in
set_option maxHeartbeats 6400000 in
theorem needs_law (w : World) (c : Crd) (hO : Hid c.okC) (nA : Option Addr) (nl nc : Nat) (needs : List Nd) (hnl : Hid (needs.length = nl)) (hml : nl ≤ maxLen) (hre : Hid (nl * 96 ≤ 140737488351232)) (hN : Hid (NdsAt w nA needs)) (A : Option Addr) (nn cc : Nat) (docs : List Pap) (hnn : Hid (docs.length = nn)) (hmn : nn ≤ maxLen) (hD : Hid (DocsAt w A docs)) (hLD : Hid (LongD docs)) (day : Int) (hday : Hid (-9223372036854775808 ≤ day ∧ day ≤ 9223372036854775807))
    (kd ct tk tp : Int) (tf tx : ByteArray) (tn : Int) (tA : Option Addr) (tc : Nat) (tL : List Tree) (hkd : Hid (-9223372036854775808 ≤ kd ∧ kd ≤ 9223372036854775807)) (hT : Hid (TreeAt w (.mk tk tp tf tx tn tA tc tL))) (hLT : Hid (LongT (.mk tk tp tf tx tn tA tc tL))) (he : Hid (Env w)) :
    Calls Tryd.prog 10 #[.agg (c.cells (.slice nA nl nc)), .slice A nn cc, .int .i64 day, .agg #[.int .i64 kd, .int .i64 ct, .int .i64 tk, .int .i64 tp, .string tf, .string tx, .int .i64 tn, .slice tA tL.length tc]] w fun e w' => e = .returned (.bool true) ∧ Below w.heap.size w w' := by
  obtain ⟨i0, hi, hz0, hz1, hz2⟩ := info_parts Tryd.info52
  have hmn' := Lib.hid hmn
  have hml' := Lib.hid hml
  clear hmn hml
  have hex0 := Lib.hid (fun W => examine_any c hO nA nl nc needs hnl A nn cc docs day hday W)
  have hex1 := Lib.hid (fun nA' nc' W => examine_any c hO nA' (nl + 1) nc' (needs ++ [⟨kd, ct, .mk tk tp tf tx tn tA tc tL⟩]) (by unfold Hid; rw [List.length_append, hnl.out]; rfl) A nn cc docs day hday W)
  obtain ⟨tl, htl⟩ : ∃ m, Hid (tL.length = m) := ⟨_, rfl⟩
  rw [htl.out]
  have hCz : Hid ((c.cells (.slice nA nl nc)).size = 18) := rfl
  have hC17 : Hid ((c.cells (.slice nA nl nc))[17]? = some (.slice nA nl nc)) := rfl
  have hCo : Hid ((c.cells (.slice nA nl nc)).all (·.oneCell') = true) := cells_one
  have hCs : Hid (∀ v, (c.cells (.slice nA nl nc)).setIfInBounds 17 v = c.cells v) := fun v => rfl
  obtain ⟨C, hC⟩ : ∃ C, Hid (c.cells (.slice nA nl nc) = C) := ⟨_, rfl⟩
  rw [hC.out] at hex0 hCz hC17 hCo hCs ⊢
  have hsz : Hid ((Tryd.prog.info? 32).map (·.size) = some C.size) := by unfold Hid; rw [hCz.out]; kernel_rfl
  have hb0 := Lib.hid (((Below.refl _ w).alloc (Nat.le_refl _) (.cells C 32)).alloc (by simp) (.cells #[.int .i64 kd, .int .i64 ct, .int .i64 tk, .int .i64 tp, .string tf, .string tx, .int .i64 tn, .slice tA tl tc] 52))
  have hbk0 := Lib.hid ((Blk.new w 32 C).alloc (.cells #[.int .i64 kd, .int .i64 ct, .int .i64 tk, .int .i64 tp, .string tf, .string tx, .int .i64 tn, .slice tA tl tc] 52))
  have hbn0 := Lib.hid (blk_second w (.cells C 32) 52 #[.int .i64 kd, .int .i64 ct, .int .i64 tk, .int .i64 tp, .string tf, .string tx, .int .i64 tn, .slice tA tl tc])
  go_enter Tryd.func10, Tryd.ntmps10
  go_wp2_with fail
  refine (awake_any _ (he.out.below hb0.out)).mono ?_
  rintro e w1 ⟨rfl, hb1⟩
  have hB1 : Hid (Below w.heap.size w w1) := hb0.out.trans (hb1.mono (by simp; omega))
  have hbk1 := Lib.hid (hbk0.out.below hb1 hbk0.out.lt)
  have hbn1 := Lib.hid (hbn0.out.below hb1 hbn0.out.lt)
  clear hb1 hbk0 hbn0
  go_upto_region 4 with (first | (refine wpList_load_blk rfl 32 (.tmp 4) rfl w.heap.size C 32 _ rfl hbk1.out Tryd.underlying32 rfl hsz.out ?_) | (refine wpList_store_blk rfl 32 (.tmp 9) (.tmp 20) rfl w1.heap.size _ C 32 rfl rfl (Blk.new w1 32 _) (by rw [hCz.out]; rfl) hsz.out hCo.out ?_; intro w2 hb2 hbu2; have hbm2 := Lib.hid hb2; have hB2 : Hid (Below w1.heap.size w1 w2) := ((Below.refl _ w1).alloc (Nat.le_refl _) _).trans (hbu2.below (by intro g hg; omega) (by rw [World.size_alloc]; omega)); have hB2w : Hid (Below w.heap.size w w2) := hB1.out.trans (hB2.out.mono hB1.out.size); have hbk2 := Lib.hid (hbk1.out.below hB2.out hbk1.out.lt); have hbn2 := Lib.hid (hbn1.out.below hB2.out hbn1.out.lt); clear hb2 hbu2))
  have hgk : w.heap.size < w1.heap.size := hbk1.out.lt
  have hgn : w.heap.size + 1 < w1.heap.size := hbn1.out.lt
  go_simp
  go_cut [28] (fun _ wx => ∃ (A' : Option Addr) (c' : Nat), Hid (Below w1.heap.size w1 wx) ∧ Hid (Blk wx w1.heap.size 32 (c.cells (.slice A' (nl + 1) c'))) ∧ Hid (NdsAt wx A' (needs ++ [⟨kd, ct, .mk tk tp tf tx tn tA tc tL⟩])))
  case first =>
    have hVk := Lib.hid hbk2.out.drew
    have hVn := Lib.hid hbn2.out.drew
    have hVm := Lib.hid hbm2.out.drew
    have hVB := Lib.hid hB2.out.drew
    have hVw := Lib.hid hB2w.out.drew
    refine wp_region_held (S := (fun w' => Blk w' w.heap.size 32 C ∧ Blk w' (w.heap.size + 1) 52 #[.int .i64 kd, .int .i64 ct, .int .i64 tk, .int .i64 tp, .string tf, .string tx, .int .i64 tn, .slice tA tl tc])) (by kernel_rfl) ?_
    have hSV : Blk w2.drew w.heap.size 32 C ∧ Blk w2.drew (w.heap.size + 1) 52 #[.int .i64 kd, .int .i64 ct, .int .i64 tk, .int .i64 tp, .string tf, .string tx, .int .i64 tn, .slice tA tl tc] := ⟨hVk.out, hVn.out⟩
    refine wpAnyH_take (i := 1) rfl (by kernel_rfl) (by kernel_rfl) (by kernel_rfl) (fun _ _ _ h => h) (yields_of (v := .pointer (some ⟨w.heap.size, 17, none⟩)) rfl (fun _ _ => by go_simp)) hSV ?_
    go_simp
    refine wpAnyH_take (i := 2) rfl (by kernel_rfl) (by kernel_rfl) (by kernel_rfl) (fun _ _ _ h => h) (yields_of (v := .slice nA nl nc) rfl (fun W hW => by
      have c17 : W.cell? ⟨w.heap.size, 17, none⟩ = some (.slice nA nl nc) := (hW.1.cell 17).trans hC17.out
      go_simp)) hSV ?_
    go_simp
    refine wpAnyH_take (i := 4) rfl (by kernel_rfl) (by kernel_rfl) (by kernel_rfl) (fun _ _ _ h => h) (yields_blk rfl rfl rfl Tryd.underlying52 rfl (by kernel_rfl) (fun _ h => h.2)) hSV ?_
    go_simp
    obtain ⟨V, hV⟩ : ∃ V, Hid (w2.drew = V) := ⟨_, rfl⟩
    rw [hV.out] at hVk hVn hVm hVB hVw ⊢
    clear hV hSV
    have hmV : w1.heap.size < V.heap.size := hVm.out.lt
    have hrd : Hid (Reads V V.heap.size 8 nA nl (ncells needs)) := by
      have := nds_reads (hN.out.below hVw.out)
      rw [hnl.out] at this; exact this
    have hn1 := Lib.hid (ncells_one needs)
    have hm1 : Hid (0 + nl ≤ maxLen) := by have := hml'.out; unfold Hid; omega
    have hm2 : Hid (nl + 1 ≤ maxLen) := by have := hre.out; unfold Hid maxLen; omega
    have hm3 : Hid ((0 + nl) * 96 ≤ 140737488355328) := by have := hre.out; unfold Hid; omega
    have hm4 : Hid ((nl + 1) * 96 ≤ 140737488355328) := by have := hre.out; unfold Hid; omega
    have hoN : Hid (∀ u ∈ (#[.int .i64 kd, .int .i64 ct, .int .i64 tk, .int .i64 tp, .string tf, .string tx, .int .i64 tn, .slice tA tl tc] : Array Value).toList, u.oneCell' = true) := by
      intro u hu
      simp at hu
      rcases hu with rfl | rfl | rfl | rfl | rfl | rfl | rfl | rfl <;> rfl
    have hSx : Hid (∀ Wx, Below V.heap.size V Wx → Blk Wx w.heap.size 32 C ∧ Blk Wx (w.heap.size + 1) 52 #[.int .i64 kd, .int .i64 ct, .int .i64 tk, .int .i64 tp, .string tf, .string tx, .int .i64 tn, .slice tA tl tc]) := fun Wx h => ⟨hVk.out.below h hVk.out.lt, hVn.out.below h hVn.out.lt⟩
    refine wpAnyH_all (rs := [0, 5]) (by kernel_rfl) (by decide) ?_
    intro i hi'
    simp only [List.mem_cons, List.not_mem_nil, or_false] at hi'
    rcases hi' with rfl | rfl
    · refine held_value (v := .slice (some ⟨(V).heap.size, 0, none⟩) 0 0) (w' := (V).alloc (.cells #[] 52)) rfl rfl (by go_simp) ?_
      have hb0 : Hid (Below V.heap.size V ((V).alloc (.cells #[] 52))) := ((Below.refl V.heap.size V)).alloc (by have := ((Below.refl V.heap.size V)).size; omega) _
      have ho0 : Hid (((V).alloc (.cells #[] 52)).ownsRow V.heap.size 52 8 (.slice (some ⟨(V).heap.size, 0, none⟩) 0 0) 0 []) := own_mono_base (own_new (V) 52 8) ((Below.refl V.heap.size V)).size
      try rw [World.size_alloc] at ho0
      refine ⟨hSx.out _ hb0.out, ?_⟩
      go_simp
      refine wpAnyH_all (rs := [3, 5]) (by kernel_rfl) (by decide) ?_
      intro i hi'
      simp only [List.mem_cons, List.not_mem_nil, or_false] at hi'
      rcases hi' with rfl | rfl
      · refine held_append rfl rfl (.tmp 21) (.tmp 23) 30 rfl V.heap.size 52 i0 _ 8 96 Tryd.underlying30 hi hz0 hz1 hz2 rfl (by decide) (.slice (some ⟨V.heap.size, 0, none⟩) 0 0) 0 [] rfl ho0.out V.heap.size nA nl nc (ncells needs) rfl (hrd.out.below (hb0.out)) hn1.out hm1.out hm3.out (hb0.out).size ?_
        intro v3 w3 o3 g3 e3
        simp only [Nat.zero_add, List.nil_append] at o3
        have hb3 : Hid (Below V.heap.size V w3) := (hb0.out).grown g3 (hb0.out).size (fun j hj => (ho0.out.lt j hj).1)
        have ho3 := Lib.hid o3
        obtain ⟨A3, c3, rfl⟩ := own_slice o3
        clear o3 g3 e3
        refine ⟨hSx.out _ hb3.out, ?_⟩
        go_simp
        refine wpAnyH_all (rs := [5]) (by kernel_rfl) (by decide) ?_
        intro i hi'
        obtain rfl := List.mem_singleton.1 hi'
        refine held_value (v := .slice (some ⟨(w3).heap.size, 0, none⟩) 1 1) (w' := (w3).alloc (.cells #[.int .i64 kd, .int .i64 ct, .int .i64 tk, .int .i64 tp, .string tf, .string tx, .int .i64 tn, .slice tA tl tc] 52)) rfl rfl (by go_simp) ?_
        have hb5 : Hid (Below V.heap.size V ((w3).alloc (.cells #[.int .i64 kd, .int .i64 ct, .int .i64 tk, .int .i64 tp, .string tf, .string tx, .int .i64 tn, .slice tA tl tc] 52))) := (hb3.out).alloc (by have := (hb3.out).size; omega) _
        have hN5 := Lib.hid (Blk.new (w3) 52 #[.int .i64 kd, .int .i64 ct, .int .i64 tk, .int .i64 tp, .string tf, .string tx, .int .i64 tn, .slice tA tl tc])
        try rw [World.size_alloc] at hN5
        refine ⟨hSx.out _ hb5.out, ?_⟩
        go_simp
        have hoX := Lib.hid (ho3.out.alloc (.cells #[.int .i64 kd, .int .i64 ct, .int .i64 tk, .int .i64 tp, .string tf, .string tx, .int .i64 tn, .slice tA tl tc] 52))
        refine wpAnyH_all (rs := [6]) (by kernel_rfl) (by decide) ?_
        intro i hi'
        obtain rfl := List.mem_singleton.1 hi'
        refine held_append rfl rfl (.tmp 24) (.tmp 26) 30 rfl V.heap.size 52 i0 _ 8 96 Tryd.underlying30 hi hz0 hz1 hz2 rfl (by decide) (.slice A3 nl c3) nl (ncells needs) rfl hoX.out _ (some ⟨w3.heap.size, 0, none⟩) 1 1 _ rfl (blk_reads hN5.out 8 1 rfl) hoN.out hm2.out hm4.out (hb5.out).size ?_
        intro v6 w6 o6 g6 e6
        have hb6 : Hid (Below V.heap.size V w6) := (hb5.out).grown g6 (hb5.out).size (fun j hj => (hoX.out.lt j hj).1)
        have ho6 := Lib.hid o6
        obtain ⟨A6, c6, rfl⟩ := own_slice o6
        clear o6 g6 e6
        refine ⟨hSx.out _ hb6.out, ?_⟩
        go_simp
        refine wpAnyH_take (i := 7) rfl (by kernel_rfl) (by kernel_rfl) (by kernel_rfl) (fun _ _ _ h => h) (yields_of (v := .pointer (some ⟨w1.heap.size, 17, none⟩)) rfl (fun _ _ => by go_simp)) (hSx.out _ hb6.out) ?_
        go_simp
        have hm6 := Lib.hid (hVm.out.below hb6.out hVm.out.lt)
        refine wpAnyH_all (rs := [8]) (by kernel_rfl) (by decide) ?_
        intro i hi'
        obtain rfl := List.mem_singleton.1 hi'
        have q17 : w6.cell? ⟨w1.heap.size, 17, none⟩ = some (.slice nA nl nc) := (hm6.out.cell 17).trans hC17.out
        have f17 : w6.frozen? ⟨w1.heap.size, 17, none⟩ = false := hm6.out.frozen 17
        refine held_skip (w' := w6.setCell ⟨w1.heap.size, 17, none⟩ (.slice A6 (nl + 1) c6)) rfl rfl (by go_simp) ?_
        clear q17 f17
        refine ⟨⟨((hSx.out _ hb6.out).1).far (by show w.heap.size ≠ w1.heap.size; omega) _, ((hSx.out _ hb6.out).2).far (by show w.heap.size + 1 ≠ w1.heap.size; omega) _⟩, ?_⟩
        go_simp
        refine wpAnyH_done (by kernel_rfl) ?_ _
        go_wp2_with fail
        go_meet
        case rel =>
          have hset := hm6.out.set_ 17 (.slice A6 (nl + 1) c6)
          rw [hCs.out] at hset
          have hBw : Below w1.heap.size w1 (w6.setCell ⟨w1.heap.size, 17, none⟩ (.slice A6 (nl + 1) c6)) := (hVB.out.trans (hb6.out.mono (by omega))).setCell (Nat.le_refl _) _
          have hBw0 : Below w.heap.size w (w6.setCell ⟨w1.heap.size, 17, none⟩ (.slice A6 (nl + 1) c6)) := hB1.out.trans (hBw.mono hB1.out.size)
          have hown : (w6.setCell ⟨w1.heap.size, 17, none⟩ (.slice A6 (nl + 1) c6)).ownsRow V.heap.size 52 8 (.slice A6 (nl + 1) c6) (nl + 1) (ncells (needs ++ [⟨kd, ct, .mk tk tp tf tx tn tA tc tL⟩])) := by
            have := ho6.out.kept (grown_set w6 w1.heap.size 17 (.slice A6 (nl + 1) c6)) (.inr (fun e => by have := (ho6.out.lt _ e).1; omega))
            rw [ncells_app]
            simpa [ncells, Nd.cells, Tree.cells, htl.out] using this
          obtain ⟨A7, c7, e7, hN7⟩ := own_nds hown (by rw [List.length_append, hnl.out]; rfl) (fun x hx => by
            rcases List.mem_append.1 hx with hx | hx
            · obtain ⟨j, hj⟩ := List.mem_iff_getElem?.1 hx
              obtain ⟨h1, h2, h3, _⟩ := (hN.out.below hBw0) j x hj
              exact ⟨h1, h2, h3⟩
            · obtain rfl := List.mem_singleton.1 hx
              exact ⟨hkd.out, hT.out.below hBw0, hLT.out⟩)
          simp only [Value.slice.injEq, true_and] at e7
          obtain ⟨rfl, rfl⟩ := e7
          exact ⟨A6, c6, hBw, hset, hN7⟩
      · refine held_value (v := .slice (some ⟨(V.alloc (.cells #[] 52)).heap.size, 0, none⟩) 1 1) (w' := (V.alloc (.cells #[] 52)).alloc (.cells #[.int .i64 kd, .int .i64 ct, .int .i64 tk, .int .i64 tp, .string tf, .string tx, .int .i64 tn, .slice tA tl tc] 52)) rfl rfl (by go_simp) ?_
        have hb5 : Hid (Below V.heap.size V ((V.alloc (.cells #[] 52)).alloc (.cells #[.int .i64 kd, .int .i64 ct, .int .i64 tk, .int .i64 tp, .string tf, .string tx, .int .i64 tn, .slice tA tl tc] 52))) := (hb0.out).alloc (by have := (hb0.out).size; omega) _
        have hN5 := Lib.hid (Blk.new (V.alloc (.cells #[] 52)) 52 #[.int .i64 kd, .int .i64 ct, .int .i64 tk, .int .i64 tp, .string tf, .string tx, .int .i64 tn, .slice tA tl tc])
        try rw [World.size_alloc] at hN5
        refine ⟨hSx.out _ hb5.out, ?_⟩
        go_simp
        refine wpAnyH_all (rs := [3]) (by kernel_rfl) (by decide) ?_
        intro i hi'
        obtain rfl := List.mem_singleton.1 hi'
        have hoY := Lib.hid (ho0.out.alloc (.cells #[.int .i64 kd, .int .i64 ct, .int .i64 tk, .int .i64 tp, .string tf, .string tx, .int .i64 tn, .slice tA tl tc] 52))
        refine held_append rfl rfl (.tmp 21) (.tmp 23) 30 rfl V.heap.size 52 i0 _ 8 96 Tryd.underlying30 hi hz0 hz1 hz2 rfl (by decide) (.slice (some ⟨V.heap.size, 0, none⟩) 0 0) 0 [] rfl hoY.out V.heap.size nA nl nc (ncells needs) rfl (hrd.out.below (hb5.out)) hn1.out hm1.out hm3.out (hb5.out).size ?_
        intro v3 w3 o3 g3 e3
        simp only [Nat.zero_add, List.nil_append] at o3
        have hb3 : Hid (Below V.heap.size V w3) := (hb5.out).grown g3 (hb5.out).size (fun j hj => (hoY.out.lt j hj).1)
        have ho3 := Lib.hid o3
        have hN3 := Lib.hid (hN5.out.kept g3 (by simp [Value.ownBlock]))
        obtain ⟨A3, c3, rfl⟩ := own_slice o3
        clear o3 g3 e3
        refine ⟨hSx.out _ hb3.out, ?_⟩
        go_simp
        refine wpAnyH_all (rs := [6]) (by kernel_rfl) (by decide) ?_
        intro i hi'
        obtain rfl := List.mem_singleton.1 hi'
        refine held_append rfl rfl (.tmp 24) (.tmp 26) 30 rfl V.heap.size 52 i0 _ 8 96 Tryd.underlying30 hi hz0 hz1 hz2 rfl (by decide) (.slice A3 nl c3) nl (ncells needs) rfl ho3.out _ (some ⟨(V.heap.size + 1), 0, none⟩) 1 1 _ rfl (blk_reads hN3.out 8 1 rfl) hoN.out hm2.out hm4.out (hb3.out).size ?_
        intro v6 w6 o6 g6 e6
        have hb6 : Hid (Below V.heap.size V w6) := (hb3.out).grown g6 (hb3.out).size (fun j hj => (ho3.out.lt j hj).1)
        have ho6 := Lib.hid o6
        obtain ⟨A6, c6, rfl⟩ := own_slice o6
        clear o6 g6 e6
        refine ⟨hSx.out _ hb6.out, ?_⟩
        go_simp
        refine wpAnyH_take (i := 7) rfl (by kernel_rfl) (by kernel_rfl) (by kernel_rfl) (fun _ _ _ h => h) (yields_of (v := .pointer (some ⟨w1.heap.size, 17, none⟩)) rfl (fun _ _ => by go_simp)) (hSx.out _ hb6.out) ?_
        go_simp
        have hm6 := Lib.hid (hVm.out.below hb6.out hVm.out.lt)
        refine wpAnyH_all (rs := [8]) (by kernel_rfl) (by decide) ?_
        intro i hi'
        obtain rfl := List.mem_singleton.1 hi'
        have q17 : w6.cell? ⟨w1.heap.size, 17, none⟩ = some (.slice nA nl nc) := (hm6.out.cell 17).trans hC17.out
        have f17 : w6.frozen? ⟨w1.heap.size, 17, none⟩ = false := hm6.out.frozen 17
        refine held_skip (w' := w6.setCell ⟨w1.heap.size, 17, none⟩ (.slice A6 (nl + 1) c6)) rfl rfl (by go_simp) ?_
        clear q17 f17
        refine ⟨⟨((hSx.out _ hb6.out).1).far (by show w.heap.size ≠ w1.heap.size; omega) _, ((hSx.out _ hb6.out).2).far (by show w.heap.size + 1 ≠ w1.heap.size; omega) _⟩, ?_⟩
        go_simp
        refine wpAnyH_done (by kernel_rfl) ?_ _
        go_wp2_with fail
        go_meet
        case rel =>
          have hset := hm6.out.set_ 17 (.slice A6 (nl + 1) c6)
          rw [hCs.out] at hset
          have hBw : Below w1.heap.size w1 (w6.setCell ⟨w1.heap.size, 17, none⟩ (.slice A6 (nl + 1) c6)) := (hVB.out.trans (hb6.out.mono (by omega))).setCell (Nat.le_refl _) _
          have hBw0 : Below w.heap.size w (w6.setCell ⟨w1.heap.size, 17, none⟩ (.slice A6 (nl + 1) c6)) := hB1.out.trans (hBw.mono hB1.out.size)
          have hown : (w6.setCell ⟨w1.heap.size, 17, none⟩ (.slice A6 (nl + 1) c6)).ownsRow V.heap.size 52 8 (.slice A6 (nl + 1) c6) (nl + 1) (ncells (needs ++ [⟨kd, ct, .mk tk tp tf tx tn tA tc tL⟩])) := by
            have := ho6.out.kept (grown_set w6 w1.heap.size 17 (.slice A6 (nl + 1) c6)) (.inr (fun e => by have := (ho6.out.lt _ e).1; omega))
            rw [ncells_app]
            simpa [ncells, Nd.cells, Tree.cells, htl.out] using this
          obtain ⟨A7, c7, e7, hN7⟩ := own_nds hown (by rw [List.length_append, hnl.out]; rfl) (fun x hx => by
            rcases List.mem_append.1 hx with hx | hx
            · obtain ⟨j, hj⟩ := List.mem_iff_getElem?.1 hx
              obtain ⟨h1, h2, h3, _⟩ := (hN.out.below hBw0) j x hj
              exact ⟨h1, h2, h3⟩
            · obtain rfl := List.mem_singleton.1 hx
              exact ⟨hkd.out, hT.out.below hBw0, hLT.out⟩)
          simp only [Value.slice.injEq, true_and] at e7
          obtain ⟨rfl, rfl⟩ := e7
          exact ⟨A6, c6, hBw, hset, hN7⟩
    · refine held_value (v := .slice (some ⟨(V).heap.size, 0, none⟩) 1 1) (w' := (V).alloc (.cells #[.int .i64 kd, .int .i64 ct, .int .i64 tk, .int .i64 tp, .string tf, .string tx, .int .i64 tn, .slice tA tl tc] 52)) rfl rfl (by go_simp) ?_
      have hb5 : Hid (Below V.heap.size V ((V).alloc (.cells #[.int .i64 kd, .int .i64 ct, .int .i64 tk, .int .i64 tp, .string tf, .string tx, .int .i64 tn, .slice tA tl tc] 52))) := ((Below.refl V.heap.size V)).alloc (by have := ((Below.refl V.heap.size V)).size; omega) _
      have hN5 := Lib.hid (Blk.new (V) 52 #[.int .i64 kd, .int .i64 ct, .int .i64 tk, .int .i64 tp, .string tf, .string tx, .int .i64 tn, .slice tA tl tc])
      try rw [World.size_alloc] at hN5
      refine ⟨hSx.out _ hb5.out, ?_⟩
      go_simp
      refine wpAnyH_all (rs := [0]) (by kernel_rfl) (by decide) ?_
      intro i hi'
      obtain rfl := List.mem_singleton.1 hi'
      refine held_value (v := .slice (some ⟨(V.alloc (.cells #[.int .i64 kd, .int .i64 ct, .int .i64 tk, .int .i64 tp, .string tf, .string tx, .int .i64 tn, .slice tA tl tc] 52)).heap.size, 0, none⟩) 0 0) (w' := (V.alloc (.cells #[.int .i64 kd, .int .i64 ct, .int .i64 tk, .int .i64 tp, .string tf, .string tx, .int .i64 tn, .slice tA tl tc] 52)).alloc (.cells #[] 52)) rfl rfl (by go_simp) ?_
      have hb0 : Hid (Below V.heap.size V ((V.alloc (.cells #[.int .i64 kd, .int .i64 ct, .int .i64 tk, .int .i64 tp, .string tf, .string tx, .int .i64 tn, .slice tA tl tc] 52)).alloc (.cells #[] 52))) := (hb5.out).alloc (by have := (hb5.out).size; omega) _
      have ho0 : Hid (((V.alloc (.cells #[.int .i64 kd, .int .i64 ct, .int .i64 tk, .int .i64 tp, .string tf, .string tx, .int .i64 tn, .slice tA tl tc] 52)).alloc (.cells #[] 52)).ownsRow V.heap.size 52 8 (.slice (some ⟨(V.alloc (.cells #[.int .i64 kd, .int .i64 ct, .int .i64 tk, .int .i64 tp, .string tf, .string tx, .int .i64 tn, .slice tA tl tc] 52)).heap.size, 0, none⟩) 0 0) 0 []) := own_mono_base (own_new (V.alloc (.cells #[.int .i64 kd, .int .i64 ct, .int .i64 tk, .int .i64 tp, .string tf, .string tx, .int .i64 tn, .slice tA tl tc] 52)) 52 8) (hb5.out).size
      try rw [World.size_alloc] at ho0
      refine ⟨hSx.out _ hb0.out, ?_⟩
      go_simp
      refine wpAnyH_all (rs := [3]) (by kernel_rfl) (by decide) ?_
      intro i hi'
      obtain rfl := List.mem_singleton.1 hi'
      refine held_append rfl rfl (.tmp 21) (.tmp 23) 30 rfl V.heap.size 52 i0 _ 8 96 Tryd.underlying30 hi hz0 hz1 hz2 rfl (by decide) (.slice (some ⟨V.heap.size + 1, 0, none⟩) 0 0) 0 [] rfl ho0.out V.heap.size nA nl nc (ncells needs) rfl (hrd.out.below (hb0.out)) hn1.out hm1.out hm3.out (hb0.out).size ?_
      intro v3 w3 o3 g3 e3
      simp only [Nat.zero_add, List.nil_append] at o3
      have hb3 : Hid (Below V.heap.size V w3) := (hb0.out).grown g3 (hb0.out).size (fun j hj => (ho0.out.lt j hj).1)
      have ho3 := Lib.hid o3
      have hN3 := Lib.hid ((hN5.out.alloc (.cells #[] 52)).kept g3 (by simp [Value.ownBlock]))
      obtain ⟨A3, c3, rfl⟩ := own_slice o3
      clear o3 g3 e3
      refine ⟨hSx.out _ hb3.out, ?_⟩
      go_simp
      refine wpAnyH_all (rs := [6]) (by kernel_rfl) (by decide) ?_
      intro i hi'
      obtain rfl := List.mem_singleton.1 hi'
      refine held_append rfl rfl (.tmp 24) (.tmp 26) 30 rfl V.heap.size 52 i0 _ 8 96 Tryd.underlying30 hi hz0 hz1 hz2 rfl (by decide) (.slice A3 nl c3) nl (ncells needs) rfl ho3.out _ (some ⟨V.heap.size, 0, none⟩) 1 1 _ rfl (blk_reads hN3.out 8 1 rfl) hoN.out hm2.out hm4.out (hb3.out).size ?_
      intro v6 w6 o6 g6 e6
      have hb6 : Hid (Below V.heap.size V w6) := (hb3.out).grown g6 (hb3.out).size (fun j hj => (ho3.out.lt j hj).1)
      have ho6 := Lib.hid o6
      obtain ⟨A6, c6, rfl⟩ := own_slice o6
      clear o6 g6 e6
      refine ⟨hSx.out _ hb6.out, ?_⟩
      go_simp
      refine wpAnyH_take (i := 7) rfl (by kernel_rfl) (by kernel_rfl) (by kernel_rfl) (fun _ _ _ h => h) (yields_of (v := .pointer (some ⟨w1.heap.size, 17, none⟩)) rfl (fun _ _ => by go_simp)) (hSx.out _ hb6.out) ?_
      go_simp
      have hm6 := Lib.hid (hVm.out.below hb6.out hVm.out.lt)
      refine wpAnyH_all (rs := [8]) (by kernel_rfl) (by decide) ?_
      intro i hi'
      obtain rfl := List.mem_singleton.1 hi'
      have q17 : w6.cell? ⟨w1.heap.size, 17, none⟩ = some (.slice nA nl nc) := (hm6.out.cell 17).trans hC17.out
      have f17 : w6.frozen? ⟨w1.heap.size, 17, none⟩ = false := hm6.out.frozen 17
      refine held_skip (w' := w6.setCell ⟨w1.heap.size, 17, none⟩ (.slice A6 (nl + 1) c6)) rfl rfl (by go_simp) ?_
      clear q17 f17
      refine ⟨⟨((hSx.out _ hb6.out).1).far (by show w.heap.size ≠ w1.heap.size; omega) _, ((hSx.out _ hb6.out).2).far (by show w.heap.size + 1 ≠ w1.heap.size; omega) _⟩, ?_⟩
      go_simp
      refine wpAnyH_done (by kernel_rfl) ?_ _
      go_wp2_with fail
      go_meet
      case rel =>
        have hset := hm6.out.set_ 17 (.slice A6 (nl + 1) c6)
        rw [hCs.out] at hset
        have hBw : Below w1.heap.size w1 (w6.setCell ⟨w1.heap.size, 17, none⟩ (.slice A6 (nl + 1) c6)) := (hVB.out.trans (hb6.out.mono (by omega))).setCell (Nat.le_refl _) _
        have hBw0 : Below w.heap.size w (w6.setCell ⟨w1.heap.size, 17, none⟩ (.slice A6 (nl + 1) c6)) := hB1.out.trans (hBw.mono hB1.out.size)
        have hown : (w6.setCell ⟨w1.heap.size, 17, none⟩ (.slice A6 (nl + 1) c6)).ownsRow V.heap.size 52 8 (.slice A6 (nl + 1) c6) (nl + 1) (ncells (needs ++ [⟨kd, ct, .mk tk tp tf tx tn tA tc tL⟩])) := by
          have := ho6.out.kept (grown_set w6 w1.heap.size 17 (.slice A6 (nl + 1) c6)) (.inr (fun e => by have := (ho6.out.lt _ e).1; omega))
          rw [ncells_app]
          simpa [ncells, Nd.cells, Tree.cells, htl.out] using this
        obtain ⟨A7, c7, e7, hN7⟩ := own_nds hown (by rw [List.length_append, hnl.out]; rfl) (fun x hx => by
          rcases List.mem_append.1 hx with hx | hx
          · obtain ⟨j, hj⟩ := List.mem_iff_getElem?.1 hx
            obtain ⟨h1, h2, h3, _⟩ := (hN.out.below hBw0) j x hj
            exact ⟨h1, h2, h3⟩
          · obtain rfl := List.mem_singleton.1 hx
            exact ⟨hkd.out, hT.out.below hBw0, hLT.out⟩)
        simp only [Value.slice.injEq, true_and] at e7
        obtain ⟨rfl, rfl⟩ := e7
        exact ⟨A6, c6, hBw, hset, hN7⟩
  case rest =>
    obtain ⟨A', c', hBx, hmx, hNx⟩ := hcut
    have hBxw : Hid (Below w.heap.size w wc) := hB1.out.trans (hBx.out.mono hB1.out.size)
    have hbk3 := Lib.hid (hbk1.out.below hBx.out hbk1.out.lt)
    have hbn3 := Lib.hid (hbn1.out.below hBx.out hbn1.out.lt)
    obtain ⟨needs', hns⟩ : ∃ l, Hid (needs ++ [(⟨kd, ct, .mk tk tp tf tx tn tA tc tL⟩ : Nd)] = l) := ⟨needs ++ [(⟨kd, ct, .mk tk tp tf tx tn tA tc tL⟩ : Nd)], Lib.hid rfl⟩
    have hnl2 : Hid (needs'.length = nl + 1) := by unfold Hid; rw [← hns.out, List.length_append, hnl.out]; rfl
    have hnd1 : Hid (∀ x, askedB needs kd = true → x ∈ examF c needs docs day → x ∈ examF c needs' docs day) := fun x h hx => by rw [← hns.out]; exact (exam_needs (n := ⟨kd, ct, .mk tk tp tf tx tn tA tc tL⟩) h).1 hx
    have hnd2 : Hid (∀ x, askedB needs kd = true → x ∈ examF c needs' docs day → x.kind = kd ∨ x ∈ examF c needs docs day) := fun x h hx => (exam_needs (n := ⟨kd, ct, .mk tk tp tf tx tn tA tc tL⟩) h).2 (by rw [hns.out]; exact hx)
    rw [hns.out] at hNx hex1
    have hex2 := Lib.hid (hex1.out A' c')
    have hDz : Hid ((c.cells (.slice A' (nl + 1) c')).size = 18) := rfl
    have hD17 : Hid ((c.cells (.slice A' (nl + 1) c'))[17]? = some (.slice A' (nl + 1) c')) := rfl
    obtain ⟨D, hDe⟩ : ∃ D, Hid (c.cells (.slice A' (nl + 1) c') = D) := ⟨_, rfl⟩
    rw [hDe.out] at hmx hex2 hDz hD17
    have hsz2 : Hid ((Tryd.prog.info? 32).map (·.size) = some D.size) := by unfold Hid; rw [hDz.out]; kernel_rfl
    have hml2 : Hid (nl + 1 ≤ maxLen) := by have := hre.out; unfold Hid maxLen; omega
    clear hex1 hbm2 hB2 hB2w hbk2 hbn2
    go_wp2_with (refine wpList_load_blk rfl 32 (.tmp 9) rfl w1.heap.size D 32 _ rfl hmx.out Tryd.underlying32 rfl hsz2.out ?_)
    refine (few_any D A' (nl + 1) c' needs' A nn cc docs wc hDz hD17.out hnl2 hnn hml2.out hmn'.out hNx (hD.out.below hBxw.out) hLD).mono ?_
    rintro e w4 ⟨rfl, hb4⟩
    have hB4 : Hid (Below w.heap.size w w4) := hBxw.out.trans (hb4.mono hBxw.out.size)
    have hbk4 := Lib.hid (hbk3.out.below hb4 hbk3.out.lt)
    have hbn4 := Lib.hid (hbn3.out.below hb4 hbn3.out.lt)
    have hm4 := Lib.hid (hmx.out.below hb4 hmx.out.lt)
    have hN4 := Lib.hid (hNx.out.below hb4)
    clear hb4 hbk3 hbn3 hmx hNx
    obtain ⟨fb, hfb⟩ : ∃ fb, Hid (fewB needs' docs = fb) := ⟨_, rfl⟩
    rw [hfb.out]
    cases fb with
    | false =>
      go_wp2_with fail
      go_ret
      exact ⟨rfl, hB4.out⟩
    | true =>
      obtain ⟨_, hn12, hsd, _⟩ := few_docs hfb.out
      have hF2 := Lib.hid (few_parts hfb.out)
      have hF1 : Hid (FewParts needs) := by
        have h := hF2.out
        rw [← hns.out] at h
        exact ⟨by have := h.1; rw [List.length_append] at this; omega, fun x hx => h.2 x (by simp [hx])⟩
      have hsd' := Lib.hid hsd
      have hn12' : nn ≤ 12 := by have := hnn.out; omega
      clear hsd hn12
      have ck : w4.cell? ⟨w.heap.size + 1, 0, none⟩ = some (.int .i64 kd) := hbn4.out.cell 0
      go_wp2_with (refine wpList_load_blkg rfl 32 (.tmp 4) rfl w.heap.size C 32 _ rfl hbk4.out Tryd.underlying32 rfl hsz.out ?_)
      clear ck
      refine (asked_any C nA nl nc needs kd w4 hC17 hnl hml'.out (hN.out.below hB4.out)).mono ?_
      rintro e w5 ⟨rfl, hb5⟩
      have hB5 : Hid (Below w.heap.size w w5) := hB4.out.trans (hb5.mono hB4.out.size)
      have hbk5 := Lib.hid (hbk4.out.below hb5 hbk4.out.lt)
      have hbn5 := Lib.hid (hbn4.out.below hb5 hbn4.out.lt)
      have hm5 := Lib.hid (hm4.out.below hb5 hm4.out.lt)
      have hN5 := Lib.hid (hN4.out.below hb5)
      clear hb5 hbk4 hbn4 hm4 hN4
      obtain ⟨ab, hab⟩ : ∃ ab, Hid (askedB needs kd = ab) := ⟨_, rfl⟩
      rw [hab.out]
      cases ab with
      | false =>
        go_wp2_with fail
        go_ret
        exact ⟨rfl, hB5.out⟩
      | true =>
        go_wp2_with fail
        refine wp_region_held (S := fun w' => Blk w' w.heap.size 32 C ∧ Blk w' w1.heap.size 32 D) (by kernel_rfl) ?_
        have hSV : Blk w5.drew w.heap.size 32 C ∧ Blk w5.drew w1.heap.size 32 D := ⟨hbk5.out.drew, hm5.out.drew⟩
        refine wpAnyH_take (i := 0) rfl (by kernel_rfl) (by kernel_rfl) (by kernel_rfl) (fun _ _ _ h => h) (yields_blk rfl rfl rfl Tryd.underlying32 rfl hsz.out (fun _ h => h.1)) hSV ?_
        go_simp
        refine wpAnyH_take (i := 1) rfl (by kernel_rfl) (by kernel_rfl) (by kernel_rfl) (fun _ _ _ h => h) (yields_of rfl (fun _ _ => rfl)) hSV ?_
        go_simp
        refine wpAnyH_take (i := 2) rfl (by kernel_rfl) (by kernel_rfl) (by kernel_rfl) (fun _ _ _ h => h) (yields_of rfl (fun _ _ => rfl)) hSV ?_
        go_simp
        refine wpAnyH_take (i := 4) rfl (by kernel_rfl) (by kernel_rfl) (by kernel_rfl) (fun _ _ _ h => h) (yields_blk rfl rfl rfl Tryd.underlying32 rfl hsz2.out (fun _ h => h.2)) hSV ?_
        go_simp
        refine wpAnyH_take (i := 5) rfl (by kernel_rfl) (by kernel_rfl) (by kernel_rfl) (fun _ _ _ h => h) (yields_of rfl (fun _ _ => rfl)) hSV ?_
        go_simp
        refine wpAnyH_take (i := 6) rfl (by kernel_rfl) (by kernel_rfl) (by kernel_rfl) (fun _ _ _ h => h) (yields_of rfl (fun _ _ => rfl)) hSV ?_
        go_simp
        refine wpAnyH_all (rs := [3]) (by kernel_rfl) (by decide) ?_
        intro i hi'
        obtain rfl := List.mem_singleton.1 hi'
        refine held_call (f := 25) (args := #[.agg C, .slice A nn cc, .int .i64 day]) rfl rfl (by go_simp) ?_
        have hB5d := Lib.hid hB5.out.drew
        refine (hex0.out _ (hN.out.below hB5d.out) hF1 ⟨hnn.out, by omega, hD.out.below hB5d.out, he.out.below hB5d.out, hsd'.out⟩ hn12').mono ?_
        rintro e w6 ⟨A6, c6, rfl, hF6, hb6⟩
        refine ⟨_, rfl, ?_⟩
        have hbk6 := Lib.hid (hbk5.out.drew.below hb6 hbk5.out.lt)
        have hbn6 := Lib.hid (hbn5.out.drew.below hb6 hbn5.out.lt)
        have hm6 := Lib.hid (hm5.out.drew.below hb6 hm5.out.lt)
        have hN6 := Lib.hid ((hN5.out.below (Below.refl _ _).drew).below hb6)
        have hB6 := Lib.hid (hB5d.out.trans (hb6.mono hB5.out.size))
        have hF6' := Lib.hid hF6
        clear hb6 hF6
        refine ⟨⟨hbk6.out, hm6.out⟩, ?_⟩
        go_simp
        refine wpAnyH_all (rs := [7]) (by kernel_rfl) (by decide) ?_
        intro i hi'
        obtain rfl := List.mem_singleton.1 hi'
        refine held_call (f := 25) (args := #[.agg D, .slice A nn cc, .int .i64 day]) rfl rfl (by go_simp) ?_
        refine (hex2.out _ hN6 hF2 ⟨hnn.out, by omega, hD.out.below hB6.out, he.out.below hB6.out, hsd'.out⟩ hn12').mono ?_
        rintro e w7 ⟨A7, c7, rfl, hF7, hb7⟩
        refine ⟨_, rfl, ?_⟩
        have hbk7 := Lib.hid (hbk6.out.below hb7 hbk6.out.lt)
        have hbn7 := Lib.hid (hbn6.out.below hb7 hbn6.out.lt)
        have hm7 := Lib.hid (hm6.out.below hb7 hm6.out.lt)
        have hB7 := Lib.hid (hB6.out.trans (hb7.mono hB6.out.size))
        have hF6'' := Lib.hid (hF6'.out.below hb7)
        have hF7' := Lib.hid hF7
        clear hb7 hF7
        refine ⟨⟨hbk7.out, hm7.out⟩, ?_⟩
        go_simp
        refine wpAnyH_take (i := 8) rfl (by kernel_rfl) (by kernel_rfl) (by kernel_rfl) (fun _ _ _ h => h) (yields_of rfl (fun _ _ => rfl)) ⟨hbk7.out, hm7.out⟩ ?_
        go_simp
        refine wpAnyH_take (i := 9) rfl (by kernel_rfl) (by kernel_rfl) (by kernel_rfl) (fun _ _ _ h => h) (yields_of rfl (fun _ _ => rfl)) ⟨hbk7.out, hm7.out⟩ ?_
        go_simp
        refine wpAnyH_done (by kernel_rfl) ?_ _
        obtain ⟨la, hla⟩ : ∃ l, Hid (examF c needs docs day = l) := ⟨_, rfl⟩
        obtain ⟨lb, hlb⟩ : ∃ l, Hid (examF c needs' docs day = l) := ⟨_, rfl⟩
        have hs1 : Hid (∀ x ∈ la, anyR lb x = true) := fun x hx => anyR_iff.2 (by rw [← hlb.out]; exact hnd1.out x hab.out (by rw [hla.out]; exact hx))
        have hs2 : Hid (∀ x ∈ lb, (x.kind == kd || anyB la x) = true) := fun x hx => by
          rcases hnd2.out x hab.out (by rw [hlb.out]; exact hx) with h | h
          · simp [h]
          · rw [hla.out] at h; rw [anyB_iff.2 h]; simp
        have hn1' := exam_len (c := c) (day := day) hF1.out (docs := docs) (by have := hnn.out; omega)
        have hn2' := exam_len (c := c) (day := day) hF2.out (docs := docs) (by have := hnn.out; omega)
        rw [hla.out] at hF6'' hn1' ⊢
        rw [hlb.out] at hF7' hn2' ⊢
        obtain ⟨n1, hn1⟩ : ∃ n, Hid (la.length = n) := ⟨_, rfl⟩
        obtain ⟨n2, hn2⟩ : ∃ n, Hid (lb.length = n) := ⟨_, rfl⟩
        rw [hn1.out] at hn1' ⊢
        rw [hn2.out] at hn2' ⊢
        clear hbk6 hm6 hB6 hF6' hbn6 hN6 hbk5 hbn5 hm5 hN5 hbk7 hm7 hSV
        have hqg := Tryd.eqg40
        go_wp2_with fail
        go_loopw [12, 13, 14] (fun i _ _ wr => ∃ q : Nat, q ≤ n1 ∧ i = .int .i64 q ∧ Hid (Below w7.heap.size w7 wr)) (fun i _ _ _ => n1 - (intOf i).toNat)
        case atStart => exact ⟨0, Nat.zero_le _, rfl, Below.refl _ _⟩
        case round =>
          obtain ⟨q, hq, rfl, hB8⟩ := hrel
          by_cases hlt : q < n1
          · obtain ⟨x, hx⟩ : ∃ x, la[q]? = some x := ⟨_, List.getElem?_eq_getElem (by have := hn1.out; omega)⟩
            have hxs := Lib.hid (hs1.out x (List.mem_of_getElem? hx))
            have hx' := Lib.hid hx
            clear hx
            obtain ⟨wo, rfl⟩ : ∃ wo : World, wo = wr := ⟨_, rfl⟩
            go_wp2_with fail
            go_loopw [13, 14] (fun f k wy => ∃ (r : Nat) (fb : Bool), r ≤ n2 ∧ k = .int .i64 r ∧ f = .bool fb ∧ Hid (anyR (lb.take r) x = fb) ∧ Hid (Below w7.heap.size w7 wy)) (fun _ k _ => n2 - (intOf k).toNat)
            case atStart => exact ⟨0, false, Nat.zero_le _, rfl, rfl, rfl, hB8⟩
            case round =>
              obtain ⟨r, fb, hr, rfl, rfl, hfb5, hB9⟩ := hrel
              by_cases hlt2 : r < n2
              · obtain ⟨y, hy⟩ : ∃ y, lb[r]? = some y := ⟨_, List.getElem?_eq_getElem (by have := hn2.out; omega)⟩
                have hst : Hid (anyR (lb.take (r + 1)) x = (fb || eqF x y)) := by
                  unfold Hid anyR; rw [any_take _ hy, ← hfb5.out]; rfl
                obtain ⟨yb, yo, rfl, y0, y1, y2, y3⟩ := (hF7'.out.below hB9.out) r y hy
                obtain ⟨xb, xo, rfl, x0, x1, x2, x3⟩ := (hF6''.out.below hB9.out) q x hx'.out
                clear hy
                have i1 : (r : Int) < (n2 : Int) := by omega
                have i2 : (0 : Int) ≤ (r : Int) := by omega
                have i3 : (q : Int) < (n1 : Int) := by omega
                have i4 : (0 : Int) ≤ (q : Int) := by omega
                have hqe := eq_flt x y
                cases fb
                all_goals
                  go_wp2_with fail
                  go_quiet (fail)
                  clear hqe
                  go_wp2_with fail
                  go_roundw
                  case rel => exact ⟨r + 1, _, by omega, by go_num, rfl, by rw [hst.out]; first | rfl | simp, below_drewN hB9.out _⟩
                  case measure => simp [intOf]; omega
              · have hfin : fb = true := by rw [← hfb5.out, List.take_of_length_le (by have := hn2.out; omega)]; exact hxs.out
                subst hfin
                go_wp2_with fail
                go_roundw
                case rel => exact ⟨q + 1, by omega, by go_num, hB9⟩
                case measure => simp [intOf]; omega
          · go_wp2_with fail
            obtain ⟨wo, rfl⟩ : ∃ wo : World, wo = wr := ⟨_, rfl⟩
            go_loopw [15, 16, 17] (fun i _ _ wr => ∃ q : Nat, q ≤ n2 ∧ i = .int .i64 q ∧ Hid (Below w7.heap.size w7 wr)) (fun i _ _ _ => n2 - (intOf i).toNat)
            case atStart => exact ⟨0, Nat.zero_le _, rfl, hB8⟩
            case round =>
              clear hB8 hlt hq
              obtain ⟨q2, hq, rfl, hB8⟩ := hrel
              by_cases hlt : q2 < n2
              · obtain ⟨y, hy⟩ : ∃ x, lb[q2]? = some x := ⟨_, List.getElem?_eq_getElem (by have := hn2.out; omega)⟩
                have hys := Lib.hid (hs2.out y (List.mem_of_getElem? hy))
                have hy' := Lib.hid hy
                clear hy
                obtain ⟨wz, rfl⟩ : ∃ wz : World, wz = wr := ⟨_, rfl⟩
                obtain ⟨yb, yo, rfl, y0, y1, y2, y3⟩ := (hF7'.out.below hB8.out) q2 y hy'.out
                have i3 : (q2 : Int) < (n2 : Int) := by omega
                have i4 : (0 : Int) ≤ (q2 : Int) := by omega
                obtain ⟨yw, hyw⟩ : ∃ yw, Hid ((y.kind == kd) = yw) := ⟨_, rfl⟩
                have cn : wz.cell? ⟨w.heap.size + 1, 0, none⟩ = some (.int .i64 kd) := (hbn7.out.below hB8.out hbn7.out.lt).cell 0
                go_wp2_with fail
                go_quiet (fail)
                clear y0 y1 y2 y3 cn
                go_wp2_with fail
                rw [hyw.out]
                go_loopw [16, 17] (fun f k wy => ∃ (r : Nat) (fb : Bool), r ≤ n1 ∧ k = .int .i64 r ∧ f = .bool fb ∧ Hid ((yw || anyB (la.take r) y) = fb) ∧ Hid (Below w7.heap.size w7 wy)) (fun _ k _ => n1 - (intOf k).toNat)
                case atStart => exact ⟨0, yw, Nat.zero_le _, rfl, rfl, by unfold Hid anyB; simp, below_drewN hB8.out _⟩
                case round =>
                  obtain ⟨r, fb, hr, rfl, rfl, hfb5, hB9⟩ := hrel
                  by_cases hlt2 : r < n1
                  · obtain ⟨x, hx⟩ : ∃ y, la[r]? = some y := ⟨_, List.getElem?_eq_getElem (by have := hn1.out; omega)⟩
                    have hst : Hid ((yw || anyB (la.take (r + 1)) y) = (fb || eqF x y)) := by
                      unfold Hid anyB; rw [any_take _ hx, ← hfb5.out, Bool.or_assoc]; rfl
                    obtain ⟨yb', yo', eyb, y0, y1, y2, y3⟩ := (hF7'.out.below hB9.out) q2 y hy'.out
                    obtain ⟨rfl, rfl⟩ : yb = yb' ∧ yo = yo' := by simpa using eyb
                    obtain ⟨xb, xo, rfl, x0, x1, x2, x3⟩ := (hF6''.out.below hB9.out) r x hx
                    clear hx eyb
                    have i1 : (r : Int) < (n1 : Int) := by omega
                    have i2 : (0 : Int) ≤ (r : Int) := by omega
                    have hqe := eq_flt x y
                    cases fb
                    all_goals
                      go_wp2_with fail
                      go_quiet (fail)
                      clear hqe
                      go_wp2_with fail
                      go_roundw
                      case rel => exact ⟨r + 1, _, by omega, by go_num, rfl, by rw [hst.out]; first | rfl | simp, below_drewN hB9.out _⟩
                      case measure => simp [intOf]; omega
                  · have hfin : fb = true := by rw [← hfb5.out, List.take_of_length_le (by have := hn1.out; omega), ← hyw.out]; exact hys.out
                    subst hfin
                    go_wp2_with fail
                    go_roundw
                    case rel => exact ⟨q2 + 1, by omega, by go_num, hB9⟩
                    case measure => simp [intOf]; omega
              · have hBe := Lib.hid (hB7.out.trans (hB8.out.mono hB7.out.size))
                go_wp2_with fail
                go_ret
                exact ⟨rfl, hBe.out⟩
end Go.Proofs.YtpnkpnocipkedaaDoor

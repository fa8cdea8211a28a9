/- The law SyntaxTokens: a credit's words and signs, put together with one blank between each two, are the same credit's. -/
import Derived.Test.YtjkmhlfjheiekaaGreatDoorQd
import Derived.Test.YtjkmhlfjheiekaaGreatDoorQf
import Derived.Test.YtjkmhlfjheiekaaGreatDoorQh
namespace Go.Proofs.YtjkmhlfjheiekaaGreatDoor
open Go Go.RowKit Go.BigFrame Go.Maps

theorem wt_mem {t : Tok} : ∀ {ts : List Tok}, t ∈ ts → (writtenT t).length ≤ wtL ts
  | [], h => by simp at h
  | u :: us, h => by
    rw [wtL]
    rcases List.mem_cons.1 h with rfl | h
    · omega
    · have := wt_mem h; omega
/-- What becomes of a credit's text, word by word. -/
theorem tokens_plain {c : Crd} {l : List Nd} (h : creditM c l = true) (hs : (creditT c l).length ≤ 4096) : ∃ ts, scanT (creditT c l) = .ok ts ∧ GoodL ts ∧ ts ≠ [] ∧ ts.length ≤ 4096 ∧ (∀ t ∈ ts, (writtenT t).length ≤ 4096) ∧ 1 ≤ (joinT ts).length ∧ (joinT ts).length ≤ 16781312 ∧
    parseT (joinT ts) = if 4096 < (joinT ts).length then .error (0, 7) else .ok (c, l.map ndP) := by
  have hsc := credit_scan h
  have hlen := scans_len hsc
  obtain ⟨ts, e1, e2⟩ := scans_ok hsc ((creditT c l).length + 1) 0 0 (by omega) (by omega)
  have e1' : scanT (creditT c l) = .ok ts := e1
  have hg := scan_goodL e1'
  have hne : ts ≠ [] := fun hz => by
    rw [hz] at e2
    simp [kt, topK, lineK] at e2
  have hl : ts.length ≤ 4096 := by rw [← kt_len, e2]; omega
  have hw := scan_wt e1'
  have hwr : ∀ t ∈ ts, (writtenT t).length ≤ 4096 := fun t ht => by have := wt_mem ht; omega
  have hj1 : 1 ≤ (joinT ts).length := by
    have := join_some hg hne
    cases hj : joinT ts with
    | nil => exact absurd hj this
    | cons a r => simp
  have hj2 : (joinT ts).length ≤ 16781312 := by
    have h3 := spaced_len (ts.map writtenT)
    have h4 := sum_le (ts.map writtenT) 4096 (fun t ht => by
      obtain ⟨u, hu, rfl⟩ := List.mem_map.1 ht
      exact hwr u hu)
    rw [List.length_map] at h4
    have h5 : ts.length * (4096 + 1) ≤ 4096 * (4096 + 1) := Nat.mul_le_mul_right _ hl
    unfold joinT; omega
  refine ⟨ts, e1', hg, hne, hl, hwr, hj1, hj2, ?_⟩
  by_cases hb : 4096 < (joinT ts).length
  · rw [if_pos hb]; unfold parseT; rw [if_pos hb]
  · rw [if_neg hb]; exact tokens_back h hg e2 (by omega)
set_option maxRecDepth 100000 in
set_option maxHeartbeats 6400000 in
theorem tokens_law (C : Array Value) (c : Crd) (A : Option Addr) (n cc : Nat) (l : List Nd) (ok : Nat → Prop) (w : World) (he : Hid (Env w)) (hC : Hid (C = c.cells (.slice A n cc))) (hs : Hid c.short) (hn : n ≤ maxLen) (hl : Hid (l.length = n)) (hN : Hid (NdsAt w ok A l)) (hz : Hid (∀ x ∈ l, szR (strip x.rule) ≤ 100000000)) :
    Calls Tryz.prog 11 #[.agg C] w fun e w' => e = .returned (.bool true) ∧ Below w.heap.size w w' := by
  have hb0 : Hid (Below w.heap.size w (w.alloc (.cells C 41))) := (Below.refl _ w).alloc (Nat.le_refl _) _
  have hbx := Lib.hid (Blk.new w 41 C)
  have hsC : Hid ((Tryz.prog.info? 41).map (·.size) = some C.size) := by unfold Hid; rw [hC.out]; kernel_rfl
  have hC17 : Hid (C[17]? = some (.slice A n cc)) := by unfold Hid; rw [hC.out]; rfl
  have p1 : Hid (∀ W, Below w.heap.size w W → Calls Tryz.prog 20 #[.agg C] W fun e w' => e = .returned (.bool (littleN l)) ∧ Below W.heap.size W w') := fun W hW => little_any C A n cc l W ok hC17 hl hn (hN.out.below hW)
  have p2 : Hid (∀ W, Below w.heap.size w W → Calls Tryz.prog 25 #[.agg C] W fun e w' => e = .returned (.tuple #[.string ⟨(printT c l).toArray⟩, .int .i64 (printE c l)]) ∧ Below W.heap.size W w') := fun W hW => print_any C c A n cc l W ok (he.out.below hW) hC hs hn hl (hN.out.below hW) hz
  have hpl : Hid (printE c l = 0 → ∃ ts, scanT (printT c l) = .ok ts ∧ (printT c l).length ≤ 4096 ∧ GoodL ts ∧ ts ≠ [] ∧ ts.length ≤ 4096 ∧ (∀ t ∈ ts, (writtenT t).length ≤ 4096) ∧ 1 ≤ (joinT ts).length ∧ (joinT ts).length ≤ 16781312 ∧
    parseT (joinT ts) = if 4096 < (joinT ts).length then .error (0, 7) else .ok (c, l.map ndP)) := fun h0 => by
    obtain ⟨h1, h2, h3⟩ := print_fine h0
    obtain ⟨ts, a1, a2⟩ := tokens_plain h1 h2
    rw [h3]
    exact ⟨ts, a1, h2, a2⟩
  have p5 : Hid (∀ (T : List Nd) (A2 : Option Addr) (c2 : Nat) (ok' : Nat → Prop) (D : Array Value) (W : World), T.map ndP = l.map ndP → T.length ≤ 5000 → Hid (D = c.cells (.slice A2 T.length c2)) → NdsAt W ok A l → NdsAt W ok' A2 T → Calls Tryz.prog 21 #[.agg C, .agg D] W fun e w' => e = .returned (.bool true) ∧ Below W.heap.size W w') := fun T A2 c2 ok' D W hT hTl hD hNc hNd => by
    have h := same_prog C D c c A n cc l A2 T.length c2 T ok ok' W hC hD hn (by unfold maxLen; omega) hl (Lib.hid rfl) (Lib.hid hNc) (Lib.hid hNd)
    rw [eqCr_refl, eqBy_same l T hT.symm] at h
    exact h
  have hbad : Hid (printE c l ≠ 0 → printT c l = []) := print_bad
  obtain ⟨rt, hrt⟩ : ∃ b, Hid (printT c l = b) := ⟨_, Lib.hid rfl⟩
  obtain ⟨re, hre⟩ : ∃ b, Hid (printE c l = b) := ⟨_, Lib.hid rfl⟩
  obtain ⟨la, hla⟩ : ∃ b, Hid (littleN l = b) := ⟨_, Lib.hid rfl⟩
  rw [hrt.out, hre.out] at p2 hbad hpl
  rw [hla.out] at p1
  clear hla hrt hre hs hl hC17 hz
  have hea := Lib.hid (he.out.below hb0.out)
  have hNa := Lib.hid (hN.out.below hb0.out)
  go_enter Tryz.func11, Tryz.ntmps11
  go_wp2_with fail
  obtain ⟨wa, hwa⟩ : ∃ x, Hid (w.alloc (.cells C 41) = x) := ⟨_, Lib.hid rfl⟩
  change Calls Tryz.prog 12 _ (w.alloc (.cells C 41)) _
  rw [hwa.out] at hb0 hbx hea hNa ⊢
  clear hwa
  refine (awake_any wa hea).mono ?_
  rintro e w1 ⟨rfl, hb1⟩
  have hB1 := Lib.hid (hb0.out.trans (hb1.mono hb0.out.size))
  have hx1 := Lib.hid (hbx.out.below hb1 hbx.out.lt)
  have he1 := Lib.hid (hea.out.below hb1)
  have hN1 := Lib.hid (hNa.out.below hb1)
  clear hb1 hb0 hbx hea hNa
  go_wp2_with (refine wpList_load_blkg rfl 41 _ rfl w.heap.size C 41 _ rfl hx1.out Tryz.underlying41 rfl hsC.out ?_)
  refine (p1.out w1 hB1.out).mono ?_
  rintro e w2 ⟨rfl, hb2⟩
  have hB2 := Lib.hid (hB1.out.trans (hb2.mono hB1.out.size))
  have hx2 := Lib.hid (hx1.out.below hb2 hx1.out.lt)
  have he2 := Lib.hid (he1.out.below hb2)
  have hN2 := Lib.hid (hN1.out.below hb2)
  clear hb2 hB1 hx1 he1 p1 hN1
  cases la with
  | false =>
    go_wp2_with fail
    refine (awake_any w2 he2).mono ?_
    rintro e w3 ⟨rfl, hb3⟩
    go_wp2_with fail
    go_ret
    exact ⟨rfl, hB2.out.trans (hb3.mono hB2.out.size)⟩
  | true =>
    go_wp2_with (refine wpList_load_blkg rfl 41 _ rfl w.heap.size C 41 _ rfl hx2.out Tryz.underlying41 rfl hsC.out ?_)
    refine (p2.out w2 hB2.out).mono ?_
    rintro e w3 ⟨rfl, hb3⟩
    have hB3 := Lib.hid (hB2.out.trans (hb3.mono hB2.out.size))
    have hx3 := Lib.hid (hx2.out.below hb3 hx2.out.lt)
    have he3 := Lib.hid (he2.out.below hb3)
    have hN3 := Lib.hid (hN2.out.below hb3)
    clear hb3 hB2 hx2 he2 p2 hN2
    by_cases hr0 : re = 0
    · have b1 : (re != 0) = false := by rw [hr0]; rfl
      obtain ⟨ts, a1, a2, a3, a4, a5, a6, a7, a8, a9⟩ := hpl.out hr0
      have a1 := Lib.hid a1
      have a3 := Lib.hid a3
      have a6 := Lib.hid a6
      have a9 := Lib.hid a9
      have a2 := Lib.hid a2
      have a8 := Lib.hid a8
      clear hpl hr0 hbad
      go_wp2_with fail
      refine (scan_any ⟨rt.toArray⟩ w3 (by show rt.toArray.size ≤ _; rw [List.size_toArray]; have := a2.out; unfold maxLen; omega) he3).mono ?_
      rintro e w4 ⟨hb4, hcase⟩
      have hcase' : ∃ v, e = .returned (.tuple #[v, .int .i64 rt.length, .int .i64 0]) ∧ w4.ownsRow (w3.heap.size + 1) 89 3 v ts.length (tokL ts) := by
        rw [show (ByteArray.mk rt.toArray).data.toList = rt from rfl, a1.out] at hcase
        rcases hcase with ⟨l2, v, h, rfl, _, ho⟩ | ⟨_, _, h, _⟩
        · simp only [Except.ok.injEq] at h
          subst h
          refine ⟨v, ?_, ho⟩
          rw [show (ByteArray.mk rt.toArray).size = rt.length by show rt.toArray.size = _; simp]
        · cases h
      obtain ⟨v2, rfl, ho2⟩ := hcase'
      obtain ⟨p2, c2, rfl⟩ := own_slice ho2
      have htk := Lib.hid (tok_own (pb := 0) ho2 (by omega))
      have hB4 := Lib.hid (hB3.out.trans (hb4.mono hB3.out.size))
      have hx4 := Lib.hid (hx3.out.below hb4 hx3.out.lt)
      have he4 := Lib.hid (he3.out.below hb4)
      have hN4 := Lib.hid (hN3.out.below hb4)
      clear hb4 hB3 hx3 he3 hN3 ho2 hcase
      have a5' : 1 ≤ ts.length := List.length_pos_iff.2 a4
      obtain ⟨m, hm⟩ : ∃ m, Hid (ts.length = m) := ⟨_, Lib.hid rfl⟩
      have hjn := Lib.hid (join_tok p2 m c2 ts 0 w4 hm (by rw [← hm.out]; exact a5) (by rw [← hm.out]; exact a5') htk a3 a6 he4)
      rw [hm.out]
      clear a4 a5 a5' hm htk a3 a6 a1
      obtain ⟨jt, hjt⟩ : ∃ j, Hid (joinT ts = j) := ⟨_, Lib.hid rfl⟩
      rw [hjt.out] at hjn a7 a8 a9
      clear hjt
      go_wp2_with fail
      refine hjn.out.mono ?_
      rintro e w5 ⟨rfl, hb5⟩
      have hB5 := Lib.hid (hB4.out.trans (hb5.mono hB4.out.size))
      have hx5 := Lib.hid (hx4.out.below hb5 hx4.out.lt)
      have he5 := Lib.hid (he4.out.below hb5)
      have hN5 := Lib.hid (hN4.out.below hb5)
      have hp := Lib.hid (parse_any ⟨jt.toArray⟩ w5 (by show jt.toArray.size ≤ _; rw [List.size_toArray]; have := a8.out; unfold maxLen; omega) he5)
      rw [show (ByteArray.mk jt.toArray).data.toList = jt from rfl] at hp
      have t1 : decide ((jt.length : Int) < 1) = false := by simp; omega
      have t2 : ((rt.length : Int) != (rt.length : Int)) = false := by simp
      clear hb5 hB4 hx4 he4 hN4 hjn
      by_cases hbig : 4096 < jt.length
      · have t3 : decide ((4096 : Int) < (jt.length : Int)) = true := by simp; omega
        have a9' := a9.out
        rw [if_pos hbig] at a9'
        rw [a9'] at hp
        have hM0 : Hid (∀ W : World, Blk (W.alloc (.cells zeroC 41)) W.heap.size 41 zeroC) := fun W => Blk.new W 41 zeroC
        have hi41 : Hid ((Tryz.prog.info? 41).map (·.size) = some 18) := by unfold Hid; kernel_rfl
        clear a9' a9 p5 a2 a8 a7 hbig
        go_wp2_with fail
        refine hp.out.mono ?_
        rintro x w6 ⟨hb6, rfl, _⟩
        have hB6 := Lib.hid (hB5.out.trans (hb6.mono hB5.out.size))
        have hBz : Hid (Below w.heap.size w (w6.alloc (.cells zeroC 41))) := hB6.out.alloc hB6.out.size _
        go_wp2_with (refine wpList_put_blk rfl 41 _ _ rfl w6.heap.size zeroC zeroC 41 rfl rfl (hM0.out w6) rfl hi41.out zk_one ?_; intro w7 hM7 hu7)
        go_ret
        exact ⟨by simp, hu7.to_below hBz.out hB6.out.size hBz.out.size⟩
      · have t3 : decide ((4096 : Int) < (jt.length : Int)) = false := by simp; omega
        have a9' := a9.out
        rw [if_neg hbig] at a9'
        rw [a9'] at hp
        clear a9' a9 a2 a8 a7 hbig
        go_wp2_with fail
        refine hp.out.mono ?_
        rintro x w6 ⟨hb6, T, A2, c2, rfl, hnd, hT, hTl⟩
        have hB6 := Lib.hid (hB5.out.trans (hb6.mono hB5.out.size))
        have hx6 := Lib.hid (hx5.out.below hb6 hx5.out.lt)
        have hN6 := Lib.hid (hN5.out.below hb6)
        have hT' := Lib.hid hT
        have hTl' := Lib.hid hTl
        have hnd' := Lib.hid hnd
        clear hb6 hB5 hx5 he5 hN5 hT hTl hnd hp
        obtain ⟨D, hD⟩ : ∃ D, Hid (D = c.cells (.slice A2 T.length c2)) := ⟨_, Lib.hid rfl⟩
        have hDs : Hid (D.size = 18) := by rw [hD.out]; rfl
        have hDi : Hid ((Tryz.prog.info? 41).map (·.size) = some D.size) := by unfold Hid; rw [hDs.out]; kernel_rfl
        have hD1 : Hid (D.all (·.oneCell') = true) := by unfold Hid; rw [hD.out, ← Array.all_toList]; rfl
        rw [← hD.out]
        have hM0 : Hid (Blk (w6.alloc (.cells zeroC 41)) w6.heap.size 41 zeroC) := Blk.new w6 41 zeroC
        have hBz : Hid (Below w.heap.size w (w6.alloc (.cells zeroC 41))) := hB6.out.alloc hB6.out.size _
        go_upto_region 11 with (refine wpList_put_blk rfl 41 _ _ rfl w6.heap.size zeroC D 41 rfl rfl hM0.out hDs.out.symm hDi.out hD1.out ?_; intro w7 hM7 hu7)
        have hx7 := Lib.hid (blk_put hx6.out hu7)
        have hB7 : Hid (Below w.heap.size w w7) := hu7.to_below hBz.out hB6.out.size hBz.out.size
        have hN7 := Lib.hid (nds_put hN6.out hu7)
        have hnd7 := Lib.hid (nds_put hnd'.out hu7)
        have hM7' := Lib.hid hM7
        obtain ⟨G, hG⟩ : ∃ g, Hid (w6.heap.size = g) := ⟨_, Lib.hid rfl⟩
        rw [hG.out] at hM7' ⊢
        clear hu7 hM7 hBz hM0 hG hx6 hN6 hnd' hB6
        have p6 := Lib.hid (p5.out T A2 c2 _ D w7 hT'.out hTl'.out hD hN7.out hnd7.out)
        clear p5 hN7 hnd7
        go_wp2_with (first | (refine wpList_load_blkg rfl 41 (.tmp 1) rfl w.heap.size C 41 _ rfl hx7.out Tryz.underlying41 rfl hsC.out ?_) | (refine wpList_load_blkg rfl 41 (.tmp 9) rfl G D 41 _ rfl hM7'.out Tryz.underlying41 rfl hDi.out ?_))
        refine p6.out.mono ?_
        rintro e w8 ⟨rfl, hb8⟩
        go_wp2_with fail
        go_ret
        exact ⟨by simp, hB7.out.trans (hb8.mono hB7.out.size)⟩
    · have b1 : (re != 0) = true := by simpa using hr0
      have hb := hbad.out hr0
      subst hb
      clear p5 hbad hr0 hpl
      go_wp2_with fail
      go_ret
      exact ⟨by simp, hB3.out⟩
end Go.Proofs.YtjkmhlfjheiekaaGreatDoor

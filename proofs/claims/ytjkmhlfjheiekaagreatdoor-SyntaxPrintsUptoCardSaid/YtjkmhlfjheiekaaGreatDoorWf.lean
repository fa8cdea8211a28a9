/- The law SyntaxSame: two credits are the same just if all of both is. -/
import Derived.Test.YtjkmhlfjheiekaaGreatDoorWe
import Derived.Test.YtjkmhlfjheiekaaGreatDoorTg
namespace Go.Proofs.YtjkmhlfjheiekaaGreatDoor
open Go Go.RowKit Go.BigFrame Go.Maps

theorem beq_sw {α : Type} [BEq α] [LawfulBEq α] (a b : α) : (a == b) = (b == a) := by
  rw [Bool.eq_iff_iff, beq_iff_eq, beq_iff_eq]; exact eq_comm
theorem eqR_sw (a b : Rul) : eqR a b = eqR b a := by
  rw [Bool.eq_iff_iff, eqR_iff, eqR_iff]; exact eq_comm
theorem eqNd_sw (x y : Nd) : eqNd x y = eqNd y x := by
  unfold eqNd; rw [beq_sw x.kind, beq_sw x.count, eqR_sw]
theorem eqBy_sw : ∀ l m : List Nd, eqBy eqNd l m = eqBy eqNd m l
  | [], [] => rfl
  | [], _ :: _ => rfl
  | _ :: _, [] => rfl
  | a :: l, b :: m => by rw [eqBy, eqBy, eqNd_sw, eqBy_sw l m]
theorem eqCr_sw (c d : Crd) : eqCr c d = eqCr d c := by
  unfold eqCr eqNm eqNu
  simp only [beq_sw c.number, beq_sw c.applicant, beq_sw c.beneficiary, beq_sw c.issuer, beq_sw c.confirmer, beq_sw c.orig, beq_sw c.dest, beq_sw c.currency, beq_sw c.amount, beq_sw c.above, beq_sw c.below, beq_sw c.latest, beq_sw c.expiry, beq_sw c.within, beq_sw c.tenor, beq_sw c.part, beq_sw c.change]
theorem eqBy_refl : ∀ l : List Nd, eqBy eqNd l l = true
  | [] => rfl
  | a :: l => by
    have h : eqNd a a = true := by unfold eqNd; simp [eqR_refl]
    rw [eqBy, eqBy_refl l, h]; rfl
theorem eqCr_refl (c : Crd) : eqCr c c = true := by
  unfold eqCr eqNm eqNu; simp
theorem wpList_load_blkg {P : Program} {ops : Array Oper} {o : Oper} {rest : List Oper} {a : Act} {w : World} {Q : Exit → Act → World → Prop} (hw : Region.wanted o (yielded ops a.tmps) = true) (ty : TypeId) (x : Operand) (ho : o.op = .load ty x) (g : Nat) (cs : Array Value) (t : TypeId) (d : TypeDesc) (hx : a.eval x = .pointer (some ⟨g, 0, none⟩))
    (hb : Blk w g t cs) (hu : P.underlying ty = some d) (hd : (match d with | .struct _ | .array _ _ => true | _ => false) = true) (hi : (P.info? ty).map (·.size) = some cs.size)
    (h : wpList P ops Q rest (a.put o.dst (.agg cs)) w) : wpList P ops Q (o :: rest) a w := by
  rw [wpList, if_pos hw]
  exact .inl (wp_load_row ty x ho g hx t cs (0, 0) d hb hu hd hi h)

set_option maxRecDepth 100000 in
set_option maxHeartbeats 6400000 in
theorem same_law (C D : Array Value) (c d : Crd) (A : Option Addr) (n cc : Nat) (l : List Nd) (A' : Option Addr) (n' cc' : Nat) (l' : List Nd) (ok ok' : Nat → Prop) (w : World) (he : Hid (Env w)) (hC : Hid (C = c.cells (.slice A n cc))) (hD : Hid (D = d.cells (.slice A' n' cc'))) (hn : n ≤ maxLen) (hn' : n' ≤ maxLen) (hl : Hid (l.length = n)) (hl' : Hid (l'.length = n'))
    (hN : Hid (NdsAt w ok A l)) (hN' : Hid (NdsAt w ok' A' l')) : Calls Tryz.prog 5 #[.agg C, .agg D] w fun e w' => e = .returned (.bool true) ∧ Below w.heap.size w w' := by
  have hb0 : Hid (Below w.heap.size w ((w.alloc (.cells C 41)).alloc (.cells D 41))) := ((Below.refl _ w).alloc (Nat.le_refl _) _).alloc (by simp) _
  have hbx := Lib.hid ((Blk.new w 41 C).alloc (.cells D 41))
  have hby : Hid (Blk ((w.alloc (.cells C 41)).alloc (.cells D 41)) (w.heap.size + 1) 41 D) := by
    have h := Blk.new (w.alloc (.cells C 41)) 41 D
    have hs : (w.alloc (.cells C 41)).heap.size = w.heap.size + 1 := by simp
    rw [hs] at h
    exact h
  have hsC : Hid ((Tryz.prog.info? 41).map (·.size) = some C.size) := by unfold Hid; rw [hC.out]; kernel_rfl
  have hsD : Hid ((Tryz.prog.info? 41).map (·.size) = some D.size) := by unfold Hid; rw [hD.out]; kernel_rfl
  have hC17 : Hid (C[17]? = some (.slice A n cc)) := by unfold Hid; rw [hC.out]; rfl
  have hD17 : Hid (D[17]? = some (.slice A' n' cc')) := by unfold Hid; rw [hD.out]; rfl
  have p1 : Hid (∀ W, Below w.heap.size w W → Calls Tryz.prog 20 #[.agg C] W fun e w' => e = .returned (.bool (littleN l)) ∧ Below W.heap.size W w') := fun W hW => little_any C A n cc l W ok hC17 hl hn (hN.out.below hW)
  have p2 : Hid (∀ W, Below w.heap.size w W → Calls Tryz.prog 20 #[.agg D] W fun e w' => e = .returned (.bool (littleN l')) ∧ Below W.heap.size W w') := fun W hW => little_any D A' n' cc' l' W ok' hD17 hl' hn' (hN'.out.below hW)
  have p3 : Hid (∀ W, Below w.heap.size w W → Calls Tryz.prog 21 #[.agg C, .agg D] W fun e w' => e = .returned (.bool (eqCr c d && eqBy eqNd l l')) ∧ Below W.heap.size W w') := fun W hW => same_prog C D c d A n cc l A' n' cc' l' ok ok' W hC hD hn hn' hl hl' (hN.out.below hW) (hN'.out.below hW)
  have p4 : Hid (∀ W, Below w.heap.size w W → Calls Tryz.prog 22 #[.agg C, .agg D] W fun e w' => e = .returned (.bool (eqCr c d && eqBy eqNd l l')) ∧ Below W.heap.size W w') := fun W hW => alike_any C D c d A n cc l A' n' cc' l' ok ok' W hC hD hn hn' hl hl' (hN.out.below hW) (hN'.out.below hW)
  have p5 : Hid (∀ W, Below w.heap.size w W → Calls Tryz.prog 21 #[.agg D, .agg C] W fun e w' => e = .returned (.bool (eqCr c d && eqBy eqNd l l')) ∧ Below W.heap.size W w') := fun W hW => by
    have h := same_prog D C d c A' n' cc' l' A n cc l ok' ok W hD hC hn' hn hl' hl (hN'.out.below hW) (hN.out.below hW)
    rw [eqCr_sw d c, eqBy_sw l' l] at h
    exact h
  have p6 : Hid (∀ W, Below w.heap.size w W → Calls Tryz.prog 21 #[.agg C, .agg C] W fun e w' => e = .returned (.bool true) ∧ Below W.heap.size W w') := fun W hW => by
    have h := same_prog C C c c A n cc l A n cc l ok ok W hC hC hn hn hl hl (hN.out.below hW) (hN.out.below hW)
    rw [eqCr_refl, eqBy_refl] at h
    exact h
  obtain ⟨e1, he1⟩ : ∃ b, Hid ((eqCr c d && eqBy eqNd l l') = b) := ⟨_, Lib.hid rfl⟩
  rw [he1.out] at p3 p4 p5
  obtain ⟨la, hla⟩ : ∃ b, Hid (littleN l = b) := ⟨_, Lib.hid rfl⟩
  obtain ⟨lb, hlb⟩ : ∃ b, Hid (littleN l' = b) := ⟨_, Lib.hid rfl⟩
  rw [hla.out] at p1
  rw [hlb.out] at p2
  clear hla hlb he1 hN hN' hC hD hl hl' hC17 hD17
  have hea := Lib.hid (he.out.below hb0.out)
  go_enter Tryz.func5, Tryz.ntmps5
  go_wp2_with fail
  obtain ⟨wa, hwa⟩ : ∃ x, Hid ((w.alloc (.cells C 41)).alloc (.cells D 41) = x) := ⟨_, Lib.hid rfl⟩
  change Calls Tryz.prog 12 _ ((w.alloc (.cells C 41)).alloc (.cells D 41)) _
  rw [hwa.out] at hb0 hbx hby hea ⊢
  clear hwa
  refine (awake_any wa hea).mono ?_
  rintro e w1 ⟨rfl, hb1⟩
  have hB1 := Lib.hid (hb0.out.trans (hb1.mono hb0.out.size))
  have hx1 := Lib.hid (hbx.out.below hb1 hbx.out.lt)
  have hy1 := Lib.hid (hby.out.below hb1 hby.out.lt)
  have he1 := Lib.hid (hea.out.below hb1)
  clear hb1 hb0 hbx hby hea
  go_wp2_with (refine wpList_load_blkg rfl 41 (.tmp 2) rfl w.heap.size C 41 _ rfl hx1.out Tryz.underlying41 rfl hsC.out ?_)
  refine (p1.out w1 hB1.out).mono ?_
  rintro e w2 ⟨rfl, hb2⟩
  have hB2 := Lib.hid (hB1.out.trans (hb2.mono hB1.out.size))
  have hx2 := Lib.hid (hx1.out.below hb2 hx1.out.lt)
  have hy2 := Lib.hid (hy1.out.below hb2 hy1.out.lt)
  have he2 := Lib.hid (he1.out.below hb2)
  clear hb2 hB1 hx1 hy1 he1 p1
  cases la with
  | false =>
    go_wp2_with fail
    refine (awake_any w2 he2).mono ?_
    rintro e w3 ⟨rfl, hb3⟩
    go_wp2_with fail
    go_ret
    exact ⟨rfl, hB2.out.trans (hb3.mono hB2.out.size)⟩
  | true =>
    go_wp2_with (refine wpList_load_blkg rfl 41 (.tmp 3) rfl (w.heap.size + 1) D 41 _ rfl hy2.out Tryz.underlying41 rfl hsD.out ?_)
    refine (p2.out w2 hB2.out).mono ?_
    rintro e w3 ⟨rfl, hb3⟩
    have hB3 := Lib.hid (hB2.out.trans (hb3.mono hB2.out.size))
    have hx3 := Lib.hid (hx2.out.below hb3 hx2.out.lt)
    have hy3 := Lib.hid (hy2.out.below hb3 hy2.out.lt)
    have he3 := Lib.hid (he2.out.below hb3)
    clear hb3 hB2 hx2 hy2 he2 p2
    cases lb with
    | false =>
      go_wp2_with fail
      refine (awake_any w3 he3).mono ?_
      rintro e w4 ⟨rfl, hb4⟩
      go_wp2_with fail
      go_ret
      exact ⟨rfl, hB3.out.trans (hb4.mono hB3.out.size)⟩
    | true =>
      have q3 := Lib.hid (fun y : Ext w3 => p3.out y.wd (hB3.out.trans (y.below.mono hB3.out.size)))
      have q4 := Lib.hid (fun y : Ext w3 => p4.out y.wd (hB3.out.trans (y.below.mono hB3.out.size)))
      have q5 := Lib.hid (fun y : Ext w3 => p5.out y.wd (hB3.out.trans (y.below.mono hB3.out.size)))
      have q6 := Lib.hid (fun y : Ext w3 => p6.out y.wd (hB3.out.trans (y.below.mono hB3.out.size)))
      clear p3 p4 p5 p6
      go_upto_region 3 with fail
      refine wp_region_ext (by kernel_rfl) (by kernel_rfl) ?_
      repeat (first
        | (go_big_quiet_want; (refine quiet_blk 41 (.tmp 2) rfl w.heap.size C 41 _ rfl (by rintro _ ⟨y, rfl⟩; exact hx3.out.below y.below hx3.out.lt) Tryz.underlying41 rfl hsC.out ?_); go_big_quiet_on; simp only [Act.put, List.setIfInBounds_toArray, List.set_cons_zero, List.set_cons_succ])
        | (go_big_quiet_want; (refine quiet_blk 41 (.tmp 3) rfl (w.heap.size + 1) D 41 _ rfl (by rintro _ ⟨y, rfl⟩; exact hy3.out.below y.below hy3.out.lt) Tryz.underlying41 rfl hsD.out ?_); go_big_quiet_on; simp only [Act.put, List.setIfInBounds_toArray, List.set_cons_zero, List.set_cons_succ])
        | go_big_quiet_step ((first
            | (go_at_call 21; (first | with_reducible exact Calls.ext_of (q3.out _) | with_reducible exact Calls.ext_of (q5.out _) | with_reducible exact Calls.ext_of (q6.out _)))
            | (go_at_call 22; with_reducible exact Calls.ext_of (q4.out _)))))
      refine wpQuiet_nil ?_
      rintro _ ⟨y, rfl⟩
      have hby9 := hB3.out.trans (y.below.mono hB3.out.size)
      go_wp2_with fail
      go_ret
      exact ⟨rfl, hby9⟩
end Go.Proofs.YtjkmhlfjheiekaaGreatDoor

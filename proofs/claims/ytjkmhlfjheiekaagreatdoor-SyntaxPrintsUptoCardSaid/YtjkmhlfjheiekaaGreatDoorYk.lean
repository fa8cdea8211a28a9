/- A credit's text, or what is wrong with it: the walks of the program's Print and May. -/
import Derived.Test.YtjkmhlfjheiekaaGreatDoorYg
import Derived.Test.YtjkmhlfjheiekaaGreatDoorYh
namespace Go.Proofs.YtjkmhlfjheiekaaGreatDoor
open Go Go.RowKit Go.BigFrame Go.Maps

set_option maxRecDepth 100000 in
set_option maxHeartbeats 3200000 in
theorem print_any (C : Array Value) (c : Crd) (A : Option Addr) (n cc : Nat) (l : List Nd) (w : World) (ok : Nat → Prop) (he : Hid (Env w)) (hC : Hid (C = c.cells (.slice A n cc))) (hs : Hid c.short) (hn : n ≤ maxLen) (hl : Hid (l.length = n)) (hN : Hid (NdsAt w ok A l)) (hz : Hid (∀ x ∈ l, szR (strip x.rule) ≤ 100000000)) :
    Calls Tryz.prog 25 #[.agg C] w fun e w' => e = .returned (.tuple #[.string ⟨(printT c l).toArray⟩, .int .i64 (printE c l)]) ∧ Below w.heap.size w w' := by
  have hb0 : Hid (Below w.heap.size w (w.alloc (.cells C 41))) := (Below.refl _ w).alloc (Nat.le_refl _) _
  have hx0 := Lib.hid (Blk.new w 41 C)
  have hsC : Hid ((Tryz.prog.info? 41).map (·.size) = some C.size) := by unfold Hid; rw [hC.out]; kernel_rfl
  have hz' : Hid (∀ x ∈ l, szR (strip x.rule) ≤ mostZ) := fun x hx => by have := hz.out x hx; unfold mostZ; omega
  have p1 : Hid (∀ W, Below w.heap.size w W → Calls Tryz.prog 55 #[.agg C] W fun e w' => e = .returned (.bool (creditM c l)) ∧ Below W.heap.size W w') := fun W hW => creditMay_any C c A n cc l W ok (he.out.below hW) hC hs hn hl (hN.out.below hW) hz'
  have p2 : Hid (creditM c l = true → ∀ W, Below w.heap.size w W → Calls Tryz.prog 56 #[.agg C] W fun e w' => e = .returned (.string ⟨(creditT c l).toArray⟩) ∧ Below W.heap.size W w') := fun hm W hW => write_walk C c A n cc l W ok (he.out.below hW) hC hm hn hl (hN.out.below hW) hz
  have e1 : Hid (printT c l = if creditM c l = true then (if 4096 < (creditT c l).length then [] else creditT c l) else []) := rfl
  have e2 : Hid (printE c l = if creditM c l = true then (if 4096 < (creditT c l).length then 7 else 0) else 1) := rfl
  obtain ⟨b, hb⟩ : ∃ b, Hid (creditM c l = b) := ⟨_, Lib.hid rfl⟩
  obtain ⟨t, ht⟩ : ∃ b, Hid (creditT c l = b) := ⟨_, Lib.hid rfl⟩
  obtain ⟨rt, hrt⟩ : ∃ b, Hid (printT c l = b) := ⟨_, Lib.hid rfl⟩
  obtain ⟨re, hre⟩ : ∃ b, Hid (printE c l = b) := ⟨_, Lib.hid rfl⟩
  rw [hrt.out, hb.out, ht.out] at e1
  rw [hre.out, hb.out, ht.out] at e2
  rw [hb.out] at p1 p2
  rw [ht.out] at p2
  rw [hrt.out, hre.out]
  clear hb ht hrt hre he hC hs hl hN hz hz'
  go_enter Tryz.func25, Tryz.ntmps25
  go_wp2_with (refine wpList_load_blkg rfl 41 _ rfl w.heap.size C 41 _ rfl hx0.out Tryz.underlying41 rfl hsC.out ?_)
  obtain ⟨wa, hwa⟩ : ∃ x, Hid (w.alloc (.cells C 41) = x) := ⟨_, Lib.hid rfl⟩
  rw [hwa.out] at hb0 hx0 ⊢
  clear hwa
  refine (p1.out wa hb0.out).mono ?_
  rintro e w1 ⟨rfl, hb1⟩
  have hB1 := Lib.hid (hb0.out.trans (hb1.mono hb0.out.size))
  have hx1 := Lib.hid (hx0.out.below hb1 hx0.out.lt)
  clear hb1 hb0 hx0 p1
  cases b with
  | false =>
    go_wp2_with fail
    go_ret2
    exact ⟨by rw [e1.out, e2.out]; rfl, hB1.out⟩
  | true =>
    go_wp2_with (refine wpList_load_blkg rfl 41 _ rfl w.heap.size C 41 _ rfl hx1.out Tryz.underlying41 rfl hsC.out ?_)
    refine (p2.out (by simp) w1 hB1.out).mono ?_
    rintro e w2 ⟨rfl, hb2⟩
    have hB2 := Lib.hid (hB1.out.trans (hb2.mono hB1.out.size))
    clear hb2 hB1 hx1 p2
    by_cases h4 : 4096 < t.length
    · have b1 : decide ((4096 : Int) < (t.length : Int)) = true := by simp; omega
      have b2 : decide (4096 < t.length) = true := by simpa using h4
      go_wp2_with fail
      go_ret2
      exact ⟨by rw [e1.out, e2.out]; simp [h4], hB2.out⟩
    · have b1 : decide ((4096 : Int) < (t.length : Int)) = false := by simp; omega
      have b2 : decide (4096 < t.length) = false := by simpa using h4
      go_wp2_with fail
      go_ret2
      exact ⟨by rw [e1.out, e2.out]; simp [h4], hB2.out⟩
set_option maxRecDepth 100000 in
set_option maxHeartbeats 3200000 in
theorem may_credit_any (C : Array Value) (c : Crd) (A : Option Addr) (n cc : Nat) (l : List Nd) (w : World) (ok : Nat → Prop) (he : Hid (Env w)) (hC : Hid (C = c.cells (.slice A n cc))) (hs : Hid c.short) (hn : n ≤ maxLen) (hl : Hid (l.length = n)) (hN : Hid (NdsAt w ok A l)) (hz : Hid (∀ x ∈ l, szR (strip x.rule) ≤ 100000000)) :
    Calls Tryz.prog 27 #[.agg C] w fun e w' => e = .returned (.bool (printE c l == 0)) ∧ Below w.heap.size w w' := by
  have hb0 : Hid (Below w.heap.size w (w.alloc (.cells C 41))) := (Below.refl _ w).alloc (Nat.le_refl _) _
  have hx0 := Lib.hid (Blk.new w 41 C)
  have hsC : Hid ((Tryz.prog.info? 41).map (·.size) = some C.size) := by unfold Hid; rw [hC.out]; kernel_rfl
  have p1 := Lib.hid (print_any C c A n cc l (w.alloc (.cells C 41)) ok (he.out.below hb0.out) hC hs hn hl (hN.out.below hb0.out) hz)
  clear he hC hs hl hN hz
  obtain ⟨rt, hrt⟩ : ∃ b, Hid (printT c l = b) := ⟨_, Lib.hid rfl⟩
  obtain ⟨re, hre⟩ : ∃ b, Hid (printE c l = b) := ⟨_, Lib.hid rfl⟩
  rw [hrt.out, hre.out] at p1
  rw [hre.out]
  clear hrt hre
  go_enter Tryz.func27, Tryz.ntmps27
  go_wp2_with (refine wpList_load_blkg rfl 41 _ rfl w.heap.size C 41 _ rfl hx0.out Tryz.underlying41 rfl hsC.out ?_)
  refine p1.out.mono ?_
  rintro e w1 ⟨rfl, hb1⟩
  have hB1 := Lib.hid (hb0.out.trans (hb1.mono hb0.out.size))
  clear hb1 hb0 hx0 p1
  go_wp2_with fail
  go_ret
  exact ⟨rfl, hB1.out⟩
end Go.Proofs.YtjkmhlfjheiekaaGreatDoor

namespace Go.Proofs.YtjkmhlfjheiekaaGreatDoor
open Go Go.RowKit Go.BigFrame Go.Maps

mutual
theorem few_deep : ∀ (d : Nat) (r : Rul), fewR d r = true → depthR r + d ≤ 20
  | d, .mk k p f x n L, h => by
    rw [fewR, Bool.and_eq_true] at h
    have h1 := few_deepL (d + 1) L h.2
    have h0 := h.1
    simp only [Bool.not_eq_true', Bool.or_eq_false_iff, decide_eq_false_iff_not] at h0
    rw [depthR]
    omega
theorem few_deepL : ∀ (d : Nat) (L : List Rul), fewL d L = true → depthL L = 0 ∨ depthL L + d ≤ 21
  | _, [], _ => .inl (by rw [depthL])
  | d, r :: L, h => by
    rw [fewL, Bool.and_eq_true] at h
    have h1 := few_deep d r h.1
    have h2 := few_deepL d L h.2
    rw [depthL]
    omega
end
theorem little_depth {l : List Nd} (h : littleN l = true) {x : Nd} (hx : x ∈ l) : depthR (strip x.rule) ≤ 20 := by
  unfold littleN at h
  simp only [Bool.and_eq_true, List.all_eq_true] at h
  have := few_deep 0 _ (h.2 x hx)
  omega
set_option maxRecDepth 100000 in
set_option maxHeartbeats 6400000 in
theorem prints_law (C : Array Value) (c : Crd) (A : Option Addr) (n cc : Nat) (l : List Nd) (ok : Nat → Prop) (w : World) (he : Hid (Env w)) (hC : Hid (C = c.cells (.slice A n cc))) (hs : Hid c.short) (hn : n ≤ maxLen) (hl : Hid (l.length = n)) (hN : Hid (NdsAt w ok A l)) (hz : Hid (∀ x ∈ l, szR (strip x.rule) ≤ 100000000)) :
    Calls Tryz.prog 7 #[.agg C] w fun e w' => e = .returned (.bool true) ∧ Below w.heap.size w w' := by
  have hb0 : Hid (Below w.heap.size w (w.alloc (.cells C 41))) := (Below.refl _ w).alloc (Nat.le_refl _) _
  have hbx := Lib.hid (Blk.new w 41 C)
  have hsC : Hid ((Tryz.prog.info? 41).map (·.size) = some C.size) := by unfold Hid; rw [hC.out]; kernel_rfl
  have hC17 : Hid (C[17]? = some (.slice A n cc)) := by unfold Hid; rw [hC.out]; rfl
  have p1 : Hid (∀ W, Below w.heap.size w W → Calls Tryz.prog 20 #[.agg C] W fun e w' => e = .returned (.bool (littleN l)) ∧ Below W.heap.size W w') := fun W hW => little_any C A n cc l W ok hC17 hl hn (hN.out.below hW)
  have p2 : Hid (∀ W, Below w.heap.size w W → Calls Tryz.prog 25 #[.agg C] W fun e w' => e = .returned (.tuple #[.string ⟨(printT c l).toArray⟩, .int .i64 (printE c l)]) ∧ Below W.heap.size W w') := fun W hW => print_any C c A n cc l W ok (he.out.below hW) hC hs hn hl (hN.out.below hW) hz
  have p3 : Hid (littleN l = true → ∀ W, Below w.heap.size w W → Calls Tryz.prog 26 #[.agg C] W fun e w' => e = .returned (.tuple #[.string ⟨(printT c l).toArray⟩, .int .i64 (printE c l)]) ∧ Below W.heap.size W w') := fun hf W hW => rprint_any C c A n cc l W ok hC hs hn hl (hN.out.below hW) (Lib.hid fun x hx => ⟨hz.out x hx, Nat.le_trans (little_depth hf hx) (by decide)⟩)
  have p4 : Hid (∀ W, Below w.heap.size w W → Calls Tryz.prog 27 #[.agg C] W fun e w' => e = .returned (.bool (printE c l == 0)) ∧ Below W.heap.size W w') := fun W hW => may_credit_any C c A n cc l W ok (he.out.below hW) hC hs hn hl (hN.out.below hW) hz
  obtain ⟨rt, hrt⟩ : ∃ b, Hid (printT c l = b) := ⟨_, Lib.hid rfl⟩
  obtain ⟨re, hre⟩ : ∃ b, Hid (printE c l = b) := ⟨_, Lib.hid rfl⟩
  obtain ⟨la, hla⟩ : ∃ b, Hid (littleN l = b) := ⟨_, Lib.hid rfl⟩
  rw [hrt.out, hre.out] at p2 p3
  rw [hre.out] at p4
  rw [hla.out] at p1 p3
  clear hla hrt hre hN hC hs hl hC17 hz
  have hea := Lib.hid (he.out.below hb0.out)
  go_enter Tryz.func7, Tryz.ntmps7
  go_wp2_with fail
  obtain ⟨wa, hwa⟩ : ∃ x, Hid (w.alloc (.cells C 41) = x) := ⟨_, Lib.hid rfl⟩
  change Calls Tryz.prog 12 _ (w.alloc (.cells C 41)) _
  rw [hwa.out] at hb0 hbx hea ⊢
  clear hwa
  refine (awake_any wa hea).mono ?_
  rintro e w1 ⟨rfl, hb1⟩
  have hB1 := Lib.hid (hb0.out.trans (hb1.mono hb0.out.size))
  have hx1 := Lib.hid (hbx.out.below hb1 hbx.out.lt)
  have he1 := Lib.hid (hea.out.below hb1)
  clear hb1 hb0 hbx hea
  go_wp2_with (refine wpList_load_blkg rfl 41 _ rfl w.heap.size C 41 _ rfl hx1.out Tryz.underlying41 rfl hsC.out ?_)
  refine (p1.out w1 hB1.out).mono ?_
  rintro e w2 ⟨rfl, hb2⟩
  have hB2 := Lib.hid (hB1.out.trans (hb2.mono hB1.out.size))
  have hx2 := Lib.hid (hx1.out.below hb2 hx1.out.lt)
  have he2 := Lib.hid (he1.out.below hb2)
  clear hb2 hB1 hx1 he1 p1
  cases la with
  | false =>
    go_wp2_with fail
    refine (awake_any w2 he2).mono ?_
    rintro e w3 ⟨rfl, hb3⟩
    go_wp2_with fail
    go_ret
    exact ⟨rfl, hB2.out.trans (hb3.mono hB2.out.size)⟩
  | true =>
    go_wp2_with (refine wpList_load_blkg rfl 41 _ rfl w.heap.size C 41 _ rfl hx2.out Tryz.underlying41 rfl hsC.out ?_)
    refine (p2.out w2 hB2.out).mono ?_
    rintro e w3 ⟨rfl, hb3⟩
    have hB3 := Lib.hid (hB2.out.trans (hb3.mono hB2.out.size))
    have hx3 := Lib.hid (hx2.out.below hb3 hx2.out.lt)
    clear hb3 hB2 hx2 he2 p2
    go_wp2_with (refine wpList_load_blkg rfl 41 _ rfl w.heap.size C 41 _ rfl hx3.out Tryz.underlying41 rfl hsC.out ?_)
    refine (p3.out (by simp) w3 hB3.out).mono ?_
    rintro e w4 ⟨rfl, hb4⟩
    have hB4 := Lib.hid (hB3.out.trans (hb4.mono hB3.out.size))
    have hx4 := Lib.hid (hx3.out.below hb4 hx3.out.lt)
    clear hb4 hB3 hx3 p3
    have t1 : (rt == rt) = true := beq_self_eq_true _
    have t2 : (re == re) = true := beq_self_eq_true _
    go_wp2_with (refine wpList_load_blkg rfl 41 _ rfl w.heap.size C 41 _ rfl hx4.out Tryz.underlying41 rfl hsC.out ?_)
    refine (p4.out w4 hB4.out).mono ?_
    rintro e w5 ⟨rfl, hb5⟩
    have hB5 := Lib.hid (hB4.out.trans (hb5.mono hB4.out.size))
    clear hb5 hB4 hx4 p4
    go_wp2_with fail
    go_ret
    exact ⟨by simp, hB5.out⟩
end Go.Proofs.YtjkmhlfjheiekaaGreatDoor

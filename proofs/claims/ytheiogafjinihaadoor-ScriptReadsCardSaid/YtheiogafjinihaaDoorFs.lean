/- What the parts' closures read into a step. -/
import Derived.Test.YtheiogafjinihaaDoorFr
namespace Go.Proofs.YtheiogafjinihaaDoor
open Go Go.RowKit Go.BigFrame Go.Maps

/-- A question that reads a word into the step at b. -/
def ReadsTo (b : Nat) (w : World) (r : Option Stp) (e : Ending) (w' : World) : Prop :=
  ∃ z : Stp, e = .returned (.bool r.isSome) ∧ Blk w' b 49 z.cells ∧ (∀ x, r = some x → z = x) ∧ But b w w'

set_option maxRecDepth 100000 in
theorem read_party (y : Stp) (u : List UInt8) (b : Nat) (w : World) (hb : Blk w b 49 y.cells) (hu : u.length ≤ maxLen) : Calls Tryd.prog 34 #[pO b, .string ⟨u.toArray⟩] w (ReadsTo b w (readP y u .party)) := by
  obtain ⟨k, n, p, ak, an, d⟩ := y
  have hcl := Lib.hid (fun W => name_any u W hu)
  have hbf := Lib.hid hb
  have c2 : w.cell? ⟨b, 2, none⟩ = some (.string ⟨p.toArray⟩) := hb.cell 2
  have f2 : w.frozen? ⟨b, 2, none⟩ = false := hb.frozen 2
  clear hb hu
  go_enter Tryd.func34, Tryd.ntmps34
  go_wp2_with (go_at_call 33; refine (hcl.out _).mono ?_; rintro e w' ⟨rfl, rfl⟩)
  go_ret
  refine ⟨⟨k, n, u, ak, an, d⟩, ?_, hbf.out.set_ 2 _, ?_, (But.refl b w).setCell 2 _⟩
  · simp only [readP]
    cases nameB u <;> rfl
  · intro x hx
    simp only [readP] at hx
    split at hx
    · exact Option.some.inj hx
    · cases hx

set_option maxRecDepth 100000 in
theorem read_deal (y : Stp) (u : List UInt8) (b : Nat) (w : World) (hb : Blk w b 49 y.cells) (hu : u.length ≤ maxLen) : Calls Tryd.prog 36 #[pO b, .string ⟨u.toArray⟩] w (ReadsTo b w (readP y u .deal)) := by
  obtain ⟨k, n, p, ak, an, d⟩ := y
  have hcl := Lib.hid (fun W => name_any u W hu)
  have hbf := Lib.hid hb
  have c2 : w.cell? ⟨b, 5, none⟩ = some (.string ⟨d.toArray⟩) := hb.cell 5
  have f2 : w.frozen? ⟨b, 5, none⟩ = false := hb.frozen 5
  clear hb hu
  go_enter Tryd.func36, Tryd.ntmps36
  go_wp2_with (go_at_call 33; refine (hcl.out _).mono ?_; rintro e w' ⟨rfl, rfl⟩)
  go_ret
  refine ⟨⟨k, n, p, ak, an, u⟩, ?_, hbf.out.set_ 5 _, ?_, (But.refl b w).setCell 5 _⟩
  · simp only [readP]
    cases nameB u <;> rfl
  · intro x hx
    simp only [readP] at hx
    split at hx
    · exact Option.some.inj hx
    · cases hx

theorem index_acts (AA : Array Value) (j : Nat) (v : Value) (hj : j < 12) (hv : AA[j]? = some v) (W : World) : (Instr.index 104 (.agg AA) (.int .i64 (j : Int))).run Tryd.prog W = .ok v W := by
  simp [Instr.index, run_underlying Tryd.underlying104, asIntOf, Tryd.sizeOf9, part, Tryd.isAgg9, hv, go_sem]
  intro h; omega
theorem acts_at (j : Nat) (hj : j < 12) : actsL[j]? = some (actsL.getD j []) := by
  have hc : j = 0 ∨ j = 1 ∨ j = 2 ∨ j = 3 ∨ j = 4 ∨ j = 5 ∨ j = 6 ∨ j = 7 ∨ j = 8 ∨ j = 9 ∨ j = 10 ∨ j = 11 := by omega
  rcases hc with rfl | rfl | rfl | rfl | rfl | rfl | rfl | rfl | rfl | rfl | rfl | rfl <;> rfl
theorem place_step (s u : List UInt8) (k : Nat) (hk : actsL[k]? = some s) : placeL (actsL.drop k) u k = if s = u then some k else placeL (actsL.drop (k + 1)) u (k + 1) := by
  have hlt : k < actsL.length := (List.getElem?_eq_some_iff.1 hk).1
  rw [List.drop_eq_getElem_cons hlt, placeL, (List.getElem?_eq_some_iff.1 hk).2]
set_option maxRecDepth 100000 in
set_option maxHeartbeats 1600000 in
theorem read_act (y : Stp) (u : List UInt8) (b : Nat) (w : World) (hb : Blk w b 49 y.cells) (he : Env w) : Calls Tryd.prog 38 #[pO b, .string ⟨u.toArray⟩] w (ReadsTo b w (readP y u .act)) := by
  obtain ⟨k, n, p, ak, an, d⟩ := y
  have hbf := Lib.hid hb
  have c2 : w.cell? ⟨b, 3, none⟩ = some (.int .i64 ak) := hb.cell 3
  have f2 : w.frozen? ⟨b, 3, none⟩ = false := hb.frozen 3
  have hac := Lib.hid he.acts
  obtain ⟨AA, hAA⟩ : ∃ AA, Hid (actsA = AA) := ⟨_, Lib.hid rfl⟩
  have hag : Hid (∀ k, k < 12 → AA[k]? = some (.string ⟨(actsL.getD k []).toArray⟩)) := by rw [← hAA.out]; exact actsA_get
  rw [hAA.out] at hac
  have hsz : Hid (AA.size = 12) := by rw [← hAA.out]; exact Lib.hid rfl
  clear hb he hAA
  have hr : Hid (readP ⟨k, n, p, ak, an, d⟩ u .act = (placeL (actsL.drop 0) u 0).map fun (j : Nat) => (⟨k, n, p, (j : Int), an, d⟩ : Stp)) := Lib.hid rfl
  rw [hr.out]
  clear hr
  go_enter Tryd.func38, Tryd.ntmps38
  go_wp2_with (refine wpList_load_row rfl 104 (.global 0) rfl 0 rfl 104 AA (0, 0) _ hac.out Tryd.underlying104 rfl (by rw [hsz.out]; kernel_rfl) ?_)
  go_loopw [8] (fun i wr => ∃ j : Nat, j ≤ 12 ∧ i = .int .i64 (j : Int) ∧ w = wr ∧ Hid (placeL (actsL.drop 0) u 0 = placeL (actsL.drop j) u j)) (fun i _ => 12 - (intOf i).toNat)
  case atStart => exact ⟨0, by omega, rfl, rfl, rfl⟩
  case round =>
    obtain ⟨j, hj, rfl, rfl, hpl⟩ := hrel
    by_cases hlt : j < 12
    · obtain ⟨s, hs⟩ : ∃ s, Hid (actsL.getD j [] = s) := ⟨_, Lib.hid rfl⟩
      have hA := hag.out j hlt
      rw [hs.out] at hA
      have hst := Lib.hid (place_step s u j (by rw [← hs.out]; exact acts_at j hlt))
      have i1 : (j : Int) < 12 := by omega
      have hix := index_acts AA j _ hlt hA
      clear hA
      by_cases hq : s = u
      · have b1 : (s == u) = true := by simp [hq]
        have hres : Hid (placeL (actsL.drop 0) u 0 = some j) := by unfold Hid; rw [hpl.out, hst.out, if_pos hq]
        clear hq
        go_wp2_with fail
        go_ret
        refine ⟨⟨k, n, p, (j : Int), an, d⟩, ?_, hbf.out.set_ 3 _, ?_, (But.refl b w).setCell 3 _⟩
        · rw [hres.out]; rfl
        · intro x hx
          rw [hres.out] at hx
          exact Option.some.inj hx
      · have b1 : (s == u) = false := by simp [hq]
        have hnx : Hid (placeL (actsL.drop 0) u 0 = placeL (actsL.drop (j + 1)) u (j + 1)) := by unfold Hid; rw [hpl.out, hst.out, if_neg hq]
        go_wp2_with fail
        go_roundw
        case rel => exact ⟨j + 1, by omega, by go_num, by first | trivial | rfl, hnx.out⟩
        case measure => simp [intOf]; omega
    · have hres : Hid (placeL (actsL.drop 0) u 0 = none) := by
        unfold Hid
        rw [hpl.out, List.drop_eq_nil_of_le (by simp [actsL]; omega)]
        rfl
      have b1 : decide ((j : Int) < 12) = false := by simp; omega
      go_wp2_with fail
      go_ret
      refine ⟨⟨k, n, p, ak, an, d⟩, ?_, hbf.out, ?_, But.refl b w⟩
      · rw [hres.out]; rfl
      · intro x hx
        rw [hres.out] at hx
        cases hx

/-- A count's word, put where g tells. -/
def ReadsAt (b j : Nat) (cs : Array Value) (w : World) (u : List UInt8) (e : Ending) (w' : World) : Prop :=
  ∃ v : Int, e = .returned (.bool (atoiV u).isSome) ∧ Blk w' b 49 (cs.setIfInBounds j (.int .i64 v)) ∧ (∀ x, atoiV u = some x → v = x) ∧ But b w w'
theorem But.trans {z : Nat} {w w1 w2 : World} (h : But z w w1) (g : But z w1 w2) : But z w w2 :=
  ⟨g.os.trans h.os, g.tape.trans h.tape, g.output.trans h.output, Nat.le_trans h.size g.size, fun k hk hz => (g.block k (Nat.lt_of_lt_of_le hk h.size) hz).trans (h.block k hk hz)⟩
theorem But.of_below {z : Nat} {w w1 : World} (h : Below w.heap.size w w1) : But z w w1 := (But.refl z w).below h
set_option maxRecDepth 100000 in
set_option maxHeartbeats 1600000 in
theorem read_count (g j cb : Nat) (eg : ∀ (args : Array Value) (w : World), (callFunc g args).run Tryd.prog w = .ok (.enter g args) w) (hg : Picks g j) (cs : Array Value) (v0 : Int) (hv : cs[j]? = some (.int .i64 v0)) (u : List UInt8) (b : Nat) (w : World) (hb : Blk w b 49 cs) (h9 : 9 ≤ b) (he : Env w) (hu : u.length ≤ 281474976710656) (hcb : Blk w cb 105 #[fnV g]) :
    Calls Tryd.prog 43 #[pO b, .string ⟨u.toArray⟩, pO cb] w (ReadsAt b j cs w u) := by
  have hsz : (⟨u.toArray⟩ : ByteArray).size ≤ 281474976710656 := by rw [size_list]; exact hu
  have hdl : (⟨u.toArray⟩ : ByteArray).data.toList = u := by simp
  by_cases hok : ∃ v, Lib.atoiAll u = .ok v
  · obtain ⟨v, hok⟩ := hok
    have hat := Lib.hid (atoi_ok ⟨u.toArray⟩ w hsz v (by rw [hdl]; exact hok))
    obtain ⟨vb0, vb1⟩ := Lib.atoiAll_bounds hok
    have hbf := Lib.hid hb
    have hcf := Lib.hid hcb
    have hg' := Lib.hid hg
    have he' := Lib.hid he
    obtain ⟨t, ht⟩ : ∃ t, Hid (Lib.itoa v = t) := ⟨_, Lib.hid rfl⟩
    have hit : Hid (∀ W, Env W → Calls Tryd.prog 41 #[.int .i64 v] W fun e w' => e = .returned (.string ⟨t.toArray⟩) ∧ Below W.heap.size W w') := by
      rw [← ht.out]
      exact fun W hW => itoa_any v W vb0 vb1 hW
    have hav : Hid (atoiV u = if t = u ∧ amongB v = true then some v else none) := by unfold Hid atoiV; rw [hok, ← ht.out]
    clear hb hcb hok hsz hdl hu he hg ht vb0 vb1
    have hvi : v = v := rfl
    clear hvi
    go_enter Tryd.func43, Tryd.ntmps43
    go_wp2_with fail
    refine hat.out.mono ?_
    rintro e w1 ⟨rfl, hb1⟩
    have hb1' := Lib.hid hb1
    have hk1 := Lib.hid (hbf.out.below hb1 hbf.out.lt)
    have c0 : w1.cell? ⟨cb, 0, none⟩ = some (fnV g) := (hcf.out.below hb1 hcf.out.lt).cell 0
    have cj : w1.cell? ⟨b, j, none⟩ = some (.int .i64 v0) := (hk1.out.cell j).trans hv
    have fj : w1.frozen? ⟨b, j, none⟩ = false := hk1.out.frozen j
    have he1 := Lib.hid (he'.out.below hb1)
    clear hb1
    obtain ⟨w2, hw2⟩ : ∃ W, Hid (w1.setCell ⟨b, j, none⟩ (.int .i64 v) = W) := ⟨_, rfl⟩
    have hB2 : Hid (But b w w2) := by rw [← hw2.out]; exact (But.of_below hb1'.out).setCell j _
    have hk2 : Hid (Blk w2 b 49 (cs.setIfInBounds j (.int .i64 v))) := by rw [← hw2.out]; exact hk1.out.set_ j _
    have hE2 : Hid (Env w2) := he'.out.but hB2.out h9
    clear h9
    by_cases hq : t = u
    · have q1 : (t == u) = true := by simp [hq]
      have hav2 : Hid ((atoiV u).isSome = amongB v) := by
        unfold Hid
        rw [hav.out]
        cases amongB v <;> simp [hq]
      have hav3 : Hid (∀ x, atoiV u = some x → v = x) := by
        unfold Hid
        intro x hx
        rw [hav.out] at hx
        split at hx
        · exact Option.some.inj hx
        · cases hx
      clear hav hq
      go_wp2_with (first | (go_at_fn g; refine (hg'.out _ _).mono ?_; rintro e w' ⟨rfl, rfl⟩) | rw [hw2.out] | (go_at_call 41; refine (hit.out _ hE2.out).mono ?_; rintro e w3 ⟨rfl, hb3⟩; have hb3' := Lib.hid hb3; clear hb3) | (go_at_call 42; refine (among_any _ _).mono ?_; rintro e w' ⟨rfl, rfl⟩))
      go_ret
      exact ⟨v, by rw [hav2.out]; rfl, hk2.out.below hb3'.out hk2.out.lt, hav3.out, hB2.out.below hb3'.out⟩
    · have q1 : (t == u) = false := by simp [hq]
      have hav2 : Hid (atoiV u = none) := by unfold Hid; rw [hav.out, if_neg (fun h => hq h.1)]
      clear hav hq
      go_wp2_with (first | (go_at_fn g; refine (hg'.out _ _).mono ?_; rintro e w' ⟨rfl, rfl⟩) | rw [hw2.out] | (go_at_call 41; refine (hit.out _ hE2.out).mono ?_; rintro e w3 ⟨rfl, hb3⟩; have hb3' := Lib.hid hb3; clear hb3) | (go_at_call 42; refine (among_any _ _).mono ?_; rintro e w' ⟨rfl, rfl⟩))
      go_ret
      refine ⟨v, by rw [hav2.out]; rfl, hk2.out.below hb3'.out hk2.out.lt, ?_, hB2.out.below hb3'.out⟩
      intro x hx
      rw [hav2.out] at hx
      cases hx
  · have hav : Hid (atoiV u = none) := by
      unfold Hid atoiV
      split
      · rename_i v h; exact absurd ⟨v, h⟩ hok
      · rfl
    have hat := Lib.hid (atoi_no ⟨u.toArray⟩ w hsz he (fun v h => hok ⟨v, by rw [← hdl]; exact h⟩))
    have hbf := Lib.hid hb
    have hcf := Lib.hid hcb
    have hg' := Lib.hid hg
    clear hb hcb hok hsz hdl hu he hg h9
    go_enter Tryd.func43, Tryd.ntmps43
    go_wp2_with fail
    refine hat.out.mono ?_
    rintro e w1 ⟨⟨v, t, q, rfl⟩, hb1⟩
    have hb1' := Lib.hid hb1
    have hk1 := Lib.hid (hbf.out.below hb1 hbf.out.lt)
    have c0 : w1.cell? ⟨cb, 0, none⟩ = some (fnV g) := (hcf.out.below hb1 hcf.out.lt).cell 0
    have cj : w1.cell? ⟨b, j, none⟩ = some (.int .i64 v0) := (hk1.out.cell j).trans hv
    have fj : w1.frozen? ⟨b, j, none⟩ = false := hk1.out.frozen j
    clear hb1
    go_wp2_with (go_at_fn g; refine (hg'.out _ _).mono ?_; rintro e w' ⟨rfl, rfl⟩)
    go_ret
    refine ⟨v, by rw [hav.out]; rfl, hk1.out.set_ j _, ?_, (But.of_below hb1'.out).setCell j _⟩
    intro x hx
    rw [hav.out] at hx
    cases hx

end Go.Proofs.YtheiogafjinihaaDoor

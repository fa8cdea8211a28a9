/- The document's example: awake. -/
import Derived.Test.YtheiogafjinihaaDoorGd
import Derived.Test.YtheiogafjinihaaDoorFw
import Derived.Test.YtheiogafjinihaaDoorWk
namespace Go.Proofs.YtheiogafjinihaaDoor
open Go Go.RowKit Go.BigFrame Go.Maps

theorem DealRow.at_ {w : World} {B : Nat} {v : Value} {l : List SDeal} (h : DealRow w B v l) {i : Nat} {d : SDeal} (hi : l[i]? = some d) : ∃ g c bx, v = .slice (some ⟨g, 0, none⟩) l.length c ∧ BoxRow w 0 bx d.boxes ∧ ∀ (j : Nat) (u : Value), (d.cells bx).toList[j]? = some u → w.cell? ⟨g, 0 + (i * 17 + j), none⟩ = some u := by
  obtain ⟨A, c, e⟩ := h.form
  obtain ⟨vs, h1, h2, h3⟩ := h
  have hlt : i < l.length := (List.getElem?_eq_some_iff.1 hi).1
  obtain ⟨x, hx⟩ : ∃ x, vs[i]? = some x := ⟨_, List.getElem?_eq_getElem (by omega)⟩
  subst e
  obtain ⟨g, cap, hv, _, _⟩ := h2.form (by omega)
  have hA : A = some ⟨g, 0, none⟩ := by injection hv
  subst hA
  obtain ⟨ad, e, _, hc⟩ := (Reads.of_own h2).2 (by omega)
  obtain rfl : ad = ⟨g, 0, none⟩ := (Option.some.inj e).symm
  refine ⟨g, c, x, rfl, h3 i d x hi hx, fun j u hu => ?_⟩
  rw [← add_zero_at]
  exact hc _ _ (dealL_get l vs i j d x u hi hx hu)
theorem Tryd.eqg51 : Tryd.prog.eqGuardType Tryd.prog.depth 51 = false := by kernel_rfl
theorem eql_money (W : World) : (binOp .eql 51 (.agg #[.string ⟨#[69, 85, 82]⟩, .int .i64 1]) (.agg #[.string ⟨#[69, 85, 82]⟩, .int .i64 1])).run Tryd.prog W = .ok (.bool true) W := by kernel_rfl
set_option maxRecDepth 100000 in
set_option maxHeartbeats 3200000 in
theorem awake_any (w : World) (he : Hid (Env w)) : Calls Tryd.prog 7 #[] w fun e w' => e = .returned (.bool true) ∧ Below w.heap.size w w' := by
  have hps := Lib.hid (parse_any awL w he.out (by decide))
  have hps' := hps.out
  rw [awake_parse] at hps'
  have hps2 := Lib.hid hps'
  clear hps hps'
  go_enter Tryd.func7, Tryd.ntmps7
  go_wp2_with fail
  refine hps2.out.mono ?_
  rintro e w1 ⟨v, rfl, hrow, hb1⟩
  have hB1 := Lib.hid hb1
  obtain ⟨A, c, rfl⟩ := own_form2 hrow
  have hst := own_steps hrow rfl
  obtain ⟨b, off, rfl, h0, h1, h2, h3, h4, h5⟩ := hst 0 awS rfl
  simp only [Nat.zero_mul, Nat.add_zero] at h0 h1 h2 h3 h4 h5
  have hcs : Hid (w1.cell? ⟨b, off, none⟩ = some (.int .i64 0) ∧ w1.cell? ⟨b, off + 1, none⟩ = some (.int .i64 0) ∧ w1.cell? ⟨b, off + 2, none⟩ = some (.string ⟨#[97, 110, 110, 97]⟩) ∧ w1.cell? ⟨b, off + 3, none⟩ = some (.int .i64 2) ∧ w1.cell? ⟨b, off + 4, none⟩ = some (.int .i64 0) ∧ w1.cell? ⟨b, off + 5, none⟩ = some (.string ⟨#[100, 48]⟩)) := ⟨h0, h1, h2, h3, h4, h5⟩
  have hbl : b < w1.heap.size := World.block_lt_of_cell? w1 _ h0
  clear hrow hb1 hst h0 h1 h2 h3 h4 h5
  have hsu := Lib.hid (setup_any none 0 [] w1 (by decide) (Lib.hid (by intro i x h; simp at h)))
  go_wp2_with fail
  refine hsu.out.mono ?_
  rintro e w2 ⟨cs, rfl, ⟨pb, D, F, R, m, rfl, _, hdr, hfu, hR⟩, hb2⟩
  have hB2 := Lib.hid hb2
  obtain ⟨g, dc, bx, rfl, _, hcell⟩ := hdr.at_ (i := 0) (d := dealM numB2 mkB 0 fun i => byteAt [] (1 + 9 * 0 + i)) rfl
  obtain ⟨fA, fc, rfl⟩ := own_form2 hfu
  obtain rfl : R = .slice none 0 0 := hR.2 rfl
  have hlen : (setupM numB2 mkB (byteAt [])).deals.length = 1 := rfl
  rw [hlen]
  have hgl : g < w2.heap.size := World.block_lt_of_cell? w2 _ (hcell 0 _ rfl)
  obtain ⟨w3, hw3⟩ : ∃ W, Hid (w2.alloc (.cells #[.slice (some ⟨pb, 0, none⟩) 9 9, .slice (some ⟨g, 0, none⟩) 1 dc, .slice fA 6 fc, .slice none 0 0, .slice none 0 0] 32) = W) := ⟨_, rfl⟩
  have hb3 : Hid (Below w2.heap.size w2 w3) := by rw [← hw3.out]; exact (Below.refl _ w2).alloc (Nat.le_refl _) _
  have hs3 : Hid (Blk w3 w2.heap.size 32 #[.slice (some ⟨pb, 0, none⟩) 9 9, .slice (some ⟨g, 0, none⟩) 1 dc, .slice fA 6 fc, .slice none 0 0, .slice none 0 0]) := by rw [← hw3.out]; exact Lib.hid (Blk.new _ _ _)
  have key : ∀ (j : Nat) (u : Value), ((dealM numB2 mkB 0 fun i => byteAt [] (1 + 9 * 0 + i)).cells bx).toList[j]? = some u → w3.cell? ⟨g, j, none⟩ = some u := fun j u hu => by
    have h1 := hcell j u hu
    rw [Nat.zero_mul, Nat.zero_add, Nat.zero_add] at h1
    exact (hb3.out.cell hgl).trans h1
  have c1 : w3.cell? ⟨g, 1, none⟩ = some (.string ⟨#[97, 110, 110, 97]⟩) := key 1 _ rfl
  have c2 : w3.cell? ⟨g, 2, none⟩ = some (.string ⟨#[98, 101, 114, 116]⟩) := key 2 _ rfl
  have c3 : w3.cell? ⟨g, 3, none⟩ = some (.string ⟨#[100, 111, 114, 97]⟩) := key 3 _ rfl
  have c9 : w3.cell? ⟨g, 9, none⟩ = some (.string ⟨#[69, 85, 82]⟩) := key 9 _ rfl
  have c10 : w3.cell? ⟨g, 10, none⟩ = some (.int .i64 1) := key 10 _ rfl
  have s1 : w3.cell? ⟨w2.heap.size, 1, none⟩ = some (.slice (some ⟨g, 0, none⟩) 1 dc) := hs3.out.cell 1
  have hbl3 : ∀ j, w3.cell? ⟨b, j, none⟩ = w1.cell? ⟨b, j, none⟩ := fun j => (hb3.out.cell (by show b < w2.heap.size; have := hB2.out.size; omega)).trans (hB2.out.cell hbl)
  obtain ⟨z0, z1, z2, z3, z4, z5⟩ := hcs.out
  rw [← hbl3] at z0 z1 z2 z3 z4 z5
  have hqe := eql_step awS awS
  rw [show eqS awS awS = true by rw [eqS_iff]; simp] at hqe
  simp only [Stp.cells, awS] at hqe
  have hqg := Tryd.eqg49
  have hqm := eql_money
  have hqn := Tryd.eqg51
  clear key hbl3 hcell hdr hfu hR hlen
  go_upto_region 3 with (rw [hw3.out])
  go_upto_region 5 with fail
  go_wp2_with fail
  go_ret
  exact ⟨rfl, hB1.out.trans ((hB2.out.trans (hb3.out.mono hB2.out.size)).mono hB1.out.size)⟩
end Go.Proofs.YtheiogafjinihaaDoor

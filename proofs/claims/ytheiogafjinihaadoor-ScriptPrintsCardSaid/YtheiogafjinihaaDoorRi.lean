/- The document's Right of kind 6, walked: a region that draws its order and stores twice. (Printed by gen_ri.py out of Rg.) -/
import Derived.Test.YtheiogafjinihaaDoorRh
namespace Go.Proofs.YtheiogafjinihaaDoor
open Go Go.RowKit Go.BigFrame Go.Maps

theorem run_put1 {E : Operand → Value} {o : Oper} {P : Program} {W : World} {g i : Nat} {t : TypeId} {cs : Array Value} {ty : TypeId} {u : Value} (hb : Blk W g t cs) (hi : i < cs.size) (hs : (P.info? ty).map (·.size) = some 1) (h1 : u.oneCell' = true) {x y : Operand}
    (ho : o.op = .store ty x y) (hx : E x = .pointer (some ⟨g, i, none⟩)) (hy : E y = u) : (execOp E o).run P W = .ok .skip (W.setCell ⟨g, i, none⟩ u) := by
  unfold execOp
  simp only [ho, hx, hy, Instr.storeAt, Instr.sureAddr, Sem.run_bind, Sem.run_pure, Result.andThen_ok, run_storeVar_cell ty u hb hi hs h1]
theorem eq_crash (n ak an : Int) (p d : List UInt8) : eqS ⟨6, n, p, ak, an, d⟩ ⟨6, n, p, 0, 0, []⟩ = (decide (ak = 0) && decide (an = 0) && decide (d = [])) := by
  rw [eqS_iff]
  simp only [Stp.mk.injEq, true_and, Bool.decide_and, Bool.and_assoc]
set_option maxRecDepth 100000 in
set_option maxHeartbeats 3200000 in
theorem right_crash (n ak an : Int) (p d : List UInt8) (w : World) (hp : p.length ≤ maxLen) :
    Calls Tryd.prog 25 #[.agg #[.int .i64 6, .int .i64 n, .string ⟨p.toArray⟩, .int .i64 ak, .int .i64 an, .string ⟨d.toArray⟩]] w fun e w' => e = .returned (.bool ((decide (ak = 0) && decide (an = 0) && decide (d = [])) && nameB p && amongB n)) ∧ Below w.heap.size w w' := by
  have he := fun W => eql_step ⟨6, n, p, ak, an, d⟩ ⟨6, n, p, 0, 0, []⟩ W
  rw [eq_crash] at he
  obtain ⟨b, hb⟩ : ∃ b, Hid ((decide (ak = 0) && decide (an = 0) && decide (d = [])) = b) := ⟨_, Lib.hid rfl⟩
  rw [hb.out] at he ⊢
  obtain ⟨ab, hab⟩ : ∃ b, Hid (amongB n = b) := ⟨_, Lib.hid rfl⟩
  obtain ⟨nb, hnb⟩ : ∃ b, Hid (nameB p = b) := ⟨_, Lib.hid rfl⟩
  rw [hab.out, hnb.out]
  simp only [Stp.cells] at he
  have hqg := Tryd.eqg49
  obtain ⟨w1, hw1⟩ : ∃ W, Hid (w.alloc (.cells #[.int .i64 6, .int .i64 n, .string ⟨p.toArray⟩, .int .i64 ak, .int .i64 an, .string ⟨d.toArray⟩] 49) = W) := ⟨_, rfl⟩
  have hb1 : Hid (Below w.heap.size w w1) := by rw [← hw1.out]; exact (Below.refl _ w).alloc (Nat.le_refl _) _
  have hx1 : Hid (Blk w1 w.heap.size 49 #[.int .i64 6, .int .i64 n, .string ⟨p.toArray⟩, .int .i64 ak, .int .i64 an, .string ⟨d.toArray⟩]) := by rw [← hw1.out]; exact Lib.hid (Blk.new _ _ _)
  obtain ⟨w2, hw2⟩ : ∃ W, Hid (w1.alloc (.cells #[.int .i64 0, .int .i64 0, .string ⟨#[]⟩, .int .i64 0, .int .i64 0, .string ⟨#[]⟩] 49) = W) := ⟨_, rfl⟩
  have hb2 : Hid (Below w1.heap.size w1 w2) := by rw [← hw2.out]; exact (Below.refl _ w1).alloc (Nat.le_refl _) _
  have hy2 : Hid (Blk w2 w1.heap.size 49 #[.int .i64 0, .int .i64 0, .string ⟨#[]⟩, .int .i64 0, .int .i64 0, .string ⟨#[]⟩]) := by rw [← hw2.out]; exact Lib.hid (Blk.new _ _ _)
  have hx2 := Lib.hid (hx1.out.below hb2.out hx1.out.lt)
  have c0 : w1.cell? ⟨w.heap.size, 0, none⟩ = some (.int .i64 6) := hx1.out.cell 0
  have hne : Hid (w.heap.size ≠ w1.heap.size) := by have := hx1.out.lt; unfold Hid; omega
  go_enter Tryd.func25, Tryd.ntmps25
  go_upto_region 1 with (rw [hw1.out])
  go_upto_region 2 with (first | (rw [hw2.out]) | (refine wpList_put_blk rfl 49 _ _ rfl w1.heap.size _ (#[.int .i64 6, .int .i64 0, .string ⟨#[]⟩, .int .i64 0, .int .i64 0, .string ⟨#[]⟩]) 49 rfl rfl hy2.out rfl (by kernel_rfl) (by simp [Value.oneCell']) ?_; intro w3 hy3 hu3; have hY3 := Lib.hid hy3; have hX3 := Lib.hid (hx2.out.but hu3 hne.out); have hU3 := Lib.hid hu3; clear hy3 hu3))
  have hk3 := hX3.out.cell 0
  simp only [List.getElem?_toArray, List.getElem?_cons_zero] at hk3
  have a3 : w3.cell? ⟨w.heap.size, 1, none⟩ = some (.int .i64 n) := hX3.out.cell 1
  have b3 : w3.cell? ⟨w.heap.size, 2, none⟩ = some (.string ⟨p.toArray⟩) := hX3.out.cell 2
  have f1 : w3.cell? ⟨w1.heap.size, 1, none⟩ = some (.int .i64 0) := hY3.out.cell 1
  have f2 : w3.cell? ⟨w1.heap.size, 2, none⟩ = some (.string ⟨#[]⟩) := hY3.out.cell 2
  have z1 : w3.frozen? ⟨w1.heap.size, 1, none⟩ = false := hY3.out.frozen 1
  have z2 : w3.frozen? ⟨w1.heap.size, 2, none⟩ = false := hY3.out.frozen 2
  have hne' : w.heap.size ≠ w1.heap.size := hne.out
  have hne2 : w1.heap.size ≠ w.heap.size := hne.out.symm
  go_upto_region 18 with fail
  go_region
  obtain ⟨w4, hw4⟩ : ∃ W, Hid (((w3.setCell ⟨w1.heap.size, 2, none⟩ (.string ⟨p.toArray⟩)).setCell ⟨w1.heap.size, 1, none⟩ (.int .i64 n)).drew = W) := ⟨_, rfl⟩
  rw [hw4.out]
  have hY4 : Hid (Blk w4 w1.heap.size 49 (#[.int .i64 6, .int .i64 n, .string ⟨p.toArray⟩, .int .i64 0, .int .i64 0, .string ⟨#[]⟩])) := by rw [← hw4.out]; exact Lib.hid ((hY3.out.set_ 2 _).set_ 1 _).drew
  have hX4 : Hid (Blk w4 w.heap.size 49 (#[.int .i64 6, .int .i64 n, .string ⟨p.toArray⟩, .int .i64 ak, .int .i64 an, .string ⟨d.toArray⟩])) := by rw [← hw4.out]; exact Lib.hid ((hX3.out.far (p := ⟨w1.heap.size, 2, none⟩) hne.out _).far (p := ⟨w1.heap.size, 1, none⟩) hne.out _).drew
  have hle : w.heap.size ≤ w1.heap.size := hb1.out.size
  have hb3 : Below w.heap.size w w3 := hU3.out.to_below (hb1.out.trans (hb2.out.mono hb1.out.size)) hle (by have := hb2.out.size; omega)
  have hbel : Hid (Below w.heap.size w w4) := by rw [← hw4.out]; exact Lib.hid (((hb3.setCell (p := ⟨w1.heap.size, 2, none⟩) hle _).setCell (p := ⟨w1.heap.size, 1, none⟩) hle _).drew)
  have a4 : w4.cell? ⟨w.heap.size, 1, none⟩ = some (.int .i64 n) := hX4.out.cell 1
  have b4 : w4.cell? ⟨w.heap.size, 2, none⟩ = some (.string ⟨p.toArray⟩) := hX4.out.cell 2
  clear a3 b3 f1 f2 z1 z2 hb3 hw4
  cases b <;> cases nb
  all_goals
    go_wp2_with (first | (refine wpList_get_blk rfl 49 _ rfl w.heap.size (#[.int .i64 6, .int .i64 n, .string ⟨p.toArray⟩, .int .i64 ak, .int .i64 an, .string ⟨d.toArray⟩]) 49 _ rfl hX4.out Tryd.underlying49 rfl (by kernel_rfl) ?_) | (refine wpList_get_blk rfl 49 _ rfl w1.heap.size (#[.int .i64 6, .int .i64 n, .string ⟨p.toArray⟩, .int .i64 0, .int .i64 0, .string ⟨#[]⟩]) 49 _ rfl hY4.out Tryd.underlying49 rfl (by kernel_rfl) ?_) | (go_at_call 49; refine (rname_any p _ hp).mono ?_; rintro e w' ⟨rfl, rfl⟩; rw [hnb.out]) | (go_at_call 50; refine (rin_any n _).mono ?_; rintro e w' ⟨rfl, rfl⟩; rw [hab.out]))
    go_ret
    exact ⟨by cases ab <;> rfl, hbel.out⟩
end Go.Proofs.YtheiogafjinihaaDoor

/- The document's Right of kind 0, walked: a region that draws its order and stores twice. (Printed by gen_rj.py out of Rg.) -/
import Derived.Test.YtheiogafjinihaaDoorRi
namespace Go.Proofs.YtheiogafjinihaaDoor
open Go Go.RowKit Go.BigFrame Go.Maps

theorem eq_act (n ak an : Int) (p d : List UInt8) : eqS ⟨0, n, p, ak, an, d⟩ ⟨0, 0, p, ak, an, d⟩ = decide (n = 0) := by
  rw [eqS_iff]
  simp only [Stp.mk.injEq, true_and, and_true]
set_option maxRecDepth 100000 in
set_option maxHeartbeats 3200000 in
theorem right_act (n ak an : Int) (p d : List UInt8) (w : World) (hp : p.length ≤ maxLen) (hd : d.length ≤ maxLen) :
    Calls Tryd.prog 25 #[.agg #[.int .i64 0, .int .i64 n, .string ⟨p.toArray⟩, .int .i64 ak, .int .i64 an, .string ⟨d.toArray⟩]] w fun e w' => e = .returned (.bool (decide (n = 0) && nameB p && nameB d && decide (0 ≤ ak) && decide (ak ≤ 11) && amongB an)) ∧ Below w.heap.size w w' := by
  have he := fun W => eql_step ⟨0, n, p, ak, an, d⟩ ⟨0, 0, p, ak, an, d⟩ W
  rw [eq_act] at he
  obtain ⟨b, hb⟩ : ∃ b, Hid (decide (n = 0) = b) := ⟨_, Lib.hid rfl⟩
  rw [hb.out] at he ⊢
  obtain ⟨ab, hab⟩ : ∃ b, Hid (amongB an = b) := ⟨_, Lib.hid rfl⟩
  obtain ⟨nb, hnb⟩ : ∃ b, Hid (nameB p = b) := ⟨_, Lib.hid rfl⟩
  obtain ⟨db, hdb⟩ : ∃ b, Hid (nameB d = b) := ⟨_, Lib.hid rfl⟩
  obtain ⟨g0, hg0⟩ : ∃ b, Hid (decide (0 ≤ ak) = b) := ⟨_, Lib.hid rfl⟩
  obtain ⟨g1, hg1⟩ : ∃ b, Hid (decide (ak ≤ 11) = b) := ⟨_, Lib.hid rfl⟩
  rw [hab.out, hnb.out, hdb.out, hg0.out, hg1.out]
  have hg0' := hg0.out
  have hg1' := hg1.out
  simp only [Stp.cells] at he
  have hqg := Tryd.eqg49
  obtain ⟨w1, hw1⟩ : ∃ W, Hid (w.alloc (.cells #[.int .i64 0, .int .i64 n, .string ⟨p.toArray⟩, .int .i64 ak, .int .i64 an, .string ⟨d.toArray⟩] 49) = W) := ⟨_, rfl⟩
  have hb1 : Hid (Below w.heap.size w w1) := by rw [← hw1.out]; exact (Below.refl _ w).alloc (Nat.le_refl _) _
  have hx1 : Hid (Blk w1 w.heap.size 49 #[.int .i64 0, .int .i64 n, .string ⟨p.toArray⟩, .int .i64 ak, .int .i64 an, .string ⟨d.toArray⟩]) := by rw [← hw1.out]; exact Lib.hid (Blk.new _ _ _)
  obtain ⟨w2, hw2⟩ : ∃ W, Hid (w1.alloc (.cells #[.int .i64 0, .int .i64 0, .string ⟨#[]⟩, .int .i64 0, .int .i64 0, .string ⟨#[]⟩] 49) = W) := ⟨_, rfl⟩
  have hb2 : Hid (Below w1.heap.size w1 w2) := by rw [← hw2.out]; exact (Below.refl _ w1).alloc (Nat.le_refl _) _
  have hy2 : Hid (Blk w2 w1.heap.size 49 #[.int .i64 0, .int .i64 0, .string ⟨#[]⟩, .int .i64 0, .int .i64 0, .string ⟨#[]⟩]) := by rw [← hw2.out]; exact Lib.hid (Blk.new _ _ _)
  have hx2 := Lib.hid (hx1.out.below hb2.out hx1.out.lt)
  have c0 : w1.cell? ⟨w.heap.size, 0, none⟩ = some (.int .i64 0) := hx1.out.cell 0
  have hne : Hid (w.heap.size ≠ w1.heap.size) := by have := hx1.out.lt; unfold Hid; omega
  go_enter Tryd.func25, Tryd.ntmps25
  go_upto_region 1 with (rw [hw1.out])
  go_upto_region 2 with (first | (rw [hw2.out]) | (refine wpList_put_blk rfl 49 _ _ rfl w1.heap.size _ (#[.int .i64 0, .int .i64 0, .string ⟨#[]⟩, .int .i64 0, .int .i64 0, .string ⟨#[]⟩]) 49 rfl rfl hy2.out rfl (by kernel_rfl) (by simp [Value.oneCell']) ?_; intro w3 hy3 hu3; have hY3 := Lib.hid hy3; have hX3 := Lib.hid (hx2.out.but hu3 hne.out); have hU3 := Lib.hid hu3; clear hy3 hu3))
  have hk3 := hX3.out.cell 0
  simp only [List.getElem?_toArray, List.getElem?_cons_zero] at hk3
  have hne' : w.heap.size ≠ w1.heap.size := hne.out
  have hne2 : w1.heap.size ≠ w.heap.size := hne.out.symm
  have a2 : w3.cell? ⟨w.heap.size, 2, none⟩ = some (.string ⟨p.toArray⟩) := hX3.out.cell 2
  have a3 : w3.cell? ⟨w.heap.size, 3, none⟩ = some (.int .i64 ak) := hX3.out.cell 3
  have a4 : w3.cell? ⟨w.heap.size, 4, none⟩ = some (.int .i64 an) := hX3.out.cell 4
  have a5 : w3.cell? ⟨w.heap.size, 5, none⟩ = some (.string ⟨d.toArray⟩) := hX3.out.cell 5
  have f2 : w3.cell? ⟨w1.heap.size, 2, none⟩ = some (.string ⟨#[]⟩) := hY3.out.cell 2
  have z2 : w3.frozen? ⟨w1.heap.size, 2, none⟩ = false := hY3.out.frozen 2
  have f3 : w3.cell? ⟨w1.heap.size, 3, none⟩ = some (.int .i64 0) := hY3.out.cell 3
  have z3 : w3.frozen? ⟨w1.heap.size, 3, none⟩ = false := hY3.out.frozen 3
  have f4 : w3.cell? ⟨w1.heap.size, 4, none⟩ = some (.int .i64 0) := hY3.out.cell 4
  have z4 : w3.frozen? ⟨w1.heap.size, 4, none⟩ = false := hY3.out.frozen 4
  have f5 : w3.cell? ⟨w1.heap.size, 5, none⟩ = some (.string ⟨#[]⟩) := hY3.out.cell 5
  have z5 : w3.frozen? ⟨w1.heap.size, 5, none⟩ = false := hY3.out.frozen 5
  go_upto_region 4 with fail
  go_region
  obtain ⟨w4, hw4⟩ : ∃ W, Hid (((((w3.setCell ⟨w1.heap.size, 2, none⟩ (.string ⟨p.toArray⟩)).setCell ⟨w1.heap.size, 3, none⟩ (.int .i64 ak)).setCell ⟨w1.heap.size, 4, none⟩ (.int .i64 an)).setCell ⟨w1.heap.size, 5, none⟩ (.string ⟨d.toArray⟩)).drew = W) := ⟨_, rfl⟩
  rw [hw4.out]
  have hY4 : Hid (Blk w4 w1.heap.size 49 (#[.int .i64 0, .int .i64 0, .string ⟨p.toArray⟩, .int .i64 ak, .int .i64 an, .string ⟨d.toArray⟩])) := by rw [← hw4.out]; exact Lib.hid ((((hY3.out.set_ 2 _).set_ 3 _).set_ 4 _).set_ 5 _).drew
  have hX4 : Hid (Blk w4 w.heap.size 49 (#[.int .i64 0, .int .i64 n, .string ⟨p.toArray⟩, .int .i64 ak, .int .i64 an, .string ⟨d.toArray⟩])) := by rw [← hw4.out]; exact Lib.hid ((((hX3.out.far (p := ⟨w1.heap.size, 2, none⟩) hne.out _).far (p := ⟨w1.heap.size, 3, none⟩) hne.out _).far (p := ⟨w1.heap.size, 4, none⟩) hne.out _).far (p := ⟨w1.heap.size, 5, none⟩) hne.out _).drew
  have hle : w.heap.size ≤ w1.heap.size := hb1.out.size
  have hb3 : Below w.heap.size w w3 := hU3.out.to_below (hb1.out.trans (hb2.out.mono hb1.out.size)) hle (by have := hb2.out.size; omega)
  have hbel : Hid (Below w.heap.size w w4) := by rw [← hw4.out]; exact Lib.hid (((((hb3.setCell (p := ⟨w1.heap.size, 2, none⟩) hle _).setCell (p := ⟨w1.heap.size, 3, none⟩) hle _).setCell (p := ⟨w1.heap.size, 4, none⟩) hle _).setCell (p := ⟨w1.heap.size, 5, none⟩) hle _).drew)
  clear a2 a3 a4 a5 f2 f3 f4 f5 z2 z3 z4 z5 hb3 hw4
  have v2 : w4.cell? ⟨w.heap.size, 2, none⟩ = some (.string ⟨p.toArray⟩) := hX4.out.cell 2
  have v3 : w4.cell? ⟨w.heap.size, 3, none⟩ = some (.int .i64 ak) := hX4.out.cell 3
  have v4 : w4.cell? ⟨w.heap.size, 4, none⟩ = some (.int .i64 an) := hX4.out.cell 4
  have v5 : w4.cell? ⟨w.heap.size, 5, none⟩ = some (.string ⟨d.toArray⟩) := hX4.out.cell 5
  cases b <;> cases nb <;> cases db <;> cases g0 <;> cases g1
  all_goals
    go_wp2_with (first | (refine wpList_get_blk rfl 49 _ rfl w.heap.size (#[.int .i64 0, .int .i64 n, .string ⟨p.toArray⟩, .int .i64 ak, .int .i64 an, .string ⟨d.toArray⟩]) 49 _ rfl hX4.out Tryd.underlying49 rfl (by kernel_rfl) ?_) | (refine wpList_get_blk rfl 49 _ rfl w1.heap.size (#[.int .i64 0, .int .i64 0, .string ⟨p.toArray⟩, .int .i64 ak, .int .i64 an, .string ⟨d.toArray⟩]) 49 _ rfl hY4.out Tryd.underlying49 rfl (by kernel_rfl) ?_) | (go_at_call 49; first | ((with_reducible refine (rname_any p _ hp).mono ?_); rintro e w' ⟨rfl, rfl⟩; rw [hnb.out]) | ((with_reducible refine (rname_any d _ hd).mono ?_); rintro e w' ⟨rfl, rfl⟩; rw [hdb.out])) | (go_at_call 50; refine (rin_any an _).mono ?_; rintro e w' ⟨rfl, rfl⟩; rw [hab.out]))
    go_ret
    exact ⟨by cases ab <;> rfl, hbel.out⟩
end Go.Proofs.YtheiogafjinihaaDoor

/- The checks ahead of a value: two closures, the first that holds. -/
import Derived.Test.YtnmnknkdnjkpjaaGreatDoorVd
namespace Go.Proofs.YtnmnknkdnjkpjaaGreatDoor
open Go Go.RowKit Go.BigFrame Go.Maps

theorem goods_from : ∀ (l : List Ln) (S : List UInt8 → Option Value) (T : List Ln), (∀ s v, S s = some v → ∃ x ∈ T, v = lnV x) → ∀ s v, l.foldl (fun S x => putS S x.good.data.toList (lnV x)) S s = some v → ∃ x ∈ T ++ l, v = lnV x
  | [], S, T, h, s, v, hv => by
    obtain ⟨x, hx, e⟩ := h s v hv
    exact ⟨x, by simpa using hx, e⟩
  | y :: r, S, T, h, s, v, hv => by
    rw [List.foldl_cons] at hv
    obtain ⟨x, hx, e⟩ := goods_from r _ (T ++ [y]) (fun s v h' => by
      unfold putS at h'
      split at h'
      · simp only [Option.some.injEq] at h'
        exact ⟨y, by simp, h'.symm⟩
      · obtain ⟨x, hx, e⟩ := h s v h'
        exact ⟨x, by simp [hx], e⟩) s v hv
    exact ⟨x, by simpa using hx, e⟩
theorem goodS_val {l : List Ln} {s : List UInt8} {v : Value} (h : goodS l s = some v) : ∃ x ∈ l, v = lnV x := by
  have := goods_from l (fun _ => none) [] (fun s v h => by cases h) s v h
  simpa using this
theorem goodS_at (l : List Ln) (s : List UInt8) : ∃ x, (goodS l s).getD lnZ = lnV x ∧ ((∀ y ∈ l, y.good.size ≤ 60 ∧ i64 y.count ∧ i64 y.price) → i64 x.count ∧ i64 x.price) := by
  cases h : goodS l s with
  | none => exact ⟨⟨⟨#[]⟩, 0, 0⟩, rfl, fun _ => ⟨by unfold i64; decide, by unfold i64; decide⟩⟩
  | some v =>
    obtain ⟨x, hx, e⟩ := goodS_val h
    exact ⟨x, e, fun hl => (hl x hx).2⟩
def lackB (ls : List Ln) (x : Lt) : Bool := !(goodS ls x.good.data.toList).isSome

set_option maxRecDepth 100000 in
theorem has1_any (o : Od) (c : Cn) (g b : Nat) (w : World) (ho : Hid (o.ok w)) (hc : Hid (c.ok w)) (hg : Hid (Blk w g 56 o.cells)) (hb : Hid (Blk w b 59 c.cells)) :
    Calls Tryz.prog 80 #[.slice (some ⟨b, 0, none⟩) 1 1, .func (.func 81) #[] #[pO g]] w fun e w' => e = .returned (.bool (!ofB o c)) ∧ Below w.heap.size w w' := by
  obtain ⟨fb, hfb⟩ : ∃ x, Hid (ofB o c = x) := ⟨_, rfl⟩
  have hcall := Lib.hid (idxC_any o c g b w ho hc hg hb)
  rw [hfb.out] at hcall
  rw [hfb.out]
  go_enter Tryz.func80, Tryz.ntmps80
  go_wp2_with fail
  refine hcall.out.mono ?_
  rintro e w1 ⟨rfl, hb1⟩
  cases fb with
  | true =>
    go_wp2_with fail
    go_ret
    exact ⟨rfl, hb1⟩
  | false =>
    go_wp2_with fail
    go_ret
    exact ⟨rfl, hb1⟩

set_option maxRecDepth 100000 in
theorem checks1_any (o : Od) (c : Cn) (g b l : Nat) (w : World) (ho : Hid (o.ok w)) (hc : Hid (c.ok w)) (hg : Hid (Blk w g 56 o.cells)) (hb : Hid (Blk w b 59 c.cells)) (hl : Hid (Blk w l 119 #[.slice (some ⟨b, 0, none⟩) 1 1])) :
    Calls Tryz.prog 78 #[pO g, pO l] w fun e w' => e = .returned (.bool (!mayO o || !ofB o c)) ∧ Below w.heap.size w w' := by
  obtain ⟨fb, hfb⟩ : ∃ x, Hid (ofB o c = x) := ⟨_, rfl⟩
  obtain ⟨mb, hmb⟩ : ∃ x, Hid (mayO o = x) := ⟨_, rfl⟩
  have hcall := Lib.hid (mayO_any o w ho)
  have hmore : Hid (∀ w1, Below w.heap.size w w1 → Calls Tryz.prog 80 #[.slice (some ⟨b, 0, none⟩) 1 1, .func (.func 81) #[] #[pO g]] w1 fun e w' => e = .returned (.bool (!ofB o c)) ∧ Below w1.heap.size w1 w') :=
    fun w1 hB => has1_any o c g b w1 (Lib.hid (ho.out.below hB)) (Lib.hid (hc.out.below hB)) (Lib.hid (hg.out.below hB hg.out.lt)) (Lib.hid (hb.out.below hB hb.out.lt))
  obtain ⟨D, hD⟩ : ∃ X, Hid (o.cells = X) := ⟨_, rfl⟩
  have hDs : Hid (D.size = 8) := by rw [← hD.out]; exact Lib.hid rfl
  rw [hmb.out] at hcall
  rw [hfb.out] at hmore
  rw [hD.out] at hcall hg
  rw [hfb.out, hmb.out]
  go_enter Tryz.func78, Tryz.ntmps78
  go_wp2_with (refine wpList_get_blk rfl 56 _ rfl g D 56 _ rfl hg.out Tryz.underlying56 rfl (by rw [hDs.out]; kernel_rfl) ?_)
  refine hcall.out.mono ?_
  rintro e w1 ⟨rfl, hb1⟩
  have cl : w1.cell? ⟨l, 0, none⟩ = some (.slice (some ⟨b, 0, none⟩) 1 1) := (hl.out.below hb1 hl.out.lt).cell 0
  have hll : l < w1.heap.size := (hl.out.below hb1 hl.out.lt).lt
  cases mb with
  | false =>
    go_wp2_with fail
    go_ret
    exact ⟨rfl, hb1⟩
  | true =>
    go_wp2_with fail
    refine (hmore.out w1 hb1).mono ?_
    rintro e w2 ⟨rfl, hb2⟩
    go_wp2_with fail
    go_ret
    exact ⟨rfl, hb1.trans (hb2.mono hb1.size)⟩

set_option maxRecDepth 100000 in
theorem lot86_any (x : Lt) (ls : List Ln) (m n p : Nat) (w : World) (hM : Hid (MapS w Tryz.prog 9 m n lnZ (goodS ls))) (hp : Hid (Blk w p 120 #[.map (some m)])) (hx : Hid (x.good.size ≤ 60)) :
    Calls Tryz.prog 86 #[.agg #[.string x.good, .int .i64 x.count], pO p] w fun e w' => e = .returned (.bool (lackB ls x)) ∧ Below w.heap.size w w' := by
  unfold lackB
  obtain ⟨gd, ct⟩ := x
  simp only at hx ⊢
  obtain ⟨w0, hw0⟩ : ∃ W, Hid (w.alloc (.cells #[.string gd, .int .i64 ct] 63) = W) := ⟨_, rfl⟩
  have hb0 : Hid (Below w.heap.size w w0) := by rw [← hw0.out]; exact (Below.refl _ w).alloc (Nat.le_refl _) _
  have hk0 : Hid (Blk w0 w.heap.size 63 #[.string gd, .int .i64 ct]) := by rw [← hw0.out]; exact Lib.hid (Blk.new _ _ _)
  have hM0 := Lib.hid (hM.out.below hb0.out)
  have hp0 := Lib.hid (hp.out.below hb0.out hp.out.lt)
  have cp : w0.cell? ⟨p, 0, none⟩ = some (.map (some m)) := hp0.out.cell 0
  have c0 : w0.cell? ⟨w.heap.size, 0, none⟩ = some (.string gd) := hk0.out.cell 0
  have hlp : p < w0.heap.size := hp0.out.lt
  have hlw : w.heap.size < w0.heap.size := hk0.out.lt
  have hlk := hM0.out.look_ok (t := 120) (e := 61) Tryz.underlying9 Tryz.underlying120 (by kernel_rfl) (s := gd) (by have := hx.out; unfold maxLen; omega)
  obtain ⟨⟨g2, n2, p2⟩, hy, _⟩ := goodS_at ls gd.data.toList
  obtain ⟨hb, hhb⟩ : ∃ x, Hid ((goodS ls gd.data.toList).isSome = x) := ⟨_, rfl⟩
  rw [hy, hhb.out] at hlk
  rw [hhb.out]
  clear hy
  go_enter Tryz.func86, Tryz.ntmps86
  go_wp2_with (rw [hw0.out])
  go_ret
  exact ⟨rfl, hb0.out.alloc hb0.out.size _⟩
end Go.Proofs.YtnmnknkdnjkpjaaGreatDoor

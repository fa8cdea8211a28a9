/- A deal out of an order and a consignment. -/
import Derived.Test.YtnmnknkdnjkpjaaGreatDoorVi
import Derived.Laws.ResultCell
import Derived.Deep.RegionHeld3
namespace Go.Proofs.YtnmnknkdnjkpjaaGreatDoor
open Go Go.RowKit Go.BigFrame Go.Maps

section
variable {P : Program} {ops : Array Oper} {o : Oper} {rest : List Oper} {a : Act} {W : World} {Q : Exit → Act → World → Prop} {K : Act → World → Prop} {E : Prop}
theorem run_storeVar_cell {g i : Nat} {t : TypeId} {cs : Array Value} (ty : TypeId) (u : Value) (hb : Blk W g t cs) (hi : i < cs.size) (hs : (P.info? ty).map (·.size) = some 1) (h1 : u.oneCell' = true) :
    (storeVar ty ⟨g, i, none⟩ u).run P W = .ok () (W.setCell ⟨g, i, none⟩ u) := by
  have hc : u.cells = #[u] := by cases u <;> first | rfl | cases h1
  have := run_storeCells_cells (P := P) g i [u] 0 W (fun j hj => by have : j = 0 := by simpa using hj
                                                                    subst this; simp [hb.cell, hi]) (fun j hj => hb.frozen _) (fun v hv => by simp at hv; subst hv; exact h1)
  cases hq : P.info? ty with
  | none => simp [hq] at hs
  | some z =>
    have hz : z.size = 1 := by simpa [hq] using hs
    simp only [Nat.add_zero] at this
    simp [storeVar, sizeOf, typeInfo, hq, hc, hz, this]
    rfl
theorem wp_put1 (ty : TypeId) (x y : Operand) (ho : o.op = .store ty x y) (g i : Nat) (cs cs' : Array Value) (t : TypeId) (u : Value) (hx : a.eval x = .pointer (some ⟨g, i, none⟩)) (hy : a.eval y = u)
    (hb : Blk W g t cs) (hi : i < cs.size) (hc : cs.setIfInBounds i u = cs') (hs : (P.info? ty).map (·.size) = some 1) (h1 : u.oneCell' = true)
    (h : ∀ W', W' = W.setCell ⟨g, i, none⟩ u → Blk W' g t cs' → Below g W W' → K (a.put o.dst undef) W') : o.wp P a W K Q := by
  unfold Oper.wp execOp
  simp only [ho, hx, hy, Instr.storeAt, Instr.sureAddr, Sem.run_bind, Sem.run_pure, Result.andThen_ok, run_storeVar_cell ty u hb hi hs h1]
  exact h _ rfl (hc ▸ hb.set_ i u) (Below.setCell (p := ⟨g, i, none⟩) (Below.refl g W) (Nat.le_refl g) u)
theorem wpList_put1 (hgd : o.guard = none) (ty : TypeId) (x y : Operand) (ho : o.op = .store ty x y) (g i : Nat) (cs cs' : Array Value) (t : TypeId) (u : Value) (hx : a.eval x = .pointer (some ⟨g, i, none⟩)) (hy : a.eval y = u)
    (hb : Blk W g t cs) (hi : i < cs.size) (hc : cs.setIfInBounds i u = cs') (hs : (P.info? ty).map (·.size) = some 1) (h1 : u.oneCell' = true)
    (h : ∀ W', W' = W.setCell ⟨g, i, none⟩ u → Blk W' g t cs' → Below g W W' → wpList P ops Q rest (a.put o.dst undef) W') : wpList P ops Q (o :: rest) a W :=
  wpList_plain hgd fun _ hK => wp_put1 ty x y ho g i cs cs' t u hx hy hb hi hc hs h1 fun W' h0 h2 h3 => hK _ _ (h W' h0 h2 h3)
theorem wpList_put2 (hgd : o.guard = none) (ty : TypeId) (x y : Operand) (ho : o.op = .store ty x y) (g i : Nat) (cs cs' : Array Value) (t : TypeId) (u v : Value) (hx : a.eval x = .pointer (some ⟨g, i, none⟩)) (hy : a.eval y = .agg #[u, v])
    (hb : Blk W g t cs) (hi : i + 1 < cs.size) (hc : (cs.setIfInBounds i u).setIfInBounds (i + 1) v = cs') (hs : (P.info? ty).map (·.size) = some 2) (h1 : u.oneCell' = true) (h2 : v.oneCell' = true)
    (h : ∀ W', W' = (W.setCell ⟨g, i, none⟩ u).setCell ⟨g, i + 1, none⟩ v → Blk W' g t cs' → Below g W W' → wpList P ops Q rest (a.put o.dst undef) W') : wpList P ops Q (o :: rest) a W := by
  refine wpList_store_mid hgd ty x y ho g i #[u, v] hx hy (fun j hj => ?_) hs (by simp [h1, h2]) (h _ rfl ?_ ?_)
  · have hj' : i + j < cs.size := by simp at hj; omega
    exact ⟨by rw [hb.cell]; simp [hj'], hb.frozen _⟩
  · exact hc ▸ (hb.set_ i u).set_ (i + 1) v
  · exact Below.setCell (p := ⟨g, i + 1, none⟩) (Below.setCell (p := ⟨g, i, none⟩) (Below.refl g W) (Nat.le_refl g) u) (Nat.le_refl g) v
end
theorem run_put1 {E : Operand → Value} {o : Oper} {P : Program} {W : World} {g i : Nat} {t : TypeId} {cs : Array Value} {ty : TypeId} {u : Value} (hb : Blk W g t cs) (hi : i < cs.size) (hs : (P.info? ty).map (·.size) = some 1) (h1 : u.oneCell' = true) {x y : Operand}
    (ho : o.op = .store ty x y) (hx : E x = .pointer (some ⟨g, i, none⟩)) (hy : E y = u) : (execOp E o).run P W = .ok .skip (W.setCell ⟨g, i, none⟩ u) := by
  unfold execOp
  simp only [ho, hx, hy, Instr.storeAt, Instr.sureAddr, Sem.run_bind, Sem.run_pure, Result.andThen_ok, run_storeVar_cell ty u hb hi hs h1]
theorem results_row2 {P : Program} {fn : Func} {p u : Tmp} {ty : TypeId} (h : fn.results = #[.cell p ty, .tmp u]) (tmps : Array Value) (w : World) (g : Nat) (t : TypeId) (cs : Array Value) (d : TypeDesc)
    (hp : tmps.getD p undef = .pointer (some ⟨g, 0, none⟩)) (hg : Blk w g t cs)
    (hu : P.underlying ty = some d) (hd : (match d with | .struct _ | .array _ _ => true | _ => false) = true) (hi : (P.info? ty).map (·.size) = some cs.size) :
    (results fn tmps).run P w = .ok (.tuple #[.agg cs, tmps.getD u undef]) w := by
  rw [results_cell_tmp h, hp]
  simp [asAddr, Result.andThen, run_loadVar_row w g t ty cs (0, 0) d hg hu hd hi]
abbrev zeroD : Array Value := #[.string ⟨#[]⟩, .string ⟨#[]⟩, .string ⟨#[]⟩, .string ⟨#[]⟩, .string ⟨#[]⟩, .string ⟨#[]⟩, .string ⟨#[]⟩, .string ⟨#[]⟩, .string ⟨#[]⟩, .string ⟨#[]⟩, .int .i64 0, .slice none 0 0, .int .i64 0, .int .i64 0, .int .i64 0, .int .i64 0, .int .i64 0]
/-- What a deal becomes. -/
def outD (o : Od) (c : Cn) (d : Dl) (v : Int) (A' : Option Addr) (c' : Nat) : Array Value := #[.string d.number, .string o.seller, .string o.buyer, .string d.carrier, .string d.issuer, .string d.house, .string d.insurer, .string o.frm, .string o.toP, .string o.currency, .int .i64 v, .slice A' d.boxes.length c', .int .i64 o.term, .int .i64 c.latest, .int .i64 d.expiry, .int .i64 d.tenor, .int .i64 d.duty]

set_option maxRecDepth 100000 in
set_option maxHeartbeats 3200000 in
theorem deal_any (o : Od) (c : Cn) (d : Dl) (w : World) (ho : Hid (o.ok w)) (hc : Hid (c.ok w)) (hd : Hid (d.ok w)) :
    Calls Tryz.prog 29 #[.agg o.cells, .agg c.cells, .agg d.cells] w fun e w' => (((valV o c).2 ≠ 0 ∧ e = .returned (.tuple #[.agg zeroD, .int .i64 (valV o c).2])) ∨ ((valV o c).2 = 0 ∧ ∃ A' c', e = .returned (.tuple #[.agg (outD o c d (valV o c).1 A' c'), .int .i64 0]))) ∧ Below w.heap.size w w' := by
  obtain ⟨D, hD⟩ : ∃ X, Hid (o.cells = X) := ⟨_, rfl⟩
  have hDs : Hid (D.size = 8) := by rw [← hD.out]; exact Lib.hid rfl
  obtain ⟨V, hV⟩ : ∃ X, Hid (c.cells = X) := ⟨_, rfl⟩
  have hVs : Hid (V.size = 4) := by rw [← hV.out]; exact Lib.hid rfl
  obtain ⟨v1, hv1⟩ : ∃ x, Hid ((valV o c).1 = x) := ⟨_, rfl⟩
  obtain ⟨v2, hv2⟩ : ∃ x, Hid ((valV o c).2 = x) := ⟨_, rfl⟩
  obtain ⟨n, hn⟩ : ∃ x, Hid (d.boxes.length = x) := ⟨_, rfl⟩
  obtain ⟨L, hL⟩ : ∃ X, Hid (d.cells = X) := ⟨_, rfl⟩
  obtain ⟨w0, hw0⟩ : ∃ W, Hid (w.alloc (.cells D 56) = W) := ⟨_, rfl⟩
  have hb0 : Hid (Below w.heap.size w w0) := by rw [← hw0.out]; exact (Below.refl _ w).alloc (Nat.le_refl _) _
  have hk0 : Hid (Blk w0 w.heap.size 56 D) := by rw [← hw0.out]; exact Lib.hid (Blk.new _ _ _)
  obtain ⟨w1, hw1⟩ : ∃ W, Hid (w0.alloc (.cells V 59) = W) := ⟨_, rfl⟩
  have hb01 : Hid (Below w0.heap.size w0 w1) := by rw [← hw1.out]; exact (Below.refl _ w0).alloc (Nat.le_refl _) _
  have hk1 := Lib.hid (hk0.out.below hb01.out hk0.out.lt)
  have hm1 : Hid (Blk w1 w0.heap.size 59 V) := by rw [← hw1.out]; exact Lib.hid (Blk.new _ _ _)
  obtain ⟨w2, hw2⟩ : ∃ W, Hid (w1.alloc (.cells L 26) = W) := ⟨_, rfl⟩
  have hb12 : Hid (Below w1.heap.size w1 w2) := by rw [← hw2.out]; exact (Below.refl _ w1).alloc (Nat.le_refl _) _
  have hk2 := Lib.hid (hk1.out.below hb12.out hk1.out.lt)
  have hm2 := Lib.hid (hm1.out.below hb12.out hm1.out.lt)
  have hl2 : Hid (Blk w2 w1.heap.size 26 L) := by rw [← hw2.out]; exact Lib.hid (Blk.new _ _ _)
  obtain ⟨w3, hw3⟩ : ∃ W, Hid (w2.alloc (.cells zeroD 26) = W) := ⟨_, rfl⟩
  have hb23 : Hid (Below w2.heap.size w2 w3) := by rw [← hw3.out]; exact (Below.refl _ w2).alloc (Nat.le_refl _) _
  have hk3 := Lib.hid (hk2.out.below hb23.out hk2.out.lt)
  have hm3 := Lib.hid (hm2.out.below hb23.out hm2.out.lt)
  have hl3 := Lib.hid (hl2.out.below hb23.out hl2.out.lt)
  have hr3 : Hid (Blk w3 w2.heap.size 26 zeroD) := by rw [← hw3.out]; exact Lib.hid (Blk.new _ _ _)
  have hb1 : Hid (Below w.heap.size w w1) := hb0.out.trans (hb01.out.mono hb0.out.size)
  have hb2 : Hid (Below w.heap.size w w2) := hb1.out.trans (hb12.out.mono hb1.out.size)
  have hb3 : Hid (Below w.heap.size w w3) := hb2.out.trans (hb23.out.mono hb2.out.size)
  have hcall := Lib.hid (value_any o c w3 (Lib.hid (ho.out.below hb3.out)) (Lib.hid (hc.out.below hb3.out)))
  have hx1 : Hid (w.heap.size < w0.heap.size) := hk0.out.lt
  have hx2 : Hid (w0.heap.size < w1.heap.size) := hm1.out.lt
  have hx3 : Hid (w1.heap.size < w2.heap.size) := hl2.out.lt
  have hx4 : Hid (w2.heap.size < w3.heap.size) := hr3.out.lt
  rw [hD.out, hV.out, hv1.out, hv2.out] at hcall
  rw [hD.out, hV.out, hL.out, hv1.out, hv2.out]
  go_enter Tryz.func29, Tryz.ntmps29
  go_wp2_with (first | (refine wpList_get_blk rfl 56 _ rfl w.heap.size D 56 _ rfl hk3.out Tryz.underlying56 rfl (by rw [hDs.out]; kernel_rfl) ?_) | (refine wpList_get_blk rfl 59 _ rfl w0.heap.size V 59 _ rfl hm3.out Tryz.underlying59 rfl (by rw [hVs.out]; kernel_rfl) ?_) | rw [hw0.out] | rw [hw1.out] | rw [hw2.out] | rw [hw3.out])
  refine hcall.out.mono ?_
  rintro e w4 ⟨rfl, hb4⟩
  have hB4 : Hid (Below w.heap.size w w4) := hb3.out.trans (hb4.mono hb3.out.size)
  have hk4 := Lib.hid (hk3.out.below hb4 hk3.out.lt)
  have hm4 := Lib.hid (hm3.out.below hb4 hm3.out.lt)
  have hl4 := Lib.hid (hl3.out.below hb4 hl3.out.lt)
  have hr4 := Lib.hid (hr3.out.below hb4 hr3.out.lt)
  clear hb4
  by_cases h0 : v2 = 0
  · subst h0
    obtain ⟨se, hse⟩ : ∃ x, Hid (o.seller = x) := ⟨_, rfl⟩
    obtain ⟨bu, hbu⟩ : ∃ x, Hid (o.buyer = x) := ⟨_, rfl⟩
    obtain ⟨cu, hcu⟩ : ∃ x, Hid (o.currency = x) := ⟨_, rfl⟩
    obtain ⟨fr, hfr⟩ : ∃ x, Hid (o.frm = x) := ⟨_, rfl⟩
    obtain ⟨tp, htp⟩ : ∃ x, Hid (o.toP = x) := ⟨_, rfl⟩
    obtain ⟨tm, htm⟩ : ∃ x, Hid (o.term = x) := ⟨_, rfl⟩
    obtain ⟨lt, hlt⟩ : ∃ x, Hid (c.latest = x) := ⟨_, rfl⟩
    have hD1 : Hid (D[1]? = some (.string se)) := by rw [← hD.out, ← hse.out]; exact Lib.hid rfl
    have hD2 : Hid (D[2]? = some (.string bu)) := by rw [← hD.out, ← hbu.out]; exact Lib.hid rfl
    have hD3 : Hid (D[3]? = some (.string cu)) := by rw [← hD.out, ← hcu.out]; exact Lib.hid rfl
    have hD4 : Hid (D[4]? = some (.string fr)) := by rw [← hD.out, ← hfr.out]; exact Lib.hid rfl
    have hD5 : Hid (D[5]? = some (.string tp)) := by rw [← hD.out, ← htp.out]; exact Lib.hid rfl
    have hD6 : Hid (D[6]? = some (.int .i64 tm)) := by rw [← hD.out, ← htm.out]; exact Lib.hid rfl
    have hV2 : Hid (V[2]? = some (.int .i64 lt)) := by rw [← hV.out, ← hlt.out]; exact Lib.hid rfl
    rw [← hL.out, Dl.cells, hn.out] at hl4
    have hlw : w1.heap.size < w4.heap.size := hl4.out.lt
    go_upto_region 4 with fail
    refine wp_region_noPanic ?_
    refine wp_region_held (S := fun W => Blk W w.heap.size 56 D) (by kernel_rfl) ?_
    have HSV : Blk w4.drew w.heap.size 56 D := hk4.out.drew
    refine wpAnyH_take (i := 0) rfl (by kernel_rfl) (by kernel_rfl) (by kernel_rfl) (fun _ _ _ h => h) (show YieldsIf _ _ _ _ (.pointer (some ⟨w.heap.size, 1, none⟩)) _ from .inl ⟨by rfl, fun W hW => by go_simp⟩) HSV ?_
    go_simp
    refine wpAnyH_take (i := 1) rfl (by kernel_rfl) (by kernel_rfl) (by kernel_rfl) (fun _ _ _ h => h) (show YieldsIf _ _ _ _ (.string se) _ from .inl ⟨by rfl, fun W hW => by have hc : W.cell? ⟨w.heap.size, 1, none⟩ = some (.string se) := (Blk.cell hW 1).trans hD1.out; go_simp⟩) HSV ?_
    go_simp
    refine wpAnyH_take (i := 2) rfl (by kernel_rfl) (by kernel_rfl) (by kernel_rfl) (fun _ _ _ h => h) (show YieldsIf _ _ _ _ (.pointer (some ⟨w.heap.size, 2, none⟩)) _ from .inl ⟨by rfl, fun W hW => by go_simp⟩) HSV ?_
    go_simp
    refine wpAnyH_take (i := 3) rfl (by kernel_rfl) (by kernel_rfl) (by kernel_rfl) (fun _ _ _ h => h) (show YieldsIf _ _ _ _ (.string bu) _ from .inl ⟨by rfl, fun W hW => by have hc : W.cell? ⟨w.heap.size, 2, none⟩ = some (.string bu) := (Blk.cell hW 2).trans hD2.out; go_simp⟩) HSV ?_
    go_simp
    refine wpAnyH_take (i := 4) rfl (by kernel_rfl) (by kernel_rfl) (by kernel_rfl) (fun _ _ _ h => h) (show YieldsIf _ _ _ _ (.pointer (some ⟨w.heap.size, 4, none⟩)) _ from .inl ⟨by rfl, fun W hW => by go_simp⟩) HSV ?_
    go_simp
    refine wpAnyH_take (i := 5) rfl (by kernel_rfl) (by kernel_rfl) (by kernel_rfl) (fun _ _ _ h => h) (show YieldsIf _ _ _ _ (.string fr) _ from .inl ⟨by rfl, fun W hW => by have hc : W.cell? ⟨w.heap.size, 4, none⟩ = some (.string fr) := (Blk.cell hW 4).trans hD4.out; go_simp⟩) HSV ?_
    go_simp
    refine wpAnyH_take (i := 6) rfl (by kernel_rfl) (by kernel_rfl) (by kernel_rfl) (fun _ _ _ h => h) (show YieldsIf _ _ _ _ (.pointer (some ⟨w.heap.size, 5, none⟩)) _ from .inl ⟨by rfl, fun W hW => by go_simp⟩) HSV ?_
    go_simp
    refine wpAnyH_take (i := 7) rfl (by kernel_rfl) (by kernel_rfl) (by kernel_rfl) (fun _ _ _ h => h) (show YieldsIf _ _ _ _ (.string tp) _ from .inl ⟨by rfl, fun W hW => by have hc : W.cell? ⟨w.heap.size, 5, none⟩ = some (.string tp) := (Blk.cell hW 5).trans hD5.out; go_simp⟩) HSV ?_
    go_simp
    refine wpAnyH_take (i := 8) rfl (by kernel_rfl) (by kernel_rfl) (by kernel_rfl) (fun _ _ _ h => h) (show YieldsIf _ _ _ _ (.pointer (some ⟨w.heap.size, 6, none⟩)) _ from .inl ⟨by rfl, fun W hW => by go_simp⟩) HSV ?_
    go_simp
    refine wpAnyH_take (i := 9) rfl (by kernel_rfl) (by kernel_rfl) (by kernel_rfl) (fun _ _ _ h => h) (show YieldsIf _ _ _ _ (.int .i64 tm) _ from .inl ⟨by rfl, fun W hW => by have hc : W.cell? ⟨w.heap.size, 6, none⟩ = some (.int .i64 tm) := (Blk.cell hW 6).trans hD6.out; go_simp⟩) HSV ?_
    go_simp
    refine wpAnyH_take (i := 10) rfl (by kernel_rfl) (by kernel_rfl) (by kernel_rfl) (fun _ _ _ h => h) (show YieldsIf _ _ _ _ (.pointer (some ⟨w1.heap.size, 1, none⟩)) _ from .inl ⟨by rfl, fun W hW => by go_simp⟩) HSV ?_
    go_simp
    obtain ⟨q0, hq0⟩ : ∃ X, Hid (World.setCell w4.drew ⟨w1.heap.size, 1, none⟩ (.string se) = X) := ⟨_, rfl⟩
    have rq0 : ∀ {E : Operand → Value} {o : Oper} {x y : Operand}, o.op = .store 9 x y → E x = .pointer (some ⟨w1.heap.size, 1, none⟩) → E y = .string se → (execOp E o).run Tryz.prog w4.drew = .ok .skip q0 := fun ho hx hy => by rw [← hq0.out]; exact run_put1 hl4.out.drew (by simp) (by kernel_rfl) rfl ho hx hy
    have lq0 : Hid (Blk q0 w1.heap.size 26 #[.string d.number, .string se, .string d.buyer, .string d.carrier, .string d.issuer, .string d.house, .string d.insurer, .string d.frm, .string d.toP, .string d.currency, .int .i64 d.amount, .slice d.A n d.c, .int .i64 d.term, .int .i64 d.latest, .int .i64 d.expiry, .int .i64 d.tenor, .int .i64 d.duty]) := by rw [← hq0.out]; exact Lib.hid (hl4.out.drew.set_ 1 (.string se))
    have Bq0 : Hid (Below w1.heap.size w4 q0) := by rw [← hq0.out]; exact Below.setCell (p := ⟨w1.heap.size, 1, none⟩) ((Below.refl w1.heap.size w4).drew) (Nat.le_refl _) _
    have zq0 : Hid (Blk q0 w2.heap.size 26 zeroD) := by rw [← hq0.out]; exact Lib.hid (hr4.out.drew.far (p := ⟨w1.heap.size, 1, none⟩) (by have := hx3.out; show w2.heap.size ≠ w1.heap.size; omega) _)
    refine wpAnyH_all (rs := [11]) (by kernel_rfl) (by decide) ?_
    intro i hi'
    obtain rfl := List.mem_singleton.1 hi'
    refine held_skip (w' := q0) rfl rfl (rq0 rfl rfl rfl) ?_
    clear HSV rq0 hq0
    have HSV : Blk q0 w.heap.size 56 D := hk4.out.below Bq0.out (by have := hx1.out; have := hx2.out; omega)
    refine ⟨HSV, ?_⟩
    go_simp
    refine wpAnyH_take (i := 12) rfl (by kernel_rfl) (by kernel_rfl) (by kernel_rfl) (fun _ _ _ h => h) (show YieldsIf _ _ _ _ (.pointer (some ⟨w1.heap.size, 2, none⟩)) _ from .inl ⟨by rfl, fun W hW => by go_simp⟩) HSV ?_
    go_simp
    obtain ⟨q1, hq1⟩ : ∃ X, Hid (World.setCell q0 ⟨w1.heap.size, 2, none⟩ (.string bu) = X) := ⟨_, rfl⟩
    have rq1 : ∀ {E : Operand → Value} {o : Oper} {x y : Operand}, o.op = .store 9 x y → E x = .pointer (some ⟨w1.heap.size, 2, none⟩) → E y = .string bu → (execOp E o).run Tryz.prog q0 = .ok .skip q1 := fun ho hx hy => by rw [← hq1.out]; exact run_put1 lq0.out (by simp) (by kernel_rfl) rfl ho hx hy
    have lq1 : Hid (Blk q1 w1.heap.size 26 #[.string d.number, .string se, .string bu, .string d.carrier, .string d.issuer, .string d.house, .string d.insurer, .string d.frm, .string d.toP, .string d.currency, .int .i64 d.amount, .slice d.A n d.c, .int .i64 d.term, .int .i64 d.latest, .int .i64 d.expiry, .int .i64 d.tenor, .int .i64 d.duty]) := by rw [← hq1.out]; exact Lib.hid (lq0.out.set_ 2 (.string bu))
    have Bq1 : Hid (Below w1.heap.size w4 q1) := by rw [← hq1.out]; exact Below.setCell (p := ⟨w1.heap.size, 2, none⟩) (Bq0.out) (Nat.le_refl _) _
    have zq1 : Hid (Blk q1 w2.heap.size 26 zeroD) := by rw [← hq1.out]; exact Lib.hid (zq0.out.far (p := ⟨w1.heap.size, 2, none⟩) (by have := hx3.out; show w2.heap.size ≠ w1.heap.size; omega) _)
    refine wpAnyH_all (rs := [13]) (by kernel_rfl) (by decide) ?_
    intro i hi'
    obtain rfl := List.mem_singleton.1 hi'
    refine held_skip (w' := q1) rfl rfl (rq1 rfl rfl rfl) ?_
    clear HSV rq1 hq1
    have HSV : Blk q1 w.heap.size 56 D := hk4.out.below Bq1.out (by have := hx1.out; have := hx2.out; omega)
    refine ⟨HSV, ?_⟩
    go_simp
    refine wpAnyH_take (i := 14) rfl (by kernel_rfl) (by kernel_rfl) (by kernel_rfl) (fun _ _ _ h => h) (show YieldsIf _ _ _ _ (.pointer (some ⟨w1.heap.size, 7, none⟩)) _ from .inl ⟨by rfl, fun W hW => by go_simp⟩) HSV ?_
    go_simp
    obtain ⟨q2, hq2⟩ : ∃ X, Hid (World.setCell q1 ⟨w1.heap.size, 7, none⟩ (.string fr) = X) := ⟨_, rfl⟩
    have rq2 : ∀ {E : Operand → Value} {o : Oper} {x y : Operand}, o.op = .store 9 x y → E x = .pointer (some ⟨w1.heap.size, 7, none⟩) → E y = .string fr → (execOp E o).run Tryz.prog q1 = .ok .skip q2 := fun ho hx hy => by rw [← hq2.out]; exact run_put1 lq1.out (by simp) (by kernel_rfl) rfl ho hx hy
    have lq2 : Hid (Blk q2 w1.heap.size 26 #[.string d.number, .string se, .string bu, .string d.carrier, .string d.issuer, .string d.house, .string d.insurer, .string fr, .string d.toP, .string d.currency, .int .i64 d.amount, .slice d.A n d.c, .int .i64 d.term, .int .i64 d.latest, .int .i64 d.expiry, .int .i64 d.tenor, .int .i64 d.duty]) := by rw [← hq2.out]; exact Lib.hid (lq1.out.set_ 7 (.string fr))
    have Bq2 : Hid (Below w1.heap.size w4 q2) := by rw [← hq2.out]; exact Below.setCell (p := ⟨w1.heap.size, 7, none⟩) (Bq1.out) (Nat.le_refl _) _
    have zq2 : Hid (Blk q2 w2.heap.size 26 zeroD) := by rw [← hq2.out]; exact Lib.hid (zq1.out.far (p := ⟨w1.heap.size, 7, none⟩) (by have := hx3.out; show w2.heap.size ≠ w1.heap.size; omega) _)
    refine wpAnyH_all (rs := [15]) (by kernel_rfl) (by decide) ?_
    intro i hi'
    obtain rfl := List.mem_singleton.1 hi'
    refine held_skip (w' := q2) rfl rfl (rq2 rfl rfl rfl) ?_
    clear HSV rq2 hq2
    have HSV : Blk q2 w.heap.size 56 D := hk4.out.below Bq2.out (by have := hx1.out; have := hx2.out; omega)
    refine ⟨HSV, ?_⟩
    go_simp
    refine wpAnyH_take (i := 16) rfl (by kernel_rfl) (by kernel_rfl) (by kernel_rfl) (fun _ _ _ h => h) (show YieldsIf _ _ _ _ (.pointer (some ⟨w1.heap.size, 8, none⟩)) _ from .inl ⟨by rfl, fun W hW => by go_simp⟩) HSV ?_
    go_simp
    obtain ⟨q3, hq3⟩ : ∃ X, Hid (World.setCell q2 ⟨w1.heap.size, 8, none⟩ (.string tp) = X) := ⟨_, rfl⟩
    have rq3 : ∀ {E : Operand → Value} {o : Oper} {x y : Operand}, o.op = .store 9 x y → E x = .pointer (some ⟨w1.heap.size, 8, none⟩) → E y = .string tp → (execOp E o).run Tryz.prog q2 = .ok .skip q3 := fun ho hx hy => by rw [← hq3.out]; exact run_put1 lq2.out (by simp) (by kernel_rfl) rfl ho hx hy
    have lq3 : Hid (Blk q3 w1.heap.size 26 #[.string d.number, .string se, .string bu, .string d.carrier, .string d.issuer, .string d.house, .string d.insurer, .string fr, .string tp, .string d.currency, .int .i64 d.amount, .slice d.A n d.c, .int .i64 d.term, .int .i64 d.latest, .int .i64 d.expiry, .int .i64 d.tenor, .int .i64 d.duty]) := by rw [← hq3.out]; exact Lib.hid (lq2.out.set_ 8 (.string tp))
    have Bq3 : Hid (Below w1.heap.size w4 q3) := by rw [← hq3.out]; exact Below.setCell (p := ⟨w1.heap.size, 8, none⟩) (Bq2.out) (Nat.le_refl _) _
    have zq3 : Hid (Blk q3 w2.heap.size 26 zeroD) := by rw [← hq3.out]; exact Lib.hid (zq2.out.far (p := ⟨w1.heap.size, 8, none⟩) (by have := hx3.out; show w2.heap.size ≠ w1.heap.size; omega) _)
    refine wpAnyH_all (rs := [17]) (by kernel_rfl) (by decide) ?_
    intro i hi'
    obtain rfl := List.mem_singleton.1 hi'
    refine held_skip (w' := q3) rfl rfl (rq3 rfl rfl rfl) ?_
    clear HSV rq3 hq3
    have HSV : Blk q3 w.heap.size 56 D := hk4.out.below Bq3.out (by have := hx1.out; have := hx2.out; omega)
    refine ⟨HSV, ?_⟩
    go_simp
    refine wpAnyH_take (i := 18) rfl (by kernel_rfl) (by kernel_rfl) (by kernel_rfl) (fun _ _ _ h => h) (show YieldsIf _ _ _ _ (.pointer (some ⟨w1.heap.size, 12, none⟩)) _ from .inl ⟨by rfl, fun W hW => by go_simp⟩) HSV ?_
    go_simp
    obtain ⟨q4, hq4⟩ : ∃ X, Hid (World.setCell q3 ⟨w1.heap.size, 12, none⟩ (.int .i64 tm) = X) := ⟨_, rfl⟩
    have rq4 : ∀ {E : Operand → Value} {o : Oper} {x y : Operand}, o.op = .store 3 x y → E x = .pointer (some ⟨w1.heap.size, 12, none⟩) → E y = .int .i64 tm → (execOp E o).run Tryz.prog q3 = .ok .skip q4 := fun ho hx hy => by rw [← hq4.out]; exact run_put1 lq3.out (by simp) (by kernel_rfl) rfl ho hx hy
    have lq4 : Hid (Blk q4 w1.heap.size 26 #[.string d.number, .string se, .string bu, .string d.carrier, .string d.issuer, .string d.house, .string d.insurer, .string fr, .string tp, .string d.currency, .int .i64 d.amount, .slice d.A n d.c, .int .i64 tm, .int .i64 d.latest, .int .i64 d.expiry, .int .i64 d.tenor, .int .i64 d.duty]) := by rw [← hq4.out]; exact Lib.hid (lq3.out.set_ 12 (.int .i64 tm))
    have Bq4 : Hid (Below w1.heap.size w4 q4) := by rw [← hq4.out]; exact Below.setCell (p := ⟨w1.heap.size, 12, none⟩) (Bq3.out) (Nat.le_refl _) _
    have zq4 : Hid (Blk q4 w2.heap.size 26 zeroD) := by rw [← hq4.out]; exact Lib.hid (zq3.out.far (p := ⟨w1.heap.size, 12, none⟩) (by have := hx3.out; show w2.heap.size ≠ w1.heap.size; omega) _)
    refine wpAnyH_all (rs := [19]) (by kernel_rfl) (by decide) ?_
    intro i hi'
    obtain rfl := List.mem_singleton.1 hi'
    refine held_skip (w' := q4) rfl rfl (rq4 rfl rfl rfl) ?_
    clear HSV rq4 hq4
    have HSV : Blk q4 w.heap.size 56 D := hk4.out.below Bq4.out (by have := hx1.out; have := hx2.out; omega)
    refine ⟨HSV, ?_⟩
    go_simp
    refine wpAnyH_done (by kernel_rfl) ?_ _
    refine NoPanic.normal ?_
    have hmq := Lib.hid (hm4.out.below Bq4.out (by have := hx2.out; omega))
    have hkq := Lib.hid HSV
    have c2 : q4.cell? ⟨w0.heap.size, 2, none⟩ = some (.int .i64 lt) := (hmq.out.cell 2).trans hV2.out
    have lw0 : w0.heap.size < q4.heap.size := hmq.out.lt
    go_wp2_with (first
      | (refine wpList_put1 rfl 3 _ _ rfl w1.heap.size 13 _ #[.string d.number, .string se, .string bu, .string d.carrier, .string d.issuer, .string d.house, .string d.insurer, .string fr, .string tp, .string d.currency, .int .i64 d.amount, .slice d.A n d.c, .int .i64 tm, .int .i64 lt, .int .i64 d.expiry, .int .i64 d.tenor, .int .i64 d.duty] 26 (.int .i64 lt) rfl rfl lq4.out (by simp) rfl (by kernel_rfl) rfl ?_; intro q5 e5 h5 b5; have lq5 := Lib.hid h5; have Bq5 : Hid (Below w1.heap.size w4 q5) := Bq4.out.trans b5; have zq5 : Hid (Blk q5 w2.heap.size 26 zeroD) := by { rw [e5]; exact Lib.hid (zq4.out.far (p := ⟨w1.heap.size, 13, none⟩) (by have := hx3.out; show w2.heap.size ≠ w1.heap.size; omega) _) }; have hk5 := Lib.hid (hkq.out.below b5 (by have := hx1.out; have := hx2.out; omega)); have c3 : q5.cell? ⟨w.heap.size, 3, none⟩ = some (.string cu) := (hk5.out.cell 3).trans hD3.out; have lw5 : w.heap.size < q5.heap.size := hk5.out.lt; clear e5 h5 b5)
      | (refine wpList_put2 rfl 23 _ _ rfl w1.heap.size 9 _ #[.string d.number, .string se, .string bu, .string d.carrier, .string d.issuer, .string d.house, .string d.insurer, .string fr, .string tp, .string cu, .int .i64 v1, .slice d.A n d.c, .int .i64 tm, .int .i64 lt, .int .i64 d.expiry, .int .i64 d.tenor, .int .i64 d.duty] 26 (.string cu) (.int .i64 v1) rfl rfl lq5.out (by simp) rfl (by kernel_rfl) rfl rfl ?_; intro q6 e6 h6 b6; have lq6 := Lib.hid h6; have Bq6 : Hid (Below w1.heap.size w4 q6) := Bq5.out.trans b6; have zq6 : Hid (Blk q6 w2.heap.size 26 zeroD) := by { rw [e6]; exact Lib.hid ((zq5.out.far (p := ⟨w1.heap.size, 9, none⟩) (by have := hx3.out; show w2.heap.size ≠ w1.heap.size; omega) _).far (p := ⟨w1.heap.size, 10, none⟩) (by have := hx3.out; show w2.heap.size ≠ w1.heap.size; omega) _) }; have c11 : q6.cell? ⟨w1.heap.size, 11, none⟩ = some (.slice d.A n d.c) := lq6.out.cell 11; have lw6 : w1.heap.size < q6.heap.size := lq6.out.lt; clear e6 h6 b6))
    have hB6 : Hid (Below w.heap.size w q6) := hB4.out.trans (Bq6.out.mono (by have := hx1.out; have := hx2.out; omega))
    refine (copyBoxes_any d.A n d.c d.boxes q6 (by have := hd.out.most; have := hn.out; omega) hn (Lib.hid (hd.out.at_.below hB6.out)) (Lib.hid fun x hx => (hd.out.marks x hx).2.1)).mono ?_
    rintro e w7 ⟨⟨A', c', rfl⟩, hb7⟩
    have hB7 : Hid (Below w.heap.size w w7) := hB6.out.trans (hb7.mono hB6.out.size)
    have lq7 := Lib.hid (lq6.out.below hb7 lq6.out.lt)
    have zq7 := Lib.hid (zq6.out.below hb7 zq6.out.lt)
    clear hb7 c2 c3 c11
    go_wp2_with (first
      | (refine wpList_put1 rfl 24 _ _ rfl w1.heap.size 11 _ #[.string d.number, .string se, .string bu, .string d.carrier, .string d.issuer, .string d.house, .string d.insurer, .string fr, .string tp, .string cu, .int .i64 v1, .slice A' n c', .int .i64 tm, .int .i64 lt, .int .i64 d.expiry, .int .i64 d.tenor, .int .i64 d.duty] 26 (.slice A' n c') rfl rfl lq7.out (by simp) rfl (by kernel_rfl) rfl ?_; intro q8 e8 h8 b8; have lq8 := Lib.hid h8; have zq8 : Hid (Blk q8 w2.heap.size 26 zeroD) := by { rw [e8]; exact Lib.hid (zq7.out.far (p := ⟨w1.heap.size, 11, none⟩) (by have := hx3.out; show w2.heap.size ≠ w1.heap.size; omega) _) }; have hB8 : Hid (Below w.heap.size w q8) := hB7.out.trans (b8.mono (by have := hx1.out; have := hx2.out; omega)); clear e8 h8 b8)
      | (refine wpList_get_blk rfl 26 _ rfl w1.heap.size _ 26 _ rfl lq8.out Tryz.underlying26 rfl (by kernel_rfl) ?_)
      | (refine wpList_put_blk rfl 26 _ _ rfl w2.heap.size _ #[.string d.number, .string se, .string bu, .string d.carrier, .string d.issuer, .string d.house, .string d.insurer, .string fr, .string tp, .string cu, .int .i64 v1, .slice A' n c', .int .i64 tm, .int .i64 lt, .int .i64 d.expiry, .int .i64 d.tenor, .int .i64 d.duty] 26 rfl rfl zq8.out rfl (by kernel_rfl) (by simp [Value.oneCell']) ?_; intro w9 hr9 hu9))
    refine bodyPost_ret (results_row2 rfl _ _ w2.heap.size 26 _ _ rfl hr9 Tryz.underlying26 rfl (by kernel_rfl)) rfl ?_
    refine ⟨⟨A', c', ?_⟩, hB8.out.grown hu9.grown hB8.out.size (fun k hk => by cases hk; have := hb2.out.size; omega)⟩
    have e9 : outD o c d v1 A' c' = #[.string d.number, .string se, .string bu, .string d.carrier, .string d.issuer, .string d.house, .string d.insurer, .string fr, .string tp, .string cu, .int .i64 v1, .slice A' n c', .int .i64 tm, .int .i64 lt, .int .i64 d.expiry, .int .i64 d.tenor, .int .i64 d.duty] := by unfold outD; rw [hse.out, hbu.out, hcu.out, hfr.out, htp.out, htm.out, hlt.out, hn.out]
    rw [e9]
    rfl
  · clear hk4 hm4 hl4
    go_wp2_with (refine wpList_put_blk rfl 26 _ _ rfl w2.heap.size _ zeroD 26 rfl rfl hr4.out rfl (by kernel_rfl) (by simp [Value.oneCell']) ?_; intro w5 hr5 hu5)
    refine bodyPost_ret (results_row2 rfl _ _ w2.heap.size 26 _ _ rfl hr5 Tryz.underlying26 rfl (by kernel_rfl)) rfl ?_
    exact ⟨.inl ⟨h0, rfl⟩, hB4.out.grown hu5.grown hB4.out.size (fun k hk => by cases hk; have := hb2.out.size; omega)⟩
end Go.Proofs.YtnmnknkdnjkpjaaGreatDoor

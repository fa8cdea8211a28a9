/- Whole structs, loaded and stored; results with a struct and a value. -/
import Derived.Test.YtdjmckjbibfecaaGreatDoorG
import Derived.Deep.MidRow
import Derived.Laws.ResultCell
import Derived.StillTailTactics
import Derived.Deep.RegionHeld3
namespace Go.Proofs.YtdjmckjbibfecaaGreatDoor
open Go Go.RowKit Go.BigFrame Go.Maps
theorem But.trans {z : Nat} {w w1 w2 : World} (h : But z w w1) (g : But z w1 w2) : But z w w2 :=
  ⟨g.os.trans h.os, g.tape.trans h.tape, g.output.trans h.output, Nat.le_trans h.size g.size, fun k hk hne => (g.block k (Nat.lt_of_lt_of_le hk h.size) hne).trans (h.block k hk hne)⟩
theorem But.of_below {z : Nat} {w w1 : World} (h : Below w.heap.size w w1) : But z w w1 := (But.refl z w).below h
theorem setCells_put (g : Nat) : ∀ (vs : List Value) (o : Nat) (w : World), But g w (w.setCells g o vs)
  | [], _, _ => But.refl _ _
  | v :: vs, o, w => But.trans ((But.refl g w).setCell o v) (setCells_put g vs (o + 1) _)
theorem setCells_row {g : Nat} {t : TypeId} : ∀ (vs pre old : List Value) (w : World), old.length = vs.length → Blk w g t (pre ++ old).toArray → Blk (w.setCells g pre.length vs) g t (pre ++ vs).toArray
  | [], pre, old, w, hl, h => by
    have : old = [] := List.eq_nil_of_length_eq_zero (by simpa using hl)
    subst this; exact h
  | v :: vs, pre, [], w, hl, h => by simp at hl
  | v :: vs, pre, u :: old, w, hl, h => by
    have h1 := h.set_ pre.length v
    have e : ((pre ++ u :: old).toArray.setIfInBounds pre.length v) = ((pre ++ [v]) ++ old).toArray := by simp
    rw [e] at h1
    have := setCells_row vs (pre ++ [v]) old _ (by simpa using hl) h1
    rw [World.setCells]
    simpa using this
section
variable {P : Program} {ops : Array Oper} {o : Oper} {rest : List Oper} {a : Act} {w : World} {Q : Exit → Act → World → Prop}
theorem wpList_get_blk (hgd : o.guard = none) (ty : TypeId) (x : Operand) (ho : o.op = .load ty x) (g : Nat) (cs : Array Value) (t : TypeId) (d : TypeDesc) (hx : a.eval x = .pointer (some ⟨g, 0, none⟩))
    (hb : Blk w g t cs) (hu : P.underlying ty = some d) (hd : (match d with | .struct _ | .array _ _ => true | _ => false) = true) (hi : (P.info? ty).map (·.size) = some cs.size)
    (h : wpList P ops Q rest (a.put o.dst (.agg cs)) w) : wpList P ops Q (o :: rest) a w :=
  wpList_load_row hgd ty x ho g hx t cs (0, 0) d hb hu hd hi h
theorem wpList_put_blk (hgd : o.guard = none) (ty : TypeId) (x y : Operand) (ho : o.op = .store ty x y) (g : Nat) (old cs : Array Value) (t : TypeId) (hx : a.eval x = .pointer (some ⟨g, 0, none⟩)) (hy : a.eval y = .agg cs)
    (hb : Blk w g t old) (hs : old.size = cs.size) (hi : (P.info? ty).map (·.size) = some cs.size) (h1 : cs.all (·.oneCell') = true)
    (h : ∀ w', Blk w' g t cs → But g w w' → wpList P ops Q rest (a.put o.dst undef) w') : wpList P ops Q (o :: rest) a w := by
  refine wpList_store_mid hgd ty x y ho g 0 cs hx hy (fun j hj => ?_) hi h1 (h _ ?_ (setCells_put g _ 0 w))
  · have hj' : j < old.size := by omega
    rw [Nat.zero_add]
    exact ⟨by rw [hb.cell]; simp [hj'], hb.frozen j⟩
  · have := setCells_row (g := g) (t := t) cs.toList [] old.toList w (by simpa using hs) (by simpa using hb)
    simpa using this
end
section
variable {P : Program} {ops : Array Oper} {o : Oper} {rest : List Oper} {a : Act} {W : World} {Q : Exit → Act → World → Prop} {K : Act → World → Prop} {E : Prop}
theorem run_storeVar_cell {g i : Nat} {t : TypeId} {cs : Array Value} (ty : TypeId) (u : Value) (hb : Blk W g t cs) (hi : i < cs.size) (hs : (P.info? ty).map (·.size) = some 1) (h1 : u.oneCell' = true) :
    (storeVar ty ⟨g, i, none⟩ u).run P W = .ok () (W.setCell ⟨g, i, none⟩ u) := by
  have hc : u.cells = #[u] := by cases u <;> first | rfl | cases h1
  have := run_storeCells_cells (P := P) g i [u] 0 W (fun j hj => by have : j = 0 := by simpa using hj
                                                                    subst this; simp [hb.cell, hi]) (fun j hj => hb.frozen _) (fun v hv => by simp at hv; subst hv; exact h1)
  cases hq : P.info? ty with
  | none => simp [hq] at hs
  | some z =>
    have hz : z.size = 1 := by simpa [hq] using hs
    simp only [Nat.add_zero] at this
    simp [storeVar, sizeOf, typeInfo, hq, hc, hz, this]
    rfl
theorem wp_put1 (ty : TypeId) (x y : Operand) (ho : o.op = .store ty x y) (g i : Nat) (cs cs' : Array Value) (t : TypeId) (u : Value) (hx : a.eval x = .pointer (some ⟨g, i, none⟩)) (hy : a.eval y = u)
    (hb : Blk W g t cs) (hi : i < cs.size) (hc : cs.setIfInBounds i u = cs') (hs : (P.info? ty).map (·.size) = some 1) (h1 : u.oneCell' = true)
    (h : ∀ W', W' = W.setCell ⟨g, i, none⟩ u → Blk W' g t cs' → Below g W W' → K (a.put o.dst undef) W') : o.wp P a W K Q := by
  unfold Oper.wp execOp
  simp only [ho, hx, hy, Instr.storeAt, Instr.sureAddr, Sem.run_bind, Sem.run_pure, Result.andThen_ok, run_storeVar_cell ty u hb hi hs h1]
  exact h _ rfl (hc ▸ hb.set_ i u) (Below.setCell (p := ⟨g, i, none⟩) (Below.refl g W) (Nat.le_refl g) u)
theorem wpList_put1 (hgd : o.guard = none) (ty : TypeId) (x y : Operand) (ho : o.op = .store ty x y) (g i : Nat) (cs cs' : Array Value) (t : TypeId) (u : Value) (hx : a.eval x = .pointer (some ⟨g, i, none⟩)) (hy : a.eval y = u)
    (hb : Blk W g t cs) (hi : i < cs.size) (hc : cs.setIfInBounds i u = cs') (hs : (P.info? ty).map (·.size) = some 1) (h1 : u.oneCell' = true)
    (h : ∀ W', W' = W.setCell ⟨g, i, none⟩ u → Blk W' g t cs' → Below g W W' → wpList P ops Q rest (a.put o.dst undef) W') : wpList P ops Q (o :: rest) a W :=
  wpList_plain hgd fun _ hK => wp_put1 ty x y ho g i cs cs' t u hx hy hb hi hc hs h1 fun W' h0 h2 h3 => hK _ _ (h W' h0 h2 h3)
theorem wpList_puto (hgd : o.guard = none) (ty : TypeId) (x y : Operand) (ho : o.op = .store ty x y) (g i : Nat) (cs cs' : Array Value) (t : TypeId) (u : Value) (hx : a.eval x = .pointer (some ⟨g, i, none⟩)) (hy : a.eval y = u)
    (hb : Blk W g t cs) (hi : i < cs.size) (hc : cs.setIfInBounds i u = cs') (hs : (P.info? ty).map (·.size) = some 1) (h1 : u.oneCell' = true)
    (h : ∀ W', Blk W' g t cs' → Below g W W' → But g W W' → wpList P ops Q rest (a.put o.dst undef) W') : wpList P ops Q (o :: rest) a W :=
  wpList_put1 hgd ty x y ho g i cs cs' t u hx hy hb hi hc hs h1 fun W' h0 h2 h3 => h W' h2 h3 (by subst h0; exact (But.refl g W).setCell i u)
end
theorem step_put_blk {P : Program} {ops : Array Oper} {o : Oper} {a : Act} {w : World} {Q : Exit → Act → World → Prop} {K : Act → World → Prop} {E : Prop} (hgd : o.guard = none) (ty : TypeId) (x y : Operand) (ho : o.op = .store ty x y) (g : Nat) (old cs : Array Value) (t : TypeId) (hx : a.eval x = .pointer (some ⟨g, 0, none⟩)) (hy : a.eval y = .agg cs)
    (hb : Blk w g t old) (hs : old.size = cs.size) (hi : (P.info? ty).map (·.size) = some cs.size) (h1 : cs.all (·.oneCell') = true)
    (h : ∀ w', Blk w' g t cs → But g w w' → K (a.put o.dst undef) w') : if Region.wanted o (yielded ops a.tmps) = true then Oper.wp P o a w K Q else E := by
  have hw : Region.wanted o (yielded ops a.tmps) = true := by simp [Region.wanted, hgd]
  rw [if_pos hw]
  refine wp_store_mid ty x y ho g 0 cs hx hy (fun j hj => ?_) hi h1 (h _ ?_ (setCells_put g _ 0 w))
  · have hj' : j < old.size := by omega
    rw [Nat.zero_add]
    exact ⟨by rw [hb.cell]; simp [hj'], hb.frozen j⟩
  · have := setCells_row (g := g) (t := t) cs.toList [] old.toList w (by simpa using hs) (by simpa using hb)
    simpa using this
theorem But.grown {g : Nat} {w w' : World} (h : But g w w') : w.grownBy w' (some g) := ⟨h.os, h.tape, h.output, h.size, fun k hk hne => h.block k hk (fun e => hne (by rw [e]))⟩
theorem results_row2 {P : Program} {fn : Func} {p u : Tmp} {ty : TypeId} (h : fn.results = #[.cell p ty, .tmp u]) (tmps : Array Value) (w : World) (g : Nat) (t : TypeId) (cs : Array Value) (d : TypeDesc)
    (hp : tmps.getD p undef = .pointer (some ⟨g, 0, none⟩)) (hg : Blk w g t cs)
    (hu : P.underlying ty = some d) (hd : (match d with | .struct _ | .array _ _ => true | _ => false) = true) (hi : (P.info? ty).map (·.size) = some cs.size) :
    (results fn tmps).run P w = .ok (.tuple #[.agg cs, tmps.getD u undef]) w := by
  rw [results_cell_tmp h, hp]
  simp [asAddr, Result.andThen, run_loadVar_row w g t ty cs (0, 0) d hg hu hd hi]
theorem Blk.but {w w' : World} {g z : Nat} {t : TypeId} {cs : Array Value} (h : Blk w g t cs) (hb : But z w w') (hz : g ≠ z) : Blk w' g t cs := (hb.block g h.lt hz).trans h
/-- A row of one's own, its last element stored. -/
theorem own_setLast {B g n c : Nat} {e : TypeId} {size : Nat} : ∀ (us zs xs : List Value) (w : World), us.length = zs.length → w.ownsRow B e size (.slice (some ⟨g, 0, none⟩) n c) n (xs ++ zs) → (w.setCells g xs.length us).ownsRow B e size (.slice (some ⟨g, 0, none⟩) n c) n (xs ++ us)
  | [], zs, xs, w, hl, h => by
    have : zs = [] := List.eq_nil_of_length_eq_zero (by simpa using hl.symm)
    subst this; exact h
  | u :: us, [], xs, w, hl, h => by simp at hl
  | u :: us, z :: zs, xs, w, hl, h => by
    have h1 := h.stored xs.length u
    rw [show (xs ++ z :: zs).set xs.length u = (xs ++ [u]) ++ zs by simp] at h1
    have h2 := own_setLast us zs (xs ++ [u]) _ (by simpa using hl) h1.1
    rw [World.setCells]
    simpa using h2
theorem own_form {w : World} {B n : Nat} {e : TypeId} {size : Nat} {v : Value} {xs : List Value} (h : w.ownsRow B e size v n xs) : ∃ A c, v = .slice A n c := by
  rcases h.2 with ⟨e1, h0⟩ | ⟨g, c, cur, e1, _⟩
  · exact ⟨none, 0, by rw [e1, h0]⟩
  · exact ⟨some ⟨g, 0, none⟩, c, e1⟩
theorem own_formS {w : World} {B n : Nat} {e : TypeId} {size : Nat} {v : Value} {xs : List Value} (h : w.ownsRow B e size v n xs) (hn : 0 < n) : ∃ g c, v = .slice (some ⟨g, 0, none⟩) n c ∧ B ≤ g ∧ g < w.heap.size := by
  rcases h.2 with ⟨e1, h0⟩ | ⟨g, c, cur, e1, hB, hh, _⟩
  · omega
  · exact ⟨g, c, e1, hB, (Array.getElem?_eq_some_iff.1 hh).1⟩
theorem own_blk {w : World} {B g n c : Nat} {e : TypeId} {size : Nat} {xs : List Value} (h : w.ownsRow B e size (.slice (some ⟨g, 0, none⟩) n c) n xs) : Blk w g e ((w.heap[g]?.bind fun o => match o with | .cells cs _ _ => some cs | _ => none).getD #[]) := by
  rcases h.2 with ⟨e0, _⟩ | ⟨g9, c9, cur, e0, _, hh, _⟩
  · cases e0
  · simp only [Value.slice.injEq, Option.some.injEq, Addr.mk.injEq, true_and, and_true] at e0
    obtain ⟨rfl, _⟩ := e0
    unfold Blk
    rw [hh]
    rfl
theorem own_none (w : World) (B : Nat) (e : TypeId) (size : Nat) : w.ownsRow B e size (.slice none 0 0) 0 [] := World.ownsRow_nil w B e size
theorem own_one {w : World} {B : Nat} {e : TypeId} {size n : Nat} {v : Value} {xs : List Value} (h : w.ownsRow B e size v n xs) : v.oneCell' = true := by
  rcases h.2 with ⟨e1, _⟩ | ⟨g, c, cur, e1, _⟩ <;> (rw [e1]; rfl)
theorem Blk.kept {w w' : World} {g : Nat} {t : TypeId} {cs : Array Value} {row : Option Nat} (h : Blk w g t cs) (hg : w.grownBy w' row) (hne : row ≠ some g) : Blk w' g t cs := h.grown hg (fun e => hne e.symm)
theorem own_but {w w' : World} {B z n : Nat} {e t : TypeId} {size : Nat} {v : Value} {xs : List Value} {cs : Array Value} (h : w.ownsRow B e size v n xs) (hb : But z w w') (hz : Blk w z t cs) (hne : e ≠ t) : w'.ownsRow B e size v n xs :=
  h.kept hb.grown (.inr (own_blk_ne h hz hne))
end Go.Proofs.YtdjmckjbibfecaaGreatDoor

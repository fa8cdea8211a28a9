/- The cure's method part, walked. -/
import Derived.Test.YtdjmckjbibfecaaGreatDoorIc
import Derived.Test.YtdjmckjbibfecaaGreatDoorMc
import Derived.Test.YtdjmckjbibfecaaGreatDoorMd
namespace Go.Proofs.YtdjmckjbibfecaaGreatDoor
open Go Go.RowKit Go.BigFrame Go.Maps

/-- The finer faults' box and row, the fault's box. -/
structure LstS (AF : Option Addr) (LF : List Flt) (W : World) (B gl gf : Nat) (C : Array Value) (v : Value) (L : List Flt) : Prop where
  rest : FaultsAt W AF LF
  off : LF ≠ [] → ∀ b o, AF = some ⟨b, o, none⟩ → v.ownBlock ≠ some b ∧ gl ≠ b
  box : Blk W gl 47 #[v]
  row : W.ownsRow B 54 4 v L.length (fcells L)
  fault : Blk W gf 54 C
  apart : v.ownBlock ≠ some gf
/-- What the closure leaves. -/
def LstFr (base : Nat) (a b : World) : Prop := (base ≤ a.heap.size → Below base a b) ∧ a.heap.size ≤ b.heap.size ∧ ∀ (g : Nat) (t : TypeId) (cs : Array Value), Blk a g t cs → boxT t → Blk b g t cs
theorem lstGiver (base : Nat) : Giver base (LstFr base) where
  refl W := ⟨fun _ => Below.refl _ W, Nat.le_refl _, fun _ _ _ h _ => h⟩
  trans h k := ⟨fun hb => (h.1 hb).trans (k.1 (Nat.le_trans hb h.2.1)), Nat.le_trans h.2.1 k.2.1, fun g t cs hB ht => k.2.2 g t cs (h.2.2 g t cs hB ht) ht⟩
  of h := ⟨fun hb => h.mono hb, h.size, fun _ _ _ hB _ => hB.below h hB.lt⟩
  low h hb := h.1 hb
  size h := h.2.1
  blk h hb ht := h.2.2 _ _ _ hb ht
theorem LstS.on {AF : Option Addr} {LF : List Flt} {W W' : World} {B gl gf : Nat} {C : Array Value} {v : Value} {L : List Flt} (h : LstS AF LF W B gl gf C v L) (hb : Below W.heap.size W W') : LstS AF LF W' B gl gf C v L :=
  ⟨h.rest.below hb, h.off, h.box.below hb h.box.lt, own_below h.row hb, h.fault.below hb h.fault.lt, h.apart⟩
theorem box_ne {t : TypeId} (h : boxT t) : t ≠ 54 ∧ t ≠ 47 := by
  rcases h with rfl | rfl | rfl | rfl | rfl | rfl <;> decide
/-- The row grown, and stored in its box. -/
theorem LstS.put {AF : Option Addr} {LF : List Flt} {W W3 W5 : World} {B gl gf : Nat} {C : Array Value} {v v' : Value} {L M : List Flt} (h : LstS AF LF W B gl gf C v L) (hg : W.grownBy W3 v.ownBlock) (hv : v'.ownBlock = v.ownBlock ∨ v'.ownBlock = some W.heap.size)
    (ho : W3.ownsRow B 54 4 v' (L.length + M.length) (fcells L ++ fcells M)) (hb : Blk W5 gl 47 #[v']) (hbut : But gl W3 W5) : LstS AF LF W5 B gl gf C v' (L ++ M) := by
  have hl3 := Blk.kept h.box hg (own_blk_ne h.row h.box (by decide))
  have hf3 := Blk.kept h.fault hg h.apart
  have hrb : ∀ k x, LF[k]? = some x → ∃ b o, AF = some ⟨b, o, none⟩ ∧ b < W.heap.size ∧ v.ownBlock ≠ some b ∧ gl ≠ b := fun k x hx => by
    obtain ⟨b, o, e, h0, _⟩ := h.rest k x hx
    obtain ⟨h1, h2⟩ := h.off (by rintro rfl; simp at hx) b o e
    exact ⟨b, o, e, World.block_lt_of_cell? W _ h0, h1, h2⟩
  refine ⟨fun k x hx => ?_, fun hne b o e => ?_, hb, ?_, hf3.but hbut (Blk.ne_ hf3 hl3 (by decide)), ?_⟩
  · obtain ⟨b, o, e, hc⟩ := h.rest k x hx
    obtain ⟨b', o', e', hlt, h1, h2⟩ := hrb k x hx
    rw [e] at e'
    simp only [Option.some.injEq, Addr.mk.injEq, and_true] at e'
    obtain ⟨rfl, rfl⟩ := e'
    have hk : ∀ p : Addr, p.block = b → W5.cell? p = W.cell? p := fun p hp => by
      rw [World.cell?_of_block (w := W3) (hbut.block p.block (by rw [hp]; exact Nat.lt_of_lt_of_le hlt hg.size) (by rw [hp]; exact fun e => h2 e.symm))]
      exact hg.cell_far p (by rw [hp]; exact hlt) (by rw [hp]; exact fun e => h1 e.symm)
    refine ⟨b, o, e, ?_⟩
    simpa only [hk ⟨b, _, none⟩ rfl] using hc
  · obtain ⟨x, hx⟩ : ∃ x, LF[0]? = some x := ⟨_, List.getElem?_eq_getElem (List.length_pos_iff.2 hne)⟩
    obtain ⟨b', o', e', hlt, h1, h2⟩ := hrb 0 x hx
    rw [e] at e'
    simp only [Option.some.injEq, Addr.mk.injEq, and_true] at e'
    obtain ⟨rfl, rfl⟩ := e'
    refine ⟨?_, h2⟩
    rcases hv with e1 | e1
    · rw [e1]; exact h1
    · rw [e1]
      intro h9
      injection h9 with h9
      omega
  · have := own_but ho hbut hl3 (by decide)
    rw [List.length_append]
    unfold fcells at this ⊢
    rw [List.flatMap_append]
    exact this
  · rcases hv with e | e
    · rw [e]; exact h.apart
    · rw [e]
      have := h.fault.lt
      intro h9
      injection h9 with h9
      omega
theorem LstFr.put {base : Nat} {W W3 W5 : World} {B gl : Nat} {v : Value} {n : Nat} {xs : List Value} (hrow : W.ownsRow B 54 4 v n xs) (hbox : Blk W gl 47 #[v]) (hB : base ≤ B) (hgl : base ≤ gl) (hg : W.grownBy W3 v.ownBlock) (hbut : But gl W3 W5) : LstFr base W W5 := by
  have hl3 := Blk.kept hbox hg (own_blk_ne hrow hbox (by decide))
  refine ⟨fun hb => ?_, Nat.le_trans hg.size hbut.size, fun g t cs hblk ht => ?_⟩
  · have h1 : Below base W W3 := (Below.refl base W).grown hg hb (fun j hj => Nat.le_trans hB (hrow.lt j hj).1)
    exact h1.trans ⟨hbut.os, hbut.tape, hbut.output, hbut.size, fun k hk => hbut.block k (Nat.lt_of_lt_of_le hk (Nat.le_trans hb hg.size)) (by omega)⟩
  · have h3 := Blk.kept hblk hg (own_blk_ne hrow hblk (box_ne ht).1.symm)
    exact h3.but hbut (Blk.ne_ h3 hl3 (box_ne ht).2)
end Go.Proofs.YtdjmckjbibfecaaGreatDoor
namespace Go.Proofs.YtdjmckjbibfecaaGreatDoor
open Go Go.RowKit Go.BigFrame Go.Maps

theorem failL_len {needs : List Nd} {docs : List Pap} {d : Pap} (h : FewParts needs) : (failL needs docs d).length ≤ 720 := by
  have : ∀ l : List Nd, (∀ x ∈ l, (partsT x.rule).length ≤ 60) → (l.flatMap fun x => if x.kind = d.kind then failT docs d (partsT x.rule) else []).length ≤ 60 * l.length := by
    intro l
    induction l with
    | nil => intro _; simp
    | cons x l ih =>
      intro h
      have h1 := ih fun y hy => h y (by simp [hy])
      have h2 := h x (by simp)
      rw [List.flatMap_cons, List.length_append, List.length_cons]
      have h3 : (if x.kind = d.kind then failT docs d (partsT x.rule) else []).length ≤ 60 := by
        split
        · exact Nat.le_trans (List.length_filter_le _ _) h2
        · simp
      omega
  have h4 := this needs h.2
  have h5 := h.1
  unfold failL
  omega
structure LeaS (w W : World) (C : Array Value) (A : Option Addr) (nn cc g1 g2 : Nat) (AF : Option Addr) (LF : List Flt) (v : Value) (M : List Flt) : Prop where
  below : Below w.heap.size w W
  cred : Blk W w.heap.size 46 C
  docs : Blk W g1 25 #[.slice A nn cc]
  box : Blk W g2 47 #[v]
  row : W.ownsRow w.heap.size 54 4 v M.length (fcells M)
  rest : FaultsAt W AF LF
  off : LF ≠ [] → ∀ b o, AF = some ⟨b, o, none⟩ → v.ownBlock ≠ some b ∧ g2 ≠ b
theorem LeaS.on {w W W' : World} {C : Array Value} {A : Option Addr} {nn cc g1 g2 : Nat} {AF : Option Addr} {LF : List Flt} {v : Value} {M : List Flt} (h : LeaS w W C A nn cc g1 g2 AF LF v M) (hb : Below W.heap.size W W') : LeaS w W' C A nn cc g1 g2 AF LF v M :=
  ⟨h.below.trans (hb.mono h.below.size), h.cred.below hb h.cred.lt, h.docs.below hb h.docs.lt, h.box.below hb h.box.lt, own_below h.row hb, h.rest.below hb, h.off⟩
end Go.Proofs.YtdjmckjbibfecaaGreatDoor
namespace Go.Proofs.YtdjmckjbibfecaaGreatDoor
open Go Go.RowKit Go.BigFrame Go.Maps

end Go.Proofs.YtdjmckjbibfecaaGreatDoor
namespace Go.Proofs.YtdjmckjbibfecaaGreatDoor
open Go Go.RowKit Go.BigFrame Go.Maps

end Go.Proofs.YtdjmckjbibfecaaGreatDoor
namespace Go.Proofs.YtdjmckjbibfecaaGreatDoor
open Go Go.RowKit Go.BigFrame Go.Maps

def firstStep (s : ByteArray) (o : Option Tree) (t : Tree) : Option Tree := match o with
  | some u => some u
  | none => if isAt t.kind && decide (t.field.toList = s.toList) then some t else none
theorem first_some (s : ByteArray) (u : Tree) : ∀ l : List Tree, l.foldl (firstStep s) (some u) = some u
  | [] => rfl
  | t :: l => by rw [List.foldl_cons]; exact first_some s u l
theorem first_find (s : ByteArray) : ∀ l : List Tree, l.foldl (firstStep s) none = l.find? fun t => isAt t.kind && decide (t.field.toList = s.toList)
  | [] => rfl
  | t :: l => by
    rw [List.foldl_cons, List.find?_cons]
    unfold firstStep
    cases h : isAt t.kind && decide (t.field.toList = s.toList) with
    | true => simp only [if_true]; exact first_some s t l
    | false => simp only [Bool.false_eq_true, if_false]; exact first_find s l
/-- The boxes of part's closure. -/
structure PrtS (W : World) (pf px xb : Nat) (X : Array Value) (o : Option Tree) : Prop where
  cure : Blk W xb 149 X
  ptr : Blk W px 147 #[.pointer (some ⟨xb, 0, none⟩)]
  first : match o with
    | none => Blk W pf 189 #[.pointer none]
    | some t => ∃ gN, Blk W pf 189 #[.pointer (some ⟨gN, 0, none⟩)] ∧ Blk W gN 24 t.cells
theorem PrtS.on {W W' : World} {pf px xb : Nat} {X : Array Value} {o : Option Tree} (h : PrtS W pf px xb X o) (hb : Below W.heap.size W W') : PrtS W' pf px xb X o := by
  refine ⟨h.cure.below hb h.cure.lt, h.ptr.below hb h.ptr.lt, ?_⟩
  have := h.first
  cases o with
  | none => exact Blk.below this hb this.lt
  | some t =>
    obtain ⟨gN, h1, h2⟩ := this
    exact ⟨gN, h1.below hb h1.lt, h2.below hb h2.lt⟩
theorem box_nep {t : TypeId} (h : boxT t) : t ≠ 189 := by
  rcases h with rfl | rfl | rfl | rfl | rfl | rfl <;> decide
theorem LstFr.but {base : Nat} {W W5 : World} {pf : Nat} {c : Array Value} (hbox : Blk W pf 189 c) (hpf : base ≤ pf) (hbut : But pf W W5) : LstFr base W W5 := by
  refine ⟨fun hb => ⟨hbut.os, hbut.tape, hbut.output, hbut.size, fun k hk => hbut.block k (Nat.lt_of_lt_of_le hk hb) (by omega)⟩, hbut.size, fun g t cs hblk ht => ?_⟩
  exact hblk.but hbut (Blk.ne_ hblk hbox (box_nep ht))
set_option maxRecDepth 100000 in
set_option maxHeartbeats 3200000 in
theorem part1c_any (t : Tree) (h : Int) (pf px xb base : Nat) (X : Array Value) (s : ByteArray) (hX : Hid (X[21]? = some (.string s))) (o : Option Tree) (w : World) (hS : Hid (PrtS w pf px xb X o)) (hpf : base ≤ pf) :
    Calls Tryz.prog 172 #[.agg t.cells, .int .i64 h, .pointer (some ⟨pf, 0, none⟩), .pointer (some ⟨px, 0, none⟩)] w fun e w' => e = .returned (.tuple #[]) ∧ PrtS w' pf px xb X (firstStep s o t) ∧ LstFr base w w' := by
  have hia := Lib.hid (fun W => isAtom_any t W)
  obtain ⟨O, hO⟩ : ∃ z, Hid (firstStep s o t = z) := ⟨_, rfl⟩
  have hO1 : Hid (∀ u, o = some u → O = o) := Lib.hid fun u hu => by rw [← hO.out, hu]; rfl
  obtain ⟨T, hTd⟩ : ∃ T, Hid (t = T) := ⟨_, rfl⟩
  have hO2 : Hid (∀ b1 b2, isAt t.kind = b1 → decide (t.field.toList = s.toList) = b2 → o = none → O = if (b1 && b2) = true then some T else none) := Lib.hid fun b1 b2 h1 h2 hu => by rw [← hO.out, hu, ← hTd.out, ← h1, ← h2]; rfl
  rw [hO.out]
  obtain ⟨k, p, f, x, n, A, c, L⟩ := t
  have hTc : Hid (T.cells = #[.int .i64 k, .int .i64 p, .string f, .string x, .int .i64 n, .slice A L.length c]) := by rw [← hTd.out]; exact Lib.hid rfl
  simp only [Tree.cells, Tree.kind, Tree.field] at hia hO2 ⊢
  clear hO hTd
  obtain ⟨w0, hw0⟩ : ∃ X, Hid (w.alloc (.cells #[.int .i64 k, .int .i64 p, .string f, .string x, .int .i64 n, .slice A L.length c] 24) = X) := ⟨_, rfl⟩
  have hb0 : Hid (Below w.heap.size w w0) := by rw [← hw0.out]; exact (Below.refl _ w).alloc (Nat.le_refl _) _
  have hN0 : Hid (Blk w0 w.heap.size 24 #[.int .i64 k, .int .i64 p, .string f, .string x, .int .i64 n, .slice A L.length c]) := by rw [← hw0.out]; exact Lib.hid (Blk.new _ _ _)
  have hS0 := Lib.hid (hS.out.on hb0.out)
  obtain ⟨gN, hgN⟩ : ∃ z, Hid (w.heap.size = z) := ⟨_, rfl⟩
  rw [hgN.out] at hN0
  have e0 : w.heap.size = gN := hgN.out
  have q0 : ∀ y : Ext w0, y.wd.cell? ⟨gN, 0, none⟩ = some (.int .i64 k) := fun y => (y.cell _ hN0.out.lt).trans (hN0.out.cell 0)
  have q1 : ∀ y : Ext w0, y.wd.cell? ⟨gN, 1, none⟩ = some (.int .i64 p) := fun y => (y.cell _ hN0.out.lt).trans (hN0.out.cell 1)
  have q2 : ∀ y : Ext w0, y.wd.cell? ⟨gN, 2, none⟩ = some (.string f) := fun y => (y.cell _ hN0.out.lt).trans (hN0.out.cell 2)
  have q3 : ∀ y : Ext w0, y.wd.cell? ⟨gN, 3, none⟩ = some (.string x) := fun y => (y.cell _ hN0.out.lt).trans (hN0.out.cell 3)
  have q4 : ∀ y : Ext w0, y.wd.cell? ⟨gN, 4, none⟩ = some (.int .i64 n) := fun y => (y.cell _ hN0.out.lt).trans (hN0.out.cell 4)
  have q5 : ∀ y : Ext w0, y.wd.cell? ⟨gN, 5, none⟩ = some (.slice A L.length c) := fun y => (y.cell _ hN0.out.lt).trans (hN0.out.cell 5)
  have qx : ∀ y : Ext w0, y.wd.cell? ⟨px, 0, none⟩ = some (.pointer (some ⟨xb, 0, none⟩)) := fun y => (y.cell _ hS0.out.ptr.lt).trans (hS0.out.ptr.cell 0)
  have qn : ∀ y : Ext w0, y.wd.cell? ⟨xb, 21, none⟩ = some (.string s) := fun y => (y.cell _ hS0.out.cure.lt).trans ((hS0.out.cure.cell 21).trans hX.out)
  have hia' : Hid (∀ y : Ext w0, Calls Tryz.prog 65 #[.agg #[.int .i64 k, .int .i64 p, .string f, .string x, .int .i64 n, .slice A L.length c]] y.wd fun e w' => e = .returned (.bool (isAt k)) ∧ Below y.wd.heap.size y.wd w') := Lib.hid fun y => hia.out y.wd
  clear hia
  cases o with
  | some u =>
    obtain ⟨g1, hf1, hf2⟩ := hS0.out.first
    have hf1' := Lib.hid hf1
    clear hf1 hf2
    have qf : ∀ y : Ext w0, y.wd.cell? ⟨pf, 0, none⟩ = some (.pointer (some ⟨g1, 0, none⟩)) := fun y => (y.cell _ hf1'.out.lt).trans (hf1'.out.cell 0)
    have hOe : Hid (O = some u) := hO1.out u rfl
    clear hO1 hO2
    go_enter Tryz.func172, Tryz.ntmps172
    go_wp2_with (rw [hw0.out])
    refine wp_region_ext (by kernel_rfl) (by kernel_rfl) ?_
    repeat (go_big_quiet_step (first | (go_at_call 65; exact Calls.ext_of (hia'.out _))))
    refine wpQuiet_nil ?_
    rintro _ ⟨y, rfl⟩
    have hB := Lib.hid (hb0.out.trans (y.below.mono hb0.out.size))
    clear q0 q1 q2 q3 q4 q5 qx qn qf
    go_wp2_with fail
    go_end0
    exact ⟨rfl, by rw [hOe.out]; exact hS.out.on hB.out, (lstGiver base).of hB.out⟩
  | none =>
    have hf1 : Blk w0 pf 189 #[.pointer none] := hS0.out.first
    have hf1' := Lib.hid hf1
    clear hf1
    have qf : ∀ y : Ext w0, y.wd.cell? ⟨pf, 0, none⟩ = some (.pointer none) := fun y => (y.cell _ hf1'.out.lt).trans (hf1'.out.cell 0)
    obtain ⟨b1, hb1⟩ : ∃ b, isAt k = b := ⟨_, rfl⟩
    obtain ⟨b2, hb2⟩ : ∃ b, decide (f.toList = s.toList) = b := ⟨_, rfl⟩
    have hOe := Lib.hid (hO2.out b1 b2 hb1 hb2 rfl)
    clear hO1 hO2
    have hb2' : (f.toList == s.toList) = b2 := by rw [← hb2]; rw [Bool.eq_iff_iff]; simp
    rw [hb1] at hia'
    clear hb1 hb2
    cases b1 with
    | false =>
      have hOf : Hid (O = none) := hOe.out
      go_enter Tryz.func172, Tryz.ntmps172
      go_wp2_with (rw [hw0.out])
      refine wp_region_ext (by kernel_rfl) (by kernel_rfl) ?_
      repeat (go_big_quiet_step (first | (go_at_call 65; exact Calls.ext_of (hia'.out _))))
      refine wpQuiet_nil ?_
      rintro _ ⟨y, rfl⟩
      have hB := Lib.hid (hb0.out.trans (y.below.mono hb0.out.size))
      clear q0 q1 q2 q3 q4 q5 qx qn qf
      go_wp2_with fail
      go_end0
      exact ⟨rfl, by rw [hOf.out]; exact hS.out.on hB.out, (lstGiver base).of hB.out⟩
    | true =>
    cases b2 with
    | false =>
      have hOf : Hid (O = none) := hOe.out
      go_enter Tryz.func172, Tryz.ntmps172
      go_wp2_with (rw [hw0.out])
      refine wp_region_ext (by kernel_rfl) (by kernel_rfl) ?_
      repeat (go_big_quiet_step (first | (go_at_call 65; exact Calls.ext_of (hia'.out _))))
      refine wpQuiet_nil ?_
      rintro _ ⟨y, rfl⟩
      have hB := Lib.hid (hb0.out.trans (y.below.mono hb0.out.size))
      clear q0 q1 q2 q3 q4 q5 qx qn qf
      go_wp2_with fail
      go_end0
      exact ⟨rfl, by rw [hOf.out]; exact hS.out.on hB.out, (lstGiver base).of hB.out⟩
    | true =>
      have hOf : Hid (O = some T) := hOe.out
      go_enter Tryz.func172, Tryz.ntmps172
      go_wp2_with (rw [hw0.out])
      refine wp_region_ext (by kernel_rfl) (by kernel_rfl) ?_
      repeat (go_big_quiet_step (first | (go_at_call 65; exact Calls.ext_of (hia'.out _))))
      refine wpQuiet_nil ?_
      rintro _ ⟨y, rfl⟩
      have hB := Lib.hid (hb0.out.trans (y.below.mono hb0.out.size))
      have hSy := Lib.hid (hS0.out.on y.below)
      have hNy := Lib.hid (hN0.out.below y.below hN0.out.lt)
      have hfy := Lib.hid (hf1'.out.below y.below hf1'.out.lt)
      clear q0 q1 q2 q3 q4 q5 qx qn qf
      go_wp2_with (refine wpList_puto rfl 189 (.tmp 2) (.tmp 4) rfl pf 0 _ #[.pointer (some ⟨gN, 0, none⟩)] 189 (.pointer (some ⟨gN, 0, none⟩)) rfl rfl hfy.out (by simp) rfl (by kernel_rfl) rfl ?_; intro w9 h9 hb9 hbut9; have h9' := Lib.hid h9; have hbut9' := Lib.hid hbut9; clear h9 hb9 hbut9)
      go_end0
      refine ⟨rfl, ?_, (lstGiver base).trans ((lstGiver base).of hB.out) (LstFr.but hfy.out hpf hbut9'.out)⟩
      rw [hOf.out]
      exact ⟨hSy.out.cure.but hbut9'.out (Blk.ne_ hSy.out.cure hfy.out (by decide)), hSy.out.ptr.but hbut9'.out (Blk.ne_ hSy.out.ptr hfy.out (by decide)), gN, h9'.out, by rw [hTc.out]; exact hNy.out.but hbut9'.out (Blk.ne_ hNy.out hfy.out (by decide))⟩
end Go.Proofs.YtdjmckjbibfecaaGreatDoor
namespace Go.Proofs.YtdjmckjbibfecaaGreatDoor
open Go Go.RowKit Go.BigFrame Go.Maps

theorem give_part (w0 : World) (pf px xb : Nat) (hpf : w0.heap.size ≤ pf) (X : Array Value) (s : ByteArray) (hX : Hid (X[21]? = some (.string s))) (docs : List Pap) (d : Pap) :
    GiveS w0 w0.heap.size docs d (LstFr w0.heap.size) (fun (o : Option Tree) W => PrtS W pf px xb X o) (fun _ => True) (fun _ => True) (firstStep s) 172 #[.pointer (some ⟨pf, 0, none⟩), .pointer (some ⟨px, 0, none⟩)] where
  giver := lstGiver _
  inv := fun _ _ _ h hb => h.on hb
  call := fun o t W _ _ _ _ _ hI => part1c_any t (holdsT docs d t) pf px xb w0.heap.size X s hX o W (Lib.hid hI) hpf
  enters := enters_of Tryz.func172 (by kernel_rfl) rfl
theorem partM_none {needs : List Nd} {docs : List Pap} {d : Pap} {s : ByteArray} (h : (failL needs docs d).foldl (firstStep s) none = none) : partM needs docs d s = none := by
  unfold partM; rw [← first_find, h]; rfl
theorem partM_some {needs : List Nd} {docs : List Pap} {d : Pap} {s : ByteArray} {t : Tree} (h : (failL needs docs d).foldl (firstStep s) none = some t) : partM needs docs d s = curT docs (getV d.fields s) t ∧ t ∈ failL needs docs d := by
  rw [first_find] at h
  unfold partM
  rw [h]
  exact ⟨rfl, List.mem_of_find?_eq_some h⟩
set_option maxRecDepth 100000 in
set_option maxHeartbeats 6400000 in
theorem cpart_any (w : World) (C : Array Value) (c : Crd) (A : Option Addr) (nn cc : Nat) (docs : List Pap) (day : Int) (a : Nat) (d : Pap) (s v : ByteArray) (b : Bool) (xb : Nat) (hS : Hid (CureS w C c A nn cc docs day a d s v b xb)) (hvz : Hid (v.size ≤ 4000000))
    (nA : Option Addr) (nl nc : Nat) (needs : List Nd) (hnl : Hid (needs.length = nl)) (hl12 : nl ≤ 1000) (hC17 : Hid (C[17]? = some (.slice nA nl nc))) (hN : Hid (NdsAt w nA needs)) (hnum : Hid (∀ t ∈ failL needs docs d, t.text.size ≤ 4000000 ∧ (-9223372036854775808 ≤ t.num ∧ t.num ≤ 9223372036854775807))) :
    Calls Tryz.prog 122 #[.pointer (some ⟨xb, 0, none⟩)] w (Cured (partM needs docs d s) w) := by
  have hsz := Lib.hid hS.out.crd.size
  have hnn := hS.out.room.most
  have hlen := Lib.hid hS.out.room.len
  obtain ⟨w1, hw1⟩ : ∃ X, Hid ((w.alloc (.cells #[.pointer (some ⟨xb, 0, none⟩)] 147)).alloc (.cells #[.pointer none] 189) = X) := ⟨_, rfl⟩
  have hs1 : (w.alloc (.cells #[.pointer (some ⟨xb, 0, none⟩)] 147)).heap.size = w.heap.size + 1 := by simp
  have hb1 : Hid (Below w.heap.size w w1) := by
    rw [← hw1.out]
    have h1 := (Below.refl w.heap.size w).alloc (Nat.le_refl _) (.cells #[.pointer (some ⟨xb, 0, none⟩)] 147)
    exact h1.alloc h1.size _
  have hP1 : Hid (Blk w1 w.heap.size 147 #[.pointer (some ⟨xb, 0, none⟩)]) := by rw [← hw1.out]; exact Lib.hid ((Blk.new _ _ _).alloc _)
  have hF1 : Hid (Blk w1 (w.heap.size + 1) 189 #[.pointer none]) := by rw [← hw1.out, ← hs1]; exact Lib.hid (Blk.new _ _ _)
  have hS1 := Lib.hid (hS.out.below hb1.out)
  obtain ⟨X, hXd⟩ : ∃ X, Hid (cuX C A nn cc day (a : Int) s v b = X) := ⟨_, rfl⟩
  have hX18 : Hid (X[18]? = some (.slice A nn cc)) := by rw [← hXd.out]; exact Lib.hid (cuX_docs hsz.out)
  have hX20 : Hid (X[20]? = some (.int .i64 (a : Int))) := by rw [← hXd.out]; exact Lib.hid (cuX_at hsz.out)
  have hX21 : Hid (X[21]? = some (.string s)) := by rw [← hXd.out]; exact Lib.hid (cuX_name hsz.out)
  have hX22 : Hid (X[22]? = some (.string v)) := by rw [← hXd.out]; exact Lib.hid (cuX_value hsz.out)
  have hXr : Hid (∀ W, Blk W xb 149 X → W.rangeAt xb 0 C.toList) := by rw [← hXd.out]; exact Lib.hid fun W h => cuX_range hsz.out h
  have hK1 : Hid (Blk w1 xb 149 X) := by rw [← hXd.out]; exact Lib.hid hS1.out.blk
  have hp1 : Hid (PrtS w1 (w.heap.size + 1) w.heap.size xb X none) := Lib.hid ⟨hK1.out, hP1.out, hF1.out⟩
  have hval := Lib.hid hS.out.val
  have hlt : a < nn := by have := (List.getElem?_eq_some_iff.1 hS.out.at_).1; have := hlen.out; omega
  have H := Lib.hid (give_part w (w.heap.size + 1) w.heap.size xb (by omega) X s hX21 docs d)
  have hfa := Lib.hid (fun (W : World) (hI : PrtS W (w.heap.size + 1) w.heap.size xb X none) (hB : Below w.heap.size w W) => failing_any H A nn cc a (Lib.hid hS.out.at_) (Lib.hid hS.out.room) C nA nl nc needs hnl hl12 hC17 hN (Lib.hid fun _ _ _ _ _ => trivial) W none (Lib.hid fun _ => trivial) (Lib.hid hI) (Lib.hid hB))
  obtain ⟨O, hO⟩ : ∃ z, Hid ((failL needs docs d).foldl (firstStep s) none = z) := ⟨_, rfl⟩
  have hPn : Hid (O = none → partM needs docs d s = none) := Lib.hid fun h => partM_none (hO.out.trans h)
  have hPs : Hid (∀ t, O = some t → partM needs docs d s = curT docs v t ∧ (t.text.size ≤ 4000000 ∧ (-9223372036854775808 ≤ t.num ∧ t.num ≤ 9223372036854775807))) := Lib.hid fun t h => by
    obtain ⟨h1, h2⟩ := partM_some (hO.out.trans h)
    rw [hval.out] at h1
    exact ⟨h1, hnum.out t h2⟩
  rw [hO.out] at hfa
  obtain ⟨P, hPd⟩ : ∃ z, Hid (partM needs docs d s = z) := ⟨_, rfl⟩
  rw [hPd.out] at hPn hPs ⊢
  have hroom := Lib.hid hS.out.room
  obtain ⟨px, hpx⟩ : ∃ z, Hid (w.heap.size = z) := ⟨_, rfl⟩
  obtain ⟨pf, hpf⟩ : ∃ z, Hid (w.heap.size + 1 = z) := ⟨_, rfl⟩
  have e1 : w.heap.size = px := hpx.out
  have e2 : px + 1 = pf := by rw [← hpx.out]; exact hpf.out
  rw [hpf.out] at hp1 hfa
  have hp1' : Hid (PrtS w1 pf px xb X none) := by rw [← hpx.out]; exact hp1
  have hfa' : Hid (∀ W, PrtS W pf px xb X none → Below w.heap.size w W → Calls Tryz.prog 63 #[.agg C, .slice A nn cc, .int .i64 (a : Int), .func (.func 172) #[] #[.pointer (some ⟨pf, 0, none⟩), .pointer (some ⟨px, 0, none⟩)]] W fun e w' => e = .returned (.tuple #[]) ∧ PrtS w' pf px xb X O ∧ LstFr w.heap.size W w') := by
    rw [← hpx.out]
    exact Lib.hid fun W h1 h2 => hfa.out W h1 h2
  clear hnum hO hval hPd hP1 hF1 hK1 hS1 hs1 H hfa hp1 hS
  unfold Cured
  go_enter Tryz.func122, Tryz.ntmps122
  go_wp2_with (rw [hw1.out])
  clear e1 e2
  refine wp_region_held (S := fun W => Blk W xb 149 X ∧ Blk W px 147 #[.pointer (some ⟨xb, 0, none⟩)]) (by kernel_rfl) ?_
  have hSP : PrtS w1.drew pf px xb X none := hp1'.out.on (below_drewN (Below.refl _ w1) 1)
  have hSV : Blk w1.drew xb 149 X ∧ Blk w1.drew px 147 #[.pointer (some ⟨xb, 0, none⟩)] := ⟨hSP.cure, hSP.ptr⟩
  refine wpAnyH_take (i := 0) rfl (by kernel_rfl) (by kernel_rfl) (by kernel_rfl) (fun _ _ _ h => h) (yields_of (v := .pointer (some ⟨xb, 0, none⟩)) rfl (fun W hW => by have g0 : W.cell? ⟨px, 0, none⟩ = some (.pointer (some ⟨xb, 0, none⟩)) := hW.2.cell 0; go_simp)) hSV ?_
  go_simp
  refine wpAnyH_take (i := 1) rfl (by kernel_rfl) (by kernel_rfl) (by kernel_rfl) (fun _ _ _ h => h) (yields_of rfl (fun _ _ => rfl)) hSV ?_
  go_simp
  refine wpAnyH_take (i := 2) rfl (by kernel_rfl) (by kernel_rfl) (by kernel_rfl) (fun _ _ _ h => h) (yields_of (v := .pointer (some ⟨xb, 0, none⟩)) rfl (fun W hW => by go_simp)) hSV ?_
  go_simp
  refine wpAnyH_take (i := 3) rfl (by kernel_rfl) (by kernel_rfl) (by kernel_rfl) (fun _ _ _ h => h) (yieldsIf_load_mid (by simp [Region.wanted]) 46 (.tmp 7) rfl xb 0 rfl C.toList _ (fun W hW => hXr.out W hW.1) Tryz.underlying46 rfl (by rw [Array.length_toList, hsz.out]; kernel_rfl)) hSV ?_
  go_simp
  refine wpAnyH_take (i := 4) rfl (by kernel_rfl) (by kernel_rfl) (by kernel_rfl) (fun _ _ _ h => h) (yields_of (v := .pointer (some ⟨xb, 0, none⟩)) rfl (fun W hW => by have g0 : W.cell? ⟨px, 0, none⟩ = some (.pointer (some ⟨xb, 0, none⟩)) := hW.2.cell 0; go_simp)) hSV ?_
  go_simp
  refine wpAnyH_take (i := 5) rfl (by kernel_rfl) (by kernel_rfl) (by kernel_rfl) (fun _ _ _ h => h) (yields_of rfl (fun _ _ => rfl)) hSV ?_
  go_simp
  refine wpAnyH_take (i := 6) rfl (by kernel_rfl) (by kernel_rfl) (by kernel_rfl) (fun _ _ _ h => h) (yields_of (v := .pointer (some ⟨xb, 18, none⟩)) rfl (fun W hW => by go_simp)) hSV ?_
  go_simp
  refine wpAnyH_take (i := 7) rfl (by kernel_rfl) (by kernel_rfl) (by kernel_rfl) (fun _ _ _ h => h) (yields_of (v := .slice A nn cc) rfl (fun W hW => by have g0 : W.cell? ⟨xb, 18, none⟩ = some (.slice A nn cc) := (hW.1.cell 18).trans hX18.out; go_simp)) hSV ?_
  go_simp
  refine wpAnyH_take (i := 8) rfl (by kernel_rfl) (by kernel_rfl) (by kernel_rfl) (fun _ _ _ h => h) (yields_of (v := .pointer (some ⟨xb, 0, none⟩)) rfl (fun W hW => by have g0 : W.cell? ⟨px, 0, none⟩ = some (.pointer (some ⟨xb, 0, none⟩)) := hW.2.cell 0; go_simp)) hSV ?_
  go_simp
  refine wpAnyH_take (i := 9) rfl (by kernel_rfl) (by kernel_rfl) (by kernel_rfl) (fun _ _ _ h => h) (yields_of rfl (fun _ _ => rfl)) hSV ?_
  go_simp
  refine wpAnyH_take (i := 10) rfl (by kernel_rfl) (by kernel_rfl) (by kernel_rfl) (fun _ _ _ h => h) (yields_of (v := .pointer (some ⟨xb, 20, none⟩)) rfl (fun W hW => by go_simp)) hSV ?_
  go_simp
  refine wpAnyH_take (i := 11) rfl (by kernel_rfl) (by kernel_rfl) (by kernel_rfl) (fun _ _ _ h => h) (yields_of (v := .int .i64 (a : Int)) rfl (fun W hW => by have g0 : W.cell? ⟨xb, 20, none⟩ = some (.int .i64 (a : Int)) := (hW.1.cell 20).trans hX20.out; go_simp)) hSV ?_
  go_simp
  refine wpAnyH_take (i := 12) rfl (by kernel_rfl) (by kernel_rfl) (by kernel_rfl) (fun _ _ _ h => h) (yields_of rfl (fun _ _ => rfl)) hSV ?_
  go_simp
  refine wpAnyH_all (rs := [13]) (by kernel_rfl) (by decide) ?_
  intro i hi'
  obtain rfl := List.mem_singleton.1 hi'
  refine held_call (f := 63) (args := #[.agg C, .slice A nn cc, .int .i64 (a : Int), .func (.func 172) #[] #[.pointer (some ⟨pf, 0, none⟩), .pointer (some ⟨px, 0, none⟩)]]) rfl rfl (by go_simp) ?_
  refine (hfa'.out w1.drew hSP (below_drewN hb1.out 1)).mono ?_
  rintro e w2 ⟨rfl, hI2, hF2⟩
  have hB2 : Hid (Below w.heap.size w w2) := (below_drewN hb1.out 1).trans (hF2.1 (below_drewN hb1.out 1).size)
  have hI2' := Lib.hid hI2
  clear hI2 hF2 hfa' hSV hSP hp1' hb1 hi'
  refine ⟨_, rfl, ?_⟩
  refine ⟨⟨hI2'.out.cure, hI2'.out.ptr⟩, ?_⟩
  go_simp
  refine wpAnyH_done (by kernel_rfl) ?_ _
  cases O with
  | none =>
    have hPe : Hid (P = none) := hPn.out rfl
    have hf := Lib.hid hI2'.out.first
    have qf : w2.cell? ⟨pf, 0, none⟩ = some (.pointer none) := (show Blk w2 pf 189 #[.pointer none] from hf.out).cell 0
    clear hPn hPs
    go_wp2_with fail
    go_ret2
    exact ⟨by rw [hPe.out]; rfl, hB2.out⟩
  | some t =>
    obtain ⟨hPt, hts, htn⟩ := hPs.out t rfl
    have hPt' := Lib.hid hPt
    have htn' := Lib.hid htn
    have hts' := Lib.hid hts
    obtain ⟨gN, hf1, hf2⟩ := hI2'.out.first
    have hf1' := Lib.hid hf1
    have hf2' := Lib.hid hf2
    clear hPn hPs hPt hts htn hf1 hf2
    obtain ⟨k, p, f, x, n, A', c', L⟩ := t
    simp only [curT, Tree.text, Tree.num, Tree.cells] at hPt' htn' hts' hf2'
    have qf : w2.cell? ⟨pf, 0, none⟩ = some (.pointer (some ⟨gN, 0, none⟩)) := hf1'.out.cell 0
    have q0 : w2.cell? ⟨gN, 0, none⟩ = some (.int .i64 k) := hf2'.out.cell 0
    have q1 : w2.cell? ⟨gN, 1, none⟩ = some (.int .i64 p) := hf2'.out.cell 1
    have q3 : w2.cell? ⟨gN, 3, none⟩ = some (.string x) := hf2'.out.cell 3
    have q4 : w2.cell? ⟨gN, 4, none⟩ = some (.int .i64 n) := hf2'.out.cell 4
    by_cases h3 : k = 3
    · have hPe : Hid (P = some x) := by unfold Hid; rw [hPt'.out, if_pos h3]
      have b3 : (k == 3) = true := by simp [h3]
      clear h3 hPt'
      go_wp2_with fail
      go_ret2
      exact ⟨by rw [hPe.out]; rfl, hB2.out⟩
    · have b3 : (k == 3) = false := by simp [h3]
      by_cases h4 : k = 4
      · have hPe : Hid (P = some (v ++ x)) := by unfold Hid; rw [hPt'.out, if_neg h3, if_pos h4]
        have b4 : (k == 4) = true := by simp [h4]
        have x22 : w2.cell? ⟨xb, 22, none⟩ = some (.string v) := (hI2'.out.cure.cell 22).trans hX22.out
        have xp : w2.cell? ⟨px, 0, none⟩ = some (.pointer (some ⟨xb, 0, none⟩)) := hI2'.out.ptr.cell 0
        have hv1 := hvz.out
        have hx1 := hts'.out
        clear h3 h4 hPt'
        go_wp2_with fail
        go_quiet (fail)
        go_wp2_with fail
        go_ret2
        exact ⟨by rw [hPe.out]; rfl, below_drewN hB2.out _⟩
      · have b4 : (k == 4) = false := by simp [h4]
        by_cases h7 : k = 7
        · have hPe : Hid (P = fieldD docs p x) := by unfold Hid; rw [hPt'.out, if_neg h3, if_neg h4, if_pos h7]
          have b7 : (k == 7) = true := by simp [h7]
          have hfd : Hid (∀ y : Ext w2, Calls Tryz.prog 100 #[.slice A nn cc, .int .i64 p, .string x] y.wd fun e w' => e = .returned (.tuple #[.string ((fieldD docs p x).getD ⟨#[]⟩), .bool (fieldD docs p x).isSome]) ∧ Below y.wd.heap.size y.wd w') := Lib.hid fun y => field_any A nn cc docs p x y.wd (by unfold maxLen; omega) hlen (Lib.hid (hroom.out.at_.below (hB2.out.trans (y.below.mono hB2.out.size))))
          obtain ⟨FD, hFD⟩ : ∃ z, fieldD docs p x = z := ⟨_, rfl⟩
          rw [hFD] at hfd hPe
          have y1 : ∀ y : Ext w2, y.wd.cell? ⟨gN, 1, none⟩ = some (.int .i64 p) := fun y => (y.cell _ hf2'.out.lt).trans q1
          have y3 : ∀ y : Ext w2, y.wd.cell? ⟨gN, 3, none⟩ = some (.string x) := fun y => (y.cell _ hf2'.out.lt).trans q3
          have yf : ∀ y : Ext w2, y.wd.cell? ⟨pf, 0, none⟩ = some (.pointer (some ⟨gN, 0, none⟩)) := fun y => (y.cell _ hf1'.out.lt).trans qf
          have yx : ∀ y : Ext w2, y.wd.cell? ⟨xb, 18, none⟩ = some (.slice A nn cc) := fun y => (y.cell _ hI2'.out.cure.lt).trans ((hI2'.out.cure.cell 18).trans hX18.out)
          have yp : ∀ y : Ext w2, y.wd.cell? ⟨px, 0, none⟩ = some (.pointer (some ⟨xb, 0, none⟩)) := fun y => (y.cell _ hI2'.out.ptr.lt).trans (hI2'.out.ptr.cell 0)
          clear h3 h4 h7 hPt' hFD
          go_wp2_with fail
          refine wp_region_ext (by kernel_rfl) (by kernel_rfl) ?_
          repeat (go_big_quiet_step (first | (go_at_call 100; exact Calls.ext_of (hfd.out _))))
          refine wpQuiet_nil ?_
          rintro _ ⟨y, rfl⟩
          have hBy := Lib.hid (hB2.out.trans (y.below.mono hB2.out.size))
          clear y1 y3 yf yx yp hfd
          go_wp2_with fail
          go_ret2
          exact ⟨by rw [hPe.out]; rfl, hBy.out⟩
        · have hPe : Hid (P = some (mkB (Lib.itoa n))) := by unfold Hid; rw [hPt'.out, if_neg h3, if_neg h4, if_neg h7]
          have b7 : (k == 7) = false := by simp [h7]
          have hdg := Lib.hid (cdigits_any n w2 htn'.out (Lib.hid (hroom.out.env.below hB2.out)))
          clear h3 h4 h7 hPt'
          go_wp2_with fail
          refine hdg.out.mono ?_
          rintro e w3 ⟨rfl, hb3⟩
          have hB3 : Hid (Below w.heap.size w w3) := hB2.out.trans (hb3.mono hB2.out.size)
          clear hb3 hdg
          go_wp2_with fail
          go_ret2
          exact ⟨by rw [hPe.out]; rfl, hB3.out⟩
end Go.Proofs.YtdjmckjbibfecaaGreatDoor

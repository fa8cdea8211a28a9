/- The first closure of core.Least. -/
import Derived.Test.YtdjmckjbibfecaaGreatDoorJa
import Derived.Test.YtdjmckjbibfecaaGreatDoorOb
namespace Go.Proofs.YtdjmckjbibfecaaGreatDoor
open Go Go.RowKit Go.BigFrame Go.Maps

/-- Is a fault a paper's, without a field? -/
def wholeB (n : Nat) (f : Flt) : Bool := decide (0 ≤ f.paper) && decide (f.paper < (n : Int)) && f.field.toList.isEmpty
set_option maxRecDepth 100000 in
set_option maxHeartbeats 1600000 in
theorem whole_any (f : Flt) (A : Option Addr) (n c : Nat) (w : World) :
    Calls Tryz.prog 62 #[f.agg, .slice A n c] w fun e w' => e = .returned (.bool (wholeB n f)) ∧ Below w.heap.size w w' := by
  obtain ⟨fp, fk, ff, fw⟩ := f
  simp only [Flt.agg]
  obtain ⟨w0, hw0⟩ : ∃ X, Hid (w.alloc (.cells #[.int .i64 fp, .int .i64 fk, .string ff, .int .i64 fw] 54) = X) := ⟨_, rfl⟩
  have hb0 : Hid (Below w.heap.size w w0) := by rw [← hw0.out]; exact (Below.refl _ w).alloc (Nat.le_refl _) _
  have hF0 : Hid (Blk w0 w.heap.size 54 #[.int .i64 fp, .int .i64 fk, .string ff, .int .i64 fw]) := by rw [← hw0.out]; exact Lib.hid (Blk.new _ _ _)
  have q0 : w0.cell? ⟨w.heap.size, 0, none⟩ = some (.int .i64 fp) := hF0.out.cell 0
  have q2 : w0.cell? ⟨w.heap.size, 2, none⟩ = some (.string ff) := hF0.out.cell 2
  obtain ⟨W, hW⟩ : ∃ b, Hid (wholeB n ⟨fp, fk, ff, fw⟩ = b) := ⟨_, rfl⟩
  rw [hW.out]
  have hW' : Hid (W = (decide (0 ≤ fp) && decide (fp < (n : Int)) && ff.toList.isEmpty)) := hW.out.symm
  clear hW
  obtain ⟨b1, hb1⟩ : ∃ b, decide (0 ≤ fp) = b := ⟨_, rfl⟩
  obtain ⟨b2, hb2⟩ : ∃ b, decide (fp < (n : Int)) = b := ⟨_, rfl⟩
  obtain ⟨b3, hb3⟩ : ∃ b, ff.toList.isEmpty = b := ⟨_, rfl⟩
  rw [hb1, hb2, hb3] at hW'
  go_enter Tryz.func62, Tryz.ntmps62
  cases b1 <;> cases b2
  all_goals
    go_wp2_with (rw [hw0.out])
    go_ret
    exact ⟨retBl (by rw [hW'.out, ← hb3]; simp), hb0.out⟩
set_option maxRecDepth 100000 in
set_option maxHeartbeats 1600000 in
theorem least2_any (t : Tree) (h : Int) (v : Value) (w : World) (hT : Hid (TreeAt w t)) (h12 : isAt t.kind = true ∨ (atomsT t).length ≤ 12) :
    Calls Tryz.prog 67 #[.agg t.cells, .int .i64 h, v] w fun e w' => e = .returned (.tuple #[]) ∧ Below w.heap.size w w' := by
  have hia := Lib.hid (fun W => isAtom_any t W)
  have hat := Lib.hid (fun W (hTW : TreeAt W t) (hle : (atomsT t).length ≤ 1000) => atoms_any t W (Lib.hid hTW) hle)
  obtain ⟨T, hTd⟩ : ∃ T, Hid (t = T) := ⟨_, rfl⟩
  obtain ⟨k, p, f, x, n, A, c, L⟩ := t
  simp only [Tree.cells] at hia hat ⊢
  rw [hTd.out] at hT hat h12
  have hk : Hid (T.kind = k) := by rw [← hTd.out]; rfl
  rw [hk.out] at h12
  simp only [Tree.kind] at hia
  clear hTd
  obtain ⟨w0, hw0⟩ : ∃ X, Hid (w.alloc (.cells #[.int .i64 k, .int .i64 p, .string f, .string x, .int .i64 n, .slice A L.length c] 24) = X) := ⟨_, rfl⟩
  have hb0 : Hid (Below w.heap.size w w0) := by rw [← hw0.out]; exact (Below.refl _ w).alloc (Nat.le_refl _) _
  have hN0 : Hid (Blk w0 w.heap.size 24 #[.int .i64 k, .int .i64 p, .string f, .string x, .int .i64 n, .slice A L.length c]) := by rw [← hw0.out]; exact Lib.hid (Blk.new _ _ _)
  have q0 : w0.cell? ⟨w.heap.size, 0, none⟩ = some (.int .i64 k) := hN0.out.cell 0
  have q1 : w0.cell? ⟨w.heap.size, 1, none⟩ = some (.int .i64 p) := hN0.out.cell 1
  have q2 : w0.cell? ⟨w.heap.size, 2, none⟩ = some (.string f) := hN0.out.cell 2
  have q3 : w0.cell? ⟨w.heap.size, 3, none⟩ = some (.string x) := hN0.out.cell 3
  have q4 : w0.cell? ⟨w.heap.size, 4, none⟩ = some (.int .i64 n) := hN0.out.cell 4
  have q5 : w0.cell? ⟨w.heap.size, 5, none⟩ = some (.slice A L.length c) := hN0.out.cell 5
  have hia0 := Lib.hid (hia.out w0)
  obtain ⟨b, hb⟩ : ∃ b, isAt k = b := ⟨_, rfl⟩
  rw [hb] at hia0 h12
  clear hia
  go_enter Tryz.func67, Tryz.ntmps67
  go_wp2_with (rw [hw0.out])
  refine hia0.out.mono ?_
  rintro e w1 ⟨rfl, hb1⟩
  have hB1 : Hid (Below w.heap.size w w1) := hb0.out.trans (hb1.mono hb0.out.size)
  have hN1 := Lib.hid (hN0.out.below hb1 hN0.out.lt)
  clear q0 q1 q2 q3 q4 q5 hb1 hia0
  cases b with
  | true =>
    go_wp2_with fail
    go_end0
    exact ⟨rfl, hB1.out⟩
  | false =>
    have hle : (atomsT T).length ≤ 12 := h12.resolve_left (by decide)
    have hat1 := Lib.hid (hat.out w1 (hT.out.below hB1.out) (by omega))
    obtain ⟨m, hm⟩ : ∃ z, Hid ((atomsT T).length = z) := ⟨_, rfl⟩
    rw [hm.out] at hat1 hle
    have q0 : w1.cell? ⟨w.heap.size, 0, none⟩ = some (.int .i64 k) := hN1.out.cell 0
    have q1 : w1.cell? ⟨w.heap.size, 1, none⟩ = some (.int .i64 p) := hN1.out.cell 1
    have q2 : w1.cell? ⟨w.heap.size, 2, none⟩ = some (.string f) := hN1.out.cell 2
    have q3 : w1.cell? ⟨w.heap.size, 3, none⟩ = some (.string x) := hN1.out.cell 3
    have q4 : w1.cell? ⟨w.heap.size, 4, none⟩ = some (.int .i64 n) := hN1.out.cell 4
    have q5 : w1.cell? ⟨w.heap.size, 5, none⟩ = some (.slice A L.length c) := hN1.out.cell 5
    clear h12 hat
    go_wp2_with fail
    refine hat1.out.mono ?_
    rintro e w2 ⟨v2, rfl, ho2, hb2⟩
    obtain ⟨A2, c2, rfl⟩ := own_form ho2
    have hB2 : Hid (Below w.heap.size w w2) := hB1.out.trans (hb2.mono hB1.out.size)
    have d1 : decide ((12 : Int) < (m : Int)) = false := decide_eq_false (by omega)
    have d2 : decide (12 < m) = false := decide_eq_false (by omega)
    clear ho2 hb2 q0 q1 q2 q3 q4 q5 hat1
    go_wp2_with fail
    go_end0
    exact ⟨rfl, hB2.out⟩
end Go.Proofs.YtdjmckjbibfecaaGreatDoor
namespace Go.Proofs.YtdjmckjbibfecaaGreatDoor
open Go Go.RowKit Go.BigFrame Go.Maps

def tyL (v : Value) (T : Array Value) (A : Option Addr) (nn cc : Nat) (a : Nat) (f : Flt) (M : List Flt) : List Ty := [Is v, Is (.agg T), Is (.slice A nn cc), Is (.agg #[.int .i64 (a : Int), .int .i64 f.kind, .string f.field, .int .i64 f.why]), RowF M]
theorem tyL_mono (v : Value) (T : Array Value) (A : Option Addr) (nn cc : Nat) (a : Nat) (f : Flt) (M : List Flt) : MonoL (tyL v T A nn cc a f M) := ⟨mono_is _, mono_is _, mono_is _, mono_is _, mono_RowF _, trivial⟩
/-- The finer faults' box and row, the fault's box. -/
structure LstS (AF : Option Addr) (LF : List Flt) (W : World) (B gl gf : Nat) (C : Array Value) (v : Value) (L : List Flt) : Prop where
  rest : FaultsAt W AF LF
  off : LF ≠ [] → ∀ b o, AF = some ⟨b, o, none⟩ → v.ownBlock ≠ some b ∧ gl ≠ b
  box : Blk W gl 47 #[v]
  row : W.ownsRow B 54 4 v L.length (fcells L)
  fault : Blk W gf 54 C
  apart : v.ownBlock ≠ some gf
/-- What the closure leaves. -/
def LstFr (base : Nat) (a b : World) : Prop := (base ≤ a.heap.size → Below base a b) ∧ a.heap.size ≤ b.heap.size ∧ ∀ (g : Nat) (t : TypeId) (cs : Array Value), Blk a g t cs → boxT t → Blk b g t cs
theorem lstGiver (base : Nat) : Giver base (LstFr base) where
  refl W := ⟨fun _ => Below.refl _ W, Nat.le_refl _, fun _ _ _ h _ => h⟩
  trans h k := ⟨fun hb => (h.1 hb).trans (k.1 (Nat.le_trans hb h.2.1)), Nat.le_trans h.2.1 k.2.1, fun g t cs hB ht => k.2.2 g t cs (h.2.2 g t cs hB ht) ht⟩
  of h := ⟨fun hb => h.mono hb, h.size, fun _ _ _ hB _ => hB.below h hB.lt⟩
  low h hb := h.1 hb
  size h := h.2.1
  blk h hb ht := h.2.2 _ _ _ hb ht
theorem LstS.on {AF : Option Addr} {LF : List Flt} {W W' : World} {B gl gf : Nat} {C : Array Value} {v : Value} {L : List Flt} (h : LstS AF LF W B gl gf C v L) (hb : Below W.heap.size W W') : LstS AF LF W' B gl gf C v L :=
  ⟨h.rest.below hb, h.off, h.box.below hb h.box.lt, own_below h.row hb, h.fault.below hb h.fault.lt, h.apart⟩
theorem box_ne {t : TypeId} (h : boxT t) : t ≠ 54 ∧ t ≠ 47 := by
  rcases h with rfl | rfl | rfl | rfl | rfl | rfl <;> decide
/-- The row grown, and stored in its box. -/
theorem LstS.put {AF : Option Addr} {LF : List Flt} {W W3 W5 : World} {B gl gf : Nat} {C : Array Value} {v v' : Value} {L M : List Flt} (h : LstS AF LF W B gl gf C v L) (hg : W.grownBy W3 v.ownBlock) (hv : v'.ownBlock = v.ownBlock ∨ v'.ownBlock = some W.heap.size)
    (ho : W3.ownsRow B 54 4 v' (L.length + M.length) (fcells L ++ fcells M)) (hb : Blk W5 gl 47 #[v']) (hbut : But gl W3 W5) : LstS AF LF W5 B gl gf C v' (L ++ M) := by
  have hl3 := Blk.kept h.box hg (own_blk_ne h.row h.box (by decide))
  have hf3 := Blk.kept h.fault hg h.apart
  have hrb : ∀ k x, LF[k]? = some x → ∃ b o, AF = some ⟨b, o, none⟩ ∧ b < W.heap.size ∧ v.ownBlock ≠ some b ∧ gl ≠ b := fun k x hx => by
    obtain ⟨b, o, e, h0, _⟩ := h.rest k x hx
    obtain ⟨h1, h2⟩ := h.off (by rintro rfl; simp at hx) b o e
    exact ⟨b, o, e, World.block_lt_of_cell? W _ h0, h1, h2⟩
  refine ⟨fun k x hx => ?_, fun hne b o e => ?_, hb, ?_, hf3.but hbut (Blk.ne_ hf3 hl3 (by decide)), ?_⟩
  · obtain ⟨b, o, e, hc⟩ := h.rest k x hx
    obtain ⟨b', o', e', hlt, h1, h2⟩ := hrb k x hx
    rw [e] at e'
    simp only [Option.some.injEq, Addr.mk.injEq, and_true] at e'
    obtain ⟨rfl, rfl⟩ := e'
    have hk : ∀ p : Addr, p.block = b → W5.cell? p = W.cell? p := fun p hp => by
      rw [World.cell?_of_block (w := W3) (hbut.block p.block (by rw [hp]; exact Nat.lt_of_lt_of_le hlt hg.size) (by rw [hp]; exact fun e => h2 e.symm))]
      exact hg.cell_far p (by rw [hp]; exact hlt) (by rw [hp]; exact fun e => h1 e.symm)
    refine ⟨b, o, e, ?_⟩
    simpa only [hk ⟨b, _, none⟩ rfl] using hc
  · obtain ⟨x, hx⟩ : ∃ x, LF[0]? = some x := ⟨_, List.getElem?_eq_getElem (List.length_pos_iff.2 hne)⟩
    obtain ⟨b', o', e', hlt, h1, h2⟩ := hrb 0 x hx
    rw [e] at e'
    simp only [Option.some.injEq, Addr.mk.injEq, and_true] at e'
    obtain ⟨rfl, rfl⟩ := e'
    refine ⟨?_, h2⟩
    rcases hv with e1 | e1
    · rw [e1]; exact h1
    · rw [e1]
      intro h9
      injection h9 with h9
      omega
  · have := own_but ho hbut hl3 (by decide)
    rw [List.length_append]
    unfold fcells at this ⊢
    rw [List.flatMap_append]
    exact this
  · rcases hv with e | e
    · rw [e]; exact h.apart
    · rw [e]
      have := h.fault.lt
      intro h9
      injection h9 with h9
      omega
theorem LstFr.put {base : Nat} {W W3 W5 : World} {B gl : Nat} {v : Value} {n : Nat} {xs : List Value} (hrow : W.ownsRow B 54 4 v n xs) (hbox : Blk W gl 47 #[v]) (hB : base ≤ B) (hgl : base ≤ gl) (hg : W.grownBy W3 v.ownBlock) (hbut : But gl W3 W5) : LstFr base W W5 := by
  have hl3 := Blk.kept hbox hg (own_blk_ne hrow hbox (by decide))
  refine ⟨fun hb => ?_, Nat.le_trans hg.size hbut.size, fun g t cs hblk ht => ?_⟩
  · have h1 : Below base W W3 := (Below.refl base W).grown hg hb (fun j hj => Nat.le_trans hB (hrow.lt j hj).1)
    exact h1.trans ⟨hbut.os, hbut.tape, hbut.output, hbut.size, fun k hk => hbut.block k (Nat.lt_of_lt_of_le hk (Nat.le_trans hb hg.size)) (by omega)⟩
  · have h3 := Blk.kept hblk hg (own_blk_ne hrow hblk (box_ne ht).1.symm)
    exact h3.but hbut (Blk.ne_ h3 hl3 (box_ne ht).2)
/-- What a failing part adds. -/
def leastStep (docs : List Pap) (d : Pap) (f : Flt) (L : List Flt) (t : Tree) : List Flt := if (!isAt t.kind && (holdsT docs d t == f.why)) = true then L ++ finestM docs d t f else L
set_option maxRecDepth 100000 in
set_option maxHeartbeats 6400000 in
theorem least1_any (t : Tree) (A0 : Option Addr) (nn c0 : Nat) (docs : List Pap) (f : Flt) (a : Nat) (hfa : f.paper = (a : Int)) (d : Pap) (hd0 : docs[a]? = some d) (base B gl gf gd : Nat) (v : Value) (L0 : List Flt) (w : World) (hT : Hid (TreeAt w t)) (hR : Hid (Room w A0 nn docs)) (hAT : (atomsT t).length ≤ 60)
    (AF : Option Addr) (LF : List Flt) (hL : Hid (LstS AF LF w B gl gf #[.int .i64 (a : Int), .int .i64 f.kind, .string f.field, .int .i64 f.why] v L0)) (hgd : Hid (Blk w gd 25 #[.slice A0 nn c0])) (hB : base ≤ B) (hgl : base ≤ gl) (hBw : B ≤ w.heap.size) (hLl : L0.length ≤ 1000000000000) :
    Calls Tryz.prog 64 #[.agg t.cells, .int .i64 (holdsT docs d t), .pointer (some ⟨gf, 0, none⟩), .pointer (some ⟨gl, 0, none⟩), .pointer (some ⟨gd, 0, none⟩)] w fun e w' => e = .returned (.tuple #[]) ∧ (∃ v', LstS AF LF w' B gl gf #[.int .i64 (a : Int), .int .i64 f.kind, .string f.field, .int .i64 f.why] v' (leastStep docs d f L0 t)) ∧ LstFr base w w' := by
  obtain ⟨iF, iFi, iF0, iF1, iF2⟩ := info_parts Tryz.info54
  have hia := Lib.hid (fun W => isAtom_any t W)
  have hfi := Lib.hid (fun W (h : TreeAt W t) (r : Room W A0 nn docs) => finest_any t A0 nn c0 docs f a hfa d hd0 W (Lib.hid h) (Lib.hid r) hAT)
  obtain ⟨M, hM⟩ : ∃ l, Hid (finestM docs d t f = l) := ⟨_, rfl⟩
  obtain ⟨h, hh⟩ : ∃ z, holdsT docs d t = z := ⟨_, rfl⟩
  have hstep : Hid (∀ b bw, isAt t.kind = b → (h == f.why) = bw → leastStep docs d f L0 t = if (!b && bw) = true then L0 ++ M else L0) := Lib.hid fun b bw h1 h2 => by unfold leastStep; rw [hM.out, hh, h1, h2]
  obtain ⟨L1, hL1⟩ : ∃ l, Hid (leastStep docs d f L0 t = l) := ⟨_, rfl⟩
  rw [hL1.out] at hstep ⊢
  rw [hM.out] at hfi
  rw [hh]
  have hMl : Hid (M.length ≤ 12) := by
    rw [← hM.out]
    unfold Hid finestM
    rw [hfa]
    split
    · rename_i p ps _ he
      have hcs := core_small hd0 (show (p :: ps) ∈ coresE docs t (a : Int) by rw [he]; simp)
      rw [fineM_len hcs.2]; exact hcs.1
    · simp
  clear hM hL1
  obtain ⟨T, hTd⟩ : ∃ T, Hid (t = T) := ⟨_, rfl⟩
  have hdoc := Lib.hid (hgd.out)
  obtain ⟨k, p, fx, x, n, A, c, L⟩ := t
  simp only [Tree.cells, Tree.kind] at hia hfi hstep ⊢
  rw [hTd.out] at hT hfi
  clear hTd hAT
  obtain ⟨fp, fk, ff, fw⟩ := f
  simp only at hfa hstep hL
  subst hfa
  simp only [Flt.agg] at hfi
  simp only
  obtain ⟨w0, hw0⟩ : ∃ X, Hid (w.alloc (.cells #[.int .i64 k, .int .i64 p, .string fx, .string x, .int .i64 n, .slice A L.length c] 24) = X) := ⟨_, rfl⟩
  have hb0 : Hid (Below w.heap.size w w0) := by rw [← hw0.out]; exact (Below.refl _ w).alloc (Nat.le_refl _) _
  have hN0 : Hid (Blk w0 w.heap.size 24 #[.int .i64 k, .int .i64 p, .string fx, .string x, .int .i64 n, .slice A L.length c]) := by rw [← hw0.out]; exact Lib.hid (Blk.new _ _ _)
  have q0 : w0.cell? ⟨w.heap.size, 0, none⟩ = some (.int .i64 k) := hN0.out.cell 0
  have q1 : w0.cell? ⟨w.heap.size, 1, none⟩ = some (.int .i64 p) := hN0.out.cell 1
  have q2 : w0.cell? ⟨w.heap.size, 2, none⟩ = some (.string fx) := hN0.out.cell 2
  have q3 : w0.cell? ⟨w.heap.size, 3, none⟩ = some (.string x) := hN0.out.cell 3
  have q4 : w0.cell? ⟨w.heap.size, 4, none⟩ = some (.int .i64 n) := hN0.out.cell 4
  have q5 : w0.cell? ⟨w.heap.size, 5, none⟩ = some (.slice A L.length c) := hN0.out.cell 5
  have hia0 := Lib.hid (hia.out w0)
  obtain ⟨b, hb⟩ : ∃ b, isAt k = b := ⟨_, rfl⟩
  obtain ⟨bw, hbw⟩ : ∃ b, (h == fw) = b := ⟨_, rfl⟩
  have hstep' := Lib.hid (hstep.out b bw hb hbw)
  rw [hb] at hia0
  clear hstep
  clear hia
  go_enter Tryz.func64, Tryz.ntmps64
  go_wp2_with (rw [hw0.out])
  refine hia0.out.mono ?_
  rintro e w1 ⟨rfl, hb1⟩
  have hb1' : Hid (Below w.heap.size w w1) := hb0.out.trans (hb1.mono hb0.out.size)
  have hN1 := Lib.hid (hN0.out.below hb1 hN0.out.lt)
  have hL1 := Lib.hid (hL.out.on hb1'.out)
  have hD1 := Lib.hid (hdoc.out.below hb1'.out hdoc.out.lt)
  have f3 : w1.cell? ⟨gf, 3, none⟩ = some (.int .i64 fw) := hL1.out.fault.cell 3
  clear q0 q1 q2 q3 q4 q5 hb1 hia0
  cases b with
  | true =>
    have hs : Hid (L1 = L0) := by unfold Hid; rw [hstep'.out]; rfl
    go_wp2_with fail
    go_end0
    exact ⟨rfl, ⟨v, by rw [hs.out]; exact hL1.out⟩, (lstGiver base).of hb1'.out⟩
  | false =>
  cases bw with
  | false =>
    have hs : Hid (L1 = L0) := by unfold Hid; rw [hstep'.out]; rfl
    go_wp2_with fail
    go_end0
    exact ⟨rfl, ⟨v, by rw [hs.out]; exact hL1.out⟩, (lstGiver base).of hb1'.out⟩
  | true =>
  have hs : Hid (L1 = L0 ++ M) := by unfold Hid; rw [hstep'.out]; rfl
  clear hstep'
  have hfi1 := Lib.hid (fun (W : World) (h : Below w1.heap.size w1 W) => hfi.out W (hT.out.below (hb1'.out.trans (h.mono hb1'.out.size))) (hR.out.below (hb1'.out.trans (h.mono hb1'.out.size))))
  clear hfi
  go_wp2_with fail
  refine wp_region_any (by kernel_rfl) ?_
  clear f3
  refine wpAny_body 22 (List.range 5) [5, 6] 5 [(0, some 16), (1, some 17), (2, some 18), (3, some 19), (4, some 20)] (Array.replicate 7 false) (Array.replicate 5 true ++ Array.replicate 2 false) (fun a b => Below a.heap.size a b) (fun i => (tyL v #[.int .i64 k, .int .i64 p, .string fx, .string x, .int .i64 n, .slice A L.length c] A0 nn c0 a ⟨(a : Int), fk, ff, fw⟩ M).getD i (fun _ _ => True)) (by kernel_rfl) rfl rfl (Below.refl _ _) (fun _ _ _ h k => h.trans (k.mono h.size)) (fun i v W W' h hb => mono_at (tyL_mono _ _ _ _ _ _ _ _) i h hb) ?step ?fin _ rfl
  case step =>
    refine allB_cons (i := 0) rfl (fun a W hl K hK => ?_) ?_
    · have t3 : a.tmps.getD 3 undef = .pointer (some ⟨gl, 0, none⟩) := hl.old 3 (by kernel_rfl)
      have hbL : Blk W gl 47 #[v] := hL1.out.box.drew.below hl.world hL1.out.box.drew.lt
      have cc : W.cell? ⟨gl, 0, none⟩ = some v := (hbL.cell 0).trans rfl
      exact held_value (v := v) (w' := W) rfl rfl (by go_simp) (hK _ _ (Below.refl _ _) rfl)
    refine allB_cons (i := 1) rfl (fun a W hl K hK => ?_) ?_
    · have t5 : a.tmps.getD 5 undef = .pointer (some ⟨w.heap.size, 0, none⟩) := hl.old 5 (by kernel_rfl)
      have hbX : Blk W w.heap.size 24 #[.int .i64 k, .int .i64 p, .string fx, .string x, .int .i64 n, .slice A L.length c] := hN1.out.drew.below hl.world hN1.out.drew.lt
      exact held_value (v := .agg #[.int .i64 k, .int .i64 p, .string fx, .string x, .int .i64 n, .slice A L.length c]) (w' := W) rfl rfl (run_ldb rfl t5 hbX Tryz.underlying24 rfl (by kernel_rfl)) (hK _ _ (Below.refl _ _) rfl)
    refine allB_cons (i := 2) rfl (fun a W hl K hK => ?_) ?_
    · have t4 : a.tmps.getD 4 undef = .pointer (some ⟨gd, 0, none⟩) := hl.old 4 (by kernel_rfl)
      have hbD : Blk W gd 25 #[.slice A0 nn c0] := hD1.out.drew.below hl.world hD1.out.drew.lt
      have cc : W.cell? ⟨gd, 0, none⟩ = some (.slice A0 nn c0) := (hbD.cell 0).trans rfl
      exact held_value (v := .slice A0 nn c0) (w' := W) rfl rfl (by go_simp) (hK _ _ (Below.refl _ _) rfl)
    refine allB_cons (i := 3) rfl (fun a' W hl K hK => ?_) ?_
    · have t2 : a'.tmps.getD 2 undef = .pointer (some ⟨gf, 0, none⟩) := hl.old 2 (by kernel_rfl)
      have hbF : Blk W gf 54 #[.int .i64 (a : Int), .int .i64 fk, .string ff, .int .i64 fw] := hL1.out.fault.drew.below hl.world hL1.out.fault.drew.lt
      exact held_value (v := .agg #[.int .i64 (a : Int), .int .i64 fk, .string ff, .int .i64 fw]) (w' := W) rfl rfl (run_ldb rfl t2 hbF Tryz.underlying54 rfl (by kernel_rfl)) (hK _ _ (Below.refl _ _) rfl)
    refine allB_cons (i := 4) rfl (fun a' W hl K hK => ?_) ?_
    · have t17 : Is (.agg #[.int .i64 k, .int .i64 p, .string fx, .string x, .int .i64 n, .slice A L.length c]) (a'.tmps.getD 17 undef) W := hl.at_ 1 17 (by kernel_rfl)
      have t18 : Is (.slice A0 nn c0) (a'.tmps.getD 18 undef) W := hl.at_ 2 18 (by kernel_rfl)
      have t19 : Is (.agg #[.int .i64 (a : Int), .int .i64 fk, .string ff, .int .i64 fw]) (a'.tmps.getD 19 undef) W := hl.at_ 3 19 (by kernel_rfl)
      unfold Is at t17 t18 t19
      refine held_call (f := 66) (args := #[.agg #[.int .i64 k, .int .i64 p, .string fx, .string x, .int .i64 n, .slice A L.length c], .slice A0 nn c0, .agg #[.int .i64 (a : Int), .int .i64 fk, .string ff, .int .i64 fw]]) (w := W) rfl rfl (by go_simp) ?_
      refine (hfi1.out W ((Below.refl _ w1).drew.trans hl.world)).mono ?_
      rintro e w' ⟨v, rfl, hp, hb⟩
      exact ⟨v, rfl, hK _ _ hb ⟨_, hp⟩⟩
    exact allB_nil
  case fin =>
    intro vs W hR9 hG9
    have hv0 : vs 0 = v := hG9 0 (by decide)
    have hv1 : vs 1 = .agg #[.int .i64 k, .int .i64 p, .string fx, .string x, .int .i64 n, .slice A L.length c] := hG9 1 (by decide)
    have hv2 : vs 2 = .slice A0 nn c0 := hG9 2 (by decide)
    have hv3 : vs 3 = .agg #[.int .i64 (a : Int), .int .i64 fk, .string ff, .int .i64 fw] := hG9 3 (by decide)
    obtain ⟨B4, h4⟩ : RowF M (vs 4) W := hG9 4 (by decide)
    obtain ⟨A4, c4, e4⟩ := own_form h4
    rw [e4] at h4
    have hz4 := Lib.hid (own_reads h4)
    have hbW : Hid (Below w1.heap.size w1 W) := (Below.refl _ w1).drew.trans hR9
    have hLW := Lib.hid (hL1.out.on hbW.out)
    have hBW : Hid (B ≤ W.heap.size) := Lib.hid (Nat.le_trans (Nat.le_trans hBw hb1'.out.size) hbW.out.size)
    have hFrW : Hid (LstFr base w W) := Lib.hid ((lstGiver base).trans ((lstGiver base).of hb1'.out) ((lstGiver base).of hbW.out))
    clear hG9 hR9 h4 hfi1 hR hT
    simp only [putD, Act.put, List.setIfInBounds_toArray, List.set_cons_zero, List.set_cons_succ, hv0, hv1, hv2, hv3, e4]
    clear hv0 hv1 hv2 hv3 e4
    have hs1 : Hid (L0.length + M.length ≤ maxLen) := by unfold Hid maxLen; have := hMl.out; omega
    have hs2 : Hid ((L0.length + M.length) * 40 ≤ 140737488355328) := by unfold Hid; have := hMl.out; omega
    have h1c : Hid (∀ u ∈ fcells M, u.oneCell' = true) := Lib.hid fun u hu => by
      unfold fcells at hu
      obtain ⟨y, _, hy⟩ := List.mem_flatMap.1 hu
      exact one4 y u hy
    refine wpAny_next 5 (by kernel_rfl) ?_
    refine held_append rfl rfl (.tmp 16) (.tmp 20) 47 rfl B 54 iF _ 4 40 Tryz.underlying47 iFi iF0 iF1 iF2 rfl (by decide) v L0.length (fcells L0) (by go_simp) hLW.out.row W.heap.size A4 M.length c4 (fcells M) (by go_simp) hz4.out h1c.out hs1.out hs2.out hBW.out ?_
    intro v' w3 ho hgr hvb
    have hl3 := Lib.hid (Blk.kept hLW.out.box hgr (own_blk_ne hLW.out.row hLW.out.box (by decide)))
    have ho3 := Lib.hid ho
    have hend : Hid (∀ W5, Blk W5 gl 47 #[v'] → But gl w3 W5 → LstS AF LF W5 B gl gf #[.int .i64 (a : Int), .int .i64 fk, .string ff, .int .i64 fw] v' (L0 ++ M) ∧ LstFr base w W5) :=
      Lib.hid fun W5 h5 hb5 => ⟨hLW.out.put hgr hvb ho3.out h5 hb5, (lstGiver base).trans hFrW.out (LstFr.put hLW.out.row hLW.out.box hB hgl hgr hb5)⟩
    have hv1 := own_one ho
    clear ho hgr hvb
    simp only [Act.put, List.getElem_toArray, List.getElem_cons_zero, List.getElem_cons_succ, List.setIfInBounds_toArray, List.set_cons_zero, List.set_cons_succ]
    refine wpAny_next 6 (by kernel_rfl) ?_
    refine held_put1 rfl rfl 47 (.tmp 3) (.tmp 21) rfl gl 0 #[v] #[v'] 47 v' (by go_simp) (by go_simp) hl3.out (by simp) rfl (by kernel_rfl) hv1 ?_
    intro w5 h5 hb5
    have hfin := Lib.hid (hend.out w5 h5 hb5)
    clear h5 hb5 hend hl3
    refine wpAny_done (by kernel_rfl) ?_ _
    simp only [Act.put]
    go_wp2_with fail
    go_end0
    exact ⟨rfl, ⟨v', by rw [hs.out]; exact hfin.out.1⟩, hfin.out.2⟩
end Go.Proofs.YtdjmckjbibfecaaGreatDoor

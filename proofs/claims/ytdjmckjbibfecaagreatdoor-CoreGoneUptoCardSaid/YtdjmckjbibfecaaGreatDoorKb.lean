/- The document's Finer. -/
import Derived.StillTailTactics
import Derived.Test.YtdjmckjbibfecaaGreatDoorJb
import Derived.Test.YtdjmckjbibfecaaGreatDoorM
import Derived.Test.YtdjmckjbibfecaaGreatDoorMa
import Derived.Test.YtdjmckjbibfecaaGreatDoorVi
import Derived.Test.YtdjmckjbibfecaaGreatDoorVj
namespace Go.Proofs.YtdjmckjbibfecaaGreatDoor
open Go Go.RowKit Go.BigFrame Go.Maps

end Go.Proofs.YtdjmckjbibfecaaGreatDoor
namespace Go.Proofs.YtdjmckjbibfecaaGreatDoor
open Go Go.RowKit Go.BigFrame Go.Maps

end Go.Proofs.YtdjmckjbibfecaaGreatDoor
namespace Go.Proofs.YtdjmckjbibfecaaGreatDoor
open Go Go.RowKit Go.BigFrame Go.Maps

end Go.Proofs.YtdjmckjbibfecaaGreatDoor
namespace Go.Proofs.YtdjmckjbibfecaaGreatDoor
open Go Go.RowKit Go.BigFrame Go.Maps

end Go.Proofs.YtdjmckjbibfecaaGreatDoor
namespace Go.Proofs.YtdjmckjbibfecaaGreatDoor
open Go Go.RowKit Go.BigFrame Go.Maps

end Go.Proofs.YtdjmckjbibfecaaGreatDoor
namespace Go.Proofs.YtdjmckjbibfecaaGreatDoor
open Go Go.RowKit Go.BigFrame Go.Maps

theorem exam_len {c : Crd} {needs : List Nd} {docs : List Pap} {day : Int} (hF : FewParts needs) (hn : docs.length ≤ 13) : (examF c needs docs day).length ≤ 20000 := by
  have h1 := addAll_len (toldE c needs docs day) []
  have h2 := docs_len (c := c) (docs := docs) (day := day) hF docs.length
  have h3 := flat_le _ (lackF_le docs) needs
  have h4 : (expF c day).length ≤ 1 := by unfold expF; split <;> simp
  have h5 := hF.1
  unfold toldE at h1
  simp only [List.length_append, List.length_nil] at h1
  unfold examF toldE
  omega
end Go.Proofs.YtdjmckjbibfecaaGreatDoor
namespace Go.Proofs.YtdjmckjbibfecaaGreatDoor
open Go Go.RowKit Go.BigFrame Go.Maps

/-- The finer faults' box and row, the fault's box. -/
structure LstS (AF : Option Addr) (LF : List Flt) (W : World) (B gl gf : Nat) (C : Array Value) (v : Value) (L : List Flt) : Prop where
  rest : FaultsAt W AF LF
  off : LF ≠ [] → ∀ b o, AF = some ⟨b, o, none⟩ → v.ownBlock ≠ some b ∧ gl ≠ b
  box : Blk W gl 47 #[v]
  row : W.ownsRow B 54 4 v L.length (fcells L)
  fault : Blk W gf 54 C
  apart : v.ownBlock ≠ some gf
/-- What the closure leaves. -/
def LstFr (base : Nat) (a b : World) : Prop := (base ≤ a.heap.size → Below base a b) ∧ a.heap.size ≤ b.heap.size ∧ ∀ (g : Nat) (t : TypeId) (cs : Array Value), Blk a g t cs → boxT t → Blk b g t cs
theorem lstGiver (base : Nat) : Giver base (LstFr base) where
  refl W := ⟨fun _ => Below.refl _ W, Nat.le_refl _, fun _ _ _ h _ => h⟩
  trans h k := ⟨fun hb => (h.1 hb).trans (k.1 (Nat.le_trans hb h.2.1)), Nat.le_trans h.2.1 k.2.1, fun g t cs hB ht => k.2.2 g t cs (h.2.2 g t cs hB ht) ht⟩
  of h := ⟨fun hb => h.mono hb, h.size, fun _ _ _ hB _ => hB.below h hB.lt⟩
  low h hb := h.1 hb
  size h := h.2.1
  blk h hb ht := h.2.2 _ _ _ hb ht
theorem LstS.on {AF : Option Addr} {LF : List Flt} {W W' : World} {B gl gf : Nat} {C : Array Value} {v : Value} {L : List Flt} (h : LstS AF LF W B gl gf C v L) (hb : Below W.heap.size W W') : LstS AF LF W' B gl gf C v L :=
  ⟨h.rest.below hb, h.off, h.box.below hb h.box.lt, own_below h.row hb, h.fault.below hb h.fault.lt, h.apart⟩
theorem box_ne {t : TypeId} (h : boxT t) : t ≠ 54 ∧ t ≠ 47 := by
  rcases h with rfl | rfl | rfl | rfl | rfl | rfl <;> decide
/-- The row grown, and stored in its box. -/
theorem LstS.put {AF : Option Addr} {LF : List Flt} {W W3 W5 : World} {B gl gf : Nat} {C : Array Value} {v v' : Value} {L M : List Flt} (h : LstS AF LF W B gl gf C v L) (hg : W.grownBy W3 v.ownBlock) (hv : v'.ownBlock = v.ownBlock ∨ v'.ownBlock = some W.heap.size)
    (ho : W3.ownsRow B 54 4 v' (L.length + M.length) (fcells L ++ fcells M)) (hb : Blk W5 gl 47 #[v']) (hbut : But gl W3 W5) : LstS AF LF W5 B gl gf C v' (L ++ M) := by
  have hl3 := Blk.kept h.box hg (own_blk_ne h.row h.box (by decide))
  have hf3 := Blk.kept h.fault hg h.apart
  have hrb : ∀ k x, LF[k]? = some x → ∃ b o, AF = some ⟨b, o, none⟩ ∧ b < W.heap.size ∧ v.ownBlock ≠ some b ∧ gl ≠ b := fun k x hx => by
    obtain ⟨b, o, e, h0, _⟩ := h.rest k x hx
    obtain ⟨h1, h2⟩ := h.off (by rintro rfl; simp at hx) b o e
    exact ⟨b, o, e, World.block_lt_of_cell? W _ h0, h1, h2⟩
  refine ⟨fun k x hx => ?_, fun hne b o e => ?_, hb, ?_, hf3.but hbut (Blk.ne_ hf3 hl3 (by decide)), ?_⟩
  · obtain ⟨b, o, e, hc⟩ := h.rest k x hx
    obtain ⟨b', o', e', hlt, h1, h2⟩ := hrb k x hx
    rw [e] at e'
    simp only [Option.some.injEq, Addr.mk.injEq, and_true] at e'
    obtain ⟨rfl, rfl⟩ := e'
    have hk : ∀ p : Addr, p.block = b → W5.cell? p = W.cell? p := fun p hp => by
      rw [World.cell?_of_block (w := W3) (hbut.block p.block (by rw [hp]; exact Nat.lt_of_lt_of_le hlt hg.size) (by rw [hp]; exact fun e => h2 e.symm))]
      exact hg.cell_far p (by rw [hp]; exact hlt) (by rw [hp]; exact fun e => h1 e.symm)
    refine ⟨b, o, e, ?_⟩
    simpa only [hk ⟨b, _, none⟩ rfl] using hc
  · obtain ⟨x, hx⟩ : ∃ x, LF[0]? = some x := ⟨_, List.getElem?_eq_getElem (List.length_pos_iff.2 hne)⟩
    obtain ⟨b', o', e', hlt, h1, h2⟩ := hrb 0 x hx
    rw [e] at e'
    simp only [Option.some.injEq, Addr.mk.injEq, and_true] at e'
    obtain ⟨rfl, rfl⟩ := e'
    refine ⟨?_, h2⟩
    rcases hv with e1 | e1
    · rw [e1]; exact h1
    · rw [e1]
      intro h9
      injection h9 with h9
      omega
  · have := own_but ho hbut hl3 (by decide)
    rw [List.length_append]
    unfold fcells at this ⊢
    rw [List.flatMap_append]
    exact this
  · rcases hv with e | e
    · rw [e]; exact h.apart
    · rw [e]
      have := h.fault.lt
      intro h9
      injection h9 with h9
      omega
theorem LstFr.put {base : Nat} {W W3 W5 : World} {B gl : Nat} {v : Value} {n : Nat} {xs : List Value} (hrow : W.ownsRow B 54 4 v n xs) (hbox : Blk W gl 47 #[v]) (hB : base ≤ B) (hgl : base ≤ gl) (hg : W.grownBy W3 v.ownBlock) (hbut : But gl W3 W5) : LstFr base W W5 := by
  have hl3 := Blk.kept hbox hg (own_blk_ne hrow hbox (by decide))
  refine ⟨fun hb => ?_, Nat.le_trans hg.size hbut.size, fun g t cs hblk ht => ?_⟩
  · have h1 : Below base W W3 := (Below.refl base W).grown hg hb (fun j hj => Nat.le_trans hB (hrow.lt j hj).1)
    exact h1.trans ⟨hbut.os, hbut.tape, hbut.output, hbut.size, fun k hk => hbut.block k (Nat.lt_of_lt_of_le hk (Nat.le_trans hb hg.size)) (by omega)⟩
  · have h3 := Blk.kept hblk hg (own_blk_ne hrow hblk (box_ne ht).1.symm)
    exact h3.but hbut (Blk.ne_ h3 hl3 (box_ne ht).2)
end Go.Proofs.YtdjmckjbibfecaaGreatDoor
namespace Go.Proofs.YtdjmckjbibfecaaGreatDoor
open Go Go.RowKit Go.BigFrame Go.Maps

structure LeaS (w W : World) (C : Array Value) (A : Option Addr) (nn cc g1 g2 : Nat) (AF : Option Addr) (LF : List Flt) (v : Value) (M : List Flt) : Prop where
  below : Below w.heap.size w W
  cred : Blk W w.heap.size 46 C
  docs : Blk W g1 25 #[.slice A nn cc]
  box : Blk W g2 47 #[v]
  row : W.ownsRow w.heap.size 54 4 v M.length (fcells M)
  rest : FaultsAt W AF LF
  off : LF ≠ [] → ∀ b o, AF = some ⟨b, o, none⟩ → v.ownBlock ≠ some b ∧ g2 ≠ b
theorem LeaS.on {w W W' : World} {C : Array Value} {A : Option Addr} {nn cc g1 g2 : Nat} {AF : Option Addr} {LF : List Flt} {v : Value} {M : List Flt} (h : LeaS w W C A nn cc g1 g2 AF LF v M) (hb : Below W.heap.size W W') : LeaS w W' C A nn cc g1 g2 AF LF v M :=
  ⟨h.below.trans (hb.mono h.below.size), h.cred.below hb h.cred.lt, h.docs.below hb h.docs.lt, h.box.below hb h.box.lt, own_below h.row hb, h.rest.below hb, h.off⟩
end Go.Proofs.YtdjmckjbibfecaaGreatDoor
namespace Go.Proofs.YtdjmckjbibfecaaGreatDoor
open Go Go.RowKit Go.BigFrame Go.Maps

end Go.Proofs.YtdjmckjbibfecaaGreatDoor
namespace Go.Proofs.YtdjmckjbibfecaaGreatDoor
open Go Go.RowKit Go.BigFrame Go.Maps

end Go.Proofs.YtdjmckjbibfecaaGreatDoor
namespace Go.Proofs.YtdjmckjbibfecaaGreatDoor
open Go Go.RowKit Go.BigFrame Go.Maps

/-- The row of failing parts, while a rule's own parts are read. -/
structure FlS (w W : World) (C : Array Value) (A1 : Option Addr) (P : List Tree) (v : Value) (n : Nat) (L : List Tree) : Prop where
  below : Below w.heap.size w W
  row : W.ownsRow w.heap.size 24 6 v n (tcells L)
  cred : Blk W w.heap.size 46 C
  parts : ∀ r t, P[r]? = some t → CellsAt W A1 r t
  off : P ≠ [] → ∀ b o, A1 = some ⟨b, o, none⟩ → v.ownBlock ≠ some b
theorem cellsAt_in {W : World} {A1 : Option Addr} {r : Nat} {t : Tree} (h : CellsAt W A1 r t) : ∃ b o, A1 = some ⟨b, o, none⟩ ∧ b < W.heap.size := by
  obtain ⟨k, p, f, x, n, A, c, L⟩ := t
  obtain ⟨b, o, e, h0, _⟩ := h
  exact ⟨b, o, e, World.block_lt_of_cell? W _ h0⟩
theorem cellsAt_far {W W' : World} {A1 : Option Addr} {r : Nat} {t : Tree} {g : Option Nat} (h : CellsAt W A1 r t) (hg : W.grownBy W' g) (hne : ∀ b o, A1 = some ⟨b, o, none⟩ → g ≠ some b) : CellsAt W' A1 r t := by
  obtain ⟨k, p, f, x, n, A, c, L⟩ := t
  obtain ⟨b, o, e, h0, h1, h2, h3, h4, h5⟩ := h
  have hlt := World.block_lt_of_cell? W _ h0
  have hk : ∀ q : Addr, q.block = b → W'.cell? q = W.cell? q := fun q hq => hg.cell_far q (by rw [hq]; exact hlt) (by rw [hq]; exact fun e9 => hne b o e e9.symm)
  exact ⟨b, o, e, by rw [hk _ rfl]; exact h0, by rw [hk _ rfl]; exact h1, by rw [hk _ rfl]; exact h2, by rw [hk _ rfl]; exact h3, by rw [hk _ rfl]; exact h4, by rw [hk _ rfl]; exact h5⟩
theorem FlS.on {w W W' : World} {C : Array Value} {A1 : Option Addr} {P L : List Tree} {v : Value} {n : Nat} (h : FlS w W C A1 P v n L) (hb : Below W.heap.size W W') : FlS w W' C A1 P v n L :=
  ⟨h.below.trans (hb.mono h.below.size), own_below h.row hb, h.cred.below hb h.cred.lt, fun r t ht => (h.parts r t ht).below hb, h.off⟩
theorem FlS.put {w W W' : World} {C : Array Value} {A1 : Option Addr} {P L L' : List Tree} {v v' : Value} {n n' : Nat} (h : FlS w W C A1 P v n L) (hg : W.grownBy W' v.ownBlock) (hv : v'.ownBlock = v.ownBlock ∨ v'.ownBlock = some W.heap.size) (ho : W'.ownsRow w.heap.size 24 6 v' n' (tcells L')) : FlS w W' C A1 P v' n' L' := by
  refine ⟨h.below.grown hg h.below.size (fun j hj => (h.row.lt j hj).1), ho, Blk.kept h.cred hg (own_blk_ne h.row h.cred (by decide)), fun r t ht => ?_, fun hne b o e => ?_⟩
  · exact cellsAt_far (h.parts r t ht) hg fun b o e => h.off (by rintro rfl; simp at ht) b o e
  · rcases hv with e1 | e1
    · rw [e1]; exact h.off hne b o e
    · rw [e1]
      obtain ⟨x, hx⟩ : ∃ x, P[0]? = some x := ⟨_, List.getElem?_eq_getElem (List.length_pos_iff.2 hne)⟩
      obtain ⟨b', o', e', hlt⟩ := cellsAt_in (h.parts 0 x hx)
      rw [e] at e'
      simp only [Option.some.injEq, Addr.mk.injEq, and_true] at e'
      obtain ⟨rfl, rfl⟩ := e'
      intro h9
      injection h9 with h9
      omega
end Go.Proofs.YtdjmckjbibfecaaGreatDoor
namespace Go.Proofs.YtdjmckjbibfecaaGreatDoor
open Go Go.RowKit Go.BigFrame Go.Maps

theorem faultsAt_far {W W' : World} {AF : Option Addr} {LF : List Flt} {g : Option Nat} (h : FaultsAt W AF LF) (hg : W.grownBy W' g) (hne : LF ≠ [] → ∀ b o, AF = some ⟨b, o, none⟩ → g ≠ some b) : FaultsAt W' AF LF := by
  intro k x hx
  obtain ⟨b, o, e, h0, h1, h2, h3⟩ := h k x hx
  have hlt := World.block_lt_of_cell? W _ h0
  have hk : ∀ q : Addr, q.block = b → W'.cell? q = W.cell? q := fun q hq => hg.cell_far q (by rw [hq]; exact hlt) (by rw [hq]; exact fun e9 => hne (by rintro rfl; simp at hx) b o e e9.symm)
  exact ⟨b, o, e, by rw [hk _ rfl]; exact h0, by rw [hk _ rfl]; exact h1, by rw [hk _ rfl]; exact h2, by rw [hk _ rfl]; exact h3⟩
/-- What stays while the row of faults grows. -/
structure KeepR (R : World → Prop) : Prop where
  below : ∀ {a b : World}, R a → Below a.heap.size a b → R b
  grown : ∀ {a b : World} {B n : Nat} {v : Value} {xs : List Value}, R a → a.ownsRow B 54 4 v n xs → a.grownBy b v.ownBlock → R b
/-- The row of finer faults while the document's own are read. -/
structure FnS (w W : World) (C : Array Value) (AF : Option Addr) (LF : List Flt) (v : Value) (M : List Flt) : Prop where
  below : Below w.heap.size w W
  cred : Blk W w.heap.size 46 C
  row : W.ownsRow w.heap.size 54 4 v M.length (fcells M)
  rest : FaultsAt W AF LF
  off : LF ≠ [] → ∀ b o, AF = some ⟨b, o, none⟩ → v.ownBlock ≠ some b
theorem FnS.on {w W W' : World} {C : Array Value} {AF : Option Addr} {LF M : List Flt} {v : Value} (h : FnS w W C AF LF v M) (hb : Below W.heap.size W W') : FnS w W' C AF LF v M :=
  ⟨h.below.trans (hb.mono h.below.size), h.cred.below hb h.cred.lt, own_below h.row hb, h.rest.below hb, h.off⟩
theorem FnS.put {w W W' : World} {C : Array Value} {AF : Option Addr} {LF M M' : List Flt} {v v' : Value} (h : FnS w W C AF LF v M) (hg : W.grownBy W' v.ownBlock) (hv : v'.ownBlock = v.ownBlock ∨ v'.ownBlock = some W.heap.size) (ho : W'.ownsRow w.heap.size 54 4 v' M'.length (fcells M')) : FnS w W' C AF LF v' M' := by
  refine ⟨h.below.grown hg h.below.size (fun j hj => (h.row.lt j hj).1), Blk.kept h.cred hg (own_blk_ne h.row h.cred (by decide)), ho, faultsAt_far h.rest hg h.off, fun hne b o e => ?_⟩
  rcases hv with e1 | e1
  · rw [e1]; exact h.off hne b o e
  · rw [e1]
    obtain ⟨x, hx⟩ : ∃ x, LF[0]? = some x := ⟨_, List.getElem?_eq_getElem (List.length_pos_iff.2 hne)⟩
    obtain ⟨b', o', e', h0, _⟩ := h.rest 0 x hx
    rw [e] at e'
    simp only [Option.some.injEq, Addr.mk.injEq, and_true] at e'
    obtain ⟨rfl, rfl⟩ := e'
    have hlt : b < W.heap.size := World.block_lt_of_cell? W _ h0
    intro h9
    injection h9 with h9
    omega
/-- The same, while one fault is made finer. -/
structure FkS (w W : World) (C : Array Value) (AF : Option Addr) (LF : List Flt) (gf : Nat) (X : Array Value) (R : World → Prop) (v : Value) (M : List Flt) : Prop where
  base : FnS w W C AF LF v M
  fault : Blk W gf 54 X
  apart : v.ownBlock ≠ some gf
  more : R W
theorem FkS.on {w W W' : World} {C : Array Value} {AF : Option Addr} {LF M : List Flt} {gf : Nat} {X : Array Value} {R : World → Prop} {v : Value} (K : KeepR R) (h : FkS w W C AF LF gf X R v M) (hb : Below W.heap.size W W') : FkS w W' C AF LF gf X R v M :=
  ⟨h.base.on hb, h.fault.below hb h.fault.lt, h.apart, K.below h.more hb⟩
theorem FkS.put {w W W' : World} {C : Array Value} {AF : Option Addr} {LF M M' : List Flt} {gf : Nat} {X : Array Value} {R : World → Prop} {v v' : Value} (K : KeepR R) (h : FkS w W C AF LF gf X R v M) (hg : W.grownBy W' v.ownBlock) (hv : v'.ownBlock = v.ownBlock ∨ v'.ownBlock = some W.heap.size) (ho : W'.ownsRow w.heap.size 54 4 v' M'.length (fcells M')) : FkS w W' C AF LF gf X R v' M' := by
  refine ⟨h.base.put hg hv ho, Blk.kept h.fault hg h.apart, ?_, K.grown h.more h.base.row hg⟩
  rcases hv with e | e
  · rw [e]; exact h.apart
  · rw [e]
    have := h.fault.lt
    intro h9
    injection h9 with h9
    omega
end Go.Proofs.YtdjmckjbibfecaaGreatDoor

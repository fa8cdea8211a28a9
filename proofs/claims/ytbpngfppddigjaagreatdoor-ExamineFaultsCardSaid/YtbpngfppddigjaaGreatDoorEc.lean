/- What stands in memory while papers are examined: the frame, and the telling. -/
import Derived.Test.YtbpngfppddigjaaGreatDoorEb
import Derived.Deep.MidRow
namespace Go.Proofs.YtbpngfppddigjaaGreatDoor
open Go Go.RowKit Go.BigFrame Go.Maps

def Row40 (w : World) (g : Nat) : Prop := ∃ cs fr, w.heap[g]? = some (.cells cs 40 fr)
/-- The blocks that tellings may turn. -/
def TS (B cf bm : Nat) (w : World) (g : Nat) : Prop := B ≤ g ∧ (g = bm ∨ g = cf ∨ Row40 w g)
def Tld (B cf bm : Nat) (w w' : World) : Prop := ButS (TS B cf bm w) w w'
section
variable {B cf bm : Nat} {w w' a b c : World}
theorem Tld.refl (B cf bm : Nat) (w : World) : Tld B cf bm w w := ButS.refl _ _
theorem Tld.of_below (h : Below w.heap.size w w') : Tld B cf bm w w' := ButS.of_below h
theorem Tld.size (h : Tld B cf bm w w') : w.heap.size ≤ w'.heap.size := ButS.size h
theorem Tld.low (h : Tld B cf bm w w') (hB : B ≤ w.heap.size) : Below B w w' := ButS.below h (fun _ hg => hg.1) hB
theorem Tld.trans (h : Tld B cf bm a b) (k : Tld B cf bm b c) : Tld B cf bm a c :=
  ⟨k.os.trans h.os, k.tape.trans h.tape, k.output.trans h.output, Nat.le_trans h.size k.size, fun i hi hs => by
    have e := h.block i hi hs
    refine (k.block i (Nat.lt_of_lt_of_le hi h.size) (fun ⟨h1, h2⟩ => hs ⟨h1, ?_⟩)).trans e
    rcases h2 with h2 | h2 | ⟨cs, fr, h2⟩
    · exact .inl h2
    · exact .inr (.inl h2)
    · exact .inr (.inr ⟨cs, fr, by rw [← e]; exact h2⟩)⟩
end
/-- The examiner, and what is told so far. -/
structure ExS (w0 : World) (ct cf bm xb : Nat) (X : Array Value) (w : World) (v : Value) (l : List Flt) : Prop where
  tell : Tell w w0.heap.size ct cf bm v l
  exam : Blk w xb 55 X
  below : Below w0.heap.size w0 w
section
variable {w0 : World} {ct cf bm xb : Nat} {X : Array Value} {w w' : World} {v : Value} {l : List Flt}
theorem ExS.belows (h : ExS w0 ct cf bm xb X w v l) (hb : Below w.heap.size w w') : ExS w0 ct cf bm xb X w' v l :=
  ⟨h.tell.below hb, h.exam.below hb h.exam.lt, h.below.trans (hb.mono h.below.size)⟩
theorem ExS.alloc (h : ExS w0 ct cf bm xb X w v l) (o : Obj) : ExS w0 ct cf bm xb X (w.alloc o) v l := h.belows ((Below.refl _ _).alloc (Nat.le_refl _) o)
theorem ExS.drew (h : ExS w0 ct cf bm xb X w v l) : ExS w0 ct cf bm xb X w.drew v l := h.belows (Below.refl _ _).drew
theorem ExS.no (h : ExS w0 ct cf bm xb X w v l) {g : Nat} {t : TypeId} {cs : Array Value} (hb : Blk w g t cs) (ht : t ≠ 40) (ht2 : t ≠ 30) : ¬ TS w0.heap.size cf bm w g := by
  rintro ⟨_, e | e | ⟨cs', fr, e⟩⟩
  · subst e; exact blk_map_ne hb h.tell.map rfl
  · subst e
    have h1 := h.tell.fc
    rw [Blk] at h1 hb
    rw [h1] at hb
    simp at hb; exact ht2 hb.2.symm
  · rw [Blk, e] at hb
    simp at hb; exact ht hb.2.1.symm
theorem ExS.keep (h : ExS w0 ct cf bm xb X w v l) (ht : Tld w0.heap.size cf bm w w') {g : Nat} {t : TypeId} {cs : Array Value} (hb : Blk w g t cs) (h1 : t ≠ 40) (h2 : t ≠ 30) : Blk w' g t cs := ButS.blk ht hb (h.no hb h1 h2)
theorem ExS.keepM (h : ExS w0 ct cf bm xb X w v l) (ht : Tld w0.heap.size cf bm w w') {k e : TypeId} {b n : Nat} {z : Value} {S : Value → Option Value} (hm : MapFn w Tryz.prog k e b n z S) (hne : b ≠ bm) : MapFn w' Tryz.prog k e b n z S :=
  ButS.map ht hm (by
    rintro ⟨_, e | e | ⟨cs', fr, e⟩⟩
    · exact hne e
    · exact blk_map_ne h.tell.fc hm e
    · obtain ⟨D, zd, ⟨es, clock, hh, _⟩, _⟩ := hm
      rw [hh] at e; cases e)
end
/-- Some faults are told. -/
def Ted (w0 : World) (ct cf bm xb : Nat) (X : Array Value) (l : List Flt) (w : World) (e : Ending) (w' : World) : Prop :=
  e = .returned (.tuple #[]) ∧ ∃ v, ExS w0 ct cf bm xb X w' v l ∧ Tld w0.heap.size cf bm w w'
theorem tell_ex {w0 : World} {ct cf bm xb : Nat} {X : Array Value} {w : World} {v : Value} {l : List Flt} (f : Flt) (hf : f.fits) (hl : l.length ≤ 100000) (h : ExS w0 ct cf bm xb X w v l) :
    Calls Tryz.prog 17 #[f.agg, .pointer (some ⟨ct, 0, none⟩), .pointer (some ⟨cf, 0, none⟩)] w (Ted w0 ct cf bm xb X (addF l f) w) := by
  refine (tell_any f hf w0.heap.size ct cf bm v l w hl h.tell h.below.size).mono ?_
  rintro e w' ⟨rfl, v', ht, hb⟩
  have hT : Tld w0.heap.size cf bm w w' := ⟨hb.os, hb.tape, hb.output, hb.size, fun k hk hs => hb.block k hk (fun hts => hs (by
    rcases hts with e | e | e
    · exact ⟨by have := h.tell.base; omega, .inl e⟩
    · exact ⟨by have := h.tell.base; omega, .inr (.inl e)⟩
    · rcases h.tell.row.2 with ⟨rfl, _⟩ | ⟨g, cap, cur, rfl, hg, hh, _⟩
      · simp [Value.ownBlock] at e
      · simp [Value.ownBlock] at e
        subst e
        exact ⟨hg, .inr (.inr ⟨_, _, hh⟩)⟩))⟩
  exact ⟨rfl, v', ⟨ht, h.keep hT h.exam (by decide) (by decide), h.below.trans (hT.low h.below.size)⟩, hT⟩

/-- The examiner's cells. -/
def exX (C : Array Value) (A : Option Addr) (nn cc : Nat) (day : Int) (ct cf : Nat) : Array Value :=
  C ++ #[.slice A nn cc, .int .i64 day, .func (Fn.func 17) #[] #[.pointer (some ⟨ct, 0, none⟩), .pointer (some ⟨cf, 0, none⟩)]]
theorem exX_docs {C : Array Value} {A : Option Addr} {nn cc : Nat} {day : Int} {ct cf : Nat} (hC : C.size = 18) : (exX C A nn cc day ct cf)[18]? = some (.slice A nn cc) := by
  unfold exX; rw [Array.getElem?_append_right (by omega)]; simp [hC]
theorem exX_day {C : Array Value} {A : Option Addr} {nn cc : Nat} {day : Int} {ct cf : Nat} (hC : C.size = 18) : (exX C A nn cc day ct cf)[19]? = some (.int .i64 day) := by
  unfold exX; rw [Array.getElem?_append_right (by omega)]; simp [hC]
theorem exX_tell {C : Array Value} {A : Option Addr} {nn cc : Nat} {day : Int} {ct cf : Nat} (hC : C.size = 18) : (exX C A nn cc day ct cf)[20]? = some (.func (Fn.func 17) #[] #[.pointer (some ⟨ct, 0, none⟩), .pointer (some ⟨cf, 0, none⟩)]) := by
  unfold exX; rw [Array.getElem?_append_right (by omega)]; simp [hC]
theorem exX_cell {C : Array Value} {A : Option Addr} {nn cc : Nat} {day : Int} {ct cf : Nat} (hC : C.size = 18) {i : Nat} (hi : i < 18) : (exX C A nn cc day ct cf)[i]? = C[i]? := by
  unfold exX; rw [Array.getElem?_append_left (by omega)]
theorem exX_range {w : World} {xb : Nat} {C : Array Value} {A : Option Addr} {nn cc : Nat} {day : Int} {ct cf : Nat} (hC : C.size = 18) (h : Blk w xb 55 (exX C A nn cc day ct cf)) : w.rangeAt xb 0 C.toList := by
  intro j v hv
  have hj : j < 18 := by
    have := (List.getElem?_eq_some_iff.1 hv).1
    simp at this; omega
  rw [Nat.zero_add, h.cell, exX_cell hC hj]
  simpa using hv
theorem Crd.size18 (c : Crd) (v : Value) : (c.cells v).size = 18 := rfl

set_option maxRecDepth 100000 in
set_option maxHeartbeats 800000 in
theorem isAtom_any (k p : Int) (f x : ByteArray) (n : Int) (A : Option Addr) (m c : Nat) (w : World) :
    Calls Tryz.prog 35 #[.agg #[.int .i64 k, .int .i64 p, .string f, .string x, .int .i64 n, .slice A m c]] w fun e w' => e = .returned (.bool (isAtomB k)) ∧ Below w.heap.size w w' := by
  have hb0 := Lib.hid ((Below.refl _ w).alloc (Nat.le_refl _) (.cells #[.int .i64 k, .int .i64 p, .string f, .string x, .int .i64 n, .slice A m c] 36))
  by_cases h : 3 ≤ k ∧ k ≤ 7
  · have ha : Hid (isAtomB k = true) := by unfold Hid isAtomB; simp [h]
    go_enter Tryz.func35, Tryz.ntmps35
    go_wp2_with fail
    all_goals try (exfalso; omega)
    all_goals (go_ret; exact ⟨by rw [ha.out]; rfl, hb0.out⟩)
  · have ha : Hid (isAtomB k = false) := by unfold Hid isAtomB; simp [h]
    go_enter Tryz.func35, Tryz.ntmps35
    go_wp2_with fail
    all_goals try (exfalso; omega)
    all_goals (go_ret; exact ⟨by rw [ha.out]; rfl, hb0.out⟩)
end Go.Proofs.YtbpngfppddigjaaGreatDoor

/- Boxes: marks, their content; texts written into a builder. -/
import Derived.Test.YtnmnknkdnjkpjaaGreatDoorQ
import Derived.Test.YtnmnknkdnjkpjaaGreatDoorWr
import Derived.Test.YtnmnknkdnjkpjaaGreatDoorEa
import Derived.Deep.RegionHeld3
namespace Go.Proofs.YtnmnknkdnjkpjaaGreatDoor
open Go Go.RowKit Go.BigFrame Go.Maps

/-- A builder of the call's own, that holds a text. -/
abbrev Bld (w : World) (B b : Nat) (acc : List UInt8) : Prop := Lib.IsBuilderF 88 5 B b (Lib.byteCells acc) w
theorem ownF_below {w w' : World} {B : Nat} {e : TypeId} {size n : Nat} {v : Value} {xs : List Value} (h : w.ownsRowF B e size v n xs) (hb : Below w.heap.size w w') : w'.ownsRowF B e size v n xs :=
  h.kept (row := none) ⟨hb.os, hb.tape, hb.output, hb.size, fun k hk _ => hb.block k hk⟩ (by
    rcases hv : v.ownBlock with _ | k
    · exact .inl rfl
    · exact .inr (by simp))
theorem builderAt_below {w w' : World} {T e : TypeId} {B b : Nat} {p : Value} {bs : List Value} (h : Lib.BuilderAtF T e B b p bs w) (hb : Below w.heap.size w w') : Lib.BuilderAtF T e B b p bs w' := by
  obtain ⟨hB, v, hv, ho, hne⟩ := h
  have hlt : b < w.heap.size := by
    rcases Nat.lt_or_ge b w.heap.size with h | h
    · exact h
    · rw [Array.getElem?_eq_none h] at hv; cases hv
  exact ⟨hB, v, (hb.block b hlt).trans hv, ownF_below ho hb, hne⟩
theorem Bld.below {w w' : World} {B b : Nat} {acc : List UInt8} (h : Bld w B b acc) (hb : Below w.heap.size w w') : Bld w' B b acc := by
  rcases h with h | h
  · exact .inl (builderAt_below h hb)
  · exact .inr (builderAt_below h hb)
theorem Bld.lt {w : World} {B b : Nat} {acc : List UInt8} (h : Bld w B b acc) : b < w.heap.size := by
  rcases h with ⟨_, v, hv, _⟩ | ⟨_, v, hv, _⟩ <;> exact (Array.getElem?_eq_some_iff.1 hv).1
theorem builder_new (w : World) : Bld (w.alloc (.cells #[.pointer none, .slice none 0 0] 88)) w.heap.size w.heap.size [] :=
  Lib.IsBuilderF.of (.inl ⟨Nat.le_refl _, _, heap_alloc_new w _, ⟨rfl, .inl ⟨rfl, rfl⟩⟩, by simp [Value.ownBlock]⟩)
theorem cells_cat (a b : List UInt8) : Lib.byteCells a ++ Lib.strCells ⟨b.toArray⟩ = Lib.byteCells (a ++ b) := by
  show Lib.byteCells a ++ Lib.byteCells b = _; simp [Lib.byteCells]
theorem kept_below {b : Option Nat} {w w' : World} (h : Below w.heap.size w w') : Lib.OthersKept 5 b w w' := fun k _ hk _ _ => (h.block k (Array.getElem?_eq_some_iff.1 hk).1).trans hk
theorem kept_blk {b g : Nat} {w w' : World} {t : TypeId} {cs : Array Value} (h : Lib.OthersKept 5 (some b) w w') (hb : Blk w g t cs) (hg : g ≠ b) (ht : t ≠ 5) : Blk w' g t cs :=
  h g _ hb (fun e => hg (Option.some.inj e)) (fun c fz e => ht (by injection e))
theorem write_any (B b : Nat) (acc s : List UInt8) (W : World) (h : Hid (Bld W B b acc)) (hlen : acc.length + s.length ≤ 140737488355328) (hB : B ≤ W.heap.size) :
    Calls Tryz.prog 41 #[.pointer (some ⟨b, 0, none⟩), .string ⟨s.toArray⟩] W fun e w' => (∃ n, e = .returned (.tuple #[.int .i64 n, .nilIface])) ∧ Below B W w' ∧ Lib.OthersKept 5 (some b) W w' ∧ Bld w' B b (acc ++ s) := by
  refine (Tryz.Builder_WriteString_k B b (Lib.byteCells acc) ⟨s.toArray⟩ W h.out (by simp [Lib.byteCells, ByteArray.size]; omega) hB).mono ?_
  rintro e w' ⟨rfl, hb, hB', hK⟩
  rw [cells_cat] at hb
  exact ⟨⟨_, rfl⟩, hB', hK, .inr hb⟩
theorem writeS_any (B b : Nat) (acc : List UInt8) (s : ByteArray) (W : World) (h : Hid (Bld W B b acc)) (hlen : acc.length + s.size ≤ 140737488355328) (hB : B ≤ W.heap.size) :
    Calls Tryz.prog 41 #[.pointer (some ⟨b, 0, none⟩), .string s] W fun e w' => (∃ n, e = .returned (.tuple #[.int .i64 n, .nilIface])) ∧ Below B W w' ∧ Lib.OthersKept 5 (some b) W w' ∧ Bld w' B b (acc ++ s.data.toList) :=
  write_any B b acc s.data.toList W h (by have e1 : s.data.toList.length = s.size := Array.length_toList; omega) hB
theorem writeB_any (B b : Nat) (acc : List UInt8) (c : UInt8) (W : World) (h : Hid (Bld W B b acc)) (hlen : acc.length + 1 ≤ 140737488355328) (hB : B ≤ W.heap.size) :
    Calls Tryz.prog 43 #[.pointer (some ⟨b, 0, none⟩), .int .u8 c.toNat] W fun e w' => e = .returned .nilIface ∧ Below B W w' ∧ Lib.OthersKept 5 (some b) W w' ∧ Bld w' B b (acc ++ [c]) := by
  refine (Tryz.Builder_WriteByte_k B b (Lib.byteCells acc) c.toNat W h.out (by simpa [Lib.byteCells] using hlen) hB).mono ?_
  rintro e w' ⟨rfl, hb, hB', hK⟩
  refine ⟨rfl, hB', hK, .inr ?_⟩
  have e : Lib.byteCells acc ++ [.int .u8 c.toNat] = Lib.byteCells (acc ++ [c]) := by simp [Lib.byteCells]
  rw [e] at hb
  exact hb
/-- What a function that writes a text behind what a builder holds does. -/
def Writes (g : Nat) (args : Array Value) (W : World) (B b : Nat) (acc s : List UInt8) : Prop := Calls Tryz.prog g args W fun e w' => e = .returned (.tuple #[]) ∧ Below B W w' ∧ Lib.OthersKept 5 (some b) W w' ∧ Bld w' B b (acc ++ s)

/-- A row that no writing into a builder turns. -/
def SafeAt (w : World) (B b : Nat) (A : Option Addr) : Prop := ∀ g o, A = some ⟨g, o, none⟩ → g < B ∨ (g ≠ b ∧ ∃ cs e, w.heap[g]? = some (.cells cs e (0, 0)) ∧ e ≠ 5)
theorem SafeAt.kept {w w' : World} {B b : Nat} {A : Option Addr} (h : SafeAt w B b A) (hk : Lib.OthersKept 5 (some b) w w') : SafeAt w' B b A := by
  intro g o e
  rcases h g o e with h1 | ⟨h1, cs, t, h2, h3⟩
  · exact .inl h1
  · exact .inr ⟨h1, cs, t, hk g _ h2 (fun e => h1 (Option.some.inj e)) (fun c fz e => h3 (by injection e)), h3⟩
/-- Where there is something, no writing into a builder turns it. -/
def SafeRow {α : Type} (w : World) (B b : Nat) (A : Option Addr) (l : List α) : Prop := l ≠ [] → SafeAt w B b A
theorem RowOf.safe {α : Type} {enc : α → List Value} {k : Nat} {w w' : World} {B b : Nat} {A : Option Addr} {l : List α} (h : RowOf enc k w A l) (hs : SafeRow w B b A l) (hb : Below B w w') (hk : Lib.OthersKept 5 (some b) w w') : RowOf enc k w' A l := by
  intro i x hx
  obtain ⟨g, off, e, hc⟩ := h i x hx
  refine ⟨g, off, e, fun j u hu => ?_⟩
  have h0 := hc j u hu
  rcases hs (by intro h; rw [h] at hx; simp at hx) g off e with h1 | ⟨h1, cs, t, h2, h3⟩
  · rw [hb.cell h1]; exact h0
  · have := hk g _ h2 (fun e => h1 (Option.some.inj e)) (fun c fz e => h3 (by injection e))
    unfold World.cell? at h0 ⊢
    rw [this]; rw [h2] at h0; exact h0

/-- The text of lots. -/
def lotT (x : Lt) : List UInt8 := [32] ++ x.good.data.toList ++ [58] ++ Lib.itoa x.count
def lotsT (l : List Lt) : List UInt8 := l.flatMap lotT
theorem lotT_len {x : Lt} (h : x.good.size ≤ 3000) (hc : i64 x.count) : (lotT x).length ≤ 3100 := by
  have := itoa_len hc.1 hc.2
  have e1 : x.good.data.toList.length = x.good.size := Array.length_toList
  simp only [lotT, List.length_append, List.length_cons, List.length_nil]
  omega
theorem lotsT_len {l : List Lt} (h : ∀ x ∈ l, x.good.size ≤ 3000 ∧ i64 x.count) : (lotsT l).length ≤ l.length * 3100 := by
  induction l with
  | nil => simp [lotsT]
  | cons x l ih =>
    have h1 := lotT_len (h x (by simp)).1 (h x (by simp)).2
    have h2 := ih fun y hy => h y (by simp [hy])
    simp only [lotsT, List.flatMap_cons, List.length_append, List.length_cons] at h2 ⊢
    omega
theorem lotsT_take (l : List Lt) (k : Nat) (x : Lt) (hx : l[k]? = some x) : lotsT (l.take (k + 1)) = lotsT (l.take k) ++ lotT x := by
  rw [List.take_add_one, hx]; simp [lotsT]
theorem lotsT_pre (l : List Lt) (k : Nat) : (lotsT (l.take k)).length ≤ (lotsT l).length := by
  have : lotsT l = lotsT (l.take k) ++ lotsT (l.drop k) := by unfold lotsT; rw [← List.flatMap_append, List.take_append_drop]
  rw [this, List.length_append]; omega
theorem lot_cat (g : ByteArray) (t : List UInt8) : (⟨#[32]⟩ : ByteArray) ++ g ++ ⟨#[58]⟩ ++ mkB t = ⟨([32] ++ g.data.toList ++ [58] ++ t).toArray⟩ := by
  apply ByteArray.ext; simp [mkB]

set_option maxRecDepth 100000 in
set_option maxHeartbeats 1600000 in
theorem tell_any (A : Option Addr) (n c : Nat) (l : List Lt) (w : World) (B b : Nat) (acc : List UInt8) (hn : n ≤ 1000000) (hl : Hid (l.length = n)) (hA : Hid (LotsAt w A l)) (hs : Hid (SafeRow w B b A l)) (he : Hid (Env w)) (hB7 : 6 ≤ B) (hB : B ≤ w.heap.size) (hbd : Hid (Bld w B b acc))
    (hlen : Hid (acc.length + (lotsT l).length + 1 ≤ 140737488355328)) :
    Writes 40 #[.slice A n c, .pointer (some ⟨b, 0, none⟩)] w B b acc (lotsT l ++ [10]) := by
  unfold Writes
  go_enter Tryz.func40, Tryz.ntmps40
  go_wp2_with fail
  go_loopw [7] (fun i wr => ∃ k : Nat, k ≤ n ∧ i = .int .i64 (k : Int) ∧ Hid (Below B w wr) ∧ Hid (Lib.OthersKept 5 (some b) w wr) ∧ Hid (Bld wr B b (acc ++ lotsT (l.take k)))) (fun i _ => n - (intOf i).toNat)
  case atStart => exact ⟨0, Nat.zero_le _, rfl, Below.refl _ _, Lib.OthersKept.refl _ _ _, by simpa [lotsT] using hbd⟩
  case round =>
    obtain ⟨k, hk, rfl, hBr, hKr, hbr⟩ := hrel
    by_cases hlt : k < n
    · obtain ⟨x, hx⟩ : ∃ x, l[k]? = some x := ⟨_, List.getElem?_eq_getElem (by have := hl.out; omega)⟩
      obtain ⟨g0, off, rfl, hc⟩ := (hA.out.row.safe hs.out hBr.out hKr.out) k x hx
      have htk := Lib.hid (lotsT_take l k x hx)
      have hmem := List.mem_of_getElem? hx
      have hnum := hA.out.nums x hmem
      have hsz := hA.out.size x hmem
      have hpre := lotsT_pre l (k + 1)
      rw [htk.out, List.length_append] at hpre
      clear hx hmem
      obtain ⟨g, ct⟩ := x
      have h0 := hc 0 _ rfl
      have h1 := hc 1 _ rfl
      clear hc
      rw [Nat.add_zero] at h0
      simp only at hnum hsz
      have hnum' := Lib.hid hnum
      have hpre' := Lib.hid hpre
      have hbl : Hid (Below wr.heap.size wr (wr.alloc (.cells #[.string g, .int .i64 ct] 63))) := (Below.refl _ wr).alloc (Nat.le_refl _) _
      have hbx := Lib.hid (Blk.new wr 63 #[.string g, .int .i64 ct])
      have hBa : Hid (Below B w (wr.alloc (.cells #[.string g, .int .i64 ct] 63))) := hBr.out.alloc (Nat.le_trans hB hBr.out.size) _
      have hKa : Hid (Lib.OthersKept 5 (some b) w (wr.alloc (.cells #[.string g, .int .i64 ct] 63))) := hKr.out.trans (kept_below hbl.out)
      have hbda := Lib.hid (hbr.out.below hbl.out)
      have hEa : Hid (Env (wr.alloc (.cells #[.string g, .int .i64 ct] 63))) := he.out.low (hBa.out.mono hB7)
      have hne : Hid (wr.heap.size ≠ b) := by have := hbr.out.lt; unfold Hid; omega
      have hcat0 : ¬ 9223372036854775807 < 1 + g.size := by omega
      have hcat1 : ¬ 9223372036854775807 < 1 + g.size + 1 := by omega
      obtain ⟨tx, htx⟩ : ∃ tx, Hid (Lib.itoa ct = tx) := ⟨_, rfl⟩
      have htl : tx.length ≤ 20 := by rw [← htx.out]; exact itoa_len hnum'.out.1 hnum'.out.2
      have hcat2 : ¬ 9223372036854775807 < 1 + g.size + 1 + (mkB tx).size := by have e : (mkB tx).size = tx.length := size_list tx; omega
      clear hnum hpre
      have hsz' : Hid (g.size ≤ 3000) := hsz
      have htl' := Lib.hid htl
      have hwl : Hid ((acc ++ lotsT (l.take k)).length + (⟨#[32]⟩ ++ g ++ ⟨#[58]⟩ ++ mkB tx : ByteArray).size ≤ 140737488355328) := by
        have e1 : (⟨#[32]⟩ ++ g ++ ⟨#[58]⟩ ++ mkB tx : ByteArray).size = (lotT ⟨g, ct⟩).length := by
          have e : (⟨#[32]⟩ ++ g ++ ⟨#[58]⟩ ++ mkB tx : ByteArray).data.toList = lotT ⟨g, ct⟩ := by simp [lotT, mkB, htx.out]
          rw [← e]; exact Array.length_toList.symm
        have h1 := hlen.out
        have h2 := hpre'.out
        rw [e1, List.length_append]
        unfold Hid; omega
      have hBs : Hid (B ≤ wr.heap.size) := Nat.le_trans hB hBr.out.size
      go_wp2_with fail
      go_region_held3 (fun W => W.cell? ⟨wr.heap.size, 0, none⟩ = some (.string g) ∧ W.cell? ⟨wr.heap.size, 1, none⟩ = some (.int .i64 ct)) (first | exact ⟨hbx.out.cell 0, hbx.out.cell 1⟩ | exact ⟨hx1.out.cell 0, hx1.out.cell 1⟩ | exact ⟨hx2.out.cell 0, hx2.out.cell 1⟩) (first
        | (go_at_call 42; (with_reducible refine (itoa_any ct _ hnum'.out.1 hnum'.out.2 (hEa.out.below (Below.refl _ _).drew)).mono ?_); rintro e w1 ⟨rfl, hb0⟩; have hb1 := ((Below.refl _ (wr.alloc (.cells #[.string g, .int .i64 ct] 63))).drew).trans hb0; clear hb0; rw [htx.out]; have hb1' := Lib.hid hb1; have hx1 : Hid (Blk w1 wr.heap.size 63 #[.string g, .int .i64 ct]) := hbx.out.below hb1 hbx.out.lt; have hBb : Hid (Bld w1 B b (acc ++ lotsT (l.take k))) := hbda.out.below hb1; have hB1 : Hid (Below B w w1) := hBa.out.trans (hb1.mono (Nat.le_trans hBs.out (by simp))); have hK1 : Hid (Lib.OthersKept 5 (some b) w w1) := hKa.out.trans (kept_below hb1); clear hb1)
        | (go_at_call 41; (with_reducible refine (writeS_any B b (acc ++ lotsT (l.take k)) (⟨#[32]⟩ ++ g ++ ⟨#[58]⟩ ++ mkB tx) _ hBb hwl.out (Nat.le_trans hB hB1.out.size)).mono ?_); rintro e w2 ⟨⟨nn, rfl⟩, hB2, hK2, hb2⟩; have hx2 : Hid (Blk w2 wr.heap.size 63 #[.string g, .int .i64 ct]) := kept_blk hK2 hx1.out hne.out (by decide)))
      all_goals
        have hBn : Hid (Below B w w2) := hB1.out.trans hB2
        have hKn : Hid (Lib.OthersKept 5 (some b) w w2) := hK1.out.trans hK2
        have hbn : Hid (Bld w2 B b (acc ++ lotsT (l.take (k + 1)))) := by
          rw [htk.out, ← List.append_assoc]
          have e : (⟨#[32]⟩ ++ g ++ ⟨#[58]⟩ ++ mkB tx : ByteArray).data.toList = lotT ⟨g, ct⟩ := by simp [lotT, mkB, htx.out]
          rw [← e]; exact hb2
        clear hB2 hK2 hb2
        go_wp2_with fail
        go_roundw
        case rel => exact ⟨k + 1, by omega, by go_num, hBn, hKn, hbn⟩
        case measure => simp [intOf]; omega
    · have e : k = n := by omega
      have hbn : Hid (Bld wr B b (acc ++ lotsT l)) := by rw [e, List.take_of_length_le (by have := hl.out; omega)] at hbr; exact hbr
      go_wp2_with fail
      refine (writeB_any B b (acc ++ lotsT l) 10 wr hbn (by have := hlen.out; simp; omega) (Nat.le_trans hB hBr.out.size)).mono ?_
      rintro e w2 ⟨rfl, hB2, hK2, hb2⟩
      go_wp2_with fail
      go_end0
      exact ⟨rfl, hBr.out.trans hB2, hKr.out.trans hK2, by rw [← List.append_assoc]; exact hb2⟩

/-- A box's kind, as a word. -/
def sizeT (k : Int) : List UInt8 := if k = 0 then [115, 109, 97, 108, 108] else if k = 1 then [108, 97, 114, 103, 101] else [111, 116, 104, 101, 114]
theorem sizeT_len (k : Int) : (sizeT k).length ≤ 5 := by
  unfold sizeT
  split
  · decide
  · split <;> decide
set_option maxRecDepth 100000 in
theorem size_any (k : Int) (w : World) : Calls Tryz.prog 44 #[.int .i64 k] w fun e w' => e = .returned (.string (mkB (sizeT k))) ∧ w = w' := by
  by_cases h0 : k = 0
  · subst h0
    go_enter Tryz.func44, Tryz.ntmps44
    go_wp2
    go_ret
    exact ⟨rfl, rfl⟩
  · by_cases h1 : k = 1
    · subst h1
      go_enter Tryz.func44, Tryz.ntmps44
      go_wp2
      go_ret
      exact ⟨rfl, rfl⟩
    · go_enter Tryz.func44, Tryz.ntmps44
      go_wp2
      go_ret
      exact ⟨by simp [sizeT, h0, h1]; rfl, rfl⟩

/-- The lots of all boxes. -/
def lotsB (l : List Bx) : List Lt := l.flatMap Bx.lots
/-- Boxes, none with too much in it. -/
structure BoxesOk (w : World) (A : Option Addr) (l : List Bx) : Prop where
  at_ : BoxesAt w A l
  small : ∀ x ∈ l, x.mark.size ≤ 3000 ∧ x.lots.length ≤ 30 ∧ ∀ y ∈ x.lots, y.good.size ≤ 3000
theorem BoxesOk.below {w w' : World} {A : Option Addr} {l : List Bx} (h : BoxesOk w A l) (hb : Below w.heap.size w w') : BoxesOk w' A l := ⟨h.at_.below hb, h.small⟩
theorem lotsB_len (l : List Bx) (h : ∀ x ∈ l, x.lots.length ≤ 30) : (lotsB l).length ≤ l.length * 30 := by
  induction l with
  | nil => simp [lotsB]
  | cons x l ih =>
    have h1 := h x (by simp)
    have h2 := ih fun y hy => h y (by simp [hy])
    simp only [lotsB, List.flatMap_cons, List.length_append, List.length_cons] at h2 ⊢
    omega
theorem lots_one (l : List Lt) : ∀ u ∈ l.flatMap encL, u.oneCell' = true := by
  intro u hu
  obtain ⟨x, _, hx⟩ := List.mem_flatMap.1 hu
  simp [encL] at hx
  rcases hx with rfl | rfl <;> rfl
theorem boxes_cells {w : World} {A : Option Addr} {l : List Bx} (h : BoxesOk w A l) (k : Nat) (x : Bx) (hx : l[k]? = some x) : ∃ b off, A = some ⟨b, off, none⟩ ∧ w.cell? ⟨b, off + k * 3, none⟩ = some (.string x.mark) ∧ w.cell? ⟨b, off + k * 3 + 1, none⟩ = some (.int .i64 x.kind) ∧ w.cell? ⟨b, off + k * 3 + 2, none⟩ = some (.slice x.A x.lots.length x.c) ∧
    LotsAt w x.A x.lots ∧ x.mark.size ≤ 3000 ∧ x.lots.length ≤ 30 := by
  obtain ⟨b, off, e, hc⟩ := h.at_.1 k x hx
  have hm := List.mem_of_getElem? hx
  have h1 := h.at_.2 x hm
  have h2 := h.small x hm
  exact ⟨b, off, e, hc 0 _ rfl, hc 1 _ rfl, hc 2 _ rfl, ⟨h1.1, h1.2.2.2.2, h2.2.2⟩, h2.1, h2.2.1⟩

set_option maxRecDepth 100000 in
set_option maxHeartbeats 1600000 in
theorem content_any (A : Option Addr) (n c : Nat) (l : List Bx) (w : World) (hn : n ≤ 30) (hl : Hid (l.length = n)) (hA : Hid (BoxesOk w A l)) :
    Calls Tryz.prog 45 #[.slice A n c] w fun e w' => ∃ A' c', e = .returned (.slice A' (joinM (lotsB l)).length c') ∧ (joinM (lotsB l)).length ≤ 900 ∧ (joinM (lotsB l)).length ≤ c' ∧ RowOf encL 2 w' A' (joinM (lotsB l)) ∧ TypedAt w' w.heap.size A' 63 ∧ Below w.heap.size w w' := by
  obtain ⟨i0, hi, hz0, hz1, hz2⟩ := info_parts Tryz.info63
  go_enter Tryz.func45, Tryz.ntmps45
  go_wp2_with fail
  go_loopw [3, 8] (fun v i wr => ∃ k : Nat, k ≤ n ∧ i = .int .i64 (k : Int) ∧ Hid (wr.ownsRow w.heap.size 63 2 v (lotsB (l.take k)).length ((lotsB (l.take k)).flatMap encL)) ∧ Hid (Below w.heap.size w wr)) (fun _ i _ => n - (intOf i).toNat)
  case atStart => exact ⟨0, Nat.zero_le _, rfl, by simpa [lotsB] using Lib.hid (World.ownsRow_nil w w.heap.size 63 2), Below.refl _ _⟩
  case round =>
    obtain ⟨k, hk, rfl, hown, hB⟩ := hrel
    by_cases hlt : k < n
    · obtain ⟨x, hx⟩ : ∃ x, l[k]? = some x := ⟨_, List.getElem?_eq_getElem (by have := hl.out; omega)⟩
      obtain ⟨b, off, rfl, h0, h1, h2, hL, hmk, hln⟩ := boxes_cells (hA.out.below hB.out) k x hx
      have htk : Hid (lotsB (l.take (k + 1)) = lotsB (l.take k) ++ x.lots) := by unfold Hid; rw [List.take_add_one, hx]; simp [lotsB]
      have hpl : (lotsB (l.take k)).length ≤ k * 30 := by
        refine Nat.le_trans (lotsB_len _ fun y hy => (hA.out.small y (List.mem_of_mem_take hy)).2.1) ?_
        rw [List.length_take]; exact Nat.mul_le_mul_right _ (Nat.min_le_left _ _)
      have hq1 : Hid ((lotsB (l.take k)).length + x.lots.length ≤ maxLen) := by unfold Hid maxLen; omega
      have hq2 : Hid (((lotsB (l.take k)).length + x.lots.length) * 24 ≤ 140737488355328) := by unfold Hid; omega
      have hL' := Lib.hid hL
      clear hx hL hpl hmk hln
      obtain ⟨mk, kd, bA, bc, ls⟩ := x
      simp only at h0 h1 h2 hL' htk hq1 hq2
      obtain ⟨m, hm⟩ : ∃ m, Hid (ls.length = m) := ⟨_, rfl⟩
      rw [hm.out] at h2 hq1 hq2
      have hone := Lib.hid (lots_one ls)
      have hbx := (Below.refl wr.heap.size wr).alloc (Nat.le_refl _) (.cells #[.string mk, .int .i64 kd, .slice bA m bc] 71)
      have hrd := Lib.hid ((hL'.out.below hbx).row.reads encL_len (by decide))
      rw [hm.out] at hrd
      have hB1 : Hid (Below w.heap.size w (wr.alloc (.cells #[.string mk, .int .i64 kd, .slice bA m bc] 71))) := hB.out.alloc hB.out.size _
      clear hbx
      go_wp2_with (at_builtin; go_must (refine wpList_append_any _ rfl (.tmp 12) (.tmp 14) 57 rfl w.heap.size 63 i0 _ 2 24 Tryz.underlying57 hi hz0 hz1 hz2 rfl (by decide) _ (lotsB (l.take k)).length ((lotsB (l.take k)).flatMap encL) rfl (hown.out.alloc _) _ bA m bc (ls.flatMap encL) rfl hrd.out hone.out hq1.out hq2.out hB1.out.size ?_); intro v5 w5 ho5 hg5 hv5)
      have ho5' : Hid (w5.ownsRow w.heap.size 63 2 v5 (lotsB (l.take (k + 1))).length ((lotsB (l.take (k + 1))).flatMap encL)) := by
        rw [htk.out, List.length_append, List.flatMap_append, hm.out]; exact Lib.hid ho5
      have hB5 : Hid (Below w.heap.size w w5) := hB1.out.grown hg5 hB1.out.size (fun j hj => (hown.out.alloc (.cells #[.string mk, .int .i64 kd, .slice bA m bc] 71)).lt j hj |>.1)
      clear ho5 hg5 hv5
      go_roundw
      case rel => exact ⟨k + 1, by omega, by go_num, ho5', hB5⟩
      case measure => simp [intOf]; omega
    · have e : k = n := by omega
      have eT : l.take k = l := List.take_of_length_le (by have := hl.out; omega)
      rw [eT] at hown
      obtain ⟨A1, c1, rfl, hc1, hr1⟩ := RowOf.of_own encL_len hown.out rfl
      have hpl : (lotsB l).length ≤ 900 := Nat.le_trans (lotsB_len _ fun y hy => (hA.out.small y hy).2.1) (by have := hl.out; omega)
      have hlots : Hid (LotsAt wr A1 (lotsB l)) := by
        refine ⟨hr1, fun y hy => ?_, fun y hy => ?_⟩
        · obtain ⟨x, hx, hy⟩ := List.mem_flatMap.1 hy
          exact (hA.out.at_.2 x hx).2.2.2.2 y hy
        · obtain ⟨x, hx, hy⟩ := List.mem_flatMap.1 hy
          exact (hA.out.small x hx).2.2 y hy
      obtain ⟨m, hm⟩ : ∃ m, Hid ((lotsB l).length = m) := ⟨_, rfl⟩
      rw [hm.out] at hown hpl
      rw [hm.out]
      have hcall := Lib.hid (join_lots A1 m c1 (lotsB l) wr (by omega) hm hlots)
      clear hr1 eT
      go_wp2_with fail
      refine hcall.out.mono ?_
      rintro e w2 ⟨A2, c2, rfl, hj1, hj2, hj3, hj4, hb2⟩
      have h9 := Lib.hid (And.intro hj1 (And.intro hj2 (And.intro hj3 (And.intro hj4 hb2))))
      clear hj1 hj2 hj3 hj4 hb2
      obtain ⟨q, hq⟩ : ∃ q, Hid ((joinM (lotsB l)).length = q) := ⟨_, rfl⟩
      rw [hq.out]
      go_wp2_with fail
      go_ret
      exact ⟨A2, c2, by rw [hq.out]; rfl, by have := h9.out.1; omega, h9.out.2.1, h9.out.2.2.1, fun g o h => ⟨Nat.le_trans hB.out.size (h9.out.2.2.2.1 g o h).1, (h9.out.2.2.2.1 g o h).2⟩, hB.out.trans (h9.out.2.2.2.2.mono hB.out.size)⟩
end Go.Proofs.YtnmnknkdnjkpjaaGreatDoor

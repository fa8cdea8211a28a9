/- Setups out of bytes: the reader, the parties, a deal's number. -/
import Derived.Test.YtheiogafjinihaaDoorGa
import Derived.Test.YtheiogafjinihaaDoorLw
import Derived.Test.YtheiogafjinihaaDoorS
namespace Go.Proofs.YtheiogafjinihaaDoor
open Go Go.RowKit Go.BigFrame Go.Maps

def numB2 (k : Nat) : ByteArray := ⟨#[100]⟩ ++ ⟨(Lib.decDigits k).toArray⟩
theorem dealno_any (k : Nat) (hk : k < 100) (w : World) : Calls Tryd.prog 30 #[.int .i64 (k : Int)] w fun e w' => e = .returned (.string (numB2 k)) ∧ w = w' := by
  have hit := Lib.hid (itoa_small k hk)
  obtain ⟨hd2, _⟩ := dec_small_len hk
  unfold numB2
  obtain ⟨s, hs⟩ : ∃ s, Lib.decDigits k = s := ⟨_, rfl⟩
  rw [hs] at hit hd2 ⊢
  have b1 : decide ((k : Int) < 0) = false := by simp
  have z1 : ¬ 9223372036854775807 < 1 + s.length := by omega
  have z2 : ¬ 9223372036854775807 < s.length + 1 := by omega
  clear hs hk hd2
  go_enter Tryd.func30, Tryd.ntmps30
  go_wp2_with (go_at_call 41; refine (hit.out _).mono ?_; rintro e w' ⟨rfl, rfl⟩)
  go_ret
  exact ⟨rfl, rfl⟩
theorem odd_any (n : Nat) (w : World) (hn : n < 1000) : Calls Tryd.prog 18 #[.int .i64 (n : Int)] w fun e w' => e = .returned (.bool (decide (n % 2 = 1))) ∧ w = w' := by
  have t1 : (n : Int).tmod 2 = (n : Int) % 2 := IntWalk.rem_in _ _ (by omega)
  by_cases h : n % 2 = 1
  · have b1 : ((n : Int) % 2 == 1) = true := by simp; omega
    go_enter Tryd.func18, Tryd.ntmps18
    go_wp2_with fail
    go_ret
    exact ⟨by rw [decide_eq_true h]; rfl, rfl⟩
  · have b1 : ((n : Int) % 2 == 1) = false := by simp; omega
    go_enter Tryd.func18, Tryd.ntmps18
    go_wp2_with fail
    go_ret
    exact ⟨by rw [decide_eq_false h]; rfl, rfl⟩

/-- A reader of bytes in memory. -/
structure RdAt (w : World) (ca cb : Nat) (A : Option Addr) (c : Nat) (b : List UInt8) (k : Nat) : Prop where
  at_ : Blk w ca 3 #[.int .i64 (k : Int)]
  box : Blk w cb 22 #[.slice A b.length c]
  bytes : ∀ i x, b[i]? = some x → ∃ g off, A = some ⟨g, off, none⟩ ∧ g ≠ ca ∧ w.cell? ⟨g, off + i, none⟩ = some (.int .u8 (x.toNat : Int))
  pos : k ≤ b.length
  len : b.length ≤ 1000
  ne : cb ≠ ca
theorem RdAt.below {w w' : World} {ca cb : Nat} {A : Option Addr} {c : Nat} {b : List UInt8} {k : Nat} (h : RdAt w ca cb A c b k) (hb : Below w.heap.size w w') : RdAt w' ca cb A c b k :=
  ⟨h.at_.below hb h.at_.lt, h.box.below hb h.box.lt, fun i x hx => by
    obtain ⟨g, off, e, hg, hc⟩ := h.bytes i x hx
    exact ⟨g, off, e, hg, (hb.cell (World.block_lt_of_cell? w _ hc)).trans hc⟩, h.pos, h.len, h.ne⟩
theorem byteAt_lt {b : List UInt8} {k : Nat} {x : UInt8} (h : b[k]? = some x) : byteAt b k = x.toNat := by unfold byteAt; rw [h]
theorem byteAt_end {b : List UInt8} {k : Nat} (h : b.length ≤ k) : byteAt b k = 0 := by unfold byteAt; rw [List.getElem?_eq_none h]
theorem byteAt_256 (b : List UInt8) (k : Nat) : byteAt b k < 256 := by
  unfold byteAt
  split
  · rename_i c _; exact c.toNat_lt
  · omega
set_option maxHeartbeats 800000 in
theorem next_any (ca cb : Nat) (A : Option Addr) (c : Nat) (b : List UInt8) (k : Nat) (w : World) (h : Hid (RdAt w ca cb A c b k)) :
    Calls Tryd.prog 28 #[pO ca, pO cb] w fun e w' => e = .returned (.int .i64 (byteAt b k : Nat)) ∧ RdAt w' ca cb A c b (min (k + 1) b.length) ∧ But ca w w' := by
  obtain ⟨n, hn⟩ : ∃ n, Hid (b.length = n) := ⟨_, Lib.hid rfl⟩
  have c0 : w.cell? ⟨ca, 0, none⟩ = some (.int .i64 (k : Int)) := h.out.at_.cell 0
  have f0 : w.frozen? ⟨ca, 0, none⟩ = false := h.out.at_.frozen 0
  have c1 : w.cell? ⟨cb, 0, none⟩ = some (.slice A n c) := by rw [h.out.box.cell, ← hn.out]; rfl
  have hne : cb ≠ ca := h.out.ne
  have hne2 : ca ≠ cb := Ne.symm hne
  have hp := h.out.pos
  have hl := h.out.len
  rw [hn.out] at hp hl
  by_cases hlt : k < n
  · obtain ⟨x, hx⟩ : ∃ x, b[k]? = some x := ⟨_, List.getElem?_eq_getElem (by have := hn.out; omega)⟩
    have hby := Lib.hid (byteAt_lt hx)
    obtain ⟨g, off, rfl, hg, hc⟩ := h.out.bytes k x hx
    have hg2 : ca ≠ g := Ne.symm hg
    have b1 : decide ((n : Int) ≤ (k : Int)) = false := by simp; omega
    have b2 : decide (n ≤ k) = false := by simp; omega
    have i1 : (k : Int) < (n : Int) := by omega
    have i2 : (0 : Int) ≤ (k : Int) := by omega
    have j1 : (x.toNat : Int) ≤ 255 := by have := x.toNat_lt; omega
    have j2 : (0 : Int) ≤ (x.toNat : Int) := by omega
    clear hx
    go_enter Tryd.func28, Tryd.ntmps28
    go_wp2_with fail
    go_ret
    refine ⟨by rw [hby.out]; rfl, ⟨?_, h.out.box.but ((But.refl ca w).setCell 0 _) hne, fun i y hy => ?_, ?_, h.out.len, hne⟩, (But.refl ca w).setCell 0 _⟩
    · rw [show min (k + 1) b.length = k + 1 by have := hn.out; omega]
      have := h.out.at_.set_ 0 (.int .i64 ((k : Int) + 1))
      have e : (((k + 1 : Nat) : Int)) = (k : Int) + 1 := by omega
      rw [e]
      exact this
    · obtain ⟨g', off', e, hg', hc'⟩ := h.out.bytes i y hy
      exact ⟨g', off', e, hg', (((But.refl ca w).setCell 0 _).cell (World.block_lt_of_cell? w _ hc') hg').trans hc'⟩
    · exact Nat.min_le_right _ _
  · have hby := Lib.hid (byteAt_end (b := b) (k := k) (by have := hn.out; omega))
    have b1 : decide ((n : Int) ≤ (k : Int)) = true := by simp; omega
    have b2 : decide (n ≤ k) = true := by simp; omega
    go_enter Tryd.func28, Tryd.ntmps28
    go_wp2_with fail
    go_ret
    refine ⟨by rw [hby.out]; rfl, ?_, But.refl ca w⟩
    rw [show min (k + 1) b.length = k by have := hn.out; omega]
    exact h.out
/-- The nine parties as they lie. -/
def partiesA : Array Value := #[.string ⟨#[97, 110, 110, 97]⟩, .string ⟨#[102, 117, 110, 100]⟩, .int .i64 0, .string ⟨#[98, 101, 114, 116]⟩, .string ⟨#[103, 111, 108, 100]⟩, .int .i64 0, .string ⟨#[99, 108, 101, 111]⟩, .string ⟨#[102, 117, 110, 100]⟩, .int .i64 0, .string ⟨#[100, 111, 114, 97]⟩, .string ⟨#[]⟩, .int .i64 1, .string ⟨#[101, 109, 105, 108]⟩, .string ⟨#[]⟩, .int .i64 1, .string ⟨#[102, 117, 110, 100]⟩, .string ⟨#[]⟩, .int .i64 2, .string ⟨#[103, 111, 108, 100]⟩, .string ⟨#[]⟩, .int .i64 2, .string ⟨#[104, 97, 108, 108]⟩, .string ⟨#[103, 111, 108, 100]⟩, .int .i64 3, .string ⟨#[105, 114, 105, 115]⟩, .string ⟨#[102, 117, 110, 100]⟩, .int .i64 4]
theorem parties_any (w : World) : Calls Tryd.prog 17 #[] w fun e w' => e = .returned (.slice (some ⟨w.heap.size, 0, none⟩) 9 9) ∧ w.alloc (.cells partiesA 56) = w' := by
  go_enter Tryd.func17, Tryd.ntmps17
  go_wp2_with fail
  go_ret
  exact ⟨rfl, rfl⟩
set_option maxHeartbeats 800000 in
theorem reader_any (A : Option Addr) (c : Nat) (b : List UInt8) (w : World) (hl : b.length ≤ 1000) (hb : Hid (∀ i x, b[i]? = some x → ∃ g off, A = some ⟨g, off, none⟩ ∧ w.cell? ⟨g, off + i, none⟩ = some (.int .u8 (x.toNat : Int)))) :
    Calls Tryd.prog 16 #[.slice A b.length c] w fun e w' => ∃ ca cb, e = .returned (.tuple #[.func (.func 28) #[] #[pO ca, pO cb], .func (.func 29) #[] #[pO ca, pO cb]]) ∧ RdAt w' ca cb A c b 0 ∧ Below w.heap.size w w' ∧ w.heap.size ≤ ca := by
  obtain ⟨n, hn⟩ : ∃ n, Hid (b.length = n) := ⟨_, Lib.hid rfl⟩
  rw [hn.out]
  obtain ⟨w1, hw1⟩ : ∃ W, Hid (w.alloc (.cells #[.slice A n c] 22) = W) := ⟨_, rfl⟩
  have hb1 : Hid (Below w.heap.size w w1) := by rw [← hw1.out]; exact (Below.refl _ w).alloc (Nat.le_refl _) _
  have hk1 : Hid (Blk w1 w.heap.size 22 #[.slice A n c]) := by rw [← hw1.out]; exact Lib.hid (Blk.new _ _ _)
  obtain ⟨w2, hw2⟩ : ∃ W, Hid (w1.alloc (.cells #[.int .i64 0] 3) = W) := ⟨_, rfl⟩
  have hb2 : Hid (Below w1.heap.size w1 w2) := by rw [← hw2.out]; exact (Below.refl _ w1).alloc (Nat.le_refl _) _
  have hk2 : Hid (Blk w2 w1.heap.size 3 #[.int .i64 0]) := by rw [← hw2.out]; exact Lib.hid (Blk.new _ _ _)
  have z0 : w2.cell? ⟨w1.heap.size, 0, none⟩ = some (.int .i64 0) := hk2.out.cell 0
  have zf : w2.frozen? ⟨w1.heap.size, 0, none⟩ = false := hk2.out.frozen 0
  go_enter Tryd.func16, Tryd.ntmps16
  go_wp2_with (first | rw [hw1.out] | rw [hw2.out])
  go_ret2
  have hlt : w.heap.size < w1.heap.size := hk1.out.lt
  have hbu : But w1.heap.size w2 (w2.setCell ⟨w1.heap.size, 0, none⟩ (.int .i64 0)) := (But.refl _ w2).setCell 0 _
  refine ⟨w1.heap.size, w.heap.size, rfl, ⟨hk2.out.set_ 0 _, ?_, fun i x hx => ?_, Nat.zero_le _, hl, by omega⟩, ?_, by omega⟩
  · rw [hn.out]
    exact (hk1.out.below hb2.out hk1.out.lt).but hbu (by omega)
  · obtain ⟨g, off, e, hc⟩ := hb.out i x hx
    have hg : g < w.heap.size := World.block_lt_of_cell? w _ hc
    have hc1 := (hb1.out.cell hg).trans hc
    have hc2 := (hb2.out.cell (by show g < w1.heap.size; omega)).trans hc1
    exact ⟨g, off, e, by omega, (hbu.cell (by show g < w2.heap.size; have := hb2.out.size; omega) (by show g ≠ w1.heap.size; omega)).trans hc2⟩
  · exact hbu.to_below (hb1.out.trans (hb2.out.mono hb1.out.size)) (by omega) (by have := hb1.out.size; have := hb2.out.size; omega)
end Go.Proofs.YtheiogafjinihaaDoor

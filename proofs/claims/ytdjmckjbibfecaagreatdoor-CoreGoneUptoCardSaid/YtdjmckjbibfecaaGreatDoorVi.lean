/- The law's paper and awake, walked. -/
import Derived.Test.YtdjmckjbibfecaaGreatDoorJb
import Derived.Test.YtdjmckjbibfecaaGreatDoorWg
namespace Go.Proofs.YtdjmckjbibfecaaGreatDoor
open Go Go.RowKit Go.BigFrame Go.Maps

theorem drop_cons {α : Type} {l : List α} {q : Nat} {a : α} (h : l[q]? = some a) : l.drop q = a :: l.drop (q + 1) := by
  obtain ⟨h1, h2⟩ := List.getElem?_eq_some_iff.1 h
  rw [List.drop_eq_getElem_cons h1, h2]
structure Fill (S : Nat → Bool) (st : List Int) (x q y : Nat) (pre : List Int) : Prop where
  len : pre.length = q
  whole : pre ++ fillD S (st.drop q) q y = fillD S st 0 x
theorem Fill.zero (S : Nat → Bool) (st : List Int) (x : Nat) : Fill S st x 0 x [] := ⟨rfl, by simp⟩
theorem Fill.keep {S : Nat → Bool} {st : List Int} {x q y : Nat} {pre : List Int} {a : Int} (h : Fill S st x q y pre) (ha : st[q]? = some a) (hs : S q = true) : Fill S st x (q + 1) y (pre ++ [a]) := by
  refine ⟨by simp [h.len], ?_⟩
  have := h.whole
  rw [drop_cons ha, fillD, if_pos hs] at this
  simpa using this
theorem Fill.put {S : Nat → Bool} {st : List Int} {x q y : Nat} {pre : List Int} {a : Int} (h : Fill S st x q y pre) (ha : st[q]? = some a) (hs : S q = false) : Fill S st x (q + 1) (y / 3) (pre ++ [((y % 3 : Nat) : Int)]) := by
  refine ⟨by simp [h.len], ?_⟩
  have := h.whole
  rw [drop_cons ha, fillD, if_neg (by rw [hs]; simp)] at this
  simpa using this
end Go.Proofs.YtdjmckjbibfecaaGreatDoor
namespace Go.Proofs.YtdjmckjbibfecaaGreatDoor
open Go Go.RowKit Go.BigFrame Go.Maps

structure CoreRt (w W : World) (cs0 : Array Value) (vs : Value) (m : Nat) (ST : List Int) (vo : Value) (CD : List (List Nat)) : Prop where
  nb : Blk W w.heap.size 24 cs0
  ints : W.ownsRow w.heap.size 3 1 vs m (intsV ST)
  cores : CoresAt W w.heap.size vo CD
  some_ : ∃ g c, vo = .slice (some ⟨g, 0, none⟩) CD.length c
  below : Below w.heap.size w W
theorem CoreRt.on {w W W' : World} {cs0 : Array Value} {vs : Value} {m : Nat} {ST : List Int} {vo : Value} {CD : List (List Nat)} (h : CoreRt w W cs0 vs m ST vo CD) (hb : Below W.heap.size W W') : CoreRt w W' cs0 vs m ST vo CD :=
  ⟨h.nb.below hb h.nb.lt, own_below h.ints hb, h.cores.on hb, h.some_, h.below.trans (hb.mono h.below.size)⟩
theorem CoresAt.new (w : World) (B : Nat) (hB : B ≤ w.heap.size) : CoresAt (w.alloc (.cells #[] 35)) B (.slice (some ⟨w.heap.size, 0, none⟩) 0 0) [] :=
  ⟨[], rfl, own_mono (own_new w 35 1) hB, fun i p x h => by simp at h⟩
end Go.Proofs.YtdjmckjbibfecaaGreatDoor
namespace Go.Proofs.YtdjmckjbibfecaaGreatDoor
open Go Go.RowKit Go.BigFrame Go.Maps

end Go.Proofs.YtdjmckjbibfecaaGreatDoor
namespace Go.Proofs.YtdjmckjbibfecaaGreatDoor
open Go Go.RowKit Go.BigFrame Go.Maps

theorem row_cell {w : World} {B n c : Nat} {e : TypeId} {A : Option Addr} {xs : List Value} {j : Nat} {x : Value} (h : w.ownsRow B e 1 (.slice A n c) n xs) (hx : xs[j]? = some x) : ∃ g, A = some ⟨g, 0, none⟩ ∧ w.cell? ⟨g, j, none⟩ = some x := by
  have hj := (List.getElem?_eq_some_iff.1 hx).1
  have := h.1
  obtain ⟨g, c', e9, _, _⟩ := own_formS h (by omega)
  obtain rfl : A = some ⟨g, 0, none⟩ := by injection e9
  refine ⟨g, rfl, ?_⟩
  rw [h.cellAt j (by omega)]; exact hx
set_option maxRecDepth 100000 in
set_option maxHeartbeats 3200000 in
theorem sameR_any (LL : List (List Nat)) (v v' : Value) (B B' : Nat) (w : World) (hle : LL.length ≤ 5000) (hpl : Hid (∀ p ∈ LL, p.length ≤ 12)) (h1 : Hid (CoresAt w B v LL)) (h2 : Hid (CoresAt w B' v' LL)) :
    Calls Tryz.prog 15 #[v, v'] w fun e w' => e = .returned (.bool true) ∧ Below w.heap.size w w' := by
  obtain ⟨vs, hl1, hr1, hf1⟩ := h1.out
  obtain ⟨us, hl2, hr2, hf2⟩ := h2.out
  obtain ⟨nO, hnO⟩ : ∃ n, LL.length = n := ⟨_, rfl⟩
  rw [hnO] at hl1 hl2 hr1 hr2 hle
  have hnO' := Lib.hid hnO
  obtain ⟨A1, c1, rfl⟩ := own_form hr1
  obtain ⟨A2, c2, rfl⟩ := own_form hr2
  have hr1' := Lib.hid hr1
  have hr2' := Lib.hid hr2
  have hf1' := Lib.hid hf1
  have hf2' := Lib.hid hf2
  have hl1' := Lib.hid hl1
  have hl2' := Lib.hid hl2
  clear h1 h2 hl1 hl2 hr1 hr2 hf1 hf2 hnO
  go_enter Tryz.func15, Tryz.ntmps15
  go_wp2_with fail
  go_loopw [5] (fun i wr => ∃ j : Nat, j ≤ nO ∧ i = .int .i64 j ∧ Hid (Below w.heap.size w wr)) (fun i _ => nO - (intOf i).toNat)
  case atStart => exact ⟨0, Nat.zero_le _, rfl, Lib.hid (Below.refl _ _)⟩
  case round =>
    obtain ⟨j, hj, rfl, hB⟩ := hrel
    by_cases hlt : j < nO
    · have hkm : decide (j < nO) = true := decide_eq_true hlt
      have j1 : (j : Int) < (nO : Int) := by omega
      have j2 : (0 : Int) ≤ (j : Int) := by omega
      obtain ⟨p9, hp9⟩ : ∃ x, LL[j]? = some x := ⟨_, List.getElem?_eq_getElem (by have := hnO'.out; omega)⟩
      obtain ⟨x9, hx9⟩ : ∃ x, vs[j]? = some x := ⟨_, List.getElem?_eq_getElem (by have := hl1'.out; omega)⟩
      obtain ⟨y9, hy9⟩ : ∃ x, us[j]? = some x := ⟨_, List.getElem?_eq_getElem (by have := hl2'.out; omega)⟩
      have hrx := hf1'.out j p9 x9 hp9 hx9
      have hry := hf2'.out j p9 y9 hp9 hy9
      obtain ⟨xn, hxn⟩ : ∃ n, p9.length = n := ⟨_, rfl⟩
      have hxn12 : xn ≤ 12 := by rw [← hxn]; exact hpl.out p9 (List.mem_of_getElem? hp9)
      rw [hxn] at hrx hry
      obtain ⟨xA, xc, rfl⟩ := own_form hrx
      obtain ⟨yA, yc, rfl⟩ := own_form hry
      obtain ⟨g1, rfl, k1⟩ := row_cell (own_below hr1'.out hB.out) hx9
      obtain ⟨g2, rfl, k2⟩ := row_cell (own_below hr2'.out hB.out) hy9
      have hix := Lib.hid (nats_cells hrx)
      have hiy := Lib.hid (nats_cells hry)
      have hxn' := Lib.hid hxn
      have hx9' := Lib.hid hx9
      have hy9' := Lib.hid hy9
      clear hp9 hx9 hy9 hrx hry hxn
      go_wp2_with fail
      go_quiet (fail)
      go_wp2_with fail
      go_loopw [6] (fun i wr2 => ∃ kk : Nat, kk ≤ xn ∧ i = .int .i64 kk ∧ Hid (Below w.heap.size w wr2)) (fun i _ => xn - (intOf i).toNat)
      case atStart => exact ⟨0, Nat.zero_le _, rfl, Lib.hid (below_drewN hB.out _)⟩
      case round =>
        clear k1 k2 hB
        obtain ⟨kk, hkk, rfl, hB⟩ := hrel
        obtain ⟨g1', e1, k1⟩ := row_cell (own_below hr1'.out hB.out) hx9'.out
        obtain rfl : g1 = g1' := by simpa using e1
        obtain ⟨g2', e2, k2⟩ := row_cell (own_below hr2'.out hB.out) hy9'.out
        obtain rfl : g2 = g2' := by simpa using e2
        clear e1 e2
        by_cases hlt2 : kk < xn
        · have hkm2 : decide (kk < xn) = true := decide_eq_true hlt2
          have i1 : (kk : Int) < (xn : Int) := by omega
          have i2 : (0 : Int) ≤ (kk : Int) := by omega
          obtain ⟨a, ha⟩ : ∃ a, p9[kk]? = some a := ⟨_, List.getElem?_eq_getElem (by have := hxn'.out; omega)⟩
          obtain ⟨gx, ox, rfl, cx⟩ := (hix.out.below hB.out) kk a (by rw [List.getElem?_map, ha]; rfl)
          obtain ⟨gy, oy, rfl, cy⟩ := (hiy.out.below hB.out) kk a (by rw [List.getElem?_map, ha]; rfl)
          clear ha
          go_wp2_with fail
          go_quiet (fail)
          go_wp2_with fail
          go_roundw
          case rel => exact ⟨kk + 1, by omega, by go_num, Lib.hid (below_drewN hB.out _)⟩
          case measure => simp [intOf]; omega
        · have hkm2 : decide (kk < xn) = false := decide_eq_false hlt2
          go_wp2_with fail
          go_roundw
          case rel => exact ⟨j + 1, by omega, by go_num, hB⟩
          case measure => simp [intOf]; omega
    · have hkm : decide (j < nO) = false := decide_eq_false hlt
      go_wp2_with fail
      go_ret
      exact ⟨rfl, hB.out⟩
end Go.Proofs.YtdjmckjbibfecaaGreatDoor
namespace Go.Proofs.YtdjmckjbibfecaaGreatDoor
open Go Go.RowKit Go.BigFrame Go.Maps

end Go.Proofs.YtdjmckjbibfecaaGreatDoor
namespace Go.Proofs.YtdjmckjbibfecaaGreatDoor
open Go Go.RowKit Go.BigFrame Go.Maps

def papz (b : Option Addr) (fc : Nat) : Pap := ⟨4, ⟨#[]⟩, ⟨#[]⟩, b, fc, [⟨⟨#[97]⟩, ⟨#[122]⟩⟩]⟩
def PapZ : Ty := fun v W => ∃ g b fc, v = .slice (some ⟨g, 0, none⟩) 1 1 ∧ DocsAt W (some ⟨g, 0, none⟩) [papz b fc]
theorem mono_PapZ : MonoT PapZ := fun _ _ _ ⟨g, b, fc, e, h⟩ hb => ⟨g, b, fc, e, h.below hb⟩
def CorT (L : List (List Nat)) : Ty := fun v W => ∃ B, CoresAt W B v L
theorem mono_CorT (L : List (List Nat)) : MonoT (CorT L) := fun _ _ _ ⟨B, h⟩ hb => ⟨B, h.on hb⟩
def RowT (l : List Nat) : Ty := fun v W => ∃ g, v = .slice (some ⟨g, 0, none⟩) l.length l.length ∧ Blk W g 3 (natsV l).toArray
theorem mono_RowT (l : List Nat) : MonoT (RowT l) := fun _ _ _ ⟨g, e, h⟩ hb => ⟨g, e, h.below hb h.lt⟩
theorem own_of_blk {w : World} {g n : Nat} {e : TypeId} {cs : Array Value} (h : Blk w g e cs) (hs : cs.size = n) (hn : n ≤ maxLen) : w.ownsRow 0 e 1 (.slice (some ⟨g, 0, none⟩) n n) n cs.toList :=
  ⟨by simp [hs], .inr ⟨g, n, cs, rfl, Nat.zero_le _, h, Nat.le_refl _, hn, by omega, List.take_of_length_le (by simp [hs])⟩⟩
theorem cor_one {W : World} {v : Value} {l : List Nat} (h : RowT l v W) (hl : l.length ≤ 12) : CorT [l] (.slice (some ⟨W.heap.size, 0, none⟩) 1 1) (W.alloc (.cells #[v] 35)) := by
  obtain ⟨g, rfl, hb⟩ := h
  have hbl := hb.alloc (.cells #[.slice (some ⟨g, 0, none⟩) l.length l.length] 35)
  refine ⟨0, [.slice (some ⟨g, 0, none⟩) l.length l.length], rfl, own_mono (own_fresh W 35 1 1 #[.slice (some ⟨g, 0, none⟩) l.length l.length] rfl (by unfold maxLen; omega)) (Nat.zero_le _), fun i p x hi hx => ?_⟩
  have h0 : i = 0 := by have := (List.getElem?_eq_some_iff.1 hi).1; simpa using this
  subst h0
  simp at hi hx
  subst hi; subst hx
  have := own_of_blk (n := l.length) hbl (by simp [natsV]) (by unfold maxLen; omega)
  simpa using this
theorem paper_any (w : World) : Calls Tryz.prog 36 #[.string ⟨#[122]⟩] w fun e w' => ∃ v, e = .returned v ∧ PapZ v w' ∧ Below w.heap.size w w' := by
  obtain ⟨w1, hw1⟩ : ∃ X, Hid (w.alloc (.cells #[.string ⟨#[97]⟩, .string ⟨#[122]⟩] 108) = X) := ⟨_, rfl⟩
  have hb1 : Hid (Below w.heap.size w w1) := by rw [← hw1.out]; exact (Below.refl _ w).alloc (Nat.le_refl _) _
  have hF1 : Hid (Blk w1 w.heap.size 108 #[.string ⟨#[97]⟩, .string ⟨#[122]⟩]) := by rw [← hw1.out]; exact Lib.hid (Blk.new _ _ _)
  obtain ⟨w2, hw2⟩ : ∃ X, Hid (w1.alloc (.cells #[.int .i64 4, .string ⟨#[]⟩, .string ⟨#[]⟩, .slice (some ⟨w.heap.size, 0, none⟩) 1 1] 61) = X) := ⟨_, rfl⟩
  have hsz : w1.heap.size = w.heap.size + 1 := by rw [← hw1.out]; simp
  have hb2 : Hid (Below w1.heap.size w1 w2) := by rw [← hw2.out]; exact Lib.hid ((Below.refl _ w1).alloc (Nat.le_refl _) _)
  have hD2 : Hid (Blk w2 (w.heap.size + 1) 61 #[.int .i64 4, .string ⟨#[]⟩, .string ⟨#[]⟩, .slice (some ⟨w.heap.size, 0, none⟩) 1 1]) := by rw [← hw2.out, ← hsz]; exact Lib.hid (Blk.new _ _ _)
  have hF2 := Lib.hid (hF1.out.below hb2.out hF1.out.lt)
  have hB2 : Hid (Below w.heap.size w w2) := hb1.out.trans (hb2.out.mono hb1.out.size)
  go_enter Tryz.func36, Tryz.ntmps36
  go_wp2_with (first | rw [hw1.out, hw2.out] | rw [hw1.out] | rw [hw2.out])
  go_ret
  refine ⟨_, rfl, ⟨w.heap.size + 1, some ⟨w.heap.size, 0, none⟩, 1, rfl, fun k x hk => ?_⟩, hB2.out⟩
  have h0 : k = 0 := by have := (List.getElem?_eq_some_iff.1 hk).1; simpa using this
  subst h0
  simp at hk
  subst hk
  refine ⟨w.heap.size + 1, 0, rfl, hD2.out.cell 0, hD2.out.cell 1, hD2.out.cell 2, hD2.out.cell 3, ?_, by simp [papz, maxLen], by simp [papz]⟩
  intro k f hf
  have h0 : k = 0 := by have := (List.getElem?_eq_some_iff.1 hf).1; simpa [papz] using this
  subst h0
  simp [papz] at hf
  subst hf
  first
    | exact ⟨_, _, rfl, hF2.out.cell 0, hF2.out.cell 1⟩
    | exact ⟨_, _, rfl, by simpa using hF2.out.cell 0, by simpa using hF2.out.cell 1⟩
end Go.Proofs.YtdjmckjbibfecaaGreatDoor

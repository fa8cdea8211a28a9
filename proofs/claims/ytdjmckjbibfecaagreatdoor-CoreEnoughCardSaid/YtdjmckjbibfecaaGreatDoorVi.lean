/- The law's paper and awake, walked. -/
import Derived.Test.YtdjmckjbibfecaaGreatDoorVh
namespace Go.Proofs.YtdjmckjbibfecaaGreatDoor
open Go Go.RowKit Go.BigFrame Go.Maps

def papz (b : Option Addr) (fc : Nat) : Pap := ⟨4, ⟨#[]⟩, ⟨#[]⟩, b, fc, [⟨⟨#[97]⟩, ⟨#[122]⟩⟩]⟩
def PapZ : Ty := fun v W => ∃ g b fc, v = .slice (some ⟨g, 0, none⟩) 1 1 ∧ DocsAt W (some ⟨g, 0, none⟩) [papz b fc]
theorem mono_PapZ : MonoT PapZ := fun _ _ _ ⟨g, b, fc, e, h⟩ hb => ⟨g, b, fc, e, h.below hb⟩
def CorT (L : List (List Nat)) : Ty := fun v W => ∃ B, CoresAt W B v L
theorem mono_CorT (L : List (List Nat)) : MonoT (CorT L) := fun _ _ _ ⟨B, h⟩ hb => ⟨B, h.on hb⟩
def RowT (l : List Nat) : Ty := fun v W => ∃ g, v = .slice (some ⟨g, 0, none⟩) l.length l.length ∧ Blk W g 3 (natsV l).toArray
theorem mono_RowT (l : List Nat) : MonoT (RowT l) := fun _ _ _ ⟨g, e, h⟩ hb => ⟨g, e, h.below hb h.lt⟩
theorem own_of_blk {w : World} {g n : Nat} {e : TypeId} {cs : Array Value} (h : Blk w g e cs) (hs : cs.size = n) (hn : n ≤ maxLen) : w.ownsRow 0 e 1 (.slice (some ⟨g, 0, none⟩) n n) n cs.toList :=
  ⟨by simp [hs], .inr ⟨g, n, cs, rfl, Nat.zero_le _, h, Nat.le_refl _, hn, by omega, List.take_of_length_le (by simp [hs])⟩⟩
theorem cor_one {W : World} {v : Value} {l : List Nat} (h : RowT l v W) (hl : l.length ≤ 12) : CorT [l] (.slice (some ⟨W.heap.size, 0, none⟩) 1 1) (W.alloc (.cells #[v] 35)) := by
  obtain ⟨g, rfl, hb⟩ := h
  have hbl := hb.alloc (.cells #[.slice (some ⟨g, 0, none⟩) l.length l.length] 35)
  refine ⟨0, [.slice (some ⟨g, 0, none⟩) l.length l.length], rfl, own_mono (own_fresh W 35 1 1 #[.slice (some ⟨g, 0, none⟩) l.length l.length] rfl (by unfold maxLen; omega)) (Nat.zero_le _), fun i p x hi hx => ?_⟩
  have h0 : i = 0 := by have := (List.getElem?_eq_some_iff.1 hi).1; simpa using this
  subst h0
  simp at hi hx
  subst hi; subst hx
  have := own_of_blk (n := l.length) hbl (by simp [natsV]) (by unfold maxLen; omega)
  simpa using this
theorem paper_any (w : World) : Calls Tryz.prog 36 #[.string ⟨#[122]⟩] w fun e w' => ∃ v, e = .returned v ∧ PapZ v w' ∧ Below w.heap.size w w' := by
  obtain ⟨w1, hw1⟩ : ∃ X, Hid (w.alloc (.cells #[.string ⟨#[97]⟩, .string ⟨#[122]⟩] 108) = X) := ⟨_, rfl⟩
  have hb1 : Hid (Below w.heap.size w w1) := by rw [← hw1.out]; exact (Below.refl _ w).alloc (Nat.le_refl _) _
  have hF1 : Hid (Blk w1 w.heap.size 108 #[.string ⟨#[97]⟩, .string ⟨#[122]⟩]) := by rw [← hw1.out]; exact Lib.hid (Blk.new _ _ _)
  obtain ⟨w2, hw2⟩ : ∃ X, Hid (w1.alloc (.cells #[.int .i64 4, .string ⟨#[]⟩, .string ⟨#[]⟩, .slice (some ⟨w.heap.size, 0, none⟩) 1 1] 61) = X) := ⟨_, rfl⟩
  have hsz : w1.heap.size = w.heap.size + 1 := by rw [← hw1.out]; simp
  have hb2 : Hid (Below w1.heap.size w1 w2) := by rw [← hw2.out]; exact Lib.hid ((Below.refl _ w1).alloc (Nat.le_refl _) _)
  have hD2 : Hid (Blk w2 (w.heap.size + 1) 61 #[.int .i64 4, .string ⟨#[]⟩, .string ⟨#[]⟩, .slice (some ⟨w.heap.size, 0, none⟩) 1 1]) := by rw [← hw2.out, ← hsz]; exact Lib.hid (Blk.new _ _ _)
  have hF2 := Lib.hid (hF1.out.below hb2.out hF1.out.lt)
  have hB2 : Hid (Below w.heap.size w w2) := hb1.out.trans (hb2.out.mono hb1.out.size)
  go_enter Tryz.func36, Tryz.ntmps36
  go_wp2_with (first | rw [hw1.out, hw2.out] | rw [hw1.out] | rw [hw2.out])
  go_ret
  refine ⟨_, rfl, ⟨w.heap.size + 1, some ⟨w.heap.size, 0, none⟩, 1, rfl, fun k x hk => ?_⟩, hB2.out⟩
  have h0 : k = 0 := by have := (List.getElem?_eq_some_iff.1 hk).1; simpa using this
  subst h0
  simp at hk
  subst hk
  refine ⟨w.heap.size + 1, 0, rfl, hD2.out.cell 0, hD2.out.cell 1, hD2.out.cell 2, hD2.out.cell 3, ?_, by simp [papz, maxLen], by simp [papz]⟩
  intro k f hf
  have h0 : k = 0 := by have := (List.getElem?_eq_some_iff.1 hf).1; simpa [papz] using this
  subst h0
  simp [papz] at hf
  subst hf
  first
    | exact ⟨_, _, rfl, hF2.out.cell 0, hF2.out.cell 1⟩
    | exact ⟨_, _, rfl, by simpa using hF2.out.cell 0, by simpa using hF2.out.cell 1⟩
end Go.Proofs.YtdjmckjbibfecaaGreatDoor

/- What the document's Cores leans on. -/
import Derived.Test.YtdjmckjbibfecaaGreatDoorVd
namespace Go.Proofs.YtdjmckjbibfecaaGreatDoor
open Go Go.RowKit Go.BigFrame Go.Maps

theorem takeWhile_eq {α : Type} {P : α → Bool} : ∀ {L : List α} {k : Nat}, (∀ j x, j < k → L[j]? = some x → P x = true) → k ≤ L.length → (k = L.length ∨ ∃ x, L[k]? = some x ∧ P x = false) → L.takeWhile P = L.take k ∧ L.dropWhile P = L.drop k
  | [], k, _, hk, _ => by
    obtain rfl : k = 0 := by simpa using hk
    simp
  | a :: L, 0, _, _, h2 => by
    rcases h2 with h | ⟨x, hx, hp⟩
    · simp at h
    · simp at hx; subst hx
      simp [hp]
  | a :: L, k + 1, h1, hk, h2 => by
    have ha := h1 0 a (by omega) (by simp)
    have ih := takeWhile_eq (P := P) (L := L) (k := k) (fun j x hj hx => h1 (j + 1) x (by omega) (by simpa using hx)) (by simpa using hk) (by
      rcases h2 with h | ⟨x, hx, hp⟩
      · exact .inl (by simpa using h)
      · exact .inr ⟨x, by simpa using hx, hp⟩)
    simp [ha, ih.1, ih.2]
theorem CoresAt.ins {w : World} {B : Nat} {v px : Value} {vs : List Value} {L : List (List Nat)} {p : List Nat} {k : Nat} (hl : vs.length = L.length) (hk : k ≤ L.length)
    (hrow : w.ownsRow B 35 1 v (L.length + 1) (vs.take k ++ [px] ++ vs.drop k)) (hf : ∀ (i : Nat) (q : List Nat) (x : Value), L[i]? = some q → vs[i]? = some x → w.ownsRow B 3 1 x q.length (natsV q)) (hp : w.ownsRow B 3 1 px p.length (natsV p)) : CoresAt w B v (L.take k ++ p :: L.drop k) := by
  have hlen : (L.take k ++ p :: L.drop k).length = L.length + 1 := by simp; omega
  refine ⟨vs.take k ++ [px] ++ vs.drop k, by simp; omega, by rw [hlen]; exact hrow, fun i q x hi hx => ?_⟩
  have hk2 : (L.take k).length = k := by simp; omega
  have hk3 : (vs.take k).length = k := by simp; omega
  rw [List.append_assoc] at hx
  rcases Nat.lt_trichotomy i k with h | h | h
  · rw [List.getElem?_append_left (by omega), List.getElem?_take_of_lt h] at hi
    rw [List.getElem?_append_left (by omega), List.getElem?_take_of_lt h] at hx
    exact hf i q x hi hx
  · subst h
    rw [List.getElem?_append_right (by omega), hk2, Nat.sub_self] at hi
    rw [List.getElem?_append_right (by omega), hk3, Nat.sub_self] at hx
    simp at hi hx
    subst hi; subst hx
    exact hp
  · obtain ⟨j, rfl⟩ : ∃ j, i = k + (j + 1) := ⟨i - k - 1, by omega⟩
    rw [List.getElem?_append_right (by omega), hk2, Nat.add_sub_cancel_left] at hi
    rw [List.getElem?_append_right (by omega), hk3, Nat.add_sub_cancel_left] at hx
    simp at hi hx
    exact hf _ q x hi hx
structure CoreRt (w W : World) (cs0 : Array Value) (vs : Value) (m : Nat) (ST : List Int) (vo : Value) (CD : List (List Nat)) : Prop where
  nb : Blk W w.heap.size 24 cs0
  ints : W.ownsRow w.heap.size 3 1 vs m (intsV ST)
  cores : CoresAt W w.heap.size vo CD
  some_ : ∃ g c, vo = .slice (some ⟨g, 0, none⟩) CD.length c
  below : Below w.heap.size w W
theorem CoreRt.on {w W W' : World} {cs0 : Array Value} {vs : Value} {m : Nat} {ST : List Int} {vo : Value} {CD : List (List Nat)} (h : CoreRt w W cs0 vs m ST vo CD) (hb : Below W.heap.size W W') : CoreRt w W' cs0 vs m ST vo CD :=
  ⟨h.nb.below hb h.nb.lt, own_below h.ints hb, h.cores.on hb, h.some_, h.below.trans (hb.mono h.below.size)⟩
theorem CoresAt.new (w : World) (B : Nat) (hB : B ≤ w.heap.size) : CoresAt (w.alloc (.cells #[] 35)) B (.slice (some ⟨w.heap.size, 0, none⟩) 0 0) [] :=
  ⟨[], rfl, own_mono (own_new w 35 1) hB, fun i p x h => by simp at h⟩
theorem own_slice_lo {w : World} {B n g c : Nat} {e : TypeId} {xs : List Value} (h : w.ownsRow B e 1 (.slice (some ⟨g, 0, none⟩) n c) n xs) (k : Nat) (hk : k ≤ n) : Reads w w.heap.size 1 (some ⟨g, 0, none⟩) k (xs.take k) := by
  have hx := h.1
  refine ⟨by simp; omega, fun hn => ⟨_, rfl, (h.lt g rfl).2, fun j u hj => ?_⟩⟩
  have hj' : j < k := by have := (List.getElem?_eq_some_iff.1 hj).1; simp at this; omega
  rw [List.getElem?_take_of_lt hj'] at hj
  exact h.cells (g := g) rfl j u hj
theorem own_slice_hi {w : World} {B n g c : Nat} {e : TypeId} {xs : List Value} (h : w.ownsRow B e 1 (.slice (some ⟨g, 0, none⟩) n c) n xs) (k : Nat) (hk : k ≤ n) : Reads w w.heap.size 1 (some ⟨g, k, none⟩) (n - k) (xs.drop k) := by
  have hx := h.1
  refine ⟨by simp; omega, fun hn => ⟨_, rfl, (h.lt g rfl).2, fun j u hj => ?_⟩⟩
  rw [List.getElem?_drop] at hj
  have := h.cells (g := g) rfl (k + j) u hj
  have h1 : (⟨g, 0, none⟩ : Addr).add (k + j) = ⟨g, k + j, none⟩ := by unfold Addr.add; split <;> simp_all
  have h2 : (⟨g, k, none⟩ : Addr).add j = ⟨g, k + j, none⟩ := by unfold Addr.add; split <;> simp_all
  rw [h2, ← h1]; exact this
end Go.Proofs.YtdjmckjbibfecaaGreatDoor

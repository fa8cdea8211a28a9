/- How many nodes a rule has: the walk of Size, and what a small rule is. -/
import Derived.Test.YtdjmckjbibfecaaGreatDoorZd
namespace Go.Proofs.YtdjmckjbibfecaaGreatDoor
open Go Go.RowKit Go.BigFrame Go.Maps

mutual
def sizeT : Tree → Int → Int
  | .mk _ _ f x _ _ _ L, most => if most ≤ 0 then 1 else sizeL L (1 + (f.size : Int) / 200 + (x.size : Int) / 200) most
def sizeL : List Tree → Int → Int → Int
  | [], k, _ => k
  | t :: L, k, most => if k < most then sizeL L (k + sizeT t (most - k)) most else k
end
def LongT : Tree → Prop := allT fun t => t.field.size ≤ 9223372036854775807 ∧ t.text.size ≤ 9223372036854775807
mutual
theorem sizeT_range : ∀ (t : Tree) (m : Int), LongT t → 1 ≤ sizeT t m ∧ (0 ≤ m → sizeT t m ≤ m + 92233720368547760) ∧ sizeT t m ≤ max m 0 + 92233720368547760
  | .mk k p f x n A c L, m, h => by
    unfold LongT at h
    have h1 := allT_here h
    simp only [Tree.field, Tree.text] at h1
    rw [allT] at h
    rw [sizeT]
    by_cases hm : m ≤ 0
    · rw [if_pos hm]; omega
    · rw [if_neg hm]
      have := sizeL_range L (1 + (f.size : Int) / 200 + (x.size : Int) / 200) m h.2 (by omega) (by omega) (by omega)
      omega
theorem sizeL_range : ∀ (L : List Tree) (k m : Int), allL (fun t => t.field.size ≤ 9223372036854775807 ∧ t.text.size ≤ 9223372036854775807) L → 1 ≤ k → 0 < m → k ≤ m + 92233720368547760 → k ≤ sizeL L k m ∧ sizeL L k m ≤ m + 92233720368547760
  | [], k, m, _, h1, h2, h3 => by rw [sizeL]; omega
  | t :: L, k, m, h, h1, h2, h3 => by
    rw [allL] at h
    rw [sizeL]
    by_cases hk : k < m
    · rw [if_pos hk]
      have := sizeT_range t (m - k) h.1
      have := sizeL_range L (k + sizeT t (m - k)) m h.2 (by omega) h2 (by omega)
      omega
    · rw [if_neg hk]; omega
end
mutual
/-- How heavy a rule is. -/
def wgtT : Tree → Int
  | .mk _ _ f x _ _ _ L => 1 + (f.size : Int) / 200 + (x.size : Int) / 200 + wgtL L
def wgtL : List Tree → Int
  | [] => 0
  | t :: L => wgtT t + wgtL L
end
mutual
theorem wgt_pos : ∀ t : Tree, 1 ≤ wgtT t
  | .mk _ _ f x _ _ _ L => by rw [wgtT]; have := wgtL_pos L; omega
theorem wgtL_pos : ∀ L : List Tree, 0 ≤ wgtL L
  | [] => by rw [wgtL]; omega
  | t :: L => by rw [wgtL]; have := wgt_pos t; have := wgtL_pos L; omega
end
theorem sizeL_ge : ∀ (L : List Tree) (k m : Int), (∀ t ∈ L, ∀ m, 1 ≤ sizeT t m) → k ≤ sizeL L k m
  | [], k, m, _ => by rw [sizeL]; omega
  | t :: L, k, m, h => by
    rw [sizeL]
    split
    · have := sizeL_ge L (k + sizeT t (m - k)) m (fun u hu => h u (by simp [hu]))
      have := h t (by simp) (m - k)
      omega
    · omega
theorem sizeT_one : ∀ (t : Tree) (m : Int), 1 ≤ sizeT t m := by
  intro t
  refine Tree.every (Q := fun t => ∀ m, 1 ≤ sizeT t m) ?_ t
  intro t ih m
  obtain ⟨k, p, f, x, n, A, c, L⟩ := t
  rw [sizeT]
  split
  · omega
  · have := sizeL_ge L (1 + (f.size : Int) / 200 + (x.size : Int) / 200) m ih
    omega
mutual
/-- Where not all that may be is counted, all is counted. -/
theorem size_wgt : ∀ (t : Tree) (m : Int), sizeT t m < m → sizeT t m = wgtT t
  | .mk k p f x n A c L, m, h => by
    have h1 := sizeT_one (.mk k p f x n A c L) m
    have hm : ¬ m ≤ 0 := by omega
    rw [sizeT, if_neg hm] at h ⊢
    rw [wgtT, sizeL_wgt L _ m h]
theorem sizeL_wgt : ∀ (L : List Tree) (k m : Int), sizeL L k m < m → sizeL L k m = k + wgtL L
  | [], k, m, _ => by rw [sizeL, wgtL]; omega
  | t :: L, k, m, h => by
    have hge := sizeL_ge (t :: L) k m (fun u _ => sizeT_one u)
    rw [sizeL] at h hge ⊢
    have hk : k < m := by split at hge <;> omega
    rw [if_pos hk] at h hge ⊢
    have hg2 := sizeL_ge L (k + sizeT t (m - k)) m (fun u _ => sizeT_one u)
    have e := sizeL_wgt L _ m h
    rw [e, size_wgt t (m - k) (by omega), wgtL]
    omega
end
mutual
theorem wgt_all : ∀ (t : Tree) (r : Int), wgtT t ≤ r → allT (fun t => (t.field.size : Int) / 200 + (t.text.size : Int) / 200 < r) t
  | .mk k p f x n A c L, r, h => by
    rw [wgtT] at h
    have := wgtL_pos L
    rw [allT]
    exact ⟨by show (f.size : Int) / 200 + (x.size : Int) / 200 < r; omega, wgtL_all L r (by omega)⟩
theorem wgtL_all : ∀ (L : List Tree) (r : Int), wgtL L ≤ r → allL (fun t => (t.field.size : Int) / 200 + (t.text.size : Int) / 200 < r) L
  | [], r, _ => by rw [allL]; trivial
  | t :: L, r, h => by
    rw [wgtL] at h
    have := wgt_pos t
    have := wgtL_pos L
    rw [allL]
    exact ⟨wgt_all t r (by omega), wgtL_all L r (by omega)⟩
end
theorem allT_mono {Q R : Tree → Prop} (h : ∀ t, Q t → R t) : ∀ t : Tree, allT Q t → allT R t := by
  intro t
  refine Tree.every (Q := fun t => allT Q t → allT R t) ?_ t
  intro t ih hq
  have h0 := allT_here hq
  have h1 := allT_sub hq
  obtain ⟨k, p, f, x, n, A, c, L⟩ := t
  rw [allT]
  exact ⟨h _ h0, allL_of fun u hu => ih u hu (h1 u hu)⟩
theorem size_step {L : List Tree} {q : Nat} {t : Tree} {k m : Int} {r : Int} (h : r = sizeL (L.drop q) k m) (ht : L[q]? = some t) (hk : k < m) : Hid (r = sizeL (L.drop (q + 1)) (k + sizeT t (m - k)) m) := by
  obtain ⟨hq, he⟩ := List.getElem?_eq_some_iff.1 ht
  unfold Hid
  rw [h, List.drop_eq_getElem_cons hq, he, sizeL, if_pos hk]
theorem size_stop {L : List Tree} {q : Nat} {k m : Int} {r : Int} (h : r = sizeL (L.drop q) k m) (hk : m ≤ k) : r = k := by
  rw [h]
  cases L.drop q with
  | nil => rw [sizeL]
  | cons t L => rw [sizeL, if_neg (by omega)]

def SizeC (t : Tree) : Prop := ∀ (m : Int) (w : World), m ≤ 1000 → Hid (LongT t) → Hid (TreeAt w t) → Calls Tryz.prog 86 #[.agg t.cells, .int .i64 m] w fun e w' => e = .returned (.int .i64 (sizeT t m)) ∧ Below w.heap.size w w'

set_option maxRecDepth 100000 in
set_option maxHeartbeats 3200000 in
theorem size_walk (t : Tree) (ih : Hid (∀ u ∈ t.sub, SizeC u)) : SizeC t := by
  intro most w hmost hS hT
  have hSu := Lib.hid (allT_sub hS.out)
  have hSx := allT_here hS.out
  have hrT := sizeT_range t most hS.out
  obtain ⟨k, p, f, x, n, A', c', L⟩ := t
  simp only [Tree.sub] at ih hSu
  simp only [Tree.cells]
  simp only [Tree.text, Tree.field] at hSx
  obtain ⟨hf, hx⟩ := hSx
  obtain ⟨m, hm⟩ : ∃ m, Hid (L.length = m) := ⟨_, rfl⟩
  rw [hm.out]
  have hrows := Lib.hid (rows_sub hT.out).1
  have hml : m ≤ 9223372036854775807 := by have := (rows_sub hT.out).2; rw [hm.out] at this; unfold maxLen at this; exact this
  have hb0 : Below w.heap.size w (w.alloc (.cells #[.int .i64 k, .int .i64 p, .string f, .string x, .int .i64 n, .slice A' m c'] 24)) := (Below.refl _ w).alloc (Nat.le_refl _) _
  have hblk := Lib.hid (Blk.new w 24 #[.int .i64 k, .int .i64 p, .string f, .string x, .int .i64 n, .slice A' m c'])
  have hb0' := Lib.hid hb0
  clear hb0 hrT
  by_cases hpos : most ≤ 0
  · have hz : Hid (sizeT (.mk k p f x n A' c' L) most = 1) := by unfold Hid; rw [sizeT, if_pos hpos]
    go_enter Tryz.func86, Tryz.ntmps86
    go_wp2_with fail
    all_goals try (exfalso; omega)
    go_ret
    exact ⟨by rw [hz.out]; rfl, hb0'.out⟩
  · have hz : Hid (sizeT (.mk k p f x n A' c' L) most = sizeL L (1 + (f.size : Int) / 200 + (x.size : Int) / 200) most) := by unfold Hid; rw [sizeT, if_neg hpos]
    go_enter Tryz.func86, Tryz.ntmps86
    go_wp2_with fail
    go_loopw [6, 5] (fun j s wr => ∃ (q : Nat) (sv : Int), q ≤ m ∧ j = .int .i64 q ∧ s = .int .i64 sv ∧ (1 ≤ sv ∧ sv ≤ 92233720368548760) ∧ Hid (sizeT (.mk k p f x n A' c' L) most = sizeL (L.drop q) sv most) ∧ Hid (Below w.heap.size w wr) ∧ Hid (Blk wr w.heap.size 24 #[.int .i64 k, .int .i64 p, .string f, .string x, .int .i64 n, .slice A' m c'])) (fun j _ _ => m - (intOf j).toNat)
    case atStart => exact ⟨0, _, Nat.zero_le _, rfl, rfl, by omega, hz, hb0'.out, hblk.out⟩
    case round =>
      obtain ⟨q, sv, hk, rfl, rfl, ⟨hs0, hs2⟩, hsame, hB, hbk⟩ := hrel
      have e5 := hbk.out.cell 5
      simp only [List.getElem?_toArray, List.getElem?_cons_zero, List.getElem?_cons_succ] at e5
      by_cases hlt : q < m
      · by_cases hsm : sv < most
        · obtain ⟨t, ht⟩ : ∃ x, L[q]? = some x := ⟨_, List.getElem?_eq_getElem (by have := hm.out; omega)⟩
          have hmem := Lib.hid (List.mem_of_getElem? ht)
          have ht' := Lib.hid ht
          clear ht
          obtain ⟨hc, hT⟩ := (hrows.out.below hB.out).get q t ht'.out
          have hT' := Lib.hid hT
          clear hT
          have hrg := sizeT_range t (most - sv) (hSu.out _ hmem.out)
          have hst := size_step hsame.out ht'.out hsm
          obtain ⟨tk, tp, tf, tx, tn, tA, tc, tL⟩ := t
          obtain ⟨b, off, rfl, h0, h1, h2, h3, h4, h5⟩ := hc
          rw [Nat.zero_add] at h0 h1 h2 h3 h4 h5
          have hrg0 := Lib.hid hrg
          clear hrg
          go_wp2_with fail
          all_goals try (exfalso; omega)
          refine (ih.out _ hmem.out _ _ (by omega) (hSu.out _ hmem.out) hT').mono ?_
          rintro e w1 ⟨rfl, hb2⟩
          have hB1 : Hid (Below w.heap.size w w1) := hB.out.trans (hb2.mono hB.out.size)
          have hbk1 := Lib.hid (hbk.out.below hb2 hbk.out.lt)
          have hrg := hrg0.out
          obtain ⟨r, hr⟩ : ∃ r, Hid (sizeT (.mk tk tp tf tx tn tA tc tL) (most - sv) = r) := ⟨_, rfl⟩
          rw [hr.out] at hrg ⊢
          obtain ⟨hr0, hr2, _⟩ := hrg
          have hr3 := hr2 (by omega)
          clear hb2 e5 h0 h1 h2 h3 h4 h5 hr2
          go_wp2_with fail
          go_roundw
          case rel => exact ⟨q + 1, _, by omega, by go_num, rfl, by omega, by rw [← hr.out]; exact hst, hB1, hbk1⟩
          case measure => simp [intOf]; omega
        · have hfin := Lib.hid (size_stop hsame.out (by omega))
          go_wp2_with fail
          all_goals try (exfalso; omega)
          go_ret
          exact ⟨by rw [hfin.out]; rfl, hB.out⟩
      · have hfin : Hid (sizeT (.mk k p f x n A' c' L) most = sv) := by unfold Hid; rw [hsame.out, List.drop_eq_nil_of_le (by have := hm.out; omega), sizeL]
        go_wp2_with fail
        all_goals try (exfalso; omega)
        go_ret
        exact ⟨by rw [hfin.out]; rfl, hB.out⟩
theorem size_any : ∀ t : Tree, SizeC t := Tree.every fun t ih => size_walk t ih
end Go.Proofs.YtdjmckjbibfecaaGreatDoor

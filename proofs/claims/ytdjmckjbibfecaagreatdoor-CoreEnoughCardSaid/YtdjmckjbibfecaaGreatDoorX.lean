/- The walks of greatest and Holds: every rule. -/
import Derived.Test.YtdjmckjbibfecaaGreatDoorW
namespace Go.Proofs.YtdjmckjbibfecaaGreatDoor
open Go Go.RowKit Go.BigFrame Go.Maps

/-- What the walks of rules ask of memory. -/
structure Room (w : World) (A : Option Addr) (nn : Nat) (docs : List Pap) : Prop where
  len : docs.length = nn
  most : nn ≤ 1000
  at_ : DocsAt w A docs
  env : Env w
  small : SmallD docs
theorem Room.below {w w' : World} {A : Option Addr} {nn : Nat} {docs : List Pap} (h : Room w A nn docs) (hb : Below w.heap.size w w') : Room w' A nn docs := ⟨h.len, h.most, h.at_.below hb, h.env.below hb, h.small⟩
def HoldsC (A : Option Addr) (nn c : Nat) (docs : List Pap) (a : Nat) (d : Pap) (t : Tree) : Prop :=
  ∀ w, Hid (TreeAt w t) → Hid (Room w A nn docs) → Calls Tryz.prog 17 #[.agg t.cells, .slice A nn c, .int .i64 a] w fun e w' => e = .returned (.int .i64 (holdsT docs d t)) ∧ Below w.heap.size w w'
theorem great_step {docs : List Pap} {d : Pap} {L : List Tree} {k : Nat} {t : Tree} {r s s' : Int} (h : r = greatT docs d (L.drop k) s) (ht : L[k]? = some t) (hs : s' = max s (holdsT docs d t)) : Hid (r = greatT docs d (L.drop (k + 1)) s') := by
  obtain ⟨hk, he⟩ := List.getElem?_eq_some_iff.1 ht
  unfold Hid
  rw [h, List.drop_eq_getElem_cons hk, he, greatT, hs]
theorem least_step {docs : List Pap} {d : Pap} {L : List Tree} {k : Nat} {t : Tree} {r s s' : Int} (h : r = leastT docs d (L.drop k) s) (ht : L[k]? = some t) (hs : s' = min s (holdsT docs d t)) : Hid (r = leastT docs d (L.drop (k + 1)) s') := by
  obtain ⟨hk, he⟩ := List.getElem?_eq_some_iff.1 ht
  unfold Hid
  rw [h, List.drop_eq_getElem_cons hk, he, leastT, hs]

set_option maxRecDepth 100000 in
set_option maxHeartbeats 1600000 in
theorem great_walk (A : Option Addr) (nn c : Nat) (docs : List Pap) (a : Nat) (d : Pap) (L : List Tree) (ih : Hid (∀ t ∈ L, HoldsC A nn c docs a d t)) (A' : Option Addr) (m c' : Nat) (w : World) (hm : Hid (L.length = m)) (hml : m ≤ maxLen) (hL : Hid (RowsAt w A' 0 L)) (hR : Hid (Room w A nn docs)) :
    Calls Tryz.prog 53 #[.slice A' m c', .slice A nn c, .int .i64 a] w fun e w' => e = .returned (.int .i64 (greatT docs d L 0)) ∧ Below w.heap.size w w' := by
  unfold maxLen at hml
  go_enter Tryz.func53, Tryz.ntmps53
  go_wp2_with fail
  go_loopw [12, 7] (fun j s wr => ∃ (k : Nat) (sv : Int), k ≤ m ∧ j = .int .i64 k ∧ s = .int .i64 sv ∧ (0 ≤ sv ∧ sv ≤ 2) ∧ Hid (greatT docs d L 0 = greatT docs d (L.drop k) sv) ∧ Below w.heap.size w wr) (fun j _ _ => m - (intOf j).toNat)
  case atStart => exact ⟨0, 0, Nat.zero_le _, rfl, rfl, by omega, rfl, Below.refl _ _⟩
  case round =>
    obtain ⟨k, sv, hk, rfl, rfl, ⟨hs0, hs2⟩, hsame, hB⟩ := hrel
    by_cases hlt : k < m
    · obtain ⟨t, ht⟩ : ∃ x, L[k]? = some x := ⟨_, List.getElem?_eq_getElem (by have := hm.out; omega)⟩
      have hmem := Lib.hid (List.mem_of_getElem? ht)
      have ht' := Lib.hid ht
      clear ht
      obtain ⟨hc, hT⟩ := (hL.out.below hB).get k t ht'.out
      have hT' := Lib.hid hT
      clear hT
      obtain ⟨tk, tp, tf, tx, tn, tA, tc, tL⟩ := t
      obtain ⟨b, off, rfl, h0, h1, h2, h3, h4, h5⟩ := hc
      rw [Nat.zero_add] at h0 h1 h2 h3 h4 h5
      go_wp2_with fail
      have hb1 : Below wr.heap.size wr (wr.alloc (.cells #[.int .i64 tk, .int .i64 tp, .string tf, .string tx, .int .i64 tn, .slice tA tL.length tc] 24)) := (Below.refl _ wr).alloc (Nat.le_refl _) _
      refine (ih.out _ hmem.out _ (hT'.out.below hb1) (hR.out.below (hB.trans (hb1.mono hB.size)))).mono ?_
      rintro e w1 ⟨rfl, hb2⟩
      have hB1 : Below w.heap.size w w1 := hB.trans ((hb1.trans (hb2.mono (by simp))).mono hB.size)
      have hrg := holdsT_range docs d (.mk tk tp tf tx tn tA tc tL)
      obtain ⟨r, hr⟩ : ∃ r, Hid (holdsT docs d (.mk tk tp tf tx tn tA tc tL) = r) := ⟨_, rfl⟩
      rw [hr.out] at hrg ⊢
      obtain ⟨hr0, hr2⟩ := hrg
      clear hb1 hb2
      go_wp2_with fail
      go_roundw
      case rel => exact ⟨k + 1, _, by omega, by go_num, rfl, by omega, great_step hsame.out ht'.out (by rw [hr.out]), hB1⟩
      case measure => simp [intOf]; omega
    · go_wp2_with fail
      go_ret
      exact ⟨by rw [hsame.out, List.drop_eq_nil_of_le (by have := hm.out; omega), greatT]; rfl, hB⟩
end Go.Proofs.YtdjmckjbibfecaaGreatDoor

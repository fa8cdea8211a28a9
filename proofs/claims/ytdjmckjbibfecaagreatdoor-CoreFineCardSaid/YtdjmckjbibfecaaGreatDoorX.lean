/- The walks of greatest and Holds: every rule. -/
import Derived.Test.YtdjmckjbibfecaaGreatDoorAa
namespace Go.Proofs.YtdjmckjbibfecaaGreatDoor
open Go Go.RowKit Go.BigFrame Go.Maps

set_option maxRecDepth 100000 in
set_option maxHeartbeats 1600000 in
theorem atom_any (k p : Int) (f x : ByteArray) (n : Int) (A' : Option Addr) (m c' : Nat) (A : Option Addr) (nn c : Nat) (docs : List Pap) (v : ByteArray) (w : World) (hn : nn ≤ maxLen) (hl : Hid (docs.length = nn)) (hA : Hid (DocsAt w A docs)) (he : Hid (Env w)) (hv : v.size ≤ 1000000) :
    Calls Tryz.prog 55 #[.agg #[.int .i64 k, .int .i64 p, .string f, .string x, .int .i64 n, .slice A' m c'], .slice A nn c, .string v] w fun e w' => e = .returned (.int .i64 (atomT docs k p x n v)) ∧ Below w.heap.size w w' := by
  have hn' := Lib.hid hn
  clear hn
  have hv' := Lib.hid hv
  clear hv
  have hb0 : Below w.heap.size w (w.alloc (.cells #[.int .i64 k, .int .i64 p, .string f, .string x, .int .i64 n, .slice A' m c'] 24)) := (Below.refl _ w).alloc (Nat.le_refl _) _
  have hblk := Lib.hid (Blk.new w 24 #[.int .i64 k, .int .i64 p, .string f, .string x, .int .i64 n, .slice A' m c'])
  have hb0' := Lib.hid hb0
  clear hb0
  by_cases k3 : k = 3
  · subst k3
    have hat : Hid (atomT docs 3 p x n v = soT (decide (v.toList = x.toList))) := by unfold Hid atomT; rw [if_pos rfl]
    by_cases hq : v.toList = x.toList
    · have hq1 : (v.toList == x.toList) = true := by simp [hq]
      have hq' := Lib.hid hq
      clear hq
      go_enter Tryz.func55, Tryz.ntmps55
      go_wp2_with fail
      go_ret
      exact ⟨by rw [hat.out, decide_eq_true hq'.out]; rfl, hb0'.out⟩
    · have hq1 : (v.toList == x.toList) = false := by simp [hq]
      have hq' := Lib.hid hq
      clear hq
      go_enter Tryz.func55, Tryz.ntmps55
      go_wp2_with fail
      go_ret
      exact ⟨by rw [hat.out, decide_eq_false hq'.out]; rfl, hb0'.out⟩
  by_cases k4 : k = 4
  · subst k4
    have hat : Hid (atomT docs 4 p x n v = soT (Lib.contains v.data.toList x.data.toList)) := by unfold Hid atomT; rw [if_neg (by omega), if_pos rfl]
    go_enter Tryz.func55, Tryz.ntmps55
    go_wp2_with fail
    obtain ⟨mm, hm⟩ := (he.out.below hb0'.out).most
    refine (Tryz.strings_Contains v x mm _ (by have := hv'.out; omega) hm).mono ?_
    rintro e w1 ⟨rfl, rfl⟩
    generalize hcc : Lib.contains v.data.toList x.data.toList = cc at *
    cases cc
    all_goals
      go_wp2_with fail
      go_ret
      exact ⟨by rw [hat.out]; rfl, hb0'.out⟩
  by_cases k5 : k = 5
  · subst k5
    have hat : Hid (atomT docs 5 p x n v = soT (match numF v.data.toList with | some m => decide (m ≤ n) | none => false)) := by unfold Hid atomT; rw [if_neg (by omega), if_neg (by omega), if_pos rfl] <;> rfl
    go_enter Tryz.func55, Tryz.ntmps55
    go_wp2_with fail
    refine (number_any v _ hv'.out (he.out.below hb0'.out)).mono ?_
    rintro e w1 ⟨rfl, hb1⟩
    have hB1 : Hid (Below w.heap.size w w1) := hb0'.out.trans (hb1.mono (by simp))
    obtain ⟨r, hr⟩ : ∃ r, Hid (numF v.data.toList = r) := ⟨_, rfl⟩
    rw [hr.out]
    have hblk1 := hblk.out.below hb1 hblk.out.lt
    have hq : w1.cell? ⟨w.heap.size, 4, none⟩ = some (.int .i64 n) := by rw [hblk1.cell] <;> rfl
    clear hb1 hblk1
    rcases r with _ | r
    · unfold twoN
      go_wp2_with fail
      go_ret
      exact ⟨by rw [hat.out, hr.out]; rfl, hB1.out⟩
    · unfold twoN
      by_cases hrn : r ≤ n
      · have hrn' := Lib.hid hrn
        go_wp2_with fail
        all_goals try (exfalso; omega)
        go_ret
        exact ⟨by rw [hat.out, hr.out]; simp [soT, hrn'.out], hB1.out⟩
      · have hrn' := Lib.hid hrn
        go_wp2_with fail
        all_goals try (exfalso; omega)
        go_ret
        exact ⟨by rw [hat.out, hr.out]; simp [soT, hrn'.out], hB1.out⟩
  by_cases k6 : k = 6
  · subst k6
    have hat : Hid (atomT docs 6 p x n v = soT (match numF v.data.toList with | some m => decide (n ≤ m) | none => false)) := by unfold Hid atomT; rw [if_neg (by omega), if_neg (by omega), if_neg (by omega), if_pos rfl] <;> rfl
    go_enter Tryz.func55, Tryz.ntmps55
    go_wp2_with fail
    refine (number_any v _ hv'.out (he.out.below hb0'.out)).mono ?_
    rintro e w1 ⟨rfl, hb1⟩
    have hB1 : Hid (Below w.heap.size w w1) := hb0'.out.trans (hb1.mono (by simp))
    obtain ⟨r, hr⟩ : ∃ r, Hid (numF v.data.toList = r) := ⟨_, rfl⟩
    rw [hr.out]
    have hblk1 := hblk.out.below hb1 hblk.out.lt
    have hq : w1.cell? ⟨w.heap.size, 4, none⟩ = some (.int .i64 n) := by rw [hblk1.cell] <;> rfl
    clear hb1 hblk1
    rcases r with _ | r
    · unfold twoN
      go_wp2_with fail
      go_ret
      exact ⟨by rw [hat.out, hr.out]; rfl, hB1.out⟩
    · unfold twoN
      by_cases hrn : n ≤ r
      · have hrn' := Lib.hid hrn
        go_wp2_with fail
        all_goals try (exfalso; omega)
        go_ret
        exact ⟨by rw [hat.out, hr.out]; simp [soT, hrn'.out], hB1.out⟩
      · have hrn' := Lib.hid hrn
        go_wp2_with fail
        all_goals try (exfalso; omega)
        go_ret
        exact ⟨by rw [hat.out, hr.out]; simp [soT, hrn'.out], hB1.out⟩
  by_cases k7 : k = 7
  · subst k7
    have hat : Hid (atomT docs 7 p x n v = (match fieldD docs p x with | some u => soT (decide (v.toList = u.toList)) | none => 1)) := by unfold Hid atomT; rw [if_neg (by omega), if_neg (by omega), if_neg (by omega), if_neg (by omega), if_pos rfl] <;> rfl
    go_enter Tryz.func55, Tryz.ntmps55
    go_wp2_with fail
    refine (field_any A nn c docs p x _ hn'.out hl (hA.out.below hb0'.out)).mono ?_
    rintro e w1 ⟨rfl, hb1⟩
    have hB1 : Hid (Below w.heap.size w w1) := hb0'.out.trans (hb1.mono (by simp))
    obtain ⟨r, hr⟩ : ∃ r, Hid (fieldD docs p x = r) := ⟨_, rfl⟩
    rw [hr.out]
    clear hb1
    rcases r with _ | u
    · unfold two
      go_wp2_with fail
      go_ret
      exact ⟨by rw [hat.out, hr.out]; rfl, hB1.out⟩
    · unfold two
      by_cases hq : v.toList = u.toList
      · have hq1 : (v.toList == u.toList) = true := by simp [hq]
        have hq' := Lib.hid hq
        clear hq
        go_wp2_with fail
        go_ret
        exact ⟨by rw [hat.out, hr.out]; simp [soT, hq'.out], hB1.out⟩
      · have hq1 : (v.toList == u.toList) = false := by simp [hq]
        have hq' := Lib.hid hq
        clear hq
        go_wp2_with fail
        go_ret
        exact ⟨by rw [hat.out, hr.out]; simp [soT, hq'.out], hB1.out⟩
  have hat : Hid (atomT docs k p x n v = 2) := by unfold Hid atomT; rw [if_neg k3, if_neg k4, if_neg k5, if_neg k6, if_neg k7]
  go_enter Tryz.func55, Tryz.ntmps55
  go_wp2_with fail
  go_ret
  exact ⟨by rw [hat.out]; rfl, hb0'.out⟩
end Go.Proofs.YtdjmckjbibfecaaGreatDoor
namespace Go.Proofs.YtdjmckjbibfecaaGreatDoor
open Go Go.RowKit Go.BigFrame Go.Maps

/-- What the walks of rules ask of memory. -/
structure Room (w : World) (A : Option Addr) (nn : Nat) (docs : List Pap) : Prop where
  len : docs.length = nn
  most : nn ≤ 1000
  at_ : DocsAt w A docs
  env : Env w
  small : SmallD docs
theorem Room.below {w w' : World} {A : Option Addr} {nn : Nat} {docs : List Pap} (h : Room w A nn docs) (hb : Below w.heap.size w w') : Room w' A nn docs := ⟨h.len, h.most, h.at_.below hb, h.env.below hb, h.small⟩
def HoldsC (A : Option Addr) (nn c : Nat) (docs : List Pap) (a : Nat) (d : Pap) (t : Tree) : Prop :=
  ∀ w, Hid (TreeAt w t) → Hid (Room w A nn docs) → Calls Tryz.prog 17 #[.agg t.cells, .slice A nn c, .int .i64 a] w fun e w' => e = .returned (.int .i64 (holdsT docs d t)) ∧ Below w.heap.size w w'
theorem great_step {docs : List Pap} {d : Pap} {L : List Tree} {k : Nat} {t : Tree} {r s s' : Int} (h : r = greatT docs d (L.drop k) s) (ht : L[k]? = some t) (hs : s' = max s (holdsT docs d t)) : Hid (r = greatT docs d (L.drop (k + 1)) s') := by
  obtain ⟨hk, he⟩ := List.getElem?_eq_some_iff.1 ht
  unfold Hid
  rw [h, List.drop_eq_getElem_cons hk, he, greatT, hs]
theorem least_step {docs : List Pap} {d : Pap} {L : List Tree} {k : Nat} {t : Tree} {r s s' : Int} (h : r = leastT docs d (L.drop k) s) (ht : L[k]? = some t) (hs : s' = min s (holdsT docs d t)) : Hid (r = leastT docs d (L.drop (k + 1)) s') := by
  obtain ⟨hk, he⟩ := List.getElem?_eq_some_iff.1 ht
  unfold Hid
  rw [h, List.drop_eq_getElem_cons hk, he, leastT, hs]

set_option maxRecDepth 100000 in
set_option maxHeartbeats 1600000 in
theorem great_walk (A : Option Addr) (nn c : Nat) (docs : List Pap) (a : Nat) (d : Pap) (L : List Tree) (ih : Hid (∀ t ∈ L, HoldsC A nn c docs a d t)) (A' : Option Addr) (m c' : Nat) (w : World) (hm : Hid (L.length = m)) (hml : m ≤ maxLen) (hL : Hid (RowsAt w A' 0 L)) (hR : Hid (Room w A nn docs)) :
    Calls Tryz.prog 53 #[.slice A' m c', .slice A nn c, .int .i64 a] w fun e w' => e = .returned (.int .i64 (greatT docs d L 0)) ∧ Below w.heap.size w w' := by
  unfold maxLen at hml
  go_enter Tryz.func53, Tryz.ntmps53
  go_wp2_with fail
  go_loopw [12, 7] (fun j s wr => ∃ (k : Nat) (sv : Int), k ≤ m ∧ j = .int .i64 k ∧ s = .int .i64 sv ∧ (0 ≤ sv ∧ sv ≤ 2) ∧ Hid (greatT docs d L 0 = greatT docs d (L.drop k) sv) ∧ Below w.heap.size w wr) (fun j _ _ => m - (intOf j).toNat)
  case atStart => exact ⟨0, 0, Nat.zero_le _, rfl, rfl, by omega, rfl, Below.refl _ _⟩
  case round =>
    obtain ⟨k, sv, hk, rfl, rfl, ⟨hs0, hs2⟩, hsame, hB⟩ := hrel
    by_cases hlt : k < m
    · obtain ⟨t, ht⟩ : ∃ x, L[k]? = some x := ⟨_, List.getElem?_eq_getElem (by have := hm.out; omega)⟩
      have hmem := Lib.hid (List.mem_of_getElem? ht)
      have ht' := Lib.hid ht
      clear ht
      obtain ⟨hc, hT⟩ := (hL.out.below hB).get k t ht'.out
      have hT' := Lib.hid hT
      clear hT
      obtain ⟨tk, tp, tf, tx, tn, tA, tc, tL⟩ := t
      obtain ⟨b, off, rfl, h0, h1, h2, h3, h4, h5⟩ := hc
      rw [Nat.zero_add] at h0 h1 h2 h3 h4 h5
      go_wp2_with fail
      have hb1 : Below wr.heap.size wr (wr.alloc (.cells #[.int .i64 tk, .int .i64 tp, .string tf, .string tx, .int .i64 tn, .slice tA tL.length tc] 24)) := (Below.refl _ wr).alloc (Nat.le_refl _) _
      refine (ih.out _ hmem.out _ (hT'.out.below hb1) (hR.out.below (hB.trans (hb1.mono hB.size)))).mono ?_
      rintro e w1 ⟨rfl, hb2⟩
      have hB1 : Below w.heap.size w w1 := hB.trans ((hb1.trans (hb2.mono (by simp))).mono hB.size)
      have hrg := holdsT_range docs d (.mk tk tp tf tx tn tA tc tL)
      obtain ⟨r, hr⟩ : ∃ r, Hid (holdsT docs d (.mk tk tp tf tx tn tA tc tL) = r) := ⟨_, rfl⟩
      rw [hr.out] at hrg ⊢
      obtain ⟨hr0, hr2⟩ := hrg
      clear hb1 hb2
      go_wp2_with fail
      go_roundw
      case rel => exact ⟨k + 1, _, by omega, by go_num, rfl, by omega, great_step hsame.out ht'.out (by rw [hr.out]), hB1⟩
      case measure => simp [intOf]; omega
    · go_wp2_with fail
      go_ret
      exact ⟨by rw [hsame.out, List.drop_eq_nil_of_le (by have := hm.out; omega), greatT]; rfl, hB⟩
end Go.Proofs.YtdjmckjbibfecaaGreatDoor

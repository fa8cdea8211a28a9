/- The walks of the document's Stands and Holds. -/
import Derived.Test.YtdjmckjbibfecaaGreatDoorX
namespace Go.Proofs.YtdjmckjbibfecaaGreatDoor
open Go Go.RowKit Go.BigFrame Go.Maps

theorem rows_sub {w : World} {k p : Int} {f x : ByteArray} {n : Int} {A : Option Addr} {c : Nat} {L : List Tree} (h : TreeAt w (.mk k p f x n A c L)) : RowsAt w A 0 L ∧ L.length ≤ maxLen := by
  rw [TreeAt] at h; exact h

set_option maxRecDepth 100000 in
set_option maxHeartbeats 1600000 in
theorem holds_walk (A : Option Addr) (nn c : Nat) (docs : List Pap) (a : Nat) (d : Pap) (hd : Hid (docs[a]? = some d)) (t : Tree) (ih : Hid (∀ u ∈ t.sub, HoldsC A nn c docs a d u)) : HoldsC A nn c docs a d t := by
  intro w hT hR
  obtain ⟨k, p, f, x, n, A', c', L⟩ := t
  simp only [Tree.sub] at ih
  simp only [Tree.cells]
  obtain ⟨m, hm⟩ : ∃ m, Hid (L.length = m) := ⟨_, rfl⟩
  rw [hm.out]
  have hnn := hR.out.most
  have hlt : a < nn := by have := (List.getElem?_eq_some_iff.1 hd.out).1; have := hR.out.len; omega
  have ha0 : decide ((a : Int) < 0) = false := by simp
  have ha1 : decide (nn ≤ a) = false := by simp; omega
  have hrows := Lib.hid (rows_sub hT.out).1
  have hml : m ≤ 9223372036854775807 := by have := (rows_sub hT.out).2; rw [hm.out] at this; unfold maxLen at this; exact this
  have hml' : Hid (m ≤ maxLen) := by unfold maxLen; exact hml
  have hb0 : Below w.heap.size w (w.alloc (.cells #[.int .i64 k, .int .i64 p, .string f, .string x, .int .i64 n, .slice A' m c'] 24)) := (Below.refl _ w).alloc (Nat.le_refl _) _
  have hblk := Lib.hid (Blk.new w 24 #[.int .i64 k, .int .i64 p, .string f, .string x, .int .i64 n, .slice A' m c'])
  have hb0' := Lib.hid hb0
  clear hb0
  by_cases k0 : k = 0
  · subst k0
    go_enter Tryz.func17, Tryz.ntmps17
    go_wp2_with fail
    refine (great_walk A nn c docs a d L ih A' m c' _ hm hml'.out (hrows.out.below hb0'.out) (hR.out.below hb0'.out)).mono ?_
    rintro e w1 ⟨rfl, hb1⟩
    go_wp2_with fail
    go_ret
    exact ⟨by rw [holdsT, if_pos rfl]; rfl, hb0'.out.trans (hb1.mono (by simp))⟩
  by_cases k2 : k = 2
  · subst k2
    go_enter Tryz.func17, Tryz.ntmps17
    go_wp2_with fail
    refine (great_walk A nn c docs a d L ih A' m c' _ hm hml'.out (hrows.out.below hb0'.out) (hR.out.below hb0'.out)).mono ?_
    rintro e w1 ⟨rfl, hb1⟩
    have hrg := greatT_range docs d L 0 (by omega) (by omega)
    obtain ⟨r, hr⟩ : ∃ r, Hid (greatT docs d L 0 = r) := ⟨_, rfl⟩
    rw [hr.out] at hrg ⊢
    obtain ⟨hr0, hr2⟩ := hrg
    go_wp2_with fail
    go_ret
    exact ⟨by rw [holdsT, if_neg (by omega), if_neg (by omega), if_pos rfl, hr.out]; rfl, hb0'.out.trans (hb1.mono (by simp))⟩
  by_cases k1 : k = 1
  · subst k1
    go_enter Tryz.func17, Tryz.ntmps17
    go_wp2_with fail
    go_loopw [34, 7] (fun j s wr => ∃ (q : Nat) (sv : Int), q ≤ m ∧ j = .int .i64 q ∧ s = .int .i64 sv ∧ (0 ≤ sv ∧ sv ≤ 2) ∧ Hid (leastT docs d L 2 = leastT docs d (L.drop q) sv) ∧ Below w.heap.size w wr) (fun j _ _ => m - (intOf j).toNat)
    case atStart => exact ⟨0, 2, Nat.zero_le _, rfl, rfl, by omega, rfl, hb0'.out⟩
    case round =>
      obtain ⟨q, sv, hk, rfl, rfl, ⟨hs0, hs2⟩, hsame, hB⟩ := hrel
      by_cases hlt : q < m
      · obtain ⟨t, ht⟩ : ∃ x, L[q]? = some x := ⟨_, List.getElem?_eq_getElem (by have := hm.out; omega)⟩
        have hmem := Lib.hid (List.mem_of_getElem? ht)
        have ht' := Lib.hid ht
        clear ht
        obtain ⟨hc, hT⟩ := (hrows.out.below hB).get q t ht'.out
        have hT' := Lib.hid hT
        clear hT
        obtain ⟨tk, tp, tf, tx, tn, tA, tc, tL⟩ := t
        obtain ⟨b, off, rfl, h0, h1, h2, h3, h4, h5⟩ := hc
        rw [Nat.zero_add] at h0 h1 h2 h3 h4 h5
        go_wp2_with fail
        have hb1 : Below wr.heap.size wr (wr.alloc (.cells #[.int .i64 tk, .int .i64 tp, .string tf, .string tx, .int .i64 tn, .slice tA tL.length tc] 24)) := (Below.refl _ wr).alloc (Nat.le_refl _) _
        refine (ih.out _ hmem.out _ (hT'.out.below hb1) (hR.out.below (hB.trans (hb1.mono hB.size)))).mono ?_
        rintro e w1 ⟨rfl, hb2⟩
        have hB1 : Below w.heap.size w w1 := hB.trans ((hb1.trans (hb2.mono (by simp))).mono hB.size)
        have hrg := holdsT_range docs d (.mk tk tp tf tx tn tA tc tL)
        obtain ⟨r, hr⟩ : ∃ r, Hid (holdsT docs d (.mk tk tp tf tx tn tA tc tL) = r) := ⟨_, rfl⟩
        rw [hr.out] at hrg ⊢
        obtain ⟨hr0, hr2⟩ := hrg
        clear hb1 hb2
        go_wp2_with fail
        go_roundw
        case rel => exact ⟨q + 1, _, by omega, by go_num, rfl, by omega, least_step hsame.out ht'.out (by rw [hr.out]), hB1⟩
        case measure => simp [intOf]; omega
      · go_wp2_with fail
        go_ret
        exact ⟨by rw [holdsT, if_neg (by omega), if_pos rfl, hsame.out, List.drop_eq_nil_of_le (by have := hm.out; omega), leastT]; rfl, hB⟩
  by_cases hk : 3 ≤ k ∧ k ≤ 7
  · have hat : Hid (holdsT docs d (.mk k p f x n A' c' L) = (match getF d.fields f with | some v => atomT docs k p x n v | none => 1)) := by
      unfold Hid; rw [holdsT, if_neg k0, if_neg k1, if_neg k2, if_pos hk]; rfl
    obtain ⟨bd, offd, rfl, g0, g1, g2, g3, g4, g5, g6⟩ := hR.out.at_ a d hd.out
    have hbd : bd < w.heap.size := World.block_lt_of_cell? w _ g0
    have hsm : ∀ v, getF d.fields f = some v → v.size ≤ 1000000 := by
      intro v hv
      obtain ⟨fl, hfl, rfl⟩ := getF_mem hv
      exact hR.out.small d (List.mem_of_getElem? hd.out) fl hfl
    have hsm' := Lib.hid hsm
    obtain ⟨dk, dn, di, fA, fc, fs⟩ := d
    simp only at g0 g1 g2 g3 g4 g5 g6 hat hsm'
    have g4' := Lib.hid g4
    have g5' := Lib.hid g5
    clear g4 g5 g6 g0 g1 g2 hsm
    obtain ⟨fm, hfm⟩ : ∃ m, Hid (fs.length = m) := ⟨_, rfl⟩
    rw [hfm.out] at g3
    have g5'' : Hid (fm ≤ maxLen) := by rw [← hfm.out]; exact g5'.out
    obtain ⟨w0, hw0⟩ : ∃ w0, Hid (w0 = w.alloc (.cells #[.int .i64 k, .int .i64 p, .string f, .string x, .int .i64 n, .slice A' m c'] 24)) := ⟨_, rfl⟩
    have hk' := Lib.hid hk
    have ht : k = 3 ∨ k = 4 ∨ k = 5 ∨ k = 6 ∨ k = 7 := by omega
    clear k0 k1 k2 hk
    rcases ht with rfl | rfl | rfl | rfl | rfl
    all_goals
      have b0 := hblk.out
      have bb := hb0'.out
      rw [← hw0.out] at b0 bb
      have b0' := Lib.hid b0
      have bb' := Lib.hid bb
      have hcell0 : ∀ (y : Ext w0), y.wd.cell? ⟨w.heap.size, 2, none⟩ = some (.string f) := fun y => by rw [y.cell _ b0'.out.lt, b0'.out.cell]; rfl
      have hcell3 : ∀ (y : Ext w0), y.wd.cell? ⟨bd, offd + a * 4 + 3, none⟩ = some (.slice fA fm fc) := fun y => by
        rw [y.cell _ (by have := bb'.out.size; show bd < _; omega), bb'.out.cell hbd]; exact g3
      clear b0 bb
      go_enter Tryz.func17, Tryz.ntmps17
      go_wp2_with fail
      rw [← hw0.out]
      refine wp_region_ext (by kernel_rfl) (by kernel_rfl) ?_
      repeat (go_big_quiet_step ((go_at_call 54; exact Calls.ext_of (get_any fA fm fc fs f _ g5''.out hfm (g4'.out.below (bb'.out.trans ((Ext.below _).mono bb'.out.size)))))))
      refine wpQuiet_nil ?_
      rintro _ ⟨y, rfl⟩
      have hBy : Hid (Below w.heap.size w y.wd) := bb'.out.trans (y.below.mono bb'.out.size)
      have hby := Lib.hid (b0'.out.below y.below b0'.out.lt)
      obtain ⟨wy, hwy⟩ : ∃ wy, Hid (wy = y.wd) := ⟨_, rfl⟩
      rw [← hwy.out] at hBy hby ⊢
      clear hcell0 hcell3
      obtain ⟨r, hr⟩ : ∃ r, Hid (getF fs f = r) := ⟨_, rfl⟩
      have hgv : Hid (getV fs f = r.getD ⟨#[]⟩) := by unfold Hid getV; rw [hr.out]
      have hgb : Hid (getB fs f = r.isSome) := by unfold Hid getB; rw [hr.out]
      rw [hgv.out, hgb.out]
      cases r with
      | none =>
        go_wp2_with fail
        go_ret
        exact ⟨by rw [hat.out, hr.out]; rfl, hBy.out⟩
      | some v =>
        have c0 : wy.cell? ⟨w.heap.size, 0, none⟩ = _ := hby.out.cell 0
        have c1 : wy.cell? ⟨w.heap.size, 1, none⟩ = _ := hby.out.cell 1
        have c2 : wy.cell? ⟨w.heap.size, 2, none⟩ = _ := hby.out.cell 2
        have c3 : wy.cell? ⟨w.heap.size, 3, none⟩ = _ := hby.out.cell 3
        have c4 : wy.cell? ⟨w.heap.size, 4, none⟩ = _ := hby.out.cell 4
        have c5 : wy.cell? ⟨w.heap.size, 5, none⟩ = _ := hby.out.cell 5
        simp only [List.getElem?_toArray, List.getElem?_cons_zero, List.getElem?_cons_succ] at c0 c1 c2 c3 c4 c5
        go_wp2_with fail
        refine (atom_any _ p f x n A' m c' _ nn c docs v wy (by unfold maxLen; omega) hR.out.len ((hR.out.below hBy.out).at_) ((hR.out.below hBy.out).env) (hsm'.out v hr.out)).mono ?_
        rintro e w2 ⟨rfl, hb2⟩
        go_wp2_with fail
        go_ret
        exact ⟨by rw [hat.out, hr.out]; rfl, hBy.out.trans (hb2.mono hBy.out.size)⟩
  · have hat : Hid (holdsT docs d (.mk k p f x n A' c' L) = 2) := by
      unfold Hid; rw [holdsT, if_neg k0, if_neg k1, if_neg k2, if_neg hk]
    have k3 : ¬ k = 3 := by omega
    have k4 : ¬ k = 4 := by omega
    have k5 : ¬ k = 5 := by omega
    have k6 : ¬ k = 6 := by omega
    have k7 : ¬ k = 7 := by omega
    go_enter Tryz.func17, Tryz.ntmps17
    go_wp2_with fail
    go_ret
    exact ⟨by rw [hat.out]; rfl, hb0'.out⟩
end Go.Proofs.YtdjmckjbibfecaaGreatDoor
namespace Go.Proofs.YtdjmckjbibfecaaGreatDoor
open Go Go.RowKit

end Go.Proofs.YtdjmckjbibfecaaGreatDoor
namespace Go.Proofs.YtdjmckjbibfecaaGreatDoor
open Go Go.RowKit Go.BigFrame Go.Maps

theorem ba_list (s : ByteArray) : s.toList = s.data.toList := by simp [ByteArray.toList_eq]
end Go.Proofs.YtdjmckjbibfecaaGreatDoor
namespace Go.Proofs.YtdjmckjbibfecaaGreatDoor
open Go Go.RowKit Go.BigFrame Go.Maps

end Go.Proofs.YtdjmckjbibfecaaGreatDoor
namespace Go.Proofs.YtdjmckjbibfecaaGreatDoor
open Go Go.RowKit Go.BigFrame Go.Maps

def Tree.text : Tree → ByteArray | .mk _ _ _ x _ _ _ _ => x
mutual
/-- All rules of a rule, itself too. -/
def allT (Q : Tree → Prop) : Tree → Prop
  | .mk k p f x n A c L => Q (.mk k p f x n A c L) ∧ allL Q L
def allL (Q : Tree → Prop) : List Tree → Prop
  | [] => True
  | t :: L => allT Q t ∧ allL Q L
end
theorem allL_mem {Q : Tree → Prop} : ∀ {L : List Tree}, allL Q L → ∀ t ∈ L, allT Q t
  | [], _, t, h => by simp at h
  | u :: L, h, t, ht => by
    rw [allL] at h
    rcases List.mem_cons.1 ht with rfl | ht
    · exact h.1
    · exact allL_mem h.2 t ht
theorem allL_of {Q : Tree → Prop} : ∀ {L : List Tree}, (∀ t ∈ L, allT Q t) → allL Q L
  | [], _ => by rw [allL]; trivial
  | u :: L, h => by
    rw [allL]
    exact ⟨h u (by simp), allL_of fun t ht => h t (by simp [ht])⟩
theorem allT_here {Q : Tree → Prop} : ∀ {t : Tree}, allT Q t → Q t
  | .mk _ _ _ _ _ _ _ _, h => by rw [allT] at h; exact h.1
theorem allT_sub {Q : Tree → Prop} : ∀ {t : Tree}, allT Q t → ∀ u ∈ t.sub, allT Q u
  | .mk _ _ _ _ _ _ _ _, h => by rw [allT] at h; exact allL_mem h.2
mutual
/-- Induction over rules. -/
theorem Tree.every {Q : Tree → Prop} (h : ∀ t, (∀ u ∈ t.sub, Q u) → Q t) : ∀ t : Tree, Q t
  | .mk _ _ _ _ _ _ _ L => h _ (Tree.everyL h L)
theorem Tree.everyL {Q : Tree → Prop} (h : ∀ t, (∀ u ∈ t.sub, Q u) → Q t) : ∀ L : List Tree, ∀ u ∈ L, Q u
  | [], u, hu => by simp at hu
  | t :: L, u, hu => by
    rcases List.mem_cons.1 hu with e | hu
    · rw [e]; exact Tree.every h t
    · exact Tree.everyL h L u hu
end
theorem holds_in (A : Option Addr) (nn c : Nat) (docs : List Pap) (a : Nat) (d : Pap) (hd : docs[a]? = some d) : ∀ t : Tree, HoldsC A nn c docs a d t :=
  Tree.every fun t ih => holds_walk A nn c docs a d hd t ih

end Go.Proofs.YtdjmckjbibfecaaGreatDoor

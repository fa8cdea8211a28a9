/- How many nodes a rule has: the walk of Size, and what a small rule is. -/
import Derived.Test.YtdjmckjbibfecaaGreatDoorX
namespace Go.Proofs.YtdjmckjbibfecaaGreatDoor
open Go Go.RowKit Go.BigFrame Go.Maps

theorem rows_sub {w : World} {k p : Int} {f x : ByteArray} {n : Int} {A : Option Addr} {c : Nat} {L : List Tree} (h : TreeAt w (.mk k p f x n A c L)) : RowsAt w A 0 L ∧ L.length ≤ maxLen := by
  rw [TreeAt] at h; exact h

set_option maxRecDepth 100000 in
set_option maxHeartbeats 1600000 in
theorem holds_walk (A : Option Addr) (nn c : Nat) (docs : List Pap) (a : Nat) (d : Pap) (hd : Hid (docs[a]? = some d)) (t : Tree) (ih : Hid (∀ u ∈ t.sub, HoldsC A nn c docs a d u)) : HoldsC A nn c docs a d t := by
  intro w hT hR
  obtain ⟨k, p, f, x, n, A', c', L⟩ := t
  simp only [Tree.sub] at ih
  simp only [Tree.cells]
  obtain ⟨m, hm⟩ : ∃ m, Hid (L.length = m) := ⟨_, rfl⟩
  rw [hm.out]
  have hnn := hR.out.most
  have hlt : a < nn := by have := (List.getElem?_eq_some_iff.1 hd.out).1; have := hR.out.len; omega
  have ha0 : decide ((a : Int) < 0) = false := by simp
  have ha1 : decide (nn ≤ a) = false := by simp; omega
  have hrows := Lib.hid (rows_sub hT.out).1
  have hml : m ≤ 9223372036854775807 := by have := (rows_sub hT.out).2; rw [hm.out] at this; unfold maxLen at this; exact this
  have hml' : Hid (m ≤ maxLen) := by unfold maxLen; exact hml
  have hb0 : Below w.heap.size w (w.alloc (.cells #[.int .i64 k, .int .i64 p, .string f, .string x, .int .i64 n, .slice A' m c'] 24)) := (Below.refl _ w).alloc (Nat.le_refl _) _
  have hblk := Lib.hid (Blk.new w 24 #[.int .i64 k, .int .i64 p, .string f, .string x, .int .i64 n, .slice A' m c'])
  have hb0' := Lib.hid hb0
  clear hb0
  by_cases k0 : k = 0
  · subst k0
    go_enter Tryz.func17, Tryz.ntmps17
    go_wp2_with fail
    refine (great_walk A nn c docs a d L ih A' m c' _ hm hml'.out (hrows.out.below hb0'.out) (hR.out.below hb0'.out)).mono ?_
    rintro e w1 ⟨rfl, hb1⟩
    go_wp2_with fail
    go_ret
    exact ⟨by rw [holdsT, if_pos rfl]; rfl, hb0'.out.trans (hb1.mono (by simp))⟩
  by_cases k2 : k = 2
  · subst k2
    go_enter Tryz.func17, Tryz.ntmps17
    go_wp2_with fail
    refine (great_walk A nn c docs a d L ih A' m c' _ hm hml'.out (hrows.out.below hb0'.out) (hR.out.below hb0'.out)).mono ?_
    rintro e w1 ⟨rfl, hb1⟩
    have hrg := greatT_range docs d L 0 (by omega) (by omega)
    obtain ⟨r, hr⟩ : ∃ r, Hid (greatT docs d L 0 = r) := ⟨_, rfl⟩
    rw [hr.out] at hrg ⊢
    obtain ⟨hr0, hr2⟩ := hrg
    go_wp2_with fail
    go_ret
    exact ⟨by rw [holdsT, if_neg (by omega), if_neg (by omega), if_pos rfl, hr.out]; rfl, hb0'.out.trans (hb1.mono (by simp))⟩
  by_cases k1 : k = 1
  · subst k1
    go_enter Tryz.func17, Tryz.ntmps17
    go_wp2_with fail
    go_loopw [34, 7] (fun j s wr => ∃ (q : Nat) (sv : Int), q ≤ m ∧ j = .int .i64 q ∧ s = .int .i64 sv ∧ (0 ≤ sv ∧ sv ≤ 2) ∧ Hid (leastT docs d L 2 = leastT docs d (L.drop q) sv) ∧ Below w.heap.size w wr) (fun j _ _ => m - (intOf j).toNat)
    case atStart => exact ⟨0, 2, Nat.zero_le _, rfl, rfl, by omega, rfl, hb0'.out⟩
    case round =>
      obtain ⟨q, sv, hk, rfl, rfl, ⟨hs0, hs2⟩, hsame, hB⟩ := hrel
      by_cases hlt : q < m
      · obtain ⟨t, ht⟩ : ∃ x, L[q]? = some x := ⟨_, List.getElem?_eq_getElem (by have := hm.out; omega)⟩
        have hmem := Lib.hid (List.mem_of_getElem? ht)
        have ht' := Lib.hid ht
        clear ht
        obtain ⟨hc, hT⟩ := (hrows.out.below hB).get q t ht'.out
        have hT' := Lib.hid hT
        clear hT
        obtain ⟨tk, tp, tf, tx, tn, tA, tc, tL⟩ := t
        obtain ⟨b, off, rfl, h0, h1, h2, h3, h4, h5⟩ := hc
        rw [Nat.zero_add] at h0 h1 h2 h3 h4 h5
        go_wp2_with fail
        have hb1 : Below wr.heap.size wr (wr.alloc (.cells #[.int .i64 tk, .int .i64 tp, .string tf, .string tx, .int .i64 tn, .slice tA tL.length tc] 24)) := (Below.refl _ wr).alloc (Nat.le_refl _) _
        refine (ih.out _ hmem.out _ (hT'.out.below hb1) (hR.out.below (hB.trans (hb1.mono hB.size)))).mono ?_
        rintro e w1 ⟨rfl, hb2⟩
        have hB1 : Below w.heap.size w w1 := hB.trans ((hb1.trans (hb2.mono (by simp))).mono hB.size)
        have hrg := holdsT_range docs d (.mk tk tp tf tx tn tA tc tL)
        obtain ⟨r, hr⟩ : ∃ r, Hid (holdsT docs d (.mk tk tp tf tx tn tA tc tL) = r) := ⟨_, rfl⟩
        rw [hr.out] at hrg ⊢
        obtain ⟨hr0, hr2⟩ := hrg
        clear hb1 hb2
        go_wp2_with fail
        go_roundw
        case rel => exact ⟨q + 1, _, by omega, by go_num, rfl, by omega, least_step hsame.out ht'.out (by rw [hr.out]), hB1⟩
        case measure => simp [intOf]; omega
      · go_wp2_with fail
        go_ret
        exact ⟨by rw [holdsT, if_neg (by omega), if_pos rfl, hsame.out, List.drop_eq_nil_of_le (by have := hm.out; omega), leastT]; rfl, hB⟩
  by_cases hk : 3 ≤ k ∧ k ≤ 7
  · have hat : Hid (holdsT docs d (.mk k p f x n A' c' L) = (match getF d.fields f with | some v => atomT docs k p x n v | none => 1)) := by
      unfold Hid; rw [holdsT, if_neg k0, if_neg k1, if_neg k2, if_pos hk]; rfl
    obtain ⟨bd, offd, rfl, g0, g1, g2, g3, g4, g5, g6⟩ := hR.out.at_ a d hd.out
    have hbd : bd < w.heap.size := World.block_lt_of_cell? w _ g0
    have hsm : ∀ v, getF d.fields f = some v → v.size ≤ 4000000 := by
      intro v hv
      obtain ⟨fl, hfl, rfl⟩ := getF_mem hv
      exact hR.out.small d (List.mem_of_getElem? hd.out) fl hfl
    have hsm' := Lib.hid hsm
    obtain ⟨dk, dn, di, fA, fc, fs⟩ := d
    simp only at g0 g1 g2 g3 g4 g5 g6 hat hsm'
    have g4' := Lib.hid g4
    have g5' := Lib.hid g5
    clear g4 g5 g6 g0 g1 g2 hsm
    obtain ⟨fm, hfm⟩ : ∃ m, Hid (fs.length = m) := ⟨_, rfl⟩
    rw [hfm.out] at g3
    have g5'' : Hid (fm ≤ maxLen) := by rw [← hfm.out]; exact g5'.out
    obtain ⟨w0, hw0⟩ : ∃ w0, Hid (w0 = w.alloc (.cells #[.int .i64 k, .int .i64 p, .string f, .string x, .int .i64 n, .slice A' m c'] 24)) := ⟨_, rfl⟩
    have hk' := Lib.hid hk
    have ht : k = 3 ∨ k = 4 ∨ k = 5 ∨ k = 6 ∨ k = 7 := by omega
    clear k0 k1 k2 hk
    rcases ht with rfl | rfl | rfl | rfl | rfl
    all_goals
      have b0 := hblk.out
      have bb := hb0'.out
      rw [← hw0.out] at b0 bb
      have b0' := Lib.hid b0
      have bb' := Lib.hid bb
      have hcell0 : ∀ (y : Ext w0), y.wd.cell? ⟨w.heap.size, 2, none⟩ = some (.string f) := fun y => by rw [y.cell _ b0'.out.lt, b0'.out.cell]; rfl
      have hcell3 : ∀ (y : Ext w0), y.wd.cell? ⟨bd, offd + a * 4 + 3, none⟩ = some (.slice fA fm fc) := fun y => by
        rw [y.cell _ (by have := bb'.out.size; show bd < _; omega), bb'.out.cell hbd]; exact g3
      clear b0 bb
      go_enter Tryz.func17, Tryz.ntmps17
      go_wp2_with fail
      rw [← hw0.out]
      refine wp_region_ext (by kernel_rfl) (by kernel_rfl) ?_
      repeat (go_big_quiet_step ((go_at_call 54; exact Calls.ext_of (get_any fA fm fc fs f _ g5''.out hfm (g4'.out.below (bb'.out.trans ((Ext.below _).mono bb'.out.size)))))))
      refine wpQuiet_nil ?_
      rintro _ ⟨y, rfl⟩
      have hBy : Hid (Below w.heap.size w y.wd) := bb'.out.trans (y.below.mono bb'.out.size)
      have hby := Lib.hid (b0'.out.below y.below b0'.out.lt)
      obtain ⟨wy, hwy⟩ : ∃ wy, Hid (wy = y.wd) := ⟨_, rfl⟩
      rw [← hwy.out] at hBy hby ⊢
      clear hcell0 hcell3
      obtain ⟨r, hr⟩ : ∃ r, Hid (getF fs f = r) := ⟨_, rfl⟩
      have hgv : Hid (getV fs f = r.getD ⟨#[]⟩) := by unfold Hid getV; rw [hr.out]
      have hgb : Hid (getB fs f = r.isSome) := by unfold Hid getB; rw [hr.out]
      rw [hgv.out, hgb.out]
      cases r with
      | none =>
        go_wp2_with fail
        go_ret
        exact ⟨by rw [hat.out, hr.out]; rfl, hBy.out⟩
      | some v =>
        have c0 : wy.cell? ⟨w.heap.size, 0, none⟩ = _ := hby.out.cell 0
        have c1 : wy.cell? ⟨w.heap.size, 1, none⟩ = _ := hby.out.cell 1
        have c2 : wy.cell? ⟨w.heap.size, 2, none⟩ = _ := hby.out.cell 2
        have c3 : wy.cell? ⟨w.heap.size, 3, none⟩ = _ := hby.out.cell 3
        have c4 : wy.cell? ⟨w.heap.size, 4, none⟩ = _ := hby.out.cell 4
        have c5 : wy.cell? ⟨w.heap.size, 5, none⟩ = _ := hby.out.cell 5
        simp only [List.getElem?_toArray, List.getElem?_cons_zero, List.getElem?_cons_succ] at c0 c1 c2 c3 c4 c5
        go_wp2_with fail
        refine (atom_any _ p f x n A' m c' _ nn c docs v wy (by unfold maxLen; omega) hR.out.len ((hR.out.below hBy.out).at_) ((hR.out.below hBy.out).env) (hsm'.out v hr.out)).mono ?_
        rintro e w2 ⟨rfl, hb2⟩
        go_wp2_with fail
        go_ret
        exact ⟨by rw [hat.out, hr.out]; rfl, hBy.out.trans (hb2.mono hBy.out.size)⟩
  · have hat : Hid (holdsT docs d (.mk k p f x n A' c' L) = 2) := by
      unfold Hid; rw [holdsT, if_neg k0, if_neg k1, if_neg k2, if_neg hk]
    have k3 : ¬ k = 3 := by omega
    have k4 : ¬ k = 4 := by omega
    have k5 : ¬ k = 5 := by omega
    have k6 : ¬ k = 6 := by omega
    have k7 : ¬ k = 7 := by omega
    go_enter Tryz.func17, Tryz.ntmps17
    go_wp2_with fail
    go_ret
    exact ⟨by rw [hat.out]; rfl, hb0'.out⟩
end Go.Proofs.YtdjmckjbibfecaaGreatDoor
namespace Go.Proofs.YtdjmckjbibfecaaGreatDoor
open Go Go.RowKit

end Go.Proofs.YtdjmckjbibfecaaGreatDoor
namespace Go.Proofs.YtdjmckjbibfecaaGreatDoor
open Go Go.RowKit Go.BigFrame Go.Maps

theorem ba_list (s : ByteArray) : s.toList = s.data.toList := by simp [ByteArray.toList_eq]
end Go.Proofs.YtdjmckjbibfecaaGreatDoor
namespace Go.Proofs.YtdjmckjbibfecaaGreatDoor
open Go Go.RowKit Go.BigFrame Go.Maps

end Go.Proofs.YtdjmckjbibfecaaGreatDoor
namespace Go.Proofs.YtdjmckjbibfecaaGreatDoor
open Go Go.RowKit Go.BigFrame Go.Maps

def Tree.text : Tree → ByteArray | .mk _ _ _ x _ _ _ _ => x
def Tree.num : Tree → Int | .mk _ _ _ _ n _ _ _ => n
mutual
/-- All rules of a rule, itself too. -/
def allT (Q : Tree → Prop) : Tree → Prop
  | .mk k p f x n A c L => Q (.mk k p f x n A c L) ∧ allL Q L
def allL (Q : Tree → Prop) : List Tree → Prop
  | [] => True
  | t :: L => allT Q t ∧ allL Q L
end
theorem allL_mem {Q : Tree → Prop} : ∀ {L : List Tree}, allL Q L → ∀ t ∈ L, allT Q t
  | [], _, t, h => by simp at h
  | u :: L, h, t, ht => by
    rw [allL] at h
    rcases List.mem_cons.1 ht with rfl | ht
    · exact h.1
    · exact allL_mem h.2 t ht
theorem allL_of {Q : Tree → Prop} : ∀ {L : List Tree}, (∀ t ∈ L, allT Q t) → allL Q L
  | [], _ => by rw [allL]; trivial
  | u :: L, h => by
    rw [allL]
    exact ⟨h u (by simp), allL_of fun t ht => h t (by simp [ht])⟩
theorem allT_here {Q : Tree → Prop} : ∀ {t : Tree}, allT Q t → Q t
  | .mk _ _ _ _ _ _ _ _, h => by rw [allT] at h; exact h.1
theorem allT_sub {Q : Tree → Prop} : ∀ {t : Tree}, allT Q t → ∀ u ∈ t.sub, allT Q u
  | .mk _ _ _ _ _ _ _ _, h => by rw [allT] at h; exact allL_mem h.2
mutual
/-- Induction over rules. -/
theorem Tree.every {Q : Tree → Prop} (h : ∀ t, (∀ u ∈ t.sub, Q u) → Q t) : ∀ t : Tree, Q t
  | .mk _ _ _ _ _ _ _ L => h _ (Tree.everyL h L)
theorem Tree.everyL {Q : Tree → Prop} (h : ∀ t, (∀ u ∈ t.sub, Q u) → Q t) : ∀ L : List Tree, ∀ u ∈ L, Q u
  | [], u, hu => by simp at hu
  | t :: L, u, hu => by
    rcases List.mem_cons.1 hu with e | hu
    · rw [e]; exact Tree.every h t
    · exact Tree.everyL h L u hu
end
theorem holds_in (A : Option Addr) (nn c : Nat) (docs : List Pap) (a : Nat) (d : Pap) (hd : docs[a]? = some d) : ∀ t : Tree, HoldsC A nn c docs a d t :=
  Tree.every fun t ih => holds_walk A nn c docs a d hd t ih

end Go.Proofs.YtdjmckjbibfecaaGreatDoor
namespace Go.Proofs.YtdjmckjbibfecaaGreatDoor
open Go Go.RowKit Go.BigFrame Go.Maps

mutual
def sizeT : Tree → Int → Int
  | .mk _ _ f x _ _ _ L, most => if most ≤ 0 then 1 else sizeL L (1 + (f.size : Int) / 200 + (x.size : Int) / 200) most
def sizeL : List Tree → Int → Int → Int
  | [], k, _ => k
  | t :: L, k, most => if k < most then sizeL L (k + sizeT t (most - k)) most else k
end
def LongT : Tree → Prop := allT fun t => t.field.size ≤ 9223372036854775807 ∧ t.text.size ≤ 9223372036854775807 ∧ (-9223372036854775808 ≤ t.num ∧ t.num ≤ 9223372036854775807)
mutual
theorem sizeT_range : ∀ (t : Tree) (m : Int), LongT t → 1 ≤ sizeT t m ∧ (0 ≤ m → sizeT t m ≤ m + 92233720368547760) ∧ sizeT t m ≤ max m 0 + 92233720368547760
  | .mk k p f x n A c L, m, h => by
    unfold LongT at h
    have h1 := allT_here h
    simp only [Tree.field, Tree.text] at h1
    obtain ⟨h1, h1x, _⟩ := h1
    rw [allT] at h
    rw [sizeT]
    by_cases hm : m ≤ 0
    · rw [if_pos hm]; omega
    · rw [if_neg hm]
      have := sizeL_range L (1 + (f.size : Int) / 200 + (x.size : Int) / 200) m h.2 (by omega) (by omega) (by omega)
      omega
theorem sizeL_range : ∀ (L : List Tree) (k m : Int), allL (fun t => t.field.size ≤ 9223372036854775807 ∧ t.text.size ≤ 9223372036854775807 ∧ (-9223372036854775808 ≤ t.num ∧ t.num ≤ 9223372036854775807)) L → 1 ≤ k → 0 < m → k ≤ m + 92233720368547760 → k ≤ sizeL L k m ∧ sizeL L k m ≤ m + 92233720368547760
  | [], k, m, _, h1, h2, h3 => by rw [sizeL]; omega
  | t :: L, k, m, h, h1, h2, h3 => by
    rw [allL] at h
    rw [sizeL]
    by_cases hk : k < m
    · rw [if_pos hk]
      have := sizeT_range t (m - k) h.1
      have := sizeL_range L (k + sizeT t (m - k)) m h.2 (by omega) h2 (by omega)
      omega
    · rw [if_neg hk]; omega
end
mutual
/-- How heavy a rule is. -/
def wgtT : Tree → Int
  | .mk _ _ f x _ _ _ L => 1 + (f.size : Int) / 200 + (x.size : Int) / 200 + wgtL L
def wgtL : List Tree → Int
  | [] => 0
  | t :: L => wgtT t + wgtL L
end
mutual
theorem wgt_pos : ∀ t : Tree, 1 ≤ wgtT t
  | .mk _ _ f x _ _ _ L => by rw [wgtT]; have := wgtL_pos L; omega
theorem wgtL_pos : ∀ L : List Tree, 0 ≤ wgtL L
  | [] => by rw [wgtL]; omega
  | t :: L => by rw [wgtL]; have := wgt_pos t; have := wgtL_pos L; omega
end
theorem sizeL_ge : ∀ (L : List Tree) (k m : Int), (∀ t ∈ L, ∀ m, 1 ≤ sizeT t m) → k ≤ sizeL L k m
  | [], k, m, _ => by rw [sizeL]; omega
  | t :: L, k, m, h => by
    rw [sizeL]
    split
    · have := sizeL_ge L (k + sizeT t (m - k)) m (fun u hu => h u (by simp [hu]))
      have := h t (by simp) (m - k)
      omega
    · omega
theorem sizeT_one : ∀ (t : Tree) (m : Int), 1 ≤ sizeT t m := by
  intro t
  refine Tree.every (Q := fun t => ∀ m, 1 ≤ sizeT t m) ?_ t
  intro t ih m
  obtain ⟨k, p, f, x, n, A, c, L⟩ := t
  rw [sizeT]
  split
  · omega
  · have := sizeL_ge L (1 + (f.size : Int) / 200 + (x.size : Int) / 200) m ih
    omega
mutual
/-- Where not all that may be is counted, all is counted. -/
theorem size_wgt : ∀ (t : Tree) (m : Int), sizeT t m < m → sizeT t m = wgtT t
  | .mk k p f x n A c L, m, h => by
    have h1 := sizeT_one (.mk k p f x n A c L) m
    have hm : ¬ m ≤ 0 := by omega
    rw [sizeT, if_neg hm] at h ⊢
    rw [wgtT, sizeL_wgt L _ m h]
theorem sizeL_wgt : ∀ (L : List Tree) (k m : Int), sizeL L k m < m → sizeL L k m = k + wgtL L
  | [], k, m, _ => by rw [sizeL, wgtL]; omega
  | t :: L, k, m, h => by
    have hge := sizeL_ge (t :: L) k m (fun u _ => sizeT_one u)
    rw [sizeL] at h hge ⊢
    have hk : k < m := by split at hge <;> omega
    rw [if_pos hk] at h hge ⊢
    have hg2 := sizeL_ge L (k + sizeT t (m - k)) m (fun u _ => sizeT_one u)
    have e := sizeL_wgt L _ m h
    rw [e, size_wgt t (m - k) (by omega), wgtL]
    omega
end
mutual
theorem wgt_all : ∀ (t : Tree) (r : Int), wgtT t ≤ r → allT (fun t => (t.field.size : Int) / 200 + (t.text.size : Int) / 200 < r) t
  | .mk k p f x n A c L, r, h => by
    rw [wgtT] at h
    have := wgtL_pos L
    rw [allT]
    exact ⟨by show (f.size : Int) / 200 + (x.size : Int) / 200 < r; omega, wgtL_all L r (by omega)⟩
theorem wgtL_all : ∀ (L : List Tree) (r : Int), wgtL L ≤ r → allL (fun t => (t.field.size : Int) / 200 + (t.text.size : Int) / 200 < r) L
  | [], r, _ => by rw [allL]; trivial
  | t :: L, r, h => by
    rw [wgtL] at h
    have := wgt_pos t
    have := wgtL_pos L
    rw [allL]
    exact ⟨wgt_all t r (by omega), wgtL_all L r (by omega)⟩
end
theorem allT_mono {Q R : Tree → Prop} (h : ∀ t, Q t → R t) : ∀ t : Tree, allT Q t → allT R t := by
  intro t
  refine Tree.every (Q := fun t => allT Q t → allT R t) ?_ t
  intro t ih hq
  have h0 := allT_here hq
  have h1 := allT_sub hq
  obtain ⟨k, p, f, x, n, A, c, L⟩ := t
  rw [allT]
  exact ⟨h _ h0, allL_of fun u hu => ih u hu (h1 u hu)⟩
theorem size_step {L : List Tree} {q : Nat} {t : Tree} {k m : Int} {r : Int} (h : r = sizeL (L.drop q) k m) (ht : L[q]? = some t) (hk : k < m) : Hid (r = sizeL (L.drop (q + 1)) (k + sizeT t (m - k)) m) := by
  obtain ⟨hq, he⟩ := List.getElem?_eq_some_iff.1 ht
  unfold Hid
  rw [h, List.drop_eq_getElem_cons hq, he, sizeL, if_pos hk]
theorem size_stop {L : List Tree} {q : Nat} {k m : Int} {r : Int} (h : r = sizeL (L.drop q) k m) (hk : m ≤ k) : r = k := by
  rw [h]
  cases L.drop q with
  | nil => rw [sizeL]
  | cons t L => rw [sizeL, if_neg (by omega)]

def SizeC (t : Tree) : Prop := ∀ (m : Int) (w : World), m ≤ 1000 → Hid (LongT t) → Hid (TreeAt w t) → Calls Tryz.prog 86 #[.agg t.cells, .int .i64 m] w fun e w' => e = .returned (.int .i64 (sizeT t m)) ∧ Below w.heap.size w w'

set_option maxRecDepth 100000 in
set_option maxHeartbeats 3200000 in
theorem size_walk (t : Tree) (ih : Hid (∀ u ∈ t.sub, SizeC u)) : SizeC t := by
  intro most w hmost hS hT
  have hSu := Lib.hid (allT_sub hS.out)
  have hSx := allT_here hS.out
  have hrT := sizeT_range t most hS.out
  obtain ⟨k, p, f, x, n, A', c', L⟩ := t
  simp only [Tree.sub] at ih hSu
  simp only [Tree.cells]
  simp only [Tree.text, Tree.field] at hSx
  obtain ⟨hf, hx, _⟩ := hSx
  obtain ⟨m, hm⟩ : ∃ m, Hid (L.length = m) := ⟨_, rfl⟩
  rw [hm.out]
  have hrows := Lib.hid (rows_sub hT.out).1
  have hml : m ≤ 9223372036854775807 := by have := (rows_sub hT.out).2; rw [hm.out] at this; unfold maxLen at this; exact this
  have hb0 : Below w.heap.size w (w.alloc (.cells #[.int .i64 k, .int .i64 p, .string f, .string x, .int .i64 n, .slice A' m c'] 24)) := (Below.refl _ w).alloc (Nat.le_refl _) _
  have hblk := Lib.hid (Blk.new w 24 #[.int .i64 k, .int .i64 p, .string f, .string x, .int .i64 n, .slice A' m c'])
  have hb0' := Lib.hid hb0
  clear hb0 hrT
  by_cases hpos : most ≤ 0
  · have hz : Hid (sizeT (.mk k p f x n A' c' L) most = 1) := by unfold Hid; rw [sizeT, if_pos hpos]
    go_enter Tryz.func86, Tryz.ntmps86
    go_wp2_with fail
    all_goals try (exfalso; omega)
    go_ret
    exact ⟨by rw [hz.out]; rfl, hb0'.out⟩
  · have hz : Hid (sizeT (.mk k p f x n A' c' L) most = sizeL L (1 + (f.size : Int) / 200 + (x.size : Int) / 200) most) := by unfold Hid; rw [sizeT, if_neg hpos]
    go_enter Tryz.func86, Tryz.ntmps86
    go_wp2_with fail
    go_loopw [6, 5] (fun j s wr => ∃ (q : Nat) (sv : Int), q ≤ m ∧ j = .int .i64 q ∧ s = .int .i64 sv ∧ (1 ≤ sv ∧ sv ≤ 92233720368548760) ∧ Hid (sizeT (.mk k p f x n A' c' L) most = sizeL (L.drop q) sv most) ∧ Hid (Below w.heap.size w wr) ∧ Hid (Blk wr w.heap.size 24 #[.int .i64 k, .int .i64 p, .string f, .string x, .int .i64 n, .slice A' m c'])) (fun j _ _ => m - (intOf j).toNat)
    case atStart => exact ⟨0, _, Nat.zero_le _, rfl, rfl, by omega, hz, hb0'.out, hblk.out⟩
    case round =>
      obtain ⟨q, sv, hk, rfl, rfl, ⟨hs0, hs2⟩, hsame, hB, hbk⟩ := hrel
      have e5 := hbk.out.cell 5
      simp only [List.getElem?_toArray, List.getElem?_cons_zero, List.getElem?_cons_succ] at e5
      by_cases hlt : q < m
      · by_cases hsm : sv < most
        · obtain ⟨t, ht⟩ : ∃ x, L[q]? = some x := ⟨_, List.getElem?_eq_getElem (by have := hm.out; omega)⟩
          have hmem := Lib.hid (List.mem_of_getElem? ht)
          have ht' := Lib.hid ht
          clear ht
          obtain ⟨hc, hT⟩ := (hrows.out.below hB.out).get q t ht'.out
          have hT' := Lib.hid hT
          clear hT
          have hrg := sizeT_range t (most - sv) (hSu.out _ hmem.out)
          have hst := size_step hsame.out ht'.out hsm
          obtain ⟨tk, tp, tf, tx, tn, tA, tc, tL⟩ := t
          obtain ⟨b, off, rfl, h0, h1, h2, h3, h4, h5⟩ := hc
          rw [Nat.zero_add] at h0 h1 h2 h3 h4 h5
          have hrg0 := Lib.hid hrg
          clear hrg
          go_wp2_with fail
          all_goals try (exfalso; omega)
          refine (ih.out _ hmem.out _ _ (by omega) (hSu.out _ hmem.out) hT').mono ?_
          rintro e w1 ⟨rfl, hb2⟩
          have hB1 : Hid (Below w.heap.size w w1) := hB.out.trans (hb2.mono hB.out.size)
          have hbk1 := Lib.hid (hbk.out.below hb2 hbk.out.lt)
          have hrg := hrg0.out
          obtain ⟨r, hr⟩ : ∃ r, Hid (sizeT (.mk tk tp tf tx tn tA tc tL) (most - sv) = r) := ⟨_, rfl⟩
          rw [hr.out] at hrg ⊢
          obtain ⟨hr0, hr2, _⟩ := hrg
          have hr3 := hr2 (by omega)
          clear hb2 e5 h0 h1 h2 h3 h4 h5 hr2
          go_wp2_with fail
          go_roundw
          case rel => exact ⟨q + 1, _, by omega, by go_num, rfl, by omega, by rw [← hr.out]; exact hst, hB1, hbk1⟩
          case measure => simp [intOf]; omega
        · have hfin := Lib.hid (size_stop hsame.out (by omega))
          go_wp2_with fail
          all_goals try (exfalso; omega)
          go_ret
          exact ⟨by rw [hfin.out]; rfl, hB.out⟩
      · have hfin : Hid (sizeT (.mk k p f x n A' c' L) most = sv) := by unfold Hid; rw [hsame.out, List.drop_eq_nil_of_le (by have := hm.out; omega), sizeL]
        go_wp2_with fail
        all_goals try (exfalso; omega)
        go_ret
        exact ⟨by rw [hfin.out]; rfl, hB.out⟩
theorem size_any : ∀ t : Tree, SizeC t := Tree.every fun t ih => size_walk t ih
end Go.Proofs.YtdjmckjbibfecaaGreatDoor

/- Holds asked at any place; the walk of the law ExamineStands. -/
import Derived.Test.YtpnkpnocipkedaaDoorZf
import Derived.Test.YtpnkpnocipkedaaDoorP
namespace Go.Proofs.YtpnkpnocipkedaaDoor
open Go Go.RowKit Go.BigFrame Go.Maps

/-- How a rule stands, asked of the paper at a place. -/
def standsA (docs : List Pap) (t : Tree) (a : Int) : Int := match (if 0 ≤ a then docs[a.toNat]? else none) with | some d => holdsT docs d t | none => 1
theorem standsA_in {docs : List Pap} {t : Tree} {a : Nat} {d : Pap} (h : docs[a]? = some d) : standsA docs t (a : Int) = holdsT docs d t := by
  unfold standsA; rw [if_pos (by omega)]; simp [h]
theorem standsA_out {docs : List Pap} {t : Tree} {a : Int} (h : a < 0 ∨ (docs.length : Int) ≤ a) : standsA docs t a = 1 := by
  unfold standsA
  split
  · rename_i d hd
    split at hd
    · have := (List.getElem?_eq_some_iff.1 hd).1
      omega
    · cases hd
  · rfl
theorem standsA_range (docs : List Pap) (t : Tree) (a : Int) : 0 ≤ standsA docs t a ∧ standsA docs t a ≤ 2 := by
  unfold standsA
  split
  · exact holdsT_range _ _ _
  · omega

set_option maxRecDepth 100000 in
set_option maxHeartbeats 1600000 in
theorem holds_out (A : Option Addr) (nn c : Nat) (a : Int) (t : Tree) (w : World) (_hnn : nn ≤ 1000) (h : a < 0 ∨ (nn : Int) ≤ a) :
    Calls Tryd.prog 17 #[.agg t.cells, .slice A nn c, .int .i64 a] w fun e w' => e = .returned (.int .i64 1) ∧ Below w.heap.size w w' := by
  obtain ⟨k, p, f, x, n, A', c', L⟩ := t
  simp only [Tree.cells]
  obtain ⟨m, hm⟩ : ∃ m, Hid (L.length = m) := ⟨_, rfl⟩
  rw [hm.out]
  have hb0 := Lib.hid ((Below.refl _ w).alloc (Nat.le_refl _) (.cells #[.int .i64 k, .int .i64 p, .string f, .string x, .int .i64 n, .slice A' m c'] 24))
  by_cases h0 : a < 0
  all_goals
    go_enter Tryd.func17, Tryd.ntmps17
    go_wp2_with fail
    all_goals try (exfalso; omega)
    go_ret
    exact ⟨rfl, hb0.out⟩
set_option maxRecDepth 100000 in
set_option maxHeartbeats 1600000 in
theorem holdsR_out (A : Option Addr) (nn c : Nat) (a : Int) (t : Tree) (w : World) (_hnn : nn ≤ 1000) (h : a < 0 ∨ (nn : Int) ≤ a) :
    Calls Tryd.prog 18 #[.agg t.cells, .slice A nn c, .int .i64 a] w fun e w' => e = .returned (.int .i64 1) ∧ Below w.heap.size w w' := by
  obtain ⟨k, p, f, x, n, A', c', L⟩ := t
  simp only [Tree.cells]
  obtain ⟨m, hm⟩ : ∃ m, Hid (L.length = m) := ⟨_, rfl⟩
  rw [hm.out]
  have hb0 := Lib.hid ((Below.refl _ w).alloc (Nat.le_refl _) (.cells #[.int .i64 k, .int .i64 p, .string f, .string x, .int .i64 n, .slice A' m c'] 24))
  by_cases h0 : a < 0
  all_goals
    go_enter Tryd.func18, Tryd.ntmps18
    go_wp2_with fail
    all_goals try (exfalso; omega)
    go_ret
    exact ⟨rfl, hb0.out⟩
theorem holds_any (A : Option Addr) (nn c : Nat) (docs : List Pap) (a : Int) (t : Tree) (w : World) (hT : TreeAt w t) (hR : Room w A nn docs) :
    Calls Tryd.prog 17 #[.agg t.cells, .slice A nn c, .int .i64 a] w fun e w' => e = .returned (.int .i64 (standsA docs t a)) ∧ Below w.heap.size w w' := by
  by_cases h : a < 0 ∨ (nn : Int) ≤ a
  · rw [standsA_out (by rw [hR.len]; exact h)]
    exact holds_out A nn c a t w hR.most h
  · obtain ⟨m, rfl⟩ : ∃ m : Nat, a = m := ⟨a.toNat, by omega⟩
    obtain ⟨d, hd⟩ : ∃ d, docs[m]? = some d := ⟨_, List.getElem?_eq_getElem (by have := hR.len; omega)⟩
    rw [standsA_in hd]
    exact holds_in A nn c docs m d hd t w hT hR
set_option maxRecDepth 100000 in
set_option maxHeartbeats 1600000 in
theorem holdsR_in (A : Option Addr) (nn c : Nat) (docs : List Pap) (a : Nat) (d : Pap) (t : Tree) (w : World) (hd : Hid (docs[a]? = some d)) (hS : Hid (SmallT t)) (hT : Hid (TreeAt w t)) (hR : Hid (Room w A nn docs)) :
    Calls Tryd.prog 18 #[.agg t.cells, .slice A nn c, .int .i64 (a : Int)] w fun e w' => e = .returned (.int .i64 (holdsT docs d t)) ∧ Below w.heap.size w w' := by
  have hcl := Lib.hid (stands_in A nn c docs a d hd.out t)
  obtain ⟨k, p, f, x, n, A', c', L⟩ := t
  simp only [Tree.cells]
  obtain ⟨m, hm⟩ : ∃ m, Hid (L.length = m) := ⟨_, rfl⟩
  rw [hm.out]
  have hnn := hR.out.most
  have hlt : a < nn := by have := (List.getElem?_eq_some_iff.1 hd.out).1; have := hR.out.len; omega
  have hb0 := Lib.hid ((Below.refl _ w).alloc (Nat.le_refl _) (.cells #[.int .i64 k, .int .i64 p, .string f, .string x, .int .i64 n, .slice A' m c'] 24))
  go_enter Tryd.func18, Tryd.ntmps18
  go_wp2_with fail
  have hh := hcl.out _ hS (hT.out.below hb0.out) (hR.out.below hb0.out)
  simp only [Tree.cells, hm.out] at hh
  refine hh.mono ?_
  rintro e w1 ⟨rfl, hb1⟩
  go_wp2_with fail
  go_ret
  exact ⟨rfl, hb0.out.trans (hb1.mono (by simp))⟩
theorem holdsR_any (A : Option Addr) (nn c : Nat) (docs : List Pap) (a : Int) (t : Tree) (w : World) (hS : SmallT t) (hT : TreeAt w t) (hR : Room w A nn docs) :
    Calls Tryd.prog 18 #[.agg t.cells, .slice A nn c, .int .i64 a] w fun e w' => e = .returned (.int .i64 (standsA docs t a)) ∧ Below w.heap.size w w' := by
  by_cases h : a < 0 ∨ (nn : Int) ≤ a
  · rw [standsA_out (by rw [hR.len]; exact h)]
    exact holdsR_out A nn c a t w hR.most h
  · obtain ⟨m, rfl⟩ : ∃ m : Nat, a = m := ⟨a.toNat, by omega⟩
    obtain ⟨d, hd⟩ : ∃ d, docs[m]? = some d := ⟨_, List.getElem?_eq_getElem (by have := hR.len; omega)⟩
    rw [standsA_in hd]
    exact holdsR_in A nn c docs m d t w hd hS hT hR
theorem few_docs {needs : List Nd} {docs : List Pap} (h : fewB needs docs = true) : needs.length ≤ 12 ∧ docs.length ≤ 12 ∧ SmallD docs ∧ ∀ x ∈ needs, sizeT x.rule 200 ≤ 60 := by
  unfold fewB at h
  simp only [Bool.and_eq_true, decide_eq_true_eq] at h
  refine ⟨h.1.1.1, h.1.1.2, fun d hd f hf => ?_, fun x hx => ?_⟩
  · have := List.all_eq_true.1 h.2 d hd
    simp only [Bool.and_eq_true, decide_eq_true_eq] at this
    have := List.all_eq_true.1 this.2 f hf
    simp only [decide_eq_true_eq] at this
    omega
  · have := List.all_eq_true.1 h.1.2 x hx
    simpa using this

set_option maxRecDepth 100000 in
set_option maxHeartbeats 3200000 in
theorem stands_law (t : Tree) (A : Option Addr) (nn c : Nat) (docs : List Pap) (a kind : Int) (name : ByteArray) (w : World) (hT : Hid (TreeAt w t)) (hL : Hid (LongT t)) (hnn : Hid (docs.length = nn)) (hmn : nn ≤ maxLen) (hD : Hid (DocsAt w A docs)) (hLD : Hid (LongD docs)) (he : Hid (Env w)) :
    Calls Tryd.prog 3 #[.agg t.cells, .slice A nn c, .int .i64 a, .int .i64 kind, .string name] w fun e w' => e = .returned (.bool true) ∧ Below w.heap.size w w' := by
  have hmn' := Lib.hid hmn
  clear hmn
  obtain ⟨k, p, f, x, n, A', c', L⟩ := t
  simp only [Tree.cells]
  obtain ⟨m, hm⟩ : ∃ m, Hid (L.length = m) := ⟨_, rfl⟩
  rw [hm.out]
  have hb0 := Lib.hid ((Below.refl _ w).alloc (Nat.le_refl _) (.cells #[.int .i64 k, .int .i64 p, .string f, .string x, .int .i64 n, .slice A' m c'] 24))
  have hbk0 := Lib.hid (Blk.new w 24 #[.int .i64 k, .int .i64 p, .string f, .string x, .int .i64 n, .slice A' m c'])
  go_enter Tryd.func3, Tryd.ntmps3
  go_wp2_with fail
  refine (awake_any _ (he.out.below hb0.out)).mono ?_
  rintro e w1 ⟨rfl, hb1⟩
  have hB1 : Hid (Below w.heap.size w w1) := hb0.out.trans (hb1.mono (by simp))
  have hbk1 := Lib.hid (hbk0.out.below hb1 hbk0.out.lt)
  clear hb1
  go_wp2_with fail
  refine (few_any _ none 0 0 [] A nn c docs w1 ?hc1 ?hc2 rfl hnn (Nat.zero_le _) hmn'.out (fun k x hk => by simp at hk) (hD.out.below hB1.out) hLD).mono ?_
  case hc1 => rfl
  case hc2 => rfl
  rintro e w2 ⟨rfl, hb2⟩
  have hB2 : Hid (Below w.heap.size w w2) := hB1.out.trans (hb2.mono hB1.out.size)
  have hbk2 := Lib.hid (hbk1.out.below hb2 hbk1.out.lt)
  clear hb2
  obtain ⟨fb, hfb⟩ : ∃ fb, Hid (fewB [] docs = fb) := ⟨_, rfl⟩
  rw [hfb.out]
  cases fb with
  | false =>
    go_wp2_with fail
    go_ret
    exact ⟨rfl, hB2.out⟩
  | true =>
    obtain ⟨_, hn12, hsd, _⟩ := few_docs hfb.out
    have hsd' := Lib.hid hsd
    have hn12' : Hid (nn ≤ 1000) := by have := hnn.out; unfold Hid; omega
    clear hsd hn12
    have c0 : w2.cell? ⟨w.heap.size, 0, none⟩ = _ := hbk2.out.cell 0
    have c1 : w2.cell? ⟨w.heap.size, 1, none⟩ = _ := hbk2.out.cell 1
    have c2 : w2.cell? ⟨w.heap.size, 2, none⟩ = _ := hbk2.out.cell 2
    have c3 : w2.cell? ⟨w.heap.size, 3, none⟩ = _ := hbk2.out.cell 3
    have c4 : w2.cell? ⟨w.heap.size, 4, none⟩ = _ := hbk2.out.cell 4
    have c5 : w2.cell? ⟨w.heap.size, 5, none⟩ = _ := hbk2.out.cell 5
    simp only [List.getElem?_toArray, List.getElem?_cons_zero, List.getElem?_cons_succ] at c0 c1 c2 c3 c4 c5
    go_wp2_with fail
    have hsz := size_any (.mk k p f x n A' c' L) 200 w2 (by omega) hL (hT.out.below hB2.out)
    simp only [Tree.cells, hm.out] at hsz
    refine hsz.mono ?_
    rintro e w3 ⟨rfl, hb3⟩
    have hB3 : Hid (Below w.heap.size w w3) := hB2.out.trans (hb3.mono hB2.out.size)
    have hbk3 := Lib.hid (hbk2.out.below hb3 hbk2.out.lt)
    clear hb3 hsz c0 c1 c2 c3 c4 c5
    obtain ⟨sz, hsz⟩ : ∃ sz, Hid (sizeT (.mk k p f x n A' c' L) 200 = sz) := ⟨_, rfl⟩
    rw [hsz.out]
    by_cases h60 : 60 < sz
    · have h60' : decide (60 < sz) = true := by simp [h60]
      go_wp2_with fail
      all_goals try (exfalso; omega)
      go_ret
      exact ⟨rfl, hB3.out⟩
    have h60' : decide (60 < sz) = false := by simp; omega
    by_cases h100 : 100 < name.size
    · go_wp2_with fail
      all_goals try (exfalso; omega)
      go_ret
      exact ⟨rfl, hB3.out⟩
    have hsm := Lib.hid (small_of_size (t := .mk k p f x n A' c' L) (by rw [hsz.out]; omega))
    go_wp2_with fail
    all_goals try (exfalso; omega)
    refine (field_any A nn c docs kind name w3 hmn'.out hnn (hD.out.below hB3.out)).mono ?_
    rintro e w4 ⟨rfl, hb4⟩
    have hB4 : Hid (Below w.heap.size w w4) := hB3.out.trans (hb4.mono hB3.out.size)
    have hbk4 := Lib.hid (hbk3.out.below hb4 hbk3.out.lt)
    clear hb4
    unfold two
    go_wp2_with fail
    refine (fieldR_any A nn c docs kind name w4 hmn'.out hnn (hD.out.below hB4.out)).mono ?_
    rintro e w5 ⟨rfl, hb5⟩
    have hB5 : Hid (Below w.heap.size w w5) := hB4.out.trans (hb5.mono hB4.out.size)
    have hbk5 := Lib.hid (hbk4.out.below hb5 hbk4.out.lt)
    clear hb5
    unfold two
    go_wp2_with fail
    have hcell : ∀ (y : Ext w5) (i : Nat), y.wd.cell? ⟨w.heap.size, i, none⟩ = _ := fun y i => (y.cell ⟨w.heap.size, i, none⟩ hbk5.out.lt).trans (hbk5.out.cell i)
    have c0 := fun y => hcell y 0
    have c1 := fun y => hcell y 1
    have c2 := fun y => hcell y 2
    have c3 := fun y => hcell y 3
    have c4 := fun y => hcell y 4
    have c5 := fun y => hcell y 5
    simp only [List.getElem?_toArray, List.getElem?_cons_zero, List.getElem?_cons_succ] at c0 c1 c2 c3 c4 c5
    clear hcell
    have hRo : Hid (∀ y : Ext w5, Room y.wd A nn docs ∧ TreeAt y.wd (.mk k p f x n A' c' L)) := fun y => by
      have hb : Below w.heap.size w y.wd := hB5.out.trans (y.below.mono hB5.out.size)
      exact ⟨⟨hnn.out, hn12'.out, hD.out.below hb, he.out.below hb, hsd'.out⟩, hT.out.below hb⟩
    have hh1 : Hid (∀ y : Ext w5, Calls Tryd.prog 17 #[.agg #[.int .i64 k, .int .i64 p, .string f, .string x, .int .i64 n, .slice A' m c'], .slice A nn c, .int .i64 a] y.wd fun e w' => e = .returned (.int .i64 (standsA docs (.mk k p f x n A' c' L) a)) ∧ Below y.wd.heap.size y.wd w') := fun y => by
      have := holds_any A nn c docs a (.mk k p f x n A' c' L) y.wd (hRo.out y).2 (hRo.out y).1
      simp only [Tree.cells, hm.out] at this
      exact this
    have hh2 : Hid (∀ y : Ext w5, Calls Tryd.prog 18 #[.agg #[.int .i64 k, .int .i64 p, .string f, .string x, .int .i64 n, .slice A' m c'], .slice A nn c, .int .i64 a] y.wd fun e w' => e = .returned (.int .i64 (standsA docs (.mk k p f x n A' c' L) a)) ∧ Below y.wd.heap.size y.wd w') := fun y => by
      have := holdsR_any A nn c docs a (.mk k p f x n A' c' L) y.wd hsm.out (hRo.out y).2 (hRo.out y).1
      simp only [Tree.cells, hm.out] at this
      exact this
    obtain ⟨sv, hsv⟩ : ∃ sv, Hid (standsA docs (.mk k p f x n A' c' L) a = sv) := ⟨_, rfl⟩
    rw [hsv.out] at hh1 hh2
    refine wp_region_ext (by kernel_rfl) (by kernel_rfl) ?_
    repeat (go_big_quiet_step (first | (go_at_call 17; exact Calls.ext_of (hh1.out _)) | (go_at_call 18; exact Calls.ext_of (hh2.out _))))
    refine wpQuiet_nil ?_
    rintro _ ⟨y, rfl⟩
    have hBy : Below w.heap.size w y.wd := hB5.out.trans (y.below.mono hB5.out.size)
    go_wp2_with fail
    go_ret
    exact ⟨by simp, hBy⟩
end Go.Proofs.YtpnkpnocipkedaaDoor

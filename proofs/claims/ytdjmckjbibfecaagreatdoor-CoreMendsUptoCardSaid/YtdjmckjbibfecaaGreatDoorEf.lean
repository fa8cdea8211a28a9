/- How much may be drawn under a credit; what the examiner's own questions answer. -/
import Derived.Test.YtdjmckjbibfecaaGreatDoorEc
namespace Go.Proofs.YtdjmckjbibfecaaGreatDoor
open Go Go.RowKit Go.BigFrame Go.Maps

theorem kind_of {w : World} {A : Option Addr} {docs : List Pap} {a : Nat} {d : Pap} (h : DocsAt w A docs) (hd : docs[a]? = some d) : -9223372036854775808 ≤ d.kind ∧ d.kind ≤ 9223372036854775807 := by
  obtain ⟨b, off, _, _, _, _, _, _, _, hk⟩ := h a d hd
  exact hk
theorem ruleF_none {docs : List Pap} {a : Int} {d : Pap} {t : Tree} (h : holdsT docs d t = 0) : ruleF docs a d t = [] := by unfold ruleF; rw [if_pos h]
theorem ruleF_some {docs : List Pap} {a : Int} {d : Pap} {t : Tree} (h : ¬ holdsT docs d t = 0) {f : ByteArray} {y : Int} (hf : (if isAtomB t.kind then t.field else ⟨#[]⟩) = f) (hy : (if t.kind = 7 ∧ holdsT docs d t = 2 then 3 else holdsT docs d t) = y) : ruleF docs a d t = [⟨a, d.kind, f, y⟩] := by
  unfold ruleF; rw [if_neg h, hf, hy]

theorem ExS.set {w0 : World} {ct cf bm xb : Nat} {X : Array Value} {w : World} {v : Value} {l : List Flt} (h : ExS w0 ct cf bm xb X w v l) {g : Nat} {cs : Array Value} (hb : Blk w g 54 cs) (hv : v.ownBlock ≠ some g) (hB : w0.heap.size ≤ g) (i : Nat) (u : Value) :
    ExS w0 ct cf bm xb X (w.setCell ⟨g, i, none⟩ u) v l ∧ Tld w0.heap.size cf bm w (w.setCell ⟨g, i, none⟩ u) := by
  refine ⟨⟨⟨h.tell.map.setCell (blk_map_ne hb h.tell.map).symm.symm u, h.tell.tc.far (h.tell.tc.ne_ hb (by decide)) u, h.tell.fc.far (h.tell.fc.ne_ hb (by decide)) u, h.tell.row.kept (grown_set w g i u) (.inr hv), h.tell.base⟩, h.exam.far (h.exam.ne_ hb (by decide)) u, h.below.setCell hB u⟩, ?_⟩
  exact ButS.setCell (ButS.refl _ _) g i u ⟨hB, .inr (.inr ⟨_, _, hb⟩)⟩

set_option maxRecDepth 100000 in
set_option maxHeartbeats 3200000 in
theorem part1_any (w0 : World) (ct cf bm xb : Nat) (C : Array Value) (hC : Hid (C.size = 18)) (A : Option Addr) (nn cc : Nat) (docs : List Pap) (day : Int) (a : Nat) (d : Pap) (pb ab kb : Nat) (hd : Hid (docs[a]? = some d)) (t : Tree) (hT : Hid (TreeAt w0 t)) (hL : Hid (LongT t)) (hR : Hid (Room w0 A nn docs))
    (w : World) (v : Value) (l : List Flt) (hl : l.length < 100000) (hx : Hid (ExS w0 ct cf bm xb (exX C A nn cc day ct cf) w v l)) (hp : Hid (Blk w pb 91 #[.pointer (some ⟨xb, 0, none⟩)])) (ha : Hid (Blk w ab 3 #[.int .i64 a])) (hk : Hid (Blk w kb 3 #[.int .i64 d.kind])) :
    Calls Tryz.prog 109 #[.agg t.cells, .pointer (some ⟨pb, 0, none⟩), .pointer (some ⟨ab, 0, none⟩), .pointer (some ⟨kb, 0, none⟩)] w (Ted w0 ct cf bm xb (exX C A nn cc day ct cf) (addAll l (ruleF docs a d t)) w) := by
  have hkb := kind_of hR.out.at_ hd.out
  have halt : a < nn := by have := (List.getElem?_eq_some_iff.1 hd.out).1; have := hR.out.len; omega
  have hmost := hR.out.most
  have hh := Lib.hid (holds_in A nn cc docs a d hd.out t)
  have hrg := holdsT_range docs d t
  have hLt := allT_here hL.out
  obtain ⟨k, p, f, x, n, A', c', L⟩ := t
  simp only [Tree.cells] at hh ⊢
  simp only [Tree.field, Tree.text] at hLt
  obtain ⟨hLf, _⟩ := hLt
  obtain ⟨m, hm⟩ : ∃ m, Hid (L.length = m) := ⟨_, rfl⟩
  obtain ⟨s, hs⟩ : ∃ s, Hid (holdsT docs d (.mk k p f x n A' c' L) = s) := ⟨_, rfl⟩
  rw [hs.out] at hrg
  obtain ⟨hs0, hs2⟩ := hrg
  rw [hm.out]
  obtain ⟨kd, hkd⟩ : ∃ kd, Hid (d.kind = kd) := ⟨_, rfl⟩
  rw [hkd.out] at hk hkb
  obtain ⟨hk1, hk2⟩ := hkb
  have hb0 := Lib.hid ((Below.refl _ w).alloc (Nat.le_refl _) (.cells #[.int .i64 k, .int .i64 p, .string f, .string x, .int .i64 n, .slice A' m c'] 24))
  have hbk0 := Lib.hid (Blk.new w 24 #[.int .i64 k, .int .i64 p, .string f, .string x, .int .i64 n, .slice A' m c'])
  have hx0 := Lib.hid (hx.out.belows hb0.out)
  have hp0 := Lib.hid (hp.out.below hb0.out hp.out.lt)
  have ha0 := Lib.hid (ha.out.below hb0.out ha.out.lt)
  have hk0 := Lib.hid (hk.out.below hb0.out hk.out.lt)
  go_enter Tryz.func109, Tryz.ntmps109
  go_wp2_with fail
  have hcl : Hid (∀ y : Ext (w.alloc (.cells #[.int .i64 k, .int .i64 p, .string f, .string x, .int .i64 n, .slice A' m c'] 24)), Calls Tryz.prog 17 #[.agg #[.int .i64 k, .int .i64 p, .string f, .string x, .int .i64 n, .slice A' m c'], .slice A nn cc, .int .i64 a] y.wd fun e w' => e = .returned (.int .i64 s) ∧ Below y.wd.heap.size y.wd w') := fun y => by
    have hb : Below w0.heap.size w0 y.wd := hx0.out.below.trans (y.below.mono hx0.out.below.size)
    have h1 := hh.out y.wd (hT.out.below hb) (hR.out.below hb)
    simp only [Tree.cells, hm.out, hs.out] at h1
    exact h1
  have hcell : ∀ (y : Ext (w.alloc (.cells #[.int .i64 k, .int .i64 p, .string f, .string x, .int .i64 n, .slice A' m c'] 24))) (i : Nat), y.wd.cell? ⟨w.heap.size, i, none⟩ = _ := fun y i => (y.cell ⟨w.heap.size, i, none⟩ hbk0.out.lt).trans (hbk0.out.cell i)
  have c0 := fun y => hcell y 0
  have c1 := fun y => hcell y 1
  have c2 := fun y => hcell y 2
  have c3 := fun y => hcell y 3
  have c4 := fun y => hcell y 4
  have c5 := fun y => hcell y 5
  simp only [List.getElem?_toArray, List.getElem?_cons_zero, List.getElem?_cons_succ] at c0 c1 c2 c3 c4 c5
  clear hcell
  have cp : ∀ y : Ext (w.alloc (.cells #[.int .i64 k, .int .i64 p, .string f, .string x, .int .i64 n, .slice A' m c'] 24)), y.wd.cell? ⟨pb, 0, none⟩ = some (.pointer (some ⟨xb, 0, none⟩)) := fun y => (y.cell ⟨pb, 0, none⟩ hp0.out.lt).trans (hp0.out.cell 0)
  have ca : ∀ y : Ext (w.alloc (.cells #[.int .i64 k, .int .i64 p, .string f, .string x, .int .i64 n, .slice A' m c'] 24)), y.wd.cell? ⟨ab, 0, none⟩ = some (.int .i64 a) := fun y => (y.cell ⟨ab, 0, none⟩ ha0.out.lt).trans (ha0.out.cell 0)
  have cx : ∀ y : Ext (w.alloc (.cells #[.int .i64 k, .int .i64 p, .string f, .string x, .int .i64 n, .slice A' m c'] 24)), y.wd.cell? ⟨xb, 18, none⟩ = some (.slice A nn cc) := fun y => (y.cell ⟨xb, 18, none⟩ hx0.out.exam.lt).trans ((hx0.out.exam.cell 18).trans (exX_docs hC.out))
  refine wp_region_ext (by kernel_rfl) (by kernel_rfl) ?_
  repeat (go_big_quiet_step (first | (go_at_call 17; exact Calls.ext_of (hcl.out _))))
  refine wpQuiet_nil ?_
  rintro _ ⟨y, rfl⟩
  have hB1 := Lib.hid (hb0.out.trans (y.below.mono hb0.out.size))
  have hx1 := Lib.hid (hx0.out.belows y.below)
  have hbk1 := Lib.hid (hbk0.out.below y.below hbk0.out.lt)
  have hp1 := Lib.hid (hp0.out.below y.below hp0.out.lt)
  have ha1 := Lib.hid (ha0.out.below y.below ha0.out.lt)
  have hk1' := Lib.hid (hk0.out.below y.below hk0.out.lt)
  clear c0 c1 c2 c3 c4 c5 cp ca cx hcl hbk0 hp0 ha0 hk0 hx0 hb0
  obtain ⟨W, hW⟩ : ∃ W, Hid (y.wd = W) := ⟨_, rfl⟩
  rw [hW.out] at hB1 hx1 hbk1 hp1 ha1 hk1' ⊢
  clear hW
  have c0 : W.cell? ⟨w.heap.size, 0, none⟩ = _ := hbk1.out.cell 0
  have c1 : W.cell? ⟨w.heap.size, 1, none⟩ = _ := hbk1.out.cell 1
  have c2 : W.cell? ⟨w.heap.size, 2, none⟩ = _ := hbk1.out.cell 2
  have c3 : W.cell? ⟨w.heap.size, 3, none⟩ = _ := hbk1.out.cell 3
  have c4 : W.cell? ⟨w.heap.size, 4, none⟩ = _ := hbk1.out.cell 4
  have c5 : W.cell? ⟨w.heap.size, 5, none⟩ = _ := hbk1.out.cell 5
  have ca : W.cell? ⟨ab, 0, none⟩ = _ := ha1.out.cell 0
  have ck : W.cell? ⟨kb, 0, none⟩ = _ := hk1'.out.cell 0
  simp only [List.getElem?_toArray, List.getElem?_cons_zero, List.getElem?_cons_succ] at c0 c1 c2 c3 c4 c5 ca ck
  have z1 := hbk1.out.lt
  have z2 := ha1.out.lt
  have z3 := hk1'.out.lt
  go_wp2_with fail
  have hbA := Lib.hid ((Below.refl _ W).alloc (Nat.le_refl _) (.cells #[.int .i64 a, .int .i64 kd, .string ⟨#[]⟩, .int .i64 s] 54))
  have hfbA := Lib.hid (Blk.new W 54 #[.int .i64 a, .int .i64 kd, .string ⟨#[]⟩, .int .i64 s])
  refine (exIsAtom_any k p f x n A' m c' _).mono ?_
  rintro e w2 ⟨rfl, hb2⟩
  have hvW : Hid (v.ownBlock ≠ some W.heap.size) := fun e => by have := (hx1.out.tell.row.lt _ e).2; omega
  have hb2' := Lib.hid (hbA.out.trans (hb2.mono (by simp)))
  have hB2 := Lib.hid (hB1.out.trans (hb2'.out.mono hB1.out.size))
  have hx2 := Lib.hid (hx1.out.belows hb2'.out)
  have hbk2 := Lib.hid (hbk1.out.below hb2'.out hbk1.out.lt)
  have hp2 := Lib.hid (hp1.out.below hb2'.out hp1.out.lt)
  have hfb2 := Lib.hid (hfbA.out.below hb2 hfbA.out.lt)
  clear hb2 c0 c1 c2 c3 c4 c5 ca ck z1 z2 z3 hbk1 hp1 hx1 ha1 hk1' hfbA hbA
  have c0 : w2.cell? ⟨w.heap.size, 0, none⟩ = _ := hbk2.out.cell 0
  have c2 : w2.cell? ⟨w.heap.size, 2, none⟩ = _ := hbk2.out.cell 2
  simp only [List.getElem?_toArray, List.getElem?_cons_zero, List.getElem?_cons_succ] at c0 c2
  obtain ⟨⟨q0, q1, q2, q3⟩, qf⟩ := hfb2.out.four
  have qf2 := qf 2
  have qf3 := qf 3
  clear qf
  have hne : w.heap.size ≠ W.heap.size := by have := hbk2.out.ne_ hfb2.out (by decide); exact this
  obtain ⟨g, hg⟩ : ∃ g, Hid (W.heap.size = g) := ⟨_, rfl⟩
  rw [hg.out] at hfb2 q0 q1 q2 q3 qf2 qf3 hne ⊢
  obtain ⟨g0, hg0⟩ : ∃ g0, Hid (w.heap.size = g0) := ⟨_, rfl⟩
  have hgN : Hid (w0.heap.size ≤ g) := by have := hx.out.below.size; have := hB1.out.size; have := hg.out; unfold Hid; omega
  have hBw := Lib.hid hB2.out
  rw [hg0.out] at c0 c2 hne ⊢
  obtain ⟨ia, hia⟩ : ∃ ia, Hid (isAtomB k = ia) := ⟨_, rfl⟩
  rw [hia.out]
  clear hbk2
  have hvne : Hid (v.ownBlock ≠ some g) := by rw [← hg.out]; exact hvW.out
  have fin : Hid (∀ (fld : ByteArray) (why : Int), ((if isAtomB k then f else ⟨#[]⟩) = fld) → ((if k = 7 ∧ s = 2 then 3 else s) = why) → ¬ s = 0 → ruleF docs a d (.mk k p f x n A' c' L) = [⟨a, kd, fld, why⟩]) := fun fld why h1 h2 h3 => by
    rw [ruleF_some (t := .mk k p f x n A' c' L) (f := fld) (y := why) (by rw [hs.out]; exact h3) h1 (by rw [hs.out]; exact h2), hkd.out]
  go_upto_if 19 with fail
  go_cut [22] (fun _ wx => ∃ (fld : ByteArray), Hid ((if isAtomB k then f else ⟨#[]⟩) = fld) ∧ Hid (Blk wx g 54 #[.int .i64 a, .int .i64 kd, .string fld, .int .i64 s]) ∧ Hid (ExS w0 ct cf bm xb (exX C A nn cc day ct cf) wx v l) ∧ Hid (Blk wx pb 91 #[.pointer (some ⟨xb, 0, none⟩)]) ∧ Hid (Tld w0.heap.size cf bm w wx) ∧ wx.cell? ⟨g0, 0, none⟩ = some (.int .i64 k))
  case first =>
    cases ia
    · go_wp2_with fail
      go_meet
      case rel => exact ⟨⟨#[]⟩, by rw [hia.out]; rfl, hfb2, hx2, hp2, Tld.of_below hB2.out, c0⟩
    · go_wp2_with fail
      go_meet
      case rel =>
        have h1 := hx2.out.set hfb2.out hvne.out hgN.out 2 (.string f)
        refine ⟨f, by rw [hia.out]; rfl, hfb2.out.set_ 2 (.string f), h1.1, hp2.out.far (hp2.out.ne_ hfb2.out (by decide)) _, (Tld.of_below hB2.out).trans h1.2, ?_⟩
        rw [World.cell?_setCell_other _ _ _ _ (by simp)]; exact c0
  case rest =>
    obtain ⟨fld, hfld, hfb3, hx3, hp3, hB3, c0'⟩ := hcut
    clear c0 c2 q0 q1 q2 q3 qf2 qf3 hx2 hp2 hfb2
    obtain ⟨⟨q0, q1, q2, q3⟩, qf⟩ := hfb3.out.four
    have qf2 := qf 2
    have qf3 := qf 3
    clear qf
    by_cases hz : s = 0
    · have b1 : (s == 2) = false := by simp; omega
      have b2 : (s != 0) = false := by simp [hz]
      have hru : Hid (ruleF docs a d (.mk k p f x n A' c' L) = []) := ruleF_none (by rw [hs.out]; exact hz)
      clear hz
      cases b3 : (k == 7)
      all_goals
        go_wp2_with fail
        go_end0
        exact ⟨rfl, v, by rw [hru.out]; exact hx3.out, hB3.out⟩
    · have b2 : (s != 0) = true := by simp [hz]
      have hz' := Lib.hid hz
      clear hz
      have ht3 : ∀ (W : World) (why : Int), Hid ((if k = 7 ∧ s = 2 then 3 else s) = why) → Hid (ExS w0 ct cf bm xb (exX C A nn cc day ct cf) W v l) → Hid (Tld w0.heap.size cf bm w W) → 0 ≤ why → why ≤ 3 →
          Calls Tryz.prog 57 #[.agg #[.int .i64 a, .int .i64 kd, .string fld, .int .i64 why], .pointer (some ⟨ct, 0, none⟩), .pointer (some ⟨cf, 0, none⟩)] W (Ted w0 ct cf bm xb (exX C A nn cc day ct cf) (addAll l (ruleF docs a d (.mk k p f x n A' c' L))) w) := by
        intro W why hw hxW hBW hw0 hw3
        have hfits : Flt.fits ⟨a, kd, fld, why⟩ := ⟨fits_i64 (n := a) (by omega) (by omega), fits_i64 hk1 hk2, by
          show fld.size ≤ maxLen
          rw [← hfld.out]; unfold maxLen
          split
          · exact hLf
          · exact Nat.zero_le _, fits_i64 (n := why) (by omega) (by omega)⟩
        refine (tell_ex ⟨a, kd, fld, why⟩ hfits (by omega) hxW.out).mono ?_
        rintro e w' ⟨rfl, v', h1, h2⟩
        rw [fin.out fld why hfld.out hw.out hz'.out]
        exact ⟨rfl, v', h1, hBW.out.trans h2⟩
      have ht3' := Lib.hid ht3
      clear ht3 fin
      by_cases h7 : k = 7 ∧ s = 2
      · have hy : Hid ((if k = 7 ∧ s = 2 then 3 else s) = 3) := by unfold Hid; rw [if_pos h7]
        have b1 : (s == 2) = true := by simp [h7.2]
        have b3 : (k == 7) = true := by simp [h7.1]
        clear h7
        have hs4 := hx3.out.set hfb3.out hvne.out hgN.out 3 (.int .i64 3)
        have hx4 := Lib.hid hs4.1
        have hB4 := Lib.hid (hB3.out.trans hs4.2)
        clear hs4
        have hp4 := Lib.hid (hp3.out.far (p := ⟨g, 3, none⟩) (hp3.out.ne_ hfb3.out (by decide)) (.int .i64 3))
        have hcp : (wc.setCell ⟨g, 3, none⟩ (.int .i64 3)).cell? ⟨pb, 0, none⟩ = some (.pointer (some ⟨xb, 0, none⟩)) := hp4.out.cell 0
        have hcx : (wc.setCell ⟨g, 3, none⟩ (.int .i64 3)).cell? ⟨xb, 20, none⟩ = _ := (hx4.out.exam.cell 20).trans (exX_tell hC.out)
        have hc : ∀ W, W = (wc.setCell ⟨g, 3, none⟩ (.int .i64 3)).drew → _ := fun W e => ht3'.out W 3 hy (by rw [e]; exact hx4.out.drew) (by rw [e]; exact hB4.out.trans (Tld.of_below (Below.refl _ _).drew)) (by omega) (by omega)
        have hc' := Lib.hid hc
        clear hc
        go_wp2_with fail
        go_region_with ((go_at_call 57; (with_reducible refine (hc'.out _ ?_).mono ?_); rfl; rintro e w3 ⟨rfl, h3⟩))
        all_goals
          go_wp2_with fail
          go_end0
          exact ⟨rfl, h3⟩
      · have hy : Hid ((if k = 7 ∧ s = 2 then 3 else s) = s) := by unfold Hid; rw [if_neg h7]
        have b1 : Hid (k = 7 → (s == 2) = false) := fun e => by simp; omega
        clear h7
        have hcp : wc.cell? ⟨pb, 0, none⟩ = some (.pointer (some ⟨xb, 0, none⟩)) := hp3.out.cell 0
        have hcx : wc.cell? ⟨xb, 20, none⟩ = _ := (hx3.out.exam.cell 20).trans (exX_tell hC.out)
        have hc : ∀ W, W = wc.drew → _ := fun W e => ht3'.out W s hy (by rw [e]; exact hx3.out.drew) (by rw [e]; exact hB3.out.trans (Tld.of_below (Below.refl _ _).drew)) (by omega) (by omega)
        have hc' := Lib.hid hc
        clear hc
        cases b3 : (k == 7)
        · go_wp2_with fail
          go_region_with ((go_at_call 57; (with_reducible refine (hc'.out _ ?_).mono ?_); rfl; rintro e w3 ⟨rfl, h3⟩))
          all_goals
            go_wp2_with fail
            go_end0
            exact ⟨rfl, h3⟩
        · have b4 := b1.out (by simpa using b3)
          go_wp2_with fail
          go_region_with ((go_at_call 57; (with_reducible refine (hc'.out _ ?_).mono ?_); rfl; rintro e w3 ⟨rfl, h3⟩))
          all_goals
            go_wp2_with fail
            go_end0
            exact ⟨rfl, h3⟩
end Go.Proofs.YtdjmckjbibfecaaGreatDoor
namespace Go.Proofs.YtdjmckjbibfecaaGreatDoor
open Go Go.RowKit Go.BigFrame Go.Maps

theorem partsL_snoc : ∀ {L : List Tree} {q : Nat} {t : Tree}, L[q]? = some t → partsL (L.take (q + 1)) = partsL (L.take q) ++ partsT t
  | [], q, t, h => by simp at h
  | u :: L, 0, t, h => by
    simp at h; subst h
    simp [partsL]
  | u :: L, q + 1, t, h => by
    have ih := partsL_snoc (L := L) (q := q) (t := t) (by simpa using h)
    rw [List.take_succ_cons, partsL, ih, List.take_succ_cons, partsL, List.append_assoc]
theorem partsL_len : ∀ (L : List Tree) (q : Nat), (partsL (L.take q)).length ≤ (partsL L).length
  | [], q => by simp
  | u :: L, 0 => by simp [partsL]
  | u :: L, q + 1 => by
    have := partsL_len L q
    rw [List.take_succ_cons, partsL, partsL, List.length_append, List.length_append]; omega
theorem ruleF_le (docs : List Pap) (a : Int) (d : Pap) (t : Tree) : (ruleF docs a d t).length ≤ 1 := by unfold ruleF; split <;> simp
theorem flat_le {α β : Type} (g : α → List β) (h : ∀ x, (g x).length ≤ 1) : ∀ L : List α, (L.flatMap g).length ≤ L.length
  | [] => by simp
  | x :: L => by
    have := flat_le g h L
    have := h x
    simp only [List.flatMap_cons, List.length_append, List.length_cons]; omega
/-- What the parts of a rule tell. -/
def partF (docs : List Pap) (a : Int) (d : Pap) (L : List Tree) : List Flt := L.flatMap (ruleF docs a d)
theorem partF_len (docs : List Pap) (a : Int) (d : Pap) (L : List Tree) : (partF docs a d L).length ≤ L.length := flat_le _ (ruleF_le docs a d) L
def PartsC (w0 : World) (ct cf bm xb : Nat) (X : Array Value) (docs : List Pap) (a : Nat) (d : Pap) (pb ab kb : Nat) (t : Tree) : Prop :=
  ∀ (w : World) (v : Value) (l : List Flt), Hid (TreeAt w0 t) → Hid (LongT t) → l.length + (partsT t).length ≤ 100000 → Hid (ExS w0 ct cf bm xb X w v l) → Hid (Blk w pb 91 #[.pointer (some ⟨xb, 0, none⟩)]) → Hid (Blk w ab 3 #[.int .i64 a]) → Hid (Blk w kb 3 #[.int .i64 d.kind]) →
    Calls Tryz.prog 108 #[.agg t.cells, .func (Fn.func 109) #[] #[.pointer (some ⟨pb, 0, none⟩), .pointer (some ⟨ab, 0, none⟩), .pointer (some ⟨kb, 0, none⟩)]] w (Ted w0 ct cf bm xb X (addAll l (partF docs a d (partsT t))) w)

set_option maxRecDepth 100000 in
set_option maxHeartbeats 3200000 in
theorem parts_walk (w0 : World) (ct cf bm xb : Nat) (C : Array Value) (hC : Hid (C.size = 18)) (A : Option Addr) (nn cc : Nat) (docs : List Pap) (day : Int) (a : Nat) (d : Pap) (pb ab kb : Nat) (hd : Hid (docs[a]? = some d)) (hR : Hid (Room w0 A nn docs)) (t : Tree)
    (ih : Hid (∀ u ∈ t.sub, PartsC w0 ct cf bm xb (exX C A nn cc day ct cf) docs a d pb ab kb u)) : PartsC w0 ct cf bm xb (exX C A nn cc day ct cf) docs a d pb ab kb t := by
  intro w v l hT hL hlen hx hp ha hk
  have hp1 := Lib.hid (part1_any w0 ct cf bm xb C hC A nn cc docs day a d pb ab kb hd t hT hL hR)
  have hLs := Lib.hid (allT_sub hL.out)
  obtain ⟨k, p, f, x, n, A', c', L⟩ := t
  simp only [Tree.cells] at hp1 ⊢
  simp only [Tree.sub] at ih hLs
  obtain ⟨m, hm⟩ : ∃ m, Hid (L.length = m) := ⟨_, rfl⟩
  rw [hm.out] at hp1 ⊢
  obtain ⟨hrows, hml⟩ := rows_sub hT.out
  rw [hm.out] at hml
  unfold maxLen at hml
  have hrows' := Lib.hid hrows
  clear hrows
  have hb0 := Lib.hid ((Below.refl _ w).alloc (Nat.le_refl _) (.cells #[.int .i64 k, .int .i64 p, .string f, .string x, .int .i64 n, .slice A' m c'] 24))
  have hx0 := Lib.hid (hx.out.belows hb0.out)
  have hpb0 := Lib.hid (hp.out.below hb0.out hp.out.lt)
  have hab0 := Lib.hid (ha.out.below hb0.out ha.out.lt)
  have hkb0 := Lib.hid (hk.out.below hb0.out hk.out.lt)
  by_cases hk0 : k = 0
  · have hpt : Hid (partsT (.mk k p f x n A' c' L) = partsL L) := by unfold Hid; rw [partsT, if_pos hk0]
    rw [hpt.out] at hlen
    have hlen' := Lib.hid hlen
    clear hlen
    have b0 : (k != 0) = false := by simp [hk0]
    clear hk0
    go_enter Tryz.func108, Tryz.ntmps108
    go_wp2_with fail
    go_loopw [5, 15] (fun _ i wr => ∃ (q : Nat) (v' : Value), q ≤ m ∧ i = .int .i64 q ∧ Hid (ExS w0 ct cf bm xb (exX C A nn cc day ct cf) wr v' (addAll l (partF docs a d (partsL (L.take q))))) ∧ Hid (Tld w0.heap.size cf bm w wr) ∧ Hid (Blk wr pb 91 #[.pointer (some ⟨xb, 0, none⟩)]) ∧ Hid (Blk wr ab 3 #[.int .i64 a]) ∧ Hid (Blk wr kb 3 #[.int .i64 d.kind])) (fun _ i _ => m - (intOf i).toNat)
    case atStart => exact ⟨0, v, Nat.zero_le _, rfl, by rw [List.take_zero, partsL]; exact hx0.out, Tld.of_below hb0.out, hpb0, hab0, hkb0⟩
    case round =>
      obtain ⟨q, v', hq, rfl, hx1, hB1, hpb1, hab1, hkb1⟩ := hrel
      by_cases hlt : q < m
      · obtain ⟨t, ht⟩ : ∃ t, L[q]? = some t := ⟨_, List.getElem?_eq_getElem (by have := hm.out; omega)⟩
        have hmem := Lib.hid (List.mem_of_getElem? ht)
        have ht' := Lib.hid ht
        clear ht
        obtain ⟨hc, _⟩ := (hrows'.out.below hx1.out.below).get q t ht'.out
        have hT0 := Lib.hid (hrows'.out.get q t ht'.out).2
        have hsn := Lib.hid (partsL_snoc ht'.out)
        have hle : (addAll l (partF docs a d (partsL (L.take q)))).length + (partsT t).length ≤ 100000 := by
          have h1 := addAll_len (partF docs a d (partsL (L.take q))) l
          have h2 := partF_len docs a d (partsL (L.take q))
          have h3 := partsL_len L (q + 1)
          rw [hsn.out, List.length_append] at h3
          have := hlen'.out; omega
        have hle' := Lib.hid hle
        clear hle
        obtain ⟨tk, tp, tf, tx, tn, tA, tc, tL⟩ := t
        obtain ⟨b, off, rfl, h0, h1, h2, h3, h4, h5⟩ := hc
        rw [Nat.zero_add] at h0 h1 h2 h3 h4 h5
        go_wp2_with fail
        have hbA := Lib.hid ((Below.refl _ wr).alloc (Nat.le_refl _) (.cells #[.int .i64 tk, .int .i64 tp, .string tf, .string tx, .int .i64 tn, .slice tA tL.length tc] 24))
        refine (ih.out _ hmem.out _ v' _ hT0 (hLs.out _ hmem.out) hle'.out (hx1.out.belows hbA.out) (hpb1.out.below hbA.out hpb1.out.lt) (hab1.out.below hbA.out hab1.out.lt) (hkb1.out.below hbA.out hkb1.out.lt)).mono ?_
        rintro e w2 ⟨rfl, v2, hx2, hT2⟩
        have hxA := hx1.out.belows hbA.out
        have hpb2 := Lib.hid (hxA.keep hT2 (hpb1.out.below hbA.out hpb1.out.lt) (by decide) (by decide))
        have hab2 := Lib.hid (hxA.keep hT2 (hab1.out.below hbA.out hab1.out.lt) (by decide) (by decide))
        have hkb2 := Lib.hid (hxA.keep hT2 (hkb1.out.below hbA.out hkb1.out.lt) (by decide) (by decide))
        have hB2 := Lib.hid (hB1.out.trans ((Tld.of_below hbA.out).trans hT2))
        have hx2' : Hid (ExS w0 ct cf bm xb (exX C A nn cc day ct cf) w2 v2 (addAll l (partF docs a d (partsL (L.take (q + 1)))))) := by
          unfold Hid
          rw [hsn.out, partF, List.flatMap_append, addAll_app]; exact hx2
        clear hx2 hT2 hxA h0 h1 h2 h3 h4 h5
        go_wp2_with fail
        go_roundw
        case rel => exact ⟨q + 1, v2, by omega, by go_num, hx2', hB2, hpb2, hab2, hkb2⟩
        case measure => simp [intOf]; omega
      · obtain rfl : q = m := by omega
        rw [List.take_of_length_le (by have := hm.out; omega)] at hx1
        go_wp2_with fail
        go_end0
        exact ⟨rfl, v', by rw [hpt.out]; exact hx1.out, hB1.out⟩
  · have hpt : Hid (partsT (.mk k p f x n A' c' L) = [.mk k p f x n A' c' L]) := by unfold Hid; rw [partsT, if_neg hk0]
    rw [hpt.out] at hlen
    simp only [List.length_cons, List.length_nil] at hlen
    have b0 : (k != 0) = true := by simp [hk0]
    clear hk0
    go_enter Tryz.func108, Tryz.ntmps108
    go_wp2_with fail
    refine (hp1.out _ v l (by omega) hx0 hpb0 hab0 hkb0).mono ?_
    rintro e w2 ⟨rfl, v2, hx2, hT2⟩
    have hx2' := Lib.hid hx2
    have hT2' := Lib.hid hT2
    clear hx2 hT2
    go_wp2_with fail
    go_end0
    exact ⟨rfl, v2, by rw [hpt.out]; simpa [partF] using hx2'.out, (Tld.of_below hb0.out).trans hT2'.out⟩
theorem parts_any (w0 : World) (ct cf bm xb : Nat) (C : Array Value) (hC : Hid (C.size = 18)) (A : Option Addr) (nn cc : Nat) (docs : List Pap) (day : Int) (a : Nat) (d : Pap) (pb ab kb : Nat) (hd : Hid (docs[a]? = some d)) (hR : Hid (Room w0 A nn docs)) :
    ∀ t : Tree, PartsC w0 ct cf bm xb (exX C A nn cc day ct cf) docs a d pb ab kb t :=
  Tree.every fun t ih => parts_walk w0 ct cf bm xb C hC A nn cc docs day a d pb ab kb hd hR t ih
end Go.Proofs.YtdjmckjbibfecaaGreatDoor
namespace Go.Proofs.YtdjmckjbibfecaaGreatDoor
open Go Go.RowKit Go.BigFrame Go.Maps

/-- A credit's cells that are read. -/
structure CrdAt (C : Array Value) (c : Crd) : Prop where
  size : C.size = 18
  applicant : C[1]? = some (.string c.applicant)
  beneficiary : C[2]? = some (.string c.beneficiary)
  currency : C[7]? = some (.string c.currency)
  amount : C[8]? = some (.int .i64 c.amount)
  above : C[9]? = some (.int .i64 c.above)
  below : C[10]? = some (.int .i64 c.below)
  latest : C[11]? = some (.int .i64 c.latest)
  expiry : C[12]? = some (.int .i64 c.expiry)
  within : C[13]? = some (.int .i64 c.within)
theorem Crd.at_ (c : Crd) (v : Value) : CrdAt (c.cells v) c := ⟨rfl, rfl, rfl, rfl, rfl, rfl, rfl, rfl, rfl, rfl⟩
def tolB (n : Int) : Bool := decide (0 ≤ n ∧ n ≤ 1000)
theorem tol_any (n : Int) (w : World) : Calls Tryz.prog 222 #[.int .i64 n] w fun e w' => e = .returned (.bool (tolB n)) ∧ w = w' := by
  by_cases h0 : 0 ≤ n
  · by_cases h1 : n ≤ 1000
    · have hb : Hid (tolB n = true) := by unfold Hid tolB; simp [h0, h1]
      go_enter Tryz.func222, Tryz.ntmps222
      go_wp2_with fail
      all_goals try (exfalso; omega)
      go_ret
      exact ⟨by rw [hb.out]; first | rfl | simp [h0, h1], rfl⟩
    · have hb : Hid (tolB n = false) := by unfold Hid tolB; simp [h1]
      have h2 : decide (n ≤ 1000) = false := by simpa using h1
      go_enter Tryz.func222, Tryz.ntmps222
      go_wp2_with fail
      all_goals try (exfalso; omega)
      go_ret
      exact ⟨by rw [hb.out]; first | rfl | simp [h0, h1], rfl⟩
  · have hb : Hid (tolB n = false) := by unfold Hid tolB; simp [h0]
    have h2 : decide (0 ≤ n) = false := by simpa using h0
    go_enter Tryz.func222, Tryz.ntmps222
    go_wp2_with fail
    all_goals try (exfalso; omega)
    go_ret
    exact ⟨by rw [hb.out]; first | rfl | simp [h0], rfl⟩
theorem bounds_eq (c : Crd) : boundsB c = (decide (1 ≤ c.amount) && decide (c.amount ≤ 1099511627776) && tolB c.above && tolB c.below && decide (0 ≤ c.expiry) && decide (c.expiry ≤ 1048576)) := by
  unfold boundsB tolB
  rw [Bool.eq_iff_iff]
  simp only [Bool.and_eq_true, decide_eq_true_eq]
  constructor
  · rintro ⟨a, b, c, d, e, f, g, h⟩; exact ⟨⟨⟨⟨⟨a, b⟩, c, d⟩, e, f⟩, g⟩, h⟩
  · rintro ⟨⟨⟨⟨⟨a, b⟩, c, d⟩, e, f⟩, g⟩, h⟩; exact ⟨a, b, c, d, e, f, g, h⟩

set_option maxRecDepth 100000 in
set_option maxHeartbeats 1600000 in
theorem bounded_any (C : Array Value) (c : Crd) (hC : Hid (CrdAt C c)) (w : World) :
    Calls Tryz.prog 197 #[.agg C] w fun e w' => e = .returned (.bool (boundsB c)) ∧ Below w.heap.size w w' := by
  have hb0 := Lib.hid ((Below.refl _ w).alloc (Nat.le_refl _) (.cells C 46))
  have hbk := Blk.new w 46 C
  have c8 : (w.alloc (.cells C 46)).cell? ⟨w.heap.size, 8, none⟩ = some (.int .i64 c.amount) := (hbk.cell 8).trans hC.out.amount
  have c9 : (w.alloc (.cells C 46)).cell? ⟨w.heap.size, 9, none⟩ = some (.int .i64 c.above) := (hbk.cell 9).trans hC.out.above
  have c10 : (w.alloc (.cells C 46)).cell? ⟨w.heap.size, 10, none⟩ = some (.int .i64 c.below) := (hbk.cell 10).trans hC.out.below
  have c12 : (w.alloc (.cells C 46)).cell? ⟨w.heap.size, 12, none⟩ = some (.int .i64 c.expiry) := (hbk.cell 12).trans hC.out.expiry
  clear hbk
  have hbd := Lib.hid (bounds_eq c)

  cases e1 : decide (1 ≤ c.amount)
  · go_enter Tryz.func197, Tryz.ntmps197
    go_wp2_with (go_at_call 222; refine (tol_any _ _).mono ?_; rintro e w1 ⟨rfl, rfl⟩)
    go_ret
    exact ⟨retBl (by rw [hbd.out]; simp [e1]), hb0.out⟩
  cases e2 : decide (c.amount ≤ 1099511627776)
  · go_enter Tryz.func197, Tryz.ntmps197
    go_wp2_with (go_at_call 222; refine (tol_any _ _).mono ?_; rintro e w1 ⟨rfl, rfl⟩)
    go_ret
    exact ⟨retBl (by rw [hbd.out]; simp [e1, e2]), hb0.out⟩
  cases e3 : tolB c.above
  · go_enter Tryz.func197, Tryz.ntmps197
    go_wp2_with (go_at_call 222; refine (tol_any _ _).mono ?_; rintro e w1 ⟨rfl, rfl⟩)
    go_ret
    exact ⟨retBl (by rw [hbd.out]; simp [e1, e2, e3]), hb0.out⟩
  cases e4 : tolB c.below
  · go_enter Tryz.func197, Tryz.ntmps197
    go_wp2_with (go_at_call 222; refine (tol_any _ _).mono ?_; rintro e w1 ⟨rfl, rfl⟩)
    go_ret
    exact ⟨retBl (by rw [hbd.out]; simp [e1, e2, e3, e4]), hb0.out⟩
  cases e5 : decide (0 ≤ c.expiry)
  · go_enter Tryz.func197, Tryz.ntmps197
    go_wp2_with (go_at_call 222; refine (tol_any _ _).mono ?_; rintro e w1 ⟨rfl, rfl⟩)
    go_ret
    exact ⟨retBl (by rw [hbd.out]; simp [e1, e2, e3, e4, e5]), hb0.out⟩
  cases e6 : decide (c.expiry ≤ 1048576)
  · go_enter Tryz.func197, Tryz.ntmps197
    go_wp2_with (go_at_call 222; refine (tol_any _ _).mono ?_; rintro e w1 ⟨rfl, rfl⟩)
    go_ret
    exact ⟨retBl (by rw [hbd.out]; simp [e1, e2, e3, e4, e5, e6]), hb0.out⟩
  go_enter Tryz.func197, Tryz.ntmps197
  go_wp2_with (go_at_call 222; refine (tol_any _ _).mono ?_; rintro e w1 ⟨rfl, rfl⟩)
  go_ret
  exact ⟨retBl (by rw [hbd.out]; simp [e1, e2, e3, e4, e5, e6]), hb0.out⟩

set_option maxRecDepth 100000 in
set_option maxHeartbeats 1600000 in
theorem most_any (C : Array Value) (c : Crd) (hC : Hid (CrdAt C c)) (hb : boundsB c = true) (w : World) :
    Calls Tryz.prog 198 #[.agg C] w fun e w' => e = .returned (.int .i64 (mostC c)) ∧ Below w.heap.size w w' := by
  have hb0 := Lib.hid ((Below.refl _ w).alloc (Nat.le_refl _) (.cells C 46))
  have hbk := Blk.new w 46 C
  have hb := of_decide_eq_true hb
  have c8 : (w.alloc (.cells C 46)).cell? ⟨w.heap.size, 8, none⟩ = some (.int .i64 c.amount) := (hbk.cell 8).trans hC.out.amount
  have c9 : (w.alloc (.cells C 46)).cell? ⟨w.heap.size, 9, none⟩ = some (.int .i64 c.above) := (hbk.cell 9).trans hC.out.above
  clear hbk
  obtain ⟨x1, hx1⟩ : ∃ x, Hid (c.amount = x) := ⟨_, rfl⟩
  obtain ⟨x2, hx2⟩ : ∃ x, Hid (c.above = x) := ⟨_, rfl⟩
  rw [hx1.out] at c8 hb
  rw [hx2.out] at c9 hb
  obtain ⟨h1, h2, h3, h4, _⟩ := hb
  have hp0 : 0 ≤ x1 * (1000 + x2) := Int.mul_nonneg (by omega) (by omega)
  have hp1 : x1 * (1000 + x2) ≤ 1099511627776 * 2000 := Int.mul_le_mul (by omega) (by omega) (by omega) (by omega)
  have hm : Hid (mostC c = x1 * (1000 + x2) / 1000) := by unfold Hid mostC; rw [hx1.out, hx2.out]
  go_enter Tryz.func198, Tryz.ntmps198
  go_wp2_with fail
  go_ret
  exact ⟨by rw [hm.out]; first | done | rfl, hb0.out⟩
set_option maxRecDepth 100000 in
set_option maxHeartbeats 1600000 in
theorem least_any (C : Array Value) (c : Crd) (hC : Hid (CrdAt C c)) (hb : boundsB c = true) (w : World) :
    Calls Tryz.prog 199 #[.agg C] w fun e w' => e = .returned (.int .i64 (leastY c)) ∧ Below w.heap.size w w' := by
  have hb0 := Lib.hid ((Below.refl _ w).alloc (Nat.le_refl _) (.cells C 46))
  have hbk := Blk.new w 46 C
  have hb := of_decide_eq_true hb
  have c8 : (w.alloc (.cells C 46)).cell? ⟨w.heap.size, 8, none⟩ = some (.int .i64 c.amount) := (hbk.cell 8).trans hC.out.amount
  have c9 : (w.alloc (.cells C 46)).cell? ⟨w.heap.size, 10, none⟩ = some (.int .i64 c.below) := (hbk.cell 10).trans hC.out.below
  clear hbk
  obtain ⟨x1, hx1⟩ : ∃ x, Hid (c.amount = x) := ⟨_, rfl⟩
  obtain ⟨x2, hx2⟩ : ∃ x, Hid (c.below = x) := ⟨_, rfl⟩
  rw [hx1.out] at c8 hb
  rw [hx2.out] at c9 hb
  obtain ⟨h1, h2, _, _, h3, h4, _⟩ := hb
  have hp0 : 0 ≤ x1 * (1000 - x2) := Int.mul_nonneg (by omega) (by omega)
  have hp1 : x1 * (1000 - x2) ≤ 1099511627776 * 2000 := Int.mul_le_mul (by omega) (by omega) (by omega) (by omega)
  have hm : Hid (leastY c = (x1 * (1000 - x2) + 1000 - 1) / 1000) := by unfold Hid leastY; rw [hx1.out, hx2.out]; congr 1; omega
  go_enter Tryz.func199, Tryz.ntmps199
  go_wp2_with fail
  go_ret
  exact ⟨by rw [hm.out]; first | done | rfl, hb0.out⟩

/-- What Most hands back. -/
def most2 (c : Crd) : Value := .tuple #[.int .i64 (if boundsB c then mostC c else 0), .int .i64 (if boundsB c then 0 else 1)]
set_option maxRecDepth 100000 in
set_option maxHeartbeats 1600000 in
theorem Most_any (C : Array Value) (c : Crd) (hC : Hid (CrdAt C c)) (w : World) :
    Calls Tryz.prog 162 #[.agg C] w fun e w' => e = .returned (most2 c) ∧ Below w.heap.size w w' := by
  have hb0 := Lib.hid ((Below.refl _ w).alloc (Nat.le_refl _) (.cells C 46))
  have hbk := Lib.hid (Blk.new w 46 C)
  have hsz : Hid ((Tryz.prog.info? 46).map (·.size) = some C.size) := by unfold Hid; rw [hC.out.size]; kernel_rfl
  go_enter Tryz.func162, Tryz.ntmps162
  go_wp2_with (refine wpList_load_blk rfl 46 (.tmp 1) rfl w.heap.size C 46 _ rfl hbk.out Tryz.underlying46 rfl hsz.out ?_)
  refine (bounded_any C c hC _).mono ?_
  rintro e w1 ⟨rfl, hb1⟩
  have hB1 := Lib.hid (hb0.out.trans (hb1.mono (by simp)))
  have hbk1 := Lib.hid (hbk.out.below hb1 hbk.out.lt)
  clear hb1
  cases hbd : boundsB c
  · have e2 : Hid (most2 c = .tuple #[.int .i64 0, .int .i64 1]) := by unfold Hid most2; rw [hbd]; rfl
    clear hbd
    go_wp2_with fail
    go_ret2
    exact ⟨by rw [e2.out]; first | done | rfl, hB1.out⟩
  · have e2 : Hid (most2 c = .tuple #[.int .i64 (mostC c), .int .i64 0]) := by unfold Hid most2; rw [hbd]; rfl
    have hbd' := Lib.hid hbd
    clear hbd
    go_wp2_with (refine wpList_load_blk rfl 46 (.tmp 1) rfl w.heap.size C 46 _ rfl hbk1.out Tryz.underlying46 rfl hsz.out ?_)
    refine (most_any C c hC hbd'.out _).mono ?_
    rintro e w2 ⟨rfl, hb2⟩
    have hB2 := Lib.hid (hB1.out.trans (hb2.mono hB1.out.size))
    clear hb2
    go_wp2_with fail
    go_ret2
    exact ⟨by rw [e2.out]; first | done | rfl, hB2.out⟩

/-- What Least hands back. -/
def least2 (c : Crd) : Value := .tuple #[.int .i64 (if boundsB c then leastY c else 0), .int .i64 (if boundsB c then 0 else 1)]
set_option maxRecDepth 100000 in
set_option maxHeartbeats 1600000 in
theorem Least_any (C : Array Value) (c : Crd) (hC : Hid (CrdAt C c)) (w : World) :
    Calls Tryz.prog 163 #[.agg C] w fun e w' => e = .returned (least2 c) ∧ Below w.heap.size w w' := by
  have hb0 := Lib.hid ((Below.refl _ w).alloc (Nat.le_refl _) (.cells C 46))
  have hbk := Lib.hid (Blk.new w 46 C)
  have hsz : Hid ((Tryz.prog.info? 46).map (·.size) = some C.size) := by unfold Hid; rw [hC.out.size]; kernel_rfl
  go_enter Tryz.func163, Tryz.ntmps163
  go_wp2_with (refine wpList_load_blk rfl 46 (.tmp 1) rfl w.heap.size C 46 _ rfl hbk.out Tryz.underlying46 rfl hsz.out ?_)
  refine (bounded_any C c hC _).mono ?_
  rintro e w1 ⟨rfl, hb1⟩
  have hB1 := Lib.hid (hb0.out.trans (hb1.mono (by simp)))
  have hbk1 := Lib.hid (hbk.out.below hb1 hbk.out.lt)
  clear hb1
  cases hbd : boundsB c
  · have e2 : Hid (least2 c = .tuple #[.int .i64 0, .int .i64 1]) := by unfold Hid least2; rw [hbd]; rfl
    clear hbd
    go_wp2_with fail
    go_ret2
    exact ⟨by rw [e2.out]; first | done | rfl, hB1.out⟩
  · have e2 : Hid (least2 c = .tuple #[.int .i64 (leastY c), .int .i64 0]) := by unfold Hid least2; rw [hbd]; rfl
    have hbd' := Lib.hid hbd
    clear hbd
    go_wp2_with (refine wpList_load_blk rfl 46 (.tmp 1) rfl w.heap.size C 46 _ rfl hbk1.out Tryz.underlying46 rfl hsz.out ?_)
    refine (least_any C c hC hbd'.out _).mono ?_
    rintro e w2 ⟨rfl, hb2⟩
    have hB2 := Lib.hid (hB1.out.trans (hb2.mono hB1.out.size))
    clear hb2
    go_wp2_with fail
    go_ret2
    exact ⟨by rw [e2.out]; first | done | rfl, hB2.out⟩

def behindB (day n days : Int) : Bool := decide (n + days < day)
set_option maxHeartbeats 800000 in
theorem behind_any (day n days : Int) (w : World) (hd : -9223372036854775808 ≤ day ∧ day ≤ 9223372036854775807) (hn : -9223372036854775808 ≤ n ∧ n ≤ 9223372036854775807) (hs : -9223372036854775808 ≤ days ∧ days ≤ 9223372036854775807) :
    Calls Tryz.prog 165 #[.int .i64 day, .int .i64 n, .int .i64 days] w fun e w' => e = .returned (.bool (behindB day n days)) ∧ w = w' := by
  obtain ⟨hd0, hd1⟩ := hd
  obtain ⟨hn0, hn1⟩ := hn
  obtain ⟨hs0, hs1⟩ := hs
  by_cases h0 : 0 < days
  · by_cases h1 : 9223372036854775807 - days < n
    · have hb : Hid (behindB day n days = false) := by unfold Hid behindB; simp; omega
      go_enter Tryz.func165, Tryz.ntmps165
      go_wp2_with fail
      all_goals try (exfalso; omega)
      go_ret
      exact ⟨by rw [hb.out]; first | done | rfl, rfl⟩
    · have hb : Hid (behindB day n days = decide (n + days < day)) := rfl
      have h2 : ¬ days < 0 := by omega
      have h3 : n + days ≤ 9223372036854775807 := by omega
      have h4 : -9223372036854775808 ≤ n + days := by omega
      go_enter Tryz.func165, Tryz.ntmps165
      go_wp2_with fail
      all_goals try (exfalso; omega)
      go_ret
      exact ⟨by rw [hb.out]; first | done | rfl, rfl⟩
  · by_cases h2 : days < 0
    · by_cases h1 : n < -9223372036854775808 - days
      · have hb : Hid (behindB day n days = true) := by unfold Hid behindB; simp; omega
        go_enter Tryz.func165, Tryz.ntmps165
        go_wp2_with fail
        all_goals try (exfalso; omega)
        go_ret
        exact ⟨by rw [hb.out]; first | done | rfl, rfl⟩
      · have hb : Hid (behindB day n days = decide (n + days < day)) := rfl
        have h3 : n + days ≤ 9223372036854775807 := by omega
        have h4 : -9223372036854775808 ≤ n + days := by omega
        go_enter Tryz.func165, Tryz.ntmps165
        go_wp2_with fail
        all_goals try (exfalso; omega)
        go_ret
        exact ⟨by rw [hb.out]; first | done | rfl, rfl⟩
    · have hb : Hid (behindB day n days = decide (n + days < day)) := rfl
      have h3 : n + days ≤ 9223372036854775807 := by omega
      have h4 : -9223372036854775808 ≤ n + days := by omega
      go_enter Tryz.func165, Tryz.ntmps165
      go_wp2_with fail
      all_goals try (exfalso; omega)
      go_ret
      exact ⟨by rw [hb.out]; first | done | rfl, rfl⟩
theorem is_any (t v : ByteArray) (g : Nat) (w : World) (h : w.cell? ⟨g, 0, none⟩ = some (.string t)) :
    Calls Tryz.prog 159 #[.string v, .pointer (some ⟨g, 0, none⟩)] w fun e w' => e = .returned (.int .i64 (isW t v)) ∧ Below w.heap.size w w' := by
  by_cases hq : v.toList = t.toList
  · have hw : Hid (isW t v = 0) := by unfold Hid isW; rw [if_pos hq]
    have hq1 : (v.toList == t.toList) = true := by simp [hq]
    clear hq
    go_enter Tryz.func159, Tryz.ntmps159
    go_wp2_with fail
    go_ret
    exact ⟨by rw [hw.out]; first | done | rfl, Below.refl _ _⟩
  · have hw : Hid (isW t v = 3) := by unfold Hid isW; rw [if_neg hq]
    have hq1 : (v.toList == t.toList) = false := by simp [hq]
    clear hq
    go_enter Tryz.func159, Tryz.ntmps159
    go_wp2_with fail
    go_ret
    exact ⟨by rw [hw.out]; first | done | rfl, Below.refl _ _⟩
theorem mkIs_any (t : ByteArray) (w : World) : Calls Tryz.prog 158 #[.string t] w fun e w' => e = .returned (.func (Fn.func 159) #[] #[.pointer (some ⟨w.heap.size, 0, none⟩)]) ∧ w' = w.alloc (.cells #[.string t] 9) := by
  go_enter Tryz.func158, Tryz.ntmps158
  go_wp2_with fail
  go_ret
  exact ⟨rfl, rfl⟩
end Go.Proofs.YtdjmckjbibfecaaGreatDoor

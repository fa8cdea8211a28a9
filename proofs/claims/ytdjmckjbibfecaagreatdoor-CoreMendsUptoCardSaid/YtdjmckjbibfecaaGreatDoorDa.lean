/- Faults waived, walked: core.Waive; the document's in and Waive. -/
import Derived.Test.YtdjmckjbibfecaaGreatDoorEc
import Derived.Test.YtdjmckjbibfecaaGreatDoorFb
import Derived.Test.YtdjmckjbibfecaaGreatDoorWa
namespace Go.Proofs.YtdjmckjbibfecaaGreatDoor
open Go Go.RowKit Go.BigFrame Go.Maps

def tcells (l : List Tree) : List Value := l.flatMap fun t => t.cells.toList
theorem Tree.cells_len (t : Tree) : t.cells.toList.length = 6 := by obtain ⟨a, b, d, e, f, g, h, i⟩ := t; simp [Tree.cells]
theorem tcells_app (l m : List Tree) : tcells (l ++ m) = tcells l ++ tcells m := by simp [tcells]
theorem tcells_one (l : List Tree) : ∀ u ∈ tcells l, u.oneCell' = true := by
  intro u hu
  obtain ⟨x, _, hx⟩ := List.mem_flatMap.1 hu
  obtain ⟨a, b, d, e, f, g, h, i⟩ := x
  simp [Tree.cells] at hx
  rcases hx with rfl | rfl | rfl | rfl | rfl | rfl <;> rfl
theorem tcells_get : ∀ (l : List Tree) (k : Nat) (x : Tree), l[k]? = some x → ∀ i, i < 6 → (tcells l)[k * 6 + i]? = x.cells.toList[i]?
  | [], k, x, h, i, hi => by simp at h
  | y :: l, 0, x, h, i, hi => by
    simp only [List.getElem?_cons_zero, Option.some.injEq] at h; subst h
    show (y.cells.toList ++ tcells l)[0 * 6 + i]? = _
    rw [Nat.zero_mul, Nat.zero_add, List.getElem?_append_left (by rw [Tree.cells_len]; exact hi)]
  | y :: l, k + 1, x, h, i, hi => by
    have ih := tcells_get l k x (by simpa using h) i hi
    show (y.cells.toList ++ tcells l)[(k + 1) * 6 + i]? = _
    rw [List.getElem?_append_right (by rw [Tree.cells_len]; omega), Tree.cells_len, show (k + 1) * 6 + i - 6 = k * 6 + i by omega]
    exact ih
theorem partsL_app : ∀ (L M : List Tree), partsL (L ++ M) = partsL L ++ partsL M
  | [], M => by rw [partsL]; rfl
  | t :: L, M => by show partsL (t :: (L ++ M)) = _; rw [partsL, partsL, partsL_app L M, List.append_assoc]
theorem partsL_step {L : List Tree} {q : Nat} {t : Tree} (ht : L[q]? = some t) : partsL (L.take (q + 1)) = partsL (L.take q) ++ partsT t := by
  rw [List.take_add_one, ht, partsL_app]
  refine congrArg _ ?_
  show partsL [t] = _
  rw [partsL, partsL, List.append_nil]
theorem rpartsL_len {L : List Tree} {q : Nat} {t : Tree} (ht : L[q]? = some t) : (partsL (L.take q)).length + (partsT t).length ≤ (partsL L).length := by
  have h := partsL_app (L.take (q + 1)) (L.drop (q + 1))
  rw [List.take_append_drop, partsL_step ht] at h
  rw [h, List.length_append, List.length_append]; omega

theorem own_trees {w : World} {base n : Nat} {v : Value} {l : List Tree} (h : w.ownsRow base 24 6 v n (tcells l)) (hl : l.length = n) : ∃ A c, v = .slice A n c ∧ ∀ r t, l[r]? = some t → CellsAt w A r t := by
  rcases h.2 with ⟨rfl, rfl⟩ | ⟨g, cap, cur, rfl, _⟩
  · have : l = [] := List.eq_nil_of_length_eq_zero hl
    subst this
    exact ⟨_, _, rfl, by intro k x hk; simp at hk⟩
  · refine ⟨_, _, rfl, fun r t ht => ?_⟩
    have hc : ∀ i, i < 6 → ∀ u, t.cells.toList[i]? = some u → w.cell? ⟨g, 0 + r * 6 + i, none⟩ = some u := fun i hi u hu => by
      have := h.cells (g := g) rfl (r * 6 + i) u (by rw [tcells_get l r t ht i hi]; exact hu)
      rwa [show Addr.add ⟨g, 0, none⟩ (r * 6 + i) = ⟨g, 0 + r * 6 + i, none⟩ by unfold Addr.add; split <;> simp_all] at this
    obtain ⟨tk, tp, tf, tx, tn, tA, tc, tL⟩ := t
    exact ⟨g, 0, rfl, hc 0 (by omega) _ rfl, hc 1 (by omega) _ rfl, hc 2 (by omega) _ rfl, hc 3 (by omega) _ rfl, hc 4 (by omega) _ rfl, hc 5 (by omega) _ rfl⟩
/-- What Parts hands back. -/
def RPartsC (t : Tree) : Prop := ∀ w : World, Hid (TreeAt w t) → Hid ((partsT t).length ≤ 1000) →
  Calls Tryz.prog 118 #[.agg t.cells] w fun e w' => ∃ v, e = .returned v ∧ Below w.heap.size w w' ∧ w'.ownsRow w.heap.size 24 6 v (partsT t).length (tcells (partsT t))

set_option maxRecDepth 100000 in
set_option maxHeartbeats 3200000 in
theorem rparts_walk (t : Tree) (ih : Hid (∀ u ∈ t.sub, RPartsC u)) : RPartsC t := by
  intro w hT hP
  obtain ⟨i0, hi, hz0, hz1, hz2⟩ := info_parts Tryz.info24
  obtain ⟨k, p, f, x, n, A', c', L⟩ := t
  simp only [Tree.sub] at ih
  obtain ⟨m, hm⟩ : ∃ m, Hid (L.length = m) := ⟨_, rfl⟩
  have hrows := Lib.hid (rows_sub hT.out).1
  have hml : m ≤ 9223372036854775807 := by have := (rows_sub hT.out).2; rw [hm.out] at this; unfold maxLen at this; exact this
  have hb0 := Lib.hid ((Below.refl _ w).alloc (Nat.le_refl _) (.cells #[.int .i64 k, .int .i64 p, .string f, .string x, .int .i64 n, .slice A' m c'] 24))
  have hblk := Lib.hid (Blk.new w 24 #[.int .i64 k, .int .i64 p, .string f, .string x, .int .i64 n, .slice A' m c'])
  by_cases hk : k = 0
  · have hz : Hid (partsT (.mk k p f x n A' c' L) = partsL L) := by unfold Hid; rw [partsT, if_pos hk]
    rw [hz.out] at hP ⊢
    subst hk
    simp only [Tree.cells]
    rw [hm.out]
    obtain ⟨w0, hw0⟩ : ∃ w0 : World, Hid (w.alloc (.cells #[.int .i64 0, .int .i64 p, .string f, .string x, .int .i64 n, .slice A' m c'] 24) = w0) := ⟨_, rfl⟩
    have hs0 : w0.heap.size = w.heap.size + 1 := by rw [← hw0.out, World.size_alloc]
    rw [hw0.out] at hb0 hblk
    go_enter Tryz.func118, Tryz.ntmps118
    go_wp2_with fail
    rw [hw0.out]
    have hnew := Lib.hid (own_new w0 24 6)
    go_loopw [3, 4] (fun v j wr => ∃ q : Nat, q ≤ m ∧ j = .int .i64 q ∧ Hid (wr.ownsRow (w.heap.size + 1) 24 6 v (partsL (L.take q)).length (tcells (partsL (L.take q)))) ∧ Hid (Below (w.heap.size + 1) w0 wr)) (fun _ j _ => m - (intOf j).toNat)
    case atStart => exact ⟨0, Nat.zero_le _, rfl, by unfold Hid; have := hnew.out; rw [hs0] at this; simpa [partsL, tcells] using this, (Below.refl _ w0).alloc (by omega) _⟩
    case round =>
      obtain ⟨q, hq, rfl, hown, hB⟩ := hrel
      have hbk := Lib.hid (hblk.out.below hB.out (by omega))
      have e5 := hbk.out.cell 5
      simp only [List.getElem?_toArray, List.getElem?_cons_zero, List.getElem?_cons_succ] at e5
      have hBw : Hid (Below w.heap.size w wr) := hb0.out.trans (hB.out.mono (by omega))
      by_cases hlt : q < m
      · obtain ⟨t, ht⟩ : ∃ x, L[q]? = some x := ⟨_, List.getElem?_eq_getElem (by have := hm.out; omega)⟩
        have hmem := Lib.hid (List.mem_of_getElem? ht)
        have hst := Lib.hid (partsL_step ht)
        have hle := Lib.hid (rpartsL_len ht)
        obtain ⟨hc, hT1⟩ := (hrows.out.below hBw.out).get q t ht
        have hT' := Lib.hid hT1
        clear ht hT1
        have hcl := Lib.hid (ih.out _ hmem.out wr hT'.out (by have := hle.out; have := hP.out; unfold Hid; omega))
        obtain ⟨pt, hpt⟩ : ∃ pt, Hid (partsT t = pt) := ⟨_, rfl⟩
        rw [hpt.out] at hst hle hcl
        obtain ⟨pl, hpl⟩ : ∃ pl, Hid (partsL (L.take q) = pl) := ⟨_, rfl⟩
        rw [hpl.out] at hst hle hown
        obtain ⟨tk, tp, tf, tx, tn, tA, tc, tL⟩ := t
        obtain ⟨b, off, rfl, h0, h1, h2, h3, h4, h5⟩ := hc
        rw [Nat.zero_add] at h0 h1 h2 h3 h4 h5
        go_wp2_with fail
        refine hcl.out.mono ?_
        rintro e w1 ⟨v1, rfl, hb2, ho1⟩
        obtain ⟨A1, c1, rfl⟩ := own_slice ho1
        have hr1 := Lib.hid (Reads.of_own ho1)
        have hB1 : Hid (Below (w.heap.size + 1) w0 w1) := hB.out.trans (hb2.mono (by have := hB.out.size; omega))
        have hown1 := Lib.hid (own_below hown.out hb2)
        have hone := Lib.hid (tcells_one pt)
        have h63 : Hid (pl.length + pt.length ≤ maxLen) := by have := hle.out; have := hP.out; unfold Hid maxLen; omega
        have hby : Hid ((pl.length + pt.length) * 80 ≤ 140737488355328) := by have := hle.out; have := hP.out; unfold Hid; omega
        have hgb : Hid (w.heap.size + 1 ≤ w1.heap.size) := by have := hB1.out.size; unfold Hid; omega
        clear hb2 e5 h0 h1 h2 h3 h4 h5
        go_wp2_with (at_builtin; (refine wpList_append_any _ rfl (.tmp 18) (.tmp 24) 22 rfl (w.heap.size + 1) 24 i0 _ 6 80 Tryz.underlying22 hi hz0 hz1 hz2 rfl (by decide) _ pl.length (tcells pl) rfl hown1.out w1.heap.size A1 pt.length c1 (tcells pt) rfl hr1.out hone.out h63.out hby.out hgb.out ?_); intro v4 w4 ho4 hg4 hv4; have ho4' := Lib.hid ho4; have hB4 : Hid (Below (w.heap.size + 1) w0 w4) := (hB1.out.grown hg4 hgb.out (fun k hk => (hown1.out.lt k hk).1)); clear ho4 hg4 hv4)
        go_roundw
        case rel => exact ⟨q + 1, by omega, by go_num, by rw [hst.out, tcells_app, List.length_append]; exact ho4', hB4⟩
        case measure => simp [intOf]; omega
      · have hfin : Hid (L.take q = L) := List.take_of_length_le (by have := hm.out; omega)
        go_wp2_with fail
        go_ret
        refine ⟨_, rfl, hBw.out, ?_⟩
        have := hown.out
        rw [hfin.out] at this
        exact own_mono_base this (by omega)
  · have hz : Hid (partsT (.mk k p f x n A' c' L) = [.mk k p f x n A' c' L]) := by unfold Hid; rw [partsT, if_neg hk]
    rw [hz.out]
    have hlit := Lib.hid (World.ownsRow_lit (w.alloc (.cells #[.int .i64 k, .int .i64 p, .string f, .string x, .int .i64 n, .slice A' m c'] 24)) #[.int .i64 k, .int .i64 p, .string f, .string x, .int .i64 n, .slice A' m c'] 1 (base := w.heap.size) (e := 24) (size := 6) (by simp) (by unfold maxLen; omega) rfl)
    have hB1 := Lib.hid (hb0.out.alloc (by simp) (.cells #[.int .i64 k, .int .i64 p, .string f, .string x, .int .i64 n, .slice A' m c'] 24))
    simp only [Tree.cells]
    rw [hm.out]
    go_enter Tryz.func118, Tryz.ntmps118
    go_wp2_with fail
    go_ret
    refine ⟨_, rfl, hB1.out, ?_⟩
    have := hlit.out
    simpa [tcells, Tree.cells, hm.out] using this
theorem rparts_any : ∀ t : Tree, RPartsC t := Tree.every fun t ih => rparts_walk t ih

theorem asked_step {needs : List Nd} {q : Nat} {x : Nd} {k : Int} {r : Bool} (h : r = askedB (needs.drop q) k) (hx : needs[q]? = some x) : r = (decide (x.kind = k) || askedB (needs.drop (q + 1)) k) := by
  obtain ⟨hq, he⟩ := List.getElem?_eq_some_iff.1 hx
  rw [h, List.drop_eq_getElem_cons hq, he]; simp [askedB]
set_option maxRecDepth 100000 in
set_option maxHeartbeats 1600000 in
theorem asked_any (C : Array Value) (nA : Option Addr) (nl nc : Nat) (needs : List Nd) (k : Int) (w : World) (hC17 : Hid (C[17]? = some (.slice nA nl nc))) (hnl : Hid (needs.length = nl)) (hml : nl ≤ maxLen) (hN : Hid (NdsAt w nA needs)) :
    Calls Tryz.prog 112 #[.agg C, .int .i64 k] w fun e w' => e = .returned (.bool (askedB needs k)) ∧ Below w.heap.size w w' := by
  unfold maxLen at hml
  have hb0 := Lib.hid ((Below.refl _ w).alloc (Nat.le_refl _) (.cells C 46))
  have hbk := Lib.hid (Blk.new w 46 C)
  have c17 : (w.alloc (.cells C 46)).cell? ⟨w.heap.size, 17, none⟩ = some (.slice nA nl nc) := (hbk.out.cell 17).trans hC17.out
  have hN0 := Lib.hid (hN.out.below hb0.out)
  go_enter Tryz.func112, Tryz.ntmps112
  go_wp2_with fail
  go_loopw [5] (fun i wr => ∃ q : Nat, q ≤ nl ∧ i = .int .i64 q ∧ (w.alloc (.cells C 46)) = wr ∧ Hid (askedB needs k = askedB (needs.drop q) k)) (fun i _ => nl - (intOf i).toNat)
  case atStart => exact ⟨0, Nat.zero_le _, rfl, rfl, rfl⟩
  case round =>
    obtain ⟨q, hq, rfl, rfl, hs⟩ := hrel
    by_cases hlt : q < nl
    · obtain ⟨x, hx⟩ : ∃ x, needs[q]? = some x := ⟨_, List.getElem?_eq_getElem (by have := hnl.out; omega)⟩
      have hst := Lib.hid (asked_step hs.out hx)
      obtain ⟨_, _, _, b, off, rfl, h0, _, _⟩ := hN0.out q x hx
      clear hx
      by_cases hk : x.kind = k
      · have hb : (x.kind == k) = true := by simp [hk]
        have hr : Hid (askedB needs k = true) := by unfold Hid; rw [hst.out]; simp [hk]
        clear hk
        go_wp2_with fail
        go_ret
        exact ⟨by rw [hr.out]; first | done | rfl, hb0.out⟩
      · have hb : (x.kind == k) = false := by simp [hk]
        have hr : Hid (askedB needs k = askedB (needs.drop (q + 1)) k) := by unfold Hid; rw [hst.out]; simp [hk]
        clear hk
        go_wp2_with fail
        go_roundw
        case rel => exact ⟨q + 1, by omega, by go_num, trivial, hr⟩
        case measure => simp [intOf]; omega
    · have hr : Hid (askedB needs k = false) := by unfold Hid; rw [hs.out, List.drop_eq_nil_of_le (by have := hnl.out; omega)]; rfl
      go_wp2_with fail
      go_ret
      exact ⟨by rw [hr.out]; first | done | rfl, hb0.out⟩
end Go.Proofs.YtdjmckjbibfecaaGreatDoor
namespace Go.Proofs.YtdjmckjbibfecaaGreatDoor
open Go Go.RowKit Go.BigFrame Go.Maps

mutual
theorem parts_tree {w : World} : ∀ t : Tree, TreeAt w t → ∀ u ∈ partsT t, TreeAt w u
  | .mk k p f x n A c L, h, u, hu => by
    rw [partsT] at hu
    split at hu
    · rw [TreeAt] at h
      exact partsL_tree L A 0 h.1 u hu
    · obtain rfl := List.mem_singleton.1 hu
      exact h
theorem partsL_tree {w : World} : ∀ (L : List Tree) (A : Option Addr) (j : Nat), RowsAt w A j L → ∀ u ∈ partsL L, TreeAt w u
  | [], _, _, _, u, hu => by rw [partsL] at hu; simp at hu
  | t :: L, A, j, h, u, hu => by
    rw [RowsAt] at h
    rw [partsL, List.mem_append] at hu
    rcases hu with hu | hu
    · exact parts_tree t h.2.1 u hu
    · exact partsL_tree L A (j + 1) h.2.2 u hu
end
mutual
theorem parts_all {Q : Tree → Prop} : ∀ t : Tree, allT Q t → ∀ u ∈ partsT t, allT Q u
  | .mk k p f x n A c L, h, u, hu => by
    rw [partsT] at hu
    split at hu
    · rw [allT] at h
      exact partsL_all L h.2 u hu
    · obtain rfl := List.mem_singleton.1 hu
      exact h
theorem partsL_all {Q : Tree → Prop} : ∀ L : List Tree, allL Q L → ∀ u ∈ partsL L, allT Q u
  | [], _, u, hu => by rw [partsL] at hu; simp at hu
  | t :: L, h, u, hu => by
    rw [allL] at h
    rw [partsL, List.mem_append] at hu
    rcases hu with hu | hu
    · exact parts_all t h.1 u hu
    · exact partsL_all L h.2 u hu
end
theorem parts_small {t : Tree} (h : SmallT t) : ∀ u ∈ partsT t, SmallT u := parts_all t h
theorem flat_take {α β : Type} (f : α → List β) {l : List α} {q : Nat} {x : α} (h : l[q]? = some x) : (l.take (q + 1)).flatMap f = (l.take q).flatMap f ++ f x := by
  rw [List.take_add_one, h, List.flatMap_append]; simp
end Go.Proofs.YtdjmckjbibfecaaGreatDoor
namespace Go.Proofs.YtdjmckjbibfecaaGreatDoor
open Go

/-- The faults that aren't waived. -/
def waiveM (l w : List Flt) : List Flt := l.filter fun x => !anyB w x
theorem waive_snoc {l w : List Flt} {k : Nat} {x : Flt} (hk : l[k]? = some x) : waiveM (l.take (k + 1)) w = waiveM (l.take k) w ++ (if anyB w x then [] else [x]) := by
  obtain ⟨hl, e⟩ := List.getElem?_eq_some_iff.1 hk
  unfold waiveM
  rw [List.take_succ_eq_append_getElem hl, e, List.filter_append]
  congr 1
  cases h : anyB w x <;> simp [h]

/-- What a told fault is. -/
def Tight (x : Flt) : Prop := x.fits ∧ x.field.size ≤ 1000000 ∧ (-9223372036854775808 ≤ x.paper ∧ x.paper ≤ 9223372036854775807)
theorem fits_of_nums {p k y : Int} {f : ByteArray} (hp : -9223372036854775808 ≤ p ∧ p ≤ 9223372036854775807) (hk : -9223372036854775808 ≤ k ∧ k ≤ 9223372036854775807) (hf : f.size ≤ 1000000) (hy : 0 ≤ y ∧ y ≤ 6) : Tight ⟨p, k, f, y⟩ :=
  ⟨⟨fits_i64 hp.1 hp.2, fits_i64 hk.1 hk.2, by show f.size ≤ maxLen; unfold maxLen; omega, fits_i64 (n := y) (by omega) (by omega)⟩, hf, hp⟩
theorem ask_fits {a : Int} {d : Pap} {name : ByteArray} {wrong : ByteArray → Int} (ha : -9223372036854775808 ≤ a ∧ a ≤ 9223372036854775807) (hk : -9223372036854775808 ≤ d.kind ∧ d.kind ≤ 9223372036854775807) (hs : name.size ≤ 1000000) (hw : ∀ v, 0 ≤ wrong v ∧ wrong v ≤ 6) : ∀ x ∈ askF a d name wrong, Tight x := by
  intro x hx
  unfold askF at hx
  split at hx
  · obtain rfl := List.mem_singleton.1 hx
    exact fits_of_nums ha hk hs (by omega)
  · split at hx
    · cases hx
    · obtain rfl := List.mem_singleton.1 hx
      exact fits_of_nums ha hk hs (hw _)
theorem isW_range (t v : ByteArray) : 0 ≤ isW t v ∧ isW t v ≤ 6 := by unfold isW; split <;> omega
theorem sumW_range (c : Crd) (v : ByteArray) : 0 ≤ sumW c v ∧ sumW c v ≤ 6 := by
  unfold sumW
  split
  · omega
  · split
    · omega
    · split <;> omega
theorem issuedW_range (c : Crd) (day : Int) (v : ByteArray) : 0 ≤ issuedW c day v ∧ issuedW c day v ≤ 6 := by
  unfold issuedW
  split
  · omega
  · split <;> omega
theorem alikeB_small : ∀ i, i < 6 → (alikeB i).size ≤ 1000000 := by
  intro i hi
  have : i = 0 ∨ i = 1 ∨ i = 2 ∨ i = 3 ∨ i = 4 ∨ i = 5 := by omega
  rcases this with rfl | rfl | rfl | rfl | rfl | rfl <;> decide
theorem exam_tight {c : Crd} {needs : List Nd} {docs : List Pap} {day : Int} (hd : ∀ d ∈ docs, -9223372036854775808 ≤ d.kind ∧ d.kind ≤ 9223372036854775807) (hn : ∀ x ∈ needs, -9223372036854775808 ≤ x.kind ∧ x.kind ≤ 9223372036854775807)
    (hf : ∀ x ∈ needs, allT (fun t => t.field.size ≤ 1000000) x.rule) (h12 : docs.length ≤ 1000) : ∀ x ∈ examF c needs docs day, Tight x := by
  intro x hx
  rw [mem_examF] at hx
  unfold toldE at hx
  rcases List.mem_append.1 hx with hx | hx
  · unfold expF at hx
    split at hx
    · obtain rfl := List.mem_singleton.1 hx
      exact fits_of_nums (by omega) (by omega) (by decide) (by omega)
    · cases hx
  rcases List.mem_append.1 hx with hx | hx
  · obtain ⟨y, hy, hx⟩ := List.mem_flatMap.1 hx
    unfold lackF at hx
    split at hx
    · obtain rfl := List.mem_singleton.1 hx
      exact fits_of_nums (by omega) (hn y hy) (by decide) (by omega)
    · cases hx
  obtain ⟨a, ha, hx⟩ := List.mem_flatMap.1 hx
  rw [List.mem_range] at ha
  unfold docAt at hx
  split at hx
  · rename_i d hda
    have hk := hd d (List.mem_of_getElem? hda)
    have haI : -9223372036854775808 ≤ (a : Int) ∧ (a : Int) ≤ 9223372036854775807 := by omega
    unfold docF at hx
    split at hx
    · rcases List.mem_append.1 hx with hx | hx
      · unfold paperF at hx
        rcases List.mem_append.1 hx with hx | hx
        · unfold fixedF at hx
          split at hx
          · unfold invoiceF at hx
            rcases List.mem_append.1 hx with hx | hx
            · exact ask_fits haI hk (by decide) (isW_range _) x hx
            rcases List.mem_append.1 hx with hx | hx
            · exact ask_fits haI hk (by decide) (isW_range _) x hx
            rcases List.mem_append.1 hx with hx | hx
            · exact ask_fits haI hk (by decide) (isW_range _) x hx
            · exact ask_fits haI hk (by decide) (sumW_range _) x hx
          · split at hx
            · exact ask_fits haI hk (by decide) (issuedW_range _ _) x hx
            · cases hx
        · unfold ruledF at hx
          obtain ⟨y, hy, hx⟩ := List.mem_flatMap.1 hx
          unfold needR at hx
          split at hx
          · obtain ⟨u, hu, hx⟩ := List.mem_flatMap.1 hx
            have hfu : u.field.size ≤ 1000000 := allT_here (parts_all y.rule (hf y hy) u hu)
            unfold ruleF at hx
            split at hx
            · cases hx
            · obtain rfl := List.mem_singleton.1 hx
              refine fits_of_nums haI hk ?_ ?_
              · split
                · exact hfu
                · decide
              · have := holdsT_range docs d u
                split <;> omega
          · cases hx
      · unfold othersF at hx
        obtain ⟨i, hi, hx⟩ := List.mem_flatMap.1 hx
        rw [List.mem_range] at hi
        unfold otherF at hx
        split at hx
        · cases hx
        · split at hx
          · cases hx
          · split at hx
            · cases hx
            · obtain rfl := List.mem_singleton.1 hx
              exact fits_of_nums haI hk (alikeB_small i hi) (by omega)
    · cases hx
  · cases hx
theorem exam_fits {c : Crd} {needs : List Nd} {docs : List Pap} {day : Int} (hd : ∀ d ∈ docs, -9223372036854775808 ≤ d.kind ∧ d.kind ≤ 9223372036854775807) (hn : ∀ x ∈ needs, -9223372036854775808 ≤ x.kind ∧ x.kind ≤ 9223372036854775807)
    (hf : ∀ x ∈ needs, allT (fun t => t.field.size ≤ 1000000) x.rule) (h12 : docs.length ≤ 1000) : ∀ x ∈ examF c needs docs day, x.fits := fun x hx => (exam_tight hd hn hf h12 x hx).1
/-- The rules' fields are short where few is asked. -/
theorem small_field {t : Tree} (h : sizeT t 200 ≤ 60) : allT (fun t => t.field.size ≤ 1000000) t := by
  have e := size_wgt t 200 (by omega)
  refine allT_mono (fun t h => ?_) t (wgt_all t 60 (by omega))
  show t.field.size ≤ 1000000
  omega
end Go.Proofs.YtdjmckjbibfecaaGreatDoor
namespace Go.Proofs.YtdjmckjbibfecaaGreatDoor
open Go Go.RowKit Go.BigFrame Go.Maps

theorem run_make_hint {P : Program} {t k e : TypeId} (ht : P.underlying t = some (.map k e)) (n : Int) (w : World) : (Instr.makeMap t (some (.int .i64 n))).run P w = .ok (.map (some w.heap.size)) (w.alloc (.map #[] 0)) := by
  simp [Instr.makeMap, run_underlying ht, Result.andThen, asInt, go_sem]
theorem told_any (l : List Flt) (f : Flt) : (toldF l f.agg).getD (.bool false) = .bool (anyB l f) := by
  rw [told_get]
  congr 1
  rw [Bool.eq_iff_iff, anyB_iff]
  simp
theorem toldF_nil : toldF [] = fun _ => none := by funext x; simp [toldF]
theorem take_one {l : List Flt} {q : Nat} {x : Flt} (hx : l[q]? = some x) : l.take (q + 1) = l.take q ++ [x] := by
  obtain ⟨h, e⟩ := List.getElem?_eq_some_iff.1 hx
  rw [List.take_succ_eq_append_getElem h, e]
theorem fcells_snoc1 (l : List Flt) (x : Flt) : fcells (l ++ [x]) = fcells l ++ (#[.int .i64 x.paper, .int .i64 x.kind, .string x.field, .int .i64 x.why] : Array Value).toList := by simp [fcells, Flt.cells]
theorem one4 (x : Flt) : ∀ u ∈ (#[.int .i64 x.paper, .int .i64 x.kind, .string x.field, .int .i64 x.why] : Array Value).toList, u.oneCell' = true := by
  intro u hu
  simp at hu
  rcases hu with rfl | rfl | rfl | rfl <;> rfl
theorem waive_le (l w : List Flt) : (waiveM l w).length ≤ l.length := List.length_filter_le _ _
set_option maxRecDepth 100000 in
set_option maxHeartbeats 3200000 in
theorem waive_any (A A' : Option Addr) (n c n' c' : Nat) (l m : List Flt) (w : World) (hl : Hid (l.length = n)) (hm : Hid (m.length = n')) (hn : n ≤ 100000) (hn' : n' ≤ 100000) (hA : Hid (FaultsAt w A l)) (hA' : Hid (FaultsAt w A' m)) (hfl : Hid (∀ x ∈ l, x.fits)) (hfm : Hid (∀ x ∈ m, x.fits)) :
    Calls Tryz.prog 23 #[.slice A n c, .slice A' n' c'] w fun e w' => ∃ v, e = .returned v ∧ w'.ownsRow w.heap.size 54 4 v (waiveM l m).length (fcells (waiveM l m)) ∧ Below w.heap.size w w' := by
  obtain ⟨iF, iFi, iF0, iF1, iF2⟩ := info_parts Tryz.info54
  obtain ⟨w1, hw1⟩ : ∃ X, Hid (w.alloc (.map #[] 0) = X) := ⟨_, rfl⟩
  have hb1 : Hid (Below w.heap.size w w1) := by rw [← hw1.out]; exact (Below.refl _ w).alloc (Nat.le_refl _) _
  have hM1 : Hid (MapFn w1 Tryz.prog 54 4 w.heap.size 0 (.bool false) (toldF (m.take 0))) := by
    unfold Hid
    rw [← hw1.out, List.take_zero, toldF_nil]
    exact MapFn.made w Tryz.prog 54 4 (plainElem_bool Tryz.underlying4 false)
  have hmk := run_make_hint (P := Tryz.prog) Tryz.underlying90 (n' : Int) w
  go_enter Tryz.func23, Tryz.ntmps23
  go_wp2_with (rw [hw1.out])
  clear hmk
  go_loopw [16] (fun i wr => ∃ q : Nat, q ≤ n' ∧ i = .int .i64 q ∧ Hid (MapFn wr Tryz.prog 54 4 w.heap.size q (.bool false) (toldF (m.take q))) ∧ Hid (Below w.heap.size w wr)) (fun i _ => n' - (intOf i).toNat)
  case atStart => exact ⟨0, Nat.zero_le _, rfl, hM1, hb1⟩
  case round =>
    obtain ⟨q, hq, rfl, hM, hB⟩ := hrel
    by_cases hlt : q < n'
    · as_aux_lemma =>
      obtain ⟨x, hx⟩ : ∃ x, m[q]? = some x := ⟨_, List.getElem?_eq_getElem (by have := hm.out; omega)⟩
      obtain ⟨b, off, rfl, x0, x1, x2, x3⟩ := (hA'.out.below hB.out) q x hx
      have hfx := hfm.out x (List.mem_of_getElem? hx)
      obtain ⟨kl, hkl⟩ := keyF x hfx
      have hkl' := Lib.hid hkl
      have htk := Lib.hid (take_one hx)
      have i1 : (q : Int) < (n' : Int) := by omega
      have i2 : (0 : Int) ≤ (q : Int) := by omega
      have hkm : decide (q < n') = true := decide_eq_true hlt
      obtain ⟨w5, hw5⟩ : ∃ X, Hid (wr.alloc (.cells #[.int .i64 x.paper, .int .i64 x.kind, .string x.field, .int .i64 x.why] 54) = X) := ⟨_, rfl⟩
      have hb5 : Hid (Below wr.heap.size wr w5) := by rw [← hw5.out]; exact (Below.refl _ wr).alloc (Nat.le_refl _) _
      have hN5 : Hid (Blk w5 wr.heap.size 54 #[.int .i64 x.paper, .int .i64 x.kind, .string x.field, .int .i64 x.why]) := by rw [← hw5.out]; exact Lib.hid (Blk.new _ _ _)
      have hM5 := Lib.hid (hM.out.below hb5.out hM.out.lt)
      have hB5 : Hid (Below w.heap.size w w5) := hB.out.trans (hb5.out.mono hB.out.size)
      have r0 : w5.cell? ⟨wr.heap.size, 0, none⟩ = some (.int .i64 x.paper) := hN5.out.cell 0
      have r1 : w5.cell? ⟨wr.heap.size, 1, none⟩ = some (.int .i64 x.kind) := hN5.out.cell 1
      have r2 : w5.cell? ⟨wr.heap.size, 2, none⟩ = some (.string x.field) := hN5.out.cell 2
      have r3 : w5.cell? ⟨wr.heap.size, 3, none⟩ = some (.int .i64 x.why) := hN5.out.cell 3
      have hn9 : Hid (q < maxLen) := by unfold Hid maxLen; omega
      clear hx hfx hkl
      go_wp2_with (first | rw [hw5.out] | (at_mapUpdate; go_must (refine wpList_put _ rfl _ _ _ 90 rfl keyed40 Tryz.underlying90 w.heap.size q rfl hM5.out hn9.out x.agg (.bool true) kl rfl rfl hkl'.out (plainElem_bool Tryz.underlying4 true) ?_); intro w6 hm6 hg6))
      have hM6 := Lib.hid hm6
      have hB6 : Hid (Below w.heap.size w w6) := Lib.hid (hB5.out.grown hg6 hB5.out.size (fun j hj => by cases hj; exact Nat.le_refl _))
      clear hm6 hg6
      go_roundw
      case rel => exact ⟨q + 1, by omega, by go_num, by unfold Hid; rw [htk.out, ← told_put]; exact hM6.out, hB6⟩
      case measure => simp [intOf]; omega
    · have hkm : decide (q < n') = false := decide_eq_false hlt
      have hqm : n' = q := by omega
      subst hqm
      have htm : m.take n' = m := List.take_of_length_le (by rw [hm.out]; exact Nat.le_refl _)
      rw [htm] at hM
      clear hM1 hb1 htm
      go_wp2_with fail
      go_loopw [8, 25] (fun v i wr => ∃ q : Nat, q ≤ n ∧ i = .int .i64 q ∧ Hid (wr.ownsRow w.heap.size 54 4 v (waiveM (l.take q) m).length (fcells (waiveM (l.take q) m))) ∧ Hid (MapFn wr Tryz.prog 54 4 w.heap.size n' (.bool false) (toldF m)) ∧ Hid (Below w.heap.size w wr)) (fun _ i _ => n - (intOf i).toNat)
      case atStart => exact ⟨0, Nat.zero_le _, rfl, own_none _ _ _ _, hM, hB⟩
      case round =>
        clear hM hB
        obtain ⟨q, hq, rfl, hown, hM, hB⟩ := hrel
        by_cases hlt : q < n
        · as_aux_lemma =>
          obtain ⟨x, hx⟩ : ∃ x, l[q]? = some x := ⟨_, List.getElem?_eq_getElem (by have := hl.out; omega)⟩
          obtain ⟨b, off, rfl, x0, x1, x2, x3⟩ := (hA.out.below hB.out) q x hx
          obtain ⟨kl, hkl⟩ := keyF x (hfl.out x (List.mem_of_getElem? hx))
          have hsn := waive_snoc (w := m) hx
          have hle := waive_le (l.take q) m
          have hle2 : (l.take q).length ≤ q := by rw [List.length_take]; omega
          obtain ⟨F, hF⟩ : ∃ F, waiveM (l.take q) m = F := ⟨_, rfl⟩
          rw [hF] at hown hsn hle
          obtain ⟨k, hk⟩ : ∃ k, F.length = k := ⟨_, rfl⟩
          rw [hk] at hown hle
          have hk' := Lib.hid hk
          have i1 : (q : Int) < (n : Int) := by omega
          have i2 : (0 : Int) ≤ (q : Int) := by omega
          have hkm : decide (q < n) = true := decide_eq_true hlt
          obtain ⟨w5, hw5⟩ : ∃ X, Hid (wr.alloc (.cells #[.int .i64 x.paper, .int .i64 x.kind, .string x.field, .int .i64 x.why] 54) = X) := ⟨_, rfl⟩
          have hb5 : Hid (Below wr.heap.size wr w5) := by rw [← hw5.out]; exact (Below.refl _ wr).alloc (Nat.le_refl _) _
          have hN5 : Hid (Blk w5 wr.heap.size 54 #[.int .i64 x.paper, .int .i64 x.kind, .string x.field, .int .i64 x.why]) := by rw [← hw5.out]; exact Lib.hid (Blk.new _ _ _)
          have hM5 := Lib.hid (hM.out.below hb5.out hM.out.lt)
          have hown5 := Lib.hid (own_below hown.out hb5.out)
          have hB5 : Hid (Below w.heap.size w w5) := hB.out.trans (hb5.out.mono hB.out.size)
          have r0 : w5.cell? ⟨wr.heap.size, 0, none⟩ = some (.int .i64 x.paper) := hN5.out.cell 0
          have r1 : w5.cell? ⟨wr.heap.size, 1, none⟩ = some (.int .i64 x.kind) := hN5.out.cell 1
          have r2 : w5.cell? ⟨wr.heap.size, 2, none⟩ = some (.string x.field) := hN5.out.cell 2
          have r3 : w5.cell? ⟨wr.heap.size, 3, none⟩ = some (.int .i64 x.why) := hN5.out.cell 3
          have hlk := hM5.out.look keyed40 Tryz.underlying90 (zero4 _) hkl
          rw [told_any] at hlk
          obtain ⟨B9, hB9⟩ : ∃ b, anyB m x = b := ⟨_, rfl⟩
          rw [hB9] at hlk hsn
          have hsn' := Lib.hid hsn
          clear hx hkl hsn hF hk hB9
          cases B9 with
          | true =>
            go_wp2_with (rw [hw5.out])
            go_roundw
            case rel => exact ⟨q + 1, by omega, by go_num, by unfold Hid; rw [hsn'.out, if_pos rfl, List.append_nil, hk'.out]; exact hown5.out, hM5, hB5⟩
            case measure => simp [intOf]; omega
          | false =>
            obtain ⟨w6, hw6⟩ : ∃ X, Hid (w5.alloc (.cells #[.int .i64 x.paper, .int .i64 x.kind, .string x.field, .int .i64 x.why] 54) = X) := ⟨_, rfl⟩
            have hb6 : Hid (Below w5.heap.size w5 w6) := by rw [← hw6.out]; exact (Below.refl _ w5).alloc (Nat.le_refl _) _
            have hblk : Hid (Reads w6 w6.heap.size 4 (some ⟨w5.heap.size, 0, none⟩) 1 (#[.int .i64 x.paper, .int .i64 x.kind, .string x.field, .int .i64 x.why] : Array Value).toList) := by rw [← hw6.out]; exact Lib.hid (blk_reads (Blk.new w5 54 #[.int .i64 x.paper, .int .i64 x.kind, .string x.field, .int .i64 x.why]) 4 1 rfl)
            have hown6 := Lib.hid (own_below hown5.out hb6.out)
            have hM6 := Lib.hid (hM5.out.below hb6.out hM5.out.lt)
            have hB6 : Hid (Below w.heap.size w w6) := hB5.out.trans (hb6.out.mono hB5.out.size)
            have s1 : Hid (k + 1 ≤ maxLen) := by unfold Hid maxLen; omega
            have s2 : Hid ((k + 1) * 40 ≤ 140737488355328) := by unfold Hid; omega
            have s3 := Lib.hid hB6.out.size
            have s4 := Lib.hid (one4 x)
            go_wp2_with (first | rw [hw5.out, hw6.out] | rw [hw5.out] | rw [hw6.out] | (at_builtin; go_must (refine wpList_append_any _ rfl _ _ 47 rfl w.heap.size 54 iF _ 4 40 Tryz.underlying47 iFi iF0 iF1 iF2 rfl (by decide) _ k (fcells F) rfl hown6.out _ (some ⟨w5.heap.size, 0, none⟩) 1 1 (#[.int .i64 x.paper, .int .i64 x.kind, .string x.field, .int .i64 x.why] : Array Value).toList rfl hblk.out s4.out s1.out s2.out s3.out ?_); intro v8 w8 ho8 hg8 hv8; have ho8' := Lib.hid ho8; have hM8 := Lib.hid (hM6.out.kept hg8 (own_map_ne hown6.out hM6.out)); have hB8 := Lib.hid (hB6.out.grown hg8 s3.out (fun j hj => (hown6.out.lt j hj).1)); clear ho8 hg8 hv8))
            go_roundw
            case rel => exact ⟨q + 1, by omega, by go_num, by unfold Hid; rw [hsn'.out, if_neg (by decide), List.length_append, hk'.out, fcells_snoc1]; exact ho8'.out, hM8, hB8⟩
            case measure => simp [intOf]; omega
        · have hkm : decide (q < n) = false := decide_eq_false hlt
          have hqn : n = q := by omega
          subst hqn
          rw [List.take_of_length_le (by rw [hl.out]; exact Nat.le_refl _)] at hown
          go_wp2_with fail
          go_ret
          exact ⟨_, rfl, hown.out, hB.out⟩
set_option maxRecDepth 100000 in
set_option maxHeartbeats 3200000 in
theorem in_any (A : Option Addr) (n c : Nat) (l : List Flt) (f : Flt) (w : World) (hl : Hid (l.length = n)) (hn : n ≤ 100000) (hA : Hid (FaultsAt w A l)) :
    Calls Tryz.prog 60 #[.slice A n c, f.agg] w fun e w' => e = .returned (.bool (anyB l f)) ∧ Below w.heap.size w w' := by
  obtain ⟨w0, hw0⟩ : ∃ X, Hid (w.alloc (.cells #[.int .i64 f.paper, .int .i64 f.kind, .string f.field, .int .i64 f.why] 54) = X) := ⟨_, rfl⟩
  have hb0 : Hid (Below w.heap.size w w0) := by rw [← hw0.out]; exact (Below.refl _ w).alloc (Nat.le_refl _) _
  have hbk : Hid (Blk w0 w.heap.size 54 #[.int .i64 f.paper, .int .i64 f.kind, .string f.field, .int .i64 f.why]) := by rw [← hw0.out]; exact Lib.hid (Blk.new _ _ _)
  go_enter Tryz.func60, Tryz.ntmps60
  go_wp2_with (rw [hw0.out])
  go_loopw [5] (fun i wr => ∃ q : Nat, q ≤ n ∧ i = .int .i64 q ∧ Hid (anyB (l.take q) f = false) ∧ Hid (Below w0.heap.size w0 wr)) (fun i _ => n - (intOf i).toNat)
  case atStart => exact ⟨0, Nat.zero_le _, rfl, rfl, Below.refl _ _⟩
  case round =>
    obtain ⟨q, hq, rfl, hs, hB1⟩ := hrel
    have hbk1 := Lib.hid (hbk.out.below hB1.out hbk.out.lt)
    have f0 : wr.cell? ⟨w.heap.size, 0, none⟩ = some (.int .i64 f.paper) := hbk1.out.cell 0
    have f1 : wr.cell? ⟨w.heap.size, 1, none⟩ = some (.int .i64 f.kind) := hbk1.out.cell 1
    have f2 : wr.cell? ⟨w.heap.size, 2, none⟩ = some (.string f.field) := hbk1.out.cell 2
    have f3 : wr.cell? ⟨w.heap.size, 3, none⟩ = some (.int .i64 f.why) := hbk1.out.cell 3
    have hBw : Hid (Below w.heap.size w wr) := hb0.out.trans (hB1.out.mono hb0.out.size)
    by_cases hlt : q < n
    · obtain ⟨x, hx⟩ : ∃ x, l[q]? = some x := ⟨_, List.getElem?_eq_getElem (by have := hl.out; omega)⟩
      have hst : Hid (anyB (l.take (q + 1)) f = eqF x f) := by
        unfold Hid anyB; rw [any_take _ hx]
        have := hs.out
        unfold anyB at this
        rw [this]; rfl
      have hxm := Lib.hid (List.mem_of_getElem? hx)
      obtain ⟨b, off, rfl, x0, x1, x2, x3⟩ := (hA.out.below hBw.out) q x hx
      clear hx
      have i3 : (q : Int) < (n : Int) := by omega
      have i4 : (0 : Int) ≤ (q : Int) := by omega
      have hkm : decide (q < n) = true := decide_eq_true hlt
      have hqe := eq_flt x f
      have hqg := Tryz.eqg54
      cases hxf : eqF x f with
      | true =>
        rw [hxf] at hqe
        have hin : Hid (anyB l f = true) := by
          have := eqF_iff.1 hxf
          unfold Hid
          rw [anyB_iff, ← this]
          exact hxm.out
        clear hxf
        go_wp2_with fail
        go_quiet (fail)
        clear hqe f0 f1 f2 f3 x0 x1 x2 x3
        go_wp2_with fail
        go_ret
        exact ⟨by rw [hin.out]; rfl, below_drewN hBw.out _⟩
      | false =>
        rw [hxf] at hqe hst
        clear hxf
        go_wp2_with fail
        go_quiet (fail)
        clear hqe f0 f1 f2 f3 x0 x1 x2 x3
        go_wp2_with fail
        go_roundw
        case rel => exact ⟨q + 1, by omega, by go_num, hst, below_drewN hB1.out _⟩
        case measure => simp [intOf]; omega
    · have hkm : decide (q < n) = false := decide_eq_false hlt
      have hqn : n = q := by omega
      subst hqn
      rw [List.take_of_length_le (by rw [hl.out]; exact Nat.le_refl _)] at hs
      go_wp2_with fail
      go_ret
      exact ⟨by rw [hs.out]; rfl, hBw.out⟩
end Go.Proofs.YtdjmckjbibfecaaGreatDoor

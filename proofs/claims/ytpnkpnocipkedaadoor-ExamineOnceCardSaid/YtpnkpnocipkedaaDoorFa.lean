/- The parts of a rule, by the document; the walk of asksAnother; the walk of the law ExamineOnce. -/
import Derived.Test.YtpnkpnocipkedaaDoorEr
namespace Go.Proofs.YtpnkpnocipkedaaDoor
open Go Go.RowKit Go.BigFrame Go.Maps

theorem Tryd.info24 : (Tryd.prog.info? 24).map (fun i => (i.zero, i.size, i.bytes)) = some (some (.agg #[.int .i64 0, .int .i64 0, .string ⟨#[]⟩, .string ⟨#[]⟩, .int .i64 0, .slice none 0 0]), 6, 80) := by kernel_rfl
def tcells (l : List Tree) : List Value := l.flatMap fun t => t.cells.toList
theorem Tree.cells_len (t : Tree) : t.cells.toList.length = 6 := by obtain ⟨a, b, d, e, f, g, h, i⟩ := t; simp [Tree.cells]
theorem tcells_len (l : List Tree) : (tcells l).length = l.length * 6 := by
  induction l with
  | nil => rfl
  | cons x l ih => show (x.cells.toList ++ tcells l).length = _; rw [List.length_append, ih, Tree.cells_len, List.length_cons]; omega
theorem tcells_app (l m : List Tree) : tcells (l ++ m) = tcells l ++ tcells m := by simp [tcells]
theorem tcells_one (l : List Tree) : ∀ u ∈ tcells l, u.oneCell' = true := by
  intro u hu
  obtain ⟨x, _, hx⟩ := List.mem_flatMap.1 hu
  obtain ⟨a, b, d, e, f, g, h, i⟩ := x
  simp [Tree.cells] at hx
  rcases hx with rfl | rfl | rfl | rfl | rfl | rfl <;> rfl
theorem tcells_get : ∀ (l : List Tree) (k : Nat) (x : Tree), l[k]? = some x → ∀ i, i < 6 → (tcells l)[k * 6 + i]? = x.cells.toList[i]?
  | [], k, x, h, i, hi => by simp at h
  | y :: l, 0, x, h, i, hi => by
    simp only [List.getElem?_cons_zero, Option.some.injEq] at h; subst h
    show (y.cells.toList ++ tcells l)[0 * 6 + i]? = _
    rw [Nat.zero_mul, Nat.zero_add, List.getElem?_append_left (by rw [Tree.cells_len]; exact hi)]
  | y :: l, k + 1, x, h, i, hi => by
    have ih := tcells_get l k x (by simpa using h) i hi
    show (y.cells.toList ++ tcells l)[(k + 1) * 6 + i]? = _
    rw [List.getElem?_append_right (by rw [Tree.cells_len]; omega), Tree.cells_len, show (k + 1) * 6 + i - 6 = k * 6 + i by omega]
    exact ih
theorem partsL_app : ∀ (L M : List Tree), partsL (L ++ M) = partsL L ++ partsL M
  | [], M => by rw [partsL]; rfl
  | t :: L, M => by show partsL (t :: (L ++ M)) = _; rw [partsL, partsL, partsL_app L M, List.append_assoc]
theorem partsL_step {L : List Tree} {q : Nat} {t : Tree} (ht : L[q]? = some t) : partsL (L.take (q + 1)) = partsL (L.take q) ++ partsT t := by
  rw [List.take_add_one, ht, partsL_app]
  refine congrArg _ ?_
  show partsL [t] = _
  rw [partsL, partsL, List.append_nil]
theorem rpartsL_len {L : List Tree} {q : Nat} {t : Tree} (ht : L[q]? = some t) : (partsL (L.take q)).length + (partsT t).length ≤ (partsL L).length := by
  have h := partsL_app (L.take (q + 1)) (L.drop (q + 1))
  rw [List.take_append_drop, partsL_step ht] at h
  rw [h, List.length_append, List.length_append]; omega

theorem own_trees {w : World} {base n : Nat} {v : Value} {l : List Tree} (h : w.ownsRow base 24 6 v n (tcells l)) (hl : l.length = n) : ∃ A c, v = .slice A n c ∧ ∀ r t, l[r]? = some t → CellsAt w A r t := by
  rcases h.2 with ⟨rfl, rfl⟩ | ⟨g, cap, cur, rfl, _⟩
  · have : l = [] := List.eq_nil_of_length_eq_zero hl
    subst this
    exact ⟨_, _, rfl, by intro k x hk; simp at hk⟩
  · refine ⟨_, _, rfl, fun r t ht => ?_⟩
    have hc : ∀ i, i < 6 → ∀ u, t.cells.toList[i]? = some u → w.cell? ⟨g, 0 + r * 6 + i, none⟩ = some u := fun i hi u hu => by
      have := h.cells (g := g) rfl (r * 6 + i) u (by rw [tcells_get l r t ht i hi]; exact hu)
      rwa [show Addr.add ⟨g, 0, none⟩ (r * 6 + i) = ⟨g, 0 + r * 6 + i, none⟩ by unfold Addr.add; split <;> simp_all] at this
    obtain ⟨tk, tp, tf, tx, tn, tA, tc, tL⟩ := t
    exact ⟨g, 0, rfl, hc 0 (by omega) _ rfl, hc 1 (by omega) _ rfl, hc 2 (by omega) _ rfl, hc 3 (by omega) _ rfl, hc 4 (by omega) _ rfl, hc 5 (by omega) _ rfl⟩
/-- What Parts hands back. -/
def RPartsC (t : Tree) : Prop := ∀ w : World, Hid (TreeAt w t) → Hid ((partsT t).length ≤ 1000) →
  Calls Tryd.prog 40 #[.agg t.cells] w fun e w' => ∃ v, e = .returned v ∧ Below w.heap.size w w' ∧ w'.ownsRow w.heap.size 24 6 v (partsT t).length (tcells (partsT t))

set_option maxRecDepth 100000 in
set_option maxHeartbeats 3200000 in
theorem rparts_walk (t : Tree) (ih : Hid (∀ u ∈ t.sub, RPartsC u)) : RPartsC t := by
  intro w hT hP
  obtain ⟨i0, hi, hz0, hz1, hz2⟩ := info_parts Tryd.info24
  obtain ⟨k, p, f, x, n, A', c', L⟩ := t
  simp only [Tree.sub] at ih
  obtain ⟨m, hm⟩ : ∃ m, Hid (L.length = m) := ⟨_, rfl⟩
  have hrows := Lib.hid (rows_sub hT.out).1
  have hml : m ≤ 9223372036854775807 := by have := (rows_sub hT.out).2; rw [hm.out] at this; unfold maxLen at this; exact this
  have hb0 := Lib.hid ((Below.refl _ w).alloc (Nat.le_refl _) (.cells #[.int .i64 k, .int .i64 p, .string f, .string x, .int .i64 n, .slice A' m c'] 24))
  have hblk := Lib.hid (Blk.new w 24 #[.int .i64 k, .int .i64 p, .string f, .string x, .int .i64 n, .slice A' m c'])
  by_cases hk : k = 0
  · have hz : Hid (partsT (.mk k p f x n A' c' L) = partsL L) := by unfold Hid; rw [partsT, if_pos hk]
    rw [hz.out] at hP ⊢
    subst hk
    simp only [Tree.cells]
    rw [hm.out]
    obtain ⟨w0, hw0⟩ : ∃ w0 : World, Hid (w.alloc (.cells #[.int .i64 0, .int .i64 p, .string f, .string x, .int .i64 n, .slice A' m c'] 24) = w0) := ⟨_, rfl⟩
    have hs0 : w0.heap.size = w.heap.size + 1 := by rw [← hw0.out, World.size_alloc]
    rw [hw0.out] at hb0 hblk
    go_enter Tryd.func40, Tryd.ntmps40
    go_wp2_with fail
    rw [hw0.out]
    have hnew := Lib.hid (own_new w0 24 6)
    go_loopw [3, 4] (fun v j wr => ∃ q : Nat, q ≤ m ∧ j = .int .i64 q ∧ Hid (wr.ownsRow (w.heap.size + 1) 24 6 v (partsL (L.take q)).length (tcells (partsL (L.take q)))) ∧ Hid (Below (w.heap.size + 1) w0 wr)) (fun _ j _ => m - (intOf j).toNat)
    case atStart => exact ⟨0, Nat.zero_le _, rfl, by unfold Hid; have := hnew.out; rw [hs0] at this; simpa [partsL, tcells] using this, (Below.refl _ w0).alloc (by omega) _⟩
    case round =>
      obtain ⟨q, hq, rfl, hown, hB⟩ := hrel
      have hbk := Lib.hid (hblk.out.below hB.out (by omega))
      have e5 := hbk.out.cell 5
      simp only [List.getElem?_toArray, List.getElem?_cons_zero, List.getElem?_cons_succ] at e5
      have hBw : Hid (Below w.heap.size w wr) := hb0.out.trans (hB.out.mono (by omega))
      by_cases hlt : q < m
      · obtain ⟨t, ht⟩ : ∃ x, L[q]? = some x := ⟨_, List.getElem?_eq_getElem (by have := hm.out; omega)⟩
        have hmem := Lib.hid (List.mem_of_getElem? ht)
        have hst := Lib.hid (partsL_step ht)
        have hle := Lib.hid (rpartsL_len ht)
        obtain ⟨hc, hT1⟩ := (hrows.out.below hBw.out).get q t ht
        have hT' := Lib.hid hT1
        clear ht hT1
        have hcl := Lib.hid (ih.out _ hmem.out wr hT'.out (by have := hle.out; have := hP.out; unfold Hid; omega))
        obtain ⟨pt, hpt⟩ : ∃ pt, Hid (partsT t = pt) := ⟨_, rfl⟩
        rw [hpt.out] at hst hle hcl
        obtain ⟨pl, hpl⟩ : ∃ pl, Hid (partsL (L.take q) = pl) := ⟨_, rfl⟩
        rw [hpl.out] at hst hle hown
        obtain ⟨tk, tp, tf, tx, tn, tA, tc, tL⟩ := t
        obtain ⟨b, off, rfl, h0, h1, h2, h3, h4, h5⟩ := hc
        rw [Nat.zero_add] at h0 h1 h2 h3 h4 h5
        go_wp2_with fail
        refine hcl.out.mono ?_
        rintro e w1 ⟨v1, rfl, hb2, ho1⟩
        obtain ⟨A1, c1, rfl⟩ := own_slice ho1
        have hr1 := Lib.hid (Reads.of_own ho1)
        have hB1 : Hid (Below (w.heap.size + 1) w0 w1) := hB.out.trans (hb2.mono (by have := hB.out.size; omega))
        have hown1 := Lib.hid (own_below hown.out hb2)
        have hone := Lib.hid (tcells_one pt)
        have h63 : Hid (pl.length + pt.length ≤ maxLen) := by have := hle.out; have := hP.out; unfold Hid maxLen; omega
        have hby : Hid ((pl.length + pt.length) * 80 ≤ 140737488355328) := by have := hle.out; have := hP.out; unfold Hid; omega
        have hgb : Hid (w.heap.size + 1 ≤ w1.heap.size) := by have := hB1.out.size; unfold Hid; omega
        clear hb2 e5 h0 h1 h2 h3 h4 h5
        go_wp2_with (at_builtin; (refine wpList_append_any _ rfl (.tmp 18) (.tmp 24) 22 rfl (w.heap.size + 1) 24 i0 _ 6 80 Tryd.underlying22 hi hz0 hz1 hz2 rfl (by decide) _ pl.length (tcells pl) rfl hown1.out w1.heap.size A1 pt.length c1 (tcells pt) rfl hr1.out hone.out h63.out hby.out hgb.out ?_); intro v4 w4 ho4 hg4 hv4; have ho4' := Lib.hid ho4; have hB4 : Hid (Below (w.heap.size + 1) w0 w4) := (hB1.out.grown hg4 hgb.out (fun k hk => (hown1.out.lt k hk).1)); clear ho4 hg4 hv4)
        go_roundw
        case rel => exact ⟨q + 1, by omega, by go_num, by rw [hst.out, tcells_app, List.length_append]; exact ho4', hB4⟩
        case measure => simp [intOf]; omega
      · have hfin : Hid (L.take q = L) := List.take_of_length_le (by have := hm.out; omega)
        go_wp2_with fail
        go_ret
        refine ⟨_, rfl, hBw.out, ?_⟩
        have := hown.out
        rw [hfin.out] at this
        exact own_mono_base this (by omega)
  · have hz : Hid (partsT (.mk k p f x n A' c' L) = [.mk k p f x n A' c' L]) := by unfold Hid; rw [partsT, if_neg hk]
    rw [hz.out]
    have hlit := Lib.hid (World.ownsRow_lit (w.alloc (.cells #[.int .i64 k, .int .i64 p, .string f, .string x, .int .i64 n, .slice A' m c'] 24)) #[.int .i64 k, .int .i64 p, .string f, .string x, .int .i64 n, .slice A' m c'] 1 (base := w.heap.size) (e := 24) (size := 6) (by simp) (by unfold maxLen; omega) rfl)
    have hB1 := Lib.hid (hb0.out.alloc (by simp) (.cells #[.int .i64 k, .int .i64 p, .string f, .string x, .int .i64 n, .slice A' m c'] 24))
    simp only [Tree.cells]
    rw [hm.out]
    go_enter Tryd.func40, Tryd.ntmps40
    go_wp2_with fail
    go_ret
    refine ⟨_, rfl, hB1.out, ?_⟩
    have := hlit.out
    simpa [tcells, Tree.cells, hm.out] using this
theorem rparts_any : ∀ t : Tree, RPartsC t := Tree.every fun t ih => rparts_walk t ih

/-- Has a need of a kind a Like of a field? -/
def hitB (kind : Int) (field : ByteArray) (n : Nd) (t : Tree) : Bool := decide (n.kind = kind) && (decide (t.kind = 7) && decide (t.field.toList = field.toList))
def anotherU (needs : List Nd) (kind : Int) (field : ByteArray) : Bool := needs.any fun n => (partsT n.rule).any (hitB kind field n)
theorem any_drop {α : Type} {p : α → Bool} {l : List α} {q : Nat} {x : α} (hx : l[q]? = some x) : (l.drop q).any p = (p x || (l.drop (q + 1)).any p) := by
  obtain ⟨hq, he⟩ := List.getElem?_eq_some_iff.1 hx
  rw [List.drop_eq_getElem_cons hq, he, List.any_cons]
theorem another_of {needs : List Nd} {kind : Int} {field : ByteArray} (h : anotherB needs kind field) : anotherU needs kind field = true := by
  obtain ⟨n, hn, hk, t, ht, h7, hf⟩ := h
  unfold anotherU
  refine List.any_eq_true.2 ⟨n, hn, List.any_eq_true.2 ⟨t, ht, ?_⟩⟩
  unfold hitB; simp [hk, h7, hf]

set_option maxRecDepth 100000 in
set_option maxHeartbeats 3200000 in
theorem another_any (C : Array Value) (nA : Option Addr) (nl nc : Nat) (needs : List Nd) (kind : Int) (field : ByteArray) (w : World) (hC17 : Hid (C[17]? = some (.slice nA nl nc))) (hnl : Hid (needs.length = nl)) (hml : nl ≤ maxLen) (hN : Hid (NdsAt w nA needs)) (hF : Hid (FewParts needs)) :
    Calls Tryd.prog 27 #[.agg C, .int .i64 kind, .string field] w fun e w' => e = .returned (.bool (anotherU needs kind field)) ∧ Below w.heap.size w w' := by
  unfold maxLen at hml
  have hb0 := Lib.hid ((Below.refl _ w).alloc (Nat.le_refl _) (.cells C 32))
  have hbk := Lib.hid (Blk.new w 32 C)
  go_enter Tryd.func27, Tryd.ntmps27
  go_wp2_with fail
  go_loopw [7, 8, 9] (fun i _ _ wr => ∃ q : Nat, q ≤ nl ∧ i = .int .i64 q ∧ Hid (Below w.heap.size w wr) ∧ Hid (Blk wr w.heap.size 32 C) ∧ Hid (anotherU needs kind field = anotherU (needs.drop q) kind field)) (fun i _ _ _ => nl - (intOf i).toNat)
  case atStart => exact ⟨0, Nat.zero_le _, rfl, hb0, hbk, rfl⟩
  case round =>
    obtain ⟨q, hq, rfl, hB, hbk1, hs⟩ := hrel
    have c17 : wr.cell? ⟨w.heap.size, 17, none⟩ = some (.slice nA nl nc) := (hbk1.out.cell 17).trans hC17.out
    by_cases hlt : q < nl
    · obtain ⟨x, hx⟩ : ∃ x, needs[q]? = some x := ⟨_, List.getElem?_eq_getElem (by have := hnl.out; omega)⟩
      have hst : Hid (anotherU needs kind field = ((partsT x.rule).any (hitB kind field x) || anotherU (needs.drop (q + 1)) kind field)) := by unfold Hid; rw [hs.out]; unfold anotherU; rw [any_drop hx]
      have hF1 := Lib.hid (hF.out.2 x (List.mem_of_getElem? hx))
      have hx' := Lib.hid hx
      clear hx
      obtain ⟨_, hT, _, b, off, rfl, h0, h1, h2⟩ := (hN.out.below hB.out) q x hx'.out
      have hT' := Lib.hid hT
      clear hT
      obtain ⟨kd, ct, ⟨tk, tp, tf, tx, tn, tA, tc, tL⟩⟩ := x
      simp only at h0 h1 h2
      obtain ⟨g0, g1, g2, g3, g4, g5⟩ := h2
      have hcl := Lib.hid (rparts_any _ wr hT'.out (show Hid _ from Nat.le_trans hF1.out (by omega)))
      simp only [Tree.cells] at hcl
      have hF2 : Hid ((partsT (.mk tk tp tf tx tn tA tc tL)).length ≤ 60) := hF1
      have hst2 : Hid (anotherU needs kind field = ((partsT (.mk tk tp tf tx tn tA tc tL)).any (hitB kind field ⟨kd, ct, .mk tk tp tf tx tn tA tc tL⟩) || anotherU (needs.drop (q + 1)) kind field)) := hst
      obtain ⟨pt, hpt⟩ : ∃ pt, Hid (partsT (.mk tk tp tf tx tn tA tc tL) = pt) := ⟨_, rfl⟩
      rw [hpt.out] at hst2 hcl hF2
      clear hst hF1
      obtain ⟨tl, htl⟩ : ∃ m, Hid (tL.length = m) := ⟨_, rfl⟩
      rw [htl.out] at g5 hcl
      go_wp2_with fail
      refine hcl.out.mono ?_
      rintro e w1 ⟨v1, rfl, hb2, ho1⟩
      obtain ⟨A1, c1, rfl, hr0⟩ := own_trees ho1 rfl
      have hr1 := Lib.hid hr0
      have hB1 : Hid (Below w.heap.size w w1) := hB.out.trans (hb2.mono hB.out.size)
      have hbk2 := Lib.hid (hbk1.out.below hb2 hbk1.out.lt)
      have d17 : w1.cell? ⟨w.heap.size, 17, none⟩ = some (.slice (some ⟨b, off, none⟩) nl nc) := (hbk2.out.cell 17).trans hC17.out
      have hb' : b < wr.heap.size := World.block_lt_of_cell? wr _ h0
      have d0 : w1.cell? ⟨b, off + q * 8, none⟩ = some (.int .i64 kd) := (hb2.cell (p := ⟨b, off + q * 8, none⟩) hb').trans h0
      obtain ⟨pn, hpn⟩ : ∃ n, Hid (pt.length = n) := ⟨_, rfl⟩
      rw [hpn.out] at hF2 ⊢
      have hpn60 := hF2.out
      clear hb2 g0 g1 g2 g3 g4 g5 h0 h1 c17 ho1 hb' hr0
      go_wp2_with fail
      go_loopw [9] (fun k wy => ∃ r : Nat, r ≤ pn ∧ k = .int .i64 r ∧ w1 = wy ∧ Hid (anotherU needs kind field = ((pt.drop r).any (hitB kind field ⟨kd, ct, .mk tk tp tf tx tn tA tc tL⟩) || anotherU (needs.drop (q + 1)) kind field))) (fun k _ => pn - (intOf k).toNat)
      case atStart => exact ⟨0, Nat.zero_le _, rfl, rfl, hst2⟩
      case round =>
        obtain ⟨r, hr, rfl, rfl, hs2⟩ := hrel
        by_cases hlt2 : r < pn
        · obtain ⟨t, ht⟩ : ∃ x, pt[r]? = some x := ⟨_, List.getElem?_eq_getElem (by have := hpn.out; omega)⟩
          have hst3 : Hid (anotherU needs kind field = (hitB kind field ⟨kd, ct, .mk tk tp tf tx tn tA tc tL⟩ t || (pt.drop (r + 1)).any (hitB kind field ⟨kd, ct, .mk tk tp tf tx tn tA tc tL⟩) || anotherU (needs.drop (q + 1)) kind field)) := by unfold Hid; rw [hs2.out, any_drop ht]
          obtain ⟨uk, up, uf, ux, un, uA, uc, uL⟩ := t
          obtain ⟨g, o, rfl, p0, _, p2, _⟩ := hr1.out r _ ht
          clear ht
          by_cases hk1 : kd = kind
          · by_cases hk2 : uk = 7
            · by_cases hk3 : uf.toList = field.toList
              · have hr : Hid (anotherU needs kind field = true) := by unfold Hid; rw [hst3.out]; simp [hitB, Tree.kind, Tree.field, hk1, hk2, hk3]
                subst hk1 hk2
                have hbs : (uf.toList == field.toList) = true := by simp [hk3]
                go_wp2_with fail
                go_ret
                exact ⟨by rw [hr.out]; first | done | rfl, hB1.out⟩
              · have hr : Hid (anotherU needs kind field = ((pt.drop (r + 1)).any (hitB kind field ⟨kd, ct, .mk tk tp tf tx tn tA tc tL⟩) || anotherU (needs.drop (q + 1)) kind field)) := by unfold Hid; rw [hst3.out]; simp [hitB, Tree.kind, Tree.field, hk3]
                have hbs : (uf.toList == field.toList) = false := by simp [hk3]
                subst hk1 hk2
                go_wp2_with fail
                go_roundw
                case rel => exact ⟨r + 1, by omega, by go_num, trivial, hr⟩
                case measure => simp [intOf]; omega
            · have hr : Hid (anotherU needs kind field = ((pt.drop (r + 1)).any (hitB kind field ⟨kd, ct, .mk tk tp tf tx tn tA tc tL⟩) || anotherU (needs.drop (q + 1)) kind field)) := by unfold Hid; rw [hst3.out]; simp [hitB, Tree.kind, Tree.field, hk2]
              have hb2 : (uk == 7) = false := by simp [hk2]
              subst hk1
              go_wp2_with fail
              go_roundw
              case rel => exact ⟨r + 1, by omega, by go_num, trivial, hr⟩
              case measure => simp [intOf]; omega
          · have hr : Hid (anotherU needs kind field = ((pt.drop (r + 1)).any (hitB kind field ⟨kd, ct, .mk tk tp tf tx tn tA tc tL⟩) || anotherU (needs.drop (q + 1)) kind field)) := by unfold Hid; rw [hst3.out]; simp [hitB, hk1]
            have hb1 : (kd == kind) = false := by simp [hk1]
            go_wp2_with fail
            go_roundw
            case rel => exact ⟨r + 1, by omega, by go_num, trivial, hr⟩
            case measure => simp [intOf]; omega
        · have hr : Hid (anotherU needs kind field = anotherU (needs.drop (q + 1)) kind field) := by unfold Hid; rw [hs2.out, List.drop_eq_nil_of_le (by have := hpn.out; omega)]; simp
          go_wp2_with fail
          go_roundw
          case rel => exact ⟨q + 1, by omega, by go_num, hB1, hbk2, hr⟩
          case measure => simp [intOf]; omega
    · have hr : Hid (anotherU needs kind field = false) := by unfold Hid; rw [hs.out, List.drop_eq_nil_of_le (by have := hnl.out; omega)]; rfl
      go_wp2_with fail
      go_ret
      exact ⟨by rw [hr.out]; first | done | rfl, hB.out⟩


theorem quiet_blk {P : Program} {C : World → Prop} {K : Act → Prop} {o : Oper} {a : Act} (ty : TypeId) (x : Operand) (ho : o.op = .load ty x) (g : Nat) (cs : Array Value) (t : TypeId) (d : TypeDesc) (hx : a.eval x = .pointer (some ⟨g, 0, none⟩))
    (hb : ∀ w, C w → Blk w g t cs) (hu : P.underlying ty = some d) (hd : (match d with | .struct _ | .array _ _ => true | _ => false) = true) (hi : (P.info? ty).map (·.size) = some cs.size)
    (hk : K (a.put o.dst (.agg cs))) : o.quiet P a C K := by
  refine ⟨_, fun w hw => ?_, hk⟩
  unfold Oper.quietAt execOp
  simp only [ho, hx, Instr.loadAt, Instr.sureAddr, Sem.run_bind, Sem.run_pure, Result.andThen_ok, run_loadVar_row w g t ty cs (0, 0) d (hb w hw) hu hd hi]
  exact ⟨rfl, rfl⟩
theorem wpList_load_if {P : Program} {ops : Array Oper} {o : Oper} {rest : List Oper} {a : Act} {w : World} {Q : Exit → Act → World → Prop} (hw : Region.wanted o (yielded ops a.tmps) = true) (ty : TypeId) (x : Operand) (ho : o.op = .load ty x) (g : Nat) (cs : Array Value) (t : TypeId) (d : TypeDesc) (hx : a.eval x = .pointer (some ⟨g, 0, none⟩))
    (hb : Blk w g t cs) (hu : P.underlying ty = some d) (hd : (match d with | .struct _ | .array _ _ => true | _ => false) = true) (hi : (P.info? ty).map (·.size) = some cs.size)
    (h : wpList P ops Q rest (a.put o.dst (.agg cs)) w) : wpList P ops Q (o :: rest) a w := by
  rw [wpList, if_pos hw]
  exact .inl (wp_load_row ty x ho g hx t cs (0, 0) d hb hu hd hi h)
theorem below_newF (w : World) (o : Obj) : Below w.heap.size w (w.alloc o) := (Below.refl _ w).alloc (Nat.le_refl _) o
theorem nodup_ne {l : List Flt} (h : l.Nodup) {r q : Nat} {x y : Flt} (hr : l[r]? = some y) (hq : l[q]? = some x) (hlt : r < q) : eqF y x = false := by
  cases he : eqF y x with
  | false => rfl
  | true =>
    exfalso
    have he := eqF_iff.1 he
    subst he
    obtain ⟨h1, e1⟩ := List.getElem?_eq_some_iff.1 hr
    obtain ⟨h2, e2⟩ := List.getElem?_eq_some_iff.1 hq
    exact List.pairwise_iff_getElem.1 h r q h1 h2 hlt (e1.trans e2.symm)

set_option maxRecDepth 100000 in
set_option maxHeartbeats 6400000 in
theorem once_law (w : World) (c : Crd) (hO : Hid c.okC) (nA : Option Addr) (nl nc : Nat) (needs : List Nd) (hnl : Hid (needs.length = nl)) (hml : nl ≤ maxLen) (hN : Hid (NdsAt w nA needs)) (A : Option Addr) (nn cc : Nat) (docs : List Pap) (hnn : Hid (docs.length = nn)) (hmn : nn ≤ maxLen) (hD : Hid (DocsAt w A docs)) (hLD : Hid (LongD docs)) (day : Int) (hday : Hid (-9223372036854775808 ≤ day ∧ day ≤ 9223372036854775807)) (he : Hid (Env w)) :
    Calls Tryd.prog 8 #[.agg (c.cells (.slice nA nl nc)), .slice A nn cc, .int .i64 day] w fun e w' => e = .returned (.bool true) ∧ Below w.heap.size w w' := by
  have hmn' := Lib.hid hmn
  have hml' := Lib.hid hml
  clear hmn hml
  have hex0 := Lib.hid (fun W => examine_any c hO nA nl nc needs hnl A nn cc docs day hday W)
  have hCz : Hid ((c.cells (.slice nA nl nc)).size = 18) := rfl
  have hC17 : Hid ((c.cells (.slice nA nl nc))[17]? = some (.slice nA nl nc)) := rfl
  obtain ⟨C, hC⟩ : ∃ C, Hid (c.cells (.slice nA nl nc) = C) := ⟨_, rfl⟩
  rw [hC.out] at hex0 hCz hC17 ⊢
  have hsz : Hid ((Tryd.prog.info? 32).map (·.size) = some C.size) := by unfold Hid; rw [hCz.out]; kernel_rfl
  have hb0 := Lib.hid ((Below.refl _ w).alloc (Nat.le_refl _) (.cells C 32))
  have hbk0 := Lib.hid (Blk.new w 32 C)
  go_enter Tryd.func8, Tryd.ntmps8
  go_wp2_with fail
  refine (awake_any _ (he.out.below hb0.out)).mono ?_
  rintro e w1 ⟨rfl, hb1⟩
  have hB1 : Hid (Below w.heap.size w w1) := hb0.out.trans (hb1.mono (by simp))
  have hbk1 := Lib.hid (hbk0.out.below hb1 hbk0.out.lt)
  clear hb1
  go_wp2_with (refine wpList_load_blk rfl 32 (.tmp 3) rfl w.heap.size C 32 _ rfl hbk1.out Tryd.underlying32 rfl hsz.out ?_)
  refine (few_any C nA nl nc needs A nn cc docs w1 hCz hC17.out hnl hnn hml'.out hmn'.out (hN.out.below hB1.out) (hD.out.below hB1.out) hLD).mono ?_
  rintro e w2 ⟨rfl, hb2⟩
  have hB2 : Hid (Below w.heap.size w w2) := hB1.out.trans (hb2.mono hB1.out.size)
  have hbk2 := Lib.hid (hbk1.out.below hb2 hbk1.out.lt)
  clear hb2
  obtain ⟨fb, hfb⟩ : ∃ fb, Hid (fewB needs docs = fb) := ⟨_, rfl⟩
  rw [hfb.out]
  cases fb with
  | false =>
    go_wp2_with fail
    go_ret
    exact ⟨rfl, hB2.out⟩
  | true =>
    obtain ⟨_, hn12, hsd, _⟩ := few_docs hfb.out
    have hF := Lib.hid (few_parts hfb.out)
    have hsd' := Lib.hid hsd
    have hn12' : nn ≤ 12 := by have := hnn.out; omega
    clear hsd hn12
    go_wp2_with (refine wpList_load_blk rfl 32 (.tmp 3) rfl w.heap.size C 32 _ rfl hbk2.out Tryd.underlying32 rfl hsz.out ?_)
    refine (hex0.out _ (hN.out.below hB2.out) hF ⟨hnn.out, by omega, hD.out.below hB2.out, he.out.below hB2.out, hsd'.out⟩ hn12').mono ?_
    rintro e w3 ⟨A3, c3, rfl, hF3, hb3⟩
    have hbk3 := Lib.hid (hbk2.out.below hb3 hbk2.out.lt)
    have hB3 := Lib.hid (hB2.out.trans (hb3.mono hB2.out.size))
    have hF3' := Lib.hid hF3
    clear hb3 hF3
    obtain ⟨la, hla⟩ : ∃ l, Hid (examF c needs docs day = l) := ⟨_, rfl⟩
    have hs1 : Hid (∀ x ∈ la, 1 ≤ x.why ∧ x.why ≤ 6 ∧ ((x.paper = -1) ∨ ∃ (a : Nat) (d : Pap), x.paper = a ∧ docs[a]? = some d ∧ x.kind = d.kind ∧ askedB needs d.kind = true ∧ (x.why = 1 → x.field ≠ ⟨#[]⟩ → (getF d.fields x.field).isSome = true → anotherB needs x.kind x.field))) := fun x hx => exam_once (by rw [hla.out]; exact hx)
    have hnd : Hid la.Nodup := by unfold Hid; rw [← hla.out]; exact examF_nodup _ _ _ _
    have hn1' := exam_len (c := c) (day := day) hF.out (docs := docs) (by have := hnn.out; omega)
    rw [hla.out] at hF3' hn1' ⊢
    obtain ⟨n1, hn1⟩ : ∃ n, Hid (la.length = n) := ⟨_, rfl⟩
    rw [hn1.out] at hn1' ⊢
    go_wp2_with fail
    go_loopw [8, 9, 10, 11, 12] (fun i _ _ _ _ wr => ∃ q : Nat, q ≤ n1 ∧ i = .int .i64 q ∧ Hid (Below w3.heap.size w3 wr)) (fun i _ _ _ _ _ => n1 - (intOf i).toNat)
    case atStart => exact ⟨0, Nat.zero_le _, rfl, Below.refl _ _⟩
    case round =>
      obtain ⟨q, hq, rfl, hB5⟩ := hrel
      by_cases hlt : q < n1
      · obtain ⟨x, hx⟩ : ∃ x, la[q]? = some x := ⟨_, List.getElem?_eq_getElem (by have := hn1.out; omega)⟩
        have hxs := Lib.hid (hs1.out x (List.mem_of_getElem? hx))
        have hx' := Lib.hid hx
        clear hx
        obtain ⟨wo, rfl⟩ : ∃ wo : World, wo = wr := ⟨_, rfl⟩
        go_wp2_with fail
        go_loopw [9] (fun k wy => ∃ r : Nat, r ≤ q ∧ k = .int .i64 r ∧ Hid (Below w3.heap.size w3 wy)) (fun k _ => q - (intOf k).toNat)
        case atStart => exact ⟨0, Nat.zero_le _, rfl, hB5⟩
        case round =>
          obtain ⟨r, hr, rfl, hB6⟩ := hrel
          by_cases hlt2 : r < q
          · obtain ⟨y, hy⟩ : ∃ y, la[r]? = some y := ⟨_, List.getElem?_eq_getElem (by have := hn1.out; omega)⟩
            have hne := nodup_ne hnd.out hy hx'.out hlt2
            obtain ⟨yb, yo, rfl, y0, y1, y2, y3⟩ := (hF3'.out.below hB6.out) r y hy
            obtain ⟨xb, xo, exb, x0, x1, x2, x3⟩ := (hF3'.out.below hB6.out) q x hx'.out
            obtain ⟨rfl, rfl⟩ : yb = xb ∧ yo = xo := by simpa using exb
            clear hy exb
            have i1 : (r : Int) < (n1 : Int) := by omega
            have i2 : (0 : Int) ≤ (r : Int) := by omega
            have i3 : (q : Int) < (n1 : Int) := by omega
            have i4 : (0 : Int) ≤ (q : Int) := by omega
            have hqe := eq_flt y x
            rw [hne] at hqe
            have hqg := Tryd.eqg40
            go_wp2_with fail
            go_quiet (fail)
            clear hqe
            go_wp2_with fail
            go_roundw
            case rel => exact ⟨r + 1, by omega, by go_num, below_drewN hB6.out _⟩
            case measure => simp [intOf]; omega
          · obtain ⟨hw0, hw1, hcase⟩ := hxs.out
            obtain ⟨xb, xo, rfl, x0, x1, x2, x3⟩ := (hF3'.out.below hB6.out) q x hx'.out
            obtain ⟨xp, xk, xf, xw⟩ := x
            simp only at hw0 hw1 hcase x0 x1 x2 x3
            have i3 : (q : Int) < (n1 : Int) := by omega
            have i4 : (0 : Int) ≤ (q : Int) := by omega
            have b1 : decide (xw ≤ 0) = false := by simp; omega
            have b2 : decide (6 < xw) = false := by simp; omega
            clear hxs hx' hs1
            go_upto_region 15 with fail
            obtain ⟨wq, hwq⟩ : ∃ W, W = wr.alloc (.cells #[.int .i64 xp, .int .i64 xk, .string xf, .int .i64 xw] 40) := ⟨_, rfl⟩
            have hnb : Below wr.heap.size wr wq := by rw [hwq]; exact below_newF _ _
            have hnk : Hid (Blk wq wr.heap.size 40 #[.int .i64 xp, .int .i64 xk, .string xf, .int .i64 xw]) := by unfold Hid; rw [hwq]; exact Blk.new _ _ _
            rw [← hwq]
            clear hwq
            have hB7 : Hid (Below w3.heap.size w3 wq) := hB6.out.trans (hnb.mono hB6.out.size)
            have hB7w : Hid (Below w.heap.size w wq) := hB3.out.trans (hB7.out.mono hB3.out.size)
            have hbk7 := Lib.hid (hbk3.out.below hB7.out hbk3.out.lt)
            obtain ⟨fg, hfg⟩ : ∃ g, Hid (wr.heap.size = g) := ⟨_, rfl⟩
            rw [hfg.out] at hnk ⊢
            have e0 : wq.cell? ⟨fg, 0, none⟩ = _ := hnk.out.cell 0
            have e1 : wq.cell? ⟨fg, 1, none⟩ = _ := hnk.out.cell 1
            have e2 : wq.cell? ⟨fg, 2, none⟩ = _ := hnk.out.cell 2
            have e3 : wq.cell? ⟨fg, 3, none⟩ = _ := hnk.out.cell 3
            simp only [List.getElem?_toArray, List.getElem?_cons_zero, List.getElem?_cons_succ] at e0 e1 e2 e3
            clear x0 x1 x2 x3 hnb i3 i4
            rcases hcase with rfl | ⟨a, d, rfl, hd, rfl, has, hlk⟩
            · have b4 : decide ((nn : Int) ≤ -1) = false := by simp; omega
              go_wp2_with fail
              refine wp_region_ext (by kernel_rfl) (by kernel_rfl) ?_
              have f0 : ∀ y : Ext wq, y.wd.cell? ⟨fg, 0, none⟩ = some (.int .i64 (-1)) := fun y => (y.cell ⟨fg, 0, none⟩ hnk.out.lt).trans e0
              repeat (go_big_quiet_step (fail))
              refine wpQuiet_nil ?_
              rintro _ ⟨y, rfl⟩
              have g0 : y.wd.cell? ⟨fg, 0, none⟩ = some (.int .i64 (-1)) := f0 y
              have hBy : Hid (Below w3.heap.size w3 y.wd) := hB7.out.trans (y.below.mono hB7.out.size)
              clear e0 e1 e2 e3 f0
              go_wp2_with fail
              go_roundw
              case rel => exact ⟨q + 1, by omega, by first | rfl | go_num, hBy⟩
              case measure => simp [intOf]; omega
            · have hda : (a : Int) < (nn : Int) := by have := (List.getElem?_eq_some_iff.1 hd).1; have := hnn.out; omega
              have b4 : decide ((nn : Int) ≤ (a : Int)) = false := decide_eq_false (by omega)
              have b5 : decide ((a : Int) < -1) = false := decide_eq_false (by omega)
              have hD7 := Lib.hid (hD.out.below hB7w.out)
              obtain ⟨b, off, rfl, d0, d1, d2, d3, hfd, hfl, _⟩ := hD7.out a d hd
              go_wp2_with fail
              have hask : Hid (∀ y : Ext wq, Calls Tryd.prog 22 #[.agg C, .int .i64 d.kind] y.wd fun e w' => e = .returned (.bool true) ∧ Below y.wd.heap.size y.wd w') := fun y => by
                have := asked_any C nA nl nc needs d.kind y.wd hC17 hnl hml'.out (hN.out.below (hB7w.out.trans (y.below.mono hB7w.out.size)))
                rw [has] at this
                exact this
              have f0 : ∀ y : Ext wq, y.wd.cell? ⟨fg, 0, none⟩ = some (.int .i64 (a : Int)) := fun y => (y.cell ⟨fg, 0, none⟩ hnk.out.lt).trans e0
              have f1 : ∀ y : Ext wq, y.wd.cell? ⟨fg, 1, none⟩ = some (.int .i64 d.kind) := fun y => (y.cell ⟨fg, 1, none⟩ hnk.out.lt).trans e1
              have f2 : ∀ y : Ext wq, y.wd.cell? ⟨fg, 2, none⟩ = some (.string xf) := fun y => (y.cell ⟨fg, 2, none⟩ hnk.out.lt).trans e2
              have f3 : ∀ y : Ext wq, y.wd.cell? ⟨fg, 3, none⟩ = some (.int .i64 xw) := fun y => (y.cell ⟨fg, 3, none⟩ hnk.out.lt).trans e3
              have hbq : b < wq.heap.size := World.block_lt_of_cell? wq _ d0
              have c0 : ∀ y : Ext wq, y.wd.cell? ⟨b, off + a * 4, none⟩ = some (.int .i64 d.kind) := fun y => (y.cell ⟨b, off + a * 4, none⟩ hbq).trans d0
              have c3 : ∀ y : Ext wq, y.wd.cell? ⟨b, off + a * 4 + 3, none⟩ = some (.slice d.fA d.fields.length d.fc) := fun y => (y.cell ⟨b, off + a * 4 + 3, none⟩ hbq).trans d3
              have hfd' := Lib.hid hfd
              clear d0 d1 d2 d3 hfd e0 e1 e2 e3
              obtain ⟨fl, hfl0⟩ : ∃ n, Hid (d.fields.length = n) := ⟨_, rfl⟩
              rw [hfl0.out] at c3 hfl
              refine wp_region_ext (by kernel_rfl) (by kernel_rfl) ?_
              repeat (first
                | (go_big_quiet_want; (refine quiet_blk 32 (.tmp 3) rfl w.heap.size C 32 _ rfl (by rintro _ ⟨y, rfl⟩; exact hbk7.out.below y.below hbk7.out.lt) Tryd.underlying32 rfl hsz.out ?_); go_big_quiet_on; simp only [Act.put, List.setIfInBounds_toArray, List.set_cons_zero, List.set_cons_succ])
                | go_big_quiet_step ((go_at_call 22; exact Calls.ext_of (hask.out _))))
              refine wpQuiet_nil ?_
              rintro _ ⟨y, rfl⟩
              have g0 := f0 y
              have g1 := f1 y
              have g2 := f2 y
              have g3 := f3 y
              have k3 := c3 y
              have hby := Lib.hid y.below
              obtain ⟨ws, hws⟩ : ∃ w6, y.wd = w6 := ⟨_, rfl⟩
              rw [hws] at g0 g1 g2 g3 k3 hby ⊢
              clear hws y f0 f1 f2 f3 c0 c3
              have hB8 : Hid (Below w3.heap.size w3 ws) := hB7.out.trans (hby.out.mono hB7.out.size)
              have hfs : fg < ws.heap.size := World.block_lt_of_cell? ws _ g0
              have hbs : b < ws.heap.size := World.block_lt_of_cell? ws _ k3
              have hfd8 := Lib.hid (hfd'.out.below hby.out)
              by_cases h1 : xw = 1
              · subst h1
                by_cases hem : xf.toList = []
                · have hem' : (xf.toList == []) = true := by simp [hem]
                  go_wp2_with fail
                  go_roundw
                  case rel => exact ⟨q + 1, by omega, by first | rfl | go_num, hB8⟩
                  case measure => simp [intOf]; omega
                · have hem' : (xf.toList == []) = false := by simp [hem]
                  go_wp2_with fail
                  have hGet : Hid (∀ y : Ext ws, Calls Tryd.prog 26 #[.slice d.fA fl d.fc, .string xf] y.wd fun e w' => e = .returned (.tuple #[.string (getV d.fields xf), .bool (getB d.fields xf)]) ∧ Below y.wd.heap.size y.wd w') := fun y => getR_any d.fA fl d.fc d.fields xf y.wd hfl hfl0 (hfd8.out.below y.below)
                  have p0 : ∀ y : Ext ws, y.wd.cell? ⟨fg, 0, none⟩ = some (.int .i64 (a : Int)) := fun y => (y.cell ⟨fg, 0, none⟩ hfs).trans g0
                  have p1 : ∀ y : Ext ws, y.wd.cell? ⟨fg, 1, none⟩ = some (.int .i64 d.kind) := fun y => (y.cell ⟨fg, 1, none⟩ hfs).trans g1
                  have p2 : ∀ y : Ext ws, y.wd.cell? ⟨fg, 2, none⟩ = some (.string xf) := fun y => (y.cell ⟨fg, 2, none⟩ hfs).trans g2
                  have q3 : ∀ y : Ext ws, y.wd.cell? ⟨b, off + a * 4 + 3, none⟩ = some (.slice d.fA fl d.fc) := fun y => (y.cell ⟨b, off + a * 4 + 3, none⟩ hbs).trans k3
                  obtain ⟨gv, hgv⟩ : ∃ v, Hid (getV d.fields xf = v) := ⟨_, rfl⟩
                  obtain ⟨gb, hgb⟩ : ∃ v, Hid (getB d.fields xf = v) := ⟨_, rfl⟩
                  rw [hgv.out, hgb.out] at hGet
                  refine wp_region_ext (by kernel_rfl) (by kernel_rfl) ?_
                  repeat (go_big_quiet_step ((go_at_call 26; exact Calls.ext_of (hGet.out _))))
                  refine wpQuiet_nil ?_
                  rintro _ ⟨y, rfl⟩
                  have r1 := p1 y
                  have r2 := p2 y
                  have hbz := Lib.hid y.below
                  obtain ⟨wz, hwz⟩ : ∃ w6, y.wd = w6 := ⟨_, rfl⟩
                  rw [hwz] at r1 r2 hbz ⊢
                  clear hwz y p0 p1 p2 q3 g0 g1 g2 g3 k3 hGet
                  have hB9 : Hid (Below w3.heap.size w3 wz) := hB8.out.trans (hbz.out.mono hB8.out.size)
                  have hB9w : Hid (Below w.heap.size w wz) := hB3.out.trans (hB9.out.mono hB3.out.size)
                  have hbk9 := Lib.hid (hbk3.out.below hB9.out hbk3.out.lt)
                  cases gb with
                  | false =>
                    go_wp2_with fail
                    go_roundw
                    case rel => exact ⟨q + 1, by omega, by first | rfl | go_num, hB9⟩
                    case measure => simp [intOf]; omega
                  | true =>
                    have han := another_any C nA nl nc needs d.kind xf wz hC17 hnl hml'.out (hN.out.below hB9w.out) hF
                    rw [another_of (hlk (by trivial) (fun h => hem (by rw [h, ba_list])) hgb.out)] at han
                    have han' := Lib.hid han
                    clear han
                    go_wp2_with (refine wpList_load_if rfl 32 (.tmp 3) rfl w.heap.size C 32 _ rfl hbk9.out Tryd.underlying32 rfl hsz.out ?_)
                    refine han'.out.mono ?_
                    rintro e wv ⟨rfl, hbv⟩
                    have hBv : Hid (Below w3.heap.size w3 wv) := hB9.out.trans (hbv.mono hB9.out.size)
                    clear hbv r1 r2
                    go_wp2_with fail
                    go_roundw
                    case rel => exact ⟨q + 1, by omega, by first | rfl | go_num, hBv⟩
                    case measure => simp [intOf]; omega
              · have h1' : (xw == 1) = false := by simp [h1]
                go_wp2_with fail
                go_roundw
                case rel => exact ⟨q + 1, by omega, by first | rfl | go_num, hB8⟩
                case measure => simp [intOf]; omega
      · have hBe := Lib.hid (hB3.out.trans (hB5.out.mono hB3.out.size))
        go_wp2_with fail
        go_ret
        exact ⟨rfl, hBe.out⟩
end Go.Proofs.YtpnkpnocipkedaaDoor

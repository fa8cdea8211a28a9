/- The parts of a rule, one by one: the walk of parts. -/
import Derived.Test.YtdjmckjbibfecaaGreatDoorEd
namespace Go.Proofs.YtdjmckjbibfecaaGreatDoor
open Go Go.RowKit Go.BigFrame Go.Maps

theorem partsL_snoc : ∀ {L : List Tree} {q : Nat} {t : Tree}, L[q]? = some t → partsL (L.take (q + 1)) = partsL (L.take q) ++ partsT t
  | [], q, t, h => by simp at h
  | u :: L, 0, t, h => by
    simp at h; subst h
    simp [partsL]
  | u :: L, q + 1, t, h => by
    have ih := partsL_snoc (L := L) (q := q) (t := t) (by simpa using h)
    rw [List.take_succ_cons, partsL, ih, List.take_succ_cons, partsL, List.append_assoc]
theorem partsL_len : ∀ (L : List Tree) (q : Nat), (partsL (L.take q)).length ≤ (partsL L).length
  | [], q => by simp
  | u :: L, 0 => by simp [partsL]
  | u :: L, q + 1 => by
    have := partsL_len L q
    rw [List.take_succ_cons, partsL, partsL, List.length_append, List.length_append]; omega
theorem ruleF_le (docs : List Pap) (a : Int) (d : Pap) (t : Tree) : (ruleF docs a d t).length ≤ 1 := by unfold ruleF; split <;> simp
theorem flat_le {α β : Type} (g : α → List β) (h : ∀ x, (g x).length ≤ 1) : ∀ L : List α, (L.flatMap g).length ≤ L.length
  | [] => by simp
  | x :: L => by
    have := flat_le g h L
    have := h x
    simp only [List.flatMap_cons, List.length_append, List.length_cons]; omega
/-- What the parts of a rule tell. -/
def partF (docs : List Pap) (a : Int) (d : Pap) (L : List Tree) : List Flt := L.flatMap (ruleF docs a d)
theorem partF_len (docs : List Pap) (a : Int) (d : Pap) (L : List Tree) : (partF docs a d L).length ≤ L.length := flat_le _ (ruleF_le docs a d) L
def PartsC (w0 : World) (ct cf bm xb : Nat) (X : Array Value) (docs : List Pap) (a : Nat) (d : Pap) (pb ab kb : Nat) (t : Tree) : Prop :=
  ∀ (w : World) (v : Value) (l : List Flt), Hid (TreeAt w0 t) → Hid (LongT t) → l.length + (partsT t).length ≤ 100000 → Hid (ExS w0 ct cf bm xb X w v l) → Hid (Blk w pb 91 #[.pointer (some ⟨xb, 0, none⟩)]) → Hid (Blk w ab 3 #[.int .i64 a]) → Hid (Blk w kb 3 #[.int .i64 d.kind]) →
    Calls Tryz.prog 108 #[.agg t.cells, .func (Fn.func 109) #[] #[.pointer (some ⟨pb, 0, none⟩), .pointer (some ⟨ab, 0, none⟩), .pointer (some ⟨kb, 0, none⟩)]] w (Ted w0 ct cf bm xb X (addAll l (partF docs a d (partsT t))) w)

set_option maxRecDepth 100000 in
set_option maxHeartbeats 3200000 in
theorem parts_walk (w0 : World) (ct cf bm xb : Nat) (C : Array Value) (hC : Hid (C.size = 18)) (A : Option Addr) (nn cc : Nat) (docs : List Pap) (day : Int) (a : Nat) (d : Pap) (pb ab kb : Nat) (hd : Hid (docs[a]? = some d)) (hR : Hid (Room w0 A nn docs)) (t : Tree)
    (ih : Hid (∀ u ∈ t.sub, PartsC w0 ct cf bm xb (exX C A nn cc day ct cf) docs a d pb ab kb u)) : PartsC w0 ct cf bm xb (exX C A nn cc day ct cf) docs a d pb ab kb t := by
  intro w v l hT hL hlen hx hp ha hk
  have hp1 := Lib.hid (part1_any w0 ct cf bm xb C hC A nn cc docs day a d pb ab kb hd t hT hL hR)
  have hLs := Lib.hid (allT_sub hL.out)
  obtain ⟨k, p, f, x, n, A', c', L⟩ := t
  simp only [Tree.cells] at hp1 ⊢
  simp only [Tree.sub] at ih hLs
  obtain ⟨m, hm⟩ : ∃ m, Hid (L.length = m) := ⟨_, rfl⟩
  rw [hm.out] at hp1 ⊢
  obtain ⟨hrows, hml⟩ := rows_sub hT.out
  rw [hm.out] at hml
  unfold maxLen at hml
  have hrows' := Lib.hid hrows
  clear hrows
  have hb0 := Lib.hid ((Below.refl _ w).alloc (Nat.le_refl _) (.cells #[.int .i64 k, .int .i64 p, .string f, .string x, .int .i64 n, .slice A' m c'] 24))
  have hx0 := Lib.hid (hx.out.belows hb0.out)
  have hpb0 := Lib.hid (hp.out.below hb0.out hp.out.lt)
  have hab0 := Lib.hid (ha.out.below hb0.out ha.out.lt)
  have hkb0 := Lib.hid (hk.out.below hb0.out hk.out.lt)
  by_cases hk0 : k = 0
  · have hpt : Hid (partsT (.mk k p f x n A' c' L) = partsL L) := by unfold Hid; rw [partsT, if_pos hk0]
    rw [hpt.out] at hlen
    have hlen' := Lib.hid hlen
    clear hlen
    have b0 : (k != 0) = false := by simp [hk0]
    clear hk0
    go_enter Tryz.func108, Tryz.ntmps108
    go_wp2_with fail
    go_loopw [5, 15] (fun _ i wr => ∃ (q : Nat) (v' : Value), q ≤ m ∧ i = .int .i64 q ∧ Hid (ExS w0 ct cf bm xb (exX C A nn cc day ct cf) wr v' (addAll l (partF docs a d (partsL (L.take q))))) ∧ Hid (Tld w0.heap.size cf bm w wr) ∧ Hid (Blk wr pb 91 #[.pointer (some ⟨xb, 0, none⟩)]) ∧ Hid (Blk wr ab 3 #[.int .i64 a]) ∧ Hid (Blk wr kb 3 #[.int .i64 d.kind])) (fun _ i _ => m - (intOf i).toNat)
    case atStart => exact ⟨0, v, Nat.zero_le _, rfl, by rw [List.take_zero, partsL]; exact hx0.out, Tld.of_below hb0.out, hpb0, hab0, hkb0⟩
    case round =>
      obtain ⟨q, v', hq, rfl, hx1, hB1, hpb1, hab1, hkb1⟩ := hrel
      by_cases hlt : q < m
      · obtain ⟨t, ht⟩ : ∃ t, L[q]? = some t := ⟨_, List.getElem?_eq_getElem (by have := hm.out; omega)⟩
        have hmem := Lib.hid (List.mem_of_getElem? ht)
        have ht' := Lib.hid ht
        clear ht
        obtain ⟨hc, _⟩ := (hrows'.out.below hx1.out.below).get q t ht'.out
        have hT0 := Lib.hid (hrows'.out.get q t ht'.out).2
        have hsn := Lib.hid (partsL_snoc ht'.out)
        have hle : (addAll l (partF docs a d (partsL (L.take q)))).length + (partsT t).length ≤ 100000 := by
          have h1 := addAll_len (partF docs a d (partsL (L.take q))) l
          have h2 := partF_len docs a d (partsL (L.take q))
          have h3 := partsL_len L (q + 1)
          rw [hsn.out, List.length_append] at h3
          have := hlen'.out; omega
        have hle' := Lib.hid hle
        clear hle
        obtain ⟨tk, tp, tf, tx, tn, tA, tc, tL⟩ := t
        obtain ⟨b, off, rfl, h0, h1, h2, h3, h4, h5⟩ := hc
        rw [Nat.zero_add] at h0 h1 h2 h3 h4 h5
        go_wp2_with fail
        have hbA := Lib.hid ((Below.refl _ wr).alloc (Nat.le_refl _) (.cells #[.int .i64 tk, .int .i64 tp, .string tf, .string tx, .int .i64 tn, .slice tA tL.length tc] 24))
        refine (ih.out _ hmem.out _ v' _ hT0 (hLs.out _ hmem.out) hle'.out (hx1.out.belows hbA.out) (hpb1.out.below hbA.out hpb1.out.lt) (hab1.out.below hbA.out hab1.out.lt) (hkb1.out.below hbA.out hkb1.out.lt)).mono ?_
        rintro e w2 ⟨rfl, v2, hx2, hT2⟩
        have hxA := hx1.out.belows hbA.out
        have hpb2 := Lib.hid (hxA.keep hT2 (hpb1.out.below hbA.out hpb1.out.lt) (by decide) (by decide))
        have hab2 := Lib.hid (hxA.keep hT2 (hab1.out.below hbA.out hab1.out.lt) (by decide) (by decide))
        have hkb2 := Lib.hid (hxA.keep hT2 (hkb1.out.below hbA.out hkb1.out.lt) (by decide) (by decide))
        have hB2 := Lib.hid (hB1.out.trans ((Tld.of_below hbA.out).trans hT2))
        have hx2' : Hid (ExS w0 ct cf bm xb (exX C A nn cc day ct cf) w2 v2 (addAll l (partF docs a d (partsL (L.take (q + 1)))))) := by
          unfold Hid
          rw [hsn.out, partF, List.flatMap_append, addAll_app]; exact hx2
        clear hx2 hT2 hxA h0 h1 h2 h3 h4 h5
        go_wp2_with fail
        go_roundw
        case rel => exact ⟨q + 1, v2, by omega, by go_num, hx2', hB2, hpb2, hab2, hkb2⟩
        case measure => simp [intOf]; omega
      · obtain rfl : q = m := by omega
        rw [List.take_of_length_le (by have := hm.out; omega)] at hx1
        go_wp2_with fail
        go_end0
        exact ⟨rfl, v', by rw [hpt.out]; exact hx1.out, hB1.out⟩
  · have hpt : Hid (partsT (.mk k p f x n A' c' L) = [.mk k p f x n A' c' L]) := by unfold Hid; rw [partsT, if_neg hk0]
    rw [hpt.out] at hlen
    simp only [List.length_cons, List.length_nil] at hlen
    have b0 : (k != 0) = true := by simp [hk0]
    clear hk0
    go_enter Tryz.func108, Tryz.ntmps108
    go_wp2_with fail
    refine (hp1.out _ v l (by omega) hx0 hpb0 hab0 hkb0).mono ?_
    rintro e w2 ⟨rfl, v2, hx2, hT2⟩
    have hx2' := Lib.hid hx2
    have hT2' := Lib.hid hT2
    clear hx2 hT2
    go_wp2_with fail
    go_end0
    exact ⟨rfl, v2, by rw [hpt.out]; simpa [partF] using hx2'.out, (Tld.of_below hb0.out).trans hT2'.out⟩
theorem parts_any (w0 : World) (ct cf bm xb : Nat) (C : Array Value) (hC : Hid (C.size = 18)) (A : Option Addr) (nn cc : Nat) (docs : List Pap) (day : Int) (a : Nat) (d : Pap) (pb ab kb : Nat) (hd : Hid (docs[a]? = some d)) (hR : Hid (Room w0 A nn docs)) :
    ∀ t : Tree, PartsC w0 ct cf bm xb (exX C A nn cc day ct cf) docs a d pb ab kb t :=
  Tree.every fun t ih => parts_walk w0 ct cf bm xb C hC A nn cc docs day a d pb ab kb hd hR t ih
end Go.Proofs.YtdjmckjbibfecaaGreatDoor

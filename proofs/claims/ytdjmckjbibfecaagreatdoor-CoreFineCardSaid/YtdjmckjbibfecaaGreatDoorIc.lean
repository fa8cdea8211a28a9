/- core.Mend where nothing is to be mended. -/
import Derived.Test.YtdjmckjbibfecaaGreatDoorDb
import Derived.Test.YtdjmckjbibfecaaGreatDoorIb
namespace Go.Proofs.YtdjmckjbibfecaaGreatDoor
open Go Go.RowKit Go.BigFrame Go.Maps

theorem flD_set3 : ∀ (l : List Pap) (k : Nat) (x : Pap) (A : Option Addr) (c : Nat), l[k]? = some x → (flD l).set (k * 4 + 3) (.slice A x.fields.length c) = flD (l.set k ⟨x.kind, x.number, x.issuer, A, c, x.fields⟩)
  | [], k, x, A, c, h => by simp at h
  | y :: l, 0, x, A, c, h => by simp at h; subst h; simp [flD, encD]
  | y :: l, k + 1, x, A, c, h => by
    have := flD_set3 l k x A c (by simpa using h)
    rw [show (k + 1) * 4 + 3 = k * 4 + 3 + 1 + 1 + 1 + 1 by omega]
    simp only [flD, List.flatMap_cons, encD, List.cons_append, List.nil_append, List.set_cons_succ] at this ⊢
    rw [this]
/-- The copied papers, so far. -/
structure MendS (w0 wr : World) (A : Option Addr) (nn c : Nat) (docs l : List Pap) : Prop where
  below : Below w0.heap.size w0 wr
  own : wr.ownsRow w0.heap.size 61 4 (.slice A nn c) nn (flD l)
  same : sameD l docs
  flds : ∀ x ∈ l, FieldsAt wr x.fA x.fields
  away : ∀ x ∈ l, x.fields ≠ [] → ∀ b off, x.fA = some ⟨b, off, none⟩ → A ≠ some ⟨b, 0, none⟩
theorem fields_far {w w' : World} {g : Nat} {A : Option Addr} {l : List Fld} (h : FieldsAt w A l) (hg : w.grownBy w' (some g)) (hne : l ≠ [] → ∀ b off, A = some ⟨b, off, none⟩ → b ≠ g) : FieldsAt w' A l := by
  intro k x hx
  obtain ⟨b, off, e, h0, h1⟩ := h k x hx
  have hb := hne (by rintro rfl; simp at hx) b off e
  have hk : ∀ p : Addr, p.block = b → w'.cell? p = w.cell? p := fun p hp => hg.cell_far p (by rw [hp]; exact World.block_lt_of_cell? w _ h0) (by rw [hp]; simp; exact hb)
  exact ⟨b, off, e, by rw [hk _ rfl]; exact h0, by rw [hk _ rfl]; exact h1⟩
theorem MendS.step {w0 wr w6 : World} {g nn c k c2 : Nat} {docs l : List Pap} {x : Pap} {A2 : Option Addr} (h : MendS w0 wr (some ⟨g, 0, none⟩) nn c docs l) (hx : l[k]? = some x) (hg0 : w0.heap.size ≤ g) (hg1 : g < wr.heap.size) (hb : Below wr.heap.size wr w6)
    (ho : w6.ownsRow wr.heap.size 108 2 (.slice A2 x.fields.length c2) x.fields.length (flF x.fields)) :
    MendS w0 (w6.setCell ⟨g, k * 4 + 3, none⟩ (.slice A2 x.fields.length c2)) (some ⟨g, 0, none⟩) nn c docs (l.set k ⟨x.kind, x.number, x.issuer, A2, c2, x.fields⟩) := by
  have o6 := own_below h.own hb
  have st := o6.stored (k * 4 + 3) (.slice A2 x.fields.length c2)
  rw [flD_set3 l k x A2 c2 hx] at st
  have hkl := (List.getElem?_eq_some_iff.1 hx).1
  have hA2 : x.fields ≠ [] → ∀ b off, A2 = some ⟨b, off, none⟩ → wr.heap.size ≤ b := fun hne b off e => by
    obtain ⟨g', c', e', h1, _⟩ := own_formS ho (List.length_pos_iff.2 hne)
    rw [e] at e'
    simp only [Value.slice.injEq, Option.some.injEq, Addr.mk.injEq, and_true, true_and] at e'
    rw [e'.1.1]; exact h1
  obtain ⟨A9, c9, e9, _, hF9⟩ := fields_of_own ho rfl
  simp only [Value.slice.injEq, true_and] at e9
  obtain ⟨rfl, rfl⟩ := e9
  refine ⟨(h.below.trans (hb.mono h.below.size)).setCell hg0 _, st.1, ⟨by rw [List.length_set]; exact h.same.1, fun i y z hy hz => ?_⟩, fun y hy => ?_, fun y hy hne b off e => ?_⟩
  · rw [List.getElem?_set] at hy
    split at hy
    · rename_i hi
      subst hi
      obtain rfl := Option.some.inj hy
      exact h.same.2 k x z hx hz
    · exact h.same.2 i y z hy hz
  · rcases List.mem_or_eq_of_mem_set hy with hy | rfl
    · exact fields_far ((h.flds y hy).below hb) st.2 fun hne b off e hbg => by
        subst hbg
        exact h.away y hy hne b off e rfl
    · exact fields_far hF9 st.2 fun hne b off e => by have := hA2 hne b off e; omega
  · rcases List.mem_or_eq_of_mem_set hy with hy | rfl
    · exact h.away y hy hne b off e
    · intro hc
      simp only [Option.some.injEq, Addr.mk.injEq, and_true] at hc
      have := hA2 hne b off e
      omega

set_option maxRecDepth 100000 in
set_option maxHeartbeats 3200000 in
theorem mend_none (w : World) (C : Array Value) (hsz : Hid ((Tryz.prog.info? 46).map (·.size) = some C.size)) (A : Option Addr) (nn cc : Nat) (docs : List Pap) (day : Int) (hnn : Hid (docs.length = nn)) (hn12 : nn ≤ 12) (hD : Hid (DocsAt w A docs)) (hfl : Hid (∀ x ∈ docs, x.fields.length ≤ 1000000))
    (hex : Hid (∀ W A' c' docs', Below w.heap.size w W → DocsAt W A' docs' → sameD docs' docs → ∃ L : List Flt, L.length ≤ 20000 ∧ (∀ x ∈ L, x.fits) ∧ Calls Tryz.prog 21 #[.agg C, .slice A' nn c', .int .i64 day] W (FaultedC W L))) :
    Calls Tryz.prog 31 #[.agg C, .slice A nn cc, .int .i64 day, .slice none 0 0] w fun e w' => ∃ A' c' docs', e = .returned (.tuple #[.slice A' nn c', .bool true]) ∧ sameD docs' docs ∧ DocsAt w' A' docs' ∧ Below w.heap.size w w' := by
  obtain ⟨w1, hw1⟩ : ∃ X, Hid (w.alloc (.cells C 46) = X) := ⟨_, rfl⟩
  have hb1 : Hid (Below w.heap.size w w1) := by rw [← hw1.out]; exact (Below.refl _ w).alloc (Nat.le_refl _) _
  have hbk1 : Hid (Blk w1 w.heap.size 46 C) := by rw [← hw1.out]; exact Lib.hid (Blk.new _ _ _)
  have hcl := Lib.hid (cloneD_any A nn cc docs w1 (by omega) hnn (Lib.hid (hD.out.below hb1.out)))
  go_enter Tryz.func31, Tryz.ntmps31
  go_wp2_with (rw [hw1.out])
  refine hcl.out.mono ?_
  rintro e w2 ⟨v, rfl, ho2, hb2⟩
  obtain ⟨A1, c1, rfl⟩ := own_form ho2
  have hM2 : Hid (MendS w1 w2 A1 nn c1 docs docs) := by
    refine Lib.hid ⟨hb2, ho2, ⟨rfl, fun i x y hx hy => by rw [hx] at hy; obtain rfl := Option.some.inj hy; exact ⟨rfl, rfl, rfl, rfl⟩⟩, fun x hx => ?_, fun x hx hne b off e => ?_⟩
    · obtain ⟨i, hi⟩ := List.getElem?_of_mem hx
      obtain ⟨_, _, _, _, _, _, _, hF, _⟩ := hD.out i x hi
      exact (hF.below hb1.out).below hb2
    · obtain ⟨i, hi⟩ := List.getElem?_of_mem hx
      obtain ⟨_, _, _, _, _, _, _, hF, _⟩ := hD.out i x hi
      obtain ⟨f, hf⟩ : ∃ f, x.fields[0]? = some f := ⟨_, List.getElem?_eq_getElem (List.length_pos_iff.2 hne)⟩
      obtain ⟨b', off', e', h0, _⟩ := hF 0 f hf
      rw [e] at e'
      simp only [Option.some.injEq, Addr.mk.injEq, and_true] at e'
      obtain ⟨rfl, rfl⟩ := e'
      have hlt := World.block_lt_of_cell? w _ h0
      have := hb1.out.size
      rintro rfl
      obtain ⟨g', c', e', h1, _⟩ := own_formS ho2 (by have := hnn.out; have := (List.getElem?_eq_some_iff.1 hi).1; omega)
      simp only [Value.slice.injEq, Option.some.injEq, Addr.mk.injEq, and_true, true_and] at e'
      have h5 : b < w.heap.size := hlt
      omega
  have hbk2 : Hid (Blk w2 w.heap.size 46 C) := Lib.hid (hbk1.out.below hb2 hbk1.out.lt)
  clear hcl ho2 hb2
  go_wp2_with fail
  go_loopw [11, 22] (fun _ i wr => ∃ k : Nat, k ≤ nn ∧ i = .int .i64 (k : Int) ∧ ∃ l, Hid (MendS w1 wr A1 nn c1 docs l)) (fun _ i _ => nn - (intOf i).toNat)
  case atStart => exact ⟨0, Nat.zero_le _, rfl, docs, hM2⟩
  case round =>
    clear hM2 hbk2
    obtain ⟨k, hk, rfl, l, hM⟩ := hrel
    have hln : l.length = nn := hM.out.same.1.trans hnn.out
    by_cases hlt : k < nn
    · as_aux_lemma =>
      obtain ⟨g, cap, hv, hg0, hg1⟩ := hM.out.own.form (by omega)
      simp only [Value.slice.injEq, true_and] at hv
      obtain ⟨rfl, rfl⟩ := hv
      obtain ⟨x, hx⟩ : ∃ x, l[k]? = some x := ⟨_, List.getElem?_eq_getElem (by omega)⟩
      obtain ⟨d, hd⟩ : ∃ d, docs[k]? = some d := ⟨_, List.getElem?_eq_getElem (by have := hnn.out; omega)⟩
      have hsm := hM.out.same.2 k x d hx hd
      obtain ⟨nf, hnf⟩ : ∃ z, Hid (x.fields.length = z) := ⟨_, rfl⟩
      have hnf6 : nf ≤ 1000000 := by have := hfl.out d (List.mem_of_getElem? hd); rw [← hsm.2.2.2, hnf.out] at this; exact this
      have hce : wr.cell? ⟨g, k * 4 + 3, none⟩ = some (.slice x.fA nf x.fc) := by
        rw [hM.out.own.cellAt (k * 4 + 3) (by omega)]
        exact (fm_get encD_len l k 3 (by decide)).trans (by rw [hx, ← hnf.out]; rfl)
      have hcl := Lib.hid (clone_any x.fA nf x.fc x.fields wr hnf6 hnf (Lib.hid (hM.out.flds x (List.mem_of_getElem? hx))))
      have i1 : (k : Int) < (nn : Int) := by omega
      have hkm : decide (k < nn) = true := decide_eq_true hlt
      have hx' := Lib.hid hx
      clear hx hd hsm
      go_wp2_with fail
      refine hcl.out.mono ?_
      rintro e w6 ⟨v6, rfl, ho6, hb6⟩
      obtain ⟨A2, c2, rfl⟩ := own_form ho6
      have hM6 : Hid (MendS w1 (w6.setCell ⟨g, k * 4 + 3, none⟩ (.slice A2 nf c2)) (some ⟨g, 0, none⟩) nn c1 docs (l.set k ⟨x.kind, x.number, x.issuer, A2, c2, x.fields⟩)) := by
        have := hM.out.step hx'.out hg0 hg1 hb6 (A2 := A2) (c2 := c2) (by rw [hnf.out]; exact ho6)
        rw [hnf.out] at this
        exact Lib.hid this
      have o6 := Lib.hid (own_below hM.out.own hb6)
      have hfr : w6.frozen? ⟨g, k * 4 + 3, none⟩ = false := o6.out.frozenAt _
      have hce6 : w6.cell? ⟨g, k * 4 + 3, none⟩ = some (.slice x.fA nf x.fc) := (hb6.cell (World.block_lt_of_cell? wr _ hce)).trans hce
      clear ho6 hb6 hce hcl
      go_wp2_with fail
      go_roundw
      case rel => exact ⟨k + 1, by omega, by go_num, _, hM6⟩
      case measure => simp [intOf]; omega
    · have hkm : decide (k < nn) = false := decide_eq_false hlt
      have hBr : Hid (Below w.heap.size w wr) := hb1.out.trans (hM.out.below.mono hb1.out.size)
      have hbkr : Hid (Blk wr w.heap.size 46 C) := Lib.hid (hbk1.out.below hM.out.below hbk1.out.lt)
      have hDr : Hid (DocsAt wr A1 l) := by
        obtain ⟨A9, c9, e9, _, hr9⟩ := RowOf.of_own encD_len hM.out.own hln
        simp only [Value.slice.injEq, true_and] at e9
        obtain ⟨rfl, rfl⟩ := e9
        refine Lib.hid (DocsAt.of_row hr9 fun x hx => ?_)
        obtain ⟨i, hi⟩ := List.getElem?_of_mem hx
        obtain ⟨d, hd⟩ : ∃ d, docs[i]? = some d := ⟨_, List.getElem?_eq_getElem (by have := (List.getElem?_eq_some_iff.1 hi).1; have := hnn.out; omega)⟩
        obtain ⟨s1, _, _, s4⟩ := hM.out.same.2 i x d hi hd
        obtain ⟨_, _, _, _, _, _, _, _, h8, h9⟩ := hD.out i d hd
        exact ⟨hM.out.flds x hx, by rw [s4]; exact h8, by rw [s1]; exact h9⟩
      have hsm := Lib.hid hM.out.same
      obtain ⟨L, hLl, hLf, hexr⟩ := hex.out wr A1 c1 l hBr.out hDr.out hsm.out
      have hexr' := Lib.hid hexr
      have hLf' := Lib.hid hLf
      obtain ⟨K, hK⟩ : ∃ K, Hid (L.length = K) := ⟨_, rfl⟩
      rw [hK.out] at hLl
      clear hexr hLf hM hln hex
      go_wp2_with fail
      go_loopw [38] (fun i wx => i = .int .i64 0 ∧ wx = wr) (fun _ _ => 0)
      case atStart => exact ⟨rfl, rfl⟩
      case round =>
        obtain ⟨rfl, rfl⟩ := hrel
        go_wp2_with (refine wpList_load_blk rfl 46 (.tmp 4) rfl w.heap.size C 46 _ rfl hbkr.out Tryz.underlying46 rfl hsz.out ?_)
        refine hexr'.out.mono ?_
        rintro e w7 ⟨A7, c7, rfl, hKc, hF7, hb7⟩
        rw [hK.out] at hKc ⊢
        have hF7' := Lib.hid hF7
        have hB7 : Hid (Below w.heap.size w w7) := hBr.out.trans (hb7.mono hBr.out.size)
        have hD7 : Hid (DocsAt w7 A1 l) := Lib.hid (hDr.out.below hb7)
        have hwv := Lib.hid (waive_any none A7 0 0 K c7 [] L w7 rfl hK (by omega) (by omega) (Lib.hid (fun i x hx => by simp at hx)) hF7' (Lib.hid (fun x hx => by cases hx)) hLf')
        have hm0 : Hid ((waiveM [] L).length = 0) := Lib.hid (by simp [waiveM])
        rw [hm0.out] at hwv
        clear hF7 hb7 hexr'
        go_wp2_with fail
        refine hwv.out.mono ?_
        rintro e w8 ⟨v8, rfl, ho8, hb8⟩
        obtain ⟨A8, c8, rfl⟩ := own_form ho8
        have hB8 : Hid (Below w.heap.size w w8) := hB7.out.trans (hb8.mono hB7.out.size)
        have hD8 : Hid (DocsAt w8 A1 l) := Lib.hid (hD7.out.below hb8)
        clear ho8 hb8 hwv
        go_wp2_with fail
        go_ret2
        exact ⟨_, _, _, rfl, hsm.out, hD8.out, hB8.out⟩
end Go.Proofs.YtdjmckjbibfecaaGreatDoor

/- core.Mend, of any faults. -/
import Derived.StillTailTactics
import Derived.Test.YtdjmckjbibfecaaGreatDoorAb
import Derived.Test.YtdjmckjbibfecaaGreatDoorMh
namespace Go.Proofs.YtdjmckjbibfecaaGreatDoor
open Go Go.RowKit Go.BigFrame Go.Maps

theorem bares_set {l : List Pap} {a : Nat} {x y : Pap} {s v : ByteArray} (hx : l[a]? = some x) (hy : bare y = putF (bare x) s v) : (l.set a y).map bare = (l.map bare).modify a fun d => putF d s v := by
  apply List.ext_getElem?
  intro i
  rw [List.getElem?_map, List.getElem?_modify, List.getElem?_map, List.getElem?_set]
  by_cases h : a = i
  · subst h
    rw [if_pos rfl, if_pos (List.getElem?_eq_some_iff.1 hx).1, hx]
    simp [hy]
  · rw [if_neg h]
    cases l[i]? with
    | none => simp
    | some z => simp [h]
theorem mend_snoc {c : Crd} {needs : List Nd} {day : Int} {docs : List Pap} {l : List Flt} {k : Nat} {f : Flt} (h : l[k]? = some f) : (l.take (k + 1)).foldl (mendStep c needs day) docs = mendStep c needs day ((l.take k).foldl (mendStep c needs day) docs) f := by
  obtain ⟨hj, e⟩ := List.getElem?_eq_some_iff.1 h
  rw [List.take_succ_eq_append_getElem hj, e, List.foldl_append]
  rfl
section
variable {P : Program} {ops : Array Oper} {o : Oper} {a : Act} {W : World} {Q : Exit → Act → World → Prop}
end
/-- What Mend hands back. -/
def MendedC (c : Crd) (needs : List Nd) (day : Int) (docs : List Pap) (l : List Flt) (nn : Nat) (w : World) (e : Ending) (w' : World) : Prop :=
  Below w.heap.size w w' ∧ (((waiveM l (examF c needs (mendM c needs day docs l) day)).length = l.length ∧ ∃ A' c' docs', e = .returned (.tuple #[.slice A' nn c', .bool true]) ∧ docs'.map bare = mendM c needs day docs l ∧ DocsAt w' A' docs') ∨
    ((waiveM l (examF c needs (mendM c needs day docs l) day)).length ≠ l.length ∧ e = .returned (.tuple #[.slice none 0 0, .bool false])))
section
variable {c : Crd} {needs : List Nd} {day : Int} {docs docs' : List Pap} {l : List Flt} {nn c' : Nat} {w w' : World} {A' : Option Addr}
theorem mendedY (hB : Below w.heap.size w w') (h : (waiveM l (examF c needs (mendM c needs day docs l) day)).length = l.length) (hM : docs'.map bare = mendM c needs day docs l) (hD : DocsAt w' A' docs') : MendedC c needs day docs l nn w (.returned (.tuple #[.slice A' nn c', .bool true])) w' := ⟨hB, .inl ⟨h, _, _, _, rfl, hM, hD⟩⟩
theorem mendedN (hB : Below w.heap.size w w') (h : (waiveM l (examF c needs (mendM c needs day docs l) day)).length ≠ l.length) : MendedC c needs day docs l nn w (.returned (.tuple #[.slice none 0 0, .bool false])) w' := ⟨hB, .inr ⟨h, rfl⟩⟩
end
set_option maxRecDepth 100000 in
set_option maxHeartbeats 6400000 in
theorem mend_any (w : World) (C : Array Value) (c : Crd) (hC : Hid (CrdAt C c)) (hO : Hid c.okC) (nA : Option Addr) (nl nc : Nat) (needs : List Nd) (hC17 : Hid (C[17]? = some (.slice nA nl nc))) (hnl : Hid (needs.length = nl)) (hl12 : nl ≤ 1000) (hN : Hid (NdsAt w nA needs))
    (A : Option Addr) (nn cc : Nat) (docs : List Pap) (day : Int) (hday : Hid (-9223372036854775808 ≤ day ∧ day ≤ 9223372036854775807)) (hnn : Hid (docs.length = nn)) (hn12 : nn ≤ 12) (hD : Hid (DocsAt w A docs)) (hen : Hid (Env w)) (hal : Hid (AlikeC w))
    (S : Nat) (hBC : Hid (BndC S c needs)) (hBd : Hid (Bnd S 30 docs)) (hSS : S + 146400 ≤ 4000000)
    (lA : Option Addr) (ln lc : Nat) (l : List Flt) (hln : Hid (l.length = ln)) (hl12' : ln ≤ 12) (hlA : Hid (FaultsAt w lA l)) (hlf : Hid (∀ x ∈ l, x.fits))
    (hex : Hid (∀ W A' c' docs', Below w.heap.size w W → DocsAt W A' docs' → docs'.length = nn → SmallD docs' → (∀ d ∈ docs', ∃ e ∈ docs, d.kind = e.kind) → (examF c needs docs' day).length ≤ 20000 ∧ (∀ x ∈ examF c needs docs' day, x.fits) ∧ Calls Tryz.prog 21 #[.agg C, .slice A' nn c', .int .i64 day] W (FaultedC W (examF c needs docs' day)))) :
    Calls Tryz.prog 31 #[.agg C, .slice A nn cc, .int .i64 day, .slice lA ln lc] w (MendedC c needs day docs l nn w) := by
  have hCz := Lib.hid hC.out.size
  have hsz : Hid ((Tryz.prog.info? 46).map (·.size) = some C.size) := by unfold Hid; rw [hCz.out]; kernel_rfl
  have hfl : Hid (∀ x ∈ docs, x.fields.length ≤ 1000000) := Lib.hid fun x hx => Nat.le_trans (hBd.out.num x hx) (by omega)
  have hnum : Hid (∀ docs' d, ∀ t ∈ failL needs docs' d, t.text.size ≤ 4000000 ∧ (-9223372036854775808 ≤ t.num ∧ t.num ≤ 9223372036854775807)) := Lib.hid fun docs' d t ht => by
    obtain ⟨x, hx, hu⟩ := fail_mem ht
    obtain ⟨h1, h2⟩ := hBC.out.rule x hx t hu
    exact ⟨by omega, h2⟩
  have hbf : Hid (∀ k, Bnd 4000000 1000 ((l.take k).foldl (mendStep c needs day) (docs.map bare))) := Lib.hid fun k => by
    have h1 := mendF_bnd hday.out (l := l.take k) hBC.out (bnd_bare.2 hBd.out)
    have h2 : (l.take k).length ≤ 12 := by rw [List.length_take]; have := hln.out; omega
    exact ⟨fun d hd f hf => by have := h1.vals d hd f hf; omega, fun d hd => by have := h1.num d hd; omega⟩
  have hkd : Hid (∀ k, ∀ d ∈ (l.take k).foldl (mendStep c needs day) (docs.map bare), ∃ e ∈ docs, d.kind = e.kind) := Lib.hid fun k d hd => by
    obtain ⟨i, hi⟩ := List.getElem?_of_mem hd
    obtain ⟨y, hy, h1, _⟩ := mendF_kept _ _ i d hi
    rw [List.getElem?_map] at hy
    obtain ⟨z, hz, rfl⟩ := Option.map_eq_some_iff.1 hy
    exact ⟨z, List.mem_of_getElem? hz, h1⟩
  have hkdoc : Hid (∀ e ∈ docs, -9223372036854775808 ≤ e.kind ∧ e.kind ≤ 9223372036854775807) := Lib.hid fun e he => by
    obtain ⟨i, hi⟩ := List.getElem?_of_mem he
    exact kind_of hD.out hi
  have hbare : Hid (∀ (ld : List Pap) k, ld.map bare = (l.take k).foldl (mendStep c needs day) (docs.map bare) → SmallD ld ∧ (∀ x ∈ ld, x.fields.length ≤ 1000) ∧ (∀ d ∈ ld, ∃ e ∈ docs, d.kind = e.kind)) := Lib.hid fun ld k he => by
    have h1 := hbf.out k
    rw [← he, bnd_bare] at h1
    refine ⟨h1.vals, h1.num, fun d hd => ?_⟩
    have := hkd.out k
    rw [← he] at this
    exact this (bare d) (List.mem_map_of_mem hd)
  obtain ⟨w1, hw1⟩ : ∃ X, Hid (w.alloc (.cells C 46) = X) := ⟨_, rfl⟩
  have hb1 : Hid (Below w.heap.size w w1) := by rw [← hw1.out]; exact (Below.refl _ w).alloc (Nat.le_refl _) _
  have hbk1 : Hid (Blk w1 w.heap.size 46 C) := by rw [← hw1.out]; exact Lib.hid (Blk.new _ _ _)
  have hcl := Lib.hid (cloneD_any A nn cc docs w1 (by omega) hnn (Lib.hid (hD.out.below hb1.out)))
  go_enter Tryz.func31, Tryz.ntmps31
  go_wp2_with (rw [hw1.out])
  refine hcl.out.mono ?_
  rintro e w2 ⟨v, rfl, ho2, hb2⟩
  obtain ⟨A1, c1, rfl⟩ := own_form ho2
  have hM2 : Hid (MendS w1 w2 A1 nn c1 docs docs) := by
    refine Lib.hid ⟨hb2, ho2, ⟨rfl, fun i x y hx hy => by rw [hx] at hy; obtain rfl := Option.some.inj hy; exact ⟨rfl, rfl, rfl, rfl⟩⟩, fun x hx => ?_, fun x hx hne b off e => ?_⟩
    · obtain ⟨i, hi⟩ := List.getElem?_of_mem hx
      obtain ⟨_, _, _, _, _, _, _, hF, _⟩ := hD.out i x hi
      exact (hF.below hb1.out).below hb2
    · obtain ⟨i, hi⟩ := List.getElem?_of_mem hx
      obtain ⟨_, _, _, _, _, _, _, hF, _⟩ := hD.out i x hi
      obtain ⟨f, hf⟩ : ∃ f, x.fields[0]? = some f := ⟨_, List.getElem?_eq_getElem (List.length_pos_iff.2 hne)⟩
      obtain ⟨b', off', e', h0, _⟩ := hF 0 f hf
      rw [e] at e'
      simp only [Option.some.injEq, Addr.mk.injEq, and_true] at e'
      obtain ⟨rfl, rfl⟩ := e'
      have hlt := World.block_lt_of_cell? w _ h0
      have := hb1.out.size
      rintro rfl
      obtain ⟨g', c', e', h1, _⟩ := own_formS ho2 (by have := hnn.out; have := (List.getElem?_eq_some_iff.1 hi).1; omega)
      simp only [Value.slice.injEq, Option.some.injEq, Addr.mk.injEq, and_true, true_and] at e'
      have h5 : b < w.heap.size := hlt
      omega
  have hbk2 : Hid (Blk w2 w.heap.size 46 C) := Lib.hid (hbk1.out.below hb2 hbk1.out.lt)
  clear hcl ho2 hb2
  go_wp2_with fail
  go_loopw [11, 22] (fun _ i wr => ∃ k : Nat, k ≤ nn ∧ i = .int .i64 (k : Int) ∧ ∃ l0, Hid (MendS w1 wr A1 nn c1 docs l0)) (fun _ i _ => nn - (intOf i).toNat)
  case atStart => exact ⟨0, Nat.zero_le _, rfl, docs, hM2⟩
  case round =>
    clear hM2 hbk2
    obtain ⟨k, hk, rfl, l0, hM⟩ := hrel
    have hln0 : l0.length = nn := hM.out.same.1.trans hnn.out
    by_cases hlt : k < nn
    · as_aux_lemma =>
      obtain ⟨g, cap, hv, hg0, hg1⟩ := hM.out.own.form (by omega)
      simp only [Value.slice.injEq, true_and] at hv
      obtain ⟨rfl, rfl⟩ := hv
      obtain ⟨x, hx⟩ : ∃ x, l0[k]? = some x := ⟨_, List.getElem?_eq_getElem (by omega)⟩
      obtain ⟨d, hd⟩ : ∃ d, docs[k]? = some d := ⟨_, List.getElem?_eq_getElem (by have := hnn.out; omega)⟩
      have hsm := hM.out.same.2 k x d hx hd
      obtain ⟨nf, hnf⟩ : ∃ z, Hid (x.fields.length = z) := ⟨_, rfl⟩
      have hnf6 : nf ≤ 1000000 := by have := hfl.out d (List.mem_of_getElem? hd); rw [← hsm.2.2.2, hnf.out] at this; exact this
      have hce : wr.cell? ⟨g, k * 4 + 3, none⟩ = some (.slice x.fA nf x.fc) := by
        rw [hM.out.own.cellAt (k * 4 + 3) (by omega)]
        exact (fm_get encD_len l0 k 3 (by decide)).trans (by rw [hx, ← hnf.out]; rfl)
      have hcl := Lib.hid (clone_any x.fA nf x.fc x.fields wr hnf6 hnf (Lib.hid (hM.out.flds x (List.mem_of_getElem? hx))))
      have i1 : (k : Int) < (nn : Int) := by omega
      have hkm : decide (k < nn) = true := decide_eq_true hlt
      have hx' := Lib.hid hx
      clear hx hd hsm
      go_wp2_with fail
      refine hcl.out.mono ?_
      rintro e w6 ⟨v6, rfl, ho6, hb6⟩
      obtain ⟨A2, c2, rfl⟩ := own_form ho6
      have hM6 : Hid (MendS w1 (w6.setCell ⟨g, k * 4 + 3, none⟩ (.slice A2 nf c2)) (some ⟨g, 0, none⟩) nn c1 docs (l0.set k ⟨x.kind, x.number, x.issuer, A2, c2, x.fields⟩)) := by
        have := hM.out.step hx'.out hg0 hg1 hb6 (A2 := A2) (c2 := c2) (by rw [hnf.out]; exact ho6)
        rw [hnf.out] at this
        exact Lib.hid this
      have o6 := Lib.hid (own_below hM.out.own hb6)
      have hfr : w6.frozen? ⟨g, k * 4 + 3, none⟩ = false := o6.out.frozenAt _
      have hce6 : w6.cell? ⟨g, k * 4 + 3, none⟩ = some (.slice x.fA nf x.fc) := (hb6.cell (World.block_lt_of_cell? wr _ hce)).trans hce
      clear ho6 hb6 hce hcl
      go_wp2_with fail
      go_roundw
      case rel => exact ⟨k + 1, by omega, by go_num, _, hM6⟩
      case measure => simp [intOf]; omega
    · have hkm : decide (k < nn) = false := decide_eq_false hlt
      have hBr : Hid (Below w.heap.size w wr) := hb1.out.trans (hM.out.below.mono hb1.out.size)
      have hG0 : Hid (MendG w1 wr A1 nn c1 l0) := Lib.hid (hM.out.gen hnn.out)
      have hl0 : Hid (l0.map bare = (l.take 0).foldl (mendStep c needs day) (docs.map bare)) := Lib.hid (by rw [List.take_zero]; exact bares_same hM.out.same)
      clear hM hln0
      go_wp2_with fail
      go_loopw [38] (fun i wx => ∃ (k : Nat) (ld : List Pap), k ≤ ln ∧ i = .int .i64 k ∧ Hid (MendG w1 wx A1 nn c1 ld) ∧ Hid (ld.map bare = (l.take k).foldl (mendStep c needs day) (docs.map bare))) (fun i _ => ln - (intOf i).toNat)
      case atStart => exact ⟨0, l0, Nat.zero_le _, rfl, hG0, hl0⟩
      case round =>
        clear hG0 hl0 hBr hkm hlt hk
        obtain ⟨k, ld, hk, rfl, hG, hld⟩ := hrel
        have hBr : Hid (Below w.heap.size w wr) := hb1.out.trans (hG.out.below.mono hb1.out.size)
        have hbk : Hid (Blk wr w.heap.size 46 C) := Lib.hid (hbk1.out.below hG.out.below hbk1.out.lt)
        have hsf := Lib.hid (hbare.out ld k hld.out)
        have hDr : Hid (DocsAt wr A1 ld) := Lib.hid (hG.out.docs fun x hx => ⟨by have := hsf.out.2.1 x hx; unfold maxLen; omega, by obtain ⟨e, he, h9⟩ := hsf.out.2.2 x hx; rw [h9]; exact hkdoc.out e he⟩)
        have hcap : nn ≤ c1 := by
          obtain ⟨A9, c9, e9, h9, _⟩ := RowOf.of_own encD_len hG.out.own hG.out.len
          simp only [Value.slice.injEq, true_and] at e9
          rw [e9.2]; exact h9
        by_cases hkl : k < ln
        · obtain ⟨f, hf⟩ : ∃ f, l[k]? = some f := ⟨_, List.getElem?_eq_getElem (by have := hln.out; omega)⟩
          have hsn := Lib.hid (mend_snoc (c := c) (needs := needs) (day := day) (docs := docs.map bare) hf)
          have hcu : Hid (cureM c needs ((l.take k).foldl (mendStep c needs day) (docs.map bare)) day f = cureM c needs ld day f) := by unfold Hid; rw [← hld.out, bare_cure]
          rw [← hld.out] at hsn hcu
          obtain ⟨b, off, rfl, x0, x1, x2, x3⟩ := (hlA.out.below hBr.out) k f hf
          clear hf
          obtain ⟨fp, fk, ff, fw⟩ := f
          simp only at x0 x1 x2 x3
          obtain ⟨w5, hw5⟩ : ∃ X, Hid (wr.alloc (.cells #[.int .i64 fp, .int .i64 fk, .string ff, .int .i64 fw] 54) = X) := ⟨_, rfl⟩
          have hb5 : Hid (Below wr.heap.size wr w5) := by rw [← hw5.out]; exact (Below.refl _ wr).alloc (Nat.le_refl _) _
          have hF5 : Hid (Blk w5 wr.heap.size 54 #[.int .i64 fp, .int .i64 fk, .string ff, .int .i64 fw]) := by rw [← hw5.out]; exact Lib.hid (Blk.new _ _ _)
          have hB5 : Hid (Below w.heap.size w w5) := hBr.out.trans (hb5.out.mono hBr.out.size)
          have hG5 := Lib.hid (hG.out.on hb5.out)
          have hbk5 := Lib.hid (hbk.out.below hb5.out hbk.out.lt)
          have hcall := Lib.hid (cured_any C c hC hO nA nl nc needs hC17 hnl hl12 A1 nn c1 hcap ld day hday ⟨fp, fk, ff, fw⟩ w5 (Lib.hid (hN.out.below hB5.out)) (Lib.hid ⟨hG.out.len, by omega, hDr.out.below hb5.out, hen.out.below hB5.out, hsf.out.1⟩) (Lib.hid (hal.out.below hB5.out)) (Lib.hid (hnum.out ld)))
          simp only [Flt.agg] at hcall
          obtain ⟨gf, hgf⟩ : ∃ z, Hid (wr.heap.size = z) := ⟨_, rfl⟩
          rw [hgf.out] at hF5
          have e5 : wr.heap.size = gf := hgf.out
          have r0 : w5.cell? ⟨gf, 0, none⟩ = some (.int .i64 fp) := hF5.out.cell 0
          have r1 : w5.cell? ⟨gf, 1, none⟩ = some (.int .i64 fk) := hF5.out.cell 1
          have r2 : w5.cell? ⟨gf, 2, none⟩ = some (.string ff) := hF5.out.cell 2
          have r3 : w5.cell? ⟨gf, 3, none⟩ = some (.int .i64 fw) := hF5.out.cell 3
          have i1 : (k : Int) < (ln : Int) := by omega
          have i2 : (0 : Int) ≤ (k : Int) := by omega
          have hkm : decide (k < ln) = true := decide_eq_true hkl
          clear hbk hDr hBr
          go_wp2_with (first | rw [hw5.out] | (refine wpList_load_blk rfl 46 (.tmp 4) rfl w.heap.size C 46 _ rfl hbk5.out Tryz.underlying46 rfl hsz.out ?_))
          refine hcall.out.mono ?_
          rintro e w6 ⟨⟨u, ok, rfl, hru⟩, hb6⟩
          have hG6 := Lib.hid (hG5.out.on hb6)
          have hB6 : Hid (Below w.heap.size w w6) := hB5.out.trans (hb6.mono hB5.out.size)
          have hF6 := Lib.hid (hF5.out.below hb6 hF5.out.lt)
          have hru' := Lib.hid hru
          clear hru hb6 hcall r0 r1 r2 r3 x0 x1 x2 x3 e5 hw5 hb5 hG5 hbk5 hF5
          cases ok with
          | false =>
            have hst : Hid (ld.map bare = (l.take (k + 1)).foldl (mendStep c needs day) (docs.map bare)) := by
              unfold Hid
              rw [hsn.out]
              unfold mendStep
              rw [hcu.out, hru'.out]
              rfl
            go_wp2_with fail
            go_roundw
            case rel => exact ⟨k + 1, ld, by omega, by go_num, hG6, hst⟩
            case measure => simp [intOf]; omega
          | true =>
            have hru2 : Hid (cureM c needs ld day ⟨fp, fk, ff, fw⟩ = some u) := hru'
            obtain ⟨hfp0, d, hd0⟩ : 0 ≤ fp ∧ ∃ d, ld[fp.toNat]? = some d := by
              have h := hru2.out
              unfold cureM at h
              split at h
              · rename_i hc
                obtain ⟨d, hd, _⟩ := Option.bind_eq_some_iff.1 h
                exact ⟨hc.1, d, hd⟩
              · cases h
            obtain ⟨a, rfl⟩ : ∃ a : Nat, fp = a := ⟨fp.toNat, by omega⟩
            rw [Int.toNat_natCast] at hd0
            have han : a < nn := by have := (List.getElem?_eq_some_iff.1 hd0).1; have := hG.out.len; omega
            have hst : Hid (∀ y : Pap, bare y = putF (bare d) ff u → (ld.set a y).map bare = (l.take (k + 1)).foldl (mendStep c needs day) (docs.map bare)) := Lib.hid fun y hy => by
              rw [hsn.out]
              unfold mendStep
              rw [hcu.out, hru2.out]
              simp only [Int.toNat_natCast]
              exact bares_set hd0 hy
            obtain ⟨g, cap, hv, hg0, hgr⟩ := hG.out.own.form (by omega)
            simp only [Value.slice.injEq, true_and] at hv
            obtain ⟨rfl, rfl⟩ := hv
            have hggf : g < gf := by rw [← hgf.out]; exact hgr
            have hg1 : g < w6.heap.size := Nat.lt_trans hggf hF6.out.lt
            obtain ⟨nf, hnf⟩ : ∃ z, Hid (d.fields.length = z) := ⟨_, rfl⟩
            have hnf6 : nf ≤ 1000 := by have := hsf.out.2.1 d (List.mem_of_getElem? hd0); rw [hnf.out] at this; exact this
            have hce : w6.cell? ⟨g, a * 4 + 3, none⟩ = some (.slice d.fA nf d.fc) := by
              rw [hG6.out.own.cellAt (a * 4 + 3) (by omega)]
              exact (fm_get encD_len ld a 3 (by decide)).trans (by rw [hd0, ← hnf.out]; rfl)
            have hset := Lib.hid (fun W (hW : Below w6.heap.size w6 W) => set_any d.fA nf d.fc d.fields ff u W (by omega) hnf (Lib.hid ((hG6.out.flds d (List.mem_of_getElem? hd0)).below hW)))
            obtain ⟨SF, hSF⟩ : ∃ z, Hid (setF d.fields ff u = z) := ⟨_, rfl⟩
            rw [hSF.out] at hset
            have r0 : w6.cell? ⟨gf, 0, none⟩ = some (.int .i64 (a : Int)) := hF6.out.cell 0
            have r2 : w6.cell? ⟨gf, 2, none⟩ = some (.string ff) := hF6.out.cell 2
            have j1 : (a : Int) < (nn : Int) := by omega
            have j2 : (0 : Int) ≤ (a : Int) := by omega
            have hd' := Lib.hid hd0
            have hBd6 : Hid (Below w6.heap.size w6 w6.drew) := below_drewN (Below.refl w6.heap.size w6) 1
            clear hsn hcu hru' hru2 hd0
            go_wp2_with fail
            go_region_with ((go_at_call 73; (with_reducible refine (hset.out w6.drew hBd6.out).mono ?_); rintro e w7 ⟨v7, rfl, ho7, hb7⟩; obtain ⟨A2, c2, rfl⟩ := own_form ho7; have hb67 : Hid (Below w6.heap.size w6 w7) := hBd6.out.trans hb7; have hfr : w7.frozen? ⟨g, a * 4 + 3, none⟩ = false := (own_below hG6.out.own hb67.out).frozenAt _; have hce7 : w7.cell? ⟨g, a * 4 + 3, none⟩ = some (.slice d.fA nf d.fc) := (hb67.out.cell (World.block_lt_of_cell? w6 _ hce)).trans hce; have ho7' := Lib.hid ho7; clear ho7 hb7))
            all_goals
              have hG7 : Hid (MendG w1 (w7.setCell ⟨g, a * 4 + 3, none⟩ (.slice A2 SF.length c2)) (some ⟨g, 0, none⟩) nn c1 (ld.set a ⟨d.kind, d.number, d.issuer, A2, c2, SF⟩)) := Lib.hid (hG6.out.step hd'.out hg0 hg1 hb67.out rfl ho7'.out)
              have hfin : Hid ((ld.set a ⟨d.kind, d.number, d.issuer, A2, c2, SF⟩).map bare = (l.take (k + 1)).foldl (mendStep c needs day) (docs.map bare)) := Lib.hid (hst.out _ (by unfold putF bare; rw [← hSF.out]))
              clear hfr hce7
              go_wp2_with fail
              go_roundw
              case rel => exact ⟨k + 1, _, by omega, by go_num, hG7, hfin⟩
              case measure => simp [intOf]; omega
        · have hkm : decide (k < ln) = false := decide_eq_false hkl
          have hkl' : k = ln := by omega
          rw [List.take_of_length_le (by rw [hln.out]; omega)] at hld
          have hM : Hid (ld.map bare = mendM c needs day docs l) := hld
          have hxe : Hid (examF c needs (mendM c needs day docs l) day = examF c needs ld day) := by unfold Hid; rw [← hM.out, bare_exam]
          obtain ⟨hLl, hLf, hexr⟩ := hex.out wr A1 c1 ld hBr.out hDr.out hG.out.len hsf.out.1 hsf.out.2.2
          have hexr' := Lib.hid hexr
          have hLf' := Lib.hid hLf
          obtain ⟨L, hL⟩ : ∃ L, Hid (examF c needs ld day = L) := ⟨_, rfl⟩
          rw [hL.out] at hLl hLf' hexr' hxe
          obtain ⟨K, hK⟩ : ∃ K, Hid (L.length = K) := ⟨_, rfl⟩
          rw [hK.out] at hLl
          clear hexr hLf hex hsf hld
          go_wp2_with (refine wpList_load_blk rfl 46 (.tmp 4) rfl w.heap.size C 46 _ rfl hbk.out Tryz.underlying46 rfl hsz.out ?_)
          refine hexr'.out.mono ?_
          rintro e w7 ⟨A7, c7, rfl, hKc, hF7, hb7⟩
          rw [hK.out] at hKc ⊢
          have hF7' := Lib.hid hF7
          have hB7 : Hid (Below w.heap.size w w7) := hBr.out.trans (hb7.mono hBr.out.size)
          have hD7 : Hid (DocsAt w7 A1 ld) := Lib.hid (hDr.out.below hb7)
          have hwv := Lib.hid (waive_any lA A7 ln lc K c7 l L w7 hln hK (by omega) (by omega) (Lib.hid (hlA.out.below hB7.out)) hF7' hlf hLf')
          obtain ⟨n8, hn8⟩ : ∃ z, Hid ((waiveM l L).length = z) := ⟨_, rfl⟩
          have hle8 : n8 ≤ ln := by rw [← hn8.out, ← hln.out]; exact waive_le l L
          have hx8 : Hid ((waiveM l (examF c needs (mendM c needs day docs l) day)).length = n8) := by unfold Hid; rw [hxe.out, hn8.out]
          rw [hn8.out] at hwv
          clear hF7 hb7 hexr'
          go_wp2_with fail
          refine hwv.out.mono ?_
          rintro e w8 ⟨v8, rfl, ho8, hb8⟩
          obtain ⟨A8, c8, rfl⟩ := own_form ho8
          have hB8 : Hid (Below w.heap.size w w8) := hB7.out.trans (hb8.mono hB7.out.size)
          have hD8 : Hid (DocsAt w8 A1 ld) := Lib.hid (hD7.out.below hb8)
          clear ho8 hb8 hwv
          by_cases h8 : n8 = ln
          · subst h8
            have z1 : ((n8 : Int) != (n8 : Int)) = false := by simp
            go_wp2_with fail
            go_ret2
            exact mendedY hB8.out (hx8.out.trans hln.out.symm) hM.out hD8.out
          · have z1 : ((n8 : Int) != (ln : Int)) = true := by simp; omega
            go_wp2_with fail
            go_ret2
            exact mendedN hB8.out (fun h => h8 (hx8.out.symm.trans (h.trans hln.out)))
end Go.Proofs.YtdjmckjbibfecaaGreatDoor

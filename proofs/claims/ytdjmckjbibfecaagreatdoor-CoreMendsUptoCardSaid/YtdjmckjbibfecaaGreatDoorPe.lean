/- The document's Mend, of any faults. -/
import Derived.Test.YtdjmckjbibfecaaGreatDoorMi
import Derived.Test.YtdjmckjbibfecaaGreatDoorPd
namespace Go.Proofs.YtdjmckjbibfecaaGreatDoor
open Go Go.RowKit Go.BigFrame Go.Maps

theorem set_self {l : List Value} {i : Nat} {v : Value} (h : l[i]? = some v) : l.set i v = l := by
  obtain ⟨hi, e⟩ := List.getElem?_eq_some_iff.1 h
  apply List.ext_getElem?
  intro j
  rw [List.getElem?_set]
  by_cases hj : i = j
  · subst hj; rw [if_pos rfl, if_pos hi, h]
  · rw [if_neg hj]
theorem MendG.store {w0 wr w6 : World} {g nn c k n2 c2 : Nat} {l : List Pap} {x : Pap} {A2 : Option Addr} {F : List Fld} (h : MendG w0 wr (some ⟨g, 0, none⟩) nn c l) (hx : l[k]? = some x) (hg0 : w0.heap.size ≤ g) (hg1 : g < wr.heap.size) (hb : Below wr.heap.size wr w6) (hn : F.length = n2)
    (ho : w6.ownsRow wr.heap.size 108 2 (.slice A2 n2 c2) n2 (flF F)) :
    MendG w0 (w6.setCells g (k * 4) [.int .i64 x.kind, .string x.number, .string x.issuer, .slice A2 n2 c2]) (some ⟨g, 0, none⟩) nn c (l.set k ⟨x.kind, x.number, x.issuer, A2, c2, F⟩) := by
  subst hn
  have o6 := own_below h.own hb
  have s0 := o6.stored (k * 4) (.int .i64 x.kind)
  rw [set_self (show (flD l)[k * 4]? = some (.int .i64 x.kind) from (fm_get encD_len l k 0 (by decide)).trans (by rw [hx]; rfl))] at s0
  have s1 := s0.1.stored (k * 4 + 1) (.string x.number)
  rw [set_self (show (flD l)[k * 4 + 1]? = some (.string x.number) from (fm_get encD_len l k 1 (by decide)).trans (by rw [hx]; rfl))] at s1
  have s2 := s1.1.stored (k * 4 + 1 + 1) (.string x.issuer)
  rw [set_self (show (flD l)[k * 4 + 1 + 1]? = some (.string x.issuer) from (fm_get encD_len l k 2 (by decide)).trans (by rw [hx]; rfl))] at s2
  have s3 := s2.1.stored (k * 4 + 1 + 1 + 1) (.slice A2 F.length c2)
  rw [show k * 4 + 1 + 1 + 1 = k * 4 + 3 by omega, flD_put3 l k x A2 c2 F hx] at s3
  have st := ((s0.2.trans s1.2).trans s2.2).trans s3.2
  have hbx : Below w0.heap.size w0 (w6.setCells g (k * 4) [.int .i64 x.kind, .string x.number, .string x.issuer, .slice A2 F.length c2]) := (setCells_put g _ (k * 4) w6).to_below (h.below.trans (hb.mono h.below.size)) hg0 (Nat.le_trans h.below.size hb.size)
  show MendG w0 ((((w6.setCell ⟨g, k * 4, none⟩ (.int .i64 x.kind)).setCell ⟨g, k * 4 + 1, none⟩ (.string x.number)).setCell ⟨g, k * 4 + 1 + 1, none⟩ (.string x.issuer)).setCell ⟨g, k * 4 + 3, none⟩ (.slice A2 F.length c2)) _ _ _ _
  have hA2 : F ≠ [] → ∀ b off, A2 = some ⟨b, off, none⟩ → wr.heap.size ≤ b := fun hne b off e => by
    obtain ⟨g', c', e', h1, _⟩ := own_formS ho (List.length_pos_iff.2 hne)
    rw [e] at e'
    simp only [Value.slice.injEq, Option.some.injEq, Addr.mk.injEq, and_true, true_and] at e'
    rw [e'.1.1]; exact h1
  obtain ⟨A9, c9, e9, _, hF9⟩ := fields_of_own ho rfl
  simp only [Value.slice.injEq, true_and] at e9
  obtain ⟨rfl, rfl⟩ := e9
  refine ⟨hbx, s3.1, by rw [List.length_set]; exact h.len, fun y hy => ?_, fun y hy hne b off e => ?_⟩
  · rcases List.mem_or_eq_of_mem_set hy with hy | rfl
    · exact fields_far ((h.flds y hy).below hb) st fun hne b off e hbg => by
        subst hbg
        exact h.away y hy hne b off e rfl
    · exact fields_far hF9 st fun hne b off e => by have := hA2 hne b off e; omega
  · rcases List.mem_or_eq_of_mem_set hy with hy | rfl
    · exact h.away y hy hne b off e
    · intro hc
      simp only [Option.some.injEq, Addr.mk.injEq, and_true] at hc
      have := hA2 hne b off e
      omega
theorem waive_all_iff {l L : List Flt} : (waiveM l L).length = l.length ↔ ∀ f ∈ l, anyB L f = false := by
  unfold waiveM
  rw [List.length_filter_eq_length_iff]
  simp
theorem mendG_new {w1 w2 : World} {A A1 : Option Addr} {nn c1 : Nat} {docs : List Pap} (hD : DocsAt w1 A docs) (hn : docs.length = nn) (hb : Below w1.heap.size w1 w2) (ho : w2.ownsRow w1.heap.size 61 4 (.slice A1 nn c1) nn (flD docs)) : MendG w1 w2 A1 nn c1 docs := by
  refine ⟨hb, ho, hn, fun x hx => ?_, fun x hx hne b off e => ?_⟩
  · obtain ⟨i, hi⟩ := List.getElem?_of_mem hx
    obtain ⟨_, _, _, _, _, _, _, hF, _⟩ := hD i x hi
    exact hF.below hb
  · obtain ⟨i, hi⟩ := List.getElem?_of_mem hx
    obtain ⟨_, _, _, _, _, _, _, hF, _⟩ := hD i x hi
    obtain ⟨f, hf⟩ : ∃ f, x.fields[0]? = some f := ⟨_, List.getElem?_eq_getElem (List.length_pos_iff.2 hne)⟩
    obtain ⟨b', off', e', h0, _⟩ := hF 0 f hf
    rw [e] at e'
    simp only [Option.some.injEq, Addr.mk.injEq, and_true] at e'
    obtain ⟨rfl, rfl⟩ := e'
    have hlt := World.block_lt_of_cell? w1 _ h0
    rintro rfl
    obtain ⟨g', c', e', h1, _⟩ := own_formS ho (by have := (List.getElem?_eq_some_iff.1 hi).1; omega)
    simp only [Value.slice.injEq, Option.some.injEq, Addr.mk.injEq, and_true, true_and] at e'
    have h5 : b < w1.heap.size := hlt
    omega
set_option maxRecDepth 100000 in
set_option maxHeartbeats 6400000 in
theorem rmend_any (w : World) (c : Crd) (hO : Hid c.okC) (nA : Option Addr) (nl nc : Nat) (needs : List Nd) (hnl : Hid (needs.length = nl)) (hN : Hid (NdsAt w nA needs)) (hSm : Hid (∀ x ∈ needs, SmallT x.rule)) (hFP : Hid (FewParts needs))
    (A : Option Addr) (nn cc : Nat) (docs : List Pap) (day : Int) (hday : Hid (-1073741824 ≤ day ∧ day ≤ 1073741824)) (hnn : Hid (docs.length = nn)) (hn12 : nn ≤ 12) (hD : Hid (DocsAt w A docs)) (hen : Hid (Env w))
    (S : Nat) (hBC : Hid (BndC S c needs)) (hBd : Hid (Bnd S 30 docs)) (hSS : S + 146400 ≤ 4000000)
    (lA : Option Addr) (ln lc : Nat) (l : List Flt) (hln : Hid (l.length = ln)) (hl12' : ln ≤ 12) (hlA : Hid (FaultsAt w lA l))
    (hLe : Hid (∀ docs' : List Pap, docs'.length = nn → (examF c needs docs' day).length ≤ 20000)) :
    Calls Tryz.prog 32 #[.agg (c.cells (.slice nA nl nc)), .slice A nn cc, .int .i64 day, .slice lA ln lc] w (MendedC c needs day docs l nn w) := by
  obtain ⟨iD, iDi, iD0, iD1, iD2⟩ := info_parts Tryz.info61
  have hC : Hid (CrdAt (c.cells (.slice nA nl nc)) c) := c.at_ _
  have hC17 : Hid ((c.cells (.slice nA nl nc))[17]? = some (.slice nA nl nc)) := rfl
  have hexr := Lib.hid (fun (W : World) (A' : Option Addr) (c' : Nat) (docs' : List Pap) (h1 : NdsAt W nA needs) (h2 : Room W A' nn docs') => rexam_any c hO nA nl nc needs hnl A' nn c' docs' day hday.out W (Lib.hid h1) hFP hSm (Lib.hid h2) hn12)
  obtain ⟨C, hCe⟩ : ∃ z, Hid (c.cells (.slice nA nl nc) = z) := ⟨_, rfl⟩
  rw [hCe.out] at hC hC17 hexr ⊢
  have hCz := Lib.hid hC.out.size
  have hsz : Hid ((Tryz.prog.info? 46).map (·.size) = some C.size) := by unfold Hid; rw [hCz.out]; kernel_rfl
  have hnum : Hid (∀ docs' d, ∀ t ∈ failL needs docs' d, t.text.size ≤ 4000000 ∧ (-9223372036854775808 ≤ t.num ∧ t.num ≤ 9223372036854775807)) := Lib.hid fun docs' d t ht => by
    obtain ⟨x, hx, hu⟩ := fail_mem ht
    obtain ⟨h1, h2⟩ := hBC.out.rule x hx t hu
    exact ⟨by omega, h2⟩
  have hdx : Hid (-9223372036854775808 ≤ day ∧ day ≤ 9223372036854775807) := Lib.hid (by have := hday.out; omega)
  have hbf : Hid (∀ k, Bnd 4000000 1000 ((l.take k).foldl (mendStep c needs day) (docs.map bare))) := Lib.hid fun k => by
    have h1 := mendF_bnd hdx.out (l := l.take k) hBC.out (bnd_bare.2 hBd.out)
    have h2 : (l.take k).length ≤ 12 := by rw [List.length_take]; have := hln.out; omega
    exact ⟨fun d hd f hf => by have := h1.vals d hd f hf; omega, fun d hd => by have := h1.num d hd; omega⟩
  have hkd : Hid (∀ k, ∀ d ∈ (l.take k).foldl (mendStep c needs day) (docs.map bare), ∃ e ∈ docs, d.kind = e.kind) := Lib.hid fun k d hd => by
    obtain ⟨i, hi⟩ := List.getElem?_of_mem hd
    obtain ⟨y, hy, h1, _⟩ := mendF_kept _ _ i d hi
    rw [List.getElem?_map] at hy
    obtain ⟨z, hz, rfl⟩ := Option.map_eq_some_iff.1 hy
    exact ⟨z, List.mem_of_getElem? hz, h1⟩
  have hkdoc : Hid (∀ e ∈ docs, -9223372036854775808 ≤ e.kind ∧ e.kind ≤ 9223372036854775807) := Lib.hid fun e he => by
    obtain ⟨i, hi⟩ := List.getElem?_of_mem he
    exact kind_of hD.out hi
  have hbare : Hid (∀ (ld : List Pap) k, ld.map bare = (l.take k).foldl (mendStep c needs day) (docs.map bare) → SmallD ld ∧ (∀ x ∈ ld, x.fields.length ≤ 1000) ∧ (∀ d ∈ ld, ∃ e ∈ docs, d.kind = e.kind)) := Lib.hid fun ld k he => by
    have h1 := hbf.out k
    rw [← he, bnd_bare] at h1
    refine ⟨h1.vals, h1.num, fun d hd => ?_⟩
    have := hkd.out k
    rw [← he] at this
    exact this (bare d) (List.mem_map_of_mem hd)
  obtain ⟨w1, hw1⟩ : ∃ X, Hid (w.alloc (.cells C 46) = X) := ⟨_, rfl⟩
  have hb1 : Hid (Below w.heap.size w w1) := by rw [← hw1.out]; exact (Below.refl _ w).alloc (Nat.le_refl _) _
  obtain ⟨gc, hgc⟩ : ∃ z, Hid (w.heap.size = z) := ⟨_, rfl⟩
  have hbk1 : Hid (Blk w1 gc 46 C) := by rw [← hw1.out, ← hgc.out]; exact Lib.hid (Blk.new _ _ _)
  have e0 : w.heap.size = gc := hgc.out
  have hr := Lib.hid (((hD.out.below hb1.out).row).reads encD_len (by decide))
  rw [hnn.out] at hr
  have hr' : Hid (Reads w1 w1.heap.size 4 A nn (flD docs)) := hr
  have hn1 : Hid (0 + nn ≤ maxLen) := by unfold Hid maxLen; omega
  have hn2 : Hid ((0 + nn) * 64 ≤ 140737488355328) := by unfold Hid; omega
  have ho' := Lib.hid (flD_one docs)
  clear hr
  go_enter Tryz.func32, Tryz.ntmps32
  go_wp2_with (first | rw [hw1.out] | rw [e0] | (at_builtin; go_must (refine wpList_append_any _ rfl (.tmp 17) (.tmp 18) 25 rfl w1.heap.size 61 iD _ 4 64 Tryz.underlying25 iDi iD0 iD1 iD2 rfl (by decide) (.slice (some ⟨w1.heap.size, 0, none⟩) 0 0) 0 [] rfl (own_new w1 61 4) w1.heap.size _ nn cc (flD docs) rfl (hr'.out.alloc (Nat.le_refl _) _) ho'.out hn1.out hn2.out (by simp) ?_); intro v w2 ho2 hg2 hv2; rw [Nat.zero_add, List.nil_append] at ho2; obtain ⟨A1, c1, rfl⟩ := own_form ho2; have hbA : Hid (Below w1.heap.size w1 w2) := Lib.hid (((Below.refl _ w1).alloc (Nat.le_refl _) _).grown hg2 (by simp) (fun k hk => by simp [Value.ownBlock] at hk; omega)); have hG2 : Hid (MendG w1 w2 A1 nn c1 docs) := Lib.hid (mendG_new (hD.out.below hb1.out) hnn.out hbA.out ho2); clear ho2 hg2 hv2))
  have hst0 : Hid (docs.map bare = (l.take 0).foldl (mendStep c needs day) (docs.map bare)) := rfl
  clear hr'
  go_loopw [11, 12, 13] (fun i _ _ wx => ∃ (k : Nat) (ld : List Pap), k ≤ ln ∧ i = .int .i64 k ∧ Hid (MendG w1 wx A1 nn c1 ld) ∧ Hid (ld.map bare = (l.take k).foldl (mendStep c needs day) (docs.map bare))) (fun i _ _ _ => ln - (intOf i).toNat)
  case atStart => exact ⟨0, docs, Nat.zero_le _, rfl, hG2, hst0⟩
  case round =>
    clear hG2 hst0 hbA
    obtain ⟨k, ld, hk, rfl, hG, hld⟩ := hrel
    have hBr : Hid (Below w.heap.size w wr) := hb1.out.trans (hG.out.below.mono hb1.out.size)
    have hbk : Hid (Blk wr gc 46 C) := Lib.hid (hbk1.out.below hG.out.below hbk1.out.lt)
    have hsf := Lib.hid (hbare.out ld k hld.out)
    have hDr : Hid (DocsAt wr A1 ld) := Lib.hid (hG.out.docs fun x hx => ⟨by have := hsf.out.2.1 x hx; unfold maxLen; omega, by obtain ⟨e, he, h9⟩ := hsf.out.2.2 x hx; rw [h9]; exact hkdoc.out e he⟩)
    by_cases hkl : k < ln
    · obtain ⟨f, hf⟩ : ∃ f, l[k]? = some f := ⟨_, List.getElem?_eq_getElem (by have := hln.out; omega)⟩
      have hsn := Lib.hid (mend_snoc (c := c) (needs := needs) (day := day) (docs := docs.map bare) hf)
      have hcu : Hid (cureM c needs ((l.take k).foldl (mendStep c needs day) (docs.map bare)) day f = cureM c needs ld day f) := by unfold Hid; rw [← hld.out, bare_cure]
      rw [← hld.out] at hsn hcu
      obtain ⟨lb, off, rfl, x0, x1, x2, x3⟩ := hlA.out k f hf
      clear hf
      obtain ⟨fp, fk, ff, fw⟩ := f
      simp only at x0 x1 x2 x3
      have hlb : lb < w.heap.size := World.block_lt_of_cell? w _ x0
      have hcall := Lib.hid (fun (W : World) (hW : Below wr.heap.size wr W) => rcure_any C c hC hO nA nl nc needs hC17 hnl A1 nn c1 ld day hday ⟨fp, fk, ff, fw⟩ W (Lib.hid (hN.out.below (hBr.out.trans (hW.mono hBr.out.size)))) (Lib.hid ⟨hG.out.len, by omega, hDr.out.below hW, hen.out.below (hBr.out.trans (hW.mono hBr.out.size)), hsf.out.1⟩) hSm hFP (Lib.hid (hnum.out ld)))
      simp only [Flt.agg] at hcall
      have i1 : (k : Int) < (ln : Int) := by omega
      have i2 : (0 : Int) ≤ (k : Int) := by omega
      have hkm : decide (k < ln) = true := decide_eq_true hkl
      have hS6 : Hid (∀ W, Below wr.heap.size wr W → Blk W gc 46 C ∧ W.cell? ⟨lb, off + k * 4, none⟩ = some (.int .i64 fp) ∧ W.cell? ⟨lb, off + k * 4 + 1, none⟩ = some (.int .i64 fk) ∧ W.cell? ⟨lb, off + k * 4 + 2, none⟩ = some (.string ff) ∧ W.cell? ⟨lb, off + k * 4 + 3, none⟩ = some (.int .i64 fw)) := Lib.hid fun W hW =>
        have hz := hBr.out.trans (hW.mono hBr.out.size)
        ⟨hbk.out.below hW hbk.out.lt, (hz.cell (p := ⟨lb, _, none⟩) hlb).trans x0, (hz.cell (p := ⟨lb, _, none⟩) hlb).trans x1, (hz.cell (p := ⟨lb, _, none⟩) hlb).trans x2, (hz.cell (p := ⟨lb, _, none⟩) hlb).trans x3⟩
      obtain ⟨_, x0, x1, x2, x3⟩ := hS6.out wr (Below.refl _ _)
      go_wp2_with fail
      clear x0 x1 x2 x3
      refine wp_region_held (S := fun W => Blk W gc 46 C ∧ W.cell? ⟨lb, off + k * 4, none⟩ = some (.int .i64 fp) ∧ W.cell? ⟨lb, off + k * 4 + 1, none⟩ = some (.int .i64 fk) ∧ W.cell? ⟨lb, off + k * 4 + 2, none⟩ = some (.string ff) ∧ W.cell? ⟨lb, off + k * 4 + 3, none⟩ = some (.int .i64 fw)) (by kernel_rfl) ?_
      obtain ⟨V, hV⟩ : ∃ V, Hid (wr.drew = V) := ⟨_, rfl⟩
      have hBV : Hid (Below wr.heap.size wr V) := by unfold Hid; rw [← hV.out]; exact (Below.refl _ _).drew
      change wpAnyH _ _ _ _ _ _ _ _ wr.drew
      rw [hV.out]
      clear hV
      have hS0 := hS6.out V hBV.out
      refine wpAnyH_take (i := 0) rfl (by kernel_rfl) (by kernel_rfl) (by kernel_rfl) (fun _ _ _ h => h) (yields_blk rfl rfl rfl Tryz.underlying46 rfl hsz.out (fun _ h => h.1)) hS0 ?_
      go_simp
      refine wpAnyH_take (i := 1) rfl (by kernel_rfl) (by kernel_rfl) (by kernel_rfl) (fun _ _ _ h => h) (yields_of rfl (fun _ _ => rfl)) hS0 ?_
      go_simp
      refine wpAnyH_take (i := 2) rfl (by kernel_rfl) (by kernel_rfl) (by kernel_rfl) (fun _ _ _ h => h) (yields_of rfl (fun _ _ => rfl)) hS0 ?_
      go_simp
      refine wpAnyH_take (i := 3) rfl (by kernel_rfl) (by kernel_rfl) (by kernel_rfl) (fun _ _ _ h => h) (yields_of rfl (fun _ _ => rfl)) hS0 ?_
      go_simp
      refine wpAnyH_take (i := 4) rfl (by kernel_rfl) (by kernel_rfl) (by kernel_rfl) (fun _ _ _ h => h) (yields_of rfl (fun _ _ => rfl)) hS0 ?_
      go_simp
      refine wpAnyH_take (i := 5) rfl (by kernel_rfl) (by kernel_rfl) (by kernel_rfl) (fun _ _ _ h => h) (yields_of (v := .pointer (some ⟨lb, off + k * 4, none⟩)) rfl (fun W hW => by go_simp)) hS0 ?_
      go_simp
      refine wpAnyH_take (i := 6) rfl (by kernel_rfl) (by kernel_rfl) (by kernel_rfl) (fun _ _ _ h => h) (yields_of (v := .agg #[.int .i64 fp, .int .i64 fk, .string ff, .int .i64 fw]) rfl (fun W hW => by obtain ⟨h0, h1, h2, h3, h4⟩ := hW; go_simp)) hS0 ?_
      go_simp
      refine wpAnyH_all (rs := [7]) (by kernel_rfl) (by decide) ?_
      intro i hi'
      obtain rfl := List.mem_singleton.1 hi'
      refine held_call (f := 74) (args := #[.agg C, .slice A1 nn c1, .int .i64 day, .agg #[.int .i64 fp, .int .i64 fk, .string ff, .int .i64 fw]]) rfl rfl (by go_simp) ?_
      refine (hcall.out V hBV.out).mono ?_
      rintro e w6 ⟨⟨u, ok, rfl, hru⟩, hb6⟩
      refine ⟨_, rfl, ?_⟩
      have hB16 : Hid (Below wr.heap.size wr w6) := hBV.out.trans (hb6.mono hBV.out.size)
      have hru' := Lib.hid hru
      have hS9 := hS6.out w6 hB16.out
      clear hru hb6 hcall hS0
      refine ⟨hS9, ?_⟩
      go_simp
      refine wpAnyH_take (i := 8) rfl (by kernel_rfl) (by kernel_rfl) (by kernel_rfl) (fun _ _ _ h => h) (yields_of rfl (fun _ _ => rfl)) hS9 ?_
      go_simp
      refine wpAnyH_take (i := 9) rfl (by kernel_rfl) (by kernel_rfl) (by kernel_rfl) (fun _ _ _ h => h) (yields_of rfl (fun _ _ => rfl)) hS9 ?_
      go_simp
      refine wpAnyH_take (i := 10) rfl (by kernel_rfl) (by kernel_rfl) (by kernel_rfl) (fun _ _ _ h => h) (yields_of rfl (fun _ _ => rfl)) hS9 ?_
      go_simp
      refine wpAnyH_take (i := 11) rfl (by kernel_rfl) (by kernel_rfl) (by kernel_rfl) (fun _ _ _ h => h) (yields_of rfl (fun _ _ => rfl)) hS9 ?_
      go_simp
      refine wpAnyH_take (i := 12) rfl (by kernel_rfl) (by kernel_rfl) (by kernel_rfl) (fun _ _ _ h => h) (yields_of rfl (fun _ _ => rfl)) hS9 ?_
      go_simp
      clear hS9
      refine wpAnyH_done (by kernel_rfl) ?_ _
      have hG6 := Lib.hid (hG.out.on hB16.out)
      have hB6 : Hid (Below w.heap.size w w6) := hBr.out.trans (hB16.out.mono hBr.out.size)
      cases ok with
      | false =>
        have hst : Hid (ld.map bare = (l.take (k + 1)).foldl (mendStep c needs day) (docs.map bare)) := by
          unfold Hid
          rw [hsn.out]
          unfold mendStep
          rw [hcu.out, hru'.out]
          rfl
        clear hsn hcu hru' hS6
        go_wp2_with fail
        go_roundw
        case rel => exact ⟨k + 1, ld, by omega, by go_num, hG6, hst⟩
        case measure => simp [intOf]; omega
      | true =>
        have hru2 : Hid (cureM c needs ld day ⟨fp, fk, ff, fw⟩ = some u) := hru'
        obtain ⟨hfp0, d, hd0⟩ : 0 ≤ fp ∧ ∃ d, ld[fp.toNat]? = some d := by
          have h := hru2.out
          unfold cureM at h
          split at h
          · rename_i hc
            obtain ⟨d, hd, _⟩ := Option.bind_eq_some_iff.1 h
            exact ⟨hc.1, d, hd⟩
          · cases h
        obtain ⟨a, rfl⟩ : ∃ a : Nat, fp = a := ⟨fp.toNat, by omega⟩
        rw [Int.toNat_natCast] at hd0
        have han : a < nn := by have := (List.getElem?_eq_some_iff.1 hd0).1; have := hG.out.len; omega
        have hst : Hid (∀ y : Pap, bare y = putF (bare d) ff u → (ld.set a y).map bare = (l.take (k + 1)).foldl (mendStep c needs day) (docs.map bare)) := Lib.hid fun y hy => by
          rw [hsn.out]
          unfold mendStep
          rw [hcu.out, hru2.out]
          simp only [Int.toNat_natCast]
          exact bares_set hd0 hy
        obtain ⟨g, cap, hv, hg0, hgr⟩ := hG.out.own.form (by omega)
        simp only [Value.slice.injEq, true_and] at hv
        obtain ⟨rfl, rfl⟩ := hv
        obtain ⟨dk, dn, di, dA, dc, dF⟩ := d
        obtain ⟨nf, hnf⟩ : ∃ z, Hid (dF.length = z) := ⟨_, rfl⟩
        have hnf6 : nf ≤ 1000 := by have := hsf.out.2.1 _ (List.mem_of_getElem? hd0); rw [← hnf.out]; exact this
        have hg6 : g < w6.heap.size := Nat.lt_of_lt_of_le hgr hB16.out.size
        have c0 : w6.cell? ⟨g, a * 4, none⟩ = some (.int .i64 dk) := by
          rw [hG6.out.own.cellAt (a * 4) (by omega)]
          exact (fm_get encD_len ld a 0 (by decide)).trans (by rw [hd0]; rfl)
        have c1 : w6.cell? ⟨g, a * 4 + 1, none⟩ = some (.string dn) := by
          rw [hG6.out.own.cellAt (a * 4 + 1) (by omega)]
          exact (fm_get encD_len ld a 1 (by decide)).trans (by rw [hd0]; rfl)
        have c2 : w6.cell? ⟨g, a * 4 + 2, none⟩ = some (.string di) := by
          rw [hG6.out.own.cellAt (a * 4 + 2) (by omega)]
          exact (fm_get encD_len ld a 2 (by decide)).trans (by rw [hd0]; rfl)
        have c3 : w6.cell? ⟨g, a * 4 + 3, none⟩ = some (.slice dA nf dc) := by
          rw [hG6.out.own.cellAt (a * 4 + 3) (by omega)]
          exact (fm_get encD_len ld a 3 (by decide)).trans (by rw [hd0, ← hnf.out]; rfl)
        have hset := Lib.hid (fun W (hW : Below w6.heap.size w6 W) => setR_any dA nf dc dF ff u W (by omega) hnf (Lib.hid ((hG6.out.flds _ (List.mem_of_getElem? hd0)).below hW)))
        obtain ⟨SF, hSF⟩ : ∃ z, Hid (setF dF ff u = z) := ⟨_, rfl⟩
        rw [hSF.out] at hset
        have hd' := Lib.hid hd0
        have y0 := hS6.out w6 hB16.out
        obtain ⟨_, y0, y1, y2, y3⟩ := y0
        obtain ⟨w7, hw7⟩ : ∃ X, Hid (w6.alloc (.cells #[.int .i64 dk, .string dn, .string di, .slice dA nf dc] 61) = X) := ⟨_, rfl⟩
        have hb7 : Hid (Below w6.heap.size w6 w7) := by rw [← hw7.out]; exact (Below.refl _ w6).alloc (Nat.le_refl _) _
        obtain ⟨gd, hgd⟩ : ∃ z, Hid (w6.heap.size = z) := ⟨_, rfl⟩
        have e6 : w6.heap.size = gd := hgd.out
        have hX7 : Hid (Blk w7 gd 61 #[.int .i64 dk, .string dn, .string di, .slice dA nf dc]) := by rw [← hw7.out, ← hgd.out]; exact Lib.hid (Blk.new _ _ _)
        have j1 : (a : Int) < (nn : Int) := by omega
        have j2 : (0 : Int) ≤ (a : Int) := by omega
        clear hsn hcu hru' hru2 hd0
        go_wp2_with (first | rw [hw7.out] | rw [e6])
        clear y0 y1 y2 y3 c0 c1 c2 c3 e6
        have hB17 : Hid (Below wr.heap.size wr w7) := hB16.out.trans (hb7.out.mono hB16.out.size)
        obtain ⟨_, _, _, y2, _⟩ := hS6.out w7 hB17.out
        have q3 : w7.cell? ⟨gd, 3, none⟩ = some (.slice dA nf dc) := hX7.out.cell 3
        have hBd7 : Hid (Below w7.heap.size w7 w7.drew) := (Below.refl _ _).drew
        have hset7 := Lib.hid (fun W (hW : Below w7.heap.size w7 W) => hset.out W (hb7.out.trans (hW.mono hb7.out.size)))
        clear hset
        go_region_with ((go_at_call 75; (with_reducible refine (hset7.out w7.drew hBd7.out).mono ?_); rintro e w8 ⟨v8, rfl, ho8, hb8⟩; obtain ⟨A2, c2, rfl⟩ := own_form ho8; have hb78 : Hid (Below w7.heap.size w7 w8) := hBd7.out.trans hb8; have hX8 := Lib.hid (hX7.out.below hb78.out hX7.out.lt); have hfr : w8.frozen? ⟨gd, 3, none⟩ = false := hX8.out.frozen 3; have hce8 : w8.cell? ⟨gd, 3, none⟩ = some (.slice dA nf dc) := hX8.out.cell 3; have ho8' := Lib.hid ho8; clear ho8 hb8))
        all_goals
          obtain ⟨w9, hw9⟩ : ∃ X, Hid (w8.setCell ⟨gd, 3, none⟩ (.slice A2 SF.length c2) = X) := ⟨_, rfl⟩
          have hbut9 : Hid (But gd w8 w9) := by rw [← hw9.out]; exact Lib.hid ((But.refl gd w8).setCell 3 _)
          have hX9 : Hid (Blk w9 gd 61 #[.int .i64 dk, .string dn, .string di, .slice A2 SF.length c2]) := by rw [← hw9.out]; exact Lib.hid (hX8.out.set_ 3 _)
          have hB18 : Hid (Below wr.heap.size wr w8) := hB17.out.trans (hb78.out.mono hB17.out.size)
          have hgdr : Hid (wr.heap.size ≤ gd) := by rw [← hgd.out]; exact hB16.out.size
          have hB19 : Hid (Below wr.heap.size wr w9) := hbut9.out.to_below hB18.out hgdr.out hB18.out.size
          have ho9 : Hid (w9.ownsRow wr.heap.size 108 2 (.slice A2 SF.length c2) SF.length (flF SF)) := Lib.hid (own_but (own_mono ho8'.out hB17.out.size) hbut9.out hX8.out (by decide))
          clear hfr hce8 y2 q3
          go_wp2_with (rw [hw9.out])
          clear hw9
          have hgl : Hid (lb ≠ g) := by have := hb1.out.size; unfold Hid; omega
          refine wp_region_held (S := fun W => Blk W gd 61 #[.int .i64 dk, .string dn, .string di, .slice A2 SF.length c2] ∧ W.cell? ⟨lb, off + k * 4, none⟩ = some (.int .i64 (a : Int))) (by kernel_rfl) ?_
          obtain ⟨V9, hV9⟩ : ∃ V, Hid (w9.drew = V) := ⟨_, rfl⟩
          have hBV9 : Hid (Below w9.heap.size w9 V9) := by unfold Hid; rw [← hV9.out]; exact (Below.refl _ _).drew
          change wpAnyH _ _ _ _ _ _ _ _ w9.drew
          rw [hV9.out]
          clear hV9
          have hBr9 : Hid (Below wr.heap.size wr V9) := hB19.out.trans (hBV9.out.mono hB19.out.size)
          have hS0 : Blk V9 gd 61 #[.int .i64 dk, .string dn, .string di, .slice A2 SF.length c2] ∧ V9.cell? ⟨lb, off + k * 4, none⟩ = some (.int .i64 (a : Int)) := ⟨hX9.out.below hBV9.out hX9.out.lt, (hS6.out V9 hBr9.out).2.1⟩
          refine wpAnyH_take (i := 0) rfl (by kernel_rfl) (by kernel_rfl) (by kernel_rfl) (fun _ _ _ h => h) (yields_of rfl (fun _ _ => rfl)) hS0 ?_
          go_simp
          refine wpAnyH_take (i := 1) rfl (by kernel_rfl) (by kernel_rfl) (by kernel_rfl) (fun _ _ _ h => h) (yields_of rfl (fun _ _ => rfl)) hS0 ?_
          go_simp
          refine wpAnyH_take (i := 2) rfl (by kernel_rfl) (by kernel_rfl) (by kernel_rfl) (fun _ _ _ h => h) (yields_of rfl (fun _ _ => rfl)) hS0 ?_
          go_simp
          refine wpAnyH_take (i := 3) rfl (by kernel_rfl) (by kernel_rfl) (by kernel_rfl) (fun _ _ _ h => h) (yields_of (v := .pointer (some ⟨lb, off + k * 4, none⟩)) rfl (fun W hW => by go_simp)) hS0 ?_
          go_simp
          refine wpAnyH_take (i := 4) rfl (by kernel_rfl) (by kernel_rfl) (by kernel_rfl) (fun _ _ _ h => h) (yields_of (v := .pointer (some ⟨lb, off + k * 4, none⟩)) rfl (fun W hW => by go_simp)) hS0 ?_
          go_simp
          refine wpAnyH_take (i := 5) rfl (by kernel_rfl) (by kernel_rfl) (by kernel_rfl) (fun _ _ _ h => h) (yields_of (v := .int .i64 (a : Int)) rfl (fun W hW => by have hc := hW.2; go_simp)) hS0 ?_
          go_simp
          refine wpAnyH_take (i := 6) rfl (by kernel_rfl) (by kernel_rfl) (by kernel_rfl) (fun _ _ _ h => h) (yields_blk rfl rfl rfl Tryz.underlying61 rfl (by kernel_rfl) (fun _ h => h.1)) hS0 ?_
          go_simp
          refine wpAnyH_take (i := 7) rfl (by kernel_rfl) (by kernel_rfl) (by kernel_rfl) (fun _ _ _ h => h) (yields_of (v := .pointer (some ⟨g, a * 4, none⟩)) rfl (fun W hW => by go_simp)) hS0 ?_
          go_simp
          refine wpAnyH_all (rs := [8]) (by kernel_rfl) (by decide) ?_
          intro i hi'
          obtain rfl := List.mem_singleton.1 hi'
          have hG9 := Lib.hid (hG.out.on hBr9.out)
          have hfin := Lib.hid (hG.out.store hd'.out hg0 hgr hBr9.out rfl (own_below ho9.out hBV9.out))
          refine held_mid rfl rfl 61 (.tmp 63) (.tmp 62) rfl g (a * 4) #[.int .i64 dk, .string dn, .string di, .slice A2 SF.length c2] (by go_simp) (by go_simp) (row_there hG9.out.own (by show _ ≤ nn * 4; simp; omega)) (by kernel_rfl) (by simp [Value.oneCell']) ?_
          have hb10 := setCells_put g [.int .i64 dk, .string dn, .string di, .slice A2 SF.length c2] (a * 4) V9
          obtain ⟨w10, hw10⟩ : ∃ X, Hid (V9.setCells g (a * 4) [.int .i64 dk, .string dn, .string di, .slice A2 SF.length c2] = X) := ⟨_, rfl⟩
          rw [hw10.out] at hb10 hfin
          show _ ∧ _
          rw [hw10.out]
          refine ⟨⟨hS0.1.but hb10 (by have := hgdr.out; omega), (World.cell?_of_block (w := V9) (hb10.block lb (World.block_lt_of_cell? V9 _ hS0.2) (fun e => hgl.out e))).trans hS0.2⟩, ?_⟩
          go_simp
          refine wpAnyH_done (by kernel_rfl) ?_ _
          have hst9 := Lib.hid (hst.out ⟨dk, dn, di, A2, c2, SF⟩ (by unfold putF bare; rw [← hSF.out]))
          go_wp2_with fail
          go_roundw
          case rel => exact ⟨k + 1, _, by omega, by go_num, hfin, hst9⟩
          case measure => simp [intOf]; omega
    · have hkm : decide (k < ln) = false := decide_eq_false hkl
      have hkl' : k = ln := by omega
      rw [List.take_of_length_le (by rw [hln.out]; omega)] at hld
      have hM : Hid (ld.map bare = mendM c needs day docs l) := hld
      have hxe : Hid (examF c needs (mendM c needs day docs l) day = examF c needs ld day) := by unfold Hid; rw [← hM.out, bare_exam]
      have hLl := hLe.out ld hG.out.len
      have hexr' := Lib.hid (hexr.out wr A1 c1 ld (hN.out.below hBr.out) ⟨hG.out.len, by omega, hDr.out, hen.out.below hBr.out, hsf.out.1⟩)
      obtain ⟨L, hL⟩ : ∃ L, Hid (examF c needs ld day = L) := ⟨_, rfl⟩
      rw [hL.out] at hLl hexr' hxe
      clear hexr hsf hld
      go_wp2_with (refine wpList_load_blk rfl 46 (.tmp 4) rfl gc C 46 _ rfl hbk.out Tryz.underlying46 rfl hsz.out ?_)
      refine hexr'.out.mono ?_
      rintro e w7 ⟨v7, rfl, ho7, hb7⟩
      obtain ⟨A7, c7, rfl, _, hF7⟩ := own_faults ho7 rfl
      have hF7' := Lib.hid hF7
      have hB7 : Hid (Below w.heap.size w w7) := hBr.out.trans (hb7.mono hBr.out.size)
      have hD7 : Hid (DocsAt w7 A1 ld) := Lib.hid (hDr.out.below hb7)
      obtain ⟨K, hK⟩ : ∃ K, Hid (L.length = K) := ⟨_, rfl⟩
      rw [hK.out] at hLl ⊢
      clear ho7 hF7 hb7 hexr' hbk
      have hst0 : Hid (∀ f ∈ l.take 0, anyB L f = false) := Lib.hid fun f hf => by rw [List.take_zero] at hf; cases hf
      go_wp2_with fail
      go_loopw [16] (fun i wx => ∃ q : Nat, q ≤ ln ∧ i = .int .i64 q ∧ Hid (∀ f ∈ l.take q, anyB L f = false) ∧ Hid (Below w7.heap.size w7 wx)) (fun i _ => ln - (intOf i).toNat)
      case atStart => exact ⟨0, Nat.zero_le _, rfl, hst0, Lib.hid (Below.refl _ _)⟩
      case round =>
        clear hst0
        obtain ⟨q, hq, rfl, hno, hBq⟩ := hrel
        have hBw : Hid (Below w.heap.size w wr) := hB7.out.trans (hBq.out.mono hB7.out.size)
        by_cases hql : q < ln
        · obtain ⟨f, hf⟩ : ∃ f, l[q]? = some f := ⟨_, List.getElem?_eq_getElem (by have := hln.out; omega)⟩
          have hin := Lib.hid (in_any A7 K c7 L f wr hK (by omega) (Lib.hid (hF7'.out.below hBq.out)))
          obtain ⟨lb, off, rfl, x0, x1, x2, x3⟩ := (hlA.out.below hBw.out) q f hf
          have hsn : Hid (anyB L f = false → ∀ x ∈ l.take (q + 1), anyB L x = false) := Lib.hid fun h x hx => by
            obtain ⟨hj, e⟩ := List.getElem?_eq_some_iff.1 hf
            rw [List.take_succ_eq_append_getElem hj, e, List.mem_append, List.mem_singleton] at hx
            rcases hx with hx | rfl
            · exact hno.out x hx
            · exact h
          have hyes : Hid (anyB L f = true → (waiveM l L).length ≠ l.length) := Lib.hid fun h h9 => by
            rw [waive_all_iff.1 h9 f (List.mem_of_getElem? hf)] at h
            cases h
          obtain ⟨yb, hyb⟩ : ∃ z, anyB L f = z := ⟨_, rfl⟩
          rw [hyb] at hsn hyes hin
          have i1 : (q : Int) < (ln : Int) := by omega
          have i2 : (0 : Int) ≤ (q : Int) := by omega
          have hkm2 : decide (q < ln) = true := decide_eq_true hql
          obtain ⟨fp, fk, ff, fw⟩ := f
          simp only [Flt.agg] at hin
          simp only at x0 x1 x2 x3
          clear hf hyb
          go_wp2_with fail
          refine hin.out.mono ?_
          rintro e w8 ⟨rfl, hb8⟩
          have hB8 : Hid (Below w7.heap.size w7 w8) := hBq.out.trans (hb8.mono hBq.out.size)
          have hBw8 : Hid (Below w.heap.size w w8) := hBw.out.trans (hb8.mono hBw.out.size)
          clear hb8 hin x0 x1 x2 x3
          cases yb with
          | true =>
            have hne := Lib.hid (hyes.out rfl)
            clear hsn hyes
            go_wp2_with fail
            go_ret2
            exact mendedN hBw8.out (by rw [hxe.out]; exact hne.out)
          | false =>
            have hnx := Lib.hid (hsn.out rfl)
            clear hsn hyes
            go_wp2_with fail
            go_roundw
            case rel => exact ⟨q + 1, by omega, by go_num, hnx, hB8⟩
            case measure => simp [intOf]; omega
        · have hkm2 : decide (q < ln) = false := decide_eq_false hql
          have hall : Hid ((waiveM l L).length = l.length) := Lib.hid (waive_all_iff.2 fun f hf => hno.out f (by rw [List.take_of_length_le (by rw [hln.out]; omega)]; exact hf))
          have hDq := Lib.hid (hD7.out.below hBq.out)
          clear hno
          go_wp2_with fail
          go_ret2
          exact mendedY hBw.out (by rw [hxe.out]; exact hall.out) hM.out hDq.out
end Go.Proofs.YtdjmckjbibfecaaGreatDoor

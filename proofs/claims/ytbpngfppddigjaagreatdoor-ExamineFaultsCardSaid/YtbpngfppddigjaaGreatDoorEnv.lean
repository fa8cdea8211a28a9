/- What the row's list gives: the environment that the walks ask; a slice of faults, opened. -/
import Derived.Test.YtbpngfppddigjaaGreatDoorP
import Derived.Test.YtbpngfppddigjaaGreatDoorCards
import Derived.Test.YtbpngfppddigjaaGreatDoorTie
import Derived.ProofKit
import Derived.OpenShut
import Derived.ShutString
import Derived.ChangeOld
import Derived.Deep.Slices
import Derived.Deep.Fields
import Derived.ChangeSame
import Derived.Lib.SmallJoins
import Derived.Deep.DeepHandedRow
import Derived.Lib.LaidTab
import Derived.Stop.LaidErr
import Derived.LaidSub
import Derived.MakeChecks
namespace Go.Proofs.YtbpngfppddigjaaGreatDoor
open Go Go.ChangeShapes Go.WideShapes Go.ChangeAt Go.RowKit Go.Deep

theorem own : ownKnob Tryz.prog.godebug = none := by kernel_rfl
theorem strtab {P : Program} {W : World} {name : String} {rest : List (String × DataW Unit)} {g : Nat} {t e : TypeId} {n : Nat} (ss : List (List UInt8))
    (hg : P.globalNamed name = some g) (hty : (P.globals[g]?).map (·.type) = some t) (ht : P.underlying t = some (.array n e)) (he : P.underlying e = some .string) (hce : P.cellsOf e = 1) (hss : ss.length = n)
    (h : laidMet P ((name, .agg (ss.map fun s => .lit (.string s))) :: rest) W) : ∀ r, r < n → W.cell? ⟨g, r, none⟩ = some (.string (mkB (ss.getD r []))) := by
  intro r hr
  obtain ⟨ps, ⟨g', t', cs, fuel, p, q, hg', ht', hv, hd, _, _⟩, _, _⟩ := h
  obtain rfl := Option.some.inj (hg.symm.trans hg')
  obtain rfl := Option.some.inj (hty.symm.trans ht')
  obtain ⟨xs, m, _, ex, _, hl, hel⟩ := DataW.trod_array ht hd
  have hE := hel r hr
  rw [hce, Nat.mul_one, List.getElem?_eq_getElem (by omega)] at hE
  obtain ⟨z, e1, e2, _⟩ := DataW.trod_string he hE
  have e3 : (xs.map (·.1)) = ss.map fun s => .lit (.string s) := (DataW.agg.inj (Prod.mk.inj ex).1).symm
  have e4 : (xs.map (·.1))[r]? = (ss.map fun s => (DataW.lit (.string s) : DataW Unit))[r]? := by rw [e3]
  rw [List.getElem?_map, List.getElem?_map, List.getElem?_eq_getElem (by omega : r < xs.length), List.getElem?_eq_getElem (by omega : r < ss.length), e2] at e4
  have hz : z = mkB (ss.getD r []) := by
    simp only [Option.map_some, Option.some.injEq, DataW.lit.injEq, Lit.string.injEq] at e4
    rw [List.getD, List.getElem?_eq_getElem (by omega : r < ss.length)]
    apply ByteArray.ext
    simp only [Option.getD_some, mkB]
    rw [← e4]
  rw [World.var?_cell hg hv r, ← hz]
  have : cs.toList[r]? = some (.string z) := by
    have h0 : ((cs.toList.drop r).take 1)[0]? = some (.string z) := by rw [e1]; rfl
    simpa using h0
  simpa using this
section
variable {H : Type} {enc : TypeId × Value → H} {P : Program} {w : World} {base : Nat} {spare : Nat → Bool} {held : Bool}
theorem open_slice_fields {t e : TypeId} {fs : Array Field} {fuel : Nat} {cs : List Value} {x : DataW H × List MemPlace} (ht : P.underlying t = some (.slice e)) (he : P.underlying e = some (.struct fs))
    (hone : oneCellFields P fs = true) (hC : P.cellsOf e = fs.size) (h : DataW.trod enc P w base spare held fuel t cs = some x) :
    (cs = [.slice none 0 0] ∧ x = (.nil, [])) ∨
    ∃ (a : Addr) (len cap m : Nat) (D : Nat → DataW H) (Pl : Nat → List MemPlace), cs = [.slice (some a) len cap] ∧ base ≤ a.block ∧ len ≤ cap ∧ cap ≤ maxLen ∧ m = (if spare a.block then cap else len) ∧
      x = (.slice ((List.range len).map D) ((List.range (m - len)).map fun j => D (len + j)), MemPlace.row a (m * fs.size) ++ (List.range m).flatMap Pl) ∧
      ∀ i, i < m → ∃ (ys : List (DataW H × List MemPlace)) (n : Nat), D i = .agg (ys.map (·.1)) ∧ Pl i = ys.flatMap (·.2) ∧ ys.length = fs.size ∧
        ∀ (j : Nat) (f : Field), fs[j]? = some f → ∃ (v : Value) (y : DataW H × List MemPlace), w.cell? (a.add (i * fs.size + j)) = some v ∧ ys[j]? = some y ∧ DataW.trod enc P w base spare held n f.type [v] = some y := by
  rcases open_slice ht h with h0 | ⟨a, len, cap, m, n, D, Pl, hcs, hb, hl, hm, hmm, hx, hi⟩
  · exact .inl h0
  · refine .inr ⟨a, len, cap, m, D, Pl, hcs, hb, hl, hm, hmm, by rw [hC] at hx; exact hx, fun i him => ?_⟩
    obtain ⟨cs', hc, ht'⟩ := hi i him
    rw [hC] at hc
    obtain ⟨ys, n', hn', hy, hlen, hyl, hf⟩ := DataW.trod_struct he ht'
    obtain ⟨_, hcl, hat⟩ := World.cells?_some hc
    simp only [Prod.mk.injEq] at hy
    refine ⟨ys, n', hy.1, hy.2, hyl, fun j f hj => ?_⟩
    obtain ⟨ho, hk⟩ := hone_of hone j f hj
    have hjl : j < fs.size := (Array.getElem?_eq_some_iff.1 hj).1
    have hcell := hat j hjl
    have hv : cs'[j]? = some (cs'[j]'(by omega)) := List.getElem?_eq_getElem (by omega)
    have h1 := hf j f hj
    rw [ho, hk] at h1
    have hone' : (cs'.drop j).take 1 = [cs'[j]'(by omega)] := by
      rw [List.drop_eq_getElem_cons (by omega)]
      rfl
    rw [hone'] at h1
    have hys : ys[j]? = some (ys[j]'(by omega)) := List.getElem?_eq_getElem (by omega)
    refine ⟨_, _, ?_, hys, h1.trans hys⟩
    rw [← Go.Deep.add_add, hcell, hv]
end


theorem list_of {α : Type} (n : Nat) (R : Nat → α → Prop) (h : ∀ i, i < n → ∃ x, R i x) : ∃ l : List α, l.length = n ∧ ∀ i x, l[i]? = some x → R i x := by
  induction n with
  | zero => exact ⟨[], rfl, by simp⟩
  | succ n ih =>
    obtain ⟨l, hl, hR⟩ := ih fun i hi => h i (by omega)
    obtain ⟨x, hx⟩ := h n (by omega)
    refine ⟨l ++ [x], by simp [hl], fun i y hy => ?_⟩
    by_cases hi : i < n
    · rw [List.getElem?_append_left (by omega)] at hy; exact hR i y hy
    · have : i = n := by
        have := (List.getElem?_eq_some_iff.1 hy).1
        simp [hl] at this; omega
      subst this
      rw [List.getElem?_append_right (by omega)] at hy
      simp [hl] at hy; subst hy; exact hx

theorem ifacevar {P : Program} {W : World} {name nm : String} {d : DataW Unit} {rest : List (String × DataW Unit)} {g : Nat} {t : TypeId} {ms : Array (String × TypeId)}
    (hg : P.globalNamed name = some g) (hty : (P.globals[g]?).map (·.type) = some t) (ht : P.underlying t = some (.interface ms))
    (h : laidMet P ((name, .iface nm d) :: rest) W) : ∃ te pe, W.cell? ⟨g, 0, none⟩ = some (.iface te pe) := by
  obtain ⟨ps, ⟨g', t', cs, fuel, p, q, hg', ht', hv, hd, _, _⟩, _, _⟩ := h
  obtain rfl := Option.some.inj (hg.symm.trans hg')
  obtain rfl := Option.some.inj (hty.symm.trans ht')
  obtain ⟨l⟩ := cs
  rw [World.var?_cell hg hv 0]
  cases fuel with
  | zero => simp [DataW.trod] at hd
  | succ n =>
    rcases l with _ | ⟨E, _ | ⟨E', r⟩⟩
    · simp [DataW.trod, ht] at hd
    · cases E <;> simp [DataW.trod, ht] at hd
      exact ⟨_, _, rfl⟩
    · cases E <;> simp [DataW.trod, ht] at hd

theorem gTab : Tryz.prog.globalNamed "internal/strconv.uint64pow10" = some 3 := by kernel_rfl
theorem gTabType : (Tryz.prog.globals[3]?).map (·.type) = some 121 := by kernel_rfl
theorem cells137 : Tryz.prog.cellsOf 121 = 20 := by kernel_rfl
theorem cells118 : Tryz.prog.cellsOf 109 = 1 := by kernel_rfl
theorem env_of {W : World} (h : laidMetH Tryz.prog Rows.examineFaultsRow.laid W) (hs : W.ShapedOpen Tryz.prog) : Env W := by
  refine ⟨?_, ?_, ?_, ?_, ?_, ?_, ?_, ?_⟩
  · have h1 := laidMetH.filter (fun x => x.1 == "internal/strconv.uint64pow10") h
    have h2 : laidMetH Tryz.prog [("internal/strconv.uint64pow10", Lib.tabData .u64 Lib.pow10Tab)] W := h1
    exact Lib.tabIs_of_head (rest := []) gTab gTabType Tryz.underlying121 Tryz.underlying109 cells118 cells137 h2
  · exact Go.Proofs.cell_of_shapedOpen_int (zero := #[.int .i64 0]) (t := 3) hs (of_decide_eq_true (by kernel_rfl)) (by kernel_rfl) rfl (by kernel_rfl) (by kernel_rfl) Tryz.underlying3
  · have h1 := laidMetH.filter (fun x => x.1 == "supercargo/examine.kinds") h
    have h2 : laidMetH Tryz.prog [("supercargo/examine.kinds", Rows.laid_supercargo_examine_kinds)] W := h1
    rw [MakeChecks.laidMetH_plain _ _ _ (by kernel_rfl)] at h2
    exact strtab (t := 64) (e := 9) (n := 6) [[105, 110, 118, 111, 105, 99, 101], [112, 97, 99, 107, 105, 110, 103], [108, 97, 100, 105, 110, 103], [105, 110, 115, 117, 114, 97, 110, 99, 101], [111, 114, 105, 103, 105, 110], [100, 114, 97, 102, 116]] (by kernel_rfl) (by kernel_rfl) Tryz.underlying64 Tryz.underlying9 (by kernel_rfl) rfl h2
  · have h1 := laidMetH.filter (fun x => x.1 == "supercargo/examine.whys") h
    have h2 : laidMetH Tryz.prog [("supercargo/examine.whys", Rows.laid_supercargo_examine_whys)] W := h1
    rw [MakeChecks.laidMetH_plain _ _ _ (by kernel_rfl)] at h2
    exact strtab (t := 65) (e := 9) (n := 7) [[102, 105, 110, 101], [108, 97, 99, 107, 115], [102, 97, 105, 108, 115], [117, 110, 108, 105, 107, 101], [108, 97, 116, 101], [109, 117, 99, 104], [102, 101, 119]] (by kernel_rfl) (by kernel_rfl) Tryz.underlying65 Tryz.underlying9 (by kernel_rfl) rfl h2
  · have h1 := laidMetH.filter (fun x => x.1 == "supercargo/examine.alike") h
    have h2 : laidMetH Tryz.prog [("supercargo/examine.alike", Rows.laid_supercargo_examine_alike)] W := h1
    rw [MakeChecks.laidMetH_plain _ _ _ (by kernel_rfl)] at h2
    exact strtab (t := 64) (e := 9) (n := 6) [[115, 101, 108, 108, 101, 114], [102, 114, 111, 109], [116, 111], [99, 117, 114, 114, 101, 110, 99, 121], [98, 111, 120, 101, 115], [109, 97, 114, 107, 115]] (by kernel_rfl) (by kernel_rfl) Tryz.underlying64 Tryz.underlying9 (by kernel_rfl) rfl h2
  · have h1 := laidMetH.filter (fun x => x.1 == "strconv.ErrSyntax") h
    have h2 : laidMetH Tryz.prog [("strconv.ErrSyntax", Rows.laid_strconv_ErrSyntax)] W := h1
    rw [MakeChecks.laidMetH_plain _ _ _ (by kernel_rfl)] at h2
    exact ifacevar (t := 84) (by kernel_rfl) (by kernel_rfl) Tryz.underlying84 h2
  · have h1 := laidMetH.filter (fun x => x.1 == "strconv.ErrRange") h
    have h2 : laidMetH Tryz.prog [("strconv.ErrRange", Rows.laid_strconv_ErrRange)] W := h1
    rw [MakeChecks.laidMetH_plain _ _ _ (by kernel_rfl)] at h2
    exact ifacevar (t := 84) (by kernel_rfl) (by kernel_rfl) Tryz.underlying84 h2
  · have h0 : (((begin Tryz.prog (fun _ _ => 0) default).world.heap[8]?).bind Obj.row?).isSome = true := by kernel_rfl
    obtain ⟨⟨zero, t⟩, hz⟩ := Option.isSome_iff_exists.1 h0
    obtain ⟨cs, hh, _⟩ := hs.1 8 zero t (of_decide_eq_true (by kernel_rfl)) hz
    rcases Nat.lt_or_ge 8 W.heap.size with h | h
    · omega
    · rw [Array.getElem?_eq_none h] at hh; simp at hh

theorem open_faults {H : Type} {enc : TypeId × Value → H} {W : World} {A : Option Addr} {n c : Nat} {d : DataW H} {p : List MemPlace} (h : DataW.Trod enc Tryz.prog W 0 (fun _ => true) true 30 (.slice A n c) d p) :
    ∃ l : List Flt, l.length = n ∧ n ≤ c ∧ c ≤ maxLen ∧ FaultsAt W A l ∧ ∀ x ∈ l, x.fits := by
  obtain ⟨fuel, hf⟩ := h
  rcases open_slice_fields Tryz.underlying30 Tryz.underlying40 (by kernel_rfl) (by kernel_rfl) hf with ⟨hcs, _⟩ | ⟨a, len, cap, m, D, Pl, hcs, _, hl, hm, hmm, _, hi⟩
  · simp [Value.cells] at hcs
    obtain ⟨rfl, rfl, rfl⟩ := hcs
    exact ⟨[], rfl, Nat.le_refl _, Nat.zero_le _, by intro k x hk; simp at hk, by simp⟩
  · simp [Value.cells] at hcs
    obtain ⟨rfl, rfl, rfl⟩ := hcs
    simp only [if_true] at hmm
    subst hmm
    obtain ⟨l, hlen, hR⟩ := list_of n (fun i (x : Flt) => W.cell? (a.add (i * 4)) = some (.int .i64 x.paper) ∧ W.cell? (a.add (i * 4 + 1)) = some (.int .i64 x.kind) ∧ W.cell? (a.add (i * 4 + 2)) = some (.string x.field) ∧ W.cell? (a.add (i * 4 + 3)) = some (.int .i64 x.why) ∧ x.fits) (fun i hin => by
      obtain ⟨ys, k, _, _, hys, hfd⟩ := hi i (by omega)
      obtain ⟨v0, y0, hc0, _, ht0⟩ := hfd 0 _ rfl
      obtain ⟨v1, y1, hc1, _, ht1⟩ := hfd 1 _ rfl
      obtain ⟨v2, y2, hc2, _, ht2⟩ := hfd 2 _ rfl
      obtain ⟨v3, y3, hc3, _, ht3⟩ := hfd 3 _ rfl
      obtain ⟨i0, e0, _, g0⟩ := DataW.trod_int Tryz.underlying3 ht0
      obtain ⟨i1, e1, _, g1⟩ := DataW.trod_int Tryz.underlying3 ht1
      obtain ⟨s2, e2, _, g2⟩ := DataW.trod_string Tryz.underlying9 ht2
      obtain ⟨i3, e3, _, g3⟩ := DataW.trod_int Tryz.underlying3 ht3
      simp at e0 e1 e2 e3
      subst e0 e1 e2 e3
      exact ⟨⟨i0, i1, s2, i3⟩, by simpa using hc0, by simpa using hc1, by simpa using hc2, by simpa using hc3, g0, g1, g2, g3⟩)
    refine ⟨l, hlen, hl, hm, fun k x hk => ?_, fun x hx => ?_⟩
    · obtain ⟨h0, h1, h2, h3, _⟩ := hR k x hk
      obtain ⟨x0, hx0⟩ : ∃ x0, l[0]? = some x0 := ⟨_, List.getElem?_eq_getElem (by have := (List.getElem?_eq_some_iff.1 hk).1; omega)⟩
      have hsp := World.cell?_spot (hR 0 x0 hx0).1
      obtain ⟨b, off, spot⟩ := a
      have hspot : spot = none := by simpa [Addr.add] using hsp
      subst hspot
      have hadd : ∀ j, Addr.add ⟨b, off, none⟩ j = ⟨b, off + j, none⟩ := fun j => by unfold Addr.add; split <;> simp_all
      rw [hadd] at h0 h1 h2 h3
      exact ⟨b, off, rfl, h0, h1, h2, h3⟩
    · obtain ⟨k, hk⟩ := List.mem_iff_getElem?.1 hx
      exact (hR k x hk).2.2.2.2
end Go.Proofs.YtbpngfppddigjaaGreatDoor

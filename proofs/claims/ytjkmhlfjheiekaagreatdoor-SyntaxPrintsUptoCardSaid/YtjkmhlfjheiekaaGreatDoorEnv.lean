/- What the row's list gives: the environment that the walks ask. -/
import Derived.Test.YtjkmhlfjheiekaaGreatDoorF
import Derived.Test.YtjkmhlfjheiekaaGreatDoorCards
import Derived.Test.YtjkmhlfjheiekaaGreatDoorTie
import Derived.ProofKit
import Derived.OpenShut
import Derived.ShutString
import Derived.ChangeOld
import Derived.Deep.Slices
import Derived.Deep.Fields
import Derived.ChangeSame
import Derived.Lib.SmallJoins
import Derived.Deep.DeepHandedRow
import Derived.Lib.LaidTab
import Derived.Stop.LaidErr
import Derived.LaidSub
import Derived.MakeChecks
namespace Go.Proofs.YtjkmhlfjheiekaaGreatDoor
open Go Go.ChangeShapes Go.WideShapes Go.ChangeAt Go.RowKit Go.Deep

theorem laidOut : laidOutB Tryz.prog = true := by kernel_rfl
theorem own : ownKnob Tryz.prog.godebug = none := by kernel_rfl
theorem strtab {P : Program} {W : World} {name : String} {rest : List (String × DataW Unit)} {g : Nat} {t e : TypeId} {n : Nat} (ss : List (List UInt8))
    (hg : P.globalNamed name = some g) (hty : (P.globals[g]?).map (·.type) = some t) (ht : P.underlying t = some (.array n e)) (he : P.underlying e = some .string) (hce : P.cellsOf e = 1) (hss : ss.length = n)
    (h : laidMet P ((name, .agg (ss.map fun s => .lit (.string s))) :: rest) W) : ∀ r, r < n → W.cell? ⟨g, r, none⟩ = some (.string ((⟨(ss.getD r []).toArray⟩ : ByteArray))) := by
  intro r hr
  obtain ⟨ps, ⟨g', t', cs, fuel, p, q, hg', ht', hv, hd, _, _⟩, _, _⟩ := h
  obtain rfl := Option.some.inj (hg.symm.trans hg')
  obtain rfl := Option.some.inj (hty.symm.trans ht')
  obtain ⟨xs, m, _, ex, _, hl, hel⟩ := DataW.trod_array ht hd
  have hE := hel r hr
  rw [hce, Nat.mul_one, List.getElem?_eq_getElem (by omega)] at hE
  obtain ⟨z, e1, e2, _⟩ := DataW.trod_string he hE
  have e3 : (xs.map (·.1)) = ss.map fun s => .lit (.string s) := (DataW.agg.inj (Prod.mk.inj ex).1).symm
  have e4 : (xs.map (·.1))[r]? = (ss.map fun s => (DataW.lit (.string s) : DataW Unit))[r]? := by rw [e3]
  rw [List.getElem?_map, List.getElem?_map, List.getElem?_eq_getElem (by omega : r < xs.length), List.getElem?_eq_getElem (by omega : r < ss.length), e2] at e4
  have hz : z = (⟨(ss.getD r []).toArray⟩ : ByteArray) := by
    simp only [Option.map_some, Option.some.injEq, DataW.lit.injEq, Lit.string.injEq] at e4
    rw [List.getD, List.getElem?_eq_getElem (by omega : r < ss.length)]
    apply ByteArray.ext
    simp only [Option.getD_some]
    rw [← e4]
  rw [World.var?_cell hg hv r, ← hz]
  have : cs.toList[r]? = some (.string z) := by
    have h0 : ((cs.toList.drop r).take 1)[0]? = some (.string z) := by rw [e1]; rfl
    simpa using h0
  simpa using this

theorem star : "*" ++ "errors.errorString" = "*errors.errorString" := by decide
theorem row196 (u : TypeId) (h : Tryz.prog.typeName? 3 u = some "*errors.errorString") : u = 196 :=
  typeName_ptr_named (nm := "errors.errorString") (by rw [star]; kernel_rfl) (by kernel_rfl) (by decide) u (by rw [star]; exact h)
theorem cells198 : Tryz.prog.cellsOf 198 = 1 := by kernel_rfl
theorem cells9 : Tryz.prog.cellsOf 9 = 1 := by kernel_rfl
def wordsN : List (List UInt8) := [[97, 98, 111, 118, 101], [97, 108, 108], [97, 110, 100], [97, 110, 121], [97, 112, 112, 108, 105, 99, 97, 110, 116], [98, 101, 108, 111, 119], [98, 101, 110, 101, 102, 105, 99, 105, 97, 114, 121], [99, 104, 97, 110, 103, 101], [99, 111, 110, 102, 105, 114, 109, 101, 114], [99, 111, 112, 105, 101, 115], [99, 114, 101, 100, 105, 116], [100, 97, 121, 115], [100, 114, 97, 102, 116], [101, 120, 112, 105, 114, 121], [102, 114, 111, 109], [105, 110, 115, 117, 114, 97, 110, 99, 101], [105, 110, 118, 111, 105, 99, 101], [105, 115, 115, 117, 101, 114], [108, 97, 100, 105, 110, 103], [108, 97, 116, 101, 115, 116], [110, 111], [110, 111, 116], [111, 102], [111, 114], [111, 114, 105, 103, 105, 110], [112, 97, 99, 107, 105, 110, 103], [112, 97, 114, 116, 105, 97, 108], [115, 105, 103, 104, 116], [115, 117, 109], [116, 101, 110, 111, 114], [116, 111], [119, 97, 110, 116, 115], [119, 105, 116, 104], [119, 105, 116, 104, 105, 110], [121, 101, 115]]
def papersN : List (List UInt8) := [[105, 110, 118, 111, 105, 99, 101], [112, 97, 99, 107, 105, 110, 103], [108, 97, 100, 105, 110, 103], [105, 110, 115, 117, 114, 97, 110, 99, 101], [111, 114, 105, 103, 105, 110], [100, 114, 97, 102, 116]]
theorem gTab : Tryz.prog.globalNamed "internal/strconv.uint64pow10" = some 2 := by kernel_rfl
theorem gTabType : (Tryz.prog.globals[2]?).map (·.type) = some 177 := by kernel_rfl
theorem cells177 : Tryz.prog.cellsOf 177 = 20 := by kernel_rfl
theorem cells164 : Tryz.prog.cellsOf 164 = 1 := by kernel_rfl
theorem arr_get (l : List (List UInt8)) (n : Nat) (h : n < l.length) : (l.map fun t => Value.string ⟨t.toArray⟩).toArray[n]? = some (.string ⟨(l.getD n []).toArray⟩) := by
  rw [List.getElem?_toArray, List.getElem?_map, List.getD, List.getElem?_eq_getElem h]; rfl
set_option maxRecDepth 100000 in
theorem env_of {W : World} (h : laidMetH Tryz.prog Rows.syntaxRulesRow.laid W) (hs : W.ShapedOpen Tryz.prog) : Env W := by
  refine ⟨?_, ?_, ?_, ?_, ?_, ?_, ?_⟩
  · have h1 := laidMetH.filter (fun x => x.1 == "internal/strconv.uint64pow10") h
    have h2 : laidMetH Tryz.prog [("internal/strconv.uint64pow10", Lib.tabData .u64 Lib.pow10Tab)] W := h1
    exact Lib.tabIs_of_head (rest := []) gTab gTabType Tryz.underlying177 Tryz.underlying164 cells164 cells177 h2
  · exact Go.Proofs.cell_of_shapedOpen_int (zero := #[.int .i64 0]) (t := 3) hs (of_decide_eq_true (by kernel_rfl)) (by kernel_rfl) rfl (by kernel_rfl) (by kernel_rfl) Tryz.underlying3
  · have h1 := laidMetH.filter (fun x => x.1 == "supercargo/syntax.papers") h
    have h2 : laidMetH Tryz.prog [("supercargo/syntax.papers", Rows.laid_supercargo_syntax_papers)] W := h1
    rw [MakeChecks.laidMetH_plain _ _ _ (by kernel_rfl)] at h2
    intro n hn
    rw [show papersA = (papersN.map fun t => Value.string ⟨t.toArray⟩).toArray from rfl, arr_get papersN n hn]
    exact strtab (t := 125) (e := 9) (n := 6) papersN (by kernel_rfl) (by kernel_rfl) Tryz.underlying125 Tryz.underlying9 (by kernel_rfl) rfl h2 n hn
  · have h1 := laidMetH.filter (fun x => x.1 == "supercargo/token.words") h
    have h2 : laidMetH Tryz.prog [("supercargo/token.words", Rows.laid_supercargo_token_words)] W := h1
    rw [MakeChecks.laidMetH_plain _ _ _ (by kernel_rfl)] at h2
    intro n hn
    rw [show wordsA = (wordsN.map fun t => Value.string ⟨t.toArray⟩).toArray from rfl, arr_get wordsN n hn]
    exact strtab (t := 173) (e := 9) (n := 35) wordsN (by kernel_rfl) (by kernel_rfl) Tryz.underlying173 Tryz.underlying9 (by kernel_rfl) rfl h2 n hn
  · have h1 := laidMetH.filter (fun x => x.1 == "strconv.ErrSyntax") h
    have h2 : laidMetH Tryz.prog [("strconv.ErrSyntax", Rows.laid_strconv_ErrSyntax)] W := h1
    rw [MakeChecks.laidMetH_plain _ _ _ (by kernel_rfl)] at h2
    have hg : Tryz.prog.globalNamed "strconv.ErrSyntax" = some 6 := by kernel_rfl
    obtain ⟨a, _, hv, _⟩ := laid_sentinel h2 hg (ti := 120) (by kernel_rfl) Tryz.underlying120 row196 Tryz.underlying196 Tryz.underlying198 rfl rfl Tryz.underlying9 cells198 cells9
    exact ⟨196, some a, by simpa using World.var?_cell hg hv 0⟩
  · have h1 := laidMetH.filter (fun x => x.1 == "strconv.ErrRange") h
    have h2 : laidMetH Tryz.prog [("strconv.ErrRange", Rows.laid_strconv_ErrRange)] W := h1
    rw [MakeChecks.laidMetH_plain _ _ _ (by kernel_rfl)] at h2
    have hg : Tryz.prog.globalNamed "strconv.ErrRange" = some 7 := by kernel_rfl
    obtain ⟨a, _, hv, _⟩ := laid_sentinel h2 hg (ti := 120) (by kernel_rfl) Tryz.underlying120 row196 Tryz.underlying196 Tryz.underlying198 rfl rfl Tryz.underlying9 cells198 cells9
    exact ⟨196, some a, by simpa using World.var?_cell hg hv 0⟩
  · have h0 : (((begin Tryz.prog (fun _ _ => 0) default).world.heap[7]?).bind Obj.row?).isSome = true := by kernel_rfl
    obtain ⟨⟨zero, t⟩, hz⟩ := Option.isSome_iff_exists.1 h0
    obtain ⟨cs, hh, _⟩ := hs.1 7 zero t (of_decide_eq_true (by kernel_rfl)) hz
    rcases Nat.lt_or_ge 7 W.heap.size with h | h
    · omega
    · rw [Array.getElem?_eq_none h] at hh; simp at hh
end Go.Proofs.YtjkmhlfjheiekaaGreatDoor

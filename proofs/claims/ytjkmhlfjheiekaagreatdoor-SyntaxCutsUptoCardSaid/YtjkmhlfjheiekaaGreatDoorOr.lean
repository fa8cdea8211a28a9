import Derived.Test.YtjkmhlfjheiekaaGreatDoorCards
import Derived.Test.YtjkmhlfjheiekaaGreatDoorTie
import Derived.ProofKit
import Derived.OpenShut
import Derived.ShutString
import Derived.ChangeOld
import Derived.Deep.Slices
import Derived.Deep.Fields
import Derived.ChangeSame
import Derived.Lib.SmallJoins
import Derived.Deep.DeepHandedRow
import Derived.Lib.LaidTab
import Derived.Stop.LaidErr
import Derived.LaidSub
import Derived.MakeChecks
import Derived.SizedLaws
import Derived.Test.YtjkmhlfjheiekaaGreatDoorI
import Derived.Test.YtjkmhlfjheiekaaGreatDoorWc
import Derived.Test.YtjkmhlfjheiekaaGreatDoorYa
import Derived.Test.YtjkmhlfjheiekaaGreatDoorYd
set_option maxRecDepth 1000000
set_option maxHeartbeats 51200000
namespace Go.Proofs.YtjkmhlfjheiekaaGreatDoor
open Go Go.ChangeShapes Go.WideShapes Go.ChangeAt Go.RowKit Go.Deep
theorem laidOut : laidOutB Tryz.prog = true := by kernel_rfl
theorem own : ownKnob Tryz.prog.godebug = none := by kernel_rfl
theorem strtab {P : Program} {W : World} {name : String} {rest : List (String × DataW Unit)} {g : Nat} {t e : TypeId} {n : Nat} (ss : List (List UInt8))
  (hg : P.globalNamed name = some g) (hty : (P.globals[g]?).map (·.type) = some t) (ht : P.underlying t = some (.array n e)) (he : P.underlying e = some .string) (hce : P.cellsOf e = 1) (hss : ss.length = n)
  (h : laidMet P ((name, .agg (ss.map fun s => .lit (.string s))) :: rest) W) : ∀ r, r < n → W.cell? (Az g r) = some (.string ((⟨(ss.getD r []).toArray⟩ : ByteArray))) := by
 intro r hr
 obtain ⟨ps, ⟨g', t', cs, fuel, p, q, hg', ht', hv, hd, _, _⟩, _, _⟩ := h
 obtain rfl := Option.some.inj (hg.symm.trans hg')
 obtain rfl := Option.some.inj (hty.symm.trans ht')
 obtain ⟨xs, m, _, ex, _, hl, hel⟩ := DataW.trod_array ht hd
 have hE := hel r hr
 rw [hce, Nat.mul_one, List.getElem?_eq_getElem (by omega)] at hE
 obtain ⟨z, e1, e2, _⟩ := DataW.trod_string he hE
 have e3 : (xs.map (·.1)) = ss.map fun s => .lit (.string s) := (DataW.agg.inj (Prod.mk.inj ex).1).symm
 have e4 : (xs.map (·.1))[r]? = (ss.map fun s => (DataW.lit (.string s) : DataW Unit))[r]? := by rw [e3]
 rw [List.getElem?_map, List.getElem?_map, List.getElem?_eq_getElem (by omega : r < xs.length), List.getElem?_eq_getElem (by omega : r < ss.length), e2] at e4
 have hz : z = (⟨(ss.getD r []).toArray⟩ : ByteArray) := by
  simp only [Option.map_some, Option.some.injEq, DataW.lit.injEq, Lit.string.injEq] at e4; rw [List.getD, List.getElem?_eq_getElem (by omega : r < ss.length)]; apply ByteArray.ext; simp only [Option.getD_some]; rw [← e4]
 rw [World.var?_cell hg hv r, ← hz]
 have : cs.toList[r]? = some (.string z) := by
  have h0 : ((cs.toList.drop r).take 1)[0]? = some (.string z) := by rw [e1]; rfl
  simpa using h0
 simpa using this
theorem star : "*" ++ "errors.errorString" = "*errors.errorString" := by decide
theorem row196 (u : TypeId) (h : Tryz.prog.typeName? 3 u = some "*errors.errorString") : u = 196 :=
 typeName_ptr_named (nm := "errors.errorString") (by rw [star]; kernel_rfl) (by kernel_rfl) (by decide) u (by rw [star]; exact h)
theorem cells198 : Tryz.prog.cellsOf 198 = 1 := by kernel_rfl
theorem cells9 : Tryz.prog.cellsOf 9 = 1 := by kernel_rfl
def wordsN : List (List UInt8) := [[97, 98, 111, 118, 101], [97, 108, 108], [97, 110, 100], [97, 110, 121], [97, 112, 112, 108, 105, 99, 97, 110, 116], [98, 101, 108, 111, 119], [98, 101, 110, 101, 102, 105, 99, 105, 97, 114, 121], [99, 104, 97, 110, 103, 101], [99, 111, 110, 102, 105, 114, 109, 101, 114], [99, 111, 112, 105, 101, 115], [99, 114, 101, 100, 105, 116], [100, 97, 121, 115], [100, 114, 97, 102, 116], [101, 120, 112, 105, 114, 121], [102, 114, 111, 109], [105, 110, 115, 117, 114, 97, 110, 99, 101], [105, 110, 118, 111, 105, 99, 101], [105, 115, 115, 117, 101, 114], [108, 97, 100, 105, 110, 103], [108, 97, 116, 101, 115, 116], [110, 111], [110, 111, 116], [111, 102], [111, 114], [111, 114, 105, 103, 105, 110], [112, 97, 99, 107, 105, 110, 103], [112, 97, 114, 116, 105, 97, 108], [115, 105, 103, 104, 116], [115, 117, 109], [116, 101, 110, 111, 114], [116, 111], [119, 97, 110, 116, 115], [119, 105, 116, 104], [119, 105, 116, 104, 105, 110], [121, 101, 115]]
def papersN : List (List UInt8) := [[105, 110, 118, 111, 105, 99, 101], [112, 97, 99, 107, 105, 110, 103], [108, 97, 100, 105, 110, 103], [105, 110, 115, 117, 114, 97, 110, 99, 101], [111, 114, 105, 103, 105, 110], [100, 114, 97, 102, 116]]
theorem gTab : Tryz.prog.globalNamed "internal/strconv.uint64pow10" = some 2 := by kernel_rfl
theorem gTabType : (Tryz.prog.globals[2]?).map (·.type) = some 177 := by kernel_rfl
theorem cells177 : Tryz.prog.cellsOf 177 = 20 := by kernel_rfl
theorem cells164 : Tryz.prog.cellsOf 164 = 1 := by kernel_rfl
theorem arr_get (l : List (List UInt8)) (n : Nat) (h : n < l.length) : (l.map fun t => Value.string ⟨t.toArray⟩).toArray[n]? = some (.string ⟨(l.getD n []).toArray⟩) := by
 rw [List.getElem?_toArray, List.getElem?_map, List.getD, List.getElem?_eq_getElem h]; rfl
theorem env_of {W : World} (h : laidMetH Tryz.prog Rows.syntaxRulesRow.laid W) (hs : W.ShapedOpen Tryz.prog) : Env W := by
 refine ⟨?_, ?_, ?_, ?_, ?_, ?_, ?_⟩
 ·have h1 := laidMetH.filter (fun x => x.1 == "internal/strconv.uint64pow10") h
  have h2 : laidMetH Tryz.prog [("internal/strconv.uint64pow10", Lib.tabData .u64 Lib.pow10Tab)] W := h1; exact Lib.tabIs_of_head (rest := []) gTab gTabType Tryz.underlying177 Tryz.underlying164 cells164 cells177 h2
 ·exact Go.Proofs.cell_of_shapedOpen_int (zero := #[Iz 0]) (t := 3) hs (of_decide_eq_true (by kernel_rfl)) (by kernel_rfl) rfl (by kernel_rfl) (by kernel_rfl) Tryz.underlying3
 ·have h1 := laidMetH.filter (fun x => x.1 == "supercargo/syntax.papers") h
  have h2 : laidMetH Tryz.prog [("supercargo/syntax.papers", Rows.laid_supercargo_syntax_papers)] W := h1; rw [MakeChecks.laidMetH_plain _ _ _ (by kernel_rfl)] at h2; intro n hn; rw [show papersA = (papersN.map fun t => Value.string ⟨t.toArray⟩).toArray from rfl, arr_get papersN n hn]; exact strtab (t := 125) (e := 9) (n := 6) papersN (by kernel_rfl) (by kernel_rfl) Tryz.underlying125 Tryz.underlying9 (by kernel_rfl) rfl h2 n hn
 ·have h1 := laidMetH.filter (fun x => x.1 == "supercargo/token.words") h
  have h2 : laidMetH Tryz.prog [("supercargo/token.words", Rows.laid_supercargo_token_words)] W := h1; rw [MakeChecks.laidMetH_plain _ _ _ (by kernel_rfl)] at h2; intro n hn; rw [show wordsA = (wordsN.map fun t => Value.string ⟨t.toArray⟩).toArray from rfl, arr_get wordsN n hn]; exact strtab (t := 173) (e := 9) (n := 35) wordsN (by kernel_rfl) (by kernel_rfl) Tryz.underlying173 Tryz.underlying9 (by kernel_rfl) rfl h2 n hn
 ·have h1 := laidMetH.filter (fun x => x.1 == "strconv.ErrSyntax") h
  have h2 : laidMetH Tryz.prog [("strconv.ErrSyntax", Rows.laid_strconv_ErrSyntax)] W := h1; rw [MakeChecks.laidMetH_plain _ _ _ (by kernel_rfl)] at h2; have hg : Tryz.prog.globalNamed "strconv.ErrSyntax" = some 6 := by kernel_rfl
  obtain ⟨a, _, hv, _⟩ := laid_sentinel h2 hg (ti := 120) (by kernel_rfl) Tryz.underlying120 row196 Tryz.underlying196 Tryz.underlying198 rfl rfl Tryz.underlying9 cells198 cells9; exact ⟨196, some a, by simpa using World.var?_cell hg hv 0⟩
 ·have h1 := laidMetH.filter (fun x => x.1 == "strconv.ErrRange") h
  have h2 : laidMetH Tryz.prog [("strconv.ErrRange", Rows.laid_strconv_ErrRange)] W := h1; rw [MakeChecks.laidMetH_plain _ _ _ (by kernel_rfl)] at h2; have hg : Tryz.prog.globalNamed "strconv.ErrRange" = some 7 := by kernel_rfl
  obtain ⟨a, _, hv, _⟩ := laid_sentinel h2 hg (ti := 120) (by kernel_rfl) Tryz.underlying120 row196 Tryz.underlying196 Tryz.underlying198 rfl rfl Tryz.underlying9 cells198 cells9; exact ⟨196, some a, by simpa using World.var?_cell hg hv 0⟩
 ·have h0 : (((begin Tryz.prog (fun _ _ => 0) default).world.heap[7]?).bind Obj.row?).isSome = true := by kernel_rfl
  obtain ⟨⟨zero, t⟩, hz⟩ := Option.isSome_iff_exists.1 h0; obtain ⟨cs, hh, _⟩ := hs.1 7 zero t (of_decide_eq_true (by kernel_rfl)) hz
  rcases Nat.lt_or_ge 7 W.heap.size with h | h
  ·omega
  ·rw [Array.getElem?_eq_none h] at hh; simp at hh
section
variable {H : Type} {enc : TypeId × Value → H} {P : Program} {w : World} {base : Nat} {spare : Nat → Bool} {held : Bool}
def Fits (P : Program) (t : TypeId) (d : DataW H) : Prop := ∀ n ∈ d.weights P t, n ≤ reachBytes
theorem Fits.part {t : TypeId} {fs : Array Field} {parts : List (DataW H)} {i : Nat} {f : Field} {d : DataW H} (h : Fits P t (.agg parts)) (ht : P.underlying t = some (.struct fs)) (hf : fs[i]? = some f) (hd : parts[i]? = some d) : Fits P f.type d := by
 intro n hn
 refine h n ?_
 rw [DataW.weights, ht]
 exact DataW.weights_mem_each (j := i) (by simp [hf]) hd n hn
theorem Fits.len {t e : TypeId} {l r : List (DataW H)} (h : Fits P t (.slice l r)) (ht : P.underlying t = some (.slice e)) : (l.length + r.length) * P.bytesOf e ≤ reachBytes := by
 refine h _ ?_
 rw [DataW.weights, ht]
 simp
theorem oiz {t : TypeId} {k : IntKind} {fuel : Nat} {cs : List Value} {x : DataW H × List MemPlace} (ht : P.underlying t = some (.int k)) (h : DataW.trod enc P w base spare held fuel t cs = some x) : ∃ n, cs = [.int k n] ∧ (Lit.int k n).wf = true := by
 obtain ⟨n, e, _, hw⟩ := DataW.trod_int ht h
 exact ⟨n, e, hw⟩
end
theorem list_of {α : Type} (n : Nat) (R : Nat → α → Prop) (h : ∀ i, i < n → ∃ x, R i x) : ∃ l : List α, l.length = n ∧ ∀ i x, l[i]? = some x → R i x := by
 induction n with
 | zero => exact ⟨[], rfl, by simp⟩
 | succ n ih =>
  obtain ⟨l, hl, hR⟩ := ih fun i hi => h i (by omega)
  obtain ⟨x, hx⟩ := h n (by omega); refine ⟨l ++ [x], by simp [hl], fun i y hy => ?_⟩
  by_cases hi : i < n
  ·rw [List.getElem?_append_left (by omega)] at hy; exact hR i y hy
  ·have : i = n := by
    have := (List.getElem?_eq_some_iff.1 hy).1; simp [hl] at this; omega
   subst this; rw [List.getElem?_append_right (by omega)] at hy; simp [hl] at hy; subst hy; exact hx
theorem len6 {α : Type} {l : List α} (h : l.length = 6) : ∃ a b c d e f, l = [a, b, c, d, e, f] := by
 match l, h with
 | [a, b, c, d, e, f], _ => exact ⟨a, b, c, d, e, f, rfl⟩
theorem len8 {α : Type} {l : List α} (h : l.length = 8) : ∃ a b c d e f i j, l = [a, b, c, d, e, f, i, j] := by
 match l, h with
 | [a, b, c, d, e, f, i, j], _ => exact ⟨a, b, c, d, e, f, i, j, rfl⟩
theorem len18 {α : Type} {l : List α} (h : l.length = 18) : ∃ a b c d e f g i j k m n o p q r s t, l = [a, b, c, d, e, f, g, i, j, k, m, n, o, p, q, r, s, t] := by
 match l, h with
 | [a, b, c, d, e, f, g, i, j, k, m, n, o, p, q, r, s, t], _ => exact ⟨a, b, c, d, e, f, g, i, j, k, m, n, o, p, q, r, s, t, rfl⟩
abbrev anyB : Nat → Prop := fun _ => True
section
variable {H : Type} {enc : TypeId × Value → H} {W : World}
abbrev Trd (enc : TypeId × Value → H) (W : World) (fuel : Nat) (t : TypeId) (cs : List Value) (x : DataW H × List MemPlace) : Prop := DataW.trod enc Tryz.prog W 0 (fun _ => true) true fuel t cs = some x
theorem rows_of {A : Option Addr} : ∀ (L : List Tree) (j : Nat), (∀ k t, L[k]? = some t → CellsAt W anyB A (j + k) t ∧ TAz W anyB t) → RAz W anyB A j L
 | [], _, _ => by rw [RAz]; trivial
 | t :: L, j, h => by
  rw [RAz]; have h0 := h 0 t rfl; refine ⟨h0.1, h0.2, rows_of L (j + 1) fun k u hk => ?_⟩; have := h (k + 1) u (by simpa using hk); rw [show j + 1 + k = j + (k + 1) by omega]; exact this
theorem fits_of {P : Program} {ts : List TypeId} {l : List (DataW H)} (hz : (DataW.weightsEach P ts l).all (· ≤ reachBytes) = true) {j : Nat} {t : TypeId} {d : DataW H} (ht : ts[j]? = some t) (hd : l[j]? = some d) : Fits P t d := fun n hn => by
 have := List.all_eq_true.1 hz n (DataW.weights_mem_each ht hd n hn)
 simpa using this
variable {base : Nat}
abbrev TrdV (enc : TypeId × Value → H) (W : World) (t : TypeId) (v : Value) (d : DataW H) (p : List MemPlace) : Prop := DataW.Trod enc Tryz.prog W 0 (fun _ => true) true t v d p
end
open Go Go.ChangeShapes Go.WideShapes Go.ChangeAt Go.RowKit Go.Deep
section
variable {H : Type} {enc : TypeId × Value → H} {P : Program} {w : World} {base : Nat} {spare : Nat → Bool} {held : Bool}
theorem open_row2 {t e : TypeId} {fuel : Nat} {cs : List Value} {x : DataW H × List MemPlace} (ht : P.underlying t = some (.slice e)) (hs : 0 < P.cellsOf e) (h : DataW.trod enc P w base spare held fuel t cs = some x) :
  ∃ (A : Option Addr) (len cap n : Nat) (D : List (DataW H)), cs = [.slice A len cap] ∧ n < fuel ∧ len ≤ cap ∧ cap ≤ maxLen ∧ D.length = len ∧ Rows.uptoBulkAll D + 1 ≤ Rows.uptoBulk x.1 ∧ ∀ i, i < len → ∃ (b off : Nat) (cs' : List Value) (y : DataW H × List MemPlace), A = some (Az b off) ∧ cs'.length = P.cellsOf e ∧
   (∀ j, j < P.cellsOf e → w.cell? ⟨b, off + i * P.cellsOf e + j, none⟩ = cs'[j]?) ∧ DataW.trod enc P w base spare held n e cs' = some y ∧ D[i]? = some y.1 := by
 have hfu : 0 < fuel := by
  rcases Nat.eq_zero_or_pos fuel with h0 | h0
  ·subst h0; simp [DataW.trod] at h
  ·exact h0
 rcases DataW.trod_slice ht h with ⟨rfl, rfl⟩ | ⟨a, len, cap, elems, rest, n, rfl, rfl, rfl, hb, hl, hm, hlen, hel, hsp, hns⟩
 ·exact ⟨none, 0, 0, 0, [], rfl, hfu, Nat.le_refl _, Nat.zero_le _, rfl, by simp [Rows.uptoBulkAll, Rows.uptoBulk], fun i hi => by omega⟩
 ·refine ⟨some a, len, cap, n, elems.map (·.1), rfl, by omega, hl, hm, by simp [hlen], by simp only [Rows.uptoBulk]; omega, fun i hi => ?_⟩
  have h1 := hel i hi; rw [List.getElem?_eq_getElem (by omega)] at h1; obtain ⟨cs', hc, ht'⟩ := Option.bind_eq_some_iff.1 h1; obtain ⟨_, hcl, hat⟩ := World.cells?_some hc; obtain ⟨b, off, spot⟩ := a
  have hsp0 : spot = none := by
   have g1 := hel 0 (by omega); rw [List.getElem?_eq_getElem (by omega)] at g1; obtain ⟨ds', gc, _⟩ := Option.bind_eq_some_iff.1 g1; obtain ⟨_, gcl, gat⟩ := World.cells?_some gc; have h0 := gat 0 hs; rw [List.getElem?_eq_getElem (by omega)] at h0; have := World.cell?_spot h0; simpa [Addr.add] using this
  subst hsp0; have hadd : ∀ j, Addr.add (Az b off) j = ⟨b, off + j, none⟩ := fun j => by unfold Addr.add; split <;> simp_all
  refine ⟨b, off, cs', elems[i], rfl, hcl, fun j hj => ?_, ht', by rw [List.getElem?_map, List.getElem?_eq_getElem (by omega)]; rfl⟩; rw [← hat j hj, Go.Deep.add_add, hadd, Nat.add_assoc]
theorem open_strct2 {t : TypeId} {fs : Array Field} {fuel : Nat} {cs : List Value} {x : DataW H × List MemPlace} (ht : P.underlying t = some (.struct fs)) (h : DataW.trod enc P w base spare held fuel t cs = some x) :
  ∃ (n : Nat) (xs : List (DataW H × List MemPlace)), n < fuel ∧ cs.length = P.cellsOf t ∧ x.1 = .agg (xs.map (·.1)) ∧ xs.length = fs.size ∧ ∀ (i : Nat) (f : Field), fs[i]? = some f → DataW.trod enc P w base spare held n f.type ((cs.drop f.offset).take (P.cellsOf f.type)) = xs[i]? := by
 obtain ⟨xs, n, rfl, rfl, hl, hlen, hf⟩ := DataW.trod_struct ht h
 exact ⟨n, xs, by omega, hl, rfl, hlen, hf⟩
end
theorem szL_bulk {H : Type} : ∀ (L : List Tree) (D : List (DataW H)), L.length = D.length → (∀ (i : Nat) (t : Tree) (d : DataW H), L[i]? = some t → D[i]? = some d → szR (stz t) + 16 ≤ 80 * Rows.uptoBulk d) → szL (sSz L) ≤ 80 * Rows.uptoBulkAll D
 | [], [], _, _ => by simp [sSz, szL, Rows.uptoBulkAll]
 | [], _ :: _, h, _ => by simp at h
 | _ :: _, [], h, _ => by simp at h
 | t :: L, d :: D, hl, h => by
  have h0 := h 0 t d rfl rfl; have h1 := szL_bulk L D (by simpa using hl) (fun i u e hu he => h (i + 1) u e (by simpa using hu) (by simpa using he)); rw [sSz, szL, Rows.uptoBulkAll]; omega
section
variable {H : Type} {enc : TypeId × Value → H} {W : World}
theorem open_node_bulk : ∀ (fuel : Nat) (cs : List Value) (x : DataW H × List MemPlace), Trd enc W fuel 25 cs x → ∃ t : Tree, cs = t.cells.toList ∧ TAz W anyB t ∧ szR (stz t) + 16 ≤ 80 * Rows.uptoBulk x.1 := by
 intro fuel
 induction fuel using Nat.strongRecOn with
 | ind fuel ih =>
  intro cs x h; obtain ⟨m, xs, hm, hcl, hx, hxl, hfd⟩ := open_strct2 Tryz.underlying25 h; rw [show Tryz.prog.cellsOf 25 = 6 by kernel_rfl] at hcl; obtain ⟨y0, y1, y2, y3, y4, y5, rfl⟩ := len6 (show xs.length = 6 from hxl); have t0 := hfd 0 _ rfl; have t1 := hfd 1 _ rfl; have t2 := hfd 2 _ rfl; have t3 := hfd 3 _ rfl; have t4 := hfd 4 _ rfl; have t5 := hfd 5 _ rfl; obtain ⟨k0, e0, _⟩ := oiz Tryz.underlying3 t0; obtain ⟨k1, e1, _⟩ := oiz Tryz.underlying3 t1; obtain ⟨s2, e2, b2, _⟩ := DataW.trod_string Tryz.underlying9 t2; obtain ⟨s3, e3, b3, _⟩ := DataW.trod_string Tryz.underlying9 t3; obtain ⟨k4, e4, _⟩ := oiz Tryz.underlying2 t4; obtain ⟨A, len, cap, n, D, e5, hnm, hl, hmx, hDl, hDb, hi⟩ := open_row2 Tryz.underlying23 (by rw [show Tryz.prog.cellsOf 25 = 6 by kernel_rfl]; omega) t5; rw [show Tryz.prog.cellsOf 25 = 6 by kernel_rfl] at hi
  obtain ⟨L, hlen, hR⟩ := list_of len (fun i (t : Tree) => (CellsAt W anyB A i t ∧ TAz W anyB t) ∧ ∃ d, D[i]? = some d ∧ szR (stz t) + 16 ≤ 80 * Rows.uptoBulk d) (fun i hin => by
   obtain ⟨b, off, cs', y, hA, hcl, hc, ht, hd⟩ := hi i hin; obtain ⟨t, rfl, hT, hz⟩ := ih n (by omega) cs' y ht; obtain ⟨tk, tp, tf, tx, tn, tA, tc, tL⟩ := t; exact ⟨.mk tk tp tf tx tn tA tc tL, ⟨⟨b, off, hA, trivial, hc 0 (by omega), hc 1 (by omega), hc 2 (by omega), hc 3 (by omega), hc 4 (by omega), hc 5 (by omega)⟩, hT⟩, _, hd, hz⟩)
  subst hlen
  have hsz := szL_bulk L D hDl.symm (fun i t d ht hd => by
   obtain ⟨_, d', hd', hz⟩ := hR i t ht; rw [hd] at hd'; obtain rfl := Option.some.inj hd'; exact hz)
  obtain ⟨v0, v1, v2, v3, v4, v5, rfl⟩ := len6 hcl; simp [show Tryz.prog.cellsOf 9 = 1 by kernel_rfl, show Tryz.prog.cellsOf 3 = 1 by kernel_rfl, show Tryz.prog.cellsOf 2 = 1 by kernel_rfl, show Tryz.prog.cellsOf 23 = 1 by kernel_rfl] at e0 e1 e2 e3 e4 e5
  subst e0 e1 e2 e3 e4 e5; refine ⟨.mk k0 k1 s2.data.toList s3.data.toList k4 A cap L, by simp [Tree.cells], ?_, ?_⟩
  ·rw [TAz]
   exact ⟨rows_of L 0 fun k t hk => by rw [Nat.zero_add]; exact (hR k t hk).1, Nat.le_trans hl hmx⟩
  ·rw [stz, szR, hx]
   simp only [List.map_cons, List.map_nil, Rows.uptoBulk, Rows.uptoBulkAll]; have e2' : Rows.uptoBulk y2.1 = s2.data.toList.length + 1 := by rw [b2]; simp [Rows.uptoBulk]
   have e3' : Rows.uptoBulk y3.1 = s3.data.toList.length + 1 := by rw [b3]; simp [Rows.uptoBulk]
   omega
variable {base : Nat}
end
open Go Go.ChangeShapes Go.WideShapes Go.ChangeAt Go.RowKit Go.Deep
theorem bulk_mem {H : Type} : ∀ {D : List (DataW H)} {i : Nat} {d : DataW H}, D[i]? = some d → Rows.uptoBulk d ≤ Rows.uptoBulkAll D
 | e :: D, 0, d, h => by
  obtain rfl : e = d := by simpa using h
  rw [Rows.uptoBulkAll]; omega
 | e :: D, i + 1, d, h => by
  have := bulk_mem (D := D) (i := i) (d := d) (by simpa using h); rw [Rows.uptoBulkAll]; omega
theorem bulk_part {H : Type} {xs : List (DataW H × List MemPlace)} {i : Nat} {y : DataW H × List MemPlace} (h : xs[i]? = some y) : Rows.uptoBulk y.1 ≤ Rows.uptoBulk (.agg (xs.map (·.1)) : DataW H) := by
 have := bulk_mem (D := xs.map (·.1)) (i := i) (d := y.1) (by rw [List.getElem?_map, h]; rfl)
 rw [Rows.uptoBulk]; omega
section
variable {H : Type} {enc : TypeId × Value → H} {P : Program} {w : World} {base : Nat} {spare : Nat → Bool} {held : Bool}
theorem open_strct3 {t : TypeId} {fs : Array Field} {fuel : Nat} {cs : List Value} {x : DataW H × List MemPlace} (ht : P.underlying t = some (.struct fs)) (h : DataW.trod enc P w base spare held fuel t cs = some x) :
  ∃ n, n < fuel ∧ cs.length = P.cellsOf t ∧ ∀ (i : Nat) (f : Field), fs[i]? = some f → ∃ y : DataW H × List MemPlace, DataW.trod enc P w base spare held n f.type ((cs.drop f.offset).take (P.cellsOf f.type)) = some y ∧ Rows.uptoBulk y.1 ≤ Rows.uptoBulk x.1 := by
 obtain ⟨n, xs, hn, hl, hx, hlen, hf⟩ := open_strct2 ht h
 refine ⟨n, hn, hl, fun i f hi => ?_⟩
 have hlt : i < xs.length := by rw [hlen]; exact (Array.getElem?_eq_some_iff.1 hi).1
 have h1 := hf i f hi
 rw [List.getElem?_eq_getElem hlt] at h1
 exact ⟨_, h1, by rw [hx]; exact bulk_part (List.getElem?_eq_getElem hlt)⟩
theorem open_strb {t : TypeId} {fuel : Nat} {cs : List Value} {x : DataW H × List MemPlace} {N : Nat} (ht : P.underlying t = some .string) (h : DataW.trod enc P w base spare held fuel t cs = some x) (hN : Rows.uptoBulk x.1 ≤ N) : ∃ s : ByteArray, cs = [.string s] ∧ s.data.toList.length ≤ N := by
 obtain ⟨s, e, b, _⟩ := DataW.trod_string ht h
 refine ⟨s, e, ?_⟩
 rw [b] at hN
 simp only [Rows.uptoBulk] at hN
 omega
end
section
variable {H : Type} {enc : TypeId × Value → H} {W : World}
theorem open_ndsb {fuel : Nat} {cs : List Value} {x : DataW H × List MemPlace} (h : Trd enc W fuel 39 cs x) :
  ∃ (A : Option Addr) (c : Nat) (l : List Nd), cs = [.slice A l.length c] ∧ l.length ≤ maxLen ∧ NdsAt W anyB A l ∧ ∀ y ∈ l, szR (stz y.rule) ≤ 80 * Rows.uptoBulk x.1 := by
 obtain ⟨A, len, cap, n, D, rfl, _, hl, hm, hDl, hDb, hi⟩ := open_row2 Tryz.underlying39 (by rw [show Tryz.prog.cellsOf 74 = 8 by kernel_rfl]; omega) h
 rw [show Tryz.prog.cellsOf 74 = 8 by kernel_rfl] at hi
 obtain ⟨l, hlen, hR⟩ := list_of len (fun k (y : Nd) => (∃ b off, A = some (Az b off) ∧ anyB b ∧ (∀ i u, y.cells[i]? = some u → W.cell? ⟨b, off + k * 8 + i, none⟩ = some u) ∧ TAz W anyB y.rule) ∧ szR (stz y.rule) ≤ 80 * Rows.uptoBulk x.1) (fun i hin => by
  obtain ⟨b, off, cs', y, hA, hcl, hc, ht, hd⟩ := hi i hin; obtain ⟨m, _, _, hfd⟩ := open_strct3 Tryz.underlying74 ht; obtain ⟨y0, t0, f0⟩ := hfd 0 _ rfl; obtain ⟨y1, t1, f1⟩ := hfd 1 _ rfl; obtain ⟨y2, t2, f2⟩ := hfd 2 _ rfl; obtain ⟨k0, e0, _⟩ := oiz Tryz.underlying3 t0; obtain ⟨k1, e1, _⟩ := oiz Tryz.underlying3 t1; obtain ⟨t, e2, hT, hz⟩ := open_node_bulk _ _ _ t2; obtain ⟨v0, v1, v2, v3, v4, v5, v6, v7, rfl⟩ := len8 hcl; simp [show Tryz.prog.cellsOf 3 = 1 by kernel_rfl, show Tryz.prog.cellsOf 25 = 6 by kernel_rfl] at e0 e1 e2
  subst e0 e1; have hdb := bulk_mem hd; refine ⟨⟨k0, k1, t⟩, ⟨b, off, hA, trivial, fun j u hu => ?_, hT⟩, by show szR (stz t) ≤ _; omega⟩
  have hj : j < 8 := by
   have := (List.getElem?_eq_some_iff.1 hu).1
   rwa [Nd.cells_len] at this
  rw [hc j hj]; rw [← hu]; unfold Nd.cells; rw [← e2])
 subst hlen
 refine ⟨A, cap, l, rfl, Nat.le_trans hl hm, fun k y hk => (hR k y hk).1, fun y hy => ?_⟩
 obtain ⟨k, hk⟩ := List.mem_iff_getElem?.1 hy
 exact (hR k y hk).2
variable {base : Nat}
theorem arg_creditb {v : Value} {d : DataW H} {p : List MemPlace} (hv : Value.okWide Tryz.prog W .any base 41 v) (h : TrdV enc W 41 v d p) (_hf : Fits Tryz.prog 41 d) :
  ∃ (c : Crd) (A : Option Addr) (cap : Nat) (l : List Nd), v = .agg (c.cells (.slice A l.length cap)) ∧ l.length ≤ maxLen ∧ NdsAt W anyB A l ∧ (∀ x ∈ [c.number, c.applicant, c.beneficiary, c.issuer, c.confirmer, c.orig, c.dest, c.currency], x.length ≤ Rows.uptoBulk d) ∧ ∀ y ∈ l, szR (stz y.rule) ≤ 80 * Rows.uptoBulk d := by
 obtain ⟨cs, rfl, _⟩ := okWide_struct Tryz.underlying41 hv
 obtain ⟨fuel, h⟩ := h
 simp only [Value.cells] at h
 obtain ⟨m, _, hcl, hfd⟩ := open_strct3 Tryz.underlying41 h
 rw [show Tryz.prog.cellsOf 41 = 18 by kernel_rfl] at hcl
 have c9 : Tryz.prog.cellsOf 9 = 1 := by kernel_rfl
 have c3 : Tryz.prog.cellsOf 3 = 1 := by kernel_rfl
 have c4 : Tryz.prog.cellsOf 4 = 1 := by kernel_rfl
 have c2 : Tryz.prog.cellsOf 2 = 1 := by kernel_rfl
 have c38 : Tryz.prog.cellsOf 38 = 2 := by kernel_rfl
 have c39 : Tryz.prog.cellsOf 39 = 1 := by kernel_rfl
 obtain ⟨y0, t0, f0⟩ := hfd 0 _ rfl
 obtain ⟨y1, t1, f1⟩ := hfd 1 _ rfl
 obtain ⟨y2, t2, f2⟩ := hfd 2 _ rfl
 obtain ⟨y3, t3, f3⟩ := hfd 3 _ rfl
 obtain ⟨y4, t4, f4⟩ := hfd 4 _ rfl
 obtain ⟨y5, t5, f5⟩ := hfd 5 _ rfl
 obtain ⟨y6, t6, f6⟩ := hfd 6 _ rfl
 obtain ⟨y7, t7, f7⟩ := hfd 7 _ rfl
 obtain ⟨y8, t8, f8⟩ := hfd 8 _ rfl
 obtain ⟨y9, t9, f9⟩ := hfd 9 _ rfl
 obtain ⟨y10, t10, f10⟩ := hfd 10 _ rfl
 obtain ⟨y11, t11, f11⟩ := hfd 11 _ rfl
 obtain ⟨y12, t12, f12⟩ := hfd 12 _ rfl
 obtain ⟨y13, t13, f13⟩ := hfd 13 _ rfl
 obtain ⟨y14, t14, f14⟩ := hfd 14 _ rfl
 obtain ⟨y15, t15, f15⟩ := hfd 15 _ rfl
 obtain ⟨y16, t16, f16⟩ := hfd 16 _ rfl
 obtain ⟨s0, e0, b0⟩ := open_strb Tryz.underlying9 t0 f0
 obtain ⟨s1, e1, b1⟩ := open_strb Tryz.underlying9 t1 f1
 obtain ⟨s2, e2, b2⟩ := open_strb Tryz.underlying9 t2 f2
 obtain ⟨s3, e3, b3⟩ := open_strb Tryz.underlying9 t3 f3
 obtain ⟨s4, e4, b4⟩ := open_strb Tryz.underlying9 t4 f4
 obtain ⟨s5, e5, b5⟩ := open_strb Tryz.underlying9 t5 f5
 obtain ⟨s6, e6, b6⟩ := open_strb Tryz.underlying9 t6 f6
 obtain ⟨m7, _, hcl7, hfd7⟩ := open_strct3 Tryz.underlying38 t7
 obtain ⟨z0, u0, g0⟩ := hfd7 0 _ rfl
 obtain ⟨z1, u1, g1⟩ := hfd7 1 _ rfl
 obtain ⟨s7, e7, b7⟩ := open_strb Tryz.underlying9 u0 (Nat.le_trans g0 f7)
 obtain ⟨n7, e7', _⟩ := oiz Tryz.underlying2 u1
 obtain ⟨n8, e8, _⟩ := oiz Tryz.underlying3 t8
 obtain ⟨n9, e9, _⟩ := oiz Tryz.underlying3 t9
 obtain ⟨n10, e10, _⟩ := oiz Tryz.underlying3 t10
 obtain ⟨n11, e11, _⟩ := oiz Tryz.underlying3 t11
 obtain ⟨n12, e12, _⟩ := oiz Tryz.underlying3 t12
 obtain ⟨n13, e13, _⟩ := oiz Tryz.underlying3 t13
 obtain ⟨n14, e14, _⟩ := DataW.trod_bool Tryz.underlying4 t14
 obtain ⟨n15, e15, _⟩ := DataW.trod_bool Tryz.underlying4 t15
 obtain ⟨A, cap, l, e16, hl, hN, hZ⟩ := open_ndsb t16
 obtain ⟨a0, a1, a2, a3, a4, a5, a6, a7, a8, a9, a10, a11, a12, a13, a14, a15, a16, a17, hcs⟩ := len18 hcl
 rw [hcs] at e0 e1 e2 e3 e4 e5 e6 e7 e7' e8 e9 e10 e11 e12 e13 e14 e15 e16
 simp [c9, c3, c4, c2, c38, c39] at e0 e1 e2 e3 e4 e5 e6 e7 e7' e8 e9 e10 e11 e12 e13 e14 e15 e16
 subst e0 e1 e2 e3 e4 e5 e6 e7 e7' e8 e9 e10 e11 e12 e13 e14 e15 e16
 refine ⟨⟨s0.data.toList, s1.data.toList, s2.data.toList, s3.data.toList, s4.data.toList, s5.data.toList, s6.data.toList, s7.data.toList, n7, n8, n9, n10, n11, n12, n13, n14, n15⟩, A, cap, l, ?_, hl, hN, ?_, fun y hy => Nat.le_trans (hZ y hy) (Nat.mul_le_mul_left _ f16)⟩
 ·rw [show cs = cs.toList.toArray by simp, hcs]
 ·intro x hx
  simp only [List.mem_cons, List.not_mem_nil, or_false] at hx
  rcases hx with rfl | rfl | rfl | rfl | rfl | rfl | rfl | rfl <;> assumption
end
end Go.Proofs.YtjkmhlfjheiekaaGreatDoor

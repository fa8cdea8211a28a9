/- Faults, in memory; the library's and the program's tables; the small functions of texts. -/
import Derived.Test.YtbpngfppddigjaaGreatDoorG
import Derived.Test.YtbpngfppddigjaaGreatDoorShelf
namespace Go.Proofs.YtbpngfppddigjaaGreatDoor
open Go Go.RowKit Go.BigFrame

structure Flt where
  paper : Int
  kind : Int
  field : ByteArray
  why : Int
def Flt.cells (x : Flt) : List Value := [.int .i64 x.paper, .int .i64 x.kind, .string x.field, .int .i64 x.why]
abbrev Flt.agg (x : Flt) : Value := .agg #[.int .i64 x.paper, .int .i64 x.kind, .string x.field, .int .i64 x.why]
def fcells (l : List Flt) : List Value := l.flatMap Flt.cells

/-- A row of faults in memory. -/
def FaultsAt (w : World) (A : Option Addr) (l : List Flt) : Prop :=
  ∀ (k : Nat) (x : Flt), l[k]? = some x → ∃ b off, A = some ⟨b, off, none⟩ ∧ w.cell? ⟨b, off + k * 4, none⟩ = some (.int .i64 x.paper) ∧ w.cell? ⟨b, off + k * 4 + 1, none⟩ = some (.int .i64 x.kind) ∧
    w.cell? ⟨b, off + k * 4 + 2, none⟩ = some (.string x.field) ∧ w.cell? ⟨b, off + k * 4 + 3, none⟩ = some (.int .i64 x.why)
theorem FaultsAt.below {w w' : World} {A : Option Addr} {l : List Flt} (h : FaultsAt w A l) (hb : Below w.heap.size w w') : FaultsAt w' A l := by
  intro k x hk
  obtain ⟨b, off, e, h0, h1, h2, h3⟩ := h k x hk
  have hlt : b < w.heap.size := World.block_lt_of_cell? w _ h0
  exact ⟨b, off, e, by rw [hb.cell hlt]; exact h0, by rw [hb.cell hlt]; exact h1, by rw [hb.cell hlt]; exact h2, by rw [hb.cell hlt]; exact h3⟩

theorem below_grows (w : World) (k : Nat) (os : Array Obj) : Below w.heap.size w (Go.Sort.grow (w.drewN k) os) := by
  refine ⟨rfl, rfl, rfl, by simp [Go.Sort.grow], fun j hj => ?_⟩
  show (w.heap ++ os)[j]? = w.heap[j]?
  rw [Array.getElem?_append_left hj]

/-- The words of the papers' kinds, of what may be wrong, of the fields that are to be alike. -/
def kindL (n : Nat) : List UInt8 := ([[105, 110, 118, 111, 105, 99, 101], [112, 97, 99, 107, 105, 110, 103], [108, 97, 100, 105, 110, 103], [105, 110, 115, 117, 114, 97, 110, 99, 101], [111, 114, 105, 103, 105, 110], [100, 114, 97, 102, 116]] : List (List UInt8)).getD n []
def whyL (n : Nat) : List UInt8 := ([[102, 105, 110, 101], [108, 97, 99, 107, 115], [102, 97, 105, 108, 115], [117, 110, 108, 105, 107, 101], [108, 97, 116, 101], [109, 117, 99, 104], [102, 101, 119]] : List (List UInt8)).getD n []
def alikeL (n : Nat) : List UInt8 := ([[115, 101, 108, 108, 101, 114], [102, 114, 111, 109], [116, 111], [99, 117, 114, 114, 101, 110, 99, 121], [98, 111, 120, 101, 115], [109, 97, 114, 107, 115]] : List (List UInt8)).getD n []
def mkB (l : List UInt8) : ByteArray := ⟨l.toArray⟩

/-- What the program's and the library's own variables hold. -/
structure Env (w : World) : Prop where
  tab : Lib.TabIs Tryz.prog w "internal/strconv.uint64pow10" .u64 Lib.pow10Tab
  most : ∃ m, w.cell? ⟨4, 0, none⟩ = some (.int .i64 m)
  kinds : ∀ n, n < 6 → w.cell? ⟨0, n, none⟩ = some (.string (mkB (kindL n)))
  whys : ∀ n, n < 7 → w.cell? ⟨1, n, none⟩ = some (.string (mkB (whyL n)))
  alike : ∀ n, n < 6 → w.cell? ⟨2, n, none⟩ = some (.string (mkB (alikeL n)))
  syn : ∃ te pe, w.cell? ⟨5, 0, none⟩ = some (.iface te pe)
  ran : ∃ te pe, w.cell? ⟨6, 0, none⟩ = some (.iface te pe)
  size : 9 ≤ w.heap.size
theorem Env.below {w w' : World} (h : Env w) (hb : Below w.heap.size w w') : Env w' := by
  have hs := h.size
  have hc : ∀ b n, b < 9 → w'.cell? ⟨b, n, none⟩ = w.cell? ⟨b, n, none⟩ := fun b n hn => hb.cell (by show b < w.heap.size; omega)
  refine ⟨var?_below hb (g := 3) (by kernel_rfl) (by omega) h.tab, ?_, fun n hn => ?_, fun n hn => ?_, fun n hn => ?_, ?_, ?_, Nat.le_trans hs hb.size⟩
  · obtain ⟨m, hm⟩ := h.most
    exact ⟨m, by rw [hc _ _ (by omega)]; exact hm⟩
  · rw [hc _ _ (by omega)]; exact h.kinds n hn
  · rw [hc _ _ (by omega)]; exact h.whys n hn
  · rw [hc _ _ (by omega)]; exact h.alike n hn
  · obtain ⟨t, p, hm⟩ := h.syn
    exact ⟨t, p, by rw [hc _ _ (by omega)]; exact hm⟩
  · obtain ⟨t, p, hm⟩ := h.ran
    exact ⟨t, p, by rw [hc _ _ (by omega)]; exact hm⟩

theorem itoa_any (n : Int) (w : World) (h0 : -9223372036854775808 ≤ n) (h1 : n ≤ 9223372036854775807) (he : Env w) :
    Calls Tryz.prog 20 #[.int .i64 n] w fun e w' => e = .returned (.string (mkB (Lib.itoa n))) ∧ Below w.heap.size w w' := by
  refine (Tryz.strconv_Itoa n h0 h1 w he.tab).mono ?_
  rintro e w' ⟨rfl, k, os, rfl⟩
  exact ⟨rfl, below_grows w k os⟩

/-- The text of a fault. -/
def dash : List UInt8 := [45]
def paperT (x : Flt) : List UInt8 := if x.paper = -1 then dash else Lib.itoa x.paper
def kindT (n : Int) : List UInt8 := if 0 ≤ n ∧ n < 6 then kindL n.toNat else dash
def fieldT (s : ByteArray) : List UInt8 := if s.data.toList = [] then dash else s.data.toList
def whyT (n : Int) : List UInt8 := if 0 ≤ n ∧ n < 7 then whyL n.toNat else dash
def oneT (x : Flt) : List UInt8 := paperT x ++ [32] ++ kindT x.kind ++ [32] ++ fieldT x.field ++ [32] ++ whyT x.why
def textF (l : List Flt) : List UInt8 := Lib.join (l.map oneT) [59, 32]

theorem Blk.four {w : World} {g : Nat} {t : TypeId} {a b c d : Value} (h : Blk w g t #[a, b, c, d]) :
    (w.cell? ⟨g, 0, none⟩ = some a ∧ w.cell? ⟨g, 1, none⟩ = some b ∧ w.cell? ⟨g, 2, none⟩ = some c ∧ w.cell? ⟨g, 3, none⟩ = some d) ∧ (∀ o, w.frozen? ⟨g, o, none⟩ = false) :=
  ⟨⟨by rw [h.cell]; rfl, by rw [h.cell]; rfl, by rw [h.cell]; rfl, by rw [h.cell]; rfl⟩, h.frozen⟩

theorem Tryz.info9 : (Tryz.prog.info? 9).map (fun i => (i.zero, i.size, i.bytes)) = some (some (.string ⟨#[]⟩), 1, 16) := by kernel_rfl
end Go.Proofs.YtbpngfppddigjaaGreatDoor

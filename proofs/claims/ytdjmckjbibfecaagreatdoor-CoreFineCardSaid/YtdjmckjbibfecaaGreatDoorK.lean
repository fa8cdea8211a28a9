/- A fault as a map's key; the closure that tells a fault once. -/
import Derived.IntWalk
import Derived.Maps.OwnSet
import Derived.Maps.OwnOps
import Derived.Maps.Views
import Derived.DeepKeys4
import Derived.Deep.RegionWith
import Derived.Deep.DeepCutAuto
import Derived.Test.YtdjmckjbibfecaaGreatDoorG
import Derived.Test.YtdjmckjbibfecaaGreatDoorGx
import Derived.Test.YtdjmckjbibfecaaGreatDoorShelf
namespace Go.Proofs.YtdjmckjbibfecaaGreatDoor
open Go Go.RowKit Go.BigFrame

theorem below_grows (w : World) (k : Nat) (os : Array Obj) : Below w.heap.size w (Go.Sort.grow (w.drewN k) os) := by
  refine ⟨rfl, rfl, rfl, by simp [Go.Sort.grow], fun j hj => ?_⟩
  show (w.heap ++ os)[j]? = w.heap[j]?
  rw [Array.getElem?_append_left hj]

def mkB (l : List UInt8) : ByteArray := ⟨l.toArray⟩

/-- What the library's own variables hold. -/
structure Env (w : World) : Prop where
  tab : Lib.TabIs Tryz.prog w "internal/strconv.uint64pow10" .u64 Lib.pow10Tab
  most : ∃ m, w.cell? ⟨5, 0, none⟩ = some (.int .i64 m)
  syn : ∃ te pe, w.cell? ⟨6, 0, none⟩ = some (.iface te pe)
  ran : ∃ te pe, w.cell? ⟨7, 0, none⟩ = some (.iface te pe)
  size : 12 ≤ w.heap.size
theorem Env.below {w w' : World} (h : Env w) (hb : Below w.heap.size w w') : Env w' := by
  have hs := h.size
  have hc : ∀ b n, b < 12 → w'.cell? ⟨b, n, none⟩ = w.cell? ⟨b, n, none⟩ := fun b n hn => hb.cell (by show b < w.heap.size; omega)
  refine ⟨var?_below hb (g := 8) (by kernel_rfl) (by omega) h.tab, ?_, ?_, ?_, Nat.le_trans hs hb.size⟩
  · obtain ⟨m, hm⟩ := h.most
    exact ⟨m, by rw [hc _ _ (by omega)]; exact hm⟩
  · obtain ⟨t, p, hm⟩ := h.syn
    exact ⟨t, p, by rw [hc _ _ (by omega)]; exact hm⟩
  · obtain ⟨t, p, hm⟩ := h.ran
    exact ⟨t, p, by rw [hc _ _ (by omega)]; exact hm⟩
end Go.Proofs.YtdjmckjbibfecaaGreatDoor
namespace Go.Proofs.YtdjmckjbibfecaaGreatDoor
open Go Go.RowKit Go.Maps

theorem plainElem_inj {P : Program} {e : TypeId} {u v : Value} {x y : DataW Unit × List MemPlace} (hu : plainElem P e u = some x) (hv : plainElem P e v = some y) (h : x.1 = y.1) : u = v := by
  unfold plainElem at hu hv
  split at hu
  · rename_i h1
    split at hv <;> simp_all
    subst hu hv; simpa using h
  · rename_i h1
    split at hv <;> simp_all
    obtain ⟨⟨rfl, _⟩, rfl⟩ := hu
    obtain ⟨⟨rfl, _⟩, rfl⟩ := hv
    simpa using h
  · rename_i h1
    split at hv <;> simp_all
    rename_i a b _
    have e1 := congrArg Prod.fst hu.2
    have e2 := congrArg Prod.fst hv.2
    simp only at e1 e2
    rw [← e1, ← e2] at h
    simp only [DataW.lit.injEq, Lit.string.injEq] at h
    apply ByteArray.ext
    first | exact Array.toList_inj.1 h | exact (Array.toList_inj.1 h).symm
  · cases hu

def MapFn (w : World) (P : Program) (k e : TypeId) (b n : Nat) (z : Value) (S : Value → Option Value) : Prop :=
  ∃ (D zd : DataW Unit), w.ownsMap P k (plainElem P e) b n D ∧ plainElem P e z = some (zd, []) ∧ ∀ key kl, keyOf P k key = some kl → plainElem P e ((S key).getD z) = some (D.atKey kl zd, []) ∧ Maps.has D kl = (S key).isSome

section
variable {w w' : World} {P : Program} {k e t : TypeId} {b n : Nat} {z : Value} {S : Value → Option Value}
theorem MapFn.lt (h : MapFn w P k e b n z S) : b < w.heap.size := by obtain ⟨D, zd, h1, _⟩ := h; exact h1.lt
theorem MapFn.kept {row : Option Nat} (h : MapFn w P k e b n z S) (hg : w.grownBy w' row) (hne : some b ≠ row) : MapFn w' P k e b n z S := by
  obtain ⟨D, zd, h1, h2⟩ := h; exact ⟨D, zd, h1.kept hg hne, h2⟩
theorem MapFn.alloc (h : MapFn w P k e b n z S) (o : Obj) : MapFn (w.alloc o) P k e b n z S := h.kept (World.grownBy_alloc w o none) (by simp)
theorem MapFn.drew (h : MapFn w P k e b n z S) : MapFn w.drew P k e b n z S := h
theorem MapFn.setCell (h : MapFn w P k e b n z S) {a : Addr} (ha : b ≠ a.block) (u : Value) : MapFn (w.setCell a u) P k e b n z S := by
  obtain ⟨D, zd, h1, h2⟩ := h; exact ⟨D, zd, h1.setCell ha u, h2⟩
theorem MapFn.below {B : Nat} (h : MapFn w P k e b n z S) (hb : Below B w w') (hB : b < B) : MapFn w' P k e b n z S := by
  obtain ⟨D, zd, ⟨es, clock, h1, h1'⟩, h2⟩ := h
  exact ⟨D, zd, ⟨es, clock, (hb.block b hB).trans h1, h1'⟩, h2⟩
theorem MapFn.made (w : World) (P : Program) (k e : TypeId) {z : Value} {zd : DataW Unit} (hz : plainElem P e z = some (zd, [])) : MapFn (w.alloc (.map #[] 0)) P k e w.heap.size 0 z (fun _ => none) := by
  refine ⟨.map [], zd, World.ownsMap_made w P k _, hz, fun key kl _ => ⟨?_, ?_⟩⟩
  · have : (DataW.map [] : DataW Unit).atKey kl zd = zd := Maps.atKey_of_not_has (by simp [Maps.has]) zd
    rw [this]; exact hz
  · simp [Maps.has]
theorem MapFn.look (h : MapFn w P k e b n z S) (K : Keyed P k) (ht : P.underlying t = some (.map k e)) (hz : (zeroValue e).run P w = .ok z w) {key : Value} {kl : Lit} (hkey : keyOf P k key = some kl) :
    (Instr.lookup t (.map (some b)) key false).run P w = .ok ((S key).getD z) w := by
  obtain ⟨D, zd, h1, hzd, h2⟩ := h
  obtain ⟨v, ps, hrun, hv⟩ := h1.lookup K ht hz hzd hkey
  rw [hrun, plainElem_inj hv (h2 key kl hkey).1 rfl]
theorem MapFn.look_ok (h : MapFn w P k e b n z S) (K : Keyed P k) (ht : P.underlying t = some (.map k e)) (hz : (zeroValue e).run P w = .ok z w) {key : Value} {kl : Lit} (hkey : keyOf P k key = some kl) :
    (Instr.lookup t (.map (some b)) key true).run P w = .ok (.tuple #[(S key).getD z, .bool (S key).isSome]) w := by
  obtain ⟨D, zd, h1, hzd, h2⟩ := h
  obtain ⟨v, ps, hrun, hv⟩ := h1.look_ok K ht hz hzd hkey
  rw [hrun, plainElem_inj hv (h2 key kl hkey).1 rfl, (h2 key kl hkey).2]
open Classical in
theorem MapFn.put (h : MapFn w P k e b n z S) (K : Keyed P k) (ht : P.underlying t = some (.map k e)) (hn : n < maxLen) {key val : Value} {kl : Lit} {d : DataW Unit} (hkey : keyOf P k key = some kl) (hv : plainElem P e val = some (d, [])) :
    ∃ w', (Instr.mapUpdate t (.map (some b)) key val).run P w = .ok () w' ∧ MapFn w' P k e b (n + 1) z (fun x => if x = key then some val else S x) ∧ w.grownBy w' (some b) := by
  obtain ⟨D, zd, h1, hzd, h2⟩ := h
  obtain ⟨w', hrun, h3, hg⟩ := h1.update K ht hn hkey hv
  refine ⟨w', hrun, ⟨D.put kl d, zd, h3, hzd, fun x xl hx => ?_⟩, hg⟩
  by_cases hxk : x = key
  · subst hxk
    have : xl = kl := Option.some.inj (hx.symm.trans hkey)
    subst this
    simp only [if_true]
    rw [Maps.atKey_put_same h1.isMap (K.key hx), Maps.has_put_same h1.isMap (K.key hx)]
    exact ⟨hv, rfl⟩
  · have hne : xl ≠ kl := fun e => hxk (K.inj hx (by rw [e]; exact hkey))
    simp only [if_neg hxk]
    rw [Maps.atKey_put_other hne, Maps.has_put_other hne]
    exact h2 x xl hx
end
open Classical in
theorem wpList_put {P : Program} (w : World) {ops : Array Oper} {rest : List Oper} {o : Oper} {a : Act} {Q : Exit → Act → World → Prop}
    (hg : o.guard = none) (m x v : Operand) (t : TypeId) (hop : o.op = Op.mapUpdate t m x v)
    {k e : TypeId} (K : Keyed P k) (ht : P.underlying t = some (.map k e)) (b n : Nat) {z : Value} {S : Value → Option Value}
    (hm : a.eval m = .map (some b)) (hown : MapFn w P k e b n z S) (hn : n < maxLen) (key val : Value) (kl : Lit) (hx : a.eval x = key) (hv : a.eval v = val) (hkey : keyOf P k key = some kl)
    {d : DataW Unit} (hval : plainElem P e val = some (d, []))
    (hK : ∀ w', MapFn w' P k e b (n + 1) z (fun y => if y = key then some val else S y) → w.grownBy w' (some b) → wpList P ops Q rest (a.put o.dst undef) w') :
    wpList P ops Q (o :: rest) a w := by
  refine wpList_plain hg fun K' hK' => ?_
  obtain ⟨w', hrun, r1, r2⟩ := hown.put K ht hn hkey hval
  unfold Oper.wp
  simp [execOp, hop, hm, hx, hv, hrun, Result.andThen]
  exact hK' _ _ (hK w' r1 r2)
end Go.Proofs.YtdjmckjbibfecaaGreatDoor
namespace Go.Proofs.YtdjmckjbibfecaaGreatDoor
open Go Go.RowKit Go.BigFrame

structure Flt where
  paper : Int
  kind : Int
  field : ByteArray
  why : Int
def Flt.cells (x : Flt) : List Value := [.int .i64 x.paper, .int .i64 x.kind, .string x.field, .int .i64 x.why]
abbrev Flt.agg (x : Flt) : Value := .agg #[.int .i64 x.paper, .int .i64 x.kind, .string x.field, .int .i64 x.why]
def fcells (l : List Flt) : List Value := l.flatMap Flt.cells

/-- A row of faults in memory. -/
def FaultsAt (w : World) (A : Option Addr) (l : List Flt) : Prop :=
  ∀ (k : Nat) (x : Flt), l[k]? = some x → ∃ b off, A = some ⟨b, off, none⟩ ∧ w.cell? ⟨b, off + k * 4, none⟩ = some (.int .i64 x.paper) ∧ w.cell? ⟨b, off + k * 4 + 1, none⟩ = some (.int .i64 x.kind) ∧
    w.cell? ⟨b, off + k * 4 + 2, none⟩ = some (.string x.field) ∧ w.cell? ⟨b, off + k * 4 + 3, none⟩ = some (.int .i64 x.why)
theorem FaultsAt.below {w w' : World} {A : Option Addr} {l : List Flt} (h : FaultsAt w A l) (hb : Below w.heap.size w w') : FaultsAt w' A l := by
  intro k x hk
  obtain ⟨b, off, e, h0, h1, h2, h3⟩ := h k x hk
  have hlt : b < w.heap.size := World.block_lt_of_cell? w _ h0
  exact ⟨b, off, e, by rw [hb.cell hlt]; exact h0, by rw [hb.cell hlt]; exact h1, by rw [hb.cell hlt]; exact h2, by rw [hb.cell hlt]; exact h3⟩

def alikeL (n : Nat) : List UInt8 := ([[115, 101, 108, 108, 101, 114], [102, 114, 111, 109], [116, 111], [99, 117, 114, 114, 101, 110, 99, 121], [98, 111, 120, 101, 115], [109, 97, 114, 107, 115]] : List (List UInt8)).getD n []
theorem Blk.four {w : World} {g : Nat} {t : TypeId} {a b c d : Value} (h : Blk w g t #[a, b, c, d]) :
    (w.cell? ⟨g, 0, none⟩ = some a ∧ w.cell? ⟨g, 1, none⟩ = some b ∧ w.cell? ⟨g, 2, none⟩ = some c ∧ w.cell? ⟨g, 3, none⟩ = some d) ∧ (∀ o, w.frozen? ⟨g, o, none⟩ = false) :=
  ⟨⟨by rw [h.cell]; rfl, by rw [h.cell]; rfl, by rw [h.cell]; rfl, by rw [h.cell]; rfl⟩, h.frozen⟩

/-- The names of the fields that are to be alike, as they lie. -/
def AlikeAt (w : World) : Prop := ∀ n, n < 6 → w.cell? ⟨0, n, none⟩ = some (.string (mkB (alikeL n)))
theorem AlikeAt.below {w w' : World} (h : AlikeAt w) (hb : Below w.heap.size w w') : AlikeAt w' := fun n hn =>
  (hb.cell (World.block_lt_of_cell? w _ (h n hn))).trans (h n hn)
end Go.Proofs.YtdjmckjbibfecaaGreatDoor
namespace Go.Proofs.YtdjmckjbibfecaaGreatDoor
open Go Go.RowKit Go.BigFrame

theorem grown_set (W : World) (b o : Nat) (v : Value) : W.grownBy (W.setCell ⟨b, o, none⟩ v) (some b) :=
  ⟨rfl, rfl, rfl, by simp [World.setCell], fun k _ hk => Below.heap_setCell _ _ _ _ (fun e => hk (by rw [e]))⟩
theorem own_set {W : World} {B n g o : Nat} {e t : TypeId} {size : Nat} {v u : Value} {xs : List Value} {cs : Array Value} (h : W.ownsRow B e size v n xs) (hg : Blk W g t cs) (hne : e ≠ t) : (W.setCell ⟨g, o, none⟩ u).ownsRow B e size v n xs :=
  h.kept (grown_set W g o u) (.inr (own_blk_ne h hg hne))
section
variable {w0 w : World} {bf bw B k : Nat} {x : Flt} {a b c d : List UInt8} {v : Value} {xs : List Value}
end
end Go.Proofs.YtdjmckjbibfecaaGreatDoor
namespace Go.Proofs.YtdjmckjbibfecaaGreatDoor
open Go Go.RowKit Go.BigFrame Go.Maps

theorem laidOutK : laidOutB Tryz.prog = true := by kernel_rfl
theorem row40 : (54 : TypeId) < Tryz.prog.types.size := of_decide_eq_true (by kernel_rfl)
theorem wide40 : (match Tryz.prog.underlying 54 with | some (.array _ _) | some (.struct _) => true | _ => false) = true := by kernel_rfl
set_option maxRecDepth 100000 in
theorem keyed40 : Keyed Tryz.prog 54 := Keyed.of_law (deep_law_laid laidOutK (m := 2) (by omega) row40 (by kernel_rfl) wide40)
theorem cells40 : Tryz.prog.cellsOf 54 = 4 := by kernel_rfl
theorem keyT40 : Tryz.prog.keyType 54 = true := by kernel_rfl
theorem depth40 : ∃ d, Tryz.prog.types.size = 54 + d + 1 := Nat.exists_eq_add_of_lt row40
def Flt.fits (x : Flt) : Prop := (Lit.int .i64 x.paper).wf = true ∧ (Lit.int .i64 x.kind).wf = true ∧ x.field.size ≤ maxLen ∧ (Lit.int .i64 x.why).wf = true
theorem fits_i64 {n : Int} (h0 : -9223372036854775808 ≤ n) (h1 : n ≤ 9223372036854775807) : (Lit.int .i64 n).wf = true := WalkArith.wf_i64 ⟨h0, h1⟩
theorem keyF (x : Flt) (h : x.fits) : ∃ l, keyOf Tryz.prog 54 x.agg = some l := by
  obtain ⟨h1, h2, h3, h4⟩ := h
  obtain ⟨d, hd⟩ := depth40
  unfold keyOf
  rw [Tryz.underlying54]
  have hform : (x.agg).formed Tryz.prog 54 = true := by simp [Value.formed, Tryz.underlying54, cells40]
  simp only [keyT40, hform, Bool.and_self, if_true]
  have c3 : Tryz.prog.cellsOf 3 = 1 := by kernel_rfl
  have c9 : Tryz.prog.cellsOf 9 = 1 := by kernel_rfl
  have hk : ∃ L, Tryz.prog.keyLits (Tryz.prog.types.size + 1) 54 x.agg.cells.toList = some L := by
    rw [hd]
    refine ⟨[.int .i64 x.paper, .int .i64 x.kind, .string x.field.data.toList, .int .i64 x.why], ?_⟩
    unfold Program.keyLits
    simp only [Tryz.underlying54]
    simp [Value.cells, cells40, c3, c9, Program.keyLits, Tryz.underlying3, Tryz.underlying9, h1, h2, h3, h4]
  obtain ⟨L, hL⟩ := hk
  rw [hL]; exact ⟨_, rfl⟩
end Go.Proofs.YtdjmckjbibfecaaGreatDoor

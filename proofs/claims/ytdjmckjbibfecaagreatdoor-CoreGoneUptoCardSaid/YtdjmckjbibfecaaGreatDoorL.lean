/- The closure that tells a fault once. -/
import Derived.IntWalk
import Derived.Deep.RegionWith
import Derived.Deep.DeepCutAuto
import Derived.Test.YtdjmckjbibfecaaGreatDoorG
import Derived.Test.YtdjmckjbibfecaaGreatDoorM
import Derived.Test.YtdjmckjbibfecaaGreatDoorShelf
namespace Go.Proofs.YtdjmckjbibfecaaGreatDoor
open Go Go.RowKit Go.BigFrame

theorem below_grows (w : World) (k : Nat) (os : Array Obj) : Below w.heap.size w (Go.Sort.grow (w.drewN k) os) := by
  refine ⟨rfl, rfl, rfl, by simp [Go.Sort.grow], fun j hj => ?_⟩
  show (w.heap ++ os)[j]? = w.heap[j]?
  rw [Array.getElem?_append_left hj]

def mkB (l : List UInt8) : ByteArray := ⟨l.toArray⟩

/-- What the library's own variables hold. -/
structure Env (w : World) : Prop where
  tab : Lib.TabIs Tryz.prog w "internal/strconv.uint64pow10" .u64 Lib.pow10Tab
  most : ∃ m, w.cell? ⟨5, 0, none⟩ = some (.int .i64 m)
  syn : ∃ te pe, w.cell? ⟨6, 0, none⟩ = some (.iface te pe)
  ran : ∃ te pe, w.cell? ⟨7, 0, none⟩ = some (.iface te pe)
  size : 12 ≤ w.heap.size
theorem Env.below {w w' : World} (h : Env w) (hb : Below w.heap.size w w') : Env w' := by
  have hs := h.size
  have hc : ∀ b n, b < 12 → w'.cell? ⟨b, n, none⟩ = w.cell? ⟨b, n, none⟩ := fun b n hn => hb.cell (by show b < w.heap.size; omega)
  refine ⟨var?_below hb (g := 8) (by kernel_rfl) (by omega) h.tab, ?_, ?_, ?_, Nat.le_trans hs hb.size⟩
  · obtain ⟨m, hm⟩ := h.most
    exact ⟨m, by rw [hc _ _ (by omega)]; exact hm⟩
  · obtain ⟨t, p, hm⟩ := h.syn
    exact ⟨t, p, by rw [hc _ _ (by omega)]; exact hm⟩
  · obtain ⟨t, p, hm⟩ := h.ran
    exact ⟨t, p, by rw [hc _ _ (by omega)]; exact hm⟩
end Go.Proofs.YtdjmckjbibfecaaGreatDoor
namespace Go.Proofs.YtdjmckjbibfecaaGreatDoor
open Go Go.RowKit Go.BigFrame

structure Flt where
  paper : Int
  kind : Int
  field : ByteArray
  why : Int
def Flt.cells (x : Flt) : List Value := [.int .i64 x.paper, .int .i64 x.kind, .string x.field, .int .i64 x.why]
abbrev Flt.agg (x : Flt) : Value := .agg #[.int .i64 x.paper, .int .i64 x.kind, .string x.field, .int .i64 x.why]
def fcells (l : List Flt) : List Value := l.flatMap Flt.cells

/-- A row of faults in memory. -/
def FaultsAt (w : World) (A : Option Addr) (l : List Flt) : Prop :=
  ∀ (k : Nat) (x : Flt), l[k]? = some x → ∃ b off, A = some ⟨b, off, none⟩ ∧ w.cell? ⟨b, off + k * 4, none⟩ = some (.int .i64 x.paper) ∧ w.cell? ⟨b, off + k * 4 + 1, none⟩ = some (.int .i64 x.kind) ∧
    w.cell? ⟨b, off + k * 4 + 2, none⟩ = some (.string x.field) ∧ w.cell? ⟨b, off + k * 4 + 3, none⟩ = some (.int .i64 x.why)
theorem FaultsAt.below {w w' : World} {A : Option Addr} {l : List Flt} (h : FaultsAt w A l) (hb : Below w.heap.size w w') : FaultsAt w' A l := by
  intro k x hk
  obtain ⟨b, off, e, h0, h1, h2, h3⟩ := h k x hk
  have hlt : b < w.heap.size := World.block_lt_of_cell? w _ h0
  exact ⟨b, off, e, by rw [hb.cell hlt]; exact h0, by rw [hb.cell hlt]; exact h1, by rw [hb.cell hlt]; exact h2, by rw [hb.cell hlt]; exact h3⟩

def alikeL (n : Nat) : List UInt8 := ([[115, 101, 108, 108, 101, 114], [102, 114, 111, 109], [116, 111], [99, 117, 114, 114, 101, 110, 99, 121], [98, 111, 120, 101, 115], [109, 97, 114, 107, 115]] : List (List UInt8)).getD n []
theorem Blk.four {w : World} {g : Nat} {t : TypeId} {a b c d : Value} (h : Blk w g t #[a, b, c, d]) :
    (w.cell? ⟨g, 0, none⟩ = some a ∧ w.cell? ⟨g, 1, none⟩ = some b ∧ w.cell? ⟨g, 2, none⟩ = some c ∧ w.cell? ⟨g, 3, none⟩ = some d) ∧ (∀ o, w.frozen? ⟨g, o, none⟩ = false) :=
  ⟨⟨by rw [h.cell]; rfl, by rw [h.cell]; rfl, by rw [h.cell]; rfl, by rw [h.cell]; rfl⟩, h.frozen⟩

/-- The names of the fields that are to be alike, as they lie. -/
def AlikeAt (w : World) : Prop := ∀ n, n < 6 → w.cell? ⟨0, n, none⟩ = some (.string (mkB (alikeL n)))
theorem AlikeAt.below {w w' : World} (h : AlikeAt w) (hb : Below w.heap.size w w') : AlikeAt w' := fun n hn =>
  (hb.cell (World.block_lt_of_cell? w _ (h n hn))).trans (h n hn)
end Go.Proofs.YtdjmckjbibfecaaGreatDoor
namespace Go.Proofs.YtdjmckjbibfecaaGreatDoor
open Go Go.RowKit Go.BigFrame

theorem grown_set (W : World) (b o : Nat) (v : Value) : W.grownBy (W.setCell ⟨b, o, none⟩ v) (some b) :=
  ⟨rfl, rfl, rfl, by simp [World.setCell], fun k _ hk => Below.heap_setCell _ _ _ _ (fun e => hk (by rw [e]))⟩
theorem own_set {W : World} {B n g o : Nat} {e t : TypeId} {size : Nat} {v u : Value} {xs : List Value} {cs : Array Value} (h : W.ownsRow B e size v n xs) (hg : Blk W g t cs) (hne : e ≠ t) : (W.setCell ⟨g, o, none⟩ u).ownsRow B e size v n xs :=
  h.kept (grown_set W g o u) (.inr (own_blk_ne h hg hne))
section
variable {w0 w : World} {bf bw B k : Nat} {x : Flt} {a b c d : List UInt8} {v : Value} {xs : List Value}
end
end Go.Proofs.YtdjmckjbibfecaaGreatDoor
namespace Go.Proofs.YtdjmckjbibfecaaGreatDoor
open Go Go.RowKit Go.BigFrame Go.Maps

theorem laidOutK : laidOutB Tryz.prog = true := by kernel_rfl
theorem row40 : (54 : TypeId) < Tryz.prog.types.size := of_decide_eq_true (by kernel_rfl)
theorem wide40 : (match Tryz.prog.underlying 54 with | some (.array _ _) | some (.struct _) => true | _ => false) = true := by kernel_rfl
set_option maxRecDepth 100000 in
theorem keyed40 : Keyed Tryz.prog 54 := Keyed.of_law (deep_law_laid laidOutK (m := 2) (by omega) row40 (by kernel_rfl) wide40)
theorem cells40 : Tryz.prog.cellsOf 54 = 4 := by kernel_rfl
theorem keyT40 : Tryz.prog.keyType 54 = true := by kernel_rfl
theorem depth40 : ∃ d, Tryz.prog.types.size = 54 + d + 1 := Nat.exists_eq_add_of_lt row40
def Flt.fits (x : Flt) : Prop := (Lit.int .i64 x.paper).wf = true ∧ (Lit.int .i64 x.kind).wf = true ∧ x.field.size ≤ maxLen ∧ (Lit.int .i64 x.why).wf = true
theorem fits_i64 {n : Int} (h0 : -9223372036854775808 ≤ n) (h1 : n ≤ 9223372036854775807) : (Lit.int .i64 n).wf = true := WalkArith.wf_i64 ⟨h0, h1⟩
theorem keyF (x : Flt) (h : x.fits) : ∃ l, keyOf Tryz.prog 54 x.agg = some l := by
  obtain ⟨h1, h2, h3, h4⟩ := h
  obtain ⟨d, hd⟩ := depth40
  unfold keyOf
  rw [Tryz.underlying54]
  have hform : (x.agg).formed Tryz.prog 54 = true := by simp [Value.formed, Tryz.underlying54, cells40]
  simp only [keyT40, hform, Bool.and_self, if_true]
  have c3 : Tryz.prog.cellsOf 3 = 1 := by kernel_rfl
  have c9 : Tryz.prog.cellsOf 9 = 1 := by kernel_rfl
  have hk : ∃ L, Tryz.prog.keyLits (Tryz.prog.types.size + 1) 54 x.agg.cells.toList = some L := by
    rw [hd]
    refine ⟨[.int .i64 x.paper, .int .i64 x.kind, .string x.field.data.toList, .int .i64 x.why], ?_⟩
    unfold Program.keyLits
    simp only [Tryz.underlying54]
    simp [Value.cells, cells40, c3, c9, Program.keyLits, Tryz.underlying3, Tryz.underlying9, h1, h2, h3, h4]
  obtain ⟨L, hL⟩ := hk
  rw [hL]; exact ⟨_, rfl⟩
end Go.Proofs.YtdjmckjbibfecaaGreatDoor
namespace Go.Proofs.YtdjmckjbibfecaaGreatDoor
open Go Go.RowKit Go.BigFrame Go.Maps

theorem zero4 (w : World) : (zeroValue 4).run Tryz.prog w = .ok (.bool false) w := by kernel_rfl
theorem Tryz.info54 : (Tryz.prog.info? 54).map (fun i => (i.zero, i.size, i.bytes)) = some (some (.agg #[.int .i64 0, .int .i64 0, .string ⟨#[]⟩, .int .i64 0]), 4, 40) := by kernel_rfl

open Classical in
noncomputable def toldF (l : List Flt) : Value → Option Value := fun x => if ∃ y ∈ l, x = y.agg then some (.bool true) else none
open Classical in
noncomputable def addF (l : List Flt) (f : Flt) : List Flt := if f ∈ l then l else l ++ [f]
theorem agg_inj {x y : Flt} (h : x.agg = y.agg) : x = y := by
  obtain ⟨a, b, c, d⟩ := x
  obtain ⟨a', b', c', d'⟩ := y
  simpa using h
theorem told_get (l : List Flt) (f : Flt) : (toldF l f.agg).getD (.bool false) = .bool (@decide (f ∈ l) (Classical.propDecidable _)) := by
  unfold toldF
  by_cases h : f ∈ l
  · rw [if_pos ⟨f, h, rfl⟩]; simp [h]
  · rw [if_neg (fun ⟨y, hy, e⟩ => h (by rw [agg_inj e]; exact hy))]; simp [h]
open Classical in
theorem told_put (l : List Flt) (f : Flt) : (fun y => if y = f.agg then some (.bool true) else toldF l y) = toldF (l ++ [f]) := by
  funext y
  unfold toldF
  by_cases h1 : y = f.agg
  · rw [if_pos h1, if_pos ⟨f, by simp, h1⟩]
  · rw [if_neg h1]
    by_cases h2 : ∃ z ∈ l, y = z.agg
    · obtain ⟨z, hz, e⟩ := h2
      rw [if_pos ⟨z, hz, e⟩, if_pos ⟨z, by simp [hz], e⟩]
    · rw [if_neg h2, if_neg]
      rintro ⟨z, hz, e⟩
      rcases List.mem_append.1 hz with hz | hz
      · exact h2 ⟨z, hz, e⟩
      · simp at hz; subst hz; exact h1 e

structure Tell (w : World) (B ct cf bm : Nat) (v : Value) (l : List Flt) : Prop where
  map : MapFn w Tryz.prog 54 4 bm l.length (.bool false) (toldF l)
  tc : Blk w ct 90 #[.map (some bm)]
  fc : Blk w cf 47 #[v]
  row : w.ownsRow B 54 4 v l.length (fcells l)
  base : B ≤ ct ∧ B ≤ cf ∧ B ≤ bm
theorem Tell.below {w w' : World} {B ct cf bm : Nat} {v : Value} {l : List Flt} (h : Tell w B ct cf bm v l) (hb : Below w.heap.size w w') : Tell w' B ct cf bm v l :=
  ⟨h.map.below hb h.map.lt, h.tc.below hb h.tc.lt, h.fc.below hb h.fc.lt, own_below h.row hb, h.base⟩
theorem own_map_ne {w : World} {B b n m : Nat} {e k e' : TypeId} {size : Nat} {v z : Value} {xs : List Value} {S : Value → Option Value} (h : w.ownsRow B e size v n xs) (hm : MapFn w Tryz.prog k e' b m z S) : some b ≠ v.ownBlock := by
  obtain ⟨D, zd, ⟨es, clock, hh, _⟩, _⟩ := hm
  rcases h.2 with ⟨rfl, _⟩ | ⟨g, cap, cur, rfl, _, hg, _⟩
  · simp [Value.ownBlock]
  · intro he
    simp only [Value.ownBlock, Option.some.injEq] at he
    subst he
    rw [hh] at hg; cases hg
theorem blk_map_ne {w : World} {b g m : Nat} {t k e' : TypeId} {cs : Array Value} {z : Value} {S : Value → Option Value} (h : Blk w g t cs) (hm : MapFn w Tryz.prog k e' b m z S) : b ≠ g := by
  obtain ⟨D, zd, ⟨es, clock, hh, _⟩, _⟩ := hm
  rintro rfl
  rw [Blk, hh] at h; cases h
theorem fcells_one (l : List Flt) : ∀ u ∈ fcells l, u.oneCell' = true := by
  intro u hu
  unfold fcells at hu
  obtain ⟨x, _, hx⟩ := List.mem_flatMap.1 hu
  simp [Flt.cells] at hx
  rcases hx with rfl | rfl | rfl | rfl <;> rfl

theorem own_slice {w : World} {B n : Nat} {e : TypeId} {size : Nat} {v : Value} {xs : List Value} (h : w.ownsRow B e size v n xs) : ∃ A c, v = .slice A n c := by
  rcases h.2 with ⟨rfl, rfl⟩ | ⟨g, cap, cur, rfl, _⟩
  · exact ⟨_, _, rfl⟩
  · exact ⟨_, _, rfl⟩
/-- All is as it was, but for some blocks. -/
structure ButS (S : Nat → Prop) (w w' : World) : Prop where
  os : w'.os = w.os
  tape : w'.tape = w.tape
  output : w'.output = w.output
  size : w.heap.size ≤ w'.heap.size
  block : ∀ k, k < w.heap.size → ¬ S k → w'.heap[k]? = w.heap[k]?
theorem ButS.refl (S : Nat → Prop) (w : World) : ButS S w w := ⟨rfl, rfl, rfl, Nat.le_refl _, fun _ _ _ => rfl⟩
theorem ButS.trans {S : Nat → Prop} {a b c : World} (h : ButS S a b) (k : ButS S b c) : ButS S a c :=
  ⟨k.os.trans h.os, k.tape.trans h.tape, k.output.trans h.output, Nat.le_trans h.size k.size, fun i hi hs => (k.block i (Nat.lt_of_lt_of_le hi h.size) hs).trans (h.block i hi hs)⟩
theorem ButS.of_below {S : Nat → Prop} {w w' : World} (h : Below w.heap.size w w') : ButS S w w' := ⟨h.os, h.tape, h.output, h.size, fun k hk _ => h.block k hk⟩
theorem ButS.alloc {S : Nat → Prop} {a w : World} (h : ButS S a w) (o : Obj) : ButS S a (w.alloc o) := h.trans (ButS.of_below ((Below.refl _ w).alloc (Nat.le_refl _) o))
theorem ButS.grown {S : Nat → Prop} {a w w' : World} {row : Option Nat} (h : ButS S a w) (hg : w.grownBy w' row) (hr : ∀ k, row = some k → S k) : ButS S a w' :=
  h.trans ⟨hg.os, hg.tape, hg.output, hg.size, fun k hk hs => hg.block k hk (fun e => hs (hr k e.symm))⟩
theorem ButS.setCell {S : Nat → Prop} {a w : World} (h : ButS S a w) (g o : Nat) (u : Value) (hg : S g) : ButS S a (w.setCell ⟨g, o, none⟩ u) :=
  h.grown (grown_set w g o u) (fun k e => by simp at e; subst e; exact hg)
theorem ButS.below {S : Nat → Prop} {w w' : World} {B : Nat} (h : ButS S w w') (hS : ∀ g, S g → B ≤ g) (hB : B ≤ w.heap.size) : Below B w w' :=
  ⟨h.os, h.tape, h.output, h.size, fun k hk => h.block k (by omega) (fun hs => by have := hS k hs; omega)⟩
theorem ButS.blk {S : Nat → Prop} {w w' : World} {g : Nat} {t : TypeId} {cs : Array Value} (h : ButS S w w') (hb : Blk w g t cs) (hg : ¬ S g) : Blk w' g t cs := (h.block g hb.lt hg).trans hb
theorem ButS.map {S : Nat → Prop} {w w' : World} {k e : TypeId} {b n : Nat} {z : Value} {F : Value → Option Value} (h : ButS S w w') (hm : MapFn w Tryz.prog k e b n z F) (hg : ¬ S b) : MapFn w' Tryz.prog k e b n z F := by
  have hl := hm.lt
  obtain ⟨D, zd, ⟨es, clock, h1, h1'⟩, h2⟩ := hm
  exact ⟨D, zd, ⟨es, clock, (h.block b hl hg).trans h1, h1'⟩, h2⟩
/-- The blocks that a telling may turn. -/
def tellS (cf bm : Nat) (v : Value) (g : Nat) : Prop := g = bm ∨ g = cf ∨ v.ownBlock = some g
def Tells (B ct cf bm : Nat) (v : Value) (l : List Flt) (w : World) (e : Ending) (w' : World) : Prop := e = .returned (.tuple #[]) ∧ ∃ v', Tell w' B ct cf bm v' l ∧ ButS (tellS cf bm v) w w'

set_option maxRecDepth 100000 in
set_option maxHeartbeats 1600000 in
theorem tell_any (f : Flt) (hf : f.fits) (B ct cf bm : Nat) (v : Value) (l : List Flt) (w : World) (hl : l.length ≤ 100000) (h : Tell w B ct cf bm v l) (hB : B ≤ w.heap.size) :
    Calls Tryz.prog 57 #[f.agg, .pointer (some ⟨ct, 0, none⟩), .pointer (some ⟨cf, 0, none⟩)] w (Tells B ct cf bm v (addF l f) w) := by
  obtain ⟨i0, hi, hz0, hz1, hz2⟩ := info_parts Tryz.info54
  obtain ⟨A, c, rfl⟩ := own_slice h.row
  obtain ⟨kl, hkl⟩ := keyF f hf
  have hb0 : Below w.heap.size w (w.alloc (.cells #[.int .i64 f.paper, .int .i64 f.kind, .string f.field, .int .i64 f.why] 54)) := (Below.refl _ w).alloc (Nat.le_refl _) _
  have h0 := Lib.hid (h.below hb0)
  have hlk := h0.out.map.look keyed40 Tryz.underlying90 (zero4 _) hkl
  rw [told_get] at hlk
  have c1 : (w.alloc (.cells #[.int .i64 f.paper, .int .i64 f.kind, .string f.field, .int .i64 f.why] 54)).cell? ⟨ct, 0, none⟩ = some (.map (some bm)) := by rw [h0.out.tc.cell]; rfl
  have hkl' := Lib.hid hkl
  clear hkl
  by_cases hm : f ∈ l
  · have e1 : @decide (f ∈ l) (Classical.propDecidable _) = true := by simp [hm]
    rw [e1] at hlk
    clear e1
    have hm' := Lib.hid hm
    clear hm
    go_enter Tryz.func57, Tryz.ntmps57
    go_wp2_with fail
    go_end0
    refine ⟨rfl, .slice A l.length c, ?_, (ButS.refl _ w).alloc _⟩
    rw [addF, if_pos hm'.out]; exact h0.out
  · have e1 : @decide (f ∈ l) (Classical.propDecidable _) = false := by simp [hm]
    rw [e1] at hlk
    clear e1
    have hm' := Lib.hid hm
    clear hm
    have hn0 : Hid (l.length < maxLen) := by unfold Hid maxLen; omega
    have hn1 : Hid (l.length + 1 ≤ maxLen) := by unfold Hid maxLen; omega
    have hn2 : Hid ((l.length + 1) * 40 ≤ 140737488355328) := by unfold Hid; omega
    have hone : Hid (∀ u ∈ (#[Value.int .i64 f.paper, .int .i64 f.kind, .string f.field, .int .i64 f.why] : Array Value).toList, u.oneCell' = true) := by
      have := fcells_one [f]
      unfold Hid; simpa [fcells, Flt.cells] using this
    have hblk0 : Blk (w.alloc (.cells #[.int .i64 f.paper, .int .i64 f.kind, .string f.field, .int .i64 f.why] 54)) w.heap.size 54 #[.int .i64 f.paper, .int .i64 f.kind, .string f.field, .int .i64 f.why] := Blk.new w 54 _
    go_enter Tryz.func57, Tryz.ntmps57
    go_wp2_with (first | (at_mapUpdate; go_must (refine wpList_put _ rfl _ _ _ 90 rfl keyed40 Tryz.underlying90 bm l.length rfl h0.out.map hn0.out f.agg (.bool true) kl rfl rfl hkl'.out (plainElem_bool Tryz.underlying4 true) ?_); intro w1 hm1 hg1; rw [told_put] at hm1; have t1 : Hid (Blk w1 ct 90 #[.map (some bm)]) := h0.out.tc.kept hg1 (by simpa using blk_map_ne h0.out.tc h0.out.map); have f1 : Hid (Blk w1 cf 47 #[.slice A l.length c]) := h0.out.fc.kept hg1 (by simpa using blk_map_ne h0.out.fc h0.out.map); have b1 := hblk0.kept hg1 (by simpa using blk_map_ne hblk0 h0.out.map); have r1 : Hid (w1.ownsRow B 54 4 (.slice A l.length c) l.length (fcells l)) := h0.out.row.kept hg1 (.inr (own_map_ne h0.out.row h0.out.map).symm); have hB1 : Hid (ButS (tellS cf bm (.slice A l.length c)) w w1) := ((ButS.refl _ w).alloc _).grown hg1 (fun k hk => (by simp at hk; exact .inl hk.symm)); have hm1' := Lib.hid hm1; have hz1' : Hid (B ≤ w1.heap.size) := Nat.le_trans hB hB1.out.size; obtain ⟨⟨q0, q1, q2, q3⟩, _⟩ := b1.four; have qv : w1.cell? ⟨cf, 0, none⟩ = some (.slice A l.length c) := (by rw [f1.out.cell]; rfl); clear hm1 hg1 hlk c1 hblk0 b1) | (at_builtin; go_must (refine wpList_app3 B rfl (.tmp 10) (.tmp 12) 47 rfl 54 i0 _ 4 40 Tryz.underlying47 hi hz0 hz1 hz2 rfl (by decide) (.slice A l.length c) l.length (fcells l) rfl w1.heap.size 1 #[.int .i64 f.paper, .int .i64 f.kind, .string f.field, .int .i64 f.why] rfl (r1.out.alloc _) (Blk.new w1 54 _) rfl hone.out hn1.out hn2.out (Nat.le_trans hz1'.out (by simp)) ?_); intro v2 w2 ho2 hb2 hg2; have t2 := (t1.out.alloc (.cells #[.int .i64 f.paper, .int .i64 f.kind, .string f.field, .int .i64 f.why] 54)).kept hg2 (own_blk_ne r1.out t1.out (by decide)); have f2 := (f1.out.alloc (.cells #[.int .i64 f.paper, .int .i64 f.kind, .string f.field, .int .i64 f.why] 54)).kept hg2 (own_blk_ne r1.out f1.out (by decide)); have m2 := (hm1'.out.alloc (.cells #[.int .i64 f.paper, .int .i64 f.kind, .string f.field, .int .i64 f.why] 54)).kept hg2 (own_map_ne r1.out hm1'.out); have hB2 : Hid (ButS (tellS cf bm (.slice A l.length c)) w w2) := (hB1.out.alloc _).grown hg2 (fun k hk => .inr (.inr hk)); have ho2' := Lib.hid ho2; have t2' := Lib.hid t2; have f2' := Lib.hid f2; have m2' := Lib.hid m2; have qw : w2.cell? ⟨cf, 0, none⟩ = some (.slice A l.length c) := (by rw [f2.cell]; rfl); have qf : w2.frozen? ⟨cf, 0, none⟩ = false := f2.frozen 0; obtain ⟨A2, c2, rfl⟩ := own_slice ho2; clear ho2 t2 f2 m2 hg2 hb2))
    go_end0
    refine ⟨rfl, .slice A2 (l.length + 1) c2, ?_, hB2.out.setCell _ _ _ (.inr (.inl rfl))⟩
    rw [addF, if_neg hm'.out]
    have hlen : (l ++ [f]).length = l.length + 1 := by simp
    refine ⟨?_, ?_, ?_, ?_, h.base⟩
    · rw [hlen]; exact m2'.out.setCell (blk_map_ne f2'.out m2'.out) _
    · exact t2'.out.far (fun e => by
        have e' : ct = cf := e
        have h1 := t2'.out
        have h2 := f2'.out
        rw [e', Blk] at h1
        rw [Blk, h1] at h2
        simp at h2) _
    · simpa using f2'.out.set_ 0 (.slice A2 (l.length + 1) c2)
    · rw [hlen]
      have := own_set (o := 0) (u := .slice A2 (l.length + 1) c2) ho2'.out f2'.out (by decide)
      simpa [fcells, Flt.cells] using this
end Go.Proofs.YtdjmckjbibfecaaGreatDoor

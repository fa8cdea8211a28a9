/- A map of the call's own, keyed by texts, its elements of whatever type: which value stands at which key. -/
import Derived.Test.YtheiogafjinihaaDoorG
import Derived.Maps.OwnSet
import Derived.Maps.OwnOps
import Derived.Maps.Views
import Derived.DeepKeys4
namespace Go.Proofs.YtheiogafjinihaaDoor
open Go Go.RowKit Go.BigFrame Go.Maps Go.WideMaps

/-- An element as it is. -/
def anyR : Value → Option (DataW Value × List MemPlace) := fun v => some (.held v, [])
def MapS (w : World) (P : Program) (k : TypeId) (b n : Nat) (z : Value) (S : List UInt8 → Option Value) : Prop :=
  ∃ D : DataW Value, w.ownsMap P k anyR b n D ∧ ∀ kl, D.atKey (.string kl) (.held z) = .held ((S kl).getD z) ∧ Maps.has D (.string kl) = (S kl).isSome

section
variable {w w' : World} {P : Program} {k e t : TypeId} {b n : Nat} {z : Value} {S : List UInt8 → Option Value}
theorem MapS.lt (h : MapS w P k b n z S) : b < w.heap.size := by obtain ⟨D, h1, _⟩ := h; exact h1.lt
theorem MapS.kept {row : Option Nat} (h : MapS w P k b n z S) (hg : w.grownBy w' row) (hne : some b ≠ row) : MapS w' P k b n z S := by
  obtain ⟨D, h1, h2⟩ := h; exact ⟨D, h1.kept hg hne, h2⟩
theorem MapS.alloc (h : MapS w P k b n z S) (o : Obj) : MapS (w.alloc o) P k b n z S := h.kept (World.grownBy_alloc w o none) (by simp)
theorem MapS.setCell (h : MapS w P k b n z S) {a : Addr} (ha : b ≠ a.block) (u : Value) : MapS (w.setCell a u) P k b n z S := by
  obtain ⟨D, h1, h2⟩ := h; exact ⟨D, h1.setCell ha u, h2⟩
theorem MapS.belowB {B : Nat} (h : MapS w P k b n z S) (hb : Below B w w') (hB : b < B) : MapS w' P k b n z S := by
  obtain ⟨D, ⟨es, clock, h1, h1'⟩, h2⟩ := h
  exact ⟨D, ⟨es, clock, (hb.block b hB).trans h1, h1'⟩, h2⟩
theorem MapS.below (h : MapS w P k b n z S) (hb : Below w.heap.size w w') : MapS w' P k b n z S := h.belowB hb h.lt
theorem MapS.made (w : World) (P : Program) (k : TypeId) (z : Value) : MapS (w.alloc (.map #[] 0)) P k w.heap.size 0 z (fun _ => none) := by
  refine ⟨.map [], World.ownsMap_made w P k _, fun kl => ⟨?_, ?_⟩⟩
  · exact Maps.atKey_of_not_has (by simp [Maps.has]) _
  · simp [Maps.has]
theorem held_inj {u v : Value} {ps : List MemPlace} (h : anyR u = some (.held v, ps)) : u = v := by
  simp only [anyR, Option.some.injEq, Prod.mk.injEq, DataW.held.injEq] at h
  exact h.1
theorem MapS.look (h : MapS w P k b n z S) (hk : P.underlying k = some .string) (ht : P.underlying t = some (.map k e)) (hz : (zeroValue e).run P w = .ok z w) {s : ByteArray} (hs : s.size ≤ maxLen) :
    (Instr.lookup t (.map (some b)) (.string s) false).run P w = .ok ((S s.data.toList).getD z) w := by
  obtain ⟨D, h1, h2⟩ := h
  obtain ⟨v, ps, hrun, hv⟩ := h1.lookup (string_keyed hk) ht hz (zd := .held z) (zp := []) rfl (keyOf_string_mk hk hs)
  rw [(h2 _).1] at hv
  rw [hrun, held_inj hv]
theorem MapS.look_ok (h : MapS w P k b n z S) (hk : P.underlying k = some .string) (ht : P.underlying t = some (.map k e)) (hz : (zeroValue e).run P w = .ok z w) {s : ByteArray} (hs : s.size ≤ maxLen) :
    (Instr.lookup t (.map (some b)) (.string s) true).run P w = .ok (.tuple #[(S s.data.toList).getD z, .bool (S s.data.toList).isSome]) w := by
  obtain ⟨D, h1, h2⟩ := h
  obtain ⟨v, ps, hrun, hv⟩ := h1.look_ok (string_keyed hk) ht hz (zd := .held z) (zp := []) rfl (keyOf_string_mk hk hs)
  rw [(h2 _).1] at hv
  rw [hrun, held_inj hv, (h2 _).2]
/-- One more. -/
def putS (S : List UInt8 → Option Value) (s : List UInt8) (v : Value) : List UInt8 → Option Value := fun x => if x = s then some v else S x
theorem MapS.put (h : MapS w P k b n z S) (hk : P.underlying k = some .string) (ht : P.underlying t = some (.map k e)) (hn : n < maxLen) {s : ByteArray} (hs : s.size ≤ maxLen) (val : Value) :
    ∃ w', (Instr.mapUpdate t (.map (some b)) (.string s) val).run P w = .ok () w' ∧ MapS w' P k b (n + 1) z (putS S s.data.toList val) ∧ w.grownBy w' (some b) := by
  obtain ⟨D, h1, h2⟩ := h
  have K := string_keyed hk
  have hkey := keyOf_string_mk (P := P) hk hs
  obtain ⟨w', hrun, h3, hg⟩ := h1.update K ht hn hkey (d := .held val) (ps := []) rfl
  refine ⟨w', hrun, ⟨D.put (.string s.data.toList) (.held val), h3, fun x => ?_⟩, hg⟩
  by_cases hxk : x = s.data.toList
  · subst hxk
    simp only [putS, if_true]
    rw [Maps.atKey_put_same h1.isMap (K.key hkey), Maps.has_put_same h1.isMap (K.key hkey)]
    exact ⟨rfl, rfl⟩
  · have hne : Lit.string x ≠ Lit.string s.data.toList := fun e => hxk (by simpa using e)
    simp only [putS, if_neg hxk]
    rw [Maps.atKey_put_other hne, Maps.has_put_other hne]
    exact h2 x
end
theorem run_make_hint {P : Program} {t k e : TypeId} (ht : P.underlying t = some (.map k e)) (n : Int) (w : World) : (Instr.makeMap t (some (.int .i64 n))).run P w = .ok (.map (some w.heap.size)) (w.alloc (.map #[] 0)) := by
  simp [Instr.makeMap, run_underlying ht, Result.andThen, asInt, go_sem]
theorem wpList_puts {P : Program} (w : World) {ops : Array Oper} {rest : List Oper} {o : Oper} {a : Act} {Q : Exit → Act → World → Prop}
    (hg : o.guard = none) (m x v : Operand) (t : TypeId) (hop : o.op = Op.mapUpdate t m x v)
    {k e : TypeId} (hk : P.underlying k = some .string) (ht : P.underlying t = some (.map k e)) (b n : Nat) {z : Value} {S : List UInt8 → Option Value}
    (hm : a.eval m = .map (some b)) (hown : MapS w P k b n z S) (hn : n < maxLen) (s : ByteArray) (val : Value) (hs : s.size ≤ maxLen) (hx : a.eval x = .string s) (hv : a.eval v = val)
    (hK : ∀ w', MapS w' P k b (n + 1) z (putS S s.data.toList val) → w.grownBy w' (some b) → wpList P ops Q rest (a.put o.dst undef) w') :
    wpList P ops Q (o :: rest) a w := by
  refine wpList_plain hg fun K' hK' => ?_
  obtain ⟨w', hrun, r1, r2⟩ := hown.put hk ht hn hs val
  unfold Oper.wp
  simp [execOp, hop, hm, hx, hv, hrun, Result.andThen]
  exact hK' _ _ (hK w' r1 r2)
end Go.Proofs.YtheiogafjinihaaDoor

/- A map of the call's own, by a function: which value stands at which key. -/
import Derived.Test.YtnmnknkdnjkpjaaGreatDoorG
import Derived.Maps.OwnSet
import Derived.Maps.OwnOps
import Derived.Maps.Views
import Derived.DeepKeys4
namespace Go.Proofs.YtnmnknkdnjkpjaaGreatDoor
open Go Go.RowKit Go.Maps

theorem plainElem_inj {P : Program} {e : TypeId} {u v : Value} {x y : DataW Unit × List MemPlace} (hu : plainElem P e u = some x) (hv : plainElem P e v = some y) (h : x.1 = y.1) : u = v := by
  unfold plainElem at hu hv
  split at hu
  · rename_i h1
    split at hv <;> simp_all
    subst hu hv; simpa using h
  · rename_i h1
    split at hv <;> simp_all
    obtain ⟨⟨rfl, _⟩, rfl⟩ := hu
    obtain ⟨⟨rfl, _⟩, rfl⟩ := hv
    simpa using h
  · rename_i h1
    split at hv <;> simp_all
    rename_i a b _
    have e1 := congrArg Prod.fst hu.2
    have e2 := congrArg Prod.fst hv.2
    simp only at e1 e2
    rw [← e1, ← e2] at h
    simp only [DataW.lit.injEq, Lit.string.injEq] at h
    apply ByteArray.ext
    first | exact Array.toList_inj.1 h | exact (Array.toList_inj.1 h).symm
  · cases hu

def MapFn (w : World) (P : Program) (k e : TypeId) (b n : Nat) (z : Value) (S : Value → Option Value) : Prop :=
  ∃ (D zd : DataW Unit), w.ownsMap P k (plainElem P e) b n D ∧ plainElem P e z = some (zd, []) ∧ ∀ key kl, keyOf P k key = some kl → plainElem P e ((S key).getD z) = some (D.atKey kl zd, []) ∧ Maps.has D kl = (S key).isSome

section
variable {w w' : World} {P : Program} {k e t : TypeId} {b n : Nat} {z : Value} {S : Value → Option Value}
theorem MapFn.lt (h : MapFn w P k e b n z S) : b < w.heap.size := by obtain ⟨D, zd, h1, _⟩ := h; exact h1.lt
theorem MapFn.kept {row : Option Nat} (h : MapFn w P k e b n z S) (hg : w.grownBy w' row) (hne : some b ≠ row) : MapFn w' P k e b n z S := by
  obtain ⟨D, zd, h1, h2⟩ := h; exact ⟨D, zd, h1.kept hg hne, h2⟩
theorem MapFn.alloc (h : MapFn w P k e b n z S) (o : Obj) : MapFn (w.alloc o) P k e b n z S := h.kept (World.grownBy_alloc w o none) (by simp)
theorem MapFn.drew (h : MapFn w P k e b n z S) : MapFn w.drew P k e b n z S := h
theorem MapFn.setCell (h : MapFn w P k e b n z S) {a : Addr} (ha : b ≠ a.block) (u : Value) : MapFn (w.setCell a u) P k e b n z S := by
  obtain ⟨D, zd, h1, h2⟩ := h; exact ⟨D, zd, h1.setCell ha u, h2⟩
theorem MapFn.below {B : Nat} (h : MapFn w P k e b n z S) (hb : Below B w w') (hB : b < B) : MapFn w' P k e b n z S := by
  obtain ⟨D, zd, ⟨es, clock, h1, h1'⟩, h2⟩ := h
  exact ⟨D, zd, ⟨es, clock, (hb.block b hB).trans h1, h1'⟩, h2⟩
theorem MapFn.made (w : World) (P : Program) (k e : TypeId) {z : Value} {zd : DataW Unit} (hz : plainElem P e z = some (zd, [])) : MapFn (w.alloc (.map #[] 0)) P k e w.heap.size 0 z (fun _ => none) := by
  refine ⟨.map [], zd, World.ownsMap_made w P k _, hz, fun key kl _ => ⟨?_, ?_⟩⟩
  · have : (DataW.map [] : DataW Unit).atKey kl zd = zd := Maps.atKey_of_not_has (by simp [Maps.has]) zd
    rw [this]; exact hz
  · simp [Maps.has]
theorem MapFn.look (h : MapFn w P k e b n z S) (K : Keyed P k) (ht : P.underlying t = some (.map k e)) (hz : (zeroValue e).run P w = .ok z w) {key : Value} {kl : Lit} (hkey : keyOf P k key = some kl) :
    (Instr.lookup t (.map (some b)) key false).run P w = .ok ((S key).getD z) w := by
  obtain ⟨D, zd, h1, hzd, h2⟩ := h
  obtain ⟨v, ps, hrun, hv⟩ := h1.lookup K ht hz hzd hkey
  rw [hrun, plainElem_inj hv (h2 key kl hkey).1 rfl]
theorem MapFn.look_ok (h : MapFn w P k e b n z S) (K : Keyed P k) (ht : P.underlying t = some (.map k e)) (hz : (zeroValue e).run P w = .ok z w) {key : Value} {kl : Lit} (hkey : keyOf P k key = some kl) :
    (Instr.lookup t (.map (some b)) key true).run P w = .ok (.tuple #[(S key).getD z, .bool (S key).isSome]) w := by
  obtain ⟨D, zd, h1, hzd, h2⟩ := h
  obtain ⟨v, ps, hrun, hv⟩ := h1.look_ok K ht hz hzd hkey
  rw [hrun, plainElem_inj hv (h2 key kl hkey).1 rfl, (h2 key kl hkey).2]
open Classical in
theorem MapFn.put (h : MapFn w P k e b n z S) (K : Keyed P k) (ht : P.underlying t = some (.map k e)) (hn : n < maxLen) {key val : Value} {kl : Lit} {d : DataW Unit} (hkey : keyOf P k key = some kl) (hv : plainElem P e val = some (d, [])) :
    ∃ w', (Instr.mapUpdate t (.map (some b)) key val).run P w = .ok () w' ∧ MapFn w' P k e b (n + 1) z (fun x => if x = key then some val else S x) ∧ w.grownBy w' (some b) := by
  obtain ⟨D, zd, h1, hzd, h2⟩ := h
  obtain ⟨w', hrun, h3, hg⟩ := h1.update K ht hn hkey hv
  refine ⟨w', hrun, ⟨D.put kl d, zd, h3, hzd, fun x xl hx => ?_⟩, hg⟩
  by_cases hxk : x = key
  · subst hxk
    have : xl = kl := Option.some.inj (hx.symm.trans hkey)
    subst this
    simp only [if_true]
    rw [Maps.atKey_put_same h1.isMap (K.key hx), Maps.has_put_same h1.isMap (K.key hx)]
    exact ⟨hv, rfl⟩
  · have hne : xl ≠ kl := fun e => hxk (K.inj hx (by rw [e]; exact hkey))
    simp only [if_neg hxk]
    rw [Maps.atKey_put_other hne, Maps.has_put_other hne]
    exact h2 x xl hx
end
open Classical in
theorem wpList_put {P : Program} (w : World) {ops : Array Oper} {rest : List Oper} {o : Oper} {a : Act} {Q : Exit → Act → World → Prop}
    (hg : o.guard = none) (m x v : Operand) (t : TypeId) (hop : o.op = Op.mapUpdate t m x v)
    {k e : TypeId} (K : Keyed P k) (ht : P.underlying t = some (.map k e)) (b n : Nat) {z : Value} {S : Value → Option Value}
    (hm : a.eval m = .map (some b)) (hown : MapFn w P k e b n z S) (hn : n < maxLen) (key val : Value) (kl : Lit) (hx : a.eval x = key) (hv : a.eval v = val) (hkey : keyOf P k key = some kl)
    {d : DataW Unit} (hval : plainElem P e val = some (d, []))
    (hK : ∀ w', MapFn w' P k e b (n + 1) z (fun y => if y = key then some val else S y) → w.grownBy w' (some b) → wpList P ops Q rest (a.put o.dst undef) w') :
    wpList P ops Q (o :: rest) a w := by
  refine wpList_plain hg fun K' hK' => ?_
  obtain ⟨w', hrun, r1, r2⟩ := hown.put K ht hn hkey hval
  unfold Oper.wp
  simp [execOp, hop, hm, hx, hv, hrun, Result.andThen]
  exact hK' _ _ (hK w' r1 r2)
end Go.Proofs.YtnmnknkdnjkpjaaGreatDoor

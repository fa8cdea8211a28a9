/- A map of the call's own, keyed by numbers: which numbers it may hold. -/
import Derived.Test.YtdjmckjbibfecaaGreatDoorCf
import Derived.Maps.OwnSet
import Derived.Maps.OwnOps
import Derived.Maps.Views
import Derived.Maps.RangeWalk
namespace Go.Proofs.YtdjmckjbibfecaaGreatDoor
open Go Go.RowKit Go.BigFrame Go.Maps Go.WideMaps

/-- An element as it is. -/
def anyRI : Value → Option (DataW Value × List MemPlace) := fun v => some (.held v, [])
/-- Each key is one of these. -/
def SetI (w : World) (P : Program) (k : TypeId) (b n : Nat) (ks : List Nat) : Prop :=
  ∃ D : DataW Value, w.ownsMap P k anyRI b n D ∧ ∀ x : Int, Maps.has D (.int .i64 x) = true → ∃ q ∈ ks, x = (q : Int)
section
variable {w w' : World} {P : Program} {k e t : TypeId} {b n : Nat} {ks : List Nat}
theorem SetI.lt (h : SetI w P k b n ks) : b < w.heap.size := by obtain ⟨D, h1, _⟩ := h; exact h1.lt
theorem SetI.kept {row : Option Nat} (h : SetI w P k b n ks) (hg : w.grownBy w' row) (hne : some b ≠ row) : SetI w' P k b n ks := by
  obtain ⟨D, h1, h2⟩ := h; exact ⟨D, h1.kept hg hne, h2⟩
theorem SetI.alloc (h : SetI w P k b n ks) (o : Obj) : SetI (w.alloc o) P k b n ks := h.kept (World.grownBy_alloc w o none) (by simp)
theorem SetI.belowB {B : Nat} (h : SetI w P k b n ks) (hb : Below B w w') (hB : b < B) : SetI w' P k b n ks := by
  obtain ⟨D, ⟨es, clock, h1, h1'⟩, h2⟩ := h
  exact ⟨D, ⟨es, clock, (hb.block b hB).trans h1, h1'⟩, h2⟩
theorem SetI.below (h : SetI w P k b n ks) (hb : Below w.heap.size w w') : SetI w' P k b n ks := h.belowB hb h.lt
theorem SetI.made (w : World) (P : Program) (k : TypeId) : SetI (w.alloc (.map #[] 0)) P k w.heap.size 0 [] :=
  ⟨.map [], World.ownsMap_made w P k _, fun x hx => by simp [Maps.has] at hx⟩
theorem SetI.put (h : SetI w P k b n ks) (hk : P.underlying k = some (.int .i64)) (ht : P.underlying t = some (.map k e)) (hn : n < maxLen) (q : Nat) (hq : q < 9223372036854775808) (val : Value) :
    ∃ w', (Instr.mapUpdate t (.map (some b)) (.int .i64 (q : Int)) val).run P w = .ok () w' ∧ SetI w' P k b (n + 1) (ks ++ [q]) ∧ w.grownBy w' (some b) := by
  obtain ⟨D, h1, h2⟩ := h
  have K := int_keyed hk
  have hkey := keyOf_int_mk (P := P) hk (a := (q : Int)) (WalkArith.wf_i64 ⟨by omega, by omega⟩)
  obtain ⟨w', hrun, h3, hg⟩ := h1.update K ht hn hkey (d := .held val) (ps := []) rfl
  refine ⟨w', hrun, ⟨D.put (.int .i64 (q : Int)) (.held val), h3, fun x hx => ?_⟩, hg⟩
  by_cases hxq : x = (q : Int)
  · exact ⟨q, by simp, hxq⟩
  · rw [Maps.has_put_other (fun e => hxq (by simpa using e))] at hx
    obtain ⟨q', h4, h5⟩ := h2 x hx
    exact ⟨q', by simp [h4], h5⟩
/-- The marks of a walk over it. -/
def SetR (w : World) (P : Program) (k : TypeId) (b r n : Nat) (ks : List Nat) : Prop :=
  ∃ (D : DataW Value) (left : Lit → Bool) (cnt : Nat), w.ranges P k anyRI b r n D left cnt ∧ (∀ kl, left kl = true → Maps.has D kl = true) ∧ ∀ x : Int, Maps.has D (.int .i64 x) = true → ∃ q ∈ ks, x = (q : Int)
end
section
variable {P : Program} (w : World) {ops : Array Oper} {rest : List Oper} {o : Oper} {a : Act} {Q : Exit → Act → World → Prop} {k e t : TypeId} {b n : Nat} {ks : List Nat}
theorem wpList_putI (hg : o.guard = none) (m x v : Operand) (hop : o.op = Op.mapUpdate t m x v)
    (hk : P.underlying k = some (.int .i64)) (ht : P.underlying t = some (.map k e))
    (hm : a.eval m = .map (some b)) (hown : SetI w P k b n ks) (hn : n < maxLen) (q : Nat) (kv : Int) (hkv : (q : Int) = kv) (val : Value) (hq : q < 9223372036854775808) (hx : a.eval x = .int .i64 kv) (hv : a.eval v = val)
    (hK : ∀ w', SetI w' P k b (n + 1) (ks ++ [q]) → w.grownBy w' (some b) → wpList P ops Q rest (a.put o.dst undef) w') :
    wpList P ops Q (o :: rest) a w := by
  subst hkv
  refine wpList_plain hg fun K' hK' => ?_
  obtain ⟨w', hrun, r1, r2⟩ := hown.put hk ht hn q hq val
  unfold Oper.wp
  simp [execOp, hop, hm, hx, hv, hrun, Result.andThen]
  exact hK' _ _ (hK w' r1 r2)
theorem wpList_rangeI (hg : o.guard = none) (m : Operand) (hop : o.op = Op.range t m) (hk : P.underlying k = some (.int .i64)) (ht : P.underlying t = some (.map k e))
    (hm : a.eval m = .map (some b)) (hown : SetI w P k b n ks)
    (hK : ∀ w', SetR w' P k b w.heap.size n ks → w.grownBy w' none → w'.heap.size = w.heap.size + 1 → wpList P ops Q rest (a.put o.dst (.pointer (some ⟨w.heap.size, 0, none⟩))) w') :
    wpList P ops Q (o :: rest) a w := by
  obtain ⟨D, h1, h2⟩ := hown
  exact wpList_range_own w hg m t hop k e (int_keyed hk) ht anyRI b n D hm h1 fun w' r1 r2 r3 => hK w' ⟨D, _, _, r1, fun _ h => h, h2⟩ r2 r3
theorem wpList_nextI (hg : o.guard = none) (it : Operand) (hop : o.op = Op.next it false) (hk : P.underlying k = some (.int .i64)) {r : Nat}
    (hit : a.eval it = .pointer (some ⟨r, 0, none⟩)) (h : SetR w P k b r n ks)
    (hDone : wpList P ops Q rest (a.put o.dst (.tuple #[.bool false])) w)
    (hMore : ∀ (q : Nat) (c : Value) (w' : World), q ∈ ks → SetR w' P k b r n ks → w'.rangeLeft b r < w.rangeLeft b r → w.grownBy w' (some r) → w'.heap.size = w.heap.size → (Instr.entry (.pointer (some ⟨r, 0, none⟩))).run P w' = .ok (.tuple #[.int .i64 (q : Int), c]) w' → wpList P ops Q rest (a.put o.dst (.tuple #[.bool true, .int .i64 (q : Int), c])) w') :
    wpList P ops Q (o :: rest) a w := by
  obtain ⟨D, left, cnt, h1, h2, h3⟩ := h
  refine wpList_next_ranges w hg it hop k (int_keyed hk) anyRI (Value.int .i64) (fun v : Value => v) (fun key kl hkey => by obtain ⟨x, rfl, _⟩ := Maps.keyOf_int_inv hk hkey; exact ⟨x, rfl⟩) (fun v y _ => ⟨v, rfl⟩) b r n D left cnt hit h1 (fun _ _ => hDone) ?_
  intro x c kl y w' cnt' hkey hlk hv hat hrg hlt hgr hsz hen
  obtain ⟨x', ex, rfl, hwx⟩ := Maps.keyOf_int_inv hk hkey
  cases ex
  obtain ⟨q, hq, rfl⟩ := h3 x (h2 _ hlk)
  refine hMore q c w' hq ⟨D, _, cnt', hrg, fun kl h => ?_, h3⟩ ?_ hgr hsz hen
  · simp only [Bool.and_eq_true] at h
    exact h2 kl h.1
  · rw [h1.left_eq, hrg.left_eq]; exact hlt
end
end Go.Proofs.YtdjmckjbibfecaaGreatDoor

/- A builder of the call's own, that holds a text. -/
import Derived.Test.YtheiogafjinihaaDoorSb
import Derived.Test.YtheiogafjinihaaDoorFt
namespace Go.Proofs.YtheiogafjinihaaDoor
open Go Go.RowKit Go.BigFrame Go.Maps

abbrev Bld (w : World) (B b : Nat) (acc : List UInt8) : Prop := Lib.IsBuilderF 74 5 B b (Lib.byteCells acc) w
theorem ownF_below {w w' : World} {B : Nat} {e : TypeId} {size n : Nat} {v : Value} {xs : List Value} (h : w.ownsRowF B e size v n xs) (hb : Below w.heap.size w w') : w'.ownsRowF B e size v n xs :=
  h.kept (row := none) ⟨hb.os, hb.tape, hb.output, hb.size, fun k hk _ => hb.block k hk⟩ (by
    rcases hv : v.ownBlock with _ | k
    · exact .inl rfl
    · exact .inr (by simp))
theorem builderAt_below {w w' : World} {T e : TypeId} {B b : Nat} {p : Value} {bs : List Value} (h : Lib.BuilderAtF T e B b p bs w) (hb : Below w.heap.size w w') : Lib.BuilderAtF T e B b p bs w' := by
  obtain ⟨hB, v, hv, ho, hne⟩ := h
  have hlt : b < w.heap.size := by
    rcases Nat.lt_or_ge b w.heap.size with h | h
    · exact h
    · rw [Array.getElem?_eq_none h] at hv; cases hv
  exact ⟨hB, v, (hb.block b hlt).trans hv, ownF_below ho hb, hne⟩
theorem Bld.below {w w' : World} {B b : Nat} {acc : List UInt8} (h : Bld w B b acc) (hb : Below w.heap.size w w') : Bld w' B b acc := by
  rcases h with h | h
  · exact .inl (builderAt_below h hb)
  · exact .inr (builderAt_below h hb)
theorem Bld.lt {w : World} {B b : Nat} {acc : List UInt8} (h : Bld w B b acc) : b < w.heap.size := by
  rcases h with ⟨_, v, hv, _⟩ | ⟨_, v, hv, _⟩ <;> exact (Array.getElem?_eq_some_iff.1 hv).1
theorem builder_new (w : World) : Bld (w.alloc (.cells #[.pointer none, .slice none 0 0] 74)) w.heap.size w.heap.size [] :=
  Lib.IsBuilderF.of (.inl ⟨Nat.le_refl _, _, heap_alloc_new w _, ⟨rfl, .inl ⟨rfl, rfl⟩⟩, by simp [Value.ownBlock]⟩)
theorem cells_cat (a b : List UInt8) : Lib.byteCells a ++ Lib.strCells ⟨b.toArray⟩ = Lib.byteCells (a ++ b) := by
  show Lib.byteCells a ++ Lib.byteCells b = _; simp [Lib.byteCells]
theorem write_any (B b : Nat) (acc s : List UInt8) (W : World) (h : Hid (Bld W B b acc)) (hlen : acc.length + s.length ≤ 140737488355328) (hB : B ≤ W.heap.size) :
    Calls Tryd.prog 23 #[.pointer (some ⟨b, 0, none⟩), .string ⟨s.toArray⟩] W fun e w' => (∃ n, e = .returned (.tuple #[.int .i64 n, .nilIface])) ∧ Below B W w' ∧ Bld w' B b (acc ++ s) := by
  refine (Tryd.Builder_WriteString_k B b (Lib.byteCells acc) ⟨s.toArray⟩ W h.out (by simp [Lib.byteCells, ByteArray.size]; omega) hB).mono ?_
  rintro e w' ⟨rfl, hb, hB', _⟩
  rw [cells_cat] at hb
  exact ⟨⟨_, rfl⟩, hB', .inr hb⟩
theorem string_any (B b : Nat) (acc : List UInt8) (W : World) (h : Hid (Bld W B b acc)) (hB : B ≤ W.heap.size) :
    Calls Tryd.prog 24 #[.pointer (some ⟨b, 0, none⟩)] W fun e w' => e = .returned (.string ⟨acc.toArray⟩) ∧ Below B W w' :=
  (Tryd.Builder_String_any_k B b acc W h.out hB).mono fun _ _ ⟨he, _, hb, _⟩ => ⟨he, hb⟩
end Go.Proofs.YtheiogafjinihaaDoor

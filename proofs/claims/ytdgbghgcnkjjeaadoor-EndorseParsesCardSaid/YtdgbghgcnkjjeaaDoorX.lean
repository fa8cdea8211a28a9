/- The walk of Text. -/
import Derived.Test.YtdgbghgcnkjjeaaDoorW
namespace Go.Proofs.YtdgbghgcnkjjeaaDoor
open Go.RowKit Go.BigFrame

theorem own_below {w w' : World} {B : Nat} {e : TypeId} {size n : Nat} {v : Value} {xs : List Value} (h : w.ownsRow B e size v n xs) (hb : Below w.heap.size w w') : w'.ownsRow B e size v n xs := by
  obtain ⟨h1, h0 | ⟨g, cap, cur, hv, hg, hh, r⟩⟩ := h
  · exact ⟨h1, .inl h0⟩
  · have hlt : g < w.heap.size := by
      rcases Nat.lt_or_ge g w.heap.size with h | h
      · exact h
      · rw [Array.getElem?_eq_none h] at hh; cases hh
    exact ⟨h1, .inr ⟨g, cap, cur, hv, hg, (hb.block g hlt).trans hh, r⟩⟩
theorem builderAt_below {w w' : World} {T e : TypeId} {B b : Nat} {p : Value} {bs : List Value} (h : Lib.BuilderAt T e B b p bs w) (hb : Below w.heap.size w w') : Lib.BuilderAt T e B b p bs w' := by
  obtain ⟨hB, v, hv, ho, hne⟩ := h
  have hlt : b < w.heap.size := by
    rcases Nat.lt_or_ge b w.heap.size with h | h
    · exact h
    · rw [Array.getElem?_eq_none h] at hv; cases hv
  exact ⟨hB, v, (hb.block b hlt).trans hv, own_below ho hb, hne⟩
theorem builder_below {w w' : World} {T e : TypeId} {B b : Nat} {bs : List Value} (h : Lib.IsBuilder T e B b bs w) (hb : Below w.heap.size w w') : Lib.IsBuilder T e B b bs w' := by
  rcases h with h | h
  · exact .inl (builderAt_below h hb)
  · exact .inr (builderAt_below h hb)
theorem builder_new (w : World) : Lib.IsBuilder 40 5 w.heap.size w.heap.size (Lib.byteCells []) (w.alloc (.cells #[.pointer none, .slice none 0 0] 40)) :=
  .inl ⟨Nat.le_refl _, _, heap_alloc_new w _, ⟨rfl, .inl ⟨rfl, rfl⟩⟩, by simp [Value.ownBlock]⟩

theorem cells_cat (a b : List UInt8) : Lib.byteCells a ++ Lib.strCells ⟨b.toArray⟩ = Lib.byteCells (a ++ b) := by
  show Lib.byteCells a ++ Lib.byteCells b = _; simp [Lib.byteCells]

set_option maxRecDepth 100000 in
set_option maxHeartbeats 800000 in
theorem textE_any (A : Option Addr) (n c : Nat) (l : List End) (w : World) (hn : n ≤ 30) (hl : Hid (l.length = n)) (hA : Hid (EndsAt w A l)) (hS : Hid (Short l)) (he : Env w) :
    Calls Tryd.prog 7 #[.slice A n c] w fun e w' => e = .returned (.string ⟨(textL l).toArray⟩) ∧ Below w.heap.size w w' := by
  have he' := Lib.hid he
  clear he
  go_enter Tryd.func7, Tryd.ntmps7
  go_wp2
  go_loopw [2, 5, 8] (fun _ _ i wr => ∃ (k : Nat) (acc : List UInt8), k ≤ n ∧ i = .int .i64 k ∧ Hid ((l.take k).all End.okB = true ∧ acc = (l.take k).flatMap lineL) ∧ Hid (Lib.IsBuilder 40 5 w.heap.size w.heap.size (Lib.byteCells acc) wr) ∧ Below w.heap.size w wr) (fun _ _ i _ => n - (intOf i).toNat)
  case atStart => exact ⟨0, [], Nat.zero_le _, rfl, by simp [Hid], builder_new w, (Below.refl _ _).alloc (Nat.le_refl _) _⟩
  case round =>
    obtain ⟨k, acc, hk, rfl, hacc, hbld, hB⟩ := hrel
    have hal : Hid (acc.length ≤ 31500000) := by
      have := text_len (l.take k) hacc.out.1 (fun x hx => hS.out x (List.mem_of_mem_take hx))
      rw [← hacc.out.2, List.length_take] at this
      have h2 : min k l.length ≤ 30 := by omega
      unfold Hid; omega
    by_cases hlt : k < n
    · obtain ⟨x, hx⟩ : ∃ x, l[k]? = some x := ⟨_, List.getElem?_eq_getElem (by have := hl.out; omega)⟩
      have hx' : Hid (l[k]? = some x) := hx
      have hsx : Hid (x.frm.size ≤ 100 ∧ x.to.size ≤ 100) := hS.out x (List.mem_of_getElem? hx)
      clear hx
      obtain ⟨b, off, rfl, h0, h1, h2, h3, h4, h5⟩ := (hA.out.below hB) k x hx'.out
      go_wp2_with fail
      refine (may_any _ _ _ _ _ h4 h5).mono ?_
      rintro e w1 ⟨rfl, hb1⟩
      have hb01 : Below wr.heap.size wr w1 := ((Below.refl _ wr).alloc (Nat.le_refl _) _).trans (hb1.mono (by simp))
      have hB1 := hB.trans (hb01.mono hB.size)
      have hbld1 : Hid (Lib.IsBuilder 40 5 w.heap.size w.heap.size (Lib.byteCells acc) w1) := builder_below hbld.out hb01
      have he1 : Hid (Env w1) := he'.out.below hB1
      have hc := bcell hb1
      simp only [World.size_alloc] at hc
      have hz : wr.heap.size < w1.heap.size := by have := hb1.size; simp at this; omega
      by_cases hok : x.okB = true
      · have hll : Hid ((lineL x).length ≤ 1050000) := line_len hok hsx.out
        go_wp2_with fail
        refine (lineE_any x _ hok hsx.out he1.out).mono ?_
        rintro e w2 ⟨rfl, hb2⟩
        have hB2 := hB1.trans (hb2.mono hB1.size)
        have hbld2 : Hid (Lib.IsBuilder 40 5 w.heap.size w.heap.size (Lib.byteCells acc) w2) := builder_below hbld1.out hb2
        go_wp2_with fail
        refine (Tryd.Builder_WriteString w.heap.size w.heap.size (Lib.byteCells acc) ⟨(lineL x).toArray⟩ _ hbld2.out (by have := hal.out; have := hll.out; simp [Lib.byteCells, ByteArray.size]; omega) hB2.size).mono ?_
        rintro e w3 ⟨rfl, hbld3, hb3⟩
        rw [cells_cat] at hbld3
        have hbld3' := Lib.hid hbld3
        clear hbld3
        have hB3 := hB2.trans hb3
        go_wp2_with fail
        go_roundw
        case rel =>
          refine ⟨k + 1, acc ++ lineL x, by omega, by go_num, ?_, .inr hbld3'.out, hB3⟩
          obtain ⟨q1, q2⟩ := all_take hx'.out
          unfold Hid; rw [q1, q2, ← hacc.out.2, hacc.out.1, hok]; exact ⟨rfl, rfl⟩
        case measure => simp [intOf]; omega
      · have hok' : x.okB = false := by simpa using hok
        go_wp2_with fail
        go_ret
        exact ⟨by rw [text_no hx'.out hok']; rfl, hB1⟩
    · go_wp2_with fail
      refine (Tryd.Builder_String_any w.heap.size w.heap.size acc _ hbld.out hB.size).mono ?_
      rintro e w1 ⟨rfl, hb1⟩
      go_wp2_with fail
      go_ret
      refine ⟨retS ?_, hB.trans hb1⟩
      have ht := hacc.out
      rw [List.take_of_length_le (by have := hl.out; omega)] at ht
      rw [textL, if_pos ht.1, ht.2]

end Go.Proofs.YtdgbghgcnkjjeaaDoor

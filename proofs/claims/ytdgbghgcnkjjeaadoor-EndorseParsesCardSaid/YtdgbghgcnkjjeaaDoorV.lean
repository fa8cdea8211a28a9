/- The walk of the document's Text. -/
import Derived.Test.YtdgbghgcnkjjeaaDoorU
namespace Go.Proofs.YtdgbghgcnkjjeaaDoor
open Go.RowKit Go.BigFrame

def textL (l : List End) : List UInt8 := if l.all End.okB then l.flatMap lineL else []
def Short (l : List End) : Prop := ∀ x ∈ l, x.frm.size ≤ 100 ∧ x.to.size ≤ 100

theorem okB_day {x : End} (h : x.okB = true) : 0 ≤ x.day ∧ x.day ≤ 1048576 := by
  unfold End.okB at h
  simp only [Bool.and_eq_true, decide_eq_true_eq] at h
  exact ⟨h.1.1.2, h.1.2⟩
theorem line_len {x : End} (h : x.okB = true) (hs : x.frm.size ≤ 100 ∧ x.to.size ≤ 100) : (lineL x).length ≤ 1050000 := by
  have hd := okB_day h
  have hl := dec_len x.day.toNat
  have h1 : x.frm.data.toList.length = x.frm.size := by simp
  have h2 : x.to.data.toList.length = x.to.size := by simp
  unfold lineL
  by_cases hk : x.kind = 1
  · rw [if_pos hk]; simp only [List.length_append, List.length_cons, List.length_nil, h1]; omega
  · rw [if_neg hk]
    by_cases hk2 : x.kind = 2
    · rw [if_pos hk2]; simp only [List.length_append, List.length_cons, List.length_nil, h1, h2]; omega
    · rw [if_neg hk2]; simp only [List.length_append, List.length_cons, List.length_nil, h1, h2]; omega
theorem text_len : ∀ (l : List End), l.all End.okB = true → Short l → (l.flatMap lineL).length ≤ l.length * 1050000
  | [], _, _ => by simp
  | x :: l, h, hs => by
    simp only [List.all_cons, Bool.and_eq_true] at h
    have h1 := line_len h.1 (hs x (by simp))
    have h2 := text_len l h.2 (fun y hy => hs y (by simp [hy]))
    simp only [List.flatMap_cons, List.length_append, List.length_cons]; omega

theorem lineR_any (x : End) (w : World) (hok : x.okB = true) (hs : x.frm.size ≤ 100 ∧ x.to.size ≤ 100) :
    Calls Tryd.prog 18 #[.agg #[.string x.frm, .string x.to, .int .i64 x.kind, .int .i64 x.day]] w fun e w' => e = .returned (.string ⟨(lineL x).toArray⟩) ∧ Below w.heap.size w w' := by
  obtain ⟨f, t, k, d⟩ := x
  have hd := okB_day hok
  obtain ⟨n, rfl⟩ := Int.eq_ofNat_of_zero_le hd.1
  simp only at hs hd ⊢
  by_cases hk : k = 1
  · subst hk; exact lineR_blank f t n w hs.1 (by omega)
  · exact lineR_other f t k n w (by simpa using hk) hs.1 hs.2 (by omega)

theorem all_take {l : List End} {k : Nat} {x : End} (hx : l[k]? = some x) : (l.take (k + 1)).all End.okB = ((l.take k).all End.okB && x.okB) ∧ (l.take (k + 1)).flatMap lineL = (l.take k).flatMap lineL ++ lineL x := by
  obtain ⟨hk, he⟩ := List.getElem?_eq_some_iff.1 hx
  rw [List.take_succ_eq_append_getElem hk, he]; simp
theorem text_no {l : List End} {k : Nat} {x : End} (hx : l[k]? = some x) (h : x.okB = false) : textL l = [] := by
  obtain ⟨hk, he⟩ := List.getElem?_eq_some_iff.1 hx
  rw [textL, if_neg]
  intro ha
  rw [List.all_eq_true] at ha
  have := ha x (by rw [← he]; simp)
  rw [h] at this; cases this

set_option maxRecDepth 100000 in
set_option maxHeartbeats 800000 in
theorem textR_any (A : Option Addr) (n c : Nat) (l : List End) (w : World) (hn : n ≤ 30) (hl : Hid (l.length = n)) (hA : Hid (EndsAt w A l)) (hS : Hid (Short l)) :
    Calls Tryd.prog 8 #[.slice A n c] w fun e w' => e = .returned (.string ⟨(textL l).toArray⟩) ∧ Below w.heap.size w w' := by
  go_enter Tryd.func8, Tryd.ntmps8
  go_wp2
  go_loopw [2, 3, 4] (fun _ s i wr => ∃ (k : Nat) (acc : List UInt8), k ≤ n ∧ i = .int .i64 k ∧ s = .string ⟨acc.toArray⟩ ∧ Hid ((l.take k).all End.okB = true ∧ acc = (l.take k).flatMap lineL) ∧ Below w.heap.size w wr) (fun _ _ i _ => n - (intOf i).toNat)
  case atStart => exact ⟨0, [], Nat.zero_le _, rfl, rfl, by simp [Hid], Below.refl _ _⟩
  case round =>
    obtain ⟨k, acc, hk, rfl, rfl, hacc, hB⟩ := hrel
    have hal : acc.length ≤ 31500000 := by
      have := text_len (l.take k) hacc.out.1 (fun x hx => hS.out x (List.mem_of_mem_take hx))
      rw [← hacc.out.2, List.length_take] at this
      have h2 : min k l.length ≤ 30 := by omega
      omega
    by_cases hlt : k < n
    · obtain ⟨x, hx⟩ : ∃ x, l[k]? = some x := ⟨_, List.getElem?_eq_getElem (by have := hl.out; omega)⟩
      have hx' : Hid (l[k]? = some x) := hx
      have hsx : Hid (x.frm.size ≤ 100 ∧ x.to.size ≤ 100) := hS.out x (List.mem_of_getElem? hx)
      clear hx
      obtain ⟨b, off, rfl, h0, h1, h2, h3, h4, h5⟩ := (hA.out.below hB) k x hx'.out
      have hblt := World.block_lt_of_cell? wr _ h3
      go_wp2_with fail
      refine (right_any _ _ _ _ _ h4 h5).mono ?_
      rintro e w1 ⟨rfl, hb1⟩
      have hB1 := hB.trans (hb1.mono hB.size)
      have g0 : w1.cell? ⟨b, off + k * 4, none⟩ = some (.string x.frm) := by rw [hb1.cell hblt]; exact h0
      have g1 : w1.cell? ⟨b, off + k * 4 + 1, none⟩ = some (.string x.to) := by rw [hb1.cell hblt]; exact h1
      have g2 : w1.cell? ⟨b, off + k * 4 + 2, none⟩ = some (.int .i64 x.kind) := by rw [hb1.cell hblt]; exact h2
      have g3 : w1.cell? ⟨b, off + k * 4 + 3, none⟩ = some (.int .i64 x.day) := by rw [hb1.cell hblt]; exact h3
      have hpx : (⟨x.frm, x.to, x.kind, x.day⟩ : End) = x := rfl
      by_cases hok : x.okB = true
      · have hll : (lineL x).length ≤ 1050000 := line_len hok hsx.out
        go_wp2_with (go_at_call 18; refine (lineR_any x _ hok hsx.out).mono ?_; rintro e w2 ⟨rfl, hb2⟩)
        go_roundw
        case rel =>
          refine ⟨k + 1, acc ++ lineL x, by omega, by go_num, congrArg Value.string (cat_mk _ _), ?_, hB1.trans (hb2.mono hB1.size)⟩
          obtain ⟨q1, q2⟩ := all_take hx'.out
          unfold Hid; rw [q1, q2, ← hacc.out.2, hacc.out.1, hok]; exact ⟨rfl, rfl⟩
        case measure => simp [intOf]; omega
      · have hok' : x.okB = false := by simpa using hok
        go_wp2_with fail
        go_ret
        exact ⟨by rw [text_no hx'.out hok']; rfl, hB1⟩
    · go_wp2
      go_ret
      refine ⟨retS ?_, hB⟩
      have ht := hacc.out
      rw [List.take_of_length_le (by have := hl.out; omega)] at ht
      rw [textL, if_pos ht.1, ht.2]

end Go.Proofs.YtdgbghgcnkjjeaaDoor

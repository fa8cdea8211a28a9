/- The plain laws of May: who may give it on, and what one more endorsement does. -/
import Derived.Test.YtdgbghgcnkjjeaaCutsWalk
namespace Go.Proofs.Ytdgbghgcnkjjeaa
open Go.RowKit

theorem wrongE_ok {h : ByteArray} {ahead : List End} {x : End} (hw : wrongE h ahead x = 0) : x.okB = true := by
  unfold wrongE at hw
  cases hx : x.okB with
  | false => rw [hx] at hw; simp at hw
  | true => rfl

theorem chk_all_ok : ∀ (r : List End) (h : ByteArray) (ahead : List End), (chk h ahead r).2.2 = 0 → ∀ x ∈ r, x.okB = true
  | [], _, _, _ => by simp
  | y :: r, h, ahead, h0 => by
    rw [chk] at h0
    by_cases hw : wrongE h ahead y = 0
    · rw [if_pos hw] at h0
      intro x hx
      rcases List.mem_cons.1 hx with rfl | hx
      · exact wrongE_ok hw
      · exact chk_all_ok r y.to (ahead ++ [y]) h0 x hx
    · rw [if_neg hw] at h0; exact absurd h0 hw

theorem holder_last (h : ByteArray) (x : End) (r : List End) : holderOf h (x :: r).getLast? = holderOf x.to r.getLast? := by
  rw [List.getLast?_cons]; cases r.getLast? <;> rfl

theorem chk_snoc : ∀ (r : List End) (h : ByteArray) (ahead : List End) (x : End), chk h ahead (r ++ [x]) =
    if (chk h ahead r).2.2 = 0 then (if wrongE (holderOf h r.getLast?) (ahead ++ r) x = 0 then (x.to, ((ahead.length + r.length + 1 : Nat) : Int), 0) else (⟨#[]⟩, ((ahead.length + r.length : Nat) : Int), wrongE (holderOf h r.getLast?) (ahead ++ r) x))
    else chk h ahead r
  | [], h, ahead, x => by
    simp [chk, holderOf]
  | y :: r, h, ahead, x => by
    rw [List.cons_append, chk, chk]
    by_cases hw : wrongE h ahead y = 0
    · rw [if_pos hw, if_pos hw, chk_snoc r y.to (ahead ++ [y]) x, holder_last]
      simp only [List.append_assoc, List.singleton_append, List.length_append, List.length_cons, List.length_nil]
      rw [show ahead.length + (0 + 1) + r.length + 1 = ahead.length + (r.length + 1) + 1 from by omega, show ahead.length + (0 + 1) + r.length = ahead.length + (r.length + 1) from by omega]
    · rw [if_neg hw, if_neg hw, if_neg hw]

theorem chk_bad : ∀ (r : List End) (h : ByteArray) (ahead : List End), (chk h ahead r).2.2 ≠ 0 → (chk h ahead r).1 = ⟨#[]⟩ ∧ (chk h ahead r).2.1 ≤ ((ahead.length + r.length : Nat) : Int)
  | [], h, ahead, h0 => by simp [chk] at h0
  | y :: r, h, ahead, h0 => by
    rw [chk] at *
    by_cases hw : wrongE h ahead y = 0
    · rw [if_pos hw] at *
      have := chk_bad r y.to (ahead ++ [y]) h0
      simp at this ⊢; exact ⟨this.1, by omega⟩
    · rw [if_neg hw] at *
      simp; omega

theorem okB_to {x : End} (h : x.okB = true) : (x.kind = 1 → x.to.toList.isEmpty = true) ∧ (x.kind ≠ 1 → nameB x.to.data.toList = true) ∧ x.day ≤ 1048576 := by
  unfold End.okB at h
  simp only [Bool.and_eq_true, decide_eq_true_eq] at h
  refine ⟨fun hk => ?_, fun hk => ?_, h.1.2⟩
  · have := h.2; rw [if_pos hk] at this; exact this
  · have := h.2; rw [if_neg hk] at this; simp at this; exact this.1.2
theorem name_some {s : ByteArray} (h : nameB s.data.toList = true) : s.toList.isEmpty = false := by
  rw [ByteArray.toList_eq]
  cases hs : s.data.toList with
  | nil => rw [hs] at h; simp [nameB] at h
  | cons a l => rfl

theorem check_ok {first : ByteArray} {l : List End} (h : (checkE first l).2.2 = 0) : nameB first.data.toList = true ∧ (chk first [] l).2.2 = 0 ∧ checkE first l = chk first [] l ∧ (checkE first l).1 = holderOf first l.getLast? ∧ ∀ x ∈ l, x.okB = true := by
  by_cases hn : nameB first.data.toList = true
  · have e : checkE first l = chk first [] l := by rw [checkE, if_pos hn]
    rw [e] at h ⊢
    have := chk_take_ok l first [] l.length h (Nat.le_refl _)
    rw [List.take_length] at this
    exact ⟨hn, h, rfl, by rw [this], chk_all_ok l first [] h⟩
  · rw [checkE, if_neg hn] at h; simp at h

theorem beq_sym (a b : List UInt8) : (a == b) = (b == a) := by
  rw [Bool.eq_iff_iff, beq_iff_eq, beq_iff_eq]; exact eq_comm
theorem may_eq (first who : ByteArray) (l : List End) : mayR first who l = mayE first who l := by
  unfold mayE mayR
  rw [← check_eq]
  by_cases h0 : (checkE first l).2.2 = 0
  · obtain ⟨hn, _, _, hh, hall⟩ := check_ok h0
    simp only [ne_eq, h0, not_true_eq_false, if_false]
    split
    · rfl
    · split
      · rfl
      · rename_i hk2
        rw [hh]
        unfold lastKind at hk2 ⊢
        rcases hl : l.getLast? with _ | y
        · simp [holderOf, name_some hn]; exact beq_sym _ _
        · have hy : y.okB = true := hall y (List.mem_of_getLast? hl)
          rw [hl] at hk2
          by_cases hk : y.kind = 1
          · simp [holderOf, hk, (okB_to hy).1 hk]
          · have := name_some ((okB_to hy).2.1 hk)
            have hk' : (y.kind == 1) = false := by simp [hk]
            simp [holderOf, hk', this]; exact beq_sym _ _
  · simp [h0]

def giveOn (who tgt : ByteArray) : End := ⟨who, tgt, 0, 1048576⟩
theorem giveOn_ok {who tgt : ByteArray} (hw : nameB who.data.toList = true) (ht : nameB tgt.data.toList = true) (hne : (tgt.toList == who.toList) = false) : (giveOn who tgt).okB = true := by
  simp only [giveOn, End.okB, hw, ht, hne]; rfl

theorem may_yes {first who tgt : ByteArray} {l : List End} (hw : nameB who.data.toList = true) (ht : nameB tgt.data.toList = true) (hne : (tgt.toList == who.toList) = false) (hm : mayE first who l = true) :
    checkE first (l ++ [giveOn who tgt]) = (tgt, ((l.length + 1 : Nat) : Int), 0) := by
  unfold mayE at hm
  by_cases h0 : (checkE first l).2.2 = 0
  · obtain ⟨hn, hc, _, hh, hall⟩ := check_ok h0
    simp only [ne_eq, h0, not_true_eq_false, if_false, hw, Bool.true_eq_false] at hm
    rw [checkE, if_pos hn, chk_snoc, if_pos hc]
    have hwr : wrongE (holderOf first l.getLast?) ([] ++ l) (giveOn who tgt) = 0 := by
      rw [List.nil_append, wrongE, if_neg (by rw [giveOn_ok hw ht hne]; simp)]
      by_cases hk2 : (lastKind l == some 2) = true
      · simp [hk2] at hm
      · rw [if_neg hk2] at hm ⊢
        rw [hh] at hm
        rw [if_neg]
        · rcases hl : l.getLast? with _ | y
          · rfl
          · have hy : y.okB = true := hall y (List.mem_of_getLast? hl)
            have := (okB_to hy).2.2
            show (if (1048576 : Int) < y.day then (6 : Int) else 0) = 0
            rw [if_neg (by omega)]
        · rintro ⟨h1, h2⟩
          rw [h1] at hm
          simp only [giveOn] at h2
          simp [h2] at hm
    rw [if_pos hwr]; simp [giveOn]
  · simp [h0] at hm

theorem may_no {first who tgt : ByteArray} {l : List End} (hw : nameB who.data.toList = true) (hm : mayE first who l = false) :
    (checkE first (l ++ [giveOn who tgt])).2.2 ≠ 0 ∧ (checkE first (l ++ [giveOn who tgt])).1 = ⟨#[]⟩ ∧ (checkE first (l ++ [giveOn who tgt])).2.1 ≤ (l.length : Int) := by
  by_cases hn : nameB first.data.toList = true
  · by_cases h0 : (checkE first l).2.2 = 0
    · obtain ⟨_, hc, _, hh, hall⟩ := check_ok h0
      have hwr : wrongE (holderOf first l.getLast?) ([] ++ l) (giveOn who tgt) ≠ 0 := by
        unfold mayE at hm
        simp only [ne_eq, h0, not_true_eq_false, if_false, hw, Bool.true_eq_false] at hm
        rw [List.nil_append, wrongE]
        by_cases hok : (giveOn who tgt).okB = false
        · rw [if_pos hok]; simp
        · rw [if_neg hok]
          by_cases hk2 : (lastKind l == some 2) = true
          · rw [if_pos hk2]; simp
          · rw [if_neg hk2] at hm ⊢
            rw [hh] at hm
            simp only [Bool.or_eq_false_iff] at hm
            rw [if_pos ⟨hm.1, by simpa [giveOn] using hm.2⟩]; simp
      rw [checkE, if_pos hn, chk_snoc, if_pos hc, if_neg hwr]
      exact ⟨hwr, rfl, by simp⟩
    · have hc : (chk first [] l).2.2 ≠ 0 := by rw [checkE, if_pos hn] at h0; exact h0
      rw [checkE, if_pos hn, chk_snoc, if_neg hc]
      have := chk_bad l first [] hc
      exact ⟨hc, this.1, by simpa using this.2⟩
  · rw [checkE, if_neg hn]; simp

end Go.Proofs.Ytdgbghgcnkjjeaa

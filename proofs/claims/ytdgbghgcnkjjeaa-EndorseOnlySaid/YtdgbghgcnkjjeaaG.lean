/- The plain law: both Checks are one. -/
import Derived.Test.YtdgbghgcnkjjeaaF
namespace Go.Proofs.Ytdgbghgcnkjjeaa
open Go.RowKit

theorem okB_kind {x : End} (h : x.okB = true) : x.kind = 0 ∨ x.kind = 1 ∨ x.kind = 2 := by
  unfold End.okB at h
  by_cases h1 : x.kind = 1
  · exact .inr (.inl h1)
  · simp only [Bool.and_eq_true, if_neg h1, Bool.or_eq_true, decide_eq_true_eq] at h
    rcases h.2.1.1 with h | h
    · exact .inl h
    · exact .inr (.inr h)

def holderOf (first : ByteArray) : Option End → ByteArray
  | none => first
  | some y => y.to

theorem wrongE_eq (first : ByteArray) (ahead : List End) (x : End) (hok : ∀ y, ahead.getLast? = some y → y.okB = true) :
    wrongE (holderOf first ahead.getLast?) ahead x = wrongR first ahead.getLast? x := by
  unfold wrongE wrongR lastKind
  cases hx : x.okB with
  | false => simp
  | true =>
    rcases hl : ahead.getLast? with _ | y
    · simp [holderOf]
    · rcases okB_kind (hok y hl) with hk | hk | hk <;> simp [holderOf, hk]

theorem wrongR_ok {first : ByteArray} {p : Option End} {x : End} (h : wrongR first p x = 0) : x.okB = true := by
  unfold wrongR at h
  cases hx : x.okB with
  | false => rw [hx] at h; simp at h
  | true => rfl

theorem chk_eq (first : ByteArray) : ∀ (r ahead : List End), (∀ y, ahead.getLast? = some y → y.okB = true) →
    chk (holderOf first ahead.getLast?) ahead r = chkR first ahead.getLast? ahead.length r
  | [], ahead, _ => by
    unfold chk chkR holderOf
    rcases ahead.getLast? with _ | y <;> rfl
  | x :: r, ahead, hok => by
    unfold chk chkR
    rw [wrongE_eq first ahead x hok]
    by_cases h : wrongR first ahead.getLast? x = 0
    · rw [if_pos h, if_pos h]
      have hlast : (ahead ++ [x]).getLast? = some x := by simp
      have := chk_eq first r (ahead ++ [x]) (fun y hy => by rw [hlast] at hy; cases hy; exact wrongR_ok h)
      rw [hlast] at this
      simpa [holderOf] using this
    · rw [if_neg h, if_neg h]

theorem check_eq (first : ByteArray) (l : List End) : checkE first l = checkR first l := by
  unfold checkE checkR
  have := chk_eq first l [] (by simp)
  simp only [List.getLast?_nil, holderOf, List.length_nil] at this
  rw [this]

end Go.Proofs.Ytdgbghgcnkjjeaa

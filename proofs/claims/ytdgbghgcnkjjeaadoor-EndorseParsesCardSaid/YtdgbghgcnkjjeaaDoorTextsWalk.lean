/- The walk of the law EndorseTexts. -/
import Derived.Test.YtdgbghgcnkjjeaaDoorPn
namespace Go.Proofs.YtdgbghgcnkjjeaaDoor
open Go.RowKit Go.BigFrame

theorem big_few {l : List End} {m : Int} (h : bigB l m = false) : (l.length : Int) ≤ m ∧ Short l := by
  simp [bigB] at h
  exact ⟨by omega, fun x hx => ⟨by have := (h.2 x hx).1; omega, by have := (h.2 x hx).2; omega⟩⟩

theorem dec_lenK : ∀ (k n : Nat), n < 10 ^ (k + 1) → (Lib.decDigits n).length ≤ k + 1
  | 0, n, h => by rw [dec_small n (by simpa using h)]; simp
  | k + 1, n, h => by
    by_cases h1 : n < 10
    · rw [dec_small n h1]; simp
    · rw [dec_more n h1, List.length_append]
      have := dec_lenK k (n / 10) (by rw [Nat.pow_succ] at h; omega)
      simp; omega
theorem line_short {x : End} (h : x.okB = true) : (lineL x).length ≤ 60 := by
  have hs := okB_sizes h
  have hd := okB_day h
  have hl := dec_lenK 6 x.day.toNat (by simp; omega)
  have h1 : x.frm.data.toList.length = x.frm.size := by simp
  have h2 : x.to.data.toList.length = x.to.size := by simp
  unfold lineL
  by_cases hk : x.kind = 1
  · rw [if_pos hk]; simp only [List.length_append, List.length_cons, List.length_nil, h1]; omega
  · rw [if_neg hk]
    by_cases hk2 : x.kind = 2
    · rw [if_pos hk2]; simp only [List.length_append, List.length_cons, List.length_nil, h1, h2]; omega
    · rw [if_neg hk2]; simp only [List.length_append, List.length_cons, List.length_nil, h1, h2]; omega
theorem text_short : ∀ (l : List End), l.all End.okB = true → (l.flatMap lineL).length ≤ l.length * 60
  | [], _ => by simp
  | x :: l, h => by
    simp only [List.all_cons, Bool.and_eq_true] at h
    have h1 := line_short h.1
    have h2 := text_short l h.2
    simp only [List.flatMap_cons, List.length_append, List.length_cons]; omega

set_option maxRecDepth 100000 in
set_option maxHeartbeats 1600000 in
theorem texts_law (A : Option Addr) (n c : Nat) (l : List End) (w : World) (hn : n ≤ maxLen) (hl : Hid (l.length = n)) (hA : Hid (EndsAt w A l)) (he : Env w) :
    Calls Tryd.prog 3 #[.slice A n c] w fun e w' => e = .returned (.bool true) ∧ Below w.heap.size w w' := by
  have he' := Lib.hid he
  clear he
  go_enter Tryd.func3, Tryd.ntmps3
  go_wp2_with fail
  refine (awake_any _).mono ?_
  rintro e w1 ⟨rfl, hb1⟩
  have hA1 : Hid (EndsAt w1 A l) := hA.out.below hb1
  go_wp2_with fail
  refine (big_any _ _ _ _ l _ hn hl hA1).mono ?_
  rintro e w' ⟨rfl, rfl⟩
  by_cases hbig : bigB l 30 = true
  · go_wp2_with fail
    go_ret
    exact ⟨rfl, hb1⟩
  have hbig' : bigB l 30 = false := by simpa using hbig
  have hn30 : n ≤ 30 := by have := (big_few hbig').1; rw [hl.out] at this; omega
  have hS : Hid (Short l) := (big_few hbig').2
  clear hbig
  go_wp2_with fail
  refine (textE_any _ _ _ l _ hn30 hl hA1 hS (he'.out.below hb1)).mono ?_
  rintro e w2 ⟨rfl, hb2⟩
  have hB2 : Below w.heap.size w w2 := hb1.trans (hb2.mono hb1.size)
  have hA2 : Hid (EndsAt w2 A l) := hA1.out.below hb2
  go_wp2_with fail
  refine (textR_any _ _ _ l _ hn30 hl hA2 hS).mono ?_
  rintro e w3 ⟨rfl, hb3⟩
  have hB3 : Below w.heap.size w w3 := hB2.trans (hb3.mono hB2.size)
  have hA3 : Hid (EndsAt w3 A l) := hA2.out.below hb3
  obtain ⟨t, ht⟩ : ∃ t, Hid (t = textL l) := ⟨_, rfl⟩
  rw [← ht.out]
  go_wp2_with fail
  · go_ret
    exact ⟨rfl, hB3⟩
  have hok : Hid (l.all End.okB = true) := by
    unfold Hid
    cases ha : l.all End.okB with
    | true => rfl
    | false =>
      have hz := ht.out
      rw [textL, ha] at hz
      simp at hz
      simp_all
  have htt : Hid (t = l.flatMap lineL) := by unfold Hid; rw [ht.out, textL, if_pos hok.out]
  have htl : t.length ≤ 3000 := by
    have := text_short l hok.out
    rw [← htt.out, hl.out] at this
    omega
  refine (parse_any t _ htl (he'.out.below hB3)).mono ?_
  rintro e w4 ⟨A', c', rfl, hc', hE', hb4⟩
  have hpp : parseE t = (l, l.length, 0) := by rw [htt.out]; exact parse_back hok.out
  rw [hpp] at hc' hE' ⊢
  simp only at hc' hE' ⊢
  rw [hl.out] at hc' ⊢
  have hE4 : Hid (EndsAt w4 A' l) := hE'
  clear hE' hpp
  have hB4 : Below w.heap.size w w4 := hB3.trans (hb4.mono hB3.size)
  have hA4 : Hid (EndsAt w4 A l) := hA3.out.below hb4
  go_wp2_with fail
  refine (same_any _ _ _ _ _ _ l l _ hn hn hl hl hE4 hA4).mono ?_
  rintro e w5 ⟨rfl, hb5⟩
  rw [same_refl]
  go_wp2_with fail
  go_ret
  exact ⟨by simp, hB4.trans (hb5.mono hB4.size)⟩

end Go.Proofs.YtdgbghgcnkjjeaaDoor

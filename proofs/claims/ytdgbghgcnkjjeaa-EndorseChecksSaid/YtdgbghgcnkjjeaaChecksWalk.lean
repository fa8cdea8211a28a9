/- The walk of the law EndorseChecks. -/
import Derived.Test.YtdgbghgcnkjjeaaG
namespace Go.Proofs.Ytdgbghgcnkjjeaa
open Go.RowKit Go.BigFrame

set_option maxHeartbeats 800000 in
theorem checks_some (first : ByteArray) (A : Option Addr) (n c : Nat) (l : List End) (w : World) (hf : first.size ≤ maxLen) (hn : n + 1 ≤ maxLen) (hnc : n + 1 ≤ c) (hl : Hid (l.length = n + 1)) (hA : Hid (EndsAt w A l)) :
    Calls Try.prog 3 #[.string first, .slice A (n + 1) c] w fun e w' => e = .returned (.bool true) ∧ Below w.heap.size w w' := by
  have hn' := hn
  unfold maxLen at hn'
  obtain ⟨x, hx⟩ : ∃ x, l[n]? = some x := ⟨_, List.getElem?_eq_getElem (by have := hl.out; omega)⟩
  have hlast : Hid (lastKind l = some x.kind) := by unfold Hid lastKind; rw [List.getLast?_eq_getElem?, hl.out]; simp [hx]
  have hx' : Hid (l[n]? = some x) := hx
  clear hx
  go_enter Try.func3, Try.ntmps3
  go_wp2_with fail
  refine (awake_any _).mono ?_
  rintro e w1 ⟨rfl, hb1⟩
  have hA1 : Hid (EndsAt w1 A l) := hA.out.below hb1
  go_wp2_with fail
  refine (big_any _ _ _ _ l _ hn hl hA1).mono ?_
  rintro e w' ⟨rfl, rfl⟩
  by_cases hbig : bigB l 30 = true
  · go_wp2
    go_ret
    exact ⟨rfl, hb1⟩
  have hbig' : bigB l 30 = false := by simpa using hbig
  clear hbig
  go_wp2_with fail
  · go_ret
    exact ⟨rfl, hb1⟩
  refine (check_any _ _ _ _ l _ hf hn hnc hl hA1).mono ?_
  rintro e w2 ⟨rfl, hb2⟩
  have hB2 : Below w.heap.size w w2 := hb1.trans (hb2.mono hb1.size)
  have hA2 : Hid (EndsAt w2 A l) := hA1.out.below hb2
  unfold tri
  go_wp2_with fail
  refine (checkR_any _ _ _ _ l _ hf hn hl hA2).mono ?_
  rintro e w3 ⟨rfl, hb3⟩
  have hB3 : Below w.heap.size w w3 := hB2.trans (hb3.mono hB2.size)
  have hA3 : Hid (EndsAt w3 A l) := hA2.out.below hb3
  rw [← check_eq]
  unfold tri
  obtain ⟨b, off, rfl, -, -, h2, -, -, -⟩ := hA3.out n x hx'.out
  go_wp2_with fail
  refine (holder_any _ _ _ _ l _ hf hn hnc hl hA3).mono ?_
  rintro e w4 ⟨rfl, hb4⟩
  have hB4 : Below w.heap.size w w4 := hB3.trans (hb4.mono hB3.size)
  have hA4 : Hid (EndsAt w4 (some ⟨b, off, none⟩) l) := hA3.out.below hb4
  go_wp2_with fail
  refine (blank_any _ _ _ l _ hn hl hA4).mono ?_
  rintro e w' ⟨rfl, rfl⟩
  go_wp2
  go_ret
  exact ⟨retB (by rw [hlast.out]; simp), hB4⟩

set_option maxHeartbeats 800000 in
theorem checks_none (first : ByteArray) (A : Option Addr) (c : Nat) (w : World) (hf : first.size ≤ maxLen) (hA : Hid (EndsAt w A [])) :
    Calls Try.prog 3 #[.string first, .slice A 0 c] w fun e w' => e = .returned (.bool true) ∧ Below w.heap.size w w' := by
  have hn : 0 ≤ maxLen := Nat.zero_le _
  have hl : Hid (([] : List End).length = 0) := rfl
  go_enter Try.func3, Try.ntmps3
  go_wp2_with fail
  refine (awake_any _).mono ?_
  rintro e w1 ⟨rfl, hb1⟩
  have hA1 : Hid (EndsAt w1 A []) := hA.out.below hb1
  go_wp2_with fail
  refine (big_any _ _ _ _ [] _ hn hl hA1).mono ?_
  rintro e w' ⟨rfl, rfl⟩
  have hbig' : bigB [] 30 = false := rfl
  go_wp2_with fail
  · go_ret
    exact ⟨rfl, hb1⟩
  refine (check_any _ _ _ _ [] _ hf hn (Nat.zero_le _) hl hA1).mono ?_
  rintro e w2 ⟨rfl, hb2⟩
  have hB2 : Below w.heap.size w w2 := hb1.trans (hb2.mono hb1.size)
  have hA2 : Hid (EndsAt w2 A []) := hA1.out.below hb2
  unfold tri
  go_wp2_with fail
  refine (checkR_any _ _ _ _ [] _ hf hn hl hA2).mono ?_
  rintro e w3 ⟨rfl, hb3⟩
  have hB3 : Below w.heap.size w w3 := hB2.trans (hb3.mono hB2.size)
  have hA3 : Hid (EndsAt w3 A []) := hA2.out.below hb3
  rw [← check_eq]
  unfold tri
  go_wp2_with fail
  refine (holder_any _ _ _ _ [] _ hf hn (Nat.zero_le _) hl hA3).mono ?_
  rintro e w4 ⟨rfl, hb4⟩
  have hB4 : Below w.heap.size w w4 := hB3.trans (hb4.mono hB3.size)
  have hA4 : Hid (EndsAt w4 A []) := hA3.out.below hb4
  go_wp2_with fail
  refine (blank_any _ _ _ [] _ hn hl hA4).mono ?_
  rintro e w' ⟨rfl, rfl⟩
  go_wp2
  go_ret
  exact ⟨rfl, hB4⟩

theorem checks_any (first : ByteArray) (A : Option Addr) (n c : Nat) (l : List End) (w : World) (hf : first.size ≤ maxLen) (hn : n ≤ maxLen) (hnc : n ≤ c) (hl : Hid (l.length = n)) (hA : Hid (EndsAt w A l)) :
    Calls Try.prog 3 #[.string first, .slice A n c] w fun e w' => e = .returned (.bool true) ∧ Below w.heap.size w w' := by
  rcases n with _ | n
  · have : l = [] := List.eq_nil_of_length_eq_zero hl
    subst this
    exact checks_none first A c w hf hA
  · exact checks_some first A n c l w hf hn hnc hl hA

end Go.Proofs.Ytdgbghgcnkjjeaa

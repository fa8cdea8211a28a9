/- What Print leaves is well told; the laws ScriptBack and ScriptJoins, plain. -/
import Derived.Test.YtheiogafjinihaaDoorPl
namespace Go.Proofs.YtheiogafjinihaaDoor
open Go

theorem fewS_len {l : List Stp} (h : fewS l = true) : l.length ≤ 61 := by
  unfold fewS at h
  simp only [Bool.and_eq_true, decide_eq_true_eq] at h
  exact h.1
theorem fewS_short {l : List Stp} (h : fewS l = true) : ∀ x ∈ l, shortS x = true := by
  unfold fewS at h
  simp only [Bool.and_eq_true] at h
  exact List.all_eq_true.1 h.2
theorem words_count (c : UInt8) : ∀ (n : Nat) (s : List UInt8), s.length ≤ n → (wordsL c s).length ≤ s.length + 1
  | n, s, hn => by
    rcases part_at c s with h1 | ⟨w, r, rfl, h2⟩
    · rw [wordsL_none h1]; simp
    · rw [wordsL_cons h2]
      cases n with
      | zero => simp at hn
      | succ n =>
        have := words_count c n r (by simp at hn; omega)
        simp; omega
theorem parseW_len : ∀ (ws : List (List UInt8)) (acc out : List Stp) (k e : Nat), parseW ws acc = (out, k, e) → out.length ≤ acc.length + ws.length
  | [], acc, out, k, e, h => by
    rw [parseW] at h
    simp at h
    rw [← h.1]; simp
  | [w], acc, out, k, e, h => by
    rw [parseW] at h
    split at h
    · simp at h; rw [← h.1]; omega
    · split at h <;> (simp at h; first | (rw [h.1]; simp) | (rw [← h.1]; simp))
  | w :: v :: ws, acc, out, k, e, h => by
    rw [parseW] at h
    split at h
    · simp at h; first | (rw [h.1]; simp) | (rw [← h.1]; simp)
    · cases hr : readM w with
      | none => rw [hr] at h; simp at h; first | (rw [h.1]; simp) | (rw [← h.1]; simp)
      | some x =>
        rw [hr] at h
        simp only at h
        have := parseW_len (v :: ws) (acc ++ [x]) out k e h
        simp at this ⊢; omega
theorem parseM_len {s : List UInt8} {out : List Stp} {k e : Nat} (h : parseM s = (out, k, e)) : out.length ≤ s.length + 1 := by
  have h1 := parseW_len _ _ _ _ _ h
  have h2 := words_count 10 s.length s (Nat.le_refl _)
  simp at h1
  omega
theorem lines_all : ∀ {l : List Stp} {t : List UInt8}, linesM l = some t → ∀ x ∈ l, ∃ s, lineM x = some s
  | y :: r, t, h, x, hx => by
    rw [linesM] at h
    cases e : lineM y with
    | none => rw [e] at h; cases h
    | some a =>
      rw [e, Option.bind_some] at h
      obtain ⟨b, hb, _⟩ := Option.map_eq_some_iff.1 h
      rcases List.mem_cons.1 hx with rfl | hx
      · exact ⟨a, e⟩
      · exact lines_all hb x hx
/-- A step that has a line is short, and a memory may hold it. -/
theorem line_fine {x : Stp} {s : List UInt8} (h : lineM x = some s) : shortS x = true ∧ Fine x := by
  have hr : rightB x = true := by rw [← lineM_right, h]; rfl
  have hnm : ∀ {u : List UInt8}, nameB u = true → u.length ≤ 16 := by
    intro u hu
    unfold nameB at hu
    simp only [Bool.and_eq_true, decide_eq_true_eq] at hu
    exact hu.1.2
  have ham : ∀ {v : Int}, amongB v = true → -1048576 ≤ v ∧ v ≤ 1048576 := by
    intro v hv
    unfold amongB at hv
    simpa only [Bool.and_eq_true, decide_eq_true_eq] using hv
  have key : x.party.length ≤ 16 ∧ x.deal.length ≤ 16 ∧ -1048576 ≤ x.n ∧ x.n ≤ 1048576 ∧ -1048576 ≤ x.an ∧ x.an ≤ 1048576 := by
    unfold rightB at hr
    split at hr
    · simp only [Bool.and_eq_true, decide_eq_true_eq] at hr
      obtain ⟨⟨⟨⟨h1, h2⟩, h3⟩, _⟩, h5⟩ := hr
      exact ⟨hnm h2, hnm h3, by omega, by omega, (ham h5).1, (ham h5).2⟩
    · split at hr
      · simp only [Bool.and_eq_true, decide_eq_true_eq] at hr
        obtain ⟨⟨⟨⟨h1, h2⟩, h3⟩, h4⟩, h5⟩ := hr
        rw [h1, h4]
        exact ⟨by simp, by simp, (ham h5).1, (ham h5).2, by omega, by omega⟩
      · split at hr
        · simp only [decide_eq_true_eq] at hr
          rw [hr]
          exact ⟨by simp [stp0], by simp [stp0], by simp [stp0], by simp [stp0], by simp [stp0], by simp [stp0]⟩
        · split at hr
          · simp only [Bool.and_eq_true, decide_eq_true_eq] at hr
            obtain ⟨⟨⟨⟨h1, h2⟩, h3⟩, h4⟩, h5⟩ := hr
            rw [h4]
            exact ⟨hnm h5, by simp, by omega, by omega, by omega, by omega⟩
          · split at hr
            · simp only [Bool.and_eq_true, decide_eq_true_eq] at hr
              obtain ⟨⟨⟨⟨h1, h2⟩, h3⟩, h4⟩, h5⟩ := hr
              rw [h3]
              exact ⟨hnm h4, by simp, (ham h5).1, (ham h5).2, by omega, by omega⟩
            · cases hr
  refine ⟨?_, ⟨by omega, by omega, by omega, by omega, by omega, by omega⟩⟩
  unfold shortS
  simp only [decide_eq_true_eq]
  omega
/-- The text of few steps is not long. -/
theorem lines_len : ∀ {l : List Stp} {t : List UInt8}, linesM l = some t → t.length ≤ l.length * 500
  | [], t, h => by simp only [linesM, Option.some.injEq] at h; subst h; simp
  | y :: r, t, h => by
    rw [linesM] at h
    cases e : lineM y with
    | none => rw [e] at h; cases h
    | some a =>
      rw [e, Option.bind_some] at h
      obtain ⟨b, hb, rfl⟩ := Option.map_eq_some_iff.1 h
      have h1 := lines_len hb
      have h2 : a.length ≤ 420 := by
        have hk : ¬ (y.kind < 0 ∨ 8 ≤ y.kind) := fun g => by rw [line_no_kind g] at e; cases e
        have hlt : y.kind.toNat < 8 := by omega
        rw [lineM_kind y y.kind.toNat hlt (by omega)] at e
        split at e
        · rename_i g
          simp only [Option.some.injEq] at e
          subst e
          have hs := (line_fine (x := y) (by rw [lineM_kind y y.kind.toNat hlt (by omega), if_pos g])).1
          have h3 := join_le 32 ((partsL.getD y.kind.toNat []).map fun p => (showP y p).1) (firstL.getD y.kind.toNat []) (by
            intro w hw
            obtain ⟨p, hp, rfl⟩ := List.mem_map.1 hw
            exact show_le hs (List.all_eq_true.1 g.1 p hp))
          have h4 := first_le ⟨y.kind.toNat, hlt⟩
          have h5 := parts_le ⟨y.kind.toNat, hlt⟩
          simp only at h4 h5
          rw [List.length_map] at h3
          omega
        · cases e
      simp
      omega
end Go.Proofs.YtheiogafjinihaaDoor

/- Plain laws: a line is read back. -/
import Derived.Test.YtdgbghgcnkjjeaaDoorPm
namespace Go.Proofs.YtdgbghgcnkjjeaaDoor
open Go.RowKit

theorem mk_inj {a : ByteArray} {l : List UInt8} (h : a.data.toList = l) : a = ⟨l.toArray⟩ := by subst h; cases a; simp
theorem words_parts (s : List UInt8) : words ⟨s.toArray⟩ = (parts 32 s).map fun l => ⟨l.toArray⟩ := by
  have h1 := Lib.splitB_data ⟨#[32]⟩ 0 (Lib.countB ⟨s.toArray⟩ ⟨#[32]⟩) ⟨s.toArray⟩
  have h2 : Lib.countB ⟨s.toArray⟩ ⟨#[32]⟩ = s.count 32 := by
    show Lib.count s [32] = _
    rw [Lib.count_one]
  rw [h2] at h1
  have h3 : (words ⟨s.toArray⟩).map (·.data.toList) = parts 32 s := by
    unfold words
    rw [h2, h1]
    exact splitK_parts 32 s.length s (Nat.le_refl _)
  rw [← h3, List.map_map]
  conv => lhs; rw [← List.map_id (words ⟨s.toArray⟩)]
  apply List.map_congr_left
  intro a _
  exact mk_inj rfl

theorem name_free {l : List UInt8} (h : nameB l = true) (c : UInt8) (hc : c = 32 ∨ c = 10) : c ∉ l := by
  intro hm
  unfold nameB at h
  simp only [Bool.and_eq_true] at h
  have h2 := List.all_eq_true.1 h.2 c hm
  rcases hc with rfl | rfl <;> revert h2 <;> decide
theorem dec_free (c : UInt8) (hc : c = 32 ∨ c = 10) : ∀ n : Nat, c ∉ Lib.decDigits n := by
  intro n
  induction n using Nat.strongRecOn with
  | ind n ih =>
    have key : ∀ k, k < 10 → c ≠ UInt8.ofNat (48 + k) := by
      intro k hk e
      have := congrArg UInt8.toNat e
      rw [digit_nat k hk] at this
      rcases hc with rfl | rfl <;> simp at this <;> omega
    by_cases h : n < 10
    · rw [dec_small n h]; simp only [List.mem_singleton]; exact key n h
    · rw [dec_more n h, List.mem_append]
      rintro (hm | hm)
      · exact ih (n / 10) (by omega) hm
      · simp only [List.mem_singleton] at hm; exact key (n % 10) (by omega) hm

def lineBody (x : End) : List UInt8 :=
  if x.kind = 1 then [98, 108, 97, 110, 107] ++ 32 :: (x.frm.data.toList ++ 32 :: Lib.decDigits x.day.toNat)
  else (if x.kind = 2 then [111, 110, 108, 121] else [111, 114, 100, 101, 114]) ++ 32 :: (x.frm.data.toList ++ 32 :: (x.to.data.toList ++ 32 :: Lib.decDigits x.day.toNat))
theorem line_body (x : End) : lineL x = lineBody x ++ [10] := by
  unfold lineL lineBody
  split
  · simp
  · split <;> simp

theorem okB_parts {x : End} (h : x.okB = true) : nameB x.frm.data.toList = true ∧ 0 ≤ x.day ∧ x.day ≤ 1048576 ∧ (x.kind = 1 ∧ x.to = ⟨#[]⟩ ∨ (x.kind = 0 ∨ x.kind = 2) ∧ nameB x.to.data.toList = true) := by
  have h' := h
  unfold End.okB at h
  simp only [Bool.and_eq_true, decide_eq_true_eq] at h
  refine ⟨h.1.1.1, h.1.1.2, h.1.2, ?_⟩
  have h2 := h.2
  by_cases hk : x.kind = 1
  · rw [if_pos hk, ByteArray.toList_eq] at h2
    exact .inl ⟨hk, mk_inj (by simpa using h2)⟩
  · rw [if_neg hk] at h2
    simp only [Bool.and_eq_true, Bool.or_eq_true, decide_eq_true_eq] at h2
    exact .inr ⟨h2.1.1, h2.1.2⟩
theorem day_eq {x : End} (h0 : 0 ≤ x.day) : ((x.day.toNat : Nat) : Int) = x.day := by omega
theorem toList_mk (l : List UInt8) : (⟨l.toArray⟩ : ByteArray).toList = l := by rw [ByteArray.toList_eq]

theorem read_line {x : End} (h : x.okB = true) : readW (words ⟨(lineBody x).toArray⟩) = (x, true) := by
  obtain ⟨hf, hd0, hd1, hk⟩ := okB_parts h
  have hnum : numE (Lib.decDigits x.day.toNat) = some x.day.toNat := numE_dec _ (by omega)
  rw [words_parts]
  unfold lineBody
  rcases hk with ⟨hk, ht⟩ | ⟨hk, ht⟩
  · rw [if_pos hk, parts_cut _ (by decide), parts_cut _ (name_free hf 32 (.inl rfl)), parts_free (dec_free 32 (.inl rfl) _)]
    simp only [List.map_cons, List.map_nil, readW]
    rw [if_pos (by rw [toList_mk]; rfl)]
    have e : numE (⟨(Lib.decDigits x.day.toNat).toArray⟩ : ByteArray).data.toList = some x.day.toNat := by simpa using hnum
    rw [e, dayed]
    have hx : ({ (⟨⟨x.frm.data.toList.toArray⟩, ⟨#[]⟩, 1, 0⟩ : End) with day := (x.day.toNat : Int) } : End) = x := by
      rw [day_eq hd0, ← mk_inj (a := x.frm) rfl, ← ht, ← hk]
    rw [hx, h]
  · have hk1 : ¬ x.kind = 1 := by omega
    rw [if_neg hk1]
    rcases hk with hk | hk
    · rw [if_neg (by omega), parts_cut _ (by decide), parts_cut _ (name_free hf 32 (.inl rfl)), parts_cut _ (name_free ht 32 (.inl rfl)), parts_free (dec_free 32 (.inl rfl) _)]
      simp only [List.map_cons, List.map_nil, readW]
      rw [if_pos (by rw [toList_mk]; rfl)]
      have e : numE (⟨(Lib.decDigits x.day.toNat).toArray⟩ : ByteArray).data.toList = some x.day.toNat := by simpa using hnum
      rw [e, dayed]
      have hx : ({ (⟨⟨x.frm.data.toList.toArray⟩, ⟨x.to.data.toList.toArray⟩, 0, 0⟩ : End) with day := (x.day.toNat : Int) } : End) = x := by
        rw [day_eq hd0, ← mk_inj (a := x.frm) rfl, ← mk_inj (a := x.to) rfl, ← hk]
      rw [hx, h]
    · rw [if_pos hk, parts_cut _ (by decide), parts_cut _ (name_free hf 32 (.inl rfl)), parts_cut _ (name_free ht 32 (.inl rfl)), parts_free (dec_free 32 (.inl rfl) _)]
      simp only [List.map_cons, List.map_nil, readW]
      rw [if_neg (by rw [toList_mk]; decide), if_pos (by rw [toList_mk]; rfl)]
      have e : numE (⟨(Lib.decDigits x.day.toNat).toArray⟩ : ByteArray).data.toList = some x.day.toNat := by simpa using hnum
      rw [e, dayed]
      have hx : ({ (⟨⟨x.frm.data.toList.toArray⟩, ⟨x.to.data.toList.toArray⟩, 2, 0⟩ : End) with day := (x.day.toNat : Int) } : End) = x := by
        rw [day_eq hd0, ← mk_inj (a := x.frm) rfl, ← mk_inj (a := x.to) rfl, ← hk]
      rw [hx, h]

theorem body_free {x : End} (h : x.okB = true) : (10 : UInt8) ∉ lineBody x := by
  obtain ⟨hf, hd0, hd1, hk⟩ := okB_parts h
  have h1 := name_free hf 10 (.inr rfl)
  have h2 := dec_free 10 (.inr rfl) x.day.toNat
  unfold lineBody
  rcases hk with ⟨hk, ht⟩ | ⟨hk, ht⟩
  · rw [if_pos hk]; simp only [List.mem_append, List.mem_cons, not_or]
    exact ⟨by decide, by decide, h1, by decide, h2⟩
  · have h3 := name_free ht 10 (.inr rfl)
    rw [if_neg (by omega)]
    rcases hk with hk | hk
    · rw [if_neg (by omega)]; simp only [List.mem_append, List.mem_cons, not_or]
      exact ⟨by decide, by decide, h1, by decide, h3, by decide, h2⟩
    · rw [if_pos hk]; simp only [List.mem_append, List.mem_cons, not_or]
      exact ⟨by decide, by decide, h1, by decide, h3, by decide, h2⟩

theorem parse_text : ∀ (l acc : List End) (f : Nat), l.all End.okB = true → (l.flatMap lineL).length < f → parseLoop f acc (l.flatMap lineL) = (acc ++ l, (acc ++ l).length, 0)
  | [], acc, f, _, hf => by
    have := parse_end (p := parseLoop f acc []) (f := f) (acc := acc) rfl (by simpa using hf)
    simpa using this
  | x :: l, acc, f, h, hf => by
    simp only [List.all_cons, Bool.and_eq_true] at h
    have e : (x :: l).flatMap lineL = lineBody x ++ 10 :: l.flatMap lineL := by
      rw [List.flatMap_cons, line_body]; simp
    rw [e] at hf ⊢
    have hy := parse_yes (p := parseLoop f acc (lineBody x ++ 10 :: l.flatMap lineL)) (f := f) (acc := acc) (x := x) rfl hf (by simp) (cut_at _ (body_free h.1)) (read_line h.1)
    rw [hy, parse_text l (acc ++ [x]) (f - 1) h.2 (by simp only [List.length_append, List.length_cons] at hf; omega)]
    simp

theorem parse_back {l : List End} (h : l.all End.okB = true) : parseE (l.flatMap lineL) = (l, l.length, 0) := by
  have := parse_text l [] ((l.flatMap lineL).length + 1) h (by omega)
  simpa [parseE] using this

end Go.Proofs.YtdgbghgcnkjjeaaDoor

/- Lines of steps, printed and parsed. (Plain: no program.) -/
import Derived.Test.YtheiogafjinihaaDoorK
namespace Go.Proofs.YtheiogafjinihaaDoor
open Go

/-- The text of steps; none: one of them has no line. -/
def linesM : List Stp → Option (List UInt8)
  | [] => some []
  | x :: r => (lineM x).bind fun s => (linesM r).map fun t => s ++ 10 :: t
/-- The steps of a text's pieces (parted at each line feed), their number, and 0: well, 1: no line, 2: too many. -/
def parseW : List (List UInt8) → List Stp → List Stp × Nat × Nat
  | [], acc => (acc, acc.length, 0)
  | [w], acc => if w = [] then (acc, acc.length, 0) else if acc.length = 4096 then ([], acc.length, 2) else ([], acc.length, 1)
  | w :: v :: ws, acc => if acc.length = 4096 then ([], acc.length, 2) else match readM w with
    | none => ([], acc.length, 1)
    | some x => parseW (v :: ws) (acc ++ [x])
def parseM (s : List UInt8) : List Stp × Nat × Nat := parseW (wordsL 10 s) []

theorem parseW_cons {w : List UInt8} {ws : List (List UInt8)} (hne : ws ≠ []) (acc : List Stp) : parseW (w :: ws) acc = if acc.length = 4096 then ([], acc.length, 2) else match readM w with
    | none => ([], acc.length, 1)
    | some x => parseW ws (acc ++ [x]) := by
  cases ws with
  | nil => exact absurd rfl hne
  | cons v r => rfl
theorem lines_app : ∀ {l m : List Stp} {s t : List UInt8}, linesM l = some s → linesM m = some t → linesM (l ++ m) = some (s ++ t)
  | [], m, s, t, hl, hm => by
    simp only [linesM, Option.some.injEq] at hl
    subst hl
    exact hm
  | x :: r, m, s, t, hl, hm => by
    rw [linesM] at hl
    cases hx : lineM x with
    | none => rw [hx] at hl; cases hl
    | some a =>
      rw [hx, Option.bind_some] at hl
      obtain ⟨b, hb, rfl⟩ := Option.map_eq_some_iff.1 hl
      rw [List.cons_append, linesM, hx, Option.bind_some, lines_app hb hm, Option.map_some]
      simp
/-- What is printed is parsed, whatever stands behind. -/
theorem parse_lines : ∀ (l : List Stp) (s u : List UInt8) (acc : List Stp), linesM l = some s → acc.length + l.length ≤ 4096 → parseW (wordsL 10 (s ++ u)) acc = parseW (wordsL 10 u) (acc ++ l)
  | [], s, u, acc, hl, _ => by
    simp only [linesM, Option.some.injEq] at hl
    subst hl
    simp
  | x :: r, s, u, acc, hl, hn => by
    rw [linesM] at hl
    cases hx : lineM x with
    | none => rw [hx] at hl; cases hl
    | some a =>
      rw [hx, Option.bind_some] at hl
      obtain ⟨b, hb, rfl⟩ := Option.map_eq_some_iff.1 hl
      simp only [List.length_cons] at hn
      rw [List.append_assoc, List.cons_append, wordsL_cons (line_free hx), parseW_cons (wordsL_ne _ _), if_neg (by omega), lineM_read hx]
      simp only
      rw [parse_lines r b u (acc ++ [x]) hb (by simp; omega)]
      simp
theorem parse_back {l : List Stp} {s : List UInt8} (h : linesM l = some s) (hn : l.length ≤ 4096) : parseM s = (l, l.length, 0) := by
  have := parse_lines l s [] [] h (by simpa using hn)
  rw [List.append_nil, List.nil_append] at this
  rw [parseM, this]
  rfl
/-- A piece behind that is no line. -/
theorem parse_rest {l : List Stp} {s u : List UInt8} (h : linesM l = some s) (hn : l.length < 4096) (hu : (10 : UInt8) ∉ u) (h0 : u ≠ []) : parseM (s ++ u) = ([], l.length, 1) := by
  rw [parseM, parse_lines l s u [] h (by simp; omega), wordsL_none hu, List.nil_append, parseW, if_neg h0, if_neg (by omega)]
/-- What is parsed is printed. -/
theorem parseW_ok : ∀ (ws : List (List UInt8)) (acc out : List Stp) (k : Nat), ws ≠ [] → parseW ws acc = (out, k, 0) → ∃ l, out = acc ++ l ∧ k = out.length ∧ linesM l = some (joinL 10 ws)
  | [], _, _, _, h0, _ => absurd rfl h0
  | [w], acc, out, k, _, h => by
    rw [parseW] at h
    split at h
    · simp only [Prod.mk.injEq, and_true] at h
      obtain ⟨rfl, rfl⟩ := h
      rename_i g
      subst g
      exact ⟨[], by simp, rfl, rfl⟩
    · split at h <;> simp at h
  | w :: v :: ws, acc, out, k, _, h => by
    rw [parseW] at h
    split at h
    · simp at h
    · cases hr : readM w with
      | none => rw [hr] at h; simp at h
      | some x =>
        rw [hr] at h
        simp only at h
        obtain ⟨l, e1, e2, e3⟩ := parseW_ok (v :: ws) (acc ++ [x]) out k (by simp) h
        refine ⟨x :: l, by rw [e1]; simp, e2, ?_⟩
        rw [linesM, readM_line hr, Option.bind_some, e3, Option.map_some, joinL]
theorem parse_print {s : List UInt8} {out : List Stp} {k : Nat} (h : parseM s = (out, k, 0)) : linesM out = some s ∧ k = out.length := by
  obtain ⟨l, e1, e2, e3⟩ := parseW_ok _ _ _ _ (wordsL_ne 10 s) h
  rw [List.nil_append] at e1
  subst e1
  rw [join_words 10 s.length s (Nat.le_refl _)] at e3
  exact ⟨e3, e2⟩
end Go.Proofs.YtheiogafjinihaaDoor

/- Plain laws: the document's reading of a line and of a text is the program's. -/
import Derived.Test.YtdgbghgcnkjjeaaDoorTextsWalk
namespace Go.Proofs.YtdgbghgcnkjjeaaDoor
open Go.RowKit

def numRLoop (acc : Nat) : List UInt8 → Option Nat
  | [] => some acc
  | c :: r => if c.toNat < 48 ∨ 57 < c.toNat then none else numRLoop (acc * 10 + (c.toNat - 48)) r
def numRI (l : List UInt8) : Int := if l.length < 1 ∨ 9 < l.length then -1 else match numRLoop 0 l with
  | none => -1
  | some n => (n : Int)

theorem numR_of : ∀ (l : List UInt8) (a n : Nat), numLoop a l = some n → numRLoop a l = some n
  | [], a, n, h => by simpa [numLoop, numRLoop] using h
  | c :: r, a, n, h => by
    rw [numLoop] at h
    split at h
    · cases h
    · rename_i hc
      split at h
      · cases h
      · rw [numRLoop, if_neg hc]; exact numR_of r _ n h
theorem num_le : ∀ (l : List UInt8) (a n : Nat), a ≤ 1048576 → numLoop a l = some n → n ≤ 1048576
  | [], a, n, ha, h => by simp [numLoop] at h; omega
  | c :: r, a, n, ha, h => by
    rw [numLoop] at h
    split at h
    · cases h
    · split at h
      · cases h
      · rename_i hx; exact num_le r _ n (by omega) h
theorem byte_of {c : UInt8} (h : ¬ (c.toNat < 48 ∨ 57 < c.toNat)) : UInt8.ofNat (48 + (c.toNat - 48)) = c := by
  have : 48 + (c.toNat - 48) = c.toNat := by omega
  rw [this]; simp
theorem dec_snoc (a d : Nat) (ha : 1 ≤ a) (hd : d < 10) : Lib.decDigits (a * 10 + d) = Lib.decDigits a ++ [UInt8.ofNat (48 + d)] := by
  rw [dec_more (a * 10 + d) (by omega)]
  have h1 : (a * 10 + d) / 10 = a := by omega
  have h2 : (a * 10 + d) % 10 = d := by omega
  rw [h1, h2]
theorem num_digits : ∀ (l : List UInt8) (a n : Nat), 1 ≤ a → numLoop a l = some n → Lib.decDigits n = Lib.decDigits a ++ l
  | [], a, n, _, h => by simp [numLoop] at h; simp [h]
  | c :: r, a, n, ha, h => by
    rw [numLoop] at h
    split at h
    · cases h
    · rename_i hc
      split at h
      · cases h
      · rw [num_digits r _ n (by omega) h, dec_snoc a _ ha (by omega), byte_of hc]; simp
theorem numE_inv {l : List UInt8} {n : Nat} (h : numE l = some n) : l = Lib.decDigits n ∧ n ≤ 1048576 ∧ numRI l = n := by
  have h' := h
  rw [numE] at h
  split at h
  · cases h
  · rename_i hc
    have hle := num_le l 0 n (by omega) h
    have hl : l = Lib.decDigits n := by
      match l, h, hc with
      | [], _, hc => exact absurd (.inl rfl) hc
      | c :: r, h, hc =>
        have h0 := h
        rw [numLoop] at h
        split at h
        · cases h
        · rename_i hd
          split at h
          · cases h
          · by_cases hr : r = []
            · subst hr
              simp only [numLoop, Option.some.injEq] at h
              subst h
              rw [dec_small _ (by omega)]
              have := byte_of hd
              simp only [Nat.zero_mul, Nat.zero_add]
              rw [this]
            · have h48 : c ≠ 48 := by
                intro e
                apply hc
                right
                refine ⟨?_, by simp [e]⟩
                cases r with
                | nil => exact absurd rfl hr
                | cons _ _ => simp
              have h1 : 1 ≤ c.toNat - 48 := by
                rcases Nat.lt_or_ge 48 c.toNat with hh | hh
                · omega
                · exfalso; apply h48; apply UInt8.toNat_inj.1; simp; omega
              rw [Nat.zero_mul, Nat.zero_add] at h
              rw [num_digits r _ n h1 h, dec_small _ (by omega), byte_of hd]; rfl
    refine ⟨hl, hle, ?_⟩
    have hlen : l.length ≤ 7 := by rw [hl]; exact dec_lenK 6 n (by simp; omega)
    have hpos : 0 < l.length := by
      rw [hl]; exact List.length_pos_iff.2 (dec_ne_nil n)
    rw [numRI, if_neg (by omega), numR_of l 0 n h]

def joinP (c : UInt8) : List (List UInt8) → List UInt8
  | [] => []
  | [x] => x
  | x :: y :: r => x ++ c :: joinP c (y :: r)
theorem join_parts (c : UInt8) : ∀ l : List UInt8, joinP c (parts c l) = l
  | [] => rfl
  | b :: l => by
    have ih := join_parts c l
    have hne := parts_ne c l
    rw [parts]
    cases hp : parts c l with
    | nil => exact absurd hp hne
    | cons h t =>
      rw [hp] at ih
      split
      · rename_i hb
        rw [joinP, ih, hb]; rfl
      · simp only
        cases t with
        | nil => simp only [joinP] at ih ⊢; rw [ih]
        | cons y r => simp only [joinP] at ih ⊢; rw [List.cons_append, ih]

def oneX : List (List UInt8) → End
  | [_, b, c] => ⟨⟨b.toArray⟩, ⟨#[]⟩, 1, numRI c⟩
  | [a, b, c, d] => ⟨⟨b.toArray⟩, ⟨c.toArray⟩, if a = [111, 110, 108, 121] then 2 else 0, numRI d⟩
  | _ => endNone
def oneR (s : List UInt8) : End × Bool := (oneX (parts 32 s), (oneX (parts 32 s)).okB && decide (lineL (oneX (parts 32 s)) = s ++ [10]))

theorem none_bad : endNone.okB = false := by decide
theorem read_back {s : List UInt8} {x : End} (h : readW (words ⟨s.toArray⟩) = (x, true)) : lineBody x = s ∧ x.okB = true ∧ oneX (parts 32 s) = x := by
  have hok := readW_ok h
  rw [words_parts] at h
  have hj := join_parts 32 s
  match hp : parts 32 s with
  | [] => rw [hp] at h; simp [readW] at h
  | [_] => rw [hp] at h; simp [readW] at h
  | [_, _] => rw [hp] at h; simp [readW] at h
  | _ :: _ :: _ :: _ :: _ :: _ => rw [hp] at h; simp [readW] at h
  | [a, b, c] =>
    rw [hp] at h hj
    simp only [List.map_cons, List.map_nil, readW] at h
    rw [toList_mk] at h
    split at h
    · rename_i ha
      have ha' : a = [98, 108, 97, 110, 107] := by simpa using ha
      cases hn : numE c with
      | none => rw [hn] at h; simp [dayed] at h
      | some n =>
        rw [hn] at h
        simp only [dayed, Prod.mk.injEq] at h
        obtain ⟨hx, _⟩ := h
        obtain ⟨hc, hle, hr⟩ := numE_inv hn
        subst hx
        refine ⟨?_, hok, ?_⟩
        · rw [← hj]
          simp [lineBody, joinP, ha', hc]
        · simp [oneX, hr]
    · simp at h
  | [a, b, c, d] =>
    rw [hp] at h hj
    simp only [List.map_cons, List.map_nil, readW] at h
    rw [toList_mk] at h
    split at h
    · rename_i ha
      have ha' : a = [111, 114, 100, 101, 114] := by simpa using ha
      cases hn : numE d with
      | none => rw [hn] at h; simp [dayed] at h
      | some n =>
        rw [hn] at h
        simp only [dayed, Prod.mk.injEq] at h
        obtain ⟨hx, _⟩ := h
        obtain ⟨hc, hle, hr⟩ := numE_inv hn
        subst hx
        refine ⟨?_, hok, ?_⟩
        · rw [← hj]
          simp [lineBody, joinP, ha', hc]
        · simp [oneX, hr, ha']
    · split at h
      · rename_i ha
        have ha' : a = [111, 110, 108, 121] := by simpa using ha
        cases hn : numE d with
        | none => rw [hn] at h; simp [dayed] at h
        | some n =>
          rw [hn] at h
          simp only [dayed, Prod.mk.injEq] at h
          obtain ⟨hx, _⟩ := h
          obtain ⟨hc, hle, hr⟩ := numE_inv hn
          subst hx
          refine ⟨?_, hok, ?_⟩
          · rw [← hj]
            simp [lineBody, joinP, ha', hc]
          · simp [oneX, hr, ha']
      · simp at h

theorem one_read (s : List UInt8) : (oneR s).2 = (readW (words ⟨s.toArray⟩)).2 ∧ ((oneR s).2 = true → readW (words ⟨s.toArray⟩) = ((oneR s).1, true)) := by
  have h1 : (oneR s).2 = true → readW (words ⟨s.toArray⟩) = ((oneR s).1, true) := by
    intro h
    unfold oneR at h ⊢
    simp only [Bool.and_eq_true, decide_eq_true_eq] at h ⊢
    rw [line_body] at h
    have hb : lineBody (oneX (parts 32 s)) = s := List.append_cancel_right h.2
    have := read_line h.1
    rwa [hb] at this
  refine ⟨?_, h1⟩
  cases ho : (oneR s).2 with
  | true => rw [h1 ho]
  | false =>
    cases hr : readW (words ⟨s.toArray⟩) with
    | mk x ok =>
      cases ok with
      | false => rfl
      | true =>
        obtain ⟨hb, hok, hx⟩ := read_back hr
        unfold oneR at ho
        simp only [hx, hok, line_body, hb] at ho
        simp at ho

def parseRL : List (List UInt8) → List End → List End × Nat × Int
  | [], acc => (acc, acc.length, 0)
  | [t], acc => if t = [] then (acc, acc.length, 0) else ([], acc.length, 2)
  | t :: u :: r, acc => if (oneR t).2 = true then parseRL (u :: r) (acc ++ [(oneR t).1]) else ([], acc.length, 2)

theorem cut_free {l : List UInt8} (h : (10 : UInt8) ∉ l) : (Lib.cut l [10]).2.2 = false := by
  unfold Lib.cut
  rw [Lib.index_one, ib_free h, if_neg (by omega)]
theorem parse_same : ∀ (f : Nat) (l : List UInt8) (acc : List End), l.length < f → parseLoop f acc l = parseRL (parts 10 l) acc
  | 0, l, acc, h => by omega
  | f + 1, l, acc, h => by
    rw [parseLoop]
    by_cases hl : l = []
    · subst hl; rw [if_pos rfl]; simp [parts, parseRL]
    · rw [if_neg hl]
      rcases free_or_cut 10 l with hf | ⟨p, r, hf, rfl⟩
      · rw [if_pos (.inl (cut_free hf)), parts_free hf, parseRL, if_neg hl]
      · rw [cut_at r hf, parts_cut r hf]
        obtain ⟨h1, h2⟩ := one_read p
        simp only
        cases hq : parts 10 r with
        | nil => exact absurd hq (parts_ne 10 r)
        | cons u q =>
          rw [parseRL]
          by_cases ho : (oneR p).2 = true
          · rw [if_pos ho, if_neg (by rw [← h1, ho]; simp), h2 ho, parse_same f r _ (by simp at h; omega), hq]
          · rw [if_neg ho, if_pos (.inr (by rw [← h1]; simpa using ho))]
theorem parseE_R (s : List UInt8) : parseE s = parseRL (parts 10 s) [] := parse_same _ _ _ (by omega)

theorem parse_fair : ∀ (f : Nat) (l : List UInt8) (acc : List End) (r : List End × Nat × Int), l.length < f → parseLoop f acc l = r → (r.2.2 = 0 ∨ r.2.2 = 2) ∧ (r.2.2 = 0 → ∃ zs, r.1 = acc ++ zs ∧ zs.all End.okB = true ∧ zs.flatMap lineL = l) ∧ r.1.length ≤ acc.length + l.length
  | 0, l, acc, r, h, _ => by omega
  | f + 1, l, acc, r, h, hr => by
    rw [parseLoop] at hr
    by_cases hl : l = []
    · subst hl; rw [if_pos rfl] at hr; subst hr
      exact ⟨.inl rfl, fun _ => ⟨[], by simp, by simp, by simp⟩, by simp⟩
    · rw [if_neg hl] at hr
      rcases free_or_cut 10 l with hf | ⟨p, q, hf, rfl⟩
      · rw [if_pos (.inl (cut_free hf))] at hr
        subst hr
        exact ⟨.inr rfl, fun hh => by simp at hh, by simp⟩
      · rw [cut_at q hf] at hr
        simp only at hr
        cases hrd : readW (words ⟨p.toArray⟩) with
        | mk x ok =>
          rw [hrd] at hr
          cases ok with
          | false =>
            rw [if_pos (.inr rfl)] at hr
            subst hr
            exact ⟨.inr rfl, fun hh => by simp at hh, by simp⟩
          | true =>
            rw [if_neg (by simp)] at hr
            obtain ⟨hb, hok, _⟩ := read_back hrd
            obtain ⟨h1, h2, h3⟩ := parse_fair f q _ r (by simp at h; omega) hr
            refine ⟨h1, fun h0 => ?_, by simp at h3 ⊢; omega⟩
            obtain ⟨zs, e1, e2, e3⟩ := h2 h0
            exact ⟨x :: zs, by simp [e1], by simp [hok, e2], by simp [e3, line_body, hb]⟩
theorem parseE_fair (s : List UInt8) : ((parseE s).2.2 = 0 ∨ (parseE s).2.2 = 2) ∧ ((parseE s).2.2 = 0 → (parseE s).1.all End.okB = true ∧ textL (parseE s).1 = s) ∧ (parseE s).1.length ≤ s.length := by
  obtain ⟨h1, h2, h3⟩ := parse_fair (s.length + 1) s [] (parseE s) (by omega) rfl
  refine ⟨h1, fun h0 => ?_, by simpa using h3⟩
  obtain ⟨zs, e1, e2, e3⟩ := h2 h0
  rw [e1]; simp only [List.nil_append]
  exact ⟨e2, by rw [textL, if_pos e2, e3]⟩
theorem parseE_ok (s : List UInt8) : (parseE s).1.all End.okB = true := by
  obtain ⟨h1, h2, _⟩ := parseE_fair s
  rcases h1 with h | h
  · exact (h2 h).1
  · suffices hx : ∀ (f : Nat) (l : List UInt8) (acc : List End), (parseLoop f acc l).2.2 = 2 → (parseLoop f acc l).1 = [] by
      rw [show (parseE s).1 = [] from hx _ _ _ h]; rfl
    intro f
    induction f with
    | zero => intro l acc hh; simp [parseLoop] at hh
    | succ f ih =>
      intro l acc hh
      rw [parseLoop] at hh ⊢
      split
      · rename_i hl; rw [if_pos hl] at hh; simp at hh
      · rename_i hl
        rw [if_neg hl] at hh
        split
        · rfl
        · rename_i hq; rw [if_neg hq] at hh; exact ih _ _ hh
end Go.Proofs.YtdgbghgcnkjjeaaDoor

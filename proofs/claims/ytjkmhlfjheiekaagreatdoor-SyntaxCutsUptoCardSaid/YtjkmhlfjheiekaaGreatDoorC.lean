import Derived.Test.YtjkmhlfjheiekaaGreatDoorE
set_option maxRecDepth 1000000
set_option maxHeartbeats 51200000
namespace Go.Proofs.YtjkmhlfjheiekaaGreatDoor
def nameM (s : Txt) : Bool := decide (1 ≤ s.length) && decide (s.length ≤ 16) && s.all smB && decide ((rankM s).2 = 0)
def textM (s : Txt) : Bool := s.all plB
mutual
def mayR : Rul → Bool
 | .mk k p f x n L =>
  if k = 0 ∨ k = 1 then decide (p = 0) && decide (n = 0) && decide (f = []) && decide (x = []) && decide (2 ≤ L.length) && decide (L.length ≤ 64) && mayL L
  else if k = 2 then decide (p = 0) && decide (n = 0) && decide (f = []) && decide (x = []) && decide (L.length = 1) && mayL L
  else if k = 3 ∨ k = 4 then decide (p = 0) && decide (n = 0) && decide (L.length = 0) && nameM f && textM x
  else if k = 5 ∨ k = 6 then decide (p = 0) && decide (x = []) && decide (L.length = 0) && nameM f && decide (0 ≤ n) && decide (n ≤ 1099511627776)
  else if k = 7 then decide (n = 0) && decide (L.length = 0) && nameM f && nameM x && decide (0 ≤ p) && decide (p < 6)
  else false
def mayL : List Rul → Bool
 | [] => true
 | r :: L => mayR r && mayL L
end
def nmT (s : Txt) : Int × Txt := ((rankM s).1, s)
def parTk (b : Bool) (l : List (Int × Txt)) : List (Int × Txt) := if b = true then (5, sOpen) :: (l ++ [(5, sShut)]) else l
mutual
def tokR : Rul → List (Int × Txt)
 | .mk k p f x n L =>
  if k = 3 then [nmT f, (5, sEq), (3, x)]
  else if k = 4 then [nmT f, (5, sTilde), (3, x)]
  else if k = 5 then [nmT f, (5, sLe), (2, decN 20 n.toNat)]
  else if k = 6 then [nmT f, (5, sGe), (2, decN 20 n.toNat)]
  else if k = 7 then [nmT f, (5, sEq), (0, paperT p), (5, sDot), nmT x]
  else if k = 2 then (0, wNot) :: tkL 2 [] L
  else if k = 1 then tkL 1 [(0, wOr)] L
  else tkL 0 [(0, wAnd)] L
def tkL (outer : Int) (sep : List (Int × Txt)) : List Rul → List (Int × Txt)
 | [] => []
 | r :: L => parTk (parB outer r.kind) (tokR r) ++ (if L = [] then [] else sep) ++ tkL outer sep L
end
inductive Scans : Txt → List (Int × Txt) → Prop
 | nil (s : Txt) (h : s.dropWhile bkB = []) : Scans s []
 | cons (s : Txt) (kd : Int) (t : Txt) (m : Nat) (l : List (Int × Txt)) (hn : s.dropWhile bkB ≠ []) (h : oneM (s.dropWhile bkB) = .ok (kd, t, m)) (hr : Scans ((s.dropWhile bkB).drop m) l) : Scans s ((kd, t) :: l)
def kt (ts : List Tok) : List (Int × Txt) := ts.map fun t => (t.kind, t.text)
theorem oneM_pos {s : Txt} {kd : Int} {t : Txt} {m : Nat} (h : oneM s = .ok (kd, t, m)) : 1 ≤ m := by
 cases s with
 | nil => cases h
 | cons c r =>
  rw [oneM] at h
  split at h
  ·rename_i hc
   split at h
   ·cases h; rw [List.takeWhile_cons_of_pos hc]; simp
   ·cases h
  ·split at h
   ·split at h
    ·cases h; omega
    ·cases h
   ·split at h
    ·split at h
     ·cases h; omega
     ·cases h
    ·split at h
     ·split at h
      ·cases h; omega
      ·cases h
     ·split at h
      ·cases h; omega
      ·cases h
theorem scans_ok {s : Txt} {l : List (Int × Txt)} (h : Scans s l) : ∀ (f n k : Nat), s.length < f → n + l.length ≤ 4096 → ∃ ts, scanM f n k s = .ok ts ∧ kt ts = l := by
 induction h with
 | nil s h =>
  intro f n k hf hn
  cases f with
  | zero => omega
  | succ f => exact ⟨[], by rw [scanM, if_pos h], rfl⟩
 | cons s kd t m l hne h hr ih =>
  intro f n k hf hn
  cases f with
  | zero => omega
  | succ f =>
   have h1 := oneM_pos h; have h2 : (s.dropWhile bkB).length ≤ s.length := (List.dropWhile_suffix _).length_le; have h3 : 0 < (s.dropWhile bkB).length := List.length_pos_iff.2 hne; simp only [List.length_cons] at hn; obtain ⟨ts, e1, e2⟩ := ih f (n + 1) (k + (s.takeWhile bkB).length + m) (by rw [List.length_drop]; omega) (by omega); refine ⟨⟨kd, k + (s.takeWhile bkB).length, t⟩ :: ts, ?_, ?_⟩
   ·rw [scanM, if_neg hne, if_neg (by omega), h]
    simp only [e1]
   ·simp only [kt, List.map_cons] at e2 ⊢
    rw [e2]
theorem scans_len {s : Txt} {l : List (Int × Txt)} (h : Scans s l) : l.length ≤ s.length := by
 induction h with
 | nil s h => simp
 | cons s kd t m l hne h hr ih =>
  have h1 := oneM_pos h; have h2 : (s.dropWhile bkB).length ≤ s.length := (List.dropWhile_suffix _).length_le; have h3 : 0 < (s.dropWhile bkB).length := List.length_pos_iff.2 hne; rw [List.length_drop] at ih; simp only [List.length_cons]; omega
def Stop (s : Txt) : Prop := ∀ c, s.head? = some c → smB c = false
theorem Stop.nil : Stop [] := fun c h => by cases h
theorem Stop.of {c : UInt8} {s : Txt} (h : smB c = false) : Stop (c :: s) := fun d hd => by cases hd; exact h
theorem take_stop {s rest : Txt} (hs : s.all smB = true) (hr : Stop rest) : (s ++ rest).takeWhile smB = s := by
 induction s with
 | nil =>
  cases rest with
  | nil => rfl
  | cons c r => rw [List.nil_append, List.takeWhile_cons_of_neg (by rw [hr c rfl]; simp)]
 | cons c s ih =>
  rw [List.all_cons, Bool.and_eq_true] at hs; rw [List.cons_append, List.takeWhile_cons_of_pos hs.1, ih hs.2]
theorem small_not_blank {c : UInt8} (h : smB c = true) : bkB c = false := by
 cases hb : bkB c with
 | false => rfl
 | true =>
  exfalso
  unfold bkB at hb; simp only [Bool.or_eq_true, beq_iff_eq] at hb
  rcases hb with rfl | rfl
  ·revert h; decide
  ·revert h; decide
theorem scan_name {s rest : Txt} {l : List (Int × Txt)} (hs : nameM s = true) (hr : Stop rest) (h : Scans rest l) : Scans (s ++ rest) (nmT s :: l) := by
 unfold nameM at hs
 simp only [Bool.and_eq_true, decide_eq_true_eq] at hs
 obtain ⟨⟨⟨h1, h2⟩, h3⟩, h4⟩ := hs
 have htw := take_stop h3 hr
 cases s with
 | nil => simp at h1
 | cons c s =>
  have hc : smB c = true := by rw [List.all_cons, Bool.and_eq_true] at h3; exact h3.1
  have hd : ((c :: s) ++ rest).dropWhile bkB = (c :: s) ++ rest := by
   rw [List.cons_append, List.dropWhile_cons_of_neg (by rw [small_not_blank hc]; simp)]
  refine Scans.cons _ _ _ (c :: s).length l (by rw [hd]; simp) ?_ ?_
  ·rw [hd, List.cons_append, oneM, if_pos hc, ← List.cons_append, htw, if_pos h4]
  ·rw [hd, List.drop_left]; exact h
theorem sbz {rest : Txt} {l : List (Int × Txt)} (h : Scans rest l) : Scans (32 :: rest) l := by
 have hd : (32 :: rest).dropWhile bkB = rest.dropWhile bkB := List.dropWhile_cons_of_pos (by decide)
 cases h with
 | nil _ h => exact Scans.nil _ (by rw [hd]; exact h)
 | cons _ kd t m l hn h hr => exact Scans.cons _ kd t m l (by rw [hd]; exact hn) (by rw [hd]; exact h) (by rw [hd]; exact hr)
theorem scan_sign {c : UInt8} {rest : Txt} {l : List (Int × Txt)} (hb : bkB c = false) (ho : ∀ r, oneM (c :: r) = .ok (5, [c], 1)) (h : Scans rest l) : Scans (c :: rest) ((5, [c]) :: l) := by
 have hd : (c :: rest).dropWhile bkB = c :: rest := List.dropWhile_cons_of_neg (by rw [hb]; simp)
 exact Scans.cons _ _ _ 1 l (by rw [hd]; simp) (by rw [hd]; exact ho _) (by rw [hd]; exact h)
theorem scan_sign2 {c : UInt8} {rest : Txt} {l : List (Int × Txt)} (hc : c = 60 ∨ c = 62) (h : Scans rest l) : Scans (c :: 61 :: rest) ((5, [c, 61]) :: l) := by
 have hd : (c :: 61 :: rest).dropWhile bkB = c :: 61 :: rest := List.dropWhile_cons_of_neg (by rcases hc with rfl | rfl <;> decide)
 refine Scans.cons _ _ _ 2 l (by rw [hd]; simp) ?_ (by rw [hd]; exact h)
 rw [hd, oneM]
 rcases hc with rfl | rfl <;> rfl
theorem plain_take {x rest : Txt} (hx : textM x = true) : (x ++ 34 :: rest).takeWhile plB = x := by
 unfold textM at hx
 induction x with
 | nil => exact List.takeWhile_cons_of_neg (by decide)
 | cons c x ih =>
  rw [List.all_cons, Bool.and_eq_true] at hx; rw [List.cons_append, List.takeWhile_cons_of_pos hx.1, ih hx.2]
theorem scan_text {x rest : Txt} {l : List (Int × Txt)} (hx : textM x = true) (h : Scans rest l) : Scans (34 :: (x ++ 34 :: rest)) ((3, x) :: l) := by
 have hd : (34 :: (x ++ 34 :: rest)).dropWhile bkB = 34 :: (x ++ 34 :: rest) := List.dropWhile_cons_of_neg (by decide)
 refine Scans.cons _ _ _ (x.length + 2) l (by rw [hd]; simp) ?_ ?_
 ·rw [hd, oneM, if_neg (by decide), if_neg (by decide), if_pos rfl, plain_take hx, List.drop_left]
  rfl
 ·rw [hd, List.drop_succ_cons, show x.length + 1 = (x ++ [34]).length by simp, show x ++ 34 :: rest = (x ++ [34]) ++ rest by simp, List.drop_left]
  exact h
theorem decN_small : ∀ (f n : Nat), n < 10 ^ f → (decN f n).all dgB = true
 | 0, n, h => rfl
 | f + 1, n, h => by
  have hd : ∀ k : Nat, k < 10 → dgB (UInt8.ofNat (48 + k)) = true := by decide
  rw [decN]
  split
  ·rename_i h1; rw [List.all_cons, hd n h1]; rfl
  ·rw [List.all_append, decN_small f (n / 10) (by rw [Nat.pow_succ] at h; omega), List.all_cons, hd _ (Nat.mod_lt _ (by omega))]; rfl
theorem decN_val : ∀ (f n : Nat), n < 10 ^ f → numV (decN f n) = n
 | 0, n, h => by simp at h; subst h; rfl
 | f + 1, n, h => by
  have hd : ∀ k : Nat, k < 10 → (UInt8.ofNat (48 + k)).toNat - 48 = k := by decide
  rw [decN]
  split
  ·rename_i h1
   show 10 * 0 + ((UInt8.ofNat (48 + n)).toNat - 48) = n; rw [hd n h1]; omega
  ·have ih := decN_val f (n / 10) (by rw [Nat.pow_succ] at h; omega)
   unfold numV at ih ⊢; rw [List.foldl_append, ih]; show 10 * (n / 10) + ((UInt8.ofNat (48 + n % 10)).toNat - 48) = n; rw [hd _ (Nat.mod_lt _ (by omega))]; omega
theorem decN_len : ∀ (f n : Nat), 0 < f → 1 ≤ (decN f n).length ∧ (decN f n).length ≤ f
 | 0, n, h => by omega
 | f + 1, n, _ => by
  rw [decN]
  split
  ·simp
  ·cases f with
   | zero => simp [decN]
   | succ f =>
    have := decN_len (f + 1) (n / 10) (by omega); rw [List.length_append, List.length_singleton]; omega
theorem head_app {a b : Txt} (h : a ≠ []) : (a ++ b).head? = a.head? := by
 cases a with
 | nil => exact absurd rfl h
 | cons c r => rfl
theorem decN_head : ∀ (f n : Nat), n < 10 ^ f → 1 < (decN f n).length → (decN f n).head? ≠ some 48
 | 0, n, h, h1 => by simp [decN] at h1
 | f + 1, n, h, h1 => by
  have hd : ∀ k : Nat, k < 10 → 0 < k → UInt8.ofNat (48 + k) ≠ 48 := by decide
  rw [decN] at h1 ⊢
  split
  ·rename_i h2; rw [if_pos h2] at h1; simp at h1
  ·rename_i h2
   have hlt : n / 10 < 10 ^ f := by rw [Nat.pow_succ] at h; omega
   cases f with
   | zero => simp at hlt; omega
   | succ f =>
    have hl := decN_len (f + 1) (n / 10) (by omega); rw [head_app (by intro h; rw [h] at hl; simp at hl)]
    by_cases h3 : 1 < (decN (f + 1) (n / 10)).length
    ·exact decN_head (f + 1) (n / 10) hlt h3
    ·rw [decN]
     split
     ·rename_i h4
      simp only [List.head?_cons, ne_eq, Option.some.injEq]; exact hd _ h4 (by omega)
     ·rename_i h4
      exfalso
      rw [decN, if_neg h4] at h3
      cases f with
      | zero => simp at hlt; omega
      | succ f =>
       have := decN_len (f + 1) (n / 10 / 10) (by omega); rw [List.length_append, List.length_singleton] at h3; omega
theorem decN_short : ∀ (f n m : Nat), 1 ≤ m → n < 10 ^ m → (decN f n).length ≤ m
 | 0, n, m, _, _ => by simp [decN]
 | f + 1, n, m, h1, h => by
  rw [decN]
  split
  ·simpa using h1
  ·rename_i h2
   cases m with
   | zero => omega
   | succ m =>
    cases m with
    | zero => simp at h; omega
    | succ m =>
     have := decN_short f (n / 10) (m + 1) (by omega) (by rw [Nat.pow_succ] at h; omega); rw [List.length_append, List.length_singleton]; omega
theorem digit_small {c : UInt8} (h : dgB c = true) : smB c = true := by unfold smB; rw [h]; simp
theorem dec_rank {n : Nat} (h : n ≤ 1099511627776) : rankM (decN 20 n) = (2, 0) := by
 have hlt : n < 10 ^ 20 := by omega
 unfold rankM
 rw [if_pos (decN_small 20 n hlt), if_neg (fun hh => decN_head 20 n hlt hh.1 hh.2), if_neg (by rw [decN_val 20 n hlt]; unfold mostN; omega)]
theorem dec_name {n : Nat} (h : n ≤ 1099511627776) : nameM (decN 20 n) = true := by
 have hlt : n < 10 ^ 20 := by omega
 have h1 := decN_len 20 n (by omega)
 have h2 := decN_short 20 n 13 (by omega) (by omega)
 have h3 : (decN 20 n).all smB = true := by
  rw [List.all_eq_true]; intro c hc; exact digit_small (List.all_eq_true.1 (decN_small 20 n hlt) c hc)
 unfold nameM
 rw [h3, dec_rank h]
 simp
 omega
theorem dec_tok {n : Nat} (h : n ≤ 1099511627776) : nmT (decN 20 n) = (2, decN 20 n) := by unfold nmT; rw [dec_rank h]
theorem paper_name : ∀ p : Nat, p < 6 → nameM (ppL.getD p []) = true ∧ (rankM (ppL.getD p [])).1 = 0 := by decide
theorem paper_back : ∀ p : Nat, p < 6 → paperI (ppL.getD p []) = (p : Int) := by decide
theorem shut_stop {r : Txt} : Stop (41 :: r) := Stop.of (by decide)
theorem blank_stop {r : Txt} : Stop (32 :: r) := Stop.of (by decide)
theorem scan_par (b : Bool) {s : Txt} {tl : List (Int × Txt)} (h : ∀ (rest : Txt) (l : List (Int × Txt)), Stop rest → Scans rest l → Scans (s ++ rest) (tl ++ l)) {rest : Txt} {l : List (Int × Txt)} (hs : Stop rest) (hl : Scans rest l) : Scans (inPar b s ++ rest) (parTk b tl ++ l) := by
 unfold inPar parTk
 cases b with
 | false => exact h rest l hs hl
 | true =>
  simp only [if_true]; have h1 := h (41 :: rest) ((5, sShut) :: l) shut_stop (scan_sign (by decide) (fun _ => rfl) hl); have h2 := scan_sign (c := 40) (by decide) (fun _ => rfl) h1; simpa [sOpen, sShut] using h2
mutual
theorem scan_show : ∀ (r : Rul), mayR r = true → ∀ (rest : Txt) (l : List (Int × Txt)), Stop rest → Scans rest l → Scans (showR r ++ rest) (tokR r ++ l)
 | .mk k p f x n L, h, rest, l, hs, hl => by
  rw [mayR] at h; rw [showR, tokR]
  by_cases h3 : k = 3
  ·subst h3
   rw [if_neg (by decide), if_neg (by decide), if_pos (by decide)] at h; simp only [Bool.and_eq_true, decide_eq_true_eq] at h; rw [if_pos rfl, if_pos rfl]; simp only [List.append_assoc, List.cons_append, List.nil_append]; exact scan_name h.1.2 blank_stop (sbz (scan_sign (by decide) (fun _ => rfl) (sbz (scan_text h.2 hl))))
  rw [if_neg h3, if_neg h3]
  by_cases h4 : k = 4
  ·subst h4
   rw [if_neg (by decide), if_neg (by decide), if_pos (by decide)] at h; simp only [Bool.and_eq_true, decide_eq_true_eq] at h; rw [if_pos rfl, if_pos rfl]; simp only [List.append_assoc, List.cons_append, List.nil_append]; exact scan_name h.1.2 blank_stop (sbz (scan_sign (by decide) (fun _ => rfl) (sbz (scan_text h.2 hl))))
  rw [if_neg h4, if_neg h4]
  by_cases h5 : k = 5
  ·subst h5
   rw [if_neg (by decide), if_neg (by decide), if_neg (by decide), if_pos (by decide)] at h; simp only [Bool.and_eq_true, decide_eq_true_eq] at h; rw [if_pos rfl, if_pos rfl]; have hn : n.toNat ≤ 1099511627776 := by omega
   simp only [List.append_assoc, List.cons_append, List.nil_append]; have := scan_name (dec_name hn) hs hl; rw [dec_tok hn] at this; exact scan_name h.1.1.2 blank_stop (sbz (scan_sign2 (.inl rfl) (sbz this)))
  rw [if_neg h5, if_neg h5]
  by_cases h6 : k = 6
  ·subst h6
   rw [if_neg (by decide), if_neg (by decide), if_neg (by decide), if_pos (by decide)] at h; simp only [Bool.and_eq_true, decide_eq_true_eq] at h; rw [if_pos rfl, if_pos rfl]; have hn : n.toNat ≤ 1099511627776 := by omega
   simp only [List.append_assoc, List.cons_append, List.nil_append]; have := scan_name (dec_name hn) hs hl; rw [dec_tok hn] at this; exact scan_name h.1.1.2 blank_stop (sbz (scan_sign2 (.inr rfl) (sbz this)))
  rw [if_neg h6, if_neg h6]
  by_cases h7 : k = 7
  ·subst h7
   rw [if_neg (by decide), if_neg (by decide), if_neg (by decide), if_neg (by decide), if_pos rfl] at h; simp only [Bool.and_eq_true, decide_eq_true_eq] at h; rw [if_pos rfl, if_pos rfl]; obtain ⟨hp1, hp2⟩ := paper_name p.toNat (by omega); simp only [List.append_assoc, List.cons_append, List.nil_append]; have hpt : nmT (paperT p) = (0, paperT p) := by unfold nmT paperT; rw [hp2]
   have h1 := scan_name h.1.1.2 hs hl; have h2 := scan_name (s := paperT p) hp1 (Stop.of (c := 46) (by decide)) (scan_sign (c := 46) (by decide) (fun _ => rfl) h1); rw [hpt] at h2; exact scan_name h.1.1.1.2 blank_stop (sbz (scan_sign (by decide) (fun _ => rfl) (sbz h2)))
  rw [if_neg h7, if_neg h7]
  by_cases h2 : k = 2
  ·subst h2
   rw [if_neg (by decide), if_pos rfl] at h; simp only [Bool.and_eq_true, decide_eq_true_eq] at h; rw [if_pos rfl, if_pos rfl]; have h1 := scan_showL 2 [] [] L h.2 (fun _ _ h => h) (.inr (by omega)) rest l hs hl; have := scan_name (s := [110, 111, 116]) (by decide) blank_stop (sbz h1); rw [show nmT [110, 111, 116] = (0, wNot) from rfl] at this; simpa using this
  rw [if_neg h2, if_neg h2]
  by_cases h1 : k = 1
  ·subst h1
   rw [if_pos (by decide)] at h; simp only [Bool.and_eq_true, decide_eq_true_eq] at h; rw [if_pos rfl, if_pos rfl]; refine scan_showL 1 _ _ L h.2 (fun rest l hr => ?_) (.inl ⟨_, rfl⟩) rest l hs hl; have := scan_name (s := [111, 114]) (by decide) blank_stop (sbz hr); rw [show nmT [111, 114] = (0, wOr) from rfl] at this; exact sbz this
  rw [if_neg h1, if_neg h1]
  by_cases h0 : k = 0
  ·subst h0
   rw [if_pos (by decide)] at h; simp only [Bool.and_eq_true, decide_eq_true_eq] at h; refine scan_showL 0 _ _ L h.2 (fun rest l hr => ?_) (.inl ⟨_, rfl⟩) rest l hs hl; have := scan_name (s := [97, 110, 100]) (by decide) blank_stop (sbz hr); rw [show nmT [97, 110, 100] = (0, wAnd) from rfl] at this; exact sbz this
  ·rw [if_neg (by omega), if_neg h2, if_neg (by omega), if_neg (by omega), if_neg h7] at h
   cases h
theorem scan_showL (outer : Int) (sep : Txt) (sl : List (Int × Txt)) : ∀ (L : List Rul), mayL L = true → (∀ rest l, Scans rest l → Scans (sep ++ rest) (sl ++ l)) → ((∃ s, sep = 32 :: s) ∨ L.length ≤ 1) → ∀ (rest : Txt) (l : List (Int × Txt)), Stop rest → Scans rest l → Scans (showL outer sep L ++ rest) (tkL outer sl L ++ l)
 | [], _, _, _, rest, l, _, hl => by rw [showL, tkL]; exact hl
 | r :: L, h, hsep, hst, rest, l, hs, hl => by
  rw [mayL, Bool.and_eq_true] at h; rw [showL, tkL]; have ih := scan_showL outer sep sl L h.2 hsep (hst.imp id (fun h => by simp only [List.length_cons] at h; omega)) rest l hs hl
  by_cases hL : L = []
  ·subst hL
   rw [if_pos rfl, if_pos rfl, List.append_nil, List.append_nil]; rw [showL, tkL] at ih ⊢; rw [List.append_nil, List.append_nil]; exact scan_par _ (scan_show r h.1) hs hl
  ·rw [if_neg hL, if_neg hL]
   rw [List.append_assoc, List.append_assoc, List.append_assoc, List.append_assoc]
   obtain ⟨s', rfl⟩ : ∃ s, sep = 32 :: s := by
    rcases hst with h | h
    ·exact h
    ·exfalso
     have := List.length_pos_iff.2 hL; simp only [List.length_cons] at h; omega
   exact scan_par _ (scan_show r h.1) blank_stop (hsep _ _ ih)
end
theorem kt_split {ts : List Tok} {a b : List (Int × Txt)} (h : kt ts = a ++ b) : ∃ u v, ts = u ++ v ∧ kt u = a ∧ kt v = b := by
 unfold kt at *
 obtain ⟨u, v, e, h1, h2⟩ := List.map_eq_append_iff.1 h
 exact ⟨u, v, e, h1, h2⟩
theorem kt_cons {ts : List Tok} {x : Int × Txt} {b : List (Int × Txt)} (h : kt ts = x :: b) : ∃ p v, ts = ⟨x.1, p, x.2⟩ :: v ∧ kt v = b := by
 cases ts with
 | nil => cases h
 | cons t v =>
  simp only [kt, List.map_cons, List.cons.injEq] at h; obtain ⟨k, p, s⟩ := t; obtain ⟨h1, h2⟩ := h; subst h1; exact ⟨p, v, rfl, h2⟩
theorem kt_nil {ts : List Tok} (h : kt ts = []) : ts = [] := by
 unfold kt at h; simpa using h
theorem kt_len (ts : List Tok) : (kt ts).length = ts.length := by simp [kt]
theorem rank_kind (s : Txt) : (rankM s).1 = 0 ∨ (rankM s).1 = 1 ∨ (rankM s).1 = 2 := by
 unfold rankM
 split
 ·exact .inr (.inr rfl)
 ·split
  ·exact .inl rfl
  ·exact .inr (.inl rfl)
theorem named_nm (s : Txt) (p : Nat) : nmB ⟨(nmT s).1, p, (nmT s).2⟩ = true := by
 unfold nmB nmT
 rcases rank_kind s with h | h | h <;> simp [h]
theorem nm_not_open (s : Txt) (p : Nat) : signB sOpen ⟨(nmT s).1, p, (nmT s).2⟩ = false := by
 unfold signB nmT
 rcases rank_kind s with h | h | h <;> simp [h]
theorem tyz {e : Nat} {p : Tok → Bool} {t : Tok} {r : List Tok} (h : p t = true) : takeM e p (t :: r) = .ok (t.text, r) := by rw [takeM, if_pos h]
theorem one_atom {e N : Nat} {ts : List Tok} (h1 : seZ compB ts.tail = true) (h2 : seZ (signB sOpen) ts = false) : oneP e (N + 1) ts = some (atomM e ts) := by
 rw [oneP, if_neg (by rw [h1]; simp), if_neg (by rw [h2]; simp)]
theorem num_yes {e : Nat} {p : Nat} {n : Int} (h0 : 0 ≤ n) (h1 : n ≤ 1099511627776) {r : List Tok} : numM e 0 1099511627776 (⟨2, p, decN 20 n.toNat⟩ :: r) = .ok (n, r) := by
 have hv : (numV (decN 20 n.toNat) : Int) = n := by rw [decN_val 20 n.toNat (by omega)]; omega
 rw [numM, tyz (by rfl)]
 simp only [hv]
 rw [if_neg (by omega)]
theorem parts_ok {part : List Tok → Option (Res Rul)} {sep : Txt} {outer : Int} {good : List Tok → Prop} {B : Nat} (hsep : ∀ p ts, good (⟨0, p, sep⟩ :: ts)) :
  ∀ (L : List Rul), L ≠ [] → (∀ c ∈ L, ∀ u v, kt u = parTk (parB outer c.kind) (tokR c) → u.length ≤ B → good v → part (u ++ v) = some (.ok (c, v))) →
  ∀ (M : Nat) (u v : List Tok), L.length ≤ M → kt u = tkL outer [(0, sep)] L → u.length ≤ B → good v → seZ (wdz sep) v = false → partsP part sep M (u ++ v) = some (.ok (L, v))
 | [], h, _, _, _, _, _, _, _, _, _ => absurd rfl h
 | r :: L, _, hp, M, u, v, hM, hu, hB, hv, hs => by
  cases M with
  | zero => simp at hM
  | succ M =>
   rw [tkL] at hu
   by_cases hL : L = []
   ·subst hL
    rw [if_pos rfl, tkL, List.append_nil, List.append_nil] at hu; rw [partsP, hp r (by simp) u v hu hB hv]; simp only; rw [if_neg (by rw [hs]; simp)]
   ·rw [if_neg hL] at hu
    rw [List.append_assoc] at hu; obtain ⟨u1, u2, rfl, h1, h2⟩ := kt_split hu; obtain ⟨q, u3, rfl, h3⟩ := kt_cons h2; rw [List.length_append, List.length_cons] at hB; have ih := parts_ok hsep L hL (fun c hc => hp c (by simp [hc])) M u3 v (by simp only [List.length_cons] at hM; omega) h3 (by omega) hv hs; rw [List.append_assoc, List.cons_append, partsP, hp r (by simp) u1 _ h1 (by omega) (hsep q _)]; simp only; rw [if_pos (by simp [seZ, wdz])]; simp only [List.tail_cons, ih]
theorem join_many {k : Int} {L : List Rul} (h : 2 ≤ L.length) : joinK k L = .mk k 0 [] [] 0 L := by
 match L, h with
 | _ :: _ :: _, _ => rfl
theorem row_ok {part : List Tok → Option (Res Rul)} {sep : Txt} {k : Int} {M : Nat} {ts v : List Tok} {L : List Rul} (h : partsP part sep M ts = some (.ok (L, v))) : rowP part sep k M ts = some (.ok (joinK k L, v)) := by
 rw [rowP, h]
theorem row_one {part : List Tok → Option (Res Rul)} {sep : Txt} {k : Int} {M : Nat} {ts v : List Tok} {r : Rul} (h : part ts = some (.ok (r, v))) (hs : seZ (wdz sep) v = false) : rowP part sep k (M + 1) ts = some (.ok (r, v)) := by
 have : partsP part sep (M + 1) ts = some (.ok ([r], v)) := by
  rw [partsP, h]; simp only; rw [if_neg (by rw [hs]; simp)]
 rw [row_ok this]; rfl
theorem row_kind {r : Rul} (h : mayR r = true) (hk : r.kind = 0 ∨ r.kind = 1) : ∃ L, r = .mk r.kind 0 [] [] 0 L ∧ 2 ≤ L.length ∧ mayL L = true := by
 obtain ⟨k, p, f, x, n, L⟩ := r
 simp only [Rul.kind] at hk ⊢
 rw [mayR, if_pos hk] at h
 simp only [Bool.and_eq_true, decide_eq_true_eq] at h
 obtain ⟨⟨⟨⟨⟨⟨rfl, rfl⟩, rfl⟩, rfl⟩, h2⟩, _⟩, h3⟩ := h
 exact ⟨L, rfl, h2, h3⟩
theorem mayL_mem : ∀ {L : List Rul}, mayL L = true → ∀ c ∈ L, mayR c = true
 | [], _, c, h => by cases h
 | r :: L, hm, c, h => by
  rw [mayL, Bool.and_eq_true] at hm
  rcases List.mem_cons.1 h with rfl | h
  ·exact hm.1
  ·exact mayL_mem hm.2 c h
theorem tkL_len (outer : Int) (sep : Int × Txt) : ∀ L : List Rul, L.length ≤ (tkL outer [sep] L).length + 1
 | [] => by simp
 | r :: L => by
  have := tkL_len outer sep L; rw [tkL]
  by_cases h : L = []
  ·subst h; simp
  ·rw [if_neg h]
   simp only [List.length_append, List.length_cons, List.length_nil]; omega
def OneOk (r : Rul) : Prop := ∀ (e N : Nat) (u v : List Tok), kt u = parTk (decide (r.kind = 0 ∨ r.kind = 1)) (tokR r) → u.length < N → oneP e N (u ++ v) = some (.ok (r, v))
def noAnd (v : List Tok) : Prop := seZ (wdz wAnd) v = false
def noOr (v : List Tok) : Prop := seZ (wdz wOr) v = false
theorem sep_and_any (p : Nat) (ts : List Tok) : noAnd (⟨0, p, wOr⟩ :: ts) := by
 show ((0 : Int) == 0 && wOr == wAnd) = false
 decide
theorem par_same {outer : Int} {k : Int} (h : outer ≠ 1) : parB outer k = decide (k = 0 ∨ k = 1) := by
 unfold parB
 by_cases h0 : k = 0
 ·simp [h0, h]
 ·by_cases h1 : k = 1
  ·simp [h1]
  ·simp [h0, h1]
theorem and_parts {e N : Nat} {L : List Rul} (hL : 2 ≤ L.length) (hc : ∀ c ∈ L, OneOk c) {u v : List Tok} (hu : kt u = tkL 0 [(0, wAnd)] L) (hN : u.length < N) {M : Nat} (hM : u.length < M) (hv : noAnd v) :
  allOf (oneP e N) M (u ++ v) = some (.ok (.mk 0 0 [] [] 0 L, v)) := by
 have hl := tkL_len 0 (0, wAnd) L
 rw [← hu, kt_len] at hl
 have := parts_ok (part := oneP e N) (sep := wAnd) (outer := 0) (good := fun _ => True) (B := u.length) (fun _ _ => trivial) L (by intro h; subst h; simp at hL)
  (fun c hc' a b ha hb _ => hc c hc' e N a b (by rw [ha, par_same (by decide)]) (by omega)) M u v (by omega) hu (Nat.le_refl _) trivial hv
 rw [allOf, row_ok this, join_many hL]
theorem all_one {e N : Nat} {r : Rul} (hr : OneOk r) (hk : ¬ (r.kind = 0 ∨ r.kind = 1)) {u v : List Tok} (hu : kt u = tokR r) (hN : u.length < N) {M : Nat} (hM : 0 < M) (hv : noAnd v) : allOf (oneP e N) M (u ++ v) = some (.ok (r, v)) := by
 cases M with
 | zero => omega
 | succ M => exact row_one (hr e N u v (by rw [hu, decide_eq_false hk]; rfl) hN) hv
theorem all_par {e N : Nat} {r : Rul} (hr : OneOk r) {u v : List Tok} (hu : kt u = parTk (decide (r.kind = 0 ∨ r.kind = 1)) (tokR r)) (hN : u.length < N) {M : Nat} (hM : 0 < M) (hv : noAnd v) : allOf (oneP e N) M (u ++ v) = some (.ok (r, v)) := by
 cases M with
 | zero => omega
 | succ M => exact row_one (hr e N u v hu hN) hv
theorem rule_ok {e N : Nat} {r : Rul} (hm : mayR r = true) (hr : ¬ (r.kind = 0 ∨ r.kind = 1) → OneOk r) (hs : ∀ c ∈ r.sub, OneOk c) (hss : ∀ c ∈ r.sub, ∀ d ∈ c.sub, OneOk d) {u v : List Tok} (hu : kt u = tokR r) (hN : u.length < N) {M : Nat} (hM : u.length < M) (hv : noAnd v) (hv2 : noOr v) :
  ruleOf (oneP e N) M (u ++ v) = some (.ok (r, v)) := by
 by_cases h0 : r.kind = 0
 ·obtain ⟨L, e1, h2, h3⟩ := row_kind hm (.inl h0)
  rw [h0] at e1; subst e1; rw [tokR, if_neg (by decide), if_neg (by decide), if_neg (by decide), if_neg (by decide), if_neg (by decide), if_neg (by decide), if_neg (by decide)] at hu
  cases M with
  | zero => omega
  | succ M => exact row_one (and_parts h2 hs hu hN (by omega) hv) hv2
 ·by_cases h1 : r.kind = 1
  ·obtain ⟨L, e1, h2, h3⟩ := row_kind hm (.inr h1)
   rw [h1] at e1; subst e1; rw [tokR, if_neg (by decide), if_neg (by decide), if_neg (by decide), if_neg (by decide), if_neg (by decide), if_neg (by decide), if_pos rfl] at hu; have hl := tkL_len 1 (0, wOr) L; rw [← hu, kt_len] at hl
   have := parts_ok (part := allOf (oneP e N) M) (sep := wOr) (outer := 1) (good := noAnd) (B := u.length) sep_and_any L (by intro h; subst h; simp at h2)
    (fun c hc' a b ha hb hg => by
     by_cases hc0 : c.kind = 0
     ·obtain ⟨Lc, e2, h4, h5⟩ := row_kind (mayL_mem h3 c hc') (.inl hc0)
      rw [hc0] at e2; have hsc := hss c hc'; subst e2; rw [Rul.kind, show parB 1 0 = false from rfl] at ha; rw [show parTk false (tokR (.mk 0 0 [] [] 0 Lc)) = tokR (.mk 0 0 [] [] 0 Lc) from rfl, tokR, if_neg (by decide), if_neg (by decide), if_neg (by decide), if_neg (by decide), if_neg (by decide), if_neg (by decide), if_neg (by decide)] at ha; exact and_parts h4 hsc ha (by omega) (by omega) hg
     ·refine all_par (hs c hc') (by rw [ha]; congr 1; unfold parB; by_cases h : c.kind = 1 <;> simp [h, hc0]) (by omega) (by omega) hg) M u v (by omega) hu (Nat.le_refl _) hv hv2
   rw [ruleOf, row_ok this, join_many h2]
  ·cases M with
   | zero => omega
   | succ M => exact row_one (all_one (hr (by omega)) (by omega) hu hN (by omega) hv) hv2
theorem tok_bare {k p : Int} {f x : Txt} {n : Int} {L : List Rul} (h : ¬ (k = 0 ∨ k = 1)) : parTk (decide ((Rul.mk k p f x n L).kind = 0 ∨ (Rul.mk k p f x n L).kind = 1)) (tokR (.mk k p f x n L)) = tokR (.mk k p f x n L) := by
 rw [Rul.kind, decide_eq_false h]; rfl
theorem front_ok {r : Rul} (hm : mayR r = true) {u v : List Tok} (hu : kt u = parTk (decide (r.kind = 0 ∨ r.kind = 1)) (tokR r)) : seZ compB (u ++ v) = false := by
 obtain ⟨k, p, f, x, n, L⟩ := r
 have hnm : ∀ (q : Nat) (w : List Tok), seZ compB (⟨(nmT f).1, q, (nmT f).2⟩ :: w) = false := fun q w => by
  unfold seZ compB nmT
  rcases rank_kind f with h | h | h <;> simp [h]
 by_cases h01 : k = 0 ∨ k = 1
 ·rw [Rul.kind, decide_eq_true h01, show parTk true (tokR (.mk k p f x n L)) = (5, sOpen) :: (tokR (.mk k p f x n L) ++ [(5, sShut)]) from rfl] at hu
  obtain ⟨q, w, rfl, _⟩ := kt_cons hu
  rfl
 ·rw [tok_bare h01, tokR] at hu
  have key : ∀ (y : List (Int × Txt)), kt u = nmT f :: y → seZ compB (u ++ v) = false := fun y hy => by
   obtain ⟨q, w, rfl, _⟩ := kt_cons hy; exact hnm q _
  split at hu
  ·exact key _ hu
  ·split at hu
   ·exact key _ hu
   ·split at hu
    ·exact key _ hu
    ·split at hu
     ·exact key _ hu
     ·split at hu
      ·exact key _ hu
      ·split at hu
       ·obtain ⟨q, w, rfl, _⟩ := kt_cons hu
        rfl
       ·rename_i h3 h4 h5 h6 h7 h2
        exfalso
        rw [mayR, if_neg h01, if_neg h2, if_neg (by omega), if_neg (by omega), if_neg h7] at hm
        cases hm
theorem bkz {α β : Type} {a : α} {ts : List Tok} {f : α → List Tok → Res β} : bindR (.ok (a, ts)) f = f a ts := rfl
theorem one_step {r : Rul} (hm : mayR r = true) (hs : ∀ c ∈ r.sub, OneOk c ∧ ∀ d ∈ c.sub, OneOk d) : OneOk r := by
 intro e N u v hu hN
 obtain ⟨k, p, f, x, n, L⟩ := r
 cases N with
 | zero => omega
 | succ N =>
  by_cases h01 : k = 0 ∨ k = 1
  ·rw [Rul.kind, decide_eq_true h01, show parTk true (tokR (.mk k p f x n L)) = (5, sOpen) :: (tokR (.mk k p f x n L) ++ [(5, sShut)]) from rfl] at hu
   obtain ⟨q, w, rfl, h1⟩ := kt_cons hu; obtain ⟨a, b, rfl, h2, h3⟩ := kt_split h1; obtain ⟨q2, b2, rfl, h4⟩ := kt_cons h3; obtain rfl := kt_nil h4; simp only [List.length_cons, List.length_append, List.length_nil] at hN; have h5' := rule_ok (e := e) (N := N) (M := N) hm (fun h => absurd h01 h) (fun c hc => (hs c hc).1) (fun c hc => (hs c hc).2) (v := ⟨5, q2, sShut⟩ :: v) h2 (by omega) (by omega) (by rfl) (by rfl); show oneP e (N + 1) (⟨5, q, sOpen⟩ :: (a ++ [⟨5, q2, sShut⟩]) ++ v) = _; rw [oneP, if_neg (by rw [show seZ (wdz wNot) (⟨5, q, sOpen⟩ :: (a ++ [⟨5, q2, sShut⟩]) ++ v) = false from rfl]; simp), if_pos (by rfl)]; rw [show (⟨5, q, sOpen⟩ :: (a ++ [⟨5, q2, sShut⟩]) ++ v : List Tok).tail = a ++ ⟨5, q2, sShut⟩ :: v by simp, h5']
   rfl
  ·rw [tok_bare h01, tokR] at hu
   by_cases h3 : k = 3
   ·subst h3
    rw [mayR, if_neg (by decide), if_neg (by decide), if_pos (by decide)] at hm; simp only [Bool.and_eq_true, decide_eq_true_eq] at hm; obtain ⟨⟨⟨⟨rfl, rfl⟩, hl⟩, _⟩, _⟩ := hm; obtain rfl := List.eq_nil_of_length_eq_zero hl; rw [if_pos rfl] at hu; obtain ⟨q1, w1, rfl, g1⟩ := kt_cons hu; obtain ⟨q2, w2, rfl, g2⟩ := kt_cons g1; obtain ⟨q3, w3, rfl, g3⟩ := kt_cons g2; obtain rfl := kt_nil g3; show oneP e (N + 1) (⟨(nmT f).1, q1, (nmT f).2⟩ :: ⟨5, q2, sEq⟩ :: ⟨3, q3, x⟩ :: v) = _; rw [one_atom (ts := ⟨(nmT f).1, q1, (nmT f).2⟩ :: ⟨5, q2, sEq⟩ :: ⟨3, q3, x⟩ :: v) (by rfl) (nm_not_open f q1), atomM, tyz (named_nm f q1), bkz, tyz (by rfl), bkz]
    rfl
   rw [if_neg h3] at hu
   by_cases h4 : k = 4
   ·subst h4
    rw [mayR, if_neg (by decide), if_neg (by decide), if_pos (by decide)] at hm; simp only [Bool.and_eq_true, decide_eq_true_eq] at hm; obtain ⟨⟨⟨⟨rfl, rfl⟩, hl⟩, _⟩, _⟩ := hm; obtain rfl := List.eq_nil_of_length_eq_zero hl; rw [if_pos rfl] at hu; obtain ⟨q1, w1, rfl, g1⟩ := kt_cons hu; obtain ⟨q2, w2, rfl, g2⟩ := kt_cons g1; obtain ⟨q3, w3, rfl, g3⟩ := kt_cons g2; obtain rfl := kt_nil g3; show oneP e (N + 1) (⟨(nmT f).1, q1, (nmT f).2⟩ :: ⟨5, q2, sTilde⟩ :: ⟨3, q3, x⟩ :: v) = _; rw [one_atom (ts := ⟨(nmT f).1, q1, (nmT f).2⟩ :: ⟨5, q2, sTilde⟩ :: ⟨3, q3, x⟩ :: v) (by rfl) (nm_not_open f q1), atomM, tyz (named_nm f q1), bkz, tyz (by rfl), bkz]
    rfl
   rw [if_neg h4] at hu
   by_cases h5 : k = 5
   ·subst h5
    rw [mayR, if_neg (by decide), if_neg (by decide), if_neg (by decide), if_pos (by decide)] at hm; simp only [Bool.and_eq_true, decide_eq_true_eq] at hm; obtain ⟨⟨⟨⟨⟨rfl, rfl⟩, hl⟩, _⟩, hn0⟩, hn1⟩ := hm; obtain rfl := List.eq_nil_of_length_eq_zero hl; rw [if_pos rfl] at hu; obtain ⟨q1, w1, rfl, g1⟩ := kt_cons hu; obtain ⟨q2, w2, rfl, g2⟩ := kt_cons g1; obtain ⟨q3, w3, rfl, g3⟩ := kt_cons g2; obtain rfl := kt_nil g3; show oneP e (N + 1) (⟨(nmT f).1, q1, (nmT f).2⟩ :: ⟨5, q2, sLe⟩ :: ⟨2, q3, decN 20 n.toNat⟩ :: v) = _; rw [one_atom (ts := ⟨(nmT f).1, q1, (nmT f).2⟩ :: ⟨5, q2, sLe⟩ :: ⟨2, q3, decN 20 n.toNat⟩ :: v) (by rfl) (nm_not_open f q1), atomM, tyz (named_nm f q1), bkz, tyz (by rfl), bkz]; simp only; rw [if_neg (by decide), if_neg (by decide)]; rw [if_pos trivial]; rw [num_yes hn0 hn1, bkz]
    rfl
   rw [if_neg h5] at hu
   by_cases h6 : k = 6
   ·subst h6
    rw [mayR, if_neg (by decide), if_neg (by decide), if_neg (by decide), if_pos (by decide)] at hm; simp only [Bool.and_eq_true, decide_eq_true_eq] at hm; obtain ⟨⟨⟨⟨⟨rfl, rfl⟩, hl⟩, _⟩, hn0⟩, hn1⟩ := hm; obtain rfl := List.eq_nil_of_length_eq_zero hl; rw [if_pos rfl] at hu; obtain ⟨q1, w1, rfl, g1⟩ := kt_cons hu; obtain ⟨q2, w2, rfl, g2⟩ := kt_cons g1; obtain ⟨q3, w3, rfl, g3⟩ := kt_cons g2; obtain rfl := kt_nil g3; show oneP e (N + 1) (⟨(nmT f).1, q1, (nmT f).2⟩ :: ⟨5, q2, sGe⟩ :: ⟨2, q3, decN 20 n.toNat⟩ :: v) = _; rw [one_atom (ts := ⟨(nmT f).1, q1, (nmT f).2⟩ :: ⟨5, q2, sGe⟩ :: ⟨2, q3, decN 20 n.toNat⟩ :: v) (by rfl) (nm_not_open f q1), atomM, tyz (named_nm f q1), bkz, tyz (by rfl), bkz]; simp only; rw [if_neg (by decide), if_neg (by decide)]; rw [if_neg (by decide)]; rw [num_yes hn0 hn1, bkz]
    rfl
   rw [if_neg h6] at hu
   by_cases h7 : k = 7
   ·subst h7
    rw [mayR, if_neg (by decide), if_neg (by decide), if_neg (by decide), if_neg (by decide), if_pos rfl] at hm; simp only [Bool.and_eq_true, decide_eq_true_eq] at hm; obtain ⟨⟨⟨⟨⟨rfl, hl⟩, _⟩, _⟩, hp0⟩, hp1⟩ := hm; obtain rfl := List.eq_nil_of_length_eq_zero hl; rw [if_pos rfl] at hu; obtain ⟨q1, w1, rfl, g1⟩ := kt_cons hu; obtain ⟨q2, w2, rfl, g2⟩ := kt_cons g1; obtain ⟨q3, w3, rfl, g3⟩ := kt_cons g2; obtain ⟨q4, w4, rfl, g4⟩ := kt_cons g3; obtain ⟨q5, w5, rfl, g5⟩ := kt_cons g4; obtain rfl := kt_nil g5; have hpb := paper_back p.toNat (by omega); have hpi : paperI (paperT p) = p := by unfold paperT; rw [hpb]; omega
    have hpp : ppB ⟨0, q3, paperT p⟩ = true := by
     show ((0 : Int) == 0 && decide (0 ≤ paperI (paperT p))) = true; rw [hpi]; simp [hp0]
    show oneP e (N + 1) (⟨(nmT f).1, q1, (nmT f).2⟩ :: ⟨5, q2, sEq⟩ :: ⟨0, q3, paperT p⟩ :: ⟨5, q4, sDot⟩ :: ⟨(nmT x).1, q5, (nmT x).2⟩ :: v) = _; rw [one_atom (ts := ⟨(nmT f).1, q1, (nmT f).2⟩ :: ⟨5, q2, sEq⟩ :: ⟨0, q3, paperT p⟩ :: ⟨5, q4, sDot⟩ :: ⟨(nmT x).1, q5, (nmT x).2⟩ :: v) (by rfl) (nm_not_open f q1), atomM, tyz (named_nm f q1), bkz, tyz (by rfl), bkz]; simp only; rw [if_pos trivial, if_pos (show seZ ppB (⟨0, q3, paperT p⟩ :: ⟨5, q4, sDot⟩ :: ⟨(nmT x).1, q5, (nmT x).2⟩ :: v) = true from hpp), tyz hpp, bkz, tyz (by rfl), bkz, tyz (named_nm x q5), bkz]; simp only; rw [hpi]
    rfl
   rw [if_neg h7] at hu
   by_cases h2 : k = 2
   ·subst h2
    rw [mayR, if_neg (by decide), if_pos rfl] at hm; simp only [Bool.and_eq_true, decide_eq_true_eq] at hm; obtain ⟨⟨⟨⟨⟨rfl, rfl⟩, rfl⟩, rfl⟩, hl⟩, hml⟩ := hm; rw [if_pos rfl] at hu; obtain ⟨c, rfl⟩ := List.length_eq_one_iff.1 hl; rw [tkL, tkL, if_pos rfl, List.append_nil, List.append_nil, par_same (by decide)] at hu; obtain ⟨q1, w1, rfl, g1⟩ := kt_cons hu; rw [mayL, Bool.and_eq_true] at hml; simp only [List.length_cons] at hN; have h1 := (hs c (by simp [Rul.sub])).1 e N w1 v g1 (by omega); show oneP e (N + 1) (⟨0, q1, wNot⟩ :: (w1 ++ v)) = _; rw [oneP, if_pos (by rw [List.tail_cons, front_ok hml.1 g1]; rfl), List.tail_cons, h1]
   rw [if_neg h2] at hu
   exfalso
   rw [mayR, if_neg h01, if_neg h2, if_neg (by omega), if_neg (by omega), if_neg h7] at hm
   cases hm
mutual
theorem one_ok : ∀ (r : Rul), mayR r = true → OneOk r ∧ ∀ c ∈ r.sub, OneOk c
 | .mk k p f x n L, hm => by
  have hL := one_okL L
  have : ∀ c ∈ L, OneOk c ∧ ∀ d ∈ c.sub, OneOk d := by
   by_cases h : L = []
   ·subst h; intro c hc; cases hc
   ·refine hL ?_
    rw [mayR] at hm
    split at hm
    ·simp only [Bool.and_eq_true] at hm; exact hm.2
    ·split at hm
     ·simp only [Bool.and_eq_true] at hm; exact hm.2
     ·exfalso
      have := List.length_pos_iff.2 h
      split at hm
      ·simp only [Bool.and_eq_true, decide_eq_true_eq] at hm; omega
      ·split at hm
       ·simp only [Bool.and_eq_true, decide_eq_true_eq] at hm; omega
       ·split at hm
        ·simp only [Bool.and_eq_true, decide_eq_true_eq] at hm; omega
        ·cases hm
  exact ⟨one_step hm this, fun c hc => (this c hc).1⟩
theorem one_okL : ∀ (L : List Rul), mayL L = true → ∀ c ∈ L, OneOk c ∧ ∀ d ∈ c.sub, OneOk d
 | [], _, c, h => by cases h
 | r :: L, hm, c, h => by
  rw [mayL, Bool.and_eq_true] at hm
  rcases List.mem_cons.1 h with h | h
  ·rw [h]; exact one_ok r hm.1
  ·exact one_okL L hm.2 c h
end
theorem kind7 {r : Rul} (hm : mayR r = true) : 0 ≤ r.kind ∧ r.kind ≤ 7 := by
 obtain ⟨k, p, f, x, n, L⟩ := r
 simp only [Rul.kind]
 by_cases h : 0 ≤ k ∧ k ≤ 7
 ·exact h
 ·exfalso
  rw [mayR, if_neg (by omega), if_neg (by omega), if_neg (by omega), if_neg (by omega), if_neg (by omega)] at hm
  cases hm
mutual
theorem may_crowd : ∀ r : Rul, mayR r = true → crowdR r = false
 | .mk k p f x n L, hm => by
  rw [crowdR]; rw [mayR] at hm
  split at hm
  ·simp only [Bool.and_eq_true, decide_eq_true_eq] at hm
   rw [may_crowdL L hm.2]; simp; omega
  ·split at hm
   ·simp only [Bool.and_eq_true, decide_eq_true_eq] at hm
    rw [may_crowdL L hm.2]; simp; omega
   ·have hl : L.length = 0 := by
     split at hm
     ·simp only [Bool.and_eq_true, decide_eq_true_eq] at hm; omega
     ·split at hm
      ·simp only [Bool.and_eq_true, decide_eq_true_eq] at hm; omega
      ·split at hm
       ·simp only [Bool.and_eq_true, decide_eq_true_eq] at hm; omega
       ·cases hm
    obtain rfl := List.eq_nil_of_length_eq_zero hl
    rfl
theorem may_crowdL : ∀ L : List Rul, mayL L = true → crowdL L = false
 | [], _ => rfl
 | r :: L, hm => by
  rw [mayL, Bool.and_eq_true] at hm; rw [crowdL, may_crowd r hm.1, may_crowdL L hm.2]; rfl
end
end Go.Proofs.YtjkmhlfjheiekaaGreatDoor

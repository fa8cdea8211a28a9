/- A credit's text is scanned to the credit's tokens, and read as the credit. Plain. -/
import Derived.Test.YtjkmhlfjheiekaaGreatDoorQa
namespace Go.Proofs.YtjkmhlfjheiekaaGreatDoor
open Go Go.RowKit

/-- A text that ends, or goes on with a blank or a semicolon. -/
def Brk (s : Txt) : Prop := s = [] ∨ s.head? = some 32 ∨ s.head? = some 59
theorem Brk.stop {s : Txt} (h : Brk s) : Stop s := fun c hc => by
  rcases h with h | h | h
  · rw [h] at hc; cases hc
  · rw [h] at hc; cases hc; decide
  · rw [h] at hc; cases hc; decide
theorem brk_none : Brk [] := .inl rfl
theorem brk_blank (s : Txt) : Brk (32 :: s) := .inr (.inl rfl)
theorem brk_semi (s : Txt) : Brk (59 :: s) := .inr (.inr rfl)
/-- A word's tokens. -/
def WScan (w : Txt) (tk : KT) : Prop := ∀ (rest : Txt) (l : KT), Brk rest → Scans rest l → Scans (w ++ rest) (tk ++ l)
theorem ws_name {s : Txt} (h : nameM s = true) : WScan s [nmT s] := fun _ _ hb hl => scan_name h hb.stop hl
theorem ws_num {n : Int} (h9 : n ≤ 1099511627776) : WScan (decN 20 n.toNat) [nmK n] := fun rest l hb hl => by
  have hn : n.toNat ≤ 1099511627776 := by omega
  have := scan_name (dec_name hn) hb.stop hl
  rw [dec_tok hn] at this
  exact this
theorem ws_rule {r : Rul} (h : mayR r = true) : WScan (showR r) (tokR r) := fun rest l hb hl => scan_show r h rest l hb.stop hl
theorem ws_code {s : Txt} (h : codeM s = true) : WScan s [(4, s)] := fun rest l hb hl => by
  unfold codeM at h
  rw [Bool.and_eq_true, decide_eq_true_eq] at h
  obtain ⟨h3, ha⟩ := h
  match s, h3, ha with
  | [a, b, c], _, ha =>
    simp only [List.all_cons, List.all_nil, Bool.and_true, Bool.and_eq_true] at ha
    obtain ⟨ha, hb', hc⟩ := ha
    have hba := large_not_blank a ha
    have hr : rest.takeWhile largeB = [] := by
      cases rest with
      | nil => rfl
      | cons d r =>
        rcases hb with h | h | h <;> (simp at h; try (subst h; exact List.takeWhile_cons_of_neg (by decide)))
    have hd : ([a, b, c] ++ rest).dropWhile blankB = a :: b :: c :: rest := List.dropWhile_cons_of_neg (by rw [hba.1]; simp)
    refine Scans.cons _ _ _ 3 l (by rw [hd]; simp) ?_ (by rw [hd]; exact hl)
    rw [hd, oneM, if_neg (by rw [hba.2]; simp), if_pos ha]
    simp [ha, hb', hc, hr]
theorem scan_feed {rest : Txt} {l : KT} (h : Scans rest l) : Scans (10 :: rest) l := by
  have hd : (10 :: rest).dropWhile blankB = rest.dropWhile blankB := List.dropWhile_cons_of_pos (by decide)
  cases h with
  | nil _ h => exact Scans.nil _ (by rw [hd]; exact h)
  | cons _ kd t m l hn h hr => exact Scans.cons _ kd t m l (by rw [hd]; exact hn) (by rw [hd]; exact h) (by rw [hd]; exact hr)
/-- Words with a blank between each two. -/
theorem scan_words : ∀ (ps : List (Txt × KT)), ps ≠ [] → (∀ p ∈ ps, WScan p.1 p.2) → WScan (spaced (ps.map Prod.fst)) (ps.flatMap Prod.snd)
  | [], h, _ => absurd rfl h
  | [p], _, h => by
    rw [List.map_cons, List.map_nil, spaced_one, List.flatMap_cons, List.flatMap_nil, List.append_nil]
    exact h p (by simp)
  | p :: q :: ps, _, h => by
    have ih := scan_words (q :: ps) (by simp) (fun x hx => h x (by simp [hx]))
    intro rest l hb hl
    rw [List.map_cons, List.map_cons, spaced_cons, ← List.map_cons, List.flatMap_cons, List.append_assoc, List.append_assoc, List.append_assoc]
    exact h p (by simp) _ _ (brk_blank _) (scan_blank (ih rest l hb hl))
/-- Lines' tokens. -/
def TScan (Ls : List (List Txt)) (tk : KT) : Prop := ∀ (rest : Txt) (l : KT), Scans rest l → Scans (textL Ls ++ rest) (tk ++ l)
theorem ts_line (ps : List (Txt × KT)) (hne : ps ≠ []) (h : ∀ p ∈ ps, WScan p.1 p.2) : TScan [ps.map Prod.fst] (ps.flatMap Prod.snd ++ [(5, sSemi)]) := fun rest l hl => by
  have he : textL [ps.map Prod.fst] = spaced (ps.map Prod.fst) ++ [59, 10] := by simp [textL, lineT]
  rw [he, List.append_assoc, List.append_assoc]
  refine scan_words ps hne h _ _ (brk_semi _) ?_
  exact scan_sign (c := 59) (by decide) (fun _ => rfl) (scan_feed hl)
theorem ts_app {A B : List (List Txt)} {a b : KT} (h1 : TScan A a) (h2 : TScan B b) : TScan (A ++ B) (a ++ b) := fun rest l hl => by
  rw [textL_app, List.append_assoc, List.append_assoc]
  exact h1 _ _ (h2 _ _ hl)
theorem ts_cons {x : List Txt} {B : List (List Txt)} {a b : KT} (h1 : TScan [x] a) (h2 : TScan B b) : TScan (x :: B) (a ++ b) := ts_app (A := [x]) h1 h2
theorem ts_nil : TScan [] [] := fun _ _ h => h
theorem ws_word {w : Txt} (h : nameM w = true) (hk : (rankM w).1 = 0) : WScan w [(0, w)] := by
  have := ws_name h
  unfold nmT at this
  rwa [hk] at this
theorem ts_two {w s : Txt} {b : KT} (h : WScan w [(0, w)]) (hs : WScan s b) : TScan [[w, s]] ((0, w) :: (b ++ [(5, sSemi)])) := by
  have := ts_line [(w, [(0, w)]), (s, b)] (by simp) (by intro p hp; simp at hp; rcases hp with rfl | rfl <;> assumption)
  simpa using this
theorem ts_named {x s : Txt} (hx : WScan x [(0, x)]) (hs : nameM s = true) : TScan [[x, s]] (lineK x s) := ts_two hx (ws_name hs)
set_option maxRecDepth 100000 in
theorem words_ok : WScan wCredit [(0, wCredit)] ∧ WScan wApplicant [(0, wApplicant)] ∧ WScan wBeneficiary [(0, wBeneficiary)] ∧ WScan wIssuer [(0, wIssuer)] ∧ WScan wConfirmer [(0, wConfirmer)] ∧ WScan wFrom [(0, wFrom)] ∧ WScan wTo [(0, wTo)] ∧ WScan wSum [(0, wSum)] ∧ WScan wAbove [(0, wAbove)] ∧ WScan wBelow [(0, wBelow)] ∧ WScan wLatest [(0, wLatest)] ∧ WScan wExpiry [(0, wExpiry)] ∧ WScan wWithin [(0, wWithin)] ∧ WScan wDays [(0, wDays)] ∧ WScan wTenor [(0, wTenor)] ∧ WScan wSight [(0, wSight)] ∧ WScan wPartial [(0, wPartial)] ∧ WScan wChange [(0, wChange)] ∧ WScan wYes [(0, wYes)] ∧ WScan wNo [(0, wNo)] ∧ WScan wWants [(0, wWants)] ∧ WScan wCopies [(0, wCopies)] ∧ WScan wWith [(0, wWith)] := by
  refine ⟨?_, ?_, ?_, ?_, ?_, ?_, ?_, ?_, ?_, ?_, ?_, ?_, ?_, ?_, ?_, ?_, ?_, ?_, ?_, ?_, ?_, ?_, ?_⟩ <;> exact ws_word (by decide) (by decide)
theorem ws_yes (b : Bool) : WScan (yesT b) [(0, yesT b)] := by
  obtain ⟨_, _, _, _, _, _, _, _, _, _, _, _, _, _, _, _, _, _, hy, hn, _⟩ := words_ok
  cases b
  · exact hn
  · exact hy
theorem ws_paper {p : Int} (h0 : 0 ≤ p) (h6 : p < 6) : WScan (paperT p) [(0, paperT p)] := ws_word (paper_name p.toNat (by omega)).1 (paper_name p.toNat (by omega)).2
/-- What is asked of a credit that may be. -/
structure Crd.names1 (c : Crd) : Prop where
  number : nameM c.number = true
  applicant : nameM c.applicant = true
  beneficiary : nameM c.beneficiary = true
  issuer : nameM c.issuer = true
  confirmer : c.confirmer = [] ∨ nameM c.confirmer = true
  orig : nameM c.orig = true
  dest : nameM c.dest = true
  currency : codeM c.currency = true
theorem top_scan {c : Crd} (hn : c.names1) (hf : c.fits) : TScan (topL c) (topK c) := by
  obtain ⟨w1, w2, w3, w4, w5, w6, w7, w8, w9, w10, w11, w12, w13, w14, w15, w16, w17, w18, _, _, _, _, _⟩ := words_ok
  have hh : TScan (heads c) (lineK wCredit c.number ++ (lineK wApplicant c.applicant ++ (lineK wBeneficiary c.beneficiary ++ (lineK wIssuer c.issuer ++ [])))) :=
    ts_cons (ts_named w1 hn.number) (ts_cons (ts_named w2 hn.applicant) (ts_cons (ts_named w3 hn.beneficiary) (ts_cons (ts_named w4 hn.issuer) ts_nil)))
  have hc : TScan (confL c) (confK c.confirmer) := by
    unfold confL confK
    by_cases hz : c.confirmer = []
    · rw [if_pos hz, if_pos hz]; exact ts_nil
    · rw [if_neg hz, if_neg hz]; exact ts_named w5 (hn.confirmer.resolve_left hz)
  have hs : TScan [[wSum, c.currency, decN 20 c.amount.toNat, wAbove, decN 20 c.above.toNat, wBelow, decN 20 c.below.toNat]] (sumK c) := by
    have := ts_line [(wSum, [(0, wSum)]), (c.currency, [(4, c.currency)]), (decN 20 c.amount.toNat, [nmK c.amount]), (wAbove, [(0, wAbove)]), (decN 20 c.above.toNat, [nmK c.above]), (wBelow, [(0, wBelow)]), (decN 20 c.below.toNat, [nmK c.below])] (by simp) (by
      intro p hp
      simp at hp
      rcases hp with rfl | rfl | rfl | rfl | rfl | rfl | rfl
      · exact w8
      · exact ws_code hn.currency
      · exact ws_num hf.amount.2
      · exact w9
      · exact ws_num (by have := hf.above.2; omega)
      · exact w10
      · exact ws_num (by have := hf.below.2; omega))
    simpa [sumK] using this
  have hw : TScan [[wWithin, decN 20 c.within.toNat, wDays]] [(0, wWithin), nmK c.within, (0, wDays), (5, sSemi)] := by
    have := ts_line [(wWithin, [(0, wWithin)]), (decN 20 c.within.toNat, [nmK c.within]), (wDays, [(0, wDays)])] (by simp) (by
      intro p hp
      simp at hp
      rcases hp with rfl | rfl | rfl
      · exact w13
      · exact ws_num (by have := hf.within.2; omega)
      · exact w14)
    simpa using this
  have hm : TScan (midL c) (lineK wFrom c.orig ++ (lineK wTo c.dest ++ (sumK c ++ (dayK wLatest c.latest ++ (dayK wExpiry c.expiry ++ ([(0, wWithin), nmK c.within, (0, wDays), (5, sSemi)] ++ [])))))) :=
    ts_cons (ts_named w6 hn.orig) (ts_cons (ts_named w7 hn.dest) (ts_cons hs (ts_cons (ts_two w11 (ws_num (by have := hf.latest.2; omega))) (ts_cons (ts_two w12 (ws_num (by have := hf.expiry.2; omega))) (ts_cons hw ts_nil)))))
  have ht : TScan (Go.Proofs.YtjkmhlfjheiekaaGreatDoor.tenL c) (tenK c.tenor) := by
    unfold Go.Proofs.YtjkmhlfjheiekaaGreatDoor.tenL tenK
    by_cases hz : c.tenor = 0
    · rw [if_pos hz, if_pos hz]; exact ts_two w15 w16
    · rw [if_neg hz, if_neg hz]
      have := ts_line [(wTenor, [(0, wTenor)]), (decN 20 c.tenor.toNat, [nmK c.tenor]), (wDays, [(0, wDays)])] (by simp) (by
        intro p hp
        simp at hp
        rcases hp with rfl | rfl | rfl
        · exact w15
        · exact ws_num (by have := hf.tenor.2; omega)
        · exact w14)
      simp at this
      exact this
  have hp : TScan [[wPartial, yesT c.part]] (choiceK wPartial c.part) := ts_two w17 (ws_yes _)
  have hg : TScan [[wChange, yesT c.change]] (choiceK wChange c.change) := ts_two w18 (ws_yes _)
  have := ts_app (ts_app (ts_app (ts_app (ts_app hh hc) hm) ht) hp) hg
  simp only [List.append_assoc, List.append_nil] at this
  unfold topL topK
  simp only [List.append_assoc]
  exact this
theorem need_scan {x : Nd} (hx : needM x = true) : TScan [needL x] (needK (ndP x)) := by
  obtain ⟨_, _, _, _, _, _, _, _, _, _, _, _, _, _, _, _, _, _, _, _, w21, w22, w23⟩ := words_ok
  obtain ⟨a1, a2, a3, a4, a5⟩ := need_parts hx
  unfold needL needK withK ndP
  simp only
  by_cases ha : alwaysR (strip x.rule) = true
  · rw [if_pos ha, if_pos ha]
    have := ts_line [(wWants, [(0, wWants)]), (paperT x.kind, [(0, paperT x.kind)]), (wCopies, [(0, wCopies)]), (decN 20 x.count.toNat, [nmK x.count])] (by simp) (by
      intro p hp
      simp at hp
      rcases hp with rfl | rfl | rfl | rfl
      · exact w21
      · exact ws_paper a1 a2
      · exact w22
      · exact ws_num (by omega))
    simp at this ⊢
    exact this
  · rw [if_neg ha, if_neg ha]
    have := ts_line [(wWants, [(0, wWants)]), (paperT x.kind, [(0, paperT x.kind)]), (wCopies, [(0, wCopies)]), (decN 20 x.count.toNat, [nmK x.count]), (wWith, [(0, wWith)]), (showR (strip x.rule), tokR (strip x.rule))] (by simp) (by
      intro p hp
      simp at hp
      rcases hp with rfl | rfl | rfl | rfl | rfl | rfl
      · exact w21
      · exact ws_paper a1 a2
      · exact w22
      · exact ws_num (by omega)
      · exact w23
      · exact ws_rule (a5.resolve_left ha))
    simp at this ⊢
    exact this
theorem needs_scan : ∀ l : List Nd, (∀ x ∈ l, needM x = true) → TScan (l.map needL) ((l.map ndP).flatMap needK)
  | [], _ => ts_nil
  | x :: l, h => by
    rw [List.map_cons, List.map_cons, List.flatMap_cons]
    exact ts_cons (need_scan (h x (by simp))) (needs_scan l fun y hy => h y (by simp [hy]))
theorem credit_parts {c : Crd} {l : List Nd} (h : creditM c l = true) : c.names1 ∧ c.fits ∧ l.length ≤ 64 ∧ ∀ x ∈ l, needM x = true := by
  simp only [creditM, namesM, daysM, List.all_cons, List.all_nil, Bool.and_eq_true, Bool.or_eq_true, decide_eq_true_eq, List.all_eq_true, beq_iff_eq, and_true] at h
  obtain ⟨⟨⟨⟨⟨⟨a1, a2, a3, a4, a5, a6⟩, a7, a8⟩, a10⟩, a12, a14⟩, a16, a18, a20, a22⟩, a24, a25⟩ := h
  exact ⟨⟨a1, a2, a3, a4, a7, a5, a6, a8⟩, ⟨a10, a12, a14, a16, a18, a20, a22⟩, a24, a25⟩
theorem needP_of {x : Nd} (h : needM x = true) : needP (ndP x) = true := h
/-- The credit's text, to its tokens. -/
theorem credit_scan {c : Crd} {l : List Nd} (h : creditM c l = true) : Scans (creditT c l) (topK c ++ (l.map ndP).flatMap needK) := by
  obtain ⟨hn, hf, _, hl⟩ := credit_parts h
  have := ts_app (top_scan hn hf) (needs_scan l hl) [] [] (Scans.nil _ rfl)
  rwa [List.append_nil, List.append_nil] at this
/-- Any tokens of a credit's kinds and texts, out of any text of at most 4096 bytes: the credit. -/
theorem parse_tokens_back {c : Crd} {l : List Nd} (h : creditM c l = true) {s : Txt} {ts : List Tok} (hs : s.length ≤ 4096) (hsc : scanT s = .ok ts) (hk : kt ts = topK c ++ (l.map ndP).flatMap needK) : parseT s = .ok (c, l.map ndP) := by
  obtain ⟨hn, hf, h64, hl⟩ := credit_parts h
  obtain ⟨k, pl, hr⟩ := credit_read (e := s.length) hf (T := l.map ndP) (fun x hx => by obtain ⟨y, hy, rfl⟩ := List.mem_map.1 hx; exact needP_of (hl y hy)) (by simpa using h64) hk
  unfold parseT
  rw [if_neg (by omega), hsc]
  simp only
  rw [hr]; rfl
/-- **What is printed is parsed to the same credit.** -/
theorem credit_back {c : Crd} {l : List Nd} (h : creditM c l = true) (hs : (creditT c l).length ≤ 4096) : parseT (creditT c l) = .ok (c, l.map ndP) := by
  have hsc := credit_scan h
  have hlen := scans_len hsc
  obtain ⟨ts, e1, e2⟩ := scans_ok hsc ((creditT c l).length + 1) 0 0 (by omega) (by omega)
  exact parse_tokens_back h hs e1 e2
end Go.Proofs.YtjkmhlfjheiekaaGreatDoor

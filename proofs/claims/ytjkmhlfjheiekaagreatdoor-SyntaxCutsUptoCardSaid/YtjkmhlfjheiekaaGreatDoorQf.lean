import Derived.Test.YtjkmhlfjheiekaaGreatDoorPe
import Derived.Test.YtjkmhlfjheiekaaGreatDoorPh
import Derived.Test.YtjkmhlfjheiekaaGreatDoorPi
import Derived.Test.YtjkmhlfjheiekaaGreatDoorQa
import Derived.Test.YtjkmhlfjheiekaaGreatDoorSb
import Derived.Test.YtjkmhlfjheiekaaGreatDoorTf
import Derived.Test.YtjkmhlfjheiekaaGreatDoorVc
import Derived.Test.YtjkmhlfjheiekaaGreatDoorWd
import Derived.Test.YtjkmhlfjheiekaaGreatDoorYd
import Derived.Test.YtjkmhlfjheiekaaGreatDoorYg
set_option maxRecDepth 1000000
set_option maxHeartbeats 51200000
namespace Go.Proofs.YtjkmhlfjheiekaaGreatDoor
open Go Go.RowKit Go.BigFrame Go.Maps
def ex1 : Txt := [110, 111, 116, 32, 40, 97, 32, 61, 32, 34, 120, 34, 32, 111, 114, 32, 98, 32, 60, 61, 32, 53, 41, 32, 97, 110, 100, 32, 99, 32, 126, 32, 34, 121, 34]
def ex2 : Txt := [115, 117, 109, 32, 61, 32, 105, 110, 118, 111, 105, 99, 101, 46, 115, 117, 109]
def exR1 : Rul := .mk 0 0 [] [] 0 [.mk 2 0 [] [] 0 [.mk 1 0 [] [] 0 [.mk 3 0 [97] [120] 0 [], .mk 5 0 [98] [] 5 []]], .mk 4 0 [99] [121] 0 []]
def exR2 : Rul := .mk 7 0 [115, 117, 109] [115, 117, 109] 0 []
theorem ex1_rule : ruleT ex1 = .ok exR1 := by kernel_rfl
theorem ex2_rule : ruleT ex2 = .ok exR2 := by kernel_rfl
theorem ex1_shown : shownR exR1 = ex1 := by kernel_rfl
theorem ex1_size : szR exR1 ≤ mostZ := of_decide_eq_true (by kernel_rfl)
theorem strips_two {L : List Tree} {a b : Rul} (h : sSz L = [a, b]) : ∃ t u, L = [t, u] ∧ stz t = a ∧ stz u = b := by
 match L, h with
 | [t, u], h =>
  rw [sSz, sSz, sSz] at h; simp only [List.cons.injEq, and_true] at h; exact ⟨t, u, rfl, h.1, h.2⟩
 | [], h => rw [sSz] at h; cases h
 | [t], h => rw [sSz, sSz] at h; simp at h
 | t :: u :: v :: L, h => rw [sSz, sSz, sSz] at h; simp at h
theorem awake_any (w : World) (he : Hid (Env w)) : Cz 12 #[] w fun e w' => e = .returned (.bool true) ∧ Bz w w' := by
 have hc1 : Hid (Cz 13 #[.string ⟨#[110, 111, 116, 32, 40, 97, 32, 61, 32, 34, 120, 34, 32, 111, 114, 32, 98, 32, 60, 61, 32, 53, 41, 32, 97, 110, 100, 32, 99, 32, 126, 32, 34, 121, 34]⟩] w (RuleOut w ex1)) := rule_full_any ⟨#[110, 111, 116, 32, 40, 97, 32, 61, 32, 34, 120, 34, 32, 111, 114, 32, 98, 32, 60, 61, 32, 53, 41, 32, 97, 110, 100, 32, 99, 32, 126, 32, 34, 121, 34]⟩ w (by unfold maxLen; decide) he
 have hc2 : Hid (∀ W, Bz w W → Cz 13 #[.string ⟨#[115, 117, 109, 32, 61, 32, 105, 110, 118, 111, 105, 99, 101, 46, 115, 117, 109]⟩] W (RuleOut W ex2)) := fun W hW => rule_full_any ⟨#[115, 117, 109, 32, 61, 32, 105, 110, 118, 111, 105, 99, 101, 46, 115, 117, 109]⟩ W (by unfold maxLen; decide) (he.out.below hW)
 have ht1 : (⟨#[110, 111, 116, 32, 40, 97, 32, 61, 32, 34, 120, 34, 32, 111, 114, 32, 98, 32, 60, 61, 32, 53, 41, 32, 97, 110, 100, 32, 99, 32, 126, 32, 34, 121, 34]⟩ : ByteArray).toList = [110, 111, 116, 32, 40, 97, 32, 61, 32, 34, 120, 34, 32, 111, 114, 32, 98, 32, 60, 61, 32, 53, 41, 32, 97, 110, 100, 32, 99, 32, 126, 32, 34, 121, 34] := by simp [ByteArray.toList_eq]
 go_enter Tryz.func12, Tryz.ntmps12
 go_wp2_with fail
 refine hc1.out.mono ?_
 rintro e w1 ⟨hB1, hcase⟩
 rw [ex1_rule] at hcase
 obtain ⟨t, rfl, hT, hst⟩ := hcase
 have hB1' := hdZ hB1
 have hshow : Hid (∀ W, Bz w1 W → Cz 17 #[.agg t.cells] W fun e w' => e = .returned (.string ⟨#[110, 111, 116, 32, 40, 97, 32, 61, 32, 34, 120, 34, 32, 111, 114, 32, 98, 32, 60, 61, 32, 53, 41, 32, 97, 110, 100, 32, 99, 32, 126, 32, 34, 121, 34]⟩) ∧ Bz W w') := fun W hW => by
  have := showR_any t W _ (he.out.below (hB1.trans (hW.mono hB1.size))) (hdZ (hT.below hW)) (by unfold Hid; rw [hst]; exact ex1_size); rw [hst, ex1_shown] at this; exact this
 obtain ⟨k, p, f, x, n, A, c, L⟩ := t
 rw [stz, exR1] at hst
 simp only [Rul.mk.injEq] at hst
 obtain ⟨rfl, rfl, rfl, rfl, rfl, hL⟩ := hst
 obtain ⟨t1, t2, rfl, hs1, hs2⟩ := strips_two hL
 rw [TAz, RAz, RAz, RAz] at hT
 obtain ⟨⟨hc1', _, hc2', _, _⟩, _⟩ := hT
 obtain ⟨k1, p1, f1, x1, n1, A1, cc1, LL1⟩ := t1
 obtain ⟨k2, p2, f2, x2, n2, A2, cc2, LL2⟩ := t2
 rw [stz] at hs1 hs2
 simp only [Rul.mk.injEq] at hs1 hs2
 obtain ⟨rfl, _⟩ := hs1
 obtain ⟨rfl, _⟩ := hs2
 obtain ⟨bb, off, rfl, _, g0, _⟩ := hc1'
 obtain ⟨bb', off', ho, _, g1, _⟩ := hc2'
 simp only [Option.some.injEq, Addr.mk.injEq, and_true] at ho
 obtain ⟨rfl, rfl⟩ := ho
 rw [Nat.zero_mul, Nat.add_zero] at g0
 rw [Nat.zero_add, Nat.one_mul] at g1
 have glt : bb < w1.heap.size := World.block_lt_of_cell? w1 _ g0
 have hbl : Bz w1 (w1.alloc (.cells #[Iz 0, Iz 0, S0z, S0z, Iz 0, .slice (some (Az bb off)) 2 c] 25)) := (Below.refl _ w1).alloc leZ _
 have hsw := hdZ (hshow.out _ hbl)
 have hB2 := hdZ (hB1.trans (hbl.mono hB1.size))
 unfold Tree.cells at hsw
 simp only [List.length_cons, List.length_nil, Nat.zero_add, Nat.reduceAdd] at hsw
 clear hbl hc1 hB1 hshow hL
 unfold Tree.cells
 simp only [List.length_cons, List.length_nil, Nat.zero_add, Nat.reduceAdd]
 go_wp2_with fail
 refine hsw.out.mono ?_
 rintro e w2 ⟨rfl, hb2⟩
 have hB3 := hdZ (hB2.out.trans (hb2.mono hB2.out.size))
 have hc3 := hdZ (hc2.out w2 hB3.out)
 clear hb2 hsw hc2 g0 g1 glt
 go_wp2_with fail
 refine hc3.out.mono ?_
 rintro e w3 ⟨hB4, hcase⟩
 rw [ex2_rule] at hcase
 obtain ⟨t, rfl, _, hst⟩ := hcase
 have hB5 := hdZ (hB3.out.trans (hB4.mono hB3.out.size))
 obtain ⟨k, p, f, x, n, A, c9, L⟩ := t
 rw [stz, exR2] at hst
 simp only [Rul.mk.injEq] at hst
 obtain ⟨rfl, rfl, rfl, rfl, rfl, hL⟩ := hst
 have ht2 : (⟨[115, 117, 109].toArray⟩ : ByteArray).toList = [115, 117, 109] := by simp [ByteArray.toList_eq]
 clear hB4 hc3 hL
 unfold Tree.cells
 go_wp2_with fail
 go_ret
 exact ⟨rfl, hB5.out.alloc hB5.out.size _⟩
theorem eqCr_refl (c : Crd) : eqCr c c = true := by
 unfold eqCr eqNm eqNu; simp
theorem wpList_load_blkg {P : Program} {ops : Array Oper} {o : Oper} {rest : List Oper} {a : Act} {w : World} {Q : Exit → Act → World → Prop} (hw : Region.wanted o (yielded ops a.tmps) = true) (ty : TypeId) (x : Operand) (ho : o.op = .load ty x) (g : Nat) (cs : Array Value) (t : TypeId) (d : TypeDesc) (hx : a.eval x = .pointer (some (Az g 0)))
  (hb : Blk w g t cs) (hu : P.underlying ty = some d) (hd : (match d with | .struct _ | .array _ _ => true | _ => false) = true) (hi : (P.info? ty).map (·.size) = some cs.size)
  (h : wpList P ops Q rest (a.put o.dst (.agg cs)) w) : wpList P ops Q (o :: rest) a w := by
 rw [wpList, if_pos hw]
 exact .inl (wp_load_row ty x ho g hx t cs (0, 0) d hb hu hd hi h)
def kC (s : Txt) : Nat := match parseT s with | .ok _ => 0 | .error (k, _) => k
def cC (s : Txt) : Int := match parseT s with | .ok _ => 0 | .error (_, c) => c
def zeroCrd : Crd := ⟨[], [], [], [], [], [], [], [], 0, 0, 0, 0, 0, 0, 0, false, false⟩
def crC (s : Txt) : Crd := match parseT s with | .ok r => r.1 | .error _ => zeroCrd
def ndC (s : Txt) : List NdP := match parseT s with | .ok r => r.2 | .error _ => []
theorem parsed_all {w w' : World} {s : Txt} {x : Ending} (h : Parsed w (parseT s) x w') : Bz w w' ∧ ∃ (T : List Nd) (A2 : Option Addr) (c2 : Nat), x = .returned (.tuple #[.agg ((crC s).cells (.slice A2 T.length c2)), Iz (kC s : Nat), Iz (cC s)]) ∧ NdsAt w' (fun b => w.heap.size ≤ b) A2 T ∧ T.map ndP = ndC s ∧ T.length ≤ 5000 := by
 unfold Parsed at h
 unfold kC cC crC ndC
 obtain ⟨hb, h⟩ := h
 refine ⟨hb, ?_⟩
 cases hr : parseT s with
 | ok r =>
  obtain ⟨cr, L⟩ := r; rw [hr] at h; exact h
 | error q =>
  obtain ⟨k, c⟩ := q; rw [hr] at h; exact ⟨[], none, 0, h.1, fun k x hx => by simp at hx, rfl, by simp⟩
theorem eqBy_map : ∀ T T' : List Nd, T.map ndP = T'.map ndP → eqBy eqNd T T' = true
 | [], [], _ => rfl
 | [], _ :: _, h => by simp at h
 | _ :: _, [], h => by simp at h
 | a :: T, b :: T', h => by
  simp only [List.map_cons, List.cons.injEq] at h; rw [eqBy, eqBy_map T T' h.2]; have h1 := h.1; unfold ndP at h1; simp only [Prod.mk.injEq] at h1; unfold eqNd; rw [h1.1, h1.2.1, h1.2.2]; simp [eqR_refl]
open Go Go.RowKit
def Brk (s : Txt) : Prop := s = [] ∨ s.head? = some 32 ∨ s.head? = some 59
theorem Brk.stop {s : Txt} (h : Brk s) : Stop s := fun c hc => by
 rcases h with h | h | h
 ·rw [h] at hc; cases hc
 ·rw [h] at hc; cases hc; decide
 ·rw [h] at hc; cases hc; decide
theorem brk_none : Brk [] := .inl rfl
theorem brk_blank (s : Txt) : Brk (32 :: s) := .inr (.inl rfl)
theorem brk_semi (s : Txt) : Brk (59 :: s) := .inr (.inr rfl)
def WScan (w : Txt) (tk : KT) : Prop := ∀ (rest : Txt) (l : KT), Brk rest → Scans rest l → Scans (w ++ rest) (tk ++ l)
theorem ws_name {s : Txt} (h : nameM s = true) : WScan s [nmT s] := fun _ _ hb hl => scan_name h hb.stop hl
theorem ws_num {n : Int} (h9 : n ≤ 1099511627776) : WScan (decN 20 n.toNat) [nmK n] := fun rest l hb hl => by
 have hn : n.toNat ≤ 1099511627776 := by omega
 have := scan_name (dec_name hn) hb.stop hl
 rw [dec_tok hn] at this
 exact this
theorem ws_rule {r : Rul} (h : mayR r = true) : WScan (showR r) (tokR r) := fun rest l hb hl => scan_show r h rest l hb.stop hl
theorem ws_code {s : Txt} (h : codeM s = true) : WScan s [(4, s)] := fun rest l hb hl => by
 unfold codeM at h
 rw [Bool.and_eq_true, decide_eq_true_eq] at h
 obtain ⟨h3, ha⟩ := h
 match s, h3, ha with
 | [a, b, c], _, ha =>
  simp only [List.all_cons, List.all_nil, Bool.and_true, Bool.and_eq_true] at ha; obtain ⟨ha, hb', hc⟩ := ha; have hba := large_not_blank a ha
  have hr : rest.takeWhile lgB = [] := by
   cases rest with
   | nil => rfl
   | cons d r =>
    rcases hb with h | h | h <;> (simp at h; try (subst h; exact List.takeWhile_cons_of_neg (by decide)))
  have hd : ([a, b, c] ++ rest).dropWhile bkB = a :: b :: c :: rest := List.dropWhile_cons_of_neg (by rw [hba.1]; simp); refine Scans.cons _ _ _ 3 l (by rw [hd]; simp) ?_ (by rw [hd]; exact hl); rw [hd, oneM, if_neg (by rw [hba.2]; simp), if_pos ha]; simp [ha, hb', hc, hr]
theorem scan_feed {rest : Txt} {l : KT} (h : Scans rest l) : Scans (10 :: rest) l := by
 have hd : (10 :: rest).dropWhile bkB = rest.dropWhile bkB := List.dropWhile_cons_of_pos (by decide)
 cases h with
 | nil _ h => exact Scans.nil _ (by rw [hd]; exact h)
 | cons _ kd t m l hn h hr => exact Scans.cons _ kd t m l (by rw [hd]; exact hn) (by rw [hd]; exact h) (by rw [hd]; exact hr)
theorem scan_words : ∀ (ps : List (Txt × KT)), ps ≠ [] → (∀ p ∈ ps, WScan p.1 p.2) → WScan (spaced (ps.map Prod.fst)) (ps.flatMap Prod.snd)
 | [], h, _ => absurd rfl h
 | [p], _, h => by
  rw [List.map_cons, List.map_nil, spaced_one, List.flatMap_cons, List.flatMap_nil, List.append_nil]; exact h p (by simp)
 | p :: q :: ps, _, h => by
  have ih := scan_words (q :: ps) (by simp) (fun x hx => h x (by simp [hx])); intro rest l hb hl; rw [List.map_cons, List.map_cons, spaced_cons, ← List.map_cons, List.flatMap_cons, List.append_assoc, List.append_assoc, List.append_assoc]; exact h p (by simp) _ _ (brk_blank _) (sbz (ih rest l hb hl))
def TScan (Ls : List (List Txt)) (tk : KT) : Prop := ∀ (rest : Txt) (l : KT), Scans rest l → Scans (textL Ls ++ rest) (tk ++ l)
theorem ts_line (ps : List (Txt × KT)) (hne : ps ≠ []) (h : ∀ p ∈ ps, WScan p.1 p.2) : TScan [ps.map Prod.fst] (ps.flatMap Prod.snd ++ [(5, sSemi)]) := fun rest l hl => by
 have he : textL [ps.map Prod.fst] = spaced (ps.map Prod.fst) ++ [59, 10] := by simp [textL, lineT]
 rw [he, List.append_assoc, List.append_assoc]
 refine scan_words ps hne h _ _ (brk_semi _) ?_
 exact scan_sign (c := 59) (by decide) (fun _ => rfl) (scan_feed hl)
theorem ts_app {A B : List (List Txt)} {a b : KT} (h1 : TScan A a) (h2 : TScan B b) : TScan (A ++ B) (a ++ b) := fun rest l hl => by
 rw [textL_app, List.append_assoc, List.append_assoc]
 exact h1 _ _ (h2 _ _ hl)
theorem ts_cons {x : List Txt} {B : List (List Txt)} {a b : KT} (h1 : TScan [x] a) (h2 : TScan B b) : TScan (x :: B) (a ++ b) := ts_app (A := [x]) h1 h2
theorem ts_nil : TScan [] [] := fun _ _ h => h
theorem ws_word {w : Txt} (h : nameM w = true) (hk : (rankM w).1 = 0) : WScan w [(0, w)] := by
 have := ws_name h
 unfold nmT at this
 rwa [hk] at this
theorem ts_two {w s : Txt} {b : KT} (h : WScan w [(0, w)]) (hs : WScan s b) : TScan [[w, s]] ((0, w) :: (b ++ [(5, sSemi)])) := by
 have := ts_line [(w, [(0, w)]), (s, b)] (by simp) (by intro p hp; simp at hp; rcases hp with rfl | rfl <;> assumption)
 simpa using this
theorem ts_named {x s : Txt} (hx : WScan x [(0, x)]) (hs : nameM s = true) : TScan [[x, s]] (lineK x s) := ts_two hx (ws_name hs)
theorem words_ok : WScan wCredit [(0, wCredit)] ∧ WScan wApz [(0, wApz)] ∧ WScan wBnz [(0, wBnz)] ∧ WScan wIssuer [(0, wIssuer)] ∧ WScan wCfz [(0, wCfz)] ∧ WScan wFrom [(0, wFrom)] ∧ WScan wTo [(0, wTo)] ∧ WScan wSum [(0, wSum)] ∧ WScan wAbove [(0, wAbove)] ∧ WScan wBelow [(0, wBelow)] ∧ WScan wLatest [(0, wLatest)] ∧ WScan wExpiry [(0, wExpiry)] ∧ WScan wWithin [(0, wWithin)] ∧ WScan wDays [(0, wDays)] ∧ WScan wTenor [(0, wTenor)] ∧ WScan wSight [(0, wSight)] ∧ WScan wPartial [(0, wPartial)] ∧ WScan wChange [(0, wChange)] ∧ WScan wYes [(0, wYes)] ∧ WScan wNo [(0, wNo)] ∧ WScan wWz [(0, wWz)] ∧ WScan wCz [(0, wCz)] ∧ WScan wWith [(0, wWith)] := by
 refine ⟨?_, ?_, ?_, ?_, ?_, ?_, ?_, ?_, ?_, ?_, ?_, ?_, ?_, ?_, ?_, ?_, ?_, ?_, ?_, ?_, ?_, ?_, ?_⟩ <;> exact ws_word (by decide) (by decide)
theorem ws_yes (b : Bool) : WScan (yesT b) [(0, yesT b)] := by
 obtain ⟨_, _, _, _, _, _, _, _, _, _, _, _, _, _, _, _, _, _, hy, hn, _⟩ := words_ok
 cases b
 ·exact hn
 ·exact hy
theorem ws_paper {p : Int} (h0 : 0 ≤ p) (h6 : p < 6) : WScan (paperT p) [(0, paperT p)] := ws_word (paper_name p.toNat (by omega)).1 (paper_name p.toNat (by omega)).2
structure Crd.names1 (c : Crd) : Prop where
 number : nameM c.number = true
 applicant : nameM c.applicant = true
 beneficiary : nameM c.beneficiary = true
 issuer : nameM c.issuer = true
 confirmer : c.confirmer = [] ∨ nameM c.confirmer = true
 orig : nameM c.orig = true
 dest : nameM c.dest = true
 currency : codeM c.currency = true
theorem top_scan {c : Crd} (hn : c.names1) (hf : c.fits) : TScan (topL c) (topK c) := by
 obtain ⟨w1, w2, w3, w4, w5, w6, w7, w8, w9, w10, w11, w12, w13, w14, w15, w16, w17, w18, _, _, _, _, _⟩ := words_ok
 have hh : TScan (heads c) (lineK wCredit c.number ++ (lineK wApz c.applicant ++ (lineK wBnz c.beneficiary ++ (lineK wIssuer c.issuer ++ [])))) :=
  ts_cons (ts_named w1 hn.number) (ts_cons (ts_named w2 hn.applicant) (ts_cons (ts_named w3 hn.beneficiary) (ts_cons (ts_named w4 hn.issuer) ts_nil)))
 have hc : TScan (confL c) (confK c.confirmer) := by
  unfold confL confK
  by_cases hz : c.confirmer = []
  ·rw [if_pos hz, if_pos hz]; exact ts_nil
  ·rw [if_neg hz, if_neg hz]; exact ts_named w5 (hn.confirmer.resolve_left hz)
 have hs : TScan [[wSum, c.currency, decN 20 c.amount.toNat, wAbove, decN 20 c.above.toNat, wBelow, decN 20 c.below.toNat]] (sumK c) := by
  have := ts_line [(wSum, [(0, wSum)]), (c.currency, [(4, c.currency)]), (decN 20 c.amount.toNat, [nmK c.amount]), (wAbove, [(0, wAbove)]), (decN 20 c.above.toNat, [nmK c.above]), (wBelow, [(0, wBelow)]), (decN 20 c.below.toNat, [nmK c.below])] (by simp) (by
   intro p hp; simp at hp
   rcases hp with rfl | rfl | rfl | rfl | rfl | rfl | rfl
   ·exact w8
   ·exact ws_code hn.currency
   ·exact ws_num hf.amount.2
   ·exact w9
   ·exact ws_num (by have := hf.above.2; omega)
   ·exact w10
   ·exact ws_num (by have := hf.below.2; omega))
  simpa [sumK] using this
 have hw : TScan [[wWithin, decN 20 c.within.toNat, wDays]] [(0, wWithin), nmK c.within, (0, wDays), (5, sSemi)] := by
  have := ts_line [(wWithin, [(0, wWithin)]), (decN 20 c.within.toNat, [nmK c.within]), (wDays, [(0, wDays)])] (by simp) (by
   intro p hp; simp at hp
   rcases hp with rfl | rfl | rfl
   ·exact w13
   ·exact ws_num (by have := hf.within.2; omega)
   ·exact w14)
  simpa using this
 have hm : TScan (midL c) (lineK wFrom c.orig ++ (lineK wTo c.dest ++ (sumK c ++ (dayK wLatest c.latest ++ (dayK wExpiry c.expiry ++ ([(0, wWithin), nmK c.within, (0, wDays), (5, sSemi)] ++ [])))))) :=
  ts_cons (ts_named w6 hn.orig) (ts_cons (ts_named w7 hn.dest) (ts_cons hs (ts_cons (ts_two w11 (ws_num (by have := hf.latest.2; omega))) (ts_cons (ts_two w12 (ws_num (by have := hf.expiry.2; omega))) (ts_cons hw ts_nil)))))
 have ht : TScan (Go.Proofs.YtjkmhlfjheiekaaGreatDoor.tenL c) (tenK c.tenor) := by
  unfold Go.Proofs.YtjkmhlfjheiekaaGreatDoor.tenL tenK
  by_cases hz : c.tenor = 0
  ·rw [if_pos hz, if_pos hz]; exact ts_two w15 w16
  ·rw [if_neg hz, if_neg hz]
   have := ts_line [(wTenor, [(0, wTenor)]), (decN 20 c.tenor.toNat, [nmK c.tenor]), (wDays, [(0, wDays)])] (by simp) (by
    intro p hp; simp at hp
    rcases hp with rfl | rfl | rfl
    ·exact w15
    ·exact ws_num (by have := hf.tenor.2; omega)
    ·exact w14)
   simp at this; exact this
 have hp : TScan [[wPartial, yesT c.part]] (choiceK wPartial c.part) := ts_two w17 (ws_yes _)
 have hg : TScan [[wChange, yesT c.change]] (choiceK wChange c.change) := ts_two w18 (ws_yes _)
 have := ts_app (ts_app (ts_app (ts_app (ts_app hh hc) hm) ht) hp) hg
 simp only [List.append_assoc, List.append_nil] at this
 unfold topL topK
 simp only [List.append_assoc]
 exact this
theorem need_scan {x : Nd} (hx : needM x = true) : TScan [needL x] (needK (ndP x)) := by
 obtain ⟨_, _, _, _, _, _, _, _, _, _, _, _, _, _, _, _, _, _, _, _, w21, w22, w23⟩ := words_ok
 obtain ⟨a1, a2, a3, a4, a5⟩ := need_parts hx
 unfold needL needK withK ndP
 simp only
 by_cases ha : alwaysR (stz x.rule) = true
 ·rw [if_pos ha, if_pos ha]
  have := ts_line [(wWz, [(0, wWz)]), (paperT x.kind, [(0, paperT x.kind)]), (wCz, [(0, wCz)]), (decN 20 x.count.toNat, [nmK x.count])] (by simp) (by
   intro p hp; simp at hp
   rcases hp with rfl | rfl | rfl | rfl
   ·exact w21
   ·exact ws_paper a1 a2
   ·exact w22
   ·exact ws_num (by omega))
  simp at this ⊢; exact this
 ·rw [if_neg ha, if_neg ha]
  have := ts_line [(wWz, [(0, wWz)]), (paperT x.kind, [(0, paperT x.kind)]), (wCz, [(0, wCz)]), (decN 20 x.count.toNat, [nmK x.count]), (wWith, [(0, wWith)]), (showR (stz x.rule), tokR (stz x.rule))] (by simp) (by
   intro p hp; simp at hp
   rcases hp with rfl | rfl | rfl | rfl | rfl | rfl
   ·exact w21
   ·exact ws_paper a1 a2
   ·exact w22
   ·exact ws_num (by omega)
   ·exact w23
   ·exact ws_rule (a5.resolve_left ha))
  simp at this ⊢; exact this
theorem needs_scan : ∀ l : List Nd, (∀ x ∈ l, needM x = true) → TScan (l.map needL) ((l.map ndP).flatMap needK)
 | [], _ => ts_nil
 | x :: l, h => by
  rw [List.map_cons, List.map_cons, List.flatMap_cons]; exact ts_cons (need_scan (h x (by simp))) (needs_scan l fun y hy => h y (by simp [hy]))
theorem credit_parts {c : Crd} {l : List Nd} (h : creditM c l = true) : c.names1 ∧ c.fits ∧ l.length ≤ 64 ∧ ∀ x ∈ l, needM x = true := by
 simp only [creditM, namesM, daysM, List.all_cons, List.all_nil, Bool.and_eq_true, Bool.or_eq_true, decide_eq_true_eq, List.all_eq_true, beq_iff_eq, and_true] at h
 obtain ⟨⟨⟨⟨⟨⟨a1, a2, a3, a4, a5, a6⟩, a7, a8⟩, a10⟩, a12, a14⟩, a16, a18, a20, a22⟩, a24, a25⟩ := h
 exact ⟨⟨a1, a2, a3, a4, a7, a5, a6, a8⟩, ⟨a10, a12, a14, a16, a18, a20, a22⟩, a24, a25⟩
theorem needP_of {x : Nd} (h : needM x = true) : needP (ndP x) = true := h
def printT (c : Crd) (l : List Nd) : Txt := if creditM c l = true then (if 4096 < (creditT c l).length then [] else creditT c l) else []
def printE (c : Crd) (l : List Nd) : Int := if creditM c l = true then (if 4096 < (creditT c l).length then 7 else 0) else 1
theorem print_any (C : Array Value) (c : Crd) (A : Option Addr) (n cc : Nat) (l : List Nd) (w : World) (ok : Nat → Prop) (he : Hid (Env w)) (hC : Hid (C = c.cells (.slice A n cc))) (hs : Hid c.short) (hn : n ≤ maxLen) (hl : Hid (l.length = n)) (hN : Hid (NdsAt w ok A l)) (hz : Hid (∀ x ∈ l, szR (stz x.rule) ≤ 100000000)) :
  Cz 25 #[.agg C] w fun e w' => e = .returned (.tuple #[.string ⟨(printT c l).toArray⟩, Iz (printE c l)]) ∧ Bz w w' := by
 have hb0 : Hid (Bz w (w.alloc (.cells C 41))) := (Below.refl _ w).alloc leZ _
 have hx0 := hdZ (Blk.new w 41 C)
 have hsC : Hid ((Tryz.prog.info? 41).map (·.size) = some C.size) := by unfold Hid; rw [hC.out]; kernel_rfl
 have hz' : Hid (∀ x ∈ l, szR (stz x.rule) ≤ mostZ) := fun x hx => by have := hz.out x hx; unfold mostZ; omega
 have p1 : Hid (∀ W, Bz w W → Cz 55 #[.agg C] W fun e w' => e = .returned (.bool (creditM c l)) ∧ Bz W w') := fun W hW => creditMay_any C c A n cc l W ok (he.out.below hW) hC hs hn hl (hN.out.below hW) hz'
 have p2 : Hid (creditM c l = true → ∀ W, Bz w W → Cz 56 #[.agg C] W fun e w' => e = .returned (.string ⟨(creditT c l).toArray⟩) ∧ Bz W w') := fun hm W hW => write_walk C c A n cc l W ok (he.out.below hW) hC hm hn hl (hN.out.below hW) hz
 have e1 : Hid (printT c l = if creditM c l = true then (if 4096 < (creditT c l).length then [] else creditT c l) else []) := rfl
 have e2 : Hid (printE c l = if creditM c l = true then (if 4096 < (creditT c l).length then 7 else 0) else 1) := rfl
 obtain ⟨b, hb⟩ := nmZ (creditM c l)
 obtain ⟨t, ht⟩ := nmZ (creditT c l)
 obtain ⟨rt, hrt⟩ := nmZ (printT c l)
 obtain ⟨re, hre⟩ := nmZ (printE c l)
 rw [hrt.out, hb.out, ht.out] at e1
 rw [hre.out, hb.out, ht.out] at e2
 rw [hb.out] at p1 p2
 rw [ht.out] at p2
 rw [hrt.out, hre.out]
 clear hb ht hrt hre he hC hs hl hN hz hz'
 go_enter Tryz.func25, Tryz.ntmps25
 go_wp2_with (refine wpList_load_blkg rfl 41 _ rfl w.heap.size C 41 _ rfl hx0.out Tryz.underlying41 rfl hsC.out ?_)
 obtain ⟨wa, hwa⟩ := nmZ (w.alloc (.cells C 41))
 rw [hwa.out] at hb0 hx0 ⊢
 clear hwa
 refine (p1.out wa hb0.out).mono ?_
 rintro e w1 ⟨rfl, hb1⟩
 have hB1 := hdZ (hb0.out.trans (hb1.mono hb0.out.size))
 have hx1 := hdZ (hx0.out.below hb1 hx0.out.lt)
 clear hb1 hb0 hx0 p1
 cases b with
 | false =>
  go_wp2_with fail; go_ret2; exact ⟨by rw [e1.out, e2.out]; rfl, hB1.out⟩
 | true =>
  go_wp2_with (refine wpList_load_blkg rfl 41 _ rfl w.heap.size C 41 _ rfl hx1.out Tryz.underlying41 rfl hsC.out ?_)
  refine (p2.out (by simp) w1 hB1.out).mono ?_; rintro e w2 ⟨rfl, hb2⟩; have hB2 := hdZ (hB1.out.trans (hb2.mono hB1.out.size)); clear hb2 hB1 hx1 p2
  by_cases h4 : 4096 < t.length
  ·have b1 : decide ((4096 : Int) < (t.length : Int)) = true := by simp; omega
   have b2 : decide (4096 < t.length) = true := by simpa using h4
   go_wp2_with fail; go_ret2; exact ⟨by rw [e1.out, e2.out]; simp [h4], hB2.out⟩
  ·have b1 : decide ((4096 : Int) < (t.length : Int)) = false := by simp; omega
   have b2 : decide (4096 < t.length) = false := by simpa using h4
   go_wp2_with fail; go_ret2; exact ⟨by rw [e1.out, e2.out]; simp [h4], hB2.out⟩
theorem print_fine {c : Crd} {l : List Nd} (h : printE c l = 0) : creditM c l = true ∧ (creditT c l).length ≤ 4096 ∧ printT c l = creditT c l := by
 unfold printE at h
 by_cases hm : creditM c l = true
 ·rw [if_pos hm] at h
  by_cases h4 : 4096 < (creditT c l).length
  ·rw [if_pos h4] at h; exact absurd h (by decide)
  ·exact ⟨hm, by omega, by unfold printT; rw [if_pos hm, if_neg h4]⟩
 ·rw [if_neg hm] at h; exact absurd h (by decide)
theorem print_bad {c : Crd} {l : List Nd} (h : printE c l ≠ 0) : printT c l = [] := by
 unfold printE at h
 unfold printT
 split
 ·rename_i hm
  rw [if_pos hm] at h
  split
  ·rfl
  ·rename_i h4; rw [if_neg h4] at h; exact absurd rfl h
 ·rfl
theorem nds_put {w W : World} {ok : Nat → Prop} {A : Option Addr} {L : List Nd} (h : NdsAt w ok A L) (hu : But w.heap.size (w.alloc (.cells zeroC 41)) W) : NdsAt W ok A L := fun k x hx => by
 obtain ⟨b, off, e', hk, hc, hTr⟩ := h k x hx
 have hlt : b < w.heap.size := World.block_lt_of_cell? w _ (hc 0 _ rfl)
 have hbl : Bz w (w.alloc (.cells zeroC 41)) := (Below.refl _ w).alloc leZ _
 exact ⟨b, off, e', hk, fun i u hi => ((hu.cell (p := (Az b _)) (Nat.lt_of_lt_of_le hlt hbl.size) (Nat.ne_of_lt hlt)).trans (hbl.cell (p := (Az b _)) hlt)).trans (hc i u hi),
  (((hTr.mono (fun b hb hk => (⟨hk, hb⟩ : ok b ∧ b < w.heap.size))).below hbl).but hu (fun b hb => Nat.ne_of_lt hb.2)).mono (fun b _ hb => hb.1)⟩
theorem blk_put {w W : World} {g t : Nat} {cs : Array Value} (h : Blk w g t cs) (hu : But w.heap.size (w.alloc (.cells zeroC 41)) W) : Blk W g t cs :=
 hu.blk (h.below ((Below.refl _ w).alloc leZ _) h.lt) (Nat.ne_of_lt h.lt)
end Go.Proofs.YtjkmhlfjheiekaaGreatDoor

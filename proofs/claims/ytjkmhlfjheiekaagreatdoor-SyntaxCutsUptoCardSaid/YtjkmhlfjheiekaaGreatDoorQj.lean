import Derived.Test.YtjkmhlfjheiekaaGreatDoorQf
set_option maxRecDepth 1000000
set_option maxHeartbeats 51200000
namespace Go.Proofs.YtjkmhlfjheiekaaGreatDoor
open Go Go.RowKit
def writtenT (t : Tok) : Txt := if t.kind = 3 then 34 :: (t.text ++ [34]) else t.text
def wT (t : Tok) : Nat := (writtenT t).length
theorem one_wt {s t : Txt} {kd : Int} {m p : Nat} (h : oneM s = .ok (kd, t, m)) : wT ⟨kd, p, t⟩ ≤ m ∧ m ≤ s.length := by
 have htw : ∀ (q : UInt8 → Bool) (l : Txt), (l.takeWhile q).length ≤ l.length := fun q l => (List.takeWhile_sublist q).length_le
 have hk : (rankM t).1 ≠ 3 := by unfold rankM; repeat' split <;> simp
 cases s with
 | nil => cases h
 | cons c r =>
  rw [oneM] at h
  split at h
  ·split at h
   ·simp only [Except.ok.injEq, Prod.mk.injEq] at h
    obtain ⟨rfl, rfl, rfl⟩ := h; refine ⟨?_, htw _ _⟩; unfold wT writtenT; rw [if_neg hk]; exact Nat.le_refl _
   ·cases h
  ·split at h
   ·split at h
    ·rename_i h3
     simp only [Except.ok.injEq, Prod.mk.injEq] at h; obtain ⟨rfl, rfl, rfl⟩ := h; refine ⟨?_, by have := htw lgB (c :: r); omega⟩; unfold wT writtenT; rw [if_neg (by show ¬ (4 : Int) = 3; decide)]; simp only; omega
    ·cases h
   ·split at h
    ·split at h
     ·rename_i h34
      simp only [Except.ok.injEq, Prod.mk.injEq] at h; obtain ⟨rfl, rfl, rfl⟩ := h; refine ⟨by unfold wT writtenT; rw [if_pos rfl]; simp, ?_⟩; have h1 := htw plB r; have h2 : (r.drop (r.takeWhile plB).length) ≠ [] := fun hz => by rw [hz] at h34; cases h34
      have h3 : (r.takeWhile plB).length < r.length := by
       apply Nat.lt_of_not_le; intro hle; exact h2 (List.drop_eq_nil_of_le hle)
      simp only [List.length_cons]; omega
     ·cases h
    ·split at h
     ·split at h
      ·rename_i hh
       simp only [Except.ok.injEq, Prod.mk.injEq] at h; obtain ⟨rfl, rfl, rfl⟩ := h; refine ⟨by unfold wT writtenT; rw [if_neg (by show ¬ (5 : Int) = 3; decide)]; simp, ?_⟩
       cases r with
       | nil => cases hh
       | cons d r => simp
      ·cases h
     ·split at h
      ·simp only [Except.ok.injEq, Prod.mk.injEq] at h
       obtain ⟨rfl, rfl, rfl⟩ := h; exact ⟨by unfold wT writtenT; rw [if_neg (by show ¬ (5 : Int) = 3; decide)]; simp, by simp⟩
      ·cases h
section
variable {e : Nat} {l : List Tok} (hl : ∀ t ∈ l, t.place ≤ e)
include hl
theorem place_ln (st : St) : placeS e l st ≤ e := by
 unfold placeS
 cases h : l[st.k]? with
 | none => exact Nat.le_refl _
 | some t => exact hl t (List.mem_of_getElem? h)
theorem fail_pn {st : St} {cd : Int} {s0 : St} (h : st.pl ≤ e) : (failS st (placeS e l s0) cd).pl ≤ e := by
 unfold failS
 split
 ·exact place_ln hl s0
 ·exact h
theorem tpz {p : Tok → Bool} {st : St} (h : st.pl ≤ e) : (tkz e l p st).2.pl ≤ e := by
 unfold tkz
 split
 ·exact h
 ·exact fail_pn hl h
theorem num_pn {lo hi : Int} {st : St} (h : st.pl ≤ e) : (numS e l lo hi st).2.pl ≤ e := by
 unfold numS
 split
 ·simp only
  split
  ·exact fail_pn hl (tpz hl h)
  ·exact tpz hl h
 ·exact tpz hl h
theorem end_pn {st : St} (h : st.pl ≤ e) : (endS e l st).pl ≤ e := tpz hl h
theorem line_pn {x : Txt} {st : St} (h : st.pl ≤ e) : (lineS e l x st).2.pl ≤ e := end_pn hl (tpz hl (tpz hl h))
theorem day_pn {x : Txt} {st : St} (h : st.pl ≤ e) : (dayS e l x st).2.pl ≤ e := end_pn hl (num_pn hl (tpz hl h))
theorem choice_pn {x : Txt} {st : St} (h : st.pl ≤ e) : (choiceS e l x st).2.pl ≤ e := end_pn hl (tpz hl (tpz hl h))
theorem tenor_pn {st : St} (h : st.pl ≤ e) : (tenorS e l st).2.pl ≤ e := by
 unfold tenorS tenS
 split
 ·exact end_pn hl (tpz hl h)
 ·exact end_pn hl (tpz hl (num_pn hl (tpz hl h)))
theorem sum_pn {st : St} (h : st.pl ≤ e) : (sumS e l st).2.pl ≤ e := end_pn hl (num_pn hl (tpz hl (num_pn hl (tpz hl (num_pn hl (tpz hl (tpz hl h)))))))
theorem conf_pn {st : St} (h : st.pl ≤ e) : (confS e l st).2.pl ≤ e := by
 unfold confS
 split
 ·exact line_pn hl h
 ·exact h
theorem atom_pn {st : St} (h : st.pl ≤ e) : (atomS e l st).2.pl ≤ e := by
 have h2 := tpz hl (p := compB) (tpz hl (p := nmB) h)
 unfold atomS
 split
 ·split
  ·exact tpz hl (tpz hl (tpz hl h2))
  ·exact tpz hl h2
 ·split
  ·exact tpz hl h2
  ·split
   ·exact num_pn hl h2
   ·split
    ·exact num_pn hl h2
    ·exact h2
omit hl in
theorem parts_pn {part : St → Option (Rul × St)} {sep : Txt} (hp : ∀ st r, part st = some r → st.pl ≤ e → r.2.pl ≤ e) : ∀ (n : Nat) (st : St) (r : List Rul × St), partsS l part sep n st = some r → st.pl ≤ e → r.2.pl ≤ e
 | 0, _, _, h, _ => by simp [partsS] at h
 | n + 1, st, r, h, h0 => by
  rw [partsS] at h
  split at h
  ·cases h
  ·rename_i r1 s1 h1
   have := hp _ _ h1 h0
   split at h
   ·split at h
    ·cases h
    ·rename_i L s2 h2
     simp only [Option.some.injEq] at h; subst h; exact parts_pn hp n _ (L, s2) h2 this
   ·simp only [Option.some.injEq] at h
    subst h; exact this
omit hl in
theorem row_pn {part : St → Option (Rul × St)} {sep : Txt} {k : Int} {n : Nat} (hp : ∀ st r, part st = some r → st.pl ≤ e → r.2.pl ≤ e) (st : St) (r : Rul × St) (h : rowS l part sep k n st = some r) (h0 : st.pl ≤ e) : r.2.pl ≤ e := by
 unfold rowS at h
 split at h
 ·cases h
 ·rename_i L s h1
  simp only [Option.some.injEq] at h; subst h; exact parts_pn hp n _ _ h1 h0
theorem one_pn : ∀ (n : Nat) (st : St) (r : Rul × St), oneS e l n st = some r → st.pl ≤ e → r.2.pl ≤ e
 | 0, _, _, h, _ => by simp [oneS] at h
 | n + 1, st, r, h, h0 => by
  rw [oneS] at h; have h0' : st.step.pl ≤ e := h0
  split at h
  ·split at h
   ·cases h
   ·rename_i r1 s1 h1
    simp only [Option.some.injEq] at h; subst h; exact one_pn n _ (r1, s1) h1 h0'
  ·split at h
   ·split at h
    ·cases h
    ·rename_i r1 s1 h1
     simp only [Option.some.injEq] at h; subst h; exact tpz hl (row_pn (row_pn (one_pn n)) _ _ h1 h0')
   ·simp only [Option.some.injEq] at h
    subst h; exact atom_pn hl h0
theorem whole_pn {st : St} (h0 : st.pl ≤ e) : (wholeG e l st).2.pl ≤ e := by
 unfold wholeG
 cases h : wholeS e l (2 * l.length + 2) st with
 | none => exact h0
 | some r =>
  rw [Option.getD_some]; unfold wholeS at h
  split at h
  ·cases h
  ·rename_i r1 s1 h1
   simp only [Option.some.injEq] at h; subst h; have := row_pn (row_pn (one_pn hl (2 * l.length + 2))) _ _ h1 h0; simp only
   split
   ·exact fail_pn hl this
   ·exact this
theorem need_pn {st : St} (h : st.pl ≤ e) : (needS e l st).2.pl ≤ e := by
 have h4 := num_pn hl (lo := 1) (hi := 9) (tpz hl (p := wdz wCz) (tpz hl (p := ppB) (tpz hl (p := wdz wWz) h)))
 refine end_pn hl ?_
 unfold withS
 split
 ·exact whole_pn hl h4
 ·exact h4
theorem needs_pn : ∀ (n c : Nat) {st : St}, st.pl ≤ e → (needsS e l n c st).2.pl ≤ e
 | 0, _, _, h => h
 | n + 1, c, st, h => by
  rw [needsS]
  split
  ·refine needs_pn n (c + 1) (need_pn hl ?_)
   unfold fullS
   split
   ·exact fail_pn hl h
   ·exact h
  ·exact h
theorem credit_pn {st : St} (h : st.pl ≤ e) : (creditS e l st).2.pl ≤ e := by
 unfold creditS
 refine needs_pn hl _ _ (choice_pn hl (choice_pn hl (tenor_pn hl (end_pn hl (tpz hl (num_pn hl (tpz hl (day_pn hl (day_pn hl (sum_pn hl (line_pn hl (line_pn hl (conf_pn hl ?_)))))))))))))
 exact line_pn hl (line_pn hl (line_pn hl (line_pn hl h)))
end
theorem scan_places : ∀ (f n k : Nat) (s : Txt), (∀ l, scanM f n k s = .ok l → ∀ t ∈ l, t.place ≤ k + s.length) ∧ ∀ p cd, scanM f n k s = .error (p, cd) → p ≤ k + s.length
 | 0, n, k, s => by
  refine ⟨fun l h => (by cases h), fun p cd h => ?_⟩; simp only [scanM, Except.error.injEq, Prod.mk.injEq] at h; omega
 | f + 1, n, k, s => by
  have htw : (s.takeWhile bkB).length + (s.dropWhile bkB).length = s.length := by
   have := congrArg List.length (List.takeWhile_append_dropWhile (p := bkB) (l := s)); rw [List.length_append] at this; exact this
  rw [scanM]
  by_cases h1 : s.dropWhile bkB = []
  ·rw [if_pos h1]
   refine ⟨fun l h => ?_, fun p cd h => (by cases h)⟩
   cases h
   simp
  ·rw [if_neg h1]
   by_cases h2 : 4096 ≤ n
   ·rw [if_pos h2]
    refine ⟨fun l h => (by cases h), fun p cd h => ?_⟩; simp only [Except.error.injEq, Prod.mk.injEq] at h; omega
   ·rw [if_neg h2]
    cases ho : oneM (s.dropWhile bkB) with
    | error x =>
     refine ⟨fun l h => (by cases h), fun p cd h => ?_⟩; simp only [Except.error.injEq, Prod.mk.injEq] at h; omega
    | ok q =>
     obtain ⟨kd, t, m⟩ := q; simp only; have hm : m ≤ (s.dropWhile bkB).length := (one_wt (p := 0) ho).2; have ih := scan_places f (n + 1) (k + (s.takeWhile bkB).length + m) ((s.dropWhile bkB).drop m); rw [List.length_drop] at ih
     cases hr : scanM f (n + 1) (k + (s.takeWhile bkB).length + m) ((s.dropWhile bkB).drop m) with
     | error q =>
      obtain ⟨p', cd'⟩ := q; refine ⟨fun l h => (by cases h), fun p cd h => ?_⟩; simp only [Except.error.injEq, Prod.mk.injEq] at h; have := ih.2 _ _ hr; omega
     | ok l' =>
      refine ⟨fun l h => ?_, fun p cd h => (by cases h)⟩; simp only [Except.ok.injEq] at h; subst h; intro u hu
      rcases List.mem_cons.1 hu with rfl | hu
      ·simp only; omega
      ·have := ih.1 _ hr u hu; omega
theorem parse_place {s : Txt} {p : Nat} {cd : Int} (h : parseT s = .error (p, cd)) : p ≤ s.length := by
 unfold parseT at h
 split at h
 ·simp only [Except.error.injEq, Prod.mk.injEq] at h; omega
 ·split at h
  ·rename_i q hq
   obtain ⟨p', cd'⟩ := q; simp only [Except.error.injEq, Prod.mk.injEq] at h; have := (scan_places _ _ _ _).2 _ _ hq; omega
  ·rename_i l hq
   split at h
   ·cases h
   ·simp only [Except.error.injEq, Prod.mk.injEq] at h
    have hl : ∀ t ∈ l, t.place ≤ s.length := fun t ht => by have := (scan_places _ _ _ _).1 _ hq t ht; omega
    have := credit_pn hl (st := ⟨0, 0, 0⟩) (Nat.zero_le _); omega
theorem cut_wants {c : Crd} {l : List Nd} (h : creditM c l = true) : ∃ p cd, parseT (creditT c l ++ wWz) = .error (p, cd) ∧ (cd = 7 ∨ cd = 2 ∧ p = (creditT c l).length + 5) := by
 by_cases hb : 4096 < (creditT c l ++ wWz).length
 ·exact ⟨0, 7, by unfold parseT; rw [if_pos hb], .inl rfl⟩
 obtain ⟨hn, hf, h64, hx⟩ := credit_parts h
 obtain ⟨_, _, _, _, _, _, _, _, _, _, _, _, _, _, _, _, _, _, _, _, w21, _, _⟩ := words_ok
 have hw := w21 [] [] brk_none (Scans.nil _ rfl)
 rw [List.append_nil, List.append_nil] at hw
 have hsc := ts_app (top_scan hn hf) (needs_scan l hx) _ _ hw
 have hsc' : Scans (creditT c l ++ wWz) ((topK c ++ (l.map ndP).flatMap needK) ++ [(0, wWz)]) := hsc
 have hlen := scans_len hsc'
 obtain ⟨ts, e1, e2⟩ := scans_ok hsc' ((creditT c l ++ wWz).length + 1) 0 0 (by omega) (by omega)
 have hL : (creditT c l ++ wWz).length = (creditT c l).length + 5 := by rw [List.length_append]; rfl
 obtain ⟨E, hE⟩ : ∃ E, (creditT c l ++ wWz).length = E := ⟨_, rfl⟩
 obtain ⟨n, k, pl, hnl, hn1, h1, h2⟩ := credit_ahead (e := E) (ks := [(0, wWz)]) hf (T := l.map ndP) (fun x hx' => by obtain ⟨y, hy, rfl⟩ := List.mem_map.1 hx'; exact needP_of (hx y hy)) (by simpa using h64) (l := ts) (by rw [e2, List.append_assoc])
 have hfin : ∃ L st, needsS E ts n (l.map ndP).length ⟨k, pl, 0⟩ = (L, st) ∧ (st.cd = 7 ∨ st.cd = 2 ∧ st.pl = E) := by
  obtain ⟨m, rfl⟩ : ∃ m, n = m + 1 := ⟨n - 1, by omega⟩; obtain ⟨q, hlk, h3⟩ := ahead_cons h1; have hlt : k < ts.length := (List.getElem?_eq_some_iff.1 hlk).1; rw [needsS, if_pos ⟨rfl, hlt⟩]; have hask := ask_ahead (p := wdz wWz) (pl := pl) h1 (word_yes wWz)
  by_cases hc : 64 ≤ (l.map ndP).length
  ·have hf7 : fullS E ts (l.map ndP).length ⟨k, pl, 0⟩ = ⟨k, placeS E ts ⟨k, pl, 0⟩, 7⟩ := by
    unfold fullS; rw [if_pos ⟨hc, hask⟩, fail_fine rfl]
   have hbad : (needS E ts (fullS E ts (l.map ndP).length ⟨k, pl, 0⟩)).2 = ⟨k, placeS E ts ⟨k, pl, 0⟩, 7⟩ := by
    rw [hf7]; exact need_keeps E ts _ (show (7 : Int) ≠ 0 by decide)
   rw [hbad, needs_bad (show (7 : Int) ≠ 0 by decide)]; exact ⟨_, _, rfl, .inl rfl⟩
  ·have hf7 : fullS E ts (l.map ndP).length ⟨k, pl, 0⟩ = ⟨k, pl, 0⟩ := by
    unfold fullS; rw [if_neg (fun h => hc h.1)]
   obtain ⟨t1, t2⟩ := tez (e := E) (p := wdz wWz) (pl := pl) h1 (word_yes wWz)
   have hnone : ts[k + 1]? = none := by
    have := congrArg List.length t2; rw [kt_len, List.length_drop] at this; simp at this; simp; omega
   have t3 : tkz E ts ppB ⟨k + 1, pl, 0⟩ = ([], ⟨k + 1, E, 2⟩) := by
    unfold tkz askS placeS; simp [hnone, failS]
   have hbad : (needS E ts (fullS E ts (l.map ndP).length ⟨k, pl, 0⟩)).2 = ⟨k + 1, E, 2⟩ := by
    rw [hf7]; unfold needS; simp only [t1, t3]; have z : (⟨k + 1, E, 2⟩ : St).cd ≠ 0 := (show (2 : Int) ≠ 0 by decide); rw [tbz z, num_bad z]; simp only; rw [with_keeps E ts _ z]; exact end_bad z
   rw [hbad, needs_bad (show (2 : Int) ≠ 0 by decide)]; exact ⟨_, _, rfl, .inr ⟨rfl, rfl⟩⟩
 obtain ⟨L, st, h3, h4⟩ := hfin
 rw [h3] at h2
 refine ⟨st.pl, st.cd, ?_, ?_⟩
 ·unfold parseT
  rw [if_neg hb, show scanT (creditT c l ++ wWz) = .ok ts from e1, hE]; simp only; rw [h2]; simp only; rw [if_neg (by rcases h4 with h | ⟨h, _⟩ <;> rw [h] <;> decide)]
 ·rcases h4 with h | ⟨h, h'⟩
  ·exact .inl h
  ·exact .inr ⟨h, by rw [h', ← hE, hL]⟩
open Go Go.RowKit Go.BigFrame Go.Maps
theorem kC_le (s : Txt) : kC s ≤ s.length := by
 unfold kC
 cases h : parseT s with
 | ok r => exact Nat.zero_le _
 | error q => obtain ⟨p, cd⟩ := q; exact parse_place h
theorem cuts_law (C : Array Value) (c : Crd) (A : Option Addr) (n cc : Nat) (l : List Nd) (ok : Nat → Prop) (k : Int) (w : World) (he : Hid (Env w)) (hC : Hid (C = c.cells (.slice A n cc))) (hs : Hid c.short) (hn : n ≤ maxLen) (hl : Hid (l.length = n)) (hN : Hid (NdsAt w ok A l)) (hz : Hid (∀ x ∈ l, szR (stz x.rule) ≤ 100000000)) :
  Cz 9 #[.agg C, Iz k] w fun e w' => e = .returned (.bool true) ∧ Bz w w' := by
 have hb0 : Hid (Bz w (w.alloc (.cells C 41))) := (Below.refl _ w).alloc leZ _
 have hbx := hdZ (Blk.new w 41 C)
 have hsC : Hid ((Tryz.prog.info? 41).map (·.size) = some C.size) := by unfold Hid; rw [hC.out]; kernel_rfl
 have hC17 : Hid (C[17]? = some (.slice A n cc)) := by unfold Hid; rw [hC.out]; rfl
 have p1 : Hid (∀ W, Bz w W → Cz 20 #[.agg C] W fun e w' => e = .returned (.bool (littleN l)) ∧ Bz W w') := fun W hW => little_any C A n cc l W ok hC17 hl hn (hN.out.below hW)
 have p2 : Hid (∀ W, Bz w W → Cz 25 #[.agg C] W fun e w' => e = .returned (.tuple #[.string ⟨(printT c l).toArray⟩, Iz (printE c l)]) ∧ Bz W w') := fun W hW => print_any C c A n cc l W ok (he.out.below hW) hC hs hn hl (hN.out.below hW) hz
 have hpl : Hid (printE c l = 0 → (printT c l).length ≤ 4096 ∧ ∃ p cd, parseT (printT c l ++ wWz) = .error (p, cd) ∧ (cd = 7 ∨ cd = 2 ∧ p = (printT c l).length + 5)) := fun h0 => by
  obtain ⟨h1, h2, h3⟩ := print_fine h0; rw [h3]; exact ⟨h2, cut_wants h1⟩
 have hbad : Hid (printE c l ≠ 0 → printT c l = []) := print_bad
 obtain ⟨rt, hrt⟩ := nmZ (printT c l)
 obtain ⟨re, hre⟩ := nmZ (printE c l)
 obtain ⟨la, hla⟩ := nmZ (littleN l)
 rw [hrt.out, hre.out] at p2 hbad hpl
 rw [hla.out] at p1
 clear hla hrt hre hs hl hC17 hz hN hC
 have hea := hdZ (he.out.below hb0.out)
 have hi41 : Hid ((Tryz.prog.info? 41).map (·.size) = some 18) := by unfold Hid; kernel_rfl
 go_enter Tryz.func9, Tryz.ntmps9
 go_wp2_with fail
 obtain ⟨wa, hwa⟩ := nmZ (w.alloc (.cells C 41))
 change Cz 12 _ (w.alloc (.cells C 41)) _
 rw [hwa.out] at hb0 hbx hea ⊢
 clear hwa
 refine (awake_any wa hea).mono ?_
 rintro e w1 ⟨rfl, hb1⟩
 have hB1 := hdZ (hb0.out.trans (hb1.mono hb0.out.size))
 have hx1 := hdZ (hbx.out.below hb1 hbx.out.lt)
 have he1 := hdZ (hea.out.below hb1)
 clear hb1 hb0 hbx hea
 go_wp2_with (refine wpList_load_blkg rfl 41 _ rfl w.heap.size C 41 _ rfl hx1.out Tryz.underlying41 rfl hsC.out ?_)
 refine (p1.out w1 hB1.out).mono ?_
 rintro e w2 ⟨rfl, hb2⟩
 have hB2 := hdZ (hB1.out.trans (hb2.mono hB1.out.size))
 have hx2 := hdZ (hx1.out.below hb2 hx1.out.lt)
 have he2 := hdZ (he1.out.below hb2)
 clear hb2 hB1 hx1 he1 p1
 cases la with
 | false =>
  go_wp2_with fail; refine (awake_any w2 he2).mono ?_; rintro e w3 ⟨rfl, hb3⟩; go_wp2_with fail; go_ret; exact ⟨rfl, hB2.out.trans (hb3.mono hB2.out.size)⟩
 | true =>
  go_wp2_with (refine wpList_load_blkg rfl 41 _ rfl w.heap.size C 41 _ rfl hx2.out Tryz.underlying41 rfl hsC.out ?_)
  refine (p2.out w2 hB2.out).mono ?_; rintro e w3 ⟨rfl, hb3⟩; have hB3 := hdZ (hB2.out.trans (hb3.mono hB2.out.size)); have he3 := hdZ (he2.out.below hb3); clear hb3 hB2 hx2 he2 p2 hsC
  by_cases hr0 : re = 0
  ·have b1 : (re != 0) = false := by rw [hr0]; rfl
   obtain ⟨a2, pw, cw, a3, a4⟩ := hpl.out hr0; have a2' := hdZ a2; have a4' := hdZ a4; have e0 : Hid (({ data := rt.toArray } : ByteArray) ++ { data := #[119, 97, 110, 116, 115] } = ⟨(rt ++ wWz).toArray⟩) := ByteArray.ext (by simp [wWz]); have z1 : ¬ 9223372036854775807 < rt.length + 5 := by omega
   have hp := hdZ (parse_any ⟨(rt ++ wWz).toArray⟩ w3 (by show (rt ++ wWz).toArray.size ≤ _; rw [List.size_toArray, List.length_append, show wWz.length = 5 from rfl]; unfold maxLen; omega) he3); rw [show (ByteArray.mk (rt ++ wWz).toArray).data.toList = rt ++ wWz from rfl, a3] at hp; clear hpl hr0 hbad a2 a3 a4; go_wp2_with fail; rw [e0.out]; refine hp.out.mono ?_; rintro x w4 ⟨hb4, rfl, _⟩; have hB4 := hdZ (hB3.out.trans (hb4.mono hB3.out.size)); have he4 := hdZ (he3.out.below hb4); have hM0 : Hid (Blk (w4.alloc (.cells zeroC 41)) w4.heap.size 41 zeroC) := Blk.new w4 41 zeroC; have hBz : Hid (Bz w (w4.alloc (.cells zeroC 41))) := hB4.out.alloc hB4.out.size _; clear hb4 hB3 he3 hp e0
   go_upto_region 7 with (refine pbz rfl 41 _ _ rfl w4.heap.size zeroC zeroC 41 rfl rfl hM0.out rfl hi41.out zc_one ?_; intro w5 hM5 hu5)
   have hB5 : Hid (Bz w w5) := hu5.to_below hBz.out hB4.out.size hBz.out.size; have he5 : Hid (Env w5) := he4.out.below (hu5.to_below ((Below.refl _ w4).alloc leZ _) leZ (by simp)); clear hu5 hM5 hBz hM0 he4; have hB4s := hB4.out.size; clear hB4; have y1 : (cw == 0) = false := by rcases a4'.out with h | ⟨h, _⟩ <;> rw [h] <;> rfl
   have y2 : ((cw == 2) && ((pw : Int) != (rt.length : Int) + 5)) = false := by
    rcases a4'.out with h | ⟨_, h⟩
    ·rw [h]; rfl
    ·rw [h]; simp
   go_cut [52] (fun v wx => v = .bool false ∧ Hid (w5 = wx))
   case first => as_aux_lemma =>
    rcases a4'.out with h | ⟨h, h'⟩
    ·have y3 : (cw == 2) = false := by rw [h]; rfl
     clear y2; go_wp2_with fail
     go_meet
     case rel => exact ⟨by simp, rfl⟩
    ·have y3 : (cw == 2) = true := by rw [h]; rfl
     have y4 : ((pw : Int) != (rt.length : Int) + 5) = false := by rw [h']; simp
     clear y2; go_wp2_with fail
     go_meet
     case rel => exact ⟨by simp, rfl⟩
   case rest => as_aux_lemma =>
    obtain ⟨rfl, hwe⟩ := hcut; rw [← hwe.out]; clear hwe y1 y2 a4'
    by_cases hk0 : k < 0
    ·have y3 : decide (k < 0) = true := by simpa using hk0
     go_wp2_with fail; go_ret; exact ⟨rfl, hB5.out⟩
    ·have y3 : decide (k < 0) = false := by simpa using hk0
     obtain ⟨m, rfl⟩ := Int.eq_ofNat_of_zero_le (Int.not_lt.1 hk0); clear hk0
     by_cases hkl : rt.length ≤ m
     ·have y4 : decide ((rt.length : Int) ≤ (m : Int)) = true := by simp; omega
      have y5 : decide (rt.length ≤ m) = true := by simp; omega
      go_wp2_with fail; go_ret; exact ⟨rfl, hB5.out⟩
     ·have y4 : decide ((rt.length : Int) ≤ (m : Int)) = false := by simp; omega
      have z2 : (m : Int) ≤ (rt.length : Int) := by omega
      have z3 : (0 : Int) ≤ (m : Int) := by omega
      have z4 : m ≤ rt.length := by omega
      have hsz0 : (⟨rt.toArray⟩ : ByteArray).size = rt.length := by show rt.toArray.size = _; simp
      have hsz : Hid (((⟨rt.toArray⟩ : ByteArray).extract 0 m).size ≤ maxLen) := by
       have := a2'.out; unfold Hid maxLen; rw [ByteArray.size_extract, hsz0]; omega
      have hlst : Hid (((⟨rt.toArray⟩ : ByteArray).extract 0 m).data.toList.length = m) := by
       unfold Hid; have : ((⟨rt.toArray⟩ : ByteArray).extract 0 m).data.toList.length = ((⟨rt.toArray⟩ : ByteArray).extract 0 m).size := by rw [Array.length_toList]; rfl
       rw [this, ByteArray.size_extract, hsz0]; omega
      have y5 : decide (rt.length ≤ m) = false := by simp; omega
      go_wp2_with fail; obtain ⟨S, hS⟩ := nmZ ((⟨rt.toArray⟩ : ByteArray).extract 0 m); rw [hS.out] at hsz hlst; try rw [hS.out]
      refine (parse_any S w5 hsz.out he5).mono ?_; rintro x w6 hout; obtain ⟨hb6, T, A2, c2, rfl, hnd, hT, hTl⟩ := parsed_all hout; have hB6 := hdZ (hB5.out.trans (hb6.mono hB5.out.size)); have hT' := hdZ hT; have hTl' := hdZ hTl; have hnd' := hdZ hnd; have hkc : Hid (kC S.data.toList ≤ m) := by have := kC_le S.data.toList; rw [hlst.out] at this; exact this
      clear hout hnd hT hTl hb6 hB5 he5; obtain ⟨D, hD⟩ : ∃ C, Hid (C = (crC S.data.toList).cells (.slice A2 T.length c2)) := ⟨_, hdZ rfl⟩; have hDs : Hid (D.size = 18) := by rw [hD.out]; rfl
      have hDi : Hid ((Tryz.prog.info? 41).map (·.size) = some D.size) := by unfold Hid; rw [hDs.out]; kernel_rfl
      have hD1 : Hid (D.all (·.oneCell') = true) := by unfold Hid; rw [hD.out, ← Array.all_toList]; rfl
      rw [← hD.out]; have hM0 : Hid (Blk (w6.alloc (.cells zeroC 41)) w6.heap.size 41 zeroC) := Blk.new w6 41 zeroC; have hBz : Hid (Bz w (w6.alloc (.cells zeroC 41))) := hB6.out.alloc hB6.out.size _
      go_upto_region 12 with (refine pbz rfl 41 _ _ rfl w6.heap.size zeroC D 41 rfl rfl hM0.out hDs.out.symm hDi.out hD1.out ?_; intro w7 hM7 hu7)
      have hB7 : Hid (Bz w w7) := hu7.to_below hBz.out hB6.out.size hBz.out.size; have hnd7 := hdZ (nds_put hnd'.out hu7); have hM7' := hdZ hM7; obtain ⟨G, hG⟩ := nmZ (w6.heap.size); rw [hG.out] at hM7' ⊢; clear hu7 hM7 hBz hM0 hG hnd' hB6; go_wp2_with fail; try rw [hS.out]
      refine (rparse_any S w7 hsz.out).mono ?_; rw [parse_same]; rintro x w8 hout; obtain ⟨hb8, T', A4, c4, rfl, hnd, hT4, hTl4⟩ := parsed_all hout; have hB8 := hdZ (hB7.out.trans (hb8.mono hB7.out.size)); have hT4' := hdZ hT4; have hTl4' := hdZ hTl4; have hnd' := hdZ hnd; have hM8 := hdZ (hM7'.out.below hb8 hM7'.out.lt); have hnd8 := hdZ (hnd7.out.below hb8); clear hout hnd hT4 hTl4 hb8 hB7 hM7' hnd7; obtain ⟨E, hE⟩ : ∃ C, Hid (C = (crC S.data.toList).cells (.slice A4 T'.length c4)) := ⟨_, hdZ rfl⟩; have hEs : Hid (E.size = 18) := by rw [hE.out]; rfl
      have hEi : Hid ((Tryz.prog.info? 41).map (·.size) = some E.size) := by unfold Hid; rw [hEs.out]; kernel_rfl
      have hE1 : Hid (E.all (·.oneCell') = true) := by unfold Hid; rw [hE.out, ← Array.all_toList]; rfl
      rw [← hE.out]; have hM0 : Hid (Blk (w8.alloc (.cells zeroC 41)) w8.heap.size 41 zeroC) := Blk.new w8 41 zeroC; have hBz : Hid (Bz w (w8.alloc (.cells zeroC 41))) := hB8.out.alloc hB8.out.size _; obtain ⟨k9, hk9⟩ := nmZ (kC S.data.toList); obtain ⟨c9, hc9⟩ := nmZ (cC S.data.toList); rw [hk9.out] at hkc; rw [hk9.out, hc9.out]; clear hk9 hc9
      go_upto_region 13 with (refine pbz rfl 41 _ _ rfl w8.heap.size zeroC E 41 rfl rfl hM0.out hEs.out.symm hEi.out hE1.out ?_; intro w9 hM9 hu9)
      have hB9 : Hid (Bz w w9) := hu9.to_below hBz.out hB8.out.size hBz.out.size; have hM9a := hdZ (blk_put hM8.out hu9); have hndA := hdZ (nds_put hnd8.out hu9); have hndB := hdZ (nds_put hnd'.out hu9); have hM9' := hdZ hM9; obtain ⟨G2, hG2⟩ := nmZ (w8.heap.size); rw [hG2.out] at hM9' ⊢; have hal := hdZ (same_prog D E (crC S.data.toList) (crC S.data.toList) A2 T.length c2 T A4 T'.length c4 T' _ _ w9 hD hE (by have := hTl'.out; unfold maxLen; omega) (by have := hTl4'.out; unfold maxLen; omega) (hdZ rfl) (hdZ rfl) hndA hndB); have heq : (eqCr (crC S.data.toList) (crC S.data.toList) && eqBy eqNd T T') = true := by rw [eqCr_refl, eqBy_map T T' (hT'.out.trans hT4'.out.symm)]; rfl
      rw [heq] at hal; have q1 : ((k9 : Int) == (k9 : Int)) = true := by simp
      have q2 : (c9 == c9) = true := by simp
      have q3 : decide ((k9 : Int) ≤ (m : Int)) = true := by have := hkc.out; simp; omega
      clear hu9 hM9 hBz hM0 hG2 hM8 hnd8 hnd' hB8 heq
      go_wp2_with (first | (refine wpList_load_blkg rfl 41 (.tmp 10) rfl G D 41 _ rfl hM9a.out Tryz.underlying41 rfl hDi.out ?_) | (refine wpList_load_blkg rfl 41 (.tmp 13) rfl G2 E 41 _ rfl hM9'.out Tryz.underlying41 rfl hEi.out ?_))
      refine hal.out.mono ?_; rintro e w10 ⟨rfl, hb10⟩; go_wp2_with fail; go_ret; exact ⟨by have := hkc.out; simp; omega, hB9.out.trans (hb10.mono hB9.out.size)⟩
  ·have b1 : (re != 0) = true := by simpa using hr0
   have hb := hbad.out hr0; subst hb; clear hbad hr0 hpl; go_wp2_with fail; go_ret; exact ⟨by simp, hB3.out⟩
end Go.Proofs.YtjkmhlfjheiekaaGreatDoor

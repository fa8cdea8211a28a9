import Derived.Test.YtjkmhlfjheiekaaGreatDoorWc
set_option maxRecDepth 1000000
set_option maxHeartbeats 51200000
namespace Go.Proofs.YtjkmhlfjheiekaaGreatDoor
open Go Go.RowKit Go.BigFrame Go.Maps
def wCredit : Txt := [99, 114, 101, 100, 105, 116]
def wApz : Txt := [97, 112, 112, 108, 105, 99, 97, 110, 116]
def wBnz : Txt := [98, 101, 110, 101, 102, 105, 99, 105, 97, 114, 121]
def wIssuer : Txt := [105, 115, 115, 117, 101, 114]
def wCfz : Txt := [99, 111, 110, 102, 105, 114, 109, 101, 114]
def wFrom : Txt := [102, 114, 111, 109]
def wTo : Txt := [116, 111]
def wSum : Txt := [115, 117, 109]
def wAbove : Txt := [97, 98, 111, 118, 101]
def wBelow : Txt := [98, 101, 108, 111, 119]
def wLatest : Txt := [108, 97, 116, 101, 115, 116]
def wExpiry : Txt := [101, 120, 112, 105, 114, 121]
def wWithin : Txt := [119, 105, 116, 104, 105, 110]
def wDays : Txt := [100, 97, 121, 115]
def wTenor : Txt := [116, 101, 110, 111, 114]
def wSight : Txt := [115, 105, 103, 104, 116]
def wPartial : Txt := [112, 97, 114, 116, 105, 97, 108]
def wChange : Txt := [99, 104, 97, 110, 103, 101]
def wYes : Txt := [121, 101, 115]
def wNo : Txt := [110, 111]
def wWz : Txt := [119, 97, 110, 116, 115]
def wCz : Txt := [99, 111, 112, 105, 101, 115]
def wWith : Txt := [119, 105, 116, 104]
def sSemi : Txt := [59]
abbrev NdP := Int × Int × Rul
def endS (e : Nat) (l : List Tok) (st : St) : St := (tkz e l (signB sSemi) st).2
def lineS (e : Nat) (l : List Tok) (x : Txt) (st : St) : Txt × St := ((tkz e l nmB (tkz e l (wdz x) st).2).1, endS e l (tkz e l nmB (tkz e l (wdz x) st).2).2)
def dayS (e : Nat) (l : List Tok) (x : Txt) (st : St) : Int × St := ((numS e l 0 1048576 (tkz e l (wdz x) st).2).1, endS e l (numS e l 0 1048576 (tkz e l (wdz x) st).2).2)
def yesB (t : Tok) : Bool := t.kind == 0 && [wYes, wNo].contains t.text
def choiceS (e : Nat) (l : List Tok) (x : Txt) (st : St) : Bool × St := ((tkz e l yesB (tkz e l (wdz x) st).2).1 == wYes, endS e l (tkz e l yesB (tkz e l (wdz x) st).2).2)
def tenS (e : Nat) (l : List Tok) (st : St) : Int × St := if askS l st 0 (wdz wSight) = true then (0, endS e l st.step) else ((numS e l 1 1048576 st).1, endS e l (tkz e l (wdz wDays) (numS e l 1 1048576 st).2).2)
def tenorS (e : Nat) (l : List Tok) (st : St) : Int × St := tenS e l (tkz e l (wdz wTenor) st).2
structure SumS where
 cur : Txt
 amount : Int
 above : Int
 below : Int
def sumS (e : Nat) (l : List Tok) (st : St) : SumS × St :=
 let a := tkz e l (kdB 4) (tkz e l (wdz wSum) st).2
 let b := numS e l 1 1099511627776 a.2
 let c := numS e l 0 1000 (tkz e l (wdz wAbove) b.2).2
 let d := numS e l 0 1000 (tkz e l (wdz wBelow) c.2).2
 (⟨a.1, b.1, c.1, d.1⟩, endS e l d.2)
def wholeG (e : Nat) (l : List Tok) (st : St) : Rul × St := (wholeS e l (2 * l.length + 2) st).getD (emptyR, st)
def withS (e : Nat) (l : List Tok) (st : St) : Rul × St := if askS l st 0 (wdz wWith) = true then wholeG e l st.step else (emptyR, st)
def needS (e : Nat) (l : List Tok) (st : St) : NdP × St :=
 let a := tkz e l ppB (tkz e l (wdz wWz) st).2
 let b := numS e l 1 9 (tkz e l (wdz wCz) a.2).2
 let c := withS e l b.2
 ((max (paperI a.1) 0, b.1, c.1), endS e l c.2)
def fullS (e : Nat) (l : List Tok) (c : Nat) (st : St) : St := if 64 ≤ c ∧ askS l st 0 (wdz wWz) = true then failS st (placeS e l st) 7 else st
def needsS (e : Nat) (l : List Tok) : Nat → Nat → St → List NdP × St
 | 0, _, st => ([], st)
 | n + 1, c, st => if st.cd = 0 ∧ st.k < l.length then (((needS e l (fullS e l c st)).1 :: (needsS e l n (c + 1) (needS e l (fullS e l c st)).2).1), (needsS e l n (c + 1) (needS e l (fullS e l c st)).2).2) else ([], st)
def confS (e : Nat) (l : List Tok) (st : St) : Txt × St := if askS l st 0 (wdz wCfz) = true then lineS e l wCfz st else ([], st)
def creditS (e : Nat) (l : List Tok) (st : St) : (Crd × List NdP) × St :=
 let a1 := lineS e l wCredit st
 let a2 := lineS e l wApz a1.2
 let a3 := lineS e l wBnz a2.2
 let a4 := lineS e l wIssuer a3.2
 let a5 := confS e l a4.2
 let a6 := lineS e l wFrom a5.2
 let a7 := lineS e l wTo a6.2
 let a8 := sumS e l a7.2
 let a9 := dayS e l wLatest a8.2
 let a10 := dayS e l wExpiry a9.2
 let a11 := numS e l 0 1048576 (tkz e l (wdz wWithin) a10.2).2
 let s12 := endS e l (tkz e l (wdz wDays) a11.2).2
 let a12 := tenorS e l s12
 let a13 := choiceS e l wPartial a12.2
 let a14 := choiceS e l wChange a13.2
 let a15 := needsS e l (l.length + 1) 0 a14.2
 ((⟨a1.1, a2.1, a3.1, a4.1, a5.1, a6.1, a7.1, a8.1.cur, a8.1.amount, a8.1.above, a8.1.below, a9.1, a10.1, a11.1, a12.1, a13.1, a14.1⟩, a15.1), a15.2)
def parseT (s : Txt) : Except (Nat × Int) (Crd × List NdP) :=
 if 4096 < s.length then .error (0, 7)
 else match scanT s with
  | .error q => .error q
  | .ok l => if (creditS s.length l ⟨0, 0, 0⟩).2.cd = 0 then .ok (creditS s.length l ⟨0, 0, 0⟩).1 else .error ((creditS s.length l ⟨0, 0, 0⟩).2.pl, (creditS s.length l ⟨0, 0, 0⟩).2.cd)
def Keeps {α : Type} (f : St → α × St) : Prop := ∀ st : St, st.cd ≠ 0 → (f st).2 = st
theorem take_keeps (e : Nat) (l : List Tok) (p : Tok → Bool) : Keeps (tkz e l p) := fun st h => by rw [tbz h]
theorem num_keeps (e : Nat) (l : List Tok) (lo hi : Int) : Keeps (numS e l lo hi) := fun st h => by rw [num_bad h]
theorem end_bad {e : Nat} {l : List Tok} {st : St} (h : st.cd ≠ 0) : endS e l st = st := take_keeps e l _ st h
theorem line_keeps (e : Nat) (l : List Tok) (x : Txt) : Keeps (lineS e l x) := fun st h => by
 unfold lineS; rw [tbz h, tbz h]; exact end_bad h
theorem day_keeps (e : Nat) (l : List Tok) (x : Txt) : Keeps (dayS e l x) := fun st h => by
 unfold dayS; rw [tbz h, num_bad h]; exact end_bad h
theorem choice_keeps (e : Nat) (l : List Tok) (x : Txt) : Keeps (choiceS e l x) := fun st h => by
 unfold choiceS; rw [tbz h, tbz h]; exact end_bad h
theorem ten_keeps (e : Nat) (l : List Tok) : Keeps (tenS e l) := fun st h => by
 unfold tenS; rw [if_neg (by rw [ask_bad h]; simp), num_bad h, tbz h]; exact end_bad h
theorem tenor_keeps (e : Nat) (l : List Tok) : Keeps (tenorS e l) := fun st h => by
 unfold tenorS; rw [tbz h]; exact ten_keeps e l st h
theorem sum_keeps (e : Nat) (l : List Tok) : Keeps (sumS e l) := fun st h => by
 unfold sumS; simp only [tbz h, num_bad h]; exact end_bad h
theorem with_keeps (e : Nat) (l : List Tok) : Keeps (withS e l) := fun st h => by
 unfold withS; rw [if_neg (by rw [ask_bad h]; simp)]
theorem need_keeps (e : Nat) (l : List Tok) : Keeps (needS e l) := fun st h => by
 unfold needS; simp only [tbz h, num_bad h]; rw [with_keeps e l st h]; exact end_bad h
theorem conf_keeps (e : Nat) (l : List Tok) : Keeps (confS e l) := fun st h => by
 unfold confS; rw [if_neg (by rw [ask_bad h]; simp)]
theorem needs_bad {e : Nat} {l : List Tok} {st : St} (h : st.cd ≠ 0) (n c : Nat) : needsS e l n c st = ([], st) := by
 cases n with
 | zero => rfl
 | succ n => rw [needsS, if_neg (fun hx => h hx.1)]
theorem credit_bad {e : Nat} {l : List Tok} {st : St} (h : st.cd ≠ 0) : (creditS e l st).2 = st := by
 unfold creditS
 simp only [line_keeps e l _ st h, conf_keeps e l st h, sum_keeps e l st h, day_keeps e l _ st h, tbz h, num_bad h, end_bad h, tenor_keeps e l st h, choice_keeps e l _ st h, needs_bad h]
theorem whole_fuel {e : Nat} {l : List Tok} {st : St} (h : st.cd ≠ 0 ∨ st.k ≤ l.length) : wholeS e l (2 * l.length + 2) st = some (wholeG e l st) := by
 have ha := whole_agree e l (2 * l.length + 2) (by omega)
 by_cases hz : st.cd = 0
 ·rcases h with h | h
  ·exact absurd hz h
  ·obtain ⟨x, y, h1, _⟩ := ha.2 st ⟨hz, h⟩ (by omega)
   unfold wholeG; rw [h1]; rfl
 ·obtain ⟨r, h1⟩ := ha.1 st hz
  unfold wholeG; rw [h1]; rfl
def Adv {α : Type} (f : St → α × St) : Prop := ∀ st : St, (f st).2.cd = 0 → st.cd = 0 ∧ st.k ≤ (f st).2.k
theorem tmz {e : Nat} {l : List Tok} {p : Tok → Bool} {st : St} (h : (tkz e l p st).2.cd = 0) : st.cd = 0 ∧ (tkz e l p st).2.k = st.k + 1 := by
 by_cases hz : st.cd = 0
 ·obtain ⟨t, _, _, h3⟩ := take_ok h
  exact ⟨hz, by rw [h3]; rfl⟩
 ·rw [tbz hz] at h; exact absurd h hz
theorem num_adv (e : Nat) (l : List Tok) (lo hi : Int) : Adv (numS e l lo hi) := fun st h => by
 unfold numS at h ⊢
 by_cases hz : (tkz e l (kdB 2) st).2.cd = 0
 ·rw [if_pos hz] at h ⊢
  obtain ⟨h1, h2⟩ := tmz hz; simp only at h ⊢
  split at h
  ·rename_i hx
   rw [fail_fine hz] at h; exact absurd h (show ¬ ((3 : Int) = 0) by decide)
  ·rename_i hx
   rw [if_neg hx]; exact ⟨h1, by omega⟩
 ·rw [if_neg hz] at h; exact absurd h hz
theorem end_more {e : Nat} {l : List Tok} {st : St} (h : (endS e l st).cd = 0) : st.cd = 0 ∧ (endS e l st).k = st.k + 1 := tmz h
theorem whole_adv (e : Nat) (l : List Tok) {st : St} (hk : st.k ≤ l.length) (h : (wholeG e l st).2.cd = 0) : st.cd = 0 ∧ st.k < (wholeG e l st).2.k := by
 have ha := whole_agree e l (2 * l.length + 2) (by omega)
 by_cases hz : st.cd = 0
 ·obtain ⟨x, y, h1, _, _, h4⟩ := ha.2 st ⟨hz, hk⟩ (by omega)
  unfold wholeG at h ⊢; rw [h1] at h ⊢; exact ⟨hz, h4 h⟩
 ·obtain ⟨r, h1⟩ := ha.1 st hz
  unfold wholeG at h; rw [h1] at h; exact absurd h hz
theorem with_adv (e : Nat) (l : List Tok) : Adv (withS e l) := fun st h => by
 unfold withS at h ⊢
 by_cases ha : askS l st 0 (wdz wWith) = true
 ·rw [if_pos ha] at h ⊢
  obtain ⟨hcd, t, hlk, _, _⟩ := ask_step ha; have hlt : st.k < l.length := (List.getElem?_eq_some_iff.1 hlk).1; have h2 := (whole_adv e l (st := st.step) (show st.k + 1 ≤ l.length from hlt) h).2; have h3 : st.step.k = st.k + 1 := rfl; exact ⟨hcd, by omega⟩
 ·rw [if_neg ha] at h ⊢; exact ⟨h, Nat.le_refl _⟩
theorem need_more {e : Nat} {l : List Tok} {st : St} (h : (needS e l st).2.cd = 0) : st.cd = 0 ∧ st.k < (needS e l st).2.k := by
 unfold needS at h ⊢
 simp only at h ⊢
 obtain ⟨h1, g1⟩ := end_more h
 obtain ⟨h2, g2⟩ := with_adv e l _ h1
 obtain ⟨h3, g3⟩ := num_adv e l 1 9 _ h2
 obtain ⟨h4, g4⟩ := tmz h3
 obtain ⟨h5, g5⟩ := tmz h4
 obtain ⟨h6, g6⟩ := tmz h5
 exact ⟨h6, by omega⟩
theorem full_k (e : Nat) (l : List Tok) (c : Nat) (st : St) : (fullS e l c st).k = st.k := by
 unfold fullS failS
 split
 ·split <;> rfl
 ·rfl
theorem step_par {w : World} {pb : Nat} {A : Option Addr} {c e : Nat} {l : List Tok} {st : St} (h : ParAt w pb A c e l st) (hlt : st.k < l.length) (k : Nat) (hk : st.k = k) : ParAt (w.setCell (Az pb 1) (Iz ((k : Int) + 1))) pb A c e l st.step := by
 subst hk
 exact ⟨h.row.set_ 1 (Iz ((st.k : Int) + 1)), h.tok.but ((But.refl pb w).setCell _ _), h.len, by show st.k + 1 ≤ l.length; omega⟩
def wTwo (w : World) : World := (w.alloc (.cells #[.string (mkT wYes), .string (mkT wNo)] 9)).alloc (.cells #[.slice (some (Az w.heap.size 0)) 2 2] 110)
theorem below_wTwo (w : World) : Bz w (wTwo w) := ((Below.refl _ w).alloc leZ _).alloc (by simp) _
theorem yes_new (w : World) : FitsAt (wTwo w) 131 #[.pointer (some ⟨w.heap.size + 1, 0, none⟩)] yesB := by
 refine word_fits (ws := [wYes, wNo]) (g := w.heap.size) (off := 0) (c := 2) ((blk_second w (.cells #[.string (mkT wYes), .string (mkT wNo)] 9) 110 #[.slice (some (Az w.heap.size 0)) 2 2]).cell 0) ?_ (by decide)
 intro j x hx
 have hj : j < 2 := (List.getElem?_eq_some_iff.1 hx).1
 have hb := ((Blk.new w 9 #[.string (mkT wYes), .string (mkT wNo)]).alloc (.cells #[.slice (some (Az w.heap.size 0)) 2 2] 110))
 rw [Nat.zero_add]
 refine (hb.cell j).trans ?_
 obtain rfl | rfl : j = 0 ∨ j = 1 := by omega
 all_goals
  obtain rfl := Option.some.inj hx
  rfl
section
variable (w : World) (pb : Nat) (A : Option Addr) (c e : Nat) (l : List Tok) (st : St)
theorem end_any (hp : Hid (ParAt w pb A c e l st)) :
  Cz 92 #[.pointer (some (Az pb 0))] w fun x w' => x = .returned (.tuple #[]) ∧ But pb w w' ∧ ParAt w' pb A c e l (endS e l st) := by
 have e161 := enters_of Tryz.func161 (by kernel_rfl) rfl
 have hB := hdZ (But.refl pb w)
 go_enter Tryz.func92, Tryz.ntmps92
 go_wp2_with fail
 refine (sgn_any _ _ _ _).mono ?_
 rintro x wz ⟨rfl, rfl⟩
 go_wp2_with fail
 have hB := hdZ (hB.out.below (bwz w sSemi))
 have hp := hdZ (hp.out.below (bwz w sSemi))
 obtain ⟨⟨t1, s1⟩, h1⟩ := nmZ (tkz e l (signB sSemi) st)
 refine (tnz (wOne w sSemi) pb A c e l st 161 _ e161 (signB sSemi) hp (sign_new w sSemi)).mono ?_
 rintro x w1 ⟨rfl, hu, hq⟩
 rw [h1.out] at hq ⊢
 have hB := hdZ (hB.out.trans hu)
 have hp := hdZ hq
 clear hu hq
 simp only at hp ⊢
 go_wp2_with fail
 go_end0
 have hr : Hid (endS e l st = s1) := by unfold Hid endS; rw [h1.out]
 exact ⟨rfl, hB.out, by rw [hr.out]; exact hp.out⟩
theorem days_any (hp : Hid (ParAt w pb A c e l st)) (hok : Hid (TokOk l)) (lo : Int) :
  Cz 91 #[.pointer (some (Az pb 0)), Iz lo] w fun x w' => x = .returned (Iz (numS e l lo 1048576 st).1) ∧ But pb w w' ∧ ParAt w' pb A c e l (numS e l lo 1048576 st).2 := by
 have hB := hdZ (But.refl pb w)
 go_enter Tryz.func91, Tryz.ntmps91
 go_wp2_with fail
 obtain ⟨⟨n1, s1⟩, h1⟩ := nmZ (numS e l lo 1048576 st)
 refine (number_any w pb A c e l st lo 1048576 hp hok).mono ?_
 rintro x w1 ⟨rfl, hu, hq⟩
 rw [h1.out] at hq ⊢
 have hB := hdZ (hB.out.trans hu)
 have hp := hdZ hq
 clear hu hq
 simp only at hp ⊢
 go_wp2_with fail
 go_ret
 rw [h1.out]
 exact ⟨rfl, hB.out, hp.out⟩
theorem line_any_p (hp : Hid (ParAt w pb A c e l st)) (x : Txt) :
  Cz 85 #[.pointer (some (Az pb 0)), .string (mkT x)] w fun x' w' => x' = .returned (.string ⟨(lineS e l x st).1.toArray⟩) ∧ But pb w w' ∧ ParAt w' pb A c e l (lineS e l x st).2 := by
 have e131 := enters_of Tryz.func131 (by kernel_rfl) rfl
 have e125 := enters_of Tryz.func125 (by kernel_rfl) rfl
 have hB := hdZ (But.refl pb w)
 go_enter Tryz.func85, Tryz.ntmps85
 go_wp2_with fail
 refine (word_any _ _ _ _).mono ?_
 rintro x wz ⟨rfl, rfl⟩
 go_wp2_with fail
 have hB := hdZ (hB.out.below (bwz w x))
 have hp := hdZ (hp.out.below (bwz w x))
 obtain ⟨⟨t1, s1⟩, h1⟩ := nmZ (tkz e l (wdz x) st)
 refine (tnz (wOne w x) pb A c e l st 131 _ e131 (wdz x) hp (word_new w x)).mono ?_
 rintro x w1 ⟨rfl, hu, hq⟩
 rw [h1.out] at hq ⊢
 have hB := hdZ (hB.out.trans hu)
 have hp := hdZ hq
 clear hu hq
 simp only at hp ⊢
 go_wp2_with fail
 obtain ⟨⟨t2, s2⟩, h2⟩ := nmZ (tkz e l nmB s1)
 refine (tnz w1 pb A c e l s1 125 #[] e125 nmB hp (named_fits _)).mono ?_
 rintro x w2 ⟨rfl, hu, hq⟩
 rw [h2.out] at hq ⊢
 have hB := hdZ (hB.out.trans hu)
 have hp := hdZ hq
 clear hu hq
 simp only at hp ⊢
 go_wp2_with fail
 refine (end_any w2 pb A c e l s2 hp).mono ?_
 rintro x w3 ⟨rfl, hu, hq⟩
 have hB := hdZ (hB.out.trans hu)
 have hp := hdZ hq
 clear hu hq
 go_wp2_with fail
 go_ret
 have hr : Hid (lineS e l x st = (t2, endS e l s2)) := by unfold Hid lineS; rw [h1.out]; simp only; rw [h2.out]
 rw [hr.out]
 exact ⟨rfl, hB.out, hp.out⟩
theorem day_any_p (hp : Hid (ParAt w pb A c e l st)) (hok : Hid (TokOk l)) (x : Txt) :
  Cz 89 #[.pointer (some (Az pb 0)), .string (mkT x)] w fun x' w' => x' = .returned (Iz (dayS e l x st).1) ∧ But pb w w' ∧ ParAt w' pb A c e l (dayS e l x st).2 := by
 have e131 := enters_of Tryz.func131 (by kernel_rfl) rfl
 have hB := hdZ (But.refl pb w)
 go_enter Tryz.func89, Tryz.ntmps89
 go_wp2_with fail
 refine (word_any _ _ _ _).mono ?_
 rintro x wz ⟨rfl, rfl⟩
 go_wp2_with fail
 have hB := hdZ (hB.out.below (bwz w x))
 have hp := hdZ (hp.out.below (bwz w x))
 obtain ⟨⟨t1, s1⟩, h1⟩ := nmZ (tkz e l (wdz x) st)
 refine (tnz (wOne w x) pb A c e l st 131 _ e131 (wdz x) hp (word_new w x)).mono ?_
 rintro x w1 ⟨rfl, hu, hq⟩
 rw [h1.out] at hq ⊢
 have hB := hdZ (hB.out.trans hu)
 have hp := hdZ hq
 clear hu hq
 simp only at hp ⊢
 go_wp2_with fail
 obtain ⟨⟨n2, s2⟩, h2⟩ := nmZ (numS e l 0 1048576 s1)
 refine (days_any w1 pb A c e l s1 hp hok 0).mono ?_
 rintro x w2 ⟨rfl, hu, hq⟩
 rw [h2.out] at hq ⊢
 have hB := hdZ (hB.out.trans hu)
 have hp := hdZ hq
 clear hu hq
 simp only at hp ⊢
 go_wp2_with fail
 refine (end_any w2 pb A c e l s2 hp).mono ?_
 rintro x w3 ⟨rfl, hu, hq⟩
 have hB := hdZ (hB.out.trans hu)
 have hp := hdZ hq
 clear hu hq
 go_wp2_with fail
 go_ret
 have hr : Hid (dayS e l x st = (n2, endS e l s2)) := by unfold Hid dayS; rw [h1.out]; simp only; rw [h2.out]
 rw [hr.out]
 exact ⟨rfl, hB.out, hp.out⟩
theorem choice_any (hp : Hid (ParAt w pb A c e l st)) (x : Txt) :
  Cz 94 #[.pointer (some (Az pb 0)), .string (mkT x)] w fun x' w' => x' = .returned (.bool (choiceS e l x st).1) ∧ But pb w w' ∧ ParAt w' pb A c e l (choiceS e l x st).2 := by
 have e131 := enters_of Tryz.func131 (by kernel_rfl) rfl
 have hB := hdZ (But.refl pb w)
 go_enter Tryz.func94, Tryz.ntmps94
 go_wp2_with fail
 refine (word_any _ _ _ _).mono ?_
 rintro x wz ⟨rfl, rfl⟩
 go_wp2_with fail
 have hB := hdZ (hB.out.below (bwz w x))
 have hp := hdZ (hp.out.below (bwz w x))
 obtain ⟨⟨t1, s1⟩, h1⟩ := nmZ (tkz e l (wdz x) st)
 refine (tnz (wOne w x) pb A c e l st 131 _ e131 (wdz x) hp (word_new w x)).mono ?_
 rintro x w1 ⟨rfl, hu, hq⟩
 rw [h1.out] at hq ⊢
 have hB := hdZ (hB.out.trans hu)
 have hp := hdZ hq
 clear hu hq
 simp only at hp ⊢
 go_wp2_with fail
 refine (word_any _ _ _ _).mono ?_
 rintro x wz ⟨rfl, rfl⟩
 go_wp2_with fail
 have hB := hdZ (hB.out.below (below_wTwo w1))
 have hp := hdZ (hp.out.below (below_wTwo w1))
 obtain ⟨⟨t2, s2⟩, h2⟩ := nmZ (tkz e l yesB s1)
 refine (tnz (wTwo w1) pb A c e l s1 131 _ e131 yesB hp (yes_new w1)).mono ?_
 rintro x w2 ⟨rfl, hu, hq⟩
 rw [h2.out] at hq ⊢
 have hB := hdZ (hB.out.trans hu)
 have hp := hdZ hq
 clear hu hq
 simp only at hp ⊢
 go_wp2_with fail
 refine (end_any w2 pb A c e l s2 hp).mono ?_
 rintro x w3 ⟨rfl, hu, hq⟩
 have hB := hdZ (hB.out.trans hu)
 have hp := hdZ hq
 clear hu hq
 go_wp2_with fail
 go_ret
 have hr : Hid (choiceS e l x st = (t2 == wYes, endS e l s2)) := by unfold Hid choiceS; rw [h1.out]; simp only; rw [h2.out]
 rw [hr.out]
 exact ⟨rfl, hB.out, hp.out⟩
theorem tenor_any (hp : Hid (ParAt w pb A c e l st)) (hok : Hid (TokOk l)) :
  Cz 93 #[.pointer (some (Az pb 0))] w fun x w' => x = .returned (Iz (tenorS e l st).1) ∧ But pb w w' ∧ ParAt w' pb A c e l (tenorS e l st).2 := by
 have e131 := enters_of Tryz.func131 (by kernel_rfl) rfl
 have hB := hdZ (But.refl pb w)
 go_enter Tryz.func93, Tryz.ntmps93
 go_wp2_with fail
 refine (word_any _ _ _ _).mono ?_
 rintro x wz ⟨rfl, rfl⟩
 go_wp2_with fail
 have hB := hdZ (hB.out.below (bwz w wTenor))
 have hp := hdZ (hp.out.below (bwz w wTenor))
 obtain ⟨⟨t1, s1⟩, h1⟩ := nmZ (tkz e l (wdz wTenor) st)
 refine (tnz (wOne w wTenor) pb A c e l st 131 _ e131 (wdz wTenor) hp (word_new w wTenor)).mono ?_
 rintro x w1 ⟨rfl, hu, hq⟩
 rw [h1.out] at hq ⊢
 have hB := hdZ (hB.out.trans hu)
 have hp := hdZ hq
 clear hu hq
 simp only at hp ⊢
 have hr : Hid (tenorS e l st = tenS e l s1) := by unfold Hid tenorS; rw [h1.out]
 go_wp2_with fail
 refine (word_any _ _ _ _).mono ?_
 rintro x wz ⟨rfl, rfl⟩
 go_wp2_with fail
 have hB := hdZ (hB.out.below (bwz w1 wSight))
 have hp := hdZ (hp.out.below (bwz w1 wSight))
 obtain ⟨b2, h2⟩ := nmZ (askS l s1 0 (wdz wSight))
 refine (sees_any (wOne w1 wSight) pb A c e l s1 131 _ e131 (wdz wSight) hp (word_new w1 wSight)).mono ?_
 rintro x w2 ⟨rfl, hb⟩
 rw [h2.out]
 have hB := hdZ (hB.out.below hb)
 have hp := hdZ (hp.out.below hb)
 clear hb
 cases b2 with
 | true =>
  obtain ⟨hcd, tk0, hlk, _, _⟩ := ask_step h2.out; have hlt : s1.k < l.length := (List.getElem?_eq_some_iff.1 hlk).1; obtain ⟨k1, hk1⟩ := nmZ (s1.k); have hpar := hdZ (step_par hp.out hlt k1 hk1.out); have hu : Hid (But pb w2 (w2.setCell (Az pb 1) (Iz ((k1 : Int) + 1)))) := (But.refl pb _).setCell _ _; have c1 : w2.cell? (Az pb 1) = some (Iz k1) := by rw [← hk1.out]; exact hp.out.row.cell 1
  have y1 := hp.out.row.frozen 1; have hln := hp.out.len; have hlt1 := hp.out.row.lt; rw [hk1.out] at hlt; have w1' : IntKind.i64.wrap ((k1 : Int) + 1) = (k1 : Int) + 1 := IntWalk.i64_in _ (by omega); clear hlk; go_wp2_with fail; obtain ⟨wy, hwy⟩ := nmZ (w2.setCell (Az pb 1) (Iz ((k1 : Int) + 1))); have hB := hdZ (hB.out.trans hu.out); rw [hwy.out] at hpar hB ⊢; have hp := hpar; clear hwy hu hpar c1 y1; refine (end_any wy pb A c e l s1.step hp).mono ?_; rintro x w3 ⟨rfl, hu, hq⟩; have hB := hdZ (hB.out.trans hu); have hp := hdZ hq; clear hu hq; go_wp2_with fail; go_ret; have hr2 : Hid (tenS e l s1 = (0, endS e l s1.step)) := by unfold Hid tenS; rw [if_pos h2.out]
  rw [hr.out, hr2.out]; exact ⟨rfl, hB.out, hp.out⟩
 | false =>
  go_wp2_with fail; obtain ⟨⟨n3, s3⟩, h3⟩ := nmZ (numS e l 1 1048576 s1); refine (days_any w2 pb A c e l s1 hp hok 1).mono ?_; rintro x w4 ⟨rfl, hu, hq⟩; rw [h3.out] at hq ⊢; have hB := hdZ (hB.out.trans hu); have hp := hdZ hq; clear hu hq; simp only at hp ⊢; go_wp2_with fail; refine (word_any _ _ _ _).mono ?_; rintro x wz ⟨rfl, rfl⟩; go_wp2_with fail; have hB := hdZ (hB.out.below (bwz w4 wDays)); have hp := hdZ (hp.out.below (bwz w4 wDays)); obtain ⟨⟨t4, s4⟩, h4⟩ := nmZ (tkz e l (wdz wDays) s3); refine (tnz (wOne w4 wDays) pb A c e l s3 131 _ e131 (wdz wDays) hp (word_new w4 wDays)).mono ?_; rintro x w5 ⟨rfl, hu, hq⟩; rw [h4.out] at hq ⊢; have hB := hdZ (hB.out.trans hu); have hp := hdZ hq; clear hu hq; simp only at hp ⊢; go_wp2_with fail; refine (end_any w5 pb A c e l s4 hp).mono ?_; rintro x w6 ⟨rfl, hu, hq⟩; have hB := hdZ (hB.out.trans hu); have hp := hdZ hq; clear hu hq; go_wp2_with fail; go_ret; have hr2 : Hid (tenS e l s1 = (n3, endS e l s4)) := by unfold Hid tenS; rw [if_neg (by rw [h2.out]; simp), h3.out]; simp only; rw [h4.out]
  rw [hr.out, hr2.out]; exact ⟨rfl, hB.out, hp.out⟩
end
end Go.Proofs.YtjkmhlfjheiekaaGreatDoor

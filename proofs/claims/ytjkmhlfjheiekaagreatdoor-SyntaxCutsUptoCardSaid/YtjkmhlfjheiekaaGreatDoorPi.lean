import Derived.Test.YtjkmhlfjheiekaaGreatDoorPg
import Derived.Test.YtjkmhlfjheiekaaGreatDoorVm
set_option maxRecDepth 1000000
set_option maxHeartbeats 51200000
namespace Go.Proofs.YtjkmhlfjheiekaaGreatDoor
open Go Go.RowKit Go.BigFrame Go.Maps
theorem whole_suf {e n : Nat} {ts ts' : List Tok} {r : Rul} (h : wholeP e n ts = some (.ok (r, ts'))) : ts' <:+ ts := by
 unfold wholeP at h
 split at h
 ·cases h
 ·cases h
 ·rename_i r1 t1 h1
  split at h
  ·cases h
  ·simp only [Option.some.injEq, Except.ok.injEq, Prod.mk.injEq] at h
   obtain ⟨_, rfl⟩ := h; exact row_suf n (row_suf n (one_suf e n)) _ _ _ h1
theorem i83 : (Tryz.prog.info? 83).map (·.size) = some 5 := by kernel_rfl
theorem i74 : (Tryz.prog.info? 74).map (·.size) = some 8 := by kernel_rfl
theorem i41 : (Tryz.prog.info? 41).map (·.size) = some 18 := by kernel_rfl
theorem zc_one : zeroC.all (·.oneCell') = true := by kernel_rfl
def isAtD (l : List Tok) (x : Txt) (st : St) : Bool := st.cd == 0 && atI (isT x) l st.k
def confD (e : Nat) (l : List Tok) (st : St) : Txt × St := if isAtD l wCfz st = true then lineD e l wCfz st else ([], st)
def tenD (e : Nat) (l : List Tok) (st : St) : Int × St := if isAtD l wSight st = true then (0, st.step) else ((numD e l 1 1048576 st).1, (tkz e l (isT wDays) (numD e l 1 1048576 st).2).2)
def needsD (e : Nat) (l : List Tok) (N : Nat) : Nat → Nat → St → List NdP × St
 | 0, _, st => ([], st)
 | m + 1, c, st => if st.cd = 0 ∧ st.k < l.length then (if atI (isT wWz) l st.k = true ∧ c = 64 then ([], ⟨st.k, plz e l st.k, 7⟩) else ((needD e l N st).1 :: (needsD e l N m (c + 1) (needD e l N st).2).1, (needsD e l N m (c + 1) (needD e l N st).2).2)) else ([], st)
def creditD (e : Nat) (l : List Tok) (st : St) : (Crd × List NdP) × St :=
 let a1 := lineD e l wCredit st
 let a2 := lineD e l wApz a1.2
 let a3 := lineD e l wBnz a2.2
 let a4 := lineD e l wIssuer a3.2
 let a5 := confD e l a4.2
 let a6 := lineD e l wFrom a5.2
 let a7 := lineD e l wTo a6.2
 let s8 := (tkz e l (isT wSum) a7.2).2
 let a9 := tkz e l (kdB 4) s8
 let a10 := numD e l 1 1099511627776 a9.2
 let a11 := numD e l 0 1000 (tkz e l (isT wAbove) a10.2).2
 let a12 := numD e l 0 1000 (tkz e l (isT wBelow) a11.2).2
 let s13 := (tkz e l (isT sSemi) a12.2).2
 let a14 := toldD e l wLatest s13
 let a15 := toldD e l wExpiry a14.2
 let a16 := withinD e l wWithin a15.2
 let s17 := (tkz e l (isT wTenor) a16.2).2
 let a18 := tenD e l s17
 let s19 := (tkz e l (isT sSemi) a18.2).2
 let a20 := eitherD e l wPartial s19
 let a21 := eitherD e l wChange a20.2
 let a22 := needsD e l (2 * l.length + 2) (l.length + 1) 0 a21.2
 ((⟨a1.1, a2.1, a3.1, a4.1, a5.1, a6.1, a7.1, a9.1, a10.1, a11.1, a12.1, a14.1, a15.1, a16.1, a18.1, a20.1, a21.1⟩, a22.1), a22.2)
theorem needsD_bad {e : Nat} {l : List Tok} {N : Nat} {st : St} (h : st.cd ≠ 0) (m c : Nat) : needsD e l N m c st = ([], st) := by
 cases m with
 | zero => rfl
 | succ n => rw [needsD, if_neg (fun hx => h hx.1)]
theorem numD_more {e : Nat} {l : List Tok} {lo hi : Int} {st : St} (h : (numD e l lo hi st).2.cd = 0) : st.cd = 0 ∧ st.k ≤ (numD e l lo hi st).2.k := by
 unfold numD at h ⊢
 by_cases hz : (tkz e l (kdB 2) st).2.cd = 0
 ·rw [if_pos hz] at h ⊢
  obtain ⟨h1, h2⟩ := tmz hz
  by_cases hx : (numV (tkz e l (kdB 2) st).1 : Int) < lo ∨ hi < (numV (tkz e l (kdB 2) st).1 : Int)
  ·rw [if_pos hx] at h
   simp only at h; rw [fail_fine h1] at h; exact absurd h (show ¬ ((3 : Int) = 0) by decide)
  ·rw [if_neg hx]
   exact ⟨h1, by show st.k ≤ (tkz e l (kdB 2) st).2.k; omega⟩
 ·rw [if_neg hz] at h; exact absurd h hz
theorem suf_more {l ts : List Tok} {k : Nat} (h : ts <:+ l.drop (k + 1)) (hk : k < l.length) : k + 1 ≤ l.length - ts.length := by
 have := h.length_le
 rw [List.length_drop] at this
 omega
theorem needT_more {e : Nat} {l : List Tok} {N : Nat} {kd : Int} {a : Int × St} (hN : N = 2 * l.length + 2) (h : (needT e l N kd a).2.cd = 0) : a.2.cd = 0 ∧ a.2.k ≤ (needT e l N kd a).2.k := by
 subst hN
 unfold needT at h ⊢
 by_cases hw : a.2.cd = 0 ∧ atI (isT wWith) l a.2.k = true
 ·rw [if_pos hw] at h ⊢
  have hkl : a.2.k < l.length := by
   rcases Nat.lt_or_ge a.2.k l.length with h | h
   ·exact h
   ·have := hw.2; rw [atI_none h] at this; simp at this
  obtain ⟨x, y, _, h2, h3, _⟩ := (whole_agree e l (2 * l.length + 2) (by omega)).2 ⟨a.2.k + 1, 0, 0⟩ ⟨rfl, hkl⟩ (by show l.length - (a.2.k + 1) < _; omega); simp only at h2; rw [h2] at h ⊢; refine ⟨hw.1, ?_⟩
  rcases y with ⟨pl, cd⟩ | ⟨r, ts⟩
  ·simp only at h
   exact absurd h h3.2.2
  ·simp only at h ⊢
   have h4 := tmz h; have h5 := suf_more (whole_suf h2) hkl; have h6 := h4.2; simp only at h6; omega
 ·rw [if_neg hw] at h ⊢
  have := tmz h; exact ⟨this.1, by have h6 := this.2; simp only; omega⟩
theorem needD_more {e : Nat} {l : List Tok} {N : Nat} {st : St} (hN : N = 2 * l.length + 2) (h : (needD e l N st).2.cd = 0) : st.cd = 0 ∧ st.k < (needD e l N st).2.k := by
 unfold needD at h ⊢
 by_cases h1 : (tkz e l (isT wWz) st).2.cd ≠ 0
 ·rw [if_pos h1] at h; exact absurd h h1
 ·rw [if_neg h1] at h ⊢
  by_cases h2 : papI l (tkz e l (isT wWz) st).2.k < 0
  ·rw [if_pos h2] at h; exact absurd h two_ne
  ·rw [if_neg h2] at h ⊢
   obtain ⟨g1, g2⟩ := needT_more hN h; obtain ⟨g3, g4⟩ := numD_more g1; obtain ⟨g5, g6⟩ := tmz g3; obtain ⟨g7, g8⟩ := tmz g5; have g9 : (tkz e l (isT wWz) st).2.step.k = (tkz e l (isT wWz) st).2.k + 1 := rfl; have g10 := tmz (st := st) (p := isT wWz) (e := e) (l := l) (by simpa using h1); exact ⟨g10.1, by have := g10.2; omega⟩
def pDz (s : Txt) : Except (Nat × Int) (Crd × List NdP) :=
 if 4096 < s.length then .error (0, 7)
 else match scanT s with
  | .error q => .error q
  | .ok l => endC (creditD s.length l ⟨0, 0, 0⟩)
open Go Go.RowKit
def PlKeeps (part : St → Option (Rul × St)) : Prop := ∀ st r, part st = some r → r.2.cd = 0 → r.2.pl = st.pl ∧ st.cd = 0
theorem take_pl {e : Nat} {l : List Tok} {p : Tok → Bool} {st : St} (h : (tkz e l p st).2.cd = 0) : (tkz e l p st).2.pl = st.pl := by
 obtain ⟨t, _, _, h3⟩ := take_ok h
 rw [h3]; rfl
theorem num_pl {e : Nat} {l : List Tok} {lo hi : Int} {st : St} (h : (numS e l lo hi st).2.cd = 0) : (numS e l lo hi st).2.pl = st.pl := by
 unfold numS at h ⊢
 by_cases hz : (tkz e l (kdB 2) st).2.cd = 0
 ·rw [if_pos hz] at h ⊢
  simp only at h ⊢
  split at h
  ·rw [fail_fine hz] at h
   exact absurd h (show ¬ ((3 : Int) = 0) by decide)
  ·rename_i hx
   rw [if_neg hx]; exact take_pl hz
 ·rw [if_neg hz] at h; exact absurd h hz
theorem atom_pl {e : Nat} {l : List Tok} {st : St} (h : (atomS e l st).2.cd = 0) : (atomS e l st).2.pl = st.pl ∧ st.cd = 0 := by
 have key : ∀ s : St, s = (tkz e l compB (tkz e l nmB st).2).2 → s.cd = 0 → s.pl = st.pl ∧ st.cd = 0 := fun s hs hz => by
  subst hs; have h1 := (tmz hz).1; exact ⟨by rw [take_pl hz, take_pl h1], (tmz h1).1⟩
 unfold atomS at h ⊢
 obtain ⟨s2, hs2⟩ : ∃ s, s = (tkz e l compB (tkz e l nmB st).2).2 := ⟨_, rfl⟩
 have hk := key s2 hs2
 rw [← hs2] at h ⊢
 clear key hs2
 split at h
 ·rename_i h1
  rw [if_pos h1]
  split at h
  ·rename_i h2
   rw [if_pos h2]; simp only at h ⊢; have g1 := (tmz h).1; have g2 := (tmz g1).1; obtain ⟨k1, k2⟩ := hk (tmz g2).1; exact ⟨by rw [take_pl h, take_pl g1, take_pl g2, k1], k2⟩
  ·rename_i h2
   rw [if_neg h2]; simp only at h ⊢; obtain ⟨k1, k2⟩ := hk (tmz h).1; exact ⟨by rw [take_pl h, k1], k2⟩
 ·rename_i h1
  rw [if_neg h1]
  split at h
  ·rename_i h2
   rw [if_pos h2]; simp only at h ⊢; obtain ⟨k1, k2⟩ := hk (tmz h).1; exact ⟨by rw [take_pl h, k1], k2⟩
  ·rename_i h2
   rw [if_neg h2]
   split at h
   ·rename_i h3
    rw [if_pos h3]; simp only at h ⊢; obtain ⟨k1, k2⟩ := hk (num_adv e l _ _ _ h).1; exact ⟨by rw [num_pl h, k1], k2⟩
   ·rename_i h3
    rw [if_neg h3]
    split at h
    ·rename_i h4
     rw [if_pos h4]; simp only at h ⊢; obtain ⟨k1, k2⟩ := hk (num_adv e l _ _ _ h).1; exact ⟨by rw [num_pl h, k1], k2⟩
    ·rename_i h4
     rw [if_neg h4]; simp only at h ⊢; exact hk h
theorem parts_pl {l : List Tok} {part : St → Option (Rul × St)} (sep : Txt) (hp : PlKeeps part) : ∀ (n : Nat) (st s' : St) (L : List Rul), partsS l part sep n st = some (L, s') → s'.cd = 0 → s'.pl = st.pl ∧ st.cd = 0
 | 0, _, _, _, h, _ => by simp [partsS] at h
 | n + 1, st, s', L, h, hz => by
  obtain ⟨m, r, s1, L1, hm, h1, h2, _⟩ := parts_cons h; obtain rfl : n = m := by omega
  unfold restS at h2
  by_cases ha : askS l s1 0 (wdz sep) = true
  ·rw [if_pos ha] at h2
   obtain ⟨k1, k2⟩ := parts_pl sep hp n s1.step s' L1 h2 hz; have k3 : s1.cd = 0 := k2; obtain ⟨k4, k5⟩ := hp st (r, s1) h1 k3; exact ⟨k1.trans k4, k5⟩
  ·rw [if_neg ha] at h2
   simp only [Option.some.injEq, Prod.mk.injEq] at h2; rw [← h2.2] at hz ⊢; exact hp st (r, s1) h1 hz
theorem row_pl {l : List Tok} {part : St → Option (Rul × St)} (sep : Txt) (k : Int) (n : Nat) (hp : PlKeeps part) : PlKeeps (rowS l part sep k n) := fun st r h hz => by
 obtain ⟨L, s', h1, rfl⟩ := row_some h
 exact parts_pl sep hp n st s' L h1 hz
theorem one_pl (e : Nat) (l : List Tok) : ∀ n, PlKeeps (oneS e l n)
 | 0 => fun st r h => by simp [oneS] at h
 | n + 1 => fun st r h hz => by
  have ih := one_pl e l n; rw [oneS] at h
  split at h
  ·cases h1 : oneS e l n st.step with
   | none => rw [h1] at h; simp at h
   | some x =>
    obtain ⟨r1, s1⟩ := x; rw [h1] at h; simp only [Option.some.injEq] at h; subst h; obtain ⟨k1, k2⟩ := ih st.step (r1, s1) h1 hz; exact ⟨k1, k2⟩
  ·split at h
   ·cases h1 : rowS l (rowS l (oneS e l n) wAnd 0 n) wOr 1 n st.step with
    | none => rw [h1] at h; simp at h
    | some x =>
     obtain ⟨r1, s1⟩ := x; rw [h1] at h; simp only [Option.some.injEq] at h; subst h; have k0 := (tmz hz).1; obtain ⟨k1, k2⟩ := row_pl wOr 1 n (row_pl wAnd 0 n ih) st.step (r1, s1) h1 k0; exact ⟨by rw [show ((r1, (tkz e l (signB sShut) s1).2) : Rul × St).2 = (tkz e l (signB sShut) s1).2 from rfl, take_pl hz]; exact k1, k2⟩
   ·simp only [Option.some.injEq] at h
    subst h; exact atom_pl hz
theorem wholeG_pl {e : Nat} {l : List Tok} {st : St} (hk : st.k ≤ l.length) (h : (wholeG e l st).2.cd = 0) : (wholeG e l st).2.pl = st.pl := by
 have hw := whole_fuel (e := e) (l := l) (st := st) (.inr hk)
 obtain ⟨x, hx⟩ : ∃ x, wholeG e l st = x := ⟨_, rfl⟩
 rw [hx] at hw h ⊢
 unfold wholeS at hw
 cases h1 : ruleS e l (2 * l.length + 2) st with
 | none => rw [h1] at hw; simp at hw
 | some y =>
  obtain ⟨r, s'⟩ := y; rw [h1] at hw; simp only [Option.some.injEq] at hw; subst hw; simp only at h ⊢
  split at h
  ·rename_i hc
   rw [fail_fine hc.1] at h; exact absurd h (show ¬ ((7 : Int) = 0) by decide)
  ·rename_i hc
   rw [if_neg hc]; exact (row_pl wOr 1 _ (row_pl wAnd 0 _ (one_pl e l _)) st (r, s') h1 h).1
def SimV {α : Type} (x' x : α × St) : Prop := x.2.cd = 0 ∧ x' = x ∨ x.2.cd ≠ 0 ∧ x'.2.cd = x.2.cd ∧ x'.2.pl = x.2.pl
def SimS (s' s : St) : Prop := s.cd = 0 ∧ s' = s ∨ s.cd ≠ 0 ∧ s'.cd = s.cd ∧ s'.pl = s.pl
theorem SimV.snd {α : Type} {x' x : α × St} (h : SimV x' x) : SimS x'.2 x.2 := by
 rcases h with ⟨h1, rfl⟩ | h
 ·exact .inl ⟨h1, rfl⟩
 ·exact .inr h
theorem SimV.fst {α : Type} {x' x : α × St} (h : SimV x' x) (hz : x.2.cd = 0) : x'.1 = x.1 := by
 rcases h with ⟨_, rfl⟩ | h
 ·rfl
 ·exact absurd hz h.1
theorem SimS.refl (s : St) : SimS s s := by
 by_cases h : s.cd = 0
 ·exact .inl ⟨h, rfl⟩
 ·exact .inr ⟨h, rfl, rfl⟩
theorem SimV.refl {α : Type} (x : α × St) : SimV x x := by
 by_cases h : x.2.cd = 0
 ·exact .inl ⟨h, rfl⟩
 ·exact .inr ⟨h, rfl, rfl⟩
theorem SimS.val {α : Type} {s' s : St} {a' a : α} (h : SimS s' s) (ha : s.cd = 0 → a' = a) : SimV (a', s') (a, s) := by
 rcases h with ⟨h1, rfl⟩ | h
 ·exact .inl ⟨h1, by rw [ha h1]⟩
 ·exact .inr h
def SimF {α : Type} (f g : St → α × St) : Prop := (∀ st, SimV (f st) (g st)) ∧ Keeps f ∧ Keeps g
theorem SimF.app {α : Type} {f g : St → α × St} (h : SimF f g) {s' s : St} (hs : SimS s' s) : SimV (f s') (g s) := by
 rcases hs with ⟨_, rfl⟩ | ⟨h1, h2, h3⟩
 ·exact h.1 _
 ·have e1 := h.2.1 s' (by rw [h2]; exact h1)
  have e2 := h.2.2 s h1; exact .inr ⟨by rw [e2]; exact h1, by rw [e1, e2]; exact h2, by rw [e1, e2]; exact h3⟩
theorem SimF.same {α : Type} {f : St → α × St} (h : Keeps f) : SimF f f := ⟨fun _ => SimV.refl _, h, h⟩
theorem take_sim (e : Nat) (l : List Tok) (p : Tok → Bool) : SimF (tkz e l p) (tkz e l p) := SimF.same (take_keeps e l p)
theorem numD_keeps (e : Nat) (l : List Tok) (lo hi : Int) : Keeps (numD e l lo hi) := fun st h => by
 unfold numD
 rw [tbz h, if_neg h]
theorem num_sim (e : Nat) (l : List Tok) (lo hi : Int) : SimF (numD e l lo hi) (numS e l lo hi) := by
 refine ⟨fun st => ?_, numD_keeps e l lo hi, num_keeps e l lo hi⟩
 unfold numD numS
 by_cases hz : (tkz e l (kdB 2) st).2.cd = 0
 ·rw [if_pos hz, if_pos hz]
  by_cases hx : (numV (tkz e l (kdB 2) st).1 : Int) < lo ∨ hi < (numV (tkz e l (kdB 2) st).1 : Int)
  ·rw [if_pos hx, if_pos hx, fail_fine hz, fail_fine (tmz hz).1]
   exact .inr ⟨show ¬ ((3 : Int) = 0) by decide, rfl, rfl⟩
  ·rw [if_neg hx, if_neg hx]
   exact SimV.refl _
 ·rw [if_neg hz, if_neg hz]
  exact SimV.refl _
theorem take_congr {e : Nat} {l : List Tok} {p q : Tok → Bool} (h : ∀ t ∈ l, p t = q t) : tkz e l p = tkz e l q := by
 funext st
 unfold tkz askS
 cases ht : l[st.k + 0]? with
 | none => rfl
 | some t => simp only [h t (List.mem_of_getElem? ht)]
section
variable (e : Nat) (l : List Tok) (hg : GoodL l)
include hg
theorem tk_word (x : Txt) (hx : nameM x = true) : tkz e l (isT x) = tkz e l (wdz x) := take_congr fun t ht => isT_word (hg t ht) hx
theorem tk_semi : tkz e l (isT sSemi) = tkz e l (signB sSemi) := take_congr fun t ht => isT_sign (hg t ht) (by decide)
theorem tk_named : tkz e l nameT = tkz e l nmB := take_congr fun t ht => nameT_named (hg t ht)
theorem line_eq (x : Txt) (hx : nameM x = true) : lineD e l x = lineS e l x := by
 funext st
 unfold lineD lineS endS
 rw [tk_word e l hg x hx, tk_semi e l hg, tk_named e l hg]
theorem at_ask (x : Txt) (hx : nameM x = true) (st : St) : isAtD l x st = askS l st 0 (wdz x) := by
 unfold isAtD askS atI
 rw [Nat.add_zero]
 cases ht : l[st.k]? with
 | none => rfl
 | some t => simp only [isT_word (hg t (List.mem_of_getElem? ht)) hx]
theorem conf_eq : confD e l = confS e l := by
 funext st
 unfold confD confS
 rw [at_ask l hg wCfz (by kernel_rfl), line_eq e l hg wCfz (by kernel_rfl)]
theorem told_sim (x : Txt) (hx : nameM x = true) : SimF (toldD e l x) (dayS e l x) := by
 refine ⟨fun st => ?_, fun st h => ?_, day_keeps e l x⟩
 ·unfold toldD dayS endS
  rw [tk_word e l hg x hx, tk_semi e l hg]; have h1 := (num_sim e l 0 1048576).app (SimS.refl (tkz e l (wdz x) st).2); exact ((take_sim e l (signB sSemi)).app h1.snd).snd.val fun hz => h1.fst (tmz hz).1
 ·unfold toldD
  rw [tbz h, numD_keeps e l _ _ st h, tbz h]
theorem within_sim (x : Txt) (hx : nameM x = true) : SimF (withinD e l x) (fun st => ((numS e l 0 1048576 (tkz e l (wdz x) st).2).1, endS e l (tkz e l (wdz wDays) (numS e l 0 1048576 (tkz e l (wdz x) st).2).2).2)) := by
 refine ⟨fun st => ?_, fun st h => ?_, fun st h => ?_⟩
 ·unfold withinD endS
  rw [tk_word e l hg x hx, tk_semi e l hg, tk_word e l hg wDays (by kernel_rfl)]; have h1 := (num_sim e l 0 1048576).app (SimS.refl (tkz e l (wdz x) st).2); have h2 := (take_sim e l (wdz wDays)).app h1.snd; exact ((take_sim e l (signB sSemi)).app h2.snd).snd.val fun hz => h1.fst (tmz (tmz hz).1).1
 ·unfold withinD
  rw [tbz h, numD_keeps e l _ _ st h, tbz h, tbz h]
 ·simp only
  rw [tbz h, num_bad h, tbz h]; exact end_bad h
theorem ten_sim : SimF (fun st => ((tenD e l st).1, (tkz e l (isT sSemi) (tenD e l st).2).2)) (tenS e l) := by
 refine ⟨fun st => ?_, fun st h => ?_, ten_keeps e l⟩
 ·unfold tenD tenS endS
  dsimp only
  rw [at_ask l hg wSight (by kernel_rfl), tk_semi e l hg, tk_word e l hg wDays (by kernel_rfl)]
  by_cases ha : askS l st 0 (wdz wSight) = true
  ·rw [if_pos ha, if_pos ha]; exact SimV.refl _
  ·rw [if_neg ha, if_neg ha]
   have h1 := (num_sim e l 1 1048576).app (SimS.refl st); have h2 := (take_sim e l (wdz wDays)).app h1.snd; exact ((take_sim e l (signB sSemi)).app h2.snd).snd.val fun hz => h1.fst (tmz (tmz hz).1).1
 ·unfold tenD
  dsimp only
  rw [at_ask l hg wSight (by kernel_rfl), if_neg (by rw [ask_bad h]; simp), numD_keeps e l _ _ st h, tbz h, tbz h]
theorem either_eq (x : Txt) (hx : nameM x = true) : eitherD e l x = choiceS e l x := by
 funext st
 unfold eitherD choiceS endS
 rw [tk_word e l hg x hx, tk_semi e l hg, tk_word e l hg wNo (by kernel_rfl)]
 obtain ⟨s1, hs1⟩ : ∃ s, (tkz e l (wdz x) st).2 = s := ⟨_, rfl⟩
 rw [hs1]
 by_cases hz : s1.cd = 0
 ·cases ht : l[s1.k]? with
  | none =>
   have e1 : ∀ p : Tok → Bool, tkz e l p s1 = ([], failS s1 (placeS e l s1) 2) := fun p => by unfold tkz; rw [if_neg (by unfold askS; rw [Nat.add_zero, ht]; simp)]
   rw [if_neg (by rw [show atI (isT wYes) l s1.k = false by unfold atI; rw [ht]]; simp), e1, e1]
   rfl
  | some t =>
   have hat : atI (isT wYes) l s1.k = wdz wYes t := by rw [atI_some ht, isT_word (hg t (List.mem_of_getElem? ht)) (by kernel_rfl)]
   have e1 : ∀ p : Tok → Bool, tkz e l p s1 = if p t = true then (t.text, s1.step) else ([], failS s1 (placeS e l s1) 2) := fun p => by
    unfold tkz askS textS; rw [Nat.add_zero, ht, hz]
    rfl
   rw [hat, e1, e1]; unfold wdz yesB
   by_cases hy : t.kind = 0 ∧ t.text = wYes
   ·rw [if_pos ⟨hz, by simp [hy.1, hy.2]⟩, if_pos (by simp [hy.1, hy.2])]
    simp [hy.2]
   ·by_cases hn : t.kind = 0 ∧ t.text = wNo
    ·rw [if_neg (by rintro ⟨_, h⟩; simp at h; exact hy h), if_pos (by simp [hn.1, hn.2]), if_pos (by simp [hn.1, hn.2])]
     simp only [hn.2]
     rfl
    ·rw [if_neg (by rintro ⟨_, h⟩; simp at h; exact hy h), if_neg (by simpa using hn), if_neg (by
      simp only [Bool.and_eq_true, beq_iff_eq, List.contains_cons, List.contains_nil, Bool.or_false, Bool.or_eq_true]; rintro ⟨h1, h2 | h2⟩
      ·exact hy ⟨h1, h2⟩
      ·exact hn ⟨h1, h2⟩)]
     rfl
 ·rw [if_neg (fun h => hz h.1)]
  simp only [tbz hz]
  rfl
theorem need_sim : SimF (needD e l (2 * l.length + 2)) (needS e l) := by
 refine ⟨fun st => ?_, fun st h => ?_, need_keeps e l⟩
 ·unfold needD needS
  rw [tk_word e l hg wWz (by kernel_rfl), tk_word e l hg wCz (by kernel_rfl)]; obtain ⟨s1, hs1⟩ : ∃ s, (tkz e l (wdz wWz) st).2 = s := ⟨_, rfl⟩; rw [hs1]; simp only
  by_cases hz : s1.cd ≠ 0
  ·rw [if_pos hz, tbz hz, tbz hz, num_bad hz, with_keeps e l s1 hz, end_bad hz]
   exact .inr ⟨hz, rfl, rfl⟩
  ·rw [if_neg hz]
   have hz0 : s1.cd = 0 := by simpa using hz
   by_cases hneg : papI l s1.k < 0
   ·rw [if_pos hneg]
    have e1 : tkz e l ppB s1 = ([], ⟨s1.k, plz e l s1.k, 2⟩) := by
     unfold tkz; rw [if_neg, fail_fine hz0]
     ·rfl
     ·unfold askS
      rw [Nat.add_zero]
      cases ht : l[s1.k]? with
      | none => simp
      | some t =>
       have h1 := paperJ_B (hg t (List.mem_of_getElem? ht)); unfold papI at hneg; rw [ht] at hneg; simp only at hneg; rw [decide_eq_true hneg] at h1; simp only; rw [show ppB t = false by simpa using h1.symm]; simp
    have hb : (⟨s1.k, plz e l s1.k, 2⟩ : St).cd ≠ 0 := two_ne; rw [e1]; simp only; rw [tbz hb, num_bad hb, with_keeps e l _ hb, end_bad hb]; exact .inr ⟨two_ne, rfl, rfl⟩
   ·rw [if_neg hneg]
    have hsome : ∃ t, l[s1.k]? = some t := by
     cases ht : l[s1.k]? with
     | none => unfold papI at hneg; rw [ht] at hneg; exact absurd (by decide : (-1 : Int) < 0) hneg
     | some t => exact ⟨t, rfl⟩
    obtain ⟨t, ht⟩ := hsome; have hpj : papI l s1.k = paperJ t := by unfold papI; rw [ht]
    have hpb : ppB t = true := by
     have h1 := paperJ_B (hg t (List.mem_of_getElem? ht)); rw [← hpj, decide_eq_false hneg] at h1; simpa using h1.symm
    have e1 : tkz e l ppB s1 = (t.text, s1.step) := by
     unfold tkz askS textS; rw [Nat.add_zero, ht, hz0]; simp [hpb]
    have hk0 : t.kind = 0 := by unfold ppB at hpb; simp at hpb; exact hpb.1
    have hpi : max (paperI t.text) 0 = papI l s1.k := by
     rw [hpj]; rw [hpj] at hneg; unfold paperJ at hneg ⊢; rw [if_pos hk0] at hneg ⊢; omega
    rw [e1]; simp only; rw [hpi]; have h1 := (num_sim e l 1 9).app (SimS.refl (tkz e l (wdz wCz) s1.step).2); obtain ⟨a', ha'⟩ : ∃ a, numD e l 1 9 (tkz e l (wdz wCz) s1.step).2 = a := ⟨_, rfl⟩; obtain ⟨b, hb⟩ : ∃ a, numS e l 1 9 (tkz e l (wdz wCz) s1.step).2 = a := ⟨_, rfl⟩
    have hbk : b.2.cd = 0 → b.2.k ≤ l.length := fun h => by
     have h3 := num_rel (e := e) (l := l) (lo := 1) (hi := 9) (st := (tkz e l (wdz wCz) s1.step).2); rw [hb] at h3; have h4 : (tkz e l (wdz wCz) s1.step).2.cd = 0 := by rw [← hb] at h; exact (num_adv e l 1 9 _ h).1
     have h5 := take_k h4; have h6 := h3 ⟨h4, h5⟩
     cases hq : numM e 1 9 (l.drop (tkz e l (wdz wCz) s1.step).2.k) with
     | error q => rw [hq] at h6; exact absurd h h6.bad
     | ok q => rw [hq] at h6; exact h6.2.2.1
    rw [ha', hb] at h1 ⊢
    rcases h1 with ⟨hb0, rfl⟩ | ⟨hb1, hb2, hb3⟩
    ·unfold needT withS
     have hat : atI (isT wWith) l a'.2.k = askS l a'.2 0 (wdz wWith) := by
      have := at_ask l hg wWith (by kernel_rfl) a'.2; unfold isAtD at this; rw [hb0] at this; simpa using this
     rw [tk_semi e l hg, hat]
     by_cases hw : askS l a'.2 0 (wdz wWith) = true
     ·rw [if_pos ⟨hb0, hw⟩, if_pos hw]
      obtain ⟨_, t2, hlk, _, _⟩ := ask_step hw; have hlt : a'.2.k < l.length := (List.getElem?_eq_some_iff.1 hlk).1; obtain ⟨x, y, h5, h6, h7, _⟩ := (whole_agree e l (2 * l.length + 2) (by omega)).2 a'.2.step ⟨hb0, hlt⟩ (by show l.length - (a'.2.k + 1) < _; omega); have hgx : wholeG e l a'.2.step = x := by unfold wholeG; rw [h5]; rfl
      rw [show l.drop (a'.2.k + 1) = l.drop a'.2.step.k from rfl, h6, hgx]
      rcases y with ⟨pl, cd⟩ | ⟨r, ts⟩
      ·simp only
       have hxb : x.2.cd ≠ 0 := h7.bad; rw [end_bad hxb]; exact .inr ⟨hxb, h7.1.symm, h7.2.1.symm⟩
      ·simp only
       obtain ⟨h8, h9, h10, h11⟩ := h7; have hpl := wholeG_pl (e := e) (l := l) (st := a'.2.step) hlt (by rw [hgx]; exact h9); rw [hgx] at hpl
       have hx2 : (⟨l.length - ts.length, a'.2.pl, 0⟩ : St) = x.2 := by
        obtain ⟨x1, ⟨xk, xp, xc⟩⟩ := x; simp only at h8 h9 h10 h11 hpl ⊢; rw [h11, List.length_drop, h9, hpl]
        congr 1
        omega
       rw [hx2, h8]; exact SimV.refl _
     ·rw [if_neg (fun h => hw h.2), if_neg hw]
      exact SimV.refl _
    ·unfold needT
     rw [if_neg (fun h => hb1 (by rw [← hb2]; exact h.1)), tk_semi e l hg, tbz (by rw [hb2]; exact hb1), with_keeps e l b.2 hb1, end_bad hb1]; exact .inr ⟨hb1, hb2, hb3⟩
 ·unfold needD
  rw [tbz h, if_pos h]
theorem needs_sim : ∀ (m c : Nat) (s' s : St), SimS s' s → (s.cd = 0 → l.length - s.k < m) → (s.cd = 0 → c ≤ 64) → SimV (needsD e l (2 * l.length + 2) m c s') (needsS e l m c s)
 | 0, c, s', s, hs, _, _ => by
  rw [needsD, needsS]; exact hs.val fun _ => rfl
 | m + 1, c, s', s, hs, hf, hc => by
  by_cases hz : s.cd = 0
  ·obtain ⟨_, rfl⟩ : s.cd = 0 ∧ s' = s := by
    rcases hs with h | h
    ·exact h
    ·exact absurd hz h.1
   rw [needsD, needsS]
   by_cases hgo : s'.cd = 0 ∧ s'.k < l.length
   ·rw [if_pos hgo, if_pos hgo]
    have hat : atI (isT wWz) l s'.k = askS l s' 0 (wdz wWz) := by
     have := at_ask l hg wWz (by kernel_rfl) s'; unfold isAtD at this; rw [hz] at this; simpa using this
    rw [hat]
    by_cases hw : askS l s' 0 (wdz wWz) = true ∧ c = 64
    ·have hfl : fullS e l c s' = ⟨s'.k, plz e l s'.k, 7⟩ := by
      unfold fullS; rw [if_pos ⟨by omega, hw.1⟩, fail_fine hz]
      rfl
     have h7 : (⟨s'.k, plz e l s'.k, 7⟩ : St).cd ≠ 0 := by show (7 : Int) ≠ 0; decide
     rw [if_pos hw, hfl, need_keeps e l _ h7, needs_bad h7]; exact .inr ⟨h7, rfl, rfl⟩
    ·have hfl : fullS e l c s' = s' := by
      unfold fullS; rw [if_neg (fun h => hw ⟨h.2, by have := hc hz; omega⟩)]
     rw [if_neg hw, hfl]; have h1 := (need_sim e l hg).app (SimS.refl s')
     have hmore : (needS e l s').2.cd = 0 → askS l s' 0 (wdz wWz) = true := fun h => by
      unfold needS at h; simp only at h; have g5 := (tmz (tmz (num_adv e l 1 9 _ (with_adv e l _ (end_more h).1).1).1).1).1; obtain ⟨t, h2, h3, _⟩ := take_ok g5; unfold askS; rw [Nat.add_zero, h2, hz]; simpa using h3
     have ih := needs_sim m (c + 1) _ _ h1.snd (fun h => by have := (need_more h).2; have := hf hz; have := hgo.2; omega) (fun h => by
      have h2 := hmore h; have h3 := hc hz; have h4 : c ≠ 64 := fun h5 => hw ⟨h2, h5⟩
      omega)
     refine ih.snd.val fun hz2 => ?_
     have hz3 : (needS e l s').2.cd = 0 := by
      rcases Decidable.em ((needS e l s').2.cd = 0) with h | h
      ·exact h
      ·rw [needs_bad h] at hz2; exact hz2
     rw [h1.fst hz3, ih.fst hz2]
   ·rw [if_neg hgo, if_neg hgo]
    exact SimV.refl _
  ·have hz' : s'.cd ≠ 0 := by
    rcases hs with h | h
    ·exact absurd h.1 hz
    ·rw [h.2.1]; exact hz
   rw [needsD_bad hz', needs_bad hz]; exact hs.val fun _ => rfl
theorem credit_sim (st : St) : SimV (creditD e l st) (creditS e l st) := by
 have L1 := line_eq e l hg wCredit (by kernel_rfl)
 have L2 := line_eq e l hg wApz (by kernel_rfl)
 have L3 := line_eq e l hg wBnz (by kernel_rfl)
 have L4 := line_eq e l hg wIssuer (by kernel_rfl)
 have L6 := line_eq e l hg wFrom (by kernel_rfl)
 have L7 := line_eq e l hg wTo (by kernel_rfl)
 have C5 := conf_eq e l hg
 have E1 := either_eq e l hg wPartial (by kernel_rfl)
 have E2 := either_eq e l hg wChange (by kernel_rfl)
 have W1 := tk_word e l hg wSum (by kernel_rfl)
 have W2 := tk_word e l hg wAbove (by kernel_rfl)
 have W3 := tk_word e l hg wBelow (by kernel_rfl)
 have W4 := tk_word e l hg wTenor (by kernel_rfl)
 have WS := tk_semi e l hg
 unfold creditD creditS sumS
 simp only [L1, L2, L3, L4, L6, L7, C5, E1, E2, W1, W2, W3, W4]
 obtain ⟨a1, h1⟩ : ∃ a, lineS e l wCredit st = a := ⟨_, rfl⟩
 obtain ⟨a2, h2⟩ : ∃ a, lineS e l wApz a1.2 = a := ⟨_, rfl⟩
 obtain ⟨a3, h3⟩ : ∃ a, lineS e l wBnz a2.2 = a := ⟨_, rfl⟩
 obtain ⟨a4, h4⟩ : ∃ a, lineS e l wIssuer a3.2 = a := ⟨_, rfl⟩
 obtain ⟨a5, h5⟩ : ∃ a, confS e l a4.2 = a := ⟨_, rfl⟩
 obtain ⟨a6, h6⟩ : ∃ a, lineS e l wFrom a5.2 = a := ⟨_, rfl⟩
 obtain ⟨a7, h7⟩ : ∃ a, lineS e l wTo a6.2 = a := ⟨_, rfl⟩
 obtain ⟨s8, h8⟩ : ∃ s, (tkz e l (wdz wSum) a7.2).2 = s := ⟨_, rfl⟩
 obtain ⟨a9, h9⟩ : ∃ a, tkz e l (kdB 4) s8 = a := ⟨_, rfl⟩
 simp only [h1, h2, h3, h4, h5, h6, h7, h8, h9]
 have g10 := (num_sim e l 1 1099511627776).app (SimS.refl a9.2)
 obtain ⟨d10, e10⟩ : ∃ a, numD e l 1 1099511627776 a9.2 = a := ⟨_, rfl⟩
 obtain ⟨b10, f10⟩ : ∃ a, numS e l 1 1099511627776 a9.2 = a := ⟨_, rfl⟩
 rw [e10, f10] at g10
 simp only [e10, f10]
 have g11a := (take_sim e l (wdz wAbove)).app g10.snd
 have g11 := (num_sim e l 0 1000).app g11a.snd
 obtain ⟨d11, e11⟩ : ∃ a, numD e l 0 1000 (tkz e l (wdz wAbove) d10.2).2 = a := ⟨_, rfl⟩
 obtain ⟨b11, f11⟩ : ∃ a, numS e l 0 1000 (tkz e l (wdz wAbove) b10.2).2 = a := ⟨_, rfl⟩
 have z11 : b11.2.cd = 0 → b10.2.cd = 0 := fun h => by rw [← f11] at h; exact (tmz (num_adv e l _ _ _ h).1).1
 rw [e11, f11] at g11
 simp only [e11, f11]
 have g12a := (take_sim e l (wdz wBelow)).app g11.snd
 have g12 := (num_sim e l 0 1000).app g12a.snd
 obtain ⟨d12, e12⟩ : ∃ a, numD e l 0 1000 (tkz e l (wdz wBelow) d11.2).2 = a := ⟨_, rfl⟩
 obtain ⟨b12, f12⟩ : ∃ a, numS e l 0 1000 (tkz e l (wdz wBelow) b11.2).2 = a := ⟨_, rfl⟩
 have z12 : b12.2.cd = 0 → b11.2.cd = 0 := fun h => by rw [← f12] at h; exact (tmz (num_adv e l _ _ _ h).1).1
 rw [e12, f12] at g12
 simp only [e12, f12]
 have g13 := (take_sim e l (signB sSemi)).app g12.snd
 rw [WS]
 obtain ⟨d13, e13⟩ : ∃ a, (tkz e l (signB sSemi) d12.2).2 = a := ⟨_, rfl⟩
 obtain ⟨b13, f13⟩ : ∃ a, endS e l b12.2 = a := ⟨_, rfl⟩
 have z13 : b13.cd = 0 → b12.2.cd = 0 := fun h => by rw [← f13] at h; exact (end_more h).1
 have s13 : SimS d13 b13 := by rw [← e13, ← f13]; exact g13.snd
 simp only [e13, f13]
 have g14 := (told_sim e l hg wLatest (by kernel_rfl)).app s13
 obtain ⟨d14, e14⟩ : ∃ a, toldD e l wLatest d13 = a := ⟨_, rfl⟩
 obtain ⟨b14, f14⟩ : ∃ a, dayS e l wLatest b13 = a := ⟨_, rfl⟩
 have z14 : b14.2.cd = 0 → b13.cd = 0 := fun h => by rw [← f14] at h; exact (tmz (num_adv e l _ _ _ (end_more h).1).1).1
 rw [e14, f14] at g14
 simp only [e14, f14]
 have g15 := (told_sim e l hg wExpiry (by kernel_rfl)).app g14.snd
 obtain ⟨d15, e15⟩ : ∃ a, toldD e l wExpiry d14.2 = a := ⟨_, rfl⟩
 obtain ⟨b15, f15⟩ : ∃ a, dayS e l wExpiry b14.2 = a := ⟨_, rfl⟩
 have z15 : b15.2.cd = 0 → b14.2.cd = 0 := fun h => by rw [← f15] at h; exact (tmz (num_adv e l _ _ _ (end_more h).1).1).1
 rw [e15, f15] at g15
 simp only [e15, f15]
 have g16 := (within_sim e l hg wWithin (by kernel_rfl)).app g15.snd
 try simp only at g16
 obtain ⟨d16, e16⟩ : ∃ a, withinD e l wWithin d15.2 = a := ⟨_, rfl⟩
 obtain ⟨b16, f16⟩ : ∃ a, numS e l 0 1048576 (tkz e l (wdz wWithin) b15.2).2 = a := ⟨_, rfl⟩
 rw [e16, f16] at g16
 simp only [e16, f16]
 obtain ⟨t16, f16t⟩ : ∃ a, endS e l (tkz e l (wdz wDays) b16.2).2 = a := ⟨_, rfl⟩
 have z16 : t16.cd = 0 → b15.2.cd = 0 := fun h => by rw [← f16t, ← f16] at h; exact (tmz (num_adv e l _ _ _ (tmz (end_more h).1).1).1).1
 rw [f16t] at g16
 simp only [f16t]
 have g17 := (take_sim e l (wdz wTenor)).app g16.snd
 have g18 := (ten_sim e l hg).app g17.snd
 try simp only at g18
 unfold tenorS
 obtain ⟨b18, f18⟩ : ∃ a, tenS e l (tkz e l (wdz wTenor) t16).2 = a := ⟨_, rfl⟩
 have z18 : b18.2.cd = 0 → t16.cd = 0 := fun h => by
  rw [← f18] at h
  rcases Decidable.em ((tkz e l (wdz wTenor) t16).2.cd = 0) with h2 | h2
  ·exact (tmz h2).1
  ·rw [ten_keeps e l _ h2] at h; exact absurd h h2
 rw [WS, f18] at g18
 obtain ⟨d18, e18⟩ : ∃ a, tenD e l (tkz e l (wdz wTenor) d16.2).2 = a := ⟨_, rfl⟩
 rw [e18] at g18
 simp only [e18, f18]
 obtain ⟨d19, e19⟩ : ∃ a, (tkz e l (signB sSemi) d18.2).2 = a := ⟨_, rfl⟩
 rw [e19] at g18
 try simp only [e19]
 have g20 := (SimF.same (choice_keeps e l wPartial)).app g18.snd
 obtain ⟨d20, e20⟩ : ∃ a, choiceS e l wPartial d19 = a := ⟨_, rfl⟩
 obtain ⟨b20, f20⟩ : ∃ a, choiceS e l wPartial b18.2 = a := ⟨_, rfl⟩
 have z20 : b20.2.cd = 0 → b18.2.cd = 0 := fun h => by
  rw [← f20] at h
  rcases Decidable.em (b18.2.cd = 0) with h2 | h2
  ·exact h2
  ·rw [choice_keeps e l _ _ h2] at h; exact absurd h h2
 rw [e20, f20] at g20
 simp only [e20, f20]
 have g21 := (SimF.same (choice_keeps e l wChange)).app g20.snd
 obtain ⟨d21, e21⟩ : ∃ a, choiceS e l wChange d20.2 = a := ⟨_, rfl⟩
 obtain ⟨b21, f21⟩ : ∃ a, choiceS e l wChange b20.2 = a := ⟨_, rfl⟩
 have z21 : b21.2.cd = 0 → b20.2.cd = 0 := fun h => by
  rw [← f21] at h
  rcases Decidable.em (b20.2.cd = 0) with h2 | h2
  ·exact h2
  ·rw [choice_keeps e l _ _ h2] at h; exact absurd h h2
 rw [e21, f21] at g21
 simp only [e21, f21]
 have g22 := needs_sim e l hg (l.length + 1) 0 _ _ g21.snd (fun _ => by omega) (fun _ => by omega)
 obtain ⟨d22, e22⟩ : ∃ a, needsD e l (2 * l.length + 2) (l.length + 1) 0 d21.2 = a := ⟨_, rfl⟩
 obtain ⟨b22, f22⟩ : ∃ a, needsS e l (l.length + 1) 0 b21.2 = a := ⟨_, rfl⟩
 have z22 : b22.2.cd = 0 → b21.2.cd = 0 := fun h => by
  rw [← f22] at h
  rcases Decidable.em (b21.2.cd = 0) with h2 | h2
  ·exact h2
  ·rw [needs_bad h2] at h; exact absurd h h2
 rw [e22, f22] at g22
 simp only [e22, f22]
 refine g22.snd.val fun z => ?_
 have y21 := z22 z
 have y20 := z21 y21
 have y18 := z20 y20
 have y16 := z18 y18
 have y15 := z16 y16
 have y14 := z15 y15
 have y13 := z14 y14
 have y12 := z13 y13
 have y11 := z12 y12
 have y10 := z11 y11
 rw [g22.fst z, g21.fst y21, g20.fst y20, g15.fst y15, g14.fst y14, g12.fst y12, g11.fst y11, g10.fst y10]
 have q16 := g16.fst y16
 have q18 := g18.fst y18
 try simp only at q16 q18
 rw [q16, q18]
end
theorem parse_same (s : Txt) : pDz s = parseT s := by
 by_cases hb : 4096 < s.length
 ·unfold pDz parseT; rw [if_pos hb, if_pos hb]
 ·cases hsc : scanT s with
  | error q => unfold pDz parseT; rw [if_neg hb, if_neg hb, hsc]
  | ok l =>
   rw [parse_tokens (by omega) hsc]; unfold pDz; rw [if_neg hb, hsc]; simp only; have h := credit_sim s.length l (scan_goodL hsc) ⟨0, 0, 0⟩; unfold endC
   rcases h with ⟨h1, h2⟩ | ⟨h1, h2, h3⟩
   ·rw [h2]
   ·rw [if_neg h1, if_neg (by rw [h2]; exact h1), h2, h3]
end Go.Proofs.YtjkmhlfjheiekaaGreatDoor

import Derived.Test.YtjkmhlfjheiekaaGreatDoorVe
import Derived.Test.YtjkmhlfjheiekaaGreatDoorVf
import Derived.Test.YtjkmhlfjheiekaaGreatDoorVh
import Derived.Test.YtjkmhlfjheiekaaGreatDoorVi
set_option maxRecDepth 1000000
set_option maxHeartbeats 51200000
namespace Go.Proofs.YtjkmhlfjheiekaaGreatDoor
open Go Go.RowKit Go.BigFrame Go.Maps
theorem takeM_suf {e : Nat} {p : Tok → Bool} {ts r : List Tok} {x : Txt} (h : takeM e p ts = .ok (x, r)) : r <:+ ts := by
 obtain ⟨t, rfl, _, _⟩ := takeM_ok h
 exact List.suffix_cons _ _
theorem numM_suf {e : Nat} {lo hi x : Int} {ts r : List Tok} (h : numM e lo hi ts = .ok (x, r)) : r <:+ ts := by
 unfold numM at h
 split at h
 ·cases h
 ·rename_i t r' ht
  split at h
  ·cases h
  ·simp only [Except.ok.injEq, Prod.mk.injEq] at h
   obtain ⟨_, rfl⟩ := h; exact takeM_suf ht
theorem atomM_suf {e : Nat} {ts r : List Tok} {x : Rul} (h : atomM e ts = .ok (x, r)) : r <:+ ts := by
 unfold atomM at h
 obtain ⟨f, t1, h1, h⟩ := bsz h
 obtain ⟨o, t2, h2, h⟩ := bsz h
 have l2 := (takeM_suf h2).trans (takeM_suf h1)
 split at h
 ·split at h
  ·obtain ⟨_, t3, h3, h⟩ := bsz h
   obtain ⟨_, t4, h4, h⟩ := bsz h; obtain ⟨_, t5, h5, h⟩ := bsz h; simp only [Except.ok.injEq, Prod.mk.injEq] at h; obtain ⟨_, rfl⟩ := h; exact (((takeM_suf h5).trans (takeM_suf h4)).trans (takeM_suf h3)).trans l2
  ·obtain ⟨_, t3, h3, h⟩ := bsz h
   simp only [Except.ok.injEq, Prod.mk.injEq] at h; obtain ⟨_, rfl⟩ := h; exact (takeM_suf h3).trans l2
 ·split at h
  ·obtain ⟨_, t3, h3, h⟩ := bsz h
   simp only [Except.ok.injEq, Prod.mk.injEq] at h; obtain ⟨_, rfl⟩ := h; exact (takeM_suf h3).trans l2
  ·split at h
   all_goals
    obtain ⟨_, t3, h3, h⟩ := bsz h; simp only [Except.ok.injEq, Prod.mk.injEq] at h; obtain ⟨_, rfl⟩ := h; exact (numM_suf h3).trans l2
def Suf (part : List Tok → Option (Res Rul)) : Prop := ∀ ts r ts', part ts = some (.ok (r, ts')) → ts' <:+ ts
theorem tail_suf (ts : List Tok) : ts.tail <:+ ts := List.tail_suffix ts
theorem parts_suf {part : List Tok → Option (Res Rul)} (sep : Txt) (h : Suf part) : ∀ (n : Nat) (ts : List Tok) (L : List Rul) (ts' : List Tok), partsP part sep n ts = some (.ok (L, ts')) → ts' <:+ ts
 | 0, _, _, _, hp => by simp [partsP] at hp
 | n + 1, ts, L, ts', hp => by
  rw [partsP] at hp
  split at hp
  ·cases hp
  ·cases hp
  ·rename_i r t1 h1
   have s1 := h _ _ _ h1
   split at hp
   ·split at hp
    ·cases hp
    ·cases hp
    ·rename_i l t2 h2
     simp only [Option.some.injEq, Except.ok.injEq, Prod.mk.injEq] at hp; obtain ⟨_, rfl⟩ := hp; exact ((parts_suf sep h n _ _ _ h2).trans (tail_suf _)).trans s1
   ·simp only [Option.some.injEq, Except.ok.injEq, Prod.mk.injEq] at hp
    obtain ⟨_, rfl⟩ := hp; exact s1
theorem row_suf {part : List Tok → Option (Res Rul)} {sep : Txt} {k : Int} (n : Nat) (h : Suf part) : Suf (rowP part sep k n) := by
 intro ts r ts' hr
 unfold rowP at hr
 split at hr
 ·cases hr
 ·cases hr
 ·rename_i L t1 h1
  simp only [Option.some.injEq, Except.ok.injEq, Prod.mk.injEq] at hr; obtain ⟨_, rfl⟩ := hr; exact parts_suf sep h n _ _ _ h1
theorem one_suf (e : Nat) : ∀ n, Suf (oneP e n)
 | 0 => fun ts r ts' h => by simp [oneP] at h
 | n + 1 => fun ts r ts' h => by
  have ih := one_suf e n; rw [oneP] at h
  split at h
  ·split at h
   ·cases h
   ·cases h
   ·rename_i r1 t1 h1
    simp only [Option.some.injEq, Except.ok.injEq, Prod.mk.injEq] at h; obtain ⟨_, rfl⟩ := h; exact (ih _ _ _ h1).trans (tail_suf _)
  ·split at h
   ·split at h
    ·cases h
    ·cases h
    ·rename_i r1 t1 h1
     simp only [Option.some.injEq] at h; obtain ⟨_, t2, h2, h⟩ := bsz h; simp only [Except.ok.injEq, Prod.mk.injEq] at h; obtain ⟨_, rfl⟩ := h; exact ((takeM_suf h2).trans ((row_suf n (row_suf n ih)) _ _ _ h1)).trans (tail_suf _)
   ·simp only [Option.some.injEq] at h
    exact atomM_suf h
def Bad (part : List Tok → Option (Res Rul)) : Prop := ∀ ts pl cd, part ts = some (.error (pl, cd)) → cd ≠ 0
theorem takeM_bad {e : Nat} {p : Tok → Bool} {ts : List Tok} {q : Nat × Int} (h : takeM e p ts = .error q) : q.2 ≠ 0 := by
 unfold takeM at h
 split at h
 ·split at h
  ·cases h
  ·obtain rfl := Except.error.inj h; show (2 : Int) ≠ 0; decide
 ·obtain rfl := Except.error.inj h; show (2 : Int) ≠ 0; decide
theorem numM_bad {e : Nat} {lo hi : Int} {ts : List Tok} {q : Nat × Int} (h : numM e lo hi ts = .error q) : q.2 ≠ 0 := by
 unfold numM at h
 split at h
 ·rename_i x hx
  obtain rfl := Except.error.inj h; exact takeM_bad hx
 ·split at h
  ·obtain rfl := Except.error.inj h; show (3 : Int) ≠ 0; decide
  ·cases h
theorem bind_bad {α β : Type} {x : Res α} {f : α → List Tok → Res β} {q : Nat × Int} (h : bindR x f = .error q) : x = .error q ∨ ∃ a ts, x = .ok (a, ts) ∧ f a ts = .error q := by
 unfold bindR at h
 split at h
 ·obtain rfl := Except.error.inj h; exact .inl rfl
 ·rename_i a ts; exact .inr ⟨a, ts, rfl, h⟩
theorem atomM_bad {e : Nat} {ts : List Tok} {q : Nat × Int} (h : atomM e ts = .error q) : q.2 ≠ 0 := by
 unfold atomM at h
 rcases bind_bad h with h | ⟨f, t1, _, h⟩
 ·exact takeM_bad h
 rcases bind_bad h with h | ⟨o, t2, _, h⟩
 ·exact takeM_bad h
 split at h
 ·split at h
  ·rcases bind_bad h with h | ⟨_, t3, _, h⟩
   ·exact takeM_bad h
   rcases bind_bad h with h | ⟨_, t4, _, h⟩
   ·exact takeM_bad h
   rcases bind_bad h with h | ⟨_, t5, _, h⟩
   ·exact takeM_bad h
   cases h
  ·rcases bind_bad h with h | ⟨_, t3, _, h⟩
   ·exact takeM_bad h
   cases h
 ·split at h
  ·rcases bind_bad h with h | ⟨_, t3, _, h⟩
   ·exact takeM_bad h
   cases h
  ·split at h
   all_goals
    rcases bind_bad h with h | ⟨_, t3, _, h⟩
    ·exact numM_bad h
    cases h
theorem parts_bad {part : List Tok → Option (Res Rul)} (sep : Txt) (h : Bad part) : ∀ (n : Nat) (ts : List Tok) (pl : Nat) (cd : Int), partsP part sep n ts = some (.error (pl, cd)) → cd ≠ 0
 | 0, _, _, _, hp => by simp [partsP] at hp
 | n + 1, ts, pl, cd, hp => by
  rw [partsP] at hp
  split at hp
  ·cases hp
  ·rename_i x h1
   simp only [Option.some.injEq, Except.error.injEq] at hp; subst hp; exact h _ _ _ h1
  ·split at hp
   ·split at hp
    ·cases hp
    ·rename_i x h2
     simp only [Option.some.injEq, Except.error.injEq] at hp; subst hp; exact parts_bad sep h n _ _ _ h2
    ·cases hp
   ·cases hp
theorem row_bad {part : List Tok → Option (Res Rul)} {sep : Txt} {k : Int} (n : Nat) (h : Bad part) : Bad (rowP part sep k n) := by
 intro ts pl cd hr
 unfold rowP at hr
 split at hr
 ·cases hr
 ·rename_i x h1
  simp only [Option.some.injEq, Except.error.injEq] at hr; subst hr; exact parts_bad sep h n _ _ _ h1
 ·cases hr
theorem one_bad (e : Nat) : ∀ n, Bad (oneP e n)
 | 0 => fun ts pl cd h => by simp [oneP] at h
 | n + 1 => fun ts pl cd h => by
  have ih := one_bad e n; rw [oneP] at h
  split at h
  ·split at h
   ·cases h
   ·rename_i x h1
    simp only [Option.some.injEq, Except.error.injEq] at h; subst h; exact ih _ _ _ h1
   ·cases h
  ·split at h
   ·split at h
    ·cases h
    ·rename_i x h1
     simp only [Option.some.injEq, Except.error.injEq] at h; subst h; exact (row_bad n (row_bad n ih)) _ _ _ h1
    ·simp only [Option.some.injEq] at h
     rcases bind_bad h with h | ⟨_, _, _, h⟩
     ·exact takeM_bad h
     ·cases h
   ·simp only [Option.some.injEq] at h
    exact atomM_bad h
theorem suf_drop {l ts : List Tok} {i : Nat} (h : ts <:+ l.drop i) : ts = l.drop (l.length - ts.length) := List.suffix_iff_eq_drop.1 (h.trans (List.drop_suffix i l))
def GotC (w w' : World) (l : List Tok) (y : Res Rul) (x : Ending) : Prop := match y with
 | .ok (r, ts) => ∃ t, x = .returned (.agg (gotV t (l.length - ts.length))) ∧ TAz w' (fun b => w.heap.size ≤ b) t ∧ stz t = r
 | .error (pl, cd) => cd ≠ 0 ∧ x = .returned (.agg (gotE cd pl))
def RReads (g : Nat) (A : Option Addr) (c e : Nat) (l : List Tok) (part : List Tok → Option (Res Rul)) : Prop :=
 ∀ (W : World) (i : Nat) (y : Res Rul), i ≤ l.length → part (l.drop i) = some y → Hid (TokAt W 0 A l) → Cz g #[.slice A l.length c, Iz i, Iz e] W fun x w' => Bz W w' ∧ GotC W w' l y x
theorem seesB_cons {p : Tok → Bool} {ts : List Tok} (h : seZ p ts = true) : ∃ t r, ts = t :: r ∧ p t = true := by
 cases ts with
 | nil => cases h
 | cons t r => exact ⟨t, r, rfl, h⟩
theorem ratom_any (A : Option Addr) (c e : Nat) (l : List Tok) (hg : GoodL l) (hok : Hid (TokOk l)) (hlen : l.length ≤ 4096) (n : Nat) (ihr : RReads 71 A c e l (ruleOf (oneP e n) n)) (iho : RReads 148 A c e l (oneP e n)) : RReads 148 A c e l (oneP e (n + 1)) := by
 intro W i y hi hy htk
 have hm : Hid (l.length = l.length) := rfl
 have S : ∀ s ∈ signsL, ∀ j, atI (isT s) l j = seZ (signB s) (l.drop j) := fun s hs j => by rw [atI_good hg (fun t ht => isT_sign ht hs), ati_sees]
 have Wd : ∀ s, nameM s = true → ∀ j, atI (isT s) l j = seZ (wdz s) (l.drop j) := fun s hs j => by rw [atI_good hg (fun t ht => isT_word ht hs), ati_sees]
 have C : ∀ j, atI cmpT l j = seZ compB (l.drop j) := fun j => by rw [atI_good hg (fun t ht => cmpT_comp ht), ati_sees]
 have N : ∀ j, atI nameT l j = seZ nmB (l.drop j) := fun j => by rw [atI_good hg (fun t ht => nameT_named ht), ati_sees]
 rw [oneP, List.tail_drop] at hy
 by_cases p1 : seZ (signB sOpen) (l.drop i) = true
 ·have q1 : Hid (atI (isT [40]) l i = true) := by unfold Hid; rw [S _ (by decide)]; exact p1
  have hlt : i + 1 ≤ l.length := by
   obtain ⟨t, r, ht, _⟩ := seesB_cons p1; have := congrArg List.length ht; simp only [List.length_drop, List.length_cons] at this; omega
  have hnw : seZ (wdz wNot) (l.drop i) = false := by
   obtain ⟨t, r, ht, hp⟩ := seesB_cons p1; rw [ht]; show wdz wNot t = false; unfold signB at hp; simp only [Bool.and_eq_true, beq_iff_eq] at hp; unfold wdz; rw [hp.1]; rfl
  rw [hnw, Bool.false_and, if_neg (by simp), if_pos p1] at hy
  cases hr : ruleOf (oneP e n) n (l.drop (i + 1)) with
  | none => rw [hr] at hy; cases hy
  | some z =>
   have hcall := fun W' (hW' : Bz W W') => ihr W' (i + 1) z hlt hr (htk.out.below hW'); rw [hr] at hy
   cases z with
   | error q =>
    obtain ⟨pl, cd⟩ := q; simp only [Option.some.injEq] at hy; subst hy; have hcd := (row_bad n (row_bad n (one_bad e n))) _ _ _ hr; refine (ratom_open_bad A l.length c e l hm hlen W i hi htk q1 cd pl hcd (fun W' hW' => (hcall W' hW').mono fun x w' h => ⟨h.1, h.2.2⟩)).mono ?_; rintro x w' ⟨hb, h⟩; exact ⟨hb, hcd, h⟩
   | ok z =>
    obtain ⟨r, ts'⟩ := z; simp only [Option.some.injEq] at hy; have hsf := (row_suf n (row_suf n (one_suf e n))) _ _ _ hr; have hd := suf_drop hsf; have hkx : l.length - ts'.length ≤ l.length := Nat.sub_le _ _; have hle : ts'.length ≤ l.length := by have := hsf.length_le; simp only [List.length_drop] at this; omega
    by_cases p2 : seZ (signB sShut) ts' = true
    ·have q2 : Hid (atI (isT [41]) l (l.length - ts'.length) = true) := by unfold Hid; rw [S _ (by decide), ← hd]; exact p2
     obtain ⟨t, r2, ht, hp⟩ := seesB_cons p2; rw [ht, tyz hp, bkz] at hy; subst hy; refine (ratom_open_ok A l.length c e l hm hlen W i hi htk q1 r _ hkx (fun W' hW' => hcall W' hW') q2).mono ?_; rintro x w' ⟨hb, h⟩; refine ⟨hb, ?_⟩; have : l.length - ts'.length + 1 = l.length - r2.length := by rw [ht] at hle ⊢; simp only [List.length_cons] at hle ⊢; omega
     rw [this] at h; exact h
    ·have p2' : seZ (signB sShut) ts' = false := by simpa using p2
     have q2 : Hid (atI (isT [41]) l (l.length - ts'.length) = false) := by unfold Hid; rw [S _ (by decide), ← hd]; exact p2'
     rw [takeM_no p2'] at hy; subst hy; refine (ratom_open_no A l.length c e l hm hlen W i hi htk q1 r _ hkx (fun W' hW' => hcall W' hW') q2).mono ?_; rintro x w' ⟨hb, h⟩; refine ⟨hb, (show (2 : Int) ≠ 0 by decide), ?_⟩; rw [h, ← place_i, ← hd]
 ·have p1' : seZ (signB sOpen) (l.drop i) = false := by simpa using p1
  have q1 : Hid (atI (isT [40]) l i = false) := by unfold Hid; rw [S _ (by decide)]; exact p1'
  by_cases p2 : (seZ (wdz wNot) (l.drop i) && !seZ compB (l.drop (i + 1))) = true
  ·rw [if_pos p2] at hy
   rw [Bool.and_eq_true] at p2; have q2 : Hid (atI (isT [110, 111, 116]) l i = true) := by unfold Hid; rw [Wd _ (by decide)]; exact p2.1
   have q3 : Hid (atI cmpT l (i + 1) = false) := by unfold Hid; rw [C]; simpa using p2.2
   have hlt : i + 1 ≤ l.length := by
    obtain ⟨t, r, ht, _⟩ := seesB_cons p2.1; have := congrArg List.length ht; simp only [List.length_drop, List.length_cons] at this; omega
   cases hr : oneP e n (l.drop (i + 1)) with
   | none => rw [hr] at hy; cases hy
   | some z =>
    have hcall := fun W' (hW' : Bz W W') => iho W' (i + 1) z hlt hr (htk.out.below hW'); rw [hr] at hy
    cases z with
    | error q =>
     obtain ⟨pl, cd⟩ := q; simp only [Option.some.injEq] at hy; subst hy; have hcd := (one_bad e n) _ _ _ hr; refine (ratom_not_bad A l.length c e l hm hlen W i hi htk q1 q2 q3 cd pl hcd (fun W' hW' => (hcall W' hW').mono fun x w' h => ⟨h.1, h.2.2⟩)).mono ?_; rintro x w' ⟨hb, h⟩; exact ⟨hb, hcd, h⟩
    | ok z =>
     obtain ⟨r, ts'⟩ := z; simp only [Option.some.injEq] at hy; subst hy; exact (ratom_not_ok A l.length c e l hm hlen W i hi htk q1 q2 q3 r _ (Nat.sub_le _ _) (fun W' hW' => hcall W' hW')).mono fun x w' h => h
  ·rw [if_neg p2, if_neg (by rw [p1']; simp)] at hy
   simp only [Option.some.injEq] at hy; subst hy
   have qn : Hid (atI (isT [110, 111, 116]) l i = false) ∨ Hid (atI (isT [110, 111, 116]) l i = true) ∧ Hid (atI cmpT l (i + 1) = true) := by
    unfold Hid; rw [Wd _ (by decide), C]; show seZ (wdz wNot) (l.drop i) = false ∨ seZ (wdz wNot) (l.drop i) = true ∧ seZ compB (l.drop (i + 1)) = true
    cases h1 : seZ (wdz wNot) (l.drop i)
    ·exact .inl rfl
    ·cases h2 : seZ compB (l.drop (i + 1))
     ·rw [h1, h2] at p2; exact absurd rfl p2
     ·exact .inr ⟨rfl, rfl⟩
   have bad : ∀ (j : Nat), (Cz 148 #[.slice A l.length c, Iz i, Iz e] W fun x w' => Bz W w' ∧ x = .returned (.agg (gotE 2 (plz e l j)))) → atomM e (l.drop i) = .error (placeM e (l.drop j), 2) → Cz 148 #[.slice A l.length c, Iz i, Iz e] W fun x w' => Bz W w' ∧ GotC W w' l (atomM e (l.drop i)) x := fun j h1 h2 => by
    rw [h2]; refine h1.mono ?_; rintro x w' ⟨hb, h⟩; exact ⟨hb, (show (2 : Int) ≠ 0 by decide), by rw [h, place_i]⟩
   cases p4 : seZ nmB (l.drop i) with
   | false => exact bad i (ratom_no_name A l.length c e l hm hlen W i hi htk q1 qn hok (by unfold Hid; rw [N]; exact p4)) (atom_A1 p4)
   | true =>
    have q4 : Hid (atI nameT l i = true) := by unfold Hid; rw [N]; exact p4
    obtain ⟨f, r0, hfr, hf⟩ := seesB_cons p4
    have hfi : Hid (l[i]? = some f) := by
     have := congrArg List.head? hfr; rw [List.head?_drop] at this; exact this
    have hr0 : r0 = l.drop (i + 1) := by have := congrArg List.tail hfr; rw [List.tail_drop] at this; exact this.symm
    have hi1 : i < l.length := (List.getElem?_eq_some_iff.1 hfi.out).1
    cases p5 : seZ compB (l.drop (i + 1)) with
    | false => exact bad (i + 1) (ratom_no_cmp A l.length c e l hm hlen W i hi htk q1 qn hok q4 (by unfold Hid; rw [C]; exact p5)) (by rw [hfr, hr0]; exact atom_A2 hf p5)
    | true =>
     have q5 : Hid (atI cmpT l (i + 1) = true) := by unfold Hid; rw [C]; exact p5
     obtain ⟨o, r1, hor, ho⟩ := seesB_cons p5
     have hoi : l[i + 1]? = some o := by
      have := congrArg List.head? hor; rw [List.head?_drop] at this; exact this
     have hr1 : r1 = l.drop (i + 2) := by have := congrArg List.tail hor; rw [List.tail_drop] at this; exact this.symm
     have hi2 : i + 2 ≤ l.length := (List.getElem?_eq_some_iff.1 hoi).1; have hD : l.drop i = f :: o :: l.drop (i + 2) := by rw [hfr, hr0, hor, hr1]
     have hot := comp_text ho; have hok5 : o.kind = 5 := by unfold compB at ho; simp only [Bool.and_eq_true, beq_iff_eq] at ho; exact ho.1
     have O : ∀ s ∈ signsL, atI (isT s) l (i + 1) = (o.text == s) := fun s hs => by
      rw [S s hs, hor]; show signB s o = _; unfold signB; rw [hok5]; rfl
     have q6 : ∀ b, (o.text == sLe) = b → Hid (atI (isT [60, 61]) l (i + 1) = b) := fun b hb => by unfold Hid; rw [O _ (by decide)]; exact hb
     have q7 : ∀ b, (o.text == sGe) = b → Hid (atI (isT [62, 61]) l (i + 1) = b) := fun b hb => by unfold Hid; rw [O _ (by decide)]; exact hb
     have q8 : ∀ b, (o.text == sTilde) = b → Hid (atI (isT [126]) l (i + 1) = b) := fun b hb => by unfold Hid; rw [O _ (by decide)]; exact hb
     have third : ∀ P : Tok → Bool, seZ P (l.drop (i + 2)) = false → l.length ≤ i + 2 ∨ ∃ t, l[i + 2]? = some t ∧ P t = false := fun P hP => by
      cases ht : l[i + 2]? with
      | none => exact .inl (by simpa using ht)
      | some t =>
       refine .inr ⟨t, rfl, ?_⟩; rw [drop_cons ht] at hP; exact hP
     by_cases hnum : o.text = sLe ∨ o.text = sGe
     ·have hbb : (o.text == sLe) = true ∨ (o.text == sGe) = true := by rcases hnum with h | h <;> simp [h]
      cases p6 : seZ (kdB 2) (l.drop (i + 2)) with
      | false =>
       rcases third _ p6 with h | ⟨t, ht, hk⟩
       ·exact bad (i + 2) (ratom_num_end A l.length c e l hm hlen W i hi htk q1 qn hok f hfi hi2 q4 q5 _ _ (q6 _ rfl) (q7 _ rfl) hbb h) (by rw [hD]; exact atom_num_no hf ho hnum p6)
       ·exact bad (i + 2) (ratom_num_no A l.length c e l hm hlen W i hi htk q1 qn hok f hfi hi2 q4 q5 _ _ (q6 _ rfl) (q7 _ rfl) hbb t ht (by simpa [kdB] using hk)) (by rw [hD]; exact atom_num_no hf ho hnum p6)
      | true =>
       obtain ⟨t, r2, htr, hk⟩ := seesB_cons p6
       have hti : l[i + 2]? = some t := by
        have := congrArg List.head? htr; rw [List.head?_drop] at this; exact this
       have hr2 : r2 = l.drop (i + 3) := by have := congrArg List.tail htr; rw [List.tail_drop] at this; exact this.symm
       have hk2 : t.kind = 2 := by simpa [kdB] using hk
       have hmx := ((hok.out _ t hti).2 hk2).2.2; unfold mostN at hmx; have hlt3 := (List.getElem?_eq_some_iff.1 hti).1; rw [hD, htr, hr2, atom_num_ok hf ho hnum hk2 hmx]; refine (ratom_num_ok A l.length c e l hm hlen W i hi htk q1 qn hok f hfi hi2 q4 q5 _ _ (q6 _ rfl) (q7 _ rfl) hbb t hti hk2).mono ?_; rintro x w' ⟨hb, h⟩; refine ⟨hb, ?_⟩; rw [show i + 3 = l.length - (l.drop (i + 3)).length by rw [List.length_drop]; omega] at h; have e6 : (if (o.text == sGe) = true then (6 : Int) else 5) = (if o.text = sGe then 6 else 5) := by simp
       rw [e6] at h; exact h
     ·have n6 : (o.text == sLe) = false := by simp; exact fun h => hnum (.inl h)
      have n7 : (o.text == sGe) = false := by simp; exact fun h => hnum (.inr h)
      have het : o.text = sEq ∨ o.text = sTilde := by 
       rcases hot with h | h | h | h
       ·exact .inl h
       ·exact .inr h
       ·exact absurd (Or.inl h) hnum
       ·exact absurd (Or.inr h) hnum
      cases p6 : seZ (kdB 3) (l.drop (i + 2)) with
      | true =>
       obtain ⟨t, r2, htr, hk⟩ := seesB_cons p6
       have hti : l[i + 2]? = some t := by
        have := congrArg List.head? htr; rw [List.head?_drop] at this; exact this
       have hr2 : r2 = l.drop (i + 3) := by have := congrArg List.tail htr; rw [List.tail_drop] at this; exact this.symm
       have hk3 : t.kind = 3 := by simpa [kdB] using hk
       have hlt3 := (List.getElem?_eq_some_iff.1 hti).1; rw [hD, htr, hr2, atom_text_ok hf ho het hk3]; refine (ratom_text_ok A l.length c e l hm hlen W i hi htk q1 qn hok f hfi hi2 q4 q5 (q6 _ n6) (q7 _ n7) _ (q8 _ rfl) t hti hk3).mono ?_; rintro x w' ⟨hb, h⟩; refine ⟨hb, ?_⟩; rw [show i + 3 = l.length - (l.drop (i + 3)).length by rw [List.length_drop]; omega] at h; have e6 : (if (o.text == sTilde) = true then (4 : Int) else 3) = (if o.text = sTilde then 4 else 3) := by simp
       rw [e6] at h; exact h
      | false =>
       have hk3 : l.length ≤ i + 2 ∨ ∃ t, l[i + 2]? = some t ∧ t.kind ≠ 3 := by
        rcases third _ p6 with h | ⟨t, ht, hk⟩
        ·exact .inl h
        ·exact .inr ⟨t, ht, by simpa [kdB] using hk⟩
       by_cases htl : o.text = sTilde
       ·exact bad (i + 2) (ratom_text_no A l.length c e l hm hlen W i hi htk q1 qn hok f hfi hi2 q4 q5 (q6 _ n6) (q7 _ n7) hk3 (q8 _ (by simp [htl]))) (by rw [hD]; exact atom_text_no hf ho (.inl htl) p6)
       ·have heq : o.text = sEq := het.resolve_right htl
        have n8 : (o.text == sTilde) = false := by simp; exact htl
        have hpap : decide (papI l (i + 2) < 0) = !seZ ppB (l.drop (i + 2)) := by
         unfold papI
         cases ht : l[i + 2]? with
         | none => rw [drop_nil ht]; rfl
         | some t => rw [drop_cons ht]; exact paperJ_B (hg t (List.mem_of_getElem? ht))
        cases p7 : seZ ppB (l.drop (i + 2)) with
        | false =>
         rw [p7] at hpap; exact bad (i + 2) (ratom_paper_no A l.length c e l hm hlen W i hi htk q1 qn hok f hfi hi2 q4 q5 (q6 _ n6) (q7 _ n7) hk3 (q8 _ n8) _ rfl (by simpa using hpap)) (by rw [hD]; exact atom_text_no hf ho (.inr ⟨heq, p7⟩) p6)
        | true =>
         rw [p7] at hpap; have hpv : ¬ papI l (i + 2) < 0 := by simpa using hpap
         obtain ⟨t, r2, htr, hk⟩ := seesB_cons p7
         have hti : l[i + 2]? = some t := by
          have := congrArg List.head? htr; rw [List.head?_drop] at this; exact this
         have hr2 : r2 = l.drop (i + 3) := by have := congrArg List.tail htr; rw [List.tail_drop] at this; exact this.symm
         have hlt3 := (List.getElem?_eq_some_iff.1 hti).1; have hk0 : t.kind = 0 := by unfold ppB at hk; simp only [Bool.and_eq_true, beq_iff_eq] at hk; exact hk.1
         have hkk : ∃ t, l[i + 2]? = some t ∧ t.kind ≠ 3 := ⟨t, hti, by rw [hk0]; decide⟩; have hD3 : l.drop i = f :: o :: t :: l.drop (i + 3) := by rw [hD, htr, hr2]
         have hpi : papI l (i + 2) = paperI t.text := by unfold papI; rw [hti]; show paperJ t = _; unfold paperJ; rw [if_pos hk0]
         cases p9 : seZ (signB sDot) (l.drop (i + 3)) with
         | false => exact bad (i + 3) (ratom_dot_no A l.length c e l hm hlen W i hi htk q1 qn hok f hfi hi2 q4 q5 (q6 _ n6) (q7 _ n7) hkk (q8 _ n8) _ rfl hpv (by omega) (by unfold Hid; rw [S _ (by decide)]; exact p9)) (by rw [hD3]; exact atom_dot_no hf ho heq hk p9)
         | true =>
          have q9 : Hid (atI (isT [46]) l (i + 3) = true) := by unfold Hid; rw [S _ (by decide)]; exact p9
          obtain ⟨d, r3, hdr, hd⟩ := seesB_cons p9
          have hdi : l[i + 3]? = some d := by
           have := congrArg List.head? hdr; rw [List.head?_drop] at this; exact this
          have hr3 : r3 = l.drop (i + 4) := by have := congrArg List.tail hdr; rw [List.tail_drop] at this; exact this.symm
          have hlt4 := (List.getElem?_eq_some_iff.1 hdi).1; have hD4 : l.drop i = f :: o :: t :: d :: l.drop (i + 4) := by rw [hD3, hdr, hr3]
          cases p10 : seZ nmB (l.drop (i + 4)) with
          | false => exact bad (i + 4) (ratom_like_no A l.length c e l hm hlen W i hi htk q1 qn hok f hfi hi2 q4 q5 (q6 _ n6) (q7 _ n7) hkk (q8 _ n8) _ rfl hpv (by omega) q9 (by unfold Hid; rw [N]; exact p10)) (by rw [hD4]; exact atom_like_no hf ho heq hk hd p10)
          | true =>
           obtain ⟨y, r4, hyr, hy⟩ := seesB_cons p10
           have hyi : l[i + 4]? = some y := by
            have := congrArg List.head? hyr; rw [List.head?_drop] at this; exact this
           have hr4 : r4 = l.drop (i + 5) := by have := congrArg List.tail hyr; rw [List.tail_drop] at this; exact this.symm
           have hlt5 := (List.getElem?_eq_some_iff.1 hyi).1; rw [hD4, hyr, hr4, atom_like_ok hf ho heq hk hd hy]; refine (ratom_like_ok A l.length c e l hm hlen W i hi htk q1 qn hok f hfi hi2 q4 q5 (q6 _ n6) (q7 _ n7) hkk (q8 _ n8) _ rfl hpv (by omega) q9 (by unfold Hid; rw [N]; exact p10) y hyi).mono ?_; rintro x w' ⟨hb, h⟩; refine ⟨hb, ?_⟩; rw [show i + 5 = l.length - (l.drop (i + 5)).length by rw [List.length_drop]; omega, hpi] at h; exact h
end Go.Proofs.YtjkmhlfjheiekaaGreatDoor

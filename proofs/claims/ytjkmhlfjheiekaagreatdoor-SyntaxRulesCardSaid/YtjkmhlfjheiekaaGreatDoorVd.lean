/- What the document asks of tokens is what the program asks; an atom, case by case. Plain. -/
import Derived.Test.YtjkmhlfjheiekaaGreatDoorSg
import Derived.Test.YtjkmhlfjheiekaaGreatDoorVc
namespace Go.Proofs.YtjkmhlfjheiekaaGreatDoor
open Go Go.RowKit Go.BigFrame Go.Maps

theorem ati_sees (p : Tok → Bool) (l : List Tok) (i : Nat) : atI p l i = seesB p (l.drop i) := by
  unfold atI seesB
  cases ht : l[i]? with
  | none => rw [drop_nil ht]
  | some t => rw [drop_cons ht]
theorem place_i (e : Nat) (l : List Tok) (i : Nat) : placeM e (l.drop i) = placeI e l i := by
  unfold placeM placeI
  cases ht : l[i]? with
  | none => rw [drop_nil ht]
  | some t => rw [drop_cons ht]
theorem sign_not_name : ∀ s ∈ signsL, nameM s = false := by decide
theorem isT_sign {t : Tok} (h : GoodT t) {s : Txt} (hs : s ∈ signsL) : isT s t = signB s t := by
  unfold isT signB
  by_cases h0 : t.kind = 0
  · have hn := (h.name (by omega)).1
    have : (t.text == s) = false := by
      simp only [beq_eq_false_iff_ne, ne_eq]
      intro e
      rw [e, sign_not_name s hs] at hn
      cases hn
    rw [this, h0]; rfl
  · have : (t.kind == 0) = false := by simp [h0]
    rw [this, Bool.false_or, Bool.and_comm]
theorem isT_word {t : Tok} (h : GoodT t) {s : Txt} (hs : nameM s = true) : isT s t = wordB s t := by
  unfold isT wordB
  by_cases h5 : t.kind = 5
  · have hn := h.sign h5
    have : (t.text == s) = false := by
      simp only [beq_eq_false_iff_ne, ne_eq]
      intro e
      have := sign_not_name t.text (by simpa using hn)
      rw [e, hs] at this
      cases this
    rw [this, h5]; rfl
  · have : (t.kind == 5) = false := by simp [h5]
    rw [this, Bool.or_false, Bool.and_comm]
theorem nameT_named {t : Tok} (h : GoodT t) : nameT t = namedB t := by
  unfold nameT namedB
  have hk := h.kind
  by_cases h2 : t.kind ≤ 2
  · have hn := (h.name h2).1
    rw [mark_name, Bool.and_eq_true] at hn
    rw [decide_eq_true h2, hn.1]
    rcases (by omega : t.kind = 0 ∨ t.kind = 1 ∨ t.kind = 2) with h | h | h <;> rw [h] <;> rfl
  · have e0 : (t.kind == 0) = false := by simp; omega
    have e1 : (t.kind == 1) = false := by simp; omega
    have e2 : (t.kind == 2) = false := by simp; omega
    rw [decide_eq_false h2, e0, e1, e2]; rfl
theorem cmpT_comp {t : Tok} (h : GoodT t) : cmpT t = compB t := by
  unfold cmpT compB
  rw [isT_sign h (by decide), isT_sign h (by decide), isT_sign h (by decide), isT_sign h (by decide)]
  unfold signB
  cases t.kind == 5 <;> simp
theorem atI_good {p q : Tok → Bool} {l : List Tok} (hg : GoodL l) (h : ∀ t, GoodT t → p t = q t) (i : Nat) : atI p l i = atI q l i := by
  unfold atI
  cases ht : l[i]? with
  | none => rfl
  | some t => exact h t (hg t (List.mem_of_getElem? ht))
theorem paperJ_B {t : Tok} (_h : GoodT t) : decide (paperJ t < 0) = !paperB t := by
  unfold paperJ paperB
  by_cases h0 : t.kind = 0
  · have : (t.kind == 0) = true := by simp [h0]
    rw [if_pos h0, this, Bool.true_and, Bool.eq_iff_iff]; simp
  · have : (t.kind == 0) = false := by simp [h0]
    rw [if_neg h0, this]; rfl
theorem takeM_no {e : Nat} {p : Tok → Bool} {ts : List Tok} (h : seesB p ts = false) : takeM e p ts = .error (placeM e ts, 2) := by
  unfold takeM
  cases ts with
  | nil => rfl
  | cons t r =>
    have : p t = false := h
    simp only
    rw [if_neg (by rw [this]; simp)]; rfl
theorem atom_A1 {e : Nat} {ts : List Tok} (h : seesB namedB ts = false) : atomM e ts = .error (placeM e ts, 2) := by
  unfold atomM; rw [takeM_no h]; rfl
theorem atom_A2 {e : Nat} {f : Tok} {r : List Tok} (hf : namedB f = true) (h : seesB compB r = false) : atomM e (f :: r) = .error (placeM e r, 2) := by
  unfold atomM; rw [take_yes hf, bind_ok, takeM_no h]; rfl
theorem numM_no {e : Nat} {lo hi : Int} {r : List Tok} (h : seesB (kindB 2) r = false) : numM e lo hi r = .error (placeM e r, 2) := by
  unfold numM; rw [takeM_no h]
theorem atom_num_no {e : Nat} {f o : Tok} {r : List Tok} (hf : namedB f = true) (ho : compB o = true) (hs : o.text = sLe ∨ o.text = sGe) (h : seesB (kindB 2) r = false) : atomM e (f :: o :: r) = .error (placeM e r, 2) := by
  unfold atomM; rw [take_yes hf, bind_ok, take_yes ho, bind_ok]
  rcases hs with hs | hs <;> rw [hs, numM_no h]
  · rw [if_neg (by decide), if_neg (by decide), if_pos rfl]; rfl
  · rw [if_neg (by decide), if_neg (by decide), if_neg (by decide)]; rfl
theorem atom_num_ok {e : Nat} {f o t : Tok} {r : List Tok} (hf : namedB f = true) (ho : compB o = true) (hs : o.text = sLe ∨ o.text = sGe) (ht : t.kind = 2) (hm : numV t.text ≤ 1099511627776) :
    atomM e (f :: o :: t :: r) = .ok (.mk (if o.text = sGe then 6 else 5) 0 f.text [] (numV t.text : Nat) [], r) := by
  have hn : numM e 0 1099511627776 (t :: r) = .ok ((numV t.text : Int), r) := by
    unfold numM
    rw [take_yes (by simp [kindB, ht])]
    simp only
    rw [if_neg (by omega)]
  unfold atomM; rw [take_yes hf, bind_ok, take_yes ho, bind_ok, hn]
  rcases hs with hs | hs <;> rw [hs]
  · rw [if_neg (by decide), if_neg (by decide), if_pos rfl, if_neg (by decide)]; rfl
  · rw [if_neg (by decide), if_neg (by decide), if_neg (by decide), if_pos rfl]; rfl
theorem atom_text_ok {e : Nat} {f o t : Tok} {r : List Tok} (hf : namedB f = true) (ho : compB o = true) (hs : o.text = sEq ∨ o.text = sTilde) (ht : t.kind = 3) :
    atomM e (f :: o :: t :: r) = .ok (.mk (if o.text = sTilde then 4 else 3) 0 f.text t.text 0 [], r) := by
  have hk : kindB 3 t = true := by simp [kindB, ht]
  have hp : seesB paperB (t :: r) = false := by show paperB t = false; unfold paperB; rw [ht]; rfl
  unfold atomM; rw [take_yes hf, bind_ok, take_yes ho, bind_ok]
  rcases hs with hs | hs <;> rw [hs]
  · rw [if_pos rfl, if_neg (by rw [hp]; simp), take_yes hk, if_neg (by decide)]; rfl
  · rw [if_neg (by decide), if_pos rfl, take_yes hk, if_pos rfl]; rfl
theorem atom_text_no {e : Nat} {f o : Tok} {r : List Tok} (hf : namedB f = true) (ho : compB o = true) (hs : o.text = sTilde ∨ o.text = sEq ∧ seesB paperB r = false) (h : seesB (kindB 3) r = false) :
    atomM e (f :: o :: r) = .error (placeM e r, 2) := by
  unfold atomM; rw [take_yes hf, bind_ok, take_yes ho, bind_ok]
  rcases hs with hs | ⟨hs, hp⟩ <;> rw [hs]
  · rw [if_neg (by decide), if_pos rfl, takeM_no h]; rfl
  · rw [if_pos rfl, if_neg (by rw [hp]; simp), takeM_no h]; rfl
theorem atom_dot_no {e : Nat} {f o x : Tok} {r : List Tok} (hf : namedB f = true) (ho : compB o = true) (hs : o.text = sEq) (hx : paperB x = true) (h : seesB (signB sDot) r = false) : atomM e (f :: o :: x :: r) = .error (placeM e r, 2) := by
  unfold atomM; rw [take_yes hf, bind_ok, take_yes ho, bind_ok, if_pos hs, if_pos (show seesB paperB (x :: r) = true from hx), take_yes hx, bind_ok, takeM_no h]; rfl
theorem atom_like_no {e : Nat} {f o x d : Tok} {r : List Tok} (hf : namedB f = true) (ho : compB o = true) (hs : o.text = sEq) (hx : paperB x = true) (hd : signB sDot d = true) (h : seesB namedB r = false) : atomM e (f :: o :: x :: d :: r) = .error (placeM e r, 2) := by
  unfold atomM; rw [take_yes hf, bind_ok, take_yes ho, bind_ok, if_pos hs, if_pos (show seesB paperB (x :: d :: r) = true from hx), take_yes hx, bind_ok, take_yes hd, bind_ok, takeM_no h]; rfl
theorem atom_like_ok {e : Nat} {f o x d y : Tok} {r : List Tok} (hf : namedB f = true) (ho : compB o = true) (hs : o.text = sEq) (hx : paperB x = true) (hd : signB sDot d = true) (hy : namedB y = true) :
    atomM e (f :: o :: x :: d :: y :: r) = .ok (.mk 7 (paperI x.text) f.text y.text 0 [], r) := by
  unfold atomM; rw [take_yes hf, bind_ok, take_yes ho, bind_ok, if_pos hs, if_pos (show seesB paperB (x :: d :: y :: r) = true from hx), take_yes hx, bind_ok, take_yes hd, bind_ok, take_yes hy]; rfl
theorem TokAt.at_ {w : World} {pb g off : Nat} {l : List Tok} (h : TokAt w pb (some ⟨g, off, none⟩) l) {j : Nat} {t : Tok} (ht : l[j]? = some t) :
    w.cell? ⟨g, off + j * 3, none⟩ = some (.int .i64 t.kind) ∧ w.cell? ⟨g, off + j * 3 + 2, none⟩ = some (.string ⟨t.text.toArray⟩) := by
  obtain ⟨g', off', e, _, h0, _, h2⟩ := h j t ht
  simp only [Option.some.injEq, Addr.mk.injEq, and_true] at e
  obtain ⟨rfl, rfl⟩ := e
  exact ⟨h0, h2⟩
theorem tok_far {w : World} {g off b o : Nat} {l : List Tok} {u : Value} (h : TokAt w 0 (some ⟨g, off, none⟩) l) (hg : g ≠ b) : TokAt (w.setCell ⟨b, o, none⟩ u) 0 (some ⟨g, off, none⟩) l := fun i t ht => by
  obtain ⟨g', off', e, hn, h0, h1, h2⟩ := h i t ht
  have e' := e
  simp only [Option.some.injEq, Addr.mk.injEq, and_true] at e'
  obtain ⟨rfl, rfl⟩ := e'
  have hb := (But.refl b w).setCell o u
  exact ⟨g, off, rfl, hn, (hb.cell (World.block_lt_of_cell? w _ h0) hg).trans h0, (hb.cell (World.block_lt_of_cell? w _ h1) hg).trans h1, (hb.cell (World.block_lt_of_cell? w _ h2) hg).trans h2⟩
end Go.Proofs.YtjkmhlfjheiekaaGreatDoor

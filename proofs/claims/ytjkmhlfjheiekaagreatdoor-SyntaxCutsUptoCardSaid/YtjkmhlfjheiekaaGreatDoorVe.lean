import Derived.Test.YtjkmhlfjheiekaaGreatDoorVc
import Derived.Test.YtjkmhlfjheiekaaGreatDoorWd
set_option maxRecDepth 1000000
set_option maxHeartbeats 51200000
namespace Go.Proofs.YtjkmhlfjheiekaaGreatDoor
open Go Go.RowKit Go.BigFrame Go.Maps
theorem ati_sees (p : Tok → Bool) (l : List Tok) (i : Nat) : atI p l i = seZ p (l.drop i) := by
 unfold atI seZ
 cases ht : l[i]? with
 | none => rw [drop_nil ht]
 | some t => rw [drop_cons ht]
theorem place_i (e : Nat) (l : List Tok) (i : Nat) : placeM e (l.drop i) = plz e l i := by
 unfold placeM plz
 cases ht : l[i]? with
 | none => rw [drop_nil ht]
 | some t => rw [drop_cons ht]
theorem sign_not_name : ∀ s ∈ signsL, nameM s = false := by decide
theorem isT_sign {t : Tok} (h : GoodT t) {s : Txt} (hs : s ∈ signsL) : isT s t = signB s t := by
 unfold isT signB
 by_cases h0 : t.kind = 0
 ·have hn := (h.name (by omega)).1
  have : (t.text == s) = false := by
   simp only [beq_eq_false_iff_ne, ne_eq]; intro e; rw [e, sign_not_name s hs] at hn
   cases hn
  rw [this, h0]; rfl
 ·have : (t.kind == 0) = false := by simp [h0]
  rw [this, Bool.false_or, Bool.and_comm]
theorem isT_word {t : Tok} (h : GoodT t) {s : Txt} (hs : nameM s = true) : isT s t = wdz s t := by
 unfold isT wdz
 by_cases h5 : t.kind = 5
 ·have hn := h.sign h5
  have : (t.text == s) = false := by
   simp only [beq_eq_false_iff_ne, ne_eq]; intro e; have := sign_not_name t.text (by simpa using hn); rw [e, hs] at this
   cases this
  rw [this, h5]; rfl
 ·have : (t.kind == 5) = false := by simp [h5]
  rw [this, Bool.or_false, Bool.and_comm]
theorem nameT_named {t : Tok} (h : GoodT t) : nameT t = nmB t := by
 unfold nameT nmB
 have hk := h.kind
 by_cases h2 : t.kind ≤ 2
 ·have hn := (h.name h2).1
  rw [mark_name, Bool.and_eq_true] at hn; rw [decide_eq_true h2, hn.1]
  rcases (by omega : t.kind = 0 ∨ t.kind = 1 ∨ t.kind = 2) with h | h | h <;> rw [h] <;> rfl
 ·have e0 : (t.kind == 0) = false := by simp; omega
  have e1 : (t.kind == 1) = false := by simp; omega
  have e2 : (t.kind == 2) = false := by simp; omega
  rw [decide_eq_false h2, e0, e1, e2]; rfl
theorem cmpT_comp {t : Tok} (h : GoodT t) : cmpT t = compB t := by
 unfold cmpT compB
 rw [isT_sign h (by decide), isT_sign h (by decide), isT_sign h (by decide), isT_sign h (by decide)]
 unfold signB
 cases t.kind == 5 <;> simp
theorem atI_good {p q : Tok → Bool} {l : List Tok} (hg : GoodL l) (h : ∀ t, GoodT t → p t = q t) (i : Nat) : atI p l i = atI q l i := by
 unfold atI
 cases ht : l[i]? with
 | none => rfl
 | some t => exact h t (hg t (List.mem_of_getElem? ht))
theorem paperJ_B {t : Tok} (_h : GoodT t) : decide (paperJ t < 0) = !ppB t := by
 unfold paperJ ppB
 by_cases h0 : t.kind = 0
 ·have : (t.kind == 0) = true := by simp [h0]
  rw [if_pos h0, this, Bool.true_and, Bool.eq_iff_iff]; simp
 ·have : (t.kind == 0) = false := by simp [h0]
  rw [if_neg h0, this]; rfl
theorem takeM_no {e : Nat} {p : Tok → Bool} {ts : List Tok} (h : seZ p ts = false) : takeM e p ts = .error (placeM e ts, 2) := by
 unfold takeM
 cases ts with
 | nil => rfl
 | cons t r =>
  have : p t = false := h; simp only; rw [if_neg (by rw [this]; simp)]; rfl
theorem atom_A1 {e : Nat} {ts : List Tok} (h : seZ nmB ts = false) : atomM e ts = .error (placeM e ts, 2) := by
 unfold atomM; rw [takeM_no h]; rfl
theorem atom_A2 {e : Nat} {f : Tok} {r : List Tok} (hf : nmB f = true) (h : seZ compB r = false) : atomM e (f :: r) = .error (placeM e r, 2) := by
 unfold atomM; rw [tyz hf, bkz, takeM_no h]; rfl
theorem numM_no {e : Nat} {lo hi : Int} {r : List Tok} (h : seZ (kdB 2) r = false) : numM e lo hi r = .error (placeM e r, 2) := by
 unfold numM; rw [takeM_no h]
theorem atom_num_no {e : Nat} {f o : Tok} {r : List Tok} (hf : nmB f = true) (ho : compB o = true) (hs : o.text = sLe ∨ o.text = sGe) (h : seZ (kdB 2) r = false) : atomM e (f :: o :: r) = .error (placeM e r, 2) := by
 unfold atomM; rw [tyz hf, bkz, tyz ho, bkz]
 rcases hs with hs | hs <;> rw [hs, numM_no h]
 ·rw [if_neg (by decide), if_neg (by decide), if_pos rfl]; rfl
 ·rw [if_neg (by decide), if_neg (by decide), if_neg (by decide)]; rfl
theorem atom_num_ok {e : Nat} {f o t : Tok} {r : List Tok} (hf : nmB f = true) (ho : compB o = true) (hs : o.text = sLe ∨ o.text = sGe) (ht : t.kind = 2) (hm : numV t.text ≤ 1099511627776) :
  atomM e (f :: o :: t :: r) = .ok (.mk (if o.text = sGe then 6 else 5) 0 f.text [] (numV t.text : Nat) [], r) := by
 have hn : numM e 0 1099511627776 (t :: r) = .ok ((numV t.text : Int), r) := by
  unfold numM; rw [tyz (by simp [kdB, ht])]; simp only; rw [if_neg (by omega)]
 unfold atomM; rw [tyz hf, bkz, tyz ho, bkz, hn]
 rcases hs with hs | hs <;> rw [hs]
 ·rw [if_neg (by decide), if_neg (by decide), if_pos rfl, if_neg (by decide)]; rfl
 ·rw [if_neg (by decide), if_neg (by decide), if_neg (by decide), if_pos rfl]; rfl
theorem atom_text_ok {e : Nat} {f o t : Tok} {r : List Tok} (hf : nmB f = true) (ho : compB o = true) (hs : o.text = sEq ∨ o.text = sTilde) (ht : t.kind = 3) :
  atomM e (f :: o :: t :: r) = .ok (.mk (if o.text = sTilde then 4 else 3) 0 f.text t.text 0 [], r) := by
 have hk : kdB 3 t = true := by simp [kdB, ht]
 have hp : seZ ppB (t :: r) = false := by show ppB t = false; unfold ppB; rw [ht]; rfl
 unfold atomM; rw [tyz hf, bkz, tyz ho, bkz]
 rcases hs with hs | hs <;> rw [hs]
 ·rw [if_pos rfl, if_neg (by rw [hp]; simp), tyz hk, if_neg (by decide)]; rfl
 ·rw [if_neg (by decide), if_pos rfl, tyz hk, if_pos rfl]; rfl
theorem atom_text_no {e : Nat} {f o : Tok} {r : List Tok} (hf : nmB f = true) (ho : compB o = true) (hs : o.text = sTilde ∨ o.text = sEq ∧ seZ ppB r = false) (h : seZ (kdB 3) r = false) :
  atomM e (f :: o :: r) = .error (placeM e r, 2) := by
 unfold atomM; rw [tyz hf, bkz, tyz ho, bkz]
 rcases hs with hs | ⟨hs, hp⟩ <;> rw [hs]
 ·rw [if_neg (by decide), if_pos rfl, takeM_no h]; rfl
 ·rw [if_pos rfl, if_neg (by rw [hp]; simp), takeM_no h]; rfl
theorem atom_dot_no {e : Nat} {f o x : Tok} {r : List Tok} (hf : nmB f = true) (ho : compB o = true) (hs : o.text = sEq) (hx : ppB x = true) (h : seZ (signB sDot) r = false) : atomM e (f :: o :: x :: r) = .error (placeM e r, 2) := by
 unfold atomM; rw [tyz hf, bkz, tyz ho, bkz, if_pos hs, if_pos (show seZ ppB (x :: r) = true from hx), tyz hx, bkz, takeM_no h]; rfl
theorem atom_like_no {e : Nat} {f o x d : Tok} {r : List Tok} (hf : nmB f = true) (ho : compB o = true) (hs : o.text = sEq) (hx : ppB x = true) (hd : signB sDot d = true) (h : seZ nmB r = false) : atomM e (f :: o :: x :: d :: r) = .error (placeM e r, 2) := by
 unfold atomM; rw [tyz hf, bkz, tyz ho, bkz, if_pos hs, if_pos (show seZ ppB (x :: d :: r) = true from hx), tyz hx, bkz, tyz hd, bkz, takeM_no h]; rfl
theorem atom_like_ok {e : Nat} {f o x d y : Tok} {r : List Tok} (hf : nmB f = true) (ho : compB o = true) (hs : o.text = sEq) (hx : ppB x = true) (hd : signB sDot d = true) (hy : nmB y = true) :
  atomM e (f :: o :: x :: d :: y :: r) = .ok (.mk 7 (paperI x.text) f.text y.text 0 [], r) := by
 unfold atomM; rw [tyz hf, bkz, tyz ho, bkz, if_pos hs, if_pos (show seZ ppB (x :: d :: y :: r) = true from hx), tyz hx, bkz, tyz hd, bkz, tyz hy]; rfl
theorem TokAt.at_ {w : World} {pb g off : Nat} {l : List Tok} (h : TokAt w pb (some (Az g off)) l) {j : Nat} {t : Tok} (ht : l[j]? = some t) :
  w.cell? ⟨g, off + j * 3, none⟩ = some (Iz t.kind) ∧ w.cell? ⟨g, off + j * 3 + 2, none⟩ = some (.string ⟨t.text.toArray⟩) := by
 obtain ⟨g', off', e, _, h0, _, h2⟩ := h j t ht
 simp only [Option.some.injEq, Addr.mk.injEq, and_true] at e
 obtain ⟨rfl, rfl⟩ := e
 exact ⟨h0, h2⟩
theorem tok_far {w : World} {g off b o : Nat} {l : List Tok} {u : Value} (h : TokAt w 0 (some (Az g off)) l) (hg : g ≠ b) : TokAt (w.setCell (Az b o) u) 0 (some (Az g off)) l := fun i t ht => by
 obtain ⟨g', off', e, hn, h0, h1, h2⟩ := h i t ht
 have e' := e
 simp only [Option.some.injEq, Addr.mk.injEq, and_true] at e'
 obtain ⟨rfl, rfl⟩ := e'
 have hb := (But.refl b w).setCell o u
 exact ⟨g, off, rfl, hn, (hb.cell (World.block_lt_of_cell? w _ h0) hg).trans h0, (hb.cell (World.block_lt_of_cell? w _ h1) hg).trans h1, (hb.cell (World.block_lt_of_cell? w _ h2) hg).trans h2⟩
theorem ratom_open_bad (A : Option Addr) (m c e : Nat) (l : List Tok) (hm : Hid (l.length = m)) (hm4 : m ≤ 4096) (w : World) (i : Nat) (hi : i ≤ m) (htk : Hid (TokAt w 0 A l)) (q1 : Hid (atI (isT [40]) l i = true)) (cd : Int) (pl : Nat) (hcd : cd ≠ 0) (hcall : Hid (∀ W, Bz w W → Cz 71 #[.slice A m c, Iz (i + 1 : Nat), Iz e] W (fun x w' => Bz W w' ∧ x = .returned (.agg (gotE cd pl))))) :
  Cz 148 #[.slice A m c, Iz i, Iz e] w (fun x w' => Bz w w' ∧ x = .returned (.agg (gotE cd pl))) := by
 have hb0 : Hid (Bz w (w.alloc (.cells (z2z 0 0 0 none 0 0 0 0 0) 65))) := (Below.refl _ w).alloc leZ _
 have hR0 := hdZ (Blk.new w 65 (z2z 0 0 0 none 0 0 0 0 0))
 have ht0 := hdZ (htk.out.below hb0.out)
 have hs0 : Hid ((w.alloc (.cells (z2z 0 0 0 none 0 0 0 0 0) 65)).heap.size = w.heap.size + 1) := by unfold Hid; simp
 have w1x : IntKind.i64.wrap ((i : Int) + 1) = ((i + 1 : Nat) : Int) := by rw [IntWalk.i64_in _ (by omega)]; omega
 have w2x : IntKind.i64.wrap ((i : Int) + 2) = ((i + 2 : Nat) : Int) := by rw [IntWalk.i64_in _ (by omega)]; omega
 go_enter Tryz.func148, Tryz.ntmps148
 go_wp2_with fail
 obtain ⟨wa, hwa⟩ := nmZ (w.alloc (.cells (z2z 0 0 0 none 0 0 0 0 0) 65))
 change Cz 48 _ (w.alloc (.cells (z2z 0 0 0 none 0 0 0 0 0) 65)) _
 rw [hwa.out] at hb0 hR0 ht0 hs0 ⊢
 clear hwa
 refine (rsz A m c l wa (i) [40] hm ht0).mono ?_
 rintro x w1 ⟨rfl, rfl⟩
 rw [q1.out]
 go_wp2_with fail
 refine (hcall.out wa hb0.out).mono ?_
 rintro x w1 ⟨hb1, rfl⟩
 have hB1 := hdZ (hb0.out.trans (hb1.mono hb0.out.size))
 have hR1 := hdZ (hR0.out.below hb1 hR0.out.lt)
 have ht1 := hdZ (ht0.out.below hb1)
 have hsz : w.heap.size + 1 ≤ w1.heap.size := by have := hb1.size; have := hs0.out; omega
 have ne1 : w1.heap.size ≠ w.heap.size := by omega
 have ne2 : w.heap.size ≠ w1.heap.size := by omega
 clear hb1 hcall ht0 hR0
 unfold gotE
 have b1 : (cd != 0) = true := by simp [hcd]
 obtain ⟨rc0, rc1, rc2, rc3, rc4, rc5, rc6, rc7, rc8, rf0, rf1, rf2, rf3, rf4, rf5, rf6, rf7, rf8⟩ := cf9 hR1.out
 have rlt := hR1.out.lt
 go_wp2_with fail
 refine bodyPost_ret (rrz rfl _ _ w.heap.size 65 _ _ rfl ((st9z (hR1.out)).alloc _) Tryz.underlying65 rfl (by kernel_rfl)) rfl ?_
 exact ⟨(sc9z (hB1.out)).alloc (by simpa using hB1.out.size) _, rfl⟩
theorem ratom_open_ok (A : Option Addr) (m c e : Nat) (l : List Tok) (hm : Hid (l.length = m)) (hm4 : m ≤ 4096) (w : World) (i : Nat) (hi : i ≤ m) (htk : Hid (TokAt w 0 A l)) (q1 : Hid (atI (isT [40]) l i = true)) (r : Rul) (kx : Nat) (hkx : kx ≤ m) (hcall : Hid (∀ W, Bz w W → Cz 71 #[.slice A m c, Iz (i + 1 : Nat), Iz e] W (fun x w' => Bz W w' ∧ ∃ t, x = .returned (.agg (gotV t kx)) ∧ TAz w' (fun b => W.heap.size ≤ b) t ∧ stz t = r))) (q2 : Hid (atI (isT [41]) l kx = true)) :
  Cz 148 #[.slice A m c, Iz i, Iz e] w (fun x w' => Bz w w' ∧ ∃ t, x = .returned (.agg (gotV t (kx + 1))) ∧ TAz w' (fun b => w.heap.size ≤ b) t ∧ stz t = r) := by
 have hb0 : Hid (Bz w (w.alloc (.cells (z2z 0 0 0 none 0 0 0 0 0) 65))) := (Below.refl _ w).alloc leZ _
 have hR0 := hdZ (Blk.new w 65 (z2z 0 0 0 none 0 0 0 0 0))
 have ht0 := hdZ (htk.out.below hb0.out)
 have hs0 : Hid ((w.alloc (.cells (z2z 0 0 0 none 0 0 0 0 0) 65)).heap.size = w.heap.size + 1) := by unfold Hid; simp
 have w1x : IntKind.i64.wrap ((i : Int) + 1) = ((i + 1 : Nat) : Int) := by rw [IntWalk.i64_in _ (by omega)]; omega
 have w2x : IntKind.i64.wrap ((i : Int) + 2) = ((i + 2 : Nat) : Int) := by rw [IntWalk.i64_in _ (by omega)]; omega
 go_enter Tryz.func148, Tryz.ntmps148
 go_wp2_with fail
 obtain ⟨wa, hwa⟩ := nmZ (w.alloc (.cells (z2z 0 0 0 none 0 0 0 0 0) 65))
 change Cz 48 _ (w.alloc (.cells (z2z 0 0 0 none 0 0 0 0 0) 65)) _
 rw [hwa.out] at hb0 hR0 ht0 hs0 ⊢
 clear hwa
 refine (rsz A m c l wa (i) [40] hm ht0).mono ?_
 rintro x w1 ⟨rfl, rfl⟩
 rw [q1.out]
 go_wp2_with fail
 refine (hcall.out wa hb0.out).mono ?_
 rintro x w1 ⟨hb1, ⟨tk, tp, tf, tx, tn, tA, tc, tL⟩, rfl, hT1, hst⟩
 have hB1 := hdZ (hb0.out.trans (hb1.mono hb0.out.size))
 have hR1 := hdZ (hR0.out.below hb1 hR0.out.lt)
 have ht1 := hdZ (ht0.out.below hb1)
 have hsz : w.heap.size + 1 ≤ w1.heap.size := by have := hb1.size; have := hs0.out; omega
 have ne1 : w1.heap.size ≠ w.heap.size := by omega
 have ne2 : w.heap.size ≠ w1.heap.size := by omega
 have hT1' : Hid (TAz w1 (fun b => w.heap.size + 1 ≤ b) (.mk tk tp tf tx tn tA tc tL)) := hT1.mono fun b _ hb => by have := hs0.out; omega
 have hst' := hdZ hst
 clear hT1 hst
 clear hb1 hcall ht0 hR0
 unfold gotV
 go_wp2_with fail
 have hbl : Bz w1 (w1.alloc (.cells (z5z tk tp tf tx tn tA tL.length tc kx 0 0) 65)) := (Below.refl _ w1).alloc leZ _
 have hN := hdZ (Blk.new w1 65 (z5z tk tp tf tx tn tA tL.length tc kx 0 0))
 have hRb := hdZ (hR1.out.below hbl hR1.out.lt)
 have hBb := hdZ (hB1.out.trans (hbl.mono hB1.out.size))
 have htb := hdZ (ht1.out.below hbl)
 have hTb := hdZ (hT1'.out.below hbl)
 have hTc : Hid (TAz (w1.alloc (.cells (z5z tk tp tf tx tn tA tL.length tc kx 0 0) 65)) (fun b => w.heap.size + 1 ≤ b ∧ b ≠ w1.heap.size) (.mk tk tp tf tx tn tA tc tL)) := (hT1'.out.mono fun b hlt hb => ⟨hb, by omega⟩).below hbl
 obtain ⟨wb, hwb⟩ := nmZ (w1.alloc (.cells (z5z tk tp tf tx tn tA tL.length tc kx 0 0) 65))
 rw [hwb.out] at hN hRb hBb htb hTb hTc ⊢
 clear hbl hwb
 refine (rsz A m c l wb (kx) [41] hm htb).mono ?_
 rintro x w1 ⟨rfl, rfl⟩
 rw [q2.out]
 have w3x : IntKind.i64.wrap ((kx : Int) + 1) = ((kx + 1 : Nat) : Int) := by rw [IntWalk.i64_in _ (by omega)]; omega
 have nc6 : wb.cell? (Az w1.heap.size 6) = some (Iz kx) := hN.out.cell 6
 have nf6 := hN.out.frozen 6
 have nlt := hN.out.lt
 go_upto_region 8 with fail
 have hNc : Hid (Blk (wb.setCell (Az w1.heap.size 6) (Iz ((kx + 1 : Nat) : Int))) w1.heap.size 65 (z5z tk tp tf tx tn tA tL.length tc ((kx + 1 : Nat) : Int) 0 0)) := hN.out.set_ 6 _
 have hRc : Hid (Blk (wb.setCell (Az w1.heap.size 6) (Iz ((kx + 1 : Nat) : Int))) w.heap.size 65 (z2z 0 0 0 none 0 0 0 0 0)) := hRb.out.far (p := (Az w1.heap.size 6)) ne2 _
 have hBc : Hid (Bz w (wb.setCell (Az w1.heap.size 6) (Iz ((kx + 1 : Nat) : Int)))) := hBb.out.setCell (p := (Az w1.heap.size 6)) (by show w.heap.size ≤ w1.heap.size; omega) _
 have hTd : Hid (TAz (wb.setCell (Az w1.heap.size 6) (Iz ((kx + 1 : Nat) : Int))) (fun b => w.heap.size + 1 ≤ b ∧ b ≠ w1.heap.size) (.mk tk tp tf tx tn tA tc tL)) := hTc.out.far (fun b hb => hb.2) _ _
 obtain ⟨wc, hwc⟩ := nmZ (wb.setCell (Az w1.heap.size 6) (Iz ((kx + 1 : Nat) : Int)))
 change Code.wp _ _ _ _ (wb.setCell (Az w1.heap.size 6) (Iz ((kx + 1 : Nat) : Int)))
 rw [hwc.out] at hNc hRc hBc hTd ⊢
 clear hwc nc6 nf6 nlt hN hRb hBb htb hTb hTc
 obtain ⟨nc0, nc1, nc2, nc3, nc4, nc5, nc6, nc7, nc8, nf0, nf1, nf2, nf3, nf4, nf5, nf6, nf7, nf8⟩ := cf9 hNc.out
 have nlt := hNc.out.lt
 obtain ⟨rc0, rc1, rc2, rc3, rc4, rc5, rc6, rc7, rc8, rf0, rf1, rf2, rf3, rf4, rf5, rf6, rf7, rf8⟩ := cf9 hRc.out
 have rlt := hRc.out.lt
 go_wp2_with fail
 refine bodyPost_ret (rrz rfl _ _ w.heap.size 65 _ _ rfl (st9z (hRc.out)) Tryz.underlying65 rfl (by kernel_rfl)) rfl ?_
 have hh : ∀ b, (w.heap.size + 1 ≤ b ∧ b ≠ w1.heap.size) → b ≠ w.heap.size := fun b hb => by omega
 refine ⟨(sc9z (hBc.out)), .mk tk tp tf tx tn tA tc tL, ?_, ?_, hst'.out⟩
 ·simp [gotV]
 ·exact ((((((((((hTd.out.far hh _ _).far hh _ _).far hh _ _).far hh _ _).far hh _ _).far hh _ _).far hh _ _).far hh _ _).far hh _ _)).mono (fun b _ hk => by omega)
theorem ratom_open_no (A : Option Addr) (m c e : Nat) (l : List Tok) (hm : Hid (l.length = m)) (hm4 : m ≤ 4096) (w : World) (i : Nat) (hi : i ≤ m) (htk : Hid (TokAt w 0 A l)) (q1 : Hid (atI (isT [40]) l i = true)) (r : Rul) (kx : Nat) (_hkx : kx ≤ m) (hcall : Hid (∀ W, Bz w W → Cz 71 #[.slice A m c, Iz (i + 1 : Nat), Iz e] W (fun x w' => Bz W w' ∧ ∃ t, x = .returned (.agg (gotV t kx)) ∧ TAz w' (fun b => W.heap.size ≤ b) t ∧ stz t = r))) (q2 : Hid (atI (isT [41]) l kx = false)) :
  Cz 148 #[.slice A m c, Iz i, Iz e] w (fun x w' => Bz w w' ∧ x = .returned (.agg (gotE 2 (plz e l kx)))) := by
 have hb0 : Hid (Bz w (w.alloc (.cells (z2z 0 0 0 none 0 0 0 0 0) 65))) := (Below.refl _ w).alloc leZ _
 have hR0 := hdZ (Blk.new w 65 (z2z 0 0 0 none 0 0 0 0 0))
 have ht0 := hdZ (htk.out.below hb0.out)
 have hs0 : Hid ((w.alloc (.cells (z2z 0 0 0 none 0 0 0 0 0) 65)).heap.size = w.heap.size + 1) := by unfold Hid; simp
 have w1x : IntKind.i64.wrap ((i : Int) + 1) = ((i + 1 : Nat) : Int) := by rw [IntWalk.i64_in _ (by omega)]; omega
 have w2x : IntKind.i64.wrap ((i : Int) + 2) = ((i + 2 : Nat) : Int) := by rw [IntWalk.i64_in _ (by omega)]; omega
 go_enter Tryz.func148, Tryz.ntmps148
 go_wp2_with fail
 obtain ⟨wa, hwa⟩ := nmZ (w.alloc (.cells (z2z 0 0 0 none 0 0 0 0 0) 65))
 change Cz 48 _ (w.alloc (.cells (z2z 0 0 0 none 0 0 0 0 0) 65)) _
 rw [hwa.out] at hb0 hR0 ht0 hs0 ⊢
 clear hwa
 refine (rsz A m c l wa (i) [40] hm ht0).mono ?_
 rintro x w1 ⟨rfl, rfl⟩
 rw [q1.out]
 go_wp2_with fail
 refine (hcall.out wa hb0.out).mono ?_
 rintro x w1 ⟨hb1, ⟨tk, tp, tf, tx, tn, tA, tc, tL⟩, rfl, hT1, hst⟩
 have hB1 := hdZ (hb0.out.trans (hb1.mono hb0.out.size))
 have hR1 := hdZ (hR0.out.below hb1 hR0.out.lt)
 have ht1 := hdZ (ht0.out.below hb1)
 have hsz : w.heap.size + 1 ≤ w1.heap.size := by have := hb1.size; have := hs0.out; omega
 have ne1 : w1.heap.size ≠ w.heap.size := by omega
 have ne2 : w.heap.size ≠ w1.heap.size := by omega
 have hT1' : Hid (TAz w1 (fun b => w.heap.size + 1 ≤ b) (.mk tk tp tf tx tn tA tc tL)) := hT1.mono fun b _ hb => by have := hs0.out; omega
 have hst' := hdZ hst
 clear hT1 hst
 clear hb1 hcall ht0 hR0
 unfold gotV
 go_wp2_with fail
 have hbl : Bz w1 (w1.alloc (.cells (z5z tk tp tf tx tn tA tL.length tc kx 0 0) 65)) := (Below.refl _ w1).alloc leZ _
 have hN := hdZ (Blk.new w1 65 (z5z tk tp tf tx tn tA tL.length tc kx 0 0))
 have hRb := hdZ (hR1.out.below hbl hR1.out.lt)
 have hBb := hdZ (hB1.out.trans (hbl.mono hB1.out.size))
 have htb := hdZ (ht1.out.below hbl)
 have hTb := hdZ (hT1'.out.below hbl)
 obtain ⟨wb, hwb⟩ := nmZ (w1.alloc (.cells (z5z tk tp tf tx tn tA tL.length tc kx 0 0) 65))
 rw [hwb.out] at hN hRb hBb htb hTb ⊢
 clear hbl hwb
 refine (rsz A m c l wb (kx) [41] hm htb).mono ?_
 rintro x w1 ⟨rfl, rfl⟩
 rw [q2.out]
 obtain ⟨nc0, nc1, nc2, nc3, nc4, nc5, nc6, nc7, nc8, nf0, nf1, nf2, nf3, nf4, nf5, nf6, nf7, nf8⟩ := cf9 hN.out
 have nlt := hN.out.lt
 go_wp2_with fail
 obtain ⟨pl, hpl⟩ := nmZ (plz e l (kx))
 refine (rwz A m c l wb e (kx) hm htb).mono ?_
 rintro x wz ⟨rfl, hbz⟩
 rw [hpl.out]
 have hB := hdZ (hBb.out.trans (hbz.mono hBb.out.size))
 have hR := hdZ (hRb.out.below hbz hRb.out.lt)
 clear hbz
 unfold gotE
 obtain ⟨rc0, rc1, rc2, rc3, rc4, rc5, rc6, rc7, rc8, rf0, rf1, rf2, rf3, rf4, rf5, rf6, rf7, rf8⟩ := cf9 hR.out
 have rlt := hR.out.lt
 go_wp2_with fail
 refine bodyPost_ret (rrz rfl _ _ w.heap.size 65 _ _ rfl (st9z (hR.out)) Tryz.underlying65 rfl (by kernel_rfl)) rfl ?_
 exact ⟨(sc9z (hB.out)), by rw [hpl.out]; rfl⟩
theorem ratom_not_bad (A : Option Addr) (m c e : Nat) (l : List Tok) (hm : Hid (l.length = m)) (hm4 : m ≤ 4096) (w : World) (i : Nat) (hi : i ≤ m) (htk : Hid (TokAt w 0 A l)) (q1 : Hid (atI (isT [40]) l i = false)) (q2 : Hid (atI (isT [110, 111, 116]) l i = true)) (q3 : Hid (atI cmpT l (i + 1) = false)) (cd : Int) (pl : Nat) (hcd : cd ≠ 0) (hcall : Hid (∀ W, Bz w W → Cz 148 #[.slice A m c, Iz (i + 1 : Nat), Iz e] W (fun x w' => Bz W w' ∧ x = .returned (.agg (gotE cd pl))))) :
  Cz 148 #[.slice A m c, Iz i, Iz e] w (fun x w' => Bz w w' ∧ x = .returned (.agg (gotE cd pl))) := by
 have hb0 : Hid (Bz w (w.alloc (.cells (z2z 0 0 0 none 0 0 0 0 0) 65))) := (Below.refl _ w).alloc leZ _
 have hR0 := hdZ (Blk.new w 65 (z2z 0 0 0 none 0 0 0 0 0))
 have ht0 := hdZ (htk.out.below hb0.out)
 have hs0 : Hid ((w.alloc (.cells (z2z 0 0 0 none 0 0 0 0 0) 65)).heap.size = w.heap.size + 1) := by unfold Hid; simp
 have w1x : IntKind.i64.wrap ((i : Int) + 1) = ((i + 1 : Nat) : Int) := by rw [IntWalk.i64_in _ (by omega)]; omega
 have w2x : IntKind.i64.wrap ((i : Int) + 2) = ((i + 2 : Nat) : Int) := by rw [IntWalk.i64_in _ (by omega)]; omega
 go_enter Tryz.func148, Tryz.ntmps148
 go_wp2_with fail
 obtain ⟨wa, hwa⟩ := nmZ (w.alloc (.cells (z2z 0 0 0 none 0 0 0 0 0) 65))
 change Cz 48 _ (w.alloc (.cells (z2z 0 0 0 none 0 0 0 0 0) 65)) _
 rw [hwa.out] at hb0 hR0 ht0 hs0 ⊢
 clear hwa
 refine (rsz A m c l wa (i) [40] hm ht0).mono ?_
 rintro x w1 ⟨rfl, rfl⟩
 rw [q1.out]
 go_wp2_with fail
 refine (rsz A m c l wa (i) [110, 111, 116] hm ht0).mono ?_
 rintro x w1 ⟨rfl, rfl⟩
 rw [q2.out]
 go_wp2_with fail
 refine (rcz A m c l wa (i + 1) hm ht0).mono ?_
 rintro x w1 ⟨rfl, rfl⟩
 rw [q3.out]
 go_wp2_with fail
 refine (hcall.out wa hb0.out).mono ?_
 rintro x w1 ⟨hb1, rfl⟩
 have hB1 := hdZ (hb0.out.trans (hb1.mono hb0.out.size))
 have hR1 := hdZ (hR0.out.below hb1 hR0.out.lt)
 have ht1 := hdZ (ht0.out.below hb1)
 have hsz : w.heap.size + 1 ≤ w1.heap.size := by have := hb1.size; have := hs0.out; omega
 have ne1 : w1.heap.size ≠ w.heap.size := by omega
 have ne2 : w.heap.size ≠ w1.heap.size := by omega
 clear hb1 hcall ht0 hR0
 unfold gotE
 have b1 : (cd != 0) = true := by simp [hcd]
 obtain ⟨rc0, rc1, rc2, rc3, rc4, rc5, rc6, rc7, rc8, rf0, rf1, rf2, rf3, rf4, rf5, rf6, rf7, rf8⟩ := cf9 hR1.out
 have rlt := hR1.out.lt
 go_wp2_with fail
 refine bodyPost_ret (rrz rfl _ _ w.heap.size 65 _ _ rfl ((st9z (hR1.out)).alloc _) Tryz.underlying65 rfl (by kernel_rfl)) rfl ?_
 exact ⟨(sc9z (hB1.out)).alloc (by simpa using hB1.out.size) _, rfl⟩
theorem ratom_not_ok (A : Option Addr) (m c e : Nat) (l : List Tok) (hm : Hid (l.length = m)) (hm4 : m ≤ 4096) (w : World) (i : Nat) (hi : i ≤ m) (htk : Hid (TokAt w 0 A l)) (q1 : Hid (atI (isT [40]) l i = false)) (q2 : Hid (atI (isT [110, 111, 116]) l i = true)) (q3 : Hid (atI cmpT l (i + 1) = false)) (r : Rul) (kx : Nat) (_hkx : kx ≤ m) (hcall : Hid (∀ W, Bz w W → Cz 148 #[.slice A m c, Iz (i + 1 : Nat), Iz e] W (fun x w' => Bz W w' ∧ ∃ t, x = .returned (.agg (gotV t kx)) ∧ TAz w' (fun b => W.heap.size ≤ b) t ∧ stz t = r))) :
  Cz 148 #[.slice A m c, Iz i, Iz e] w (fun x w' => Bz w w' ∧ ∃ t, x = .returned (.agg (gotV t kx)) ∧ TAz w' (fun b => w.heap.size ≤ b) t ∧ stz t = (.mk 2 0 [] [] 0 [r])) := by
 have hb0 : Hid (Bz w (w.alloc (.cells (z2z 0 0 0 none 0 0 0 0 0) 65))) := (Below.refl _ w).alloc leZ _
 have hR0 := hdZ (Blk.new w 65 (z2z 0 0 0 none 0 0 0 0 0))
 have ht0 := hdZ (htk.out.below hb0.out)
 have hs0 : Hid ((w.alloc (.cells (z2z 0 0 0 none 0 0 0 0 0) 65)).heap.size = w.heap.size + 1) := by unfold Hid; simp
 have w1x : IntKind.i64.wrap ((i : Int) + 1) = ((i + 1 : Nat) : Int) := by rw [IntWalk.i64_in _ (by omega)]; omega
 have w2x : IntKind.i64.wrap ((i : Int) + 2) = ((i + 2 : Nat) : Int) := by rw [IntWalk.i64_in _ (by omega)]; omega
 go_enter Tryz.func148, Tryz.ntmps148
 go_wp2_with fail
 obtain ⟨wa, hwa⟩ := nmZ (w.alloc (.cells (z2z 0 0 0 none 0 0 0 0 0) 65))
 change Cz 48 _ (w.alloc (.cells (z2z 0 0 0 none 0 0 0 0 0) 65)) _
 rw [hwa.out] at hb0 hR0 ht0 hs0 ⊢
 clear hwa
 refine (rsz A m c l wa (i) [40] hm ht0).mono ?_
 rintro x w1 ⟨rfl, rfl⟩
 rw [q1.out]
 go_wp2_with fail
 refine (rsz A m c l wa (i) [110, 111, 116] hm ht0).mono ?_
 rintro x w1 ⟨rfl, rfl⟩
 rw [q2.out]
 go_wp2_with fail
 refine (rcz A m c l wa (i + 1) hm ht0).mono ?_
 rintro x w1 ⟨rfl, rfl⟩
 rw [q3.out]
 go_wp2_with fail
 refine (hcall.out wa hb0.out).mono ?_
 rintro x w1 ⟨hb1, ⟨tk, tp, tf, tx, tn, tA, tc, tL⟩, rfl, hT1, hst⟩
 have hB1 := hdZ (hb0.out.trans (hb1.mono hb0.out.size))
 have hR1 := hdZ (hR0.out.below hb1 hR0.out.lt)
 have ht1 := hdZ (ht0.out.below hb1)
 have hsz : w.heap.size + 1 ≤ w1.heap.size := by have := hb1.size; have := hs0.out; omega
 have ne1 : w1.heap.size ≠ w.heap.size := by omega
 have ne2 : w.heap.size ≠ w1.heap.size := by omega
 have hT1' : Hid (TAz w1 (fun b => w.heap.size + 1 ≤ b) (.mk tk tp tf tx tn tA tc tL)) := hT1.mono fun b _ hb => by have := hs0.out; omega
 have hst' := hdZ hst
 clear hT1 hst
 clear hb1 hcall ht0 hR0
 unfold gotV
 obtain ⟨rc0, rc1, rc2, rc3, rc4, rc5, rc6, rc7, rc8, rf0, rf1, rf2, rf3, rf4, rf5, rf6, rf7, rf8⟩ := cf9 hR1.out
 have rlt := hR1.out.lt
 have hn : ∀ V : World, V.heap.size = w1.heap.size + 1 → Blk (V.alloc (.cells (z1z tk tp tf tx tn tA tL.length tc) 25)) (w1.heap.size + 1) 25 (z1z tk tp tf tx tn tA tL.length tc) := fun V hV => by rw [← hV]; exact Blk.new V 25 _
 go_wp2_with fail
 refine bodyPost_ret (rrz rfl _ _ w.heap.size 65 _ _ rfl (((st9z (hR1.out)).alloc _).alloc _) Tryz.underlying65 rfl (by kernel_rfl)) rfl ?_
 have hh : ∀ b, (w.heap.size + 1 ≤ b) → b ≠ w.heap.size := fun b hb => by omega
 refine ⟨((sc9z (hB1.out)).alloc (by simp; omega) _).alloc (by simp; omega) _, .mk 2 0 [] [] 0 (some ⟨w1.heap.size + 1, 0, none⟩) 1 [.mk tk tp tf tx tn tA tc tL], rfl, ?_, by rw [stz, sSz, sSz, hst'.out]⟩
 refine TAz.mono (ok := fun b => w.heap.size + 1 ≤ b) (fun b _ hk => by omega) ?_
 rw [TAz, RAz, RAz]
 exact ⟨⟨⟨w1.heap.size + 1, 0, rfl, by omega, (hn _ (by simp)).cell 0, (hn _ (by simp)).cell 1, (hn _ (by simp)).cell 2, (hn _ (by simp)).cell 3, (hn _ (by simp)).cell 4, (hn _ (by simp)).cell 5⟩, (((((((((((hT1'.out.far hh _ _).far hh _ _).far hh _ _).far hh _ _).far hh _ _).far hh _ _).far hh _ _).far hh _ _).far hh _ _)).below ((Below.refl _ _).alloc leZ _)).below ((Below.refl _ _).alloc leZ _), trivial⟩, by simp [maxLen]⟩
end Go.Proofs.YtjkmhlfjheiekaaGreatDoor

import Derived.Test.YtjkmhlfjheiekaaGreatDoorP
set_option maxRecDepth 1000000
set_option maxHeartbeats 51200000
namespace Go.Proofs.YtjkmhlfjheiekaaGreatDoor
open Go Go.RowKit Go.BigFrame Go.Maps
theorem below_bytes (w : World) (t : ByteArray) : Bz w (Lib.bytesWorld w 5 t) := by
 unfold Lib.bytesWorld
 exact Lib.below_freeze ((Below.drew (Below.refl _ w)).alloc leZ _) (p := (Az w.heap.size _)) leZ 1
def foldV (a : Nat) (t : Txt) : Nat := t.foldl (fun n c => 10 * n + (c.toNat - 48)) a
theorem foldV_ge : ∀ (t : Txt) (a : Nat), a ≤ foldV a t
 | [], a => Nat.le_refl _
 | c :: r, a => by
  show a ≤ foldV (10 * a + (c.toNat - 48)) r; have := foldV_ge r (10 * a + (c.toNat - 48)); omega
theorem parseM_fold : ∀ (t : Txt) (a : Nat), t.all dgB = true → foldV a t ≤ mostN → Lib.parseUintM (2 ^ 64 - 1) a t = .ok (foldV a t)
 | [], a, _, _ => rfl
 | c :: r, a, hd, hm => by
  rw [List.all_cons, Bool.and_eq_true] at hd; obtain ⟨h1, h2⟩ := digit_range hd.1; have hs : foldV a (c :: r) = foldV (10 * a + (c.toNat - 48)) r := rfl; rw [hs] at hm ⊢; have hge := foldV_ge r (10 * a + (c.toNat - 48)); unfold mostN at hm; rw [Lib.parseUintM, if_pos ⟨h1, h2⟩, if_neg (by omega), if_neg (by omega), show a * 10 + (c.toNat - 48) = 10 * a + (c.toNat - 48) by omega]; exact parseM_fold r _ hd.2 (by unfold mostN; exact hm)
theorem parse_num {t : Txt} (hd : t.all dgB = true) (hne : t ≠ []) (hm : numV t ≤ mostN) : Lib.parseIntB 64 t = .ok (numV t : Int) := by
 cases t with
 | nil => exact absurd rfl hne
 | cons c r =>
  have hp := parseM_fold (c :: r) 0 hd hm; rw [List.all_cons, Bool.and_eq_true] at hd; obtain ⟨h1, h2⟩ := digit_range hd.1; have hv : foldV 0 (c :: r) = numV (c :: r) := rfl; rw [hv] at hp; unfold mostN at hm; unfold Lib.parseIntB; simp only; rw [if_neg (by omega), Lib.parseUintB, if_neg (by simp), hp]; simp only; rw [if_neg (by omega), if_neg (by omega), if_neg (by omega)]
def TokOk (l : List Tok) : Prop := ∀ (i : Nat) (t : Tok), l[i]? = some t → t.text.length ≤ 5000 ∧ (t.kind = 2 → t.text.all dgB = true ∧ t.text ≠ [] ∧ numV t.text ≤ mostN)
def numS (e : Nat) (l : List Tok) (lo hi : Int) (st : St) : Int × St :=
 if (tkz e l (kdB 2) st).2.cd = 0 then (((numV (tkz e l (kdB 2) st).1 : Nat) : Int), if (numV (tkz e l (kdB 2) st).1 : Int) < lo ∨ hi < (numV (tkz e l (kdB 2) st).1 : Int) then failS (tkz e l (kdB 2) st).2 (placeS e l st) 3 else (tkz e l (kdB 2) st).2)
 else (0, (tkz e l (kdB 2) st).2)
theorem fail_cd (st : St) (pl : Nat) : (failS st pl 2).cd ≠ 0 := by
 unfold failS
 by_cases h : st.cd = 0
 ·rw [if_pos h]; show (2 : Int) ≠ 0; decide
 ·rw [if_neg h]; exact h
theorem take_ok {e : Nat} {l : List Tok} {p : Tok → Bool} {st : St} (h : (tkz e l p st).2.cd = 0) : ∃ t, l[st.k]? = some t ∧ p t = true ∧ tkz e l p st = (t.text, st.step) := by
 unfold tkz at h ⊢
 by_cases ha : askS l st 0 p = true
 ·obtain ⟨hcd, t, hlk, hpt, htx⟩ := ask_step ha
  exact ⟨t, hlk, hpt, by rw [if_pos ha, htx]⟩
 ·rw [if_neg ha] at h
  exact absurd h (fail_cd _ _)
section
variable (w : World) (pb : Nat) (A : Option Addr) (c e : Nat) (l : List Tok) (st : St)
theorem number_any (lo hi : Int) (hp : Hid (ParAt w pb A c e l st)) (hok : Hid (TokOk l)) :
  Cz 134 #[.pointer (some (Az pb 0)), Iz lo, Iz hi] w fun x w' => x = .returned (Iz (numS e l lo hi st).1) ∧ But pb w w' ∧ ParAt w' pb A c e l (numS e l lo hi st).2 := by
 have e159 := enters_of Tryz.func159 (by kernel_rfl) rfl
 obtain ⟨⟨tx, s1⟩, hts⟩ := nmZ (tkz e l (kdB 2) st)
 go_enter Tryz.func134, Tryz.ntmps134
 go_wp2_with fail
 refine (place_any w pb A c e l st hp).mono ?_
 rintro x w1 ⟨rfl, hB1⟩
 have hp1 := hdZ (hp.out.below hB1)
 go_wp2_with fail
 refine (kind_any w1 2).mono ?_
 rintro x w2 ⟨rfl, rfl⟩
 have hp2 : Hid (ParAt (w1.alloc (.cells #[Iz 2] 3)) pb A c e l st) := hp1.out.below ((Below.refl _ w1).alloc leZ _)
 go_wp2_with fail
 refine (tnz _ pb A c e l st 159 _ e159 (kdB 2) hp2 (kind_new w1 2)).mono ?_
 rintro x w3 ⟨rfl, hB3, hp3⟩
 have hB : Hid (But pb w w3) := (((But.refl pb w).below hB1).below ((Below.refl _ w1).alloc leZ _)).trans hB3
 rw [hts.out] at hp3
 rw [hts.out]
 have hp3' := hdZ hp3
 have c4 : w3.cell? (Az pb 4) = some (Iz s1.cd) := hp3.row.cell 4
 clear hp3 hB3 hB1 hp1 hp2
 by_cases hz : s1.cd = 0
 ·have b1 : (s1.cd != 0) = false := by simp [hz]
  obtain ⟨t, hlk, hpt, htk⟩ := take_ok (e := e) (l := l) (p := kdB 2) (st := st) (by rw [hts.out]; exact hz); have htx : tx = t.text := by have := hts.out; rw [htk] at this; exact (congrArg Prod.fst this).symm
  obtain ⟨hlen, hnum⟩ := hok.out st.k t hlk; obtain ⟨hd, hne, hm⟩ := hnum (by simpa [kdB] using hpt); rw [← htx] at hd hne hm hlen; have hpi := parse_num hd hne hm; have hnS : Hid (numS e l lo hi st = (((numV tx : Nat) : Int), if (numV tx : Int) < lo ∨ hi < (numV tx : Int) then failS s1 (placeS e l st) 3 else s1)) := by unfold Hid numS; rw [hts.out]; simp only; rw [if_pos hz]
  have hcall := hdZ (Tryz.strconv_ParseInt_10_at64_ok ⟨tx.toArray⟩ (by simp [ByteArray.size]; omega) (numV tx : Int) (by simpa using hpi) w3); obtain ⟨n, hn⟩ := nmZ (numV tx); rw [hn.out] at hcall hnS; clear hz hlk hpt htk htx hd hne hm hlen hpi hnum; go_wp2_with fail; refine hcall.out.mono ?_; rintro x w4 ⟨rfl, hw4⟩
  have hB4 : Hid (Bz w3 w4) := by
   rcases hw4 with rfl | ⟨t, rfl⟩
   ·exact Below.refl _ _
   ·exact below_bytes _ _
  have hp4 := hdZ (hp3'.out.below hB4.out); clear hw4 c4; have hBt := hdZ (hB.out.below hB4.out)
  by_cases h1 : (n : Int) < lo
  ·have b2 : decide ((n : Int) < lo) = true := by simp; omega
   have hfl : Hid (numS e l lo hi st = (((n : Nat) : Int), failS s1 (placeS e l st) 3)) := by unfold Hid; rw [hnS.out, if_pos (.inl h1)]
   go_wp2_with (go_at_call 32; refine (fail_any w4 pb A c e l s1 (placeS e l st) 3 hp4).mono ?_; rintro x w5 ⟨rfl, hB5, hp5⟩)
   go_ret; rw [hfl.out]; exact ⟨rfl, hBt.out.trans hB5, hp5⟩
  ·have b2 : decide ((n : Int) < lo) = false := by simp; omega
   by_cases h2 : hi < (n : Int)
   ·have b3 : decide (hi < (n : Int)) = true := by simp; omega
    have hfl : Hid (numS e l lo hi st = (((n : Nat) : Int), failS s1 (placeS e l st) 3)) := by unfold Hid; rw [hnS.out, if_pos (.inr h2)]
    go_wp2_with (go_at_call 32; refine (fail_any w4 pb A c e l s1 (placeS e l st) 3 hp4).mono ?_; rintro x w5 ⟨rfl, hB5, hp5⟩)
    go_ret; rw [hfl.out]; exact ⟨rfl, hBt.out.trans hB5, hp5⟩
   ·have b3 : decide (hi < (n : Int)) = false := by simp; omega
    have hfl : Hid (numS e l lo hi st = (((n : Nat) : Int), s1)) := by unfold Hid; rw [hnS.out, if_neg (by rintro (h | h) <;> omega)]
    go_wp2_with fail; go_ret; rw [hfl.out]; exact ⟨rfl, hBt.out, hp4.out⟩
 ·have b1 : (s1.cd != 0) = true := by simp [hz]
  have hnS : Hid (numS e l lo hi st = (0, s1)) := by unfold Hid numS; rw [hts.out]; simp only; rw [if_neg hz]
  clear hz; go_wp2_with fail; go_ret; rw [hnS.out]; exact ⟨rfl, hB.out, hp3'.out⟩
end
open Go Go.RowKit Go.BigFrame Go.Maps
inductive Tree where
 | mk (kind paper : Int) (field text : Txt) (num : Int) (A : Option Addr) (c : Nat) (L : List Tree) : Tree
def Tree.sub : Tree → List Tree | .mk _ _ _ _ _ _ _ L => L
def Tree.cells : Tree → Array Value | .mk k p f x n A c L => (z1z k p f x n A L.length c)
mutual
def stz : Tree → Rul
 | .mk k p f x n _ _ L => .mk k p f x n (sSz L)
def sSz : List Tree → List Rul
 | [] => []
 | t :: L => stz t :: sSz L
end
theorem smz : ∀ L : List Tree, sSz L = L.map stz
 | [] => by rw [sSz]; rfl
 | t :: L => by rw [sSz, smz L]; rfl
def CellsAt (w : World) (ok : Nat → Prop) (A : Option Addr) (j : Nat) : Tree → Prop
 | .mk k p f x n A' c L => ∃ b off, A = some (Az b off) ∧ ok b ∧ w.cell? ⟨b, off + j * 6, none⟩ = some (Iz k) ∧ w.cell? ⟨b, off + j * 6 + 1, none⟩ = some (Iz p) ∧ w.cell? ⟨b, off + j * 6 + 2, none⟩ = some (Sz f) ∧
   w.cell? ⟨b, off + j * 6 + 3, none⟩ = some (Sz x) ∧ w.cell? ⟨b, off + j * 6 + 4, none⟩ = some (Iz n) ∧ w.cell? ⟨b, off + j * 6 + 5, none⟩ = some (.slice A' L.length c)
theorem CellsAt.same {w w' : World} {ok : Nat → Prop} {A : Option Addr} {j : Nat} {t : Tree} (h : CellsAt w ok A j t) (hb : ∀ p : Addr, p.block < w.heap.size → ok p.block → w'.cell? p = w.cell? p) : CellsAt w' ok A j t := by
 obtain ⟨k, p, f, x, n, A', c, L⟩ := t
 obtain ⟨b, off, e, hn, h0, h1, h2, h3, h4, h5⟩ := h
 have hlt : b < w.heap.size := World.block_lt_of_cell? w _ h0
 exact ⟨b, off, e, hn, by rw [hb _ hlt hn]; exact h0, by rw [hb _ hlt hn]; exact h1, by rw [hb _ hlt hn]; exact h2, by rw [hb _ hlt hn]; exact h3, by rw [hb _ hlt hn]; exact h4, by rw [hb _ hlt hn]; exact h5⟩
theorem CellsAt.mono {w : World} {ok ok' : Nat → Prop} {A : Option Addr} {j : Nat} {t : Tree} (h : CellsAt w ok A j t) (hl : ∀ b, b < w.heap.size → ok b → ok' b) : CellsAt w ok' A j t := by
 obtain ⟨k, p, f, x, n, A', c, L⟩ := t
 obtain ⟨b, off, e, hn, h0, h⟩ := h
 exact ⟨b, off, e, hl b (World.block_lt_of_cell? w _ h0) hn, h0, h⟩
mutual
def TAz (w : World) (ok : Nat → Prop) : Tree → Prop
 | .mk _ _ _ _ _ A _ L => RAz w ok A 0 L ∧ L.length ≤ maxLen
def RAz (w : World) (ok : Nat → Prop) (A : Option Addr) (j : Nat) : List Tree → Prop
 | [] => True
 | t :: L => CellsAt w ok A j t ∧ TAz w ok t ∧ RAz w ok A (j + 1) L
end
mutual
theorem TAz.same {w w' : World} {ok : Nat → Prop} (hb : ∀ p : Addr, p.block < w.heap.size → ok p.block → w'.cell? p = w.cell? p) : ∀ {t : Tree}, TAz w ok t → TAz w' ok t
 | .mk _ _ _ _ _ A _ L, h => by
  rw [TAz] at h ⊢; exact ⟨RAz.same hb h.1, h.2⟩
theorem RAz.same {w w' : World} {ok : Nat → Prop} (hb : ∀ p : Addr, p.block < w.heap.size → ok p.block → w'.cell? p = w.cell? p) : ∀ {A : Option Addr} {j : Nat} {L : List Tree}, RAz w ok A j L → RAz w' ok A j L
 | _, _, [], _ => by rw [RAz]; trivial
 | _, _, t :: L, h => by
  rw [RAz] at h ⊢; exact ⟨h.1.same hb, TAz.same hb h.2.1, RAz.same hb h.2.2⟩
end
mutual
theorem TAz.mono {w : World} {ok ok' : Nat → Prop} (hl : ∀ b, b < w.heap.size → ok b → ok' b) : ∀ {t : Tree}, TAz w ok t → TAz w ok' t
 | .mk _ _ _ _ _ A _ L, h => by
  rw [TAz] at h ⊢; exact ⟨RAz.mono hl h.1, h.2⟩
theorem RAz.mono {w : World} {ok ok' : Nat → Prop} (hl : ∀ b, b < w.heap.size → ok b → ok' b) : ∀ {A : Option Addr} {j : Nat} {L : List Tree}, RAz w ok A j L → RAz w ok' A j L
 | _, _, [], _ => by rw [RAz]; trivial
 | _, _, t :: L, h => by
  rw [RAz] at h ⊢; exact ⟨h.1.mono hl, TAz.mono hl h.2.1, RAz.mono hl h.2.2⟩
end
theorem TAz.but {w w' : World} {ok : Nat → Prop} {pb : Nat} {t : Tree} (h : TAz w ok t) (hb : But pb w w') (hlt : ∀ b, ok b → b ≠ pb) : TAz w' ok t := h.same fun _ h1 h2 => hb.cell h1 (hlt _ h2)
theorem TAz.far {w : World} {ok : Nat → Prop} {g : Nat} {t : Tree} (h : TAz w ok t) (hlt : ∀ b, ok b → b ≠ g) (o : Nat) (u : Value) : TAz (w.setCell (Az g o) u) ok t := h.but ((But.refl g w).setCell o u) hlt
theorem TAz.below {w w' : World} {ok : Nat → Prop} {t : Tree} (h : TAz w ok t) (hb : Bz w w') : TAz w' ok t := h.same fun _ h1 _ => hb.cell h1
theorem tlz (w : World) (ok : Nat → Prop) (k p : Int) (f x : Txt) (n : Int) (A : Option Addr) (c : Nat) : TAz w ok (.mk k p f x n A c []) := by
 rw [TAz, RAz]; exact ⟨trivial, by simp⟩
theorem slz (k p : Int) (f x : Txt) (n : Int) (A : Option Addr) (c : Nat) : stz (.mk k p f x n A c []) = .mk k p f x n [] := by rw [stz, sSz]
def Ruled (w : World) (pb : Nat) (A : Option Addr) (c e : Nat) (l : List Tok) (r : Rul × St) (x : Ending) (w' : World) : Prop :=
 But pb w w' ∧ ParAt w' pb A c e l r.2 ∧ ∃ t, x = .returned (.agg t.cells) ∧ TAz w' (fun b => w.heap.size ≤ b) t ∧ stz t = r.1
def zeroN : Array Value := #[Iz 0, Iz 0, S0z, S0z, Iz 0, .slice none 0 0]
theorem rrz {P : Program} {fn : Func} {p : Tmp} {ty : TypeId} (h : fn.results = #[.cell p ty]) (tmps : Array Value) (w : World) (g : Nat) (t : TypeId) (cs : Array Value) (d : TypeDesc)
  (hp : tmps.getD p undef = .pointer (some (Az g 0))) (hg : Blk w g t cs)
  (hu : P.underlying ty = some d) (hd : (match d with | .struct _ | .array _ _ => true | _ => false) = true) (hi : (P.info? ty).map (·.size) = some cs.size) :
  (results fn tmps).run P w = .ok (.agg cs) w := by
 have hp' : tmps[p]?.getD undef = .pointer (some (Az g 0)) := by simpa using hp
 simp [results, h, hp', asAddr, run_loadVar_row w g t ty cs (0, 0) d hg hu hd hi]
theorem begin_any (s : ByteArray) (w : World) (hs : s.size ≤ maxLen) (he : Hid (Env w)) :
  Cz 30 #[.string s] w fun x w' => x = .returned (.pointer (some (Az w.heap.size 0))) ∧ Bz w w' ∧
   ((∃ l v, s.size ≤ 4096 ∧ scanT s.data.toList = .ok l ∧ l.length ≤ 4096 ∧ w'.ownsRow (w.heap.size + 1) 89 3 v l.length (tokL l) ∧ Blk w' w.heap.size 60 #[v, Iz 0, Iz s.size, Iz 0, Iz 0]) ∨
    (∃ k cd, (4096 < s.size ∧ k = 0 ∧ cd = 7 ∨ s.size ≤ 4096 ∧ scanT s.data.toList = .error (k, cd)) ∧ cd ≠ 0 ∧ Blk w' w.heap.size 60 (z0z none 0 0 0 s.size (k : Nat) cd))) := by
 have hs' := hdZ hs
 unfold maxLen at hs
 have hb0 : Hid (Blk (w.alloc (.cells (z0z none 0 0 0 s.size 0 0) 60)) w.heap.size 60 (z0z none 0 0 0 s.size 0 0)) := Blk.new w 60 _
 by_cases hbig : 4096 < s.size
 ·have b1 : decide ((4096 : Int) < (s.size : Int)) = true := by simp; omega
  go_enter Tryz.func30, Tryz.ntmps30
  go_wp2_with fail; go_ret; exact ⟨rfl, (Below.refl _ w).alloc leZ _, .inr ⟨0, 7, .inl ⟨hbig, rfl, rfl⟩, by decide, Blk.new w 60 _⟩⟩
 ·have b1 : decide ((4096 : Int) < (s.size : Int)) = false := by simp; omega
  have heA : Hid (Env (w.alloc (.cells (z0z none 0 0 0 s.size 0 0) 60))) := he.out.below ((Below.refl _ w).alloc leZ _)
  go_enter Tryz.func30, Tryz.ntmps30
  go_wp2_with fail; refine (scan_any s (w.alloc (.cells (z0z none 0 0 0 s.size 0 0) 60)) hs'.out heA).mono ?_; rintro x w1 ⟨hB1, hcase⟩; have hb1 := hdZ (hb0.out.below hB1 hb0.out.lt); have hBt : Hid (Bz w w1) := ((Below.refl _ w).alloc leZ _).trans (hB1.mono (by simp)); have hlt := hb1.out.lt; have f0 := hb1.out.frozen 0; have f3 := hb1.out.frozen 3; have f4 := hb1.out.frozen 4; have c0 : w1.cell? (Az w.heap.size 0) = some (.slice none 0 0) := hb1.out.cell 0; have c3 : w1.cell? (Az w.heap.size 3) = some (Iz 0) := hb1.out.cell 3; have c4 : w1.cell? (Az w.heap.size 4) = some (Iz 0) := hb1.out.cell 4
  rcases hcase with ⟨l, v, hsc, rfl, hl, hown⟩ | ⟨k, cd, hsc, hcd, rfl⟩
  ·obtain ⟨p, c, rfl⟩ := osz hown
   have hown' := hdZ hown; clear hown hB1; go_wp2_with fail; go_ret; refine ⟨rfl, hBt.out.setCell leZ _, .inl ⟨l, _, by omega, hsc, hl, ?_, hb1.out.set_ 0 _⟩⟩; have h2 := own_mono_base hown'.out (B' := w.heap.size + 1) (by simp); exact own_but h2 ((But.refl w.heap.size w1).setCell _ _) (by omega)
  ·have b2 : (cd != 0) = true := by simp [hcd]
   go_wp2_with fail; go_ret; exact ⟨rfl, (hBt.out.setCell leZ _).setCell leZ _, .inr ⟨k, cd, .inr ⟨by omega, hsc⟩, hcd, (hb1.out.set_ 3 (Iz k)).set_ 4 (Iz cd)⟩⟩
def atomS (e : Nat) (l : List Tok) (st : St) : Rul × St :=
 if (tkz e l compB (tkz e l nmB st).2).1 = sEq then
  (if askS l (tkz e l compB (tkz e l nmB st).2).2 0 ppB = true then
   (.mk 7 (paperI (tkz e l ppB (tkz e l compB (tkz e l nmB st).2).2).1) (tkz e l nmB st).1 (tkz e l nmB (tkz e l (signB sDot) (tkz e l ppB (tkz e l compB (tkz e l nmB st).2).2).2).2).1 0 [],
    (tkz e l nmB (tkz e l (signB sDot) (tkz e l ppB (tkz e l compB (tkz e l nmB st).2).2).2).2).2)
   else (.mk 3 0 (tkz e l nmB st).1 (tkz e l (kdB 3) (tkz e l compB (tkz e l nmB st).2).2).1 0 [], (tkz e l (kdB 3) (tkz e l compB (tkz e l nmB st).2).2).2))
 else if (tkz e l compB (tkz e l nmB st).2).1 = sTilde then (.mk 4 0 (tkz e l nmB st).1 (tkz e l (kdB 3) (tkz e l compB (tkz e l nmB st).2).2).1 0 [], (tkz e l (kdB 3) (tkz e l compB (tkz e l nmB st).2).2).2)
 else if (tkz e l compB (tkz e l nmB st).2).1 = sLe then (.mk 5 0 (tkz e l nmB st).1 [] (numS e l 0 1099511627776 (tkz e l compB (tkz e l nmB st).2).2).1 [], (numS e l 0 1099511627776 (tkz e l compB (tkz e l nmB st).2).2).2)
 else if (tkz e l compB (tkz e l nmB st).2).1 = sGe then (.mk 6 0 (tkz e l nmB st).1 [] (numS e l 0 1099511627776 (tkz e l compB (tkz e l nmB st).2).2).1 [], (numS e l 0 1099511627776 (tkz e l compB (tkz e l nmB st).2).2).2)
 else (.mk 0 0 (tkz e l nmB st).1 [] 0 [], (tkz e l compB (tkz e l nmB st).2).2)
theorem atom_any (w : World) (pb : Nat) (A : Option Addr) (c e : Nat) (l : List Tok) (st : St) (hp : Hid (ParAt w pb A c e l st)) (hok : Hid (TokOk l)) (he : Hid (Env w)) (h8 : Hid (8 ≤ pb)) :
  Cz 165 #[.pointer (some (Az pb 0))] w (Ruled w pb A c e l (atomS e l st)) := by
 have e125 := enters_of Tryz.func125 (by kernel_rfl) rfl
 have e164 := enters_of Tryz.func164 (by kernel_rfl) rfl
 have e137 := enters_of Tryz.func137 (by kernel_rfl) rfl
 have e159 := enters_of Tryz.func159 (by kernel_rfl) rfl
 have e161 := enters_of Tryz.func161 (by kernel_rfl) rfl
 have hlt0 := hp.out.row.lt
 have hR0 : Hid (Blk (w.alloc (.cells zeroN 25)) w.heap.size 25 zeroN) := Blk.new w 25 zeroN
 have hB0 : Hid (But pb w (w.alloc (.cells zeroN 25))) := (But.refl pb w).below ((Below.refl _ w).alloc leZ _)
 have hp0 : Hid (ParAt (w.alloc (.cells zeroN 25)) pb A c e l st) := hp.out.below ((Below.refl _ w).alloc leZ _)
 have hneR : Hid (w.heap.size ≠ pb) := by unfold Hid; omega
 obtain ⟨⟨ft, s1⟩, hft⟩ := nmZ (tkz e l nmB st)
 obtain ⟨⟨ot, s2⟩, hot⟩ := nmZ (tkz e l compB s1)
 go_enter Tryz.func165, Tryz.ntmps165
 go_wp2_with fail
 refine (tnz (w.alloc (.cells zeroN 25)) pb A c e l st 125 #[] e125 nmB hp0 (named_fits _)).mono ?_
 rintro x w1 ⟨rfl, hu1, hp1⟩
 rw [hft.out] at hp1
 rw [hft.out]
 have hneN : Hid (w1.heap.size ≠ pb) := by have := hp1.row.lt; unfold Hid; omega
 have hsz1 : Hid (w.heap.size + 1 ≤ w1.heap.size) := by have := hu1.size; unfold Hid; simpa using this
 have hle1 : Hid (w.heap.size ≤ w1.heap.size) := by have := hsz1.out; unfold Hid; omega
 have hneNR : Hid (w1.heap.size ≠ w.heap.size) := by have := hsz1.out; unfold Hid; omega
 have hNa : Hid (Blk (w1.alloc (.cells #[Iz 0, Iz 0, Sz ft, S0z, Iz 0, .slice none 0 0] 25)) w1.heap.size 25 #[Iz 0, Iz 0, Sz ft, S0z, Iz 0, .slice none 0 0]) := Blk.new w1 25 _
 have hRa : Hid (Blk (w1.alloc (.cells #[Iz 0, Iz 0, Sz ft, S0z, Iz 0, .slice none 0 0] 25)) w.heap.size 25 zeroN) := (hu1.blk hR0.out hneR.out).alloc _
 have hpa : Hid (ParAt (w1.alloc (.cells #[Iz 0, Iz 0, Sz ft, S0z, Iz 0, .slice none 0 0] 25)) pb A c e l s1) := hp1.below ((Below.refl _ w1).alloc leZ _)
 have hBa : Hid (But pb w (w1.alloc (.cells #[Iz 0, Iz 0, Sz ft, S0z, Iz 0, .slice none 0 0] 25))) := (hB0.out.trans hu1).below ((Below.refl _ w1).alloc leZ _)
 go_wp2_with fail
 obtain ⟨wa, hwa⟩ := nmZ (w1.alloc (.cells #[Iz 0, Iz 0, Sz ft, S0z, Iz 0, .slice none 0 0] 25))
 rw [hwa.out] at hNa hRa hpa hBa ⊢
 clear hwa hp1 hu1 hp0 hB0 hR0
 have hN := hNa
 have hR := hRa
 have hB := hBa
 clear hNa hRa hBa
 refine (tnz wa pb A c e l s1 164 #[] e164 compB hpa (comp_fits _)).mono ?_
 rintro x w2 ⟨rfl, hu, hq⟩
 rw [hot.out] at hq
 rw [hot.out]
 have hB := hdZ (hB.out.trans hu)
 have hN := hdZ (hu.blk hN.out hneN.out)
 have hR := hdZ (hu.blk hR.out hneR.out)
 have hp2 := hdZ hq
 clear hu hq
 have hlt2 := hp2.out.row.lt
 have he2 := hdZ (he.out.but hB.out h8.out)
 have hA : Hid (atomS e l st = (if ot = sEq then (if askS l s2 0 ppB = true then (.mk 7 (paperI (tkz e l ppB s2).1) ft (tkz e l nmB (tkz e l (signB sDot) (tkz e l ppB s2).2).2).1 0 [], (tkz e l nmB (tkz e l (signB sDot) (tkz e l ppB s2).2).2).2) else (.mk 3 0 ft (tkz e l (kdB 3) s2).1 0 [], (tkz e l (kdB 3) s2).2)) else if ot = sTilde then (.mk 4 0 ft (tkz e l (kdB 3) s2).1 0 [], (tkz e l (kdB 3) s2).2) else if ot = sLe then (.mk 5 0 ft [] (numS e l 0 1099511627776 s2).1 [], (numS e l 0 1099511627776 s2).2) else if ot = sGe then (.mk 6 0 ft [] (numS e l 0 1099511627776 s2).1 [], (numS e l 0 1099511627776 s2).2) else (.mk 0 0 ft [] 0 [], s2))) := by unfold Hid atomS; rw [hft.out]; simp only; rw [hot.out]
 by_cases h1 : ot = sEq
 ·have q1 : (ot == [61]) = true := by rw [h1]; rfl
  rw [if_pos h1] at hA; clear h1; go_wp2_with fail; refine (sees_any w2 pb A c e l s2 137 #[] e137 ppB hp2 (paper_fits he2)).mono ?_; rintro x w3 ⟨rfl, hb3⟩; have hN := hdZ (hN.out.below hb3 hN.out.lt); have hR := hdZ (hR.out.below hb3 hR.out.lt); have hB := hdZ (hB.out.below hb3); have hp3 := hdZ (hp2.out.below hb3); clear hb3; obtain ⟨pv, hpv⟩ := nmZ (askS l s2 0 ppB); rw [hpv.out] at hA ⊢
  cases pv with
  | true =>
   rw [if_pos rfl] at hA; obtain ⟨nc0, nc1, nc2, nc3, nc4, nc5, nf0, nf1, nf2, nf3, nf4, nf5⟩ := cf6 hN.out; have nlt := hN.out.lt; go_wp2_with fail; clear nc0 nf0 nc1 nf1 nc2 nf2 nc3 nf3 nc4 nf4 nc5 nf5 nlt; have hN : Hid (Blk (w3.setCell (Az w1.heap.size 0) (Iz 7)) w1.heap.size 25 #[Iz 7, Iz 0, Sz ft, S0z, Iz 0, .slice none 0 0]) := hN.out.set_ 0 (Iz 7); have hR : Hid (Blk (w3.setCell (Az w1.heap.size 0) (Iz 7)) w.heap.size 25 zeroN) := hR.out.far (p := (Az w1.heap.size 0)) hneNR.out.symm _; have hB : Hid (But pb w (w3.setCell (Az w1.heap.size 0) (Iz 7))) := hB.out.far hle1.out _ _; have hp4 : Hid (ParAt (w3.setCell (Az w1.heap.size 0) (Iz 7)) pb A c e l _) := ⟨hp3.out.row.far (p := (Az w1.heap.size 0)) hneN.out.symm _, hp.out.tok.but hB.out, hp3.out.len, hp3.out.pos⟩; obtain ⟨w4, hw⟩ := nmZ ((w3.setCell (Az w1.heap.size 0) (Iz 7))); rw [hw.out] at hN hR hB hp4 ⊢; clear hw; obtain ⟨⟨xt, s3⟩, hx⟩ := nmZ (tkz e l ppB s2); have he4 := hdZ (he.out.but hB.out h8.out); refine (tnz w4 pb A c e l s2 137 #[] e137 ppB hp4 (paper_fits he4)).mono ?_; rintro x w5 ⟨rfl, hu, hq⟩; rw [hx.out] at hq; rw [hx.out]; have hB := hdZ (hB.out.trans hu); have hN := hdZ (hu.blk hN.out hneN.out); have hR := hdZ (hu.blk hR.out hneR.out); have hp5 := hdZ hq; clear hu hq; have he5 := hdZ (he.out.but hB.out h8.out); have hpo := hdZ (paperOf_any ⟨xt.toArray⟩ w5 he5); rw [show (⟨xt.toArray⟩ : ByteArray).data.toList = xt by simp] at hpo; obtain ⟨pi, hpi⟩ := nmZ (paperI xt); rw [hx.out] at hA; try simp only at hA
   rw [hpi.out] at hA hpo; go_wp2_with fail; refine hpo.out.mono ?_; rintro x w6 ⟨rfl, rfl⟩; obtain ⟨nc0, nc1, nc2, nc3, nc4, nc5, nf0, nf1, nf2, nf3, nf4, nf5⟩ := cf6 hN.out; have nlt := hN.out.lt; go_wp2_with fail; clear nc0 nf0 nc1 nf1 nc2 nf2 nc3 nf3 nc4 nf4 nc5 nf5 nlt; have hN : Hid (Blk (w5.setCell (Az w1.heap.size 1) (Iz pi)) w1.heap.size 25 #[Iz 7, Iz pi, Sz ft, S0z, Iz 0, .slice none 0 0]) := hN.out.set_ 1 (Iz pi); have hR : Hid (Blk (w5.setCell (Az w1.heap.size 1) (Iz pi)) w.heap.size 25 zeroN) := hR.out.far (p := (Az w1.heap.size 1)) hneNR.out.symm _; have hB : Hid (But pb w (w5.setCell (Az w1.heap.size 1) (Iz pi))) := hB.out.far hle1.out _ _; have hp6 : Hid (ParAt (w5.setCell (Az w1.heap.size 1) (Iz pi)) pb A c e l _) := ⟨hp5.out.row.far (p := (Az w1.heap.size 1)) hneN.out.symm _, hp.out.tok.but hB.out, hp5.out.len, hp5.out.pos⟩; obtain ⟨w6, hw⟩ := nmZ ((w5.setCell (Az w1.heap.size 1) (Iz pi))); have hsw : Hid (w5.heap.size = w6.heap.size) := by unfold Hid; rw [← hw.out]; simp
   rw [hw.out] at hN hR hB hp6 ⊢; clear hw; rw [hsw.out]; refine (sgn_any _ _ _ _).mono ?_; rintro x w7 ⟨rfl, rfl⟩; change _; have hN : Hid (Blk (wOne w6 sDot) _ 25 _) := hN.out.below (by first | exact (Below.refl _ w6).alloc leZ _ | exact bwz _ _) hN.out.lt; have hR : Hid (Blk (wOne w6 sDot) _ 25 _) := hR.out.below (by first | exact (Below.refl _ w6).alloc leZ _ | exact bwz _ _) hR.out.lt; have hB : Hid (But pb w (wOne w6 sDot)) := hB.out.below (by first | exact (Below.refl _ w6).alloc leZ _ | exact bwz _ _); have hp7 : Hid (ParAt (wOne w6 sDot) pb A c e l _) := hp6.out.below (by first | exact (Below.refl _ w6).alloc leZ _ | exact bwz _ _); obtain ⟨⟨dt, s4⟩, hd⟩ := nmZ (tkz e l (signB sDot) s3); rw [hd.out] at hA; go_wp2_with fail; refine (tnz (wOne w6 sDot) pb A c e l s3 161 _ e161 (signB sDot) hp7 (sign_new w6 sDot)).mono ?_; rintro x w8 ⟨rfl, hu, hq⟩; rw [hd.out] at hq; rw [hd.out]; have hB := hdZ (hB.out.trans hu); have hN := hdZ (hu.blk hN.out hneN.out); have hR := hdZ (hu.blk hR.out hneR.out); have hp8 := hdZ hq; clear hu hq; obtain ⟨⟨yt, s5⟩, hy⟩ := nmZ (tkz e l nmB s4); try simp only at hA
   rw [hy.out] at hA; go_wp2_with fail; refine (tnz w8 pb A c e l s4 125 #[] e125 nmB hp8 (named_fits _)).mono ?_; rintro x w9 ⟨rfl, hu, hq⟩; rw [hy.out] at hq; rw [hy.out]; have hB := hdZ (hB.out.trans hu); have hN := hdZ (hu.blk hN.out hneN.out); have hR := hdZ (hu.blk hR.out hneR.out); have hp9 := hdZ hq; clear hu hq; obtain ⟨nc0, nc1, nc2, nc3, nc4, nc5, nf0, nf1, nf2, nf3, nf4, nf5⟩ := cf6 hN.out; have nlt := hN.out.lt; obtain ⟨rc0, rc1, rc2, rc3, rc4, rc5, rf0, rf1, rf2, rf3, rf4, rf5⟩ := cf6 hR.out; have rlt := hR.out.lt; have ne1 : w1.heap.size ≠ w.heap.size := hneNR.out; have ne2 : w.heap.size ≠ w1.heap.size := fun h => hneNR.out h.symm
   go_wp2_with fail; refine bodyPost_ret (rrz rfl _ _ w.heap.size 25 _ _ rfl (((((((hR.out.far (p := (Az w1.heap.size 3)) hneNR.out.symm _).set_ 0 _).set_ 1 _).set_ 2 _).set_ 3 _).set_ 4 _).set_ 5 _) Tryz.underlying25 rfl (by kernel_rfl)) rfl ?_; unfold Ruled; rw [hA.out]; refine ⟨(((((((hB.out.far hle1.out _ _).far leZ _ _).far leZ _ _).far leZ _ _).far leZ _ _).far leZ _ _).far leZ _ _), ⟨(((((((hp9.out.row.far (p := (Az w1.heap.size 3)) hneN.out.symm _).far (p := (Az w.heap.size 0)) hneR.out.symm _).far (p := (Az w.heap.size 1)) hneR.out.symm _).far (p := (Az w.heap.size 2)) hneR.out.symm _).far (p := (Az w.heap.size 3)) hneR.out.symm _).far (p := (Az w.heap.size 4)) hneR.out.symm _).far (p := (Az w.heap.size 5)) hneR.out.symm _), hp.out.tok.but (((((((hB.out.far hle1.out _ _).far leZ _ _).far leZ _ _).far leZ _ _).far leZ _ _).far leZ _ _).far leZ _ _), hp9.out.len, hp9.out.pos⟩, .mk 7 pi ft yt 0 none 0 [], rfl, tlz _ _ _ _ _ _ _ _ _, slz _ _ _ _ _ _ _⟩
  | false =>
   rw [if_neg (by simp)] at hA; obtain ⟨nc0, nc1, nc2, nc3, nc4, nc5, nf0, nf1, nf2, nf3, nf4, nf5⟩ := cf6 hN.out; have nlt := hN.out.lt; go_wp2_with fail; clear nc0 nf0 nc1 nf1 nc2 nf2 nc3 nf3 nc4 nf4 nc5 nf5 nlt; have hN : Hid (Blk (w3.setCell (Az w1.heap.size 0) (Iz 3)) w1.heap.size 25 #[Iz 3, Iz 0, Sz ft, S0z, Iz 0, .slice none 0 0]) := hN.out.set_ 0 (Iz 3); have hR : Hid (Blk (w3.setCell (Az w1.heap.size 0) (Iz 3)) w.heap.size 25 zeroN) := hR.out.far (p := (Az w1.heap.size 0)) hneNR.out.symm _; have hB : Hid (But pb w (w3.setCell (Az w1.heap.size 0) (Iz 3))) := hB.out.far hle1.out _ _; have hp4 : Hid (ParAt (w3.setCell (Az w1.heap.size 0) (Iz 3)) pb A c e l _) := ⟨hp3.out.row.far (p := (Az w1.heap.size 0)) hneN.out.symm _, hp.out.tok.but hB.out, hp3.out.len, hp3.out.pos⟩; obtain ⟨w4, hw⟩ := nmZ ((w3.setCell (Az w1.heap.size 0) (Iz 3))); rw [hw.out] at hN hR hB hp4 ⊢; clear hw; refine (kind_any w4 3).mono ?_; rintro x w5 ⟨rfl, rfl⟩; have hN : Hid (Blk (w4.alloc (.cells #[Iz 3] 3)) _ 25 _) := hN.out.below (by first | exact (Below.refl _ w4).alloc leZ _ | exact bwz _ _) hN.out.lt; have hR : Hid (Blk (w4.alloc (.cells #[Iz 3] 3)) _ 25 _) := hR.out.below (by first | exact (Below.refl _ w4).alloc leZ _ | exact bwz _ _) hR.out.lt; have hB : Hid (But pb w (w4.alloc (.cells #[Iz 3] 3))) := hB.out.below (by first | exact (Below.refl _ w4).alloc leZ _ | exact bwz _ _); have hp5 : Hid (ParAt (w4.alloc (.cells #[Iz 3] 3)) pb A c e l _) := hp4.out.below (by first | exact (Below.refl _ w4).alloc leZ _ | exact bwz _ _); go_wp2_with fail; obtain ⟨⟨xt, s3⟩, hx⟩ := nmZ (tkz e l (kdB 3) s2); rw [hx.out] at hA; refine (tnz (w4.alloc (.cells #[Iz 3] 3)) pb A c e l s2 159 _ e159 (kdB 3) hp5 (kind_new w4 3)).mono ?_; rintro x w6 ⟨rfl, hu, hq⟩; rw [hx.out] at hq; rw [hx.out]; have hB := hdZ (hB.out.trans hu); have hN := hdZ (hu.blk hN.out hneN.out); have hR := hdZ (hu.blk hR.out hneR.out); have hp6 := hdZ hq; clear hu hq; obtain ⟨nc0, nc1, nc2, nc3, nc4, nc5, nf0, nf1, nf2, nf3, nf4, nf5⟩ := cf6 hN.out; have nlt := hN.out.lt; obtain ⟨rc0, rc1, rc2, rc3, rc4, rc5, rf0, rf1, rf2, rf3, rf4, rf5⟩ := cf6 hR.out; have rlt := hR.out.lt; have ne1 : w1.heap.size ≠ w.heap.size := hneNR.out; have ne2 : w.heap.size ≠ w1.heap.size := fun h => hneNR.out h.symm
   go_wp2_with fail; refine bodyPost_ret (rrz rfl _ _ w.heap.size 25 _ _ rfl (((((((hR.out.far (p := (Az w1.heap.size 3)) hneNR.out.symm _).set_ 0 _).set_ 1 _).set_ 2 _).set_ 3 _).set_ 4 _).set_ 5 _) Tryz.underlying25 rfl (by kernel_rfl)) rfl ?_; unfold Ruled; rw [hA.out]; refine ⟨(((((((hB.out.far hle1.out _ _).far leZ _ _).far leZ _ _).far leZ _ _).far leZ _ _).far leZ _ _).far leZ _ _), ⟨(((((((hp6.out.row.far (p := (Az w1.heap.size 3)) hneN.out.symm _).far (p := (Az w.heap.size 0)) hneR.out.symm _).far (p := (Az w.heap.size 1)) hneR.out.symm _).far (p := (Az w.heap.size 2)) hneR.out.symm _).far (p := (Az w.heap.size 3)) hneR.out.symm _).far (p := (Az w.heap.size 4)) hneR.out.symm _).far (p := (Az w.heap.size 5)) hneR.out.symm _), hp.out.tok.but (((((((hB.out.far hle1.out _ _).far leZ _ _).far leZ _ _).far leZ _ _).far leZ _ _).far leZ _ _).far leZ _ _), hp6.out.len, hp6.out.pos⟩, .mk 3 0 ft xt 0 none 0 [], rfl, tlz _ _ _ _ _ _ _ _ _, slz _ _ _ _ _ _ _⟩
 ·have q1 : (ot == [61]) = false := by simp only [beq_eq_false_iff_ne, ne_eq]; exact h1
  rw [if_neg h1] at hA; clear h1
  by_cases h1 : ot = sTilde
  ·have q2 : (ot == [126]) = true := by rw [h1]; rfl
   rw [if_pos h1] at hA; clear h1; obtain ⟨nc0, nc1, nc2, nc3, nc4, nc5, nf0, nf1, nf2, nf3, nf4, nf5⟩ := cf6 hN.out; have nlt := hN.out.lt; go_wp2_with fail; clear nc0 nf0 nc1 nf1 nc2 nf2 nc3 nf3 nc4 nf4 nc5 nf5 nlt; have hN : Hid (Blk (w2.setCell (Az w1.heap.size 0) (Iz 4)) w1.heap.size 25 #[Iz 4, Iz 0, Sz ft, S0z, Iz 0, .slice none 0 0]) := hN.out.set_ 0 (Iz 4); have hR : Hid (Blk (w2.setCell (Az w1.heap.size 0) (Iz 4)) w.heap.size 25 zeroN) := hR.out.far (p := (Az w1.heap.size 0)) hneNR.out.symm _; have hB : Hid (But pb w (w2.setCell (Az w1.heap.size 0) (Iz 4))) := hB.out.far hle1.out _ _; have hp4 : Hid (ParAt (w2.setCell (Az w1.heap.size 0) (Iz 4)) pb A c e l _) := ⟨hp2.out.row.far (p := (Az w1.heap.size 0)) hneN.out.symm _, hp.out.tok.but hB.out, hp2.out.len, hp2.out.pos⟩; obtain ⟨w4, hw⟩ := nmZ ((w2.setCell (Az w1.heap.size 0) (Iz 4))); rw [hw.out] at hN hR hB hp4 ⊢; clear hw; refine (kind_any w4 3).mono ?_; rintro x w5 ⟨rfl, rfl⟩; have hN : Hid (Blk (w4.alloc (.cells #[Iz 3] 3)) _ 25 _) := hN.out.below (by first | exact (Below.refl _ w4).alloc leZ _ | exact bwz _ _) hN.out.lt; have hR : Hid (Blk (w4.alloc (.cells #[Iz 3] 3)) _ 25 _) := hR.out.below (by first | exact (Below.refl _ w4).alloc leZ _ | exact bwz _ _) hR.out.lt; have hB : Hid (But pb w (w4.alloc (.cells #[Iz 3] 3))) := hB.out.below (by first | exact (Below.refl _ w4).alloc leZ _ | exact bwz _ _); have hp5 : Hid (ParAt (w4.alloc (.cells #[Iz 3] 3)) pb A c e l _) := hp4.out.below (by first | exact (Below.refl _ w4).alloc leZ _ | exact bwz _ _); go_wp2_with fail; obtain ⟨⟨xt, s3⟩, hx⟩ := nmZ (tkz e l (kdB 3) s2); rw [hx.out] at hA; refine (tnz (w4.alloc (.cells #[Iz 3] 3)) pb A c e l s2 159 _ e159 (kdB 3) hp5 (kind_new w4 3)).mono ?_; rintro x w6 ⟨rfl, hu, hq⟩; rw [hx.out] at hq; rw [hx.out]; have hB := hdZ (hB.out.trans hu); have hN := hdZ (hu.blk hN.out hneN.out); have hR := hdZ (hu.blk hR.out hneR.out); have hp6 := hdZ hq; clear hu hq; obtain ⟨nc0, nc1, nc2, nc3, nc4, nc5, nf0, nf1, nf2, nf3, nf4, nf5⟩ := cf6 hN.out; have nlt := hN.out.lt; obtain ⟨rc0, rc1, rc2, rc3, rc4, rc5, rf0, rf1, rf2, rf3, rf4, rf5⟩ := cf6 hR.out; have rlt := hR.out.lt; have ne1 : w1.heap.size ≠ w.heap.size := hneNR.out; have ne2 : w.heap.size ≠ w1.heap.size := fun h => hneNR.out h.symm
   go_wp2_with fail; refine bodyPost_ret (rrz rfl _ _ w.heap.size 25 _ _ rfl (((((((hR.out.far (p := (Az w1.heap.size 3)) hneNR.out.symm _).set_ 0 _).set_ 1 _).set_ 2 _).set_ 3 _).set_ 4 _).set_ 5 _) Tryz.underlying25 rfl (by kernel_rfl)) rfl ?_; unfold Ruled; rw [hA.out]; refine ⟨(((((((hB.out.far hle1.out _ _).far leZ _ _).far leZ _ _).far leZ _ _).far leZ _ _).far leZ _ _).far leZ _ _), ⟨(((((((hp6.out.row.far (p := (Az w1.heap.size 3)) hneN.out.symm _).far (p := (Az w.heap.size 0)) hneR.out.symm _).far (p := (Az w.heap.size 1)) hneR.out.symm _).far (p := (Az w.heap.size 2)) hneR.out.symm _).far (p := (Az w.heap.size 3)) hneR.out.symm _).far (p := (Az w.heap.size 4)) hneR.out.symm _).far (p := (Az w.heap.size 5)) hneR.out.symm _), hp.out.tok.but (((((((hB.out.far hle1.out _ _).far leZ _ _).far leZ _ _).far leZ _ _).far leZ _ _).far leZ _ _).far leZ _ _), hp6.out.len, hp6.out.pos⟩, .mk 4 0 ft xt 0 none 0 [], rfl, tlz _ _ _ _ _ _ _ _ _, slz _ _ _ _ _ _ _⟩
  ·have q2 : (ot == [126]) = false := by simp only [beq_eq_false_iff_ne, ne_eq]; exact h1
   rw [if_neg h1] at hA; clear h1
   by_cases h1 : ot = sLe
   ·have q3 : (ot == [60, 61]) = true := by rw [h1]; rfl
    rw [if_pos h1] at hA; clear h1; obtain ⟨nc0, nc1, nc2, nc3, nc4, nc5, nf0, nf1, nf2, nf3, nf4, nf5⟩ := cf6 hN.out; have nlt := hN.out.lt; go_wp2_with fail; clear nc0 nf0 nc1 nf1 nc2 nf2 nc3 nf3 nc4 nf4 nc5 nf5 nlt; have hN : Hid (Blk (w2.setCell (Az w1.heap.size 0) (Iz 5)) w1.heap.size 25 #[Iz 5, Iz 0, Sz ft, S0z, Iz 0, .slice none 0 0]) := hN.out.set_ 0 (Iz 5); have hR : Hid (Blk (w2.setCell (Az w1.heap.size 0) (Iz 5)) w.heap.size 25 zeroN) := hR.out.far (p := (Az w1.heap.size 0)) hneNR.out.symm _; have hB : Hid (But pb w (w2.setCell (Az w1.heap.size 0) (Iz 5))) := hB.out.far hle1.out _ _; have hp4 : Hid (ParAt (w2.setCell (Az w1.heap.size 0) (Iz 5)) pb A c e l _) := ⟨hp2.out.row.far (p := (Az w1.heap.size 0)) hneN.out.symm _, hp.out.tok.but hB.out, hp2.out.len, hp2.out.pos⟩; obtain ⟨w4, hw⟩ := nmZ ((w2.setCell (Az w1.heap.size 0) (Iz 5))); rw [hw.out] at hN hR hB hp4 ⊢; clear hw; obtain ⟨⟨nn, s3⟩, hx⟩ := nmZ (numS e l 0 1099511627776 s2); rw [hx.out] at hA; refine (number_any w4 pb A c e l s2 0 1099511627776 hp4 hok).mono ?_; rintro x w6 ⟨rfl, hu, hq⟩; rw [hx.out] at hq; rw [hx.out]; have hB := hdZ (hB.out.trans hu); have hN := hdZ (hu.blk hN.out hneN.out); have hR := hdZ (hu.blk hR.out hneR.out); have hp6 := hdZ hq; clear hu hq; obtain ⟨nc0, nc1, nc2, nc3, nc4, nc5, nf0, nf1, nf2, nf3, nf4, nf5⟩ := cf6 hN.out; have nlt := hN.out.lt; obtain ⟨rc0, rc1, rc2, rc3, rc4, rc5, rf0, rf1, rf2, rf3, rf4, rf5⟩ := cf6 hR.out; have rlt := hR.out.lt; have ne1 : w1.heap.size ≠ w.heap.size := hneNR.out; have ne2 : w.heap.size ≠ w1.heap.size := fun h => hneNR.out h.symm
    go_wp2_with fail; refine bodyPost_ret (rrz rfl _ _ w.heap.size 25 _ _ rfl (((((((hR.out.far (p := (Az w1.heap.size 4)) hneNR.out.symm _).set_ 0 _).set_ 1 _).set_ 2 _).set_ 3 _).set_ 4 _).set_ 5 _) Tryz.underlying25 rfl (by kernel_rfl)) rfl ?_; unfold Ruled; rw [hA.out]; refine ⟨(((((((hB.out.far hle1.out _ _).far leZ _ _).far leZ _ _).far leZ _ _).far leZ _ _).far leZ _ _).far leZ _ _), ⟨(((((((hp6.out.row.far (p := (Az w1.heap.size 4)) hneN.out.symm _).far (p := (Az w.heap.size 0)) hneR.out.symm _).far (p := (Az w.heap.size 1)) hneR.out.symm _).far (p := (Az w.heap.size 2)) hneR.out.symm _).far (p := (Az w.heap.size 3)) hneR.out.symm _).far (p := (Az w.heap.size 4)) hneR.out.symm _).far (p := (Az w.heap.size 5)) hneR.out.symm _), hp.out.tok.but (((((((hB.out.far hle1.out _ _).far leZ _ _).far leZ _ _).far leZ _ _).far leZ _ _).far leZ _ _).far leZ _ _), hp6.out.len, hp6.out.pos⟩, .mk 5 0 ft [] nn none 0 [], rfl, tlz _ _ _ _ _ _ _ _ _, slz _ _ _ _ _ _ _⟩
   ·have q3 : (ot == [60, 61]) = false := by simp only [beq_eq_false_iff_ne, ne_eq]; exact h1
    rw [if_neg h1] at hA; clear h1
    by_cases h1 : ot = sGe
    ·have q4 : (ot == [62, 61]) = true := by rw [h1]; rfl
     rw [if_pos h1] at hA; clear h1; obtain ⟨nc0, nc1, nc2, nc3, nc4, nc5, nf0, nf1, nf2, nf3, nf4, nf5⟩ := cf6 hN.out; have nlt := hN.out.lt; go_wp2_with fail; clear nc0 nf0 nc1 nf1 nc2 nf2 nc3 nf3 nc4 nf4 nc5 nf5 nlt; have hN : Hid (Blk (w2.setCell (Az w1.heap.size 0) (Iz 6)) w1.heap.size 25 #[Iz 6, Iz 0, Sz ft, S0z, Iz 0, .slice none 0 0]) := hN.out.set_ 0 (Iz 6); have hR : Hid (Blk (w2.setCell (Az w1.heap.size 0) (Iz 6)) w.heap.size 25 zeroN) := hR.out.far (p := (Az w1.heap.size 0)) hneNR.out.symm _; have hB : Hid (But pb w (w2.setCell (Az w1.heap.size 0) (Iz 6))) := hB.out.far hle1.out _ _; have hp4 : Hid (ParAt (w2.setCell (Az w1.heap.size 0) (Iz 6)) pb A c e l _) := ⟨hp2.out.row.far (p := (Az w1.heap.size 0)) hneN.out.symm _, hp.out.tok.but hB.out, hp2.out.len, hp2.out.pos⟩; obtain ⟨w4, hw⟩ := nmZ ((w2.setCell (Az w1.heap.size 0) (Iz 6))); rw [hw.out] at hN hR hB hp4 ⊢; clear hw; obtain ⟨⟨nn, s3⟩, hx⟩ := nmZ (numS e l 0 1099511627776 s2); rw [hx.out] at hA; refine (number_any w4 pb A c e l s2 0 1099511627776 hp4 hok).mono ?_; rintro x w6 ⟨rfl, hu, hq⟩; rw [hx.out] at hq; rw [hx.out]; have hB := hdZ (hB.out.trans hu); have hN := hdZ (hu.blk hN.out hneN.out); have hR := hdZ (hu.blk hR.out hneR.out); have hp6 := hdZ hq; clear hu hq; obtain ⟨nc0, nc1, nc2, nc3, nc4, nc5, nf0, nf1, nf2, nf3, nf4, nf5⟩ := cf6 hN.out; have nlt := hN.out.lt; obtain ⟨rc0, rc1, rc2, rc3, rc4, rc5, rf0, rf1, rf2, rf3, rf4, rf5⟩ := cf6 hR.out; have rlt := hR.out.lt; have ne1 : w1.heap.size ≠ w.heap.size := hneNR.out; have ne2 : w.heap.size ≠ w1.heap.size := fun h => hneNR.out h.symm
     go_wp2_with fail; refine bodyPost_ret (rrz rfl _ _ w.heap.size 25 _ _ rfl (((((((hR.out.far (p := (Az w1.heap.size 4)) hneNR.out.symm _).set_ 0 _).set_ 1 _).set_ 2 _).set_ 3 _).set_ 4 _).set_ 5 _) Tryz.underlying25 rfl (by kernel_rfl)) rfl ?_; unfold Ruled; rw [hA.out]; refine ⟨(((((((hB.out.far hle1.out _ _).far leZ _ _).far leZ _ _).far leZ _ _).far leZ _ _).far leZ _ _).far leZ _ _), ⟨(((((((hp6.out.row.far (p := (Az w1.heap.size 4)) hneN.out.symm _).far (p := (Az w.heap.size 0)) hneR.out.symm _).far (p := (Az w.heap.size 1)) hneR.out.symm _).far (p := (Az w.heap.size 2)) hneR.out.symm _).far (p := (Az w.heap.size 3)) hneR.out.symm _).far (p := (Az w.heap.size 4)) hneR.out.symm _).far (p := (Az w.heap.size 5)) hneR.out.symm _), hp.out.tok.but (((((((hB.out.far hle1.out _ _).far leZ _ _).far leZ _ _).far leZ _ _).far leZ _ _).far leZ _ _).far leZ _ _), hp6.out.len, hp6.out.pos⟩, .mk 6 0 ft [] nn none 0 [], rfl, tlz _ _ _ _ _ _ _ _ _, slz _ _ _ _ _ _ _⟩
    ·have q4 : (ot == [62, 61]) = false := by simp only [beq_eq_false_iff_ne, ne_eq]; exact h1
     rw [if_neg h1] at hA; clear h1; obtain ⟨nc0, nc1, nc2, nc3, nc4, nc5, nf0, nf1, nf2, nf3, nf4, nf5⟩ := cf6 hN.out; have nlt := hN.out.lt; obtain ⟨rc0, rc1, rc2, rc3, rc4, rc5, rf0, rf1, rf2, rf3, rf4, rf5⟩ := cf6 hR.out; have rlt := hR.out.lt; have ne1 : w1.heap.size ≠ w.heap.size := hneNR.out; have ne2 : w.heap.size ≠ w1.heap.size := fun h => hneNR.out h.symm
     go_wp2_with fail; refine bodyPost_ret (rrz rfl _ _ w.heap.size 25 _ _ rfl ((((((hR.out.set_ 0 _).set_ 1 _).set_ 2 _).set_ 3 _).set_ 4 _).set_ 5 _) Tryz.underlying25 rfl (by kernel_rfl)) rfl ?_; unfold Ruled; rw [hA.out]; refine ⟨((((((hB.out.far leZ _ _).far leZ _ _).far leZ _ _).far leZ _ _).far leZ _ _).far leZ _ _), ⟨((((((hp2.out.row.far (p := (Az w.heap.size 0)) hneR.out.symm _).far (p := (Az w.heap.size 1)) hneR.out.symm _).far (p := (Az w.heap.size 2)) hneR.out.symm _).far (p := (Az w.heap.size 3)) hneR.out.symm _).far (p := (Az w.heap.size 4)) hneR.out.symm _).far (p := (Az w.heap.size 5)) hneR.out.symm _), hp.out.tok.but ((((((hB.out.far leZ _ _).far leZ _ _).far leZ _ _).far leZ _ _).far leZ _ _).far leZ _ _), hp2.out.len, hp2.out.pos⟩, .mk 0 0 ft [] 0 none 0 [], rfl, tlz _ _ _ _ _ _ _ _ _, slz _ _ _ _ _ _ _⟩
end Go.Proofs.YtjkmhlfjheiekaaGreatDoor

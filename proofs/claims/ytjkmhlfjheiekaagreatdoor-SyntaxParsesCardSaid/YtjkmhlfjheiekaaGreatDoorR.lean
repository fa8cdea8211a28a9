import Derived.Test.YtjkmhlfjheiekaaGreatDoorP
namespace Go.Proofs.YtjkmhlfjheiekaaGreatDoor
open Go Go.RowKit Go.BigFrame Go.Maps
theorem below_bytes (w : World) (t : ByteArray) : Below w.heap.size w (Lib.bytesWorld w 5 t) := by
 unfold Lib.bytesWorld
 exact Lib.below_freeze ((Below.drew (Below.refl _ w)).alloc le9 _) (p := ⟨w.heap.size, _, none⟩) le9 1
def foldV (a : Nat) (t : Txt) : Nat := t.foldl (fun n c => 10 * n + (c.toNat - 48)) a
theorem foldV_ge : ∀ (t : Txt) (a : Nat), a ≤ foldV a t
 | [], a => Nat.le_refl _
 | c :: r, a => by
  show a ≤ foldV (10 * a + (c.toNat - 48)) r
  have := foldV_ge r (10 * a + (c.toNat - 48))
  omega
theorem parseM_fold : ∀ (t : Txt) (a : Nat), t.all digitB = true → foldV a t ≤ mostN → Lib.parseUintM (2 ^ 64 - 1) a t = .ok (foldV a t)
 | [], a, _, _ => rfl
 | c :: r, a, hd, hm => by
  rw [List.all_cons, Bool.and_eq_true] at hd
  obtain ⟨h1, h2⟩ := digit_range hd.1
  have hs : foldV a (c :: r) = foldV (10 * a + (c.toNat - 48)) r := rfl
  rw [hs] at hm ⊢
  have hge := foldV_ge r (10 * a + (c.toNat - 48))
  unfold mostN at hm
  rw [Lib.parseUintM, if_pos ⟨h1, h2⟩, if_neg (by omega), if_neg (by omega), show a * 10 + (c.toNat - 48) = 10 * a + (c.toNat - 48) by omega]
  exact parseM_fold r _ hd.2 (by unfold mostN; exact hm)
theorem parse_num {t : Txt} (hd : t.all digitB = true) (hne : t ≠ []) (hm : numV t ≤ mostN) : Lib.parseIntB 64 t = .ok (numV t : Int) := by
 cases t with
 | nil => exact absurd rfl hne
 | cons c r =>
  have hp := parseM_fold (c :: r) 0 hd hm
  rw [List.all_cons, Bool.and_eq_true] at hd
  obtain ⟨h1, h2⟩ := digit_range hd.1
  have hv : foldV 0 (c :: r) = numV (c :: r) := rfl
  rw [hv] at hp
  unfold mostN at hm
  unfold Lib.parseIntB
  simp only
  rw [if_neg (by omega), Lib.parseUintB, if_neg (by simp), hp]
  simp only
  rw [if_neg (by omega), if_neg (by omega), if_neg (by omega)]
def TokOk (l : List Tok) : Prop := ∀ (i : Nat) (t : Tok), l[i]? = some t → t.text.length ≤ 5000 ∧ (t.kind = 2 → t.text.all digitB = true ∧ t.text ≠ [] ∧ numV t.text ≤ mostN)
def numS (e : Nat) (l : List Tok) (lo hi : Int) (st : St) : Int × St :=
 if (takeS e l (kindB 2) st).2.cd = 0 then (((numV (takeS e l (kindB 2) st).1 : Nat) : Int), if (numV (takeS e l (kindB 2) st).1 : Int) < lo ∨ hi < (numV (takeS e l (kindB 2) st).1 : Int) then failS (takeS e l (kindB 2) st).2 (placeS e l st) 3 else (takeS e l (kindB 2) st).2)
 else (0, (takeS e l (kindB 2) st).2)
theorem fail_cd (st : St) (pl : Nat) : (failS st pl 2).cd ≠ 0 := by
 unfold failS
 by_cases h : st.cd = 0
 ·rw [if_pos h]; show (2 : Int) ≠ 0; decide
 ·rw [if_neg h]; exact h
theorem take_ok {e : Nat} {l : List Tok} {p : Tok → Bool} {st : St} (h : (takeS e l p st).2.cd = 0) : ∃ t, l[st.k]? = some t ∧ p t = true ∧ takeS e l p st = (t.text, st.step) := by
 unfold takeS at h ⊢
 by_cases ha : askS l st 0 p = true
 ·obtain ⟨hcd, t, hlk, hpt, htx⟩ := ask_step ha
  exact ⟨t, hlk, hpt, by rw [if_pos ha, htx]⟩
 ·rw [if_neg ha] at h
  exact absurd h (fail_cd _ _)
section
variable (w : World) (pb : Nat) (A : Option Addr) (c e : Nat) (l : List Tok) (st : St)
set_option maxRecDepth 100000 in
set_option maxHeartbeats 1600000 in
theorem number_any (lo hi : Int) (hp : Hid (ParAt w pb A c e l st)) (hok : Hid (TokOk l)) :
  Calls Tryz.prog 134 #[.pointer (some ⟨pb, 0, none⟩), .int .i64 lo, .int .i64 hi] w fun x w' => x = .returned (.int .i64 (numS e l lo hi st).1) ∧ But pb w w' ∧ ParAt w' pb A c e l (numS e l lo hi st).2 := by
 have e159 : ∀ (args : Array Value) (w : World), (callFunc 159 args).run Tryz.prog w = .ok (.enter 159 args) w := enters_of Tryz.func159 (by kernel_rfl) rfl
 obtain ⟨⟨tx, s1⟩, hts⟩ : ∃ r, Hid (takeS e l (kindB 2) st = r) := ⟨_, hd9 rfl⟩
 go_enter Tryz.func134, Tryz.ntmps134
 go_wp2_with fail
 refine (place_any w pb A c e l st hp).mono ?_
 rintro x w1 ⟨rfl, hB1⟩
 have hp1 := hd9 (hp.out.below hB1)
 go_wp2_with fail
 refine (kind_any w1 2).mono ?_
 rintro x w2 ⟨rfl, rfl⟩
 have hp2 : Hid (ParAt (w1.alloc (.cells #[.int .i64 2] 3)) pb A c e l st) := hp1.out.below ((Below.refl _ w1).alloc le9 _)
 go_wp2_with fail
 refine (take_any _ pb A c e l st 159 _ e159 (kindB 2) hp2 (kind_new w1 2)).mono ?_
 rintro x w3 ⟨rfl, hB3, hp3⟩
 have hB : Hid (But pb w w3) := (((But.refl pb w).below hB1).below ((Below.refl _ w1).alloc le9 _)).trans hB3
 rw [hts.out] at hp3
 rw [hts.out]
 have hp3' := hd9 hp3
 have c4 : w3.cell? ⟨pb, 4, none⟩ = some (.int .i64 s1.cd) := hp3.row.cell 4
 clear hp3 hB3 hB1 hp1 hp2
 by_cases hz : s1.cd = 0
 ·have b1 : (s1.cd != 0) = false := by simp [hz]
  obtain ⟨t, hlk, hpt, htk⟩ := take_ok (e := e) (l := l) (p := kindB 2) (st := st) (by rw [hts.out]; exact hz)
  have htx : tx = t.text := by have := hts.out; rw [htk] at this; exact (congrArg Prod.fst this).symm
  obtain ⟨hlen, hnum⟩ := hok.out st.k t hlk
  obtain ⟨hd, hne, hm⟩ := hnum (by simpa [kindB] using hpt)
  rw [← htx] at hd hne hm hlen
  have hpi := parse_num hd hne hm
  have hnS : Hid (numS e l lo hi st = (((numV tx : Nat) : Int), if (numV tx : Int) < lo ∨ hi < (numV tx : Int) then failS s1 (placeS e l st) 3 else s1)) := by unfold Hid numS; rw [hts.out]; simp only; rw [if_pos hz]
  have hcall := hd9 (Tryz.strconv_ParseInt_10_at64_ok ⟨tx.toArray⟩ (by simp [ByteArray.size]; omega) (numV tx : Int) (by simpa using hpi) w3)
  obtain ⟨n, hn⟩ : ∃ n, Hid (numV tx = n) := ⟨_, hd9 rfl⟩
  rw [hn.out] at hcall hnS
  clear hz hlk hpt htk htx hd hne hm hlen hpi hnum
  go_wp2_with fail
  refine hcall.out.mono ?_
  rintro x w4 ⟨rfl, hw4⟩
  have hB4 : Hid (Below w3.heap.size w3 w4) := by
   rcases hw4 with rfl | ⟨t, rfl⟩
   ·exact Below.refl _ _
   ·exact below_bytes _ _
  have hp4 := hd9 (hp3'.out.below hB4.out)
  clear hw4 c4
  have hBt := hd9 (hB.out.below hB4.out)
  by_cases h1 : (n : Int) < lo
  ·have b2 : decide ((n : Int) < lo) = true := by simp; omega
   have hfl : Hid (numS e l lo hi st = (((n : Nat) : Int), failS s1 (placeS e l st) 3)) := by unfold Hid; rw [hnS.out, if_pos (.inl h1)]
   go_wp2_with (go_at_call 32; refine (fail_any w4 pb A c e l s1 (placeS e l st) 3 hp4).mono ?_; rintro x w5 ⟨rfl, hB5, hp5⟩)
   go_ret
   rw [hfl.out]
   exact ⟨rfl, hBt.out.trans hB5, hp5⟩
  ·have b2 : decide ((n : Int) < lo) = false := by simp; omega
   by_cases h2 : hi < (n : Int)
   ·have b3 : decide (hi < (n : Int)) = true := by simp; omega
    have hfl : Hid (numS e l lo hi st = (((n : Nat) : Int), failS s1 (placeS e l st) 3)) := by unfold Hid; rw [hnS.out, if_pos (.inr h2)]
    go_wp2_with (go_at_call 32; refine (fail_any w4 pb A c e l s1 (placeS e l st) 3 hp4).mono ?_; rintro x w5 ⟨rfl, hB5, hp5⟩)
    go_ret
    rw [hfl.out]
    exact ⟨rfl, hBt.out.trans hB5, hp5⟩
   ·have b3 : decide (hi < (n : Int)) = false := by simp; omega
    have hfl : Hid (numS e l lo hi st = (((n : Nat) : Int), s1)) := by unfold Hid; rw [hnS.out, if_neg (by rintro (h | h) <;> omega)]
    go_wp2_with fail
    go_ret
    rw [hfl.out]
    exact ⟨rfl, hBt.out, hp4.out⟩
 ·have b1 : (s1.cd != 0) = true := by simp [hz]
  have hnS : Hid (numS e l lo hi st = (0, s1)) := by unfold Hid numS; rw [hts.out]; simp only; rw [if_neg hz]
  clear hz
  go_wp2_with fail
  go_ret
  rw [hnS.out]
  exact ⟨rfl, hB.out, hp3'.out⟩
end
end Go.Proofs.YtjkmhlfjheiekaaGreatDoor
namespace Go.Proofs.YtjkmhlfjheiekaaGreatDoor
open Go Go.RowKit Go.BigFrame Go.Maps
inductive Tree where
 | mk (kind paper : Int) (field text : Txt) (num : Int) (A : Option Addr) (c : Nat) (L : List Tree) : Tree
def Tree.sub : Tree → List Tree | .mk _ _ _ _ _ _ _ L => L
def Tree.cells : Tree → Array Value | .mk k p f x n A c L => #[.int .i64 k, .int .i64 p, .string ⟨f.toArray⟩, .string ⟨x.toArray⟩, .int .i64 n, .slice A L.length c]
mutual
def strip : Tree → Rul
 | .mk k p f x n _ _ L => .mk k p f x n (strips L)
def strips : List Tree → List Rul
 | [] => []
 | t :: L => strip t :: strips L
end
theorem strips_map : ∀ L : List Tree, strips L = L.map strip
 | [] => by rw [strips]; rfl
 | t :: L => by rw [strips, strips_map L]; rfl
def CellsAt (w : World) (ok : Nat → Prop) (A : Option Addr) (j : Nat) : Tree → Prop
 | .mk k p f x n A' c L => ∃ b off, A = some ⟨b, off, none⟩ ∧ ok b ∧ w.cell? ⟨b, off + j * 6, none⟩ = some (.int .i64 k) ∧ w.cell? ⟨b, off + j * 6 + 1, none⟩ = some (.int .i64 p) ∧ w.cell? ⟨b, off + j * 6 + 2, none⟩ = some (.string ⟨f.toArray⟩) ∧
   w.cell? ⟨b, off + j * 6 + 3, none⟩ = some (.string ⟨x.toArray⟩) ∧ w.cell? ⟨b, off + j * 6 + 4, none⟩ = some (.int .i64 n) ∧ w.cell? ⟨b, off + j * 6 + 5, none⟩ = some (.slice A' L.length c)
theorem CellsAt.same {w w' : World} {ok : Nat → Prop} {A : Option Addr} {j : Nat} {t : Tree} (h : CellsAt w ok A j t) (hb : ∀ p : Addr, p.block < w.heap.size → ok p.block → w'.cell? p = w.cell? p) : CellsAt w' ok A j t := by
 obtain ⟨k, p, f, x, n, A', c, L⟩ := t
 obtain ⟨b, off, e, hn, h0, h1, h2, h3, h4, h5⟩ := h
 have hlt : b < w.heap.size := World.block_lt_of_cell? w _ h0
 exact ⟨b, off, e, hn, by rw [hb _ hlt hn]; exact h0, by rw [hb _ hlt hn]; exact h1, by rw [hb _ hlt hn]; exact h2, by rw [hb _ hlt hn]; exact h3, by rw [hb _ hlt hn]; exact h4, by rw [hb _ hlt hn]; exact h5⟩
theorem CellsAt.mono {w : World} {ok ok' : Nat → Prop} {A : Option Addr} {j : Nat} {t : Tree} (h : CellsAt w ok A j t) (hl : ∀ b, b < w.heap.size → ok b → ok' b) : CellsAt w ok' A j t := by
 obtain ⟨k, p, f, x, n, A', c, L⟩ := t
 obtain ⟨b, off, e, hn, h0, h⟩ := h
 exact ⟨b, off, e, hl b (World.block_lt_of_cell? w _ h0) hn, h0, h⟩
mutual
def TreeAt (w : World) (ok : Nat → Prop) : Tree → Prop
 | .mk _ _ _ _ _ A _ L => RowsAt w ok A 0 L ∧ L.length ≤ maxLen
def RowsAt (w : World) (ok : Nat → Prop) (A : Option Addr) (j : Nat) : List Tree → Prop
 | [] => True
 | t :: L => CellsAt w ok A j t ∧ TreeAt w ok t ∧ RowsAt w ok A (j + 1) L
end
mutual
theorem TreeAt.same {w w' : World} {ok : Nat → Prop} (hb : ∀ p : Addr, p.block < w.heap.size → ok p.block → w'.cell? p = w.cell? p) : ∀ {t : Tree}, TreeAt w ok t → TreeAt w' ok t
 | .mk _ _ _ _ _ A _ L, h => by
  rw [TreeAt] at h ⊢
  exact ⟨RowsAt.same hb h.1, h.2⟩
theorem RowsAt.same {w w' : World} {ok : Nat → Prop} (hb : ∀ p : Addr, p.block < w.heap.size → ok p.block → w'.cell? p = w.cell? p) : ∀ {A : Option Addr} {j : Nat} {L : List Tree}, RowsAt w ok A j L → RowsAt w' ok A j L
 | _, _, [], _ => by rw [RowsAt]; trivial
 | _, _, t :: L, h => by
  rw [RowsAt] at h ⊢
  exact ⟨h.1.same hb, TreeAt.same hb h.2.1, RowsAt.same hb h.2.2⟩
end
mutual
theorem TreeAt.mono {w : World} {ok ok' : Nat → Prop} (hl : ∀ b, b < w.heap.size → ok b → ok' b) : ∀ {t : Tree}, TreeAt w ok t → TreeAt w ok' t
 | .mk _ _ _ _ _ A _ L, h => by
  rw [TreeAt] at h ⊢
  exact ⟨RowsAt.mono hl h.1, h.2⟩
theorem RowsAt.mono {w : World} {ok ok' : Nat → Prop} (hl : ∀ b, b < w.heap.size → ok b → ok' b) : ∀ {A : Option Addr} {j : Nat} {L : List Tree}, RowsAt w ok A j L → RowsAt w ok' A j L
 | _, _, [], _ => by rw [RowsAt]; trivial
 | _, _, t :: L, h => by
  rw [RowsAt] at h ⊢
  exact ⟨h.1.mono hl, TreeAt.mono hl h.2.1, RowsAt.mono hl h.2.2⟩
end
theorem TreeAt.but {w w' : World} {ok : Nat → Prop} {pb : Nat} {t : Tree} (h : TreeAt w ok t) (hb : But pb w w') (hlt : ∀ b, ok b → b ≠ pb) : TreeAt w' ok t := h.same fun _ h1 h2 => hb.cell h1 (hlt _ h2)
theorem TreeAt.far {w : World} {ok : Nat → Prop} {g : Nat} {t : Tree} (h : TreeAt w ok t) (hlt : ∀ b, ok b → b ≠ g) (o : Nat) (u : Value) : TreeAt (w.setCell ⟨g, o, none⟩ u) ok t := h.but ((But.refl g w).setCell o u) hlt
theorem TreeAt.below {w w' : World} {ok : Nat → Prop} {t : Tree} (h : TreeAt w ok t) (hb : Below w.heap.size w w') : TreeAt w' ok t := h.same fun _ h1 _ => hb.cell h1
theorem tree_leaf (w : World) (ok : Nat → Prop) (k p : Int) (f x : Txt) (n : Int) (A : Option Addr) (c : Nat) : TreeAt w ok (.mk k p f x n A c []) := by
 rw [TreeAt, RowsAt]; exact ⟨trivial, by simp⟩
theorem strip_leaf (k p : Int) (f x : Txt) (n : Int) (A : Option Addr) (c : Nat) : strip (.mk k p f x n A c []) = .mk k p f x n [] := by rw [strip, strips]
def Ruled (w : World) (pb : Nat) (A : Option Addr) (c e : Nat) (l : List Tok) (r : Rul × St) (x : Ending) (w' : World) : Prop :=
 But pb w w' ∧ ParAt w' pb A c e l r.2 ∧ ∃ t, x = .returned (.agg t.cells) ∧ TreeAt w' (fun b => w.heap.size ≤ b) t ∧ strip t = r.1
def zeroN : Array Value := #[.int .i64 0, .int .i64 0, .string ⟨#[]⟩, .string ⟨#[]⟩, .int .i64 0, .slice none 0 0]
theorem results_row {P : Program} {fn : Func} {p : Tmp} {ty : TypeId} (h : fn.results = #[.cell p ty]) (tmps : Array Value) (w : World) (g : Nat) (t : TypeId) (cs : Array Value) (d : TypeDesc)
  (hp : tmps.getD p undef = .pointer (some ⟨g, 0, none⟩)) (hg : Blk w g t cs)
  (hu : P.underlying ty = some d) (hd : (match d with | .struct _ | .array _ _ => true | _ => false) = true) (hi : (P.info? ty).map (·.size) = some cs.size) :
  (results fn tmps).run P w = .ok (.agg cs) w := by
 have hp' : tmps[p]?.getD undef = .pointer (some ⟨g, 0, none⟩) := by simpa using hp
 simp [results, h, hp', asAddr, run_loadVar_row w g t ty cs (0, 0) d hg hu hd hi]
set_option maxRecDepth 100000 in
set_option maxHeartbeats 1600000 in
theorem begin_any (s : ByteArray) (w : World) (hs : s.size ≤ maxLen) (he : Hid (Env w)) :
  Calls Tryz.prog 30 #[.string s] w fun x w' => x = .returned (.pointer (some ⟨w.heap.size, 0, none⟩)) ∧ Below w.heap.size w w' ∧
   ((∃ l v, s.size ≤ 4096 ∧ scanT s.data.toList = .ok l ∧ l.length ≤ 4096 ∧ w'.ownsRow (w.heap.size + 1) 89 3 v l.length (tokL l) ∧ Blk w' w.heap.size 60 #[v, .int .i64 0, .int .i64 s.size, .int .i64 0, .int .i64 0]) ∨
    (∃ k cd, (4096 < s.size ∧ k = 0 ∧ cd = 7 ∨ s.size ≤ 4096 ∧ scanT s.data.toList = .error (k, cd)) ∧ cd ≠ 0 ∧ Blk w' w.heap.size 60 #[.slice none 0 0, .int .i64 0, .int .i64 s.size, .int .i64 (k : Nat), .int .i64 cd])) := by
 have hs' := hd9 hs
 unfold maxLen at hs
 have hb0 : Hid (Blk (w.alloc (.cells #[.slice none 0 0, .int .i64 0, .int .i64 s.size, .int .i64 0, .int .i64 0] 60)) w.heap.size 60 #[.slice none 0 0, .int .i64 0, .int .i64 s.size, .int .i64 0, .int .i64 0]) := Blk.new w 60 _
 by_cases hbig : 4096 < s.size
 ·have b1 : decide ((4096 : Int) < (s.size : Int)) = true := by simp; omega
  go_enter Tryz.func30, Tryz.ntmps30
  go_wp2_with fail
  go_ret
  exact ⟨rfl, (Below.refl _ w).alloc le9 _, .inr ⟨0, 7, .inl ⟨hbig, rfl, rfl⟩, by decide, Blk.new w 60 _⟩⟩
 ·have b1 : decide ((4096 : Int) < (s.size : Int)) = false := by simp; omega
  have heA : Hid (Env (w.alloc (.cells #[.slice none 0 0, .int .i64 0, .int .i64 s.size, .int .i64 0, .int .i64 0] 60))) := he.out.below ((Below.refl _ w).alloc le9 _)
  go_enter Tryz.func30, Tryz.ntmps30
  go_wp2_with fail
  refine (scan_any s (w.alloc (.cells #[.slice none 0 0, .int .i64 0, .int .i64 s.size, .int .i64 0, .int .i64 0] 60)) hs'.out heA).mono ?_
  rintro x w1 ⟨hB1, hcase⟩
  have hb1 := hd9 (hb0.out.below hB1 hb0.out.lt)
  have hBt : Hid (Below w.heap.size w w1) := ((Below.refl _ w).alloc le9 _).trans (hB1.mono (by simp))
  have hlt := hb1.out.lt
  have f0 := hb1.out.frozen 0
  have f3 := hb1.out.frozen 3
  have f4 := hb1.out.frozen 4
  have c0 : w1.cell? ⟨w.heap.size, 0, none⟩ = some (.slice none 0 0) := hb1.out.cell 0
  have c3 : w1.cell? ⟨w.heap.size, 3, none⟩ = some (.int .i64 0) := hb1.out.cell 3
  have c4 : w1.cell? ⟨w.heap.size, 4, none⟩ = some (.int .i64 0) := hb1.out.cell 4
  rcases hcase with ⟨l, v, hsc, rfl, hl, hown⟩ | ⟨k, cd, hsc, hcd, rfl⟩
  ·obtain ⟨p, c, rfl⟩ := own_slice hown
   have hown' := hd9 hown
   clear hown hB1
   go_wp2_with fail
   go_ret
   refine ⟨rfl, hBt.out.setCell le9 _, .inl ⟨l, _, by omega, hsc, hl, ?_, hb1.out.set_ 0 _⟩⟩
   have h2 := own_mono_base hown'.out (B' := w.heap.size + 1) (by simp)
   exact own_but h2 ((But.refl w.heap.size w1).setCell _ _) (by omega)
  ·have b2 : (cd != 0) = true := by simp [hcd]
   go_wp2_with fail
   go_ret
   exact ⟨rfl, (hBt.out.setCell le9 _).setCell le9 _, .inr ⟨k, cd, .inr ⟨by omega, hsc⟩, hcd, (hb1.out.set_ 3 (.int .i64 k)).set_ 4 (.int .i64 cd)⟩⟩
end Go.Proofs.YtjkmhlfjheiekaaGreatDoor

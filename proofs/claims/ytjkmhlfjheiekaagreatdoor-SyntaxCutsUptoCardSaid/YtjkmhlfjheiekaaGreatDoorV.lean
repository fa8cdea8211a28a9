import Derived.Test.YtjkmhlfjheiekaaGreatDoorS
set_option maxRecDepth 1000000
set_option maxHeartbeats 51200000
namespace Go.Proofs.YtjkmhlfjheiekaaGreatDoor
open Go Go.RowKit Go.BigFrame Go.Maps
def partsS (l : List Tok) (part : St → Option (Rul × St)) (sep : Txt) : Nat → St → Option (List Rul × St)
 | 0, _ => none
 | n + 1, st => match part st with
  | none => none
  | some (r, s1) => if askS l s1 0 (wdz sep) = true then (match partsS l part sep n s1.step with
    | none => none
    | some (L, s2) => some (r :: L, s2)) else some ([r], s1)
def restS (l : List Tok) (part : St → Option (Rul × St)) (sep : Txt) (n : Nat) (s1 : St) : Option (List Rul × St) :=
 if askS l s1 0 (wdz sep) = true then partsS l part sep n s1.step else some ([], s1)
theorem parts_cons {l : List Tok} {part : St → Option (Rul × St)} {sep : Txt} {n : Nat} {st s' : St} {L : List Rul} (h : partsS l part sep n st = some (L, s')) :
  ∃ m r s1 L1, n = m + 1 ∧ part st = some (r, s1) ∧ restS l part sep m s1 = some (L1, s') ∧ L = r :: L1 := by
 cases n with
 | zero => simp [partsS] at h
 | succ m =>
  rw [partsS] at h
  cases hp : part st with
  | none => rw [hp] at h; simp at h
  | some x =>
   obtain ⟨r, s1⟩ := x; rw [hp] at h; simp only at h; refine ⟨m, r, s1, ?_⟩; unfold restS
   by_cases ha : askS l s1 0 (wdz sep) = true
   ·rw [if_pos ha] at h ⊢
    cases hq : partsS l part sep m s1.step with
    | none => rw [hq] at h; simp at h
    | some y =>
     obtain ⟨L2, s2⟩ := y; rw [hq] at h; simp only [Option.some.injEq, Prod.mk.injEq] at h; exact ⟨L2, rfl, rfl, by rw [h.2], h.1.symm⟩
   ·rw [if_neg ha] at h ⊢
    simp only [Option.some.injEq, Prod.mk.injEq] at h; exact ⟨[], rfl, rfl, by rw [h.2], h.1.symm⟩
def treesL (T : List Tree) : List Value := T.flatMap fun t => t.cells.toList
theorem treesL_snoc (T : List Tree) (t : Tree) : treesL (T ++ [t]) = treesL T ++ t.cells.toList := by simp [treesL]
theorem treesL_get : ∀ (T : List Tree) (k : Nat) (t : Tree), T[k]? = some t → ∀ i, i < 6 → (treesL T)[k * 6 + i]? = t.cells.toList[i]?
 | [], k, x, h, i, hi => by simp at h
 | y :: T, 0, x, h, i, hi => by
  simp only [List.getElem?_cons_zero, Option.some.injEq] at h; subst h; obtain ⟨k, p, f, x, n, A, c, L⟩ := y; show ((Tree.mk k p f x n A c L).cells.toList ++ treesL T)[0 * 6 + i]? = _; rw [Nat.zero_mul, Nat.zero_add, List.getElem?_append_left (by simp [Tree.cells]; exact hi)]
 | y :: T, k + 1, x, h, i, hi => by
  have ih := treesL_get T k x (by simpa using h) i hi; obtain ⟨k', p, f, x', n, A, c, L⟩ := y; show ((Tree.mk k' p f x' n A c L).cells.toList ++ treesL T)[(k + 1) * 6 + i]? = _; rw [List.getElem?_append_right (by simp [Tree.cells]; omega), show (Tree.mk k' p f x' n A c L).cells.toList.length = 6 from rfl, show (k + 1) * 6 + i - 6 = k * 6 + i by omega]; exact ih
theorem tree_one (k p : Int) (f x : ByteArray) (n : Int) (A : Option Addr) (m c : Nat) : ∀ u ∈ (#[Iz k, Iz p, .string f, .string x, Iz n, .slice A m c] : Array Value).toList, u.oneCell' = true := by
 intro u hu
 simp at hu
 rcases hu with rfl | rfl | rfl | rfl | rfl | rfl <;> rfl
theorem own_rows {w : World} {B : Nat} {ok : Nat → Prop} {v : Value} {T : List Tree} (h : w.ownsRow B 25 6 v T.length (treesL T)) (hB : ∀ b, B ≤ b → ok b) (ht : ∀ t ∈ T, TAz w ok t) : ∃ A c, v = .slice A T.length c ∧ RAz w ok A 0 T := by
 have key : ∀ (A : Option Addr) (U : List Tree) (j : Nat), (∀ k t, U[k]? = some t → CellsAt w ok A (j + k) t) → (∀ t ∈ U, TAz w ok t) → RAz w ok A j U := by
  intro A U
  induction U with
  | nil => intro j _ _; rw [RAz]; trivial
  | cons u U ih =>
   intro j h1 h2; rw [RAz]; refine ⟨by simpa using h1 0 u rfl, h2 u (by simp), ih (j + 1) (fun k t hk => ?_) (fun t ht => h2 t (by simp [ht]))⟩; have := h1 (k + 1) t (by simpa using hk)
   rwa [show j + (k + 1) = j + 1 + k by omega] at this
 rcases h.2 with ⟨rfl, h0⟩ | ⟨g, cap, cur, rfl, hg, _⟩
 ·have : T = [] := List.eq_nil_of_length_eq_zero h0
  subst this; exact ⟨none, 0, rfl, by rw [RAz]; trivial⟩
 ·refine ⟨_, _, rfl, key _ T 0 (fun r t hr => ?_) ht⟩
  have hc : ∀ i, i < 6 → ∀ u, t.cells.toList[i]? = some u → w.cell? ⟨g, 0 + r * 6 + i, none⟩ = some u := fun i hi u hu => by
   have := h.cells (g := g) rfl (r * 6 + i) u (by rw [treesL_get T r t hr i hi]; exact hu)
   rwa [show Addr.add (Az g 0) (r * 6 + i) = ⟨g, 0 + r * 6 + i, none⟩ by unfold Addr.add; split <;> simp_all] at this
  rw [Nat.zero_add]; obtain ⟨tk, tp, tf, tx, tn, tA, tc, tL⟩ := t; exact ⟨g, 0, rfl, hB _ hg, hc 0 (by omega) _ rfl, hc 1 (by omega) _ rfl, hc 2 (by omega) _ rfl, hc 3 (by omega) _ rfl, hc 4 (by omega) _ rfl, hc 5 (by omega) _ rfl⟩
theorem own_fst {w : World} {g B : Nat} {cs : Array Value} (h : Blk w g 25 cs) (hs : cs.size = 6) (hB : B ≤ g) : w.ownsRow B 25 6 (.slice (some (Az g 0)) 1 1) 1 cs.toList :=
 ⟨by simp [hs], .inr ⟨g, 1, cs, rfl, hB, h, Nat.le_refl _, by decide, by omega, by rw [List.take_of_length_le (by simp [hs])]⟩⟩
theorem own_first {w : World} {B n : Nat} {p : Option Addr} {c : Nat} {T : List Tree} {t : Tree} (h : w.ownsRow B 25 6 (.slice p n c) n (treesL T)) (h0 : T[0]? = some t) (hn : 0 < n) : ∃ g, p = some (Az g 0) ∧ g < w.heap.size ∧ ∀ i, i < 6 → ∀ u, t.cells.toList[i]? = some u → w.cell? (Az g i) = some u := by
 have hh := h
 rcases h.2 with ⟨h1, h2⟩ | ⟨g, cap, cur, hv, hg, hb, _⟩
 ·omega
 ·obtain rfl : p = some (Az g 0) := by simp at hv; exact hv.1
  have hc : ∀ i, i < 6 → ∀ u, t.cells.toList[i]? = some u → w.cell? (Az g i) = some u := fun i hi u hu => by
   have := hh.cells (g := g) rfl (0 * 6 + i) u (by rw [treesL_get T 0 t h0 i hi]; exact hu)
   rwa [show Addr.add (Az g 0) (0 * 6 + i) = (Az g i) by unfold Addr.add; split <;> simp_all] at this
  have hlt : g < w.heap.size := by
   rcases Nat.lt_or_ge g w.heap.size with h | h
   ·exact h
   ·rw [Array.getElem?_eq_none h] at hb; cases hb
  exact ⟨g, rfl, hlt, hc⟩
theorem own_old {w : World} {B : Nat} {e : TypeId} {size n : Nat} {v : Value} {xs : List Value} (h : w.ownsRow B e size v n xs) : ∀ b, w.heap.size ≤ b → v.ownBlock ≠ some b := by
 intro b hb
 rcases h.2 with ⟨rfl, _⟩ | ⟨g, cap, cur, rfl, _, hh, _⟩
 ·simp [Value.ownBlock]
 ·have hlt : g < w.heap.size := by
   rcases Nat.lt_or_ge g w.heap.size with h | h
   ·exact h
   ·rw [Array.getElem?_eq_none h] at hh; cases hh
  simp [Value.ownBlock]; omega
section
variable {P : Program} {ops : Array Oper} {o : Oper} {rest : List Oper} {a : Act} {W : World} {Q : Exit → Act → World → Prop}
theorem wpList_app4 (B : Nat) (hgd : o.guard = none) (s x : Operand) (t : TypeId) (ho : o.op = .call { callee := .builtin .append, args := #[s, x], argTypes := #[t, t] })
  (e : TypeId) (i : TypeInfo) (z : Value) (size bytes : Nat) (ht : P.underlying t = some (.slice e)) (hi : P.info? e = some i) (hz : i.zero = some z)
  (hsize : i.size = size) (hby : i.bytes = bytes) (hzs : z.cells.size = size) (hsz : 0 < size)
  (v : Value) (m : Nat) (xs : List Value) (hs : a.eval s = v) (g c : Nat) (cs : Array Value) (hx : a.eval x = .slice (some (Az g 0)) 1 c)
  (hv : W.ownsRow B e size v m xs) (hg : Blk W g e cs) (hcs : cs.size = size) (h1 : ∀ u ∈ cs.toList, u.oneCell' = true) (h63 : m + 1 ≤ maxLen) (hbytes : (m + 1) * bytes ≤ 140737488355328) (hB : B ≤ W.heap.size)
  (h : ∀ v' w', w'.ownsRow B e size v' (m + 1) (xs ++ cs.toList) → W.grownBy w' v.ownBlock → (v'.ownBlock = v.ownBlock ∨ v'.ownBlock = some W.heap.size) → wpList P ops Q rest (a.put o.dst v') w') : wpList P ops Q (o :: rest) a W :=
 wpList_append_any _ hgd s x t ho B e i z size bytes ht hi hz hsize hby hzs hsz v m xs hs hv W.heap.size _ 1 c cs.toList hx (blk_reads hg size 1 (by omega)) h1 h63 hbytes hB h
end
theorem but_low {pb : Nat} {w a b : World} (h : But pb w a) (hb : Below w.heap.size a b) : But pb w b :=
 ⟨hb.os.trans h.os, hb.tape.trans h.tape, hb.output.trans h.output, Nat.le_trans h.size hb.size, fun k hk hz => (hb.block k hk).trans (h.block k hk hz)⟩
theorem grown_cell {w w' : World} {row : Option Nat} (h : w.grownBy w' row) {p : Addr} (h1 : p.block < w.heap.size) (h2 : row ≠ some p.block) : w'.cell? p = w.cell? p := by
 unfold World.cell?
 rw [h.block p.block h1 (fun h => h2 h.symm)]
theorem strips_app (T : List Tree) (t : Tree) : sSz (T ++ [t]) = sSz T ++ [stz t] := by rw [smz, smz]; simp
theorem row_any (pb : Nat) (A : Option Addr) (c e : Nat) (l : List Tok) (part : St → Option (Rul × St)) (g : Nat) (eg : ∀ (args : Array Value) (w : World), (callFunc g args).run Tryz.prog w = .ok (.enter g args) w) (h8 : Hid (8 ≤ pb))
  (hpart : Hid (∀ (W : World) (st : St) (r : Rul × St), part st = some r → Hid (ParAt W pb A c e l st) → Hid (Env W) → Cz g #[.pointer (some (Az pb 0))] W (Ruled W pb A c e l r)))
  (sep : Txt) (k : Int) (n : Nat) (w : World) (st s' : St) (L : List Rul) (hps : partsS l part sep n st = some (L, s')) (hL : Hid (L.length ≤ 100000)) (hp : Hid (ParAt w pb A c e l st)) (he : Hid (Env w)) :
  Cz 114 #[.pointer (some (Az pb 0)), .func (.func g) #[.pointer (some (Az pb 0))] #[], .string (mkT sep), Iz k] w (Ruled w pb A c e l (joinK k L, s')) := by
 have e131 := enters_of Tryz.func131 (by kernel_rfl) rfl
 have hlt0 := hp.out.row.lt
 have hR0 : Hid (Blk (w.alloc (.cells zeroN 25)) w.heap.size 25 zeroN) := Blk.new w 25 zeroN
 have hB0 : Hid (But pb w (w.alloc (.cells zeroN 25))) := (But.refl pb w).below ((Below.refl _ w).alloc leZ _)
 have hp0 : Hid (ParAt (w.alloc (.cells zeroN 25)) pb A c e l st) := hp.out.below ((Below.refl _ w).alloc leZ _)
 have hneR : Hid (w.heap.size ≠ pb) := by unfold Hid; omega
 obtain ⟨m, r0, s1, L1, rfl, hp1, hrest, hLr⟩ := parts_cons hps
 have hc0 := hdZ (hpart.out (w.alloc (.cells zeroN 25)) st (r0, s1) hp1 hp0 (he.out.but hB0.out h8.out))
 obtain ⟨i0, hi, hz0, hz1, hz2⟩ := info_parts (P := Tryz.prog) (e := 25) (z := .agg #[Iz 0, Iz 0, S0z, S0z, Iz 0, .slice none 0 0]) (size := 6) (bytes := 80) (by kernel_rfl)
 go_enter Tryz.func114, Tryz.ntmps114
 go_wp2_with fail
 refine hc0.out.mono ?_
 rintro x w1 ⟨hu1, hq1, ⟨tk, tp, tf, tx, tn, tA, tc, tL⟩, rfl, ht0, hs0⟩
 unfold Tree.cells
 go_wp2_with fail
 have hsz1 : Hid (w.heap.size + 1 ≤ w1.heap.size) := by have := hu1.size; unfold Hid; simpa using this
 have hNa : Hid ((w1.alloc (.cells #[Iz tk, Iz tp, Sz tf, Sz tx, Iz tn, .slice tA tL.length tc] 25)).ownsRow (w.heap.size + 1) 25 6 (.slice (some (Az w1.heap.size 0)) 1 1) 1 (treesL [.mk tk tp tf tx tn tA tc tL])) := by
  have := own_fst (B := w.heap.size + 1) (Blk.new w1 25 #[Iz tk, Iz tp, Sz tf, Sz tx, Iz tn, .slice tA tL.length tc]) rfl hsz1.out; exact this
 have hbl : Bz w1 (w1.alloc (.cells #[Iz tk, Iz tp, Sz tf, Sz tx, Iz tn, .slice tA tL.length tc] 25)) := (Below.refl _ w1).alloc leZ _
 have hpa := hdZ (hq1.below hbl)
 have hRa := hdZ ((hu1.blk hR0.out hneR.out).alloc (.cells #[Iz tk, Iz tp, Sz tf, Sz tx, Iz tn, .slice tA tL.length tc] 25))
 have hBa := hdZ ((hB0.out.trans hu1).below hbl)
 have hta : Hid (TAz _ (fun b => w.heap.size + 1 ≤ b ∧ (Value.slice (some (Az w1.heap.size 0)) 1 1).ownBlock ≠ some b) _) := (ht0.mono (fun b h1 h2 => ⟨by simpa using h2, by simp [Value.ownBlock]; omega⟩)).below hbl
 have hsza : Hid (w.heap.size + 1 ≤ (w1.alloc (.cells #[Iz tk, Iz tp, Sz tf, Sz tx, Iz tn, .slice tA tL.length tc] 25)).heap.size) := Nat.le_trans hsz1.out hbl.size
 obtain ⟨wa, hwa⟩ := nmZ (w1.alloc (.cells #[Iz tk, Iz tp, Sz tf, Sz tx, Iz tn, .slice tA tL.length tc] 25))
 rw [hwa.out] at hNa hpa hRa hBa hta hsza ⊢
 clear hwa hbl hq1 hu1 hps hp1 hp0 hB0 hR0 hc0
 have hLa : Hid (L = sSz [.mk tk tp tf tx tn tA tc tL] ++ L1) := by unfold Hid; rw [hLr, sSz, sSz, hs0]; rfl
 clear hLr hs0
 go_loopg [9] m (fun gg v wr => ∃ (T : List Tree) (s1 : St) (L1 : List Rul), restS l part sep gg s1 = some (L1, s') ∧ Hid (L = sSz T ++ L1) ∧ 1 ≤ T.length ∧ Hid (wr.ownsRow (w.heap.size + 1) 25 6 v T.length (treesL T)) ∧ Hid (∀ t ∈ T, TAz wr (fun b => w.heap.size + 1 ≤ b ∧ v.ownBlock ≠ some b) t) ∧ Hid (ParAt wr pb A c e l s1) ∧ Hid (But pb w wr) ∧ Hid (Blk wr w.heap.size 25 zeroN) ∧ Hid (w.heap.size + 1 ≤ wr.heap.size))
 case atStart => exact ⟨_, s1, L1, hrest, hLa, Nat.le_refl _, hNa, (fun t ht => by rw [List.mem_singleton.1 ht]; exact hta.out), hpa, hBa, hRa, hsza⟩
 case round =>
  clear hNa hpa hRa hBa hta hsza hrest hLa ht0; obtain ⟨T, s1, L1, hrest, hLT, hT1, hown, hts, hpr, hBr, hRr, hszr⟩ := hrel; have hrest' := hdZ hrest; obtain ⟨p, cc, rfl⟩ := osz hown.out; go_wp2_with fail; refine (word_any _ _ _ _).mono ?_; rintro x w2 ⟨rfl, rfl⟩; go_wp2_with fail; have hpw := hdZ (hpr.out.below (bwz wr sep)); obtain ⟨av, hav⟩ := nmZ (askS l s1 0 (wdz sep)); refine (sees_any (wOne wr sep) pb A c e l s1 131 #[.pointer (some ⟨wr.heap.size + 1, 0, none⟩)] e131 (wdz sep) hpw (word_new wr sep)).mono ?_; rintro x w3 ⟨rfl, hB3⟩; rw [hav.out]; have hb3 : Hid (Bz wr w3) := (bwz wr sep).trans (hB3.mono (by rw [size_wOne]; omega)); have hp3 := hdZ (hpr.out.below hb3.out); have hown3 := hdZ (own_below hown.out hb3.out); have hts3 : Hid (∀ t ∈ T, TAz w3 (fun b => w.heap.size + 1 ≤ b ∧ (Value.slice p T.length cc).ownBlock ≠ some b) t) := fun t ht => (hts.out t ht).below hb3.out
  have hB3' := hdZ (hBr.out.below hb3.out); have hR3 := hdZ (hRr.out.below hb3.out hRr.out.lt); have hsz3 : Hid (w.heap.size + 1 ≤ w3.heap.size) := Nat.le_trans hszr.out hb3.out.size; clear hpw hB3 hb3 hpr hown hts hBr hRr hszr
  cases av with
  | true =>
   obtain ⟨hcd, tk0, hlk, _, _⟩ := ask_step hav.out; have hps2 : partsS l part sep gk s1.step = some (L1, s') := by have h := hrest'.out; unfold restS at h; rwa [if_pos hav.out] at h
   obtain ⟨m', r2, s2, L2, rfl, hpt, hrest2, hL2⟩ := parts_cons hps2; have hkl : s1.k < l.length := (List.getElem?_eq_some_iff.1 hlk).1; obtain ⟨k1, hk1⟩ := nmZ (s1.k); have hst : Hid (s1.step = ⟨k1 + 1, s1.pl, s1.cd⟩) := by unfold Hid St.step; rw [hk1.out]
   rw [hk1.out] at hkl; have hln := hp3.out.len; have c1 : w3.cell? (Az pb 1) = some (Iz k1) := by rw [← hk1.out]; exact hp3.out.row.cell 1
   have y1 := hp3.out.row.frozen 1; have w1' : IntKind.i64.wrap ((k1 : Int) + 1) = (k1 : Int) + 1 := IntWalk.i64_in _ (by omega); have hlt3 := hp3.out.row.lt; go_wp2_with fail; have hu4 : Hid (But pb w3 (w3.setCell (Az pb 1) (Iz ((k1 : Int) + 1)))) := (But.refl pb w3).setCell _ _
   have hp4 : Hid (ParAt (w3.setCell (Az pb 1) (Iz ((k1 : Int) + 1))) pb A c e l s1.step) := by
    unfold Hid; rw [hst.out]; exact ⟨hp3.out.row.set_ 1 (Iz ((k1 : Int) + 1)), hp3.out.tok.but hu4.out, hln, by show k1 + 1 ≤ l.length; omega⟩
   have hB4 := hdZ (hB3'.out.trans hu4.out); have hown4 := hdZ (own_but hown3.out hu4.out (by omega)); have hts4 : Hid (∀ t ∈ T, TAz (w3.setCell (Az pb 1) (Iz ((k1 : Int) + 1))) (fun b => w.heap.size + 1 ≤ b ∧ (Value.slice p T.length cc).ownBlock ≠ some b) t) := fun t ht => (hts3.out t ht).but hu4.out (fun b hb => by have := hb.1; omega)
   have hR4 := hdZ (hu4.out.blk hR3.out hneR.out); have hsz4 : Hid (w.heap.size + 1 ≤ (w3.setCell (Az pb 1) (Iz ((k1 : Int) + 1))).heap.size) := Nat.le_trans hsz3.out hu4.out.size; obtain ⟨w4, hw4⟩ := nmZ (w3.setCell (Az pb 1) (Iz ((k1 : Int) + 1))); rw [hw4.out] at hp4 hB4 hown4 hts4 hR4 hsz4 ⊢; clear hw4 hu4 c1 y1 w1' hlt3 hp3 hown3 hts3 hB3' hR3 hsz3; refine (hpart.out w4 s1.step (r2, s2) hpt hp4 (he.out.but hB4.out h8.out)).mono ?_; rintro x w5 ⟨hu5, hq5, ⟨uk, up, uf, ux, un, uA, uc, uL⟩, rfl, ht5, hs5⟩; have hB5 := hdZ (hB4.out.trans hu5); have hown5 := hdZ (own_but hown4.out hu5 (by omega)); have hts5 : Hid (∀ t ∈ T, TAz w5 (fun b => w.heap.size + 1 ≤ b ∧ (Value.slice p T.length cc).ownBlock ≠ some b) t) := fun t ht => (hts4.out t ht).but hu5 (fun b hb => by have := hb.1; omega)
   have hR5 := hdZ (hu5.blk hR4.out hneR.out); have hsz5 : Hid (w.heap.size + 1 ≤ w5.heap.size) := Nat.le_trans hsz4.out hu5.size
   have htl : Hid (T.length + 1 ≤ 100000) := by
    have h1 := hL.out; have h2 := hLT.out; rw [h2, hL2, smz] at h1; simp at h1; unfold Hid; omega
   have hq1 : Hid (T.length + 1 ≤ maxLen) := by have := htl.out; unfold Hid maxLen; omega
   have hq2 : Hid ((T.length + 1) * 80 ≤ 140737488355328) := by have := htl.out; unfold Hid; omega
   have hob : Hid (∀ b, w4.heap.size ≤ b → (Value.slice p T.length cc).ownBlock ≠ some b) := own_old hown4.out; have ht5' : Hid (TAz w5 (fun b => w.heap.size + 1 ≤ b ∧ (Value.slice p T.length cc).ownBlock ≠ some b) _) := ht5.mono (fun b _ h2 => ⟨by have := hsz4.out; omega, hob.out b h2⟩); have hq5' := hdZ hq5; have hLn : Hid (L = sSz (T ++ [.mk uk up uf ux un uA uc uL]) ++ L2) := by unfold Hid; rw [hLT.out, hL2, strips_app, hs5, List.append_assoc]; rfl
   clear hu5 hq5 ht5 hs5 hp4 hB4 hown4 hts4 hR4 hsz4 hLT hL2; unfold Tree.cells
   go_wp2_with (at_builtin; go_must (refine wpList_app4 (w.heap.size + 1) rfl (.tmp 25) (.tmp 28) 23 rfl 25 i0 _ 6 80 Tryz.underlying23 hi hz0 hz1 hz2 rfl (by decide) _ T.length (treesL T) rfl w5.heap.size 1 #[Iz uk, Iz up, Sz uf, Sz ux, Iz un, .slice uA uL.length uc] rfl (hown5.out.alloc _) (Blk.new w5 25 _) rfl (tree_one _ _ _ _ _ _ _ _) hq1.out hq2.out (Nat.le_trans hsz5.out (by simp)) ?_); intro v6 w6 ho6 hg6 hv6)
   have hbl : Bz w5 (w5.alloc (.cells #[Iz uk, Iz up, Sz uf, Sz ux, Iz un, .slice uA uL.length uc] 25)) := (Below.refl _ w5).alloc leZ _
   have hWl : Below (w.heap.size + 1) (w5.alloc (.cells #[Iz uk, Iz up, Sz uf, Sz ux, Iz un, .slice uA uL.length uc] 25)) w6 := (Below.refl _ _).grown hg6 (Nat.le_trans hsz5.out hbl.size) (fun k hk => by
    rcases hown5.out.2 with ⟨h1, h2⟩ | ⟨g', cap, cur, h1, h2, _⟩
    ·have : p = none := by simp at h1; exact h1.1
     subst this; change (Value.slice none T.length cc).ownBlock = some k at hk; simp [Value.ownBlock] at hk
    ·have : p = some ⟨g', 0, none⟩ := by simp at h1; exact h1.1
     subst this; change (Value.slice (some ⟨g', 0, none⟩) T.length cc).ownBlock = some k at hk; have : g' = k := by simpa [Value.ownBlock] using hk
     omega)
   have hB6 : Hid (But pb w w6) := but_low (hB5.out.below hbl) (hWl.mono (Nat.le_succ _)); have hR6 : Hid (Blk w6 w.heap.size 25 zeroN) := (hR5.out.alloc _).below hWl (Nat.lt_succ_self _); have hp6 : Hid (ParAt w6 pb A c e l s2) := ⟨(hq5'.out.row.alloc _).below hWl (by omega), hp.out.tok.but hB6.out, hq5'.out.len, hq5'.out.pos⟩; have hsz6 : Hid (w.heap.size + 1 ≤ w6.heap.size) := Nat.le_trans (Nat.le_trans hsz5.out hbl.size) hWl.size
   have hts6 : Hid (∀ t ∈ T ++ [.mk uk up uf ux un uA uc uL], TAz w6 (fun b => w.heap.size + 1 ≤ b ∧ v6.ownBlock ≠ some b) t) := fun t ht => by
    have h0 : TAz w5 (fun b => w.heap.size + 1 ≤ b ∧ (Value.slice p T.length cc).ownBlock ≠ some b) t := by
     rcases List.mem_append.1 ht with h | h
     ·exact hts5.out t h
     ·rw [List.mem_singleton.1 h]; exact ht5'.out
    have h1 := (h0.below hbl).mono (ok' := fun b => (w.heap.size + 1 ≤ b ∧ (Value.slice p T.length cc).ownBlock ≠ some b) ∧ v6.ownBlock ≠ some b) (fun b hb hk => ⟨hk, by
     rcases hv6 with h | h
     ·rw [h]; exact hk.2
     ·rw [h]; intro h'; have := Option.some.inj h'; omega⟩)
    exact (h1.same (w' := w6) (fun q h1 h2 => grown_cell hg6 h1 h2.1.2)).mono (fun b _ hk => ⟨hk.1.1, hk.2⟩)
   have hown6 := hdZ ho6; clear ho6
   go_roundg m'
   case measure => omega
   case rel =>
    refine ⟨T ++ [.mk uk up uf ux un uA uc uL], s2, L2, hrest2, hLn, by simp, ?_, hts6, hp6, hB6, hR6, hsz6⟩; rw [treesL_snoc, List.length_append, List.length_singleton]; exact hown6.out
  | false =>
   obtain ⟨rfl, rfl⟩ : L1 = [] ∧ s' = s1 := by
    have h := hrest'.out; unfold restS at h; rw [if_neg (by rw [hav.out]; simp)] at h; simp only [Option.some.injEq, Prod.mk.injEq] at h; exact ⟨h.1.symm, h.2.symm⟩
   rw [List.append_nil] at hLT; obtain ⟨rc0, rc1, rc2, rc3, rc4, rc5, rf0, rf1, rf2, rf3, rf4, rf5⟩ := cf6 hR3.out; have rlt := hR3.out.lt
   by_cases h1 : T.length = 1
   ·obtain ⟨t, hTt⟩ := List.length_eq_one_iff.1 h1
    have b1 : ((T.length : Int) == 1) = true := by rw [h1]; rfl
    have i1 : (0 : Int) < (T.length : Int) := by omega
    obtain ⟨ga, rfl, hgl, hcs⟩ := own_first hown3.out (by rw [hTt]; rfl : T[0]? = some t) (by omega); have hJ : Hid (joinK k L = stz t) := by unfold Hid; rw [hLT.out, hTt, sSz, sSz]; rfl
    have htr := hdZ (hts3.out t (by rw [hTt]; simp)); obtain ⟨uk, up, uf, ux, un, uA, uc, uL⟩ := t; have g0 : w3.cell? (Az ga 0) = some (Iz uk) := hcs 0 (by omega) _ rfl; have g1 : w3.cell? (Az ga 1) = some (Iz up) := hcs 1 (by omega) _ rfl; have g2 : w3.cell? (Az ga 2) = some (Sz uf) := hcs 2 (by omega) _ rfl; have g3 : w3.cell? (Az ga 3) = some (Sz ux) := hcs 3 (by omega) _ rfl; have g4 : w3.cell? (Az ga 4) = some (Iz un) := hcs 4 (by omega) _ rfl; have g5 : w3.cell? (Az ga 5) = some (.slice uA uL.length uc) := hcs 5 (by omega) _ rfl; clear hcs h1 hTt; go_wp2_with fail; refine bodyPost_ret (rrz rfl _ _ w.heap.size 25 _ _ rfl ((((((hR3.out.set_ 0 _).set_ 1 _).set_ 2 _).set_ 3 _).set_ 4 _).set_ 5 _) Tryz.underlying25 rfl (by kernel_rfl)) rfl ?_; have hh : ∀ b, (w.heap.size + 1 ≤ b ∧ (Value.slice (some (Az ga 0)) T.length cc).ownBlock ≠ some b) → b ≠ w.heap.size := fun b hb => by have := hb.1; omega
    unfold Ruled; refine ⟨((((((hB3'.out.far leZ _ _).far leZ _ _).far leZ _ _).far leZ _ _).far leZ _ _).far leZ _ _), ⟨((((((hp3.out.row.far (p := (Az w.heap.size 0)) hneR.out.symm _).far (p := (Az w.heap.size 1)) hneR.out.symm _).far (p := (Az w.heap.size 2)) hneR.out.symm _).far (p := (Az w.heap.size 3)) hneR.out.symm _).far (p := (Az w.heap.size 4)) hneR.out.symm _).far (p := (Az w.heap.size 5)) hneR.out.symm _), hp.out.tok.but ((((((hB3'.out.far leZ _ _).far leZ _ _).far leZ _ _).far leZ _ _).far leZ _ _).far leZ _ _), hp3.out.len, hp3.out.pos⟩, .mk uk up uf ux un uA uc uL, rfl, ?_, hJ.out.symm⟩; exact ((((((htr.out.far hh _ _).far hh _ _).far hh _ _).far hh _ _).far hh _ _).far hh _ _).mono (fun b _ hk => by have := hk.1; omega)
   ·have b1 : ((T.length : Int) == 1) = false := by simp only [beq_eq_false_iff_ne, ne_eq]; omega
    have hJ : Hid (joinK k L = stz (.mk k 0 [] [] 0 p cc T)) := by
     unfold Hid; rw [hLT.out, stz]
     match T, h1, hT1 with
     | [], _, h => simp at h
     | [t], h, _ => simp at h
     | a :: b :: T', _, _ => rw [sSz, sSz]; rfl
    have htr : Hid (TAz w3 (fun b => w.heap.size + 1 ≤ b) (.mk k 0 [] [] 0 p cc T)) := by
     unfold Hid; obtain ⟨p', c', hv, hr⟩ := own_rows (ok := fun b => w.heap.size + 1 ≤ b) hown3.out (fun b hb => hb) (fun t ht => (hts3.out t ht).mono (fun b _ hk => hk.1)); obtain ⟨rfl, _, rfl⟩ : p = p' ∧ T.length = T.length ∧ cc = c' := by simpa using hv
     rw [TAz]; refine ⟨hr, ?_⟩; unfold maxLen; have h1 := hL.out; rw [hLT.out, smz] at h1; simp at h1; omega
    go_wp2_with fail; refine bodyPost_ret (rrz rfl _ _ w.heap.size 25 _ _ rfl ((((((hR3.out.set_ 0 _).set_ 1 _).set_ 2 _).set_ 3 _).set_ 4 _).set_ 5 _) Tryz.underlying25 rfl (by kernel_rfl)) rfl ?_; have hh : ∀ b, (w.heap.size + 1 ≤ b) → b ≠ w.heap.size := fun b hb => by have := hb; omega
    unfold Ruled; refine ⟨((((((hB3'.out.far leZ _ _).far leZ _ _).far leZ _ _).far leZ _ _).far leZ _ _).far leZ _ _), ⟨((((((hp3.out.row.far (p := (Az w.heap.size 0)) hneR.out.symm _).far (p := (Az w.heap.size 1)) hneR.out.symm _).far (p := (Az w.heap.size 2)) hneR.out.symm _).far (p := (Az w.heap.size 3)) hneR.out.symm _).far (p := (Az w.heap.size 4)) hneR.out.symm _).far (p := (Az w.heap.size 5)) hneR.out.symm _), hp.out.tok.but ((((((hB3'.out.far leZ _ _).far leZ _ _).far leZ _ _).far leZ _ _).far leZ _ _).far leZ _ _), hp3.out.len, hp3.out.pos⟩, .mk k 0 [] [] 0 p cc T, rfl, ?_, hJ.out.symm⟩; exact ((((((htr.out.far hh _ _).far hh _ _).far hh _ _).far hh _ _).far hh _ _).far hh _ _).mono (fun b _ hk => by have := hk; omega)
open Go Go.RowKit Go.BigFrame Go.Maps
def rowS (l : List Tok) (part : St → Option (Rul × St)) (sep : Txt) (k : Int) (n : Nat) (st : St) : Option (Rul × St) := match partsS l part sep n st with
 | none => none
 | some (L, s) => some (joinK k L, s)
theorem parts_len {l : List Tok} {part : St → Option (Rul × St)} {sep : Txt} : ∀ (n : Nat) {st s' : St} {L : List Rul}, partsS l part sep n st = some (L, s') → L.length ≤ n
 | 0, _, _, _, h => by simp [partsS] at h
 | n + 1, st, s', L, h => by
  obtain ⟨m, r, s1, L1, hn, _, hr, rfl⟩ := parts_cons h; obtain rfl : n = m := by omega
  unfold restS at hr
  by_cases ha : askS l s1 0 (wdz sep) = true
  ·rw [if_pos ha] at hr
   have := parts_len n hr; simp; omega
  ·rw [if_neg ha] at hr
   simp only [Option.some.injEq, Prod.mk.injEq] at hr; rw [← hr.1]; simp
theorem row_some {l : List Tok} {part : St → Option (Rul × St)} {sep : Txt} {k : Int} {n : Nat} {st : St} {r : Rul × St} (h : rowS l part sep k n st = some r) : ∃ L s', partsS l part sep n st = some (L, s') ∧ r = (joinK k L, s') := by
 unfold rowS at h
 cases hp : partsS l part sep n st with
 | none => rw [hp] at h; simp at h
 | some x =>
  obtain ⟨L, s'⟩ := x; rw [hp] at h; simp only [Option.some.injEq] at h; exact ⟨L, s', rfl, h.symm⟩
def Reads' (pb : Nat) (A : Option Addr) (c e : Nat) (l : List Tok) (g : Nat) (part : St → Option (Rul × St)) : Prop :=
 ∀ (W : World) (st : St) (r : Rul × St), part st = some r → Hid (ParAt W pb A c e l st) → Hid (Env W) → Cz g #[.pointer (some (Az pb 0))] W (Ruled W pb A c e l r)
theorem all_any (pb : Nat) (A : Option Addr) (c e : Nat) (l : List Tok) (part : St → Option (Rul × St)) (h8 : Hid (8 ≤ pb)) (hone : Hid (Reads' pb A c e l 147 part)) (n : Nat) (hn : n ≤ 100000) : Reads' pb A c e l 115 (rowS l part wAnd 0 n) := by
 intro w st r hr hp he
 obtain ⟨L, s', hps, rfl⟩ := row_some hr
 have hL : Hid (L.length ≤ 100000) := Nat.le_trans (parts_len n hps) hn
 have eg : ∀ (args : Array Value) (w : World), (callFunc 147 args).run Tryz.prog w = .ok (.enter 147 args) w := enters_of Tryz.func147 (by kernel_rfl) rfl
 have hlt0 := hp.out.row.lt
 have hneR : Hid (w.heap.size ≠ pb) := by unfold Hid; omega
 have hR0 : Hid (Blk (w.alloc (.cells zeroN 25)) w.heap.size 25 zeroN) := Blk.new w 25 zeroN
 have hB0 : Hid (But pb w (w.alloc (.cells zeroN 25))) := (But.refl pb w).below ((Below.refl _ w).alloc leZ _)
 have hp0 : Hid (ParAt (w.alloc (.cells zeroN 25)) pb A c e l st) := hp.out.below ((Below.refl _ w).alloc leZ _)
 have hcall := hdZ (row_any pb A c e l part 147 eg h8 hone wAnd 0 n (w.alloc (.cells zeroN 25)) st s' L hps hL hp0 (he.out.but hB0.out h8.out))
 clear hps hr
 go_enter Tryz.func115, Tryz.ntmps115
 go_wp2_with fail
 refine hcall.out.mono ?_
 rintro x w1 ⟨hu1, hp1, ⟨uk, up, uf, ux, un, uA, uc, uL⟩, rfl, ht, hs⟩
 unfold Tree.cells
 have hB1 := hdZ (hB0.out.trans hu1)
 have hR3 := hdZ (hu1.blk hR0.out hneR.out)
 obtain ⟨rc0, rc1, rc2, rc3, rc4, rc5, rf0, rf1, rf2, rf3, rf4, rf5⟩ := cf6 hR3.out
 have rlt := hR3.out.lt
 go_wp2_with fail
 refine bodyPost_ret (rrz rfl _ _ w.heap.size 25 _ _ rfl ((((((hR3.out.set_ 0 _).set_ 1 _).set_ 2 _).set_ 3 _).set_ 4 _).set_ 5 _) Tryz.underlying25 rfl (by kernel_rfl)) rfl ?_
 have hh : ∀ b, ((w.alloc (.cells zeroN 25)).heap.size ≤ b) → b ≠ w.heap.size := fun b hb => by simp at hb; omega
 unfold Ruled
 refine ⟨(((((((hB1.out).far leZ _ _).far leZ _ _).far leZ _ _).far leZ _ _).far leZ _ _).far leZ _ _), ⟨((((((hp1.row.far (p := (Az w.heap.size 0)) hneR.out.symm _).far (p := (Az w.heap.size 1)) hneR.out.symm _).far (p := (Az w.heap.size 2)) hneR.out.symm _).far (p := (Az w.heap.size 3)) hneR.out.symm _).far (p := (Az w.heap.size 4)) hneR.out.symm _).far (p := (Az w.heap.size 5)) hneR.out.symm _), hp.out.tok.but (((((((hB1.out).far leZ _ _).far leZ _ _).far leZ _ _).far leZ _ _).far leZ _ _).far leZ _ _), hp1.len, hp1.pos⟩, .mk uk up uf ux un uA uc uL, rfl, ?_, hs⟩
 exact ((((((ht.far hh _ _).far hh _ _).far hh _ _).far hh _ _).far hh _ _).far hh _ _).mono (fun b _ hk => by simp at hk; omega)
theorem rule_any (pb : Nat) (A : Option Addr) (c e : Nat) (l : List Tok) (part : St → Option (Rul × St)) (h8 : Hid (8 ≤ pb)) (hone : Hid (Reads' pb A c e l 115 part)) (n : Nat) (hn : n ≤ 100000) : Reads' pb A c e l 67 (rowS l part wOr 1 n) := by
 intro w st r hr hp he
 obtain ⟨L, s', hps, rfl⟩ := row_some hr
 have hL : Hid (L.length ≤ 100000) := Nat.le_trans (parts_len n hps) hn
 have eg : ∀ (args : Array Value) (w : World), (callFunc 115 args).run Tryz.prog w = .ok (.enter 115 args) w := enters_of Tryz.func115 (by kernel_rfl) rfl
 have hlt0 := hp.out.row.lt
 have hneR : Hid (w.heap.size ≠ pb) := by unfold Hid; omega
 have hR0 : Hid (Blk (w.alloc (.cells zeroN 25)) w.heap.size 25 zeroN) := Blk.new w 25 zeroN
 have hB0 : Hid (But pb w (w.alloc (.cells zeroN 25))) := (But.refl pb w).below ((Below.refl _ w).alloc leZ _)
 have hp0 : Hid (ParAt (w.alloc (.cells zeroN 25)) pb A c e l st) := hp.out.below ((Below.refl _ w).alloc leZ _)
 have hcall := hdZ (row_any pb A c e l part 115 eg h8 hone wOr 1 n (w.alloc (.cells zeroN 25)) st s' L hps hL hp0 (he.out.but hB0.out h8.out))
 clear hps hr
 go_enter Tryz.func67, Tryz.ntmps67
 go_wp2_with fail
 refine hcall.out.mono ?_
 rintro x w1 ⟨hu1, hp1, ⟨uk, up, uf, ux, un, uA, uc, uL⟩, rfl, ht, hs⟩
 unfold Tree.cells
 have hB1 := hdZ (hB0.out.trans hu1)
 have hR3 := hdZ (hu1.blk hR0.out hneR.out)
 obtain ⟨rc0, rc1, rc2, rc3, rc4, rc5, rf0, rf1, rf2, rf3, rf4, rf5⟩ := cf6 hR3.out
 have rlt := hR3.out.lt
 go_wp2_with fail
 refine bodyPost_ret (rrz rfl _ _ w.heap.size 25 _ _ rfl ((((((hR3.out.set_ 0 _).set_ 1 _).set_ 2 _).set_ 3 _).set_ 4 _).set_ 5 _) Tryz.underlying25 rfl (by kernel_rfl)) rfl ?_
 have hh : ∀ b, ((w.alloc (.cells zeroN 25)).heap.size ≤ b) → b ≠ w.heap.size := fun b hb => by simp at hb; omega
 unfold Ruled
 refine ⟨(((((((hB1.out).far leZ _ _).far leZ _ _).far leZ _ _).far leZ _ _).far leZ _ _).far leZ _ _), ⟨((((((hp1.row.far (p := (Az w.heap.size 0)) hneR.out.symm _).far (p := (Az w.heap.size 1)) hneR.out.symm _).far (p := (Az w.heap.size 2)) hneR.out.symm _).far (p := (Az w.heap.size 3)) hneR.out.symm _).far (p := (Az w.heap.size 4)) hneR.out.symm _).far (p := (Az w.heap.size 5)) hneR.out.symm _), hp.out.tok.but (((((((hB1.out).far leZ _ _).far leZ _ _).far leZ _ _).far leZ _ _).far leZ _ _).far leZ _ _), hp1.len, hp1.pos⟩, .mk uk up uf ux un uA uc uL, rfl, ?_, hs⟩
 exact ((((((ht.far hh _ _).far hh _ _).far hh _ _).far hh _ _).far hh _ _).far hh _ _).mono (fun b _ hk => by simp at hk; omega)
end Go.Proofs.YtjkmhlfjheiekaaGreatDoor

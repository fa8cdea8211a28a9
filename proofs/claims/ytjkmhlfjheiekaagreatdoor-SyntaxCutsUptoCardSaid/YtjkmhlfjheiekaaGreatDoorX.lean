import Derived.Test.YtjkmhlfjheiekaaGreatDoorV
set_option maxRecDepth 1000000
set_option maxHeartbeats 51200000
namespace Go.Proofs.YtjkmhlfjheiekaaGreatDoor
open Go Go.RowKit Go.BigFrame Go.Maps
def oneS (e : Nat) (l : List Tok) : Nat → St → Option (Rul × St)
 | 0, _ => none
 | n + 1, st =>
  if (askS l st 0 (wdz wNot) && !askS l st 1 compB) = true then (match oneS e l n st.step with
   | none => none
   | some (r, s') => some (.mk 2 0 [] [] 0 [r], s'))
  else if askS l st 0 (signB sOpen) = true then (match rowS l (rowS l (oneS e l n) wAnd 0 n) wOr 1 n st.step with
   | none => none
   | some (r, s') => some (r, (tkz e l (signB sShut) s').2))
  else some (atomS e l st)
theorem ParAt.pass {w : World} {pb : Nat} {A : Option Addr} {c e : Nat} {l : List Tok} {st : St} (h : ParAt w pb A c e l st) (hk : st.k < l.length) : ParAt (w.setCell (Az pb 1) (Iz ((st.k : Int) + 1))) pb A c e l st.step :=
 ⟨h.row.set_ 1 (Iz ((st.k : Int) + 1)), h.tok.but ((But.refl pb w).setCell _ _), h.len, hk⟩
theorem one_any (pb : Nat) (A : Option Addr) (c e : Nat) (l : List Tok) (h8 : Hid (8 ≤ pb)) (hok : Hid (TokOk l)) : ∀ n : Nat, n ≤ 100000 → Reads' pb A c e l 147 (oneS e l n) := by
 intro n
 induction n with
 | zero => intro _ W st r h; simp [oneS] at h
 | succ n ih =>
  intro hn w st r hr hp he; have ih' := hdZ (ih (by omega)); have hrule : Hid (Reads' pb A c e l 67 (rowS l (rowS l (oneS e l n) wAnd 0 n) wOr 1 n)) := rule_any pb A c e l _ h8 (all_any pb A c e l _ h8 ih' n (by omega)) n (by omega); clear ih; have e131 := enters_of Tryz.func131 (by kernel_rfl) rfl; have e161 := enters_of Tryz.func161 (by kernel_rfl) rfl; have e164 := enters_of Tryz.func164 (by kernel_rfl) rfl; have hlt0 := hp.out.row.lt; have hln := hp.out.len; have hneR : Hid (w.heap.size ≠ pb) := by unfold Hid; omega
  have hR0 : Hid (Blk (w.alloc (.cells zeroN 25)) w.heap.size 25 zeroN) := Blk.new w 25 zeroN; have hB0 : Hid (But pb w (w.alloc (.cells zeroN 25))) := (But.refl pb w).below ((Below.refl _ w).alloc leZ _); have hp0 : Hid (ParAt (w.alloc (.cells zeroN 25)) pb A c e l st) := hp.out.below ((Below.refl _ w).alloc leZ _); have hsz0 : Hid ((w.alloc (.cells zeroN 25)).heap.size = w.heap.size + 1) := by unfold Hid; simp
  obtain ⟨wv, hwv⟩ := nmZ (askS l st 0 (wdz wNot)); obtain ⟨cv, hcv⟩ := nmZ (askS l st 1 compB); obtain ⟨pv, hpv⟩ := nmZ (askS l st 0 (signB sOpen)); rw [oneS, hwv.out, hcv.out, hpv.out] at hr; have hr' := hdZ hr; clear hr
  go_enter Tryz.func147, Tryz.ntmps147
  go_wp2_with fail; change Cz 87 _ ((w.alloc (.cells zeroN 25)).alloc _) _; obtain ⟨wa, hwa⟩ := nmZ (w.alloc (.cells zeroN 25)); rw [hwa.out] at hR0 hB0 hp0 hsz0 ⊢; rw [← hsz0.out]; clear hwa; refine (word_any _ _ _ _).mono ?_; rintro x w2 ⟨rfl, rfl⟩; go_wp2_with fail; have hpw := hdZ (hp0.out.below (bwz wa wNot)); refine (sees_any (wOne wa wNot) pb A c e l st 131 #[.pointer (some ⟨wa.heap.size + 1, 0, none⟩)] e131 (wdz wNot) hpw (word_new wa wNot)).mono ?_; rintro x w3 ⟨rfl, hB3⟩; rw [hwv.out]; have hb3 : Hid (Bz wa w3) := (bwz wa wNot).trans (hB3.mono (by rw [size_wOne]; omega)); have hp3 := hdZ (hp0.out.below hb3.out); have hB := hdZ (hB0.out.below hb3.out); have hR := hdZ (hR0.out.below hb3.out hR0.out.lt); have hsz3 : Hid (w.heap.size + 1 ≤ w3.heap.size) := by have := hb3.out.size; have := hsz0.out; unfold Hid; omega
  clear hpw hB3 hb3 hp0 hB0 hR0
  cases wv with
  | true =>
   go_wp2_with fail; refine (ask_any w3 pb A c e l st 1 (by omega) 164 #[] e164 compB hp3 (comp_fits w3)).mono ?_; rintro x w4 ⟨rfl, hb4⟩; rw [hcv.out]; have hp4 := hdZ (hp3.out.below hb4); have hB := hdZ (hB.out.below hb4); have hR := hdZ (hR.out.below hb4 hR.out.lt); have hsz3 : Hid (w.heap.size + 1 ≤ w4.heap.size) := Nat.le_trans hsz3.out hb4.size; clear hb4 hp3
   cases cv with
   | false =>
    obtain ⟨r1, s1, h1, rfl⟩ : ∃ r1 s1, oneS e l n st.step = some (r1, s1) ∧ r = (.mk 2 0 [] [] 0 [r1], s1) := by
     have h := hr'.out; rw [if_pos (by rfl)] at h
     cases hq : oneS e l n st.step with
     | none => rw [hq] at h; simp at h
     | some y => obtain ⟨a, b⟩ := y; rw [hq] at h; simp only [Option.some.injEq] at h; exact ⟨a, b, rfl, h.symm⟩
    obtain ⟨_, tk0, hlk, _, _⟩ := ask_step hwv.out; have hk : st.k < l.length := (List.getElem?_eq_some_iff.1 hlk).1; have c1 : w4.cell? (Az pb 1) = some (Iz st.k) := hp4.out.row.cell 1; have y1 := hp4.out.row.frozen 1; have hps := hp.out.pos; have w1x : IntKind.i64.wrap ((st.k : Int) + 1) = (st.k : Int) + 1 := IntWalk.i64_in _ (by omega); have plt := hp4.out.row.lt; go_wp2_with fail; have hu5 : Hid (But pb w4 (w4.setCell (Az pb 1) (Iz ((st.k : Int) + 1)))) := (But.refl pb w4).setCell _ _; have hp5 : Hid (ParAt (w4.setCell (Az pb 1) (Iz ((st.k : Int) + 1))) pb A c e l st.step) := hp4.out.pass hk; have hB5 := hdZ (hB.out.trans hu5.out); have hR5 := hdZ (hu5.out.blk hR.out hneR.out); have hsz5 : Hid (w.heap.size + 1 ≤ (w4.setCell (Az pb 1) (Iz ((st.k : Int) + 1))).heap.size) := Nat.le_trans hsz3.out hu5.out.size; obtain ⟨w5, hw5⟩ := nmZ ((w4.setCell (Az pb 1) (Iz ((st.k : Int) + 1)))); rw [hw5.out] at hp5 hB5 hR5 hsz5 ⊢; clear hw5 hu5 c1 y1 w1x plt; refine (ih'.out w5 st.step (r1, s1) h1 hp5 (he.out.but hB5.out h8.out)).mono ?_; rintro x w6 ⟨hu6, hq6, ⟨uk, up, uf, ux, un, uA, uc, uL⟩, rfl, ht6, hs6⟩; have hB := hdZ (hB5.out.trans hu6); have hR := hdZ (hu6.blk hR5.out hneR.out); have hpz := hdZ hq6; have hsz6 : Hid (w.heap.size + 1 ≤ w6.heap.size) := Nat.le_trans hsz5.out hu6.size; have hn : ∀ V : World, V.heap.size = w6.heap.size → Blk (V.alloc (.cells (z1z uk up uf ux un uA uL.length uc) 25)) w6.heap.size 25 (z1z uk up uf ux un uA uL.length uc) := fun V hV => by rw [← hV]; exact Blk.new V 25 _
    have hsub : Hid (TAz w6 (fun b => w.heap.size + 1 ≤ b) (.mk uk up uf ux un uA uc uL)) := ht6.mono (fun b _ hb => Nat.le_trans hsz5.out hb); have hstr : Hid (stz (.mk 2 0 [] [] 0 (some (Az w6.heap.size 0)) 1 [.mk uk up uf ux un uA uc uL]) = .mk 2 0 [] [] 0 [r1]) := by unfold Hid; rw [stz, sSz, sSz, hs6]
    clear hu6 hq6 ht6 hs6 hp5 hB5 hR5; unfold Tree.cells; obtain ⟨rc0, rc1, rc2, rc3, rc4, rc5, rf0, rf1, rf2, rf3, rf4, rf5⟩ := cf6 hR.out; have rlt := hR.out.lt; go_wp2_with fail; refine bodyPost_ret (rrz rfl _ _ w.heap.size 25 _ _ rfl (((((((hR.out.set_ 0 _).set_ 1 _).set_ 2 _).set_ 3 _).set_ 4 _).set_ 5 _).alloc _) Tryz.underlying25 rfl (by kernel_rfl)) rfl ?_; have hh : ∀ b, (w.heap.size + 1 ≤ b) → b ≠ w.heap.size := fun b hb => by omega
    unfold Ruled; refine ⟨(((((((hB.out.far leZ _ _).far leZ _ _).far leZ _ _).far leZ _ _).far leZ _ _).far leZ _ _).below ((Below.refl _ _).alloc leZ _)), ⟨(((((((hpz.out.row.far (p := (Az w.heap.size 0)) hneR.out.symm _).far (p := (Az w.heap.size 1)) hneR.out.symm _).far (p := (Az w.heap.size 2)) hneR.out.symm _).far (p := (Az w.heap.size 3)) hneR.out.symm _).far (p := (Az w.heap.size 4)) hneR.out.symm _).far (p := (Az w.heap.size 5)) hneR.out.symm _).alloc _), hp.out.tok.but (((((((hB.out.far leZ _ _).far leZ _ _).far leZ _ _).far leZ _ _).far leZ _ _).far leZ _ _).below ((Below.refl _ _).alloc leZ _)), hpz.out.len, hpz.out.pos⟩, .mk 2 0 [] [] 0 (some (Az w6.heap.size 0)) 1 [.mk uk up uf ux un uA uc uL], rfl, ?_, hstr.out⟩; refine TAz.mono (ok := fun b => w.heap.size + 1 ≤ b) (fun b _ hk => by omega) ?_; rw [TAz, RAz, RAz]; exact ⟨⟨⟨w6.heap.size, 0, rfl, hsz6.out, (hn _ (by simp)).cell 0, (hn _ (by simp)).cell 1, (hn _ (by simp)).cell 2, (hn _ (by simp)).cell 3, (hn _ (by simp)).cell 4, (hn _ (by simp)).cell 5⟩, ((((((hsub.out.far hh _ _).far hh _ _).far hh _ _).far hh _ _).far hh _ _).far hh _ _).below ((Below.refl _ _).alloc leZ _), trivial⟩, by simp [maxLen]⟩
   | true =>
    go_wp2_with fail; refine (sgn_any _ _ _ _).mono ?_; rintro x w4 ⟨rfl, rfl⟩; go_wp2_with fail; have hpw := hdZ (hp4.out.below (bwz w4 sOpen)); refine (sees_any (wOne w4 sOpen) pb A c e l st 161 #[.pointer (some ⟨w4.heap.size + 1, 0, none⟩)] e161 (signB sOpen) hpw (sign_new w4 sOpen)).mono ?_; rintro x w7 ⟨rfl, hB7⟩; rw [hpv.out]; have hb7 : Hid (Bz w4 w7) := (bwz w4 sOpen).trans (hB7.mono (by rw [size_wOne]; omega)); have hp7 := hdZ (hp4.out.below hb7.out); have hB := hdZ (hB.out.below hb7.out); have hR := hdZ (hR.out.below hb7.out hR.out.lt); have hsz3 : Hid (w.heap.size + 1 ≤ w7.heap.size) := Nat.le_trans hsz3.out hb7.out.size; clear hpw hB7 hb7
    cases pv with
    | true =>
     obtain ⟨r1, s1, h1, rfl⟩ : ∃ r1 s1, rowS l (rowS l (oneS e l n) wAnd 0 n) wOr 1 n st.step = some (r1, s1) ∧ r = (r1, (tkz e l (signB sShut) s1).2) := by
      have h := hr'.out; rw [if_neg (by simp), if_pos rfl] at h
      cases hq : rowS l (rowS l (oneS e l n) wAnd 0 n) wOr 1 n st.step with
      | none => rw [hq] at h; simp at h
      | some y => obtain ⟨a, b⟩ := y; rw [hq] at h; simp only [Option.some.injEq] at h; exact ⟨a, b, rfl, h.symm⟩
     obtain ⟨_, tk0, hlk, _, _⟩ := ask_step hpv.out; have hk : st.k < l.length := (List.getElem?_eq_some_iff.1 hlk).1; have c1 : w7.cell? (Az pb 1) = some (Iz st.k) := hp7.out.row.cell 1; have y1 := hp7.out.row.frozen 1; have hps := hp.out.pos; have w1x : IntKind.i64.wrap ((st.k : Int) + 1) = (st.k : Int) + 1 := IntWalk.i64_in _ (by omega); have plt := hp7.out.row.lt; go_wp2_with fail; have hu5 : Hid (But pb w7 (w7.setCell (Az pb 1) (Iz ((st.k : Int) + 1)))) := (But.refl pb w7).setCell _ _; have hp5 : Hid (ParAt (w7.setCell (Az pb 1) (Iz ((st.k : Int) + 1))) pb A c e l st.step) := hp7.out.pass hk; have hB5 := hdZ (hB.out.trans hu5.out); have hR5 := hdZ (hu5.out.blk hR.out hneR.out); have hsz5 : Hid (w.heap.size + 1 ≤ (w7.setCell (Az pb 1) (Iz ((st.k : Int) + 1))).heap.size) := Nat.le_trans hsz3.out hu5.out.size; obtain ⟨w5, hw5⟩ := nmZ ((w7.setCell (Az pb 1) (Iz ((st.k : Int) + 1)))); rw [hw5.out] at hp5 hB5 hR5 hsz5 ⊢; clear hw5 hu5 c1 y1 w1x plt; refine (hrule.out w5 st.step (r1, s1) h1 hp5 (he.out.but hB5.out h8.out)).mono ?_; rintro x w6 ⟨hu6, hq6, ⟨uk, up, uf, ux, un, uA, uc, uL⟩, rfl, ht6, hs6⟩; have hlt6 := hq6.row.lt; have hbl : Hid (Bz w6 (w6.alloc (.cells (z1z uk up uf ux un uA uL.length uc) 25))) := (Below.refl _ w6).alloc leZ _; have hN : Hid (Blk (w6.alloc (.cells (z1z uk up uf ux un uA uL.length uc) 25)) w6.heap.size 25 (z1z uk up uf ux un uA uL.length uc)) := Blk.new w6 25 _; have hB := hdZ ((hB5.out.trans hu6).below hbl.out); have hR : Hid (Blk (w6.alloc (.cells (z1z uk up uf ux un uA uL.length uc) 25)) w.heap.size 25 zeroN) := (hu6.blk hR5.out hneR.out).alloc _; have hpn := hdZ (hq6.below hbl.out); have htn : Hid (TAz (w6.alloc (.cells (z1z uk up uf ux un uA uL.length uc) 25)) (fun b => w.heap.size + 1 ≤ b) (.mk uk up uf ux un uA uc uL)) := (ht6.mono (fun b _ hb => Nat.le_trans hsz5.out hb)).below hbl.out; have hszn : Hid ((w6.alloc (.cells (z1z uk up uf ux un uA uL.length uc) 25)).heap.size = w6.heap.size + 1) := by unfold Hid; simp
     unfold Tree.cells; go_wp2_with fail; obtain ⟨wn, hwn⟩ := nmZ ((w6.alloc (.cells (z1z uk up uf ux un uA uL.length uc) 25))); rw [hwn.out] at hbl hN hB hR hpn htn hszn ⊢; rw [← hszn.out]; clear hwn hu6 hq6 ht6 hp5 hB5 hR5; refine (sgn_any _ _ _ _).mono ?_; rintro x w9 ⟨rfl, rfl⟩; go_wp2_with fail; have hpv2 := hdZ (hpn.out.below (bwz wn sShut)); refine (tnz (wOne wn sShut) pb A c e l s1 161 #[.pointer (some ⟨wn.heap.size + 1, 0, none⟩)] e161 (signB sShut) hpv2 (sign_new wn sShut)).mono ?_; rintro x w8 ⟨rfl, hu8, hq8⟩; have hN := hdZ (hu8.blk (hN.out.below (bwz wn sShut) hN.out.lt) (by omega)); have hR := hdZ (hu8.blk (hR.out.below (bwz wn sShut) hR.out.lt) hneR.out); have hB := hdZ ((hB.out.below (bwz wn sShut)).trans hu8); have hpz := hdZ hq8; have htz := hdZ ((htn.out.below (bwz wn sShut)).but hu8 (fun b hb => by omega)); have hstr := hdZ hs6; clear hu8 hq8 hs6 hpv2 hpn htn; obtain ⟨nc0, nc1, nc2, nc3, nc4, nc5⟩ := cs6 hN.out; obtain ⟨rc0, rc1, rc2, rc3, rc4, rc5, rf0, rf1, rf2, rf3, rf4, rf5⟩ := cf6 hR.out; have rlt := hR.out.lt; go_wp2_with fail; refine bodyPost_ret (rrz rfl _ _ w.heap.size 25 _ _ rfl ((((((hR.out.set_ 0 _).set_ 1 _).set_ 2 _).set_ 3 _).set_ 4 _).set_ 5 _) Tryz.underlying25 rfl (by kernel_rfl)) rfl ?_; have hh : ∀ b, (w.heap.size + 1 ≤ b) → b ≠ w.heap.size := fun b hb => by omega
     unfold Ruled; refine ⟨((((((hB.out.far leZ _ _).far leZ _ _).far leZ _ _).far leZ _ _).far leZ _ _).far leZ _ _), ⟨((((((hpz.out.row.far (p := (Az w.heap.size 0)) hneR.out.symm _).far (p := (Az w.heap.size 1)) hneR.out.symm _).far (p := (Az w.heap.size 2)) hneR.out.symm _).far (p := (Az w.heap.size 3)) hneR.out.symm _).far (p := (Az w.heap.size 4)) hneR.out.symm _).far (p := (Az w.heap.size 5)) hneR.out.symm _), hp.out.tok.but ((((((hB.out.far leZ _ _).far leZ _ _).far leZ _ _).far leZ _ _).far leZ _ _).far leZ _ _), hpz.out.len, hpz.out.pos⟩, .mk uk up uf ux un uA uc uL, rfl, ?_, hstr.out⟩; exact ((((((htz.out.far hh _ _).far hh _ _).far hh _ _).far hh _ _).far hh _ _).far hh _ _).mono (fun b _ hk => by omega)
    | false =>
     obtain rfl : r = atomS e l st := by
      have h := hr'.out; rw [if_neg (by simp), if_neg (by simp)] at h; exact (Option.some.inj h).symm
     go_wp2_with fail; refine (atom_any w7 pb A c e l st hp7 hok (he.out.but hB.out h8.out) h8).mono ?_; rintro x w8 ⟨hu8, hq8, ⟨uk, up, uf, ux, un, uA, uc, uL⟩, rfl, ht8, hs8⟩; have hB := hdZ (hB.out.trans hu8); have hR := hdZ (hu8.blk hR.out hneR.out); have hpz := hdZ hq8; have htz : Hid (TAz w8 (fun b => w.heap.size + 1 ≤ b) (.mk uk up uf ux un uA uc uL)) := ht8.mono (fun b _ hb => Nat.le_trans hsz3.out hb); have hstr := hdZ hs8; clear hu8 hq8 ht8 hs8; unfold Tree.cells; obtain ⟨rc0, rc1, rc2, rc3, rc4, rc5, rf0, rf1, rf2, rf3, rf4, rf5⟩ := cf6 hR.out; have rlt := hR.out.lt; go_wp2_with fail; refine bodyPost_ret (rrz rfl _ _ w.heap.size 25 _ _ rfl ((((((hR.out.set_ 0 _).set_ 1 _).set_ 2 _).set_ 3 _).set_ 4 _).set_ 5 _) Tryz.underlying25 rfl (by kernel_rfl)) rfl ?_; have hh : ∀ b, (w.heap.size + 1 ≤ b) → b ≠ w.heap.size := fun b hb => by omega
     unfold Ruled; refine ⟨((((((hB.out.far leZ _ _).far leZ _ _).far leZ _ _).far leZ _ _).far leZ _ _).far leZ _ _), ⟨((((((hpz.out.row.far (p := (Az w.heap.size 0)) hneR.out.symm _).far (p := (Az w.heap.size 1)) hneR.out.symm _).far (p := (Az w.heap.size 2)) hneR.out.symm _).far (p := (Az w.heap.size 3)) hneR.out.symm _).far (p := (Az w.heap.size 4)) hneR.out.symm _).far (p := (Az w.heap.size 5)) hneR.out.symm _), hp.out.tok.but ((((((hB.out.far leZ _ _).far leZ _ _).far leZ _ _).far leZ _ _).far leZ _ _).far leZ _ _), hpz.out.len, hpz.out.pos⟩, .mk uk up uf ux un uA uc uL, rfl, ?_, hstr.out⟩; exact ((((((htz.out.far hh _ _).far hh _ _).far hh _ _).far hh _ _).far hh _ _).far hh _ _).mono (fun b _ hk => by omega)
  | false =>
   go_wp2_with fail; refine (sgn_any _ _ _ _).mono ?_; rintro x w4 ⟨rfl, rfl⟩; go_wp2_with fail; have hpw := hdZ (hp3.out.below (bwz w3 sOpen)); refine (sees_any (wOne w3 sOpen) pb A c e l st 161 #[.pointer (some ⟨w3.heap.size + 1, 0, none⟩)] e161 (signB sOpen) hpw (sign_new w3 sOpen)).mono ?_; rintro x w7 ⟨rfl, hB7⟩; rw [hpv.out]; have hb7 : Hid (Bz w3 w7) := (bwz w3 sOpen).trans (hB7.mono (by rw [size_wOne]; omega)); have hp7 := hdZ (hp3.out.below hb7.out); have hB := hdZ (hB.out.below hb7.out); have hR := hdZ (hR.out.below hb7.out hR.out.lt); have hsz3 : Hid (w.heap.size + 1 ≤ w7.heap.size) := Nat.le_trans hsz3.out hb7.out.size; clear hpw hB7 hb7
   cases pv with
   | true =>
    obtain ⟨r1, s1, h1, rfl⟩ : ∃ r1 s1, rowS l (rowS l (oneS e l n) wAnd 0 n) wOr 1 n st.step = some (r1, s1) ∧ r = (r1, (tkz e l (signB sShut) s1).2) := by
     have h := hr'.out; rw [if_neg (by simp), if_pos rfl] at h
     cases hq : rowS l (rowS l (oneS e l n) wAnd 0 n) wOr 1 n st.step with
     | none => rw [hq] at h; simp at h
     | some y => obtain ⟨a, b⟩ := y; rw [hq] at h; simp only [Option.some.injEq] at h; exact ⟨a, b, rfl, h.symm⟩
    obtain ⟨_, tk0, hlk, _, _⟩ := ask_step hpv.out; have hk : st.k < l.length := (List.getElem?_eq_some_iff.1 hlk).1; have c1 : w7.cell? (Az pb 1) = some (Iz st.k) := hp7.out.row.cell 1; have y1 := hp7.out.row.frozen 1; have hps := hp.out.pos; have w1x : IntKind.i64.wrap ((st.k : Int) + 1) = (st.k : Int) + 1 := IntWalk.i64_in _ (by omega); have plt := hp7.out.row.lt; go_wp2_with fail; have hu5 : Hid (But pb w7 (w7.setCell (Az pb 1) (Iz ((st.k : Int) + 1)))) := (But.refl pb w7).setCell _ _; have hp5 : Hid (ParAt (w7.setCell (Az pb 1) (Iz ((st.k : Int) + 1))) pb A c e l st.step) := hp7.out.pass hk; have hB5 := hdZ (hB.out.trans hu5.out); have hR5 := hdZ (hu5.out.blk hR.out hneR.out); have hsz5 : Hid (w.heap.size + 1 ≤ (w7.setCell (Az pb 1) (Iz ((st.k : Int) + 1))).heap.size) := Nat.le_trans hsz3.out hu5.out.size; obtain ⟨w5, hw5⟩ := nmZ ((w7.setCell (Az pb 1) (Iz ((st.k : Int) + 1)))); rw [hw5.out] at hp5 hB5 hR5 hsz5 ⊢; clear hw5 hu5 c1 y1 w1x plt; refine (hrule.out w5 st.step (r1, s1) h1 hp5 (he.out.but hB5.out h8.out)).mono ?_; rintro x w6 ⟨hu6, hq6, ⟨uk, up, uf, ux, un, uA, uc, uL⟩, rfl, ht6, hs6⟩; have hlt6 := hq6.row.lt; have hbl : Hid (Bz w6 (w6.alloc (.cells (z1z uk up uf ux un uA uL.length uc) 25))) := (Below.refl _ w6).alloc leZ _; have hN : Hid (Blk (w6.alloc (.cells (z1z uk up uf ux un uA uL.length uc) 25)) w6.heap.size 25 (z1z uk up uf ux un uA uL.length uc)) := Blk.new w6 25 _; have hB := hdZ ((hB5.out.trans hu6).below hbl.out); have hR : Hid (Blk (w6.alloc (.cells (z1z uk up uf ux un uA uL.length uc) 25)) w.heap.size 25 zeroN) := (hu6.blk hR5.out hneR.out).alloc _; have hpn := hdZ (hq6.below hbl.out); have htn : Hid (TAz (w6.alloc (.cells (z1z uk up uf ux un uA uL.length uc) 25)) (fun b => w.heap.size + 1 ≤ b) (.mk uk up uf ux un uA uc uL)) := (ht6.mono (fun b _ hb => Nat.le_trans hsz5.out hb)).below hbl.out; have hszn : Hid ((w6.alloc (.cells (z1z uk up uf ux un uA uL.length uc) 25)).heap.size = w6.heap.size + 1) := by unfold Hid; simp
    unfold Tree.cells; go_wp2_with fail; obtain ⟨wn, hwn⟩ := nmZ ((w6.alloc (.cells (z1z uk up uf ux un uA uL.length uc) 25))); rw [hwn.out] at hbl hN hB hR hpn htn hszn ⊢; rw [← hszn.out]; clear hwn hu6 hq6 ht6 hp5 hB5 hR5; refine (sgn_any _ _ _ _).mono ?_; rintro x w9 ⟨rfl, rfl⟩; go_wp2_with fail; have hpv2 := hdZ (hpn.out.below (bwz wn sShut)); refine (tnz (wOne wn sShut) pb A c e l s1 161 #[.pointer (some ⟨wn.heap.size + 1, 0, none⟩)] e161 (signB sShut) hpv2 (sign_new wn sShut)).mono ?_; rintro x w8 ⟨rfl, hu8, hq8⟩; have hN := hdZ (hu8.blk (hN.out.below (bwz wn sShut) hN.out.lt) (by omega)); have hR := hdZ (hu8.blk (hR.out.below (bwz wn sShut) hR.out.lt) hneR.out); have hB := hdZ ((hB.out.below (bwz wn sShut)).trans hu8); have hpz := hdZ hq8; have htz := hdZ ((htn.out.below (bwz wn sShut)).but hu8 (fun b hb => by omega)); have hstr := hdZ hs6; clear hu8 hq8 hs6 hpv2 hpn htn; obtain ⟨nc0, nc1, nc2, nc3, nc4, nc5⟩ := cs6 hN.out; obtain ⟨rc0, rc1, rc2, rc3, rc4, rc5, rf0, rf1, rf2, rf3, rf4, rf5⟩ := cf6 hR.out; have rlt := hR.out.lt; go_wp2_with fail; refine bodyPost_ret (rrz rfl _ _ w.heap.size 25 _ _ rfl ((((((hR.out.set_ 0 _).set_ 1 _).set_ 2 _).set_ 3 _).set_ 4 _).set_ 5 _) Tryz.underlying25 rfl (by kernel_rfl)) rfl ?_; have hh : ∀ b, (w.heap.size + 1 ≤ b) → b ≠ w.heap.size := fun b hb => by omega
    unfold Ruled; refine ⟨((((((hB.out.far leZ _ _).far leZ _ _).far leZ _ _).far leZ _ _).far leZ _ _).far leZ _ _), ⟨((((((hpz.out.row.far (p := (Az w.heap.size 0)) hneR.out.symm _).far (p := (Az w.heap.size 1)) hneR.out.symm _).far (p := (Az w.heap.size 2)) hneR.out.symm _).far (p := (Az w.heap.size 3)) hneR.out.symm _).far (p := (Az w.heap.size 4)) hneR.out.symm _).far (p := (Az w.heap.size 5)) hneR.out.symm _), hp.out.tok.but ((((((hB.out.far leZ _ _).far leZ _ _).far leZ _ _).far leZ _ _).far leZ _ _).far leZ _ _), hpz.out.len, hpz.out.pos⟩, .mk uk up uf ux un uA uc uL, rfl, ?_, hstr.out⟩; exact ((((((htz.out.far hh _ _).far hh _ _).far hh _ _).far hh _ _).far hh _ _).far hh _ _).mono (fun b _ hk => by omega)
   | false =>
    obtain rfl : r = atomS e l st := by
     have h := hr'.out; rw [if_neg (by simp), if_neg (by simp)] at h; exact (Option.some.inj h).symm
    go_wp2_with fail; refine (atom_any w7 pb A c e l st hp7 hok (he.out.but hB.out h8.out) h8).mono ?_; rintro x w8 ⟨hu8, hq8, ⟨uk, up, uf, ux, un, uA, uc, uL⟩, rfl, ht8, hs8⟩; have hB := hdZ (hB.out.trans hu8); have hR := hdZ (hu8.blk hR.out hneR.out); have hpz := hdZ hq8; have htz : Hid (TAz w8 (fun b => w.heap.size + 1 ≤ b) (.mk uk up uf ux un uA uc uL)) := ht8.mono (fun b _ hb => Nat.le_trans hsz3.out hb); have hstr := hdZ hs8; clear hu8 hq8 ht8 hs8; unfold Tree.cells; obtain ⟨rc0, rc1, rc2, rc3, rc4, rc5, rf0, rf1, rf2, rf3, rf4, rf5⟩ := cf6 hR.out; have rlt := hR.out.lt; go_wp2_with fail; refine bodyPost_ret (rrz rfl _ _ w.heap.size 25 _ _ rfl ((((((hR.out.set_ 0 _).set_ 1 _).set_ 2 _).set_ 3 _).set_ 4 _).set_ 5 _) Tryz.underlying25 rfl (by kernel_rfl)) rfl ?_; have hh : ∀ b, (w.heap.size + 1 ≤ b) → b ≠ w.heap.size := fun b hb => by omega
    unfold Ruled; refine ⟨((((((hB.out.far leZ _ _).far leZ _ _).far leZ _ _).far leZ _ _).far leZ _ _).far leZ _ _), ⟨((((((hpz.out.row.far (p := (Az w.heap.size 0)) hneR.out.symm _).far (p := (Az w.heap.size 1)) hneR.out.symm _).far (p := (Az w.heap.size 2)) hneR.out.symm _).far (p := (Az w.heap.size 3)) hneR.out.symm _).far (p := (Az w.heap.size 4)) hneR.out.symm _).far (p := (Az w.heap.size 5)) hneR.out.symm _), hp.out.tok.but ((((((hB.out.far leZ _ _).far leZ _ _).far leZ _ _).far leZ _ _).far leZ _ _).far leZ _ _), hpz.out.len, hpz.out.pos⟩, .mk uk up uf ux un uA uc uL, rfl, ?_, hstr.out⟩; exact ((((((htz.out.far hh _ _).far hh _ _).far hh _ _).far hh _ _).far hh _ _).far hh _ _).mono (fun b _ hk => by omega)
theorem rank_two {t : Txt} (h : (rankM t).1 = 2) (h0 : (rankM t).2 = 0) : t.all dgB = true ∧ numV t ≤ mostN := by
 unfold rankM at h h0
 split at h
 ·rename_i hd
  rw [if_pos hd] at h0; refine ⟨hd, ?_⟩; simp only at h0
  split at h0
  ·exact absurd h0 (by decide)
  ·split at h0
   ·exact absurd h0 (by decide)
   ·omega
 ·split at h
  ·exact absurd h (by decide)
  ·exact absurd h (by show ¬ ((1 : Int) = 2); decide)
theorem one_tok {s t : Txt} {kd : Int} {m : Nat} (h : oneM s = .ok (kd, t, m)) : t.length ≤ s.length + 2 ∧ (kd = 2 → t.all dgB = true ∧ t ≠ [] ∧ numV t ≤ mostN) := by
 cases s with
 | nil => simp [oneM] at h
 | cons c r =>
  rw [oneM] at h; have ht := fun p => (List.takeWhile_sublist p (l := c :: r)).length_le
  have hr := fun p => (List.takeWhile_sublist p (l := r)).length_le
  split at h
  ·rename_i hc
   split at h
   ·rename_i h0
    simp only [Except.ok.injEq, Prod.mk.injEq] at h; obtain ⟨rfl, rfl, rfl⟩ := h; refine ⟨by have := ht smB; omega, fun h2 => ?_⟩; obtain ⟨a, b⟩ := rank_two h2 h0; exact ⟨a, by rw [List.takeWhile_cons, if_pos hc]; simp, b⟩
   ·cases h
  ·split at h
   ·split at h
    ·simp only [Except.ok.injEq, Prod.mk.injEq] at h
     obtain ⟨rfl, rfl, rfl⟩ := h; exact ⟨by have := ht lgB; omega, fun h2 => absurd h2 (by decide)⟩
    ·cases h
   ·split at h
    ·split at h
     ·simp only [Except.ok.injEq, Prod.mk.injEq] at h
      obtain ⟨rfl, rfl, rfl⟩ := h; exact ⟨by have := hr plB; simp; omega, fun h2 => absurd h2 (by decide)⟩
     ·cases h
    ·split at h
     ·split at h
      ·simp only [Except.ok.injEq, Prod.mk.injEq] at h
       obtain ⟨rfl, rfl, rfl⟩ := h; exact ⟨by simp, fun h2 => absurd h2 (by decide)⟩
      ·cases h
     ·split at h
      ·simp only [Except.ok.injEq, Prod.mk.injEq] at h
       obtain ⟨rfl, rfl, rfl⟩ := h; exact ⟨by simp, fun h2 => absurd h2 (by decide)⟩
      ·cases h
theorem scan_tok : ∀ (f n k : Nat) (s : Txt) (l : List Tok), scanM f n k s = .ok l → ∀ t ∈ l, t.text.length ≤ s.length + 2 ∧ (t.kind = 2 → t.text.all dgB = true ∧ t.text ≠ [] ∧ numV t.text ≤ mostN)
 | 0, n, k, s, l, h => by simp [scanM] at h
 | f + 1, n, k, s, l, h => by
  rw [scanM] at h; have hd := (List.dropWhile_sublist bkB (l := s)).length_le
  split at h
  ·obtain rfl := Except.ok.inj h
   intro t ht; cases ht
  ·split at h
   ·cases h
   ·split at h
    ·cases h
    ·rename_i kd tx m ho
     split at h
     ·cases h
     ·rename_i l' hq
      obtain rfl := Except.ok.inj h; have ih := scan_tok f _ _ _ l' hq; obtain ⟨h1, h2⟩ := one_tok ho; intro t ht
      rcases List.mem_cons.1 ht with rfl | ht
      ·exact ⟨by show tx.length ≤ _; omega, h2⟩
      ·obtain ⟨h3, h4⟩ := ih t ht
       exact ⟨by rw [List.length_drop] at h3; omega, h4⟩
theorem tokens_ok {s : Txt} {l : List Tok} (h : scanT s = .ok l) (hs : s.length ≤ 4096) : TokOk l := fun i t ht => by
 obtain ⟨h1, h2⟩ := scan_tok _ _ _ _ _ h t (List.mem_of_getElem? ht)
 exact ⟨by omega, h2⟩
end Go.Proofs.YtjkmhlfjheiekaaGreatDoor

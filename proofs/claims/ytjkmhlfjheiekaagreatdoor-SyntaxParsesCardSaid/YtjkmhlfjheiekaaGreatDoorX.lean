import Derived.Test.YtjkmhlfjheiekaaGreatDoorV
namespace Go.Proofs.YtjkmhlfjheiekaaGreatDoor
open Go Go.RowKit Go.BigFrame Go.Maps
def oneS (e : Nat) (l : List Tok) : Nat → St → Option (Rul × St)
 | 0, _ => none
 | n + 1, st =>
  if (askS l st 0 (wordB wNot) && !askS l st 1 compB) = true then (match oneS e l n st.step with
   | none => none
   | some (r, s') => some (.mk 2 0 [] [] 0 [r], s'))
  else if askS l st 0 (signB sOpen) = true then (match rowS l (rowS l (oneS e l n) wAnd 0 n) wOr 1 n st.step with
   | none => none
   | some (r, s') => some (r, (takeS e l (signB sShut) s').2))
  else some (atomS e l st)
theorem ParAt.pass {w : World} {pb : Nat} {A : Option Addr} {c e : Nat} {l : List Tok} {st : St} (h : ParAt w pb A c e l st) (hk : st.k < l.length) : ParAt (w.setCell ⟨pb, 1, none⟩ (.int .i64 ((st.k : Int) + 1))) pb A c e l st.step :=
 ⟨h.row.set_ 1 (.int .i64 ((st.k : Int) + 1)), h.tok.but ((But.refl pb w).setCell _ _), h.len, hk⟩
set_option maxRecDepth 100000 in
set_option maxHeartbeats 3200000 in
theorem one_any (pb : Nat) (A : Option Addr) (c e : Nat) (l : List Tok) (h8 : Hid (8 ≤ pb)) (hok : Hid (TokOk l)) : ∀ n : Nat, n ≤ 100000 → Reads' pb A c e l 147 (oneS e l n) := by
 intro n
 induction n with
 | zero => intro _ W st r h; simp [oneS] at h
 | succ n ih =>
  intro hn w st r hr hp he
  have ih' := hd9 (ih (by omega))
  have hrule : Hid (Reads' pb A c e l 67 (rowS l (rowS l (oneS e l n) wAnd 0 n) wOr 1 n)) := rule_any pb A c e l _ h8 (all_any pb A c e l _ h8 ih' n (by omega)) n (by omega)
  clear ih
  have e131 : ∀ (args : Array Value) (w : World), (callFunc 131 args).run Tryz.prog w = .ok (.enter 131 args) w := enters_of Tryz.func131 (by kernel_rfl) rfl
  have e161 : ∀ (args : Array Value) (w : World), (callFunc 161 args).run Tryz.prog w = .ok (.enter 161 args) w := enters_of Tryz.func161 (by kernel_rfl) rfl
  have e164 : ∀ (args : Array Value) (w : World), (callFunc 164 args).run Tryz.prog w = .ok (.enter 164 args) w := enters_of Tryz.func164 (by kernel_rfl) rfl
  have hlt0 := hp.out.row.lt
  have hln := hp.out.len
  have hneR : Hid (w.heap.size ≠ pb) := by unfold Hid; omega
  have hR0 : Hid (Blk (w.alloc (.cells zeroN 25)) w.heap.size 25 zeroN) := Blk.new w 25 zeroN
  have hB0 : Hid (But pb w (w.alloc (.cells zeroN 25))) := (But.refl pb w).below ((Below.refl _ w).alloc le9 _)
  have hp0 : Hid (ParAt (w.alloc (.cells zeroN 25)) pb A c e l st) := hp.out.below ((Below.refl _ w).alloc le9 _)
  have hsz0 : Hid ((w.alloc (.cells zeroN 25)).heap.size = w.heap.size + 1) := by unfold Hid; simp
  obtain ⟨wv, hwv⟩ : ∃ b, Hid (askS l st 0 (wordB wNot) = b) := ⟨_, hd9 rfl⟩
  obtain ⟨cv, hcv⟩ : ∃ b, Hid (askS l st 1 compB = b) := ⟨_, hd9 rfl⟩
  obtain ⟨pv, hpv⟩ : ∃ b, Hid (askS l st 0 (signB sOpen) = b) := ⟨_, hd9 rfl⟩
  rw [oneS, hwv.out, hcv.out, hpv.out] at hr
  have hr' := hd9 hr
  clear hr
  go_enter Tryz.func147, Tryz.ntmps147
  go_wp2_with fail
  change Calls Tryz.prog 87 _ ((w.alloc (.cells zeroN 25)).alloc _) _
  obtain ⟨wa, hwa⟩ : ∃ x, Hid (w.alloc (.cells zeroN 25) = x) := ⟨_, hd9 rfl⟩
  rw [hwa.out] at hR0 hB0 hp0 hsz0 ⊢
  rw [← hsz0.out]
  clear hwa
  refine (word_any _ _ _ _).mono ?_
  rintro x w2 ⟨rfl, rfl⟩
  go_wp2_with fail
  have hpw := hd9 (hp0.out.below (below_wOne wa wNot))
  refine (sees_any (wOne wa wNot) pb A c e l st 131 #[.pointer (some ⟨wa.heap.size + 1, 0, none⟩)] e131 (wordB wNot) hpw (word_new wa wNot)).mono ?_
  rintro x w3 ⟨rfl, hB3⟩
  rw [hwv.out]
  have hb3 : Hid (Below wa.heap.size wa w3) := (below_wOne wa wNot).trans (hB3.mono (by rw [size_wOne]; omega))
  have hp3 := hd9 (hp0.out.below hb3.out)
  have hB := hd9 (hB0.out.below hb3.out)
  have hR := hd9 (hR0.out.below hb3.out hR0.out.lt)
  have hsz3 : Hid (w.heap.size + 1 ≤ w3.heap.size) := by have := hb3.out.size; have := hsz0.out; unfold Hid; omega
  clear hpw hB3 hb3 hp0 hB0 hR0
  cases wv with
  | true =>
   go_wp2_with fail
   refine (ask_any w3 pb A c e l st 1 (by omega) 164 #[] e164 compB hp3 (comp_fits w3)).mono ?_
   rintro x w4 ⟨rfl, hb4⟩
   rw [hcv.out]
   have hp4 := hd9 (hp3.out.below hb4)
   have hB := hd9 (hB.out.below hb4)
   have hR := hd9 (hR.out.below hb4 hR.out.lt)
   have hsz3 : Hid (w.heap.size + 1 ≤ w4.heap.size) := Nat.le_trans hsz3.out hb4.size
   clear hb4 hp3
   cases cv with
   | false =>
    obtain ⟨r1, s1, h1, rfl⟩ : ∃ r1 s1, oneS e l n st.step = some (r1, s1) ∧ r = (.mk 2 0 [] [] 0 [r1], s1) := by
     have h := hr'.out
     rw [if_pos (by rfl)] at h
     cases hq : oneS e l n st.step with
     | none => rw [hq] at h; simp at h
     | some y => obtain ⟨a, b⟩ := y; rw [hq] at h; simp only [Option.some.injEq] at h; exact ⟨a, b, rfl, h.symm⟩
    obtain ⟨_, tk0, hlk, _, _⟩ := ask_step hwv.out
    have hk : st.k < l.length := (List.getElem?_eq_some_iff.1 hlk).1
    have c1 : w4.cell? ⟨pb, 1, none⟩ = some (.int .i64 st.k) := hp4.out.row.cell 1
    have y1 := hp4.out.row.frozen 1
    have hps := hp.out.pos
    have w1x : IntKind.i64.wrap ((st.k : Int) + 1) = (st.k : Int) + 1 := IntWalk.i64_in _ (by omega)
    have plt := hp4.out.row.lt
    go_wp2_with fail
    have hu5 : Hid (But pb w4 (w4.setCell ⟨pb, 1, none⟩ (.int .i64 ((st.k : Int) + 1)))) := (But.refl pb w4).setCell _ _
    have hp5 : Hid (ParAt (w4.setCell ⟨pb, 1, none⟩ (.int .i64 ((st.k : Int) + 1))) pb A c e l st.step) := hp4.out.pass hk
    have hB5 := hd9 (hB.out.trans hu5.out)
    have hR5 := hd9 (hu5.out.blk hR.out hneR.out)
    have hsz5 : Hid (w.heap.size + 1 ≤ (w4.setCell ⟨pb, 1, none⟩ (.int .i64 ((st.k : Int) + 1))).heap.size) := Nat.le_trans hsz3.out hu5.out.size
    obtain ⟨w5, hw5⟩ : ∃ x, Hid ((w4.setCell ⟨pb, 1, none⟩ (.int .i64 ((st.k : Int) + 1))) = x) := ⟨_, hd9 rfl⟩
    rw [hw5.out] at hp5 hB5 hR5 hsz5 ⊢
    clear hw5 hu5 c1 y1 w1x plt
    refine (ih'.out w5 st.step (r1, s1) h1 hp5 (he.out.but hB5.out h8.out)).mono ?_
    rintro x w6 ⟨hu6, hq6, ⟨uk, up, uf, ux, un, uA, uc, uL⟩, rfl, ht6, hs6⟩
    have hB := hd9 (hB5.out.trans hu6)
    have hR := hd9 (hu6.blk hR5.out hneR.out)
    have hpz := hd9 hq6
    have hsz6 : Hid (w.heap.size + 1 ≤ w6.heap.size) := Nat.le_trans hsz5.out hu6.size
    have hn : ∀ V : World, V.heap.size = w6.heap.size → Blk (V.alloc (.cells #[.int .i64 uk, .int .i64 up, .string ⟨uf.toArray⟩, .string ⟨ux.toArray⟩, .int .i64 un, .slice uA uL.length uc] 25)) w6.heap.size 25 #[.int .i64 uk, .int .i64 up, .string ⟨uf.toArray⟩, .string ⟨ux.toArray⟩, .int .i64 un, .slice uA uL.length uc] := fun V hV => by rw [← hV]; exact Blk.new V 25 _
    have hsub : Hid (TreeAt w6 (fun b => w.heap.size + 1 ≤ b) (.mk uk up uf ux un uA uc uL)) := ht6.mono (fun b _ hb => Nat.le_trans hsz5.out hb)
    have hstr : Hid (strip (.mk 2 0 [] [] 0 (some ⟨w6.heap.size, 0, none⟩) 1 [.mk uk up uf ux un uA uc uL]) = .mk 2 0 [] [] 0 [r1]) := by unfold Hid; rw [strip, strips, strips, hs6]
    clear hu6 hq6 ht6 hs6 hp5 hB5 hR5
    unfold Tree.cells
    obtain ⟨rc0, rc1, rc2, rc3, rc4, rc5, rf0, rf1, rf2, rf3, rf4, rf5⟩ := cf6 hR.out
    have rlt := hR.out.lt
    go_wp2_with fail
    refine bodyPost_ret (results_row rfl _ _ w.heap.size 25 _ _ rfl (((((((hR.out.set_ 0 _).set_ 1 _).set_ 2 _).set_ 3 _).set_ 4 _).set_ 5 _).alloc _) Tryz.underlying25 rfl (by kernel_rfl)) rfl ?_
    have hh : ∀ b, (w.heap.size + 1 ≤ b) → b ≠ w.heap.size := fun b hb => by omega
    unfold Ruled
    refine ⟨(((((((hB.out.far le9 _ _).far le9 _ _).far le9 _ _).far le9 _ _).far le9 _ _).far le9 _ _).below ((Below.refl _ _).alloc le9 _)), ⟨(((((((hpz.out.row.far (p := ⟨w.heap.size, 0, none⟩) hneR.out.symm _).far (p := ⟨w.heap.size, 1, none⟩) hneR.out.symm _).far (p := ⟨w.heap.size, 2, none⟩) hneR.out.symm _).far (p := ⟨w.heap.size, 3, none⟩) hneR.out.symm _).far (p := ⟨w.heap.size, 4, none⟩) hneR.out.symm _).far (p := ⟨w.heap.size, 5, none⟩) hneR.out.symm _).alloc _), hp.out.tok.but (((((((hB.out.far le9 _ _).far le9 _ _).far le9 _ _).far le9 _ _).far le9 _ _).far le9 _ _).below ((Below.refl _ _).alloc le9 _)), hpz.out.len, hpz.out.pos⟩, .mk 2 0 [] [] 0 (some ⟨w6.heap.size, 0, none⟩) 1 [.mk uk up uf ux un uA uc uL], rfl, ?_, hstr.out⟩
    refine TreeAt.mono (ok := fun b => w.heap.size + 1 ≤ b) (fun b _ hk => by omega) ?_
    rw [TreeAt, RowsAt, RowsAt]
    exact ⟨⟨⟨w6.heap.size, 0, rfl, hsz6.out, (hn _ (by simp)).cell 0, (hn _ (by simp)).cell 1, (hn _ (by simp)).cell 2, (hn _ (by simp)).cell 3, (hn _ (by simp)).cell 4, (hn _ (by simp)).cell 5⟩, ((((((hsub.out.far hh _ _).far hh _ _).far hh _ _).far hh _ _).far hh _ _).far hh _ _).below ((Below.refl _ _).alloc le9 _), trivial⟩, by simp [maxLen]⟩
   | true =>
    go_wp2_with fail
    refine (sgn_any _ _ _ _).mono ?_
    rintro x w4 ⟨rfl, rfl⟩
    go_wp2_with fail
    have hpw := hd9 (hp4.out.below (below_wOne w4 sOpen))
    refine (sees_any (wOne w4 sOpen) pb A c e l st 161 #[.pointer (some ⟨w4.heap.size + 1, 0, none⟩)] e161 (signB sOpen) hpw (sign_new w4 sOpen)).mono ?_
    rintro x w7 ⟨rfl, hB7⟩
    rw [hpv.out]
    have hb7 : Hid (Below w4.heap.size w4 w7) := (below_wOne w4 sOpen).trans (hB7.mono (by rw [size_wOne]; omega))
    have hp7 := hd9 (hp4.out.below hb7.out)
    have hB := hd9 (hB.out.below hb7.out)
    have hR := hd9 (hR.out.below hb7.out hR.out.lt)
    have hsz3 : Hid (w.heap.size + 1 ≤ w7.heap.size) := Nat.le_trans hsz3.out hb7.out.size
    clear hpw hB7 hb7
    cases pv with
    | true =>
     obtain ⟨r1, s1, h1, rfl⟩ : ∃ r1 s1, rowS l (rowS l (oneS e l n) wAnd 0 n) wOr 1 n st.step = some (r1, s1) ∧ r = (r1, (takeS e l (signB sShut) s1).2) := by
      have h := hr'.out
      rw [if_neg (by simp), if_pos rfl] at h
      cases hq : rowS l (rowS l (oneS e l n) wAnd 0 n) wOr 1 n st.step with
      | none => rw [hq] at h; simp at h
      | some y => obtain ⟨a, b⟩ := y; rw [hq] at h; simp only [Option.some.injEq] at h; exact ⟨a, b, rfl, h.symm⟩
     obtain ⟨_, tk0, hlk, _, _⟩ := ask_step hpv.out
     have hk : st.k < l.length := (List.getElem?_eq_some_iff.1 hlk).1
     have c1 : w7.cell? ⟨pb, 1, none⟩ = some (.int .i64 st.k) := hp7.out.row.cell 1
     have y1 := hp7.out.row.frozen 1
     have hps := hp.out.pos
     have w1x : IntKind.i64.wrap ((st.k : Int) + 1) = (st.k : Int) + 1 := IntWalk.i64_in _ (by omega)
     have plt := hp7.out.row.lt
     go_wp2_with fail
     have hu5 : Hid (But pb w7 (w7.setCell ⟨pb, 1, none⟩ (.int .i64 ((st.k : Int) + 1)))) := (But.refl pb w7).setCell _ _
     have hp5 : Hid (ParAt (w7.setCell ⟨pb, 1, none⟩ (.int .i64 ((st.k : Int) + 1))) pb A c e l st.step) := hp7.out.pass hk
     have hB5 := hd9 (hB.out.trans hu5.out)
     have hR5 := hd9 (hu5.out.blk hR.out hneR.out)
     have hsz5 : Hid (w.heap.size + 1 ≤ (w7.setCell ⟨pb, 1, none⟩ (.int .i64 ((st.k : Int) + 1))).heap.size) := Nat.le_trans hsz3.out hu5.out.size
     obtain ⟨w5, hw5⟩ : ∃ x, Hid ((w7.setCell ⟨pb, 1, none⟩ (.int .i64 ((st.k : Int) + 1))) = x) := ⟨_, hd9 rfl⟩
     rw [hw5.out] at hp5 hB5 hR5 hsz5 ⊢
     clear hw5 hu5 c1 y1 w1x plt
     refine (hrule.out w5 st.step (r1, s1) h1 hp5 (he.out.but hB5.out h8.out)).mono ?_
     rintro x w6 ⟨hu6, hq6, ⟨uk, up, uf, ux, un, uA, uc, uL⟩, rfl, ht6, hs6⟩
     have hlt6 := hq6.row.lt
     have hbl : Hid (Below w6.heap.size w6 (w6.alloc (.cells #[.int .i64 uk, .int .i64 up, .string ⟨uf.toArray⟩, .string ⟨ux.toArray⟩, .int .i64 un, .slice uA uL.length uc] 25))) := (Below.refl _ w6).alloc le9 _
     have hN : Hid (Blk (w6.alloc (.cells #[.int .i64 uk, .int .i64 up, .string ⟨uf.toArray⟩, .string ⟨ux.toArray⟩, .int .i64 un, .slice uA uL.length uc] 25)) w6.heap.size 25 #[.int .i64 uk, .int .i64 up, .string ⟨uf.toArray⟩, .string ⟨ux.toArray⟩, .int .i64 un, .slice uA uL.length uc]) := Blk.new w6 25 _
     have hB := hd9 ((hB5.out.trans hu6).below hbl.out)
     have hR : Hid (Blk (w6.alloc (.cells #[.int .i64 uk, .int .i64 up, .string ⟨uf.toArray⟩, .string ⟨ux.toArray⟩, .int .i64 un, .slice uA uL.length uc] 25)) w.heap.size 25 zeroN) := (hu6.blk hR5.out hneR.out).alloc _
     have hpn := hd9 (hq6.below hbl.out)
     have htn : Hid (TreeAt (w6.alloc (.cells #[.int .i64 uk, .int .i64 up, .string ⟨uf.toArray⟩, .string ⟨ux.toArray⟩, .int .i64 un, .slice uA uL.length uc] 25)) (fun b => w.heap.size + 1 ≤ b) (.mk uk up uf ux un uA uc uL)) := (ht6.mono (fun b _ hb => Nat.le_trans hsz5.out hb)).below hbl.out
     have hszn : Hid ((w6.alloc (.cells #[.int .i64 uk, .int .i64 up, .string ⟨uf.toArray⟩, .string ⟨ux.toArray⟩, .int .i64 un, .slice uA uL.length uc] 25)).heap.size = w6.heap.size + 1) := by unfold Hid; simp
     unfold Tree.cells
     go_wp2_with fail
     obtain ⟨wn, hwn⟩ : ∃ x, Hid ((w6.alloc (.cells #[.int .i64 uk, .int .i64 up, .string ⟨uf.toArray⟩, .string ⟨ux.toArray⟩, .int .i64 un, .slice uA uL.length uc] 25)) = x) := ⟨_, hd9 rfl⟩
     rw [hwn.out] at hbl hN hB hR hpn htn hszn ⊢
     rw [← hszn.out]
     clear hwn hu6 hq6 ht6 hp5 hB5 hR5
     refine (sgn_any _ _ _ _).mono ?_
     rintro x w9 ⟨rfl, rfl⟩
     go_wp2_with fail
     have hpv2 := hd9 (hpn.out.below (below_wOne wn sShut))
     refine (take_any (wOne wn sShut) pb A c e l s1 161 #[.pointer (some ⟨wn.heap.size + 1, 0, none⟩)] e161 (signB sShut) hpv2 (sign_new wn sShut)).mono ?_
     rintro x w8 ⟨rfl, hu8, hq8⟩
     have hN := hd9 (hu8.blk (hN.out.below (below_wOne wn sShut) hN.out.lt) (by omega))
     have hR := hd9 (hu8.blk (hR.out.below (below_wOne wn sShut) hR.out.lt) hneR.out)
     have hB := hd9 ((hB.out.below (below_wOne wn sShut)).trans hu8)
     have hpz := hd9 hq8
     have htz := hd9 ((htn.out.below (below_wOne wn sShut)).but hu8 (fun b hb => by omega))
     have hstr := hd9 hs6
     clear hu8 hq8 hs6 hpv2 hpn htn
     obtain ⟨nc0, nc1, nc2, nc3, nc4, nc5⟩ := cs6 hN.out
     obtain ⟨rc0, rc1, rc2, rc3, rc4, rc5, rf0, rf1, rf2, rf3, rf4, rf5⟩ := cf6 hR.out
     have rlt := hR.out.lt
     go_wp2_with fail
     refine bodyPost_ret (results_row rfl _ _ w.heap.size 25 _ _ rfl ((((((hR.out.set_ 0 _).set_ 1 _).set_ 2 _).set_ 3 _).set_ 4 _).set_ 5 _) Tryz.underlying25 rfl (by kernel_rfl)) rfl ?_
     have hh : ∀ b, (w.heap.size + 1 ≤ b) → b ≠ w.heap.size := fun b hb => by omega
     unfold Ruled
     refine ⟨((((((hB.out.far le9 _ _).far le9 _ _).far le9 _ _).far le9 _ _).far le9 _ _).far le9 _ _), ⟨((((((hpz.out.row.far (p := ⟨w.heap.size, 0, none⟩) hneR.out.symm _).far (p := ⟨w.heap.size, 1, none⟩) hneR.out.symm _).far (p := ⟨w.heap.size, 2, none⟩) hneR.out.symm _).far (p := ⟨w.heap.size, 3, none⟩) hneR.out.symm _).far (p := ⟨w.heap.size, 4, none⟩) hneR.out.symm _).far (p := ⟨w.heap.size, 5, none⟩) hneR.out.symm _), hp.out.tok.but ((((((hB.out.far le9 _ _).far le9 _ _).far le9 _ _).far le9 _ _).far le9 _ _).far le9 _ _), hpz.out.len, hpz.out.pos⟩, .mk uk up uf ux un uA uc uL, rfl, ?_, hstr.out⟩
     exact ((((((htz.out.far hh _ _).far hh _ _).far hh _ _).far hh _ _).far hh _ _).far hh _ _).mono (fun b _ hk => by omega)
    | false =>
     obtain rfl : r = atomS e l st := by
      have h := hr'.out
      rw [if_neg (by simp), if_neg (by simp)] at h
      exact (Option.some.inj h).symm
     go_wp2_with fail
     refine (atom_any w7 pb A c e l st hp7 hok (he.out.but hB.out h8.out) h8).mono ?_
     rintro x w8 ⟨hu8, hq8, ⟨uk, up, uf, ux, un, uA, uc, uL⟩, rfl, ht8, hs8⟩
     have hB := hd9 (hB.out.trans hu8)
     have hR := hd9 (hu8.blk hR.out hneR.out)
     have hpz := hd9 hq8
     have htz : Hid (TreeAt w8 (fun b => w.heap.size + 1 ≤ b) (.mk uk up uf ux un uA uc uL)) := ht8.mono (fun b _ hb => Nat.le_trans hsz3.out hb)
     have hstr := hd9 hs8
     clear hu8 hq8 ht8 hs8
     unfold Tree.cells
     obtain ⟨rc0, rc1, rc2, rc3, rc4, rc5, rf0, rf1, rf2, rf3, rf4, rf5⟩ := cf6 hR.out
     have rlt := hR.out.lt
     go_wp2_with fail
     refine bodyPost_ret (results_row rfl _ _ w.heap.size 25 _ _ rfl ((((((hR.out.set_ 0 _).set_ 1 _).set_ 2 _).set_ 3 _).set_ 4 _).set_ 5 _) Tryz.underlying25 rfl (by kernel_rfl)) rfl ?_
     have hh : ∀ b, (w.heap.size + 1 ≤ b) → b ≠ w.heap.size := fun b hb => by omega
     unfold Ruled
     refine ⟨((((((hB.out.far le9 _ _).far le9 _ _).far le9 _ _).far le9 _ _).far le9 _ _).far le9 _ _), ⟨((((((hpz.out.row.far (p := ⟨w.heap.size, 0, none⟩) hneR.out.symm _).far (p := ⟨w.heap.size, 1, none⟩) hneR.out.symm _).far (p := ⟨w.heap.size, 2, none⟩) hneR.out.symm _).far (p := ⟨w.heap.size, 3, none⟩) hneR.out.symm _).far (p := ⟨w.heap.size, 4, none⟩) hneR.out.symm _).far (p := ⟨w.heap.size, 5, none⟩) hneR.out.symm _), hp.out.tok.but ((((((hB.out.far le9 _ _).far le9 _ _).far le9 _ _).far le9 _ _).far le9 _ _).far le9 _ _), hpz.out.len, hpz.out.pos⟩, .mk uk up uf ux un uA uc uL, rfl, ?_, hstr.out⟩
     exact ((((((htz.out.far hh _ _).far hh _ _).far hh _ _).far hh _ _).far hh _ _).far hh _ _).mono (fun b _ hk => by omega)
  | false =>
   go_wp2_with fail
   refine (sgn_any _ _ _ _).mono ?_
   rintro x w4 ⟨rfl, rfl⟩
   go_wp2_with fail
   have hpw := hd9 (hp3.out.below (below_wOne w3 sOpen))
   refine (sees_any (wOne w3 sOpen) pb A c e l st 161 #[.pointer (some ⟨w3.heap.size + 1, 0, none⟩)] e161 (signB sOpen) hpw (sign_new w3 sOpen)).mono ?_
   rintro x w7 ⟨rfl, hB7⟩
   rw [hpv.out]
   have hb7 : Hid (Below w3.heap.size w3 w7) := (below_wOne w3 sOpen).trans (hB7.mono (by rw [size_wOne]; omega))
   have hp7 := hd9 (hp3.out.below hb7.out)
   have hB := hd9 (hB.out.below hb7.out)
   have hR := hd9 (hR.out.below hb7.out hR.out.lt)
   have hsz3 : Hid (w.heap.size + 1 ≤ w7.heap.size) := Nat.le_trans hsz3.out hb7.out.size
   clear hpw hB7 hb7
   cases pv with
   | true =>
    obtain ⟨r1, s1, h1, rfl⟩ : ∃ r1 s1, rowS l (rowS l (oneS e l n) wAnd 0 n) wOr 1 n st.step = some (r1, s1) ∧ r = (r1, (takeS e l (signB sShut) s1).2) := by
     have h := hr'.out
     rw [if_neg (by simp), if_pos rfl] at h
     cases hq : rowS l (rowS l (oneS e l n) wAnd 0 n) wOr 1 n st.step with
     | none => rw [hq] at h; simp at h
     | some y => obtain ⟨a, b⟩ := y; rw [hq] at h; simp only [Option.some.injEq] at h; exact ⟨a, b, rfl, h.symm⟩
    obtain ⟨_, tk0, hlk, _, _⟩ := ask_step hpv.out
    have hk : st.k < l.length := (List.getElem?_eq_some_iff.1 hlk).1
    have c1 : w7.cell? ⟨pb, 1, none⟩ = some (.int .i64 st.k) := hp7.out.row.cell 1
    have y1 := hp7.out.row.frozen 1
    have hps := hp.out.pos
    have w1x : IntKind.i64.wrap ((st.k : Int) + 1) = (st.k : Int) + 1 := IntWalk.i64_in _ (by omega)
    have plt := hp7.out.row.lt
    go_wp2_with fail
    have hu5 : Hid (But pb w7 (w7.setCell ⟨pb, 1, none⟩ (.int .i64 ((st.k : Int) + 1)))) := (But.refl pb w7).setCell _ _
    have hp5 : Hid (ParAt (w7.setCell ⟨pb, 1, none⟩ (.int .i64 ((st.k : Int) + 1))) pb A c e l st.step) := hp7.out.pass hk
    have hB5 := hd9 (hB.out.trans hu5.out)
    have hR5 := hd9 (hu5.out.blk hR.out hneR.out)
    have hsz5 : Hid (w.heap.size + 1 ≤ (w7.setCell ⟨pb, 1, none⟩ (.int .i64 ((st.k : Int) + 1))).heap.size) := Nat.le_trans hsz3.out hu5.out.size
    obtain ⟨w5, hw5⟩ : ∃ x, Hid ((w7.setCell ⟨pb, 1, none⟩ (.int .i64 ((st.k : Int) + 1))) = x) := ⟨_, hd9 rfl⟩
    rw [hw5.out] at hp5 hB5 hR5 hsz5 ⊢
    clear hw5 hu5 c1 y1 w1x plt
    refine (hrule.out w5 st.step (r1, s1) h1 hp5 (he.out.but hB5.out h8.out)).mono ?_
    rintro x w6 ⟨hu6, hq6, ⟨uk, up, uf, ux, un, uA, uc, uL⟩, rfl, ht6, hs6⟩
    have hlt6 := hq6.row.lt
    have hbl : Hid (Below w6.heap.size w6 (w6.alloc (.cells #[.int .i64 uk, .int .i64 up, .string ⟨uf.toArray⟩, .string ⟨ux.toArray⟩, .int .i64 un, .slice uA uL.length uc] 25))) := (Below.refl _ w6).alloc le9 _
    have hN : Hid (Blk (w6.alloc (.cells #[.int .i64 uk, .int .i64 up, .string ⟨uf.toArray⟩, .string ⟨ux.toArray⟩, .int .i64 un, .slice uA uL.length uc] 25)) w6.heap.size 25 #[.int .i64 uk, .int .i64 up, .string ⟨uf.toArray⟩, .string ⟨ux.toArray⟩, .int .i64 un, .slice uA uL.length uc]) := Blk.new w6 25 _
    have hB := hd9 ((hB5.out.trans hu6).below hbl.out)
    have hR : Hid (Blk (w6.alloc (.cells #[.int .i64 uk, .int .i64 up, .string ⟨uf.toArray⟩, .string ⟨ux.toArray⟩, .int .i64 un, .slice uA uL.length uc] 25)) w.heap.size 25 zeroN) := (hu6.blk hR5.out hneR.out).alloc _
    have hpn := hd9 (hq6.below hbl.out)
    have htn : Hid (TreeAt (w6.alloc (.cells #[.int .i64 uk, .int .i64 up, .string ⟨uf.toArray⟩, .string ⟨ux.toArray⟩, .int .i64 un, .slice uA uL.length uc] 25)) (fun b => w.heap.size + 1 ≤ b) (.mk uk up uf ux un uA uc uL)) := (ht6.mono (fun b _ hb => Nat.le_trans hsz5.out hb)).below hbl.out
    have hszn : Hid ((w6.alloc (.cells #[.int .i64 uk, .int .i64 up, .string ⟨uf.toArray⟩, .string ⟨ux.toArray⟩, .int .i64 un, .slice uA uL.length uc] 25)).heap.size = w6.heap.size + 1) := by unfold Hid; simp
    unfold Tree.cells
    go_wp2_with fail
    obtain ⟨wn, hwn⟩ : ∃ x, Hid ((w6.alloc (.cells #[.int .i64 uk, .int .i64 up, .string ⟨uf.toArray⟩, .string ⟨ux.toArray⟩, .int .i64 un, .slice uA uL.length uc] 25)) = x) := ⟨_, hd9 rfl⟩
    rw [hwn.out] at hbl hN hB hR hpn htn hszn ⊢
    rw [← hszn.out]
    clear hwn hu6 hq6 ht6 hp5 hB5 hR5
    refine (sgn_any _ _ _ _).mono ?_
    rintro x w9 ⟨rfl, rfl⟩
    go_wp2_with fail
    have hpv2 := hd9 (hpn.out.below (below_wOne wn sShut))
    refine (take_any (wOne wn sShut) pb A c e l s1 161 #[.pointer (some ⟨wn.heap.size + 1, 0, none⟩)] e161 (signB sShut) hpv2 (sign_new wn sShut)).mono ?_
    rintro x w8 ⟨rfl, hu8, hq8⟩
    have hN := hd9 (hu8.blk (hN.out.below (below_wOne wn sShut) hN.out.lt) (by omega))
    have hR := hd9 (hu8.blk (hR.out.below (below_wOne wn sShut) hR.out.lt) hneR.out)
    have hB := hd9 ((hB.out.below (below_wOne wn sShut)).trans hu8)
    have hpz := hd9 hq8
    have htz := hd9 ((htn.out.below (below_wOne wn sShut)).but hu8 (fun b hb => by omega))
    have hstr := hd9 hs6
    clear hu8 hq8 hs6 hpv2 hpn htn
    obtain ⟨nc0, nc1, nc2, nc3, nc4, nc5⟩ := cs6 hN.out
    obtain ⟨rc0, rc1, rc2, rc3, rc4, rc5, rf0, rf1, rf2, rf3, rf4, rf5⟩ := cf6 hR.out
    have rlt := hR.out.lt
    go_wp2_with fail
    refine bodyPost_ret (results_row rfl _ _ w.heap.size 25 _ _ rfl ((((((hR.out.set_ 0 _).set_ 1 _).set_ 2 _).set_ 3 _).set_ 4 _).set_ 5 _) Tryz.underlying25 rfl (by kernel_rfl)) rfl ?_
    have hh : ∀ b, (w.heap.size + 1 ≤ b) → b ≠ w.heap.size := fun b hb => by omega
    unfold Ruled
    refine ⟨((((((hB.out.far le9 _ _).far le9 _ _).far le9 _ _).far le9 _ _).far le9 _ _).far le9 _ _), ⟨((((((hpz.out.row.far (p := ⟨w.heap.size, 0, none⟩) hneR.out.symm _).far (p := ⟨w.heap.size, 1, none⟩) hneR.out.symm _).far (p := ⟨w.heap.size, 2, none⟩) hneR.out.symm _).far (p := ⟨w.heap.size, 3, none⟩) hneR.out.symm _).far (p := ⟨w.heap.size, 4, none⟩) hneR.out.symm _).far (p := ⟨w.heap.size, 5, none⟩) hneR.out.symm _), hp.out.tok.but ((((((hB.out.far le9 _ _).far le9 _ _).far le9 _ _).far le9 _ _).far le9 _ _).far le9 _ _), hpz.out.len, hpz.out.pos⟩, .mk uk up uf ux un uA uc uL, rfl, ?_, hstr.out⟩
    exact ((((((htz.out.far hh _ _).far hh _ _).far hh _ _).far hh _ _).far hh _ _).far hh _ _).mono (fun b _ hk => by omega)
   | false =>
    obtain rfl : r = atomS e l st := by
     have h := hr'.out
     rw [if_neg (by simp), if_neg (by simp)] at h
     exact (Option.some.inj h).symm
    go_wp2_with fail
    refine (atom_any w7 pb A c e l st hp7 hok (he.out.but hB.out h8.out) h8).mono ?_
    rintro x w8 ⟨hu8, hq8, ⟨uk, up, uf, ux, un, uA, uc, uL⟩, rfl, ht8, hs8⟩
    have hB := hd9 (hB.out.trans hu8)
    have hR := hd9 (hu8.blk hR.out hneR.out)
    have hpz := hd9 hq8
    have htz : Hid (TreeAt w8 (fun b => w.heap.size + 1 ≤ b) (.mk uk up uf ux un uA uc uL)) := ht8.mono (fun b _ hb => Nat.le_trans hsz3.out hb)
    have hstr := hd9 hs8
    clear hu8 hq8 ht8 hs8
    unfold Tree.cells
    obtain ⟨rc0, rc1, rc2, rc3, rc4, rc5, rf0, rf1, rf2, rf3, rf4, rf5⟩ := cf6 hR.out
    have rlt := hR.out.lt
    go_wp2_with fail
    refine bodyPost_ret (results_row rfl _ _ w.heap.size 25 _ _ rfl ((((((hR.out.set_ 0 _).set_ 1 _).set_ 2 _).set_ 3 _).set_ 4 _).set_ 5 _) Tryz.underlying25 rfl (by kernel_rfl)) rfl ?_
    have hh : ∀ b, (w.heap.size + 1 ≤ b) → b ≠ w.heap.size := fun b hb => by omega
    unfold Ruled
    refine ⟨((((((hB.out.far le9 _ _).far le9 _ _).far le9 _ _).far le9 _ _).far le9 _ _).far le9 _ _), ⟨((((((hpz.out.row.far (p := ⟨w.heap.size, 0, none⟩) hneR.out.symm _).far (p := ⟨w.heap.size, 1, none⟩) hneR.out.symm _).far (p := ⟨w.heap.size, 2, none⟩) hneR.out.symm _).far (p := ⟨w.heap.size, 3, none⟩) hneR.out.symm _).far (p := ⟨w.heap.size, 4, none⟩) hneR.out.symm _).far (p := ⟨w.heap.size, 5, none⟩) hneR.out.symm _), hp.out.tok.but ((((((hB.out.far le9 _ _).far le9 _ _).far le9 _ _).far le9 _ _).far le9 _ _).far le9 _ _), hpz.out.len, hpz.out.pos⟩, .mk uk up uf ux un uA uc uL, rfl, ?_, hstr.out⟩
    exact ((((((htz.out.far hh _ _).far hh _ _).far hh _ _).far hh _ _).far hh _ _).far hh _ _).mono (fun b _ hk => by omega)
end Go.Proofs.YtjkmhlfjheiekaaGreatDoor
namespace Go.Proofs.YtjkmhlfjheiekaaGreatDoor
open Go Go.RowKit Go.BigFrame Go.Maps
theorem rank_two {t : Txt} (h : (rankM t).1 = 2) (h0 : (rankM t).2 = 0) : t.all digitB = true ∧ numV t ≤ mostN := by
 unfold rankM at h h0
 split at h
 ·rename_i hd
  rw [if_pos hd] at h0
  refine ⟨hd, ?_⟩
  simp only at h0
  split at h0
  ·exact absurd h0 (by decide)
  ·split at h0
   ·exact absurd h0 (by decide)
   ·omega
 ·split at h
  ·exact absurd h (by decide)
  ·exact absurd h (by show ¬ ((1 : Int) = 2); decide)
theorem one_tok {s t : Txt} {kd : Int} {m : Nat} (h : oneM s = .ok (kd, t, m)) : t.length ≤ s.length + 2 ∧ (kd = 2 → t.all digitB = true ∧ t ≠ [] ∧ numV t ≤ mostN) := by
 cases s with
 | nil => simp [oneM] at h
 | cons c r =>
  rw [oneM] at h
  have ht := fun p => (List.takeWhile_sublist p (l := c :: r)).length_le
  have hr := fun p => (List.takeWhile_sublist p (l := r)).length_le
  split at h
  ·rename_i hc
   split at h
   ·rename_i h0
    simp only [Except.ok.injEq, Prod.mk.injEq] at h
    obtain ⟨rfl, rfl, rfl⟩ := h
    refine ⟨by have := ht smallB; omega, fun h2 => ?_⟩
    obtain ⟨a, b⟩ := rank_two h2 h0
    exact ⟨a, by rw [List.takeWhile_cons, if_pos hc]; simp, b⟩
   ·cases h
  ·split at h
   ·split at h
    ·simp only [Except.ok.injEq, Prod.mk.injEq] at h
     obtain ⟨rfl, rfl, rfl⟩ := h
     exact ⟨by have := ht largeB; omega, fun h2 => absurd h2 (by decide)⟩
    ·cases h
   ·split at h
    ·split at h
     ·simp only [Except.ok.injEq, Prod.mk.injEq] at h
      obtain ⟨rfl, rfl, rfl⟩ := h
      exact ⟨by have := hr plainB; simp; omega, fun h2 => absurd h2 (by decide)⟩
     ·cases h
    ·split at h
     ·split at h
      ·simp only [Except.ok.injEq, Prod.mk.injEq] at h
       obtain ⟨rfl, rfl, rfl⟩ := h
       exact ⟨by simp, fun h2 => absurd h2 (by decide)⟩
      ·cases h
     ·split at h
      ·simp only [Except.ok.injEq, Prod.mk.injEq] at h
       obtain ⟨rfl, rfl, rfl⟩ := h
       exact ⟨by simp, fun h2 => absurd h2 (by decide)⟩
      ·cases h
theorem scan_tok : ∀ (f n k : Nat) (s : Txt) (l : List Tok), scanM f n k s = .ok l → ∀ t ∈ l, t.text.length ≤ s.length + 2 ∧ (t.kind = 2 → t.text.all digitB = true ∧ t.text ≠ [] ∧ numV t.text ≤ mostN)
 | 0, n, k, s, l, h => by simp [scanM] at h
 | f + 1, n, k, s, l, h => by
  rw [scanM] at h
  have hd := (List.dropWhile_sublist blankB (l := s)).length_le
  split at h
  ·obtain rfl := Except.ok.inj h
   intro t ht; cases ht
  ·split at h
   ·cases h
   ·split at h
    ·cases h
    ·rename_i kd tx m ho
     split at h
     ·cases h
     ·rename_i l' hq
      obtain rfl := Except.ok.inj h
      have ih := scan_tok f _ _ _ l' hq
      obtain ⟨h1, h2⟩ := one_tok ho
      intro t ht
      rcases List.mem_cons.1 ht with rfl | ht
      ·exact ⟨by show tx.length ≤ _; omega, h2⟩
      ·obtain ⟨h3, h4⟩ := ih t ht
       exact ⟨by rw [List.length_drop] at h3; omega, h4⟩
theorem tokens_ok {s : Txt} {l : List Tok} (h : scanT s = .ok l) (hs : s.length ≤ 4096) : TokOk l := fun i t ht => by
 obtain ⟨h1, h2⟩ := scan_tok _ _ _ _ _ h t (List.mem_of_getElem? ht)
 exact ⟨by omega, h2⟩
end Go.Proofs.YtjkmhlfjheiekaaGreatDoor

/- Setups: of two setups that say the same, true. -/
import Derived.Test.YtheiogafjinihaaDoorTa
namespace Go.Proofs.YtheiogafjinihaaDoor
open Go Go.RowKit Go.BigFrame Go.Maps

/-- A setup in memory, as it may be read. -/
def SetupV (w : World) (M : SSetup) (cs : Array Value) : Prop := ∃ pb pc D F R m, cs = #[.slice (some ⟨pb, 0, none⟩) 9 pc, D, F, R, .slice none 0 0] ∧ (∀ j v, partiesA[j]? = some v → w.cell? ⟨pb, j, none⟩ = some v) ∧ DealRow w 0 D M.deals ∧ w.ownsRow 0 58 3 F 6 (fundsV M.amount 6) ∧ RestAt w m M.rest R
theorem SetupAt.view {w : World} {M : SSetup} {cs : Array Value} (h : SetupAt w M cs) : SetupV w M cs := by
  obtain ⟨pb, D, F, R, m, e, hp, hd, hf, hr⟩ := h
  exact ⟨pb, 9, D, F, R, m, e, fun j v hj => by rw [hp.cell j]; exact hj, hd, hf, hr⟩
theorem DealRow.below {w w' : World} {B : Nat} {v : Value} {l : List SDeal} (h : DealRow w B v l) (hb : Below w.heap.size w w') : DealRow w' B v l := by
  obtain ⟨vs, h1, h2, h3⟩ := h
  exact ⟨vs, h1, own_below h2 hb, fun i d x hi hx => (h3 i d x hi hx).below hb⟩
theorem SetupV.below {w w' : World} {M : SSetup} {cs : Array Value} (h : SetupV w M cs) (hb : Below w.heap.size w w') : SetupV w' M cs := by
  obtain ⟨pb, pc, D, F, R, m, e, hp, hd, hf, hr⟩ := h
  refine ⟨pb, pc, D, F, R, m, e, fun j v hj => ?_, hd.below hb, own_below hf hb, hr.keeps (P := fun _ _ => False) (Keeps.below hb) (fun _ _ h => h)⟩
  have h1 := hp j v hj
  exact (hb.cell (World.block_lt_of_cell? w _ h1)).trans h1
theorem parties_three (k : Nat) (hk : k < 9) : ∃ a b n, partiesA[k * 3]? = some (.string a) ∧ partiesA[k * 3 + 1]? = some (.string b) ∧ partiesA[k * 3 + 2]? = some (.int .i64 n) := by
  have h : k = 0 ∨ k = 1 ∨ k = 2 ∨ k = 3 ∨ k = 4 ∨ k = 5 ∨ k = 6 ∨ k = 7 ∨ k = 8 := by omega
  rcases h with rfl | rfl | rfl | rfl | rfl | rfl | rfl | rfl | rfl <;> exact ⟨_, _, _, rfl, rfl, rfl⟩
theorem funds_three (m : Int) (k : Nat) (hk : k < 6) : ∃ a b n, (fundsV m 6)[k * 3]? = some (.string a) ∧ (fundsV m 6)[k * 3 + 1]? = some (.string b) ∧ (fundsV m 6)[k * 3 + 2]? = some (.int .i64 n) := by
  have h : k = 0 ∨ k = 1 ∨ k = 2 ∨ k = 3 ∨ k = 4 ∨ k = 5 := by omega
  rcases h with rfl | rfl | rfl | rfl | rfl | rfl <;> exact ⟨_, _, _, rfl, rfl, rfl⟩
theorem own_at0 {w : World} {B : Nat} {e : TypeId} {size n : Nat} {v : Value} {xs : List Value} (h : w.ownsRow B e size v n xs) (hn : 0 < n) : ∃ g c, v = .slice (some ⟨g, 0, none⟩) n c ∧ ∀ j u, xs[j]? = some u → w.cell? ⟨g, j, none⟩ = some u := by
  obtain ⟨A, c, rfl⟩ := own_form2 h
  obtain ⟨g, cap, hv, _, _⟩ := h.form hn
  have hA : A = some ⟨g, 0, none⟩ := by injection hv
  subst hA
  obtain ⟨ad, e, _, hc⟩ := (Reads.of_own h).2 (by omega)
  obtain rfl : ad = ⟨g, 0, none⟩ := (Option.some.inj e).symm
  refine ⟨g, c, rfl, fun j u hj => ?_⟩
  have := hc j u hj
  rwa [add_zero_at, Nat.zero_add] at this
/-- Rows that say the same, in memory: rest days. -/
def RestV (w : World) (A : Option Addr) (n : Nat) : Prop := ∀ k, k < n → ∃ g, A = some ⟨g, 0, none⟩ ∧ w.cell? ⟨g, k, none⟩ = some (.int .i64 (5 + (k : Int)))
theorem RestAt.view {w : World} {m : Nat} {r : Bool} {v : Value} (h : RestAt w m r v) : ∃ A, v = .slice A (if r = true then 2 else 0) (if r = true then 2 else 0) ∧ RestV w A (if r = true then 2 else 0) := by
  cases r with
  | true =>
    obtain ⟨g, _, rfl, hb⟩ := h.1 rfl
    refine ⟨_, rfl, fun k hk => ⟨g, rfl, ?_⟩⟩
    have h2 : k = 0 ∨ k = 1 := by rw [if_pos rfl] at hk; omega
    rcases h2 with rfl | rfl
    · exact hb.cell 0
    · exact hb.cell 1
  | false =>
    rw [h.2 rfl]
    exact ⟨none, rfl, fun k hk => absurd hk (by simp)⟩
/-- Deals in memory, one by one. -/
def DealsV (w : World) (A : Option Addr) (l : List SDeal) : Prop := ∀ (i : Nat) (d : SDeal), l[i]? = some d → ∃ g bx, A = some ⟨g, 0, none⟩ ∧ BoxesAt w bx d.boxes ∧ ∀ (j : Nat) (u : Value), (d.cells bx).toList[j]? = some u → w.cell? ⟨g, i * 17 + j, none⟩ = some u
theorem DealRow.view {w : World} {B : Nat} {v : Value} {l : List SDeal} (h : DealRow w B v l) : ∃ A c, v = .slice A l.length c ∧ DealsV w A l := by
  obtain ⟨A, c, e⟩ := h.form
  refine ⟨A, c, e, fun i d hi => ?_⟩
  obtain ⟨g, c', bx, e', hbx, hc⟩ := h.at_ hi
  rw [e] at e'
  refine ⟨g, bx, by injection e', hbx.at_, fun j u hu => ?_⟩
  have := hc j u hu
  rwa [Nat.zero_add] at this
set_option maxRecDepth 100000 in
set_option maxHeartbeats 12800000 in
theorem setups_any (M : SSetup) (cs cs' : Array Value) (w : World) (hbo : ∀ d ∈ M.deals, d.boxes.length ≤ 1000) (hlen : M.deals.length ≤ 1000) (h : SetupV w M cs) (h' : SetupV w M cs') :
    Calls Tryd.prog 8 #[.agg cs, .agg cs'] w fun e w' => e = .returned (.bool true) ∧ Below w.heap.size w w' := by
  obtain ⟨pb, pc, D, F, R, m, rfl, hp, hd, hf, hr⟩ := h
  obtain ⟨pb', pc', D', F', R', m', rfl, hp', hd', hf', hr'⟩ := h'
  obtain ⟨dA, dc, rfl, hd2⟩ := hd.view
  obtain ⟨dA', dc', rfl, hd2'⟩ := hd'.view
  obtain ⟨fb, fc, rfl, hf2⟩ := own_at0 hf (by decide)
  obtain ⟨fb', fc', rfl, hf2'⟩ := own_at0 hf' (by decide)
  obtain ⟨rA, rfl, hr2⟩ := hr.view
  obtain ⟨rA', rfl, hr2'⟩ := hr'.view
  obtain ⟨rn, hrn⟩ : ∃ n, (if M.rest = true then 2 else 0) = n := ⟨_, rfl⟩
  rw [hrn] at hr2 hr2' ⊢
  have hrn2 : rn ≤ 2 := by rw [← hrn]; split <;> omega
  obtain ⟨am, re, ds⟩ := M
  simp only at hd2 hd2' hf2 hf2' hbo hlen ⊢
  obtain ⟨dn, hdn⟩ : ∃ n, ds.length = n := ⟨_, rfl⟩
  rw [hdn] at hlen ⊢
  have hdn' := Lib.hid hdn
  have hpH := Lib.hid hp
  have hpH' := Lib.hid hp'
  have hdH := Lib.hid hd2
  have hdH' := Lib.hid hd2'
  have hfH := Lib.hid hf2
  have hfH' := Lib.hid hf2'
  have hrH := Lib.hid hr2
  have hrH' := Lib.hid hr2'
  have hboH := Lib.hid hbo
  clear hp hp' hd hd' hf hf' hr hr' hd2 hd2' hf2 hf2' hr2 hr2' hrn hdn hbo
  obtain ⟨w0, hw0⟩ : ∃ W, Hid ((w.alloc (.cells #[.slice (some ⟨pb, 0, none⟩) 9 pc, .slice dA dn dc, .slice (some ⟨fb, 0, none⟩) 6 fc, .slice rA rn rn, .slice none 0 0] 32)).alloc (.cells #[.slice (some ⟨pb', 0, none⟩) 9 pc', .slice dA' dn dc', .slice (some ⟨fb', 0, none⟩) 6 fc', .slice rA' rn rn, .slice none 0 0] 32) = W) := ⟨_, rfl⟩
  have hB0 : Hid (Below w.heap.size w w0) := by rw [← hw0.out]; exact ((Below.refl _ w).alloc (Nat.le_refl _) _).alloc (Nat.le_of_lt (Blk.new w _ _).lt) _
  have hk0 : Hid (Blk w0 w.heap.size 32 #[.slice (some ⟨pb, 0, none⟩) 9 pc, .slice dA dn dc, .slice (some ⟨fb, 0, none⟩) 6 fc, .slice rA rn rn, .slice none 0 0]) := by
    rw [← hw0.out]
    exact Lib.hid ((Blk.new w _ _).below ((Below.refl _ _).alloc (Nat.le_refl _) _) (Blk.new w _ _).lt)
  have hq0 : Hid (Blk w0 (w.heap.size + 1) 32 #[.slice (some ⟨pb', 0, none⟩) 9 pc', .slice dA' dn dc', .slice (some ⟨fb', 0, none⟩) 6 fc', .slice rA' rn rn, .slice none 0 0]) := by
    rw [← hw0.out]; exact Lib.hid (blk_second _ _ _ _)
  have p0 : w0.cell? ⟨w.heap.size, 0, none⟩ = some (.slice (some ⟨pb, 0, none⟩) 9 pc) := hk0.out.cell 0
  have q0 : w0.cell? ⟨w.heap.size + 1, 0, none⟩ = some (.slice (some ⟨pb', 0, none⟩) 9 pc') := hq0.out.cell 0
  have p1 : w0.cell? ⟨w.heap.size, 1, none⟩ = some (.slice dA dn dc) := hk0.out.cell 1
  have q1 : w0.cell? ⟨w.heap.size + 1, 1, none⟩ = some (.slice dA' dn dc') := hq0.out.cell 1
  have p2 : w0.cell? ⟨w.heap.size, 2, none⟩ = some (.slice (some ⟨fb, 0, none⟩) 6 fc) := hk0.out.cell 2
  have q2 : w0.cell? ⟨w.heap.size + 1, 2, none⟩ = some (.slice (some ⟨fb', 0, none⟩) 6 fc') := hq0.out.cell 2
  have p3 : w0.cell? ⟨w.heap.size, 3, none⟩ = some (.slice rA rn rn) := hk0.out.cell 3
  have q3 : w0.cell? ⟨w.heap.size + 1, 3, none⟩ = some (.slice rA' rn rn) := hq0.out.cell 3
  have p4 : w0.cell? ⟨w.heap.size, 4, none⟩ = some (.slice none 0 0) := hk0.out.cell 4
  have q4 : w0.cell? ⟨w.heap.size + 1, 4, none⟩ = some (.slice none 0 0) := hq0.out.cell 4
  go_enter Tryd.func8, Tryd.ntmps8
  go_wp2_with (rw [hw0.out])
  clear p0 p1 p2 p3 p4 q0 q1 q2 q3 q4
  go_loopw [5] (fun i wr => ∃ k : Nat, k ≤ 9 ∧ i = .int .i64 (k : Int) ∧ Hid (Below w0.heap.size w0 wr)) (fun i _ => 9 - (intOf i).toNat)
  case atStart => exact ⟨0, Nat.zero_le _, rfl, Below.refl _ _⟩
  case round =>
    obtain ⟨k, hk, rfl, hB⟩ := hrel
    have hkr := Lib.hid (hk0.out.below hB.out hk0.out.lt)
    have hqr := Lib.hid (hq0.out.below hB.out hq0.out.lt)
    have pf : wr.cell? ⟨w.heap.size, 0, none⟩ = some (.slice (some ⟨pb, 0, none⟩) 9 pc) := hkr.out.cell 0
    have qf : wr.cell? ⟨w.heap.size + 1, 0, none⟩ = some (.slice (some ⟨pb', 0, none⟩) 9 pc') := hqr.out.cell 0
    have hBw : Hid (Below w.heap.size w wr) := hB0.out.trans (hB.out.mono hB0.out.size)
    by_cases hlt : k < 9
    · as_aux_lemma =>
      have hkm : decide (k < 9) = true := decide_eq_true hlt
      have hkI : decide ((k : Int) < (9 : Int)) = true := decide_eq_true (by omega)
      have i1 : (k : Int) < (9 : Int) := by omega
      have i2 : (0 : Int) ≤ (k : Int) := by omega
      have key : ∀ (g j : Nat) (v : Value), w.cell? ⟨g, j, none⟩ = some v → ∀ y : Ext wr, y.wd.cell? ⟨g, j, none⟩ = some v := fun g j v h y => by
        have h1 := World.block_lt_of_cell? w _ h
        have h2 := hBw.out.trans (y.below.mono hBw.out.size)
        exact (h2.cell h1).trans h
      obtain ⟨a, b, z, e0, e1, e2⟩ := parties_three k hlt
      have r0 := key _ _ _ (hpH.out _ _ e0)
      have r1 := key _ _ _ (hpH.out _ _ e1)
      have r2 := key _ _ _ (hpH.out _ _ e2)
      have s0 := key _ _ _ (hpH'.out _ _ e0)
      have s1 := key _ _ _ (hpH'.out _ _ e1)
      have s2 := key _ _ _ (hpH'.out _ _ e2)
      have hne := neq_party a b z
      have hng := Tryd.eqg56
      clear e0 e1 e2
      have u5 : ∀ y : Ext wr, y.wd.cell? ⟨w.heap.size, 0, none⟩ = some (.slice (some ⟨pb, 0, none⟩) 9 pc) := fun y => (y.cell ⟨w.heap.size, _, none⟩ hkr.out.lt).trans (hkr.out.cell 0)
      have v5 : ∀ y : Ext wr, y.wd.cell? ⟨w.heap.size + 1, 0, none⟩ = some (.slice (some ⟨pb', 0, none⟩) 9 pc') := fun y => (y.cell ⟨w.heap.size + 1, _, none⟩ hqr.out.lt).trans (hqr.out.cell 0)
      clear key
      go_wp2_with fail
      refine wp_region_ext (by kernel_rfl) (by kernel_rfl) ?_
      repeat (go_big_quiet_step (fail))
      refine wpQuiet_nil ?_
      rintro _ ⟨y, rfl⟩
      have hbz := Lib.hid y.below
      obtain ⟨wy, hwy⟩ : ∃ w6, y.wd = w6 := ⟨_, rfl⟩
      rw [hwy] at hbz ⊢
      clear hwy y u5 v5 r0 r1 r2 s0 s1 s2 hne hng
      have hB2 : Hid (Below w0.heap.size w0 wy) := hB.out.trans (hbz.out.mono hB.out.size)
      go_wp2_with fail
      go_roundw
      case rel => exact ⟨k + 1, by omega, by go_num, hB2⟩
      case measure => simp [intOf]; omega
    · have hkm : decide (k < 9) = false := decide_eq_false hlt
      have hkI : decide ((k : Int) < (9 : Int)) = false := decide_eq_false (by omega)
      go_wp2_with fail
      clear hkm hkI pf qf hlt hk
      have hBs0 := hB
      clear hkr hqr hBw hB
      obtain ⟨wo0, hwo0⟩ : ∃ x, x = wr := ⟨_, rfl⟩
      subst hwo0
      go_loopw [6] (fun i wr => ∃ k : Nat, k ≤ 6 ∧ i = .int .i64 (k : Int) ∧ Hid (Below w0.heap.size w0 wr)) (fun i _ => 6 - (intOf i).toNat)
      case atStart => exact ⟨0, Nat.zero_le _, rfl, hBs0⟩
      case round =>
        obtain ⟨k, hk, rfl, hB⟩ := hrel
        have hkr := Lib.hid (hk0.out.below hB.out hk0.out.lt)
        have hqr := Lib.hid (hq0.out.below hB.out hq0.out.lt)
        have pf : wr.cell? ⟨w.heap.size, 2, none⟩ = some (.slice (some ⟨fb, 0, none⟩) 6 fc) := hkr.out.cell 2
        have qf : wr.cell? ⟨w.heap.size + 1, 2, none⟩ = some (.slice (some ⟨fb', 0, none⟩) 6 fc') := hqr.out.cell 2
        have hBw : Hid (Below w.heap.size w wr) := hB0.out.trans (hB.out.mono hB0.out.size)
        by_cases hlt : k < 6
        · as_aux_lemma =>
          have hkm : decide (k < 6) = true := decide_eq_true hlt
          have hkI : decide ((k : Int) < (6 : Int)) = true := decide_eq_true (by omega)
          have i1 : (k : Int) < (6 : Int) := by omega
          have i2 : (0 : Int) ≤ (k : Int) := by omega
          have key : ∀ (g j : Nat) (v : Value), w.cell? ⟨g, j, none⟩ = some v → ∀ y : Ext wr, y.wd.cell? ⟨g, j, none⟩ = some v := fun g j v h y => by
            have h1 := World.block_lt_of_cell? w _ h
            have h2 := hBw.out.trans (y.below.mono hBw.out.size)
            exact (h2.cell h1).trans h
          obtain ⟨a, b, z, e0, e1, e2⟩ := funds_three am k hlt
          have r0 := key _ _ _ (hfH.out _ _ e0)
          have r1 := key _ _ _ (hfH.out _ _ e1)
          have r2 := key _ _ _ (hfH.out _ _ e2)
          have s0 := key _ _ _ (hfH'.out _ _ e0)
          have s1 := key _ _ _ (hfH'.out _ _ e1)
          have s2 := key _ _ _ (hfH'.out _ _ e2)
          have hne := neq_entry a b z
          have hng := Tryd.eqg58
          clear e0 e1 e2
          have u5 : ∀ y : Ext wr, y.wd.cell? ⟨w.heap.size, 2, none⟩ = some (.slice (some ⟨fb, 0, none⟩) 6 fc) := fun y => (y.cell ⟨w.heap.size, _, none⟩ hkr.out.lt).trans (hkr.out.cell 2)
          have v5 : ∀ y : Ext wr, y.wd.cell? ⟨w.heap.size + 1, 2, none⟩ = some (.slice (some ⟨fb', 0, none⟩) 6 fc') := fun y => (y.cell ⟨w.heap.size + 1, _, none⟩ hqr.out.lt).trans (hqr.out.cell 2)
          clear key
          go_wp2_with fail
          refine wp_region_ext (by kernel_rfl) (by kernel_rfl) ?_
          repeat (go_big_quiet_step (fail))
          refine wpQuiet_nil ?_
          rintro _ ⟨y, rfl⟩
          have hbz := Lib.hid y.below
          obtain ⟨wy, hwy⟩ : ∃ w6, y.wd = w6 := ⟨_, rfl⟩
          rw [hwy] at hbz ⊢
          clear hwy y u5 v5 r0 r1 r2 s0 s1 s2 hne hng
          have hB2 : Hid (Below w0.heap.size w0 wy) := hB.out.trans (hbz.out.mono hB.out.size)
          go_wp2_with fail
          go_roundw
          case rel => exact ⟨k + 1, by omega, by go_num, hB2⟩
          case measure => simp [intOf]; omega
        · have hkm : decide (k < 6) = false := decide_eq_false hlt
          have hkI : decide ((k : Int) < (6 : Int)) = false := decide_eq_false (by omega)
          go_wp2_with fail
          clear hkm hkI pf qf hlt hk
          have hBs1 := hB
          clear hkr hqr hBw hB
          obtain ⟨wo1, hwo1⟩ : ∃ x, x = wr := ⟨_, rfl⟩
          subst hwo1
          go_loopw [7] (fun i wr => ∃ k : Nat, k ≤ rn ∧ i = .int .i64 (k : Int) ∧ Hid (Below w0.heap.size w0 wr)) (fun i _ => rn - (intOf i).toNat)
          case atStart => exact ⟨0, Nat.zero_le _, rfl, hBs1⟩
          case round =>
            obtain ⟨k, hk, rfl, hB⟩ := hrel
            have hkr := Lib.hid (hk0.out.below hB.out hk0.out.lt)
            have hqr := Lib.hid (hq0.out.below hB.out hq0.out.lt)
            have pf : wr.cell? ⟨w.heap.size, 3, none⟩ = some (.slice rA rn rn) := hkr.out.cell 3
            have qf : wr.cell? ⟨w.heap.size + 1, 3, none⟩ = some (.slice rA' rn rn) := hqr.out.cell 3
            have hBw : Hid (Below w.heap.size w wr) := hB0.out.trans (hB.out.mono hB0.out.size)
            by_cases hlt : k < rn
            · as_aux_lemma =>
              have hkm : decide (k < rn) = true := decide_eq_true hlt
              have hkI : decide ((k : Int) < (rn : Int)) = true := decide_eq_true (by omega)
              have i1 : (k : Int) < (rn : Int) := by omega
              have i2 : (0 : Int) ≤ (k : Int) := by omega
              have key : ∀ (g j : Nat) (v : Value), w.cell? ⟨g, j, none⟩ = some v → ∀ y : Ext wr, y.wd.cell? ⟨g, j, none⟩ = some v := fun g j v h y => by
                have h1 := World.block_lt_of_cell? w _ h
                have h2 := hBw.out.trans (y.below.mono hBw.out.size)
                exact (h2.cell h1).trans h
              obtain ⟨g, rfl, e0⟩ := hrH.out k hlt
              obtain ⟨g', rfl, e0'⟩ := hrH'.out k hlt
              have r0 := key _ _ _ e0
              have s0 := key _ _ _ e0'
              clear e0 e0'
              have u5 : ∀ y : Ext wr, y.wd.cell? ⟨w.heap.size, 3, none⟩ = some (.slice (some ⟨g, 0, none⟩) rn rn) := fun y => (y.cell ⟨w.heap.size, _, none⟩ hkr.out.lt).trans (hkr.out.cell 3)
              have v5 : ∀ y : Ext wr, y.wd.cell? ⟨w.heap.size + 1, 3, none⟩ = some (.slice (some ⟨g', 0, none⟩) rn rn) := fun y => (y.cell ⟨w.heap.size + 1, _, none⟩ hqr.out.lt).trans (hqr.out.cell 3)
              clear key
              go_wp2_with fail
              refine wp_region_ext (by kernel_rfl) (by kernel_rfl) ?_
              repeat (go_big_quiet_step (fail))
              refine wpQuiet_nil ?_
              rintro _ ⟨y, rfl⟩
              have hbz := Lib.hid y.below
              obtain ⟨wy, hwy⟩ : ∃ w6, y.wd = w6 := ⟨_, rfl⟩
              rw [hwy] at hbz ⊢
              clear hwy y u5 v5 r0 s0
              have hB2 : Hid (Below w0.heap.size w0 wy) := hB.out.trans (hbz.out.mono hB.out.size)
              go_wp2_with fail
              go_roundw
              case rel => exact ⟨k + 1, by omega, by go_num, hB2⟩
              case measure => simp [intOf]; omega
            · have hkm : decide (k < rn) = false := decide_eq_false hlt
              have hkI : decide ((k : Int) < (rn : Int)) = false := decide_eq_false (by omega)
              go_wp2_with fail
              clear hkm hkI pf qf hlt hk
              have hBs2 := hB
              clear hkr hqr hBw hB
              obtain ⟨wo2, hwo2⟩ : ∃ x, x = wr := ⟨_, rfl⟩
              subst hwo2
              go_loopw [8] (fun i wr => ∃ k : Nat, k ≤ dn ∧ i = .int .i64 (k : Int) ∧ Hid (Below w0.heap.size w0 wr)) (fun i _ => dn - (intOf i).toNat)
              case atStart => exact ⟨0, Nat.zero_le _, rfl, hBs2⟩
              case round =>
                obtain ⟨k, hk, rfl, hB⟩ := hrel
                have hkr := Lib.hid (hk0.out.below hB.out hk0.out.lt)
                have hqr := Lib.hid (hq0.out.below hB.out hq0.out.lt)
                have pf : wr.cell? ⟨w.heap.size, 1, none⟩ = some (.slice dA dn dc) := hkr.out.cell 1
                have qf : wr.cell? ⟨w.heap.size + 1, 1, none⟩ = some (.slice dA' dn dc') := hqr.out.cell 1
                have hBw : Hid (Below w.heap.size w wr) := hB0.out.trans (hB.out.mono hB0.out.size)
                by_cases hlt : k < dn
                · as_aux_lemma =>
                  have hkm : decide (k < dn) = true := decide_eq_true hlt
                  have hkI : decide ((k : Int) < (dn : Int)) = true := decide_eq_true (by omega)
                  have i1 : (k : Int) < (dn : Int) := by omega
                  have i2 : (0 : Int) ≤ (k : Int) := by omega
                  have key : ∀ (g j : Nat) (v : Value), w.cell? ⟨g, j, none⟩ = some v → ∀ y : Ext wr, y.wd.cell? ⟨g, j, none⟩ = some v := fun g j v h y => by
                    have h1 := World.block_lt_of_cell? w _ h
                    have h2 := hBw.out.trans (y.below.mono hBw.out.size)
                    exact (h2.cell h1).trans h
                  obtain ⟨d, hd⟩ : ∃ d, ds[k]? = some d := ⟨_, List.getElem?_eq_getElem (by have := hdn'.out; omega)⟩
                  obtain ⟨g, bx, rfl, hbx, hc0⟩ := hdH.out k d hd
                  obtain ⟨g', bx', rfl, hbx', hd0⟩ := hdH'.out k d hd
                  have hbl := hboH.out d (List.mem_of_getElem? hd)
                  have hcl : Hid (∀ y : Ext wr, Calls Tryd.prog 15 #[.agg (d.cells bx), .agg (d.cells bx')] y.wd fun e w' => e = .returned (.bool true) ∧ Below y.wd.heap.size y.wd w') := fun y =>
                    deals_any d bx bx' y.wd hbl (Lib.hid ((hbx.below hBw.out).below y.below)) (Lib.hid ((hbx'.below hBw.out).below y.below))
                  simp only [SDeal.cells] at hcl
                  have r0 : ∀ y : Ext wr, y.wd.cell? ⟨g, k * 17, none⟩ = some (.string d.number) := key _ _ _ (hc0 0 _ rfl)
                  have s0 : ∀ y : Ext wr, y.wd.cell? ⟨g', k * 17, none⟩ = some (.string d.number) := key _ _ _ (hd0 0 _ rfl)
                  have r1 : ∀ y : Ext wr, y.wd.cell? ⟨g, k * 17 + 1, none⟩ = some (.string d.seller) := key _ _ _ (hc0 1 _ rfl)
                  have s1 : ∀ y : Ext wr, y.wd.cell? ⟨g', k * 17 + 1, none⟩ = some (.string d.seller) := key _ _ _ (hd0 1 _ rfl)
                  have r2 : ∀ y : Ext wr, y.wd.cell? ⟨g, k * 17 + 2, none⟩ = some (.string d.buyer) := key _ _ _ (hc0 2 _ rfl)
                  have s2 : ∀ y : Ext wr, y.wd.cell? ⟨g', k * 17 + 2, none⟩ = some (.string d.buyer) := key _ _ _ (hd0 2 _ rfl)
                  have r3 : ∀ y : Ext wr, y.wd.cell? ⟨g, k * 17 + 3, none⟩ = some (.string d.carrier) := key _ _ _ (hc0 3 _ rfl)
                  have s3 : ∀ y : Ext wr, y.wd.cell? ⟨g', k * 17 + 3, none⟩ = some (.string d.carrier) := key _ _ _ (hd0 3 _ rfl)
                  have r4 : ∀ y : Ext wr, y.wd.cell? ⟨g, k * 17 + 4, none⟩ = some (.string d.issuer) := key _ _ _ (hc0 4 _ rfl)
                  have s4 : ∀ y : Ext wr, y.wd.cell? ⟨g', k * 17 + 4, none⟩ = some (.string d.issuer) := key _ _ _ (hd0 4 _ rfl)
                  have r5 : ∀ y : Ext wr, y.wd.cell? ⟨g, k * 17 + 5, none⟩ = some (.string d.house) := key _ _ _ (hc0 5 _ rfl)
                  have s5 : ∀ y : Ext wr, y.wd.cell? ⟨g', k * 17 + 5, none⟩ = some (.string d.house) := key _ _ _ (hd0 5 _ rfl)
                  have r6 : ∀ y : Ext wr, y.wd.cell? ⟨g, k * 17 + 6, none⟩ = some (.string d.insurer) := key _ _ _ (hc0 6 _ rfl)
                  have s6 : ∀ y : Ext wr, y.wd.cell? ⟨g', k * 17 + 6, none⟩ = some (.string d.insurer) := key _ _ _ (hd0 6 _ rfl)
                  have r7 : ∀ y : Ext wr, y.wd.cell? ⟨g, k * 17 + 7, none⟩ = some (.string riga) := key _ _ _ (hc0 7 _ rfl)
                  have s7 : ∀ y : Ext wr, y.wd.cell? ⟨g', k * 17 + 7, none⟩ = some (.string riga) := key _ _ _ (hd0 7 _ rfl)
                  have r8 : ∀ y : Ext wr, y.wd.cell? ⟨g, k * 17 + 8, none⟩ = some (.string oslo) := key _ _ _ (hc0 8 _ rfl)
                  have s8 : ∀ y : Ext wr, y.wd.cell? ⟨g', k * 17 + 8, none⟩ = some (.string oslo) := key _ _ _ (hd0 8 _ rfl)
                  have r9 : ∀ y : Ext wr, y.wd.cell? ⟨g, k * 17 + 9, none⟩ = some (.string d.currency) := key _ _ _ (hc0 9 _ rfl)
                  have s9 : ∀ y : Ext wr, y.wd.cell? ⟨g', k * 17 + 9, none⟩ = some (.string d.currency) := key _ _ _ (hd0 9 _ rfl)
                  have r10 : ∀ y : Ext wr, y.wd.cell? ⟨g, k * 17 + 10, none⟩ = some (.int .i64 d.price) := key _ _ _ (hc0 10 _ rfl)
                  have s10 : ∀ y : Ext wr, y.wd.cell? ⟨g', k * 17 + 10, none⟩ = some (.int .i64 d.price) := key _ _ _ (hd0 10 _ rfl)
                  have r11 : ∀ y : Ext wr, y.wd.cell? ⟨g, k * 17 + 11, none⟩ = some (bx) := key _ _ _ (hc0 11 _ rfl)
                  have s11 : ∀ y : Ext wr, y.wd.cell? ⟨g', k * 17 + 11, none⟩ = some (bx') := key _ _ _ (hd0 11 _ rfl)
                  have r12 : ∀ y : Ext wr, y.wd.cell? ⟨g, k * 17 + 12, none⟩ = some (.int .i64 d.term) := key _ _ _ (hc0 12 _ rfl)
                  have s12 : ∀ y : Ext wr, y.wd.cell? ⟨g', k * 17 + 12, none⟩ = some (.int .i64 d.term) := key _ _ _ (hd0 12 _ rfl)
                  have r13 : ∀ y : Ext wr, y.wd.cell? ⟨g, k * 17 + 13, none⟩ = some (.int .i64 d.latest) := key _ _ _ (hc0 13 _ rfl)
                  have s13 : ∀ y : Ext wr, y.wd.cell? ⟨g', k * 17 + 13, none⟩ = some (.int .i64 d.latest) := key _ _ _ (hd0 13 _ rfl)
                  have r14 : ∀ y : Ext wr, y.wd.cell? ⟨g, k * 17 + 14, none⟩ = some (.int .i64 d.expiry) := key _ _ _ (hc0 14 _ rfl)
                  have s14 : ∀ y : Ext wr, y.wd.cell? ⟨g', k * 17 + 14, none⟩ = some (.int .i64 d.expiry) := key _ _ _ (hd0 14 _ rfl)
                  have r15 : ∀ y : Ext wr, y.wd.cell? ⟨g, k * 17 + 15, none⟩ = some (.int .i64 d.tenor) := key _ _ _ (hc0 15 _ rfl)
                  have s15 : ∀ y : Ext wr, y.wd.cell? ⟨g', k * 17 + 15, none⟩ = some (.int .i64 d.tenor) := key _ _ _ (hd0 15 _ rfl)
                  have r16 : ∀ y : Ext wr, y.wd.cell? ⟨g, k * 17 + 16, none⟩ = some (.int .i64 d.duty) := key _ _ _ (hc0 16 _ rfl)
                  have s16 : ∀ y : Ext wr, y.wd.cell? ⟨g', k * 17 + 16, none⟩ = some (.int .i64 d.duty) := key _ _ _ (hd0 16 _ rfl)
                  clear hc0 hd0 hbx hbx' hd hbl
                  have u5 : ∀ y : Ext wr, y.wd.cell? ⟨w.heap.size, 1, none⟩ = some (.slice (some ⟨g, 0, none⟩) dn dc) := fun y => (y.cell ⟨w.heap.size, _, none⟩ hkr.out.lt).trans (hkr.out.cell 1)
                  have v5 : ∀ y : Ext wr, y.wd.cell? ⟨w.heap.size + 1, 1, none⟩ = some (.slice (some ⟨g', 0, none⟩) dn dc') := fun y => (y.cell ⟨w.heap.size + 1, _, none⟩ hqr.out.lt).trans (hqr.out.cell 1)
                  clear key
                  go_wp2_with fail
                  refine wp_region_ext (by kernel_rfl) (by kernel_rfl) ?_
                  repeat (go_big_quiet_step ((go_at_call 15; exact Calls.ext_of (hcl.out _))))
                  refine wpQuiet_nil ?_
                  rintro _ ⟨y, rfl⟩
                  have hbz := Lib.hid y.below
                  obtain ⟨wy, hwy⟩ : ∃ w6, y.wd = w6 := ⟨_, rfl⟩
                  rw [hwy] at hbz ⊢
                  clear hwy y u5 v5 hcl r0 s0 r1 s1 r2 s2 r3 s3 r4 s4 r5 s5 r6 s6 r7 s7 r8 s8 r9 s9 r10 s10 r11 s11 r12 s12 r13 s13 r14 s14 r15 s15 r16 s16
                  have hB2 : Hid (Below w0.heap.size w0 wy) := hB.out.trans (hbz.out.mono hB.out.size)
                  go_wp2_with fail
                  go_roundw
                  case rel => exact ⟨k + 1, by omega, by go_num, hB2⟩
                  case measure => simp [intOf]; omega
                · have hkm : decide (k < dn) = false := decide_eq_false hlt
                  have hkI : decide ((k : Int) < (dn : Int)) = false := decide_eq_false (by omega)
                  go_wp2_with fail
                  go_ret
                  exact ⟨rfl, hBw.out⟩
end Go.Proofs.YtheiogafjinihaaDoor

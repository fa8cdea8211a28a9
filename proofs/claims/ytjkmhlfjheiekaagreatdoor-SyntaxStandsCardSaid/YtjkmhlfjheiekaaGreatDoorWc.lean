/- Two rules, two needs are one for the program: walks of sameRule, sameNeed, and of EqualFunc over both. -/
import Derived.Test.YtjkmhlfjheiekaaGreatDoorWb
namespace Go.Proofs.YtjkmhlfjheiekaaGreatDoor
open Go Go.RowKit Go.BigFrame Go.Maps

def eqBy {α : Type} (p : α → α → Bool) : List α → List α → Bool
  | [], [] => true
  | [], _ :: _ => false
  | _ :: _, [] => false
  | a :: L, b :: M => p a b && eqBy p L M
theorem eqBy_step {α : Type} {p : α → α → Bool} {L M : List α} {q : Nat} {t u : α} {r : Bool} (h : r = eqBy p (L.drop q) (M.drop q)) (ht : L[q]? = some t) (hu : M[q]? = some u) : r = (p t u && eqBy p (L.drop (q + 1)) (M.drop (q + 1))) := by
  obtain ⟨hq, he⟩ := List.getElem?_eq_some_iff.1 ht
  obtain ⟨hq', he'⟩ := List.getElem?_eq_some_iff.1 hu
  rw [h, List.drop_eq_getElem_cons hq, List.drop_eq_getElem_cons hq', he, he', eqBy]
theorem eqBy_end {α : Type} {p : α → α → Bool} {L M : List α} {q : Nat} {r : Bool} (h : r = eqBy p (L.drop q) (M.drop q)) (h1 : L.length ≤ q) (h2 : M.length ≤ q) : r = true := by
  rw [h, List.drop_eq_nil_of_le h1, List.drop_eq_nil_of_le h2, eqBy]
theorem eqBy_len {α : Type} {p : α → α → Bool} : ∀ {L M : List α}, eqBy p L M = true → L.length = M.length
  | [], [], _ => rfl
  | [], _ :: _, h => by cases h
  | _ :: _, [], h => by cases h
  | a :: L, b :: M, h => by
    rw [eqBy, Bool.and_eq_true] at h
    rw [List.length_cons, List.length_cons, eqBy_len h.2]
theorem eqL_by : ∀ L M : List Tree, eqL (strips L) (strips M) = eqBy (fun t u => eqR (strip t) (strip u)) L M
  | [], [] => by rw [strips, eqL, eqBy]
  | [], b :: M => by rw [strips, strips, eqL, eqBy]
  | a :: L, [] => by rw [strips, strips, eqL, eqBy]
  | a :: L, b :: M => by rw [strips, strips, eqL, eqBy, eqL_by L M]
def eqNd (x y : Nd) : Bool := x.kind == y.kind && x.count == y.count && eqR (strip x.rule) (strip y.rule)


set_option maxRecDepth 100000 in
set_option maxHeartbeats 6400000 in
theorem equal_nodes (A : Option Addr) (n c : Nat) (L : List Tree) (A' : Option Addr) (n' c' : Nat) (L' : List Tree) (ok ok' : Nat → Prop) (g : Nat) (eg : ∀ (args : Array Value) (w : World), (callFunc g args).run Tryz.prog w = .ok (.enter g args) w) (p : Tree → Tree → Bool) (w : World) (hn : n ≤ maxLen) (hn' : n' ≤ maxLen) (hl : Hid (L.length = n)) (hl' : Hid (L'.length = n')) (hA : Hid (RowsAt w ok A 0 L)) (hA' : Hid (RowsAt w ok' A' 0 L'))
    (hf : Hid (∀ (W : World) (t u : Tree), t ∈ L → u ∈ L' → Below w.heap.size w W → Calls Tryz.prog g #[.agg t.cells, .agg u.cells] W fun e w' => e = .returned (.bool (p t u)) ∧ Below W.heap.size W w')) :
    Calls Tryz.prog 129 #[.slice A n c, .slice A' n' c', .func (.func g) #[] #[]] w fun e w' => e = .returned (.bool (eqBy p L L')) ∧ Below w.heap.size w w' := by
  unfold maxLen at hn hn'
  by_cases hne : ¬ (n = n')
  · have b1 : ((n : Int) == (n' : Int)) = false := by simp; omega
    have b2 : ((n : Int) != (n' : Int)) = true := by simp; omega
    have hr : eqBy p L L' = false := by
      cases h : eqBy p L L' with
      | false => rfl
      | true => have := eqBy_len h; rw [hl.out, hl'.out] at this; exact absurd this hne
    rw [hr]
    go_enter Tryz.func129, Tryz.ntmps129
    go_wp2_with fail
    go_ret
    exact ⟨rfl, Below.refl _ _⟩
  obtain rfl := Classical.not_not.1 hne
  go_enter Tryz.func129, Tryz.ntmps129
  go_wp2_with fail
  go_loopg [17] n (fun gg i wr => ∃ q : Nat, q ≤ n ∧ gg = n - q ∧ i = .int .i64 q ∧ Hid (eqBy p L L' = eqBy p (L.drop q) (L'.drop q)) ∧ Hid (Below w.heap.size w wr))
  case atStart => exact ⟨0, Nat.zero_le _, rfl, rfl, rfl, Below.refl _ _⟩
  case round =>
    obtain ⟨q, hq, hg, rfl, hall, hB⟩ := hrel
    have hg' := Lib.hid hg
    clear hg
    by_cases hlt : q < n
    · have i1 : decide ((q : Int) < (n : Int)) = true := by simp; omega
      have i2 : (q : Int) < (n : Int) := by omega
      have i3 : (0 : Int) ≤ (q : Int) := by omega
      obtain ⟨t, ht⟩ : ∃ t, L[q]? = some t := ⟨_, List.getElem?_eq_getElem (by have := hl.out; omega)⟩
      obtain ⟨u, hu⟩ : ∃ t, L'[q]? = some t := ⟨_, List.getElem?_eq_getElem (by have := hl'.out; omega)⟩
      have hst := Lib.hid (eqBy_step hall.out ht hu)
      obtain ⟨hc, _⟩ := (hA.out.below hB.out).get q t ht
      obtain ⟨hc', _⟩ := (hA'.out.below hB.out).get q u hu
      have hcall : Hid (∀ W, Below wr.heap.size wr W → Calls Tryz.prog g #[.agg t.cells, .agg u.cells] W fun e w' => e = .returned (.bool (p t u)) ∧ Below W.heap.size W w') := fun W hW => hf.out W t u (List.mem_of_getElem? ht) (List.mem_of_getElem? hu) (hB.out.trans (hW.mono hB.out.size))
      clear ht hu hall
      obtain ⟨bq, hbq⟩ : ∃ b, Hid (p t u = b) := ⟨_, Lib.hid rfl⟩
      rw [hbq.out] at hcall hst
      clear hbq
      obtain ⟨tk, tp, tf, tx, tn, tA, tc, tL⟩ := t
      obtain ⟨uk, up, uf, ux, un, uA, uc, uL⟩ := u
      obtain ⟨bb, off, rfl, _, g0, g1, g2, g3, g4, g5⟩ := hc
      obtain ⟨bb', off', rfl, _, k0, k1, k2, k3, k4, k5⟩ := hc'
      rw [Nat.zero_add] at g0 g1 g2 g3 g4 g5 k0 k1 k2 k3 k4 k5
      have lt1 : bb < wr.heap.size := cell_lt g0
      have lt2 : bb' < wr.heap.size := cell_lt k0
      simp only [Tree.cells] at hcall
      have kk0 : (wr.alloc (.cells #[.int .i64 tk, .int .i64 tp, .string ⟨tf.toArray⟩, .string ⟨tx.toArray⟩, .int .i64 tn, .slice tA tL.length tc] 25)).cell? ⟨bb', off' + q * 6, none⟩ = some (.int .i64 uk) := (((Below.refl _ wr).alloc (Nat.le_refl _) _).cell (by exact lt2)).trans k0
      have kk1 : (wr.alloc (.cells #[.int .i64 tk, .int .i64 tp, .string ⟨tf.toArray⟩, .string ⟨tx.toArray⟩, .int .i64 tn, .slice tA tL.length tc] 25)).cell? ⟨bb', off' + q * 6 + 1, none⟩ = some (.int .i64 up) := (((Below.refl _ wr).alloc (Nat.le_refl _) _).cell (by exact lt2)).trans k1
      have kk2 : (wr.alloc (.cells #[.int .i64 tk, .int .i64 tp, .string ⟨tf.toArray⟩, .string ⟨tx.toArray⟩, .int .i64 tn, .slice tA tL.length tc] 25)).cell? ⟨bb', off' + q * 6 + 2, none⟩ = some (.string ⟨uf.toArray⟩) := (((Below.refl _ wr).alloc (Nat.le_refl _) _).cell (by exact lt2)).trans k2
      have kk3 : (wr.alloc (.cells #[.int .i64 tk, .int .i64 tp, .string ⟨tf.toArray⟩, .string ⟨tx.toArray⟩, .int .i64 tn, .slice tA tL.length tc] 25)).cell? ⟨bb', off' + q * 6 + 3, none⟩ = some (.string ⟨ux.toArray⟩) := (((Below.refl _ wr).alloc (Nat.le_refl _) _).cell (by exact lt2)).trans k3
      have kk4 : (wr.alloc (.cells #[.int .i64 tk, .int .i64 tp, .string ⟨tf.toArray⟩, .string ⟨tx.toArray⟩, .int .i64 tn, .slice tA tL.length tc] 25)).cell? ⟨bb', off' + q * 6 + 4, none⟩ = some (.int .i64 un) := (((Below.refl _ wr).alloc (Nat.le_refl _) _).cell (by exact lt2)).trans k4
      have kk5 : (wr.alloc (.cells #[.int .i64 tk, .int .i64 tp, .string ⟨tf.toArray⟩, .string ⟨tx.toArray⟩, .int .i64 tn, .slice tA tL.length tc] 25)).cell? ⟨bb', off' + q * 6 + 5, none⟩ = some (.slice uA uL.length uc) := (((Below.refl _ wr).alloc (Nat.le_refl _) _).cell (by exact lt2)).trans k5
      have hbl : Hid (Below wr.heap.size wr ((wr.alloc (.cells #[.int .i64 tk, .int .i64 tp, .string ⟨tf.toArray⟩, .string ⟨tx.toArray⟩, .int .i64 tn, .slice tA tL.length tc] 25)).alloc (.cells #[.int .i64 uk, .int .i64 up, .string ⟨uf.toArray⟩, .string ⟨ux.toArray⟩, .int .i64 un, .slice uA uL.length uc] 25))) := ((Below.refl _ wr).alloc (Nat.le_refl _) _).alloc (by simp) _
      have hc2 := Lib.hid (hcall.out _ hbl.out)
      cases bq with
      | true =>
        go_wp2_with (go_at_fn g; refine hc2.out.mono ?_; rintro e w1 ⟨rfl, hb1⟩)
        have hBn : Hid (Below w.heap.size w w1) := hB.out.trans ((hbl.out.trans (hb1.mono hbl.out.size)).mono hB.out.size)
        go_roundg (n - (q + 1))
        case measure => have := hg'.out; omega
        case rel => exact ⟨q + 1, by omega, rfl, by go_num, hst.out.trans (Bool.true_and _), hBn⟩
      | false =>
        go_wp2_with (go_at_fn g; refine hc2.out.mono ?_; rintro e w1 ⟨rfl, hb1⟩)
        go_ret
        exact ⟨by rw [hst.out]; rfl, hB.out.trans ((hbl.out.trans (hb1.mono hbl.out.size)).mono hB.out.size)⟩
    · have i1 : decide ((q : Int) < (n : Int)) = false := by simp; omega
      have hfin := Lib.hid (eqBy_end hall.out (by have := hl.out; omega) (by have := hl'.out; omega))
      go_wp2_with fail
      go_ret
      exact ⟨by rw [hfin.out]; rfl, hB.out⟩


def SameP (t : Tree) : Prop := ∀ (u : Tree) (w : World) (ok ok' : Nat → Prop), Hid (TreeAt w ok t) → Hid (TreeAt w ok' u) → Calls Tryz.prog 84 #[.agg t.cells, .agg u.cells] w fun e w' => e = .returned (.bool (eqR (strip t) (strip u))) ∧ Below w.heap.size w w'
set_option maxRecDepth 100000 in
set_option maxHeartbeats 6400000 in
theorem sameP_walk (t : Tree) (ih : ∀ u ∈ t.sub, SameP u) : SameP t := by
  intro u w ok ok' hT hU
  have e84 : ∀ (args : Array Value) (w : World), (callFunc 84 args).run Tryz.prog w = .ok (.enter 84 args) w := enters_of Tryz.func84 (by kernel_rfl) rfl
  obtain ⟨k, p, f, x, n, A, c, L⟩ := t
  obtain ⟨k', p', f', x', n', A', c', L'⟩ := u
  have hT0 := hT.out
  have hU0 := hU.out
  rw [TreeAt] at hT0 hU0
  obtain ⟨hR, hlen⟩ := hT0
  obtain ⟨hS, hlen'⟩ := hU0
  obtain ⟨m, hm⟩ : ∃ m, Hid (L.length = m) := ⟨_, Lib.hid rfl⟩
  obtain ⟨m', hm'⟩ : ∃ m, Hid (L'.length = m) := ⟨_, Lib.hid rfl⟩
  rw [hm.out] at hlen
  rw [hm'.out] at hlen'
  have ih' : Hid (∀ u ∈ L, SameP u) := ih
  have hres : Hid (eqR (strip (.mk k p f x n A c L)) (strip (.mk k' p' f' x' n' A' c' L')) = (k == k' && p == p' && f == f' && x == x' && n == n' && eqL (strips L) (strips L'))) := by unfold Hid; rw [strip, strip, eqR]
  rw [hres.out, eqL_by]
  clear ih hT hU hres
  show Calls Tryz.prog 84 #[.agg #[.int .i64 k, .int .i64 p, .string ⟨f.toArray⟩, .string ⟨x.toArray⟩, .int .i64 n, .slice A L.length c], .agg #[.int .i64 k', .int .i64 p', .string ⟨f'.toArray⟩, .string ⟨x'.toArray⟩, .int .i64 n', .slice A' L'.length c']] w _
  rw [hm.out, hm'.out]
  have hb0 : Hid (Below w.heap.size w ((w.alloc (.cells #[.int .i64 k, .int .i64 p, .string ⟨f.toArray⟩, .string ⟨x.toArray⟩, .int .i64 n, .slice A m c] 25)).alloc (.cells #[.int .i64 k', .int .i64 p', .string ⟨f'.toArray⟩, .string ⟨x'.toArray⟩, .int .i64 n', .slice A' m' c'] 25))) := ((Below.refl _ w).alloc (Nat.le_refl _) _).alloc (by simp) _
  have hcall := Lib.hid (equal_nodes A m c L A' m' c' L' ok ok' 84 e84 (fun t u => eqR (strip t) (strip u)) _ hlen hlen' hm hm' (hR.below hb0.out) (hS.below hb0.out) (fun W t u ht hu hW => ih'.out t ht u W ok ok' (((hR.below hb0.out).mem ht).below hW) (((hS.below hb0.out).mem hu).below hW)))
  obtain ⟨bl, hbl⟩ : ∃ b, Hid (eqBy (fun t u => eqR (strip t) (strip u)) L L' = b) := ⟨_, Lib.hid rfl⟩
  rw [hbl.out] at hcall ⊢
  clear hbl hR hS
  by_cases h0 : ¬ (k = k')
  · have b0 : (k == k') = false := by simp [h0]
    rw [b0]
    go_enter Tryz.func84, Tryz.ntmps84
    go_wp2_with fail
    go_ret
    exact ⟨by simp, hb0.out⟩
  obtain rfl := Classical.not_not.1 h0
  by_cases h1 : ¬ (p = p')
  · have b1 : (p == p') = false := by simp [h1]
    rw [b1]
    go_enter Tryz.func84, Tryz.ntmps84
    go_wp2_with fail
    go_ret
    exact ⟨by simp, hb0.out⟩
  obtain rfl := Classical.not_not.1 h1
  by_cases h2 : ¬ (f = f')
  · have b2 : (f == f') = false := by simp [h2]
    rw [b2]
    go_enter Tryz.func84, Tryz.ntmps84
    go_wp2_with fail
    go_ret
    exact ⟨by simp, hb0.out⟩
  obtain rfl := Classical.not_not.1 h2
  by_cases h3 : ¬ (x = x')
  · have b3 : (x == x') = false := by simp [h3]
    rw [b3]
    go_enter Tryz.func84, Tryz.ntmps84
    go_wp2_with fail
    go_ret
    exact ⟨by simp, hb0.out⟩
  obtain rfl := Classical.not_not.1 h3
  by_cases h4 : ¬ (n = n')
  · have b4 : (n == n') = false := by simp [h4]
    rw [b4]
    go_enter Tryz.func84, Tryz.ntmps84
    go_wp2_with fail
    go_ret
    exact ⟨by simp, hb0.out⟩
  obtain rfl := Classical.not_not.1 h4
  go_enter Tryz.func84, Tryz.ntmps84
  go_wp2_with (go_at_call 129; refine hcall.out.mono ?_; rintro e w1 ⟨rfl, hB1⟩)
  go_ret
  exact ⟨by simp, hb0.out.trans (hB1.mono hb0.out.size)⟩
theorem sameP_any : ∀ t : Tree, SameP t := Tree.every fun t ih => sameP_walk t ih


set_option maxRecDepth 100000 in
set_option maxHeartbeats 6400000 in
theorem equal_needs (A : Option Addr) (n c : Nat) (L : List Nd) (A' : Option Addr) (n' c' : Nat) (L' : List Nd) (ok ok' : Nat → Prop) (g : Nat) (eg : ∀ (args : Array Value) (w : World), (callFunc g args).run Tryz.prog w = .ok (.enter g args) w) (p : Nd → Nd → Bool) (w : World) (hn : n ≤ maxLen) (hn' : n' ≤ maxLen) (hl : Hid (L.length = n)) (hl' : Hid (L'.length = n')) (hA : Hid (NdsAt w ok A L)) (hA' : Hid (NdsAt w ok' A' L'))
    (hf : Hid (∀ (W : World) (t u : Nd), t ∈ L → u ∈ L' → Below w.heap.size w W → Calls Tryz.prog g #[.agg t.cells.toArray, .agg u.cells.toArray] W fun e w' => e = .returned (.bool (p t u)) ∧ Below W.heap.size W w')) :
    Calls Tryz.prog 44 #[.slice A n c, .slice A' n' c', .func (.func g) #[] #[]] w fun e w' => e = .returned (.bool (eqBy p L L')) ∧ Below w.heap.size w w' := by
  unfold maxLen at hn hn'
  by_cases hne : ¬ (n = n')
  · have b1 : ((n : Int) == (n' : Int)) = false := by simp; omega
    have b2 : ((n : Int) != (n' : Int)) = true := by simp; omega
    have hr : eqBy p L L' = false := by
      cases h : eqBy p L L' with
      | false => rfl
      | true => have := eqBy_len h; rw [hl.out, hl'.out] at this; exact absurd this hne
    rw [hr]
    go_enter Tryz.func44, Tryz.ntmps44
    go_wp2_with fail
    go_ret
    exact ⟨rfl, Below.refl _ _⟩
  obtain rfl := Classical.not_not.1 hne
  go_enter Tryz.func44, Tryz.ntmps44
  go_wp2_with fail
  go_loopg [17] n (fun gg i wr => ∃ q : Nat, q ≤ n ∧ gg = n - q ∧ i = .int .i64 q ∧ Hid (eqBy p L L' = eqBy p (L.drop q) (L'.drop q)) ∧ Hid (Below w.heap.size w wr))
  case atStart => exact ⟨0, Nat.zero_le _, rfl, rfl, rfl, Below.refl _ _⟩
  case round =>
    obtain ⟨q, hq, hg, rfl, hall, hB⟩ := hrel
    have hg' := Lib.hid hg
    clear hg
    by_cases hlt : q < n
    · have i1 : decide ((q : Int) < (n : Int)) = true := by simp; omega
      have i2 : (q : Int) < (n : Int) := by omega
      have i3 : (0 : Int) ≤ (q : Int) := by omega
      obtain ⟨t, ht⟩ : ∃ t, L[q]? = some t := ⟨_, List.getElem?_eq_getElem (by have := hl.out; omega)⟩
      obtain ⟨u, hu⟩ : ∃ t, L'[q]? = some t := ⟨_, List.getElem?_eq_getElem (by have := hl'.out; omega)⟩
      have hst := Lib.hid (eqBy_step hall.out ht hu)
      obtain ⟨bb, off, rfl, _, hc, _⟩ := (hA.out.below hB.out) q t ht
      obtain ⟨bb', off', rfl, _, hc', _⟩ := (hA'.out.below hB.out) q u hu
      have hcall : Hid (∀ W, Below wr.heap.size wr W → Calls Tryz.prog g #[.agg t.cells.toArray, .agg u.cells.toArray] W fun e w' => e = .returned (.bool (p t u)) ∧ Below W.heap.size W w') := fun W hW => hf.out W t u (List.mem_of_getElem? ht) (List.mem_of_getElem? hu) (hB.out.trans (hW.mono hB.out.size))
      clear ht hu hall
      obtain ⟨bq, hbq⟩ : ∃ b, Hid (p t u = b) := ⟨_, Lib.hid rfl⟩
      rw [hbq.out] at hcall hst
      clear hbq
      obtain ⟨xk, xn, ⟨tk, tp, tf, tx, tn, tA, tc, tL⟩⟩ := t
      obtain ⟨yk, yn, ⟨uk, up, uf, ux, un, uA, uc, uL⟩⟩ := u
      have g0 : wr.cell? ⟨bb, off + q * 8, none⟩ = some (.int .i64 xk) := hc 0 _ rfl
      have k0 : wr.cell? ⟨bb', off' + q * 8, none⟩ = some (.int .i64 yk) := hc' 0 _ rfl
      have g1 : wr.cell? ⟨bb, off + q * 8 + 1, none⟩ = some (.int .i64 xn) := hc 1 _ rfl
      have k1 : wr.cell? ⟨bb', off' + q * 8 + 1, none⟩ = some (.int .i64 yn) := hc' 1 _ rfl
      have g2 : wr.cell? ⟨bb, off + q * 8 + 2, none⟩ = some (.int .i64 tk) := hc 2 _ rfl
      have k2 : wr.cell? ⟨bb', off' + q * 8 + 2, none⟩ = some (.int .i64 uk) := hc' 2 _ rfl
      have g3 : wr.cell? ⟨bb, off + q * 8 + 3, none⟩ = some (.int .i64 tp) := hc 3 _ rfl
      have k3 : wr.cell? ⟨bb', off' + q * 8 + 3, none⟩ = some (.int .i64 up) := hc' 3 _ rfl
      have g4 : wr.cell? ⟨bb, off + q * 8 + 4, none⟩ = some (.string ⟨tf.toArray⟩) := hc 4 _ rfl
      have k4 : wr.cell? ⟨bb', off' + q * 8 + 4, none⟩ = some (.string ⟨uf.toArray⟩) := hc' 4 _ rfl
      have g5 : wr.cell? ⟨bb, off + q * 8 + 5, none⟩ = some (.string ⟨tx.toArray⟩) := hc 5 _ rfl
      have k5 : wr.cell? ⟨bb', off' + q * 8 + 5, none⟩ = some (.string ⟨ux.toArray⟩) := hc' 5 _ rfl
      have g6 : wr.cell? ⟨bb, off + q * 8 + 6, none⟩ = some (.int .i64 tn) := hc 6 _ rfl
      have k6 : wr.cell? ⟨bb', off' + q * 8 + 6, none⟩ = some (.int .i64 un) := hc' 6 _ rfl
      have g7 : wr.cell? ⟨bb, off + q * 8 + 7, none⟩ = some (.slice tA tL.length tc) := hc 7 _ rfl
      have k7 : wr.cell? ⟨bb', off' + q * 8 + 7, none⟩ = some (.slice uA uL.length uc) := hc' 7 _ rfl
      have lt1 : bb < wr.heap.size := cell_lt g0
      have lt2 : bb' < wr.heap.size := cell_lt k0
      have kk0 : (wr.alloc (.cells #[.int .i64 xk, .int .i64 xn, .int .i64 tk, .int .i64 tp, .string ⟨tf.toArray⟩, .string ⟨tx.toArray⟩, .int .i64 tn, .slice tA tL.length tc] 74)).cell? ⟨bb', off' + q * 8, none⟩ = some (.int .i64 yk) := (((Below.refl _ wr).alloc (Nat.le_refl _) _).cell (by exact lt2)).trans k0
      have kk1 : (wr.alloc (.cells #[.int .i64 xk, .int .i64 xn, .int .i64 tk, .int .i64 tp, .string ⟨tf.toArray⟩, .string ⟨tx.toArray⟩, .int .i64 tn, .slice tA tL.length tc] 74)).cell? ⟨bb', off' + q * 8 + 1, none⟩ = some (.int .i64 yn) := (((Below.refl _ wr).alloc (Nat.le_refl _) _).cell (by exact lt2)).trans k1
      have kk2 : (wr.alloc (.cells #[.int .i64 xk, .int .i64 xn, .int .i64 tk, .int .i64 tp, .string ⟨tf.toArray⟩, .string ⟨tx.toArray⟩, .int .i64 tn, .slice tA tL.length tc] 74)).cell? ⟨bb', off' + q * 8 + 2, none⟩ = some (.int .i64 uk) := (((Below.refl _ wr).alloc (Nat.le_refl _) _).cell (by exact lt2)).trans k2
      have kk3 : (wr.alloc (.cells #[.int .i64 xk, .int .i64 xn, .int .i64 tk, .int .i64 tp, .string ⟨tf.toArray⟩, .string ⟨tx.toArray⟩, .int .i64 tn, .slice tA tL.length tc] 74)).cell? ⟨bb', off' + q * 8 + 3, none⟩ = some (.int .i64 up) := (((Below.refl _ wr).alloc (Nat.le_refl _) _).cell (by exact lt2)).trans k3
      have kk4 : (wr.alloc (.cells #[.int .i64 xk, .int .i64 xn, .int .i64 tk, .int .i64 tp, .string ⟨tf.toArray⟩, .string ⟨tx.toArray⟩, .int .i64 tn, .slice tA tL.length tc] 74)).cell? ⟨bb', off' + q * 8 + 4, none⟩ = some (.string ⟨uf.toArray⟩) := (((Below.refl _ wr).alloc (Nat.le_refl _) _).cell (by exact lt2)).trans k4
      have kk5 : (wr.alloc (.cells #[.int .i64 xk, .int .i64 xn, .int .i64 tk, .int .i64 tp, .string ⟨tf.toArray⟩, .string ⟨tx.toArray⟩, .int .i64 tn, .slice tA tL.length tc] 74)).cell? ⟨bb', off' + q * 8 + 5, none⟩ = some (.string ⟨ux.toArray⟩) := (((Below.refl _ wr).alloc (Nat.le_refl _) _).cell (by exact lt2)).trans k5
      have kk6 : (wr.alloc (.cells #[.int .i64 xk, .int .i64 xn, .int .i64 tk, .int .i64 tp, .string ⟨tf.toArray⟩, .string ⟨tx.toArray⟩, .int .i64 tn, .slice tA tL.length tc] 74)).cell? ⟨bb', off' + q * 8 + 6, none⟩ = some (.int .i64 un) := (((Below.refl _ wr).alloc (Nat.le_refl _) _).cell (by exact lt2)).trans k6
      have kk7 : (wr.alloc (.cells #[.int .i64 xk, .int .i64 xn, .int .i64 tk, .int .i64 tp, .string ⟨tf.toArray⟩, .string ⟨tx.toArray⟩, .int .i64 tn, .slice tA tL.length tc] 74)).cell? ⟨bb', off' + q * 8 + 7, none⟩ = some (.slice uA uL.length uc) := (((Below.refl _ wr).alloc (Nat.le_refl _) _).cell (by exact lt2)).trans k7
      clear hc hc'
      simp only [Nd.cells, Tree.cells] at hcall
      have hbl : Hid (Below wr.heap.size wr ((wr.alloc (.cells #[.int .i64 xk, .int .i64 xn, .int .i64 tk, .int .i64 tp, .string ⟨tf.toArray⟩, .string ⟨tx.toArray⟩, .int .i64 tn, .slice tA tL.length tc] 74)).alloc (.cells #[.int .i64 yk, .int .i64 yn, .int .i64 uk, .int .i64 up, .string ⟨uf.toArray⟩, .string ⟨ux.toArray⟩, .int .i64 un, .slice uA uL.length uc] 74))) := ((Below.refl _ wr).alloc (Nat.le_refl _) _).alloc (by simp) _
      have hc2 := Lib.hid (hcall.out _ hbl.out)
      cases bq with
      | true =>
        go_wp2_with (go_at_fn g; refine hc2.out.mono ?_; rintro e w1 ⟨rfl, hb1⟩)
        have hBn : Hid (Below w.heap.size w w1) := hB.out.trans ((hbl.out.trans (hb1.mono hbl.out.size)).mono hB.out.size)
        go_roundg (n - (q + 1))
        case measure => have := hg'.out; omega
        case rel => exact ⟨q + 1, by omega, rfl, by go_num, hst.out.trans (Bool.true_and _), hBn⟩
      | false =>
        go_wp2_with (go_at_fn g; refine hc2.out.mono ?_; rintro e w1 ⟨rfl, hb1⟩)
        go_ret
        exact ⟨by rw [hst.out]; rfl, hB.out.trans ((hbl.out.trans (hb1.mono hbl.out.size)).mono hB.out.size)⟩
    · have i1 : decide ((q : Int) < (n : Int)) = false := by simp; omega
      have hfin := Lib.hid (eqBy_end hall.out (by have := hl.out; omega) (by have := hl'.out; omega))
      go_wp2_with fail
      go_ret
      exact ⟨by rw [hfin.out]; rfl, hB.out⟩


set_option maxRecDepth 100000 in
set_option maxHeartbeats 6400000 in
theorem sameNeed_any (x y : Nd) (w : World) (ok ok' : Nat → Prop) (hT : Hid (TreeAt w ok x.rule)) (hU : Hid (TreeAt w ok' y.rule)) : Calls Tryz.prog 45 #[.agg x.cells.toArray, .agg y.cells.toArray] w fun e w' => e = .returned (.bool (eqNd x y)) ∧ Below w.heap.size w w' := by
  obtain ⟨xk, xn, ⟨k, p, f, x, n, A, c, L⟩⟩ := x
  obtain ⟨yk, yn, ⟨k', p', f', x', n', A', c', L'⟩⟩ := y
  have hres : Hid (eqNd ⟨xk, xn, .mk k p f x n A c L⟩ ⟨yk, yn, .mk k' p' f' x' n' A' c' L'⟩ = (xk == yk && xn == yn && eqR (strip (.mk k p f x n A c L)) (strip (.mk k' p' f' x' n' A' c' L')))) := rfl
  rw [hres.out]
  clear hres
  show Calls Tryz.prog 45 #[.agg #[.int .i64 xk, .int .i64 xn, .int .i64 k, .int .i64 p, .string ⟨f.toArray⟩, .string ⟨x.toArray⟩, .int .i64 n, .slice A L.length c], .agg #[.int .i64 yk, .int .i64 yn, .int .i64 k', .int .i64 p', .string ⟨f'.toArray⟩, .string ⟨x'.toArray⟩, .int .i64 n', .slice A' L'.length c']] w _
  have hb0 : Hid (Below w.heap.size w ((w.alloc (.cells #[.int .i64 xk, .int .i64 xn, .int .i64 k, .int .i64 p, .string ⟨f.toArray⟩, .string ⟨x.toArray⟩, .int .i64 n, .slice A L.length c] 74)).alloc (.cells #[.int .i64 yk, .int .i64 yn, .int .i64 k', .int .i64 p', .string ⟨f'.toArray⟩, .string ⟨x'.toArray⟩, .int .i64 n', .slice A' L'.length c'] 74))) := ((Below.refl _ w).alloc (Nat.le_refl _) _).alloc (by simp) _
  have hcall := Lib.hid (sameP_any (.mk k p f x n A c L) (.mk k' p' f' x' n' A' c' L') _ ok ok' (hT.out.below hb0.out) (hU.out.below hb0.out))
  obtain ⟨bl, hbl⟩ : ∃ b, Hid (eqR (strip (.mk k p f x n A c L)) (strip (.mk k' p' f' x' n' A' c' L')) = b) := ⟨_, Lib.hid rfl⟩
  rw [hbl.out] at hcall ⊢
  simp only [Tree.cells] at hcall
  clear hbl hT hU
  by_cases h0 : ¬ (xk = yk)
  · have b0 : (xk == yk) = false := by simp [h0]
    rw [b0]
    go_enter Tryz.func45, Tryz.ntmps45
    go_wp2_with fail
    go_ret
    exact ⟨by simp, hb0.out⟩
  obtain rfl := Classical.not_not.1 h0
  by_cases h1 : ¬ (xn = yn)
  · have b1 : (xn == yn) = false := by simp [h1]
    rw [b1]
    go_enter Tryz.func45, Tryz.ntmps45
    go_wp2_with fail
    go_ret
    exact ⟨by simp, hb0.out⟩
  obtain rfl := Classical.not_not.1 h1
  go_enter Tryz.func45, Tryz.ntmps45
  go_wp2_with (go_at_call 84; refine hcall.out.mono ?_; rintro e w1 ⟨rfl, hB1⟩)
  go_ret
  exact ⟨by simp, hb0.out.trans (hB1.mono hb0.out.size)⟩

end Go.Proofs.YtjkmhlfjheiekaaGreatDoor

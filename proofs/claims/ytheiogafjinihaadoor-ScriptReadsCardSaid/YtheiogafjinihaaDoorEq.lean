/- Steps compared; few; Same. -/
import Derived.Test.YtheiogafjinihaaDoorPr
import Derived.Deep.QuietTactic
import Derived.BigQuiet
import Derived.Deep.Draws
namespace Go.Proofs.YtheiogafjinihaaDoor
open Go Go.RowKit Go.BigFrame Go.Maps

theorem Tryd.eqg49 : Tryd.prog.eqGuardType Tryd.prog.depth 49 = false := by kernel_rfl
theorem Tryd.held49 : Tryd.prog.stoodInHeld 49 = false := by kernel_rfl
theorem Tryd.held47 : Tryd.prog.stoodInHeld 47 = false := by kernel_rfl
theorem Tryd.fields49 : Tryd.prog.underlying 49 = some (.struct (Tryd.prog.fieldsOf 49)) := by kernel_rfl
theorem Tryd.fields47 : Tryd.prog.underlying 47 = some (.struct (Tryd.prog.fieldsOf 47)) := by kernel_rfl
def eqS (x y : Stp) : Bool := x.kind == y.kind && (x.n == y.n && (x.party == y.party && (x.akind == y.akind && (x.an == y.an && x.deal == y.deal))))
theorem eqS_iff (x y : Stp) : eqS x y = decide (x = y) := by
  obtain ⟨a, b, c, d, e, f⟩ := x
  obtain ⟨a', b', c', d', e', f'⟩ := y
  rw [Bool.eq_iff_iff]
  simp [eqS]
theorem equal_act (a b a' b' : Int) (d d' : List UInt8) (W : World) : (Op.equalIn 9999 47 (.agg #[.int .i64 a, .int .i64 b, .string ⟨d.toArray⟩]) (.agg #[.int .i64 a', .int .i64 b', .string ⟨d'.toArray⟩])).run Tryd.prog W = .ok (a == a' && (b == b' && d == d')) W := by
  rw [show (9999 : Nat) = 9998 + 1 from rfl, run_equalIn_struct _ _ _ _ _ Tryd.fields47 Tryd.held47]
  unfold Program.fieldsOf
  rw [Tryd.underlying47]
  by_cases h1 : a = a' <;> by_cases h2 : b = b' <;> by_cases h3 : d = d' <;> simp [go_sem, h1, h2, h3]
theorem equal_step (x y : Stp) (W : World) : (Op.equalIn 10000 49 (.agg x.cells) (.agg y.cells)).run Tryd.prog W = .ok (eqS x y) W := by
  obtain ⟨k, n, p, ak, an, d⟩ := x
  obtain ⟨k', n', p', ak', an', d'⟩ := y
  rw [show (10000 : Nat) = 9999 + 1 from rfl, run_equalIn_struct _ _ _ _ _ Tryd.fields49 Tryd.held49]
  unfold Program.fieldsOf
  rw [Tryd.underlying49]
  unfold eqS
  simp only [Stp.cells]
  have he := equal_act ak an ak' an' d d'
  by_cases h1 : k = k' <;> by_cases h2 : n = n' <;> by_cases h3 : p = p' <;> simp [go_sem, h1, h2, h3, he]
  by_cases g1 : ak = ak' <;> by_cases g2 : an = an' <;> by_cases g3 : d = d' <;> simp [g1, g2, g3]
theorem neq_step (x y : Stp) (W : World) : (binOp .neq 49 (.agg x.cells) (.agg y.cells)).run Tryd.prog W = .ok (.bool (!(eqS x y))) W := by
  rw [run_neq_struct, equal_step]; rfl
theorem eql_step (x y : Stp) (W : World) : (binOp .eql 49 (.agg x.cells) (.agg y.cells)).run Tryd.prog W = .ok (.bool (eqS x y)) W := by
  rw [run_eql_struct, equal_step]; rfl

/-- Steps in memory. -/
def StepsAt (w : World) (A : Option Addr) (l : List Stp) : Prop :=
  ∀ (k : Nat) (x : Stp), l[k]? = some x → ∃ b off, A = some ⟨b, off, none⟩ ∧ w.cell? ⟨b, off + k * 6, none⟩ = some (.int .i64 x.kind) ∧ w.cell? ⟨b, off + k * 6 + 1, none⟩ = some (.int .i64 x.n) ∧ w.cell? ⟨b, off + k * 6 + 2, none⟩ = some (.string ⟨x.party.toArray⟩) ∧
    w.cell? ⟨b, off + k * 6 + 3, none⟩ = some (.int .i64 x.akind) ∧ w.cell? ⟨b, off + k * 6 + 4, none⟩ = some (.int .i64 x.an) ∧ w.cell? ⟨b, off + k * 6 + 5, none⟩ = some (.string ⟨x.deal.toArray⟩)
theorem StepsAt.below {w w' : World} {A : Option Addr} {l : List Stp} (h : StepsAt w A l) (hb : Below w.heap.size w w') : StepsAt w' A l := by
  intro k x hk
  obtain ⟨b, off, e, h0, h1, h2, h3, h4, h5⟩ := h k x hk
  have hlt : b < w.heap.size := World.block_lt_of_cell? w _ h0
  exact ⟨b, off, e, by rw [hb.cell hlt]; exact h0, by rw [hb.cell hlt]; exact h1, by rw [hb.cell hlt]; exact h2, by rw [hb.cell hlt]; exact h3, by rw [hb.cell hlt]; exact h4, by rw [hb.cell hlt]; exact h5⟩
theorem StepsAt.nil (w : World) (A : Option Addr) : StepsAt w A [] := by intro k x hk; simp at hk
/-- A row of one's own reads as the steps that it holds. -/
theorem stL_get : ∀ (l : List Stp) (k i : Nat) (x : Stp) (v : Value), l[k]? = some x → (stL x)[i]? = some v → (l.flatMap stL)[k * 6 + i]? = some v
  | [], k, i, x, v, h, _ => by simp at h
  | y :: l, 0, i, x, v, h, hv => by
    simp at h; subst h
    rw [List.flatMap_cons, Nat.zero_mul, Nat.zero_add, List.getElem?_append_left (List.getElem?_eq_some_iff.1 hv).1]
    exact hv
  | y :: l, k + 1, i, x, v, h, hv => by
    have := stL_get l k i x v (by simpa using h) hv
    have e : (stL y).length = 6 := rfl
    rw [List.flatMap_cons, List.getElem?_append_right (by rw [e]; omega), e, show (k + 1) * 6 + i - 6 = k * 6 + i by omega]
    exact this
theorem add_zero_at (g j : Nat) : Addr.add ⟨g, 0, none⟩ j = ⟨g, 0 + j, none⟩ := by unfold Addr.add; split <;> simp_all
theorem own_steps {w : World} {B : Nat} {A : Option Addr} {n c : Nat} {l : List Stp} (h : w.ownsRow B 49 6 (.slice A n c) n (l.flatMap stL)) (hn : l.length = n) : StepsAt w A l := by
  intro k x hk
  have hr := Reads.of_own h
  have hlt : k < n := by rw [← hn]; exact (List.getElem?_eq_some_iff.1 hk).1
  obtain ⟨g, cap, hv, _, _⟩ := h.form (by omega)
  have hA : A = some ⟨g, 0, none⟩ := by injection hv
  subst hA
  obtain ⟨ad, e, _, hc⟩ := hr.2 (by omega)
  obtain rfl : ad = ⟨g, 0, none⟩ := (Option.some.inj e).symm
  have key : ∀ i v, (stL x)[i]? = some v → w.cell? ⟨g, 0 + (k * 6 + i), none⟩ = some v := fun i v hv => by
    rw [← add_zero_at]; exact hc _ _ (stL_get l k i x v hk hv)
  exact ⟨g, 0, rfl, key 0 _ rfl, key 1 _ rfl, key 2 _ rfl, key 3 _ rfl, key 4 _ rfl, key 5 _ rfl⟩
/-- Do two rows of steps say the same? -/
def sameS : List Stp → List Stp → Bool
  | [], [] => true
  | x :: l, y :: m => eqS x y && sameS l m
  | _, _ => false
theorem sameS_len : ∀ (l l' : List Stp), l.length ≠ l'.length → sameS l l' = false
  | [], [], h => absurd rfl h
  | [], _ :: _, _ => rfl
  | _ :: _, [], _ => rfl
  | x :: l, y :: l', h => by rw [sameS, sameS_len l l' (by intro e; apply h; simp [e])]; simp
theorem sameS_refl : ∀ l : List Stp, sameS l l = true
  | [] => rfl
  | x :: l => by rw [sameS, sameS_refl l, eqS_iff]; simp
theorem sameS_step {l l' : List Stp} {k : Nat} {x y : Stp} (hx : l[k]? = some x) (hy : l'[k]? = some y) : sameS (l.drop k) (l'.drop k) = (eqS x y && sameS (l.drop (k + 1)) (l'.drop (k + 1))) := by
  obtain ⟨hk, he⟩ := List.getElem?_eq_some_iff.1 hx
  obtain ⟨hk', he'⟩ := List.getElem?_eq_some_iff.1 hy
  rw [List.drop_eq_getElem_cons hk, List.drop_eq_getElem_cons hk', he, he', sameS]
set_option maxHeartbeats 800000 in
theorem same_any (A A' : Option Addr) (n c n' c' : Nat) (l l' : List Stp) (w : World) (hn : n ≤ maxLen) (hn' : n' ≤ maxLen) (hl : Hid (l.length = n)) (hl' : Hid (l'.length = n')) (hA : Hid (StepsAt w A l)) (hA' : Hid (StepsAt w A' l')) :
    Calls Tryd.prog 14 #[.slice A n c, .slice A' n' c'] w fun e w' => e = .returned (.bool (sameS l l')) ∧ Below w.heap.size w w' := by
  unfold maxLen at hn hn'
  by_cases hne : n = n'
  · subst hne
    go_enter Tryd.func14, Tryd.ntmps14
    go_wp2
    go_loopw [4, 5] (fun _ i wr => ∃ k : Nat, k ≤ n ∧ i = .int .i64 k ∧ Hid (sameS l l' = sameS (l.drop k) (l'.drop k)) ∧ Below w.heap.size w wr) (fun _ i _ => n - (intOf i).toNat)
    case atStart => exact ⟨0, Nat.zero_le _, rfl, rfl, Below.refl _ _⟩
    case round =>
      obtain ⟨k, hk, rfl, hsame, hB⟩ := hrel
      by_cases hlt : k < n
      · obtain ⟨x, hx⟩ : ∃ x, l[k]? = some x := ⟨_, List.getElem?_eq_getElem (by have := hl.out; omega)⟩
        obtain ⟨y, hy⟩ : ∃ y, l'[k]? = some y := ⟨_, List.getElem?_eq_getElem (by have := hl'.out; omega)⟩
        have hst := Lib.hid (sameS_step hx hy)
        obtain ⟨b, off, rfl, h0, h1, h2, h3, h4, h5⟩ := (hA.out.below hB) k x hx
        obtain ⟨b', off', rfl, g0, g1, g2, g3, g4, g5⟩ := (hA'.out.below hB) k y hy
        clear hx hy
        have i1 : (k : Int) < (n : Int) := by omega
        have i2 : (0 : Int) ≤ (k : Int) := by omega
        have hq := neq_step x y
        have hqg := Tryd.eqg49
        obtain ⟨b0, hb0⟩ : ∃ b0, Hid (eqS x y = b0) := ⟨_, Lib.hid rfl⟩
        rw [hb0.out] at hq hst
        cases b0 with
        | true =>
          go_wp2
          go_quiet (fail)
          clear hq hqg
          go_wp2
          go_roundw
          case rel => exact ⟨k + 1, by omega, by go_num, by rw [hsame.out, hst.out]; rfl, below_drewN hB _⟩
          case measure => simp [intOf]; omega
        | false =>
          go_wp2
          go_quiet (fail)
          clear hq hqg
          go_wp2
          go_ret
          exact ⟨retBl (by rw [hsame.out, hst.out]; rfl), below_drewN hB _⟩
      · go_wp2
        go_ret
        exact ⟨retBl (by rw [hsame.out, List.drop_eq_nil_of_le (by have := hl.out; omega), List.drop_eq_nil_of_le (by have := hl'.out; omega)]; rfl), hB⟩
  · have hne' : ((n : Int) != (n' : Int)) = true := by simp; omega
    go_enter Tryd.func14, Tryd.ntmps14
    go_wp2
    go_ret
    exact ⟨retBl (sameS_len l l' (by rw [hl.out, hl'.out]; exact hne)).symm, Below.refl _ _⟩
end Go.Proofs.YtheiogafjinihaaDoor

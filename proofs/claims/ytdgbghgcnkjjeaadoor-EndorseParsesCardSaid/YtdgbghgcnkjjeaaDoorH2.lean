/- Walks of Cut and Same. -/
import Derived.Test.YtdgbghgcnkjjeaaDoorF2
import Derived.Test.YtdgbghgcnkjjeaaDoorMem
namespace Go.Proofs.YtdgbghgcnkjjeaaDoor
open Go.RowKit Go.BigFrame

theorem Tryd.info34 : (Tryd.prog.info? 34).map (fun i => (i.zero, i.size, i.bytes)) = some (some (.agg #[.string ⟨#[]⟩, .string ⟨#[]⟩, .int .i64 0, .int .i64 0]), 4, 48) := by kernel_rfl

def End.cells (x : End) : List Value := [.string x.frm, .string x.to, .int .i64 x.kind, .int .i64 x.day]
def cellsOf (l : List End) : List Value := l.flatMap End.cells

theorem cellsOf_length (l : List End) : (cellsOf l).length = l.length * 4 := by
  induction l with
  | nil => rfl
  | cons x l ih =>
    have h4 : x.cells.length = 4 := rfl
    have : cellsOf (x :: l) = x.cells ++ cellsOf l := rfl
    rw [this, List.length_append, ih, h4, List.length_cons]; omega
theorem cellsOf_one (l : List End) : ∀ u ∈ cellsOf l, u.oneCell' = true := by
  intro u hu
  simp only [cellsOf, List.mem_flatMap] at hu
  obtain ⟨x, _, hu⟩ := hu
  simp only [End.cells, List.mem_cons, List.not_mem_nil, or_false] at hu
  rcases hu with rfl | rfl | rfl | rfl <;> rfl
theorem cellsOf_get : ∀ (l : List End) (k : Nat) (x : End) (j : Nat) (v : Value), l[k]? = some x → x.cells[j]? = some v → (cellsOf l)[k * 4 + j]? = some v
  | [], k, x, j, v, h, _ => by simp at h
  | y :: l, 0, x, j, v, h, hj => by
    have hx : y = x := by simpa using h
    subst hx
    have hjl : j < y.cells.length := (List.getElem?_eq_some_iff.1 hj).1
    simp only [cellsOf, List.flatMap_cons, Nat.zero_mul, Nat.zero_add]
    rw [List.getElem?_append_left hjl]; exact hj
  | y :: l, k + 1, x, j, v, h, hj => by
    simp only [cellsOf, List.flatMap_cons]
    have h4 : y.cells.length = 4 := rfl
    rw [List.getElem?_append_right (by omega), h4, show (k + 1) * 4 + j - 4 = k * 4 + j from by omega]
    exact cellsOf_get l k x j v (by simpa using h) hj
theorem cellsOf_at : ∀ (l : List End) (i : Nat) (v : Value), (cellsOf l)[i]? = some v → ∃ x, l[i / 4]? = some x ∧ x.cells[i % 4]? = some v
  | [], i, v, h => by simp [cellsOf] at h
  | y :: l, i, v, h => by
    simp only [cellsOf, List.flatMap_cons] at h
    have h4 : y.cells.length = 4 := rfl
    by_cases hi : i < 4
    · rw [List.getElem?_append_left (by omega)] at h
      exact ⟨y, by rw [Nat.div_eq_of_lt hi]; rfl, by rw [Nat.mod_eq_of_lt hi]; exact h⟩
    · rw [List.getElem?_append_right (by omega), h4] at h
      obtain ⟨x, hx, hc⟩ := cellsOf_at l (i - 4) v h
      refine ⟨x, ?_, ?_⟩
      · rw [show i / 4 = (i - 4) / 4 + 1 from by omega]; simpa using hx
      · rw [show i % 4 = (i - 4) % 4 from by omega]; exact hc

def Small (l : List End) : Prop := ∀ x ∈ l, x.frm.size ≤ maxLen ∧ x.to.size ≤ maxLen
theorem EndsAt.small {w : World} {A : Option Addr} {l : List End} (h : EndsAt w A l) : Small l := by
  intro x hx
  obtain ⟨k, hk, he⟩ := List.getElem_of_mem hx
  obtain ⟨_, _, _, _, _, _, _, h4, h5⟩ := h k x (by rw [List.getElem?_eq_getElem hk, he])
  exact ⟨h4, h5⟩

/-- From a row of endorsements to a row of cells, and back. -/
theorem EndsAt.reads {w : World} {A : Option Addr} {l : List End} (h : EndsAt w A l) : Reads w w.heap.size 4 A l.length (cellsOf l) := by
  refine ⟨cellsOf_length l, fun hn => ?_⟩
  obtain ⟨x0, hx0⟩ : ∃ x0, l[0]? = some x0 := ⟨_, List.getElem?_eq_getElem hn⟩
  obtain ⟨b, off, rfl, g0, -, -, -, -, -⟩ := h 0 x0 hx0
  have hlt := World.block_lt_of_cell? w _ g0
  refine ⟨_, rfl, hlt, fun j u hj => ?_⟩
  obtain ⟨x, hx, hc⟩ := cellsOf_at l j u hj
  obtain ⟨b', off', hh, h0, h1, h2, h3, -, -⟩ := h _ x hx
  obtain ⟨rfl, rfl⟩ : b = b' ∧ off = off' := by simpa using hh
  have hadd : ∀ j, Addr.add ⟨b, off, none⟩ j = ⟨b, off + j, none⟩ := fun j => by unfold Addr.add; split <;> simp_all
  have hm : j % 4 < 4 := Nat.mod_lt _ (by omega)
  rw [hadd]
  rw [show off + j = off + j / 4 * 4 + j % 4 from by omega]
  generalize j % 4 = m at *
  match m, hm, hc with
  | 0, _, hc => simp only [End.cells, List.getElem?_cons_zero, Option.some.injEq] at hc; subst hc; exact h0
  | 1, _, hc => simp [End.cells] at hc; subst hc; exact h1
  | 2, _, hc => simp [End.cells] at hc; subst hc; exact h2
  | 3, _, hc => simp [End.cells] at hc; subst hc; exact h3
theorem EndsAt.of_reads {w : World} {B : Nat} {A : Option Addr} {l : List End} (h : Reads w B 4 A l.length (cellsOf l)) (hs : Small l) : EndsAt w A l := by
  intro k x hk
  have hkl := (List.getElem?_eq_some_iff.1 hk).1
  obtain ⟨ad, rfl, _, hc⟩ := h.2 (by omega)
  have h0' := hc 0 _ (cellsOf_get l 0 _ 0 _ (List.getElem?_eq_getElem (by omega)) rfl)
  have hsp := World.cell?_spot h0'
  obtain ⟨b, off, spot⟩ := ad
  have hspot : spot = none := by simpa [Addr.add] using hsp
  subst hspot
  have hadd : ∀ j, Addr.add ⟨b, off, none⟩ j = ⟨b, off + j, none⟩ := fun j => by unfold Addr.add; split <;> simp_all
  have hx : x ∈ l := List.mem_of_getElem? hk
  refine ⟨b, off, rfl, ?_, ?_, ?_, ?_, (hs x hx).1, (hs x hx).2⟩
  · have := hc _ _ (cellsOf_get l k x 0 _ hk rfl); rwa [hadd] at this
  · have := hc _ _ (cellsOf_get l k x 1 _ hk rfl); rwa [hadd] at this
  · have := hc _ _ (cellsOf_get l k x 2 _ hk rfl); rwa [hadd] at this
  · have := hc _ _ (cellsOf_get l k x 3 _ hk rfl); rwa [hadd] at this

theorem own_ends {w : World} {base m : Nat} {v : Value} {l : List End} (h : w.ownsRow base 34 4 v m (cellsOf l)) (hl : l.length = m) (hs : Small l) : ∃ A' c', v = .slice A' m c' ∧ m ≤ c' ∧ EndsAt w A' l := by
  rcases h.2 with ⟨rfl, rfl⟩ | ⟨g, cap, cur, rfl, _, _, hnc, _⟩
  · have : l = [] := List.eq_nil_of_length_eq_zero hl
    subst this
    exact ⟨_, _, rfl, Nat.le_refl _, by intro k x hk; simp at hk⟩
  · exact ⟨_, _, rfl, hnc, EndsAt.of_reads (by rw [hl]; exact Reads.of_own h) hs⟩

def eqEnd (x y : End) : Bool := x.frm.toList == y.frm.toList && (x.to.toList == y.to.toList && (x.kind == y.kind && x.day == y.day))
theorem Tryd.eqg34 : Tryd.prog.eqGuardType Tryd.prog.depth 34 = false := by kernel_rfl
theorem Tryd.held34 : Tryd.prog.stoodInHeld 34 = false := by kernel_rfl
theorem Tryd.fields34 : Tryd.prog.underlying 34 = some (.struct (Tryd.prog.fieldsOf 34)) := by kernel_rfl
theorem neq_end (x y : End) (W : World) : (binOp .neq 34 (.agg #[.string x.frm, .string x.to, .int .i64 x.kind, .int .i64 x.day]) (.agg #[.string y.frm, .string y.to, .int .i64 y.kind, .int .i64 y.day])).run Tryd.prog W = .ok (.bool (!(eqEnd x y))) W := by
  rw [run_neq_struct, run_equalIn_struct _ _ _ _ _ Tryd.fields34 Tryd.held34]
  unfold Program.fieldsOf
  rw [Tryd.underlying34]
  unfold eqEnd
  by_cases h1 : x.frm.toList = y.frm.toList <;> by_cases h2 : x.to.toList = y.to.toList <;> by_cases h3 : x.kind = y.kind <;> by_cases h4 : x.day = y.day <;> simp [go_sem, h1, h2, h3, h4]

def sameB : List End → List End → Bool
  | [], [] => true
  | x :: l, y :: m => eqEnd x y && sameB l m
  | _, _ => false

theorem same_no {r : Bool} {l l' : List End} {k : Nat} {x y : End} (hr : r = sameB (l.drop k) (l'.drop k)) (hx : l[k]? = some x) (hy : l'[k]? = some y) (h : (!eqEnd x y) = true) : false = r := by
  obtain ⟨hk, he⟩ := List.getElem?_eq_some_iff.1 hx
  obtain ⟨hk', he'⟩ := List.getElem?_eq_some_iff.1 hy
  rw [hr, List.drop_eq_getElem_cons hk, List.drop_eq_getElem_cons hk', he, he', sameB]
  simp at h; simp [h]
theorem same_yes {r : Bool} {l l' : List End} {k : Nat} {x y : End} (hr : r = sameB (l.drop k) (l'.drop k)) (hx : l[k]? = some x) (hy : l'[k]? = some y) (h : (!eqEnd x y) = false) : Hid (r = sameB (l.drop (k + 1)) (l'.drop (k + 1))) := by
  obtain ⟨hk, he⟩ := List.getElem?_eq_some_iff.1 hx
  obtain ⟨hk', he'⟩ := List.getElem?_eq_some_iff.1 hy
  unfold Hid
  rw [hr, List.drop_eq_getElem_cons hk, List.drop_eq_getElem_cons hk', he, he', sameB]
  simp at h; simp [h]
theorem same_len : ∀ (l l' : List End), l.length ≠ l'.length → false = sameB l l'
  | [], [], h => absurd rfl h
  | [], _ :: _, _ => rfl
  | _ :: _, [], _ => rfl
  | x :: l, y :: l', h => by
    rw [sameB, ← same_len l l' (by intro e; apply h; simp [e])]; simp
theorem same_refl : ∀ l : List End, sameB l l = true
  | [] => rfl
  | x :: l => by rw [sameB, same_refl l]; simp [eqEnd]

set_option maxHeartbeats 800000 in
theorem same_any (A A' : Option Addr) (n c n' c' : Nat) (l l' : List End) (w : World) (hn : n ≤ maxLen) (hn' : n' ≤ maxLen) (hl : Hid (l.length = n)) (hl' : Hid (l'.length = n')) (hA : Hid (EndsAt w A l)) (hA' : Hid (EndsAt w A' l')) :
    Calls Tryd.prog 10 #[.slice A n c, .slice A' n' c'] w fun e w' => e = .returned (.bool (sameB l l')) ∧ Below w.heap.size w w' := by
  unfold maxLen at hn hn'
  by_cases hne : n = n'
  · subst hne
    go_enter Tryd.func10, Tryd.ntmps10
    go_wp2
    go_loopw [4, 5] (fun _ i wr => ∃ k : Nat, k ≤ n ∧ i = .int .i64 k ∧ Hid (sameB l l' = sameB (l.drop k) (l'.drop k)) ∧ Below w.heap.size w wr) (fun _ i _ => n - (intOf i).toNat)
    case atStart => exact ⟨0, Nat.zero_le _, rfl, rfl, Below.refl _ _⟩
    case round =>
      obtain ⟨k, hk, rfl, hsame, hB⟩ := hrel
      by_cases hlt : k < n
      · obtain ⟨x, hx⟩ : ∃ x, l[k]? = some x := ⟨_, List.getElem?_eq_getElem (by have := hl.out; omega)⟩
        obtain ⟨y, hy⟩ : ∃ y, l'[k]? = some y := ⟨_, List.getElem?_eq_getElem (by have := hl'.out; omega)⟩
        have hx' : Hid (l[k]? = some x) := hx
        have hy' : Hid (l'[k]? = some y) := hy
        clear hx hy
        obtain ⟨b, off, rfl, h0, h1, h2, h3, h4, h5⟩ := (hA.out.below hB) k x hx'.out
        obtain ⟨b', off', rfl, g0, g1, g2, g3, g4, g5⟩ := (hA'.out.below hB) k y hy'.out
        have i1 : (k : Int) < (n : Int) := by omega
        have i2 : (0 : Int) ≤ (k : Int) := by omega
        have hq := neq_end x y
        have hqg := Tryd.eqg34
        go_wp2
        go_quiet (fail)
        clear hq hqg
        go_wp2
        · go_ret
          exact ⟨retB (same_no hsame.out hx'.out hy'.out (by assumption)), below_drewN hB _⟩
        · go_roundw
          case rel => exact ⟨k + 1, by omega, by go_num, same_yes hsame.out hx'.out hy'.out (by assumption), below_drewN hB _⟩
          case measure => simp [intOf]; omega
      · go_wp2
        go_ret
        exact ⟨retB (by rw [hsame.out, List.drop_eq_nil_of_le (by have := hl.out; omega), List.drop_eq_nil_of_le (by have := hl'.out; omega)]; rfl), hB⟩
  · have hne' : ((n : Int) != (n' : Int)) = true := by simp; omega
    go_enter Tryd.func10, Tryd.ntmps10
    go_wp2
    go_ret
    exact ⟨retB (same_len l l' (by rw [hl.out, hl'.out]; exact hne)), Below.refl _ _⟩

end Go.Proofs.YtdgbghgcnkjjeaaDoor

/- The walks of Same, Fine and the document's example. -/
import Derived.Test.YtbpngfppddigjaaGreatDoorN
import Derived.Deep.QuietTactic
import Derived.BigQuiet
import Derived.Deep.Draws
namespace Go.Proofs.YtbpngfppddigjaaGreatDoor
open Go Go.RowKit Go.BigFrame Go.Maps

theorem retBl {a b : Bool} (h : a = b) : Ending.returned (.bool a) = .returned (.bool b) := by rw [h]
def eqF (x y : Flt) : Bool := x.paper == y.paper && (x.kind == y.kind && (x.field.toList == y.field.toList && x.why == y.why))
theorem Tryz.eqg40 : Tryz.prog.eqGuardType Tryz.prog.depth 40 = false := by kernel_rfl
theorem Tryz.held40 : Tryz.prog.stoodInHeld 40 = false := by kernel_rfl
theorem Tryz.fields40 : Tryz.prog.underlying 40 = some (.struct (Tryz.prog.fieldsOf 40)) := by kernel_rfl
theorem neq_flt (x y : Flt) (W : World) : (binOp .neq 40 (.agg #[.int .i64 x.paper, .int .i64 x.kind, .string x.field, .int .i64 x.why]) (.agg #[.int .i64 y.paper, .int .i64 y.kind, .string y.field, .int .i64 y.why])).run Tryz.prog W = .ok (.bool (!(eqF x y))) W := by
  rw [run_neq_struct, run_equalIn_struct _ _ _ _ _ Tryz.fields40 Tryz.held40]
  unfold Program.fieldsOf
  rw [Tryz.underlying40]
  unfold eqF
  by_cases h1 : x.paper = y.paper <;> by_cases h2 : x.kind = y.kind <;> by_cases h3 : x.field.toList = y.field.toList <;> by_cases h4 : x.why = y.why <;> simp [go_sem, h1, h2, h3, h4]

def sameB : List Flt → List Flt → Bool
  | [], [] => true
  | x :: l, y :: m => eqF x y && sameB l m
  | _, _ => false

theorem same_no {r : Bool} {l l' : List Flt} {k : Nat} {x y : Flt} (hr : r = sameB (l.drop k) (l'.drop k)) (hx : l[k]? = some x) (hy : l'[k]? = some y) (h : (!eqF x y) = true) : false = r := by
  obtain ⟨hk, he⟩ := List.getElem?_eq_some_iff.1 hx
  obtain ⟨hk', he'⟩ := List.getElem?_eq_some_iff.1 hy
  rw [hr, List.drop_eq_getElem_cons hk, List.drop_eq_getElem_cons hk', he, he', sameB]
  simp at h; simp [h]
theorem same_yes {r : Bool} {l l' : List Flt} {k : Nat} {x y : Flt} (hr : r = sameB (l.drop k) (l'.drop k)) (hx : l[k]? = some x) (hy : l'[k]? = some y) (h : (!eqF x y) = false) : Hid (r = sameB (l.drop (k + 1)) (l'.drop (k + 1))) := by
  obtain ⟨hk, he⟩ := List.getElem?_eq_some_iff.1 hx
  obtain ⟨hk', he'⟩ := List.getElem?_eq_some_iff.1 hy
  unfold Hid
  rw [hr, List.drop_eq_getElem_cons hk, List.drop_eq_getElem_cons hk', he, he', sameB]
  simp at h; simp [h]
theorem same_len : ∀ (l l' : List Flt), l.length ≠ l'.length → false = sameB l l'
  | [], [], h => absurd rfl h
  | [], _ :: _, _ => rfl
  | _ :: _, [], _ => rfl
  | x :: l, y :: l', h => by
    rw [sameB, ← same_len l l' (by intro e; apply h; simp [e])]; simp
theorem same_refl : ∀ l : List Flt, sameB l l = true
  | [] => rfl
  | x :: l => by rw [sameB, same_refl l]; simp [eqF]

set_option maxHeartbeats 800000 in
theorem same_any (A A' : Option Addr) (n c n' c' : Nat) (l l' : List Flt) (w : World) (hn : n ≤ maxLen) (hn' : n' ≤ maxLen) (hl : Hid (l.length = n)) (hl' : Hid (l'.length = n')) (hA : Hid (FaultsAt w A l)) (hA' : Hid (FaultsAt w A' l')) :
    Calls Tryz.prog 7 #[.slice A n c, .slice A' n' c'] w fun e w' => e = .returned (.bool (sameB l l')) ∧ Below w.heap.size w w' := by
  unfold maxLen at hn hn'
  by_cases hne : n = n'
  · subst hne
    go_enter Tryz.func7, Tryz.ntmps7
    go_wp2
    go_loopw [4, 5] (fun _ i wr => ∃ k : Nat, k ≤ n ∧ i = .int .i64 k ∧ Hid (sameB l l' = sameB (l.drop k) (l'.drop k)) ∧ Below w.heap.size w wr) (fun _ i _ => n - (intOf i).toNat)
    case atStart => exact ⟨0, Nat.zero_le _, rfl, rfl, Below.refl _ _⟩
    case round =>
      obtain ⟨k, hk, rfl, hsame, hB⟩ := hrel
      by_cases hlt : k < n
      · obtain ⟨x, hx⟩ : ∃ x, l[k]? = some x := ⟨_, List.getElem?_eq_getElem (by have := hl.out; omega)⟩
        obtain ⟨y, hy⟩ : ∃ y, l'[k]? = some y := ⟨_, List.getElem?_eq_getElem (by have := hl'.out; omega)⟩
        have hx' : Hid (l[k]? = some x) := hx
        have hy' : Hid (l'[k]? = some y) := hy
        clear hx hy
        obtain ⟨b, off, rfl, h0, h1, h2, h3⟩ := (hA.out.below hB) k x hx'.out
        obtain ⟨b', off', rfl, g0, g1, g2, g3⟩ := (hA'.out.below hB) k y hy'.out
        have i1 : (k : Int) < (n : Int) := by omega
        have i2 : (0 : Int) ≤ (k : Int) := by omega
        have hq := neq_flt x y
        have hqg := Tryz.eqg40
        go_wp2
        go_quiet (fail)
        clear hq hqg
        go_wp2
        · go_ret
          exact ⟨retBl (same_no hsame.out hx'.out hy'.out (by assumption)), below_drewN hB _⟩
        · go_roundw
          case rel => exact ⟨k + 1, by omega, by go_num, same_yes hsame.out hx'.out hy'.out (by assumption), below_drewN hB _⟩
          case measure => simp [intOf]; omega
      · go_wp2
        go_ret
        exact ⟨retBl (by rw [hsame.out, List.drop_eq_nil_of_le (by have := hl.out; omega), List.drop_eq_nil_of_le (by have := hl'.out; omega)]; rfl), hB⟩
  · have hne' : ((n : Int) != (n' : Int)) = true := by simp; omega
    go_enter Tryz.func7, Tryz.ntmps7
    go_wp2
    go_ret
    exact ⟨retBl (same_len l l' (by rw [hl.out, hl'.out]; exact hne)), Below.refl _ _⟩


set_option maxRecDepth 100000 in
set_option maxHeartbeats 1600000 in
theorem fine_none (c : Crd) (A : Option Addr) (n cap : Nat) (day : Int) (nds : List Ned) (w : World) (hd : day ≤ c.expiry) (hn : n ≤ 100) (hl : Hid (nds.length = n)) (hA : Hid (NeedsAt w A nds)) :
    Calls Tryz.prog 9 #[.agg (c.cells (.slice A n cap)), .slice none 0 0, .int .i64 day] w fun e w' => e = .returned (.bool (decide ((needF nds).length = 0))) ∧ Below w.heap.size w w' := by
  go_enter Tryz.func9, Tryz.ntmps9
  go_wp2_with fail
  refine (examine_none c A n cap day nds _ hd hn hl (hA.out.below ((Below.refl _ w).alloc (Nat.le_refl _) _))).mono ?_
  rintro e w1 ⟨A', c', rfl, _, hb⟩
  obtain ⟨m, hm⟩ : ∃ m, Hid ((needF nds).length = m) := ⟨_, rfl⟩
  rw [hm.out]
  have hB : Below w.heap.size w w1 := ((Below.refl _ w).alloc (Nat.le_refl _) _).trans (hb.mono (by simp))
  go_wp2_with fail
  go_ret
  exact ⟨retBl (by rw [Bool.eq_iff_iff]; simp [← hm.out]), hB⟩
end Go.Proofs.YtbpngfppddigjaaGreatDoor

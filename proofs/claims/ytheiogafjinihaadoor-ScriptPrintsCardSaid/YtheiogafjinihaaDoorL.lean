/- The line of a step, told outright; it is read as that step. (Plain: no program.) -/
import Derived.Test.YtheiogafjinihaaDoorM
namespace Go.Proofs.YtheiogafjinihaaDoor
open Go

/-- A part of a step, laid over another. -/
def putP (x y : Stp) : Prt → Stp
  | .party => { y with party := x.party }
  | .deal => { y with deal := x.deal }
  | .act => { y with akind := x.akind }
  | .num => { y with n := x.n }
  | .cnt => { y with an := x.an }
theorem place_acts : ∀ k : Fin 12, placeL actsL (actsL.getD k.val []) 0 = some k.val := by decide
theorem place_first : ∀ k : Fin 8, placeL firstL (firstL.getD k.val []) 0 = some k.val := by decide
theorem acts_free : ∀ k : Fin 12, (32 : UInt8) ∉ actsL.getD k.val [] ∧ (10 : UInt8) ∉ actsL.getD k.val [] := by decide
theorem first_free : ∀ k : Fin 8, (32 : UInt8) ∉ firstL.getD k.val [] ∧ (10 : UInt8) ∉ firstL.getD k.val [] := by decide
theorem read_show {x : Stp} (y : Stp) {p : Prt} (h : (showP x p).2 = true) : readP y (showP x p).1 p = some (putP x y p) := by
  cases p with
  | party =>
    simp only [showP] at h
    simp only [readP, showP, h, if_true, putP]
  | deal =>
    simp only [showP] at h
    simp only [readP, showP, h, if_true, putP]
  | act =>
    simp only [showP] at h
    split at h
    · cases h
    · rename_i hk
      have hk1 : ¬ (x.akind < 0 ∨ 12 ≤ x.akind) := hk
      have h3 := place_acts ⟨x.akind.toNat, by omega⟩
      simp only at h3
      simp only [readP, showP, if_neg hk1, h3, Option.map_some, putP]
      have e : ((x.akind.toNat : Nat) : Int) = x.akind := by omega
      rw [e]
  | num =>
    simp only [showP] at h
    simp only [readP, showP, atoiV_itoa h, Option.map_some, putP]
  | cnt =>
    simp only [showP] at h
    simp only [readP, showP, atoiV_itoa h, Option.map_some, putP]
theorem show_free {x : Stp} {p : Prt} (h : (showP x p).2 = true) : (32 : UInt8) ∉ (showP x p).1 ∧ (10 : UInt8) ∉ (showP x p).1 := by
  cases p with
  | party => exact name_free h
  | deal => exact name_free h
  | act =>
    simp only [showP] at h ⊢
    split at h
    · cases h
    · rename_i hk
      have hk1 : ¬ (x.akind < 0 ∨ 12 ≤ x.akind) := hk
      rw [if_neg hk1]
      exact acts_free ⟨x.akind.toNat, by omega⟩
  | num => exact itoa_free _
  | cnt => exact itoa_free _
theorem read_shows (x : Stp) : ∀ (ps : List Prt) (y : Stp), (ps.all fun p => (showP x p).2) = true → readPs ps (ps.map fun p => (showP x p).1) y = some (ps.foldl (fun y p => putP x y p) y)
  | [], _, _ => rfl
  | p :: ps, y, h => by
    rw [List.all_cons, Bool.and_eq_true] at h
    rw [List.map_cons, readPs, read_show y h.1, Option.bind_some, read_shows x ps _ h.2, List.foldl_cons]
theorem readM_shown (x : Stp) (k : Nat) (hk : k < 8) (h : ((partsL.getD k []).all fun p => (showP x p).2) = true) :
    readM (joinL 32 (firstL.getD k [] :: (partsL.getD k []).map fun p => (showP x p).1)) = some ((partsL.getD k []).foldl (fun y p => putP x y p) (stp0 k)) := by
  have hf : ∀ w ∈ (firstL.getD k [] :: (partsL.getD k []).map fun p => (showP x p).1), (32 : UInt8) ∉ w := by
    intro w hw
    rcases List.mem_cons.1 hw with rfl | hw
    · exact (first_free ⟨k, hk⟩).1
    · obtain ⟨p, hp, rfl⟩ := List.mem_map.1 hw
      exact (show_free (List.all_eq_true.1 h p hp)).1
  rw [readM, words_join (by simp) hf]
  have hp := place_first ⟨k, hk⟩
  simp only at hp
  simp only [hp, Option.bind_some]
  exact read_shows x _ _ h
/-- May a step be told by a line? (The document's Right.) -/
def rightB (x : Stp) : Bool :=
  if x.kind = 0 then decide (x.n = 0) && nameB x.party && nameB x.deal && (decide (0 ≤ x.akind) && decide (x.akind ≤ 11)) && amongB x.an
  else if x.kind = 1 ∨ x.kind = 2 ∨ x.kind = 3 then (decide (x.party = []) && decide (x.akind = 0) && decide (x.an = 0) && decide (x.deal = [])) && amongB x.n
  else if x.kind = 4 then decide (x = stp0 4)
  else if x.kind = 5 ∨ x.kind = 7 then (decide (x.n = 0) && decide (x.akind = 0) && decide (x.an = 0) && decide (x.deal = [])) && nameB x.party
  else if x.kind = 6 then (decide (x.akind = 0) && decide (x.an = 0) && decide (x.deal = [])) && nameB x.party && amongB x.n
  else false
theorem lineM_kind (x : Stp) (k : Nat) (hk : k < 8) (e : x.kind = k) :
    lineM x = if ((partsL.getD k []).all fun p => (showP x p).2) = true ∧ (partsL.getD k []).foldl (fun y p => putP x y p) (stp0 k) = x then some (joinL 32 (firstL.getD k [] :: (partsL.getD k []).map fun p => (showP x p).1)) else none := by
  have h1 : ¬ (x.kind < 0 ∨ 8 ≤ x.kind) := by omega
  have h2 : x.kind.toNat = k := by omega
  unfold lineM showPs
  rw [if_neg h1, h2]
  by_cases h : ((partsL.getD k []).all fun p => (showP x p).2) = true
  · rw [if_pos h, Option.bind_some, readM_shown x k hk h]
    by_cases g : (partsL.getD k []).foldl (fun y p => putP x y p) (stp0 k) = x
    · rw [if_pos (by rw [g]), if_pos ⟨h, g⟩]
    · rw [if_neg (by simpa using g), if_neg (fun q => g q.2)]
  · rw [if_neg h, Option.bind_none, if_neg (fun q => h q.1)]
def okP (x : Stp) : Prt → Bool
  | .party => nameB x.party
  | .deal => nameB x.deal
  | .act => decide (0 ≤ x.akind) && decide (x.akind ≤ 11)
  | .num => amongB x.n
  | .cnt => amongB x.an
theorem show_ok (x : Stp) (p : Prt) : (showP x p).2 = okP x p := by
  cases p with
  | act =>
    simp only [showP, okP]
    split
    · rename_i h
      symm
      simp only [Bool.and_eq_false_iff, decide_eq_false_iff_not]
      omega
    · rename_i h
      symm
      simp only [Bool.and_eq_true, decide_eq_true_eq]
      omega
  | party => rfl
  | deal => rfl
  | num => rfl
  | cnt => rfl
theorem ite_some {α : Type} {c : Prop} [Decidable c] {a : α} : (if c then some a else none).isSome = decide c := by
  split <;> simp_all
theorem lineM_right (x : Stp) : (lineM x).isSome = rightB x := by
  obtain ⟨k, n, p, ak, an, d⟩ := x
  by_cases hk : k < 0 ∨ 8 ≤ k
  · have h : lineM ⟨k, n, p, ak, an, d⟩ = none := by unfold lineM; rw [if_pos hk]
    rw [h]
    unfold rightB
    simp only
    rw [if_neg (by omega), if_neg (by omega), if_neg (by omega), if_neg (by omega), if_neg (by omega)]
    rfl
  · obtain ⟨m, rfl⟩ := Int.eq_ofNat_of_zero_le (by omega : 0 ≤ k)
    rw [lineM_kind _ m (by omega) rfl, ite_some]
    have hm : m = 0 ∨ m = 1 ∨ m = 2 ∨ m = 3 ∨ m = 4 ∨ m = 5 ∨ m = 6 ∨ m = 7 := by omega
    rcases hm with rfl | rfl | rfl | rfl | rfl | rfl | rfl | rfl <;>
      (rw [Bool.eq_iff_iff, decide_eq_true_iff]; simp [partsL, show_ok, okP, rightB, putP, stp0]; try (constructor <;> (intro h; simp_all; try omega)))
end Go.Proofs.YtheiogafjinihaaDoor

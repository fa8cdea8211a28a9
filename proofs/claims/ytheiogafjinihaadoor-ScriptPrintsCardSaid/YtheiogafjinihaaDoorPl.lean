/- Plain laws for Print: lines one by one, how long they are. -/
import Derived.Test.YtheiogafjinihaaDoorFw
namespace Go.Proofs.YtheiogafjinihaaDoor
open Go

/-- What Print answers. -/
def printM (l : List Stp) : List UInt8 × Int := match linesM l with
  | some t => (t, 0)
  | none => ([], 1)
theorem lines_none : ∀ {l : List Stp} {x : Stp}, x ∈ l → lineM x = none → linesM l = none
  | y :: r, x, hx, h => by
    rw [linesM]
    rcases List.mem_cons.1 hx with rfl | hx
    · rw [h]; rfl
    · rw [lines_none hx h]
      cases lineM y <;> rfl
theorem lines_step {l : List Stp} {j : Nat} {x : Stp} {t s : List UInt8} (hx : l[j]? = some x) (ht : linesM (l.take j) = some t) (hs : lineM x = some s) : linesM (l.take (j + 1)) = some (t ++ (s ++ [10])) := by
  obtain ⟨hj, he⟩ := List.getElem?_eq_some_iff.1 hx
  rw [List.take_succ_eq_append_getElem hj, he]
  exact lines_app ht (by rw [linesM, hs]; rfl)
theorem joinL_snoc (c : UInt8) : ∀ (ws : List (List UInt8)) (u w : List UInt8), joinL c (u :: ws ++ [w]) = joinL c (u :: ws) ++ (c :: w)
  | [], u, w => by simp [joinL]
  | v :: ws, u, w => by
    have := joinL_snoc c ws v w
    simp only [List.cons_append] at this ⊢
    rw [joinL, this, joinL]
    simp
theorem dec_len : ∀ (k n : Nat), n < 10 ^ (k + 1) → (Lib.decDigits n).length ≤ k + 1
  | 0, n, h => by rw [qdec_small n (by omega)]; simp
  | k + 1, n, h => by
    by_cases hs : n < 10
    · rw [qdec_small n hs]; simp
    · rw [qdec_more n hs]
      have := dec_len k (n / 10) (by rw [Nat.pow_succ] at h; omega)
      simp; omega
theorem itoa_len {v : Int} (h : amongB v = true) : (Lib.itoa v).length ≤ 20 := by
  unfold amongB at h
  simp only [Bool.and_eq_true, decide_eq_true_eq] at h
  unfold Lib.itoa
  split
  · have := dec_len 7 v.natAbs (by omega)
    simp; omega
  · have := dec_len 7 v.toNat (by omega)
    omega
theorem show_le {x : Stp} {p : Prt} (hs : shortS x = true) (hok : (showP x p).2 = true) : (showP x p).1.length ≤ 100 := by
  unfold shortS at hs
  simp only [decide_eq_true_eq] at hs
  cases p with
  | party => simp only [showP]; omega
  | deal => simp only [showP]; omega
  | act =>
    simp only [showP] at hok ⊢
    split at hok
    · cases hok
    · rename_i h
      rw [if_neg h]
      have key : ∀ k : Fin 12, (actsL.getD k.val []).length ≤ 100 := by decide
      exact key ⟨x.akind.toNat, by omega⟩
  | num => simp only [showP] at hok ⊢; have := itoa_len hok; omega
  | cnt => simp only [showP] at hok ⊢; have := itoa_len hok; omega
theorem line_no_show {x : Stp} {k : Nat} (hk : k < 8) (e : x.kind = k) {p : Prt} (hp : p ∈ partsL.getD k []) (h : (showP x p).2 = false) : lineM x = none := by
  rw [lineM_kind x k hk e, if_neg]
  rintro ⟨h1, _⟩
  have := List.all_eq_true.1 h1 p hp
  rw [h] at this
  cases this
theorem line_no_kind {x : Stp} (h : x.kind < 0 ∨ 8 ≤ x.kind) : lineM x = none := by
  unfold lineM
  rw [if_pos h]
def putAll (x : Stp) (k : Nat) : Stp := (partsL.getD k []).foldl (fun y p => putP x y p) (stp0 (k : Nat))
theorem line_yes {x : Stp} {k : Nat} (hk : k < 8) (e : x.kind = k) (h : ((partsL.getD k []).all fun p => (showP x p).2) = true) (hy : putAll x k = x) :
    lineM x = some (joinL 32 (firstL.getD k [] :: (partsL.getD k []).map fun p => (showP x p).1)) := by
  rw [lineM_kind x k hk e, if_pos ⟨h, hy⟩]
theorem line_no_put {x : Stp} {k : Nat} (hk : k < 8) (e : x.kind = k) (hy : putAll x k ≠ x) : lineM x = none := by
  rw [lineM_kind x k hk e, if_neg (fun h => hy h.2)]
theorem first_le : ∀ k : Fin 8, (firstL.getD k.val []).length ≤ 7 := by decide
theorem parts_le : ∀ k : Fin 8, (partsL.getD k.val []).length ≤ 4 := by decide
theorem join_le (c : UInt8) : ∀ (ws : List (List UInt8)) (u : List UInt8), (∀ w ∈ ws, w.length ≤ 100) → (joinL c (u :: ws)).length ≤ u.length + ws.length * 101
  | [], u, _ => by simp [joinL]
  | v :: ws, u, h => by
    have h1 := join_le c ws v (fun w hw => h w (by simp [hw]))
    have h2 := h v (by simp)
    rw [joinL]
    simp
    omega
end Go.Proofs.YtheiogafjinihaaDoor

/- Memory, digits, rows of texts. -/
import Derived.Test.YtnmnknkdnjkpjaaGreatDoorG
import Derived.Deep.RegionWith
import Derived.Lib.Join
import Derived.Lib.ItoaNum
import Derived.Sort.Grow
import Derived.Deep.DeepCutAuto
namespace Go.Proofs.YtnmnknkdnjkpjaaGreatDoor
open Go Go.RowKit Go.BigFrame

def mkB (l : List UInt8) : ByteArray := ⟨l.toArray⟩
theorem below_grows (w : World) (k : Nat) (os : Array Obj) : Below w.heap.size w (Go.Sort.grow (w.drewN k) os) := by
  refine ⟨rfl, rfl, rfl, by simp [Go.Sort.grow], fun j hj => ?_⟩
  show (w.heap ++ os)[j]? = w.heap[j]?
  rw [Array.getElem?_append_left hj]

theorem Blk.four {w : World} {g : Nat} {t : TypeId} {a b c d : Value} (h : Blk w g t #[a, b, c, d]) :
    (w.cell? ⟨g, 0, none⟩ = some a ∧ w.cell? ⟨g, 1, none⟩ = some b ∧ w.cell? ⟨g, 2, none⟩ = some c ∧ w.cell? ⟨g, 3, none⟩ = some d) ∧ (∀ o, w.frozen? ⟨g, o, none⟩ = false) :=
  ⟨⟨by rw [h.cell]; rfl, by rw [h.cell]; rfl, by rw [h.cell]; rfl, by rw [h.cell]; rfl⟩, h.frozen⟩

theorem Tryz.info9 : (Tryz.prog.info? 9).map (fun i => (i.zero, i.size, i.bytes)) = some (some (.string ⟨#[]⟩), 1, 16) := by kernel_rfl
theorem dec_yes {p q : Prop} [Decidable p] [Decidable q] (h : p) : decide q = decide (p ∧ q) := by simp [h]
theorem dec_no {p q : Prop} [Decidable p] [Decidable q] (h : ¬ p) : false = decide (p ∧ q) := by simp [h]
theorem grown_set (W : World) (b o : Nat) (v : Value) : W.grownBy (W.setCell ⟨b, o, none⟩ v) (some b) :=
  ⟨rfl, rfl, rfl, by simp [World.setCell], fun k _ hk => Below.heap_setCell _ _ _ _ (fun e => hk (by rw [e]))⟩
theorem own_set {W : World} {B n g o : Nat} {e t : TypeId} {size : Nat} {v u : Value} {xs : List Value} {cs : Array Value} (h : W.ownsRow B e size v n xs) (hg : Blk W g t cs) (hne : e ≠ t) : (W.setCell ⟨g, o, none⟩ u).ownsRow B e size v n xs :=
  h.kept (grown_set W g o u) (.inr (own_blk_ne h hg hne))
theorem dec_small (u : Nat) (h : u < 10) : Lib.decDigits u = [UInt8.ofNat (48 + u)] := by rw [Lib.decDigits, dif_pos h]
theorem dec_more (u : Nat) (h : ¬ u < 10) : Lib.decDigits u = Lib.decDigits (u / 10) ++ [UInt8.ofNat (48 + u % 10)] := by rw [Lib.decDigits, dif_neg h]
theorem dec_lenK : ∀ (k n : Nat), n < 10 ^ (k + 1) → (Lib.decDigits n).length ≤ k + 1
  | 0, n, h => by rw [dec_small n (by simpa using h)]; simp
  | k + 1, n, h => by
    by_cases h1 : n < 10
    · rw [dec_small n h1]; simp
    · rw [dec_more n h1, List.length_append]
      have := dec_lenK k (n / 10) (by rw [Nat.pow_succ] at h; omega)
      simp; omega
theorem itoa_len {n : Int} (h0 : -9223372036854775808 ≤ n) (h1 : n ≤ 9223372036854775807) : (Lib.itoa n).length ≤ 20 := by
  unfold Lib.itoa
  split
  · have := dec_lenK 18 n.natAbs (by simp; omega)
    simp; omega
  · have := dec_lenK 18 n.toNat (by simp; omega)
    omega
theorem join_len (sep : List UInt8) (m : Nat) : ∀ (l : List (List UInt8)), (∀ x ∈ l, x.length ≤ m) → (Lib.join l sep).length ≤ l.length * (m + sep.length)
  | [], _ => by simp [Lib.join, List.intercalate]
  | [x], h => by have := h x (by simp); simp [Lib.join, List.intercalate]; omega
  | x :: y :: r, h => by
    have ih := join_len sep m (y :: r) (fun z hz => h z (by simp [hz]))
    have hx := h x (by simp)
    have e : Lib.join (x :: y :: r) sep = x ++ sep ++ Lib.join (y :: r) sep := by simp [Lib.join, List.intercalate, List.intersperse]
    rw [e]
    have e2 : (x :: y :: r).length * (m + sep.length) = (y :: r).length * (m + sep.length) + (m + sep.length) := Nat.succ_mul _ _
    rw [e2]
    simp only [List.length_append]
    omega
theorem mkB_cat (a b : List UInt8) : mkB a ++ mkB b = mkB (a ++ b) := by
  apply ByteArray.ext; simp [mkB]

def StrsAt (w : World) (A : Option Addr) (l : List ByteArray) : Prop := ∀ k t, l[k]? = some t → ∃ b off, A = some ⟨b, off, none⟩ ∧ w.cell? ⟨b, off + k, none⟩ = some (.string t)
theorem own_strs {w : World} {base m : Nat} {v : Value} {l : List ByteArray} (h : w.ownsRow base 9 1 v m (l.map Value.string)) (hl : l.length = m) : ∃ A' c', v = .slice A' m c' ∧ m ≤ c' ∧ StrsAt w A' l := by
  rcases h.2 with ⟨rfl, rfl⟩ | ⟨g, cap, cur, rfl, _, _, hnc, _⟩
  · have : l = [] := List.eq_nil_of_length_eq_zero hl
    subst this
    exact ⟨_, _, rfl, Nat.le_refl _, by intro k x hk; simp at hk⟩
  · refine ⟨_, _, rfl, hnc, fun k t hk => ?_⟩
    refine ⟨g, 0, rfl, ?_⟩
    have := h.cells (g := g) rfl k (.string t) (by simp [hk])
    rwa [show Addr.add ⟨g, 0, none⟩ k = ⟨g, 0 + k, none⟩ by unfold Addr.add; split <;> simp_all] at this
end Go.Proofs.YtnmnknkdnjkpjaaGreatDoor

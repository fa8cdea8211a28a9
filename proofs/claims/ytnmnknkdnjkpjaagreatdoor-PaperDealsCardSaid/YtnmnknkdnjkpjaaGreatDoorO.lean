/- goods.rising: the goods with what there is of them, rising by their codes; goods.Join. -/
import Derived.Test.YtnmnknkdnjkpjaaGreatDoorN
import Derived.Test.YtnmnknkdnjkpjaaGreatDoorSort
import Derived.Sort.OwnSorted
namespace Go.Proofs.YtnmnknkdnjkpjaaGreatDoor
open Go Go.RowKit Go.BigFrame Go.Maps Go.Sort

def cmpS (x y : List UInt8) : Int := if x < y then -1 else if x = y then 0 else 1

set_option maxRecDepth 100000 in
theorem compare_any (a b : ByteArray) (w : World) : Calls Tryz.prog 110 #[.string a, .string b] w fun e w' => e = .returned (.int .i64 (cmpS a.data.toList b.data.toList)) ∧ w = w' := by
  have n1 : (!a.toList == a.toList) = false := by simp
  have n2 : (!b.toList == b.toList) = false := by simp
  have na : Hid (Calls Tryz.prog 127 #[.string a] w fun e w' => e = .returned (.bool false) ∧ w = w') := by
    go_enter Tryz.func127, Tryz.ntmps127
    go_wp2
    go_ret
    exact ⟨rfl, rfl⟩
  have nb : Hid (Calls Tryz.prog 127 #[.string b] w fun e w' => e = .returned (.bool false) ∧ w = w') := by
    go_enter Tryz.func127, Tryz.ntmps127
    go_wp2
    go_ret
    exact ⟨rfl, rfl⟩
  clear n1 n2
  have key : ∀ r : Int, Hid (r = cmpS a.data.toList b.data.toList) → Calls Tryz.prog 110 #[.string a, .string b] w fun e w' => e = .returned (.int .i64 r) ∧ w = w' := by
    intro r hr
    go_enter Tryz.func110, Tryz.ntmps110
    go_wp2_with (first | (go_at_call 127; with_reducible refine na.out.mono ?_; rintro e w1 ⟨rfl, rfl⟩) | (go_at_call 127; with_reducible refine nb.out.mono ?_; rintro e w1 ⟨rfl, rfl⟩))
    all_goals
      go_ret
      refine ⟨?_, rfl⟩
      rw [hr.out]
      simp_all [cmpS, Go.Proofs.bytesLess_eq, ByteArray.toList_eq]
  exact key _ rfl

/-- A good with what there is of it. -/
def encK (S : List UInt8 → Option Int) (k : List UInt8) : List Value := [.string ⟨k.toArray⟩, .int .i64 ((S k).getD 0)]
theorem encK_len (S : List UInt8 → Option Int) (k : List UInt8) : (encK S k).length = 2 := rfl
theorem encK_one (S : List UInt8 → Option Int) (k : List UInt8) : ∀ v ∈ encK S k, v.oneCell' = true := by
  intro v hv
  simp [encK] at hv
  rcases hv with rfl | rfl <;> rfl
set_option maxRecDepth 100000 in
theorem less_any (S : List UInt8 → Option Int) (x y : List UInt8) (W : World) : Calls Tryz.prog 109 #[.agg (encK S x).toArray, .agg (encK S y).toArray] W fun e w' => e = .returned (.int .i64 (cmpS x y)) ∧ ∃ q os', w' = grow (W.drewN q) os' := by
  have hc := fun W' => Lib.hid (compare_any ⟨x.toArray⟩ ⟨y.toArray⟩ W')
  obtain ⟨r, hr⟩ : ∃ r, Hid (cmpS x y = r) := ⟨_, rfl⟩
  obtain ⟨u, hu⟩ : ∃ u, Hid ((S x).getD 0 = u) := ⟨_, rfl⟩
  obtain ⟨v, hv⟩ : ∃ v, Hid ((S y).getD 0 = v) := ⟨_, rfl⟩
  simp only [encK]
  rw [hr.out, hu.out, hv.out]
  go_enter Tryz.func109, Tryz.ntmps109
  go_wp2_with fail
  refine (hc _).out.mono ?_
  rintro e w1 ⟨rfl, rfl⟩
  rw [hr.out]
  go_wp2_with fail
  go_ret
  exact ⟨rfl, 0, _, by rw [alloc_eq_grow, alloc_eq_grow, grow_grow]; rfl⟩
theorem ltS (x y : List UInt8) : Go.Proofs.ltOf cmpS x y = decide (x < y) := by
  unfold Go.Proofs.ltOf cmpS
  by_cases h1 : x < y
  · simp [h1]
  · by_cases h2 : x = y
    · subst h2; simp [List.lt_irrefl]
    · simp [h1, h2]
theorem swoS : SWO (Go.Proofs.ltOf cmpS) where
  irrefl x := by rw [ltS]; simp [List.lt_irrefl]
  trans x y z h1 h2 := by rw [ltS] at *; simp at *; exact List.lt_trans h1 h2
  ntrans x y z h1 h2 := by rw [ltS] at *; simp at *; exact List.le_trans h2 h1
theorem totS (x y : List UInt8) (h1 : Go.Proofs.ltOf cmpS x y = false) (h2 : Go.Proofs.ltOf cmpS y x = false) : x = y := by
  rw [ltS] at *
  simp at *
  exact List.le_antisymm h2 h1
theorem leS : (fun x y => !(Go.Proofs.ltOf cmpS) y x) = leB := by
  funext x y
  rw [ltS, leB]
  by_cases h : y < x
  · simp [h, List.not_le.2 h]
  · simp [h, List.not_lt.1 h]
theorem rows_flatK {S : List UInt8 → Option Int} (d : Array (List UInt8)) (i j : Nat) (hi : i < d.size) (hj : j < 2) : (flatK (encK S) 2 d)[i * 2 + j]! = (encK S d[i]!)[j]! := by
  rw [get_flatK _ _ _ _ (by omega), show (i * 2 + j) / 2 = i by omega, show (i * 2 + j) % 2 = j by omega]
theorem holds_own {S : List UInt8 → Option Int} {w : World} {base : Nat} {e : TypeId} {g n cap : Nat} {ss : List (List UInt8)} (h : w.ownsRow base e 2 (.slice (some ⟨g, 0, none⟩) n cap) n (ss.flatMap (encK S))) (hl : ss.length = n) : HoldsK (encK S) 2 w g 0 ss.toArray := by
  intro t ht
  simp only [size_flatK, List.size_toArray] at ht
  refine ⟨?_, by rw [Nat.zero_add]; exact h.frozenAt t⟩
  rw [Nat.zero_add, h.cellAt t (by omega), id]
  have e1 := rows_flatK (S := S) ss.toArray (t / 2) (t % 2) (by simp; omega) (by omega)
  have e2 := fm_get (encK_len S) ss (t / 2) (t % 2) (by omega)
  rw [show t / 2 * 2 + t % 2 = t by omega] at e1 e2
  rw [e1, e2]
  have hk : t / 2 < ss.length := by omega
  rw [List.getElem?_eq_getElem hk]
  simp [hk]
  rcases Nat.mod_two_eq_zero_or_one t with h | h <;> rw [h] <;> rfl
theorem row_holds {S : List UInt8 → Option Int} {w : World} {g : Nat} {ts : List (List UInt8)} (h : HoldsK (encK S) 2 w g 0 ts.toArray) : RowOf (encK S) 2 w (some ⟨g, 0, none⟩) ts := by
  intro i x hx
  refine ⟨g, 0, rfl, fun j u hu => ?_⟩
  obtain ⟨hi, he⟩ := List.getElem?_eq_some_iff.1 hx
  have hj : j < 2 := (List.getElem?_eq_some_iff.1 hu).1
  have := (h (i * 2 + j) (by simp; omega)).1
  rw [id, rows_flatK (S := S) ts.toArray i j (by simpa using hi) hj] at this
  rw [Nat.zero_add] at this ⊢
  rw [this]
  have e1 : ts.toArray[i]! = x := by simp [hi, he]
  rw [e1]
  obtain ⟨_, hv⟩ := List.getElem?_eq_some_iff.1 hu
  match j, hj with
  | 0, _ => simp [encK] at hu ⊢; exact hu
  | 1, _ => simp [encK] at hu ⊢; exact hu
theorem grownBy_sortedK {S : List UInt8 → Option Int} {w : World} {g n : Nat} {os : Array Obj} (d : Array (List UInt8)) : w.grownBy (Go.Proofs.sortWorldK (encK S) 2 w g 0 n d os) (some g) := by
  refine ⟨rfl, rfl, rfl, by unfold Go.Proofs.sortWorldK; rw [size_grow, size_putRowK]; show w.heap.size ≤ w.heap.size + _; omega, fun k hk hne => ?_⟩
  unfold Go.Proofs.sortWorldK
  rw [heap_grow_old _ _ (by rw [size_putRowK]; exact hk)]
  have : g ≠ k := fun e => hne (by rw [e])
  simp [putRowK, putRow, mapBlock, Sort.ahead, Array.getElem?_modify, this]
theorem heap_sortedK {S : List UInt8 → Option Int} {w : World} {g n : Nat} {os : Array Obj} {cur : Array Value} {e : TypeId} (d : Array (List UInt8)) (hb : w.heap[g]? = some (.cells cur e (0, 0))) : ∃ cs, (Go.Proofs.sortWorldK (encK S) 2 w g 0 n d os).heap[g]? = some (.cells cs e (0, 0)) := by
  have hg : g < w.heap.size := (Array.getElem?_eq_some_iff.1 hb).1
  unfold Go.Proofs.sortWorldK
  rw [heap_grow_old _ _ (by rw [size_putRowK]; exact hg)]
  simp [putRowK, putRow, mapBlock, Sort.ahead, Array.getElem?_modify, hb, onCells]
end Go.Proofs.YtnmnknkdnjkpjaaGreatDoor

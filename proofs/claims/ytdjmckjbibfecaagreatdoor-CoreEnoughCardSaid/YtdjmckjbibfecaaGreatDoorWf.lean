/- Sets, sorted: the comparing function, slices.SortFunc. -/
import Derived.Test.YtdjmckjbibfecaaGreatDoorWe
import Derived.Test.YtdjmckjbibfecaaGreatDoorSort
import Derived.Shelf.SlSortCmp.Whole1
namespace Go.Proofs.YtdjmckjbibfecaaGreatDoor
open Go Go.RowKit Go.BigFrame Go.Maps
open Go.Sort (grow_empty heap_grow_old size_grow size_putRow)

theorem nan_any (x : Int) (w : World) : Calls Tryz.prog 93 #[.int .u64 x] w fun e w' => e = .returned (.bool false) ∧ w = w' := by
  go_enter Tryz.func93, Tryz.ntmps93
  go_wp2_with fail
  go_ret
  exact ⟨by simp, rfl⟩
theorem compareU_any (x y : Int) (w : World) : Calls Tryz.prog 43 #[.int .u64 x, .int .u64 y] w fun e w' => e = .returned (.int .i64 (Lib.compareInt x y)) ∧ w = w' := by
  obtain ⟨r, hr⟩ : ∃ r, Hid (Lib.compareInt x y = r) := ⟨_, rfl⟩
  rw [hr.out]
  by_cases h1 : x < y
  · have hr1 : Hid (r = -1) := by unfold Hid; rw [← hr.out, Lib.compareInt, if_pos h1]
    have d1 : decide (x < y) = true := decide_eq_true h1
    go_enter Tryz.func43, Tryz.ntmps43
    go_wp2_with fail
    refine (nan_any x w).mono ?_
    rintro e w1 ⟨rfl, rfl⟩
    go_wp2_with fail
    refine (nan_any y w).mono ?_
    rintro e w1 ⟨rfl, rfl⟩
    go_wp2_with fail
    go_ret
    exact ⟨by rw [hr1.out]; rfl, rfl⟩
  · have d1 : decide (x < y) = false := decide_eq_false h1
    by_cases h2 : y < x
    · have hr1 : Hid (r = 1) := by unfold Hid; rw [← hr.out, Lib.compareInt, if_neg h1, if_pos h2]
      have d2 : decide (y < x) = true := decide_eq_true h2
      go_enter Tryz.func43, Tryz.ntmps43
      go_wp2_with fail
      refine (nan_any x w).mono ?_
      rintro e w1 ⟨rfl, rfl⟩
      go_wp2_with fail
      refine (nan_any y w).mono ?_
      rintro e w1 ⟨rfl, rfl⟩
      go_wp2_with fail
      go_ret
      exact ⟨by rw [hr1.out]; rfl, rfl⟩
    · have hr1 : Hid (r = 0) := by unfold Hid; rw [← hr.out, Lib.compareInt, if_neg h1, if_neg h2]
      have d2 : decide (y < x) = false := decide_eq_false h2
      go_enter Tryz.func43, Tryz.ntmps43
      go_wp2_with fail
      refine (nan_any x w).mono ?_
      rintro e w1 ⟨rfl, rfl⟩
      go_wp2_with fail
      refine (nan_any y w).mono ?_
      rintro e w1 ⟨rfl, rfl⟩
      go_wp2_with fail
      go_ret
      exact ⟨by rw [hr1.out]; rfl, rfl⟩
def cfS (a b : Nat) : Int := if Lib.compareInt (popN a) (popN b) ≠ 0 then Lib.compareInt (popN a) (popN b) else Lib.compareInt b a
theorem cfS_lt (a b : Nat) : cfS a b < 0 ↔ popN a < popN b ∨ (popN a = popN b ∧ b < a) := by
  unfold cfS Lib.compareInt
  split <;> split <;> (try split) <;> (try split) <;> omega
set_option maxRecDepth 100000 in
theorem cmpS_any (a b : Nat) (w : World) (ha : a < 4096) (hb : b < 4096) : Calls Tryz.prog 40 #[.int .u64 (a : Int), .int .u64 (b : Int)] w fun e w' => e = .returned (.int .i64 (cfS a b)) ∧ w = w' := by
  have hcf : Hid (cfS a b = if Lib.compareInt (popN a) (popN b) ≠ 0 then Lib.compareInt (popN a) (popN b) else Lib.compareInt b a) := rfl
  rw [hcf.out]
  have h1 := Lib.hid (ones_any a w ha)
  have h2 := Lib.hid (ones_any b w hb)
  have h3 := Lib.hid (Tryz.cmp_Compare_int (popN a) (popN b) w)
  have h4 := Lib.hid (compareU_any b a w)
  obtain ⟨C, hC⟩ : ∃ z, Lib.compareInt (popN a) (popN b) = z := ⟨_, rfl⟩
  rw [hC] at h3 ⊢
  clear hcf hC ha hb
  by_cases hz : C = 0
  · subst hz
    rw [if_neg (by simp)]
    go_enter Tryz.func40, Tryz.ntmps40
    go_wp2_with fail
    refine h1.out.mono ?_
    rintro e w1 ⟨rfl, rfl⟩
    go_wp2_with fail
    refine h2.out.mono ?_
    rintro e w1 ⟨rfl, rfl⟩
    go_wp2_with fail
    refine h3.out.mono ?_
    rintro e w1 ⟨rfl, rfl⟩
    go_wp2_with fail
    refine h4.out.mono ?_
    rintro e w1 ⟨rfl, rfl⟩
    go_wp2_with fail
    go_ret
    exact ⟨rfl, rfl⟩
  · rw [if_pos hz]
    have e1 : (C == 0) = false := by simpa using hz
    have e2 : (C != 0) = true := by simpa using hz
    go_enter Tryz.func40, Tryz.ntmps40
    go_wp2_with fail
    refine h1.out.mono ?_
    rintro e w1 ⟨rfl, rfl⟩
    go_wp2_with fail
    refine h2.out.mono ?_
    rintro e w1 ⟨rfl, rfl⟩
    go_wp2_with fail
    refine h3.out.mono ?_
    rintro e w1 ⟨rfl, rfl⟩
    go_wp2_with fail
    go_ret
    exact ⟨rfl, rfl⟩
abbrev Set12 := Fin 4096
def encU (x : Set12) : Value := .int .u64 (x.val : Int)
def cfF (x y : Set12) : Int := cfS x.val y.val
theorem ltF (x y : Set12) : ltOf cfF x y = decide (popN x.val < popN y.val ∨ (popN x.val = popN y.val ∧ y.val < x.val)) := by
  unfold ltOf cfF
  exact decide_eq_decide.2 (cfS_lt _ _)
theorem swoF : Go.Sort.SWO (ltOf cfF) := by
  refine ⟨fun x => ?_, fun x y z h1 h2 => ?_, fun x y z h1 h2 => ?_⟩
  · rw [ltF]; simp
  · rw [ltF] at h1 h2 ⊢
    simp only [decide_eq_true_eq] at h1 h2 ⊢
    omega
  · rw [ltF] at h1 h2 ⊢
    simp only [decide_eq_false_iff_not] at h1 h2 ⊢
    omega
def setsF (n : Nat) : List Set12 := (List.range n).map fun i => ⟨i % 4096, Nat.mod_lt _ (by omega)⟩
theorem setsF_val {n : Nat} (h : n ≤ 4096) : (setsF n).map (·.val) = List.range n := by
  unfold setsF
  rw [List.map_map]
  conv => rhs; rw [← List.map_id (List.range n)]
  apply List.map_congr_left
  intro i hi
  have := List.mem_range.1 hi
  show i % 4096 = i
  exact Nat.mod_eq_of_lt (by omega)
theorem sort_any (m : Nat) (hm : m ≤ 12) (B g cap : Nat) (w : World) (own : w.ownsRow B 38 1 (.slice (some ⟨g, 0, none⟩) (2 ^ m) cap) (2 ^ m) (unatsV (List.range (2 ^ m)))) :
    Calls Tryz.prog 39 #[.slice (some ⟨g, 0, none⟩) (2 ^ m) cap, .func (.func 40) #[] #[]] w fun e w' => e = .returned (.tuple #[]) ∧ ∃ ss : List Nat, (∀ a, a ∈ ss ↔ a < 2 ^ m) ∧ ss.Pairwise (aheadP m) ∧ ss.length = 2 ^ m ∧
      w'.ownsRow B 38 1 (.slice (some ⟨g, 0, none⟩) (2 ^ m) cap) (2 ^ m) (unatsV ss) ∧ w.grownBy w' (some g) := by
  have hp : 2 ^ m ≤ 4096 := Nat.pow_le_pow_right (by omega) hm
  obtain ⟨n, hn⟩ : ∃ n, 2 ^ m = n := ⟨_, rfl⟩
  rw [hn] at own hp ⊢
  have hlen : (setsF n).toArray.size = n := by simp [setsF]
  have hget : ∀ j, j < n → (setsF n).toArray[j]! = (⟨j % 4096, Nat.mod_lt _ (by omega)⟩ : Set12) := fun j hj => by
    simp [setsF, hj]
  rcases own.2 with ⟨e0, _⟩ | ⟨g', cap', cur, e1, hbg, hg, hnc, hcm, hcs, htake⟩
  · cases e0
  simp only [Value.slice.injEq, Option.some.injEq, Addr.mk.injEq, true_and, and_true] at e1
  obtain ⟨rfl, rfl⟩ := e1
  have hgl : g < w.heap.size := (Array.getElem?_eq_some_iff.1 hg).1
  have hHd : Go.Sort.Holds encU w g 0 (setsF n).toArray := by
    intro j hj
    rw [hlen] at hj
    refine ⟨?_, own.frozenAt _⟩
    rw [Nat.zero_add, own.cellAt j (by omega), hget j hj]
    unfold unatsV encU
    rw [List.getElem?_map, List.getElem?_range hj]
    simp [Nat.mod_eq_of_lt (show j < 4096 by omega)]
  have eg : ∀ args w, (callFunc 40 args).run Tryz.prog w = .ok (.enter 40 args) w := enters_of Tryz.func40 (by kernel_rfl) rfl
  have hcon := Tryz.slices_SortFunc encU (fun _ => rfl) cfF swoF 40 #[] g 0 cap (setsF n).toArray w eg (fun mm os dk _ x y => (cmpS_any x.val y.val _ x.2 y.2).mono fun e w' ⟨he, hw⟩ => ⟨he, 0, #[], by rw [← hw, grow_empty]; rfl⟩) hHd hgl (by rw [hlen]; omega)
  rw [hlen] at hcon
  refine hcon.mono ?_
  rintro e w' ⟨rfl, d', nn, os, hperm, hsort, rfl⟩
  obtain ⟨hs, _, hpm⟩ := hperm
  rw [hlen] at hs
  have hfull : d'.toList.Perm (setsF n) := by
    have h1 : d'.extract 0 n = d' := by rw [← hs]; exact Array.extract_size
    have h2 : (setsF n).toArray.extract 0 n = (setsF n).toArray := by
      have h := Array.extract_size (xs := (setsF n).toArray)
      rwa [hlen] at h
    rw [h1, h2] at hpm
    simpa using hpm
  have hval : (d'.toList.map (·.val)).Perm (List.range n) := by
    have := hfull.map (·.val)
    rwa [setsF_val hp] at this
  have hnd : (d'.toList.map (·.val)).Nodup := hval.nodup_iff.2 List.nodup_range
  refine ⟨rfl, d'.toList.map (·.val), fun a => by rw [hval.mem_iff, List.mem_range], ?_, by simp [hs], ?_, ?_⟩
  · rw [List.pairwise_iff_getElem]
    intro i j hi hj hij
    simp only [List.length_map, Array.length_toList] at hi hj
    have hne : (d'.toList.map (·.val))[i] ≠ (d'.toList.map (·.val))[j] := List.pairwise_iff_getElem.1 hnd i j _ _ hij
    have hlt := hsort i j (Nat.zero_le _) hij (by omega)
    rw [ltF] at hlt
    simp only [decide_eq_false_iff_not] at hlt
    rw [getElem!_pos d' i hi, getElem!_pos d' j hj] at hlt
    simp only [List.getElem_map, Array.getElem_toList] at hne ⊢
    have hmem : ∀ k (hk : k < d'.size), d'[k].val < 2 ^ m := fun k hk => by
      rw [hn, ← List.mem_range, ← hval.mem_iff]
      exact List.mem_map.2 ⟨d'[k], by simp, rfl⟩
    have p1 := pop_plc hm (hmem i hi)
    have p2 := pop_plc hm (hmem j hj)
    unfold aheadP
    rw [← p1, ← p2]
    omega
  · refine ⟨by simp [unatsV, hs], .inr ⟨g, cap, Go.Sort.putCells encU 0 d' cur, rfl, hbg, ?_, hnc, hcm, ?_, ?_⟩⟩
    · unfold Go.Proofs.sortWorld
      rw [heap_grow_old _ _ (by rw [size_putRow]; exact hgl)]
      simp [Go.Sort.putRow, Go.Sort.mapBlock, Go.Sort.ahead, Array.getElem?_modify, hg, Go.Sort.onCells]
    · unfold Go.Sort.putCells
      simpa using hcs
    · apply List.ext_getElem?
      intro k
      unfold Go.Sort.putCells unatsV
      by_cases hk : k < n
      · have hkc : k < cur.size := by omega
        have hk2 : k < d'.size := by omega
        simp [hk, hkc, hk2, encU]
      · simp [List.getElem?_take, hk, hs]
  · refine ⟨rfl, rfl, rfl, by unfold Go.Proofs.sortWorld; rw [size_grow, size_putRow]; show w.heap.size ≤ w.heap.size + _; omega, fun k hk hne => ?_⟩
    unfold Go.Proofs.sortWorld
    rw [heap_grow_old _ _ (by rw [size_putRow]; exact hk)]
    have : g ≠ k := fun e => hne (by rw [e])
    simp [Go.Sort.putRow, Go.Sort.mapBlock, Go.Sort.ahead, Array.getElem?_modify, this]
end Go.Proofs.YtdjmckjbibfecaaGreatDoor

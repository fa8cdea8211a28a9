/- The walks of the document's within, so, Stands and Holds. -/
import Derived.Test.YtdjmckjbibfecaaGreatDoorZa
namespace Go.Proofs.YtdjmckjbibfecaaGreatDoor
open Go Go.RowKit Go.BigFrame Go.Maps

theorem ba_list (s : ByteArray) : s.toList = s.data.toList := by simp [ByteArray.toList_eq]
theorem ba_len (s : ByteArray) : s.data.toList.length = s.size := Array.length_toList
theorem loopR_step {s : ByteArray} {k a : Nat} {r : Option Nat} (h : r = loopR a (s.data.toList.drop k)) (hk : k < s.size) (h1 : 48 ≤ s[k].toNat) (h2 : s[k].toNat ≤ 57) (h3 : a ≤ 461168601842738790) :
    Hid (r = loopR (10 * a + (s[k].toNat - 48)) (s.data.toList.drop (k + 1))) := by
  unfold Hid
  rw [h, List.drop_eq_getElem_cons (by simpa using hk)]
  rw [show (s.data.toList[k]'(by simpa using hk)) = s[k] from rfl, loopR, if_neg (by omega)]
theorem loopR_stop {s : ByteArray} {k a : Nat} {r : Option Nat} (h : r = loopR a (s.data.toList.drop k)) (hk : k < s.size) (hh : s[k].toNat < 48 ∨ 57 < s[k].toNat ∨ 461168601842738790 < a) : r = none := by
  rw [h, List.drop_eq_getElem_cons (by simpa using hk)]
  rw [show (s.data.toList[k]'(by simpa using hk)) = s[k] from rfl, loopR, if_pos hh]

theorem endR_no {s : List UInt8} {v : Int} (h : v < -4611686018427387904 ∨ 4611686018427387904 < v) : endR s v = none := by
  rw [endR, if_neg (by omega)]
theorem endR_is {s : ByteArray} {v : Int} (h0 : -4611686018427387904 ≤ v) (h1 : v ≤ 4611686018427387904) (h : (mkB (Lib.itoa v)).toList = s.toList) : endR s.data.toList v = some v := by
  have e : Lib.itoa v = s.data.toList := by
    rw [ba_list, ba_list] at h
    simpa [mkB] using h
  rw [endR, if_pos ⟨h0, h1, e⟩]
theorem endR_isnt {s : ByteArray} {v : Int} (h : ¬ (mkB (Lib.itoa v)).toList = s.toList) : endR s.data.toList v = none := by
  rw [endR, if_neg]
  rintro ⟨_, _, e⟩
  apply h
  rw [e]; simp [mkB]

set_option maxRecDepth 100000 in
set_option maxHeartbeats 1600000 in
theorem numberR_any (s : ByteArray) (w : World) :
    Calls Tryz.prog 102 #[.string s] w fun e w' => e = .returned (twoN (numF s.data.toList)) ∧ Below w.heap.size w w' := by
  rw [← numR_eq]
  by_cases hbad : s.toList.isEmpty = true ∨ 20 < s.size
  · have h0 : Hid (numR s.data.toList = none) := by
      unfold Hid
      rw [numR, if_pos]
      rcases hbad with h | h
      · left; rw [← ba_list]; simpa using h
      · right; simpa using h
    rcases hbad with h | h
    · have h1 : s.toList = [] := by simpa using h
      have h2 : (!s.toList.isEmpty) = false := by rw [h]; rfl
      go_enter Tryz.func102, Tryz.ntmps102
      go_wp2_with fail
      go_ret2
      exact ⟨by rw [h0.out]; rfl, Below.refl _ _⟩
    · have h1 : s.toList.isEmpty = false := by
        rw [ba_list]
        cases hl : s.data.toList with
        | nil => have := congrArg List.length hl; rw [ba_len, List.length_nil] at this; omega
        | cons => rfl
      have h3 : decide (20 < s.size) = true := by simpa using h
      go_enter Tryz.func102, Tryz.ntmps102
      go_wp2_with fail
      go_ret2
      exact ⟨by rw [h0.out]; rfl, Below.refl _ _⟩
  · have hne : s.toList.isEmpty = false := by simp only [not_or] at hbad; simpa using hbad.1
    have hsz : s.size ≤ 20 := by simp only [not_or] at hbad; omega
    have hpos : 0 < s.size := by
      rcases Nat.eq_zero_or_pos s.size with h | h
      · rw [ba_list] at hne
        have : s.data.toList = [] := List.eq_nil_of_length_eq_zero (by simpa using h)
        rw [this] at hne; cases hne
      · exact h
    have hlen : decide (20 < (s.size : Int)) = false := by simp; omega
    have hnum : Hid (numR s.data.toList = match loopR 0 (bodyR s.data.toList) with | none => none | some a => endR s.data.toList (signR s.data.toList a)) := by
      unfold Hid
      rw [numR, if_neg]
      · rfl
      · rintro (h | h)
        · have := congrArg List.length h; rw [ba_len, List.length_nil] at this; omega
        · simp at h; omega
    have hhead : s.data.toList.head? = some s[0] := by
      rw [List.head?_eq_getElem?, List.getElem?_eq_getElem (by simpa using hpos)]; rfl
    have hhead' := Lib.hid hhead
    clear hhead hbad
    by_cases hm : s[0] = 45
    · have hm1 : ((s[0].toNat : Int) == 45) = true := by rw [hm]; rfl
      have hbd : Hid (bodyR s.data.toList = s.data.toList.drop 1) := by
        unfold Hid bodyR; rw [hhead'.out]; simp [hm]
      have hsg : Hid (∀ a : Nat, signR s.data.toList a = -(a : Int)) := by
        unfold Hid; intro a; unfold signR; rw [hhead'.out]; simp [hm]
      have hm' := Lib.hid hm
      clear hm
      go_enter Tryz.func102, Tryz.ntmps102
      go_wp2_with fail
      go_loopw [4, 6] (fun n i wr => w = wr ∧ ∃ k a : Nat, 1 ≤ k ∧ k ≤ s.size ∧ a ≤ 4611686018427387909 ∧ i = .int .i64 k ∧ n = .int .i64 a ∧ Hid (loopR 0 (bodyR s.data.toList) = loopR a (s.data.toList.drop k))) (fun _ i _ => s.size - (intOf i).toNat)
      case atStart => exact ⟨rfl, 1, 0, by omega, by omega, by omega, rfl, rfl, by rw [hbd.out]; exact rfl⟩
      case round =>
        obtain ⟨rfl, k, a, hk1, hk2, ha, rfl, rfl, hsame⟩ := hrel
        by_cases hlt : k < s.size
        · by_cases hc : s[k].toNat < 48 ∨ 57 < s[k].toNat ∨ 461168601842738790 < a
          · have hno : Hid (numR s.data.toList = none) := by unfold Hid; rw [hnum.out, loopR_stop hsame.out hlt hc]
            rcases hc with hc | hc | hc
            all_goals
              go_wp2_with fail
              all_goals first
                | (exfalso; omega)
                | (go_ret2; exact ⟨by rw [hno.out]; rfl, Below.refl _ _⟩)
          · simp only [not_or, Nat.not_lt] at hc
            obtain ⟨hc1, hc2, hc3⟩ := hc
            have hst := loopR_step hsame.out hlt hc1 hc2 hc3
            go_wp2_with fail
            go_roundw
            case rel => exact ⟨trivial, k + 1, 10 * a + (s[k].toNat - 48), by omega, by omega, by omega, by go_num, by go_num, hst⟩
            case measure => simp [intOf]; omega
        · have hend : Hid (numR s.data.toList = endR s.data.toList (-(a : Int))) := by
            unfold Hid
            rw [hnum.out, hsame.out, List.drop_eq_nil_of_le (by rw [ba_len]; omega), loopR]
            simp only
            rw [hsg.out]
          by_cases hbig : 4611686018427387904 < a
          · go_wp2_with fail
            all_goals first
              | (exfalso; omega)
              | (go_ret2; exact ⟨by rw [hend.out, endR_no (by omega)]; rfl, Below.refl _ _⟩)
          · go_wp2_with fail
            all_goals try (exfalso; omega)
            refine (digits_any (-(a : Int)) w (by omega) (by omega)).mono ?_
            rintro e w1 ⟨rfl, hb1⟩
            by_cases hq : (mkB (Lib.itoa (-(a : Int)))).toList = s.toList
            · have hq1 : ((mkB (Lib.itoa (-(a : Int)))).toList == s.toList) = true := by simp [hq]
              have hfin := Lib.hid (endR_is (by omega) (by omega) hq)
              clear hq
              go_wp2_with fail
              all_goals try (exfalso; simp_all; omega)
              go_ret2
              exact ⟨by rw [hend.out, hfin.out]; rfl, hb1⟩
            · have hq1 : ((mkB (Lib.itoa (-(a : Int)))).toList == s.toList) = false := by simp [hq]
              have hfin := Lib.hid (endR_isnt hq)
              clear hq
              go_wp2_with fail
              all_goals try (exfalso; simp_all; omega)
              go_ret2
              exact ⟨by rw [hend.out, hfin.out]; rfl, hb1⟩
    · have hm1 : ((s[0].toNat : Int) == 45) = false := by
        simp only [beq_eq_false_iff_ne, ne_eq]
        intro e
        apply hm
        apply UInt8.toNat_inj.1
        show s[0].toNat = 45
        omega
      have hbd : Hid (bodyR s.data.toList = s.data.toList.drop 0) := by
        unfold Hid bodyR; rw [hhead'.out]; simp [hm]
      have hsg : Hid (∀ a : Nat, signR s.data.toList a = (a : Int)) := by
        unfold Hid; intro a; unfold signR; rw [hhead'.out]; simp [hm]
      have hm' := Lib.hid hm
      clear hm
      go_enter Tryz.func102, Tryz.ntmps102
      go_wp2_with fail
      go_loopw [4, 6] (fun n i wr => w = wr ∧ ∃ k a : Nat, 0 ≤ k ∧ k ≤ s.size ∧ a ≤ 4611686018427387909 ∧ i = .int .i64 k ∧ n = .int .i64 a ∧ Hid (loopR 0 (bodyR s.data.toList) = loopR a (s.data.toList.drop k))) (fun _ i _ => s.size - (intOf i).toNat)
      case atStart => exact ⟨rfl, 0, 0, by omega, by omega, by omega, rfl, rfl, by rw [hbd.out]; exact rfl⟩
      case round =>
        obtain ⟨rfl, k, a, hk1, hk2, ha, rfl, rfl, hsame⟩ := hrel
        by_cases hlt : k < s.size
        · by_cases hc : s[k].toNat < 48 ∨ 57 < s[k].toNat ∨ 461168601842738790 < a
          · have hno : Hid (numR s.data.toList = none) := by unfold Hid; rw [hnum.out, loopR_stop hsame.out hlt hc]
            rcases hc with hc | hc | hc
            all_goals
              go_wp2_with fail
              all_goals first
                | (exfalso; omega)
                | (go_ret2; exact ⟨by rw [hno.out]; rfl, Below.refl _ _⟩)
          · simp only [not_or, Nat.not_lt] at hc
            obtain ⟨hc1, hc2, hc3⟩ := hc
            have hst := loopR_step hsame.out hlt hc1 hc2 hc3
            go_wp2_with fail
            go_roundw
            case rel => exact ⟨trivial, k + 1, 10 * a + (s[k].toNat - 48), by omega, by omega, by omega, by go_num, by go_num, hst⟩
            case measure => simp [intOf]; omega
        · have hend : Hid (numR s.data.toList = endR s.data.toList ((a : Int))) := by
            unfold Hid
            rw [hnum.out, hsame.out, List.drop_eq_nil_of_le (by rw [ba_len]; omega), loopR]
            simp only
            rw [hsg.out]
          by_cases hbig : 4611686018427387904 < a
          · go_wp2_with fail
            all_goals first
              | (exfalso; omega)
              | (go_ret2; exact ⟨by rw [hend.out, endR_no (by omega)]; rfl, Below.refl _ _⟩)
          · go_wp2_with fail
            all_goals try (exfalso; omega)
            refine (digits_any ((a : Int)) w (by omega) (by omega)).mono ?_
            rintro e w1 ⟨rfl, hb1⟩
            by_cases hq : (mkB (Lib.itoa ((a : Int)))).toList = s.toList
            · have hq1 : ((mkB (Lib.itoa ((a : Int)))).toList == s.toList) = true := by simp [hq]
              have hfin := Lib.hid (endR_is (by omega) (by omega) hq)
              clear hq
              go_wp2_with fail
              all_goals try (exfalso; simp_all; omega)
              go_ret2
              exact ⟨by rw [hend.out, hfin.out]; rfl, hb1⟩
            · have hq1 : ((mkB (Lib.itoa ((a : Int)))).toList == s.toList) = false := by simp [hq]
              have hfin := Lib.hid (endR_isnt hq)
              clear hq
              go_wp2_with fail
              all_goals try (exfalso; simp_all; omega)
              go_ret2
              exact ⟨by rw [hend.out, hfin.out]; rfl, hb1⟩
end Go.Proofs.YtdjmckjbibfecaaGreatDoor
namespace Go.Proofs.YtdjmckjbibfecaaGreatDoor
open Go Go.RowKit Go.BigFrame Go.Maps

theorem occ_iff (s t : ByteArray) (k : Nat) : Lib.occAt s.data.toList t.data.toList k = true ↔ (s.data.toList.drop k).take t.size = t.data.toList := by
  unfold Lib.occAt
  rw [List.isPrefixOf_iff_prefix, List.prefix_iff_eq_take, ba_len]
  exact eq_comm
theorem ext_list (s : ByteArray) (a b : Nat) : (s.extract a b).toList = (s.data.toList.drop a).take (b - a) := by
  rw [ba_list]
  simp [ByteArray.data_extract]
theorem contains_yes {s t : ByteArray} {k : Nat} (hk : k ≤ s.size) (h : (s.extract k (k + t.size)).toList = t.toList) : Lib.contains s.data.toList t.data.toList = true := by
  have ho : Lib.occAt s.data.toList t.data.toList k = true := by
    rw [occ_iff, ← ba_list t, ← h, ext_list]; congr 1; omega
  unfold Lib.contains
  rcases Lib.index_spec s.data.toList t.data.toList with ⟨_, h2⟩ | ⟨i, h1, _⟩
  · rw [h2 k (by rw [ba_len]; exact hk)] at ho; cases ho
  · rw [h1]; simp
theorem contains_no {s t : ByteArray} (h : ∀ k, k + t.size ≤ s.size → ¬ (s.extract k (k + t.size)).toList = t.toList) : Lib.contains s.data.toList t.data.toList = false := by
  unfold Lib.contains
  have hr := Lib.index_room s.data.toList t.data.toList
  rcases Lib.index_spec s.data.toList t.data.toList with ⟨h1, _⟩ | ⟨i, h1, _, h3, _⟩
  · rw [h1]; rfl
  · have := hr (by rw [h1]; omega)
    rw [h1, ba_len, ba_len] at this
    exfalso
    apply h i (by omega)
    rw [ext_list, ba_list t, ← (occ_iff s t i).1 h3]
    congr 1; omega

set_option maxRecDepth 100000 in
set_option maxHeartbeats 1600000 in
theorem within_any (s t : ByteArray) (w : World) (hs : s.size ≤ 1000000) (ht : t.size ≤ 1000000) :
    Calls Tryz.prog 104 #[.string s, .string t] w fun e w' => e = .returned (.bool (Lib.contains s.data.toList t.data.toList)) ∧ w = w' := by
  go_enter Tryz.func104, Tryz.ntmps104
  go_wp2_with fail
  go_loopw [5] (fun i wr => w = wr ∧ ∃ k : Nat, k ≤ s.size + 1 ∧ i = .int .i64 k ∧ Hid (∀ j, j < k → ¬ (s.extract j (j + t.size)).toList = t.toList)) (fun i _ => s.size + 1 - (intOf i).toNat)
  case atStart => exact ⟨rfl, 0, by omega, rfl, fun j hj => by omega⟩
  case round =>
    obtain ⟨rfl, k, hk, rfl, hno⟩ := hrel
    by_cases hlt : k + t.size ≤ s.size
    · by_cases hq : (s.extract k (k + t.size)).toList = t.toList
      · have hq1 : ((s.extract k (k + t.size)).toList == t.toList) = true := by simp [hq]
        have hy := Lib.hid (contains_yes (by omega) hq)
        clear hq
        go_wp2_with fail
        all_goals try (exfalso; omega)
        go_ret
        exact ⟨by rw [hy.out]; rfl, rfl⟩
      · have hq1 : ((s.extract k (k + t.size)).toList == t.toList) = false := by simp [hq]
        have hn : Hid (∀ j, j < k + 1 → ¬ (s.extract j (j + t.size)).toList = t.toList) := by
          intro j hj
          by_cases e : j = k
          · subst e; exact hq
          · exact hno.out j (by omega)
        clear hq
        go_wp2_with fail
        all_goals try (exfalso; omega)
        go_roundw
        case rel => exact ⟨trivial, k + 1, by omega, by go_num, hn⟩
        case measure => simp [intOf]; omega
    · have hy : Hid (Lib.contains s.data.toList t.data.toList = false) := contains_no fun j hj => hno.out j (by omega)
      go_wp2_with fail
      all_goals try (exfalso; omega)
      go_ret
      exact ⟨by rw [hy.out]; rfl, rfl⟩
theorem so_any (b : Bool) (w : World) : Calls Tryz.prog 103 #[.bool b] w fun e w' => e = .returned (.int .i64 (soT b)) ∧ w = w' := by
  cases b
  all_goals
    go_enter Tryz.func103, Tryz.ntmps103
    go_wp2_with fail
    go_ret
    exact ⟨rfl, rfl⟩
end Go.Proofs.YtdjmckjbibfecaaGreatDoor

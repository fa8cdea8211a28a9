/- The walks of the document's within, so, Stands and Holds. -/
import Derived.Test.YtdjmckjbibfecaaGreatDoorZb
namespace Go.Proofs.YtdjmckjbibfecaaGreatDoor
open Go Go.RowKit Go.BigFrame Go.Maps

theorem occ_iff (s t : ByteArray) (k : Nat) : Lib.occAt s.data.toList t.data.toList k = true ↔ (s.data.toList.drop k).take t.size = t.data.toList := by
  unfold Lib.occAt
  rw [List.isPrefixOf_iff_prefix, List.prefix_iff_eq_take, ba_len]
  exact eq_comm
theorem ext_list (s : ByteArray) (a b : Nat) : (s.extract a b).toList = (s.data.toList.drop a).take (b - a) := by
  rw [ba_list]
  simp [ByteArray.data_extract]
theorem contains_yes {s t : ByteArray} {k : Nat} (hk : k ≤ s.size) (h : (s.extract k (k + t.size)).toList = t.toList) : Lib.contains s.data.toList t.data.toList = true := by
  have ho : Lib.occAt s.data.toList t.data.toList k = true := by
    rw [occ_iff, ← ba_list t, ← h, ext_list]; congr 1; omega
  unfold Lib.contains
  rcases Lib.index_spec s.data.toList t.data.toList with ⟨_, h2⟩ | ⟨i, h1, _⟩
  · rw [h2 k (by rw [ba_len]; exact hk)] at ho; cases ho
  · rw [h1]; simp
theorem contains_no {s t : ByteArray} (h : ∀ k, k + t.size ≤ s.size → ¬ (s.extract k (k + t.size)).toList = t.toList) : Lib.contains s.data.toList t.data.toList = false := by
  unfold Lib.contains
  have hr := Lib.index_room s.data.toList t.data.toList
  rcases Lib.index_spec s.data.toList t.data.toList with ⟨h1, _⟩ | ⟨i, h1, _, h3, _⟩
  · rw [h1]; rfl
  · have := hr (by rw [h1]; omega)
    rw [h1, ba_len, ba_len] at this
    exfalso
    apply h i (by omega)
    rw [ext_list, ba_list t, ← (occ_iff s t i).1 h3]
    congr 1; omega

set_option maxRecDepth 100000 in
set_option maxHeartbeats 1600000 in
theorem within_any (s t : ByteArray) (w : World) (hs : s.size ≤ 1000000) (ht : t.size ≤ 1000000) :
    Calls Tryz.prog 104 #[.string s, .string t] w fun e w' => e = .returned (.bool (Lib.contains s.data.toList t.data.toList)) ∧ w = w' := by
  go_enter Tryz.func104, Tryz.ntmps104
  go_wp2_with fail
  go_loopw [5] (fun i wr => w = wr ∧ ∃ k : Nat, k ≤ s.size + 1 ∧ i = .int .i64 k ∧ Hid (∀ j, j < k → ¬ (s.extract j (j + t.size)).toList = t.toList)) (fun i _ => s.size + 1 - (intOf i).toNat)
  case atStart => exact ⟨rfl, 0, by omega, rfl, fun j hj => by omega⟩
  case round =>
    obtain ⟨rfl, k, hk, rfl, hno⟩ := hrel
    by_cases hlt : k + t.size ≤ s.size
    · by_cases hq : (s.extract k (k + t.size)).toList = t.toList
      · have hq1 : ((s.extract k (k + t.size)).toList == t.toList) = true := by simp [hq]
        have hy := Lib.hid (contains_yes (by omega) hq)
        clear hq
        go_wp2_with fail
        all_goals try (exfalso; omega)
        go_ret
        exact ⟨by rw [hy.out]; rfl, rfl⟩
      · have hq1 : ((s.extract k (k + t.size)).toList == t.toList) = false := by simp [hq]
        have hn : Hid (∀ j, j < k + 1 → ¬ (s.extract j (j + t.size)).toList = t.toList) := by
          intro j hj
          by_cases e : j = k
          · subst e; exact hq
          · exact hno.out j (by omega)
        clear hq
        go_wp2_with fail
        all_goals try (exfalso; omega)
        go_roundw
        case rel => exact ⟨trivial, k + 1, by omega, by go_num, hn⟩
        case measure => simp [intOf]; omega
    · have hy : Hid (Lib.contains s.data.toList t.data.toList = false) := contains_no fun j hj => hno.out j (by omega)
      go_wp2_with fail
      all_goals try (exfalso; omega)
      go_ret
      exact ⟨by rw [hy.out]; rfl, rfl⟩
theorem so_any (b : Bool) (w : World) : Calls Tryz.prog 103 #[.bool b] w fun e w' => e = .returned (.int .i64 (soT b)) ∧ w = w' := by
  cases b
  all_goals
    go_enter Tryz.func103, Tryz.ntmps103
    go_wp2_with fail
    go_ret
    exact ⟨rfl, rfl⟩
end Go.Proofs.YtdjmckjbibfecaaGreatDoor

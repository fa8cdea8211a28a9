/- What is asked of tokens: papers' words, signs behind a field. -/
import Derived.Test.YtjkmhlfjheiekaaGreatDoorO
import Derived.Deep.RegionWith
namespace Go.Proofs.YtjkmhlfjheiekaaGreatDoor
open Go Go.RowKit Go.BigFrame Go.Maps

def paperD : List Txt → Nat → Txt → Int
  | [], _, _ => -1
  | x :: r, k, t => if x = t then (k : Int) else paperD r (k + 1) t
theorem paperD_idx (t : Txt) : ∀ (l : List Txt) (k : Nat), paperD l k t = if l.idxOf t < l.length then ((k + l.idxOf t : Nat) : Int) else -1
  | [], k => by simp [paperD]
  | x :: r, k => by
    rw [paperD, List.idxOf_cons]
    by_cases h : x = t
    · rw [if_pos h]; simp [h]
    · rw [if_neg h, paperD_idx t r (k + 1)]
      have : (x == t) = false := by simp [h]
      rw [this]
      simp only [cond_false, List.length_cons]
      by_cases h2 : r.idxOf t < r.length
      · rw [if_pos h2, if_pos (by omega)]; congr 1; omega
      · rw [if_neg h2, if_neg (by omega)]
theorem paperI_D (t : Txt) : paperI t = paperD papersL 0 t := by
  rw [paperD_idx]
  unfold paperI
  simp only [show papersL.length = 6 from rfl, Nat.zero_add]
theorem index125 (k : Nat) (hk : k < 6) (w : World) : (Instr.index 125 (.agg papersA) (.int .i64 k)).run Tryz.prog w = .ok (.string ⟨(papersL.getD k []).toArray⟩) w := by
  obtain rfl | rfl | rfl | rfl | rfl | rfl : k = 0 ∨ k = 1 ∨ k = 2 ∨ k = 3 ∨ k = 4 ∨ k = 5 := by omega
  all_goals kernel_rfl
theorem paperD_yes {k : Nat} {x t : Txt} (h : papersL[k]? = some x) (hx : x = t) : paperD (papersL.drop k) k t = k := by
  obtain ⟨hk, he⟩ := List.getElem?_eq_some_iff.1 h
  rw [List.drop_eq_getElem_cons hk, he, paperD, if_pos hx]
theorem paperD_no {k : Nat} {x t : Txt} (h : papersL[k]? = some x) (hx : ¬ x = t) : paperD (papersL.drop k) k t = paperD (papersL.drop (k + 1)) (k + 1) t := by
  obtain ⟨hk, he⟩ := List.getElem?_eq_some_iff.1 h
  rw [List.drop_eq_getElem_cons hk, he, paperD, if_neg hx]

set_option maxRecDepth 100000 in
set_option maxHeartbeats 1600000 in
theorem paperOf_any (s : ByteArray) (w : World) (he : Hid (Env w)) :
    Calls Tryz.prog 136 #[.string s] w fun e w' => e = .returned (.int .i64 (paperI s.data.toList)) ∧ w = w' := by
  have hW := fun n hn => he.out.papers n hn
  have hsz : Hid (papersA.size = 6) := rfl
  have hget : Hid (∀ (k : Nat) (x : Txt) (W : World), papersL[k]? = some x → (Instr.index 125 (.agg papersA) (.int .i64 k)).run Tryz.prog W = .ok (.string ⟨x.toArray⟩) W) := fun k x W h => by
    have hk : k < 6 := (List.getElem?_eq_some_iff.1 h).1
    rw [index125 k hk, List.getD_eq_getElem?_getD, h]; rfl
  obtain ⟨WA, hWA⟩ : ∃ A, Hid (papersA = A) := ⟨_, Lib.hid rfl⟩
  rw [hWA.out] at hW hsz hget
  have hrg : Hid (w.rangeAt 0 0 WA.toList) := fun j v hv => by
    have hj : j < 6 := by
      have := (List.getElem?_eq_some_iff.1 hv).1
      rw [Array.length_toList, hsz.out] at this; exact this
    rw [Nat.zero_add, hW j hj]
    simpa using hv
  have hin : Hid ((Tryz.prog.info? 125).map (·.size) = some WA.toList.length) := by unfold Hid; rw [Array.length_toList, hsz.out]; kernel_rfl
  clear hW hWA
  go_enter Tryz.func136, Tryz.ntmps136
  go_wp2_with (refine wpList_load_mid rfl 125 (.global 0) rfl 0 0 rfl WA.toList _ hrg.out Tryz.underlying125 rfl hin.out ?_)
  rw [Array.toArray_toList]
  go_loopg [3, 4, 6] 6 (fun gg _ _ i wr => ∃ k : Nat, k ≤ 6 ∧ gg = 6 - k ∧ i = .int .i64 k ∧ w = wr ∧ Hid (paperI s.data.toList = paperD (papersL.drop k) k s.data.toList))
  case atStart => exact ⟨0, by omega, rfl, rfl, rfl, paperI_D _⟩
  case round =>
    obtain ⟨k, hk, hg, rfl, rfl, hs⟩ := hrel
    have hg' := Lib.hid hg
    clear hg
    by_cases hlt : k < 6
    · obtain ⟨x, hx⟩ : ∃ x, papersL[k]? = some x := ⟨_, List.getElem?_eq_getElem (show k < papersL.length from hlt)⟩
      have hgk := hget.out k x w hx
      have i1 : (k : Int) < 6 := by omega
      have i2 : (0 : Int) ≤ (k : Int) := by omega
      have hst0 : s.toList = s.data.toList := by simp [ByteArray.toList_eq]
      by_cases heq : x = s.data.toList
      · have hq : (x == s.toList) = true := by rw [hst0]; simp [heq]
        have hr : Hid (paperI s.data.toList = k) := by unfold Hid; rw [hs.out, paperD_yes hx heq]
        clear heq hst0 hx
        go_wp2_with fail
        go_ret
        exact ⟨by rw [hr.out]; first | done | rfl, rfl⟩
      · have hq : (x == s.toList) = false := by rw [hst0]; simp [heq]
        have hr : Hid (paperI s.data.toList = paperD (papersL.drop (k + 1)) (k + 1) s.data.toList) := by unfold Hid; rw [hs.out, paperD_no hx heq]
        clear heq hst0 hx
        go_wp2_with fail
        go_roundg (6 - (k + 1))
        case measure => have := hg'.out; omega
        case rel => exact ⟨k + 1, by omega, rfl, by go_num, rfl, hr⟩
    · have hr : Hid (paperI s.data.toList = -1) := by unfold Hid; rw [hs.out, List.drop_eq_nil_of_le (by show 6 ≤ k; omega)]; rfl
      go_wp2_with fail
      go_ret
      exact ⟨by rw [hr.out]; first | done | rfl, rfl⟩

set_option maxRecDepth 100000 in
set_option maxHeartbeats 1600000 in
theorem paper_fits {w : World} (he : Hid (Env w)) : FitsAt w 137 #[] paperB := by
  intro W t hb
  obtain ⟨tk, tp, tx⟩ := t
  show Calls Tryz.prog 137 #[.agg #[.int .i64 tk, .int .i64 tp, .string ⟨tx.toArray⟩]] W _
  obtain ⟨b0, hb0⟩ : ∃ b, Hid ((tk == 0) = b) := ⟨_, Lib.hid rfl⟩
  have q0 := hb0.out
  have heW := Lib.hid (he.out.below hb)
  have hpo : Hid (∀ o, Calls Tryz.prog 136 #[.string ⟨tx.toArray⟩] (W.alloc o) fun e w' => e = .returned (.int .i64 (paperI tx)) ∧ W.alloc o = w') := fun o => by
    have := paperOf_any ⟨tx.toArray⟩ (W.alloc o) (heW.out.below ((Below.refl _ W).alloc (Nat.le_refl _) o))
    simpa using this
  obtain ⟨pi, hpi⟩ : ∃ b, Hid (paperI tx = b) := ⟨_, Lib.hid rfl⟩
  rw [hpi.out] at hpo
  obtain ⟨b1, hb1⟩ : ∃ b, Hid (decide (0 ≤ pi) = b) := ⟨_, Lib.hid rfl⟩
  have q1 := hb1.out
  have hn : Hid (paperB ⟨tk, tp, tx⟩ = (b0 && b1)) := by unfold Hid paperB; simp only [q0, hpi.out, q1]
  cases b0
  all_goals
    go_enter Tryz.func137, Tryz.ntmps137
    go_wp2_with (go_at_call 136; refine (hpo.out _).mono ?_; rintro e w1 ⟨rfl, rfl⟩)
    go_ret
    exact ⟨by rw [hn.out]; first | rfl | (cases b1 <;> rfl), (Below.refl _ W).alloc (Nat.le_refl _) _⟩

def compL : List Txt := [sEq, sTilde, sLe, sGe]
theorem comp_eq : compB = fun t => t.kind == 5 && compL.contains t.text := by
  funext t
  unfold compB compL
  simp only [List.contains_cons, List.contains_nil, Bool.or_false, Bool.or_assoc]
theorem comp_fit {W : World} {g cb : Nat} (hg : Blk W g 9 #[.string (mkT sEq), .string (mkT sTilde), .string (mkT sLe), .string (mkT sGe)]) (hc : Blk W cb 110 #[.slice (some ⟨g, 0, none⟩) 4 4]) : FitsAt W 161 #[.pointer (some ⟨cb, 0, none⟩)] compB := by
  refine (sign_fits (ws := compL) (hc.cell 0) ?_ (by decide)).congr comp_eq.symm
  intro j x hx
  have hj : j < 4 := (List.getElem?_eq_some_iff.1 hx).1
  rw [Nat.zero_add, hg.cell]
  obtain rfl | rfl | rfl | rfl : j = 0 ∨ j = 1 ∨ j = 2 ∨ j = 3 := by omega
  all_goals
    obtain rfl := Option.some.inj hx
    rfl
set_option maxRecDepth 100000 in
set_option maxHeartbeats 1600000 in
theorem comp_fits (w : World) : FitsAt w 164 #[] compB := by
  intro W t hb
  obtain ⟨b, hbt⟩ : ∃ b, Hid (compB t = b) := ⟨_, Lib.hid rfl⟩
  rw [hbt.out]
  obtain ⟨tk, tp, tx⟩ := t
  have hX : Hid (∀ o, Calls Tryz.prog 161 #[.agg #[.int .i64 tk, .int .i64 tp, .string ⟨tx.toArray⟩], .pointer (some ⟨W.heap.size + 1 + 1, 0, none⟩)]
      (((W.alloc o).alloc (.cells #[.string ⟨#[61]⟩, .string ⟨#[126]⟩, .string ⟨#[60, 61]⟩, .string ⟨#[62, 61]⟩] 9)).alloc (.cells #[.slice (some ⟨W.heap.size + 1, 0, none⟩) 4 4] 110)).drew
      fun e w' => e = .returned (.bool b) ∧ Below W.heap.size W w') := fun o => by
    have h1 := blk_second W o 9 #[.string ⟨#[61]⟩, .string ⟨#[126]⟩, .string ⟨#[60, 61]⟩, .string ⟨#[62, 61]⟩]
    have h2 := blk_second (W.alloc o) (.cells #[.string ⟨#[61]⟩, .string ⟨#[126]⟩, .string ⟨#[60, 61]⟩, .string ⟨#[62, 61]⟩] 9) 110 #[.slice (some ⟨W.heap.size + 1, 0, none⟩) 4 4]
    rw [World.size_alloc] at h2
    have h3 := comp_fit (g := W.heap.size + 1) (h1.alloc (.cells #[.slice (some ⟨W.heap.size + 1, 0, none⟩) 4 4] 110)).drew h2.drew
    have h4 := h3 _ ⟨tk, tp, tx⟩ (Below.refl _ _)
    rw [hbt.out] at h4
    refine h4.mono ?_
    rintro e w' ⟨rfl, hB⟩
    refine ⟨rfl, Below.trans (((((Below.refl _ W).alloc (Nat.le_refl _) o).alloc (by simp) _).alloc (by simp; omega) _).drew) (hB.mono (by simp; omega))⟩
  show Calls Tryz.prog 164 #[.agg #[.int .i64 tk, .int .i64 tp, .string ⟨tx.toArray⟩]] W _
  go_enter Tryz.func164, Tryz.ntmps164
  go_wp2_with fail
  go_region_with (first | (go_at_call 135; refine (sgn_any _ _ _ _).mono ?_; rintro e w1 ⟨rfl, rfl⟩) | (go_at_call 161; refine (hX.out _).mono ?_; rintro e w2 ⟨rfl, hB2⟩))
  all_goals
    go_wp2_with fail
    go_ret
    exact ⟨rfl, hB2⟩
end Go.Proofs.YtjkmhlfjheiekaaGreatDoor

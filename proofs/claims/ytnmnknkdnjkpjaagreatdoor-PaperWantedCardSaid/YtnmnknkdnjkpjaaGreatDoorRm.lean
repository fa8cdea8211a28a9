/- The document's Marks of a deal. -/
import Derived.Test.YtnmnknkdnjkpjaaGreatDoorRf
import Derived.Test.YtnmnknkdnjkpjaaGreatDoorV
namespace Go.Proofs.YtnmnknkdnjkpjaaGreatDoor
open Go Go.RowKit Go.BigFrame Go.Maps

set_option maxRecDepth 100000 in
set_option maxHeartbeats 800000 in
theorem rmarks_any (d : Dl) (w : World) (hA : Hid (BoxesOk w d.A d.boxes)) (hn : d.boxes.length ≤ 30) :
    Calls Tryz.prog 39 #[.agg d.cells] w fun e w' => ∃ A c, e = .returned (.slice A d.boxes.length c) ∧ d.boxes.length ≤ c ∧ StrsAt w' A (d.boxes.map Bx.mark) ∧ Below w.heap.size w w' := by
  obtain ⟨i0, hi, hz0, hz1, hz2⟩ := info_parts Tryz.info9
  obtain ⟨n, hnn⟩ : ∃ n, Hid (d.boxes.length = n) := ⟨_, rfl⟩
  obtain ⟨l, hl⟩ : ∃ l, Hid (d.boxes = l) := ⟨_, rfl⟩
  obtain ⟨A, hAe⟩ : ∃ A, Hid (d.A = A) := ⟨_, rfl⟩
  obtain ⟨c, hce⟩ : ∃ c, Hid (d.c = c) := ⟨_, rfl⟩
  obtain ⟨D, hD⟩ : ∃ X, Hid (d.cells = X) := ⟨_, rfl⟩
  have hDc : Hid (D[11]? = some (.slice A n c)) := by rw [← hD.out, ← hAe.out, ← hnn.out, ← hce.out]; exact Lib.hid rfl
  rw [hnn.out, hD.out]
  rw [hnn.out] at hn
  rw [hl.out, hAe.out] at hA
  rw [hl.out]
  have hlen : Hid (l.length = n) := by rw [← hl.out]; exact hnn
  clear hl hAe hce hD hnn
  obtain ⟨w1, hw1⟩ : ∃ W, Hid (w.alloc (.cells D 26) = W) := ⟨_, rfl⟩
  have hb1 : Hid (Below w.heap.size w w1) := by rw [← hw1.out]; exact (Below.refl _ w).alloc (Nat.le_refl _) _
  have hk1 : Hid (Blk w1 w.heap.size 26 D) := by rw [← hw1.out]; exact Blk.new _ _ _
  have hg1 : Hid (w1.heap.size = w.heap.size + 1) := by rw [← hw1.out]; exact Lib.hid (by simp)
  go_enter Tryz.func39, Tryz.ntmps39
  go_wp2_with fail
  rw [hw1.out]
  go_loopw [3, 4] (fun v i wr => ∃ k : Nat, k ≤ n ∧ i = .int .i64 (k : Int) ∧ Hid (wr.ownsRow w1.heap.size 9 1 v k ((l.take k).map fun x => Value.string x.mark)) ∧ Hid (Below w1.heap.size w1 wr)) (fun _ i _ => n - (intOf i).toNat)
  case atStart => exact ⟨0, Nat.zero_le _, rfl, by have := own_new w1 9 1; rw [hg1.out] at this ⊢; exact Lib.hid this, (Below.refl _ w1).alloc (Nat.le_refl _) _⟩
  case round =>
    obtain ⟨k, hk, rfl, hown, hB⟩ := hrel
    have hkr := hk1.out.below hB.out hk1.out.lt
    have hkc := hkr.cell 11
    rw [hDc.out] at hkc
    have hkl := hkr.lt
    clear hkr
    by_cases hlt : k < n
    · obtain ⟨x, hx⟩ : ∃ x, l[k]? = some x := ⟨_, List.getElem?_eq_getElem (by have := hlen.out; omega)⟩
      obtain ⟨b, off, rfl, h0, h1, h2, hL, hmk, hln⟩ := boxes_cells ((hA.out.below hb1.out).below hB.out) k x hx
      have htk : Hid ((l.take (k + 1)).map (fun x => Value.string x.mark) = (l.take k).map (fun x => Value.string x.mark) ++ [.string x.mark]) := by unfold Hid; rw [List.take_add_one, hx]; simp
      clear hx hL hmk hln
      obtain ⟨mk, kd, bA, bc, ls⟩ := x
      simp only at h0 h1 h2 htk
      have hq1 : Hid (k + 1 ≤ maxLen) := by unfold Hid maxLen; omega
      have hq2 : Hid ((k + 1) * 16 ≤ 140737488355328) := by unfold Hid; omega
      have hone : Hid (∀ u ∈ (#[.string mk] : Array Value).toList, u.oneCell' = true) := by intro u hu; simp at hu; subst hu; rfl
      have hsz : Hid (w1.heap.size ≤ (wr.alloc (.cells #[.string mk] 9)).heap.size) := Nat.le_trans hB.out.size (by simp)
      go_wp2_with (at_builtin; go_must (refine wpList_app3 w1.heap.size rfl (.tmp 13) (.tmp 20) 38 rfl 9 i0 _ 1 16 Tryz.underlying38 hi hz0 hz1 hz2 rfl (by decide) _ k ((l.take k).map fun x => Value.string x.mark) rfl wr.heap.size 1 #[.string mk] rfl (hown.out.alloc _) (Blk.new wr 9 _) rfl hone.out hq1.out hq2.out hsz.out ?_); intro v5 w5 ho5 hb5 hg5)
      have ho5' : Hid (w5.ownsRow w1.heap.size 9 1 v5 (k + 1) ((l.take (k + 1)).map fun x => Value.string x.mark)) := by rw [htk.out]; exact Lib.hid ho5
      have hB5 : Hid (Below w1.heap.size w1 w5) := (hB.out.alloc hB.out.size _).trans hb5
      clear ho5 hb5 hg5
      go_roundw
      case rel => exact ⟨k + 1, by omega, by go_num, ho5', hB5⟩
      case measure => simp [intOf]; omega
    · have e : k = n := by omega
      have eT : l.take k = l := List.take_of_length_le (by have := hlen.out; omega)
      rw [eT] at hown
      have hown2 : wr.ownsRow w1.heap.size 9 1 u3 k ((l.map Bx.mark).map Value.string) := by rw [List.map_map]; exact hown.out
      obtain ⟨A1, c1, rfl, hc1, hs1⟩ := own_strs hown2 (by have := hlen.out; simp; omega)
      have hs2 := Lib.hid hs1
      have hc2 := Lib.hid hc1
      clear hown2 hs1 eT hc1
      go_wp2_with fail
      go_ret
      exact ⟨A1, c1, by rw [e]; rfl, by rw [← e]; exact hc2.out, hs2.out, hb1.out.trans (hB.out.mono hb1.out.size)⟩
theorem rjoinm_any (A : Option Addr) (n c : Nat) (l : List Bx) (w : World) (hn : n ≤ 30) (hl : Hid (l.length = n)) (hs : Hid (∀ x ∈ l, x.mark.size ≤ 3000)) (hA : Hid (StrsAt w A (l.map Bx.mark))) :
    Calls Tryz.prog 38 #[.slice A n c] w fun e w' => e = .returned (.string (mkB (marksT l))) ∧ Below w.heap.size w w' := by
  have e : (l.map fun x => x.mark.data.toList).map mkB = l.map Bx.mark := by
    rw [List.map_map]; exact List.map_congr_left fun x _ => ByteArray.ext (by simp [mkB])
  refine rjoin_any A n c (l.map fun x => x.mark.data.toList) w (by have := hl.out; unfold Hid; simp; omega) (by rw [e]; exact hA) (by omega) (fun k => ?_)
  rw [← List.map_take]
  have := marksT_len (l := l.take k) (by have := hl.out; simp; omega) (fun x hx => hs.out x (List.mem_of_mem_take hx))
  unfold marksT at this
  omega
end Go.Proofs.YtnmnknkdnjkpjaaGreatDoor

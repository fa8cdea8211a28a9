/- The document's example. -/
import Derived.Test.YtbpngfppddigjaaGreatDoorO
import Derived.Test.YtbpngfppddigjaaGreatDoorR
namespace Go.Proofs.YtbpngfppddigjaaGreatDoor
open Go Go.RowKit Go.BigFrame Go.Maps

def zeroC (e : Int) : Crd := ⟨⟨#[]⟩, ⟨#[]⟩, ⟨#[]⟩, ⟨#[]⟩, ⟨#[]⟩, ⟨#[]⟩, ⟨#[]⟩, ⟨#[]⟩, 0, 0, 0, 0, e, 0, 0, false, false⟩
def ned0 : Ned := ⟨0, 1, 0, 0, ⟨#[]⟩, ⟨#[]⟩, 0, none, 0, 0⟩
def flt0 : Flt := ⟨-1, 0, ⟨#[]⟩, 1⟩
theorem need_one : needF [ned0] = [flt0] := by
  simp [needF, needStep, ned0, addF, flt0]
theorem need_none : needF [] = [] := rfl
theorem text_one : textF [flt0] = [45, 32, 105, 110, 118, 111, 105, 99, 101, 32, 45, 32, 108, 97, 99, 107, 115] := by
  simp [textF, Lib.join, List.intercalate, oneT, flt0, paperT, kindT, fieldT, whyT, dash, kindL, whyL]

theorem needs_one {w : World} {b : Nat} (h : Blk w b 38 #[.int .i64 0, .int .i64 1, .int .i64 0, .int .i64 0, .string ⟨#[]⟩, .string ⟨#[]⟩, .int .i64 0, .slice none 0 0]) : NeedsAt w (some ⟨b, 0, none⟩) [ned0] := by
  intro k x hk
  match k, hk with
  | 0, hk =>
    simp at hk; subst hk
    exact ⟨by simp [ned0], b, 0, rfl, h.cell 0, h.cell 1, h.cell 2, h.cell 3, h.cell 4, h.cell 5, h.cell 6, h.cell 7⟩
theorem faults_one {w : World} {b : Nat} (h : Blk w b 40 #[.int .i64 (-1), .int .i64 0, .string ⟨#[]⟩, .int .i64 1]) : FaultsAt w (some ⟨b, 0, none⟩) [flt0] := by
  intro k x hk
  match k, hk with
  | 0, hk =>
    simp at hk; subst hk
    exact ⟨b, 0, rfl, h.cell 0, h.cell 1, h.cell 2, h.cell 3⟩
abbrev CR (b : Nat) : Array Value := (zeroC 5).cells (.slice (some ⟨b, 0, none⟩) 1 1)

theorem crOne {b : Nat} : (CR b).all (·.oneCell') = true := by simp [CR, Crd.cells, zeroC, Value.oneCell']

set_option maxRecDepth 100000 in
set_option maxHeartbeats 3200000 in
theorem awake_any (w : World) (he : Env w) : Calls Tryz.prog 4 #[] w fun e w' => e = .returned (.bool true) ∧ Below w.heap.size w w' := by
  have he' := Lib.hid he
  clear he
  go_enter Tryz.func4, Tryz.ntmps4
  go_wp2_with (first | (refine wpList_store_blk rfl 26 (.tmp 1) (.tmp 5) rfl (w.heap.size + 1) _ (CR w.heap.size) 26 rfl rfl (blk_second w _ 26 _) rfl (by kernel_rfl) crOne ?_; intro w1 hb1 hbu1; have hn1 : Hid (Blk w1 w.heap.size 38 #[.int .i64 0, .int .i64 1, .int .i64 0, .int .i64 0, .string ⟨#[]⟩, .string ⟨#[]⟩, .int .i64 0, .slice none 0 0]) := hbu1.blk ((Blk.new w 38 _).alloc _) (by omega); have hB1 : Hid (Below w.heap.size w w1) := (((Below.refl _ w).alloc (Nat.le_refl _) _).alloc (by simp) _).trans (hbu1.below (by intro g hg; omega) (by simp; omega)); have hb1' := Lib.hid hb1; clear hb1 hbu1) | (refine wpList_load_blk rfl 26 (.tmp 1) rfl (w.heap.size + 1) (CR w.heap.size) 26 _ rfl hb1'.out Tryz.underlying26 rfl (by kernel_rfl) ?_))
  refine (examine_none (zeroC 5) (some ⟨w.heap.size, 0, none⟩) 1 1 5 [ned0] w1 (by simp [zeroC]) (by omega) rfl (needs_one hn1.out)).mono ?_
  rintro e w2 ⟨A2, c2, rfl, hF2, hb2⟩
  rw [need_one] at hF2 ⊢
  have hF2' := Lib.hid hF2
  clear hF2
  have hB2 : Hid (Below w.heap.size w w2) := hB1.out.trans (hb2.mono hB1.out.size)
  have hcr2 : Hid (Blk w2 (w.heap.size + 1) 26 (CR w.heap.size)) := hb1'.out.below hb2 hb1'.out.lt
  have hn2 : Hid (Blk w2 w.heap.size 38 #[.int .i64 0, .int .i64 1, .int .i64 0, .int .i64 0, .string ⟨#[]⟩, .string ⟨#[]⟩, .int .i64 0, .slice none 0 0]) := hn1.out.below hb2 hn1.out.lt
  go_wp2_with fail
  have hb2f : Below w2.heap.size w2 (w2.alloc (.cells #[.int .i64 (-1), .int .i64 0, .string ⟨#[]⟩, .int .i64 1] 40)) := (Below.refl _ _).alloc (Nat.le_refl _) _
  refine (same_any A2 (some ⟨w2.heap.size, 0, none⟩) 1 c2 1 1 [flt0] [flt0] _ (by decide) (by decide) rfl rfl (hF2'.out.below hb2f) (faults_one (Blk.new w2 40 _))).mono ?_
  rintro e w3 ⟨rfl, hb3⟩
  have hb23 : Below w2.heap.size w2 w3 := hb2f.trans (hb3.mono (by simp))
  rw [same_refl]
  have hB3 : Hid (Below w.heap.size w w3) := hB2.out.trans (hb23.mono hB2.out.size)
  have hF3 : Hid (FaultsAt w3 A2 [flt0]) := hF2'.out.below hb23
  have hcr3 : Hid (Blk w3 (w.heap.size + 1) 26 (CR w.heap.size)) := hcr2.out.below hb23 hcr2.out.lt
  have hn3 : Hid (Blk w3 w.heap.size 38 #[.int .i64 0, .int .i64 1, .int .i64 0, .int .i64 0, .string ⟨#[]⟩, .string ⟨#[]⟩, .int .i64 0, .slice none 0 0]) := hn2.out.below hb23 hn2.out.lt
  clear hb2f hb3 hb23
  go_wp2_with fail
  refine (textE_any A2 1 c2 [flt0] w3 (by omega) rfl hF3 (by intro x hx; simp at hx; subst hx; exact ⟨by simp [flt0], by simp [flt0], Nat.zero_le _⟩) (he'.out.below hB3.out)).mono ?_
  rintro e w4 ⟨rfl, hb4⟩
  rw [text_one]
  have hB4 : Hid (Below w.heap.size w w4) := hB3.out.trans (hb4.mono hB3.out.size)
  have hcr4 : Hid (Blk w4 (w.heap.size + 1) 26 (CR w.heap.size)) := hcr3.out.below hb4 hcr3.out.lt
  have hn4 : Hid (Blk w4 w.heap.size 38 #[.int .i64 0, .int .i64 1, .int .i64 0, .int .i64 0, .string ⟨#[]⟩, .string ⟨#[]⟩, .int .i64 0, .slice none 0 0]) := hn3.out.below hb4 hn3.out.lt
  unfold mkB
  have hq := hcr4.out.cell
  simp only [CR, Crd.cells, zeroC] at hq
  go_wp2_with fail
  clear hq
  refine (fine_none (zeroC 5) (some ⟨w.heap.size, 0, none⟩) 1 1 5 [ned0] w4 (by simp [zeroC]) (by omega) rfl (needs_one hn4.out)).mono ?_
  rintro e w5 ⟨rfl, hb5⟩
  rw [need_one, show decide (([flt0] : List Flt).length = 0) = false from rfl]
  have hB5 : Hid (Below w.heap.size w w5) := hB4.out.trans (hb5.mono hB4.out.size)
  go_wp2_with fail
  refine (fine_none (zeroC 0) none 0 0 0 [] w5 (by simp [zeroC]) (by omega) rfl (by intro k x hk; simp at hk)).mono ?_
  rintro e w6 ⟨rfl, hb6⟩
  rw [need_none, show decide (([] : List Flt).length = 0) = true from rfl]
  have hB6 : Hid (Below w.heap.size w w6) := hB5.out.trans (hb6.mono hB5.out.size)
  go_wp2_with fail
  go_ret
  exact ⟨rfl, hB6.out⟩
end Go.Proofs.YtbpngfppddigjaaGreatDoor

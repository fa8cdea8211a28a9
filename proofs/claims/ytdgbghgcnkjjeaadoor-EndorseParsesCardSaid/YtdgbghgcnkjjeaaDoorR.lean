/- The walk of read. -/
import Derived.Test.YtdgbghgcnkjjeaaDoorN
import Derived.Deep.RegionWith
import Derived.Deep.DeepCutAuto
namespace Go.Proofs.YtdgbghgcnkjjeaaDoor
open Go.RowKit Go.BigFrame

def endNone : End := ⟨⟨#[]⟩, ⟨#[]⟩, 0, 0⟩
def dayed (x : End) : Option Nat → End × Bool
  | none => (endNone, false)
  | some d => ({ x with day := d }, ({ x with day := d } : End).okB)
def readW : List ByteArray → End × Bool
  | [a, b, c, d] => if (a.toList == [111, 114, 100, 101, 114]) = true then dayed ⟨b, c, 0, 0⟩ (numE d.data.toList) else if (a.toList == [111, 110, 108, 121]) = true then dayed ⟨b, c, 2, 0⟩ (numE d.data.toList) else (endNone, false)
  | [a, b, c] => if (a.toList == [98, 108, 97, 110, 107]) = true then dayed ⟨b, ⟨#[]⟩, 1, 0⟩ (numE c.data.toList) else (endNone, false)
  | _ => (endNone, false)
def endV (r : End × Bool) : Value := .tuple #[.agg #[.string r.1.frm, .string r.1.to, .int .i64 r.1.kind, .int .i64 r.1.day], .bool r.2]

theorem World.drew_size (w : World) : w.drew.heap.size = w.heap.size := rfl
theorem bfacts {W w1 : World} (hb : Below W.heap.size W w1) : (∀ b o, b < W.heap.size → w1.cell? ⟨b, o, none⟩ = W.cell? ⟨b, o, none⟩) ∧ (∀ b o, b < W.heap.size → w1.frozen? ⟨b, o, none⟩ = W.frozen? ⟨b, o, none⟩) ∧ W.heap.size ≤ w1.heap.size :=
  ⟨fun b o h => hb.cell (p := ⟨b, o, none⟩) h, fun b o h => hb.frozen (p := ⟨b, o, none⟩) h, hb.size⟩

set_option maxRecDepth 100000 in
set_option maxHeartbeats 1600000 in
theorem read_four (s a b c d : ByteArray) (w : World) (hs : s.size ≤ 3000) (hb : b.size ≤ 3000) (hc : c.size ≤ 3000) (hd : d.size ≤ 3000) (he : Env w)
    (hsp : Hid (Lib.splitB ⟨#[32]⟩ 0 (Lib.countB s ⟨#[32]⟩) s = [a, b, c, d])) (hcn : Hid (Lib.countB s ⟨#[32]⟩ = 3)) :
    Calls Tryd.prog 20 #[.string s] w fun e w' => e = .returned (endV (readW [a, b, c, d])) ∧ Below w.heap.size w w' := by
  have he' := Lib.hid he
  clear he
  have hbm : b.size ≤ maxLen := by unfold maxLen; omega
  have hcm : c.size ≤ maxLen := by unfold maxLen; omega
  have hdm : d.size ≤ maxLen := by unfold maxLen; omega
  go_enter Tryd.func20, Tryd.ntmps20
  go_wp2_with fail
  obtain ⟨m, hm⟩ := (he'.out.below ((Below.refl _ w).alloc (Nat.le_refl _) (.cells #[.string ⟨#[]⟩, .string ⟨#[]⟩, .int .i64 0, .int .i64 0] 34))).most
  refine (Tryd.strings_Split s ⟨#[32]⟩ m _ (by omega) hm (by decide)).mono ?_
  rintro e w1 ⟨rfl, rfl⟩
  rw [hsp.out, hcn.out]
  clear hm
  by_cases h1 : (a.toList == [111, 114, 100, 101, 114]) = true
  · have g1 : Hid True := trivial
    go_wp2_with fail
    go_region
    go_wp2_with fail
    refine (number_any d _ hdm).mono ?_
    rintro e w' ⟨rfl, rfl⟩
    cases hnum : numE d.data.toList with
    | none =>
      have hnum' := Lib.hid hnum
      clear hnum
      unfold numV
      go_wp2_with fail
      refine bodyPost_ret (v := .tuple #[.agg #[.string ⟨#[]⟩, .string ⟨#[]⟩, .int .i64 0, .int .i64 0], .bool false]) (by simp [results, Tryd.results20, go_sem]) rfl ⟨?_, ?_⟩
      · rw [readW, if_pos h1, hnum'.out]; rfl
      · exact Below.drew (((((Below.refl _ w).alloc (Nat.le_refl _) _).alloc (by simp) _).alloc (by simp; omega) _))
    | some n =>
      have hnum' := Lib.hid hnum
      clear hnum
      unfold numV
      go_wp2_with fail
      go_region_with ((go_at_call 13; refine (may_any _ _ _ _ _ hbm hcm).mono ?_; rintro e w2 ⟨rfl, hb2⟩; have hBw2 : Below w.heap.size w w2 := (Below.drew ((((Below.refl _ w).alloc (Nat.le_refl _) _).alloc (by simp) _).alloc (by simp; omega) _)).drew.trans (hb2.mono (by simp; omega)); have hc2 := bfacts hb2; obtain ⟨hcc, hff, hzz⟩ := hc2; simp only [World.size_alloc, World.drew_size] at hcc hff hzz))
      all_goals
        go_wp2_with fail
        refine bodyPost_ret (v := .tuple #[.agg #[.string b, .string c, .int .i64 0, .int .i64 (n : Int)], .bool (End.okB ⟨b, c, 0, (n : Int)⟩)]) ?_ rfl ⟨?_, ?_⟩
      all_goals first
        | (rw [readW, if_pos h1, hnum'.out]; rfl)
        | exact ((((hBw2.setCell (Nat.le_refl _) _).setCell (Nat.le_refl _) _).setCell (Nat.le_refl _) _).setCell (Nat.le_refl _) _)
        | (have p0 : w2.cell? ⟨w.heap.size, 0, none⟩ = some (.string ⟨#[]⟩) := by rw [hcc _ _ (by omega)]; simp [go_sem]
           have p1 : w2.cell? ⟨w.heap.size, 1, none⟩ = some (.string ⟨#[]⟩) := by rw [hcc _ _ (by omega)]; simp [go_sem]
           have p2 : w2.cell? ⟨w.heap.size, 2, none⟩ = some (.int .i64 0) := by rw [hcc _ _ (by omega)]; simp [go_sem]
           have p3 : w2.cell? ⟨w.heap.size, 3, none⟩ = some (.int .i64 0) := by rw [hcc _ _ (by omega)]; simp [go_sem]
           clear hcc hff
           simp [results, Tryd.results20, go_sem, Act.put, p0, p1, p2, p3]; done)
  have h1' : (a.toList == [111, 114, 100, 101, 114]) = false := by simpa using h1
  clear h1
  by_cases h2 : (a.toList == [111, 110, 108, 121]) = true
  · have g1 : Hid True := trivial
    go_wp2_with fail
    go_region
    go_wp2_with fail
    refine (number_any d _ hdm).mono ?_
    rintro e w' ⟨rfl, rfl⟩
    cases hnum : numE d.data.toList with
    | none =>
      have hnum' := Lib.hid hnum
      clear hnum
      unfold numV
      go_wp2_with fail
      refine bodyPost_ret (v := .tuple #[.agg #[.string ⟨#[]⟩, .string ⟨#[]⟩, .int .i64 0, .int .i64 0], .bool false]) (by simp [results, Tryd.results20, go_sem]) rfl ⟨?_, ?_⟩
      · rw [readW, if_neg (by rw [h1']; simp), if_pos h2, hnum'.out]; rfl
      · exact Below.drew (((((Below.refl _ w).alloc (Nat.le_refl _) _).alloc (by simp) _).alloc (by simp; omega) _))
    | some n =>
      have hnum' := Lib.hid hnum
      clear hnum
      unfold numV
      go_wp2_with fail
      go_region_with ((go_at_call 13; refine (may_any _ _ _ _ _ hbm hcm).mono ?_; rintro e w2 ⟨rfl, hb2⟩; have hBw2 : Below w.heap.size w w2 := (Below.drew ((((Below.refl _ w).alloc (Nat.le_refl _) _).alloc (by simp) _).alloc (by simp; omega) _)).drew.trans (hb2.mono (by simp; omega)); have hc2 := bfacts hb2; obtain ⟨hcc, hff, hzz⟩ := hc2; simp only [World.size_alloc, World.drew_size] at hcc hff hzz))
      all_goals
        go_wp2_with fail
        refine bodyPost_ret (v := .tuple #[.agg #[.string b, .string c, .int .i64 2, .int .i64 (n : Int)], .bool (End.okB ⟨b, c, 2, (n : Int)⟩)]) ?_ rfl ⟨?_, ?_⟩
      all_goals first
        | (rw [readW, if_neg (by rw [h1']; simp), if_pos h2, hnum'.out]; rfl)
        | exact ((((hBw2.setCell (Nat.le_refl _) _).setCell (Nat.le_refl _) _).setCell (Nat.le_refl _) _).setCell (Nat.le_refl _) _)
        | (have p0 : w2.cell? ⟨w.heap.size, 0, none⟩ = some (.string ⟨#[]⟩) := by rw [hcc _ _ (by omega)]; simp [go_sem]
           have p1 : w2.cell? ⟨w.heap.size, 1, none⟩ = some (.string ⟨#[]⟩) := by rw [hcc _ _ (by omega)]; simp [go_sem]
           have p2 : w2.cell? ⟨w.heap.size, 2, none⟩ = some (.int .i64 0) := by rw [hcc _ _ (by omega)]; simp [go_sem]
           have p3 : w2.cell? ⟨w.heap.size, 3, none⟩ = some (.int .i64 0) := by rw [hcc _ _ (by omega)]; simp [go_sem]
           clear hcc hff
           simp [results, Tryd.results20, go_sem, Act.put, p0, p1, p2, p3]; done)
  have h2' : (a.toList == [111, 110, 108, 121]) = false := by simpa using h2
  clear h2
  go_wp2_with fail
  refine bodyPost_ret (v := .tuple #[.agg #[.string ⟨#[]⟩, .string ⟨#[]⟩, .int .i64 0, .int .i64 0], .bool false]) (by simp [results, Tryd.results20, go_sem]) rfl ⟨?_, ?_⟩
  · rw [readW, if_neg (by rw [h1']; simp), if_neg (by rw [h2']; simp)]; rfl
  · exact (((Below.refl _ w).alloc (Nat.le_refl _) _).alloc (by simp) _).alloc (by simp; omega) _

set_option maxRecDepth 100000 in
set_option maxHeartbeats 1600000 in
theorem read_three (s a b c : ByteArray) (w : World) (hs : s.size ≤ 3000) (hb : b.size ≤ 3000) (hc : c.size ≤ 3000) (he : Env w)
    (hsp : Hid (Lib.splitB ⟨#[32]⟩ 0 (Lib.countB s ⟨#[32]⟩) s = [a, b, c])) (hcn : Hid (Lib.countB s ⟨#[32]⟩ = 2)) :
    Calls Tryd.prog 20 #[.string s] w fun e w' => e = .returned (endV (readW [a, b, c])) ∧ Below w.heap.size w w' := by
  have he' := Lib.hid he
  clear he
  have hbm : b.size ≤ maxLen := by unfold maxLen; omega
  have hcm : c.size ≤ maxLen := by unfold maxLen; omega
  have hzm : (⟨#[]⟩ : ByteArray).size ≤ maxLen := by decide
  go_enter Tryd.func20, Tryd.ntmps20
  go_wp2_with fail
  obtain ⟨m, hm⟩ := (he'.out.below ((Below.refl _ w).alloc (Nat.le_refl _) (.cells #[.string ⟨#[]⟩, .string ⟨#[]⟩, .int .i64 0, .int .i64 0] 34))).most
  refine (Tryd.strings_Split s ⟨#[32]⟩ m _ (by omega) hm (by decide)).mono ?_
  rintro e w1 ⟨rfl, rfl⟩
  rw [hsp.out, hcn.out]
  clear hm
  by_cases h1 : (a.toList == [98, 108, 97, 110, 107]) = true
  · have g1 : Hid True := trivial
    go_wp2_with fail
    refine (number_any c _ hcm).mono ?_
    rintro e w' ⟨rfl, rfl⟩
    cases hnum : numE c.data.toList with
    | none =>
      have hnum' := Lib.hid hnum
      clear hnum
      unfold numV
      go_wp2_with fail
      refine bodyPost_ret (v := .tuple #[.agg #[.string ⟨#[]⟩, .string ⟨#[]⟩, .int .i64 0, .int .i64 0], .bool false]) (by simp [results, Tryd.results20, go_sem]) rfl ⟨?_, ?_⟩
      · rw [readW, if_pos h1, hnum'.out]; rfl
      · exact (((((Below.refl _ w).alloc (Nat.le_refl _) _).alloc (by simp) _).alloc (by simp; omega) _))
    | some n =>
      have hnum' := Lib.hid hnum
      clear hnum
      unfold numV
      go_wp2_with fail
      go_region_with ((go_at_call 13; refine (may_any _ _ _ _ _ hbm hzm).mono ?_; rintro e w2 ⟨rfl, hb2⟩; have hBw2 : Below w.heap.size w w2 := (((((Below.refl _ w).alloc (Nat.le_refl _) _).alloc (by simp) _).alloc (by simp; omega) _)).drew.trans (hb2.mono (by simp; omega)); have hc2 := bfacts hb2; obtain ⟨hcc, hff, hzz⟩ := hc2; simp only [World.size_alloc, World.drew_size] at hcc hff hzz))
      all_goals
        go_wp2_with fail
        refine bodyPost_ret (v := .tuple #[.agg #[.string b, .string ⟨#[]⟩, .int .i64 1, .int .i64 (n : Int)], .bool (End.okB ⟨b, ⟨#[]⟩, 1, (n : Int)⟩)]) ?_ rfl ⟨?_, ?_⟩
      all_goals first
        | (rw [readW, if_pos h1, hnum'.out]; rfl)
        | exact ((((hBw2.setCell (Nat.le_refl _) _).setCell (Nat.le_refl _) _).setCell (Nat.le_refl _) _).setCell (Nat.le_refl _) _)
        | (have p0 : w2.cell? ⟨w.heap.size, 0, none⟩ = some (.string ⟨#[]⟩) := by rw [hcc _ _ (by omega)]; simp [go_sem]
           have p1 : w2.cell? ⟨w.heap.size, 1, none⟩ = some (.string ⟨#[]⟩) := by rw [hcc _ _ (by omega)]; simp [go_sem]
           have p2 : w2.cell? ⟨w.heap.size, 2, none⟩ = some (.int .i64 0) := by rw [hcc _ _ (by omega)]; simp [go_sem]
           have p3 : w2.cell? ⟨w.heap.size, 3, none⟩ = some (.int .i64 0) := by rw [hcc _ _ (by omega)]; simp [go_sem]
           clear hcc hff
           simp [results, Tryd.results20, go_sem, Act.put, p0, p1, p2, p3]; done)
  have h1' : (a.toList == [98, 108, 97, 110, 107]) = false := by simpa using h1
  clear h1
  go_wp2_with fail
  refine bodyPost_ret (v := .tuple #[.agg #[.string ⟨#[]⟩, .string ⟨#[]⟩, .int .i64 0, .int .i64 0], .bool false]) (by simp [results, Tryd.results20, go_sem]) rfl ⟨?_, ?_⟩
  · rw [readW, if_neg (by rw [h1']; simp)]; rfl
  · exact (((Below.refl _ w).alloc (Nat.le_refl _) _).alloc (by simp) _).alloc (by simp; omega) _

end Go.Proofs.YtdgbghgcnkjjeaaDoor

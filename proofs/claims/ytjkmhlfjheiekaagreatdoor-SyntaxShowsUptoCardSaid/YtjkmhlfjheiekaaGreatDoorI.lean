/- The scanner: a text between two signs; a sign. -/
import Derived.Test.YtjkmhlfjheiekaaGreatDoorH
namespace Go.Proofs.YtjkmhlfjheiekaaGreatDoor
open Go Go.RowKit Go.BigFrame Go.Maps

theorem results_row_tmp {P : Program} {fn : Func} {p u : Tmp} {ty : TypeId} (h : fn.results = #[.cell p ty, .tmp u]) (tmps : Array Value) (w : World) (g : Nat) (t : TypeId) (cs : Array Value) (d : TypeDesc)
    (hp : tmps.getD p undef = .pointer (some ⟨g, 0, none⟩)) (hg : Blk w g t cs)
    (hu : P.underlying ty = some d) (hd : (match d with | .struct _ | .array _ _ => true | _ => false) = true) (hi : (P.info? ty).map (·.size) = some cs.size) :
    (results fn tmps).run P w = .ok (.tuple #[.agg cs, tmps.getD u undef]) w := by
  have hp' : tmps[p]?.getD undef = .pointer (some ⟨g, 0, none⟩) := by simpa using hp
  simp [results, h, hp', asAddr, run_loadVar_row w g t ty cs (0, 0) d hg hu hd hi, Result.andThen]
theorem But.blk {z g : Nat} {w w' : World} {t : TypeId} {cs : Array Value} (h : But z w w') (hb : Blk w g t cs) (hg : g ≠ z) : Blk w' g t cs := (h.block g hb.lt hg).trans hb
theorem But.trans {z : Nat} {a b c : World} (h : But z a b) (k : But z b c) : But z a c :=
  ⟨k.os.trans h.os, k.tape.trans h.tape, k.output.trans h.output, Nat.le_trans h.size k.size, fun i hi hn => (k.block i (Nat.lt_of_lt_of_le hi h.size) hn).trans (h.block i hi hn)⟩
theorem But.far {z g : Nat} {w w1 : World} (h : But z w w1) (hg : w.heap.size ≤ g) (o : Nat) (u : Value) : But z w (w1.setCell ⟨g, o, none⟩ u) := by
  have hb : Below w.heap.size w1 (w1.setCell ⟨g, o, none⟩ u) := (Below.refl _ _).setCell hg u
  exact ⟨hb.os.trans h.os, hb.tape.trans h.tape, hb.output.trans h.output, Nat.le_trans h.size hb.size, fun k hk hn => (hb.block k hk).trans (h.block k hk hn)⟩

/-- The scanner stands at a place of a text. -/
abbrev ScanAt (w : World) (sb : Nat) (s : ByteArray) (k : Nat) : Prop := Blk w sb 105 #[.string s, .int .i64 k]
def noTok : Array Value := #[.int .i64 0, .int .i64 0, .string ⟨#[]⟩]
def tokC (kd : Int) (k : Nat) (t : ByteArray) : Array Value := #[.int .i64 kd, .int .i64 k, .string t]

set_option maxRecDepth 100000 in
set_option maxHeartbeats 1600000 in
theorem quoted_any (s : ByteArray) (k sb : Nat) (w : World) (hk : k < s.size) (hs : s.size ≤ maxLen) (hb : Hid (ScanAt w sb s k)) :
    Calls Tryz.prog 111 #[.pointer (some ⟨sb, 0, none⟩), .int .i64 k] w fun e w' => ∃ j, endP plainB s (k + 1) = j ∧ But sb w w' ∧
      ((∃ h : j < s.size, s[j] = 34 ∧ e = .returned (.tuple #[.agg (tokC 3 k (s.extract (k + 1) j)), .int .i64 0]) ∧ ScanAt w' sb s (j + 1)) ∨
       ((∀ h : j < s.size, s[j] ≠ 34) ∧ e = .returned (.tuple #[.agg noTok, .int .i64 2]))) := by
  have hs' := Lib.hid hs
  unfold maxLen at hs
  have hsb := hb.out.lt
  have c1 : w.cell? ⟨sb, 1, none⟩ = some (.int .i64 k) := hb.out.cell 1
  have y1 := hb.out.frozen 1
  have w1 : IntKind.i64.wrap ((k : Int) + 1) = (k : Int) + 1 := IntWalk.i64_in _ (by omega)
  obtain ⟨wa, hwa⟩ : ∃ wa, Hid (w.setCell ⟨sb, 1, none⟩ (.int .i64 ((k : Int) + 1)) = wa) := ⟨_, Lib.hid rfl⟩
  have hba : Hid (ScanAt wa sb s (k + 1)) := by unfold Hid; rw [← hwa.out]; exact hb.out.set_ 1 (.int .i64 ((k : Int) + 1))
  have hua : Hid (But sb w wa) := by unfold Hid; rw [← hwa.out]; exact (But.refl sb w).setCell 1 _
  have hsz : Hid (wa.heap.size = w.heap.size) := by unfold Hid; rw [← hwa.out]; simp
  go_enter Tryz.func111, Tryz.ntmps111
  go_wp2_with fail
  rw [hwa.out]
  have hrun := run145_any s (k + 1) sb (wa.alloc (.cells #[.int .i64 0, .int .i64 0, .string ⟨#[]⟩] 89)) (by omega) hs'.out (hba.out.alloc _)
  refine hrun.mono ?_
  rintro e w2 ⟨rfl, hu2, hb2⟩
  have hB2 : Hid (But sb w w2) := (hua.out.below ((Below.refl _ wa).alloc (Nat.le_refl _) (.cells #[.int .i64 0, .int .i64 0, .string ⟨#[]⟩] 89))).trans hu2
  have hr2 : Hid (Blk w2 w.heap.size 89 #[.int .i64 0, .int .i64 0, .string ⟨#[]⟩]) := hu2.blk (by have := Blk.new wa 89 #[.int .i64 0, .int .i64 0, .string ⟨#[]⟩]; rwa [hsz.out] at this) (by omega)
  obtain ⟨j, hj⟩ : ∃ j, Hid (endP plainB s (k + 1) = j) := ⟨_, Lib.hid rfl⟩
  have hjle : j ≤ s.size := by rw [← hj.out]; exact end_le (by omega)
  have hjk : k + 1 ≤ j := by rw [← hj.out]; exact end_ge _ _ _
  rw [hj.out] at hb2
  try rw [hj.out]
  have hb2' := Lib.hid hb2
  clear c1 y1 hrun hu2 hb2
  have d0 : w2.cell? ⟨sb, 0, none⟩ = some (.string s) := hb2'.out.cell 0
  have d1 : w2.cell? ⟨sb, 1, none⟩ = some (.int .i64 j) := hb2'.out.cell 1
  have y1 := hb2'.out.frozen 1
  have r0 : w2.cell? ⟨w.heap.size, 0, none⟩ = some (.int .i64 0) := hr2.out.cell 0
  have r1 : w2.cell? ⟨w.heap.size, 1, none⟩ = some (.int .i64 0) := hr2.out.cell 1
  have r2 : w2.cell? ⟨w.heap.size, 2, none⟩ = some (.string ⟨#[]⟩) := hr2.out.cell 2
  have f0 := hr2.out.frozen 0
  have f1 := hr2.out.frozen 1
  have f2 := hr2.out.frozen 2
  by_cases hlt : j < s.size
  · have i1 : (j : Int) < (s.size : Int) := by omega
    have i2 : (0 : Int) ≤ (j : Int) := by omega
    have b1 : decide ((s.size : Int) ≤ (j : Int)) = false := by simp; omega
    by_cases hc : s[j] = 34
    · have b2 : ((s[j].toNat : Int) != 34) = false := by rw [hc]; rfl
      have w2' : IntKind.i64.wrap ((j : Int) + 1) = (j : Int) + 1 := IntWalk.i64_in _ (by omega)
      go_wp2_with fail
      go_quiet (fail)
      go_wp2_with fail
      have hd := Lib.hid (hb2'.out.below (below_drewN (Below.refl _ _) nq) hb2'.out.lt)
      have hq := Lib.hid (hr2.out.below (below_drewN (Below.refl _ _) nq) hr2.out.lt)
      refine bodyPost_ret (results_row_tmp rfl _ _ w.heap.size 89 _ _ rfl ((((hq.out.far (by simp; omega) _).set_ 0 _).set_ 1 _).set_ 2 _) Tryz.underlying89 rfl (by kernel_rfl)) rfl ?_
      have hne : sb ≠ w.heap.size := by omega
      refine ⟨j, hj.out, ((((hB2.out.below (below_drewN (Below.refl _ _) _)).setCell _ _).far (Nat.le_refl _) _ _).far (Nat.le_refl _) _ _).far (Nat.le_refl _) _ _, .inl ⟨hlt, hc, rfl, ?_⟩⟩
      exact (((hd.out.set_ 1 (.int .i64 ((j : Int) + 1))).far (p := ⟨w.heap.size, 0, none⟩) hne _).far (p := ⟨w.heap.size, 1, none⟩) hne _).far (p := ⟨w.heap.size, 2, none⟩) hne _
    · have b2 : ((s[j].toNat : Int) != 34) = true := by
        simp only [bne_iff_ne, ne_eq]; intro h; exact hc (UInt8.toNat_inj.1 (by simpa using (by omega : s[j].toNat = 34)))
      go_wp2_with fail
      go_quiet (fail)
      go_wp2_with fail
      have hq := Lib.hid (hr2.out.below (below_drewN (Below.refl _ _) nq) hr2.out.lt)
      refine bodyPost_ret (results_row_tmp rfl _ _ w.heap.size 89 _ _ rfl (((hq.out.set_ 0 _).set_ 1 _).set_ 2 _) Tryz.underlying89 rfl (by kernel_rfl)) rfl ?_
      exact ⟨j, hj.out, (((hB2.out.below (below_drewN (Below.refl _ _) _)).far (Nat.le_refl _) _ _).far (Nat.le_refl _) _ _).far (Nat.le_refl _) _ _, .inr ⟨fun _ => hc, rfl⟩⟩
  · have b1 : decide ((s.size : Int) ≤ (j : Int)) = true := by simp; omega
    go_wp2_with fail
    go_quiet (fail)
    go_wp2_with fail
    have hq := Lib.hid (hr2.out.below (below_drewN (Below.refl _ _) nq) hr2.out.lt)
    refine bodyPost_ret (results_row_tmp rfl _ _ w.heap.size 89 _ _ rfl (((hq.out.set_ 0 _).set_ 1 _).set_ 2 _) Tryz.underlying89 rfl (by kernel_rfl)) rfl ?_
    exact ⟨j, hj.out, (((hB2.out.below (below_drewN (Below.refl _ _) _)).far (Nat.le_refl _) _ _).far (Nat.le_refl _) _ _).far (Nat.le_refl _) _ _, .inr ⟨fun h => absurd h hlt, rfl⟩⟩
end Go.Proofs.YtjkmhlfjheiekaaGreatDoor

/- The walk of the law EndorseMay. -/
import Derived.Test.YtdgbghgcnkjjeaaApp
namespace Go.Proofs.Ytdgbghgcnkjjeaa
open Go.RowKit Go.BigFrame

theorem ends_snoc {w : World} {B m : Nat} {v : Value} {l : List End} {x : End} (h : w.ownsRow B 30 4 v (m + 1) (cellsOf l ++ x.cells)) (hl : l.length = m) (hs : Small l) (hf : x.frm.size ≤ maxLen) (ht : x.to.size ≤ maxLen) :
    ∃ A' c', v = .slice A' (m + 1) c' ∧ m + 1 ≤ c' ∧ EndsAt w A' (l ++ [x]) := by
  refine own_ends (by simpa [cellsOf] using h) (by simp [hl]) (fun y hy => ?_)
  rcases List.mem_append.1 hy with hy | hy
  · exact hs y hy
  · obtain rfl : y = x := by simpa using hy
    exact ⟨hf, ht⟩

set_option maxRecDepth 100000 in
set_option maxHeartbeats 1600000 in
theorem may_law (first who tgt : ByteArray) (A : Option Addr) (n c : Nat) (l : List End) (w : World) (hf : first.size ≤ maxLen) (hwho : who.size ≤ maxLen) (hto : tgt.size ≤ maxLen) (hn : n ≤ maxLen) (hnc : n ≤ c) (hl : Hid (l.length = n)) (hA : Hid (EndsAt w A l)) :
    Calls Try.prog 5 #[.string first, .string who, .string tgt, .slice A n c] w fun e w' => e = .returned (.bool true) ∧ Below w.heap.size w w' := by
  have hn' := hn
  unfold maxLen at hn'
  go_enter Try.func5, Try.ntmps5
  go_wp2_with fail
  refine (awake_any _).mono ?_
  rintro e w1 ⟨rfl, hb1⟩
  have hA1 : Hid (EndsAt w1 A l) := hA.out.below hb1
  go_wp2_with fail
  refine (big_any _ _ _ _ l _ hn hl hA1).mono ?_
  rintro e w' ⟨rfl, rfl⟩
  by_cases hbig : bigB l 30 = true
  · go_wp2_with fail
    go_ret
    exact ⟨rfl, hb1⟩
  have hbig' : bigB l 30 = false := by simpa using hbig
  have hn30 : n ≤ 30 := by have := big_few hbig'; rw [hl.out] at this; omega
  clear hbig
  by_cases h100 : first.size ≤ 100 ∧ who.size ≤ 100 ∧ tgt.size ≤ 100
  case neg =>
    go_wp2_with fail
    all_goals first
      | (go_ret; exact ⟨rfl, hb1⟩)
      | omega
  obtain ⟨hf1, hf2, hf3⟩ := h100
  go_wp2_with fail
  refine (mayE_any _ _ _ _ _ l _ hf hwho hn hnc hl hA1).mono ?_
  rintro e w2 ⟨rfl, hb2⟩
  have hB2 : Below w.heap.size w w2 := hb1.trans (hb2.mono hb1.size)
  have hA2 : Hid (EndsAt w2 A l) := hA1.out.below hb2
  go_wp2_with fail
  refine (mayR_any _ _ _ _ _ l _ hf hwho hn hl hA2).mono ?_
  rintro e w3 ⟨rfl, hb3⟩
  have hB3 : Below w.heap.size w w3 := hB2.trans (hb3.mono hB2.size)
  have hA3 : Hid (EndsAt w3 A l) := hA2.out.below hb3
  rw [may_eq]
  by_cases hnt : nameB tgt.data.toList = true
  case neg =>
    have hnt' : nameB tgt.data.toList = false := by simpa using hnt
    go_wp2_with (go_at_call 17; refine (refName_any _ _ (by assumption)).mono ?_; rintro e w' ⟨rfl, rfl⟩)
    go_ret
    exact ⟨rfl, hB3⟩
  by_cases hne : (tgt.toList == who.toList) = true
  case pos =>
    go_wp2_with (go_at_call 17; refine (refName_any _ _ (by assumption)).mono ?_; rintro e w' ⟨rfl, rfl⟩)
    go_ret
    exact ⟨rfl, hB3⟩
  have hne' : (tgt.toList == who.toList) = false := by simpa using hne
  clear hne
  by_cases hnw : nameB who.data.toList = true
  case neg =>
    have hnw' : nameB who.data.toList = false := by simpa using hnw
    go_wp2_with (go_at_call 17; refine (refName_any _ _ (by assumption)).mono ?_; rintro e w' ⟨rfl, rfl⟩)
    go_ret
    exact ⟨rfl, hB3⟩
  go_upto_region 11 with (go_at_call 17; refine (refName_any _ _ (by assumption)).mono ?_; rintro e w' ⟨rfl, rfl⟩)
  go_cut [11, 12, 13] (fun s1 s2 s3 wx => ∃ r, Hid (r = checkE first (l ++ [giveOn who tgt])) ∧ s1 = .string r.1 ∧ s2 = .int .i64 r.2.1 ∧ s3 = .int .i64 r.2.2 ∧ Below w.heap.size w wx)
  case first =>
    obtain ⟨i0, hi, hz0, hz1, hz2⟩ := info_parts Try.info30
    have hR0 : Reads (w3.alloc (.cells #[.string who, .string tgt, .int .i64 0, .int .i64 1048576] 30)) w3.heap.size 4 A n (cellsOf l) := by
      have := hA3.out.reads
      rw [hl.out] at this
      exact this.alloc (Nat.le_refl _) _
    have hX0 : Blk (w3.alloc (.cells #[.string who, .string tgt, .int .i64 0, .int .i64 1048576] 30)) w3.heap.size 30 #[.string who, .string tgt, .int .i64 0, .int .i64 1048576] := Blk.new _ _ _
    have hB0 : Below w.heap.size w (w3.alloc (.cells #[.string who, .string tgt, .int .i64 0, .int .i64 1048576] 30)) := hB3.alloc hB3.size _
    have hz0' : (w3.alloc (.cells #[.string who, .string tgt, .int .i64 0, .int .i64 1048576] 30)).heap.size = w3.heap.size + 1 := by simp
    obtain ⟨W0, hW0⟩ : ∃ W0, W0 = w3.alloc (.cells #[.string who, .string tgt, .int .i64 0, .int .i64 1048576] 30) := ⟨_, rfl⟩
    rw [← hW0] at hR0 hX0 hB0 hz0' ⊢
    clear hW0
    have hc0 : W0.cell? ⟨w3.heap.size, 0, none⟩ = some (.string who) := hX0.cell 0
    have hc1 : W0.cell? ⟨w3.heap.size, 1, none⟩ = some (.string tgt) := hX0.cell 1
    have hc2 : W0.cell? ⟨w3.heap.size, 2, none⟩ = some (.int .i64 0) := hX0.cell 2
    have hc3 : W0.cell? ⟨w3.heap.size, 3, none⟩ = some (.int .i64 1048576) := hX0.cell 3
    have hzz := Lib.hid hz0'
    clear hz0'
    have hR1 : Reads W0 W0.heap.size 4 A n (cellsOf l) := hR0.more (by have := hzz.out; omega)
    have hsm : Hid (Small l) := hA.out.small
    have hn2 : (n + 1) * 48 ≤ 140737488355328 := by omega
    have hn3 : n + 1 ≤ maxLen := by unfold maxLen; omega
    have hn4 : n * 48 ≤ 140737488355328 := by omega
    have hBW : w.heap.size ≤ W0.heap.size := hB0.size
    have hlt0 : w3.heap.size < W0.heap.size := by have := hzz.out; omega
    have hone : ∀ u ∈ (#[Value.string who, .string tgt, .int .i64 0, .int .i64 1048576] : Array Value).toList, u.oneCell' = true := cellsOf_one [giveOn who tgt]
    go_region_law (first
      | (refine step_app1 W0.heap.size rfl _ _ 22 rfl 30 i0 _ 4 48 Try.underlying22 hi hz0 hz1 hz2 rfl (by decide) _ rfl A n c (cellsOf l) rfl
          (by first | exact Blk.new W0 30 #[] | exact (Blk.new W0 30 #[]).alloc _ | exact blk_second W0 _ 30 #[]) (by omega)
          (by first | exact hR1.alloc (Nat.le_refl _) _ | exact (hR1.alloc (Nat.le_refl _) _).alloc (by simp) _) (cellsOf_one _) hn hn4 (by simp; try omega) ?_
         intro v1 w4 ho1 hk1 hb4
         have hB4 : Below W0.heap.size W0 w4 := by first | exact ((Below.refl _ W0).alloc (Nat.le_refl _) _).drew.trans hb4 | exact (((Below.refl _ W0).alloc (Nat.le_refl _) _).alloc (by simp) _).drew.trans hb4
         have hz4 := hB4.size
         have hX4 := hX0.below hB4 (by have := hzz.out; omega)
         have hd0 : w4.cell? ⟨w3.heap.size, 0, none⟩ = some (.string who) := hX4.cell 0
         have hd1 : w4.cell? ⟨w3.heap.size, 1, none⟩ = some (.string tgt) := hX4.cell 1
         have hd2 : w4.cell? ⟨w3.heap.size, 2, none⟩ = some (.int .i64 0) := hX4.cell 2
         have hd3 : w4.cell? ⟨w3.heap.size, 3, none⟩ = some (.int .i64 1048576) := hX4.cell 3
         clear hX4)
      | (go_simp; go_at_call 9
         refine (check_any _ _ _ _ (l ++ [giveOn who tgt]) _ hf hn3 hnc' (by simp [Hid, hl.out]) hE5).mono ?_
         rintro e w6 ⟨rfl, hb6⟩
         have hB6 : Below w.heap.size w w6 := hB0.trans ((hB5.trans (hb6.mono hB5.size)).mono hBW)
         unfold tri)
      | (refine step_app2 W0.heap.size rfl _ _ 22 rfl 30 i0 _ 4 48 Try.underlying22 hi hz0 hz1 hz2 rfl (by decide) _ n (cellsOf l) rfl _ 1 #[.string who, .string tgt, .int .i64 0, .int .i64 1048576] rfl
          (by first | exact ho1 | exact ho1.alloc _) (by first | exact Blk.new w4 30 _ | exact (hk1 _ _ (blk_second W0 _ 30 _) (by simp)).1 | exact (hk1 _ _ ((Blk.new W0 30 _).alloc _) (by simp)).1) rfl hone hn3 hn2 (by first | exact hz4 | (simp; omega)) ?_
         intro v2 w5 ho2 hb5
         have hB5 : Below W0.heap.size W0 w5 := by first | exact hB4.trans hb5 | exact (hB4.alloc hz4 _).trans hb5
         obtain ⟨A', c', rfl, hnc', hE'⟩ := ends_snoc (x := giveOn who tgt) ho2 hl.out hsm.out hwho hto
         have hE5 := Lib.hid hE'
         clear hE'))
    all_goals (go_wp2_with fail; go_meet; exact ⟨checkE first (l ++ [giveOn who tgt]), rfl, rfl, rfl, rfl, hB6⟩)
  case rest =>
    obtain ⟨r, hr, rfl, rfl, rfl, hB⟩ := hcut
    by_cases hmay : mayE first who l = true
    · have hq := may_yes hnw hnt hne' hmay
      rw [← hr.out] at hq
      subst hq
      clear hr
      have hn5 : ((l.length + 1 : Nat) : Int) = (n : Int) + 1 := by rw [hl.out]; omega
      rw [hn5]
      clear hn5
      go_wp2_with fail
      · go_ret
        exact ⟨retB (by simp), hB⟩
      · exact absurd (hmay.symm.trans ‹mayE first who l = false›) (by simp)
    · have hmay' : mayE first who l = false := by simpa using hmay
      have hq := Lib.hid (may_no (tgt := tgt) hnw hmay')
      rw [← hr.out] at hq
      clear hr
      go_wp2_with fail
      all_goals (go_ret; refine ⟨retB ?_, hB⟩; obtain ⟨q1, q2, q3⟩ := hq.out; rw [hl.out] at q3; go_light; simp_all; try omega)

end Go.Proofs.Ytdgbghgcnkjjeaa

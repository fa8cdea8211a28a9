/- The walk of the law ExamineFaults. -/
import Derived.Test.YtbpngfppddigjaaGreatDoorFv
import Derived.Test.YtbpngfppddigjaaGreatDoorZg
namespace Go.Proofs.YtbpngfppddigjaaGreatDoor
open Go Go.RowKit Go.BigFrame Go.Maps

theorem sameB_refl : ∀ l : List Flt, sameB l l = true
  | [] => rfl
  | x :: l => by rw [sameB, eqF_iff.2 rfl, sameB_refl l]; rfl
theorem exam_len {c : Crd} {needs : List Nd} {docs : List Pap} {day : Int} (hF : FewParts needs) (hn : docs.length ≤ 13) : (examF c needs docs day).length ≤ 20000 := by
  have h1 := addAll_len (toldE c needs docs day) []
  have h2 := docs_len (c := c) (docs := docs) (day := day) hF docs.length
  have h3 := flat_le _ (lackF_le docs) needs
  have h4 : (expF c day).length ≤ 1 := by unfold expF; split <;> simp
  have h5 := hF.1
  unfold toldE at h1
  simp only [List.length_append, List.length_nil] at h1
  unfold examF toldE
  omega

set_option maxRecDepth 100000 in
set_option maxHeartbeats 6400000 in
theorem faults_law (w : World) (c : Crd) (hO : Hid c.okC) (nA : Option Addr) (nl nc : Nat) (needs : List Nd) (hnl : Hid (needs.length = nl)) (hml : nl ≤ maxLen) (hN : Hid (NdsAt w nA needs)) (A : Option Addr) (nn cc : Nat) (docs : List Pap) (hnn : Hid (docs.length = nn)) (hmn : nn ≤ maxLen) (hD : Hid (DocsAt w A docs)) (hLD : Hid (LongD docs)) (day : Int) (he : Hid (Env w)) :
    Calls Tryz.prog 3 #[.agg (c.cells (.slice nA nl nc)), .slice A nn cc, .int .i64 day] w fun e w' => e = .returned (.bool true) ∧ Below w.heap.size w w' := by
  have hmn' := Lib.hid hmn
  have hml' := Lib.hid hml
  clear hmn hml
  have hex0 := Lib.hid (fun hdy W => examine_any c hO nA nl nc needs hnl A nn cc docs day hdy W)
  have hrx0 := Lib.hid (fun hdy W => rexam_any c hO nA nl nc needs hnl A nn cc docs day hdy W)
  have hCz : Hid ((c.cells (.slice nA nl nc)).size = 18) := rfl
  have hC17 : Hid ((c.cells (.slice nA nl nc))[17]? = some (.slice nA nl nc)) := rfl
  obtain ⟨C, hC⟩ : ∃ C, Hid (c.cells (.slice nA nl nc) = C) := ⟨_, rfl⟩
  rw [hC.out] at hex0 hrx0 hCz hC17 ⊢
  have hsz : Hid ((Tryz.prog.info? 26).map (·.size) = some C.size) := by unfold Hid; rw [hCz.out]; kernel_rfl
  have hb0 := Lib.hid ((Below.refl _ w).alloc (Nat.le_refl _) (.cells C 26))
  have hbk0 := Lib.hid (Blk.new w 26 C)
  go_enter Tryz.func3, Tryz.ntmps3
  go_wp2_with fail
  refine (awake_any _ (he.out.below hb0.out)).mono ?_
  rintro e w1 ⟨rfl, hb1⟩
  have hB1 : Hid (Below w.heap.size w w1) := hb0.out.trans (hb1.mono (by simp))
  have hbk1 := Lib.hid (hbk0.out.below hb1 hbk0.out.lt)
  clear hb1
  go_wp2_with (refine wpList_load_blk rfl 26 (.tmp 3) rfl w.heap.size C 26 _ rfl hbk1.out Tryz.underlying26 rfl hsz.out ?_)
  refine (few_any C nA nl nc needs A nn cc docs w1 hCz hC17.out hnl hnn hml'.out hmn'.out (hN.out.below hB1.out) (hD.out.below hB1.out) hLD).mono ?_
  rintro e w2 ⟨rfl, hb2⟩
  have hB2 : Hid (Below w.heap.size w w2) := hB1.out.trans (hb2.mono hB1.out.size)
  have hbk2 := Lib.hid (hbk1.out.below hb2 hbk1.out.lt)
  clear hb2
  obtain ⟨fb, hfb⟩ : ∃ fb, Hid (fewB needs docs = fb) := ⟨_, rfl⟩
  rw [hfb.out]
  cases fb with
  | false =>
    go_wp2_with fail
    go_ret
    exact ⟨rfl, hB2.out⟩
  | true =>
    obtain ⟨_, hn12, hsd, hsx⟩ := few_docs hfb.out
    have hF := Lib.hid (few_parts hfb.out)
    have hSm : Hid (∀ x ∈ needs, SmallT x.rule) := fun x hx => small_of_size (hsx x hx)
    have hsd' := Lib.hid hsd
    have hn12' : nn ≤ 12 := by have := hnn.out; omega
    have hR2 : Hid (∀ W, Below w2.heap.size w2 W → Room W A nn docs) := fun W hW =>
      have hBW := hB2.out.trans (hW.mono hB2.out.size)
      ⟨hnn.out, by omega, hD.out.below hBW, he.out.below hBW, hsd'.out⟩
    have hN2 : Hid (∀ W, Below w2.heap.size w2 W → NdsAt W nA needs) := fun W hW => hN.out.below (hB2.out.trans (hW.mono hB2.out.size))
    clear hsd hn12 hsx
    by_cases hr0 : day < -1073741824
    · have b1 : decide (day < -1073741824) = true := by simp [hr0]
      clear hr0
      go_wp2_with fail
      go_ret
      exact ⟨rfl, hB2.out⟩
    · have b1 : decide (day < -1073741824) = false := by simp; omega
      by_cases hr1 : 1073741824 < day
      · have b2 : decide (1073741824 < day) = true := by simp [hr1]
        clear hr0 hr1
        go_wp2_with fail
        go_ret
        exact ⟨rfl, hB2.out⟩
      · have b2 : decide (1073741824 < day) = false := by simp; omega
        have hday : -1073741824 ≤ day ∧ day ≤ 1073741824 := ⟨by omega, by omega⟩
        have hdayw : Hid (-9223372036854775808 ≤ day ∧ day ≤ 9223372036854775807) := by unfold Hid; omega
        have hrx := Lib.hid (hrx0.out hday)
        have hex := Lib.hid (hex0.out hdayw)
        clear hr0 hr1 hday
        obtain ⟨L, hL⟩ : ∃ L, Hid (examF c needs docs day = L) := ⟨_, rfl⟩
        have hLl : L.length ≤ 20000 := by rw [← hL.out]; exact exam_len hF.out (by have := hnn.out; omega)
        have hLl' := Lib.hid hLl
        clear hLl
        rw [hL.out] at hrx hex
        go_wp2_with (refine wpList_load_blk rfl 26 (.tmp 3) rfl w.heap.size C 26 _ rfl hbk2.out Tryz.underlying26 rfl hsz.out ?_)
        refine (hrx.out w2 (hN2.out _ (Below.refl _ _)) hF hSm (hR2.out _ (Below.refl _ _)) hn12').mono ?_
        rintro e w3 ⟨v3, rfl, ho3, hb3⟩
        obtain ⟨A3, c3, rfl, _, hF3⟩ := own_faults ho3 rfl
        have hbk3 := Lib.hid (hbk2.out.below hb3 hbk2.out.lt)
        have hb3' := Lib.hid hb3
        have hF3' := Lib.hid hF3
        clear ho3 hF3 hb3
        go_wp2_with (refine wpList_load_blk rfl 26 (.tmp 3) rfl w.heap.size C 26 _ rfl hbk3.out Tryz.underlying26 rfl hsz.out ?_)
        refine (hex.out w3 (hN2.out _ hb3'.out) hF (hR2.out _ hb3'.out) hn12').mono ?_
        rintro e w4 ⟨A4, c4, rfl, hF4, hb4⟩
        have hb4' : Hid (Below w2.heap.size w2 w4) := hb3'.out.trans (hb4.mono hb3'.out.size)
        have hbk4 := Lib.hid (hbk3.out.below hb4 hbk3.out.lt)
        have hF34 := Lib.hid (hF3'.out.below hb4)
        have hF4' := Lib.hid hF4
        clear hF4 hb4
        go_wp2_with fail
        refine (same_any A4 A3 L.length c4 L.length c3 L L w4 (by have := hLl'.out; unfold maxLen; omega) (by have := hLl'.out; unfold maxLen; omega) rfl rfl hF4' hF34).mono ?_
        rintro e w5 ⟨rfl, hb5⟩
        rw [sameB_refl]
        have hb5' : Hid (Below w2.heap.size w2 w5) := hb4'.out.trans (hb5.mono hb4'.out.size)
        have hbk5 := Lib.hid (hbk4.out.below hb5 hbk4.out.lt)
        clear hb5
        have hfine : Calls Tryz.prog 9 #[.agg C, .slice A nn cc, .int .i64 day] w5 fun e w' => e = .returned (.bool (decide (L.length = 0))) ∧ Below w5.heap.size w5 w' := by
          have hbk6 := Lib.hid (Blk.new w5 26 C)
          have hbA := Lib.hid ((Below.refl _ w5).alloc (Nat.le_refl _) (.cells C 26))
          go_enter Tryz.func9, Tryz.ntmps9
          go_wp2_with (refine wpList_load_blk rfl 26 (.tmp 3) rfl w5.heap.size C 26 _ rfl hbk6.out Tryz.underlying26 rfl hsz.out ?_)
          refine (hex.out _ (hN2.out _ (hb5'.out.trans (hbA.out.mono hb5'.out.size))) hF (hR2.out _ (hb5'.out.trans (hbA.out.mono hb5'.out.size))) hn12').mono ?_
          rintro e w6 ⟨A6, c6, rfl, _, hb6⟩
          have hB6 : Below w5.heap.size w5 w6 := hbA.out.trans (hb6.mono (by simp))
          clear hb6
          go_wp2_with fail
          go_ret
          exact ⟨retBl (by rw [Bool.eq_iff_iff]; simp), hB6⟩
        have hfine' := Lib.hid hfine
        clear hfine
        go_wp2_with (refine wpList_load_blkg rfl 26 (.tmp 3) rfl w.heap.size C 26 _ rfl hbk5.out Tryz.underlying26 rfl hsz.out ?_)
        refine hfine'.out.mono ?_
        rintro e w6 ⟨rfl, hb6⟩
        have hB6 : Hid (Below w.heap.size w w6) := hB2.out.trans ((hb5'.out.trans (hb6.mono hb5'.out.size)).mono hB2.out.size)
        clear hb6
        obtain ⟨m, hm⟩ : ∃ m, Hid (L.length = m) := ⟨_, rfl⟩
        rw [hm.out]
        cases m with
        | zero =>
          go_wp2_with fail
          go_ret
          exact ⟨rfl, hB6.out⟩
        | succ k =>
          have z1 : decide (k + 1 = 0) = false := by simp
          have z2 : (((k + 1 : Nat) : Int) == 0) = false := by simp; omega
          rw [z1]
          go_wp2_with fail
          go_ret
          refine ⟨?_, hB6.out⟩
          simp
          omega
end Go.Proofs.YtbpngfppddigjaaGreatDoor

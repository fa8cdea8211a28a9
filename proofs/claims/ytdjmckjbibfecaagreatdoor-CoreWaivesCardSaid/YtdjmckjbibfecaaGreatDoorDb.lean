/- Needed, the document's Needed, few, Fine, walked. -/
import Derived.Test.YtdjmckjbibfecaaGreatDoorDa
import Derived.Test.YtdjmckjbibfecaaGreatDoorFb
namespace Go.Proofs.YtdjmckjbibfecaaGreatDoor
open Go Go.RowKit Go.BigFrame Go.Maps

/-- What the examining of papers tells, wherever it is called. -/
structure ExamC (w : World) (C : Array Value) (A : Option Addr) (nn cc : Nat) (day : Int) (L : List Flt) : Prop where
  prog : ∀ W, Below w.heap.size w W → Calls Tryz.prog 21 #[.agg C, .slice A nn cc, .int .i64 day] W (FaultedC W L)
  size : (Tryz.prog.info? 46).map (·.size) = some C.size
  len : L.length ≤ 20000
  fits : ∀ x ∈ L, x.fits
theorem ExamC.at_ {w w' : World} {C : Array Value} {A : Option Addr} {nn cc : Nat} {day : Int} {L : List Flt} (h : ExamC w C A nn cc day L) (hb : Below w.heap.size w w') : ExamC w' C A nn cc day L :=
  ⟨fun W hW => h.prog W (hb.trans (hW.mono hb.size)), h.size, h.len, h.fits⟩
set_option maxRecDepth 100000 in
set_option maxHeartbeats 3200000 in
theorem needed_any (w : World) (C : Array Value) (A : Option Addr) (nn cc : Nat) (day : Int) (L : List Flt) (hX : Hid (ExamC w C A nn cc day L)) (lA : Option Addr) (n c : Nat) (l : List Flt) (hl : Hid (l.length = n)) (hn : n ≤ 100000) (hlA : Hid (FaultsAt w lA l)) (hfl : Hid (∀ x ∈ l, x.fits)) :
    Calls Tryz.prog 22 #[.agg C, .slice A nn cc, .int .i64 day, .slice lA n c] w fun e w' => e = .returned (.bool (neededM L l)) ∧ Below w.heap.size w w' := by
  have hsz := Lib.hid hX.out.size
  obtain ⟨w1, hw1⟩ : ∃ X, Hid (w.alloc (.cells C 46) = X) := ⟨_, rfl⟩
  have hb1 : Hid (Below w.heap.size w w1) := by rw [← hw1.out]; exact (Below.refl _ w).alloc (Nat.le_refl _) _
  have hbk : Hid (Blk w1 w.heap.size 46 C) := by rw [← hw1.out]; exact Lib.hid (Blk.new _ _ _)
  have hex := Lib.hid (hX.out.prog w1 hb1.out)
  have hLl := hX.out.len
  have hLf := Lib.hid hX.out.fits
  obtain ⟨N, hN⟩ : ∃ b, Hid (neededM L l = b) := ⟨_, rfl⟩
  obtain ⟨K, hK⟩ : ∃ k, L.length = k := ⟨_, rfl⟩
  have hK' := Lib.hid hK
  rw [hN.out]
  rw [hK] at hLl
  clear hK
  go_enter Tryz.func22, Tryz.ntmps22
  go_wp2_with (first | rw [hw1.out] | (refine wpList_load_blk rfl 46 (.tmp 4) rfl w.heap.size C 46 _ rfl hbk.out Tryz.underlying46 rfl hsz.out ?_))
  refine hex.out.mono ?_
  rintro e w2 ⟨A2, c2, rfl, _, hF2, hb2⟩
  rw [hK'.out]
  have hB2 : Hid (Below w.heap.size w w2) := hb1.out.trans (hb2.mono hb1.out.size)
  have hF2' := Lib.hid hF2
  clear hF2 hb2 hex
  by_cases hne : n = K
  · subst hne
    have e2 : decide (n = n) = true := by simp
    have hwv := Lib.hid (waive_any A2 lA n c2 n c L l w2 hK' hl (by omega) hn hF2' (Lib.hid (hlA.out.below hB2.out)) hLf hfl)
    have hNe : Hid (N = decide ((waiveM L l).length = 0)) := by
      unfold Hid
      rw [← hN.out, neededM, hl.out, hK'.out, e2, Bool.true_and]
    obtain ⟨M, hM⟩ : ∃ M, Hid (waiveM L l = M) := ⟨_, rfl⟩
    rw [hM.out] at hwv hNe
    obtain ⟨r, hr⟩ : ∃ r, Hid (M.length = r) := ⟨_, rfl⟩
    rw [hr.out] at hwv hNe
    go_wp2_with fail
    refine hwv.out.mono ?_
    rintro e w3 ⟨v3, rfl, ho3, hb3⟩
    obtain ⟨A3, c3, rfl⟩ := own_form ho3
    have hB3 : Hid (Below w.heap.size w w3) := hB2.out.trans (hb3.mono hB2.out.size)
    clear ho3 hb3
    go_wp2_with fail
    go_ret
    exact ⟨retBl (by rw [hNe.out, Bool.eq_iff_iff]; simp), hB3.out⟩
  · have e1 : ((n : Int) == (K : Int)) = false := by simp; omega
    have e2 : decide (n = K) = false := by simp [hne]
    have hNe : Hid (N = false) := by
      unfold Hid
      rw [← hN.out, neededM, hl.out, hK'.out, e2, Bool.false_and]
    go_wp2_with fail
    go_ret
    exact ⟨by rw [hNe.out]; rfl, hB2.out⟩
set_option maxRecDepth 100000 in
set_option maxHeartbeats 3200000 in
theorem rneeded_any (w : World) (C : Array Value) (A : Option Addr) (nn cc : Nat) (day : Int) (L : List Flt) (hX : Hid (ExamC w C A nn cc day L))
    (hrx : Hid (∀ W, Below w.heap.size w W → Calls Tryz.prog 61 #[.agg C, .slice A nn cc, .int .i64 day] W fun e w' => ∃ v, e = .returned v ∧ w'.ownsRow W.heap.size 54 4 v L.length (fcells L) ∧ Below W.heap.size W w'))
    (lA : Option Addr) (n c : Nat) (l : List Flt) (hl : Hid (l.length = n)) (hn : n ≤ 100000) (hlA : Hid (FaultsAt w lA l)) :
    Calls Tryz.prog 26 #[.agg C, .slice A nn cc, .int .i64 day, .slice lA n c] w fun e w' => e = .returned (.bool (neededM L l)) ∧ Below w.heap.size w w' := by
  have hsz := Lib.hid hX.out.size
  obtain ⟨w1, hw1⟩ : ∃ X, Hid (w.alloc (.cells C 46) = X) := ⟨_, rfl⟩
  have hb1 : Hid (Below w.heap.size w w1) := by rw [← hw1.out]; exact (Below.refl _ w).alloc (Nat.le_refl _) _
  have hbk : Hid (Blk w1 w.heap.size 46 C) := by rw [← hw1.out]; exact Lib.hid (Blk.new _ _ _)
  have hex := Lib.hid (hrx.out w1 hb1.out)
  have hLl := hX.out.len
  obtain ⟨N, hN⟩ : ∃ b, Hid (neededM L l = b) := ⟨_, rfl⟩
  obtain ⟨K, hK⟩ : ∃ k, L.length = k := ⟨_, rfl⟩
  have hK' := Lib.hid hK
  rw [hN.out]
  rw [hK] at hLl hex
  clear hK
  go_enter Tryz.func26, Tryz.ntmps26
  go_wp2_with (first | rw [hw1.out] | (refine wpList_load_blk rfl 46 (.tmp 4) rfl w.heap.size C 46 _ rfl hbk.out Tryz.underlying46 rfl hsz.out ?_))
  refine hex.out.mono ?_
  rintro e w2 ⟨v2, rfl, ho2, hb2⟩
  obtain ⟨A2, c2, rfl, _, hF2⟩ := own_faults ho2 hK'.out
  have hB2 : Hid (Below w.heap.size w w2) := hb1.out.trans (hb2.mono hb1.out.size)
  have hF2' := Lib.hid hF2
  clear ho2 hF2 hb2 hex
  by_cases hne : K = n
  · subst hne
    have e2 : decide (K = K) = true := by simp
    have hNe : Hid (N = decide ((waiveM L l).length = 0)) := by
      unfold Hid
      rw [← hN.out, neededM, hl.out, hK'.out, e2, Bool.true_and]
    go_wp2_with fail
    go_loopw [10] (fun i wr => ∃ q : Nat, q ≤ K ∧ i = .int .i64 q ∧ Hid (∀ x ∈ L.take q, anyB l x = true) ∧ Hid (Below w2.heap.size w2 wr)) (fun i _ => K - (intOf i).toNat)
    case atStart => exact ⟨0, Nat.zero_le _, rfl, Lib.hid (by intro x hx; cases hx), Below.refl _ _⟩
    case round =>
      obtain ⟨q, hq, rfl, hall, hB⟩ := hrel
      have hBw : Hid (Below w.heap.size w wr) := hB2.out.trans (hB.out.mono hB2.out.size)
      by_cases hlt : q < K
      · obtain ⟨x, hx⟩ : ∃ x, L[q]? = some x := ⟨_, List.getElem?_eq_getElem (by have := hK'.out; omega)⟩
        obtain ⟨b, off, rfl, x0, x1, x2, x3⟩ := (hF2'.out.below hB.out) q x hx
        have hin := Lib.hid (in_any lA K c l x wr hl hn (Lib.hid (hlA.out.below hBw.out)))
        have htk := take_one hx
        have hxm := Lib.hid (List.mem_of_getElem? hx)
        have i1 : (q : Int) < (K : Int) := by omega
        have i2 : (0 : Int) ≤ (q : Int) := by omega
        have hkm : decide (q < K) = true := decide_eq_true hlt
        clear hx
        cases ha : anyB l x with
        | true =>
          have hnew : Hid (∀ y ∈ L.take (q + 1), anyB l y = true) := Lib.hid fun y hy => by
            rw [htk] at hy
            rcases List.mem_append.1 hy with hy | hy
            · exact hall.out y hy
            · obtain rfl := List.mem_singleton.1 hy; exact ha
          rw [ha] at hin
          clear ha htk
          go_wp2_with fail
          refine hin.out.mono ?_
          rintro e w3 ⟨rfl, hb3⟩
          have hB3 : Hid (Below w2.heap.size w2 w3) := hB.out.trans (hb3.mono hB.out.size)
          clear hb3 hin x0 x1 x2 x3
          go_wp2_with fail
          go_roundw
          case rel => exact ⟨q + 1, by omega, by go_num, hnew, hB3⟩
          case measure => simp [intOf]; omega
        | false =>
          have hNf : Hid (N = false) := by
            unfold Hid
            rw [hNe.out, decide_eq_false_iff_not, waive_len]
            intro h
            rw [h x hxm.out] at ha
            cases ha
          rw [ha] at hin
          clear ha htk
          go_wp2_with fail
          refine hin.out.mono ?_
          rintro e w3 ⟨rfl, hb3⟩
          have hB3 : Hid (Below w.heap.size w w3) := hBw.out.trans (hb3.mono hBw.out.size)
          clear hb3 hin x0 x1 x2 x3
          go_wp2_with fail
          go_ret
          exact ⟨by rw [hNf.out]; rfl, hB3.out⟩
      · have hkm : decide (q < K) = false := decide_eq_false hlt
        have hqn : K = q := by omega
        subst hqn
        have hNt : Hid (N = true) := by
          unfold Hid
          rw [hNe.out, decide_eq_true_iff, waive_len]
          have := hall.out
          rw [List.take_of_length_le (by rw [hK'.out]; exact Nat.le_refl _)] at this
          exact this
        go_wp2_with fail
        go_ret
        exact ⟨by rw [hNt.out]; rfl, hBw.out⟩
  · have e1 : ((K : Int) != (n : Int)) = true := by simp; omega
    have e3 : ((K : Int) == (n : Int)) = false := by simp; omega
    have e4 : ¬ (K : Int) = (n : Int) := by omega
    have e2 : decide (n = K) = false := by simp; omega
    have hNe : Hid (N = false) := by
      unfold Hid
      rw [← hN.out, neededM, hl.out, hK'.out, e2, Bool.false_and]
    go_wp2_with fail
    go_ret
    exact ⟨by rw [hNe.out]; rfl, hB2.out⟩
set_option maxRecDepth 100000 in
theorem fine_any (w : World) (C : Array Value) (A : Option Addr) (nn cc : Nat) (day : Int) (L : List Flt) (hX : Hid (ExamC w C A nn cc day L)) :
    Calls Tryz.prog 27 #[.agg C, .slice A nn cc, .int .i64 day] w fun e w' => e = .returned (.bool (decide (L.length = 0))) ∧ Below w.heap.size w w' := by
  have hsz := Lib.hid hX.out.size
  obtain ⟨w1, hw1⟩ : ∃ X, Hid (w.alloc (.cells C 46) = X) := ⟨_, rfl⟩
  have hb1 : Hid (Below w.heap.size w w1) := by rw [← hw1.out]; exact (Below.refl _ w).alloc (Nat.le_refl _) _
  have hbk : Hid (Blk w1 w.heap.size 46 C) := by rw [← hw1.out]; exact Lib.hid (Blk.new _ _ _)
  have hex := Lib.hid (hX.out.prog w1 hb1.out)
  go_enter Tryz.func27, Tryz.ntmps27
  go_wp2_with (first | rw [hw1.out] | (refine wpList_load_blk rfl 46 (.tmp 3) rfl w.heap.size C 46 _ rfl hbk.out Tryz.underlying46 rfl hsz.out ?_))
  refine hex.out.mono ?_
  rintro e w2 ⟨A2, c2, rfl, _, _, hb2⟩
  have hB2 : Hid (Below w.heap.size w w2) := hb1.out.trans (hb2.mono hb1.out.size)
  clear hb2 hex
  go_wp2_with fail
  go_ret
  exact ⟨retBl (by rw [Bool.eq_iff_iff]; simp), hB2.out⟩
/-- Few, and no day too far. -/
def fewDay (needs : List Nd) (docs : List Pap) (day : Int) : Bool := fewB needs docs && (decide (-1073741824 ≤ day) && decide (day ≤ 1073741824))
set_option maxRecDepth 100000 in
theorem few5_any (C : Array Value) (nA : Option Addr) (nl nc : Nat) (needs : List Nd) (A : Option Addr) (nn cc : Nat) (docs : List Pap) (day : Int) (w : World) (hCz : Hid (C.size = 18)) (hC17 : C[17]? = some (.slice nA nl nc)) (hnl : Hid (needs.length = nl)) (hnn : Hid (docs.length = nn)) (hml : nl ≤ maxLen) (hmn : nn ≤ maxLen) (hN : Hid (NdsAt w nA needs)) (hD : Hid (DocsAt w A docs)) (hLD : Hid (LongD docs)) :
    Calls Tryz.prog 20 #[.agg C, .slice A nn cc, .int .i64 day] w fun e w' => e = .returned (.bool (fewDay needs docs day)) ∧ Below w.heap.size w w' := by
  have hsz : Hid ((Tryz.prog.info? 46).map (·.size) = some C.size) := by unfold Hid; rw [hCz.out]; kernel_rfl
  obtain ⟨w1, hw1⟩ : ∃ X, Hid (w.alloc (.cells C 46) = X) := ⟨_, rfl⟩
  have hb1 : Hid (Below w.heap.size w w1) := by rw [← hw1.out]; exact (Below.refl _ w).alloc (Nat.le_refl _) _
  have hbk : Hid (Blk w1 w.heap.size 46 C) := by rw [← hw1.out]; exact Lib.hid (Blk.new _ _ _)
  have hfew := Lib.hid (few_any C nA nl nc needs A nn cc docs w1 hCz hC17 hnl hnn hml hmn (Lib.hid (hN.out.below hb1.out)) (Lib.hid (hD.out.below hb1.out)) hLD)
  obtain ⟨R, hR⟩ : ∃ R, Hid (fewDay needs docs day = R) := ⟨_, rfl⟩
  obtain ⟨F, hF⟩ : ∃ F, fewB needs docs = F := ⟨_, rfl⟩
  have hRe : Hid (R = (F && (decide (-1073741824 ≤ day) && decide (day ≤ 1073741824)))) := by unfold Hid; rw [← hR.out, fewDay, hF]
  rw [hF] at hfew
  rw [hR.out]
  clear hF hR
  go_enter Tryz.func20, Tryz.ntmps20
  go_wp2_with (first | rw [hw1.out] | (refine wpList_load_blk rfl 46 (.tmp 3) rfl w.heap.size C 46 _ rfl hbk.out Tryz.underlying46 rfl hsz.out ?_))
  refine hfew.out.mono ?_
  rintro e w2 ⟨rfl, hb2⟩
  have hB2 : Hid (Below w.heap.size w w2) := hb1.out.trans (hb2.mono hb1.out.size)
  clear hb2 hfew
  cases F with
  | false =>
    go_wp2_with fail
    go_ret
    exact ⟨by rw [hRe.out]; rfl, hB2.out⟩
  | true =>
    by_cases h1 : -1073741824 ≤ day
    · have d1 : decide (-1073741824 ≤ day) = true := decide_eq_true h1
      by_cases h2 : day ≤ 1073741824
      · have d2 : decide (day ≤ 1073741824) = true := decide_eq_true h2
        have hR1 : Hid (R = true) := by unfold Hid; rw [hRe.out, d1, d2]; rfl
        go_wp2_with fail
        go_ret
        exact ⟨by rw [hR1.out]; rfl, hB2.out⟩
      · have d2 : decide (day ≤ 1073741824) = false := decide_eq_false h2
        have hR1 : Hid (R = false) := by unfold Hid; rw [hRe.out, d1, d2]; rfl
        go_wp2_with fail
        go_ret
        exact ⟨by rw [hR1.out]; rfl, hB2.out⟩
    · have d1 : decide (-1073741824 ≤ day) = false := decide_eq_false h1
      have hR1 : Hid (R = false) := by unfold Hid; rw [hRe.out, d1]; rfl
      go_wp2_with fail
      go_ret
      exact ⟨by rw [hR1.out]; rfl, hB2.out⟩
end Go.Proofs.YtdjmckjbibfecaaGreatDoor

/- What a paper has that is not as the first paper ahead has it: the walk of others. -/
import Derived.BigRegion
import Derived.Deep.CutBlock
import Derived.Test.YtdjmckjbibfecaaGreatDoorEi
namespace Go.Proofs.YtdjmckjbibfecaaGreatDoor
open Go Go.RowKit Go.BigFrame Go.Maps

theorem ruledF_snoc {needs : List Nd} {q : Nat} {x : Nd} (docs : List Pap) (a : Int) (d : Pap) (h : needs[q]? = some x) : ruledF (needs.take (q + 1)) docs a d = ruledF (needs.take q) docs a d ++ needR docs a d x := by
  obtain ⟨hk, he⟩ := List.getElem?_eq_some_iff.1 h
  rw [List.take_succ_eq_append_getElem hk, he]; simp [ruledF]
theorem needR_no {docs : List Pap} {a : Int} {d : Pap} {x : Nd} (h : ¬ x.kind = d.kind) : needR docs a d x = [] := by unfold needR; rw [if_neg h]
theorem needR_yes {docs : List Pap} {a : Int} {d : Pap} {x : Nd} (h : x.kind = d.kind) : needR docs a d x = partF docs a d (partsT x.rule) := by unfold needR; rw [if_pos h]; rfl
/-- No rule has too many parts. -/
def FewParts (needs : List Nd) : Prop := needs.length ≤ 12 ∧ ∀ x ∈ needs, (partsT x.rule).length ≤ 60
theorem ruledF_len {docs : List Pap} {a : Int} {d : Pap} : ∀ (needs : List Nd), (∀ x ∈ needs, (partsT x.rule).length ≤ 60) → (ruledF needs docs a d).length ≤ 60 * needs.length
  | [], _ => by simp [ruledF]
  | x :: r, h => by
    have ih := ruledF_len (docs := docs) (a := a) (d := d) r (fun y hy => h y (by simp [hy]))
    have h1 : (needR docs a d x).length ≤ 60 := by
      unfold needR
      split
      · exact Nat.le_trans (partF_len docs a d _) (h x (by simp))
      · simp
    show ((needR docs a d x) ++ ruledF r docs a d).length ≤ _
    rw [List.length_append, List.length_cons]; omega
theorem fixedF_len (c : Crd) (day a : Int) (d : Pap) : (fixedF c day a d).length ≤ 4 := by
  unfold fixedF invoiceF ladingF
  have h1 := askF_le a d nSeller (isW c.beneficiary)
  have h2 := askF_le a d nBuyer (isW c.applicant)
  have h3 := askF_le a d nCurrency (isW c.currency)
  have h4 := askF_le a d nSum (sumW c)
  have h5 := askF_le a d nIssued (issuedW c day)
  split
  · simp only [List.length_append]; omega
  · split
    · omega
    · simp

set_option maxRecDepth 100000 in
set_option maxHeartbeats 3200000 in
theorem exPaper_any (w0 : World) (ct cf bm xb : Nat) (C : Array Value) (c : Crd) (hC : Hid (CrdAt C c)) (hO : Hid c.okC) (nA : Option Addr) (nl nc : Nat) (needs : List Nd) (hC17 : Hid (C[17]? = some (.slice nA nl nc))) (hnl : Hid (needs.length = nl)) (hN : Hid (NdsAt w0 nA needs)) (hF : Hid (FewParts needs))
    (A : Option Addr) (nn cc : Nat) (docs : List Pap) (day : Int) (hday : Hid (-9223372036854775808 ≤ day ∧ day ≤ 9223372036854775807)) (a : Nat) (d : Pap) (hd : Hid (docs[a]? = some d)) (hR : Hid (Room w0 A nn docs))
    (w : World) (v : Value) (l : List Flt) (hl : Hid (l.length + 1000 ≤ 100000)) (hx : Hid (ExS w0 ct cf bm xb (exX C A nn cc day ct cf) w v l)) :
    Calls Tryz.prog 58 #[.pointer (some ⟨xb, 0, none⟩), .int .i64 a] w (Ted w0 ct cf bm xb (exX C A nn cc day ct cf) (addAll l (paperF c needs docs day a d)) w) := by
  have halt : a < nn := by have := (List.getElem?_eq_some_iff.1 hd.out).1; have := hR.out.len; omega
  have hmost := hR.out.most
  have hCs := Lib.hid hC.out.size
  have hnl12 : nl ≤ 12 := by have := hF.out.1; have := hnl.out; omega
  have hbA := Lib.hid (((Below.refl _ w).alloc (Nat.le_refl _) (.cells #[.pointer (some ⟨xb, 0, none⟩)] 91)).alloc (by simp) (.cells #[.int .i64 a] 3))
  have hpb := Lib.hid ((Blk.new w 91 #[.pointer (some ⟨xb, 0, none⟩)]).alloc (.cells #[.int .i64 a] 3))
  have hab := Lib.hid (blk_second w (.cells #[.pointer (some ⟨xb, 0, none⟩)] 91) 3 #[.int .i64 a])
  have hxA := Lib.hid (hx.out.belows hbA.out)
  obtain ⟨g0, hg0⟩ : ∃ g0, Hid (w.heap.size = g0) := ⟨_, rfl⟩
  rw [hg0.out] at hpb hab
  go_enter Tryz.func58, Tryz.ntmps58
  go_upto_region 1 with fail
  rw [hg0.out]
  obtain ⟨W, hW⟩ : ∃ W, Hid (((w.alloc (.cells #[.pointer (some ⟨xb, 0, none⟩)] 91)).alloc (.cells #[.int .i64 a] 3)) = W) := ⟨_, rfl⟩
  rw [hW.out] at hbA hpb hab hxA ⊢
  clear hW
  obtain ⟨b, off, rfl, h0, _, _, _, _⟩ := (hR.out.at_.below hxA.out.below) a d hd.out
  obtain ⟨kd, hkd⟩ : ∃ kd, Hid (d.kind = kd) := ⟨_, rfl⟩
  rw [hkd.out] at h0
  have cp : W.cell? ⟨g0, 0, none⟩ = some (.pointer (some ⟨xb, 0, none⟩)) := hpb.out.cell 0
  have ca : W.cell? ⟨g0 + 1, 0, none⟩ = some (.int .i64 a) := hab.out.cell 0
  have c18 : W.cell? ⟨xb, 18, none⟩ = some (.slice (some ⟨b, off, none⟩) nn cc) := (hxA.out.exam.cell 18).trans (exX_docs hCs.out)
  have i1 : (a : Int) < (nn : Int) := by omega
  have i2 : (0 : Int) ≤ (a : Int) := by omega
  go_quiet (fail)
  clear cp ca c18 h0
  go_upto_block 0 with fail
  have hdq := Lib.hid (below_drewN (Below.refl W.heap.size W) nq)
  have hxD := Lib.hid (hxA.out.belows hdq.out)
  have hpD := Lib.hid (hpb.out.drewN nq)
  have haD := Lib.hid (hab.out.drewN nq)
  have hBD := Lib.hid ((Tld.of_below (B := w0.heap.size) (cf := cf) (bm := bm) hbA.out).trans (Tld.of_below hdq.out))
  have hl' := hl.out
  go_cut [17] (fun _ wx => ∃ v' : Value, Hid (ExS w0 ct cf bm xb (exX C (some ⟨b, off, none⟩) nn cc day ct cf) wx v' (addAll l (fixedF c day a d))) ∧ Hid (Tld w0.heap.size cf bm w wx) ∧ Hid (Blk wx g0 91 #[.pointer (some ⟨xb, 0, none⟩)]) ∧ Hid (Blk wx (g0 + 1) 3 #[.int .i64 a]))
  case first =>
    have cp : (W.drewN nq).cell? ⟨g0, 0, none⟩ = some (.pointer (some ⟨xb, 0, none⟩)) := hpD.out.cell 0
    have ca : (W.drewN nq).cell? ⟨g0 + 1, 0, none⟩ = some (.int .i64 a) := haD.out.cell 0
    by_cases hk0 : kd = 0
    · have hfx : Hid (fixedF c day a d = invoiceF c a d) := by unfold Hid fixedF; rw [if_pos (by rw [hkd.out]; exact hk0)]
      have hb : (kd == 0) = true := by simp [hk0]
      clear hk0
      go_wp2_with fail
      refine (invoice_any w0 ct cf bm xb C c hC _ nn cc docs day a d hd hR _ v l (by omega) hxD).mono ?_
      rintro e w1 ⟨rfl, v1, h1, h2⟩
      have h1' := Lib.hid h1
      have h2' := Lib.hid h2
      clear h1 h2
      go_wp2_with fail
      go_meet
      case rel => exact ⟨v1, by rw [hfx.out]; exact h1'.out, hBD.out.trans h2'.out, hxD.out.keep h2'.out hpD.out (by decide) (by decide), hxD.out.keep h2'.out haD.out (by decide) (by decide)⟩
    · have hb : (kd == 0) = false := by simp [hk0]
      by_cases hk2 : kd = 2
      · have hfx : Hid (fixedF c day a d = ladingF c day a d) := by unfold Hid fixedF; rw [if_neg (by rw [hkd.out]; exact hk0), if_pos (by rw [hkd.out]; exact hk2)]
        have hb2 : (kd == 2) = true := by simp [hk2]
        clear hk0 hk2
        go_wp2_with fail
        refine (lading_any w0 ct cf bm xb C c hC hO _ nn cc docs day hday a d hd hR _ v l (by omega) hxD).mono ?_
        rintro e w1 ⟨rfl, v1, h1, h2⟩
        have h1' := Lib.hid h1
        have h2' := Lib.hid h2
        clear h1 h2
        go_wp2_with fail
        go_meet
        case rel => exact ⟨v1, by rw [hfx.out]; exact h1'.out, hBD.out.trans h2'.out, hxD.out.keep h2'.out hpD.out (by decide) (by decide), hxD.out.keep h2'.out haD.out (by decide) (by decide)⟩
      · have hfx : Hid (fixedF c day a d = []) := by unfold Hid fixedF; rw [if_neg (by rw [hkd.out]; exact hk0), if_neg (by rw [hkd.out]; exact hk2)]
        have hb2 : (kd == 2) = false := by simp [hk2]
        clear hk0 hk2
        go_wp2_with fail
        go_meet
        case rel => exact ⟨v, by rw [hfx.out]; exact hxD.out, hBD, hpD, haD⟩
  case rest =>
    obtain ⟨v1, hx1, hB1, hp1, ha1⟩ := hcut
    clear hBD hxD hpD haD hdq hxA hpb hab hbA
    obtain ⟨b', off', hbo, h0, _, _, _, _⟩ := (hR.out.at_.below hx1.out.below) a d hd.out
    obtain ⟨rfl, rfl⟩ : b = b' ∧ off = off' := by simpa using hbo
    rw [hkd.out] at h0
    clear hbo
    have cp : wc.cell? ⟨g0, 0, none⟩ = some (.pointer (some ⟨xb, 0, none⟩)) := hp1.out.cell 0
    have ca : wc.cell? ⟨g0 + 1, 0, none⟩ = some (.int .i64 a) := ha1.out.cell 0
    have c18 : wc.cell? ⟨xb, 18, none⟩ = some (.slice (some ⟨b, off, none⟩) nn cc) := (hx1.out.exam.cell 18).trans (exX_docs hCs.out)
    have z1 := hp1.out.lt
    have z2 := ha1.out.lt
    have z3 := hx1.out.exam.lt
    have z4 : b < wc.heap.size := World.block_lt_of_cell? wc _ h0
    go_wp2_with fail
    go_cut [4] (fun s wx => ∃ g1 : Nat, s = .pointer (some ⟨g1, 0, none⟩) ∧ Hid (Below wc.heap.size wc wx) ∧ Hid (Blk wx g1 3 #[.int .i64 kd]))
    case first =>
      go_region
      all_goals
        go_wp2_with fail
        go_meet
        case rel => exact ⟨wc.heap.size, rfl, ((Below.refl _ wc).alloc (Nat.le_refl _) _).drew, (Blk.new wc 3 #[.int .i64 kd]).drew⟩
    case rest =>
      obtain ⟨g1, rfl, hb2, hk2⟩ := hcut
      clear cp ca c18 h0 z1 z2 z3 z4
      have hx2 := Lib.hid (hx1.out.belows hb2.out)
      have hp2 := Lib.hid (hp1.out.below hb2.out hp1.out.lt)
      have ha2 := Lib.hid (ha1.out.below hb2.out ha1.out.lt)
      have hB2 := Lib.hid (hB1.out.trans (Tld.of_below hb2.out))
      obtain ⟨V, hV⟩ : ∃ V, Hid (wc = V) := ⟨_, rfl⟩
      rw [hV.out] at hx2 hp2 ha2 hB2 hk2 ⊢
      clear hV hb2 hx1 hp1 ha1 hB1
      have cp : V.cell? ⟨g0, 0, none⟩ = some (.pointer (some ⟨xb, 0, none⟩)) := hp2.out.cell 0
      have c17 : V.cell? ⟨xb, 17, none⟩ = some (.slice nA nl nc) := (hx2.out.exam.cell 17).trans ((exX_cell hCs.out (by omega)).trans hC17.out)
      have hlf := fixedF_len c day a d
      have hlr := Lib.hid hlf
      clear hlf
      go_wp2_with fail
      clear cp c17
      go_loopw [6, 39] (fun _ i wr => ∃ (q : Nat) (v' : Value), q ≤ nl ∧ i = .int .i64 q ∧ Hid (ExS w0 ct cf bm xb (exX C (some ⟨b, off, none⟩) nn cc day ct cf) wr v' (addAll (addAll l (fixedF c day a d)) (ruledF (needs.take q) docs a d))) ∧ Hid (Tld w0.heap.size cf bm w wr) ∧ Hid (Blk wr g0 91 #[.pointer (some ⟨xb, 0, none⟩)]) ∧ Hid (Blk wr (g0 + 1) 3 #[.int .i64 a]) ∧ Hid (Blk wr g1 3 #[.int .i64 kd])) (fun _ i _ => nl - (intOf i).toNat)
      case atStart => exact ⟨0, v1, Nat.zero_le _, rfl, by rw [List.take_zero]; exact hx2.out, hB2, hp2, ha2, hk2⟩
      case round =>
        obtain ⟨q, v', hq, rfl, hx3, hB3, hp3, ha3, hk3⟩ := hrel
        by_cases hlt : q < nl
        · obtain ⟨x, hxq⟩ : ∃ x, needs[q]? = some x := ⟨_, List.getElem?_eq_getElem (by have := hnl.out; omega)⟩
          have hmem := Lib.hid (List.mem_of_getElem? hxq)
          have hsn := Lib.hid (ruledF_snoc docs a d hxq)
          have hxq' := Lib.hid hxq
          clear hxq
          obtain ⟨_, hT, hLT, b2, off2, rfl, n0, n1, n2⟩ := (hN.out.below hx3.out.below) q x hxq'.out
          have hT0 := Lib.hid (hN.out q x hxq'.out).2.1
          have hLT' := Lib.hid hLT
          have hpl := Lib.hid (hF.out.2 x hmem.out)
          have hlen : Hid ((addAll (addAll l (fixedF c day a d)) (ruledF (needs.take q) docs a d)).length + 60 ≤ 100000) := by
            have e1 := addAll_len (fixedF c day a d) l
            have e2 := addAll_len (ruledF (needs.take q) docs a d) (addAll l (fixedF c day a d))
            have e3 := ruledF_len (docs := docs) (a := a) (d := d) (needs.take q) (fun y hy => hF.out.2 y (List.mem_of_mem_take hy))
            have e4 : (needs.take q).length ≤ 12 := Nat.le_trans (by rw [List.length_take]; omega) hF.out.1
            have := hl.out; have := hlr.out; unfold Hid; omega
          clear hT hLT
          obtain ⟨xk, xc, t⟩ := x
          have hrN : Hid (¬ xk = kd → needR docs a d ⟨xk, xc, t⟩ = []) := fun h => needR_no (by rw [hkd.out]; exact h)
          have hrY : Hid (xk = kd → needR docs a d ⟨xk, xc, t⟩ = partF docs a d (partsT t)) := fun h => needR_yes (by rw [hkd.out]; exact h)
          have hpc := Lib.hid (parts_any w0 ct cf bm xb C hCs (some ⟨b, off, none⟩) nn cc docs day a d g0 (g0 + 1) g1 hd hR t)
          obtain ⟨tk, tp, tf, tx, tn, tA, tc, tL⟩ := t
          simp only at n0 n1 n2 hT0 hLT' hpl
          obtain ⟨m0, m1, m2, m3, m4, m5⟩ := n2
          have z1 := hk3.out.lt
          have ck : wr.cell? ⟨g1, 0, none⟩ = some (.int .i64 kd) := hk3.out.cell 0
          have hbA := Lib.hid ((Below.refl _ wr).alloc (Nat.le_refl _) (.cells #[.int .i64 xk, .int .i64 xc, .int .i64 tk, .int .i64 tp, .string tf, .string tx, .int .i64 tn, .slice tA tL.length tc] 71))
          have hxA := Lib.hid (hx3.out.belows hbA.out)
          have hpA := Lib.hid (hp3.out.below hbA.out hp3.out.lt)
          have haA := Lib.hid (ha3.out.below hbA.out ha3.out.lt)
          have hkA := Lib.hid (hk3.out.below hbA.out hk3.out.lt)
          by_cases hxk : xk = kd
          · have hb : (xk != kd) = false := by simp [hxk]
            have hr := Lib.hid (hrY.out hxk)
            clear hxk hrN hrY
            go_wp2_with fail
            have hpp := hpc.out _ v' _ hT0 hLT' (by have := hlen.out; have := hpl.out; omega) hxA hpA haA (by rw [hkd.out]; exact hkA.out)
            simp only [Tree.cells] at hpp
            refine hpp.mono ?_
            rintro e w1 ⟨rfl, v2, h1, h2⟩
            have h1' : Hid (ExS w0 ct cf bm xb (exX C (some ⟨b, off, none⟩) nn cc day ct cf) w1 v2 (addAll (addAll l (fixedF c day a d)) (ruledF (needs.take (q + 1)) docs a d))) := by
              unfold Hid
              rw [hsn.out, addAll_app, hr.out]; exact h1
            have h2' := Lib.hid h2
            clear h1 h2 hpp
            go_wp2_with fail
            go_roundw
            case rel => exact ⟨q + 1, v2, by omega, by go_num, h1', hB3.out.trans ((Tld.of_below hbA.out).trans h2'.out), hxA.out.keep h2'.out hpA.out (by decide) (by decide), hxA.out.keep h2'.out haA.out (by decide) (by decide), hxA.out.keep h2'.out hkA.out (by decide) (by decide)⟩
            case measure => simp [intOf]; omega
          · have hb : (xk != kd) = true := by simp [hxk]
            have hr := Lib.hid (hrN.out hxk)
            clear hxk hrN hrY
            go_wp2_with fail
            go_roundw
            case rel => exact ⟨q + 1, v', by omega, by go_num, by unfold Hid; rw [hsn.out, hr.out, List.append_nil]; exact hxA.out, hB3.out.trans (Tld.of_below hbA.out), hpA, haA, hkA⟩
            case measure => simp [intOf]; omega
        · obtain rfl : q = nl := by omega
          rw [List.take_of_length_le (by have := hnl.out; omega)] at hx3
          go_wp2_with fail
          go_end0
          exact ⟨rfl, v', by unfold paperF; rw [addAll_app]; exact hx3.out, hB3.out⟩
end Go.Proofs.YtdjmckjbibfecaaGreatDoor
namespace Go.Proofs.YtdjmckjbibfecaaGreatDoor
open Go Go.RowKit Go.BigFrame Go.Maps

theorem str_keyed9 : Keyed Tryz.prog 9 := string_keyed Tryz.underlying9
theorem zero9 (w : World) : (zeroValue 9).run Tryz.prog w = .ok (.string ⟨#[]⟩) w := by kernel_rfl
/-- The map of what stood ahead, at the six names: below i with the paper, from i on without it. -/
def AheadS (needs : List Nd) (ahead : List Pap) (d : Pap) (i : Nat) (S : Value → Option Value) : Prop :=
  ∀ j, j < 6 → S (.string (alikeB j)) = ((if j < i then aheadF needs (ahead ++ [d]) (alikeB j) else aheadF needs ahead (alikeB j)).map Value.string)
theorem ahead_snoc (needs : List Nd) (d : Pap) (s : ByteArray) : ∀ l : List Pap, aheadF needs (l ++ [d]) s = match aheadF needs l s with | some v => some v | none => if askedB needs d.kind then getF d.fields s else none
  | [] => by
    simp only [List.nil_append, aheadF]
    cases (if askedB needs d.kind then getF d.fields s else none) <;> rfl
  | x :: l => by
    simp only [List.cons_append, aheadF]
    cases (if askedB needs x.kind then getF x.fields s else none) with
    | some v => rfl
    | none => exact ahead_snoc needs d s l
theorem alikeB_inj {i j : Nat} (hi : i < 6) (hj : j < 6) (h : alikeB i = alikeB j) : i = j := by
  have h' : alikeL i = alikeL j := by
    have := congrArg (fun b : ByteArray => b.data.toList) h
    simpa [alikeB, mkB] using this
  revert h'
  match i, j, hi, hj with
  | 0, 0, _, _ => simp
  | 0, 1, _, _ => decide
  | 0, 2, _, _ => decide
  | 0, 3, _, _ => decide
  | 0, 4, _, _ => decide
  | 0, 5, _, _ => decide
  | 1, 0, _, _ => decide
  | 1, 1, _, _ => simp
  | 1, 2, _, _ => decide
  | 1, 3, _, _ => decide
  | 1, 4, _, _ => decide
  | 1, 5, _, _ => decide
  | 2, 0, _, _ => decide
  | 2, 1, _, _ => decide
  | 2, 2, _, _ => simp
  | 2, 3, _, _ => decide
  | 2, 4, _, _ => decide
  | 2, 5, _, _ => decide
  | 3, 0, _, _ => decide
  | 3, 1, _, _ => decide
  | 3, 2, _, _ => decide
  | 3, 3, _, _ => simp
  | 3, 4, _, _ => decide
  | 3, 5, _, _ => decide
  | 4, 0, _, _ => decide
  | 4, 1, _, _ => decide
  | 4, 2, _, _ => decide
  | 4, 3, _, _ => decide
  | 4, 4, _, _ => simp
  | 4, 5, _, _ => decide
  | 5, 0, _, _ => decide
  | 5, 1, _, _ => decide
  | 5, 2, _, _ => decide
  | 5, 3, _, _ => decide
  | 5, 4, _, _ => decide
  | 5, 5, _, _ => simp
section
variable {needs : List Nd} {ahead : List Pap} {d : Pap} {i : Nat} {S : Value → Option Value}
theorem AheadS.at_ (h : AheadS needs ahead d i S) (hi : i < 6) : S (.string (alikeB i)) = (aheadF needs ahead (alikeB i)).map Value.string := by
  have := h i hi
  rw [if_neg (by omega)] at this
  exact this
/-- Nothing is put: the paper has not the field, or another one ahead has it. -/
theorem AheadS.same (h : AheadS needs ahead d i S) (hq : aheadF needs (ahead ++ [d]) (alikeB i) = aheadF needs ahead (alikeB i)) : AheadS needs ahead d (i + 1) S := by
  intro j hj
  rw [h j hj]
  by_cases h1 : j < i
  · rw [if_pos h1, if_pos (by omega)]
  · by_cases h2 : j = i
    · subst h2; rw [if_neg (by omega), if_pos (by omega), hq]
    · rw [if_neg h1, if_neg (by omega)]
open Classical in
theorem AheadS.put (h : AheadS needs ahead d i S) (hi : i < 6) {v : ByteArray} (hq : aheadF needs (ahead ++ [d]) (alikeB i) = some v) : AheadS needs ahead d (i + 1) (fun y => if y = .string (alikeB i) then some (.string v) else S y) := by
  intro j hj
  show (if Value.string (alikeB j) = .string (alikeB i) then some (.string v) else S (.string (alikeB j))) = _
  by_cases h2 : j = i
  · subst h2
    rw [if_pos rfl, if_pos (by omega), hq]; rfl
  · rw [if_neg (fun e => h2 (alikeB_inj hj hi (by simpa using e))), h j hj]
    by_cases h1 : j < i
    · rw [if_pos h1, if_pos (by omega)]
    · rw [if_neg h1, if_neg (by omega)]
end
theorem othersF_snoc (needs : List Nd) (ahead : List Pap) (a : Int) (d : Pap) (i : Nat) : (List.range (i + 1)).flatMap (otherF needs ahead a d) = (List.range i).flatMap (otherF needs ahead a d) ++ otherF needs ahead a d i := by
  rw [List.range_succ]; simp
theorem otherF_le (needs : List Nd) (ahead : List Pap) (a : Int) (d : Pap) (i : Nat) : (otherF needs ahead a d i).length ≤ 1 := by
  unfold otherF
  split
  · simp
  · split
    · simp
    · split <;> simp
theorem others_len (needs : List Nd) (ahead : List Pap) (a : Int) (d : Pap) (i : Nat) : ((List.range i).flatMap (otherF needs ahead a d)).length ≤ i := by
  have := flat_le _ (otherF_le needs ahead a d) (List.range i)
  simpa using this
theorem alikeB_size (i : Nat) (h : i < 6) : (alikeB i).size ≤ 10 := by
  match i, h with
  | 0, _ => decide
  | 1, _ => decide
  | 2, _ => decide
  | 3, _ => decide
  | 4, _ => decide
  | 5, _ => decide
theorem keyS {s : ByteArray} (h : s.size ≤ maxLen) : ∃ kl, keyOf Tryz.prog 9 (.string s) = some kl := by
  rw [keyOf_string Tryz.underlying9]
  simp [mapKey, Tryz.underlying9, h]
/-- The frame of others: besides what tellings turn, the map of what stood ahead. -/
def TldM (B cf bm am : Nat) (w w' : World) : Prop := ButS (fun g => TS B cf bm w g ∨ g = am) w w'
section
variable {w0 : World} {B ct cf bm xb am : Nat} {X : Array Value} {a b c w w' : World} {v : Value} {l : List Flt}
theorem TldM.of (h : Tld B cf bm w w') : TldM B cf bm am w w' := ⟨h.os, h.tape, h.output, h.size, fun k hk hs => h.block k hk (fun e => hs (.inl e))⟩
theorem TldM.size (h : TldM B cf bm am w w') : w.heap.size ≤ w'.heap.size := ButS.size h
theorem TldM.put (hg : w.grownBy w' (some am)) : TldM B cf bm am w w' := ⟨hg.os, hg.tape, hg.output, hg.size, fun k hk hs => hg.block k hk (fun e => hs (.inr (by simpa using e)))⟩
theorem TldM.trans (h : TldM B cf bm am a b) (k : TldM B cf bm am b c) : TldM B cf bm am a c :=
  ⟨k.os.trans h.os, k.tape.trans h.tape, k.output.trans h.output, Nat.le_trans h.size k.size, fun i hi hs => by
    have e := h.block i hi hs
    refine (k.block i (Nat.lt_of_lt_of_le hi h.size) ?_).trans e
    rintro (⟨h1, h2⟩ | h2)
    · refine hs (.inl ⟨h1, ?_⟩)
      rcases h2 with h2 | h2 | ⟨cs, fr, h2⟩
      · exact .inl h2
      · exact .inr (.inl h2)
      · exact .inr (.inr ⟨cs, fr, by rw [← e]; exact h2⟩)
    · exact hs (.inr h2)⟩
theorem ExS.keepXM (h : ExS w0 ct cf bm xb X w v l) (ht : TldM w0.heap.size cf bm am w w') {k e : TypeId} {b n : Nat} {z : Value} {S : Value → Option Value} (hm : MapFn w Tryz.prog k e b n z S) (hne : b ≠ bm) (h3 : b ≠ am) : MapFn w' Tryz.prog k e b n z S :=
  ButS.map ht hm (by
    rintro (⟨_, e | e | ⟨cs', fr, e⟩⟩ | e)
    · exact hne e
    · exact blk_map_ne h.tell.fc hm e
    · obtain ⟨D, zd, ⟨es, clock, hh, _⟩, _⟩ := hm
      rw [hh] at e; cases e
    · exact h3 e)
theorem ExS.put {k e : TypeId} {b n : Nat} {z : Value} {S : Value → Option Value} (h : ExS w0 ct cf bm xb X w v l) (hm : MapFn w Tryz.prog k e b n z S) (hne : b ≠ bm) (hB : w0.heap.size ≤ b) (hg : w.grownBy w' (some b)) : ExS w0 ct cf bm xb X w' v l :=
  ⟨⟨h.tell.map.kept hg (by simpa using Ne.symm hne), h.tell.tc.kept hg (by simpa using blk_map_ne h.tell.tc hm), h.tell.fc.kept hg (by simpa using blk_map_ne h.tell.fc hm), h.tell.row.kept hg (.inr (own_map_ne h.tell.row hm).symm), h.tell.base⟩,
    h.exam.kept hg (by simpa using blk_map_ne h.exam hm), h.below.grown hg h.below.size (fun k hk => by simp at hk; omega)⟩
end
theorem index69 (q : Nat) (hq : q < 6) (w : World) : (Instr.index 143 (.agg #[.string (alikeB 0), .string (alikeB 1), .string (alikeB 2), .string (alikeB 3), .string (alikeB 4), .string (alikeB 5)]) (.int .i64 q)).run Tryz.prog w = .ok (.string (alikeB q)) w := by
  obtain rfl | rfl | rfl | rfl | rfl | rfl : q = 0 ∨ q = 1 ∨ q = 2 ∨ q = 3 ∨ q = 4 ∨ q = 5 := by omega
  all_goals kernel_rfl
end Go.Proofs.YtdjmckjbibfecaaGreatDoor

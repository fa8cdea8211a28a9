/- Examine, of any papers: the walk. -/
import Derived.Test.YtdjmckjbibfecaaGreatDoorEm
namespace Go.Proofs.YtdjmckjbibfecaaGreatDoor
open Go Go.RowKit Go.BigFrame Go.Maps

/-- A row of faults, handed back; it may be cut anywhere. -/
def FaultedC (w : World) (l : List Flt) (e : Ending) (w' : World) : Prop := ∃ A c, e = .returned (.slice A l.length c) ∧ l.length ≤ c ∧ FaultsAt w' A l ∧ Below w.heap.size w w'
/-- The same, in a row of its own. -/
def FaultedO (w : World) (l : List Flt) (e : Ending) (w' : World) : Prop := ∃ v B, e = .returned v ∧ w'.ownsRow B 54 4 v l.length (fcells l) ∧ Below w.heap.size w w'
theorem exs_new (w : World) (C X : Array Value) : ExS w (w.heap.size + 1 + 1 + 1) (w.heap.size + 1) (w.heap.size + 1 + 1) (w.heap.size + 1 + 1 + 1 + 1) X (((((w.alloc (.cells C 46)).alloc (.cells #[.slice none 0 0] 47)).alloc (.map #[] 0)).alloc (.cells #[.map (some (w.heap.size + 1 + 1))] 90)).alloc (.cells X 94)) (.slice none 0 0) [] ∧
    Blk (((((w.alloc (.cells C 46)).alloc (.cells #[.slice none 0 0] 47)).alloc (.map #[] 0)).alloc (.cells #[.map (some (w.heap.size + 1 + 1))] 90)).alloc (.cells X 94)) w.heap.size 46 C := by
  have h := st_new w C X
  exact ⟨⟨h.tell, h.exam, h.below⟩, h.credit⟩

set_option maxRecDepth 100000 in
set_option maxHeartbeats 6400000 in
theorem examine_own (c : Crd) (hO : Hid c.okC) (nA : Option Addr) (nl nc : Nat) (needs : List Nd) (hnl : Hid (needs.length = nl)) (A : Option Addr) (nn cc : Nat) (docs : List Pap) (day : Int) (hday : Hid (-9223372036854775808 ≤ day ∧ day ≤ 9223372036854775807)) (w : World)
    (hN : Hid (NdsAt w nA needs)) (hF : Hid (FewParts needs)) (hR : Hid (Room w A nn docs)) (hal : Hid (AlikeAt w)) (hn12 : nn ≤ 12) :
    Calls Tryz.prog 21 #[.agg (c.cells (.slice nA nl nc)), .slice A nn cc, .int .i64 day] w (FaultedO w (examF c needs docs day)) := by
  have hmm := @run_makeMap Tryz.prog
  obtain ⟨bx, hbx⟩ : ∃ bx, decide (c.expiry < day) = bx := ⟨_, rfl⟩
  have hexp : Hid (expF c day = if bx = true then [⟨-1, -1, nExpiry, 4⟩] else []) := by
    unfold Hid expF; rw [← hbx]; simp
  have hnl12 : nl ≤ 12 := by have := hF.out.1; have := hnl.out; omega
  go_enter Tryz.func21, Tryz.ntmps21
  go_upto_region 4 with fail
  go_cut [29] (fun s wx => ∃ C, Hid (C = c.cells (.slice nA nl nc)) ∧ s = .bool bx ∧ Hid (ExS w (w.heap.size + 1 + 1 + 1) (w.heap.size + 1) (w.heap.size + 1 + 1) (w.heap.size + 1 + 1 + 1 + 1) (exX C A nn cc day (w.heap.size + 1 + 1 + 1) (w.heap.size + 1)) wx (.slice none 0 0) []) ∧ Hid (Blk wx w.heap.size 46 C))
  case first =>
    go_wp2_with fail
    go_meet
    case rel =>
      have h := exs_new w (c.cells (.slice nA nl nc)) (exX (c.cells (.slice nA nl nc)) A nn cc day (w.heap.size + 1 + 1 + 1) (w.heap.size + 1))
      exact ⟨_, rfl, rfl, h.1, h.2⟩
  case rest =>
    obtain ⟨C, hCe, rfl, hx0, hcr0⟩ := hcut
    have hC : Hid (CrdAt C c) := by unfold Hid; rw [hCe.out]; exact c.at_ _
    have hC17 : Hid (C[17]? = some (.slice nA nl nc)) := by unfold Hid; rw [hCe.out]; rfl
    have hCs := Lib.hid hC.out.size
    clear hCe hbx hmm
    go_upto_if 29 with fail
    go_cut [31] (fun _ wx => ∃ v : Value, Hid (ExS w (w.heap.size + 1 + 1 + 1) (w.heap.size + 1) (w.heap.size + 1 + 1) (w.heap.size + 1 + 1 + 1 + 1) (exX C A nn cc day (w.heap.size + 1 + 1 + 1) (w.heap.size + 1)) wx v (addAll [] (expF c day))) ∧ Hid (Blk wx w.heap.size 46 C))
    case first =>
      as_aux_lemma =>
        cases bx
        · go_wp2_with fail
          go_meet
          case rel => exact ⟨_, by unfold Hid; rw [hexp.out]; exact hx0.out, hcr0⟩
        · have cx : wc.cell? ⟨w.heap.size + 1 + 1 + 1 + 1, 20, none⟩ = some (.func (Fn.func 57) #[] #[.pointer (some ⟨w.heap.size + 1 + 1 + 1, 0, none⟩), .pointer (some ⟨w.heap.size + 1, 0, none⟩)]) := (hx0.out.exam.cell 20).trans (exX_tell hCs.out)
          have hfits : Flt.fits ⟨-1, -1, nExpiry, 4⟩ := ⟨fits_i64 (n := -1) (by omega) (by omega), fits_i64 (n := -1) (by omega) (by omega), by decide, fits_i64 (n := 4) (by omega) (by omega)⟩
          have hc := Lib.hid (tell_ex ⟨-1, -1, nExpiry, 4⟩ hfits (Nat.zero_le _) hx0.out)
          clear hfits
          go_wp2_with fail
          refine hc.out.mono ?_
          rintro e w1 ⟨rfl, v1, h1, h2⟩
          have h1' := Lib.hid h1
          have h2' := Lib.hid h2
          clear h1 h2 cx
          go_wp2_with fail
          go_meet
          case rel => exact ⟨v1, by unfold Hid; rw [hexp.out]; exact h1'.out, hx0.out.keep h2'.out hcr0.out (by decide) (by decide)⟩
    case rest =>
      as_aux_lemma =>
        obtain ⟨v1, hx1, hcr1⟩ := hcut
        have hl1 : Hid ((addAll [] (expF c day)).length ≤ 1) := by
          have e1 := addAll_len (expF c day) []
          have e2 : (expF c day).length ≤ 1 := by unfold expF; split <;> simp
          unfold Hid; simp only [List.length_nil] at e1; omega
        clear hx0 hcr0 hexp
        obtain ⟨V, hV⟩ : ∃ V, Hid (wc = V) := ⟨_, rfl⟩
        rw [hV.out] at hx1 hcr1 ⊢
        clear hV
        have hmm := @run_makeMap Tryz.prog
        have hcm := Lib.hid (MapFn.made V Tryz.prog 3 3 (plainElem_int Tryz.underlying3 (q := .i64) (a := 0) (by decide)))
        have hx2 := Lib.hid (hx1.out.alloc (.map #[] 0))
        have hcr2 := Lib.hid (hcr1.out.alloc (.map #[] 0))
        have hcmB : Hid (w.heap.size + 1 + 1 + 1 + 1 < V.heap.size) := hx1.out.exam.lt
        obtain ⟨cm, hcmv⟩ : ∃ cm, Hid (V.heap.size = cm) := ⟨_, rfl⟩
        go_wp2_with fail
        rw [hcmv.out]
        rw [hcmv.out] at hcm hcmB
        go_loopw [12, 39] (fun _ i wr => ∃ (q n : Nat) (S : Value → Option Value), q ≤ nn ∧ n ≤ q ∧ i = .int .i64 q ∧ Hid (ExS w (w.heap.size + 1 + 1 + 1) (w.heap.size + 1) (w.heap.size + 1 + 1) (w.heap.size + 1 + 1 + 1 + 1) (exX C A nn cc day (w.heap.size + 1 + 1 + 1) (w.heap.size + 1)) wr v1 (addAll [] (expF c day))) ∧ Hid (Blk wr w.heap.size 46 C) ∧ Hid (MapFn wr Tryz.prog 3 3 cm n (.int .i64 0) S) ∧ Hid (CountS (docs.take q) S)) (fun _ i _ => nn - (intOf i).toNat)
        case atStart => exact ⟨0, 0, _, Nat.zero_le _, Nat.le_refl _, rfl, hx2, hcr2, hcm, fun k => by rw [List.take_zero]; rfl⟩
        case round =>
          obtain ⟨q, n, S, hq, hn, rfl, hx3, hcr3, hm3, hS3⟩ := hrel
          by_cases hlt : q < nn
          · obtain ⟨d, hd⟩ : ∃ d, docs[q]? = some d := ⟨_, List.getElem?_eq_getElem (by have := hR.out.len; omega)⟩
            have hkd := kind_of hR.out.at_ hd
            have hSp := Lib.hid (hS3.out.put hd)
            have hlk0 := Lib.hid (hS3.out d.kind)
            have hcl := countK_le (docs.take q) d.kind
            have htk : (docs.take q).length ≤ 12 := by rw [List.length_take]; omega
            obtain ⟨b, off, rfl, h0, h1, h2, h3, _⟩ := (hR.out.at_.below hx3.out.below) q d hd
            obtain ⟨kd, nu, is, fA, fc, fs⟩ := d
            simp only at h0 h1 h2 h3 hkd hSp hlk0 hcl
            obtain ⟨fm, hfm⟩ : ∃ m, Hid (fs.length = m) := ⟨_, rfl⟩
            rw [hfm.out] at h3
            obtain ⟨hk1, hk2⟩ := hkd
            obtain ⟨cnt, hcnt⟩ : ∃ cnt, Hid (countK (docs.take q) kd = cnt) := ⟨_, rfl⟩
            rw [hcnt.out] at hSp hlk0 hcl
            have hc12 : cnt ≤ 12 := by omega
            have hwf := Lib.hid (fits_i64 hk1 hk2)
            have hwf2 := Lib.hid (fits_i64 (n := (cnt : Int) + 1) (by omega) (by omega))
            have hnl' : Hid (n < maxLen) := by unfold Hid maxLen; omega
            have hbA := Lib.hid ((Below.refl _ wr).alloc (Nat.le_refl _) (.cells #[.int .i64 kd, .string nu, .string is, .slice fA fm fc] 61))
            have hxA := Lib.hid (hx3.out.belows hbA.out)
            have hcrA := Lib.hid (hcr3.out.below hbA.out hcr3.out.lt)
            have hmA := Lib.hid (hm3.out.alloc (.cells #[.int .i64 kd, .string nu, .string is, .slice fA fm fc] 61))
            have hlk := hmA.out.look int_keyed3 Tryz.underlying95 (zero3 _) (keyOf_int_mk Tryz.underlying3 hwf.out)
            rw [hlk0.out] at hlk
            clear htk hcl hd
            go_wp2_with ((at_mapUpdate; go_must (refine wpList_put _ rfl _ _ _ 95 rfl int_keyed3 Tryz.underlying95 cm n rfl hmA.out hnl'.out (.int .i64 kd) (.int .i64 ((cnt : Int) + 1)) _ rfl rfl (keyOf_int_mk Tryz.underlying3 hwf.out) (plainElem_int Tryz.underlying3 hwf2.out) ?_); intro w2 hm4 hg4; have hm4' := Lib.hid hm4; have hx4 := Lib.hid (hxA.out.put hmA.out (by have := hcmB.out; omega) (by have := hcmB.out; omega) hg4); have hcr4 := Lib.hid (hcrA.out.kept hg4 (by simpa using blk_map_ne hcrA.out hmA.out)); clear hm4 hg4 hlk))
            go_roundw
            case rel => exact ⟨q + 1, n + 1, _, by omega, by omega, by go_num, hx4, hcr4, hm4', hSp⟩
            case measure => simp [intOf]; omega
          · obtain rfl : nn = q := by omega
            rw [List.take_of_length_le (by have := hR.out.len; omega)] at hS3
            obtain ⟨U, hU⟩ : ∃ U, Hid (wr = U) := ⟨_, rfl⟩
            rw [hU.out] at hx3 hcr3 hm3 ⊢
            clear hU hx2 hcr2 hcm hx1 hcr1 hcmv hlt hq
            have hmm := @run_makeMap Tryz.prog
            have hak := Lib.hid (MapFn.made U Tryz.prog 3 4 (plainElem_bool Tryz.underlying4 false))
            have hx4 := Lib.hid (hx3.out.alloc (.map #[] 0))
            have hcr4 := Lib.hid (hcr3.out.alloc (.map #[] 0))
            have hm4 := Lib.hid (hm3.out.alloc (.map #[] 0))
            have hakB : Hid (cm < U.heap.size) := hm3.out.lt
            have c17 : (U.alloc (.map #[] 0)).cell? ⟨w.heap.size, 17, none⟩ = some (.slice nA nl nc) := (hcr4.out.cell 17).trans hC17.out
            obtain ⟨ak, hakv⟩ : ∃ ak, Hid (U.heap.size = ak) := ⟨_, rfl⟩
            go_wp2_with fail
            clear c17
            rw [hakv.out]
            rw [hakv.out] at hak hakB
            go_loopw [15, 53] (fun _ i wy => ∃ (p m : Nat) (v' : Value) (T : Value → Option Value), p ≤ nl ∧ m ≤ p ∧ i = .int .i64 p ∧ Hid (ExS w (w.heap.size + 1 + 1 + 1) (w.heap.size + 1) (w.heap.size + 1 + 1) (w.heap.size + 1 + 1 + 1 + 1) (exX C A nn cc day (w.heap.size + 1 + 1 + 1) (w.heap.size + 1)) wy v' (addAll (addAll [] (expF c day)) ((needs.take p).flatMap (lackF docs)))) ∧ Hid (Blk wy w.heap.size 46 C) ∧ Hid (MapFn wy Tryz.prog 3 3 cm n (.int .i64 0) S) ∧ Hid (MapFn wy Tryz.prog 3 4 ak m (.bool false) T) ∧ Hid (AskS (needs.take p) T)) (fun _ i _ => nl - (intOf i).toNat)
            case atStart => exact ⟨0, 0, v1, _, Nat.zero_le _, Nat.le_refl _, rfl, by unfold Hid; rw [List.take_zero]; exact hx4.out, hcr4, hm4, hak, fun k => by rw [List.take_zero]; rfl⟩
            case round =>
              clear hx4 hcr4 hm4 hak hx3 hcr3 hm3 hakv
              obtain ⟨p, m, v2, T, hp, hmp, rfl, hx5, hcr5, hm5, hk5, hT5⟩ := hrel
              by_cases hlt : p < nl
              · obtain ⟨x, hxp⟩ : ∃ x, needs[p]? = some x := ⟨_, List.getElem?_eq_getElem (by have := hnl.out; omega)⟩
                have hTp := Lib.hid (hT5.out.put hxp)
                have hsn := Lib.hid (lack_snoc docs hxp)
                have hlk0 := Lib.hid (hS3.out x.kind)
                have hcl := countK_le docs x.kind
                have hlen : Hid ((addAll (addAll [] (expF c day)) ((needs.take p).flatMap (lackF docs))).length ≤ 100) := by
                  have e1 := addAll_len ((needs.take p).flatMap (lackF docs)) (addAll [] (expF c day))
                  have e2 := flat_le _ (lackF_le docs) (needs.take p)
                  have e3 : (needs.take p).length ≤ 12 := by rw [List.length_take]; omega
                  have := hl1.out; unfold Hid; omega
                obtain ⟨⟨hk1, hk2⟩, _, _, b2, off2, rfl, n0, n1, n2⟩ := (hN.out.below hx5.out.below) p x hxp
                have hLk : Hid (∀ z : Int, z = (countK docs x.kind : Int) → (z < x.count → lackF docs x = [⟨-1, x.kind, ⟨#[]⟩, 1⟩]) ∧ (¬ z < x.count → lackF docs x = [])) := fun z hz => by
                  subst hz
                  exact ⟨fun h => by unfold lackF; rw [if_pos h], fun h => by unfold lackF; rw [if_neg h]⟩
                obtain ⟨xk, xc, t⟩ := x
                obtain ⟨tk, tp, tf, tx, tn, tA, tc, tL⟩ := t
                simp only at n0 n1 n2 hk1 hk2 hTp hlk0 hcl hLk
                obtain ⟨m0, m1, m2, m3, m4, m5⟩ := n2
                obtain ⟨cnt, hcnt⟩ : ∃ cnt, Hid (countK docs xk = cnt) := ⟨_, rfl⟩
                rw [hcnt.out] at hlk0 hcl hLk
                have hwf := Lib.hid (fits_i64 hk1 hk2)
                have hnl' : Hid (m < maxLen) := by unfold Hid maxLen; omega
                have hbA := Lib.hid ((Below.refl _ wr).alloc (Nat.le_refl _) (.cells #[.int .i64 xk, .int .i64 xc, .int .i64 tk, .int .i64 tp, .string tf, .string tx, .int .i64 tn, .slice tA tL.length tc] 71))
                have hbox := Lib.hid (Blk.new wr 71 #[.int .i64 xk, .int .i64 xc, .int .i64 tk, .int .i64 tp, .string tf, .string tx, .int .i64 tn, .slice tA tL.length tc])
                have hxA := Lib.hid (hx5.out.belows hbA.out)
                have hcrA := Lib.hid (hcr5.out.below hbA.out hcr5.out.lt)
                have hmA := Lib.hid (hm5.out.alloc (.cells #[.int .i64 xk, .int .i64 xc, .int .i64 tk, .int .i64 tp, .string tf, .string tx, .int .i64 tn, .slice tA tL.length tc] 71))
                have hkA := Lib.hid (hk5.out.alloc (.cells #[.int .i64 xk, .int .i64 xc, .int .i64 tk, .int .i64 tp, .string tf, .string tx, .int .i64 tn, .slice tA tL.length tc] 71))
                clear hxp hcl
                by_cases hcx : (cnt : Int) < xc
                all_goals
                  go_wp2_with ((at_mapUpdate; go_must (refine wpList_put _ rfl _ _ _ 37 rfl int_keyed3 Tryz.underlying37 ak m rfl hkA.out hnl'.out (.int .i64 xk) (.bool true) _ rfl rfl (keyOf_int_mk Tryz.underlying3 hwf.out) (plainElem_bool Tryz.underlying4 true) ?_); intro w2 hk6 hg6; have hk6' := Lib.hid hk6; have hx6 := Lib.hid (hxA.out.put hkA.out (by have := hcmB.out; have := hakB.out; omega) (by have := hcmB.out; have := hakB.out; omega) hg6); have hcr6 := Lib.hid (hcrA.out.kept hg6 (by simpa using blk_map_ne hcrA.out hkA.out)); have hm6 : Hid (MapFn w2 Tryz.prog 3 3 cm n (.int .i64 0) S) := hmA.out.kept hg6 (by have := hakB.out; simp; omega); have hlk := hm6.out.look int_keyed3 Tryz.underlying95 (zero3 _) (keyOf_int_mk Tryz.underlying3 hwf.out); rw [hlk0.out] at hlk; have hbox2 := hbox.out.kept hg6 (by simpa using blk_map_ne hbox.out hkA.out); have q0 : w2.cell? ⟨wr.heap.size, 0, none⟩ = some (.int .i64 xk) := hbox2.cell 0; have q1 : w2.cell? ⟨wr.heap.size, 1, none⟩ = some (.int .i64 xc) := hbox2.cell 1; have qx : w2.cell? ⟨w.heap.size + 1 + 1 + 1 + 1, 20, none⟩ = some (.func (Fn.func 57) #[] #[.pointer (some ⟨w.heap.size + 1 + 1 + 1, 0, none⟩), .pointer (some ⟨w.heap.size + 1, 0, none⟩)]) := (hx6.out.exam.cell 20).trans (exX_tell hCs.out); clear hk6 hg6 hbox2))
                · have hlac := Lib.hid ((hLk.out _ rfl).1 hcx)
                  have hfits : Flt.fits ⟨-1, xk, ⟨#[]⟩, 1⟩ := ⟨fits_i64 (n := -1) (by omega) (by omega), hwf.out, Nat.zero_le _, fits_i64 (n := 1) (by omega) (by omega)⟩
                  have hc : ∀ W, W = w2.drew → Calls Tryz.prog 57 #[.agg #[.int .i64 (-1), .int .i64 xk, .string ⟨#[]⟩, .int .i64 1], .pointer (some ⟨w.heap.size + 1 + 1 + 1, 0, none⟩), .pointer (some ⟨w.heap.size + 1, 0, none⟩)] W (Ted w (w.heap.size + 1 + 1 + 1) (w.heap.size + 1) (w.heap.size + 1 + 1) (w.heap.size + 1 + 1 + 1 + 1) (exX C A nn cc day (w.heap.size + 1 + 1 + 1) (w.heap.size + 1)) (addF (addAll (addAll [] (expF c day)) ((needs.take p).flatMap (lackF docs))) ⟨-1, xk, ⟨#[]⟩, 1⟩) W) := fun W e => by
                    subst e
                    exact tell_ex ⟨-1, xk, ⟨#[]⟩, 1⟩ hfits (by have := hlen.out; omega) hx6.out.drew
                  have hc' := Lib.hid hc
                  clear hc hfits
                  go_region_with ((go_at_call 57; (with_reducible refine (hc'.out _ ?_).mono ?_); rfl; rintro e w3 ⟨rfl, v3, g1, g2⟩; have g1' := Lib.hid g1; have g2' := Lib.hid g2; clear g1 g2))
                  all_goals
                    go_wp2_with fail
                    go_roundw
                    case rel =>
                      have hd6 := hx6.out.drew
                      exact ⟨p + 1, m + 1, v3, _, by omega, by omega, by go_num, by unfold Hid; rw [hsn.out, addAll_app, hlac.out]; exact g1'.out, hd6.keep g2'.out hcr6.out.drew (by decide) (by decide), hd6.keepM g2'.out hm6.out.drew (by have := hcmB.out; omega), hd6.keepM g2'.out hk6'.out.drew (by have := hcmB.out; have := hakB.out; omega), hTp⟩
                    case measure => simp [intOf]; omega
                · have hlac := Lib.hid ((hLk.out _ rfl).2 hcx)
                  go_roundw
                  case rel => exact ⟨p + 1, m + 1, v2, _, by omega, by omega, by go_num, by unfold Hid; rw [hsn.out, hlac.out, List.append_nil]; exact hx6.out, hcr6, hm6, hk6', hTp⟩
                  case measure => simp [intOf]; omega
              · obtain rfl : nl = p := by omega
                rw [List.take_of_length_le (by have := hnl.out; omega)] at hT5 hx5
                obtain ⟨Y, hY⟩ : ∃ Y, Hid (wr = Y) := ⟨_, rfl⟩
                rw [hY.out] at hx5 hcr5 hm5 hk5 ⊢
                clear hY hlt hp
                have hmm := @run_makeMap Tryz.prog
                have hah := Lib.hid (MapFn.made Y Tryz.prog 9 9 (plainElem_string (s := ⟨#[]⟩) Tryz.underlying9 (by decide)))
                have hx6 := Lib.hid (hx5.out.alloc (.map #[] 0))
                have hk6 := Lib.hid (hk5.out.alloc (.map #[] 0))
                have hahB : Hid (ak < Y.heap.size) := hk5.out.lt
                have hl2 : Hid ((addAll (addAll [] (expF c day)) (needs.flatMap (lackF docs))).length ≤ 100) := by
                  have e1 := addAll_len (needs.flatMap (lackF docs)) (addAll [] (expF c day))
                  have e2 := flat_le _ (lackF_le docs) needs
                  have e3 := hF.out.1
                  have := hl1.out; unfold Hid; omega
                obtain ⟨ah, hahv⟩ : ∃ ah, Hid (Y.heap.size = ah) := ⟨_, rfl⟩
                go_wp2_with fail
                rw [hahv.out]
                rw [hahv.out] at hah hahB
                go_loopw [17, 18, 79] (fun _ _ i wz => ∃ (r h : Nat) (v' : Value) (R : Value → Option Value), r ≤ nn ∧ h ≤ 6 * r ∧ i = .int .i64 r ∧ Hid (ExS w (w.heap.size + 1 + 1 + 1) (w.heap.size + 1) (w.heap.size + 1 + 1) (w.heap.size + 1 + 1 + 1 + 1) (exX C A nn cc day (w.heap.size + 1 + 1 + 1) (w.heap.size + 1)) wz v' (addAll (addAll (addAll [] (expF c day)) (needs.flatMap (lackF docs))) ((List.range r).flatMap (docAt c needs docs day)))) ∧ Hid (MapFn wz Tryz.prog 3 4 ak m (.bool false) T) ∧ Hid (MapFn wz Tryz.prog 9 9 ah h (.string ⟨#[]⟩) R) ∧ Hid (Ahead0 needs (docs.take r) R)) (fun _ _ i _ => nn - (intOf i).toNat)
                case atStart => exact ⟨0, 0, v2, _, Nat.zero_le _, Nat.le_refl _, rfl, hx6, hk6, hah, by rw [List.take_zero]; exact Ahead0.start needs⟩
                case round =>
                  clear hx6 hk6 hah hx5 hcr5 hm5 hk5 hahv
                  obtain ⟨r, h, v3, R, hr, hh, rfl, hx7, hk7, ha7, hA7⟩ := hrel
                  by_cases hlt : r < nn
                  · obtain ⟨d, hd⟩ : ∃ d, docs[r]? = some d := ⟨_, List.getElem?_eq_getElem (by have := hR.out.len; omega)⟩
                    have hkd := kind_of hR.out.at_ hd
                    have hd' := Lib.hid hd
                    have hsn := Lib.hid (docs_snoc c needs docs day r)
                    have hdoc : Hid (docAt c needs docs day r = docF c needs docs day r d) := by unfold Hid docAt; rw [hd]
                    have hlk0 := Lib.hid (hT5.out d.kind)
                    have hlen : Hid ((addAll (addAll (addAll [] (expF c day)) (needs.flatMap (lackF docs))) ((List.range r).flatMap (docAt c needs docs day))).length + 2000 ≤ 100000) := by
                      have e1 := addAll_len ((List.range r).flatMap (docAt c needs docs day)) (addAll (addAll [] (expF c day)) (needs.flatMap (lackF docs)))
                      have e2 := docs_len (c := c) (docs := docs) (day := day) hF.out r
                      have := hl2.out; unfold Hid; omega
                    obtain ⟨b, off, rfl, h0, h1, h2, h3, _⟩ := (hR.out.at_.below hx7.out.below) r d hd
                    clear hd
                    obtain ⟨kd, nu, is, fA, fc, fs⟩ := d
                    simp only at h0 h1 h2 h3 hkd hlk0
                    obtain ⟨fm, hfm⟩ : ∃ m, Hid (fs.length = m) := ⟨_, rfl⟩
                    rw [hfm.out] at h3
                    obtain ⟨hk1, hk2⟩ := hkd
                    have hwf := Lib.hid (fits_i64 hk1 hk2)
                    have hbA := Lib.hid ((Below.refl _ wr).alloc (Nat.le_refl _) (.cells #[.int .i64 kd, .string nu, .string is, .slice fA fm fc] 61))
                    have hxA := Lib.hid (hx7.out.belows hbA.out)
                    have hkA := Lib.hid (hk7.out.alloc (.cells #[.int .i64 kd, .string nu, .string is, .slice fA fm fc] 61))
                    have haA := Lib.hid (ha7.out.alloc (.cells #[.int .i64 kd, .string nu, .string is, .slice fA fm fc] 61))
                    have hlk := hkA.out.look int_keyed3 Tryz.underlying37 (zero4 _) (keyOf_int_mk Tryz.underlying3 hwf.out)
                    rw [hlk0.out] at hlk
                    obtain ⟨ab, hab⟩ : ∃ ab, Hid (askedB needs kd = ab) := ⟨_, rfl⟩
                    rw [hab.out] at hlk
                    cases ab
                    · have hdn : Hid (docF c needs docs day r ⟨kd, nu, is, fA, fc, fs⟩ = []) := by unfold Hid docF; rw [hab.out]; rfl
                      have hA8 := Lib.hid (hA7.out.skip hd'.out hab.out)
                      go_wp2_with fail
                      go_roundw
                      case rel => exact ⟨r + 1, h, v3, R, by omega, by omega, by go_num, by unfold Hid; rw [hsn.out, hdoc.out, hdn.out, List.append_nil]; exact hxA.out, hkA, haA, hA8⟩
                      case measure => simp [intOf]; omega
                    · have hdn : Hid (docF c needs docs day r ⟨kd, nu, is, fA, fc, fs⟩ = paperF c needs docs day r ⟨kd, nu, is, fA, fc, fs⟩ ++ othersF needs (docs.take r) r ⟨kd, nu, is, fA, fc, fs⟩) := by unfold Hid docF; rw [hab.out]; rfl
                      have hpl : Hid ((addAll (addAll (addAll (addAll [] (expF c day)) (needs.flatMap (lackF docs))) ((List.range r).flatMap (docAt c needs docs day))) (paperF c needs docs day r ⟨kd, nu, is, fA, fc, fs⟩)).length + 10 ≤ 100000) := by
                        have e1 := addAll_len (paperF c needs docs day r ⟨kd, nu, is, fA, fc, fs⟩) (addAll (addAll (addAll [] (expF c day)) (needs.flatMap (lackF docs))) ((List.range r).flatMap (docAt c needs docs day)))
                        have e2 := docF_len (c := c) (docs := docs) (day := day) (a := r) (d := ⟨kd, nu, is, fA, fc, fs⟩) hF.out
                        rw [hdn.out, List.length_append] at e2
                        have := hlen.out; unfold Hid; omega
                      go_wp2_with fail
                      refine (exPaper_any w (w.heap.size + 1 + 1 + 1) (w.heap.size + 1) (w.heap.size + 1 + 1) (w.heap.size + 1 + 1 + 1 + 1) C c hC hO nA nl nc needs hC17 hnl hN hF _ nn cc docs day hday r _ hd' hR _ v3 _ (by have := hlen.out; unfold Hid; omega) hxA).mono ?_
                      rintro e w1 ⟨rfl, v4, g1, g2⟩
                      have hx8 := Lib.hid g1
                      have hk8 := Lib.hid (hxA.out.keepM g2 hkA.out (by have := hcmB.out; have := hakB.out; omega))
                      have ha8 := Lib.hid (hxA.out.keepM g2 haA.out (by have := hcmB.out; have := hakB.out; have := hahB.out; omega))
                      clear g1 g2 hlk h0 h1 h2 h3
                      go_wp2_with fail
                      refine (others_any w (w.heap.size + 1 + 1 + 1) (w.heap.size + 1) (w.heap.size + 1 + 1) (w.heap.size + 1 + 1 + 1 + 1) C hCs needs _ nn cc docs day r _ hd' hab hR hal ah h R _ v4 _ hpl (by omega) hx8 ha8 (by have := hcmB.out; have := hakB.out; have := hahB.out; unfold Hid; omega) (hA7.out.to _)).mono ?_
                      rintro e w2 ⟨rfl, v5, n5, S5, g1, g2, g3, g4, g5⟩
                      have hx9 := Lib.hid g1
                      have hk9 := Lib.hid (hx8.out.keepXM g2 hk8.out (by have := hcmB.out; have := hakB.out; omega) (by have := hahB.out; omega))
                      have ha9 := Lib.hid g4
                      have hA9 := Lib.hid (g5.out hd'.out)
                      clear g1 g2 g4 g5
                      go_wp2_with fail
                      go_roundw
                      case rel => exact ⟨r + 1, n5, v5, S5, by omega, by omega, by go_num, by unfold Hid; rw [hsn.out, hdoc.out, hdn.out, addAll_app, addAll_app]; exact hx9.out, hk9, ha9, hA9⟩
                      case measure => simp [intOf]; omega
                  · obtain rfl : nn = r := by omega
                    have hex : Hid ((addAll (addAll (addAll [] (expF c day)) (needs.flatMap (lackF docs))) ((List.range nn).flatMap (docAt c needs docs day))) = examF c needs docs day) := by
                      unfold Hid examF toldE
                      rw [addAll_app, addAll_app, show nn = docs.length from hR.out.len.symm]
                    rw [hex.out] at hx7
                    have qf : wr.cell? ⟨w.heap.size + 1, 0, none⟩ = some v3 := by rw [hx7.out.tell.fc.cell]; rfl
                    go_wp2_with fail
                    go_ret
                    exact ⟨v3, _, rfl, hx7.out.tell.row, hx7.out.below⟩
theorem examine_any (c : Crd) (hO : Hid c.okC) (nA : Option Addr) (nl nc : Nat) (needs : List Nd) (hnl : Hid (needs.length = nl)) (A : Option Addr) (nn cc : Nat) (docs : List Pap) (day : Int) (hday : Hid (-9223372036854775808 ≤ day ∧ day ≤ 9223372036854775807)) (w : World)
    (hN : Hid (NdsAt w nA needs)) (hF : Hid (FewParts needs)) (hR : Hid (Room w A nn docs)) (hal : Hid (AlikeAt w)) (hn12 : nn ≤ 12) :
    Calls Tryz.prog 21 #[.agg (c.cells (.slice nA nl nc)), .slice A nn cc, .int .i64 day] w (FaultedC w (examF c needs docs day)) :=
  (examine_own c hO nA nl nc needs hnl A nn cc docs day hday w hN hF hR hal hn12).mono fun e w' ⟨v, B, he, ho, hb⟩ => by
    obtain ⟨A', c', hv, hc, hF⟩ := own_faults ho rfl
    exact ⟨A', c', by rw [he, hv], hc, hF, hb⟩
end Go.Proofs.YtdjmckjbibfecaaGreatDoor

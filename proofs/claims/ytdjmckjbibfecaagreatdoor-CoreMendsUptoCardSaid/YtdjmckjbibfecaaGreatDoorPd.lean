/- The document's cure of a fault. -/
import Derived.Test.YtdjmckjbibfecaaGreatDoorMh
import Derived.Test.YtdjmckjbibfecaaGreatDoorMj
import Derived.Test.YtdjmckjbibfecaaGreatDoorPc
namespace Go.Proofs.YtdjmckjbibfecaaGreatDoor
open Go Go.RowKit Go.BigFrame Go.Maps

theorem cureD_or (c : Crd) (needs : List Nd) (docs : List Pap) (day : Int) (a : Nat) (d : Pap) (s : ByteArray) : cureD c needs docs day a d s = ((partyM c d s).or (sumM c d s)).or ((issuedM c day d s).or ((partM needs docs d s).or (otherM needs (docs.take a) d s))) := by
  unfold cureD
  rw [← Option.or_assoc]
theorem first_none {c : Crd} {d : Pap} {s : ByteArray} (h : d.kind ≠ 0) : (partyM c d s).or (sumM c d s) = none := by
  unfold partyM sumM
  rw [if_neg h, if_neg (fun h9 : d.kind = 0 ∧ s.toList = nSum.toList => h h9.1)]
  rfl
theorem issued_none {c : Crd} {day : Int} {d : Pap} {s : ByteArray} (h : ¬ (d.kind = 2 ∧ s.toList = nIssued.toList)) : issuedM c day d s = none := by
  unfold issuedM
  rw [if_neg h]
/-- Has the day to be another one? -/
def lateO (c : Crd) (day : Int) : Option Int → Bool
  | none => true
  | some n => lateB c n day
theorem issued_some {c : Crd} {day : Int} {d : Pap} {s v : ByteArray} {b : Bool} (h : d.kind = 2 ∧ s.toList = nIssued.toList) (hv : getV d.fields s = v) (hb : getB d.fields s = b) : issuedM c day d s = if lateO c day (if b = true then numF v.data.toList else none) = true then some (mkB (Lib.itoa (min c.latest day))) else none := by
  subst hv; subst hb
  unfold issuedM numV
  rw [if_pos h]
  cases (if getB d.fields s = true then numF (getV d.fields s).data.toList else none) with
  | none => rfl
  | some n =>
    show (if n ≤ c.latest ∧ behindB day n c.within = false then none else _) = (if lateB c n day = true then _ else none)
    by_cases h1 : n ≤ c.latest ∧ behindB day n c.within = false
    · rw [if_pos h1, if_neg]
      unfold lateB
      rw [h1.2, decide_eq_false (by omega)]; decide
    · rw [if_neg h1, if_pos]
      unfold lateB
      rcases Classical.not_and_iff_not_or_not.1 h1 with h2 | h2
      · rw [decide_eq_true (by omega)]; rfl
      · rw [show behindB day n c.within = true by simpa using h2, Bool.or_true]
theorem lateO_eq (c : Crd) (day : Int) (b : Bool) (o : Option Int) : lateO c day (if b = true then o else none) = (!b || (!o.isSome || lateB c (o.getD 0) day)) := by
  cases b <;> cases o <;> rfl
/-- The parts that are left. -/
theorem partM_eq (needs : List Nd) (docs : List Pap) (d : Pap) (s : ByteArray) : partM needs docs d s = ((failL needs docs d).find? fun t => isAt t.kind && decide (t.field.toList = s.toList)).bind (curT docs (getV d.fields s)) := rfl
def isPart (s : ByteArray) (t : Tree) : Bool := isAt t.kind && decide (t.field.toList = s.toList)
theorem find_next {l : List Tree} {p : Tree → Bool} {k : Nat} {t : Tree} {r : Option Tree} (h : r = (l.drop k).find? p) (ht : l[k]? = some t) : r = if p t = true then some t else (l.drop (k + 1)).find? p := by
  obtain ⟨hk, he⟩ := List.getElem?_eq_some_iff.1 ht
  rw [h, List.drop_eq_getElem_cons hk, he, List.find?_cons]
  cases p t <;> rfl
set_option maxRecDepth 100000 in
set_option maxHeartbeats 6400000 in
theorem rcure_any (C : Array Value) (c : Crd) (hC : Hid (CrdAt C c)) (hO : Hid c.okC) (nA : Option Addr) (nl nc : Nat) (needs : List Nd) (hC17 : Hid (C[17]? = some (.slice nA nl nc))) (hnl : Hid (needs.length = nl)) (A : Option Addr) (nn cc : Nat) (docs : List Pap) (day : Int) (hday : Hid (-1073741824 ≤ day ∧ day ≤ 1073741824)) (f : Flt) (w : World)
    (hN : Hid (NdsAt w nA needs)) (hR : Hid (Room w A nn docs)) (hSm : Hid (∀ x ∈ needs, SmallT x.rule)) (hFP : Hid (FewParts needs)) (hnum : Hid (∀ d, ∀ t ∈ failL needs docs d, t.text.size ≤ 4000000 ∧ (-9223372036854775808 ≤ t.num ∧ t.num ≤ 9223372036854775807))) :
    Calls Tryz.prog 74 #[.agg C, .slice A nn cc, .int .i64 day, f.agg] w (CuredR (cureM c needs docs day f) w) := by
  have hnn := hR.out.most
  have hlen := Lib.hid hR.out.len
  have hCz := Lib.hid hC.out.size
  have hsz : Hid ((Tryz.prog.info? 46).map (·.size) = some C.size) := by unfold Hid; rw [hCz.out]; kernel_rfl
  obtain ⟨fp, fk, ff, fw⟩ := f
  have hP : Hid (cureM c needs docs day ⟨fp, fk, ff, fw⟩ = if 0 ≤ fp ∧ ff.toList ≠ [] then (docs[fp.toNat]?).bind fun d => cureD c needs docs day fp.toNat d ff else none) := rfl
  obtain ⟨P, hPd⟩ : ∃ z, Hid (cureM c needs docs day ⟨fp, fk, ff, fw⟩ = z) := ⟨_, rfl⟩
  rw [hPd.out] at hP ⊢
  simp only [Flt.agg]
  clear hPd
  obtain ⟨w1, hw1⟩ : ∃ X, Hid ((w.alloc (.cells C 46)).alloc (.cells #[.int .i64 fp, .int .i64 fk, .string ff, .int .i64 fw] 54) = X) := ⟨_, rfl⟩
  have hs1 : (w.alloc (.cells C 46)).heap.size = w.heap.size + 1 := by simp
  have hb1 : Hid (Below w.heap.size w w1) := by
    rw [← hw1.out]
    have h1 := (Below.refl w.heap.size w).alloc (Nat.le_refl _) (.cells C 46)
    exact h1.alloc h1.size _
  have hK1 : Hid (Blk w1 w.heap.size 46 C) := by rw [← hw1.out]; exact Lib.hid ((Blk.new _ _ _).alloc _)
  have hF1 : Hid (Blk w1 (w.heap.size + 1) 54 #[.int .i64 fp, .int .i64 fk, .string ff, .int .i64 fw]) := by rw [← hw1.out, ← hs1]; exact Lib.hid (Blk.new _ _ _)
  obtain ⟨gc, hgc⟩ : ∃ z, Hid (w.heap.size = z) := ⟨_, rfl⟩
  obtain ⟨gf, hgf⟩ : ∃ z, Hid (w.heap.size + 1 = z) := ⟨_, rfl⟩
  rw [hgf.out] at hF1 hs1
  have e0 : w.heap.size = gc := hgc.out
  have e1 : w.heap.size + 1 = gf := hgf.out
  have e1' : gc + 1 = gf := by omega
  have hK1' : Hid (Blk w1 gc 46 C) := by rw [← hgc.out]; exact hK1
  have r0 : w1.cell? ⟨gf, 0, none⟩ = some (.int .i64 fp) := hF1.out.cell 0
  have r2 : w1.cell? ⟨gf, 2, none⟩ = some (.string ff) := hF1.out.cell 2
  by_cases h0 : 0 ≤ fp
  · by_cases h1 : fp < (nn : Int)
    · by_cases h2 : ff.toList = []
      · have hp : Hid (P = none) := by unfold Hid; rw [hP.out, if_neg (fun h => h.2 h2)]
        have q2 : (ff.toList == []) = true := by rw [h2]; rfl
        have q3 : ff.toList.isEmpty = true := by rw [h2]; rfl
        clear h2
        go_enter Tryz.func74, Tryz.ntmps74
        go_wp2_with (first | rw [hw1.out] | rw [hs1])
        all_goals try (exfalso; omega)
        go_ret2
        exact curedR (by rw [hp.out]; rfl) hb1.out
      · obtain ⟨a, rfl⟩ : ∃ a : Nat, fp = a := ⟨fp.toNat, by omega⟩
        obtain ⟨d, hd⟩ : ∃ d, docs[a]? = some d := ⟨_, List.getElem?_eq_getElem (by have := hlen.out; omega)⟩
        have hd' := Lib.hid hd
        have hP2 : Hid (P = ((partyM c d ff).or (sumM c d ff)).or ((issuedM c day d ff).or ((partM needs docs d ff).or (otherM needs (docs.take a) d ff)))) := by
          unfold Hid
          rw [hP.out, if_pos ⟨h0, h2⟩, Int.toNat_natCast, hd, Option.bind_some, cureD_or]
        have q2 : (ff.toList == []) = false := beq_eq_false_iff_ne.2 h2
        have q3 : ff.toList.isEmpty = false := by
          cases hh : ff.toList with
          | nil => exact absurd hh h2
          | cons x l => rfl
        have hvz := Lib.hid (small_getV (s := ff) hR.out.small hd)
        have i0 : ¬ ((a : Int) < 0) := by omega
        have i1 : decide ((a : Int) < 0) = false := decide_eq_false (by omega)
        have i2 : decide (nn ≤ a) = false := decide_eq_false (by omega)
        have i3 : (a : Int) < (nn : Int) := h1
        have i4 : (0 : Int) ≤ (a : Int) := h0
        obtain ⟨b3, f3, hA, dc0, dc1, dc2, d3, dF, dl, _⟩ := (hR.out.at_.below hb1.out) a d hd
        have dF' := Lib.hid dF
        have dl' := Lib.hid dl
        clear hP hd h2 dF dl
        obtain ⟨w2, hw2⟩ : ∃ X, Hid (w1.alloc (.cells #[.int .i64 d.kind, .string d.number, .string d.issuer, .slice d.fA d.fields.length d.fc] 61) = X) := ⟨_, rfl⟩
        have hb2 : Hid (Below w1.heap.size w1 w2) := by rw [← hw2.out]; exact Lib.hid ((Below.refl _ w1).alloc (Nat.le_refl _) _)
        have hB2 : Hid (Below w.heap.size w w2) := hb1.out.trans (hb2.out.mono hb1.out.size)
        obtain ⟨gd, hgd⟩ : ∃ z, Hid (w1.heap.size = z) := ⟨_, rfl⟩
        have e2 : w1.heap.size = gd := hgd.out
        have hD2 : Hid (Blk w2 gd 61 #[.int .i64 d.kind, .string d.number, .string d.issuer, .slice d.fA d.fields.length d.fc]) := by rw [← hw2.out, ← hgd.out]; exact Lib.hid (Blk.new _ _ _)
        have hK2 := Lib.hid (hK1'.out.below hb2.out hK1'.out.lt)
        have hF2 := Lib.hid (hF1.out.below hb2.out hF1.out.lt)
        obtain ⟨v, hv⟩ : ∃ z, Hid (getV d.fields ff = z) := ⟨_, rfl⟩
        obtain ⟨b, hbd⟩ : ∃ z, Hid (getB d.fields ff = z) := ⟨_, rfl⟩
        have hget := Lib.hid (getR_any d.fA d.fields.length d.fc d.fields ff w2 dl'.out (Lib.hid rfl) (Lib.hid (dF'.out.below hb2.out)))
        rw [hv.out, hbd.out] at hget
        have hinv : Hid (d.kind = 0 → ∀ W, Below w.heap.size w W → Calls Tryz.prog 124 #[.agg C, .agg #[.int .i64 d.kind, .string d.number, .string d.issuer, .slice d.fA d.fields.length d.fc], .string ff] W (CuredR ((partyM c d ff).or (sumM c d ff)) W)) := Lib.hid fun hk W hW => rinvoice_any C c hC hO d (Lib.hid hk) ff W dl' (Lib.hid (by
          obtain ⟨_, _, _, _, _, _, _, g, _⟩ := (hR.out.at_.below hW) a d hd'.out
          exact g))
        have hR1n : Hid (d.kind ≠ 0 → (partyM c d ff).or (sumM c d ff) = none) := Lib.hid fun h => first_none h
        obtain ⟨R1, hR1⟩ : ∃ z, Hid ((partyM c d ff).or (sumM c d ff) = z) := ⟨_, rfl⟩
        have hR2n : Hid (¬ (d.kind = 2 ∧ ff.toList = nIssued.toList) → issuedM c day d ff = none) := Lib.hid fun h => issued_none h
        have hR2s : Hid (d.kind = 2 ∧ ff.toList = nIssued.toList → _) := Lib.hid fun h => issued_some (c := c) (day := day) h hv.out hbd.out
        obtain ⟨R2, hR2⟩ : ∃ z, Hid (issuedM c day d ff = z) := ⟨_, rfl⟩
        obtain ⟨R3, hR3⟩ : ∃ z, Hid (partM needs docs d ff = z) := ⟨_, rfl⟩
        obtain ⟨R4, hR4⟩ : ∃ z, Hid (otherM needs (docs.take a) d ff = z) := ⟨_, rfl⟩
        rw [hR1.out, hR2.out, hR3.out, hR4.out] at hP2
        rw [hR1.out] at hinv hR1n
        rw [hR2.out] at hR2n hR2s
        obtain ⟨dk, hdk⟩ : ∃ z, Hid (d.kind = z) := ⟨_, rfl⟩
        obtain ⟨dn, hdn⟩ : ∃ z, Hid (d.number = z) := ⟨_, rfl⟩
        obtain ⟨di, hdi⟩ : ∃ z, Hid (d.issuer = z) := ⟨_, rfl⟩
        obtain ⟨dA, hdA⟩ : ∃ z, Hid (d.fA = z) := ⟨_, rfl⟩
        obtain ⟨dm, hdm⟩ : ∃ z, Hid (d.fields.length = z) := ⟨_, rfl⟩
        obtain ⟨dq, hdq⟩ : ∃ z, Hid (d.fc = z) := ⟨_, rfl⟩
        rw [hdk.out, hdn.out, hdi.out, hdA.out, hdm.out, hdq.out] at hD2 hw2
        rw [hdk.out, hdn.out, hdi.out, hdA.out, hdm.out, hdq.out] at hinv
        rw [hdk.out] at dc0 hR1n hR2n hR2s
        rw [hdn.out] at dc1
        rw [hdi.out] at dc2
        rw [hdA.out, hdm.out, hdq.out] at d3 hget
        clear hdn hdi hdA hdm hdq dF' dl'
        subst hA
        have k0 : w2.cell? ⟨gd, 0, none⟩ = some (.int .i64 dk) := hD2.out.cell 0
        have k3 : w2.cell? ⟨gd, 3, none⟩ = some (.slice dA dm dq) := hD2.out.cell 3
        have s2 : w2.cell? ⟨gf, 2, none⟩ = some (.string ff) := hF2.out.cell 2
        go_enter Tryz.func74, Tryz.ntmps74
        go_wp2_with (first | rw [hw1.out] | rw [hs1] | rw [hw2.out])
        all_goals try (exfalso; omega)
        refine hget.out.mono ?_
        rintro e w3 ⟨rfl, hb3⟩
        have hB3 : Hid (Below w.heap.size w w3) := hB2.out.trans (hb3.mono hB2.out.size)
        have hD3 := Lib.hid (hD2.out.below hb3 hD2.out.lt)
        have hK3 := Lib.hid (hK2.out.below hb3 hK2.out.lt)
        have hF3 := Lib.hid (hF2.out.below hb3 hF2.out.lt)
        clear hb3 hget k0 k3 s2 hw2 hb2 hB2 hD2 hK2 hF2 dc0 dc1 dc2 d3 r0 r2 hF1 hK1 hK1' hb1
        have k0 : w3.cell? ⟨gd, 0, none⟩ = some (.int .i64 dk) := hD3.out.cell 0
        go_upto_if 56 with fail
        go_cut [] (fun wx => Hid (R1 = none) ∧ Hid (Below w3.heap.size w3 wx))
        case first => as_aux_lemma =>
          have k1 : w3.cell? ⟨gd, 1, none⟩ = some (.string dn) := hD3.out.cell 1
          have k2 : w3.cell? ⟨gd, 2, none⟩ = some (.string di) := hD3.out.cell 2
          have k3 : w3.cell? ⟨gd, 3, none⟩ = some (.slice dA dm dq) := hD3.out.cell 3
          have s2 : w3.cell? ⟨gf, 2, none⟩ = some (.string ff) := hF3.out.cell 2
          by_cases hk0 : dk = 0
          · subst hk0
            have hi := Lib.hid (hinv.out rfl w3 hB3.out)
            clear hinv hR1n hR2n hR2s
            go_wp2_with (first | (refine wpList_load_blk rfl 46 (.tmp 4) rfl gc C 46 _ rfl hK3.out Tryz.underlying46 rfl hsz.out ?_))
            refine hi.out.mono ?_
            rintro e w4 ⟨⟨u, ok, rfl, hr⟩, hb4⟩
            have hr' := Lib.hid hr
            have hb4' := Lib.hid hb4
            clear hr hb4 hi
            cases ok with
            | false =>
              go_wp2_with fail
              go_meet
              case rel => exact ⟨by unfold Hid; rw [hr'.out]; rfl, hb4'⟩
            | true =>
              go_wp2_with fail
              go_ret2
              exact curedR (by rw [hP2.out, hr'.out]; rfl) (hB3.out.trans (hb4'.out.mono hB3.out.size))
          · have z0 : (dk == 0) = false := by simp [hk0]
            have hr' := Lib.hid (hR1n.out hk0)
            go_wp2_with fail
            go_meet
            case rel => exact ⟨hr', Below.refl _ _⟩
        case rest =>
          obtain ⟨hr1, hb4⟩ := hcut
          have hB4 : Hid (Below w.heap.size w wc) := hB3.out.trans (hb4.out.mono hB3.out.size)
          have hD4 := Lib.hid (hD3.out.below hb4.out hD3.out.lt)
          have hK4 := Lib.hid (hK3.out.below hb4.out hK3.out.lt)
          have hF4 := Lib.hid (hF3.out.below hb4.out hF3.out.lt)
          have hP3 : Hid (P = R2.or (R3.or R4)) := by unfold Hid; rw [hP2.out, hr1.out]; exact Option.none_or
          clear hP2 hr1 hb4 hD3 hK3 hF3 hR1 hR1n hinv k0
          obtain ⟨w4, hw4⟩ : ∃ z, Hid (wc = z) := ⟨_, rfl⟩
          rw [hw4.out] at hB4 hD4 hK4 hF4 ⊢
          clear hw4
          obtain ⟨bi, hbi⟩ : ∃ z, Hid (decide (dk = 2 ∧ ff.toList = nIssued.toList) = z) := ⟨_, rfl⟩
          go_upto_region 9 with fail
          go_cut [74] (fun z wx => z = .bool bi ∧ Hid (Below w4.heap.size w4 wx))
          case first => as_aux_lemma =>
            have k0 : w4.cell? ⟨gd, 0, none⟩ = some (.int .i64 dk) := hD4.out.cell 0
            have s2 : w4.cell? ⟨gf, 2, none⟩ = some (.string ff) := hF4.out.cell 2
            by_cases hk2 : dk = 2
            · have z0 : (dk == 2) = true := by simp [hk2]
              by_cases hs : ff.toList = nIssued.toList
              · have q0 : (ff.toList == [105, 115, 115, 117, 101, 100]) = true := beq_iff_eq.2 (hs.trans nIssued_list)
                have hbt : Hid (bi = true) := by unfold Hid; rw [← hbi.out]; exact decide_eq_true ⟨hk2, hs⟩
                clear hs hk2 hbi
                go_wp2_with fail
                go_meet
                case rel => exact ⟨by rw [hbt.out], Below.refl _ _⟩
              · have q0 : (ff.toList == [105, 115, 115, 117, 101, 100]) = false := beq_eq_false_iff_ne.2 (fun h => hs (h.trans nIssued_list.symm))
                have hbt : Hid (bi = false) := by unfold Hid; rw [← hbi.out]; exact decide_eq_false (fun h => hs h.2)
                clear hs hk2 hbi
                go_wp2_with fail
                go_meet
                case rel => exact ⟨by rw [hbt.out], Below.refl _ _⟩
            · have z0 : (dk == 2) = false := by simp [hk2]
              have hbt : Hid (bi = false) := by unfold Hid; rw [← hbi.out]; exact decide_eq_false (fun h => hk2 h.1)
              clear hk2 hbi
              go_wp2_with fail
              go_meet
              case rel => exact ⟨by rw [hbt.out], Below.refl _ _⟩
          case rest =>
            obtain ⟨rfl, hb5⟩ := hcut
            have hB5 : Hid (Below w.heap.size w wc) := hB4.out.trans (hb5.out.mono hB4.out.size)
            have hD5 := Lib.hid (hD4.out.below hb5.out hD4.out.lt)
            have hK5 := Lib.hid (hK4.out.below hb5.out hK4.out.lt)
            have hF5 := Lib.hid (hF4.out.below hb5.out hF4.out.lt)
            clear hb5 hB4 hD4 hK4 hF4
            obtain ⟨w5, hw5⟩ : ∃ z, Hid (wc = z) := ⟨_, rfl⟩
            rw [hw5.out] at hB5 hD5 hK5 hF5 ⊢
            clear hw5
            go_upto_if 74 with fail
            go_cut [] (fun wx => Hid (R2 = none) ∧ Hid (Below w5.heap.size w5 wx))
            case first => as_aux_lemma =>
              cases bi with
              | false =>
                have hn : Hid (R2 = none) := Lib.hid (hR2n.out (of_decide_eq_false hbi.out))
                go_wp2_with fail
                go_meet
                case rel => exact ⟨hn, Below.refl _ _⟩
              | true =>
                have hR2e := Lib.hid (hR2s.out (of_decide_eq_true hbi.out))
                clear hR2s hR2n hbi
                have hCl := hC.out.latest
                go_wp2_with fail
                refine (numberR_any v w5).mono ?_
                rintro e w6 ⟨rfl, hb6⟩
                have hb6' := Lib.hid hb6
                have hB6 : Hid (Below w.heap.size w w6) := hB5.out.trans (hb6.mono hB5.out.size)
                have hK6 := Lib.hid (hK5.out.below hb6 hK5.out.lt)
                clear hb6
                obtain ⟨bt, hbt⟩ : ∃ z, Hid (lateO c day (if b = true then numF v.data.toList else none) = z) := ⟨_, rfl⟩
                rw [hbt.out] at hR2e
                obtain ⟨tn, htn⟩ : ∃ z, numF v.data.toList = z := ⟨_, rfl⟩
                have hrn : Hid (-4611686018427387904 ≤ tn.getD 0 ∧ tn.getD 0 ≤ 4611686018427387904) := Lib.hid (by
                  cases tn with
                  | none => exact ⟨by decide, by decide⟩
                  | some n => exact numF_in htn)
                rw [htn, lateO_eq] at hbt
                rw [htn]
                unfold twoN
                obtain ⟨n, hn⟩ : ∃ z, tn.getD 0 = z := ⟨_, rfl⟩
                obtain ⟨ok, hok⟩ : ∃ z, tn.isSome = z := ⟨_, rfl⟩
                rw [hn, hok] at hbt ⊢
                rw [hn] at hrn
                clear htn hn hok
                go_upto_region 11 with fail
                go_cut [91] (fun z wx => z = .bool bt ∧ Hid (Below w6.heap.size w6 wx))
                case first =>
                  cases b with
                  | false =>
                    have hb1 : Hid (bt = true) := hbt.out.symm
                    go_wp2_with fail
                    go_meet
                    case rel => exact ⟨by rw [hb1.out], Below.refl _ _⟩
                  | true =>
                    cases ok with
                    | false =>
                      have hb1 : Hid (bt = true) := hbt.out.symm
                      go_wp2_with fail
                      go_meet
                      case rel => exact ⟨by rw [hb1.out], Below.refl _ _⟩
                    | true =>
                      have hb1 : Hid (lateB c n day = bt) := hbt.out
                      have hl := Lib.hid (late_any C c hC n day hrn.out hday.out w6)
                      rw [hb1.out] at hl
                      go_wp2_with (first | (refine wpList_load_blkg rfl 46 (.tmp 4) rfl gc C 46 _ rfl hK6.out Tryz.underlying46 rfl hsz.out ?_))
                      refine hl.out.mono ?_
                      rintro e w7 ⟨rfl, hb7⟩
                      have hb7' := Lib.hid hb7
                      clear hb7 hl
                      go_wp2_with fail
                      go_meet
                      case rel => exact ⟨rfl, hb7'⟩
                case rest =>
                  obtain ⟨rfl, hb7⟩ := hcut
                  have hB7 : Hid (Below w.heap.size w wc) := hB6.out.trans (hb7.out.mono hB6.out.size)
                  have hb57 : Hid (Below w5.heap.size w5 wc) := hb6'.out.trans (hb7.out.mono hb6'.out.size)
                  have hK7 := Lib.hid (hK6.out.below hb7.out hK6.out.lt)
                  cases bt with
                  | false =>
                    have hn : Hid (R2 = none) := hR2e
                    go_wp2_with fail
                    go_meet
                    case rel => exact ⟨hn, hb57⟩
                  | true =>
                    have hR2f : Hid (R2 = some (mkB (Lib.itoa (min c.latest day)))) := hR2e
                    have k11 : wc.cell? ⟨gc, 11, none⟩ = some (.int .i64 c.latest) := (hK7.out.cell 11).trans hC.out.latest
                    have hdr : Hid (-9223372036854775808 ≤ day ∧ day ≤ 9223372036854775807) := Lib.hid (by have := hday.out; omega)
                    by_cases hdl : day < c.latest
                    · have hm : Hid (min c.latest day = day) := Lib.hid (by omega)
                      have hdd : decide (day < c.latest) = true := decide_eq_true hdl
                      clear hdl
                      go_wp2_with fail
                      refine (dig32_any day wc hdr.out).mono ?_
                      rintro e w8 ⟨rfl, hb8⟩
                      have hB8 : Hid (Below w.heap.size w w8) := hB7.out.trans (hb8.mono hB7.out.size)
                      clear hb8
                      go_wp2_with fail
                      go_ret2
                      exact curedR (by rw [hP3.out, hR2f.out, hm.out]; rfl) hB8.out
                    · have hm : Hid (min c.latest day = c.latest) := Lib.hid (by omega)
                      have hdd : decide (day < c.latest) = false := decide_eq_false hdl
                      clear hdl
                      go_wp2_with fail
                      refine (dig32_any c.latest wc hO.out.latest).mono ?_
                      rintro e w8 ⟨rfl, hb8⟩
                      have hB8 : Hid (Below w.heap.size w w8) := hB7.out.trans (hb8.mono hB7.out.size)
                      clear hb8
                      go_wp2_with fail
                      go_ret2
                      exact curedR (by rw [hP3.out, hR2f.out, hm.out]; rfl) hB8.out
            case rest =>
              obtain ⟨hr2, hb6⟩ := hcut
              have hB6 : Hid (Below w.heap.size w wc) := hB5.out.trans (hb6.out.mono hB5.out.size)
              have hD6 := Lib.hid (hD5.out.below hb6.out hD5.out.lt)
              have hK6 := Lib.hid (hK5.out.below hb6.out hK5.out.lt)
              have hF6 := Lib.hid (hF5.out.below hb6.out hF5.out.lt)
              have hP4 : Hid (P = R3.or R4) := by unfold Hid; rw [hP3.out, hr2.out]; exact Option.none_or
              clear hP3 hr2 hb6 hB5 hD5 hK5 hF5 hR2s hR2n hR2 hbi
              obtain ⟨w6, hw6⟩ : ∃ z, Hid (wc = z) := ⟨_, rfl⟩
              rw [hw6.out] at hB6 hD6 hK6 hF6 ⊢
              clear hw6
              have hfl := Lib.hid (failR_any C nA nl nc needs hC17 hnl (some ⟨b3, f3, none⟩) nn cc docs a d (Lib.hid hd'.out) w6 (Lib.hid (hN.out.below hB6.out)) (Lib.hid (hR.out.below hB6.out)) hSm hFP)
              have s0 : w6.cell? ⟨gf, 0, none⟩ = some (.int .i64 (a : Int)) := hF6.out.cell 0
              go_wp2_with (first | (refine wpList_load_blk rfl 46 (.tmp 4) rfl gc C 46 _ rfl hK6.out Tryz.underlying46 rfl hsz.out ?_))
              refine hfl.out.mono ?_
              rintro e w7 ⟨v7, rfl, ho7, hb7⟩
              have hB7 : Hid (Below w.heap.size w w7) := hB6.out.trans (hb7.mono hB6.out.size)
              have hD7 := Lib.hid (hD6.out.below hb7 hD6.out.lt)
              have hK7 := Lib.hid (hK6.out.below hb7 hK6.out.lt)
              have hF7 := Lib.hid (hF6.out.below hb7 hF6.out.lt)
              have hFl := Lib.hid (failL_len (docs := docs) (d := d) hFP.out)
              have hFn := Lib.hid (hnum.out d)
              obtain ⟨Ap, cp, rfl⟩ := own_form ho7
              have hPe : Hid (R3 = ((failL needs docs d).find? (isPart ff)).bind (curT docs v)) := by unfold Hid; rw [← hR3.out, ← hv.out]; exact partM_eq needs docs d ff
              obtain ⟨FL, hFL⟩ : ∃ l, Hid (failL needs docs d = l) := ⟨_, rfl⟩
              rw [hFL.out] at hFl hFn hPe ho7 ⊢
              obtain ⟨np, hnp⟩ : ∃ z, Hid (FL.length = z) := ⟨_, rfl⟩
              rw [hnp.out] at ho7 hFl ⊢
              have hrow := Lib.hid ho7
              have hv1 := hvz.out
              rw [hv.out] at hv1
              have hv1' := Lib.hid hv1
              clear ho7 hb7 hfl hB6 hD6 hK6 hF6 s0 hR3 hFL hv1
              go_upto_block 0 with fail
              go_cut [] (fun wx => Hid (R3 = none) ∧ Hid (Below w7.heap.size w7 wx))
              case first => as_aux_lemma =>
                go_wp2_with fail
                go_loopw [8, 9, 18, 19, 20] (fun _ _ i _ _ wr => ∃ k : Nat, k ≤ np ∧ i = .int .i64 k ∧ Hid (R3 = ((FL.drop k).find? (isPart ff)).bind (curT docs v)) ∧ Hid (Below w7.heap.size w7 wr)) (fun _ _ i _ _ _ => np - (intOf i).toNat)
                case atStart => exact ⟨0, Nat.zero_le _, rfl, hPe, Below.refl _ _⟩
                case round =>
                  clear hPe
                  obtain ⟨k, hk, rfl, hRk, hBr⟩ := hrel
                  by_cases hkn : k < np
                  · obtain ⟨t, ht⟩ : ∃ t, FL[k]? = some t := ⟨_, List.getElem?_eq_getElem (by have := hnp.out; omega)⟩
                    have hmem := List.mem_of_getElem? ht
                    obtain ⟨hts, htn⟩ := hFn.out t hmem
                    have htn' := Lib.hid htn
                    have hts' := Lib.hid hts
                    have hR3s : Hid (R3 = (if isPart ff t = true then some t else (FL.drop (k + 1)).find? (isPart ff)).bind (curT docs v)) := by
                      unfold Hid; rw [hRk.out, ← find_next rfl ht]
                    have hcells : Hid (CellsAt wr Ap k t) := Lib.hid (by
                      obtain ⟨A', c', e9, hcl⟩ := own_trees (own_below hrow.out hBr.out) hnp.out
                      simp only [Value.slice.injEq, true_and] at e9
                      obtain ⟨rfl, rfl⟩ := e9
                      exact hcl k t ht)
                    have hatom : Hid (∀ y : Ext wr, Calls Tryz.prog 48 #[.agg t.cells] y.wd fun e w' => e = .returned (.bool (isAt t.kind)) ∧ Below y.wd.heap.size y.wd w') := Lib.hid fun y => atomR_any t y.wd
                    have hBw : Hid (Below w.heap.size w wr) := hB7.out.trans (hBr.out.mono hB7.out.size)
                    have hFr := Lib.hid (hF7.out.below hBr.out hF7.out.lt)
                    clear hmem hts htn ht hRk
                    obtain ⟨tk, tp, tf, tx, tn, tA, tc, tL⟩ := t
                    have hip : Hid (isPart ff (.mk tk tp tf tx tn tA tc tL) = (isAt tk && decide (tf.toList = ff.toList))) := rfl
                    have hcur : Hid (curT docs v (.mk tk tp tf tx tn tA tc tL) = if tk = 3 then some tx else if tk = 4 then some (v ++ tx) else if tk = 7 then fieldD docs tp tx else some (mkB (Lib.itoa tn))) := rfl
                    simp only [Tree.cells, Tree.kind, Tree.text, Tree.num] at hatom hts' htn'
                    obtain ⟨b2, off2, rfl, g0, g1, g2, g3, g4, g5⟩ := hcells.out
                    have hb2l : b2 < wr.heap.size := World.block_lt_of_cell? wr _ g0
                    have hg := Lib.hid g0
                    have hg1 := Lib.hid g1
                    have hg3 := Lib.hid g3
                    have hg4 := Lib.hid g4
                    have y0 : ∀ y : Ext wr, y.wd.cell? ⟨b2, off2 + k * 6, none⟩ = some (.int .i64 tk) := fun y => (y.cell ⟨b2, _, none⟩ hb2l).trans g0
                    have y1 : ∀ y : Ext wr, y.wd.cell? ⟨b2, off2 + k * 6 + 1, none⟩ = some (.int .i64 tp) := fun y => (y.cell ⟨b2, _, none⟩ hb2l).trans g1
                    have y2 : ∀ y : Ext wr, y.wd.cell? ⟨b2, off2 + k * 6 + 2, none⟩ = some (.string tf) := fun y => (y.cell ⟨b2, _, none⟩ hb2l).trans g2
                    have y3 : ∀ y : Ext wr, y.wd.cell? ⟨b2, off2 + k * 6 + 3, none⟩ = some (.string tx) := fun y => (y.cell ⟨b2, _, none⟩ hb2l).trans g3
                    have y4 : ∀ y : Ext wr, y.wd.cell? ⟨b2, off2 + k * 6 + 4, none⟩ = some (.int .i64 tn) := fun y => (y.cell ⟨b2, _, none⟩ hb2l).trans g4
                    have y5 : ∀ y : Ext wr, y.wd.cell? ⟨b2, off2 + k * 6 + 5, none⟩ = some (.slice tA tL.length tc) := fun y => (y.cell ⟨b2, _, none⟩ hb2l).trans g5
                    have f2 : ∀ y : Ext wr, y.wd.cell? ⟨gf, 2, none⟩ = some (.string ff) := fun y => (y.cell ⟨gf, 2, none⟩ hFr.out.lt).trans (hFr.out.cell 2)
                    have hnp720 : np ≤ 720 := hFl.out
                    have j1 : (k : Int) < (np : Int) := by omega
                    have j2 : (0 : Int) ≤ (k : Int) := by omega
                    have hkm2 : decide (k < np) = true := decide_eq_true hkn
                    obtain ⟨bA, hbA⟩ : ∃ z, Hid (isAt tk = z) := ⟨_, rfl⟩
                    obtain ⟨bq, hbq⟩ : ∃ z, Hid (decide (tf.toList = ff.toList) = z) := ⟨_, rfl⟩
                    rw [hbA.out] at hatom hip
                    rw [hbq.out] at hip
                    have hq1 : (tf.toList == ff.toList) = bq := by rw [← hbq.out, Bool.eq_iff_iff]; simp
                    have hq2 : (tf.toList != ff.toList) = !bq := by rw [← hq1]; rfl
                    clear g0 g1 g2 g3 g4 g5 hcells
                    go_upto_region 19 with fail
                    go_cut [127] (fun z wx => z = .bool (!(bA && bq)) ∧ Hid (Below wr.heap.size wr wx))
                    case first =>
                      cases bA <;> cases bq
                      all_goals
                        refine wp_region_ext (by kernel_rfl) (by kernel_rfl) ?_
                        repeat (go_big_quiet_step ((go_at_call 48; exact Calls.ext_of (hatom.out _))))
                        refine wpQuiet_nil ?_
                        rintro _ ⟨y, rfl⟩
                        have hby := Lib.hid y.below
                        clear y0 y1 y2 y3 y4 y5 f2
                        go_wp2_with fail
                        go_meet
                        case rel => exact ⟨rfl, hby⟩
                    case rest => as_aux_lemma =>
                      obtain ⟨rfl, hb8⟩ := hcut
                      have hB8 : Hid (Below w.heap.size w wc) := hBw.out.trans (hb8.out.mono hBw.out.size)
                      have hr8 : Hid (Below w7.heap.size w7 wc) := hBr.out.trans (hb8.out.mono hBr.out.size)
                      have c0 : wc.cell? ⟨b2, off2 + k * 6, none⟩ = some (.int .i64 tk) := (hb8.out.cell (p := ⟨b2, _, none⟩) hb2l).trans hg.out
                      have c1 : wc.cell? ⟨b2, off2 + k * 6 + 1, none⟩ = some (.int .i64 tp) := (hb8.out.cell (p := ⟨b2, _, none⟩) hb2l).trans hg1.out
                      have c3 : wc.cell? ⟨b2, off2 + k * 6 + 3, none⟩ = some (.string tx) := (hb8.out.cell (p := ⟨b2, _, none⟩) hb2l).trans hg3.out
                      have c4 : wc.cell? ⟨b2, off2 + k * 6 + 4, none⟩ = some (.int .i64 tn) := (hb8.out.cell (p := ⟨b2, _, none⟩) hb2l).trans hg4.out
                      clear y0 y1 y2 y3 y4 y5 f2 hatom hg hg1 hg3 hg4 hq1 hq2
                      by_cases hbt : (bA && bq) = true
                      · have hnb : (!(bA && bq)) = false := by rw [hbt]; rfl
                        rw [hip.out, hbt, if_pos rfl, Option.bind_some, hcur.out] at hR3s
                        have htk : 3 ≤ tk ∧ tk ≤ 7 := by
                          rw [Bool.and_eq_true] at hbt
                          exact of_decide_eq_true (hbA.out.trans hbt.1)
                        have htk' := Lib.hid htk
                        rw [hnb]
                        clear hip hcur hbt hnb hbA hbq htk
                        by_cases h3 : tk = 3
                        · rw [if_pos h3] at hR3s
                          subst h3
                          go_wp2_with fail
                          go_ret2
                          exact curedR (by rw [hP4.out, hR3s.out]; rfl) hB8.out
                        · rw [if_neg h3] at hR3s
                          have n3 : (tk == 3) = false := by simp [h3]
                          by_cases h4 : tk = 4
                          · rw [if_pos h4] at hR3s
                            subst h4
                            have hv1 := hv1'.out
                            have hx1 := hts'.out
                            clear h3
                            go_wp2_with fail
                            go_ret2
                            exact curedR (by rw [hP4.out, hR3s.out]; rfl) hB8.out
                          · rw [if_neg h4] at hR3s
                            have n4 : (tk == 4) = false := by simp [h4]
                            by_cases h7 : tk = 7
                            · rw [if_pos h7] at hR3s
                              subst h7
                              clear h3 h4
                              have hlt2 : b2 < wc.heap.size := Nat.lt_of_lt_of_le hb2l hb8.out.size
                              have y1 : ∀ y : Ext wc, y.wd.cell? ⟨b2, off2 + k * 6 + 1, none⟩ = some (.int .i64 tp) := fun y => (y.cell ⟨b2, _, none⟩ hlt2).trans c1
                              have y3 : ∀ y : Ext wc, y.wd.cell? ⟨b2, off2 + k * 6 + 3, none⟩ = some (.string tx) := fun y => (y.cell ⟨b2, _, none⟩ hlt2).trans c3
                              have hfd : Hid (∀ y : Ext wc, Calls Tryz.prog 105 #[.slice (some ⟨b3, f3, none⟩) nn cc, .int .i64 tp, .string tx] y.wd fun e w' => e = .returned (.tuple #[.string ((fieldD docs tp tx).getD ⟨#[]⟩), .bool (fieldD docs tp tx).isSome]) ∧ Below y.wd.heap.size y.wd w') := Lib.hid fun y => fieldR_any (some ⟨b3, f3, none⟩) nn cc docs tp tx y.wd (by unfold maxLen; omega) hlen (Lib.hid (hR.out.at_.below (hB8.out.trans (y.below.mono hB8.out.size))))
                              obtain ⟨FD, hFD⟩ : ∃ z, fieldD docs tp tx = z := ⟨_, rfl⟩
                              rw [hFD] at hfd hR3s
                              clear hFD c1 c3 c4 hB8 hr8 hlt2
                              have hBc : Hid (Below w.heap.size w wc) := hBw.out.trans (hb8.out.mono hBw.out.size)
                              have hrc : Hid (Below w7.heap.size w7 wc) := hBr.out.trans (hb8.out.mono hBr.out.size)
                              go_upto_region 28 with fail
                              refine wp_region_ext (by kernel_rfl) (by kernel_rfl) ?_
                              repeat (go_big_quiet_step ((go_at_call 105; exact Calls.ext_of (hfd.out _))))
                              refine wpQuiet_nil ?_
                              rintro _ ⟨y, rfl⟩
                              have hBy := Lib.hid (hBc.out.trans (y.below.mono hBc.out.size))
                              have hry := Lib.hid (hrc.out.trans (y.below.mono hrc.out.size))
                              clear y1 y3 hfd
                              cases FD with
                              | none =>
                                have hn : Hid (R3 = none) := hR3s
                                go_wp2_with fail
                                go_meet
                                case rel => exact ⟨hn, hry⟩
                              | some u =>
                                go_wp2_with fail
                                go_ret2
                                exact curedR (by rw [hP4.out, hR3s.out]; rfl) hBy.out
                            · rw [if_neg h7] at hR3s
                              have hdg := Lib.hid (dig32_any tn wc htn'.out)
                              have hor := htk'.out
                              rcases (by omega : tk = 5 ∨ tk = 6) with h5 | h5
                              all_goals
                                subst h5
                                clear h3 h4 h7 hor
                                go_wp2_with fail
                                refine hdg.out.mono ?_
                                rintro e w9 ⟨rfl, hb9⟩
                                have hB9 : Hid (Below w.heap.size w w9) := hB8.out.trans (hb9.mono hB8.out.size)
                                clear hb9 hdg
                                go_wp2_with fail
                                go_ret2
                                exact curedR (by rw [hP4.out, hR3s.out]; rfl) hB9.out
                      · have hbf : (bA && bq) = false := by simpa using hbt
                        rw [hip.out, hbf, if_neg (by decide)] at hR3s
                        have hnb : (!(bA && bq)) = true := by rw [hbf]; rfl
                        rw [hnb]
                        clear hbt hbf hnb c0 c1 c3 c4
                        go_wp2_with fail
                        go_roundw
                        case rel => exact ⟨k + 1, by omega, by go_num, hR3s, hr8⟩
                        case measure => simp [intOf]; omega
                  · have hn : Hid (R3 = none) := by unfold Hid; rw [hRk.out, List.drop_eq_nil_of_le (by have := hnp.out; omega)]; rfl
                    have hkm2 : decide (k < np) = false := decide_eq_false hkn
                    go_wp2_with fail
                    go_meet
                    case rel => exact ⟨hn, hBr⟩
              case rest =>
                obtain ⟨hr3, hb8⟩ := hcut
                have hB8 : Hid (Below w.heap.size w wc) := hB7.out.trans (hb8.out.mono hB7.out.size)
                have hK8 := Lib.hid (hK7.out.below hb8.out hK7.out.lt)
                have hF8 := Lib.hid (hF7.out.below hb8.out hF7.out.lt)
                have hP5 : Hid (P = R4) := by unfold Hid; rw [hP4.out, hr3.out]; exact Option.none_or
                have hR4e : Hid (R4 = if knownB ff = true ∧ b = true then (aheadF needs (docs.take a) ff).bind fun u => if u.toList = v.toList then none else some u else none) := by
                  unfold Hid
                  rw [← hR4.out, ← hv.out, ← hbd.out]
                  rfl
                obtain ⟨AH, hAH⟩ : ∃ z, Hid (aheadF needs (docs.take a) ff = z) := ⟨_, rfl⟩
                rw [hAH.out] at hR4e
                have hasd : Hid (∀ y : World, Below w.heap.size w y → ∀ k : Int, Calls Tryz.prog 112 #[.agg C, .int .i64 k] y fun e w' => e = .returned (.bool (askedB needs k)) ∧ Below y.heap.size y w') := Lib.hid fun y hy k => asked_any C nA nl nc needs k y hC17 hnl (by unfold maxLen; have := hnl.out; have := hFP.out.1; omega) (Lib.hid (hN.out.below hy))
                have hdat := Lib.hid hR.out.at_
                clear hP4 hr3 hb8 hB7 hD7 hK7 hF7 hrow hPe hFl hFn hnp hv1' hR4 hnum hSm hFP hC hO
                obtain ⟨w8, hw8⟩ : ∃ z, Hid (wc = z) := ⟨_, rfl⟩
                rw [hw8.out] at hB8 hK8 hF8 ⊢
                clear hw8
                obtain ⟨w9, hw9⟩ : ∃ z, Hid (w8.alloc (.cells #[.string ⟨#[115, 101, 108, 108, 101, 114]⟩, .string ⟨#[102, 114, 111, 109]⟩, .string ⟨#[116, 111]⟩, .string ⟨#[99, 117, 114, 114, 101, 110, 99, 121]⟩, .string ⟨#[98, 111, 120, 101, 115]⟩, .string ⟨#[109, 97, 114, 107, 115]⟩] 9) = z) := ⟨_, rfl⟩
                have hb9 : Hid (Below w8.heap.size w8 w9) := by rw [← hw9.out]; exact Lib.hid ((Below.refl _ w8).alloc (Nat.le_refl _) _)
                have hN9 : Hid (Blk w9 w8.heap.size 9 #[.string ⟨#[115, 101, 108, 108, 101, 114]⟩, .string ⟨#[102, 114, 111, 109]⟩, .string ⟨#[116, 111]⟩, .string ⟨#[99, 117, 114, 114, 101, 110, 99, 121]⟩, .string ⟨#[98, 111, 120, 101, 115]⟩, .string ⟨#[109, 97, 114, 107, 115]⟩]) := by rw [← hw9.out]; exact Lib.hid (Blk.new _ _ _)
                have hB9 : Hid (Below w.heap.size w w9) := hB8.out.trans (hb9.out.mono hB8.out.size)
                have hK9 := Lib.hid (hK8.out.below hb9.out hK8.out.lt)
                have hF9 := Lib.hid (hF8.out.below hb9.out hF8.out.lt)
                obtain ⟨gn, hgn⟩ : ∃ z, Hid (w8.heap.size = z) := ⟨_, rfl⟩
                have e8 : w8.heap.size = gn := hgn.out
                have hN9' : Hid (∀ q, q < 6 → w9.cell? ⟨gn, q, none⟩ = some (.string (alikeB q))) := Lib.hid fun q hq => by
                  rw [← hgn.out, hN9.out.cell]
                  match q, hq with
                  | 0, _ => rfl
                  | 1, _ => rfl
                  | 2, _ => rfl
                  | 3, _ => rfl
                  | 4, _ => rfl
                  | 5, _ => rfl
                have hgl : Hid (gn < w9.heap.size) := by unfold Hid; rw [← hgn.out]; exact hN9.out.lt
                clear hb9 hN9 hB8 hK8 hF8
                go_wp2_with (first | rw [hw9.out] | rw [e8])
                go_loopw [8, 9, 22, 23, 24, 25] (fun _ _ i _ _ _ wr => ∃ q : Nat, q ≤ 6 ∧ i = .int .i64 q ∧ Hid (∀ j, j < q → (alikeB j).toList = ff.toList → b = true → AH = none) ∧ Hid (Below w9.heap.size w9 wr)) (fun _ _ i _ _ _ _ => 6 - (intOf i).toNat)
                case atStart => exact ⟨0, by omega, rfl, fun j hj => absurd hj (by omega), Below.refl _ _⟩
                case round =>
                  obtain ⟨q, hq, rfl, hRq, hBr⟩ := hrel
                  by_cases hqn : q < 6
                  · have hnq : Hid (wr.cell? ⟨gn, q, none⟩ = some (.string (alikeB q))) := (hBr.out.cell (p := ⟨gn, q, none⟩) hgl.out).trans (hN9'.out q hqn)
                    have hgr : Hid (gn < wr.heap.size) := Nat.lt_of_lt_of_le hgl.out hBr.out.size
                    have hFr := Lib.hid (hF9.out.below hBr.out hF9.out.lt)
                    have hKr := Lib.hid (hK9.out.below hBr.out hK9.out.lt)
                    have hBw : Hid (Below w.heap.size w wr) := hB9.out.trans (hBr.out.mono hB9.out.size)
                    obtain ⟨s, hs⟩ : ∃ z, Hid (alikeB q = z) := ⟨_, rfl⟩
                    rw [hs.out] at hnq
                    have yn : ∀ y : Ext wr, y.wd.cell? ⟨gn, q, none⟩ = some (.string s) := fun y => (y.cell ⟨gn, q, none⟩ hgr.out).trans hnq.out
                    have f2 : ∀ y : Ext wr, y.wd.cell? ⟨gf, 2, none⟩ = some (.string ff) := fun y => (y.cell ⟨gf, 2, none⟩ hFr.out.lt).trans (hFr.out.cell 2)
                    have j1 : (q : Int) < 6 := by omega
                    have j2 : (0 : Int) ≤ (q : Int) := by omega
                    obtain ⟨bm, hbm⟩ : ∃ z, Hid (decide (s.toList = ff.toList) = z) := ⟨_, rfl⟩
                    have hm1 : (s.toList == ff.toList) = bm := by rw [← hbm.out, Bool.eq_iff_iff]; simp
                    have hm2 : (s.toList != ff.toList) = !bm := by rw [← hm1]; rfl
                    go_upto_region 35 with fail
                    go_cut [192] (fun z wx => z = .bool (!(bm && b)) ∧ Hid (Below wr.heap.size wr wx))
                    case first => as_aux_lemma =>
                      cases bm <;> cases b
                      all_goals
                        refine wp_region_ext (by kernel_rfl) (by kernel_rfl) ?_
                        repeat (go_big_quiet_step (fail))
                        refine wpQuiet_nil ?_
                        rintro _ ⟨y, rfl⟩
                        have hby := Lib.hid y.below
                        clear yn f2
                        go_wp2_with fail
                        go_meet
                        case rel => exact ⟨rfl, hby⟩
                    case rest => as_aux_lemma =>
                      obtain ⟨rfl, hb10⟩ := hcut
                      have hB10 : Hid (Below w.heap.size w wc) := hBw.out.trans (hb10.out.mono hBw.out.size)
                      have hr10 : Hid (Below w9.heap.size w9 wc) := hBr.out.trans (hb10.out.mono hBr.out.size)
                      have hF10 := Lib.hid (hFr.out.below hb10.out hFr.out.lt)
                      have hK10 := Lib.hid (hKr.out.below hb10.out hKr.out.lt)
                      clear yn f2 hm1 hm2 hFr hKr
                      by_cases hbt : (bm && b) = true
                      · have hnb : (!(bm && b)) = false := by rw [hbt]; rfl
                        rw [hnb]
                        rw [Bool.and_eq_true] at hbt
                        have hse : s.toList = ff.toList := of_decide_eq_true (hbm.out.trans hbt.1)
                        have hkb : knownB ff = true := List.any_eq_true.2 ⟨q, List.mem_range.2 hqn, decide_eq_true (by rw [hs.out]; exact hse)⟩
                        rw [if_pos ⟨hkb, hbt.2⟩] at hR4e
                        have hbt2 := hbt.2
                        clear hnb hbt hse hkb hbm
                        have g0 : wc.cell? ⟨gf, 0, none⟩ = some (.int .i64 (a : Int)) := hF10.out.cell 0
                        clear g0
                        obtain ⟨w10, hw10⟩ : ∃ z, Hid (wc = z) := ⟨_, rfl⟩
                        rw [hw10.out] at hB10 hr10 hF10 hK10 ⊢
                        clear hw10 hb10
                        go_wp2_with fail
                        go_loopw [8, 9, 23, 24, 25] (fun _ _ i _ _ wr' => ∃ k : Nat, k ≤ a ∧ i = .int .i64 k ∧ Hid (AH = aheadF needs ((docs.take a).drop k) ff) ∧ Hid (Below w10.heap.size w10 wr')) (fun _ _ i _ _ _ => a - (intOf i).toNat)
                        case atStart => exact ⟨0, Nat.zero_le _, rfl, hAH.out.symm, Below.refl _ _⟩
                        case round =>
                          obtain ⟨k, hk, rfl, hAk, hBr1⟩ := hrel
                          have hB11 : Hid (Below w.heap.size w wr) := hB10.out.trans (hBr1.out.mono hB10.out.size)
                          have hF11 := Lib.hid (hF10.out.below hBr1.out hF10.out.lt)
                          have hK11 := Lib.hid (hK10.out.below hBr1.out hK10.out.lt)
                          have f0 : wr.cell? ⟨gf, 0, none⟩ = some (.int .i64 (a : Int)) := hF11.out.cell 0
                          by_cases hka : k < a
                          · obtain ⟨x, hx⟩ : ∃ x, docs[k]? = some x := ⟨_, List.getElem?_eq_getElem (by have := hlen.out; omega)⟩
                            have hxt : Hid ((docs.take a)[k]? = some x) := by unfold Hid; rw [List.getElem?_take_of_lt hka, hx]
                            obtain ⟨b4, f4, e4, x0, _, _, x3, xF, xl, _⟩ := (hdat.out.below hB11.out) k x hx
                            simp only [Option.some.injEq, Addr.mk.injEq, and_true] at e4
                            obtain ⟨rfl, rfl⟩ := e4
                            have hb4l : b3 < wr.heap.size := World.block_lt_of_cell? wr _ x0
                            have x0' := Lib.hid x0
                            have hget : Hid (∀ y : Ext wr, Calls Tryz.prog 101 #[.slice x.fA x.fields.length x.fc, .string ff] y.wd fun e w' => e = .returned (.tuple #[.string (getV x.fields ff), .bool (getB x.fields ff)]) ∧ Below y.wd.heap.size y.wd w') := Lib.hid fun y => getR_any x.fA x.fields.length x.fc x.fields ff y.wd xl (Lib.hid rfl) (Lib.hid (xF.below y.below))
                            have hno : Hid (askedB needs x.kind = false ∨ getB x.fields ff = false → AH = aheadF needs ((docs.take a).drop (k + 1)) ff) := Lib.hid fun h => ahead_no hAk.out hxt.out (h.imp id fun h9 => by unfold getB at h9; cases hh : getF x.fields ff with | none => rfl | some u => rw [hh] at h9; cases h9)
                            have hye : Hid (askedB needs x.kind = true → getB x.fields ff = true → AH = some (getV x.fields ff)) := Lib.hid fun h1 h2 => ahead_yes hAk.out hxt.out h1 (by unfold getB at h2; unfold getV; cases hh : getF x.fields ff with | none => rw [hh] at h2; cases h2 | some u => rfl)
                            have hasd2 : Hid (∀ W, Below wr.heap.size wr W → Calls Tryz.prog 112 #[.agg C, .int .i64 x.kind] W fun e w' => e = .returned (.bool (askedB needs x.kind)) ∧ Below W.heap.size W w') := Lib.hid fun W hW => hasd.out W (hB11.out.trans (hW.mono hB11.out.size)) x.kind
                            obtain ⟨gv, hgv⟩ : ∃ z, getV x.fields ff = z := ⟨_, rfl⟩
                            obtain ⟨gb, hgb⟩ : ∃ z, getB x.fields ff = z := ⟨_, rfl⟩
                            obtain ⟨ba, hba⟩ : ∃ z, askedB needs x.kind = z := ⟨_, rfl⟩
                            obtain ⟨xk, hxk⟩ : ∃ z, x.kind = z := ⟨_, rfl⟩
                            obtain ⟨xA, hxA⟩ : ∃ z, x.fA = z := ⟨_, rfl⟩
                            obtain ⟨xm, hxm⟩ : ∃ z, x.fields.length = z := ⟨_, rfl⟩
                            obtain ⟨xq, hxq⟩ : ∃ z, x.fc = z := ⟨_, rfl⟩
                            rw [hgv, hgb] at hget hye
                            rw [hgb] at hno
                            rw [hba] at hno hye hasd2
                            rw [hxk] at hasd2 x0 x0'
                            rw [hxA, hxm, hxq] at hget x3
                            clear hgv hgb hba hxk hxA hxm hxq xF xl hxt hx
                            have y3 : ∀ y : Ext wr, y.wd.cell? ⟨b3, f3 + k * 4 + 3, none⟩ = some (.slice xA xm xq) := fun y => (y.cell ⟨b3, _, none⟩ hb4l).trans x3
                            have f2 : ∀ y : Ext wr, y.wd.cell? ⟨gf, 2, none⟩ = some (.string ff) := fun y => (y.cell ⟨gf, 2, none⟩ hF11.out.lt).trans (hF11.out.cell 2)
                            have j3 : (k : Int) < (nn : Int) := by omega
                            have j4 : (0 : Int) ≤ (k : Int) := by omega
                            have j5 : (k : Int) < (a : Int) := by omega
                            have hka2 : decide ((k : Int) < (a : Int)) = true := decide_eq_true j5
                            have hka3 : decide (k < a) = true := decide_eq_true hka
                            clear x0 x3
                            go_wp2_with fail
                            refine wp_region_ext (by kernel_rfl) (by kernel_rfl) ?_
                            repeat (go_big_quiet_step ((go_at_call 101; exact Calls.ext_of (hget.out _))))
                            refine wpQuiet_nil ?_
                            rintro _ ⟨y, rfl⟩
                            have hby := Lib.hid y.below
                            obtain ⟨w12, hw12⟩ : ∃ z, y.wd = z := ⟨_, rfl⟩
                            rw [hw12] at hby ⊢
                            have hK12 := Lib.hid (hK11.out.below hby.out hK11.out.lt)
                            have hb12 : b3 < w12.heap.size := Nat.lt_of_lt_of_le hb4l hby.out.size
                            have x0c : w12.cell? ⟨b3, f3 + k * 4, none⟩ = some (.int .i64 xk) := (hby.out.cell (p := ⟨b3, _, none⟩) hb4l).trans x0'.out
                            clear hw12 y3 f2 hget x0'
                            have z0 : ∀ y : Ext w12, y.wd.cell? ⟨b3, f3 + k * 4, none⟩ = some (.int .i64 xk) := fun y => (y.cell ⟨b3, _, none⟩ hb12).trans x0c
                            have hasd3 : Hid (∀ y : Ext w12, Calls Tryz.prog 112 #[.agg C, .int .i64 xk] y.wd fun e w' => e = .returned (.bool ba) ∧ Below y.wd.heap.size y.wd w') := Lib.hid fun y => hasd2.out y.wd (hby.out.trans (y.below.mono hby.out.size))
                            clear x0c hasd2
                            go_wp2_with fail
                            have hrn : Hid (∀ W, Below w12.heap.size w12 W → Below w10.heap.size w10 W) := Lib.hid fun W hW => (hBr1.out.trans (hby.out.mono hBr1.out.size)).trans (hW.mono (hBr1.out.trans (hby.out.mono hBr1.out.size)).size)
                            have hBn : Hid (∀ W, Below w12.heap.size w12 W → Below w.heap.size w W) := Lib.hid fun W hW => (hB11.out.trans (hby.out.mono hB11.out.size)).trans (hW.mono (hB11.out.trans (hby.out.mono hB11.out.size)).size)
                            cases gb with
                            | false =>
                              have hnx := Lib.hid (hno.out (Or.inr rfl))
                              clear hno hye hAk hRq
                              refine wp_region_ext (by kernel_rfl) (by kernel_rfl) ?_
                              repeat (go_big_quiet_step (fail))
                              refine wpQuiet_nil ?_
                              rintro _ ⟨y, rfl⟩
                              have hr12 := Lib.hid (hrn.out _ y.below)
                              clear z0 hasd3 hrn hBn
                              go_wp2_with fail
                              go_roundw
                              case rel => exact ⟨k + 1, by omega, by go_num, hnx, hr12⟩
                              case measure => simp [intOf]; omega
                            | true =>
                              cases ba with
                              | false =>
                                have hnx := Lib.hid (hno.out (Or.inl rfl))
                                clear hno hye hAk hRq
                                refine wp_region_ext (by kernel_rfl) (by kernel_rfl) ?_
                                repeat (first
                                  | (go_big_quiet_want; (refine quiet_blk 46 (.tmp 4) rfl gc C 46 _ rfl (by rintro _ ⟨y, rfl⟩; exact hK12.out.below y.below hK12.out.lt) Tryz.underlying46 rfl hsz.out ?_); go_big_quiet_on; simp only [Act.put, List.setIfInBounds_toArray, List.set_cons_zero, List.set_cons_succ])
                                  | go_big_quiet_step ((go_at_call 112; exact Calls.ext_of (hasd3.out _))))
                                refine wpQuiet_nil ?_
                                rintro _ ⟨y, rfl⟩
                                have hr12 := Lib.hid (hrn.out _ y.below)
                                clear z0 hasd3 hrn hBn
                                go_wp2_with fail
                                go_roundw
                                case rel => exact ⟨k + 1, by omega, by go_num, hnx, hr12⟩
                                case measure => simp [intOf]; omega
                              | true =>
                                have hah := Lib.hid (hye.out rfl rfl)
                                rw [hah.out, Option.bind_some] at hR4e
                                clear hno hye hAk hRq
                                refine wp_region_ext (by kernel_rfl) (by kernel_rfl) ?_
                                repeat (first
                                  | (go_big_quiet_want; (refine quiet_blk 46 (.tmp 4) rfl gc C 46 _ rfl (by rintro _ ⟨y, rfl⟩; exact hK12.out.below y.below hK12.out.lt) Tryz.underlying46 rfl hsz.out ?_); go_big_quiet_on; simp only [Act.put, List.setIfInBounds_toArray, List.set_cons_zero, List.set_cons_succ])
                                  | go_big_quiet_step ((go_at_call 112; exact Calls.ext_of (hasd3.out _))))
                                refine wpQuiet_nil ?_
                                rintro _ ⟨y, rfl⟩
                                have hB13 := Lib.hid (hBn.out _ y.below)
                                clear z0 hasd3 hrn hBn
                                by_cases hgv : gv.toList = v.toList
                                · have hq9 : (gv.toList == v.toList) = true := by simp [hgv]
                                  have hq8 : (gv.toList != v.toList) = false := by rw [bne, hq9]; rfl
                                  rw [if_pos hgv] at hR4e
                                  clear hgv
                                  go_wp2_with fail
                                  go_ret2
                                  exact curedR (by rw [hP5.out, hR4e.out]; rfl) hB13.out
                                · have hq9 : (gv.toList == v.toList) = false := by simp [hgv]
                                  have hq8 : (gv.toList != v.toList) = true := by rw [bne, hq9]; rfl
                                  rw [if_neg hgv] at hR4e
                                  clear hgv
                                  go_wp2_with fail
                                  go_ret2
                                  exact curedR (by rw [hP5.out, hR4e.out]; rfl) hB13.out
                          · have hn : Hid (AH = none) := by unfold Hid; rw [hAk.out, List.drop_eq_nil_of_le (by rw [List.length_take]; omega)]; rfl
                            have hka2 : decide ((k : Int) < (a : Int)) = false := decide_eq_false (by omega)
                            have hka3 : decide (k < a) = false := decide_eq_false hka
                            have hrx : Hid (Below w9.heap.size w9 wr) := hr10.out.trans (hBr1.out.mono hr10.out.size)
                            clear hAk hRq
                            go_wp2_with fail
                            all_goals try (exfalso; omega)
                            go_roundw
                            case rel => exact ⟨q + 1, by omega, by go_num, fun _ _ _ _ => hn.out, hrx⟩
                            case measure => simp [intOf]; omega
                      · have hbf : (bm && b) = false := by simpa using hbt
                        have hnb : (!(bm && b)) = true := by rw [hbf]; rfl
                        rw [hnb]
                        have hnx : Hid (∀ j, j < q + 1 → (alikeB j).toList = ff.toList → b = true → AH = none) := Lib.hid fun j hj h1 h2 => by
                          rcases Nat.lt_or_ge j q with h | h
                          · exact hRq.out j h h1 h2
                          · obtain rfl : j = q := by omega
                            rw [hs.out] at h1
                            have h3 := hbm.out
                            rw [decide_eq_true h1] at h3
                            rw [← h3, h2] at hbf
                            cases hbf
                        clear hbt hbf hnb hRq
                        go_wp2_with fail
                        go_roundw
                        case rel => exact ⟨q + 1, by omega, by go_num, hnx, hr10⟩
                        case measure => simp [intOf]; omega
                  · have hq6 : q = 6 := by omega
                    have hn : Hid (R4 = none) := by
                      unfold Hid
                      rw [hR4e.out]
                      by_cases hkb : knownB ff = true ∧ b = true
                      · rw [if_pos hkb]
                        obtain ⟨j, hj, hje⟩ := List.any_eq_true.1 hkb.1
                        rw [hRq.out j (by rw [List.mem_range] at hj; omega) (of_decide_eq_true hje) hkb.2]
                        rfl
                      · rw [if_neg hkb]
                    have hB10 : Hid (Below w.heap.size w wr) := hB9.out.trans (hBr.out.mono hB9.out.size)
                    have hqf : decide ((q : Int) < 6) = false := decide_eq_false (by omega)
                    clear hRq
                    go_wp2_with fail
                    all_goals try (exfalso; omega)
                    go_ret2
                    exact curedR (by rw [hP5.out, hn.out]; rfl) hB10.out
    · have hp : Hid (P = none) := by
        unfold Hid
        rw [hP.out, List.getElem?_eq_none (by have := hlen.out; omega)]
        split <;> rfl
      have i1 : decide (fp < 0) = false := decide_eq_false (by omega)
      have i2 : decide ((nn : Int) ≤ fp) = true := decide_eq_true (by omega)
      go_enter Tryz.func74, Tryz.ntmps74
      go_wp2_with (first | rw [hw1.out] | rw [hs1])
      all_goals try (exfalso; omega)
      go_ret2
      exact curedR (by rw [hp.out]; rfl) hb1.out
  · have hp : Hid (P = none) := by unfold Hid; rw [hP.out, if_neg (fun h => h0 h.1)]
    have i1 : decide (fp < 0) = true := decide_eq_true (by omega)
    go_enter Tryz.func74, Tryz.ntmps74
    go_wp2_with (first | rw [hw1.out] | rw [hs1])
    all_goals try (exfalso; omega)
    go_ret2
    exact curedR (by rw [hp.out]; rfl) hb1.out
end Go.Proofs.YtdjmckjbibfecaaGreatDoor

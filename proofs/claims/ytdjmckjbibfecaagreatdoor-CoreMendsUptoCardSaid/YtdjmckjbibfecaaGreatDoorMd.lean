/- The cure's methods party, sum and issued. -/
import Derived.Test.YtdjmckjbibfecaaGreatDoorEi
import Derived.Test.YtdjmckjbibfecaaGreatDoorMc
namespace Go.Proofs.YtdjmckjbibfecaaGreatDoor
open Go Go.RowKit Go.BigFrame Go.Maps

set_option maxRecDepth 100000 in
set_option maxHeartbeats 800000 in
theorem cdigits_any (n : Int) (w : World) (h : -9223372036854775808 ≤ n ∧ n ≤ 9223372036854775807) (he : Hid (Env w)) :
    Calls Tryz.prog 170 #[.int .i64 n] w fun e w' => e = .returned (.string (mkB (Lib.itoa n))) ∧ Below w.heap.size w w' := by
  have hf := Lib.hid (format_any n w h.1 h.2 he.out)
  clear h
  go_enter Tryz.func170, Tryz.ntmps170
  go_wp2_with fail
  refine hf.out.mono ?_
  rintro e w1 ⟨rfl, hb⟩
  have hb' := Lib.hid hb
  clear hb hf
  go_wp2_with fail
  go_ret
  exact ⟨rfl, hb'.out⟩
theorem nSeller_list : nSeller.toList = [115, 101, 108, 108, 101, 114] := by simp [nSeller, ByteArray.toList_eq]
theorem nBuyer_list : nBuyer.toList = [98, 117, 121, 101, 114] := by simp [nBuyer, ByteArray.toList_eq]
theorem nCurrency_list : nCurrency.toList = [99, 117, 114, 114, 101, 110, 99, 121] := by simp [nCurrency, ByteArray.toList_eq]
theorem nSum_list : nSum.toList = [115, 117, 109] := by simp [nSum, ByteArray.toList_eq]
theorem nIssued_list : nIssued.toList = [105, 115, 115, 117, 101, 100] := by simp [nIssued, ByteArray.toList_eq]
set_option maxHeartbeats 800000 in
theorem cbehind_any (day n days : Int) (w : World) (hd : -9223372036854775808 ≤ day ∧ day ≤ 9223372036854775807) (hn : -9223372036854775808 ≤ n ∧ n ≤ 9223372036854775807) (hs : -9223372036854775808 ≤ days ∧ days ≤ 9223372036854775807) :
    Calls Tryz.prog 171 #[.int .i64 day, .int .i64 n, .int .i64 days] w fun e w' => e = .returned (.bool (behindB day n days)) ∧ w = w' := by
  obtain ⟨hd0, hd1⟩ := hd
  obtain ⟨hn0, hn1⟩ := hn
  obtain ⟨hs0, hs1⟩ := hs
  by_cases h0 : 0 < days
  · by_cases h1 : 9223372036854775807 - days < n
    · have hb : Hid (behindB day n days = false) := by unfold Hid behindB; simp; omega
      go_enter Tryz.func171, Tryz.ntmps171
      go_wp2_with fail
      all_goals try (exfalso; omega)
      go_ret
      exact ⟨by rw [hb.out]; first | done | rfl, rfl⟩
    · have hb : Hid (behindB day n days = decide (n + days < day)) := rfl
      have h2 : ¬ days < 0 := by omega
      have h3 : n + days ≤ 9223372036854775807 := by omega
      have h4 : -9223372036854775808 ≤ n + days := by omega
      go_enter Tryz.func171, Tryz.ntmps171
      go_wp2_with fail
      all_goals try (exfalso; omega)
      go_ret
      exact ⟨by rw [hb.out]; first | done | rfl, rfl⟩
  · by_cases h2 : days < 0
    · by_cases h1 : n < -9223372036854775808 - days
      · have hb : Hid (behindB day n days = true) := by unfold Hid behindB; simp; omega
        go_enter Tryz.func171, Tryz.ntmps171
        go_wp2_with fail
        all_goals try (exfalso; omega)
        go_ret
        exact ⟨by rw [hb.out]; first | done | rfl, rfl⟩
      · have hb : Hid (behindB day n days = decide (n + days < day)) := rfl
        have h3 : n + days ≤ 9223372036854775807 := by omega
        have h4 : -9223372036854775808 ≤ n + days := by omega
        go_enter Tryz.func171, Tryz.ntmps171
        go_wp2_with fail
        all_goals try (exfalso; omega)
        go_ret
        exact ⟨by rw [hb.out]; first | done | rfl, rfl⟩
    · have hb : Hid (behindB day n days = decide (n + days < day)) := rfl
      have h3 : n + days ≤ 9223372036854775807 := by omega
      have h4 : -9223372036854775808 ≤ n + days := by omega
      go_enter Tryz.func171, Tryz.ntmps171
      go_wp2_with fail
      all_goals try (exfalso; omega)
      go_ret
      exact ⟨by rw [hb.out]; first | done | rfl, rfl⟩

/-- The cure at work. -/
structure CureS (w : World) (C : Array Value) (c : Crd) (A : Option Addr) (nn cc : Nat) (docs : List Pap) (day : Int) (a : Nat) (d : Pap) (s v : ByteArray) (b : Bool) (xb : Nat) : Prop where
  crd : CrdAt C c
  room : Room w A nn docs
  at_ : docs[a]? = some d
  blk : Blk w xb 149 (cuX C A nn cc day (a : Int) s v b)
  val : getV d.fields s = v
  there : getB d.fields s = b
theorem CureS.below {w w' : World} {C : Array Value} {c : Crd} {A : Option Addr} {nn cc : Nat} {docs : List Pap} {day : Int} {a : Nat} {d : Pap} {s v : ByteArray} {b : Bool} {xb : Nat} (h : CureS w C c A nn cc docs day a d s v b xb) (hb : Below w.heap.size w w') : CureS w' C c A nn cc docs day a d s v b xb :=
  ⟨h.crd, h.room.below hb, h.at_, h.blk.below hb h.blk.lt, h.val, h.there⟩
def CuredR (r : Option ByteArray) (w : World) (e : Ending) (w' : World) : Prop := (∃ u ok, e = .returned (.tuple #[.string u, .bool ok]) ∧ r = if ok = true then some u else none) ∧ Below w.heap.size w w'
theorem curedR {r : Option ByteArray} {w w' : World} {u : ByteArray} {ok : Bool} (h : r = if ok = true then some u else none) (hb : Below w.heap.size w w') : CuredR r w (.returned (.tuple #[.string u, .bool ok])) w' := ⟨⟨u, ok, rfl, h⟩, hb⟩
def Cured (r : Option ByteArray) (w : World) (e : Ending) (w' : World) : Prop := e = .returned (two r) ∧ Below w.heap.size w w'
set_option maxRecDepth 100000 in
set_option maxHeartbeats 3200000 in
theorem party_any (w : World) (C : Array Value) (c : Crd) (A : Option Addr) (nn cc : Nat) (docs : List Pap) (day : Int) (a : Nat) (d : Pap) (s v : ByteArray) (b : Bool) (xb : Nat) (hS : Hid (CureS w C c A nn cc docs day a d s v b xb)) :
    Calls Tryz.prog 119 #[.pointer (some ⟨xb, 0, none⟩)] w (Cured (partyM c d s) w) := by
  have hsz := Lib.hid hS.out.crd.size
  have hnn := hS.out.room.most
  have hlt : a < nn := by have := (List.getElem?_eq_some_iff.1 hS.out.at_).1; have := hS.out.room.len; omega
  obtain ⟨b3, f3, rfl, d0, _⟩ := hS.out.room.at_ a d hS.out.at_
  have x18 : w.cell? ⟨xb, 18, none⟩ = some (.slice (some ⟨b3, f3, none⟩) nn cc) := (hS.out.blk.cell 18).trans (cuX_docs hsz.out)
  have x19 : w.cell? ⟨xb, 19, none⟩ = some (.int .i64 day) := (hS.out.blk.cell 19).trans (cuX_day hsz.out)
  have x20 : w.cell? ⟨xb, 20, none⟩ = some (.int .i64 (a : Int)) := (hS.out.blk.cell 20).trans (cuX_at hsz.out)
  have x21 : w.cell? ⟨xb, 21, none⟩ = some (.string s) := (hS.out.blk.cell 21).trans (cuX_name hsz.out)
  have x22 : w.cell? ⟨xb, 22, none⟩ = some (.string v) := (hS.out.blk.cell 22).trans (cuX_value hsz.out)
  have x23 : w.cell? ⟨xb, 23, none⟩ = some (.bool b) := (hS.out.blk.cell 23).trans (cuX_there hsz.out)
  have i3 : (a : Int) < (nn : Int) := by omega
  have i4 : (0 : Int) ≤ (a : Int) := by omega
  have hv := Lib.hid hS.out.val
  have hth := Lib.hid hS.out.there
  unfold Cured
  have hP : Hid (partyM c d s = if d.kind = 0 then (if s.toList = nSeller.toList then some c.beneficiary else if s.toList = nBuyer.toList then some c.applicant else if s.toList = nCurrency.toList then some c.currency else none).bind fun r => if b = true ∧ v.toList = r.toList then none else some r else none) := by unfold Hid partyM; rw [hv.out, hth.out]
  obtain ⟨P, hPd⟩ : ∃ z, Hid (partyM c d s = z) := ⟨_, rfl⟩
  rw [hPd.out] at hP ⊢
  have hcr := Lib.hid hS.out.crd
  have hbk := Lib.hid hS.out.blk
  obtain ⟨dk, hdk⟩ : ∃ z, d.kind = z := ⟨_, rfl⟩
  rw [hdk] at hP d0
  clear hS hv hth hPd hdk
  have c2 : w.cell? ⟨xb, 2, none⟩ = some (.string c.beneficiary) := (hbk.out.cell 2).trans ((cuX_cell hsz.out (by omega)).trans hcr.out.beneficiary)
  have c1 : w.cell? ⟨xb, 1, none⟩ = some (.string c.applicant) := (hbk.out.cell 1).trans ((cuX_cell hsz.out (by omega)).trans hcr.out.applicant)
  have c7 : w.cell? ⟨xb, 7, none⟩ = some (.string c.currency) := (hbk.out.cell 7).trans ((cuX_cell hsz.out (by omega)).trans hcr.out.currency)
  clear hcr hbk
  by_cases hk : dk = 0
  · subst hk
    rw [if_pos rfl] at hP
    by_cases h0 : s.toList = nSeller.toList
    · have q0 : (s.toList == [115, 101, 108, 108, 101, 114]) = true := beq_iff_eq.2 (h0.trans nSeller_list)
      rw [if_pos h0] at hP
      clear h0
      by_cases hq : v.toList = c.beneficiary.toList
      · have q9 : (v.toList == c.beneficiary.toList) = true := beq_iff_eq.2 hq
        cases b with
        | true =>
          have hp : Hid (P = none) := by unfold Hid; rw [hP.out, Option.bind_some, if_pos ⟨rfl, hq⟩]
          clear hq hP
          go_enter Tryz.func119, Tryz.ntmps119
          go_wp2_with fail
          go_quiet (fail)
          go_wp2_with fail
          go_ret2
          exact ⟨by rw [hp.out]; rfl, below_drewN (Below.refl _ _) _⟩
        | false =>
          have hp : Hid (P = some c.beneficiary) := by unfold Hid; rw [hP.out, Option.bind_some, if_neg (by simp)]
          clear hq hP
          go_enter Tryz.func119, Tryz.ntmps119
          go_wp2_with fail
          go_quiet (fail)
          go_wp2_with fail
          go_ret2
          exact ⟨by rw [hp.out]; rfl, below_drewN (Below.refl _ _) _⟩
      · have q9 : (v.toList == c.beneficiary.toList) = false := beq_eq_false_iff_ne.2 hq
        have hp : Hid (P = some c.beneficiary) := by unfold Hid; rw [hP.out, Option.bind_some, if_neg (fun h => hq h.2)]
        clear hq hP
        cases b with
        | true =>
          go_enter Tryz.func119, Tryz.ntmps119
          go_wp2_with fail
          go_quiet (fail)
          go_wp2_with fail
          go_ret2
          exact ⟨by rw [hp.out]; rfl, below_drewN (Below.refl _ _) _⟩
        | false =>
          go_enter Tryz.func119, Tryz.ntmps119
          go_wp2_with fail
          go_quiet (fail)
          go_wp2_with fail
          go_ret2
          exact ⟨by rw [hp.out]; rfl, below_drewN (Below.refl _ _) _⟩
    · have q0 : (s.toList == [115, 101, 108, 108, 101, 114]) = false := beq_eq_false_iff_ne.2 (fun h => h0 (h.trans nSeller_list.symm))
      rw [if_neg h0] at hP
      clear h0
      by_cases h1 : s.toList = nBuyer.toList
      · have q1 : (s.toList == [98, 117, 121, 101, 114]) = true := beq_iff_eq.2 (h1.trans nBuyer_list)
        rw [if_pos h1] at hP
        clear h1
        by_cases hq : v.toList = c.applicant.toList
        · have q9 : (v.toList == c.applicant.toList) = true := beq_iff_eq.2 hq
          cases b with
          | true =>
            have hp : Hid (P = none) := by unfold Hid; rw [hP.out, Option.bind_some, if_pos ⟨rfl, hq⟩]
            clear hq hP
            go_enter Tryz.func119, Tryz.ntmps119
            go_wp2_with fail
            go_quiet (fail)
            go_wp2_with fail
            go_ret2
            exact ⟨by rw [hp.out]; rfl, below_drewN (Below.refl _ _) _⟩
          | false =>
            have hp : Hid (P = some c.applicant) := by unfold Hid; rw [hP.out, Option.bind_some, if_neg (by simp)]
            clear hq hP
            go_enter Tryz.func119, Tryz.ntmps119
            go_wp2_with fail
            go_quiet (fail)
            go_wp2_with fail
            go_ret2
            exact ⟨by rw [hp.out]; rfl, below_drewN (Below.refl _ _) _⟩
        · have q9 : (v.toList == c.applicant.toList) = false := beq_eq_false_iff_ne.2 hq
          have hp : Hid (P = some c.applicant) := by unfold Hid; rw [hP.out, Option.bind_some, if_neg (fun h => hq h.2)]
          clear hq hP
          cases b with
          | true =>
            go_enter Tryz.func119, Tryz.ntmps119
            go_wp2_with fail
            go_quiet (fail)
            go_wp2_with fail
            go_ret2
            exact ⟨by rw [hp.out]; rfl, below_drewN (Below.refl _ _) _⟩
          | false =>
            go_enter Tryz.func119, Tryz.ntmps119
            go_wp2_with fail
            go_quiet (fail)
            go_wp2_with fail
            go_ret2
            exact ⟨by rw [hp.out]; rfl, below_drewN (Below.refl _ _) _⟩
      · have q1 : (s.toList == [98, 117, 121, 101, 114]) = false := beq_eq_false_iff_ne.2 (fun h => h1 (h.trans nBuyer_list.symm))
        rw [if_neg h1] at hP
        clear h1
        by_cases h2 : s.toList = nCurrency.toList
        · have q2 : (s.toList == [99, 117, 114, 114, 101, 110, 99, 121]) = true := beq_iff_eq.2 (h2.trans nCurrency_list)
          rw [if_pos h2] at hP
          clear h2
          by_cases hq : v.toList = c.currency.toList
          · have q9 : (v.toList == c.currency.toList) = true := beq_iff_eq.2 hq
            cases b with
            | true =>
              have hp : Hid (P = none) := by unfold Hid; rw [hP.out, Option.bind_some, if_pos ⟨rfl, hq⟩]
              clear hq hP
              go_enter Tryz.func119, Tryz.ntmps119
              go_wp2_with fail
              go_quiet (fail)
              go_wp2_with fail
              go_ret2
              exact ⟨by rw [hp.out]; rfl, below_drewN (Below.refl _ _) _⟩
            | false =>
              have hp : Hid (P = some c.currency) := by unfold Hid; rw [hP.out, Option.bind_some, if_neg (by simp)]
              clear hq hP
              go_enter Tryz.func119, Tryz.ntmps119
              go_wp2_with fail
              go_quiet (fail)
              go_wp2_with fail
              go_ret2
              exact ⟨by rw [hp.out]; rfl, below_drewN (Below.refl _ _) _⟩
          · have q9 : (v.toList == c.currency.toList) = false := beq_eq_false_iff_ne.2 hq
            have hp : Hid (P = some c.currency) := by unfold Hid; rw [hP.out, Option.bind_some, if_neg (fun h => hq h.2)]
            clear hq hP
            cases b with
            | true =>
              go_enter Tryz.func119, Tryz.ntmps119
              go_wp2_with fail
              go_quiet (fail)
              go_wp2_with fail
              go_ret2
              exact ⟨by rw [hp.out]; rfl, below_drewN (Below.refl _ _) _⟩
            | false =>
              go_enter Tryz.func119, Tryz.ntmps119
              go_wp2_with fail
              go_quiet (fail)
              go_wp2_with fail
              go_ret2
              exact ⟨by rw [hp.out]; rfl, below_drewN (Below.refl _ _) _⟩
        · have q2 : (s.toList == [99, 117, 114, 114, 101, 110, 99, 121]) = false := beq_eq_false_iff_ne.2 (fun h => h2 (h.trans nCurrency_list.symm))
          rw [if_neg h2] at hP
          clear h2
          have hp : Hid (P = none) := by unfold Hid; rw [hP.out]; rfl
          clear hP
          go_enter Tryz.func119, Tryz.ntmps119
          go_wp2_with fail
          go_quiet (fail)
          go_wp2_with fail
          go_ret2
          exact ⟨by rw [hp.out]; rfl, below_drewN (Below.refl _ _) _⟩
  · have z1 : (dk != 0) = true := by simpa using hk
    rw [if_neg hk] at hP
    clear hk
    go_enter Tryz.func119, Tryz.ntmps119
    go_wp2_with fail
    go_quiet (fail)
    go_wp2_with fail
    go_ret2
    exact ⟨by rw [hP.out]; rfl, below_drewN (Below.refl _ _) _⟩
set_option maxRecDepth 100000 in
set_option maxHeartbeats 3200000 in
theorem csum_any (w : World) (C : Array Value) (c : Crd) (A : Option Addr) (nn cc : Nat) (docs : List Pap) (day : Int) (a : Nat) (d : Pap) (s v : ByteArray) (b : Bool) (xb : Nat) (hS : Hid (CureS w C c A nn cc docs day a d s v b xb)) (hvz : Hid (v.size ≤ 4000000)) (hO : Hid (c.okC)) :
    Calls Tryz.prog 120 #[.pointer (some ⟨xb, 0, none⟩)] w (Cured (sumM c d s) w) := by
  have hsz := Lib.hid hS.out.crd.size
  have hnn := hS.out.room.most
  have hlt : a < nn := by have := (List.getElem?_eq_some_iff.1 hS.out.at_).1; have := hS.out.room.len; omega
  obtain ⟨b3, f3, rfl, d0, _⟩ := hS.out.room.at_ a d hS.out.at_
  have x18 : w.cell? ⟨xb, 18, none⟩ = some (.slice (some ⟨b3, f3, none⟩) nn cc) := (hS.out.blk.cell 18).trans (cuX_docs hsz.out)
  have x19 : w.cell? ⟨xb, 19, none⟩ = some (.int .i64 day) := (hS.out.blk.cell 19).trans (cuX_day hsz.out)
  have x20 : w.cell? ⟨xb, 20, none⟩ = some (.int .i64 (a : Int)) := (hS.out.blk.cell 20).trans (cuX_at hsz.out)
  have x21 : w.cell? ⟨xb, 21, none⟩ = some (.string s) := (hS.out.blk.cell 21).trans (cuX_name hsz.out)
  have x22 : w.cell? ⟨xb, 22, none⟩ = some (.string v) := (hS.out.blk.cell 22).trans (cuX_value hsz.out)
  have x23 : w.cell? ⟨xb, 23, none⟩ = some (.bool b) := (hS.out.blk.cell 23).trans (cuX_there hsz.out)
  have i3 : (a : Int) < (nn : Int) := by omega
  have i4 : (0 : Int) ≤ (a : Int) := by omega
  have hv := Lib.hid hS.out.val
  have hth := Lib.hid hS.out.there
  unfold Cured
  have hP : Hid (sumM c d s = if d.kind = 0 ∧ s.toList = nSum.toList then (match (if b = true then numF v.data.toList else none) with
      | none => some (mkB (Lib.itoa c.amount))
      | some n => if boundsB c = true ∧ mostC c < n then some (mkB (Lib.itoa (mostC c))) else if boundsB c = true ∧ n < leastY c then some (mkB (Lib.itoa (leastY c))) else none) else none) := by unfold Hid sumM numV; rw [hv.out, hth.out]; rfl
  obtain ⟨P, hPd⟩ : ∃ z, Hid (sumM c d s = z) := ⟨_, rfl⟩
  rw [hPd.out] at hP ⊢
  have hcr := Lib.hid hS.out.crd
  have hbk := Lib.hid hS.out.blk
  have hen := Lib.hid hS.out.room.env
  obtain ⟨dk, hdk⟩ : ∃ z, d.kind = z := ⟨_, rfl⟩
  rw [hdk] at hP d0
  clear hS hv hth hPd hdk
  by_cases hk : dk = 0
  · subst hk
    by_cases hs : s.toList = nSum.toList
    · have q0 : (s.toList == [115, 117, 109]) = true := beq_iff_eq.2 (hs.trans nSum_list)
      have q1 : (s.toList != [115, 117, 109]) = false := by rw [bne, beq_iff_eq.2 (hs.trans nSum_list)]; rfl
      rw [if_pos ⟨rfl, hs⟩] at hP
      clear hs
      go_enter Tryz.func120, Tryz.ntmps120
      go_wp2_with fail
      go_quiet (fail)
      go_wp2_with fail
      refine (number_any v (w.drewN _) hvz.out (hen.out.below (below_drewN (Below.refl _ _) _))).mono ?_
      rintro e w1 ⟨rfl, hb1⟩
      have hB1 : Hid (Below w.heap.size w w1) := (below_drewN (Below.refl _ _) _).trans hb1
      have hbk1 := Lib.hid (hbk.out.below hB1.out hbk.out.lt)
      clear hb1 hbk x18 x19 x20 x21 x22 x23 d0
      have y23 : w1.cell? ⟨xb, 23, none⟩ = some (.bool b) := (hbk1.out.cell 23).trans (cuX_there hsz.out)
      have y8 : w1.cell? ⟨xb, 8, none⟩ = some (.int .i64 c.amount) := (hbk1.out.cell 8).trans ((cuX_cell hsz.out (by omega)).trans hcr.out.amount)
      cases b with
      | false =>
        rw [if_neg (by decide)] at hP
        obtain ⟨tn, htn⟩ : ∃ z, numF v.data.toList = z := ⟨_, rfl⟩
        rw [htn]
        cases tn <;> (first | rw [twoN_none] | rw [twoN_some])
        all_goals
          go_wp2_with fail
          refine (cdigits_any c.amount w1 hO.out.amount (Lib.hid (hen.out.below hB1.out))).mono ?_
          rintro e w9 ⟨rfl, hb9⟩
          have hB9 : Hid (Below w.heap.size w w9) := hB1.out.trans (hb9.mono hB1.out.size)
          clear hb9
          go_wp2_with fail
          go_ret2
          exact ⟨by rw [hP.out]; rfl, hB9.out⟩
      | true =>
        rw [if_pos rfl] at hP
        cases hr : numF v.data.toList with
        | none =>
          rw [hr] at hP
          rw [twoN_none]
          clear hr
          go_wp2_with fail
          refine (cdigits_any c.amount w1 hO.out.amount (Lib.hid (hen.out.below hB1.out))).mono ?_
          rintro e w9 ⟨rfl, hb9⟩
          have hB9 : Hid (Below w.heap.size w w9) := hB1.out.trans (hb9.mono hB1.out.size)
          clear hb9
          go_wp2_with fail
          go_ret2
          exact ⟨by rw [hP.out]; rfl, hB9.out⟩
        | some n =>
          have hP2 : Hid (P = if boundsB c = true ∧ mostC c < n then some (mkB (Lib.itoa (mostC c))) else if boundsB c = true ∧ n < leastY c then some (mkB (Lib.itoa (leastY c))) else none) := by rw [hr] at hP; exact hP
          clear hP
          have hn := Lib.hid (numF_in hr)
          rw [twoN_some]
          clear hr
          go_wp2_with (refine wpList_load_cr rfl (.tmp 56) rfl xb rfl C (cuX_range hsz.out hbk1.out) hsz.out ?_)
          refine (Most_any C c hcr w1).mono ?_
          rintro e w2 ⟨rfl, hb2⟩
          have hB2 := Lib.hid (hB1.out.trans (hb2.mono hB1.out.size))
          have hbk2 := Lib.hid (hbk1.out.below hb2 hbk1.out.lt)
          clear hb2 y23 y8
          cases hbd : boundsB c
          · have hP : Hid (P = none) := by unfold Hid; rw [hP2.out, hbd]; simp
            have em : Hid (most2 c = .tuple #[.int .i64 0, .int .i64 1]) := by unfold Hid most2; rw [hbd]; rfl
            have el : Hid (least2 c = .tuple #[.int .i64 0, .int .i64 1]) := by unfold Hid least2; rw [hbd]; rfl
            clear hbd
            rw [em.out]
            go_wp2_with (refine wpList_load_cr rfl (.tmp 73) rfl xb rfl C (cuX_range hsz.out hbk2.out) hsz.out ?_)
            refine (Least_any C c hcr w2).mono ?_
            rintro e w3 ⟨rfl, hb3⟩
            have hB3 := Lib.hid (hB2.out.trans (hb3.mono hB2.out.size))
            clear hb3
            rw [el.out]
            go_wp2_with fail
            go_ret2
            exact ⟨by rw [hP.out]; rfl, hB3.out⟩
          · have em : Hid (most2 c = .tuple #[.int .i64 (mostC c), .int .i64 0]) := by unfold Hid most2; rw [hbd]; rfl
            have el : Hid (least2 c = .tuple #[.int .i64 (leastY c), .int .i64 0]) := by unfold Hid least2; rw [hbd]; rfl
            have hrm := Lib.hid (most_range hbd)
            have hrl := Lib.hid (least_range hbd)
            rw [em.out]
            by_cases h5 : mostC c < n
            · have hP : Hid (P = some (mkB (Lib.itoa (mostC c)))) := by unfold Hid; rw [hP2.out, if_pos ⟨hbd, h5⟩]
              clear hbd
              go_wp2_with fail
              all_goals try (exfalso; omega)
              refine (cdigits_any (mostC c) w2 hrm.out (Lib.hid (hen.out.below hB2.out))).mono ?_
              rintro e w9 ⟨rfl, hb9⟩
              have hB9 : Hid (Below w.heap.size w w9) := hB2.out.trans (hb9.mono hB2.out.size)
              clear hb9
              go_wp2_with fail
              go_ret2
              exact ⟨by rw [hP.out]; rfl, hB9.out⟩
            · have hwx : Hid (P = if n < leastY c then some (mkB (Lib.itoa (leastY c))) else none) := by unfold Hid; rw [hP2.out, if_neg (by simp [h5]), hbd]; simp
              clear hbd
              go_wp2_with (refine wpList_load_cr rfl (.tmp 73) rfl xb rfl C (cuX_range hsz.out hbk2.out) hsz.out ?_)
              all_goals try (exfalso; omega)
              refine (Least_any C c hcr w2).mono ?_
              rintro e w3 ⟨rfl, hb3⟩
              have hB3 := Lib.hid (hB2.out.trans (hb3.mono hB2.out.size))
              clear hb3
              rw [el.out]
              by_cases h6 : n < leastY c
              · have hP : Hid (P = some (mkB (Lib.itoa (leastY c)))) := by unfold Hid; rw [hwx.out, if_pos h6]
                go_wp2_with fail
                all_goals try (exfalso; omega)
                refine (cdigits_any (leastY c) w3 hrl.out (Lib.hid (hen.out.below hB3.out))).mono ?_
                rintro e w9 ⟨rfl, hb9⟩
                have hB9 : Hid (Below w.heap.size w w9) := hB3.out.trans (hb9.mono hB3.out.size)
                clear hb9
                go_wp2_with fail
                go_ret2
                exact ⟨by rw [hP.out]; rfl, hB9.out⟩
              · have hP : Hid (P = none) := by unfold Hid; rw [hwx.out, if_neg h6]
                go_wp2_with fail
                all_goals try (exfalso; omega)
                go_ret2
                exact ⟨by rw [hP.out]; rfl, hB3.out⟩
    · have q0 : (s.toList == [115, 117, 109]) = false := beq_eq_false_iff_ne.2 (fun h => hs (h.trans nSum_list.symm))
      have q1 : (s.toList != [115, 117, 109]) = true := by rw [bne, beq_eq_false_iff_ne.2 (fun h => hs (h.trans nSum_list.symm))]; rfl
      rw [if_neg (fun h => hs h.2)] at hP
      clear hs
      go_enter Tryz.func120, Tryz.ntmps120
      go_wp2_with fail
      go_quiet (fail)
      go_wp2_with fail
      go_ret2
      exact ⟨by rw [hP.out]; rfl, below_drewN (Below.refl _ _) _⟩
  · have z1 : (dk != 0) = true := by simpa using hk
    rw [if_neg (fun h => hk h.1)] at hP
    clear hk
    go_enter Tryz.func120, Tryz.ntmps120
    go_wp2_with fail
    go_quiet (fail)
    go_wp2_with fail
    go_ret2
    exact ⟨by rw [hP.out]; rfl, below_drewN (Below.refl _ _) _⟩
set_option maxRecDepth 100000 in
set_option maxHeartbeats 3200000 in
theorem cissued_any (w : World) (C : Array Value) (c : Crd) (A : Option Addr) (nn cc : Nat) (docs : List Pap) (day : Int) (a : Nat) (d : Pap) (s v : ByteArray) (b : Bool) (xb : Nat) (hS : Hid (CureS w C c A nn cc docs day a d s v b xb)) (hvz : Hid (v.size ≤ 4000000)) (hO : Hid (c.okC)) (hday : Hid (-9223372036854775808 ≤ day ∧ day ≤ 9223372036854775807)) :
    Calls Tryz.prog 121 #[.pointer (some ⟨xb, 0, none⟩)] w (Cured (issuedM c day d s) w) := by
  have hsz := Lib.hid hS.out.crd.size
  have hnn := hS.out.room.most
  have hlt : a < nn := by have := (List.getElem?_eq_some_iff.1 hS.out.at_).1; have := hS.out.room.len; omega
  obtain ⟨b3, f3, rfl, d0, _⟩ := hS.out.room.at_ a d hS.out.at_
  have x18 : w.cell? ⟨xb, 18, none⟩ = some (.slice (some ⟨b3, f3, none⟩) nn cc) := (hS.out.blk.cell 18).trans (cuX_docs hsz.out)
  have x19 : w.cell? ⟨xb, 19, none⟩ = some (.int .i64 day) := (hS.out.blk.cell 19).trans (cuX_day hsz.out)
  have x20 : w.cell? ⟨xb, 20, none⟩ = some (.int .i64 (a : Int)) := (hS.out.blk.cell 20).trans (cuX_at hsz.out)
  have x21 : w.cell? ⟨xb, 21, none⟩ = some (.string s) := (hS.out.blk.cell 21).trans (cuX_name hsz.out)
  have x22 : w.cell? ⟨xb, 22, none⟩ = some (.string v) := (hS.out.blk.cell 22).trans (cuX_value hsz.out)
  have x23 : w.cell? ⟨xb, 23, none⟩ = some (.bool b) := (hS.out.blk.cell 23).trans (cuX_there hsz.out)
  have i3 : (a : Int) < (nn : Int) := by omega
  have i4 : (0 : Int) ≤ (a : Int) := by omega
  have hv := Lib.hid hS.out.val
  have hth := Lib.hid hS.out.there
  unfold Cured
  have hP : Hid (issuedM c day d s = if d.kind = 2 ∧ s.toList = nIssued.toList then (match (if b = true then numF v.data.toList else none) with
      | none => some (mkB (Lib.itoa (min c.latest day)))
      | some n => if n ≤ c.latest ∧ behindB day n c.within = false then none else some (mkB (Lib.itoa (min c.latest day)))) else none) := by unfold Hid issuedM numV; rw [hv.out, hth.out]; rfl
  obtain ⟨P, hPd⟩ : ∃ z, Hid (issuedM c day d s = z) := ⟨_, rfl⟩
  rw [hPd.out] at hP ⊢
  have hcr := Lib.hid hS.out.crd
  have hbk := Lib.hid hS.out.blk
  have hen := Lib.hid hS.out.room.env
  have hmr : Hid (-9223372036854775808 ≤ min c.latest day ∧ min c.latest day ≤ 9223372036854775807) := Lib.hid (by have := hO.out.latest; have := hday.out; omega)
  obtain ⟨dk, hdk⟩ : ∃ z, d.kind = z := ⟨_, rfl⟩
  rw [hdk] at hP d0
  clear hS hv hth hPd hdk
  by_cases hk : dk = 2
  · subst hk
    by_cases hs : s.toList = nIssued.toList
    · have q0 : (s.toList == [105, 115, 115, 117, 101, 100]) = true := beq_iff_eq.2 (hs.trans nIssued_list)
      have q1 : (s.toList != [105, 115, 115, 117, 101, 100]) = false := by rw [bne, beq_iff_eq.2 (hs.trans nIssued_list)]; rfl
      rw [if_pos ⟨rfl, hs⟩] at hP
      clear hs
      go_enter Tryz.func121, Tryz.ntmps121
      go_wp2_with fail
      go_quiet (fail)
      go_wp2_with fail
      refine (number_any v (w.drewN _) hvz.out (hen.out.below (below_drewN (Below.refl _ _) _))).mono ?_
      rintro e w1 ⟨rfl, hb1⟩
      have hB1 : Hid (Below w.heap.size w w1) := (below_drewN (Below.refl _ _) _).trans hb1
      have hbk1 := Lib.hid (hbk.out.below hB1.out hbk.out.lt)
      clear hb1 hbk x18 x19 x20 x21 x22 x23 d0
      have x10 : w1.cell? ⟨xb, 11, none⟩ = some (.int .i64 c.latest) := (hbk1.out.cell 11).trans ((cuX_cell hsz.out (by omega)).trans hcr.out.latest)
      have y23 : ∀ y : Ext w1, y.wd.cell? ⟨xb, 23, none⟩ = some (.bool b) := fun y => (y.cell _ hbk1.out.lt).trans ((hbk1.out.cell 23).trans (cuX_there hsz.out))
      have y11 : ∀ y : Ext w1, y.wd.cell? ⟨xb, 11, none⟩ = some (.int .i64 c.latest) := fun y => (y.cell _ hbk1.out.lt).trans ((hbk1.out.cell 11).trans ((cuX_cell hsz.out (by omega)).trans hcr.out.latest))
      have y13 : ∀ y : Ext w1, y.wd.cell? ⟨xb, 13, none⟩ = some (.int .i64 c.within) := fun y => (y.cell _ hbk1.out.lt).trans ((hbk1.out.cell 13).trans ((cuX_cell hsz.out (by omega)).trans hcr.out.within))
      have y19 : ∀ y : Ext w1, y.wd.cell? ⟨xb, 19, none⟩ = some (.int .i64 day) := fun y => (y.cell _ hbk1.out.lt).trans ((hbk1.out.cell 19).trans (cuX_day hsz.out))
      cases b with
      | false =>
        rw [if_neg (by decide)] at hP
        obtain ⟨tn, htn⟩ : ∃ z, numF v.data.toList = z := ⟨_, rfl⟩
        have hbh : Hid True := trivial
        rw [htn]
        cases tn <;> (first | rw [twoN_none] | rw [twoN_some])
        all_goals
          go_wp2_with fail
          refine wp_region_ext (by kernel_rfl) (by kernel_rfl) ?_
          repeat (go_big_quiet_step (fail))
          refine wpQuiet_nil ?_
          rintro _ ⟨y, rfl⟩
          have hBy := Lib.hid (hB1.out.trans (y.below.mono hB1.out.size))
          have hby := Lib.hid (hbk1.out.below y.below hbk1.out.lt)
          obtain ⟨W, hW⟩ : ∃ W, y.wd = W := ⟨_, rfl⟩
          rw [hW] at hBy hby ⊢
          clear y23 y11 y13 y19 hbh hW
          have z19 : W.cell? ⟨xb, 19, none⟩ = some (.int .i64 day) := (hby.out.cell 19).trans (cuX_day hsz.out)
          go_wp2_with fail
          refine (cdigits_any (min c.latest day) W hmr.out (Lib.hid (hen.out.below hBy.out))).mono ?_
          rintro e w9 ⟨rfl, hb9⟩
          have hB9 : Hid (Below w.heap.size w w9) := hBy.out.trans (hb9.mono hBy.out.size)
          clear hb9
          go_wp2_with fail
          go_ret2
          exact ⟨by rw [hP.out]; rfl, hB9.out⟩
      | true =>
        rw [if_pos rfl] at hP
        cases hr : numF v.data.toList with
        | none =>
          rw [hr] at hP
          rw [twoN_none]
          have hbh : Hid True := trivial
          clear hr
          go_wp2_with fail
          refine wp_region_ext (by kernel_rfl) (by kernel_rfl) ?_
          repeat (go_big_quiet_step (fail))
          refine wpQuiet_nil ?_
          rintro _ ⟨y, rfl⟩
          have hBy := Lib.hid (hB1.out.trans (y.below.mono hB1.out.size))
          have hby := Lib.hid (hbk1.out.below y.below hbk1.out.lt)
          obtain ⟨W, hW⟩ : ∃ W, y.wd = W := ⟨_, rfl⟩
          rw [hW] at hBy hby ⊢
          clear y23 y11 y13 y19 hbh hW
          have z19 : W.cell? ⟨xb, 19, none⟩ = some (.int .i64 day) := (hby.out.cell 19).trans (cuX_day hsz.out)
          go_wp2_with fail
          refine (cdigits_any (min c.latest day) W hmr.out (Lib.hid (hen.out.below hBy.out))).mono ?_
          rintro e w9 ⟨rfl, hb9⟩
          have hB9 : Hid (Below w.heap.size w w9) := hBy.out.trans (hb9.mono hBy.out.size)
          clear hb9
          go_wp2_with fail
          go_ret2
          exact ⟨by rw [hP.out]; rfl, hB9.out⟩
        | some n =>
          have hP2 : Hid (P = if n ≤ c.latest ∧ behindB day n c.within = false then none else some (mkB (Lib.itoa (min c.latest day)))) := by rw [hr] at hP; exact hP
          clear hP
          have hn := Lib.hid (numF_in hr)
          rw [twoN_some]
          clear hr
          have hbh : Hid (∀ y : Ext w1, Calls Tryz.prog 171 #[.int .i64 day, .int .i64 n, .int .i64 c.within] y.wd fun e w' => e = .returned (.bool (behindB day n c.within)) ∧ y.wd = w') := fun y => cbehind_any day n c.within y.wd hday.out (by have := hn.out; omega) hO.out.within
          by_cases hl : n ≤ c.latest
          · have hl1 : decide (n ≤ c.latest) = true := decide_eq_true hl
            cases hbb : behindB day n c.within with
            | false =>
              have hP : Hid (P = none) := by unfold Hid; rw [hP2.out, if_pos ⟨hl, hbb⟩]
              rw [hbb] at hbh
              clear hbb hP2
              go_wp2_with fail
              refine wp_region_ext (by kernel_rfl) (by kernel_rfl) ?_
              repeat (go_big_quiet_step (first | (go_at_call 171; exact Calls.ext_of_same (hbh.out _))))
              refine wpQuiet_nil ?_
              rintro _ ⟨y, rfl⟩
              have hBy := Lib.hid (hB1.out.trans (y.below.mono hB1.out.size))
              have hby := Lib.hid (hbk1.out.below y.below hbk1.out.lt)
              obtain ⟨W, hW⟩ : ∃ W, y.wd = W := ⟨_, rfl⟩
              rw [hW] at hBy hby ⊢
              clear y23 y11 y13 y19 hbh hW
              go_wp2_with fail
              go_ret2
              exact ⟨by rw [hP.out]; rfl, hBy.out⟩
            | true =>
              have hP : Hid (P = some (mkB (Lib.itoa (min c.latest day)))) := by unfold Hid; rw [hP2.out, if_neg (by rw [hbb]; simp)]
              rw [hbb] at hbh
              clear hbb hP2
              go_wp2_with fail
              refine wp_region_ext (by kernel_rfl) (by kernel_rfl) ?_
              repeat (go_big_quiet_step (first | (go_at_call 171; exact Calls.ext_of_same (hbh.out _))))
              refine wpQuiet_nil ?_
              rintro _ ⟨y, rfl⟩
              have hBy := Lib.hid (hB1.out.trans (y.below.mono hB1.out.size))
              have hby := Lib.hid (hbk1.out.below y.below hbk1.out.lt)
              obtain ⟨W, hW⟩ : ∃ W, y.wd = W := ⟨_, rfl⟩
              rw [hW] at hBy hby ⊢
              clear y23 y11 y13 y19 hbh hW
              have z19 : W.cell? ⟨xb, 19, none⟩ = some (.int .i64 day) := (hby.out.cell 19).trans (cuX_day hsz.out)
              go_wp2_with fail
              refine (cdigits_any (min c.latest day) W hmr.out (Lib.hid (hen.out.below hBy.out))).mono ?_
              rintro e w9 ⟨rfl, hb9⟩
              have hB9 : Hid (Below w.heap.size w w9) := hBy.out.trans (hb9.mono hBy.out.size)
              clear hb9
              go_wp2_with fail
              go_ret2
              exact ⟨by rw [hP.out]; rfl, hB9.out⟩
          · have hl1 : decide (n ≤ c.latest) = false := decide_eq_false hl
            have hP : Hid (P = some (mkB (Lib.itoa (min c.latest day)))) := by unfold Hid; rw [hP2.out, if_neg (fun h => hl h.1)]
            clear hP2
            go_wp2_with fail
            refine wp_region_ext (by kernel_rfl) (by kernel_rfl) ?_
            repeat (go_big_quiet_step (first | (go_at_call 171; exact Calls.ext_of_same (hbh.out _))))
            refine wpQuiet_nil ?_
            rintro _ ⟨y, rfl⟩
            have hBy := Lib.hid (hB1.out.trans (y.below.mono hB1.out.size))
            have hby := Lib.hid (hbk1.out.below y.below hbk1.out.lt)
            obtain ⟨W, hW⟩ : ∃ W, y.wd = W := ⟨_, rfl⟩
            rw [hW] at hBy hby ⊢
            clear y23 y11 y13 y19 hbh hW
            have z19 : W.cell? ⟨xb, 19, none⟩ = some (.int .i64 day) := (hby.out.cell 19).trans (cuX_day hsz.out)
            go_wp2_with fail
            refine (cdigits_any (min c.latest day) W hmr.out (Lib.hid (hen.out.below hBy.out))).mono ?_
            rintro e w9 ⟨rfl, hb9⟩
            have hB9 : Hid (Below w.heap.size w w9) := hBy.out.trans (hb9.mono hBy.out.size)
            clear hb9
            go_wp2_with fail
            go_ret2
            exact ⟨by rw [hP.out]; rfl, hB9.out⟩
    · have q0 : (s.toList == [105, 115, 115, 117, 101, 100]) = false := beq_eq_false_iff_ne.2 (fun h => hs (h.trans nIssued_list.symm))
      have q1 : (s.toList != [105, 115, 115, 117, 101, 100]) = true := by rw [bne, beq_eq_false_iff_ne.2 (fun h => hs (h.trans nIssued_list.symm))]; rfl
      rw [if_neg (fun h => hs h.2)] at hP
      clear hs
      go_enter Tryz.func121, Tryz.ntmps121
      go_wp2_with fail
      go_quiet (fail)
      go_wp2_with fail
      go_ret2
      exact ⟨by rw [hP.out]; rfl, below_drewN (Below.refl _ _) _⟩
  · have z1 : (dk != 2) = true := by simpa using hk
    rw [if_neg (fun h => hk h.1)] at hP
    clear hk
    go_enter Tryz.func121, Tryz.ntmps121
    go_wp2_with fail
    go_quiet (fail)
    go_wp2_with fail
    go_ret2
    exact ⟨by rw [hP.out]; rfl, below_drewN (Below.refl _ _) _⟩
end Go.Proofs.YtdjmckjbibfecaaGreatDoor

/- Examine, of any papers: what its maps hold, how much is told. -/
import Derived.Test.YtdjmckjbibfecaaGreatDoorEk
namespace Go.Proofs.YtdjmckjbibfecaaGreatDoor
open Go Go.RowKit Go.BigFrame Go.Maps

/-- The paper is held against those ahead. -/
def Oth (w0 : World) (ct cf bm xb : Nat) (X : Array Value) (am : Nat) (needs : List Nd) (ahead : List Pap) (d : Pap) (m : Nat) (l : List Flt) (w : World) (e : Ending) (w' : World) : Prop :=
  e = .returned (.tuple #[]) ∧ ∃ (v : Value) (n : Nat) (S : Value → Option Value), ExS w0 ct cf bm xb X w' v l ∧ TldM w0.heap.size cf bm am w w' ∧ n ≤ m ∧ MapFn w' Tryz.prog 9 9 am n (.string ⟨#[]⟩) S ∧ AheadS needs ahead d 6 S
theorem two_get (l : List Fld) (s : ByteArray) {r : Option ByteArray} (h : getF l s = r) : getV l s = r.getD ⟨#[]⟩ ∧ getB l s = r.isSome := by
  subst h; exact ⟨rfl, rfl⟩
theorem fits_str {u : ByteArray} (h : u.size ≤ 4000000) : u.size ≤ maxLen := by unfold maxLen; omega

theorem index69m (q : Nat) (hq : q < 6) (w : World) : (Instr.index 143 (.agg #[.string (mkB (alikeL 0)), .string (mkB (alikeL 1)), .string (mkB (alikeL 2)), .string (mkB (alikeL 3)), .string (mkB (alikeL 4)), .string (mkB (alikeL 5))]) (.int .i64 q)).run Tryz.prog w = .ok (.string (alikeB q)) w := index69 q hq w
theorem otherF_none {needs : List Nd} {ahead : List Pap} {a : Int} {d : Pap} {i : Nat} (h : getF d.fields (alikeB i) = none) : otherF needs ahead a d i = [] := by unfold otherF; rw [h]
theorem otherF_new {needs : List Nd} {ahead : List Pap} {a : Int} {d : Pap} {i : Nat} {u : ByteArray} (h : getF d.fields (alikeB i) = some u) (h2 : aheadF needs ahead (alikeB i) = none) : otherF needs ahead a d i = [] := by unfold otherF; rw [h, h2]
theorem otherF_same {needs : List Nd} {ahead : List Pap} {a : Int} {d : Pap} {i : Nat} {u o : ByteArray} (h : getF d.fields (alikeB i) = some u) (h2 : aheadF needs ahead (alikeB i) = some o) (h3 : o.toList = u.toList) : otherF needs ahead a d i = [] := by unfold otherF; rw [h, h2]; simp [h3]
theorem otherF_unlike {needs : List Nd} {ahead : List Pap} {a : Int} {d : Pap} {i : Nat} {u o : ByteArray} (h : getF d.fields (alikeB i) = some u) (h2 : aheadF needs ahead (alikeB i) = some o) (h3 : ¬ o.toList = u.toList) : otherF needs ahead a d i = [⟨a, d.kind, alikeB i, 3⟩] := by unfold otherF; rw [h, h2]; simp [h3]

set_option maxRecDepth 100000 in
set_option maxHeartbeats 3200000 in
theorem others_any (w0 : World) (ct cf bm xb : Nat) (C : Array Value) (hC : Hid (C.size = 18)) (needs : List Nd) (A : Option Addr) (nn cc : Nat) (docs : List Pap) (day : Int) (a : Nat) (d : Pap) (hd : Hid (docs[a]? = some d)) (hask : Hid (askedB needs d.kind = true)) (hR : Hid (Room w0 A nn docs)) (hal : Hid (AlikeAt w0))
    (am n0 : Nat) (S0 : Value → Option Value) (w : World) (v : Value) (l : List Flt) (hl : Hid (l.length + 10 ≤ 100000)) (hn0 : n0 ≤ 1000) (hx : Hid (ExS w0 ct cf bm xb (exX C A nn cc day ct cf) w v l)) (hm : Hid (MapFn w Tryz.prog 9 9 am n0 (.string ⟨#[]⟩) S0)) (ham : Hid (am ≠ bm ∧ w0.heap.size ≤ am)) (hS : Hid (AheadS needs (docs.take a) d 0 S0)) :
    Calls Tryz.prog 59 #[.pointer (some ⟨xb, 0, none⟩), .int .i64 a, .map (some am)] w (Oth w0 ct cf bm xb (exX C A nn cc day ct cf) am needs (docs.take a) d (n0 + 6) (addAll l (othersF needs (docs.take a) a d)) w) := by
  have halt : a < nn := by have := (List.getElem?_eq_some_iff.1 hd.out).1; have := hR.out.len; omega
  have hmost := hR.out.most
  have hkd := kind_of hR.out.at_ hd.out
  have hsm := Lib.hid (fun nm u => small_get (name := nm) (v := u) hR.out.small hd.out)
  obtain ⟨b, off, rfl, h0, h1, h2, h3, h4, h5, _⟩ := (hR.out.at_.below hx.out.below) a d hd.out
  have e18 : w.cell? ⟨xb, 18, none⟩ = some (.slice (some ⟨b, off, none⟩) nn cc) := (hx.out.exam.cell 18).trans (exX_docs hC.out)
  have henv := Lib.hid (hal.out.below hx.out.below)
  obtain ⟨kd, nu, is, fA, fc, fs⟩ := d
  simp only at h0 h1 h2 h3 h4 h5 hkd hsm
  obtain ⟨hk1, hk2⟩ := hkd
  obtain ⟨fm, hfm⟩ : ∃ m, Hid (fs.length = m) := ⟨_, rfl⟩
  rw [hfm.out] at h3 h5
  have h4' := Lib.hid h4
  have h5' := Lib.hid h5
  clear h4 h5
  have hbA := Lib.hid ((Below.refl _ w).alloc (Nat.le_refl _) (.cells #[.int .i64 kd, .string nu, .string is, .slice fA fm fc] 61))
  have hdb := Lib.hid (Blk.new w 61 #[.int .i64 kd, .string nu, .string is, .slice fA fm fc])
  have hxA := Lib.hid (hx.out.belows hbA.out)
  have hmA := Lib.hid (hm.out.alloc (.cells #[.int .i64 kd, .string nu, .string is, .slice fA fm fc] 61))
  have hBA : Hid (TldM w0.heap.size cf bm am w (w.alloc (.cells #[.int .i64 kd, .string nu, .string is, .slice fA fm fc] 61))) := TldM.of (Tld.of_below hbA.out)
  have hE := henv.out.below hbA.out
  have a0 := hE 0 (by omega)
  have a1 := hE 1 (by omega)
  have a2 := hE 2 (by omega)
  have a3 := hE 3 (by omega)
  have a4 := hE 4 (by omega)
  have a5 := hE 5 (by omega)
  clear hE
  obtain ⟨g0, hg0⟩ : ∃ g0, Hid (w.heap.size = g0) := ⟨_, rfl⟩
  rw [hg0.out] at hdb
  go_enter Tryz.func59, Tryz.ntmps59
  go_wp2_with fail
  clear a0 a1 a2 a3 a4 a5
  have hg0w := Lib.hid hg0.out
  have hF4 := Lib.hid h4'.out
  clear h0 h1 h2 h3 e18
  go_loopw [8, 9, 10, 11, 12, 21] (fun _ _ _ _ _ i wr => ∃ (q n : Nat) (v' : Value) (S : Value → Option Value), q ≤ 6 ∧ n ≤ n0 + q ∧ i = .int .i64 q ∧ Hid (ExS w0 ct cf bm xb (exX C (some ⟨b, off, none⟩) nn cc day ct cf) wr v' (addAll l ((List.range q).flatMap (otherF needs (docs.take a) a ⟨kd, nu, is, fA, fc, fs⟩)))) ∧ Hid (TldM w0.heap.size cf bm am w wr) ∧ Hid (MapFn wr Tryz.prog 9 9 am n (.string ⟨#[]⟩) S) ∧ Hid (AheadS needs (docs.take a) ⟨kd, nu, is, fA, fc, fs⟩ q S) ∧ Hid (Blk wr w.heap.size 61 #[.int .i64 kd, .string nu, .string is, .slice fA fm fc])) (fun _ _ _ _ _ i _ => 6 - (intOf i).toNat)
  case atStart => exact ⟨0, n0, v, S0, by omega, by omega, rfl, hxA, hBA, hmA, hS, by rw [hg0.out]; exact hdb.out⟩
  case round =>
    obtain ⟨q, n, v', S, hq, hn, rfl, hx1, hB1, hm1, hS1, hdb1⟩ := hrel
    by_cases hlt : q < 6
    · have hix := index69m q hlt
      have hsn := Lib.hid (othersF_snoc needs (docs.take a) a ⟨kd, nu, is, fA, fc, fs⟩ q)
      have hnsz := alikeB_size q hlt
      have hlen : Hid ((addAll l ((List.range q).flatMap (otherF needs (docs.take a) a ⟨kd, nu, is, fA, fc, fs⟩))).length < 100000) := by
        have e1 := addAll_len ((List.range q).flatMap (otherF needs (docs.take a) a ⟨kd, nu, is, fA, fc, fs⟩)) l
        have e2 := others_len needs (docs.take a) a ⟨kd, nu, is, fA, fc, fs⟩ q
        have := hl.out; unfold Hid; omega
      have hSq := Lib.hid (hS1.out.at_ hlt)
      have hqr := Lib.hid (ahead_snoc needs ⟨kd, nu, is, fA, fc, fs⟩ (alikeB q) (docs.take a))
      have c3 : wr.cell? ⟨w.heap.size, 3, none⟩ = some (.slice fA fm fc) := hdb1.out.cell 3
      obtain ⟨nm, hnm⟩ : ∃ nm, Hid (alikeB q = nm) := ⟨_, rfl⟩
      rw [hnm.out] at hix hnsz hSq hqr
      have hfl : FieldsAt wr fA fs := by
        obtain ⟨_, _, _, _, _, _, _, g4, _⟩ := (hR.out.at_.below hx1.out.below) a _ hd.out
        exact g4
      have hfl' := Lib.hid hfl
      clear hfl
      go_wp2_with fail
      clear hix c3
      refine (get_any fA fm fc fs nm wr h5'.out hfm hfl'.out).mono ?_
      rintro e w1 ⟨rfl, hb1⟩
      have hb1' := Lib.hid hb1
      have hx2 := Lib.hid (hx1.out.belows hb1)
      have hB2 := Lib.hid (hB1.out.trans (TldM.of (Tld.of_below hb1)))
      have hm2 := Lib.hid (hm1.out.below hb1 hm1.out.lt)
      have hdb2 := Lib.hid (hdb1.out.below hb1 hdb1.out.lt)
      clear hb1 hx1 hB1 hm1 hdb1
      cases hg : getF fs nm with
      | none =>
        obtain ⟨eV, eB⟩ := two_get fs nm hg
        have hot : Hid (otherF needs (docs.take a) a ⟨kd, nu, is, fA, fc, fs⟩ q = []) := otherF_none (by rw [hnm.out]; exact hg)
        have hS2 := Lib.hid (hS1.out.same (by rw [hnm.out, hqr.out]; simp only [hg]; cases aheadF needs (docs.take a) nm <;> simp))
        rw [eV, eB]
        simp only [Option.getD_none, Option.isSome_none]
        clear hg eV eB
        go_wp2_with fail
        go_roundw
        case rel => exact ⟨q + 1, n, v', S, by omega, by omega, by go_num, by unfold Hid; rw [hsn.out, hot.out, List.append_nil]; exact hx2.out, hB2, hm2, hS2, hdb2⟩
        case measure => simp [intOf]; omega
      | some u =>
        obtain ⟨eV, eB⟩ := two_get fs nm hg
        have hu := Lib.hid (hsm.out nm u hg)
        have hg' : Hid (getF fs nm = some u) := hg
        rw [eV, eB]
        simp only [Option.getD_some, Option.isSome_some]
        clear hg eV eB
        obtain ⟨kl, hkl⟩ := keyS (s := nm) (by unfold maxLen; omega)
        have hlk := hm2.out.look_ok str_keyed9 Tryz.underlying96 (zero9 _) hkl
        rw [hSq.out] at hlk
        have hkl' := Lib.hid hkl
        clear hkl
        cases ha : aheadF needs (docs.take a) nm with
        | none =>
          rw [ha] at hlk
          simp only [Option.map_none, Option.getD_none, Option.isSome_none] at hlk
          have hot : Hid (otherF needs (docs.take a) a ⟨kd, nu, is, fA, fc, fs⟩ q = []) := otherF_new (by rw [hnm.out]; exact hg'.out) (by rw [hnm.out]; exact ha)
          have hS2 := Lib.hid (hS1.out.put hlt (v := u) (by rw [hnm.out, hqr.out, ha]; simp only [hask.out, if_true]; exact hg'.out))
          rw [hnm.out] at hS2
          have hnl : Hid (n < maxLen) := by unfold Hid maxLen; omega
          have hub : Hid (u.size ≤ maxLen) := fits_str hu.out
          clear ha
          go_wp2_with ((at_mapUpdate; go_must (refine wpList_put _ rfl _ _ _ 96 rfl str_keyed9 Tryz.underlying96 am n rfl hm2.out hnl.out (.string nm) (.string u) kl rfl rfl hkl'.out (plainElem_string Tryz.underlying9 hub.out) ?_); intro w2 hm3 hg3; have hm3' := Lib.hid hm3; have hx3 := Lib.hid (hx2.out.put hm2.out ham.out.1 ham.out.2 hg3); have hB3 := Lib.hid (hB2.out.trans (TldM.put hg3)); have hdb3 := Lib.hid (hdb2.out.kept hg3 (by simpa using blk_map_ne hdb2.out hm2.out)); clear hm3 hg3 hlk))
          go_roundw
          case rel => exact ⟨q + 1, n + 1, v', _, by omega, by omega, by go_num, by unfold Hid; rw [hsn.out, hot.out, List.append_nil]; exact hx3.out, hB3, hm3', hS2, hdb3⟩
          case measure => simp [intOf]; omega
        | some o =>
          rw [ha] at hlk
          simp only [Option.map_some, Option.getD_some, Option.isSome_some] at hlk
          have hS2 := Lib.hid (hS1.out.same (by rw [hnm.out, hqr.out, ha]))
          by_cases heq : o.toList = u.toList
          · have hot : Hid (otherF needs (docs.take a) a ⟨kd, nu, is, fA, fc, fs⟩ q = []) := otherF_same (by rw [hnm.out]; exact hg'.out) (by rw [hnm.out]; exact ha) heq
            have hb : (o.toList == u.toList) = true := by simp [heq]
            clear ha heq
            go_wp2_with fail
            go_roundw
            case rel => exact ⟨q + 1, n, v', S, by omega, by omega, by go_num, by unfold Hid; rw [hsn.out, hot.out, List.append_nil]; exact hx2.out, hB2, hm2, hS2, hdb2⟩
            case measure => simp [intOf]; omega
          · have hot : Hid (otherF needs (docs.take a) a ⟨kd, nu, is, fA, fc, fs⟩ q = [⟨a, kd, nm, 3⟩]) := by
              have := otherF_unlike (a := a) (d := ⟨kd, nu, is, fA, fc, fs⟩) (i := q) (by rw [hnm.out]; exact hg'.out) (by rw [hnm.out]; exact ha) heq
              rw [hnm.out] at this; exact this
            have hb : (o.toList == u.toList) = false := by simp [heq]
            clear ha heq
            have ck : w1.cell? ⟨w.heap.size, 0, none⟩ = some (.int .i64 kd) := hdb2.out.cell 0
            have cx : w1.cell? ⟨xb, 20, none⟩ = _ := (hx2.out.exam.cell 20).trans (exX_tell hC.out)
            have hfits : Flt.fits ⟨a, kd, nm, 3⟩ := ⟨fits_i64 (n := a) (by omega) (by omega), fits_i64 hk1 hk2, by show nm.size ≤ maxLen; unfold maxLen; omega, fits_i64 (n := 3) (by omega) (by omega)⟩
            have hc : ∀ W, W = w1.drew → Calls Tryz.prog 57 #[.agg #[.int .i64 a, .int .i64 kd, .string nm, .int .i64 3], .pointer (some ⟨ct, 0, none⟩), .pointer (some ⟨cf, 0, none⟩)] W (Ted w0 ct cf bm xb (exX C (some ⟨b, off, none⟩) nn cc day ct cf) (addF (addAll l ((List.range q).flatMap (otherF needs (docs.take a) a ⟨kd, nu, is, fA, fc, fs⟩))) ⟨a, kd, nm, 3⟩) W) := fun W e => by
              subst e
              exact tell_ex ⟨a, kd, nm, 3⟩ hfits (Nat.le_of_lt hlen.out) hx2.out.drew
            have hc' := Lib.hid hc
            clear hc hfits
            go_wp2_with fail
            go_region_with ((go_at_call 57; (with_reducible refine (hc'.out _ ?_).mono ?_); rfl; rintro e w3 ⟨rfl, v3, g1, g2⟩; have g1' := Lib.hid g1; have g2' := Lib.hid g2; clear g1 g2))
            all_goals
              go_wp2_with fail
              go_roundw
              case rel => exact ⟨q + 1, n, v3, S, by omega, by omega, by go_num, by unfold Hid; rw [hsn.out, hot.out, addAll_app]; exact g1'.out, hB2.out.trans (TldM.of ((Tld.of_below (Below.refl _ _).drew).trans g2'.out)), hx2.out.drew.keepM g2'.out hm2.out.drew ham.out.1, hS2, hx2.out.drew.keep g2'.out hdb2.out.drew (by decide) (by decide)⟩
              case measure => simp [intOf]; omega
    · obtain rfl : q = 6 := by omega
      go_wp2_with fail
      go_end0
      exact ⟨rfl, v', n, S, hx1.out, hB1.out, hn, hm1.out, hS1.out⟩
end Go.Proofs.YtdjmckjbibfecaaGreatDoor
namespace Go.Proofs.YtdjmckjbibfecaaGreatDoor
open Go Go.RowKit Go.BigFrame Go.Maps

/-- How many papers of each kind there are. -/
def CountS (docs : List Pap) (S : Value → Option Value) : Prop := ∀ k : Int, (S (.int .i64 k)).getD (.int .i64 0) = .int .i64 (countK docs k : Int)
/-- Which kinds are asked for. -/
def AskS (needs : List Nd) (S : Value → Option Value) : Prop := ∀ k : Int, (S (.int .i64 k)).getD (.bool false) = .bool (askedB needs k)
def Ahead0 (needs : List Nd) (ahead : List Pap) (S : Value → Option Value) : Prop := ∀ j, j < 6 → S (.string (alikeB j)) = (aheadF needs ahead (alikeB j)).map Value.string
theorem countK_snoc {docs : List Pap} {q : Nat} {d : Pap} (h : docs[q]? = some d) (k : Int) : countK (docs.take (q + 1)) k = countK (docs.take q) k + if d.kind = k then 1 else 0 := by
  obtain ⟨hk, he⟩ := List.getElem?_eq_some_iff.1 h
  rw [List.take_succ_eq_append_getElem hk, he]
  unfold countK
  rw [List.countP_append]
  simp [List.countP_cons]
theorem countK_le (docs : List Pap) (k : Int) : countK docs k ≤ docs.length := List.countP_le_length
open Classical in
theorem CountS.put {docs : List Pap} {q : Nat} {d : Pap} {S : Value → Option Value} (h : CountS (docs.take q) S) (hd : docs[q]? = some d) : CountS (docs.take (q + 1)) (fun y => if y = .int .i64 d.kind then some (.int .i64 ((countK (docs.take q) d.kind : Int) + 1)) else S y) := by
  intro k
  show (if Value.int .i64 k = .int .i64 d.kind then some (.int .i64 ((countK (docs.take q) d.kind : Int) + 1)) else S (.int .i64 k)).getD _ = _
  rw [countK_snoc hd]
  by_cases hk : k = d.kind
  · subst hk
    rw [if_pos rfl, if_pos rfl]; simp
  · rw [if_neg (by simpa using hk), if_neg (fun e => hk e.symm), h k]; simp
open Classical in
theorem AskS.put {needs : List Nd} {q : Nat} {x : Nd} {S : Value → Option Value} (h : AskS (needs.take q) S) (hx : needs[q]? = some x) : AskS (needs.take (q + 1)) (fun y => if y = .int .i64 x.kind then some (.bool true) else S y) := by
  intro k
  show (if Value.int .i64 k = .int .i64 x.kind then some (.bool true) else S (.int .i64 k)).getD _ = _
  obtain ⟨hq, he⟩ := List.getElem?_eq_some_iff.1 hx
  have e : askedB (needs.take (q + 1)) k = (askedB (needs.take q) k || decide (x.kind = k)) := by
    rw [List.take_succ_eq_append_getElem hq, he]
    simp [askedB]
  rw [e]
  by_cases hk : k = x.kind
  · subst hk
    rw [if_pos rfl]; simp
  · rw [if_neg (by simpa using hk), h k]
    simp [show ¬ x.kind = k from fun e => hk e.symm]
theorem Ahead0.start (needs : List Nd) : Ahead0 needs [] (fun _ => none) := fun _ _ => rfl
theorem Ahead0.to {needs : List Nd} {ahead : List Pap} {S : Value → Option Value} (h : Ahead0 needs ahead S) (d : Pap) : AheadS needs ahead d 0 S := fun j hj => by
  rw [h j hj, if_neg (by omega)]
theorem AheadS.out {needs : List Nd} {docs : List Pap} {q : Nat} {d : Pap} {S : Value → Option Value} (h : AheadS needs (docs.take q) d 6 S) (hd : docs[q]? = some d) : Ahead0 needs (docs.take (q + 1)) S := fun j hj => by
  obtain ⟨hq, he⟩ := List.getElem?_eq_some_iff.1 hd
  rw [h j hj, if_pos hj, List.take_succ_eq_append_getElem hq, he]
theorem Ahead0.skip {needs : List Nd} {docs : List Pap} {q : Nat} {d : Pap} {S : Value → Option Value} (h : Ahead0 needs (docs.take q) S) (hd : docs[q]? = some d) (ha : askedB needs d.kind = false) : Ahead0 needs (docs.take (q + 1)) S := fun j hj => by
  obtain ⟨hq, he⟩ := List.getElem?_eq_some_iff.1 hd
  rw [h j hj, List.take_succ_eq_append_getElem hq, he, ahead_snoc, ha]
  cases aheadF needs (docs.take q) (alikeB j) <;> rfl
theorem lack_snoc {needs : List Nd} {q : Nat} {x : Nd} (docs : List Pap) (h : needs[q]? = some x) : (needs.take (q + 1)).flatMap (lackF docs) = (needs.take q).flatMap (lackF docs) ++ lackF docs x := by
  obtain ⟨hk, he⟩ := List.getElem?_eq_some_iff.1 h
  rw [List.take_succ_eq_append_getElem hk, he]; simp
theorem lackF_le (docs : List Pap) (x : Nd) : (lackF docs x).length ≤ 1 := by unfold lackF; split <;> simp
theorem docs_snoc (c : Crd) (needs : List Nd) (docs : List Pap) (day : Int) (q : Nat) : (List.range (q + 1)).flatMap (docAt c needs docs day) = (List.range q).flatMap (docAt c needs docs day) ++ docAt c needs docs day q := by
  rw [List.range_succ]; simp
theorem docF_len {c : Crd} {needs : List Nd} {docs : List Pap} {day : Int} {a : Nat} {d : Pap} (hF : FewParts needs) : (docF c needs docs day a d).length ≤ 800 := by
  unfold docF
  split
  · have h1 := fixedF_len c day a d
    have h2 := ruledF_len (docs := docs) (a := a) (d := d) needs hF.2
    have h3 := others_len needs (docs.take a) a d 6
    have h4 := hF.1
    unfold paperF othersF
    simp only [List.length_append]; omega
  · simp
theorem docAt_len {c : Crd} {needs : List Nd} {docs : List Pap} {day : Int} (hF : FewParts needs) (a : Nat) : (docAt c needs docs day a).length ≤ 800 := by
  unfold docAt
  split
  · exact docF_len hF
  · simp
theorem docs_len {c : Crd} {needs : List Nd} {docs : List Pap} {day : Int} (hF : FewParts needs) : ∀ q : Nat, ((List.range q).flatMap (docAt c needs docs day)).length ≤ 800 * q
  | 0 => by simp
  | q + 1 => by
    have := docs_len (c := c) (docs := docs) (day := day) hF q
    have := docAt_len (c := c) (docs := docs) (day := day) hF q
    rw [docs_snoc, List.length_append]; omega
mutual
theorem parts_wgt : ∀ t : Tree, ((partsT t).length : Int) ≤ wgtT t
  | .mk k p f x n A c L => by
    have := partsL_wgt L
    have := wgtL_pos L
    rw [partsT, wgtT]
    split
    · omega
    · simp; omega
theorem partsL_wgt : ∀ L : List Tree, ((partsL L).length : Int) ≤ wgtL L
  | [] => by simp [partsL, wgtL]
  | t :: L => by
    have := parts_wgt t
    have := partsL_wgt L
    rw [partsL, wgtL, List.length_append]; omega
end
theorem few_parts {needs : List Nd} {docs : List Pap} (h : fewB needs docs = true) : FewParts needs := by
  unfold fewB at h
  simp only [Bool.and_eq_true, decide_eq_true_eq] at h
  refine ⟨h.1.1.1, fun x hx => ?_⟩
  have := List.all_eq_true.1 h.1.2 x hx
  have h60 : sizeT x.rule 200 ≤ 60 := by simpa using this
  have e := size_wgt x.rule 200 (by omega)
  have := parts_wgt x.rule
  omega
end Go.Proofs.YtdjmckjbibfecaaGreatDoor

/- The walk of ask: what a function finds wrong with a field. -/
import Derived.Test.YtbpngfppddigjaaGreatDoorEg
namespace Go.Proofs.YtbpngfppddigjaaGreatDoor
open Go Go.RowKit Go.BigFrame Go.Maps

def WrongC (g : FuncId) (cb : Nat) (w : World) (d : Pap) (name : ByteArray) (wrong : ByteArray → Int) : Prop :=
  ∀ (w' : World) (v : ByteArray), Below w.heap.size w w' → getF d.fields name = some v → (0 ≤ wrong v ∧ wrong v ≤ 6) ∧ Calls Tryz.prog g #[.string v, .pointer (some ⟨cb, 0, none⟩)] w' fun e w'' => e = .returned (.int .i64 (wrong v)) ∧ Below w'.heap.size w' w''
theorem askF_none {a : Int} {d : Pap} {name : ByteArray} {wrong : ByteArray → Int} (h : getF d.fields name = none) : askF a d name wrong = [⟨a, d.kind, name, 1⟩] := by unfold askF; rw [h]
theorem askF_fine {a : Int} {d : Pap} {name v : ByteArray} {wrong : ByteArray → Int} (h : getF d.fields name = some v) (h0 : wrong v = 0) : askF a d name wrong = [] := by unfold askF; rw [h]; simp [h0]
theorem askF_some {a : Int} {d : Pap} {name v : ByteArray} {wrong : ByteArray → Int} (h : getF d.fields name = some v) (h0 : ¬ wrong v = 0) : askF a d name wrong = [⟨a, d.kind, name, wrong v⟩] := by unfold askF; rw [h]; simp [h0]

set_option maxRecDepth 100000 in
set_option maxHeartbeats 3200000 in
theorem ask_any (w0 : World) (ct cf bm xb : Nat) (C : Array Value) (hC : Hid (C.size = 18)) (A : Option Addr) (nn cc : Nat) (docs : List Pap) (day : Int) (a : Nat) (d : Pap) (hd : Hid (docs[a]? = some d)) (hR : Hid (Room w0 A nn docs))
    (name : ByteArray) (hnm : Hid (name.size ≤ 100)) (g : FuncId) (hg3 : Hid (g = 46 ∨ g = 48 ∨ g = 52)) (cb : Nat) (wrong : ByteArray → Int) (w : World) (hw : Hid (WrongC g cb w d name wrong)) (v : Value) (l : List Flt) (hl : l.length < 100000) (hx : Hid (ExS w0 ct cf bm xb (exX C A nn cc day ct cf) w v l)) :
    Calls Tryz.prog 47 #[.pointer (some ⟨xb, 0, none⟩), .int .i64 a, .string name, .func (Fn.func g) #[] #[.pointer (some ⟨cb, 0, none⟩)]] w (Ted w0 ct cf bm xb (exX C A nn cc day ct cf) (addAll l (askF a d name wrong)) w) := by
  have halt : a < nn := by have := (List.getElem?_eq_some_iff.1 hd.out).1; have := hR.out.len; omega
  have hmost := hR.out.most
  have hkd := kind_of hR.out.at_ hd.out
  obtain ⟨b, off, rfl, h0, h1, h2, h3, h4, h5, _⟩ := (hR.out.at_.below hx.out.below) a d hd.out
  have e18 : w.cell? ⟨xb, 18, none⟩ = some (.slice (some ⟨b, off, none⟩) nn cc) := (hx.out.exam.cell 18).trans (exX_docs hC.out)
  obtain ⟨kd, nu, is, fA, fc, fs⟩ := d
  simp only at h0 h1 h2 h3 h4 h5 hkd
  obtain ⟨hk1, hk2⟩ := hkd
  obtain ⟨fm, hfm⟩ : ∃ m, Hid (fs.length = m) := ⟨_, rfl⟩
  rw [hfm.out] at h3 h5
  have h4' := Lib.hid h4
  have h5' := Lib.hid h5
  clear h4 h5
  have hbA := Lib.hid ((Below.refl _ w).alloc (Nat.le_refl _) (.cells #[.int .i64 kd, .string nu, .string is, .slice fA fm fc] 45))
  have hdb := Lib.hid (Blk.new w 45 #[.int .i64 kd, .string nu, .string is, .slice fA fm fc])
  go_enter Tryz.func47, Tryz.ntmps47
  go_wp2_with fail
  refine (get_any fA fm fc fs name _ h5'.out hfm (h4'.out.below hbA.out)).mono ?_
  rintro e w1 ⟨rfl, hb1⟩
  have hB1 := Lib.hid (hbA.out.trans (hb1.mono (by simp)))
  have hdb1 := Lib.hid (hdb.out.below hb1 hdb.out.lt)
  have hx1 := Lib.hid (hx.out.belows hB1.out)
  clear hb1 h0 h1 h2 h3 e18 hdb hbA
  have ht3 : Hid (∀ (W : World) (why : Int), Below w.heap.size w W → askF a ⟨kd, nu, is, fA, fc, fs⟩ name wrong = [⟨a, kd, name, why⟩] → 0 ≤ why → why ≤ 6 →
          Calls Tryz.prog 17 #[.agg #[.int .i64 a, .int .i64 kd, .string name, .int .i64 why], .pointer (some ⟨ct, 0, none⟩), .pointer (some ⟨cf, 0, none⟩)] W (Ted w0 ct cf bm xb (exX C (some ⟨b, off, none⟩) nn cc day ct cf) (addAll l (askF a ⟨kd, nu, is, fA, fc, fs⟩ name wrong)) w)) := by
    intro W why hBW hwy hw0 hw3
    have hfits : Flt.fits ⟨a, kd, name, why⟩ := ⟨fits_i64 (n := a) (by omega) (by omega), fits_i64 hk1 hk2, by
      show name.size ≤ maxLen
      have := hnm.out; unfold maxLen; omega, fits_i64 (n := why) (by omega) (by omega)⟩
    refine (tell_ex ⟨a, kd, name, why⟩ hfits (by omega) (hx.out.belows hBW)).mono ?_
    rintro e w' ⟨rfl, v', g1, g2⟩
    rw [hwy]
    exact ⟨rfl, v', g1, (Tld.of_below hBW).trans g2⟩
  cases hg : getF fs name with
  | none =>
    have eV : Hid (getV fs name = ⟨#[]⟩) := by unfold Hid getV; rw [hg]; rfl
    have eB : Hid (getB fs name = false) := by unfold Hid getB; rw [hg]; rfl
    have hask := Lib.hid (askF_none (a := a) (d := ⟨kd, nu, is, fA, fc, fs⟩) (wrong := wrong) hg)
    clear hg
    rw [eV.out, eB.out]
    have cx : w1.cell? ⟨xb, 20, none⟩ = _ := (hx1.out.exam.cell 20).trans (exX_tell hC.out)
    have ck : w1.cell? ⟨w.heap.size, 0, none⟩ = some (.int .i64 kd) := hdb1.out.cell 0
    have hc : ∀ W, W = w1.drew → _ := fun W e => ht3.out W 1 (by rw [e]; exact hB1.out.trans ((Below.refl _ _).drew.mono hB1.out.size)) hask.out (by omega) (by omega)
    have hc' := Lib.hid hc
    clear hc
    go_wp2_with fail
    go_region_with ((go_at_call 17; (with_reducible refine (hc'.out _ ?_).mono ?_); rfl; rintro e w3 ⟨rfl, g3⟩))
    all_goals
      go_wp2_with fail
      go_end0
      exact ⟨rfl, g3⟩
  | some u =>
    have eV : Hid (getV fs name = u) := by unfold Hid getV; rw [hg]; rfl
    have eB : Hid (getB fs name = true) := by unfold Hid getB; rw [hg]; rfl
    have hg' := Lib.hid hg
    clear hg
    rw [eV.out, eB.out]
    obtain ⟨⟨hy0, hy6⟩, hcw⟩ := hw.out w1 u hB1.out hg'.out
    have hcw' := Lib.hid hcw
    clear hcw
    rcases hg3.out with rfl | rfl | rfl
    all_goals
      go_wp2_with fail
      refine hcw'.out.mono ?_
      rintro e w2 ⟨rfl, hb2⟩
      have hB2 := Lib.hid (hB1.out.trans (hb2.mono hB1.out.size))
      have hdb2 := Lib.hid (hdb1.out.below hb2 hdb1.out.lt)
      have hx2 := Lib.hid (hx1.out.belows hb2)
      clear hb2
      obtain ⟨y, hy⟩ : ∃ y, Hid (wrong u = y) := ⟨_, rfl⟩
      rw [hy.out] at hy0 hy6 ⊢
      by_cases hz : y = 0
      · have hask := Lib.hid (askF_fine (a := a) (d := ⟨kd, nu, is, fA, fc, fs⟩) (wrong := wrong) hg'.out (by rw [hy.out]; exact hz))
        have hz' : (y != 0) = false := by simp [hz]
        clear hz
        go_wp2_with fail
        go_end0
        exact ⟨rfl, v, by rw [hask.out]; exact hx2.out, Tld.of_below hB2.out⟩
      · have hask := Lib.hid (askF_some (a := a) (d := ⟨kd, nu, is, fA, fc, fs⟩) (wrong := wrong) hg'.out (by rw [hy.out]; exact hz))
        have hz' : (y != 0) = true := by simp [hz]
        clear hz
        rw [hy.out] at hask
        have cx : w2.cell? ⟨xb, 20, none⟩ = _ := (hx2.out.exam.cell 20).trans (exX_tell hC.out)
        have ck : w2.cell? ⟨w.heap.size, 0, none⟩ = some (.int .i64 kd) := hdb2.out.cell 0
        have hc : ∀ W, W = w2.drew → _ := fun W e => ht3.out W y (by rw [e]; exact hB2.out.trans ((Below.refl _ _).drew.mono hB2.out.size)) hask.out (by omega) (by omega)
        have hc' := Lib.hid hc
        clear hc
        go_wp2_with fail
        go_region_with ((go_at_call 17; (with_reducible refine (hc'.out _ ?_).mono ?_); rfl; rintro e w3 ⟨rfl, g3⟩))
        all_goals
          go_wp2_with fail
          go_end0
          exact ⟨rfl, g3⟩
end Go.Proofs.YtbpngfppddigjaaGreatDoor

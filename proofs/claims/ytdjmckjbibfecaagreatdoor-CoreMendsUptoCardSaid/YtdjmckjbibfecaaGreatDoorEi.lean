/- What is wrong with an invoice, with a bill of lading: the walks. -/
import Derived.Test.YtdjmckjbibfecaaGreatDoorEc
import Derived.Test.YtdjmckjbibfecaaGreatDoorEf
namespace Go.Proofs.YtdjmckjbibfecaaGreatDoor
open Go Go.RowKit Go.BigFrame Go.Maps

theorem wpList_load_cr {ops : Array Oper} {rest : List Oper} {op : Oper} {a : Act} {w : World} {Q : Exit → Act → World → Prop} (hgd : op.guard = none) (x : Operand) (ho : op.op = .load 46 x)
    (xb : Nat) (hx : a.eval x = .pointer (some ⟨xb, 0, none⟩)) (C : Array Value) (hc : w.rangeAt xb 0 C.toList) (hC : C.size = 18)
    (h : wpList Tryz.prog ops Q rest (a.put op.dst (.agg C)) w) : wpList Tryz.prog ops Q (op :: rest) a w :=
  wpList_load_mid hgd 46 x ho xb 0 hx C.toList _ hc Tryz.underlying46 rfl (by rw [Array.length_toList, hC]; kernel_rfl) (by rw [Array.toArray_toList]; exact h)
theorem twoN_none : twoN none = .tuple #[.int .i64 0, .bool false] := rfl
theorem twoN_some (n : Int) : twoN (some n) = .tuple #[.int .i64 n, .bool true] := rfl
theorem numF_in {s : List UInt8} {n : Int} (h : numF s = some n) : -4611686018427387904 ≤ n ∧ n ≤ 4611686018427387904 := by
  unfold numF at h
  split at h
  · split at h
    · simp only [Option.some.injEq] at h; subst h; rename_i h; exact ⟨h.1, h.2.1⟩
    · cases h
  · cases h

set_option maxRecDepth 100000 in
set_option maxHeartbeats 1600000 in
theorem sum_any (C : Array Value) (c : Crd) (hC : Hid (CrdAt C c)) (A : Option Addr) (nn cc : Nat) (day : Int) (ct cf xb pb : Nat) (v : ByteArray) (hv : v.size ≤ 4000000) (w : World) (hx : Hid (Blk w xb 94 (exX C A nn cc day ct cf))) (hp : Hid (Blk w pb 91 #[.pointer (some ⟨xb, 0, none⟩)])) (he : Hid (Env w)) :
    Calls Tryz.prog 161 #[.string v, .pointer (some ⟨pb, 0, none⟩)] w fun e w' => e = .returned (.int .i64 (sumW c v)) ∧ Below w.heap.size w w' := by
  have hsz := Lib.hid hC.out.size
  go_enter Tryz.func161, Tryz.ntmps161
  go_wp2_with fail
  refine (number_any v w hv he.out).mono ?_
  rintro e w1 ⟨rfl, hb1⟩
  have hB1 := Lib.hid hb1
  have hx1 := Lib.hid (hx.out.below hb1 hx.out.lt)
  have hp1 := Lib.hid (hp.out.below hb1 hp.out.lt)
  clear hb1
  cases hr : numF v.data.toList with
  | none =>
    have hw : Hid (sumW c v = 2) := by unfold Hid sumW; rw [hr]
    clear hr
    rw [twoN_none]
    go_wp2_with fail
    go_ret
    exact ⟨by rw [hw.out]; first | done | rfl, hB1.out⟩
  | some n =>
    have hw : Hid (sumW c v = if boundsB c = true ∧ mostC c < n then 5 else if boundsB c = true ∧ n < leastY c then 6 else 0) := by unfold Hid sumW; rw [hr]
    clear hr
    rw [twoN_some]
    have cp : w1.cell? ⟨pb, 0, none⟩ = some (.pointer (some ⟨xb, 0, none⟩)) := hp1.out.cell 0
    go_wp2_with (refine wpList_load_cr rfl (.tmp 20) rfl xb rfl C (exX_range hsz.out hx1.out) hsz.out ?_)
    refine (Most_any C c hC w1).mono ?_
    rintro e w2 ⟨rfl, hb2⟩
    have hB2 := Lib.hid (hB1.out.trans (hb2.mono hB1.out.size))
    have hx2 := Lib.hid (hx1.out.below hb2 hx1.out.lt)
    have hp2 := Lib.hid (hp1.out.below hb2 hp1.out.lt)
    clear hb2 cp
    have cp : w2.cell? ⟨pb, 0, none⟩ = some (.pointer (some ⟨xb, 0, none⟩)) := hp2.out.cell 0
    cases hbd : boundsB c
    · have hw0 : Hid (sumW c v = 0) := by unfold Hid; rw [hw.out, hbd]; simp
      have em : Hid (most2 c = .tuple #[.int .i64 0, .int .i64 1]) := by unfold Hid most2; rw [hbd]; rfl
      have el : Hid (least2 c = .tuple #[.int .i64 0, .int .i64 1]) := by unfold Hid least2; rw [hbd]; rfl
      clear hbd
      rw [em.out]
      go_wp2_with (refine wpList_load_cr rfl (.tmp 35) rfl xb rfl C (exX_range hsz.out hx2.out) hsz.out ?_)
      refine (Least_any C c hC w2).mono ?_
      rintro e w3 ⟨rfl, hb3⟩
      have hB3 := Lib.hid (hB2.out.trans (hb3.mono hB2.out.size))
      clear hb3
      rw [el.out]
      go_wp2_with fail
      go_ret
      exact ⟨by rw [hw0.out]; first | done | rfl, hB3.out⟩
    · have em : Hid (most2 c = .tuple #[.int .i64 (mostC c), .int .i64 0]) := by unfold Hid most2; rw [hbd]; rfl
      have el : Hid (least2 c = .tuple #[.int .i64 (leastY c), .int .i64 0]) := by unfold Hid least2; rw [hbd]; rfl
      rw [em.out]
      by_cases h5 : mostC c < n
      · have hw0 : Hid (sumW c v = 5) := by unfold Hid; rw [hw.out, if_pos ⟨hbd, h5⟩]
        clear hbd
        go_wp2_with fail
        all_goals try (exfalso; omega)
        go_ret
        exact ⟨by rw [hw0.out]; first | done | rfl, hB2.out⟩
      · have hwx : Hid (sumW c v = if n < leastY c then 6 else 0) := by unfold Hid; rw [hw.out, if_neg (by simp [h5]), hbd]; simp
        clear hbd
        go_wp2_with (refine wpList_load_cr rfl (.tmp 35) rfl xb rfl C (exX_range hsz.out hx2.out) hsz.out ?_)
        all_goals try (exfalso; omega)
        refine (Least_any C c hC w2).mono ?_
        rintro e w3 ⟨rfl, hb3⟩
        have hB3 := Lib.hid (hB2.out.trans (hb3.mono hB2.out.size))
        clear hb3
        rw [el.out]
        by_cases h6 : n < leastY c
        · have hw0 : Hid (sumW c v = 6) := by unfold Hid; rw [hwx.out, if_pos h6]
          go_wp2_with fail
          all_goals try (exfalso; omega)
          go_ret
          exact ⟨by rw [hw0.out]; first | done | rfl, hB3.out⟩
        · have hw0 : Hid (sumW c v = 0) := by unfold Hid; rw [hwx.out, if_neg h6]
          go_wp2_with fail
          all_goals try (exfalso; omega)
          go_ret
          exact ⟨by rw [hw0.out]; first | done | rfl, hB3.out⟩

set_option maxRecDepth 100000 in
set_option maxHeartbeats 1600000 in
theorem issued_any (C : Array Value) (c : Crd) (hC : Hid (CrdAt C c)) (hO : Hid (c.okC)) (A : Option Addr) (nn cc : Nat) (day : Int) (hday : Hid (-9223372036854775808 ≤ day ∧ day ≤ 9223372036854775807)) (ct cf xb pb : Nat) (v : ByteArray) (hv : v.size ≤ 4000000) (w : World) (hx : Hid (Blk w xb 94 (exX C A nn cc day ct cf))) (hp : Hid (Blk w pb 91 #[.pointer (some ⟨xb, 0, none⟩)])) (he : Hid (Env w)) :
    Calls Tryz.prog 164 #[.string v, .pointer (some ⟨pb, 0, none⟩)] w fun e w' => e = .returned (.int .i64 (issuedW c day v)) ∧ Below w.heap.size w w' := by
  have hsz := Lib.hid hC.out.size
  go_enter Tryz.func164, Tryz.ntmps164
  go_wp2_with fail
  refine (number_any v w hv he.out).mono ?_
  rintro e w1 ⟨rfl, hb1⟩
  have hB1 := Lib.hid hb1
  have hx1 := Lib.hid (hx.out.below hb1 hx.out.lt)
  have hp1 := Lib.hid (hp.out.below hb1 hp.out.lt)
  clear hb1
  cases hr : numF v.data.toList with
  | none =>
    have hw : Hid (issuedW c day v = 2) := by unfold Hid issuedW; rw [hr]
    clear hr
    rw [twoN_none]
    go_wp2_with fail
    go_ret
    exact ⟨by rw [hw.out]; first | done | rfl, hB1.out⟩
  | some n =>
    have hn := Lib.hid (numF_in hr)
    have hw : Hid (issuedW c day v = if c.latest < n ∨ n + c.within < day then 4 else 0) := by unfold Hid issuedW; rw [hr]
    clear hr
    rw [twoN_some]
    have cp : ∀ y : Ext w1, y.wd.cell? ⟨pb, 0, none⟩ = some (.pointer (some ⟨xb, 0, none⟩)) := fun y => (y.cell _ hp1.out.lt).trans (hp1.out.cell 0)
    have c11 : ∀ y : Ext w1, y.wd.cell? ⟨xb, 11, none⟩ = some (.int .i64 c.latest) := fun y => (y.cell _ hx1.out.lt).trans ((hx1.out.cell 11).trans ((exX_cell hsz.out (by omega)).trans hC.out.latest))
    have c13 : ∀ y : Ext w1, y.wd.cell? ⟨xb, 13, none⟩ = some (.int .i64 c.within) := fun y => (y.cell _ hx1.out.lt).trans ((hx1.out.cell 13).trans ((exX_cell hsz.out (by omega)).trans hC.out.within))
    have c19 : ∀ y : Ext w1, y.wd.cell? ⟨xb, 19, none⟩ = some (.int .i64 day) := fun y => (y.cell _ hx1.out.lt).trans ((hx1.out.cell 19).trans (exX_day hsz.out))
    have hbh : Hid (∀ y : Ext w1, Calls Tryz.prog 165 #[.int .i64 day, .int .i64 n, .int .i64 c.within] y.wd fun e w' => e = .returned (.bool (behindB day n c.within)) ∧ y.wd = w') := fun y => behind_any day n c.within y.wd hday.out (by have := hn.out; omega) hO.out.within
    cases hl : decide (c.latest < n)
    · have hl' := Lib.hid (of_decide_eq_false hl)
      go_wp2_with fail
      refine wp_region_ext (by kernel_rfl) (by kernel_rfl) ?_
      repeat (go_big_quiet_step (first | (go_at_call 165; exact Calls.ext_of_same (hbh.out _))))
      refine wpQuiet_nil ?_
      rintro _ ⟨y, rfl⟩
      have hBy := Lib.hid (hB1.out.trans (y.below.mono hB1.out.size))
      clear cp c11 c13 c19 hbh hl
      cases hb : behindB day n c.within
      · have hw0 : Hid (issuedW c day v = 0) := by
          unfold Hid
          rw [hw.out, if_neg]
          rintro (h | h)
          · exact absurd h (by have := hl'.out; omega)
          · exact of_decide_eq_false hb h
        clear hb
        go_wp2_with fail
        go_ret
        exact ⟨by rw [hw0.out]; first | done | rfl, hBy.out⟩
      · have hw0 : Hid (issuedW c day v = 4) := by unfold Hid; rw [hw.out, if_pos (.inr (of_decide_eq_true hb))]
        clear hb
        go_wp2_with fail
        go_ret
        exact ⟨by rw [hw0.out]; first | done | rfl, hBy.out⟩
    · have hw0 : Hid (issuedW c day v = 4) := by unfold Hid; rw [hw.out, if_pos (.inl (of_decide_eq_true hl))]
      go_wp2_with fail
      refine wp_region_ext (by kernel_rfl) (by kernel_rfl) ?_
      repeat (go_big_quiet_step (fail))
      refine wpQuiet_nil ?_
      rintro _ ⟨y, rfl⟩
      have hBy := Lib.hid (hB1.out.trans (y.below.mono hB1.out.size))
      clear cp c11 c13 c19 hbh hl
      go_wp2_with fail
      go_ret
      exact ⟨by rw [hw0.out]; first | done | rfl, hBy.out⟩
end Go.Proofs.YtdjmckjbibfecaaGreatDoor
namespace Go.Proofs.YtdjmckjbibfecaaGreatDoor
open Go Go.RowKit Go.BigFrame Go.Maps

def WrongC (g : FuncId) (cb : Nat) (w : World) (d : Pap) (name : ByteArray) (wrong : ByteArray → Int) : Prop :=
  ∀ (w' : World) (v : ByteArray), Below w.heap.size w w' → getF d.fields name = some v → (0 ≤ wrong v ∧ wrong v ≤ 6) ∧ Calls Tryz.prog g #[.string v, .pointer (some ⟨cb, 0, none⟩)] w' fun e w'' => e = .returned (.int .i64 (wrong v)) ∧ Below w'.heap.size w' w''
theorem askF_none {a : Int} {d : Pap} {name : ByteArray} {wrong : ByteArray → Int} (h : getF d.fields name = none) : askF a d name wrong = [⟨a, d.kind, name, 1⟩] := by unfold askF; rw [h]
theorem askF_fine {a : Int} {d : Pap} {name v : ByteArray} {wrong : ByteArray → Int} (h : getF d.fields name = some v) (h0 : wrong v = 0) : askF a d name wrong = [] := by unfold askF; rw [h]; simp [h0]
theorem askF_some {a : Int} {d : Pap} {name v : ByteArray} {wrong : ByteArray → Int} (h : getF d.fields name = some v) (h0 : ¬ wrong v = 0) : askF a d name wrong = [⟨a, d.kind, name, wrong v⟩] := by unfold askF; rw [h]; simp [h0]

set_option maxRecDepth 100000 in
set_option maxHeartbeats 3200000 in
theorem ask_any (w0 : World) (ct cf bm xb : Nat) (C : Array Value) (hC : Hid (C.size = 18)) (A : Option Addr) (nn cc : Nat) (docs : List Pap) (day : Int) (a : Nat) (d : Pap) (hd : Hid (docs[a]? = some d)) (hR : Hid (Room w0 A nn docs))
    (name : ByteArray) (hnm : Hid (name.size ≤ 100)) (g : FuncId) (hg3 : Hid (g = 159 ∨ g = 161 ∨ g = 164)) (cb : Nat) (wrong : ByteArray → Int) (w : World) (hw : Hid (WrongC g cb w d name wrong)) (v : Value) (l : List Flt) (hl : l.length < 100000) (hx : Hid (ExS w0 ct cf bm xb (exX C A nn cc day ct cf) w v l)) :
    Calls Tryz.prog 160 #[.pointer (some ⟨xb, 0, none⟩), .int .i64 a, .string name, .func (Fn.func g) #[] #[.pointer (some ⟨cb, 0, none⟩)]] w (Ted w0 ct cf bm xb (exX C A nn cc day ct cf) (addAll l (askF a d name wrong)) w) := by
  have halt : a < nn := by have := (List.getElem?_eq_some_iff.1 hd.out).1; have := hR.out.len; omega
  have hmost := hR.out.most
  have hkd := kind_of hR.out.at_ hd.out
  obtain ⟨b, off, rfl, h0, h1, h2, h3, h4, h5, _⟩ := (hR.out.at_.below hx.out.below) a d hd.out
  have e18 : w.cell? ⟨xb, 18, none⟩ = some (.slice (some ⟨b, off, none⟩) nn cc) := (hx.out.exam.cell 18).trans (exX_docs hC.out)
  obtain ⟨kd, nu, is, fA, fc, fs⟩ := d
  simp only at h0 h1 h2 h3 h4 h5 hkd
  obtain ⟨hk1, hk2⟩ := hkd
  obtain ⟨fm, hfm⟩ : ∃ m, Hid (fs.length = m) := ⟨_, rfl⟩
  rw [hfm.out] at h3 h5
  have h4' := Lib.hid h4
  have h5' := Lib.hid h5
  clear h4 h5
  have hbA := Lib.hid ((Below.refl _ w).alloc (Nat.le_refl _) (.cells #[.int .i64 kd, .string nu, .string is, .slice fA fm fc] 61))
  have hdb := Lib.hid (Blk.new w 61 #[.int .i64 kd, .string nu, .string is, .slice fA fm fc])
  go_enter Tryz.func160, Tryz.ntmps160
  go_wp2_with fail
  refine (get_any fA fm fc fs name _ h5'.out hfm (h4'.out.below hbA.out)).mono ?_
  rintro e w1 ⟨rfl, hb1⟩
  have hB1 := Lib.hid (hbA.out.trans (hb1.mono (by simp)))
  have hdb1 := Lib.hid (hdb.out.below hb1 hdb.out.lt)
  have hx1 := Lib.hid (hx.out.belows hB1.out)
  clear hb1 h0 h1 h2 h3 e18 hdb hbA
  have ht3 : Hid (∀ (W : World) (why : Int), Below w.heap.size w W → askF a ⟨kd, nu, is, fA, fc, fs⟩ name wrong = [⟨a, kd, name, why⟩] → 0 ≤ why → why ≤ 6 →
          Calls Tryz.prog 57 #[.agg #[.int .i64 a, .int .i64 kd, .string name, .int .i64 why], .pointer (some ⟨ct, 0, none⟩), .pointer (some ⟨cf, 0, none⟩)] W (Ted w0 ct cf bm xb (exX C (some ⟨b, off, none⟩) nn cc day ct cf) (addAll l (askF a ⟨kd, nu, is, fA, fc, fs⟩ name wrong)) w)) := by
    intro W why hBW hwy hw0 hw3
    have hfits : Flt.fits ⟨a, kd, name, why⟩ := ⟨fits_i64 (n := a) (by omega) (by omega), fits_i64 hk1 hk2, by
      show name.size ≤ maxLen
      have := hnm.out; unfold maxLen; omega, fits_i64 (n := why) (by omega) (by omega)⟩
    refine (tell_ex ⟨a, kd, name, why⟩ hfits (by omega) (hx.out.belows hBW)).mono ?_
    rintro e w' ⟨rfl, v', g1, g2⟩
    rw [hwy]
    exact ⟨rfl, v', g1, (Tld.of_below hBW).trans g2⟩
  cases hg : getF fs name with
  | none =>
    have eV : Hid (getV fs name = ⟨#[]⟩) := by unfold Hid getV; rw [hg]; rfl
    have eB : Hid (getB fs name = false) := by unfold Hid getB; rw [hg]; rfl
    have hask := Lib.hid (askF_none (a := a) (d := ⟨kd, nu, is, fA, fc, fs⟩) (wrong := wrong) hg)
    clear hg
    rw [eV.out, eB.out]
    have cx : w1.cell? ⟨xb, 20, none⟩ = _ := (hx1.out.exam.cell 20).trans (exX_tell hC.out)
    have ck : w1.cell? ⟨w.heap.size, 0, none⟩ = some (.int .i64 kd) := hdb1.out.cell 0
    have hc : ∀ W, W = w1.drew → _ := fun W e => ht3.out W 1 (by rw [e]; exact hB1.out.trans ((Below.refl _ _).drew.mono hB1.out.size)) hask.out (by omega) (by omega)
    have hc' := Lib.hid hc
    clear hc
    go_wp2_with fail
    go_region_with ((go_at_call 57; (with_reducible refine (hc'.out _ ?_).mono ?_); rfl; rintro e w3 ⟨rfl, g3⟩))
    all_goals
      go_wp2_with fail
      go_end0
      exact ⟨rfl, g3⟩
  | some u =>
    have eV : Hid (getV fs name = u) := by unfold Hid getV; rw [hg]; rfl
    have eB : Hid (getB fs name = true) := by unfold Hid getB; rw [hg]; rfl
    have hg' := Lib.hid hg
    clear hg
    rw [eV.out, eB.out]
    obtain ⟨⟨hy0, hy6⟩, hcw⟩ := hw.out w1 u hB1.out hg'.out
    have hcw' := Lib.hid hcw
    clear hcw
    rcases hg3.out with rfl | rfl | rfl
    all_goals
      go_wp2_with fail
      refine hcw'.out.mono ?_
      rintro e w2 ⟨rfl, hb2⟩
      have hB2 := Lib.hid (hB1.out.trans (hb2.mono hB1.out.size))
      have hdb2 := Lib.hid (hdb1.out.below hb2 hdb1.out.lt)
      have hx2 := Lib.hid (hx1.out.belows hb2)
      clear hb2
      obtain ⟨y, hy⟩ : ∃ y, Hid (wrong u = y) := ⟨_, rfl⟩
      rw [hy.out] at hy0 hy6 ⊢
      by_cases hz : y = 0
      · have hask := Lib.hid (askF_fine (a := a) (d := ⟨kd, nu, is, fA, fc, fs⟩) (wrong := wrong) hg'.out (by rw [hy.out]; exact hz))
        have hz' : (y != 0) = false := by simp [hz]
        clear hz
        go_wp2_with fail
        go_end0
        exact ⟨rfl, v, by rw [hask.out]; exact hx2.out, Tld.of_below hB2.out⟩
      · have hask := Lib.hid (askF_some (a := a) (d := ⟨kd, nu, is, fA, fc, fs⟩) (wrong := wrong) hg'.out (by rw [hy.out]; exact hz))
        have hz' : (y != 0) = true := by simp [hz]
        clear hz
        rw [hy.out] at hask
        have cx : w2.cell? ⟨xb, 20, none⟩ = _ := (hx2.out.exam.cell 20).trans (exX_tell hC.out)
        have ck : w2.cell? ⟨w.heap.size, 0, none⟩ = some (.int .i64 kd) := hdb2.out.cell 0
        have hc : ∀ W, W = w2.drew → _ := fun W e => ht3.out W y (by rw [e]; exact hB2.out.trans ((Below.refl _ _).drew.mono hB2.out.size)) hask.out (by omega) (by omega)
        have hc' := Lib.hid hc
        clear hc
        go_wp2_with fail
        go_region_with ((go_at_call 57; (with_reducible refine (hc'.out _ ?_).mono ?_); rfl; rintro e w3 ⟨rfl, g3⟩))
        all_goals
          go_wp2_with fail
          go_end0
          exact ⟨rfl, g3⟩
end Go.Proofs.YtdjmckjbibfecaaGreatDoor
namespace Go.Proofs.YtdjmckjbibfecaaGreatDoor
open Go Go.RowKit Go.BigFrame Go.Maps

theorem askF_le (a : Int) (d : Pap) (name : ByteArray) (wrong : ByteArray → Int) : (askF a d name wrong).length ≤ 1 := by
  unfold askF; split
  · simp
  · split <;> simp
theorem wrong_is {t : ByteArray} {W : World} {cb : Nat} (hb : Blk W cb 9 #[.string t]) (d : Pap) (name : ByteArray) : WrongC 159 cb W d name (isW t) := fun w' v hb' _ =>
  ⟨by have := isW_in t v; omega, is_any t v cb w' ((hb.below hb' hb.lt).cell 0)⟩
theorem small_get {docs : List Pap} {a : Nat} {d : Pap} {name v : ByteArray} (hs : SmallD docs) (hd : docs[a]? = some d) (hv : getF d.fields name = some v) : v.size ≤ 4000000 := by
  obtain ⟨f, hf, rfl⟩ := getF_mem hv
  exact hs d (List.mem_of_getElem? hd) f hf
theorem wrong_sum {w0 : World} {ct cf bm xb : Nat} {C : Array Value} {c : Crd} (hC : CrdAt C c) {A : Option Addr} {nn cc : Nat} {docs : List Pap} {day : Int} {a : Nat} {d : Pap} (hd : docs[a]? = some d) (hR : Room w0 A nn docs) {W : World} {v : Value} {l : List Flt} (hx : ExS w0 ct cf bm xb (exX C A nn cc day ct cf) W v l) {pb : Nat} (hp : Blk W pb 91 #[.pointer (some ⟨xb, 0, none⟩)]) (name : ByteArray) :
    WrongC 161 pb W d name (sumW c) := fun w' v hb' hv =>
  ⟨by have := sumW_in c v; omega, sum_any C c hC A nn cc day ct cf xb pb v (small_get hR.small hd hv) w' (hx.exam.below hb' hx.exam.lt) (hp.below hb' hp.lt) (hR.env.below (hx.below.trans (hb'.mono hx.below.size)))⟩
theorem wrong_issued {w0 : World} {ct cf bm xb : Nat} {C : Array Value} {c : Crd} (hC : CrdAt C c) (hO : c.okC) {A : Option Addr} {nn cc : Nat} {docs : List Pap} {day : Int} (hday : -9223372036854775808 ≤ day ∧ day ≤ 9223372036854775807) {a : Nat} {d : Pap} (hd : docs[a]? = some d) (hR : Room w0 A nn docs) {W : World} {v : Value} {l : List Flt} (hx : ExS w0 ct cf bm xb (exX C A nn cc day ct cf) W v l) {pb : Nat} (hp : Blk W pb 91 #[.pointer (some ⟨xb, 0, none⟩)]) (name : ByteArray) :
    WrongC 164 pb W d name (issuedW c day) := fun w' v hb' hv =>
  ⟨by have := issuedW_in c day v; omega, issued_any C c hC hO A nn cc day hday ct cf xb pb v (small_get hR.small hd hv) w' (hx.exam.below hb' hx.exam.lt) (hp.below hb' hp.lt) (hR.env.below (hx.below.trans (hb'.mono hx.below.size)))⟩

set_option maxRecDepth 100000 in
set_option maxHeartbeats 3200000 in
theorem lading_any (w0 : World) (ct cf bm xb : Nat) (C : Array Value) (c : Crd) (hC : Hid (CrdAt C c)) (hO : Hid c.okC) (A : Option Addr) (nn cc : Nat) (docs : List Pap) (day : Int) (hday : Hid (-9223372036854775808 ≤ day ∧ day ≤ 9223372036854775807)) (a : Nat) (d : Pap) (hd : Hid (docs[a]? = some d)) (hR : Hid (Room w0 A nn docs))
    (w : World) (v : Value) (l : List Flt) (hl : l.length < 100000) (hx : Hid (ExS w0 ct cf bm xb (exX C A nn cc day ct cf) w v l)) :
    Calls Tryz.prog 107 #[.pointer (some ⟨xb, 0, none⟩), .int .i64 a] w (Ted w0 ct cf bm xb (exX C A nn cc day ct cf) (addAll l (ladingF c day a d)) w) := by
  have hbA := Lib.hid ((Below.refl _ w).alloc (Nat.le_refl _) (.cells #[.pointer (some ⟨xb, 0, none⟩)] 91))
  have hpb := Lib.hid (Blk.new w 91 #[.pointer (some ⟨xb, 0, none⟩)])
  have hxA := Lib.hid (hx.out.belows hbA.out)
  have hCs := Lib.hid hC.out.size
  go_enter Tryz.func107, Tryz.ntmps107
  go_wp2_with fail
  refine (ask_any w0 ct cf bm xb C hCs A nn cc docs day a d hd hR nIssued (by unfold Hid; decide) 164 (Lib.hid (.inr (.inr rfl))) w.heap.size (issuedW c day) _ (wrong_issued hC.out hO.out hday.out hd.out hR.out hxA.out hpb.out nIssued) v l hl hxA).mono ?_
  rintro e w1 ⟨rfl, v1, h1, h2⟩
  have h1' := Lib.hid h1
  have h2' := Lib.hid h2
  clear h1 h2
  go_wp2_with fail
  go_end0
  exact ⟨rfl, v1, h1'.out, (Tld.of_below hbA.out).trans h2'.out⟩

set_option maxRecDepth 100000 in
set_option maxHeartbeats 3200000 in
theorem invoice_any (w0 : World) (ct cf bm xb : Nat) (C : Array Value) (c : Crd) (hC : Hid (CrdAt C c)) (A : Option Addr) (nn cc : Nat) (docs : List Pap) (day : Int) (a : Nat) (d : Pap) (hd : Hid (docs[a]? = some d)) (hR : Hid (Room w0 A nn docs))
    (w : World) (v : Value) (l : List Flt) (hl : l.length + 4 ≤ 100000) (hx : Hid (ExS w0 ct cf bm xb (exX C A nn cc day ct cf) w v l)) :
    Calls Tryz.prog 106 #[.pointer (some ⟨xb, 0, none⟩), .int .i64 a] w (Ted w0 ct cf bm xb (exX C A nn cc day ct cf) (addAll l (invoiceF c a d)) w) := by
  have hbA := Lib.hid ((Below.refl _ w).alloc (Nat.le_refl _) (.cells #[.pointer (some ⟨xb, 0, none⟩)] 91))
  have hpb0 := Lib.hid (Blk.new w 91 #[.pointer (some ⟨xb, 0, none⟩)])
  have hx0 := Lib.hid (hx.out.belows hbA.out)
  have hB0 : Hid (Tld w0.heap.size cf bm w (w.alloc (.cells #[.pointer (some ⟨xb, 0, none⟩)] 91))) := Tld.of_below hbA.out
  have hCs := Lib.hid hC.out.size
  have hasks := Lib.hid (fun nm (hn : Hid (nm.size ≤ 100)) g (hg : Hid (g = 159 ∨ g = 161 ∨ g = 164)) cb wr W => ask_any w0 ct cf bm xb C hCs A nn cc docs day a d hd hR nm hn g hg cb wr W)
  obtain ⟨g0, hg0⟩ : ∃ g0, Hid (w.heap.size = g0) := ⟨_, rfl⟩
  rw [hg0.out] at hpb0
  have hl0 := Lib.hid hl
  clear hl
  go_enter Tryz.func106, Tryz.ntmps106
  go_upto_region 2 with fail
  rw [hg0.out]

  obtain ⟨W0, hW0⟩ : ∃ W, Hid ((w.alloc (.cells #[.pointer (some ⟨xb, 0, none⟩)] 91)) = W) := ⟨_, rfl⟩
  rw [hW0.out] at hpb0 hx0 hB0 ⊢
  go_cut [14] (fun _ wx => ∃ v' : Value, Hid (ExS w0 ct cf bm xb (exX C A nn cc day ct cf) wx v' (addAll l (askF a d nSeller (isW c.beneficiary)))) ∧ Hid (Tld w0.heap.size cf bm w wx) ∧ Hid (Blk wx g0 91 #[.pointer (some ⟨xb, 0, none⟩)]))
  case first =>
    have cp : W0.cell? ⟨g0, 0, none⟩ = some (.pointer (some ⟨xb, 0, none⟩)) := hpb0.out.cell 0
    have cx : W0.cell? ⟨xb, 2, none⟩ = some (.string c.beneficiary) := (hx0.out.exam.cell 2).trans ((exX_cell hCs.out (by omega)).trans hC.out.beneficiary)
    have z1 := hpb0.out.lt
    have z2 := hx0.out.exam.lt
    have hc : ∀ W cb, W = W0.drew.alloc (.cells #[.string c.beneficiary] 9) → cb = W0.heap.size → Calls Tryz.prog 160 #[.pointer (some ⟨xb, 0, none⟩), .int .i64 a, .string nSeller, .func (Fn.func 159) #[] #[.pointer (some ⟨cb, 0, none⟩)]] W (Ted w0 ct cf bm xb (exX C A nn cc day ct cf) (addAll l (askF a d nSeller (isW c.beneficiary))) W0) := fun W cb e e2 => by
      subst e e2
      have hbW : Below W0.heap.size W0 (W0.drew.alloc (.cells #[.string c.beneficiary] 9)) := (Below.refl _ W0).drew.alloc (Nat.le_refl _) _
      refine (hasks.out nSeller (by unfold Hid; decide) 159 (Lib.hid (.inl rfl)) W0.heap.size (isW c.beneficiary) _ (wrong_is (Blk.new W0.drew 9 #[.string c.beneficiary]) d nSeller) v l (by have := hl0.out; omega) (hx0.out.belows hbW)).mono ?_
      rintro e w' ⟨rfl, v', h1, h2⟩
      exact ⟨rfl, v', h1, (Tld.of_below hbW).trans h2⟩
    have hc' := Lib.hid hc
    clear hc
    unfold nSeller at hc'
    go_region_with (first | (go_at_call 158; refine (mkIs_any _ _).mono ?_; rintro e w1 ⟨rfl, rfl⟩) | (go_at_call 160; (with_reducible refine (hc'.out _ _ ?_ ?_).mono ?_); rfl; rfl; rintro e w3 ⟨rfl, v', h1, h2⟩; have h1' := Lib.hid h1; have h2' := Lib.hid h2; clear h1 h2))
    all_goals
      go_wp2_with fail
      go_meet
      case rel => exact ⟨v', h1'.out, hB0.out.trans h2'.out, hx0.out.keep h2'.out hpb0.out (by decide) (by decide)⟩
  case rest =>
    obtain ⟨v1, hx1, hB1, hpb1⟩ := hcut
    obtain ⟨V1, hV1⟩ : ∃ V, Hid (V = wc) := ⟨_, rfl⟩
    rw [← hV1.out] at hx1 hB1 hpb1 ⊢
    clear hV1
    go_upto_region 3 with fail
    obtain ⟨W1, hW1⟩ : ∃ W, Hid (V1 = W) := ⟨_, rfl⟩
    rw [hW1.out] at hpb1 hx1 hB1 ⊢
    go_cut [24] (fun _ wx => ∃ v' : Value, Hid (ExS w0 ct cf bm xb (exX C A nn cc day ct cf) wx v' (addAll (addAll l (askF a d nSeller (isW c.beneficiary))) (askF a d nBuyer (isW c.applicant)))) ∧ Hid (Tld w0.heap.size cf bm w wx) ∧ Hid (Blk wx g0 91 #[.pointer (some ⟨xb, 0, none⟩)]))
    case first =>
      have cp : W1.cell? ⟨g0, 0, none⟩ = some (.pointer (some ⟨xb, 0, none⟩)) := hpb1.out.cell 0
      have cx : W1.cell? ⟨xb, 1, none⟩ = some (.string c.applicant) := (hx1.out.exam.cell 1).trans ((exX_cell hCs.out (by omega)).trans hC.out.applicant)
      have z1 := hpb1.out.lt
      have z2 := hx1.out.exam.lt
      have hc : ∀ W cb, W = W1.drew.alloc (.cells #[.string c.applicant] 9) → cb = W1.heap.size → Calls Tryz.prog 160 #[.pointer (some ⟨xb, 0, none⟩), .int .i64 a, .string nBuyer, .func (Fn.func 159) #[] #[.pointer (some ⟨cb, 0, none⟩)]] W (Ted w0 ct cf bm xb (exX C A nn cc day ct cf) (addAll (addAll l (askF a d nSeller (isW c.beneficiary))) (askF a d nBuyer (isW c.applicant))) W1) := fun W cb e e2 => by
        subst e e2
        have hbW : Below W1.heap.size W1 (W1.drew.alloc (.cells #[.string c.applicant] 9)) := (Below.refl _ W1).drew.alloc (Nat.le_refl _) _
        refine (hasks.out nBuyer (by unfold Hid; decide) 159 (Lib.hid (.inl rfl)) W1.heap.size (isW c.applicant) _ (wrong_is (Blk.new W1.drew 9 #[.string c.applicant]) d nBuyer) v1 (addAll l (askF a d nSeller (isW c.beneficiary))) (by have := addAll_len (askF a d nSeller (isW c.beneficiary)) l; have := askF_le a d nSeller (isW c.beneficiary); have := hl0.out; omega) (hx1.out.belows hbW)).mono ?_
        rintro e w' ⟨rfl, v', h1, h2⟩
        exact ⟨rfl, v', h1, (Tld.of_below hbW).trans h2⟩
      have hc' := Lib.hid hc
      clear hc
      unfold nBuyer at hc'
      go_region_with (first | (go_at_call 158; refine (mkIs_any _ _).mono ?_; rintro e w1 ⟨rfl, rfl⟩) | (go_at_call 160; (with_reducible refine (hc'.out _ _ ?_ ?_).mono ?_); rfl; rfl; rintro e w3 ⟨rfl, v', h1, h2⟩; have h1' := Lib.hid h1; have h2' := Lib.hid h2; clear h1 h2))
      all_goals
        go_wp2_with fail
        go_meet
        case rel => exact ⟨v', h1'.out, hB1.out.trans h2'.out, hx1.out.keep h2'.out hpb1.out (by decide) (by decide)⟩
    case rest =>
      obtain ⟨v2, hx2, hB2, hpb2⟩ := hcut
      obtain ⟨V2, hV2⟩ : ∃ V, Hid (V = wc) := ⟨_, rfl⟩
      rw [← hV2.out] at hx2 hB2 hpb2 ⊢
      clear hV2
      go_upto_region 4 with fail
      obtain ⟨W2, hW2⟩ : ∃ W, Hid (V2 = W) := ⟨_, rfl⟩
      rw [hW2.out] at hpb2 hx2 hB2 ⊢
      go_cut [35] (fun _ wx => ∃ v' : Value, Hid (ExS w0 ct cf bm xb (exX C A nn cc day ct cf) wx v' (addAll (addAll (addAll l (askF a d nSeller (isW c.beneficiary))) (askF a d nBuyer (isW c.applicant))) (askF a d nCurrency (isW c.currency)))) ∧ Hid (Tld w0.heap.size cf bm w wx) ∧ Hid (Blk wx g0 91 #[.pointer (some ⟨xb, 0, none⟩)]))
      case first =>
        have cp : W2.cell? ⟨g0, 0, none⟩ = some (.pointer (some ⟨xb, 0, none⟩)) := hpb2.out.cell 0
        have cx : W2.cell? ⟨xb, 7, none⟩ = some (.string c.currency) := (hx2.out.exam.cell 7).trans ((exX_cell hCs.out (by omega)).trans hC.out.currency)
        have z1 := hpb2.out.lt
        have z2 := hx2.out.exam.lt
        have hc : ∀ W cb, W = W2.drew.alloc (.cells #[.string c.currency] 9) → cb = W2.heap.size → Calls Tryz.prog 160 #[.pointer (some ⟨xb, 0, none⟩), .int .i64 a, .string nCurrency, .func (Fn.func 159) #[] #[.pointer (some ⟨cb, 0, none⟩)]] W (Ted w0 ct cf bm xb (exX C A nn cc day ct cf) (addAll (addAll (addAll l (askF a d nSeller (isW c.beneficiary))) (askF a d nBuyer (isW c.applicant))) (askF a d nCurrency (isW c.currency))) W2) := fun W cb e e2 => by
          subst e e2
          have hbW : Below W2.heap.size W2 (W2.drew.alloc (.cells #[.string c.currency] 9)) := (Below.refl _ W2).drew.alloc (Nat.le_refl _) _
          refine (hasks.out nCurrency (by unfold Hid; decide) 159 (Lib.hid (.inl rfl)) W2.heap.size (isW c.currency) _ (wrong_is (Blk.new W2.drew 9 #[.string c.currency]) d nCurrency) v2 (addAll (addAll l (askF a d nSeller (isW c.beneficiary))) (askF a d nBuyer (isW c.applicant))) (by have := addAll_len (askF a d nSeller (isW c.beneficiary)) l; have := askF_le a d nSeller (isW c.beneficiary); have := addAll_len (askF a d nBuyer (isW c.applicant)) (addAll l (askF a d nSeller (isW c.beneficiary))); have := askF_le a d nBuyer (isW c.applicant); have := hl0.out; omega) (hx2.out.belows hbW)).mono ?_
          rintro e w' ⟨rfl, v', h1, h2⟩
          exact ⟨rfl, v', h1, (Tld.of_below hbW).trans h2⟩
        have hc' := Lib.hid hc
        clear hc
        unfold nCurrency at hc'
        go_region_with (first | (go_at_call 158; refine (mkIs_any _ _).mono ?_; rintro e w1 ⟨rfl, rfl⟩) | (go_at_call 160; (with_reducible refine (hc'.out _ _ ?_ ?_).mono ?_); rfl; rfl; rintro e w3 ⟨rfl, v', h1, h2⟩; have h1' := Lib.hid h1; have h2' := Lib.hid h2; clear h1 h2))
        all_goals
          go_wp2_with fail
          go_meet
          case rel => exact ⟨v', h1'.out, hB2.out.trans h2'.out, hx2.out.keep h2'.out hpb2.out (by decide) (by decide)⟩
      case rest =>
        obtain ⟨v3, hx3, hB3, hpb3⟩ := hcut
        obtain ⟨V3, hV3⟩ : ∃ V, Hid (V = wc) := ⟨_, rfl⟩
        rw [← hV3.out] at hx3 hB3 hpb3 ⊢
        clear hV3
        have cp : V3.cell? ⟨g0, 0, none⟩ = some (.pointer (some ⟨xb, 0, none⟩)) := hpb3.out.cell 0
        go_wp2_with fail
        refine (hasks.out nSum (by unfold Hid; decide) 161 (Lib.hid (.inr (.inl rfl))) g0 (sumW c) _ (wrong_sum hC.out hd.out hR.out hx3.out hpb3.out nSum) v3 _ (by have := addAll_len (askF a d nSeller (isW c.beneficiary)) l; have := askF_le a d nSeller (isW c.beneficiary); have := addAll_len (askF a d nBuyer (isW c.applicant)) (addAll l (askF a d nSeller (isW c.beneficiary))); have := askF_le a d nBuyer (isW c.applicant); have := addAll_len (askF a d nCurrency (isW c.currency)) (addAll (addAll l (askF a d nSeller (isW c.beneficiary))) (askF a d nBuyer (isW c.applicant))); have := askF_le a d nCurrency (isW c.currency); have := hl0.out; omega) hx3).mono ?_
        rintro e w1 ⟨rfl, v4, h1, h2⟩
        have h1' := Lib.hid h1
        have h2' := Lib.hid h2
        clear h1 h2
        go_wp2_with fail
        go_end0
        refine ⟨rfl, v4, ?_, hB3.out.trans h2'.out⟩
        unfold invoiceF
        rw [addAll_app, addAll_app, addAll_app]
        exact h1'.out
end Go.Proofs.YtdjmckjbibfecaaGreatDoor

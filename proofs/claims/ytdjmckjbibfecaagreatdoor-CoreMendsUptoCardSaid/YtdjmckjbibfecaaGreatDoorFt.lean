/- The document's faults of a paper against those ahead: the walk of against. -/
import Derived.Test.YtdjmckjbibfecaaGreatDoorDa
import Derived.Test.YtdjmckjbibfecaaGreatDoorFb
namespace Go.Proofs.YtdjmckjbibfecaaGreatDoor
open Go Go.RowKit Go.BigFrame Go.Maps

def alikeC : Array Value := #[.string (alikeB 0), .string (alikeB 1), .string (alikeB 2), .string (alikeB 3), .string (alikeB 4), .string (alikeB 5)]
theorem alikeC_get {q : Nat} (h : q < 6) : alikeC[q]? = some (.string (alikeB q)) := by
  rcases q with _ | _ | _ | _ | _ | _ | q
  · rfl
  · rfl
  · rfl
  · rfl
  · rfl
  · rfl
  · omega
theorem ahead_no {needs : List Nd} {l : List Pap} {k : Nat} {x : Pap} {s : ByteArray} {r : Option ByteArray} (hr : r = aheadF needs (l.drop k) s) (hx : l[k]? = some x) (h : askedB needs x.kind = false ∨ getF x.fields s = none) : r = aheadF needs (l.drop (k + 1)) s := by
  obtain ⟨hk, he⟩ := List.getElem?_eq_some_iff.1 hx
  rw [hr, List.drop_eq_getElem_cons hk, he, aheadF]
  rcases h with h | h
  · rw [h]; rfl
  · rw [h]; cases askedB needs x.kind <;> rfl
theorem ahead_yes {needs : List Nd} {l : List Pap} {k : Nat} {x : Pap} {s v : ByteArray} {r : Option ByteArray} (hr : r = aheadF needs (l.drop k) s) (hx : l[k]? = some x) (h : askedB needs x.kind = true) (hv : getF x.fields s = some v) : r = some v := by
  obtain ⟨hk, he⟩ := List.getElem?_eq_some_iff.1 hx
  rw [hr, List.drop_eq_getElem_cons hk, he, aheadF, h, hv]; rfl
theorem other_none {needs : List Nd} {ahead : List Pap} {a : Int} {d : Pap} {i : Nat} (h : getB d.fields (alikeB i) = false) : otherF needs ahead a d i = [] := by
  unfold getB at h
  unfold otherF
  cases hg : getF d.fields (alikeB i) with
  | none => rfl
  | some v => rw [hg] at h; cases h
theorem get_some {l : List Fld} {s : ByteArray} (h : getB l s = true) : getF l s = some (getV l s) := by
  unfold getB at h
  unfold getV
  cases hg : getF l s with
  | none => rw [hg] at h; cases h
  | some v => rfl
theorem get_none {l : List Fld} {s : ByteArray} (h : getB l s = false) : getF l s = none := by
  unfold getB at h
  cases hg : getF l s with
  | none => rfl
  | some v => rw [hg] at h; cases h
theorem other_eq {needs : List Nd} {ahead : List Pap} {a : Int} {d : Pap} {i : Nat} (h : getB d.fields (alikeB i) = true) : otherF needs ahead a d i = match aheadF needs ahead (alikeB i) with | none => [] | some o => if o.toList = (getV d.fields (alikeB i)).toList then [] else [⟨a, d.kind, alikeB i, 3⟩] := by
  unfold otherF; rw [get_some h]; rfl
theorem range_snoc {α : Type} (f : Nat → List α) (q : Nat) : (List.range (q + 1)).flatMap f = (List.range q).flatMap f ++ f q := by rw [List.range_succ, List.flatMap_append]; simp

set_option maxRecDepth 100000 in
set_option maxHeartbeats 6400000 in
theorem against_any (C : Array Value) (nA : Option Addr) (nl nc : Nat) (needs : List Nd) (A : Option Addr) (nn cc : Nat) (docs : List Pap) (a : Nat) (d : Pap) (w : World) (hsz : Hid ((Tryz.prog.info? 46).map (·.size) = some C.size)) (hC17 : Hid (C[17]? = some (.slice nA nl nc))) (hnl : Hid (needs.length = nl)) (hml : nl ≤ maxLen) (hN : Hid (NdsAt w nA needs))
    (hd : Hid (docs[a]? = some d)) (hR : Hid (Room w A nn docs)) :
    Calls Tryz.prog 115 #[.agg C, .slice A nn cc, .int .i64 a] w fun e w' => ∃ v, e = .returned v ∧ w'.ownsRow w.heap.size 54 4 v (othersF needs (docs.take a) a d).length (fcells (othersF needs (docs.take a) a d)) ∧ Below w.heap.size w w' := by
  obtain ⟨i0, hi, hz0, hz1, hz2⟩ := info_parts Tryz.info54
  have halt : a < nn := by have := (List.getElem?_eq_some_iff.1 hd.out).1; have := hR.out.len; omega
  have hmost := hR.out.most
  have hml' := Lib.hid hml
  clear hml
  have hb0 := Lib.hid ((Below.refl _ w).alloc (Nat.le_refl _) (.cells C 46))
  have hbk := Lib.hid (Blk.new w 46 C)
  obtain ⟨w0, hw0⟩ : ∃ w0, Hid (w.alloc (.cells C 46) = w0) := ⟨_, rfl⟩
  have hs0 : Hid (w0.heap.size = w.heap.size + 1) := by unfold Hid; rw [← hw0.out, World.size_alloc]
  rw [hw0.out] at hb0 hbk
  have hnew := Lib.hid ((own_new w0 54 4).alloc (.cells alikeC 9))
  have hnm := Lib.hid (blk_second w0 (.cells #[] 54) 9 alikeC)
  have hb2 := Lib.hid (((Below.refl _ w0).alloc (by rw [hs0.out]; exact Nat.le_refl (w.heap.size + 1)) (.cells #[] 54)).alloc (by simp; have := hs0.out; omega) (.cells alikeC 9))
  obtain ⟨w2, hw2⟩ : ∃ w2, Hid ((w0.alloc (.cells #[] 54)).alloc (.cells alikeC 9) = w2) := ⟨_, rfl⟩
  rw [hw2.out] at hnew hnm hb2
  rw [hs0.out] at hnew hnm
  go_enter Tryz.func115, Tryz.ntmps115
  go_wp2_with fail
  rw [hw0.out]
  have hw2' : (w0.alloc (.cells #[] 54)).alloc (.cells #[Value.string { data := #[115, 101, 108, 108, 101, 114] }, Value.string { data := #[102, 114, 111, 109] }, Value.string { data := #[116, 111] }, Value.string { data := #[99, 117, 114, 114, 101, 110, 99, 121] }, Value.string { data := #[98, 111, 120, 101, 115] }, Value.string { data := #[109, 97, 114, 107, 115] }] 9) = w2 := hw2.out
  rw [hw2']
  clear hw2'
  go_loopw [7, 9, 10, 11, 12, 13, 14] (fun v i _ _ _ _ _ wr => ∃ q : Nat, q ≤ 6 ∧ i = .int .i64 q ∧ Hid (wr.ownsRow (w.heap.size + 1) 54 4 v ((List.range q).flatMap (otherF needs (docs.take a) a d)).length (fcells ((List.range q).flatMap (otherF needs (docs.take a) a d)))) ∧ Hid (Below (w.heap.size + 1) w0 wr) ∧ Hid (Blk wr (w.heap.size + 1 + 1) 9 alikeC)) (fun _ i _ _ _ _ _ _ => 6 - (intOf i).toNat)
  case atStart => exact ⟨0, by omega, rfl, by unfold Hid; simpa [fcells] using hnew.out, hb2, hnm⟩
  case round =>
    clear hnew hnm hb2 hw2
    obtain ⟨q, hq, rfl, hown, hB, hnm⟩ := hrel
    have hBw : Hid (Below w.heap.size w wr) := hb0.out.trans (hB.out.mono (by omega))
    by_cases hlt : q < 6
    · have hst : Hid ((List.range (q + 1)).flatMap (otherF needs (docs.take a) a d) = _) := range_snoc _ q
      obtain ⟨pre, hpr⟩ : ∃ pre, Hid ((List.range q).flatMap (otherF needs (docs.take a) a d) = pre) := ⟨_, rfl⟩
      have hpl : Hid (pre.length ≤ 6) := by
        have := others_len needs (docs.take a) a d q
        unfold Hid; rw [← hpr.out]; omega
      rw [hpr.out] at hst hown
      obtain ⟨s, hs⟩ : ∃ s, Hid (alikeB q = s) := ⟨_, rfl⟩
      have nq0 : wr.cell? ⟨w.heap.size + 1 + 1, q, none⟩ = some (.string s) := by rw [hnm.out.cell, alikeC_get hlt, hs.out]
      have hof : Hid (∀ b, getB d.fields s = b → otherF needs (docs.take a) a d q = if b = true then (match aheadF needs (docs.take a) s with | none => [] | some o => if o.toList = (getV d.fields s).toList then [] else [⟨a, d.kind, s, 3⟩]) else []) := by
        rintro b hb
        cases b with
        | false => rw [other_none (by rw [hs.out]; exact hb)]; rfl
        | true => rw [other_eq (by rw [hs.out]; exact hb), hs.out]; rfl
      obtain ⟨db, doff, rfl, d0, _, _, d3, hfd, hfl, _⟩ := (hR.out.at_.below hBw.out) a d hd.out
      obtain ⟨dk, dn, di, dA, dc, df⟩ := d
      simp only at d0 d3 hfd hfl hof
      obtain ⟨fl, hfl0⟩ : ∃ n, Hid (df.length = n) := ⟨_, rfl⟩
      rw [hfl0.out] at d3 hfl
      have hfd' := Lib.hid hfd
      clear hfd
      have i1 : (q : Int) < 6 := by omega
      have i2 : (0 : Int) ≤ (q : Int) := by omega
      have i3 : (a : Int) < (nn : Int) := by omega
      have i4 : (0 : Int) ≤ (a : Int) := by omega
      have hGet : Hid (∀ y : Ext wr, Calls Tryz.prog 101 #[.slice dA fl dc, .string s] y.wd fun e w' => e = .returned (.tuple #[.string (getV df s), .bool (getB df s)]) ∧ Below y.wd.heap.size y.wd w') := fun y => getR_any dA fl dc df s y.wd hfl hfl0 (hfd'.out.below y.below)
      obtain ⟨gv, hgv⟩ : ∃ v, Hid (getV df s = v) := ⟨_, rfl⟩
      obtain ⟨gb, hgb⟩ : ∃ v, Hid (getB df s = v) := ⟨_, rfl⟩
      have hof' := Lib.hid (hof gb hgb.out)
      rw [hgv.out] at hof' hGet
      rw [hgb.out] at hGet
      have hbd : db < wr.heap.size := World.block_lt_of_cell? wr _ d0
      have y3 : ∀ y : Ext wr, y.wd.cell? ⟨db, doff + a * 4 + 3, none⟩ = some (.slice dA fl dc) := fun y => (y.cell ⟨db, doff + a * 4 + 3, none⟩ hbd).trans d3
      have yn : ∀ y : Ext wr, y.wd.cell? ⟨w.heap.size + 1 + 1, q, none⟩ = some (.string s) := fun y => (y.cell ⟨w.heap.size + 1 + 1, q, none⟩ hnm.out.lt).trans nq0
      clear hof hgv hgb
      go_wp2_with fail
      refine wp_region_ext (by kernel_rfl) (by kernel_rfl) ?_
      repeat (go_big_quiet_step ((go_at_call 101; exact Calls.ext_of (hGet.out _))))
      refine wpQuiet_nil ?_
      rintro _ ⟨y, rfl⟩
      have hby := Lib.hid y.below
      obtain ⟨wy, hwy⟩ : ∃ w6, y.wd = w6 := ⟨_, rfl⟩
      rw [hwy] at hby ⊢
      clear hwy y y3 yn hGet d3 nq0
      have hgr : Hid (w.heap.size + 1 ≤ wr.heap.size) := by have := hB.out.size; have := hs0.out; unfold Hid; omega
      have hB6 : Hid (Below (w.heap.size + 1) w0 wy) := hB.out.trans (hby.out.mono hgr.out)
      have hown6 := Lib.hid (own_below hown.out hby.out)
      have hnm6 := Lib.hid (hnm.out.below hby.out hnm.out.lt)
      have d0y : wy.cell? ⟨db, doff + a * 4, none⟩ = some (.int .i64 dk) := (hby.out.cell (p := ⟨db, _, none⟩) hbd).trans d0
      clear hown hnm hB hby d0 hbd
      cases gb with
      | false =>
        have hz : Hid (otherF needs (docs.take a) a ⟨dk, dn, di, dA, dc, df⟩ q = []) := by unfold Hid; rw [hof'.out]; rfl
        go_wp2_with fail
        go_roundw
        case rel => exact ⟨q + 1, by omega, by go_num, by rw [hst.out, hz.out, List.append_nil]; exact hown6.out, hB6, hnm6⟩
        case measure => simp [intOf]; omega
      | true =>
        simp only [if_true] at hof'
        obtain ⟨wo, rfl⟩ : ∃ wo : World, wo = wr := ⟨_, rfl⟩
        obtain ⟨vo, rfl⟩ : ∃ vo : Value, vo = u7 := ⟨_, rfl⟩
        go_wp2_with fail
        go_loopw [7, 12, 13, 14] (fun v' k _ _ wr => ∃ r : Nat, r ≤ a ∧ k = .int .i64 r ∧ vo = v' ∧ Hid (aheadF needs (docs.take a) s = aheadF needs ((docs.take a).drop r) s) ∧ Hid (Below wy.heap.size wy wr)) (fun _ k _ _ _ => a - (intOf k).toNat)
        case atStart => exact ⟨0, Nat.zero_le _, rfl, rfl, rfl, Below.refl _ _⟩
        case round =>
          obtain ⟨r, hr, rfl, rfl, hah, hBz⟩ := hrel
          have hgy : Hid (w.heap.size + 1 ≤ wy.heap.size) := by have := hB6.out.size; have := hs0.out; unfold Hid; omega
          have hB7 : Hid (Below (w.heap.size + 1) w0 wr) := hB6.out.trans (hBz.out.mono hgy.out)
          have hB7w : Hid (Below w.heap.size w wr) := hb0.out.trans (hB7.out.mono (by omega))
          have hown7 := Lib.hid (own_below hown6.out hBz.out)
          have hnm7 := Lib.hid (hnm6.out.below hBz.out hnm6.out.lt)
          have hbk7 := Lib.hid (hbk.out.below hB7.out (by have := hs0.out; omega))
          by_cases hlr : r < a
          · obtain ⟨x, hx⟩ : ∃ x, (docs.take a)[r]? = some x := ⟨_, List.getElem?_eq_getElem (by rw [List.length_take]; have := hR.out.len; omega)⟩
            have hx0 : docs[r]? = some x := by rw [List.getElem?_take_of_lt hlr] at hx; exact hx
            have hno := Lib.hid (ahead_no hah.out hx)
            have hyes := Lib.hid (fun v h1 h2 => ahead_yes (v := v) hah.out hx h1 h2)
            obtain ⟨xb, xoff, eA, x0, _, _, x3, hxf, hxl, _⟩ := (hR.out.at_.below hB7w.out) r x hx0
            obtain ⟨rfl, rfl⟩ : db = xb ∧ doff = xoff := by simpa using eA
            clear eA hx hx0
            obtain ⟨xk, xn, xi, xA, xc, xf⟩ := x
            simp only at x0 x3 hxf hxl hno hyes
            obtain ⟨xl, hxl0⟩ : ∃ n, Hid (xf.length = n) := ⟨_, rfl⟩
            rw [hxl0.out] at x3 hxl
            have hxf' := Lib.hid hxf
            clear hxf
            have hGet : Hid (∀ y : Ext wr, Calls Tryz.prog 101 #[.slice xA xl xc, .string s] y.wd fun e w' => e = .returned (.tuple #[.string (getV xf s), .bool (getB xf s)]) ∧ Below y.wd.heap.size y.wd w') := fun y => getR_any xA xl xc xf s y.wd hxl hxl0 (hxf'.out.below y.below)
            have hno2 : Hid (askedB needs xk = false ∨ getB xf s = false → aheadF needs (docs.take a) s = aheadF needs ((docs.take a).drop (r + 1)) s) := fun h => hno.out (h.imp id get_none)
            have hyes2 : Hid (askedB needs xk = true → getB xf s = true → aheadF needs (docs.take a) s = some (getV xf s)) := fun h1 h2 => hyes.out _ h1 (get_some h2)
            obtain ⟨ov, hov⟩ : ∃ v, Hid (getV xf s = v) := ⟨_, rfl⟩
            obtain ⟨ob, hob⟩ : ∃ v, Hid (getB xf s = v) := ⟨_, rfl⟩
            obtain ⟨ab, hab⟩ : ∃ v, Hid (askedB needs xk = v) := ⟨_, rfl⟩
            have hask : Hid (∀ W, Below wr.heap.size wr W → Calls Tryz.prog 112 #[.agg C, .int .i64 xk] W fun e w' => e = .returned (.bool ab) ∧ Below W.heap.size W w') := fun W hW => by
              have := asked_any C nA nl nc needs xk W hC17 hnl hml'.out (hN.out.below (hB7w.out.trans (hW.mono hB7w.out.size)))
              rw [hab.out] at this
              exact this
            rw [hov.out, hob.out] at hGet
            rw [hob.out, hab.out] at hno2
            rw [hob.out, hab.out, hov.out] at hyes2
            clear hno hyes hov hob hab
            have hbx : db < wr.heap.size := World.block_lt_of_cell? wr _ x0
            have y0 : ∀ W, Below wr.heap.size wr W → W.cell? ⟨db, doff + r * 4, none⟩ = some (.int .i64 xk) := fun W hW => (hW.cell (p := ⟨db, _, none⟩) hbx).trans x0
            have y3 : ∀ y : Ext wr, y.wd.cell? ⟨db, doff + r * 4 + 3, none⟩ = some (.slice xA xl xc) := fun y => (y.cell ⟨db, doff + r * 4 + 3, none⟩ hbx).trans x3
            have nq1 : wr.cell? ⟨w.heap.size + 1 + 1, q, none⟩ = some (.string s) := by rw [hnm7.out.cell, alikeC_get hlt, hs.out]
            have yn : ∀ y : Ext wr, y.wd.cell? ⟨w.heap.size + 1 + 1, q, none⟩ = some (.string s) := fun y => (y.cell ⟨w.heap.size + 1 + 1, q, none⟩ hnm7.out.lt).trans nq1
            have hy0 := Lib.hid y0
            have i5 : (r : Int) < (a : Int) := by omega
            have i6 : (0 : Int) ≤ (r : Int) := by omega
            have i7 : (r : Int) < (nn : Int) := by omega
            clear x0 x3 nq1 y0
            go_wp2_with fail
            refine wp_region_ext (by kernel_rfl) (by kernel_rfl) ?_
            repeat (go_big_quiet_step ((go_at_call 101; exact Calls.ext_of (hGet.out _))))
            refine wpQuiet_nil ?_
            rintro _ ⟨y, rfl⟩
            have hby := Lib.hid y.below
            obtain ⟨wu, hwu⟩ : ∃ w6, y.wd = w6 := ⟨_, rfl⟩
            rw [hwu] at hby ⊢
            clear hwu y y3 yn hGet
            have hbku := Lib.hid (hbk7.out.below hby.out hbk7.out.lt)
            have hasku : Hid (∀ y : Ext wu, Calls Tryz.prog 112 #[.agg C, .int .i64 xk] y.wd fun e w' => e = .returned (.bool ab) ∧ Below y.wd.heap.size y.wd w') := fun y => hask.out y.wd (hby.out.trans (y.below.mono hby.out.size))
            have y0 : ∀ y : Ext wu, y.wd.cell? ⟨db, doff + r * 4, none⟩ = some (.int .i64 xk) := fun y => hy0.out y.wd (hby.out.trans (y.below.mono hby.out.size))
            clear hask
            cases ab
            all_goals
              go_wp2_with fail
              refine wp_region_ext (by kernel_rfl) (by kernel_rfl) ?_
              repeat (first
                | (go_big_quiet_want; (refine quiet_blk 46 (.tmp 3) rfl w.heap.size C 46 _ rfl (by rintro _ ⟨y, rfl⟩; exact hbku.out.below y.below hbku.out.lt) Tryz.underlying46 rfl hsz.out ?_); go_big_quiet_on; simp only [Act.put, List.setIfInBounds_toArray, List.set_cons_zero, List.set_cons_succ])
                | go_big_quiet_step ((go_at_call 112; exact Calls.ext_of (hasku.out _))))
              refine wpQuiet_nil ?_
              rintro _ ⟨y, rfl⟩
              have hbv := Lib.hid y.below
              obtain ⟨wv, hwv⟩ : ∃ w6, y.wd = w6 := ⟨_, rfl⟩
              rw [hwv] at hbv ⊢
              clear hwv y y0 hasku
              have hBv : Hid (Below wr.heap.size wr wv) := hby.out.trans (hbv.out.mono hby.out.size)
              have hBzv : Hid (Below wy.heap.size wy wv) := hBz.out.trans (hBv.out.mono hBz.out.size)
            · have hr2 := Lib.hid (hno2.out (by simp))
              go_wp2_with fail
              go_roundw
              case rel => exact ⟨r + 1, by omega, by go_num, rfl, hr2, hBzv⟩
              case measure => simp [intOf]; omega
            · cases ob with
              | false =>
                have hr2 := Lib.hid (hno2.out (by simp))
                go_wp2_with fail
                go_roundw
                case rel => exact ⟨r + 1, by omega, by go_num, rfl, hr2, hBzv⟩
                case measure => simp [intOf]; omega
              | true =>
                have hr2 := Lib.hid (hyes2.out (by simp) (by simp))
                rw [hr2.out] at hof'
                have hownv := Lib.hid (own_below hown7.out hBv.out)
                have hnmv := Lib.hid (hnm7.out.below hBv.out hnm7.out.lt)
                have hB8 : Hid (Below (w.heap.size + 1) w0 wv) := hB6.out.trans (hBzv.out.mono hgy.out)
                by_cases heq : gv.toList = ov.toList
                · have hz : Hid (otherF needs (docs.take a) a ⟨dk, dn, di, dA, dc, df⟩ q = []) := by unfold Hid; rw [hof'.out]; simp [heq]
                  have hq1 : (gv.toList == ov.toList) = true := by simp [heq]
                  clear heq
                  go_wp2_with fail
                  go_roundw
                  case rel => exact ⟨q + 1, by omega, by go_num, by rw [hst.out, hz.out, List.append_nil]; exact hownv.out, hB8, hnmv⟩
                  case measure => simp [intOf]; omega
                · have hz : Hid (otherF needs (docs.take a) a ⟨dk, dn, di, dA, dc, df⟩ q = [⟨a, dk, s, 3⟩]) := by unfold Hid; rw [hof'.out]; simp only; rw [if_neg (fun h => heq h.symm)]
                  have hq1 : (gv.toList == ov.toList) = false := by simp [heq]
                  clear heq
                  have hbv2 : db < wv.heap.size := Nat.lt_of_lt_of_le hbx hBv.out.size
                  have d0v : wv.cell? ⟨db, doff + a * 4, none⟩ = some (.int .i64 dk) := (hBzv.out.cell (p := ⟨db, _, none⟩) (World.block_lt_of_cell? wy _ d0y)).trans d0y
                  have nqv : wv.cell? ⟨w.heap.size + 1 + 1, q, none⟩ = some (.string s) := by rw [hnmv.out.cell, alikeC_get hlt, hs.out]
                  have hdw : Hid (db < w.heap.size) := by
                    obtain ⟨b', _, e', z0, _⟩ := hR.out.at_ a _ hd.out
                    obtain ⟨rfl, _⟩ : db = b' ∧ _ := by simpa using e'
                    exact World.block_lt_of_cell? w _ z0
                  have hS : Hid (∀ W, Below wv.heap.size wv W → W.cell? ⟨db, doff + a * 4, none⟩ = some (.int .i64 dk) ∧ W.cell? ⟨w.heap.size + 1 + 1, q, none⟩ = some (.string s)) := fun W hW =>
                    ⟨(hW.cell (p := ⟨db, _, none⟩) hbv2).trans d0v, (hW.cell (p := ⟨w.heap.size + 1 + 1, q, none⟩) hnmv.out.lt).trans nqv⟩
                  have hgv8 : Hid (w.heap.size + 1 ≤ wv.heap.size) := by have := hB8.out.size; have := hs0.out; unfold Hid; omega
                  have hl1 : Hid (pre.length + 1 ≤ maxLen) := by have := hpl.out; unfold Hid maxLen; omega
                  have hl2 : Hid ((pre.length + 1) * 40 ≤ 140737488355328) := by have := hpl.out; unfold Hid; omega
                  clear d0v nqv d0y
                  go_wp2_with fail
                  go_region_held3 (fun W => W.cell? ⟨db, doff + a * 4, none⟩ = some (.int .i64 dk) ∧ W.cell? ⟨w.heap.size + 1 + 1, q, none⟩ = some (.string s)) (first | exact hS.out _ (Below.refl _ _).drew | exact hS.out _ ((Below.refl _ _).alloc (Nat.le_refl _) _).drew | exact hS5) (first | (refine step_app_blk (w.heap.size + 1) rfl (.tmp 71) (.tmp 83) 47 rfl 54 i0 _ 4 40 Tryz.underlying47 hi hz0 hz1 hz2 rfl (by decide) _ pre.length (fcells pre) rfl _ 1 #[.int .i64 a, .int .i64 dk, .string s, .int .i64 3] rfl (own_below hownv.out ((Below.refl _ _).alloc (Nat.le_refl _) _).drew) (Blk.new _ 54 _).drew rfl (fcell4 _ _ _ _) hl1.out hl2.out (Nat.le_trans hgv8.out (by simp)) ?_; intro v5 w5 ho5 hb5 hg5; have ho5' := Lib.hid ho5; have hB9 : Hid (Below (w.heap.size + 1) w0 w5) := ((hB8.out.alloc hgv8.out _).drew).trans hb5; have hnm9 : Hid (Blk w5 (w.heap.size + 1 + 1) 9 alikeC) := ((hnmv.out.alloc _).drew).grown hg5 (fun h => own_blk_ne hownv.out hnmv.out (by decide) h.symm); have hS5 : w5.cell? ⟨db, doff + a * 4, none⟩ = some (.int .i64 dk) ∧ w5.cell? ⟨w.heap.size + 1 + 1, q, none⟩ = some (.string s) := ⟨(hb5.cell (p := ⟨db, _, none⟩) (Nat.lt_succ_of_lt hdw.out)).trans (hS.out _ ((Below.refl _ _).alloc (Nat.le_refl _) _).drew).1, by rw [hnm9.out.cell, alikeC_get hlt, hs.out]⟩; clear ho5 hb5 hg5))
                  go_wp2_with fail
                  go_roundw
                  case rel => exact ⟨q + 1, by omega, by go_num, by rw [hst.out, hz.out, fcells_snoc, List.length_append]; exact ho5'.out, hB9, hnm9⟩
                  case measure => simp [intOf]; omega
          · have hz : Hid (otherF needs (docs.take a) a ⟨dk, dn, di, dA, dc, df⟩ q = []) := by
              unfold Hid
              rw [hof'.out, hah.out, List.drop_eq_nil_of_le (by rw [List.length_take]; omega)]; rfl
            go_wp2_with fail
            go_roundw
            case rel => exact ⟨q + 1, by omega, by go_num, by rw [hst.out, hz.out, List.append_nil]; exact hown7.out, hB7, hnm7⟩
            case measure => simp [intOf]; omega
    · obtain rfl : q = 6 := by omega
      go_wp2_with fail
      go_ret
      exact ⟨_, rfl, own_mono_base hown.out (by omega), hBw.out⟩
end Go.Proofs.YtdjmckjbibfecaaGreatDoor

/- The text of steps: script.Print. -/
import Derived.Test.YtheiogafjinihaaDoorWd
import Derived.Test.YtheiogafjinihaaDoorPl
import Derived.Test.YtheiogafjinihaaDoorBl
namespace Go.Proofs.YtheiogafjinihaaDoor
open Go Go.RowKit Go.BigFrame Go.Maps

def PrintR (o : List UInt8 × Int) (w : World) (e : Ending) (w' : World) : Prop := e = .returned (.tuple #[.string ⟨o.1.toArray⟩, .int .i64 o.2]) ∧ Below w.heap.size w w'

set_option maxRecDepth 100000 in
set_option maxHeartbeats 6400000 in
theorem print_any (A : Option Addr) (n c : Nat) (l : List Stp) (w : World) (hn : n ≤ 4096) (hl : Hid (l.length = n)) (hA : Hid (StepsAt w A l)) (hf : Hid (∀ x ∈ l, Fine x)) (hs : Hid (∀ x ∈ l, shortS x = true)) (he : Hid (Env w)) :
    Calls Tryd.prog 11 #[.slice A n c] w (PrintR (printM l) w) := by
  have hfm := Lib.hid (forms_any w)
  go_enter Tryd.func11, Tryd.ntmps11
  go_wp2_with fail
  refine hfm.out.mono ?_
  rintro e w1 ⟨mb, rfl, hf1, hb1⟩
  have hF1 := Lib.hid hf1
  have hB1 := Lib.hid hb1
  clear hf1 hb1
  go_wp2_with fail
  refine (words_any w1).mono ?_
  rintro e w2 ⟨rfl, hb2⟩
  have hB2 := Lib.hid hb2
  clear hb2
  obtain ⟨w3, hw3⟩ : ∃ W, Hid (w2.alloc (.cells #[.string ⟨#[]⟩, .string ⟨#[]⟩, .string ⟨#[]⟩, .string ⟨#[]⟩, .string ⟨#[]⟩, .string ⟨#[]⟩, .string ⟨#[]⟩, .string ⟨#[]⟩] 70) = W) := ⟨_, rfl⟩
  have hc3 : Hid (Below w2.heap.size w2 w3) := by rw [← hw3.out]; exact (Below.refl _ w2).alloc (Nat.le_refl _) _
  have hk3 : Hid (Blk w3 w2.heap.size 70 #[.string ⟨#[]⟩, .string ⟨#[]⟩, .string ⟨#[]⟩, .string ⟨#[]⟩, .string ⟨#[]⟩, .string ⟨#[]⟩, .string ⟨#[]⟩, .string ⟨#[]⟩]) := by rw [← hw3.out]; exact Lib.hid (Blk.new _ _ _)
  go_upto_region 2 with (first | rw [hw3.out] | (refine wpList_put_blk rfl 70 _ _ rfl w2.heap.size #[.string ⟨#[]⟩, .string ⟨#[]⟩, .string ⟨#[]⟩, .string ⟨#[]⟩, .string ⟨#[]⟩, .string ⟨#[]⟩, .string ⟨#[]⟩, .string ⟨#[]⟩] firstA 70 rfl rfl hk3.out rfl (by kernel_rfl) (by simp [firstA, firstL, Value.oneCell']) ?_; intro v3 hf3 hu3; have hP3 := Lib.hid hf3; have hQ3 : Hid (Below w2.heap.size w2 v3) := hu3.to_below hc3.out (Nat.le_refl _) hc3.out.size; clear hf3 hu3))
  have hB03 : Hid (Below w.heap.size w v3) := (hB1.out.trans (hB2.out.mono hB1.out.size)).trans (hQ3.out.mono (Nat.le_trans hB1.out.size hB2.out.size))
  have hF3 := Lib.hid ((hF1.out.below hB2.out).below hQ3.out)
  have hE3 := Lib.hid (he.out.below hB03.out)
  have hA3 := Lib.hid (hA.out.below hB03.out)
  have hlt3 : Hid (w2.heap.size < v3.heap.size) := hP3.out.lt
  clear hB1 hB2 hQ3 hc3 hk3 hw3 hF1 hfm hA he
  obtain ⟨w4, hw4⟩ : ∃ W, Hid (v3.alloc (.cells #[.pointer none, .slice none 0 0] 74) = W) := ⟨_, rfl⟩
  have hB4 : Hid (Below v3.heap.size v3 w4) := by rw [← hw4.out]; exact (Below.refl _ v3).alloc (Nat.le_refl _) _
  have hb4 : Hid (Bld w4 v3.heap.size v3.heap.size []) := by rw [← hw4.out]; exact Lib.hid (builder_new v3)
  go_wp2_with (rw [hw4.out])
  go_loopw [20] (fun i wr => ∃ (j : Nat) (t : List UInt8), j ≤ n ∧ i = .int .i64 (j : Int) ∧ Hid (linesM (l.take j) = some t) ∧ Hid (t.length ≤ j * 1000) ∧ Hid (Bld wr v3.heap.size v3.heap.size t) ∧ Hid (Below v3.heap.size v3 wr)) (fun i _ => n - (intOf i).toNat)
  case atStart => exact ⟨0, [], by omega, rfl, rfl, Lib.hid (by simp), hb4.out, hB4.out⟩
  case round =>
    obtain ⟨j, t, hj, rfl, ht, htl, hbl, hB⟩ := hrel
    obtain ⟨wo, hwo⟩ : ∃ x, x = wr := ⟨_, rfl⟩
    subst hwo
    have hBw : Hid (Below w.heap.size w wo) := hB03.out.trans (hB.out.mono hB03.out.size)
    by_cases hlt : j < n
    · obtain ⟨x, hx⟩ : ∃ x, l[j]? = some x := ⟨_, List.getElem?_eq_getElem (by have := hl.out; omega)⟩
      have hmem := List.mem_of_getElem? hx
      have hfx := Lib.hid (hf.out x hmem)
      have hsx := Lib.hid (hs.out x hmem)
      obtain ⟨b, off, hAe, h0, h1, h2, h3, h4, h5⟩ := (hA3.out.below hB.out) j x hx
      subst hAe
      have hno : Hid (lineM x = none → printM l = ([], 1)) := by
        intro h
        unfold printM
        rw [lines_none hmem h]
      have hst : Hid (∀ s, lineM x = some s → linesM (l.take (j + 1)) = some (t ++ (s ++ [10]))) := fun s h => lines_step hx ht.out h
      have hFr := Lib.hid (hF3.out.below hB.out)
      have hEr := Lib.hid (hE3.out.below hB.out)
      have hPr := Lib.hid (hP3.out.below hB.out hP3.out.lt)
      have hfr := hEr.out.size
      clear hmem hx hfr
      have i1 : (j : Int) < (n : Int) := by omega
      have t2 : decide ((j : Int) < (n : Int)) = true := by simp; omega
      have t3 : decide (j < n) = true := by simp; omega
      by_cases hk0 : x.kind < 0 ∨ 8 ≤ x.kind
      · have hpe := Lib.hid (hno.out (line_no_kind hk0))
        obtain ⟨xk, xn, xp, xa, xc, xd⟩ := x
        simp only at h0 h1 h2 h3 h4 h5 hk0
        obtain ⟨w5, hw5⟩ : ∃ W, Hid (wo.alloc (.cells #[.int .i64 xk, .int .i64 xn, .string ⟨xp.toArray⟩, .int .i64 xa, .int .i64 xc, .string ⟨xd.toArray⟩] 49) = W) := ⟨_, rfl⟩
        have hb5 : Hid (Below wo.heap.size wo w5) := by rw [← hw5.out]; exact (Below.refl _ wo).alloc (Nat.le_refl _) _
        have hX5 : Hid (Blk w5 wo.heap.size 49 #[.int .i64 xk, .int .i64 xn, .string ⟨xp.toArray⟩, .int .i64 xa, .int .i64 xc, .string ⟨xd.toArray⟩]) := by rw [← hw5.out]; exact Lib.hid (Blk.new _ _ _)
        have x0 : w5.cell? ⟨wo.heap.size, 0, none⟩ = some (.int .i64 xk) := hX5.out.cell 0
        by_cases hneg : xk < 0
        · have d0 : decide (xk < 0) = true := decide_eq_true hneg
          clear hk0 hneg
          go_wp2_with (rw [hw5.out])
          go_ret2
          rw [hpe.out]
          exact ⟨rfl, hBw.out.trans (hb5.out.mono hBw.out.size)⟩
        · have d0 : decide (xk < 0) = false := decide_eq_false hneg
          have d1 : decide (8 ≤ xk) = true := decide_eq_true (by omega)
          clear hk0 hneg
          go_wp2_with (rw [hw5.out])
          go_ret2
          rw [hpe.out]
          exact ⟨rfl, hBw.out.trans (hb5.out.mono hBw.out.size)⟩
      · obtain ⟨m, hm⟩ : ∃ m : Nat, x.kind = (m : Int) := ⟨x.kind.toNat, by omega⟩
        have hm8 : m < 8 := by omega
        clear hk0
        have hshow0 := Lib.hid (fun (p : Prt) (hp : p ∈ partsL.getD m []) (h : (showP x p).2 = false) => line_no_show hm8 hm hp h)
        have hput0 := Lib.hid (line_no_put (x := x) hm8 hm)
        have hyes0 := Lib.hid (line_yes (x := x) hm8 hm)
        have hread0 := Lib.hid (readM_shown x m hm8)
        have hshow1 := Lib.hid (fun (p : Prt) (W : World) (hE : Env W) (g1 g2 : Nat) (hG : Gs W g1 g2) => show_any p x W hE hfx.out g1 g2 hG)
        have hshl := Lib.hid (fun (p : Prt) (h : (showP x p).2 = true) => show_le hsx.out h)
        have hneq := Lib.hid (fun (y : Stp) => neq_step y x)
        obtain ⟨sh, hsh⟩ : ∃ sh : Prt → List UInt8 × Bool, showP x = sh := ⟨_, rfl⟩
        rw [hsh] at hshow0 hyes0 hread0 hshow1 hshl
        obtain ⟨Y, hY⟩ : ∃ Y, putAll x m = Y := ⟨_, rfl⟩
        have hread1 : Hid (((partsL.getD m []).all fun p => (sh p).2) = true → readM (joinL 32 (firstL.getD m [] :: (partsL.getD m []).map fun p => (sh p).1)) = some Y) := by
          intro h
          rw [← hY]
          exact hread0.out h
        rw [hY] at hput0 hyes0
        have hX0 := Lib.hid (eqS_iff Y x)
        clear hread0 hsh hY hfx hsx
        obtain ⟨ps, hps⟩ : ∃ ps, partsL.getD m [] = ps := ⟨_, rfl⟩
        obtain ⟨wd, hwd⟩ : ∃ wd, firstL.getD m [] = wd := ⟨_, rfl⟩
        have hM4 : Hid (ps.length ≤ 4) := by have := parts_le ⟨m, hm8⟩; simp only [hps] at this; exact this
        have hw7 : Hid (wd.length ≤ 7) := by have := first_le ⟨m, hm8⟩; simp only [hwd] at this; exact this
        have hplw : Hid (placeL firstL wd 0 = some m) := by have := place_first ⟨m, hm8⟩; simp only [hwd] at this; exact this
        have hfa : Hid (firstA[m]? = some (.string ⟨wd.toArray⟩)) := by rw [← hwd]; exact firstA_get m hm8
        have hform := Lib.hid (fun r => formV_eq r m hm8)
        have hrowg := Lib.hid (fun g1 g2 q p h => rowV_get g1 g2 m q p h)
        rw [hps] at hform hrowg hshow0 hyes0 hread1
        rw [hwd] at hyes0 hread1
        have hps' := Lib.hid hps
        have hm8' := Lib.hid hm8
        clear hps hwd
        obtain ⟨M, hM⟩ : ∃ M, Hid (ps.length = M) := ⟨_, Lib.hid rfl⟩
        obtain ⟨xk, xn, xp, xa, xc, xd⟩ := x
        simp only at h0 h1 h2 h3 h4 h5 hm
        subst hm
        obtain ⟨w5, hw5⟩ : ∃ W, Hid (wo.alloc (.cells #[.int .i64 (m : Int), .int .i64 xn, .string ⟨xp.toArray⟩, .int .i64 xa, .int .i64 xc, .string ⟨xd.toArray⟩] 49) = W) := ⟨_, rfl⟩
        have hb5 : Hid (Below wo.heap.size wo w5) := by rw [← hw5.out]; exact (Below.refl _ wo).alloc (Nat.le_refl _) _
        have hX5 : Hid (Blk w5 wo.heap.size 49 #[.int .i64 (m : Int), .int .i64 xn, .string ⟨xp.toArray⟩, .int .i64 xa, .int .i64 xc, .string ⟨xd.toArray⟩]) := by rw [← hw5.out]; exact Lib.hid (Blk.new _ _ _)
        have x0 : w5.cell? ⟨wo.heap.size, 0, none⟩ = some (.int .i64 (m : Int)) := hX5.out.cell 0
        have d0 : decide ((m : Int) < 0) = false := by simp
        have d1 : decide (8 ≤ (m : Int)) = false := by simp; omega
        have d2 : decide (8 ≤ m) = false := by simp; omega
        have d3 : (m : Int) < 8 := by omega
        have d4 : (0 : Int) ≤ (m : Int) := by omega
        have hF5 := Lib.hid (hFr.out.below hb5.out)
        have hE5 := Lib.hid (hEr.out.below hb5.out)
        have hP5 := Lib.hid (hPr.out.below hb5.out hPr.out.lt)
        have hbl5 := Lib.hid (hbl.out.below hb5.out)
        have hB5 : Hid (Below v3.heap.size v3 w5) := hB.out.trans (hb5.out.mono hB.out.size)
        have pm : w5.cell? ⟨w2.heap.size, m, none⟩ = some (.string ⟨wd.toArray⟩) := (hP5.out.cell m).trans hfa.out
        obtain ⟨g1, g2, r, hg1, hg2, hrow, hmap⟩ := hF5.out
        have hgs5 : Hid (Gs w5 g1 g2) := ⟨hg1, hg2⟩
        obtain ⟨A', hA1, hA2⟩ := hform.out r
        rw [hM.out] at hA1 hA2
        have hlk := hmap.look (t := 68) Tryd.underlying9 Tryd.underlying68 (zero_form w5) (s := ⟨wd.toArray⟩) (by rw [size_list]; unfold maxLen; have := hw7.out; omega)
        have hlu : (⟨wd.toArray⟩ : ByteArray).data.toList = wd := by simp
        rw [hlu] at hlk
        unfold formS at hlk
        rw [hplw.out] at hlk
        simp only [Option.map_some, Option.getD_some] at hlk
        rw [hA1] at hlk
        have hfld : ∀ W, (Instr.field 77 (.agg #[.int .i64 (m : Int), .slice A' M M]) 1).run Tryd.prog W = .ok (.slice A' M M) W := fun _ => by kernel_rfl
        have hrw5 : Hid (0 < M → ∃ rk, A' = some ⟨rk, 0, none⟩ ∧ Blk w5 rk 81 (rowV g1 g2 m)) := by
          intro hp
          obtain ⟨h4', hAe⟩ := hA2 hp
          exact ⟨_, hAe, hrow m hm8'.out h4'⟩
        have hmb := Lib.hid hM4.out
        rw [hM.out] at hmb
        clear hg1 hg2 hrow hmap hA1 hA2 hlu hform
        go_wp2_with (rw [hw5.out])
        clear hlk hfld pm x0 d0 d1 d2
        go_loopw [9, 42] (fun ln i wr => ∃ (q : Nat) (u : List UInt8), q ≤ M ∧ i = .int .i64 (q : Int) ∧ ln = .string ⟨u.toArray⟩ ∧ Hid (u = joinL 32 (wd :: (ps.take q).map fun p => (sh p).1)) ∧ Hid (u.length ≤ 7 + q * 101) ∧ Hid (((ps.take q).all fun p => (sh p).2) = true) ∧ Hid (Below w5.heap.size w5 wr)) (fun _ i _ => M - (intOf i).toNat)
        case atStart => exact ⟨0, wd, by omega, rfl, rfl, rfl, by have := hw7.out; exact Lib.hid (by omega), rfl, Below.refl _ _⟩
        case round =>
          obtain ⟨q, u, hq, rfl, rfl, hu, hul, hall, hBi⟩ := hrel
          have hEi := Lib.hid (hE5.out.below hBi.out)
          have hBwi : Hid (Below w.heap.size w wr) := hBw.out.trans ((hb5.out.trans (hBi.out.mono hb5.out.size)).mono hBw.out.size)
          by_cases hqm : q < M
          · obtain ⟨p, hp⟩ : ∃ p, ps[q]? = some p := ⟨_, List.getElem?_eq_getElem (by have := hM.out; omega)⟩
            have hpm := List.mem_of_getElem? hp
            obtain ⟨rk, hAe, hrb⟩ := hrw5.out (by omega)
            subst hAe
            have hrr := hrb.below hBi.out hrb.lt
            obtain ⟨hq0, hq1⟩ := hrowg.out g1 g2 q p hp
            have q0 : wr.cell? ⟨rk, q * 2, none⟩ = some (.func (.func (gShow p)) #[] (capP g1 g2 p)) := (hrr.cell _).trans hq0
            have q1 : wr.cell? ⟨rk, q * 2 + 1, none⟩ = some (.func (.func (gRead p)) #[] (capP g1 g2 p)) := (hrr.cell _).trans hq1
            have htk : Hid (ps.take (q + 1) = ps.take q ++ [p]) := by
              unfold Hid
              obtain ⟨hlt', he'⟩ := List.getElem?_eq_some_iff.1 hp
              rw [List.take_succ_eq_append_getElem hlt', he']
            have k2 : decide ((q : Int) < (M : Int)) = true := by simp; omega
            have k3 : decide (q < M) = true := by simp; omega
            have k1 : (q : Int) < (M : Int) := by omega
            clear hrr hq0 hq1 hp hrb
            go_upto_region 12 with fail
            obtain ⟨w6, hw6⟩ : ∃ W, Hid (wr.alloc (.cells #[.func (.func (gShow p)) #[] (capP g1 g2 p), .func (.func (gRead p)) #[] (capP g1 g2 p)] 81) = W) := ⟨_, rfl⟩
            have hb6 : Hid (Below wr.heap.size wr w6) := by rw [← hw6.out]; exact (Below.refl _ wr).alloc (Nat.le_refl _) _
            have hp6 : Hid (Blk w6 wr.heap.size 81 #[.func (.func (gShow p)) #[] (capP g1 g2 p), .func (.func (gRead p)) #[] (capP g1 g2 p)]) := by rw [← hw6.out]; exact Lib.hid (Blk.new _ _ _)
            have hB6 : Hid (Below w5.heap.size w5 w6) := hBi.out.trans (hb6.out.mono hBi.out.size)
            have hX6 := Lib.hid (hX5.out.below hB6.out hX5.out.lt)
            have a0 : w6.cell? ⟨wr.heap.size, 0, none⟩ = some (.func (.func (gShow p)) #[] (capP g1 g2 p)) := hp6.out.cell 0
            have hcl := Lib.hid (hshow1.out p w6 (hE5.out.below hB6.out) g1 g2 (hgs5.out.below hB6.out))
            have eg := enters_show p
            obtain ⟨v, hv⟩ : ∃ v, Hid ((sh p).1 = v) := ⟨_, Lib.hid rfl⟩
            obtain ⟨bb, hbb⟩ : ∃ bb, Hid ((sh p).2 = bb) := ⟨_, Lib.hid rfl⟩
            have hcl2 := hcl.out
            rw [hv.out, hbb.out] at hcl2
            have hcl' := Lib.hid hcl2
            clear hcl hcl2 q0 q1
            cases bb with
            | false =>
              have hpe := Lib.hid (hno.out (hshow0.out p hpm hbb.out))
              clear hpm
              go_wp2_with (first | rw [hw6.out] | (refine wpList_get_blk rfl 49 _ rfl wo.heap.size #[.int .i64 (m : Int), .int .i64 xn, .string ⟨xp.toArray⟩, .int .i64 xa, .int .i64 xc, .string ⟨xd.toArray⟩] 49 _ rfl hX6.out Tryd.underlying49 rfl (by kernel_rfl) ?_) | (go_at_fn (gShow p); refine hcl'.out.mono ?_; rintro e w7 ⟨rfl, hb7⟩; have hB7 := Lib.hid hb7; clear hb7))
              go_ret2
              rw [hpe.out]
              exact ⟨rfl, hBwi.out.trans ((hb6.out.trans (hB7.out.mono hb6.out.size)).mono hBwi.out.size)⟩
            | true =>
              have hvl : Hid (v.length ≤ 100) := by rw [← hv.out]; exact hshl.out p hbb.out
              have z0 := hvl.out
              have z9 := hul.out
              have z8 : M ≤ 4 := hmb.out
              have z1 : ¬ 9223372036854775807 < 1 + v.length := by omega
              have z2 : ¬ 9223372036854775807 < u.length + (1 + v.length) := by omega
              have z3 : ¬ 9223372036854775807 < v.length + 1 := by omega
              have z4 : ¬ 9223372036854775807 < u.length + (v.length + 1) := by omega
              have hnl : Hid ((u ++ 32 :: v).length ≤ 7 + (q + 1) * 101) := by unfold Hid; simp; omega
              have e0 : Hid (({ data := u.toArray } : ByteArray) ++ ({ data := #[32] } ++ { data := v.toArray }) = ⟨(u ++ 32 :: v).toArray⟩) := ByteArray.ext (by simp)
              have hnu : Hid (u ++ 32 :: v = joinL 32 (wd :: (ps.take (q + 1)).map fun p => (sh p).1)) := by
                unfold Hid
                rw [htk.out, List.map_append, List.map_singleton, hv.out]
                have := joinL_snoc 32 ((ps.take q).map fun p => (sh p).1) wd v
                rw [List.cons_append] at this
                rw [this, ← hu.out]
              have hna : Hid (((ps.take (q + 1)).all fun p => (sh p).2) = true) := by
                unfold Hid
                rw [htk.out, List.all_append, hall.out]
                simp [hbb.out]
              clear hpm z0 z9
              go_wp2_with (first | rw [hw6.out] | (refine wpList_get_blk rfl 49 _ rfl wo.heap.size #[.int .i64 (m : Int), .int .i64 xn, .string ⟨xp.toArray⟩, .int .i64 xa, .int .i64 xc, .string ⟨xd.toArray⟩] 49 _ rfl hX6.out Tryd.underlying49 rfl (by kernel_rfl) ?_) | (go_at_fn (gShow p); refine hcl'.out.mono ?_; rintro e w7 ⟨rfl, hb7⟩; have hB7 := Lib.hid hb7; clear hb7))
              go_roundw
              case rel => exact ⟨q + 1, u ++ 32 :: v, by omega, by go_num, congrArg Value.string e0.out, hnu.out, hnl.out, hna.out, hB6.out.trans (hB7.out.mono hB6.out.size)⟩
              case measure => simp [intOf]; omega
          · have hqM : q = M := by omega
            subst hqM
            have htk : ps.take q = ps := List.take_of_length_le (by have := hM.out; omega)
            have hall' := hall.out
            have hu' := hu.out
            rw [htk] at hall' hu'
            have hru := hread1.out hall'
            rw [← hu'] at hru
            have hln := Lib.hid (fun e => hyes0.out hall' e)
            rw [← hu'] at hln
            have hul' : Hid (u.length ≤ 500) := by have := hul.out; have := hmb.out; unfold Hid; omega
            have hrl := read_line u wr mb (hF5.out.below hBi.out) hEi.out (by have := hul'.out; omega)
            rw [hru] at hrl
            have hrl' := Lib.hid hrl
            clear htk hall' hu' hru hrl hread1 hyes0 hall hu
            have hB35 : Hid (Below v3.heap.size v3 wr) := hB5.out.trans (hBi.out.mono hB5.out.size)
            have k2 : decide ((q : Int) < (q : Int)) = false := by simp
            have k3 : decide (q < q) = false := by simp
            go_wp2_with fail
            refine hrl'.out.mono ?_
            rintro e w7 ⟨he7, hb7⟩
            obtain ⟨yk, yn, yp, ya, yc, yd⟩ := Y
            obtain rfl : e = .returned (.tuple #[.agg #[.int .i64 yk, .int .i64 yn, .string ⟨yp.toArray⟩, .int .i64 ya, .int .i64 yc, .string ⟨yd.toArray⟩], .bool true]) := he7
            have hB7 := Lib.hid hb7
            clear hb7
            obtain ⟨w8, hw8⟩ : ∃ W, Hid (w7.alloc (.cells #[.int .i64 yk, .int .i64 yn, .string ⟨yp.toArray⟩, .int .i64 ya, .int .i64 yc, .string ⟨yd.toArray⟩] 49) = W) := ⟨_, rfl⟩
            have hb8 : Hid (Below w7.heap.size w7 w8) := by rw [← hw8.out]; exact (Below.refl _ w7).alloc (Nat.le_refl _) _
            have hY8 : Hid (Blk w8 w7.heap.size 49 #[.int .i64 yk, .int .i64 yn, .string ⟨yp.toArray⟩, .int .i64 ya, .int .i64 yc, .string ⟨yd.toArray⟩]) := by rw [← hw8.out]; exact Lib.hid (Blk.new _ _ _)
            have hX7 := Lib.hid ((hX5.out.below hBi.out hX5.out.lt).below hB7.out (by have := hX5.out.lt; have := hBi.out.size; omega))
            have hX8 := Lib.hid (hX7.out.below hb8.out hX7.out.lt)
            have hB8 : Hid (Below v3.heap.size v3 w8) := (hB35.out.trans (hB7.out.mono hB35.out.size)).trans (hb8.out.mono (Nat.le_trans hB35.out.size hB7.out.size))
            have hBw8 : Hid (Below w.heap.size w w8) := hB03.out.trans (hB8.out.mono hB03.out.size)
            have hbl8 := Lib.hid (((hbl5.out.below hBi.out).below hB7.out).below hb8.out)
            have hsz : Hid (v3.heap.size ≤ w8.heap.size) := hB8.out.size
            have y0 : w8.cell? ⟨w7.heap.size, 0, none⟩ = some (.int .i64 yk) := hY8.out.cell 0
            have y1 : w8.cell? ⟨w7.heap.size, 1, none⟩ = some (.int .i64 yn) := hY8.out.cell 1
            have y2 : w8.cell? ⟨w7.heap.size, 2, none⟩ = some (.string ⟨yp.toArray⟩) := hY8.out.cell 2
            have y3 : w8.cell? ⟨w7.heap.size, 3, none⟩ = some (.int .i64 ya) := hY8.out.cell 3
            have y4 : w8.cell? ⟨w7.heap.size, 4, none⟩ = some (.int .i64 yc) := hY8.out.cell 4
            have y5 : w8.cell? ⟨w7.heap.size, 5, none⟩ = some (.string ⟨yd.toArray⟩) := hY8.out.cell 5
            have x0 : w8.cell? ⟨wo.heap.size, 0, none⟩ = some (.int .i64 (m : Int)) := hX8.out.cell 0
            have x1 : w8.cell? ⟨wo.heap.size, 1, none⟩ = some (.int .i64 xn) := hX8.out.cell 1
            have x2 : w8.cell? ⟨wo.heap.size, 2, none⟩ = some (.string ⟨xp.toArray⟩) := hX8.out.cell 2
            have x3 : w8.cell? ⟨wo.heap.size, 3, none⟩ = some (.int .i64 xa) := hX8.out.cell 3
            have x4 : w8.cell? ⟨wo.heap.size, 4, none⟩ = some (.int .i64 xc) := hX8.out.cell 4
            have x5 : w8.cell? ⟨wo.heap.size, 5, none⟩ = some (.string ⟨xd.toArray⟩) := hX8.out.cell 5
            have hq := hneq.out ⟨yk, yn, yp, ya, yc, yd⟩
            simp only [Stp.cells] at hq
            have hqg := Tryd.eqg49
            obtain ⟨b0, hb0⟩ : ∃ b0, Hid (eqS ⟨yk, yn, yp, ya, yc, yd⟩ ⟨(m : Int), xn, xp, xa, xc, xd⟩ = b0) := ⟨_, Lib.hid rfl⟩
            rw [hb0.out] at hq
            cases b0 with
            | false =>
              have hpe := Lib.hid (hno.out (hput0.out (by have := hX0.out; rw [hb0.out] at this; exact of_decide_eq_false this.symm)))
              go_wp2_with (rw [hw8.out])
              go_ret2
              rw [hpe.out]
              exact ⟨rfl, hBw8.out⟩
            | true =>
              have hlm := Lib.hid (hln.out (by have := hX0.out; rw [hb0.out] at this; exact of_decide_eq_true this.symm))
              have hnt := Lib.hid (hst.out u hlm.out)
              have hnl : Hid ((t ++ (u ++ [10])).length ≤ (j + 1) * 1000) := by have := htl.out; have := hul'.out; unfold Hid; simp; omega
              have hwr := write_any v3.heap.size v3.heap.size t (u ++ [10]) w8 hbl8 (by have := hnl.out; simp at this ⊢; omega) hsz.out
              have e0 : (⟨(u ++ [10]).toArray⟩ : ByteArray) = ({ data := u.toArray } : ByteArray) ++ { data := #[10] } := ByteArray.ext (by simp)
              rw [e0] at hwr
              have hwr' := Lib.hid hwr
              have z1 : ¬ 9223372036854775807 < u.length + 1 := by have := hul'.out; omega
              have z2 : decide ((j : Int) < 4096) = true := by simp; omega
              have z3 : decide (j < 4096) = true := by simp; omega
              clear hwr e0
              go_wp2_with (first | rw [hw8.out] | (go_at_call 23; refine hwr'.out.mono ?_; rintro e w9 ⟨⟨nw, rfl⟩, hb9, hd9⟩; have hB9 := Lib.hid hb9; have hD9 := Lib.hid hd9; clear hb9 hd9))
              go_roundw
              case rel => exact ⟨j + 1, t ++ (u ++ [10]), by omega, by go_num, hnt.out, hnl.out, hD9.out, hB8.out.trans hB9.out⟩
              case measure => simp [intOf]; omega
    · have hfin : Hid (printM l = (t, 0)) := by
        unfold Hid printM
        have := ht.out
        rw [List.take_of_length_le (by have := hl.out; omega)] at this
        rw [this]
      have hst := Lib.hid (string_any v3.heap.size v3.heap.size t wo hbl (by have := hB.out.size; omega))
      have t2 : decide ((j : Int) < (n : Int)) = false := by simp; omega
      have t3 : decide (j < n) = false := by simp; omega
      have t4 : decide (4096 < (n : Int)) = false := by simp; omega
      have t5 : decide (4096 < n) = false := by simp; omega
      go_wp2_with (go_at_call 24; refine hst.out.mono ?_; rintro e w9 ⟨rfl, hb9⟩; have hB9 := Lib.hid hb9; clear hb9)
      go_ret2
      rw [hfin.out]
      exact ⟨rfl, hBw.out.trans (hB9.out.mono hB03.out.size)⟩

end Go.Proofs.YtheiogafjinihaaDoor

/- The walk of the law ExamineSpoilt. -/
import Derived.Test.YtpnkpnocipkedaaDoorEo
import Derived.Test.YtpnkpnocipkedaaDoorZg
namespace Go.Proofs.YtpnkpnocipkedaaDoor
open Go Go.RowKit Go.BigFrame Go.Maps

theorem zero_ok (e : Int) (h0 : -9223372036854775808 ≤ e) (h1 : e ≤ 9223372036854775807) : (zeroC e).okC := by
  constructor <;> simp [zeroC]
  exact ⟨h0, h1⟩
theorem longT_one {f x : ByteArray} (hf : f.size ≤ 9223372036854775807) (hx : x.size ≤ 9223372036854775807) : LongT (ruleS f x) := by
  unfold LongT ruleS
  rw [allT, allL]
  exact ⟨⟨hf, hx⟩, trivial⟩
theorem nds_spoilt {w : World} {b : Nat} {kd : Int} {f x : ByteArray} (hk : -9223372036854775808 ≤ kd ∧ kd ≤ 9223372036854775807) (hf : f.size ≤ 9223372036854775807) (hx : x.size ≤ 9223372036854775807) (h : Blk w b 52 #[.int .i64 kd, .int .i64 0, .int .i64 3, .int .i64 0, .string f, .string x, .int .i64 0, .slice none 0 0]) :
    NdsAt w (some ⟨b, 0, none⟩) [⟨kd, 0, ruleS f x⟩] := by
  intro k y hk'
  match k, hk' with
  | 0, hk' =>
    simp at hk'; subst hk'
    refine ⟨hk, ?_, longT_one hf hx, b, 0, rfl, h.cell 0, h.cell 1, ?_⟩
    · unfold ruleS; rw [TreeAt, RowsAt]; exact ⟨trivial, by simp⟩
    · exact ⟨h.cell 2, h.cell 3, h.cell 4, h.cell 5, h.cell 6, h.cell 7⟩
theorem few_one (kd : Int) (f x : ByteArray) : FewParts [⟨kd, 0, ruleS f x⟩] := by
  refine ⟨by simp, fun y hy => ?_⟩
  obtain rfl := List.mem_singleton.1 hy
  rw [parts_spoilt]; simp
theorem exam_len {c : Crd} {needs : List Nd} {docs : List Pap} {day : Int} (hF : FewParts needs) (hn : docs.length ≤ 13) : (examF c needs docs day).length ≤ 20000 := by
  have h1 := addAll_len (toldE c needs docs day) []
  have h2 := docs_len (c := c) (docs := docs) (day := day) hF docs.length
  have h3 := flat_le _ (lackF_le docs) needs
  have h4 : (expF c day).length ≤ 1 := by unfold expF; split <;> simp
  have h5 := hF.1
  unfold toldE at h1
  simp only [List.length_append, List.length_nil] at h1
  unfold examF toldE
  omega
abbrev CS (b : Nat) : Array Value := (zeroC 5).cells (.slice (some ⟨b, 0, none⟩) 1 1)
theorem csOne {b : Nat} : (CS b).all (·.oneCell') = true := by simp [CS, Crd.cells, zeroC, Value.oneCell']

set_option maxRecDepth 100000 in
set_option maxHeartbeats 6400000 in
theorem spoilt_law (A : Option Addr) (nn c : Nat) (docs : List Pap) (a : Int) (field want : ByteArray) (w : World) (hnn : Hid (docs.length = nn)) (hmn : nn ≤ maxLen) (hD : Hid (DocsAt w A docs)) (hLD : Hid (LongD docs)) (he : Hid (Env w)) (hf : field.size ≤ 1000000000000000) (hw : want.size ≤ 1000000000000000) :
    Calls Tryd.prog 9 #[.slice A nn c, .int .i64 a, .string field, .string want] w fun e w' => e = .returned (.bool true) ∧ Below w.heap.size w w' := by
  have hmn' := Lib.hid hmn
  clear hmn
  go_enter Tryd.func9, Tryd.ntmps9
  go_wp2_with fail
  refine (awake_any _ he.out).mono ?_
  rintro e w1 ⟨rfl, hb1⟩
  have hB1 := Lib.hid hb1
  clear hb1
  go_wp2_with fail
  refine (few_any _ none 0 0 [] A nn c docs w1 ?hc1 ?hc2 rfl hnn (Nat.zero_le _) hmn'.out (fun k x hk => by simp at hk) (hD.out.below hB1.out) hLD).mono ?_
  case hc1 => rfl
  case hc2 => rfl
  rintro e w2 ⟨rfl, hb2⟩
  have hB2 : Hid (Below w.heap.size w w2) := hB1.out.trans (hb2.mono hB1.out.size)
  clear hb2
  obtain ⟨fb, hfb⟩ : ∃ fb, Hid (fewB [] docs = fb) := ⟨_, rfl⟩
  rw [hfb.out]
  cases fb with
  | false =>
    go_wp2_with fail
    go_ret
    exact ⟨rfl, hB2.out⟩
  | true =>
    obtain ⟨_, hn12, hsd, _⟩ := few_docs hfb.out
    have hsd' := Lib.hid hsd
    have hn12' : nn ≤ 12 := by have := hnn.out; omega
    clear hsd hn12
    by_cases ha0 : a < 0
    · have b1 : decide (a < 0) = true := by simp [ha0]
      go_wp2_with fail
      all_goals try (exfalso; omega)
      go_ret
      exact ⟨rfl, hB2.out⟩
    have b1 : decide (a < 0) = false := by simpa using ha0
    by_cases ha1 : (nn : Int) ≤ a
    · have b2 : decide ((nn : Int) ≤ a) = true := by simp [ha1]
      go_wp2_with fail
      all_goals try (exfalso; omega)
      go_ret
      exact ⟨rfl, hB2.out⟩
    have b2 : decide ((nn : Int) ≤ a) = false := by simpa using ha1
    by_cases h200 : 200 < field.size + want.size
    · go_wp2_with fail
      all_goals try (exfalso; omega)
      go_ret
      exact ⟨rfl, hB2.out⟩
    obtain ⟨m, rfl⟩ : ∃ m : Nat, a = m := ⟨a.toNat, by omega⟩
    have hml : m < nn := by omega
    clear ha0 ha1 b1 b2
    obtain ⟨d, hd⟩ : ∃ d, docs[m]? = some d := ⟨_, List.getElem?_eq_getElem (by have := hnn.out; omega)⟩
    have hd' := Lib.hid hd
    have hsp := Lib.hid (exam_spoilt (c := zeroC 5) (day := 5) (field := field) (want := want) hd (by simp [zeroC]))
    obtain ⟨b, off, rfl, h0, h1, h2, h3, h4, h5, hkd⟩ := (hD.out.below hB2.out) m d hd
    clear hd
    have h4' := Lib.hid h4
    have h5' := Lib.hid h5
    clear h4 h5 h1 h2
    obtain ⟨kd, nu, is, fA, fc, fs⟩ := d
    simp only at h0 h3 hkd hsp h4' h5'
    obtain ⟨fm, hfm⟩ : ∃ m, Hid (fs.length = m) := ⟨_, rfl⟩
    rw [hfm.out] at h3 h5'
    have hkd' := Lib.hid hkd
    clear hkd
    have z1 : b < w2.heap.size := World.block_lt_of_cell? w2 _ h0
    go_wp2_with (first | (refine wpList_store_blk rfl 32 (.tmp 10) (.tmp 52) rfl (w2.heap.size + 1) _ (CS w2.heap.size) 32 rfl rfl (blk_second w2 _ 32 _) rfl (by kernel_rfl) csOne ?_; intro w3 hb3 hbu3; have hn3 : Hid (Blk w3 w2.heap.size 52 #[.int .i64 kd, .int .i64 0, .int .i64 3, .int .i64 0, .string field, .string want, .int .i64 0, .slice none 0 0]) := hbu3.blk ((Blk.new w2 52 _).alloc _) (by omega); have hB3 : Hid (Below w2.heap.size w2 w3) := (((Below.refl _ w2).alloc (Nat.le_refl _) _).alloc (by simp) _).trans (hbu3.below (by intro g hg; omega) (by simp; omega)); have hb3' := Lib.hid hb3; have h3' : w3.cell? ⟨b, off + m * 4 + 3, none⟩ = some (.slice fA fm fc) := (hB3.out.cell z1).trans h3; clear hb3 hbu3))
    all_goals try (exfalso; omega)
    have hB3w : Hid (Below w.heap.size w w3) := hB2.out.trans (hB3.out.mono hB2.out.size)
    refine (getR_any fA fm fc fs field w3 h5'.out hfm (h4'.out.below hB3.out)).mono ?_
    rintro e w4 ⟨rfl, hb4⟩
    have hB4 : Hid (Below w.heap.size w w4) := hB3w.out.trans (hb4.mono hB3w.out.size)
    have hc4 := Lib.hid (hb3'.out.below hb4 hb3'.out.lt)
    have hn4 := Lib.hid (hn3.out.below hb4 hn3.out.lt)
    clear hb4 h3 h3' h0 z1 hB3 hb3' hn3
    obtain ⟨r, hr⟩ : ∃ r, Hid (getF fs field = r) := ⟨_, rfl⟩
    have eV : Hid (getV fs field = r.getD ⟨#[]⟩) := by unfold Hid getV; rw [hr.out]
    have eB : Hid (getB fs field = r.isSome) := by unfold Hid getB; rw [hr.out]
    rw [eV.out, eB.out]
    obtain ⟨u, hu⟩ : ∃ u, Hid (r.getD ⟨#[]⟩ = u) := ⟨_, rfl⟩
    obtain ⟨ok, hok⟩ : ∃ ok, Hid (r.isSome = ok) := ⟨_, rfl⟩
    rw [hu.out, hok.out]
    go_upto_if 68 with fail
    have hfb5 := Lib.hid (Blk.new w4 40 #[.int .i64 m, .int .i64 kd, .string field, .int .i64 2])
    have hbA5 := Lib.hid ((Below.refl _ w4).alloc (Nat.le_refl _) (.cells #[.int .i64 m, .int .i64 kd, .string field, .int .i64 2] 40))
    have hB5 := Lib.hid (hB4.out.trans (hbA5.out.mono hB4.out.size))
    have hc5 := Lib.hid (hc4.out.below hbA5.out hc4.out.lt)
    have hn5 := Lib.hid (hn4.out.below hbA5.out hn4.out.lt)
    go_cut [69] (fun _ wx => ∃ y : Int, Hid (y = if ok then 2 else 1) ∧ Hid (Blk wx w4.heap.size 40 #[.int .i64 m, .int .i64 kd, .string field, .int .i64 y]) ∧ Hid (Below w.heap.size w wx) ∧ Hid (Blk wx (w2.heap.size + 1) 32 (CS w2.heap.size)) ∧ Hid (Blk wx w2.heap.size 52 #[.int .i64 kd, .int .i64 0, .int .i64 3, .int .i64 0, .string field, .string want, .int .i64 0, .slice none 0 0]))
    case first =>
      obtain ⟨⟨q0, q1, q2, q3⟩, qf⟩ := hfb5.out.four
      have qf3 := qf 3
      clear qf
      cases ok
      · go_wp2_with fail
        go_meet
        case rel =>
          refine ⟨1, rfl, ?_, ?_, ?_, ?_⟩
          · have h := hfb5.out.set_ 3 (.int .i64 1)
            first | exact h | (simpa using h) | exact Blk.new w4 40 #[.int .i64 m, .int .i64 kd, .string field, .int .i64 1]
          · first | exact hB5.out.setCell (by have := hB4.out.size; exact this) _ | exact hB4.out.alloc hB4.out.size _
          · first | exact hc5.out.far (hc5.out.ne_ hfb5.out (by decide)) _ | exact hc4.out.alloc _
          · first | exact hn5.out.far (hn5.out.ne_ hfb5.out (by decide)) _ | exact hn4.out.alloc _
      · go_wp2_with fail
        go_meet
        case rel => exact ⟨2, rfl, hfb5, hB5, hc5, hn5⟩
    case rest =>
      obtain ⟨y, hy, hfb6, hB6, hc6, hn6⟩ := hcut
      clear hfb5 hbA5 hB5 hc5 hn5 hc4 hn4
      obtain ⟨g, hg⟩ : ∃ g, Hid (w4.heap.size = g) := ⟨_, rfl⟩
      rw [hg.out] at hfb6 ⊢
      have hex := Lib.hid (examine_any (zeroC 5) (zero_ok 5 (by omega) (by omega)) (some ⟨w2.heap.size, 0, none⟩) 1 1 [⟨kd, 0, ruleS field want⟩] rfl (some ⟨b, off, none⟩) nn c docs 5 (by unfold Hid; omega) wc (nds_spoilt hkd'.out (by omega) (by omega) hn6.out) (few_one kd field want) ⟨hnn.out, by omega, hD.out.below hB6.out, he.out.below hB6.out, hsd'.out⟩ hn12')
      go_wp2_with (refine wpList_load_blk rfl 32 (.tmp 10) rfl (w2.heap.size + 1) (CS w2.heap.size) 32 _ rfl hc6.out Tryd.underlying32 rfl (by kernel_rfl) ?_)
      refine hex.out.mono ?_
      rintro e w7 ⟨A7, c7, rfl, hF7, hb7⟩
      have hF7' := Lib.hid hF7
      have hB7 := Lib.hid (hB6.out.trans (hb7.mono hB6.out.size))
      have hfb7 := Lib.hid (hfb6.out.below hb7 hfb6.out.lt)
      clear hF7 hb7 hex hc6 hn6 hfb6
      obtain ⟨l, hl⟩ : ∃ l, Hid (examF (zeroC 5) [⟨kd, 0, ruleS field want⟩] docs 5 = l) := ⟨_, rfl⟩
      rw [hl.out] at hsp hF7' ⊢
      obtain ⟨ln, hln⟩ : ∃ n, Hid (l.length = n) := ⟨_, rfl⟩
      rw [hln.out]
      have hlb : ln ≤ 20000 := by
        have := exam_len (c := zeroC 5) (day := 5) (few_one kd field want) (docs := docs) (by have := hnn.out; omega)
        rw [hl.out, hln.out] at this; exact this
      go_wp2_with fail
      go_loopw [14, 16] (fun t i wr => ∃ (k : Nat) (tb : Bool), k ≤ ln ∧ i = .int .i64 k ∧ t = .bool tb ∧ Hid (anyB (l.take k) ⟨m, kd, field, y⟩ = tb) ∧ Hid (Below w7.heap.size w7 wr)) (fun _ i _ => ln - (intOf i).toNat)
      case atStart => exact ⟨0, false, Nat.zero_le _, rfl, rfl, rfl, Below.refl _ _⟩
      case round =>
        obtain ⟨k, tb, hk, rfl, rfl, htb, hB8⟩ := hrel
        by_cases hlt : k < ln
        · obtain ⟨x, hx⟩ : ∃ x, l[k]? = some x := ⟨_, List.getElem?_eq_getElem (by have := hln.out; omega)⟩
          have hst : Hid (anyB (l.take (k + 1)) ⟨m, kd, field, y⟩ = (tb || eqF x ⟨m, kd, field, y⟩)) := by
            unfold Hid anyB; rw [any_take _ hx, ← htb.out]; rfl
          obtain ⟨xb, xo, rfl, x0, x1, x2, x3⟩ := (hF7'.out.below hB8.out) k x hx
          clear hx
          have hfb8 := hfb7.out.below hB8.out hfb7.out.lt
          obtain ⟨⟨q0, q1, q2, q3⟩, _⟩ := hfb8.four
          clear hfb8
          have i1 : (k : Int) < (ln : Int) := by omega
          have i2 : (0 : Int) ≤ (k : Int) := by omega
          have hq := eq_flt x ⟨m, kd, field, y⟩
          simp only at hq
          have hqg := Tryd.eqg40
          cases tb
          all_goals
            go_wp2_with fail
            go_quiet (fail)
            clear hq hqg
            go_wp2_with fail
            go_roundw
            case rel => exact ⟨k + 1, _, by omega, by go_num, rfl, by rw [hst.out]; first | rfl | simp, below_drewN hB8.out _⟩
            case measure => simp [intOf]; omega
        · have hfin : Hid (anyB l ⟨m, kd, field, y⟩ = tb) := by
            unfold Hid; rw [← htb.out, List.take_of_length_le (by have := hln.out; omega)]
          have hBe := Lib.hid (hB7.out.trans (hB8.out.mono hB7.out.size))
          clear htb
          cases hrr : r with
          | none =>
            have e1 : ok = false := by rw [← hok.out, hrr]; rfl
            subst e1
            have e2 : tb = true := by
              rw [← hfin.out, anyB_iff, hy.out]
              exact hsp.out.1 (by rw [hr.out, hrr])
            subst e2
            clear hrr
            go_wp2_with fail
            go_ret
            exact ⟨rfl, hBe.out⟩
          | some u' =>
            have e1 : ok = true := by rw [← hok.out, hrr]; rfl
            subst e1
            have e3 : u' = u := by rw [← hu.out, hrr]; rfl
            subst e3
            have hr' : Hid (getF fs field = some u') := by unfold Hid; rw [hr.out, hrr]
            clear hrr
            by_cases heq : u'.toList = want.toList
            · have b1 : (u'.toList == want.toList) = true := by simp [heq]
              cases tb
              · clear heq
                go_wp2_with fail
                go_ret
                exact ⟨rfl, hBe.out⟩
              · have hm := anyB_iff.1 hfin.out
                rw [hy.out] at hm
                by_cases hk0 : kd = 0
                · have b2 : (kd == 0) = true := by simp [hk0]
                  clear heq hk0
                  go_wp2_with fail
                  go_ret
                  exact ⟨by simp, hBe.out⟩
                · have b2 : (kd == 0) = false := by simp [hk0]
                  by_cases hk2 : kd = 2
                  · have b3 : (kd == 2) = true := by simp [hk2]
                    clear heq hk0 hk2
                    go_wp2_with fail
                    go_ret
                    exact ⟨by simp, hBe.out⟩
                  · exact absurd hm (hsp.out.2.2 u' hr'.out heq hk0 hk2)
            · have e2 : tb = true := by
                rw [← hfin.out, anyB_iff, hy.out]
                exact hsp.out.2.1 u' hr'.out heq
              subst e2
              have b1 : (u'.toList == want.toList) = false := by simp [heq]
              clear heq
              go_wp2_with fail
              go_ret
              exact ⟨rfl, hBe.out⟩
end Go.Proofs.YtpnkpnocipkedaaDoor

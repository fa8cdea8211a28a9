/- A region that draws its order, held by hand: two calls, and what is loaded for them. -/
import Derived.Test.YtpnkpnocipkedaaDoorEp
import Derived.OrdersHeld
namespace Go.Proofs.YtpnkpnocipkedaaDoor
open Go Go.RowKit Go.BigFrame Go.Maps

section
variable {P : Program} {ops : Array Oper} {Q : Exit → Act → World → Prop} {S : World → Prop} {o : Oper} {a : Act} {w : World}
theorem held_call {i : Nat} {K : Act → World → Prop} {f : FuncId} {args : Array Value} (hi : ops[i]? = some o) (hg : o.guard = none) (hop : (execOp a.eval o).run P w = .ok (.enter f args) w)
    (hc : Calls P f args w fun e w' => ∃ v, e = .returned v ∧ K (a.put o.dst v) w') : wpOp P ops Q i K a w := by
  unfold wpOp
  simp only [hi]
  have hw : Region.wanted o (yielded ops a.tmps) = true := by simp [Region.wanted, hg]
  rw [if_pos hw]
  unfold Oper.wp
  rw [hop, Oper.upon_enter]
  first
    | exact hc.mono (fun e w' ⟨v, he, h⟩ => by subst he; exact h)
    | exact .inl (hc.mono (fun e w' ⟨v, he, h⟩ => by subst he; exact h))
theorem yields_of {v : Value} (hg : o.guard = none) (h : ∀ w, S w → (execOp a.eval o).run P w = .ok (.value v) w) : YieldsIf P ops S o v a :=
  .inl ⟨by simp [Region.wanted, hg], h⟩
theorem yields_blk {g : Nat} {C : Array Value} {ty : TypeId} {x : Operand} {d : TypeDesc} (hg : o.guard = none) (ho : o.op = .load ty x) (hx : a.eval x = .pointer (some ⟨g, 0, none⟩)) (hu : P.underlying ty = some d) (hd : d.isRow = true) (hi : (P.info? ty).map (·.size) = some C.size)
    (hS : ∀ w, S w → Blk w g ty C) : YieldsIf P ops S o (.agg C) a := by
  have h := yieldsIf_load_mid (P := P) (ops := ops) (S := S) (op := o) (a := a) (by simp [Region.wanted, hg]) ty x ho g 0 hx C.toList d (fun w hw j v hv => by
    rw [Nat.zero_add, (hS w hw).cell]; simpa using hv) hu hd (by simpa using hi)
  simpa using h
end

set_option maxRecDepth 100000 in
set_option maxHeartbeats 6400000 in
theorem day_law (w : World) (c : Crd) (hO : Hid c.okC) (nA : Option Addr) (nl nc : Nat) (needs : List Nd) (hnl : Hid (needs.length = nl)) (hml : nl ≤ maxLen) (hN : Hid (NdsAt w nA needs)) (A : Option Addr) (nn cc : Nat) (docs : List Pap) (hnn : Hid (docs.length = nn)) (hmn : nn ≤ maxLen) (hD : Hid (DocsAt w A docs)) (hLD : Hid (LongD docs)) (day later : Int) (he : Hid (Env w)) :
    Calls Tryd.prog 7 #[.agg (c.cells (.slice nA nl nc)), .slice A nn cc, .int .i64 day, .int .i64 later] w fun e w' => e = .returned (.bool true) ∧ Below w.heap.size w w' := by
  have hmn' := Lib.hid hmn
  have hml' := Lib.hid hml
  clear hmn hml
  have hex0 := Lib.hid (fun dy hdy W => examine_any c hO nA nl nc needs hnl A nn cc docs dy hdy W)
  have hCz : Hid ((c.cells (.slice nA nl nc)).size = 18) := rfl
  have hC17 : Hid ((c.cells (.slice nA nl nc))[17]? = some (.slice nA nl nc)) := rfl
  obtain ⟨C, hC⟩ : ∃ C, Hid (c.cells (.slice nA nl nc) = C) := ⟨_, rfl⟩
  rw [hC.out] at hex0 hCz hC17 ⊢
  have hsz : Hid ((Tryd.prog.info? 32).map (·.size) = some C.size) := by unfold Hid; rw [hCz.out]; kernel_rfl
  have hb0 := Lib.hid ((Below.refl _ w).alloc (Nat.le_refl _) (.cells C 32))
  have hbk0 := Lib.hid (Blk.new w 32 C)
  go_enter Tryd.func7, Tryd.ntmps7
  go_wp2_with fail
  refine (awake_any _ (he.out.below hb0.out)).mono ?_
  rintro e w1 ⟨rfl, hb1⟩
  have hB1 : Hid (Below w.heap.size w w1) := hb0.out.trans (hb1.mono (by simp))
  have hbk1 := Lib.hid (hbk0.out.below hb1 hbk0.out.lt)
  clear hb1
  go_wp2_with (refine wpList_load_blk rfl 32 (.tmp 4) rfl w.heap.size C 32 _ rfl hbk1.out Tryd.underlying32 rfl hsz.out ?_)
  refine (few_any C nA nl nc needs A nn cc docs w1 hCz hC17.out hnl hnn hml'.out hmn'.out (hN.out.below hB1.out) (hD.out.below hB1.out) hLD).mono ?_
  rintro e w2 ⟨rfl, hb2⟩
  have hB2 : Hid (Below w.heap.size w w2) := hB1.out.trans (hb2.mono hB1.out.size)
  have hbk2 := Lib.hid (hbk1.out.below hb2 hbk1.out.lt)
  clear hb2
  obtain ⟨fb, hfb⟩ : ∃ fb, Hid (fewB needs docs = fb) := ⟨_, rfl⟩
  rw [hfb.out]
  cases fb with
  | false =>
    go_wp2_with fail
    go_ret
    exact ⟨rfl, hB2.out⟩
  | true =>
    obtain ⟨_, hn12, hsd, _⟩ := few_docs hfb.out
    have hF := Lib.hid (few_parts hfb.out)
    have hsd' := Lib.hid hsd
    have hn12' : nn ≤ 12 := by have := hnn.out; omega
    clear hsd hn12
    by_cases hr : -1073741824 ≤ day ∧ day ≤ 1073741824 ∧ 0 ≤ later ∧ later ≤ 1073741824
    · obtain ⟨hd0, hd1, hl0, hl1⟩ := hr
      have b1 : decide (day < -1073741824) = false := by simp; omega
      have b2 : decide (1073741824 < day) = false := by simp; omega
      have b3 : decide (later < 0) = false := by simp; omega
      have b4 : decide (1073741824 < later) = false := by simp; omega
      go_wp2_with fail
      refine wp_region_held (S := fun w' => Blk w' w.heap.size 32 C) (by kernel_rfl) ?_
      refine wpAnyH_take (i := 0) rfl (by kernel_rfl) (by kernel_rfl) (by kernel_rfl) (fun _ _ _ h => h) (yields_blk rfl rfl rfl Tryd.underlying32 rfl hsz.out (fun _ h => h)) hbk2.out ?_
      go_simp
      refine wpAnyH_take (i := 1) rfl (by kernel_rfl) (by kernel_rfl) (by kernel_rfl) (fun _ _ _ h => h) (yields_of rfl (fun _ _ => rfl)) hbk2.out ?_
      go_simp
      refine wpAnyH_take (i := 2) rfl (by kernel_rfl) (by kernel_rfl) (by kernel_rfl) (fun _ _ _ h => h) (yields_of rfl (fun _ _ => rfl)) hbk2.out ?_
      go_simp
      refine wpAnyH_take (i := 4) rfl (by kernel_rfl) (by kernel_rfl) (by kernel_rfl) (fun _ _ _ h => h) (yields_blk rfl rfl rfl Tryd.underlying32 rfl hsz.out (fun _ h => h)) hbk2.out ?_
      go_simp
      refine wpAnyH_take (i := 5) rfl (by kernel_rfl) (by kernel_rfl) (by kernel_rfl) (fun _ _ _ h => h) (yields_of rfl (fun _ _ => rfl)) hbk2.out ?_
      go_simp
      refine wpAnyH_take (i := 6) rfl (by kernel_rfl) (by kernel_rfl) (by kernel_rfl) (fun _ _ _ h => h) (yields_of rfl (fun _ _ => rfl)) hbk2.out ?_
      go_simp
      refine wpAnyH_take (i := 7) rfl (by kernel_rfl) (by kernel_rfl) (by kernel_rfl) (fun _ _ _ h => h) (yields_of rfl (fun _ _ => rfl)) hbk2.out ?_
      go_simp
      refine wpAnyH_take (i := 8) (v := .int .i64 (day + later)) rfl (by kernel_rfl) (by kernel_rfl) (by kernel_rfl) (fun _ _ _ h => h) (yields_of rfl (fun W _ => ?_)) hbk2.out ?_
      · have hwr : IntKind.i64.wrap (day + later) = day + later := IntWalk.i64_in _ (by omega)
        go_simp
        first | done | (simp only [hwr]) | (rw [hwr]) | (simp [hwr])
      go_simp
      refine wpAnyH_all (rs := [3]) (by kernel_rfl) (by decide) ?_
      intro i hi
      obtain rfl := List.mem_singleton.1 hi
      refine held_call (f := 25) (args := #[.agg C, .slice A nn cc, .int .i64 day]) rfl rfl (by go_simp) ?_
      have hB2d := Lib.hid hB2.out.drew
      refine (hex0.out day (by unfold Hid; omega) _ (hN.out.below hB2d.out) hF ⟨hnn.out, by omega, hD.out.below hB2d.out, he.out.below hB2d.out, hsd'.out⟩ hn12').mono ?_
      rintro e w3 ⟨A3, c3, rfl, hF3, hb3⟩
      refine ⟨_, rfl, ?_⟩
      have hbk3 := Lib.hid (hbk2.out.drew.below hb3 hbk2.out.lt)
      have hB3 := Lib.hid (hB2d.out.trans (hb3.mono hB2.out.size))
      have hF3' := Lib.hid hF3
      clear hb3 hF3
      refine ⟨hbk3.out, ?_⟩
      go_simp
      refine wpAnyH_all (rs := [9]) (by kernel_rfl) (by decide) ?_
      intro i hi
      obtain rfl := List.mem_singleton.1 hi
      refine held_call (f := 25) (args := #[.agg C, .slice A nn cc, .int .i64 (day + later)]) rfl rfl (by go_simp) ?_
      refine (hex0.out (day + later) (by unfold Hid; omega) _ (hN.out.below hB3.out) hF ⟨hnn.out, by omega, hD.out.below hB3.out, he.out.below hB3.out, hsd'.out⟩ hn12').mono ?_
      rintro e w4 ⟨A4, c4, rfl, hF4, hb4⟩
      refine ⟨_, rfl, ?_⟩
      have hbk4 := Lib.hid (hbk3.out.below hb4 hbk3.out.lt)
      have hB4 := Lib.hid (hB3.out.trans (hb4.mono hB3.out.size))
      have hF3'' := Lib.hid (hF3'.out.below hb4)
      have hF4' := Lib.hid hF4
      clear hb4 hF4
      refine ⟨hbk4.out, ?_⟩
      go_simp
      refine wpAnyH_take (i := 10) rfl (by kernel_rfl) (by kernel_rfl) (by kernel_rfl) (fun _ _ _ h => h) (yields_of rfl (fun _ _ => rfl)) hbk4.out ?_
      go_simp
      refine wpAnyH_take (i := 11) rfl (by kernel_rfl) (by kernel_rfl) (by kernel_rfl) (fun _ _ _ h => h) (yields_of rfl (fun _ _ => rfl)) hbk4.out ?_
      go_simp
      refine wpAnyH_done (by kernel_rfl) ?_ _
      obtain ⟨la, hla⟩ : ∃ l, Hid (examF c needs docs day = l) := ⟨_, rfl⟩
      obtain ⟨lb, hlb⟩ : ∃ l, Hid (examF c needs docs (day + later) = l) := ⟨_, rfl⟩
      have hs1 : Hid (∀ x ∈ la, anyR lb x = true) := fun x hx => anyR_iff.2 (by rw [← hlb.out]; exact (exam_day hl0).1 (by rw [hla.out]; exact hx))
      have hs2 : Hid (∀ x ∈ lb, (x.why == 4 || anyB la x) = true) := fun x hx => by
        rcases (exam_day (c := c) (needs := needs) (docs := docs) (day := day) (x := x) hl0).2 (by rw [hlb.out]; exact hx) with h | h
        · simp [h]
        · rw [hla.out] at h; rw [anyB_iff.2 h]; simp
      have hn1' := exam_len (c := c) (day := day) hF.out (docs := docs) (by have := hnn.out; omega)
      have hn2' := exam_len (c := c) (day := day + later) hF.out (docs := docs) (by have := hnn.out; omega)
      rw [hla.out] at hF3'' hn1' ⊢
      rw [hlb.out] at hF4' hn2' ⊢
      obtain ⟨n1, hn1⟩ : ∃ n, Hid (la.length = n) := ⟨_, rfl⟩
      obtain ⟨n2, hn2⟩ : ∃ n, Hid (lb.length = n) := ⟨_, rfl⟩
      rw [hn1.out] at hn1' ⊢
      rw [hn2.out] at hn2' ⊢
      clear b1 b2 b3 b4 hbk3 hbk4 hB3 hF3'
      have hqg := Tryd.eqg40
      go_wp2_with fail
      go_loopw [11, 12, 13] (fun i _ _ wr => ∃ q : Nat, q ≤ n1 ∧ i = .int .i64 q ∧ Hid (Below w4.heap.size w4 wr)) (fun i _ _ _ => n1 - (intOf i).toNat)
      case atStart => exact ⟨0, Nat.zero_le _, rfl, Below.refl _ _⟩
      case round =>
        obtain ⟨q, hq, rfl, hB5⟩ := hrel
        by_cases hlt : q < n1
        · obtain ⟨x, hx⟩ : ∃ x, la[q]? = some x := ⟨_, List.getElem?_eq_getElem (by have := hn1.out; omega)⟩
          have hxs := Lib.hid (hs1.out x (List.mem_of_getElem? hx))
          have hx' := Lib.hid hx
          clear hx
          obtain ⟨wo, rfl⟩ : ∃ wo : World, wo = wr := ⟨_, rfl⟩
          go_wp2_with fail
          go_loopw [12, 13] (fun f k wy => ∃ (r : Nat) (fb : Bool), r ≤ n2 ∧ k = .int .i64 r ∧ f = .bool fb ∧ Hid (anyR (lb.take r) x = fb) ∧ Hid (Below w4.heap.size w4 wy)) (fun _ k _ => n2 - (intOf k).toNat)
          case atStart => exact ⟨0, false, Nat.zero_le _, rfl, rfl, rfl, hB5⟩
          case round =>
            obtain ⟨r, fb, hr, rfl, rfl, hfb5, hB6⟩ := hrel
            by_cases hlt2 : r < n2
            · obtain ⟨y, hy⟩ : ∃ y, lb[r]? = some y := ⟨_, List.getElem?_eq_getElem (by have := hn2.out; omega)⟩
              have hst : Hid (anyR (lb.take (r + 1)) x = (fb || eqF x y)) := by
                unfold Hid anyR; rw [any_take _ hy, ← hfb5.out]; rfl
              obtain ⟨yb, yo, rfl, y0, y1, y2, y3⟩ := (hF4'.out.below hB6.out) r y hy
              obtain ⟨xb, xo, rfl, x0, x1, x2, x3⟩ := (hF3''.out.below hB6.out) q x hx'.out
              clear hy
              have i1 : (r : Int) < (n2 : Int) := by omega
              have i2 : (0 : Int) ≤ (r : Int) := by omega
              have i3 : (q : Int) < (n1 : Int) := by omega
              have i4 : (0 : Int) ≤ (q : Int) := by omega
              have hqe := eq_flt x y
              cases fb
              all_goals
                go_wp2_with fail
                go_quiet (fail)
                clear hqe
                go_wp2_with fail
                go_roundw
                case rel => exact ⟨r + 1, _, by omega, by go_num, rfl, by rw [hst.out]; first | rfl | simp, below_drewN hB6.out _⟩
                case measure => simp [intOf]; omega
            · have hfin : fb = true := by rw [← hfb5.out, List.take_of_length_le (by have := hn2.out; omega)]; exact hxs.out
              subst hfin
              go_wp2_with fail
              go_roundw
              case rel => exact ⟨q + 1, by omega, by go_num, hB6⟩
              case measure => simp [intOf]; omega
        · go_wp2_with fail
          obtain ⟨wo, rfl⟩ : ∃ wo : World, wo = wr := ⟨_, rfl⟩
          go_loopw [14, 15, 16] (fun i _ _ wr => ∃ q : Nat, q ≤ n2 ∧ i = .int .i64 q ∧ Hid (Below w4.heap.size w4 wr)) (fun i _ _ _ => n2 - (intOf i).toNat)
          case atStart => exact ⟨0, Nat.zero_le _, rfl, hB5⟩
          case round =>
            clear hB5 hlt hq
            obtain ⟨q2, hq, rfl, hB5⟩ := hrel
            by_cases hlt : q2 < n2
            · obtain ⟨y, hy⟩ : ∃ x, lb[q2]? = some x := ⟨_, List.getElem?_eq_getElem (by have := hn2.out; omega)⟩
              have hys := Lib.hid (hs2.out y (List.mem_of_getElem? hy))
              have hy' := Lib.hid hy
              clear hy
              obtain ⟨wz, rfl⟩ : ∃ wz : World, wz = wr := ⟨_, rfl⟩
              obtain ⟨yb, yo, rfl, y0, y1, y2, y3⟩ := (hF4'.out.below hB5.out) q2 y hy'.out
              have i3 : (q2 : Int) < (n2 : Int) := by omega
              have i4 : (0 : Int) ≤ (q2 : Int) := by omega
              obtain ⟨yw, hyw⟩ : ∃ yw, Hid ((y.why == 4) = yw) := ⟨_, rfl⟩
              go_wp2_with fail
              clear y0 y1 y2 y3
              rw [hyw.out]
              go_loopw [15, 16] (fun f k wy => ∃ (r : Nat) (fb : Bool), r ≤ n1 ∧ k = .int .i64 r ∧ f = .bool fb ∧ Hid ((yw || anyB (la.take r) y) = fb) ∧ Hid (Below w4.heap.size w4 wy)) (fun _ k _ => n1 - (intOf k).toNat)
              case atStart => exact ⟨0, yw, Nat.zero_le _, rfl, rfl, by unfold Hid anyB; simp, hB5⟩
              case round =>
                obtain ⟨r, fb, hr, rfl, rfl, hfb5, hB6⟩ := hrel
                by_cases hlt2 : r < n1
                · obtain ⟨x, hx⟩ : ∃ y, la[r]? = some y := ⟨_, List.getElem?_eq_getElem (by have := hn1.out; omega)⟩
                  have hst : Hid ((yw || anyB (la.take (r + 1)) y) = (fb || eqF x y)) := by
                    unfold Hid anyB; rw [any_take _ hx, ← hfb5.out, Bool.or_assoc]; rfl
                  obtain ⟨yb', yo', eyb, y0, y1, y2, y3⟩ := (hF4'.out.below hB6.out) q2 y hy'.out
                  obtain ⟨rfl, rfl⟩ : yb = yb' ∧ yo = yo' := by simpa using eyb
                  obtain ⟨xb, xo, rfl, x0, x1, x2, x3⟩ := (hF3''.out.below hB6.out) r x hx
                  clear hx eyb
                  have i1 : (r : Int) < (n1 : Int) := by omega
                  have i2 : (0 : Int) ≤ (r : Int) := by omega
                  have hqe := eq_flt x y
                  cases fb
                  all_goals
                    go_wp2_with fail
                    go_quiet (fail)
                    clear hqe
                    go_wp2_with fail
                    go_roundw
                    case rel => exact ⟨r + 1, _, by omega, by go_num, rfl, by rw [hst.out]; first | rfl | simp, below_drewN hB6.out _⟩
                    case measure => simp [intOf]; omega
                · have hfin : fb = true := by rw [← hfb5.out, List.take_of_length_le (by have := hn1.out; omega), ← hyw.out]; exact hys.out
                  subst hfin
                  go_wp2_with fail
                  go_roundw
                  case rel => exact ⟨q2 + 1, by omega, by go_num, hB6⟩
                  case measure => simp [intOf]; omega
            · have hBe := Lib.hid (hB4.out.trans (hB5.out.mono hB4.out.size))
              go_wp2_with fail
              go_ret
              exact ⟨rfl, hBe.out⟩
    · go_wp2_with fail
      all_goals try (exfalso; omega)
      all_goals (go_ret; exact ⟨rfl, hB2.out⟩)
end Go.Proofs.YtpnkpnocipkedaaDoor

/- A setup out of bytes: script.Setup. -/
import Derived.Test.YtheiogafjinihaaDoorGk
import Derived.Test.YtheiogafjinihaaDoorGx
namespace Go.Proofs.YtheiogafjinihaaDoor
open Go Go.RowKit Go.BigFrame Go.Maps

theorem partiesA_kind : ∀ s : Fin 3, partiesA[s.val * 3 + 2]? = some (.int .i64 0) := by
  intro s
  match s with
  | 0 => rfl
  | 1 => rfl
  | 2 => rfl
theorem index_cur (c : Nat) (hc : c < 2) (W : World) : (Instr.index 65 (.agg #[.string ⟨#[69, 85, 82]⟩, .string ⟨#[85, 83, 68]⟩]) (.int .i64 (c : Int))).run Tryd.prog W = .ok (.string (if c = 0 then ⟨#[69, 85, 82]⟩ else ⟨#[85, 83, 68]⟩)) W := by
  have h : c = 0 ∨ c = 1 := by omega
  rcases h with rfl | rfl <;> simp [Instr.index, run_underlying Tryd.underlying65, asIntOf, Tryd.sizeOf9, part, Tryd.isAgg9, go_sem]
theorem byteAt_min (b : List UInt8) (k : Nat) : byteAt b (min k b.length) = byteAt b k := by
  rcases Nat.le_total k b.length with h | h
  · rw [Nat.min_eq_left h]
  · rw [Nat.min_eq_right h, byteAt_end (Nat.le_refl _), byteAt_end h]
theorem RdAt.belowB {w w' : World} {B ca cb : Nat} {A : Option Addr} {c : Nat} {b : List UInt8} {k : Nat} (h : RdAt w ca cb A c b k) (hb : Below B w w') (h1 : ca < B) (h2 : cb < B) (h3 : ∀ (g off i : Nat) (x : UInt8), b[i]? = some x → A = some ⟨g, off, none⟩ → g < B) : RdAt w' ca cb A c b k :=
  ⟨h.at_.below hb h1, h.box.below hb h2, fun i x hx => by
    obtain ⟨g, off, e, hg, hc⟩ := h.bytes i x hx
    exact ⟨g, off, e, hg, (hb.cell (h3 g off i x hx e)).trans hc⟩, h.pos, h.len, h.ne⟩
/-- Nine numbers, the first p of them laid. -/
def nineA (G : Nat → Nat) (p : Nat) : Array Value := ((List.range 9).map fun i => if i < p then Value.int .i64 (G i : Int) else .int .i64 0).toArray
theorem nineA_set (G : Nat → Nat) (p : Nat) (hp : p < 9) : (nineA G p).setIfInBounds p (.int .i64 (G p : Int)) = nineA G (p + 1) := by
  have h : p = 0 ∨ p = 1 ∨ p = 2 ∨ p = 3 ∨ p = 4 ∨ p = 5 ∨ p = 6 ∨ p = 7 ∨ p = 8 := by omega
  rcases h with rfl | rfl | rfl | rfl | rfl | rfl | rfl | rfl | rfl <;> rfl
def DealV (d : SDeal) : Ty := fun v W => ∃ bx, v = .agg (d.cells bx) ∧ BoxRow W 0 bx d.boxes
def NewD (d : SDeal) : Ty := fun v W => ∃ g bx, v = .slice (some ⟨g, 0, none⟩) 1 1 ∧ Blk W g 54 (d.cells bx) ∧ BoxRow W 0 bx d.boxes
theorem mono_DealV {d : SDeal} : MonoT (DealV d) := fun _ _ _ ⟨bx, e, h⟩ hb => ⟨bx, e, h.below hb⟩
theorem mono_NewD {d : SDeal} : MonoT (NewD d) := fun _ _ _ ⟨g, bx, e, h1, h⟩ hb => ⟨g, bx, e, h1.below hb h1.lt, h.below hb⟩
theorem deal_one (d : SDeal) {bx : Value} (h : bx.oneCell' = true) : ∀ u ∈ (d.cells bx).toList, u.oneCell' = true := by
  intro u hu
  simp at hu
  rcases hu with rfl | rfl | rfl | rfl | rfl | rfl | rfl | rfl | rfl | rfl | rfl | rfl | rfl | rfl | rfl | rfl | rfl <;> first | rfl | exact h
/-- A setup in memory. -/
def SetupAt (w : World) (M : SSetup) (cs : Array Value) : Prop := ∃ pb D F R m, cs = #[.slice (some ⟨pb, 0, none⟩) 9 9, D, F, R, .slice none 0 0] ∧ Blk w pb 56 partiesA ∧ DealRow w 0 D M.deals ∧ w.ownsRow 0 58 3 F 6 (fundsV M.amount 6) ∧ RestAt w m M.rest R
def SetupR (M : SSetup) (w : World) (e : Ending) (w' : World) : Prop := ∃ cs, e = .returned (.agg cs) ∧ SetupAt w' M cs ∧ Below w.heap.size w w'

def tySt (w3 : World) (w4 : World) (q : Nat) (dc : Nat) (dA : Option Addr) (G : Nat → Nat) (d : SDeal) : List Ty := [Is (.pointer (some ⟨w4.heap.size, 1, none⟩)), Is (.slice dA q dc), Is (.int .i64 (q : Int)), Is (.agg #[.int .i64 (G 0 : Int), .int .i64 (G 1 : Int), .int .i64 (G 2 : Int), .int .i64 (G 3 : Int), .int .i64 (G 4 : Int), .int .i64 (G 5 : Int), .int .i64 (G 6 : Int), .int .i64 (G 7 : Int), .int .i64 (G 8 : Int)]), Is (.pointer (some ⟨w4.heap.size, 0, none⟩)), Is (.slice (some ⟨w3.heap.size, 0, none⟩) 9 9), (DealV d), (NewD d)]
theorem tySt_mono (w3 : World) (w4 : World) (q : Nat) (dc : Nat) (dA : Option Addr) (G : Nat → Nat) (d : SDeal) : MonoL (tySt w3 w4 q dc dA G d) := ⟨mono_is _, mono_is _, mono_is _, mono_is _, mono_is _, mono_is _, mono_DealV, mono_NewD, trivial⟩

set_option maxRecDepth 100000 in
set_option maxHeartbeats 3200000 in
theorem setup_any (A : Option Addr) (c : Nat) (b : List UInt8) (w : World) (hl : b.length ≤ 1000) (hb : Hid (∀ i x, b[i]? = some x → ∃ g off, A = some ⟨g, off, none⟩ ∧ w.cell? ⟨g, off + i, none⟩ = some (.int .u8 (x.toNat : Int)))) :
    Calls Tryd.prog 9 #[.slice A b.length c] w (SetupR (setupM numB2 mkB (byteAt b)) w) := by
  obtain ⟨w1, hw1⟩ : ∃ W, Hid (w.alloc (.cells #[.slice none 0 0, .slice none 0 0, .slice none 0 0, .slice none 0 0, .slice none 0 0] 32) = W) := ⟨_, rfl⟩
  have hb1 : Hid (Below w.heap.size w w1) := by rw [← hw1.out]; exact (Below.refl _ w).alloc (Nat.le_refl _) _
  have hr1 : Hid (Blk w1 w.heap.size 32 #[.slice none 0 0, .slice none 0 0, .slice none 0 0, .slice none 0 0, .slice none 0 0]) := by rw [← hw1.out]; exact Lib.hid (Blk.new _ _ _)
  have hby : Hid (∀ i x, b[i]? = some x → ∃ g off, A = some ⟨g, off, none⟩ ∧ w1.cell? ⟨g, off + i, none⟩ = some (.int .u8 (x.toNat : Int))) := by
    intro i x hx
    obtain ⟨g, off, e, hc⟩ := hb.out i x hx
    exact ⟨g, off, e, (hb1.out.cell (World.block_lt_of_cell? w _ hc)).trans hc⟩
  have hrd := Lib.hid (reader_any A c b w1 hl hby)
  obtain ⟨F, hF⟩ : ∃ F : Nat → Nat, byteAt b = F := ⟨_, rfl⟩
  have hF256 : Hid (∀ i, F i < 256) := by rw [← hF]; exact byteAt_256 b
  have hF' := Lib.hid hF
  rw [hF]
  clear hF hb hby
  obtain ⟨nb, hnb⟩ : ∃ nb, Hid (b.length = nb) := ⟨_, Lib.hid rfl⟩
  have hrd' := hrd.out
  rw [hnb.out] at hrd' ⊢
  have hrd2 := Lib.hid hrd'
  clear hrd hrd'
  go_enter Tryd.func9, Tryd.ntmps9
  go_wp2_with (rw [hw1.out])
  refine hrd2.out.mono ?_
  rintro e w2 ⟨ca, cb, rfl, hR2, hb2, hca⟩
  have hRd2 := Lib.hid hR2
  have hB2 := Lib.hid hb2
  have hca' := Lib.hid hca
  clear hR2 hb2 hca hrd2
  have hnx := Lib.hid (fun k W (h : Hid (RdAt W ca cb A c b k)) => next_any ca cb A c b k W h)
  have hnx2 := hnx.out
  rw [hF'.out] at hnx2
  have hnx3 := Lib.hid hnx2
  clear hnx hnx2
  go_wp2_with fail
  refine (hnx3.out 0 w2 hRd2).mono ?_
  rintro e w3 ⟨rfl, hR3, hu3⟩
  have hRd3 := Lib.hid hR3
  have hU3 := Lib.hid hu3
  clear hR3 hu3
  obtain ⟨f0, hf0⟩ : ∃ x, Hid (F 0 = x) := ⟨_, Lib.hid rfl⟩
  have hf256 : f0 < 256 := by rw [← hf0.out]; exact hF256.out 0
  rw [hf0.out]
  have hB3 : Hid (Below w1.heap.size w1 w3) := hU3.out.to_below hB2.out hca'.out hB2.out.size
  go_wp2_with fail
  refine (parties_any w3).mono ?_
  rintro e w4 ⟨rfl, hw4⟩
  have hb4 : Hid (Below w3.heap.size w3 w4) := by rw [← hw4]; exact (Below.refl _ w3).alloc (Nat.le_refl _) _
  have hP4 : Hid (Blk w4 w3.heap.size 56 partiesA) := by rw [← hw4]; exact Lib.hid (Blk.new _ _ _)
  clear hw4
  have hRd4 := Lib.hid (hRd3.out.below hb4.out)
  have hB4 : Hid (Below w1.heap.size w1 w4) := hB3.out.trans (hb4.out.mono hB3.out.size)
  obtain ⟨w5, hw5⟩ : ∃ W, Hid (w4.alloc (.cells #[.slice (some ⟨w3.heap.size, 0, none⟩) 9 9, .slice none 0 0, .slice none 0 0, .slice none 0 0, .slice none 0 0] 32) = W) := ⟨_, rfl⟩
  have hb5 : Hid (Below w4.heap.size w4 w5) := by rw [← hw5.out]; exact (Below.refl _ w4).alloc (Nat.le_refl _) _
  have hS5 : Hid (Blk w5 w4.heap.size 32 #[.slice (some ⟨w3.heap.size, 0, none⟩) 9 9, .slice none 0 0, .slice none 0 0, .slice none 0 0, .slice none 0 0]) := by rw [← hw5.out]; exact Lib.hid (Blk.new _ _ _)
  have hRd5 := Lib.hid (hRd4.out.below hb5.out)
  have hP5 := Lib.hid (hP4.out.below hb5.out hP4.out.lt)
  have hB5 : Hid (Below w1.heap.size w1 w5) := hB4.out.trans (hb5.out.mono hB4.out.size)
  obtain ⟨q4, hq4⟩ : ∃ x, Hid (f0 / 4 = x) := ⟨_, Lib.hid rfl⟩
  obtain ⟨q8, hq8⟩ : ∃ x, Hid (f0 / 8 = x) := ⟨_, Lib.hid rfl⟩
  obtain ⟨q3, hq3⟩ : ∃ x, Hid (f0 % 3 = x) := ⟨_, Lib.hid rfl⟩
  have hq4b : q4 < 64 := by have := hq4.out; omega
  have hq8b : q8 < 32 := by have := hq8.out; omega
  have hq3b : q3 < 3 := by have := hq3.out; omega
  have m4 : (f0 : Int).tdiv 4 = (q4 : Int) := by rw [Int.tdiv_eq_ediv_of_nonneg (by omega)]; have := hq4.out; omega
  have m4' : (f0 : Int) / 4 = (q4 : Int) := by have := hq4.out; omega
  have m8 : (f0 : Int).tdiv 8 = (q8 : Int) := by rw [Int.tdiv_eq_ediv_of_nonneg (by omega)]; have := hq8.out; omega
  have m8' : (f0 : Int) / 8 = (q8 : Int) := by have := hq8.out; omega
  have m3 : (f0 : Int).tmod 3 = (q3 : Int) := by rw [Int.tmod_eq_emod_of_nonneg (by omega)]; have := hq3.out; omega
  have m3' : (f0 : Int) % 3 = (q3 : Int) := by have := hq3.out; omega
  obtain ⟨o1, ho1⟩ : ∃ o : Bool, Hid (decide (q4 % 2 = 1) = o) := ⟨_, Lib.hid rfl⟩
  have hod := Lib.hid (fun W => odd_any q4 W (by omega))
  have hod' := hod.out
  rw [ho1.out] at hod'
  have hod2 := Lib.hid hod'
  clear hod hod'
  obtain ⟨am, ham⟩ : ∃ z : Int, Hid ((if f0 / 4 % 2 = 1 then 5000 else 1000000) = z) := ⟨_, Lib.hid rfl⟩
  obtain ⟨i0, hi, hz0, hz1, hz2⟩ := info_parts Tryd.info58
  go_upto_if 26 with (first | rw [hw5.out] | (go_at_call 18; refine (hod2.out _).mono ?_; rintro e w' ⟨rfl, rfl⟩))
  go_cut [7] (fun a wx => a = .int .i64 am ∧ w5 = wx)
  case first =>
    cases o1 with
    | true =>
      have hvy : Hid ((5000 : Int) = am) := by rw [← ham.out, hq4.out, if_pos (of_decide_eq_true ho1.out)]; exact Lib.hid rfl
      go_wp2_with fail
      go_meet
      case rel => exact ⟨by rw [hvy.out], rfl⟩
    | false =>
      have hvy : Hid ((1000000 : Int) = am) := by rw [← ham.out, hq4.out, if_neg (of_decide_eq_false ho1.out)]; exact Lib.hid rfl
      go_wp2_with fail
      go_meet
      case rel => exact ⟨by rw [hvy.out], rfl⟩
  case rest =>
  obtain ⟨rfl, rfl⟩ := hcut
  have s0 : w5.cell? ⟨w4.heap.size, 0, none⟩ = some (.slice (some ⟨w3.heap.size, 0, none⟩) 9 9) := hS5.out.cell 0
  go_wp2_with fail
  have hlt54 : Hid (w4.heap.size < w5.heap.size ∧ w3.heap.size < w4.heap.size ∧ w1.heap.size ≤ w3.heap.size ∧ w.heap.size < w1.heap.size) := ⟨hS5.out.lt, hP4.out.lt, hB3.out.size, hr1.out.lt⟩
  clear s0
  go_loopw [31] (fun i wr => ∃ (q : Nat) (fv : Value), q ≤ 3 ∧ i = .int .i64 (q : Int) ∧ Hid (Blk wr w4.heap.size 32 (#[.slice (some ⟨w3.heap.size, 0, none⟩) 9 9, .slice none 0 0, fv, .slice none 0 0, .slice none 0 0])) ∧ Hid (wr.ownsRow w5.heap.size 58 3 fv (2 * q) (fundsV am (2 * q))) ∧ Hid (Below w4.heap.size w5 wr)) (fun i _ => 3 - (intOf i).toNat)
  case atStart => exact ⟨0, _, by omega, rfl, hS5.out, own_none _ _ _ _, Below.refl _ _⟩
  case round =>
    obtain ⟨q, fv, hq, rfl, hS, hrow, hB⟩ := hrel
    obtain ⟨wo, hwo⟩ : ∃ x, x = wr := ⟨_, rfl⟩
    subst hwo
    by_cases hlt : q < 3
    · have hPo := hP5.out.below hB.out hP4.out.lt
      have n0 : wo.cell? ⟨w3.heap.size, q * 3, none⟩ = some (.string (nmL.getD q ⟨#[]⟩)) := (hPo.cell _).trans (partiesA_at ⟨q, hlt⟩).1
      have n1 : wo.cell? ⟨w3.heap.size, q * 3 + 1, none⟩ = some (.string (bkL.getD q ⟨#[]⟩)) := (hPo.cell _).trans (partiesA_at ⟨q, hlt⟩).2
      have n2 : wo.cell? ⟨w3.heap.size, q * 3 + 2, none⟩ = some (.int .i64 0) := (hPo.cell _).trans (partiesA_kind ⟨q, hlt⟩)
      obtain ⟨nm, hnm⟩ : ∃ z, Hid (nmL.getD q ⟨#[]⟩ = z) := ⟨_, Lib.hid rfl⟩
      obtain ⟨bk, hbk⟩ : ∃ z, Hid (bkL.getD q ⟨#[]⟩ = z) := ⟨_, Lib.hid rfl⟩
      rw [hnm.out] at n0
      rw [hbk.out] at n1
      have t1 : decide ((q : Int) < 3) = true := by simp; omega
      have i1 : (q : Int) < 3 := by omega
      obtain ⟨wp, hwp⟩ : ∃ W, Hid (wo.alloc (.cells #[.string nm, .string bk, .int .i64 0] 56) = W) := ⟨_, rfl⟩
      have hbp : Hid (Below wo.heap.size wo wp) := by rw [← hwp.out]; exact (Below.refl _ wo).alloc (Nat.le_refl _) _
      have hQp : Hid (Blk wp wo.heap.size 56 #[.string nm, .string bk, .int .i64 0]) := by rw [← hwp.out]; exact Lib.hid (Blk.new _ _ _)
      have hSp := Lib.hid (hS.out.below hbp.out hS.out.lt)
      have hrp := Lib.hid (own_below hrow.out hbp.out)
      have hBp : Hid (Below w4.heap.size w5 wp) := hB.out.trans (hbp.out.mono (by have := hB.out.size; have := hlt54.out; omega))
      have hsz0 : Hid (w5.heap.size ≤ wo.heap.size) := hB.out.size
      clear hPo
      go_wp2_with (rw [hwp.out])
      go_loopw [36] (fun i wr => ∃ (p : Nat) (fv : Value), p ≤ 2 ∧ i = .int .i64 (p : Int) ∧ Hid (Blk wr w4.heap.size 32 (#[.slice (some ⟨w3.heap.size, 0, none⟩) 9 9, .slice none 0 0, fv, .slice none 0 0, .slice none 0 0])) ∧ Hid (wr.ownsRow w5.heap.size 58 3 fv (2 * q + p) (fundsV am (2 * q + p))) ∧ Hid (Below w4.heap.size w5 wr) ∧ Hid (Blk wr wo.heap.size 56 #[.string nm, .string bk, .int .i64 0])) (fun i _ => 2 - (intOf i).toNat)
      case atStart => exact ⟨0, fv, by omega, rfl, hSp.out, hrp.out, hBp.out, hQp.out⟩
      case round =>
        obtain ⟨p, fw, hp, rfl, hS2, hrow2, hB2x, hQ2⟩ := hrel
        by_cases hlt2 : p < 2
        · obtain ⟨fA, fc, rfl⟩ := own_form2 hrow2.out
          have hcur := index_cur p hlt2
          obtain ⟨cu, hcu⟩ : ∃ z : ByteArray, (if p = 0 then ⟨#[69, 85, 82]⟩ else ⟨#[85, 83, 68]⟩) = z := ⟨_, rfl⟩
          rw [hcu] at hcur
          have hent : Hid (fundsV am (2 * q + p) ++ [.string nm, .string cu, .int .i64 am] = fundsV am (2 * q + p + 1)) := by
            unfold Hid
            rw [fundsV_succ]
            have e1 : (2 * q + p) / 2 = q := by omega
            have e2 : (2 * q + p) % 2 = p := by omega
            unfold entL
            rw [e1, e2, hnm.out, hcu]
          have hcu' := Lib.hid hcu
          clear hcu
          obtain ⟨cn, hcn⟩ : ∃ cn, Hid (2 * q + p = cn) := ⟨_, Lib.hid rfl⟩
          rw [hcn.out] at hrow2 hent hS2
          have hcn6 : cn < 6 := by have := hcn.out; omega
          have t2 : decide ((p : Int) < 2) = true := by simp; omega
          have s2 : wr.cell? ⟨w4.heap.size, 2, none⟩ = some (.slice fA cn fc) := hS2.out.cell 2
          have x0 : wr.cell? ⟨wo.heap.size, 0, none⟩ = some (.string nm) := hQ2.out.cell 0
          have hone : Hid (∀ u ∈ (#[.string nm, .string cu, .int .i64 am] : Array Value).toList, u.oneCell' = true) := by
            intro u hu
            simp at hu
            rcases hu with rfl | rfl | rfl <;> rfl
          have hq1 : Hid (cn + 1 ≤ maxLen) := by unfold Hid maxLen; omega
          have hq2 : Hid ((cn + 1) * 40 ≤ 140737488355328) := by unfold Hid; omega
          have hsz : Hid (w5.heap.size ≤ wr.heap.size) := hB2x.out.size
          have G3w : w4.heap.size < w5.heap.size := hlt54.out.1
          go_wp2_with (first | (at_builtin; go_must (refine wpList_app3 w5.heap.size rfl (.tmp 40) (.tmp 46) 27 rfl 58 i0 _ 3 40 Tryd.underlying27 hi hz0 hz1 hz2 rfl (by decide) (.slice fA cn fc) cn (fundsV am cn) rfl wr.heap.size 1 #[.string nm, .string cu, .int .i64 am] rfl (hrow2.out.alloc _) (Blk.new wr 58 _) rfl hone.out hq1.out hq2.out (Nat.le_trans hsz.out (by simp)) ?_); intro v9 w9 ho9 hb9 hg9; have hO9 := Lib.hid ho9; have hb9' := Lib.hid hb9; have hg9' := Lib.hid hg9; have hS9 := Lib.hid ((hS2.out.alloc (.cells #[.string nm, .string cu, .int .i64 am] 58)).below hb9 G3w); have hQ9 := Lib.hid ((hQ2.out.alloc (.cells #[.string nm, .string cu, .int .i64 am] 58)).grown hg9 (fun e => own_blk_ne (hrow2.out.alloc (.cells #[.string nm, .string cu, .int .i64 am] 58)) (hQ2.out.alloc (.cells #[.string nm, .string cu, .int .i64 am] 58)) (by decide) e.symm)); clear ho9 hb9 hg9) | (refine wpList_puto rfl 27 _ _ rfl w4.heap.size 2 (#[.slice (some ⟨w3.heap.size, 0, none⟩) 9 9, .slice none 0 0, (.slice fA cn fc), .slice none 0 0, .slice none 0 0]) (#[.slice (some ⟨w3.heap.size, 0, none⟩) 9 9, .slice none 0 0, v9, .slice none 0 0, .slice none 0 0]) 32 v9 rfl rfl hS9.out (by simp) rfl (by kernel_rfl) (own_one hO9.out) ?_; intro w10 hd10 hb10 hu10; have hS10 := Lib.hid hd10; have hu10' := Lib.hid hu10; clear hd10 hb10 hu10))
          have hk10 : Keeps (fun _ t => t = 32) w9 w10 := Keeps.but hu10'.out (fun t cs h => blk_type hS9.out h)
          have hrow10 : Hid (w10.ownsRow w5.heap.size 58 3 v9 (2 * q + (p + 1)) (fundsV am (2 * q + (p + 1)))) := by
            have h1 := own_keeps hO9.out hk10 (fun _ => by decide)
            have e1 : 2 * q + (p + 1) = cn + 1 := by have := hcn.out; omega
            rw [e1]
            have e3 : fundsV am (cn + 1) = fundsV am cn ++ [.string nm, .string cu, .int .i64 am] := hent.out.symm
            rw [e3]
            exact h1
          have hB10 : Hid (Below w4.heap.size w5 w10) := hu10'.out.to_below ((hB2x.out.alloc (by have := hB2x.out.size; omega) _).trans (hb9'.out.mono (Nat.le_of_lt G3w))) (Nat.le_refl _) (by have := hb9'.out.size; have := hsz.out; simp at *; omega)
          go_roundw
          case rel => exact ⟨p + 1, v9, by omega, by go_num, hS10.out, hrow10.out, hB10.out, hk10 _ _ _ hQ9.out (fun (h : 56 = 32) => absurd h (by decide))⟩
          case measure => simp [intOf]; omega
        · have hp2 : p = 2 := by omega
          subst hp2
          have t2 : decide (((2 : Nat) : Int) < 2) = false := by decide
          go_wp2_with fail
          go_roundw
          case rel => exact ⟨q + 1, fw, by omega, by go_num, hS2.out, by have := hrow2.out; rw [show 2 * (q + 1) = 2 * q + 2 by omega]; exact this, hB2x.out⟩
          case measure => simp [intOf]; omega
    · have hq3' : q = 3 := by omega
      subst hq3'
      have t1 : decide (((3 : Nat) : Int) < 3) = false := by decide
      obtain ⟨o2, ho2⟩ : ∃ o : Bool, Hid (decide (q8 % 2 = 1) = o) := ⟨_, Lib.hid rfl⟩
      have hod8 := Lib.hid (fun W => odd_any q8 W (by omega))
      have hod8' := hod8.out
      rw [ho2.out] at hod8'
      have hod9 := Lib.hid hod8'
      clear hod8 hod8'
      have hwo6 : Hid (w5.heap.size ≤ wo.heap.size) := hB.out.size
      go_upto_if 53 with (go_at_call 18; refine (hod9.out _).mono ?_; rintro e w' ⟨rfl, rfl⟩)
      go_cut [] (fun wx => ∃ rv, Hid (Blk wx w4.heap.size 32 (#[.slice (some ⟨w3.heap.size, 0, none⟩) 9 9, .slice none 0 0, fv, rv, .slice none 0 0])) ∧ Hid (wx.ownsRow w5.heap.size 58 3 fv 6 (fundsV am 6)) ∧ Hid (Below w4.heap.size w5 wx) ∧ Hid (RestAt wx w5.heap.size o2 rv))
      case first =>
        cases o2 with
        | true =>
          obtain ⟨w6, hw6⟩ : ∃ W, Hid (wo.alloc (.cells #[.int .i64 5, .int .i64 6] 3) = W) := ⟨_, rfl⟩
          have hb6 : Hid (Below wo.heap.size wo w6) := by rw [← hw6.out]; exact (Below.refl _ wo).alloc (Nat.le_refl _) _
          have hg6 : Hid (Blk w6 wo.heap.size 3 #[.int .i64 5, .int .i64 6]) := by rw [← hw6.out]; exact Lib.hid (Blk.new _ _ _)
          have hS6 := Lib.hid (hS.out.below hb6.out hS.out.lt)
          have hrow6 := Lib.hid (own_below hrow.out hb6.out)
          have hB6 : Hid (Below w4.heap.size w5 w6) := hB.out.trans (hb6.out.mono (by have := hwo6.out; have := hlt54.out; omega))
          go_wp2_with (first | rw [hw6.out] | (refine wpList_puto rfl 28 _ _ rfl w4.heap.size 3 (#[.slice (some ⟨w3.heap.size, 0, none⟩) 9 9, .slice none 0 0, fv, .slice none 0 0, .slice none 0 0]) (#[.slice (some ⟨w3.heap.size, 0, none⟩) 9 9, .slice none 0 0, fv, (.slice (some ⟨wo.heap.size, 0, none⟩) 2 2), .slice none 0 0]) 32 _ rfl rfl hS6.out (by simp) rfl (by kernel_rfl) rfl ?_; intro w7 hd7 hb7 hu7; have hS7 := Lib.hid hd7; have hu7' := Lib.hid hu7; clear hd7 hb7 hu7))
          have hk7 : Keeps (fun _ t => t = 32) w6 w7 := Keeps.but hu7'.out (fun t cs h => blk_type hS6.out h)
          go_meet
          case rel => exact ⟨_, hS7.out, own_keeps hrow6.out hk7 (fun _ => by decide), hu7'.out.to_below hB6.out (Nat.le_refl _) (by have := hB6.out.size; have := hlt54.out; omega), ⟨fun _ => ⟨_, hwo6.out, rfl, hk7 _ _ _ hg6.out (fun (h : 3 = 32) => absurd h (by decide))⟩, (fun h => by cases h)⟩⟩
        | false =>
          go_wp2_with fail
          go_meet
          case rel => exact ⟨_, hS.out, hrow.out, hB.out, ⟨(fun h => by cases h), fun _ => rfl⟩⟩
      case rest =>
      obtain ⟨rv, hS6, hrow6, hB6, hR6⟩ := hcut
      obtain ⟨w6, hwx⟩ : ∃ y, wc = y := ⟨_, rfl⟩
      rw [hwx] at hS6 hrow6 hB6 hR6 ⊢
      clear hwx hS hrow hB
      go_wp2_with fail
      have hlow : Hid (ca < w4.heap.size ∧ cb < w4.heap.size ∧ ∀ (g off i : Nat) (x : UInt8), b[i]? = some x → A = some ⟨g, off, none⟩ → g < w4.heap.size) := by
        refine ⟨hRd4.out.at_.lt, hRd4.out.box.lt, fun g off i x hx e => ?_⟩
        obtain ⟨g', off', e', _, hc⟩ := hRd4.out.bytes i x hx
        rw [e'] at e
        simp at e
        rw [← e.1]
        exact World.block_lt_of_cell? w4 _ hc
      have hRd6 : Hid (RdAt w6 ca cb A c b (min 1 nb)) := by
        have := hRd5.out.belowB hB6.out hlow.out.1 hlow.out.2.1 hlow.out.2.2
        rw [hnb.out] at this
        exact this
      have hP6 := Lib.hid (hP5.out.below hB6.out hP4.out.lt)
      have hB16 : Hid (Below w1.heap.size w1 w6) := hB5.out.trans (hB6.out.mono (by have := hB4.out.size; omega))
      have hw46 : Hid (w4.heap.size < w6.heap.size ∧ w5.heap.size ≤ w6.heap.size) := ⟨hS6.out.lt, hB6.out.size⟩
      obtain ⟨ds, hds⟩ : ∃ ds, Hid (((List.range (1 + q3)).map fun k => dealM numB2 mkB k fun i => F (1 + 9 * k + i)) = ds) := ⟨_, Lib.hid rfl⟩
      have hdsl : Hid (ds.length = 1 + q3) := by rw [← hds.out]; exact Lib.hid (by simp)
      have hdsg : Hid (∀ j, j < 1 + q3 → ds[j]? = some (dealM numB2 mkB j fun i => F (1 + 9 * j + i))) := by
        intro j hj
        rw [← hds.out]
        simp [hj]
      obtain ⟨j0, hj, hy0, hy1, hy2⟩ := info_parts Tryd.info54
      go_loopw [60] (fun i wr => ∃ (q : Nat) (dv : Value), q ≤ 1 + q3 ∧ i = .int .i64 (q : Int) ∧ Hid (Blk wr w4.heap.size 32 (#[.slice (some ⟨w3.heap.size, 0, none⟩) 9 9, dv, fv, rv, .slice none 0 0])) ∧ Hid (DealRow wr w6.heap.size dv (ds.take q)) ∧ Hid (wr.ownsRow w5.heap.size 58 3 fv 6 (fundsV am 6)) ∧ Hid (RestAt wr w5.heap.size o2 rv) ∧ Hid (RdAt wr ca cb A c b (min (1 + 9 * q) nb)) ∧ Hid (Blk wr w3.heap.size 56 partiesA) ∧ Hid (Below w1.heap.size w1 wr) ∧ Hid (w6.heap.size ≤ wr.heap.size)) (fun i _ => 1 + q3 - (intOf i).toNat)
      case atStart => exact ⟨0, _, by omega, rfl, hS6.out, DealRow.nil _ _, hrow6.out, hR6.out, hRd6.out, hP6.out, hB16.out, Nat.le_refl _⟩
      case round =>
        obtain ⟨q, dv, hq, rfl, hS, hdr, hrow, hR, hRd, hP, hB, hsz⟩ := hrel
        obtain ⟨wo, hwo⟩ : ∃ x, x = wr := ⟨_, rfl⟩
        subst hwo
        by_cases hlt : q < 1 + q3
        · have htl : (ds.take q).length = q := by rw [List.length_take]; have := hdsl.out; omega
          obtain ⟨dA, dc, rfl⟩ := hdr.out.form
          rw [htl] at hS hdr
          have htl' := Lib.hid htl
          clear htl
          obtain ⟨G, hG⟩ : ∃ G : Nat → Nat, Hid ((fun i => F (1 + 9 * q + i)) = G) := ⟨_, Lib.hid rfl⟩
          have hGe : Hid (∀ p, G p = F (1 + 9 * q + p)) := by rw [← hG.out]; exact Lib.hid fun _ => rfl
          have hG256 : Hid (∀ i, G i < 256) := fun i => by rw [hGe.out]; exact hF256.out _
          obtain ⟨d, hd⟩ : ∃ d, dealM numB2 mkB q G = d := ⟨_, rfl⟩
          have hdq : Hid (ds[q]? = some d) := by rw [← hd, ← hG.out]; exact hdsg.out q hlt
          have hdl := Lib.hid (fun W (hp : Hid (Blk W w3.heap.size 56 partiesA)) => deal_any q (by omega) G hG256.out w3.heap.size W hp)
          rw [hd] at hdl
          have hd' := Lib.hid hd
          clear hd
          have t1 : decide ((q : Int) < 1 + (q3 : Int)) = true := by simp; omega
          obtain ⟨w7, hw7⟩ : ∃ W, Hid (wo.alloc (.cells #[.int .i64 0, .int .i64 0, .int .i64 0, .int .i64 0, .int .i64 0, .int .i64 0, .int .i64 0, .int .i64 0, .int .i64 0] 66) = W) := ⟨_, rfl⟩
          have hb7 : Hid (Below wo.heap.size wo w7) := by rw [← hw7.out]; exact (Below.refl _ wo).alloc (Nat.le_refl _) _
          have hX7 : Hid (Blk w7 wo.heap.size 66 (nineA G 0)) := by rw [← hw7.out]; exact Lib.hid (Blk.new _ _ _)
          have hRd7 := Lib.hid (hRd.out.below hb7.out)
          have hB7 : Hid (Below w1.heap.size w1 w7) := hB.out.trans (hb7.out.mono hB.out.size)
          go_wp2_with (rw [hw7.out])
          go_loopw [63] (fun i wr => ∃ (p : Nat), p ≤ 9 ∧ i = .int .i64 (p : Int) ∧ Hid (Blk wr wo.heap.size 66 (nineA G p)) ∧ Hid (RdAt wr ca cb A c b (min (1 + 9 * q + p) nb)) ∧ Hid (Keeps (fun g t => (g = ca ∧ t = 3) ∨ t = 66) w7 wr) ∧ Hid (Below w1.heap.size w1 wr) ∧ Hid (w7.heap.size ≤ wr.heap.size)) (fun i _ => 9 - (intOf i).toNat)
          case atStart => exact ⟨0, by omega, rfl, hX7.out, hRd7.out, Keeps.refl _ _, hB7.out, Nat.le_refl _⟩
          case round =>
            obtain ⟨p, hp, rfl, hX, hRdp, hKp, hBp, hszp⟩ := hrel
            by_cases hlt2 : p < 9
            · have hcl := hnx3.out (min (1 + 9 * q + p) nb) wr hRdp
              have eF : F (min (1 + 9 * q + p) nb) = G p := by
                rw [hGe.out, ← hF'.out, ← hnb.out]
                exact byteAt_min b _
              rw [eF] at hcl
              have hcl' := Lib.hid hcl
              have t2 : decide ((p : Int) < 9) = true := by simp; omega
              have i1 : (p : Int) < 9 := by omega
              clear hcl eF
              have xfz : ∀ W, Blk W wo.heap.size 66 (nineA G p) → W.frozen? ⟨wo.heap.size, p, none⟩ = false := fun W h => h.frozen p
              have hxz := Lib.hid xfz
              clear xfz
              have hXn : Hid (wo.heap.size ≠ ca ∧ w4.heap.size < wo.heap.size) := by have := hlow.out.1; have := hsz.out; have := hw46.out; unfold Hid; omega
              go_wp2_with (first | (go_at_call 28; refine hcl'.out.mono ?_; rintro e w9 ⟨rfl, hR9, hu9⟩; have hRd9 := Lib.hid hR9; have hU9 := Lib.hid hu9; have hX9 := Lib.hid (hX.out.but hu9 hXn.out.1); clear hR9 hu9) | (refine wpList_puto rfl 3 _ _ rfl wo.heap.size p (nineA G p) (nineA G (p + 1)) 66 (.int .i64 (G p : Int)) rfl rfl hX9.out (by simp [nineA]; omega) (nineA_set G p hlt2) (by kernel_rfl) rfl ?_; intro w10 hd10 hb10 hu10; have hX10 := Lib.hid hd10; have hU10 := Lib.hid hu10; clear hd10 hb10 hu10))
              have hB9 : Hid (Below w1.heap.size w1 w9) := hU9.out.to_below hBp.out hca'.out hBp.out.size
              have hB10 : Hid (Below w1.heap.size w1 w10) := hU10.out.to_below hB9.out (by have := hXn.out; have := hB4.out.size; omega) hB9.out.size
              have hRd10 : Hid (RdAt w10 ca cb A c b (min (1 + 9 * q + (p + 1)) nb)) := by
                have h1 := hRd9.out
                rw [hnb.out] at h1
                have e1 : min (min (1 + 9 * q + p) nb + 1) nb = min (1 + 9 * q + (p + 1)) nb := by omega
                rw [e1] at h1
                exact h1.belowB (hU10.out.to_below (Below.refl w4.heap.size w9) (Nat.le_of_lt hXn.out.2) (by have := hU9.out.size; have := hszp.out; have := hb7.out.size; have := hXn.out; omega)) hlow.out.1 hlow.out.2.1 hlow.out.2.2
              have hK10 : Hid (Keeps (fun g t => (g = ca ∧ t = 3) ∨ t = 66) w7 w10) :=
                (hKp.out.trans (Keeps.but hU9.out (fun t cs h => .inl ⟨rfl, blk_type hRdp.out.at_ h⟩))).trans (Keeps.but hU10.out (fun t cs h => .inr (blk_type hX9.out h)))
              go_roundw
              case rel => exact ⟨p + 1, by omega, by go_num, hX10.out, hRd10.out, hK10.out, hB10.out, by have := hszp.out; have := hU9.out.size; have := hU10.out.size; exact Lib.hid (by omega)⟩
              case measure => simp [intOf]; omega
            · have hp9 : p = 9 := by omega
              subst hp9
              have t2 : decide (((9 : Nat) : Int) < 9) = false := by decide
              have hXr : Hid (Blk wr wo.heap.size 66 #[.int .i64 (G 0 : Int), .int .i64 (G 1 : Int), .int .i64 (G 2 : Int), .int .i64 (G 3 : Int), .int .i64 (G 4 : Int), .int .i64 (G 5 : Int), .int .i64 (G 6 : Int), .int .i64 (G 7 : Int), .int .i64 (G 8 : Int)]) := hX.out
              have hne : ∀ (g : Nat) (t : TypeId), t ≠ 3 → t ≠ 66 → ¬ ((g = ca ∧ t = 3) ∨ t = 66) := fun g t h1 h2 h => h.elim (fun h => h1 h.2) h2
              have hSr := Lib.hid (hKp.out _ _ _ (hS.out.below hb7.out hS.out.lt) (hne _ _ (by decide) (by decide)))
              have hPr := Lib.hid (hKp.out _ _ _ (hP.out.below hb7.out hP.out.lt) (hne _ _ (by decide) (by decide)))
              have hk07 : Keeps (fun g t => (g = ca ∧ t = 3) ∨ t = 66) wo w7 := Keeps.below hb7.out
              have hkr := Lib.hid (hk07.trans hKp.out)
              have hdrr := Lib.hid (hdr.out.keeps hkr.out (fun g => hne g _ (by decide) (by decide)) (fun g => hne g _ (by decide) (by decide)) (fun g => hne g _ (by decide) (by decide)))
              have hrowr := Lib.hid (own_keeps hrow.out hkr.out (fun g => hne g _ (by decide) (by decide)))
              have hRr := Lib.hid (hR.out.keeps hkr.out (fun g hg h => h.elim (fun h => by have := hlow.out.1; have := hlt54.out; omega) (fun h => absurd h (by decide))))
              have hBr := Lib.hid hBp.out
              have hszr : Hid (w6.heap.size ≤ wr.heap.size) := by have := hszp.out; have := hb7.out.size; have := hsz.out; unfold Hid; omega
              clear hne hk07 hX7 hRd7 hB7 hKp hdr hrow hR hP hS
              go_wp2_with fail
              refine wp_region_any (by kernel_rfl) ?_
              refine wpAny_body 83 (List.range 8) [8, 9, 10] 8 [(0, some 71), (1, some 72), (2, some 73), (3, some 74), (4, some 75), (5, some 76), (6, some 77), (7, some 78)] (Array.replicate 11 false) (Array.replicate 8 true ++ Array.replicate 3 false) (fun a b => Below a.heap.size a b) (fun i => (tySt w3 w4 q dc dA G d).getD i (fun _ _ => True)) (by kernel_rfl) rfl rfl (Below.refl _ _) (fun _ _ _ h k => h.trans (k.mono h.size)) (fun i v W W' h hb => mono_at (tySt_mono w3 w4 q dc dA G d) i h hb) ?step ?fin _ rfl
              case step =>
                refine allB_cons (i := 0) rfl (fun a W hl K hK => ?_) ?_
                · have t6 : a.tmps.getD 6 undef = .pointer (some ⟨w4.heap.size, 0, none⟩) := hl.old 6 (by kernel_rfl)
                  exact held_value (v := .pointer (some ⟨w4.heap.size, 1, none⟩)) (w' := W) rfl rfl (by go_simp) (hK _ _ (Below.refl _ _) rfl)
                refine allB_cons (i := 1) rfl (fun a W hl K hK => ?_) ?_
                · have t71 : Is (.pointer (some ⟨w4.heap.size, 1, none⟩)) (a.tmps.getD 71 undef) W := hl.at_ 0 71 (by kernel_rfl)
                  unfold Is at t71
                  have hbS : Blk W (w4.heap.size) 32 #[.slice (some ⟨w3.heap.size, 0, none⟩) 9 9, .slice dA q dc, fv, rv, .slice none 0 0] := hSr.out.drew.below hl.world hSr.out.drew.lt
                  have cc : W.cell? ⟨w4.heap.size, 1, none⟩ = some (.slice dA q dc) := (hbS.cell 1).trans rfl
                  exact held_value (v := .slice dA q dc) (w' := W) rfl rfl (by go_simp) (hK _ _ (Below.refl _ _) rfl)
                refine allB_cons (i := 2) rfl (fun a W hl K hK => ?_) ?_
                · have t12 : a.tmps.getD 12 undef = .int .i64 (q : Int) := hl.old 12 (by kernel_rfl)
                  exact held_value (v := .int .i64 (q : Int)) (w' := W) rfl rfl (by go_simp) (hK _ _ (Below.refl _ _) rfl)
                refine allB_cons (i := 3) rfl (fun a W hl K hK => ?_) ?_
                · have t13 : a.tmps.getD 13 undef = .pointer (some ⟨wo.heap.size, 0, none⟩) := hl.old 13 (by kernel_rfl)
                  have hbX : Blk W (wo.heap.size) 66 #[.int .i64 (G 0 : Int), .int .i64 (G 1 : Int), .int .i64 (G 2 : Int), .int .i64 (G 3 : Int), .int .i64 (G 4 : Int), .int .i64 (G 5 : Int), .int .i64 (G 6 : Int), .int .i64 (G 7 : Int), .int .i64 (G 8 : Int)] := hXr.out.drew.below hl.world hXr.out.drew.lt
                  exact held_value (v := .agg #[.int .i64 (G 0 : Int), .int .i64 (G 1 : Int), .int .i64 (G 2 : Int), .int .i64 (G 3 : Int), .int .i64 (G 4 : Int), .int .i64 (G 5 : Int), .int .i64 (G 6 : Int), .int .i64 (G 7 : Int), .int .i64 (G 8 : Int)]) (w' := W) rfl rfl (run_ldb rfl t13 hbX Tryd.underlying66 rfl (by kernel_rfl)) (hK _ _ (Below.refl _ _) rfl)
                refine allB_cons (i := 4) rfl (fun a W hl K hK => ?_) ?_
                · have t6 : a.tmps.getD 6 undef = .pointer (some ⟨w4.heap.size, 0, none⟩) := hl.old 6 (by kernel_rfl)
                  exact held_value (v := .pointer (some ⟨w4.heap.size, 0, none⟩)) (w' := W) rfl rfl (by go_simp) (hK _ _ (Below.refl _ _) rfl)
                refine allB_cons (i := 5) rfl (fun a W hl K hK => ?_) ?_
                · have t75 : Is (.pointer (some ⟨w4.heap.size, 0, none⟩)) (a.tmps.getD 75 undef) W := hl.at_ 4 75 (by kernel_rfl)
                  unfold Is at t75
                  have hbS : Blk W (w4.heap.size) 32 #[.slice (some ⟨w3.heap.size, 0, none⟩) 9 9, .slice dA q dc, fv, rv, .slice none 0 0] := hSr.out.drew.below hl.world hSr.out.drew.lt
                  have cc : W.cell? ⟨w4.heap.size, 0, none⟩ = some (.slice (some ⟨w3.heap.size, 0, none⟩) 9 9) := (hbS.cell 0).trans rfl
                  exact held_value (v := .slice (some ⟨w3.heap.size, 0, none⟩) 9 9) (w' := W) rfl rfl (by go_simp) (hK _ _ (Below.refl _ _) rfl)
                refine allB_cons (i := 6) rfl (fun a W hl K hK => ?_) ?_
                · have t73 : Is (.int .i64 (q : Int)) (a.tmps.getD 73 undef) W := hl.at_ 2 73 (by kernel_rfl)
                  unfold Is at t73
                  have t74 : Is (.agg #[.int .i64 (G 0 : Int), .int .i64 (G 1 : Int), .int .i64 (G 2 : Int), .int .i64 (G 3 : Int), .int .i64 (G 4 : Int), .int .i64 (G 5 : Int), .int .i64 (G 6 : Int), .int .i64 (G 7 : Int), .int .i64 (G 8 : Int)]) (a.tmps.getD 74 undef) W := hl.at_ 3 74 (by kernel_rfl)
                  unfold Is at t74
                  have t76 : Is (.slice (some ⟨w3.heap.size, 0, none⟩) 9 9) (a.tmps.getD 76 undef) W := hl.at_ 5 76 (by kernel_rfl)
                  unfold Is at t76
                  have hbP : Blk W (w3.heap.size) 56 partiesA := hPr.out.drew.below hl.world hPr.out.drew.lt
                  refine held_call (f := 19) (args := #[.int .i64 (q : Int), .agg #[.int .i64 (G 0 : Int), .int .i64 (G 1 : Int), .int .i64 (G 2 : Int), .int .i64 (G 3 : Int), .int .i64 (G 4 : Int), .int .i64 (G 5 : Int), .int .i64 (G 6 : Int), .int .i64 (G 7 : Int), .int .i64 (G 8 : Int)], .slice (some ⟨w3.heap.size, 0, none⟩) 9 9]) (w := W) rfl rfl (by go_simp) ?_
                  refine (hdl.out W (Lib.hid hbP)).mono ?_
                  rintro e w' ⟨bx, rfl, hbx, hb⟩
                  exact ⟨_, rfl, hK _ _ hb ⟨bx, rfl, hbx⟩⟩
                refine allB_cons (i := 7) rfl (fun a W hl K hK => ?_) ?_
                · have t77 : DealV d (a.tmps.getD 77 undef) W := hl.at_ 6 77 (by kernel_rfl)
                  obtain ⟨bx, e1, hbx⟩ := t77
                  simp only [Array.getD_eq_getD_getElem?, SDeal.cells] at e1
                  exact held_value (v := .slice (some ⟨W.heap.size, 0, none⟩) 1 1) (w' := W.alloc (.cells (d.cells bx) 54)) rfl rfl (by go_simp) (hK _ _ ((Below.refl _ W).alloc (Nat.le_refl _) _) ⟨_, bx, rfl, Blk.new _ _ _, hbx.below ((Below.refl _ W).alloc (Nat.le_refl _) _)⟩)
                exact allB_nil
              case fin =>
                intro vs W hR hG
                obtain ⟨g, bx, e7, hblk, hbx⟩ : NewD d (vs 7) W := hG 7 (by decide)
                have h1 : vs 1 = .slice dA q dc := hG 1 (by decide)
                have hblk' := Lib.hid hblk
                have hbx' := Lib.hid hbx
                have hBW : Hid (Below wr.heap.size wr W) := (Below.refl _ _).drew.trans hR
                obtain ⟨vs0, hvl, hown, hbxs⟩ := hdrr.out
                rw [htl'.out] at hown hvl
                have hvl' := Lib.hid hvl
                have hbxs' := Lib.hid hbxs
                have hownW := Lib.hid (own_below hown hBW.out)
                have hSW := Lib.hid (hSr.out.below hBW.out hSr.out.lt)
                have hbo : bx.oneCell' = true := by obtain ⟨gs, _, h2, _⟩ := hbx; exact own_one h2
                have hone := Lib.hid (deal_one d hbo)
                have hq1 : Hid (q + 1 ≤ maxLen) := by unfold Hid maxLen; omega
                have hq2 : Hid ((q + 1) * 232 ≤ 140737488355328) := by unfold Hid; omega
                have hszW : Hid (w6.heap.size ≤ W.heap.size) := Nat.le_trans hszr.out hBW.out.size
                clear hG hR hblk hbx hvl hown hbxs hbo
                simp only [putD, Act.put, List.setIfInBounds_toArray, List.set_cons_zero, List.set_cons_succ, h1, e7]
                refine wpAny_next 8 (by kernel_rfl) ?_
                refine held_append rfl rfl (.tmp 72) (.tmp 78) 26 rfl w6.heap.size 54 j0 _ 17 232 Tryd.underlying26 hj hy0 hy1 hy2 rfl (by decide) (.slice dA q dc) q (dealL (ds.take q) vs0) (by go_simp) hownW.out W.heap.size (some ⟨g, 0, none⟩) 1 1 (d.cells bx).toList (by go_simp) (blk_reads hblk'.out 17 1 rfl) hone.out hq1.out hq2.out hszW.out ?_
                intro v2 W2 ho2 hg2 hv2
                obtain ⟨A2, c2, rfl⟩ := own_form2 ho2
                have hO2 := Lib.hid ho2
                have hG2 := Lib.hid hg2
                have hK2 : Hid (Keeps (fun _ t => t = 54) W W2) := own_keepsP hownW.out hg2 (fun _ => rfl)
                have hS2 := Lib.hid (hK2.out _ _ _ hSW.out (fun (h : 32 = 54) => absurd h (by decide)))
                have x1 : W2.cell? ⟨w4.heap.size, 1, none⟩ = some (.slice dA q dc) := hS2.out.cell 1
                have xf : W2.frozen? ⟨w4.heap.size, 1, none⟩ = false := hS2.out.frozen 1
                have hb2W : Hid (Below w6.heap.size W W2) := (Below.refl _ _).grown hg2 hszW.out (fun k hk => by
                  rcases hownW.out.2 with ⟨e9, _⟩ | ⟨g9, c9, cur9, e9, hge, _⟩
                  · rw [e9] at hk; simp [Value.ownBlock] at hk
                  · rw [e9] at hk; simp [Value.ownBlock] at hk; omega)
                clear ho2 hg2 hv2 h1 e7
                simp only [Act.put, List.getElem_toArray, List.getElem_cons_zero, List.getElem_cons_succ, List.setIfInBounds_toArray, List.set_cons_zero, List.set_cons_succ]
                refine wpAny_next 9 (by kernel_rfl) ?_
                refine held_value (v := .pointer (some ⟨w4.heap.size, 1, none⟩)) (w' := W2) rfl rfl (by go_simp) ?_
                simp only [Act.put, List.getElem_toArray, List.getElem_cons_zero, List.getElem_cons_succ, List.setIfInBounds_toArray, List.set_cons_zero, List.set_cons_succ]
                refine wpAny_next 10 (by kernel_rfl) ?_
                refine held_skip (w' := W2.setCell ⟨w4.heap.size, 1, none⟩ (.slice A2 (q + 1) c2)) rfl rfl (by go_simp) ?_
                refine wpAny_end (by kernel_rfl) ?_
                simp only [Act.put, List.getElem_toArray, List.getElem_cons_zero, List.getElem_cons_succ]
                obtain ⟨W3, hW3⟩ : ∃ X, Hid (W2.setCell ⟨w4.heap.size, 1, none⟩ (.slice A2 (q + 1) c2) = X) := ⟨_, rfl⟩
                have hU3 : Hid (But w4.heap.size W2 W3) := by rw [← hW3.out]; exact (But.refl _ _).setCell 1 _
                have hS3 : Hid (Blk W3 w4.heap.size 32 (#[.slice (some ⟨w3.heap.size, 0, none⟩) 9 9, (.slice A2 (q + 1) c2), fv, rv, .slice none 0 0])) := by rw [← hW3.out]; exact hS2.out.set_ 1 _
                have hK3 : Hid (Keeps (fun _ t => t = 32) W2 W3) := Keeps.but hU3.out (fun t cs h => blk_type hS2.out h)
                rw [hW3.out]
                clear x1 xf hW3
                have n1 : ∀ (g : Nat) (t : TypeId), t ≠ 54 → ¬ (fun (_ : Nat) t => t = 54) g t := fun _ _ h => h
                have n2 : ∀ (g : Nat) (t : TypeId), t ≠ 32 → ¬ (fun (_ : Nat) t => t = 32) g t := fun _ _ h => h
                have hKw : Keeps (fun _ t => t = 54) wr W := Keeps.below hBW.out
                have hrow3 := Lib.hid (own_keeps (own_keeps hrowr.out (hKw.trans hK2.out) (fun g => n1 g _ (by decide))) hK3.out (fun g => n2 g _ (by decide)))
                have hR3 := Lib.hid ((hRr.out.keeps (hKw.trans hK2.out) (fun g _ => n1 g _ (by decide))).keeps hK3.out (fun g _ => n2 g _ (by decide)))
                have hP3 := Lib.hid (hK3.out _ _ _ (hK2.out _ _ _ (hPr.out.below hBW.out hPr.out.lt) (n1 w3.heap.size _ (by decide))) (n2 w3.heap.size _ (by decide)))
                have hb3 : Hid (Below w4.heap.size W W3) := hU3.out.to_below (hb2W.out.mono (Nat.le_of_lt hw46.out.1)) (Nat.le_refl _) (by have := hb2W.out.size; have := hszW.out; have := hw46.out; omega)
                have hBw3 : Hid (Below w1.heap.size w1 W3) := (hBr.out.trans (hBW.out.mono hBr.out.size)).trans (hb3.out.mono hB4.out.size)
                have hRd3' : Hid (RdAt W3 ca cb A c b (min (1 + 9 * (q + 1)) nb)) := by
                  have h1 := (hRdp.out.below hBW.out).belowB hb3.out hlow.out.1 hlow.out.2.1 hlow.out.2.2
                  rw [show 1 + 9 * (q + 1) = 1 + 9 * q + 9 by omega]
                  exact h1
                have hsnoc : Hid (ds.take (q + 1) = ds.take q ++ [d]) := by
                  unfold Hid
                  obtain ⟨hlt', he'⟩ := List.getElem?_eq_some_iff.1 hdq.out
                  rw [List.take_succ_eq_append_getElem hlt', he']
                have hdr3 : Hid (DealRow W3 w6.heap.size (.slice A2 (q + 1) c2) (ds.take (q + 1))) := by
                  refine ⟨vs0 ++ [bx], ?_, ?_, ?_⟩
                  · rw [hsnoc.out, List.length_append, List.length_append, hvl'.out, htl'.out]; rfl
                  · have h1 := own_keeps hO2.out hK3.out (fun g => n2 g _ (by decide))
                    rw [hsnoc.out, List.length_append, htl'.out, dealL_snoc _ _ _ _ (by rw [hvl'.out, htl'.out])]
                    exact h1
                  · intro i d' x hid hix
                    rw [hsnoc.out] at hid
                    have kb : ∀ {l : List SBox} {x : Value}, BoxRow W 0 x l → BoxRow W3 0 x l := fun h => (h.keeps hK2.out (fun g => n1 g _ (by decide)) (fun g => n1 g _ (by decide))).keeps hK3.out (fun g => n2 g _ (by decide)) (fun g => n2 g _ (by decide))
                    by_cases hij : i < q
                    · rw [List.getElem?_append_left (by rw [htl'.out]; exact hij)] at hid
                      rw [List.getElem?_append_left (by rw [hvl'.out]; exact hij)] at hix
                      exact kb ((hbxs'.out i d' x hid hix).below hBW.out)
                    · have hij' : i = q := by
                        have := (List.getElem?_eq_some_iff.1 hid).1
                        rw [List.length_append, htl'.out] at this
                        simp at this; omega
                      subst hij'
                      rw [List.getElem?_append_right (by rw [htl'.out]; exact Nat.le_refl _), htl'.out] at hid
                      rw [List.getElem?_append_right (by rw [hvl'.out]; exact Nat.le_refl _), hvl'.out] at hix
                      simp at hid hix
                      subst hid
                      subst hix
                      exact kb hbx'.out
                clear n1 n2 hKw hsnoc hsz hszr
                go_wp2_with fail
                go_roundw
                case rel => exact ⟨q + 1, _, by omega, by go_num, hS3.out, hdr3.out, hrow3.out, hR3.out, hRd3'.out, hP3.out, hBw3.out, by have := hb3.out.size; have := hszW.out; exact Lib.hid (by omega)⟩
                case measure => simp [intOf]; omega
        · have hqe : q = 1 + q3 := by omega
          have hfin : Hid (ds.take q = ds) := List.take_of_length_le (by have := hdsl.out; omega)
          rw [hfin.out] at hdr
          have hone : dv.oneCell' = true := by obtain ⟨_, _, h2, _⟩ := hdr.out; exact own_one h2
          have hone2 : fv.oneCell' = true := own_one hrow.out
          have hone3 : rv.oneCell' = true := hR.out.one
          have t1 : decide ((q : Int) < 1 + (q3 : Int)) = false := by simp; omega
          have hr8 := Lib.hid (hr1.out.below hB.out hr1.out.lt)
          obtain ⟨CS, hCS⟩ : ∃ CS, (#[.slice (some ⟨w3.heap.size, 0, none⟩) 9 9, dv, fv, rv, .slice none 0 0] : Array Value) = CS := ⟨_, rfl⟩
          have hCSs : Hid (CS.size = 5) := by rw [← hCS]; exact Lib.hid rfl
          have hCSo : Hid (CS.all (·.oneCell') = true) := by
            rw [← hCS]
            unfold Hid
            simp only [List.all_toArray, List.all_cons, List.all_nil, hone, hone2, hone3]
            rfl
          rw [hCS] at hS
          have hCS' := Lib.hid hCS
          clear hCS hone hone2 hone3 hlt
          go_wp2_with (first | (refine wpList_get_blk rfl 32 _ rfl w4.heap.size CS 32 _ rfl hS.out Tryd.underlying32 rfl (by rw [hCSs.out]; kernel_rfl) ?_) | (refine wpList_put_blk rfl 32 _ _ rfl w.heap.size #[.slice none 0 0, .slice none 0 0, .slice none 0 0, .slice none 0 0, .slice none 0 0] CS 32 rfl rfl hr8.out (by rw [hCSs.out]; rfl) (by rw [hCSs.out]; kernel_rfl) hCSo.out ?_; intro w11 hr11 hu11; have hR11 := Lib.hid hr11; have hU11 := Lib.hid hu11; clear hr11 hu11))
          refine bodyPost_ret (results_row rfl _ _ w.heap.size 32 _ _ rfl hR11.out Tryd.underlying32 rfl (by rw [hCSs.out]; kernel_rfl)) rfl ?_
          have hk11 : Keeps (fun _ t => t = 32) _ w11 := Keeps.but hU11.out (fun t cs h => blk_type hr8.out h)
          have n2 : ∀ (g : Nat) (t : TypeId), t ≠ 32 → ¬ (fun (_ : Nat) t => t = 32) g t := fun _ _ h => h
          have hM : setupM numB2 mkB F = ⟨am, o2, ds⟩ := by
            unfold setupM
            have e2 : decide (F 0 / 8 % 2 = 1) = o2 := by rw [hf0.out, hq8.out]; exact ho2.out
            rw [e2]
            rw [hf0.out, ham.out, hq3.out, hds.out]
          rw [hM]
          refine ⟨CS, rfl, ⟨w3.heap.size, dv, fv, rv, w5.heap.size, hCS'.out.symm, hk11 _ _ _ hP.out (n2 w3.heap.size _ (by decide)), ?_, ?_, hR.out.keeps hk11 (fun g _ => n2 g _ (by decide))⟩, hU11.out.to_below (hb1.out.trans (hB.out.mono hb1.out.size)) (Nat.le_refl _) (by have := hb1.out.size; have := hB.out.size; omega)⟩
          · obtain ⟨vs1, z1, z2, z3⟩ := hdr.out.keeps hk11 (fun g => n2 g _ (by decide)) (fun g => n2 g _ (by decide)) (fun g => n2 g _ (by decide))
            exact ⟨vs1, z1, own_mono_base z2 (Nat.zero_le _), z3⟩
          · exact own_mono_base (own_keeps hrow.out hk11 (fun g => n2 g _ (by decide))) (Nat.zero_le _)

end Go.Proofs.YtheiogafjinihaaDoor

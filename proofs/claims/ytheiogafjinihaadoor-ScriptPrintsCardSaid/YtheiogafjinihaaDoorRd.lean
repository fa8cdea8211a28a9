/- The step of a line: script.read. -/
import Derived.Test.YtheiogafjinihaaDoorFt
import Derived.Test.YtheiogafjinihaaDoorK
import Derived.IntWalk
namespace Go.Proofs.YtheiogafjinihaaDoor
open Go Go.RowKit Go.BigFrame Go.Maps

theorem readPs_len : ∀ (ps : List Prt) (ws : List (List UInt8)) (x z : Stp), readPs ps ws x = some z → ps.length = ws.length
  | [], [], _, _, _ => rfl
  | [], _ :: _, _, _, h => by cases h
  | _ :: _, [], _, _, h => by cases h
  | p :: ps, u :: ws, x, z, h => by
    rw [readPs] at h
    cases hz : readP x u p with
    | none => rw [hz] at h; cases h
    | some y =>
      rw [hz, Option.bind_some] at h
      simp [readPs_len ps ws y z h]
theorem readPs_step {ps : List Prt} {ws : List (List UInt8)} (y : Stp) {j : Nat} {p : Prt} {u : List UInt8} (hp : ps[j]? = some p) (hu : ws[j]? = some u) :
    readPs (ps.drop j) (ws.drop j) y = (readP y u p).bind (readPs (ps.drop (j + 1)) (ws.drop (j + 1))) := by
  obtain ⟨h1, e1⟩ := List.getElem?_eq_some_iff.1 hp
  obtain ⟨h2, e2⟩ := List.getElem?_eq_some_iff.1 hu
  rw [List.drop_eq_getElem_cons h1, List.drop_eq_getElem_cons h2, readPs, e1, e2]
theorem words_le (c : UInt8) : ∀ (n : Nat) (s : List UInt8), s.length ≤ n → ∀ w ∈ wordsL c s, w.length ≤ s.length
  | n, s, hn, x, hx => by
    rcases part_at c s with h1 | ⟨w, r, rfl, h2⟩
    · rw [wordsL_none h1] at hx
      simp at hx; subst hx; exact Nat.le_refl _
    · rw [wordsL_cons h2] at hx
      cases n with
      | zero => simp at hn
      | succ n =>
        rcases List.mem_cons.1 hx with rfl | hx
        · simp
        · have := words_le c n r (by simp at hn; omega) x hx
          simp; omega
theorem flat_two (f : Prt → List Value) (a b : Prt → Value) (hf : ∀ p, f p = [a p, b p]) : ∀ (l : List Prt) (j : Nat) (p : Prt), l[j]? = some p → (l.flatMap f)[j * 2]? = some (a p) ∧ (l.flatMap f)[j * 2 + 1]? = some (b p)
  | [], j, p, h => by simp at h
  | q :: l, 0, p, h => by
    simp at h; subst h
    rw [List.flatMap_cons, hf]; exact ⟨rfl, rfl⟩
  | q :: l, j + 1, p, h => by
    have := flat_two f a b hf l j p (by simpa using h)
    rw [List.flatMap_cons, hf, show (j + 1) * 2 = j * 2 + 1 + 1 by omega]
    exact this
theorem rowV_get (g1 g2 k j : Nat) (p : Prt) (h : (partsL.getD k [])[j]? = some p) :
    (rowV g1 g2 k)[j * 2]? = some (.func (.func (gShow p)) #[] (capP g1 g2 p)) ∧ (rowV g1 g2 k)[j * 2 + 1]? = some (.func (.func (gRead p)) #[] (capP g1 g2 p)) := by
  have := flat_two (partV g1 g2) (fun p => .func (.func (gShow p)) #[] (capP g1 g2 p)) (fun p => .func (.func (gRead p)) #[] (capP g1 g2 p)) (partV_eq g1 g2) (partsL.getD k []) j p h
  unfold rowV
  simpa using this
/-- A form as it lies. -/
theorem formV_eq (r : Nat → Nat) (k : Nat) (hk : k < 8) : ∃ A, formV r k = .agg #[.int .i64 (k : Int), .slice A (partsL.getD k []).length (partsL.getD k []).length] ∧ (0 < (partsL.getD k []).length → k ≠ 4 ∧ A = some ⟨r k, 0, none⟩) := by
  by_cases h : k = 4
  · subst h
    exact ⟨none, rfl, fun h => absurd h (by decide)⟩
  · exact ⟨some ⟨r k, 0, none⟩, by unfold formV; rw [if_neg h], fun _ => ⟨h, rfl⟩⟩
theorem zero_form (w : World) : (zeroValue 77).run Tryd.prog w = .ok formZ w := by kernel_rfl
theorem place_lt {u : List UInt8} {k : Nat} (h : placeL firstL u 0 = some k) : k < 8 := by
  obtain ⟨_, h2⟩ := place_at _ _ _ _ h
  rw [Nat.sub_zero] at h2
  exact (List.getElem?_eq_some_iff.1 h2).1

/-- What read answers. -/
def LineR (r : Option Stp) (w : World) (e : Ending) (w' : World) : Prop := e = .returned (.tuple #[.agg (r.getD (stp0 0)).cells, .bool r.isSome]) ∧ Below w.heap.size w w'
set_option maxRecDepth 100000 in
set_option maxHeartbeats 3200000 in
theorem read_line (s : List UInt8) (w : World) (mb : Nat) (hf : FormsAt w mb) (he : Env w) (hs : s.length < 4294967281) : Calls Tryd.prog 22 #[.string ⟨s.toArray⟩, .map (some mb)] w (LineR (readM s) w) := by
  obtain ⟨g1, g2, r, hg1, hg2, hrow, hmap⟩ := hf
  have hgs : Hid (Gs w g1 g2) := ⟨hg1, hg2⟩
  have hrw := Lib.hid hrow
  have hmp := Lib.hid hmap
  have he' := Lib.hid he
  clear hg1 hg2 hrow hmap he
  have hlen := words_le 32 s.length s (Nat.le_refl _)
  obtain ⟨u, us, hws⟩ : ∃ u us, wordsL 32 s = u :: us := by
    cases e : wordsL 32 s with
    | nil => exact absurd e (wordsL_ne 32 s)
    | cons u us => exact ⟨u, us, rfl⟩
  rw [hws] at hlen
  have hul : Hid (u.length < 4294967281) := by unfold Hid; have := hlen u (by simp); omega
  have husl : Hid (∀ v ∈ us, v.length < 4294967281) := by unfold Hid; intro v hv; have := hlen v (by simp [hv]); omega
  have hrd : Hid (readM s = (placeL firstL u 0).bind fun k => readPs (partsL.getD k []) us (stp0 (k : Nat))) := by unfold Hid readM; rw [hws]
  obtain ⟨n, hn⟩ : ∃ n, us.length = n := ⟨_, rfl⟩
  obtain ⟨WC, hWC⟩ : ∃ WC, wcells (u :: us) = WC := ⟨_, rfl⟩
  have hsp : Hid (∀ W, Env W → Calls Tryd.prog 47 #[.string ⟨s.toArray⟩, .string ⟨#[32]⟩] W fun e w' => e = .returned (.slice (some ⟨W.heap.size, 0, none⟩) (n + 1) (n + 1)) ∧ W.alloc (.cells WC 9) = w') := by
    intro W hW
    have := split_any s W hW hs
    rw [hws, hWC, List.length_cons, hn] at this
    exact this
  have hWC0 : Hid (WC[0]? = some (.string ⟨u.toArray⟩)) := by unfold Hid; rw [← hWC]; exact wcells_get rfl
  have hWCn : Hid (∀ j v, us[j]? = some v → WC[j + 1]? = some (.string ⟨v.toArray⟩)) := by unfold Hid; intro j v hv; rw [← hWC]; exact wcells_get (by simpa using hv)
  have hn' := Lib.hid hn
  clear hlen hws hs hn hWC
  obtain ⟨w1, hw1⟩ : ∃ W, Hid (w.alloc (.cells #[.int .i64 0, .int .i64 0, .string ⟨#[]⟩, .int .i64 0, .int .i64 0, .string ⟨#[]⟩] 49) = W) := ⟨_, rfl⟩
  have hb1 : Hid (Below w.heap.size w w1) := by rw [← hw1.out]; exact (Below.refl _ w).alloc (Nat.le_refl _) _
  have hz1 : Hid (Blk w1 w.heap.size 49 #[.int .i64 0, .int .i64 0, .string ⟨#[]⟩, .int .i64 0, .int .i64 0, .string ⟨#[]⟩]) := by rw [← hw1.out]; exact Lib.hid (Blk.new _ _ _)
  have he1 := Lib.hid (he'.out.below hb1.out)
  have hm1 := Lib.hid (hmp.out.below hb1.out)
  obtain ⟨w2, hw2⟩ : ∃ W, Hid (w1.alloc (.cells WC 9) = W) := ⟨_, rfl⟩
  have hb2 : Hid (Below w1.heap.size w1 w2) := by rw [← hw2.out]; exact (Below.refl _ w1).alloc (Nat.le_refl _) _
  have hz2 := Lib.hid (hz1.out.below hb2.out hz1.out.lt)
  have hc2 : Hid (Blk w2 w1.heap.size 9 WC) := by rw [← hw2.out]; exact Lib.hid (Blk.new _ _ _)
  have hm2 := Lib.hid (hm1.out.below hb2.out)
  have he2 := Lib.hid (he1.out.below hb2.out)
  have hgs2 := Lib.hid ((hgs.out.below hb1.out).below hb2.out)
  have hrw2 : Hid (∀ k, k < 8 → k ≠ 4 → Blk w2 (r k) 81 (rowV g1 g2 k)) := fun k hk h4 => ((hrw.out k hk h4).below hb1.out (hrw.out k hk h4).lt).below hb2.out (by have := (hrw.out k hk h4).lt; have := hb1.out.size; omega)
  have hrlt : Hid (∀ k, k < 8 → k ≠ 4 → r k < w.heap.size) := fun k hk h4 => (hrw.out k hk h4).lt
  have hglt : Hid (g1 < w.heap.size ∧ g2 < w.heap.size) := ⟨hgs.out.n.lt, hgs.out.an.lt⟩
  have u0 : w2.cell? ⟨w1.heap.size, 0, none⟩ = some (.string ⟨u.toArray⟩) := (hc2.out.cell 0).trans hWC0.out
  have hlk := hm2.out.look_ok (t := 68) Tryd.underlying9 Tryd.underlying68 (zero_form w2) (s := ⟨u.toArray⟩) (by rw [size_list]; unfold maxLen; have := hul.out; omega)
  have hB2 : Hid (Below w.heap.size w w2) := hb1.out.trans (hb2.out.mono hb1.out.size)
  clear hgs hrw hmp hm1
  have hlu : (⟨u.toArray⟩ : ByteArray).data.toList = u := by simp
  rw [hlu] at hlk
  unfold formS at hlk
  clear hlu
  have h0lt : Hid (w.heap.size < w1.heap.size ∧ w1.heap.size < w2.heap.size ∧ 9 ≤ w.heap.size) := ⟨hz1.out.lt, hc2.out.lt, he'.out.size⟩
  obtain ⟨v3, hv3⟩ : ∃ W, Hid (w2.alloc (.cells #[.int .i64 0, .slice none 0 0] 77) = W) := ⟨_, rfl⟩
  have hc3 : Hid (Below w2.heap.size w2 v3) := by rw [← hv3.out]; exact (Below.refl _ w2).alloc (Nat.le_refl _) _
  have hf3 : Hid (Blk v3 w2.heap.size 77 #[.int .i64 0, .slice none 0 0]) := by rw [← hv3.out]; exact Lib.hid (Blk.new _ _ _)
  cases hpl : placeL firstL u 0 with
  | none =>
    rw [hpl] at hlk hrd
    have hrd' : Hid (readM s = none) := hrd.out
    simp only [Option.map_none, Option.getD_none, Option.isSome_none] at hlk
    rw [hrd'.out]
    clear hrd hrd' hpl
    have hlk' := Lib.hid hlk
    clear hlk
    go_enter Tryd.func22, Tryd.ntmps22
    go_wp2_with (rw [hw1.out])
    refine (hsp.out _ he1.out).mono ?_
    rintro e wx ⟨rfl, hwx⟩
    obtain rfl : w2 = wx := hw2.out.symm.trans hwx
    clear hwx
    have hlk := hlk'.out
    go_wp2_with (first | rw [hv3.out] | (refine wpList_put_blk rfl 77 _ _ rfl w2.heap.size #[.int .i64 0, .slice none 0 0] #[.int .i64 0, .slice none 0 0] 77 rfl rfl hf3.out rfl (by kernel_rfl) (by simp [Value.oneCell']) ?_; intro v4 hf4 hu4; have hF4 := Lib.hid hf4; have hB4 : Hid (Below w2.heap.size w2 v4) := hu4.to_below hc3.out (Nat.le_refl _) hc3.out.size; have hB3 : Hid (Below w.heap.size w v4) := hB2.out.trans (hB4.out.mono hB2.out.size); have hr3 := Lib.hid (hz2.out.below hB4.out hz2.out.lt); clear hf4 hu4) | (refine wpList_put_blk rfl 49 _ _ rfl w.heap.size #[.int .i64 0, .int .i64 0, .string ⟨#[]⟩, .int .i64 0, .int .i64 0, .string ⟨#[]⟩] #[.int .i64 0, .int .i64 0, .string ⟨#[]⟩, .int .i64 0, .int .i64 0, .string ⟨#[]⟩] 49 rfl rfl hr3.out rfl (by kernel_rfl) (by simp [Value.oneCell']) ?_; intro v5 hrv50 huv50; have hrv5 := Lib.hid hrv50; have huv5 := Lib.hid huv50; clear hrv50 huv50))
    exact bodyPost_ret (results_row2 rfl _ _ w.heap.size 49 _ _ rfl hrv5.out Tryd.underlying49 rfl (by kernel_rfl)) rfl ⟨rfl, huv5.out.to_below hB3.out (Nat.le_refl _) hB3.out.size⟩
  | some k =>
    rw [hpl] at hlk hrd
    have hk8 := place_lt hpl
    have hrd' : Hid (readM s = readPs (partsL.getD k []) us (stp0 (k : Nat))) := hrd.out
    simp only [Option.map_some, Option.getD_some, Option.isSome_some] at hlk
    rw [hrd'.out]
    obtain ⟨A, hA1, hA2⟩ := formV_eq r k hk8
    rw [hA1] at hlk
    have hA := Lib.hid hA2
    obtain ⟨ps, hps⟩ : ∃ ps, Hid (partsL.getD k [] = ps) := ⟨_, Lib.hid rfl⟩
    rw [hps.out] at hlk hA ⊢
    obtain ⟨m, hm⟩ : ∃ m, Hid (ps.length = m) := ⟨_, Lib.hid rfl⟩
    rw [hm.out] at hlk hA
    have hmb : m ≤ 4 := by
      have := hm.out
      have h4 : ∀ q : Fin 8, (partsL.getD q.val []).length ≤ 4 := by decide
      have := h4 ⟨k, hk8⟩
      simp only [hps.out] at this
      omega
    have hk8' := Lib.hid hk8
    have hlk' := Lib.hid hlk
    clear hrd hrd' hpl hlk hA1 hA2 hk8
    have cF0 : ∀ W, Blk W w2.heap.size 77 #[.int .i64 (k : Int), .slice A m m] → W.cell? ⟨w2.heap.size, 0, none⟩ = some (.int .i64 (k : Int)) := fun W h => h.cell 0
    have cF1 : ∀ W, Blk W w2.heap.size 77 #[.int .i64 (k : Int), .slice A m m] → W.cell? ⟨w2.heap.size, 1, none⟩ = some (.slice A m m) := fun W h => h.cell 1
    have hcF0 := Lib.hid cF0
    have hcF1 := Lib.hid cF1
    clear cF0 cF1
    by_cases hl : n = m
    · obtain rfl : n = m := hl
      have t1 : (((n : Int) + 1) != 1 + (n : Int)) = false := by simp; omega
      go_enter Tryd.func22, Tryd.ntmps22
      go_wp2_with (rw [hw1.out])
      refine (hsp.out _ he1.out).mono ?_
      rintro e wx ⟨rfl, hwx⟩
      obtain rfl : w2 = wx := hw2.out.symm.trans hwx
      clear hwx
      have hlk := hlk'.out
      go_upto_region 3 with (first | rw [hv3.out] | (refine wpList_put_blk rfl 77 _ _ rfl w2.heap.size #[.int .i64 0, .slice none 0 0] #[.int .i64 (k : Int), .slice A n n] 77 rfl rfl hf3.out rfl (by kernel_rfl) (by simp [Value.oneCell']) ?_; intro v4 hf4 hu4; have hF4 := Lib.hid hf4; have hB4 : Hid (Below w2.heap.size w2 v4) := hu4.to_below hc3.out (Nat.le_refl _) hc3.out.size; have hB3 : Hid (Below w.heap.size w v4) := hB2.out.trans (hB4.out.mono hB2.out.size); have hr3 := Lib.hid (hz2.out.below hB4.out hz2.out.lt); clear hf4 hu4))
      have f0 := hcF0.out _ hF4.out
      have f1 := hcF1.out _ hF4.out
      go_upto_region 5 with fail
      obtain ⟨v5, hv5⟩ : ∃ W, Hid (v4.alloc (.cells #[.int .i64 0, .int .i64 0, .string ⟨#[]⟩, .int .i64 0, .int .i64 0, .string ⟨#[]⟩] 49) = W) := ⟨_, rfl⟩
      have hc5 : Hid (Below v4.heap.size v4 v5) := by rw [← hv5.out]; exact (Below.refl _ v4).alloc (Nat.le_refl _) _
      have hx5 : Hid (Blk v5 v4.heap.size 49 #[.int .i64 0, .int .i64 0, .string ⟨#[]⟩, .int .i64 0, .int .i64 0, .string ⟨#[]⟩]) := by rw [← hv5.out]; exact Lib.hid (Blk.new _ _ _)
      go_upto_region 6 with (first | rw [hv5.out] | (refine wpList_put_blk rfl 49 _ _ rfl v4.heap.size #[.int .i64 0, .int .i64 0, .string ⟨#[]⟩, .int .i64 0, .int .i64 0, .string ⟨#[]⟩] #[.int .i64 (k : Int), .int .i64 0, .string ⟨#[]⟩, .int .i64 0, .int .i64 0, .string ⟨#[]⟩] 49 rfl rfl hx5.out rfl (by kernel_rfl) (by simp [Value.oneCell']) ?_; intro v6 hx6 hu6; have hX6 := Lib.hid hx6; have hU6 := Lib.hid hu6; clear hx6 hu6))
      have hB6 : Hid (Below v4.heap.size v4 v6) := hU6.out.to_below hc5.out (Nat.le_refl _) hc5.out.size
      clear f0 f1
      have hF6 := Lib.hid (hF4.out.below hB6.out hF4.out.lt)
      have f0 := hcF0.out _ hF6.out
      have f1 := hcF1.out _ hF6.out
      have hz6 := Lib.hid (hr3.out.below hB6.out hr3.out.lt)
      have hw4 := Lib.hid (hc2.out.below hB4.out hc2.out.lt)
      have hW6 := Lib.hid (hw4.out.below hB6.out hw4.out.lt)
      have he6 := Lib.hid ((he2.out.below hB4.out).below hB6.out)
      have hgs6 := Lib.hid ((hgs2.out.below hB4.out).below hB6.out)
      have hB06 : Hid (Below w.heap.size w v6) := hB3.out.trans (hB6.out.mono hB3.out.size)
      have hlts : Hid (w2.heap.size < v4.heap.size ∧ w2.heap.size ≤ v4.heap.size) := ⟨hF4.out.lt, Nat.le_of_lt hF4.out.lt⟩
      have hrw6 : Hid (0 < n → ∃ rk, A = some ⟨rk, 0, none⟩ ∧ rk < w.heap.size ∧ Blk v6 rk 81 (rowV g1 g2 k)) := by
        intro h0
        obtain ⟨h4, hAe⟩ := hA.out h0
        have hb2 := hrw2.out k hk8'.out h4
        have hb4 := hb2.below hB4.out hb2.lt
        exact ⟨_, hAe, hrlt.out k hk8'.out h4, hb4.below hB6.out hb4.lt⟩
      have hn6 := Lib.hid (hn'.out)
      clear hF4 hB4 hr3 hc5 hx5 hv5 hU6 hB6 hF6 hw4 hcF0 hcF1 hlk hlk' hsp hWC0
      go_wp2_with fail
      go_loopw [40] (fun i wr => ∃ (j : Nat) (y : Stp), j ≤ n ∧ i = .int .i64 (j : Int) ∧ Hid (readPs ps us (stp0 (k : Nat)) = readPs (ps.drop j) (us.drop j) y) ∧ Hid (But v4.heap.size v6 wr) ∧ Hid (Blk wr v4.heap.size 49 y.cells)) (fun i _ => n - (intOf i).toNat)
      case atStart => exact ⟨0, stp0 (k : Nat), by omega, rfl, rfl, But.refl _ _, hX6.out⟩
      case round =>
        obtain ⟨j, y, hj, rfl, hrp, hU, hY⟩ := hrel
        have hzr := Lib.hid (hz6.out.but hU.out (by have := h0lt.out; have := hlts.out; omega))
        by_cases hlt : j < n
        · obtain ⟨p, hp⟩ : ∃ p, ps[j]? = some p := ⟨_, List.getElem?_eq_getElem (by have := hm.out; omega)⟩
          obtain ⟨v, hv⟩ : ∃ v, us[j]? = some v := ⟨_, List.getElem?_eq_getElem (by have := hn'.out; omega)⟩
          obtain ⟨rk, rfl, hrk, hrb⟩ := hrw6.out (by omega)
          have hrr := hrb.but hU.out (by have := h0lt.out; have := hlts.out; omega)
          obtain ⟨hq0, hq1⟩ := rowV_get g1 g2 k j p (by rw [hps.out]; exact hp)
          have q0 : wr.cell? ⟨rk, j * 2, none⟩ = some (.func (.func (gShow p)) #[] (capP g1 g2 p)) := (hrr.cell _).trans hq0
          have q1 : wr.cell? ⟨rk, j * 2 + 1, none⟩ = some (.func (.func (gRead p)) #[] (capP g1 g2 p)) := (hrr.cell _).trans hq1
          have hst := Lib.hid (readPs_step y hp hv)
          have hvl := Lib.hid (husl.out v (List.mem_of_getElem? hv))
          have hWr := Lib.hid (hW6.out.but hU.out (by have := h0lt.out; have := hlts.out; omega))
          have hWv := Lib.hid (hWCn.out j v hv)
          have t2 : decide ((j : Int) < (n : Int)) = true := by simp; omega
          have t3 : decide (j < n) = true := by simp; omega
          have i1 : (j : Int) < (n : Int) := by omega
          clear hrr hq0 hq1 hp hv hrb
          go_upto_region 9 with fail
          obtain ⟨w8, hw8⟩ : ∃ W, Hid (wr.alloc (.cells #[.func (.func (gShow p)) #[] (capP g1 g2 p), .func (.func (gRead p)) #[] (capP g1 g2 p)] 81) = W) := ⟨_, rfl⟩
          rw [hw8.out]
          have hb8 : Hid (Below wr.heap.size wr w8) := by rw [← hw8.out]; exact (Below.refl _ wr).alloc (Nat.le_refl _) _
          have hp8 : Hid (Blk w8 wr.heap.size 81 #[.func (.func (gShow p)) #[] (capP g1 g2 p), .func (.func (gRead p)) #[] (capP g1 g2 p)]) := by rw [← hw8.out]; exact Lib.hid (Blk.new _ _ _)
          have hY8 := Lib.hid (hY.out.below hb8.out hY.out.lt)
          have hW8 := Lib.hid (hWr.out.below hb8.out hWr.out.lt)
          have hU8 := Lib.hid (hU.out.below hb8.out)
          have a1 : w8.cell? ⟨wr.heap.size, 1, none⟩ = some (.func (.func (gRead p)) #[] (capP g1 g2 p)) := hp8.out.cell 1
          have a2 : w8.cell? ⟨w1.heap.size, j + 1, none⟩ = some (.string ⟨v.toArray⟩) := (hW8.out.cell _).trans hWv.out
          have a3 : w8.cell? ⟨w1.heap.size, 1 + j, none⟩ = some (.string ⟨v.toArray⟩) := by rw [Nat.add_comm]; exact a2
          have k1 : IntKind.i64.wrap (1 + (j : Int)) = 1 + (j : Int) := IntWalk.i64_in _ (by omega)
          have k2 : (0 : Int) ≤ 1 + (j : Int) := by omega
          have k3 : 1 + (j : Int) < (n : Int) + 1 := by omega
          have k4 : (1 + (j : Int)).toNat = j + 1 := by omega
          clear q0 q1
          go_still_tail 7, (by kernel_rfl)
          change wpList _ _ _ _ _ w8.drew
          have he8 : Env w8.drew := (he6.out.but hU8.out (by have := h0lt.out; have := hlts.out; omega)).belowB ((Below.refl w8.heap.size w8).drew) (by have := h0lt.out; have := hlts.out; have := hU8.out.size; have := hX6.out.lt; omega)
          have hg8 : Gs w8.drew g1 g2 := (hgs6.out.but hU8.out (by have := h0lt.out; have := hlts.out; have := hglt.out; omega) (by have := h0lt.out; have := hlts.out; have := hglt.out; omega)).below ((Below.refl w8.heap.size w8).drew)
          have hcl := Lib.hid (read_any p y v v4.heap.size w8.drew he8 hY8.out.drew (by have := h0lt.out; have := hlts.out; omega) hvl.out g1 g2 hg8)
          have eg := enters_read p
          clear he8 hg8 a1 a2 a3 k1 k2 k3 k4
          obtain ⟨b, hb⟩ : ∃ b, Hid ((readP y v p).isSome = b) := ⟨_, Lib.hid rfl⟩
          cases b with
          | true =>
            obtain ⟨y', hy'⟩ : ∃ y', readP y v p = some y' := Option.isSome_iff_exists.1 hb.out
            have hy2 := Lib.hid hy'
            clear hy'
            go_wp2_with (go_at_fn (gRead p); refine hcl.out.mono ?_; rintro e w9 ⟨z, rfl, hzb, hzx, hzu⟩; rw [hb.out]; have hZb := Lib.hid hzb; have hZx := Lib.hid hzx; have hZu := Lib.hid hzu; clear hzb hzx hzu)
            have hze := hZx.out y' hy2.out
            subst hze
            go_roundw
            case rel => exact ⟨j + 1, z, by omega, by go_num, by rw [hrp.out, hst.out, hy2.out]; rfl, (hU8.out.below ((Below.refl w8.heap.size w8).drew)).trans hZu.out, hZb.out⟩
            case measure => simp [intOf]; omega
          | false =>
            have hy2 : Hid (readPs ps us (stp0 (k : Nat)) = none) := by
              unfold Hid
              rw [hrp.out, hst.out]
              cases e : readP y v p with
              | none => rfl
              | some y' => have := hb.out; rw [e] at this; cases this
            have hz8 := hzr.out.below hb8.out hzr.out.lt
            go_wp2_with (first | (go_at_fn (gRead p); refine hcl.out.mono ?_; rintro e w9 ⟨z, rfl, hzb, hzx, hzu⟩; rw [hb.out]; have hZu := Lib.hid hzu; have hz9 := Lib.hid (hz8.drew.but hzu (by have := h0lt.out; have := hlts.out; omega)); clear hzb hzx hzu) | (refine wpList_put_blk rfl 49 _ _ rfl w.heap.size #[.int .i64 0, .int .i64 0, .string ⟨#[]⟩, .int .i64 0, .int .i64 0, .string ⟨#[]⟩] #[.int .i64 0, .int .i64 0, .string ⟨#[]⟩, .int .i64 0, .int .i64 0, .string ⟨#[]⟩] 49 rfl rfl hz9.out rfl (by kernel_rfl) (by simp [Value.oneCell']) ?_; intro v10 hrv100 huv100; have hrv10 := Lib.hid hrv100; have huv10 := Lib.hid huv100; clear hrv100 huv100))
            rw [hy2.out]
            exact bodyPost_ret (results_row2 rfl _ _ w.heap.size 49 _ _ rfl hrv10.out Tryd.underlying49 rfl (by kernel_rfl)) rfl ⟨rfl, huv10.out.to_below (((hU8.out.below ((Below.refl w8.heap.size w8).drew)).trans hZu.out).to_below hB06.out (by have := h0lt.out; have := hlts.out; omega) hB06.out.size) (Nat.le_refl _) (by have := ((hU8.out.below ((Below.refl w8.heap.size w8).drew)).trans hZu.out).size; have := hB06.out.size; omega)⟩
        · have hjn : Hid (readPs ps us (stp0 (k : Nat)) = some y) := by
            unfold Hid
            rw [hrp.out, List.drop_eq_nil_of_le (by have := hm.out; omega), List.drop_eq_nil_of_le (by have := hn'.out; omega), readPs]
          have t2 : decide ((j : Int) < (n : Int)) = false := by simp; omega
          have t3 : decide (j < n) = false := by simp; omega
          go_wp2_with (first | (refine wpList_get_blk rfl 49 _ rfl v4.heap.size y.cells 49 _ rfl hY.out Tryd.underlying49 rfl (by kernel_rfl) ?_) | (refine wpList_put_blk rfl 49 _ _ rfl w.heap.size #[.int .i64 0, .int .i64 0, .string ⟨#[]⟩, .int .i64 0, .int .i64 0, .string ⟨#[]⟩] y.cells 49 rfl rfl hzr.out rfl (by kernel_rfl) (by simp [Value.oneCell']) ?_; intro v7 hr7 hu7; have hR7 := Lib.hid hr7; have hU7 := Lib.hid hu7; clear hr7 hu7))
          rw [hjn.out]
          exact bodyPost_ret (results_row2 rfl _ _ w.heap.size 49 _ _ rfl hR7.out Tryd.underlying49 rfl (by kernel_rfl)) rfl ⟨rfl, hU7.out.to_below (hU.out.to_below hB06.out (by have := h0lt.out; have := hlts.out; omega) hB06.out.size) (Nat.le_refl _) (by have := hU.out.size; have := hB06.out.size; omega)⟩
    · have hno : Hid (readPs ps us (stp0 (k : Nat)) = none) := by
        unfold Hid
        cases e : readPs ps us (stp0 (k : Nat)) with
        | none => rfl
        | some z => exact absurd ((hn'.out.symm.trans (readPs_len _ _ _ _ e).symm).trans hm.out) hl
      rw [hno.out]
      have t1 : (((n : Int) + 1) != 1 + (m : Int)) = true := by simp; omega
      go_enter Tryd.func22, Tryd.ntmps22
      go_wp2_with (rw [hw1.out])
      refine (hsp.out _ he1.out).mono ?_
      rintro e wx ⟨rfl, hwx⟩
      obtain rfl : w2 = wx := hw2.out.symm.trans hwx
      clear hwx
      have hlk := hlk'.out
      go_upto_region 3 with (first | rw [hv3.out] | (refine wpList_put_blk rfl 77 _ _ rfl w2.heap.size #[.int .i64 0, .slice none 0 0] #[.int .i64 (k : Int), .slice A m m] 77 rfl rfl hf3.out rfl (by kernel_rfl) (by simp [Value.oneCell']) ?_; intro v4 hf4 hu4; have hF4 := Lib.hid hf4; have hB4 : Hid (Below w2.heap.size w2 v4) := hu4.to_below hc3.out (Nat.le_refl _) hc3.out.size; have hB3 : Hid (Below w.heap.size w v4) := hB2.out.trans (hB4.out.mono hB2.out.size); have hr3 := Lib.hid (hz2.out.below hB4.out hz2.out.lt); clear hf4 hu4))
      have f0 := hcF0.out _ hF4.out
      have f1 := hcF1.out _ hF4.out
      go_wp2_with (first | (refine wpList_put_blk rfl 49 _ _ rfl w.heap.size #[.int .i64 0, .int .i64 0, .string ⟨#[]⟩, .int .i64 0, .int .i64 0, .string ⟨#[]⟩] #[.int .i64 0, .int .i64 0, .string ⟨#[]⟩, .int .i64 0, .int .i64 0, .string ⟨#[]⟩] 49 rfl rfl hr3.out rfl (by kernel_rfl) (by simp [Value.oneCell']) ?_; intro v5 hrv50 huv50; have hrv5 := Lib.hid hrv50; have huv5 := Lib.hid huv50; clear hrv50 huv50))
      exact bodyPost_ret (results_row2 rfl _ _ w.heap.size 49 _ _ rfl hrv5.out Tryd.underlying49 rfl (by kernel_rfl)) rfl ⟨rfl, huv5.out.to_below hB3.out (Nat.le_refl _) hB3.out.size⟩
end Go.Proofs.YtheiogafjinihaaDoor

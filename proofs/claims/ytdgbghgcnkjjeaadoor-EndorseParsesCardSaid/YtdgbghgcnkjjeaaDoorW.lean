/- Walks of line and Text. -/
import Derived.Test.YtdgbghgcnkjjeaaDoorV
import Derived.WalkSmall
namespace Go.Proofs.YtdgbghgcnkjjeaaDoor
open Go.RowKit Go.BigFrame

/-- What the library's functions ask of its own variables: the table of tens is as the text lays it; the bound of its search is some number. -/
structure Env (w : World) : Prop where
  tab : Lib.TabIs Tryd.prog w "internal/strconv.uint64pow10" .u64 Lib.pow10Tab
  most : ∃ m, w.cell? ⟨0, 0, none⟩ = some (.int .i64 m)
  size : 6 ≤ w.heap.size
theorem Env.below {w w' : World} (h : Env w) (hb : Below w.heap.size w w') : Env w' := by
  have hs := h.size
  refine ⟨var?_below hb (g := 1) (by kernel_rfl) (by omega) h.tab, ?_, Nat.le_trans hs hb.size⟩
  obtain ⟨m, hm⟩ := h.most
  exact ⟨m, by rw [hb.cell (by show 0 < w.heap.size; omega)]; exact hm⟩

theorem below_grows (w : World) (k : Nat) (os : Array Obj) : Below w.heap.size w (Go.Sort.grow (w.drewN k) os) := by
  refine ⟨rfl, rfl, rfl, by simp [Go.Sort.grow], fun j hj => ?_⟩
  show (w.heap ++ os)[j]? = w.heap[j]?
  rw [Array.getElem?_append_left hj]

theorem itoa_any (d : Nat) (w : World) (hd : d ≤ 1048576) (he : Env w) :
    Calls Tryd.prog 26 #[.int .i64 (d : Int)] w fun e w' => e = .returned (.string ⟨(Lib.decDigits d).toArray⟩) ∧ Below w.heap.size w w' := by
  refine (Tryd.strconv_Itoa (d : Int) (by omega) (by omega) w he.tab).mono ?_
  rintro e w' ⟨rfl, k, os, rfl⟩
  exact ⟨by simp [Lib.itoa], below_grows w k os⟩

theorem blk_second (W0 : World) (o : Obj) (t : TypeId) (cs : Array Value) : Blk ((W0.alloc o).alloc (.cells cs t)) (W0.heap.size + 1) t cs := by
  have := Blk.new (W0.alloc o) t cs
  rwa [World.size_alloc] at this
theorem join_cells (xs : List ByteArray) (J : List UInt8) (b c : Nat) (w : World) (hJ : Hid (J = Lib.join (xs.map fun x => x.data.toList) [32])) (h : Blk w b 9 (xs.map Value.string).toArray) (hc : xs.length ≤ c) (hx : xs.length ≤ 4) (hl : J.length ≤ 2000000) :
    Calls Tryd.prog 27 #[.slice (some ⟨b, 0, none⟩) xs.length c, .string ⟨#[32]⟩] w fun e w' => e = .returned (.string ⟨J.toArray⟩) ∧ Below w.heap.size w w' := by
  have hJ' := hJ.out
  subst hJ'
  refine Tryd.strings_Join b 0 c xs ⟨#[32]⟩ w (fun j x hj => ?_) h.lt (by omega) hc (Nat.le_trans hl (by omega))
  rw [Nat.zero_add, h.cell]
  simp [hj]

set_option maxRecDepth 100000 in
set_option maxHeartbeats 800000 in
theorem lineE_blank (f t : ByteArray) (d : Nat) (w : World) (hf : f.size ≤ 100) (hd : d ≤ 1048576) (he : Env w) :
    Calls Tryd.prog 15 #[.agg #[.string f, .string t, .int .i64 1, .int .i64 (d : Int)]] w fun e w' => e = .returned (.string ⟨(lineL ⟨f, t, 1, d⟩).toArray⟩) ∧ Below w.heap.size w w' := by
  have hdl : (Lib.decDigits d).length ≤ 1048577 := by have := dec_len d; omega
  go_enter Tryd.func15, Tryd.ntmps15
  go_wp2_with fail
  refine (itoa_any d _ hd (he.below ((Below.refl _ w).alloc (Nat.le_refl _) _))).mono ?_
  rintro e w1 ⟨rfl, hb⟩
  have hB : Below w.heap.size w w1 := ((Below.refl _ w).alloc (Nat.le_refl _) _).trans (hb.mono (by simp))
  have hc := bcell hb
  simp only [World.size_alloc] at hc
  have hz : w.heap.size < w1.heap.size := by have := hb.size; simp at this; omega
  go_wp2_with fail
  obtain ⟨J, hJ⟩ : ∃ J, Hid (J = Lib.join ([⟨#[98, 108, 97, 110, 107]⟩, f, ⟨(Lib.decDigits d).toArray⟩].map fun (x : ByteArray) => x.data.toList) [32]) := ⟨_, rfl⟩
  have hJl : J.length ≤ 2000000 := by rw [hJ.out]; simp [Lib.join, List.intercalate]; omega
  refine (join_cells [⟨#[98, 108, 97, 110, 107]⟩, f, ⟨(Lib.decDigits d).toArray⟩] J _ 3 _ hJ (blk_second w1 _ 9 _) (Nat.le_refl _) (by simp) hJl).mono ?_
  rintro e w2 ⟨rfl, hb2⟩
  have hB2 : Below w.heap.size w w2 := ((hB.alloc hB.size _).alloc (by simp; have := hB.size; omega) _).trans (hb2.mono (by simp; have := hB.size; omega))
  go_wp2
  go_ret
  refine ⟨retStr ?_, hB2⟩
  rw [show lineL ⟨f, t, 1, (d : Int)⟩ = J ++ [10] from by rw [hJ.out]; simp [lineL, Lib.join, List.intercalate]]
  simp

set_option maxRecDepth 100000 in
set_option maxHeartbeats 800000 in
theorem lineE_other (f t : ByteArray) (k : Int) (d : Nat) (w : World) (hk : (k == 1) = false) (hf : f.size ≤ 100) (ht : t.size ≤ 100) (hd : d ≤ 1048576) (he : Env w) :
    Calls Tryd.prog 15 #[.agg #[.string f, .string t, .int .i64 k, .int .i64 (d : Int)]] w fun e w' => e = .returned (.string ⟨(lineL ⟨f, t, k, d⟩).toArray⟩) ∧ Below w.heap.size w w' := by
  have hdl : (Lib.decDigits d).length ≤ 1048577 := by have := dec_len d; omega
  have hk1 : ¬ k = 1 := by simpa using hk
  go_enter Tryd.func15, Tryd.ntmps15
  go_wp2_with fail
  refine (itoa_any d _ hd (he.below ((Below.refl _ w).alloc (Nat.le_refl _) _))).mono ?_
  rintro e w1 ⟨rfl, hb⟩
  have hB : Below w.heap.size w w1 := ((Below.refl _ w).alloc (Nat.le_refl _) _).trans (hb.mono (by simp))
  have hc := bcell hb
  simp only [World.size_alloc] at hc
  have hz : w.heap.size < w1.heap.size := by have := hb.size; simp at this; omega
  by_cases hk2 : (k == 2) = true
  · have hk2' : k = 2 := by simpa using hk2
    have hk2h := Lib.hid hk2'
    clear hk2'
    go_wp2_with fail
    obtain ⟨J, hJ⟩ : ∃ J, Hid (J = Lib.join ([⟨#[111, 110, 108, 121]⟩, f, t, ⟨(Lib.decDigits d).toArray⟩].map fun (x : ByteArray) => x.data.toList) [32]) := ⟨_, rfl⟩
    have hJl : J.length ≤ 2000000 := by rw [hJ.out]; simp [Lib.join, List.intercalate]; omega
    refine (join_cells [⟨#[111, 110, 108, 121]⟩, f, t, ⟨(Lib.decDigits d).toArray⟩] J _ 4 _ hJ (Blk.new w1 9 _) (Nat.le_refl _) (by simp) hJl).mono ?_
    rintro e w2 ⟨rfl, hb2⟩
    have hB2 : Below w.heap.size w w2 := (hB.alloc hB.size _).trans (hb2.mono (by simp; have := hB.size; omega))
    go_wp2
    go_ret
    refine ⟨retStr ?_, hB2⟩
    rw [show lineL ⟨f, t, k, (d : Int)⟩ = J ++ [10] from by rw [hJ.out, hk2h.out]; simp [lineL, Lib.join, List.intercalate]]
    simp
  · have hk2' : (k == 2) = false := by simpa using hk2
    have hk3 : ¬ k = 2 := by simpa using hk2
    clear hk2
    go_wp2_with fail
    obtain ⟨J, hJ⟩ : ∃ J, Hid (J = Lib.join ([⟨#[111, 114, 100, 101, 114]⟩, f, t, ⟨(Lib.decDigits d).toArray⟩].map fun (x : ByteArray) => x.data.toList) [32]) := ⟨_, rfl⟩
    have hJl : J.length ≤ 2000000 := by rw [hJ.out]; simp [Lib.join, List.intercalate]; omega
    refine (join_cells [⟨#[111, 114, 100, 101, 114]⟩, f, t, ⟨(Lib.decDigits d).toArray⟩] J _ 4 _ hJ (Blk.new w1 9 _) (Nat.le_refl _) (by simp) hJl).mono ?_
    rintro e w2 ⟨rfl, hb2⟩
    have hB2 : Below w.heap.size w w2 := (hB.alloc hB.size _).trans (hb2.mono (by simp; have := hB.size; omega))
    go_wp2
    go_ret
    refine ⟨retStr ?_, hB2⟩
    rw [show lineL ⟨f, t, k, (d : Int)⟩ = J ++ [10] from by rw [hJ.out]; simp [lineL, Lib.join, List.intercalate, hk1, hk3]]
    simp

theorem lineE_any (x : End) (w : World) (hok : x.okB = true) (hs : x.frm.size ≤ 100 ∧ x.to.size ≤ 100) (he : Env w) :
    Calls Tryd.prog 15 #[.agg #[.string x.frm, .string x.to, .int .i64 x.kind, .int .i64 x.day]] w fun e w' => e = .returned (.string ⟨(lineL x).toArray⟩) ∧ Below w.heap.size w w' := by
  obtain ⟨f, t, k, d⟩ := x
  have hd := okB_day hok
  obtain ⟨n, rfl⟩ := Int.eq_ofNat_of_zero_le hd.1
  simp only at hs hd ⊢
  by_cases hk : k = 1
  · subst hk; exact lineE_blank f t n w hs.1 (by omega) he
  · exact lineE_other f t k n w (by simpa using hk) hs.1 hs.2 (by omega) he

end Go.Proofs.YtdgbghgcnkjjeaaDoor

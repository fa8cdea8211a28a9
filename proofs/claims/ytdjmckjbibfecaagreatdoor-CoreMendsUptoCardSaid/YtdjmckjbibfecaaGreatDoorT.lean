/- Papers in memory; the walks of Field, the program's and the document's. -/
import Derived.IntWalk
import Derived.Deep.QuietTactic
import Derived.BigQuiet
import Derived.Deep.Draws
import Derived.Test.YtdjmckjbibfecaaGreatDoorG
import Derived.Test.YtdjmckjbibfecaaGreatDoorShelf
namespace Go.Proofs.YtdjmckjbibfecaaGreatDoor
open Go Go.RowKit Go.BigFrame

theorem below_grows (w : World) (k : Nat) (os : Array Obj) : Below w.heap.size w (Go.Sort.grow (w.drewN k) os) := by
  refine ⟨rfl, rfl, rfl, by simp [Go.Sort.grow], fun j hj => ?_⟩
  show (w.heap ++ os)[j]? = w.heap[j]?
  rw [Array.getElem?_append_left hj]

def mkB (l : List UInt8) : ByteArray := ⟨l.toArray⟩

/-- What the library's own variables hold. -/
structure Env (w : World) : Prop where
  tab : Lib.TabIs Tryz.prog w "internal/strconv.uint64pow10" .u64 Lib.pow10Tab
  most : ∃ m, w.cell? ⟨5, 0, none⟩ = some (.int .i64 m)
  syn : ∃ te pe, w.cell? ⟨6, 0, none⟩ = some (.iface te pe)
  ran : ∃ te pe, w.cell? ⟨7, 0, none⟩ = some (.iface te pe)
  size : 12 ≤ w.heap.size
theorem Env.below {w w' : World} (h : Env w) (hb : Below w.heap.size w w') : Env w' := by
  have hs := h.size
  have hc : ∀ b n, b < 12 → w'.cell? ⟨b, n, none⟩ = w.cell? ⟨b, n, none⟩ := fun b n hn => hb.cell (by show b < w.heap.size; omega)
  refine ⟨var?_below hb (g := 8) (by kernel_rfl) (by omega) h.tab, ?_, ?_, ?_, Nat.le_trans hs hb.size⟩
  · obtain ⟨m, hm⟩ := h.most
    exact ⟨m, by rw [hc _ _ (by omega)]; exact hm⟩
  · obtain ⟨t, p, hm⟩ := h.syn
    exact ⟨t, p, by rw [hc _ _ (by omega)]; exact hm⟩
  · obtain ⟨t, p, hm⟩ := h.ran
    exact ⟨t, p, by rw [hc _ _ (by omega)]; exact hm⟩
theorem dec_small (u : Nat) (h : u < 10) : Lib.decDigits u = [UInt8.ofNat (48 + u)] := by rw [Lib.decDigits, dif_pos h]
theorem dec_more (u : Nat) (h : ¬ u < 10) : Lib.decDigits u = Lib.decDigits (u / 10) ++ [UInt8.ofNat (48 + u % 10)] := by rw [Lib.decDigits, dif_neg h]
theorem dec_lenK : ∀ (k n : Nat), n < 10 ^ (k + 1) → (Lib.decDigits n).length ≤ k + 1
  | 0, n, h => by rw [dec_small n (by simpa using h)]; simp
  | k + 1, n, h => by
    by_cases h1 : n < 10
    · rw [dec_small n h1]; simp
    · rw [dec_more n h1, List.length_append]
      have := dec_lenK k (n / 10) (by rw [Nat.pow_succ] at h; omega)
      simp; omega
theorem itoa_len {n : Int} (h0 : -9223372036854775808 ≤ n) (h1 : n ≤ 9223372036854775807) : (Lib.itoa n).length ≤ 20 := by
  unfold Lib.itoa
  split
  · have := dec_lenK 18 n.natAbs (by simp; omega)
    simp; omega
  · have := dec_lenK 18 n.toNat (by simp; omega)
    omega
theorem conv_at (W : World) (g : Nat) (k : Int) (h : Blk W g 5 #[.int .u8 k]) : (convert 33 9 (.slice (some ⟨g, 0, none⟩) 1 1)).run Tryz.prog W = .ok (.string ⟨#[UInt8.ofNat k.toNat]⟩) W := by
  have := run_convert_bytes_arg (P := Tryz.prog) W 33 5 Tryz.underlying33 Tryz.underlying5 g 0 1 1 [k] rfl
  exact this (fun i hi => by obtain rfl : i = 0 := by omega
                             exact h.cell 0) 9 Tryz.underlying9
theorem conv_new (W : World) (k : Int) : (convert 33 9 (.slice (some ⟨W.heap.size, 0, none⟩) 1 1)).run Tryz.prog (W.alloc (.cells #[.int .u8 k] 5)) = .ok (.string ⟨#[UInt8.ofNat k.toNat]⟩) (W.alloc (.cells #[.int .u8 k] 5)) :=
  conv_at _ _ _ (Blk.new W 5 _)
theorem cat_mk (a b : List UInt8) : (⟨a.toArray⟩ : ByteArray) ++ ⟨b.toArray⟩ = ⟨(a ++ b).toArray⟩ := by
  apply ByteArray.ext
  simp

theorem itoa_nat (m : Nat) : Lib.itoa (m : Int) = Lib.decDigits m := by unfold Lib.itoa; rw [if_neg (by omega)]; simp
theorem itoa_neg (m : Nat) (h : 1 ≤ m) : Lib.itoa (-(m : Int)) = 45 :: Lib.decDigits m := by unfold Lib.itoa; rw [if_pos (by omega)]; simp

set_option maxRecDepth 100000 in
set_option maxHeartbeats 800000 in
theorem digits_small (m : Nat) (w : World) (hm : m < 10) :
    Calls Tryz.prog 133 #[.int .i64 (m : Int)] w fun e w' => e = .returned (.string (mkB (Lib.itoa (m : Int)))) ∧ Below w.heap.size w w' := by
  have hcv := conv_new w (48 + (m : Int))
  go_enter Tryz.func133, Tryz.ntmps133
  go_wp2
  go_ret
  refine ⟨?_, (Below.refl _ w).alloc (Nat.le_refl _) _⟩
  rw [itoa_nat, dec_small m hm]
  simp [mkB]

set_option maxRecDepth 100000 in
set_option maxHeartbeats 800000 in
theorem digits_one (m : Nat) (w : World) (h1 : 1 ≤ m) (hm : m < 10) :
    Calls Tryz.prog 133 #[.int .i64 (-(m : Int))] w fun e w' => e = .returned (.string (mkB (Lib.itoa (-(m : Int))))) ∧ Below w.heap.size w w' := by
  have hcv := conv_new w (48 - -(m : Int))
  have hcv2 := conv_new w (48 + (m : Int))
  go_enter Tryz.func133, Tryz.ntmps133
  go_wp2
  go_ret
  refine ⟨?_, (Below.refl _ w).alloc (Nat.le_refl _) _⟩
  rw [itoa_neg m h1, dec_small m hm]
  have e : (48 + (m : Int)).toNat = 48 + m := by omega
  simp [mkB]
  exact ByteArray.ext (by simp)

theorem retDig (m : Nat) (hm : 10 ≤ m) : Ending.returned (.string (mkB (Lib.itoa ((m : Int) / 10)) ++ ⟨#[UInt8.ofNat (48 + m % 10)]⟩)) = .returned (.string (mkB (Lib.itoa (m : Int)))) := by
  have e1 : ((m : Int) / 10) = ((m / 10 : Nat) : Int) := by omega
  rw [e1, itoa_nat, itoa_nat, dec_more m (by omega)]
  exact congrArg (fun s => Ending.returned (.string s)) (cat_mk _ [_])

set_option maxRecDepth 100000 in
set_option maxHeartbeats 1600000 in
theorem digits_more (m : Nat) (w : World) (hm : 10 ≤ m) (hm2 : m ≤ 9223372036854775807)
    (ih : ∀ W, Calls Tryz.prog 133 #[.int .i64 ((m : Int) / 10)] W fun e w' => e = .returned (.string (mkB (Lib.itoa ((m : Int) / 10)))) ∧ Below W.heap.size W w') :
    Calls Tryz.prog 133 #[.int .i64 (m : Int)] w fun e w' => e = .returned (.string (mkB (Lib.itoa (m : Int)))) ∧ Below w.heap.size w w' := by
  have w0 : IntKind.i64.wrap ((m : Int) / 10) = (m : Int) / 10 := IntWalk.i64_in _ (by omega)
  have w1 : IntKind.i64.wrap (48 + (m : Int) % 10) = 48 + (m : Int) % 10 := IntWalk.i64_in _ (by omega)
  have w2 : IntKind.u8.wrap (48 + (m : Int) % 10) = 48 + (m : Int) % 10 := IntWalk.u8_in _ (by omega)
  have hz : (mkB (Lib.itoa ((m : Int) / 10))).size ≤ 20 := by rw [mkB, size_list]; exact itoa_len (by omega) (by omega)
  have t1 : (m : Int).tmod 10 = (m : Int) % 10 := IntWalk.rem_in _ _ (by omega)
  have hcv := fun W => conv_new W (48 + (m : Int) % 10)
  have hcv3 := conv_at ((w.alloc (.cells #[.int .u8 (48 + (m : Int) % 10)] 5)).drew) w.heap.size (48 + (m : Int) % 10) (Blk.new w 5 _).drew
  go_enter Tryz.func133, Tryz.ntmps133
  go_wp2_with fail
  go_region_with ((go_at_call 133; (with_reducible refine (ih _).mono ?_); rintro e w2 ⟨rfl, hb2⟩; first | (have hB2 : Below w.heap.size w w2 := ((Below.refl _ w).drew.trans hb2); skip) | (have hB2 : Below w.heap.size w w2 := (((Below.refl _ w).alloc (Nat.le_refl _) _).drew.trans (hb2.mono (by show _ ≤ (w.alloc _).heap.size; simp))); have hcq := conv_at w2 w.heap.size (48 + (m : Int) % 10) (Blk.below (show Blk ((w.alloc (.cells #[.int .u8 (48 + (m : Int) % 10)] 5)).drew) w.heap.size 5 #[.int .u8 (48 + (m : Int) % 10)] from (Blk.new w 5 _).drew) hb2 (by show _ < (w.alloc _).heap.size; simp)))))
  all_goals
    go_wp2_with fail
    go_ret
    refine ⟨Eq.trans (by simp [Act.put]) (retDig m hm), ?_⟩
    first | exact hB2 | exact hB2.alloc hB2.size _ | exact hB2.trans ((Below.refl _ _).alloc (hB2.size) _)

theorem retDigN (m q r : Nat) (hm : 10 ≤ m) (hq : m / 10 = q) (hr : m % 10 = r) : Ending.returned (.string (mkB (Lib.itoa (-(q : Int))) ++ ⟨#[UInt8.ofNat (48 + r)]⟩)) = .returned (.string (mkB (Lib.itoa (-(m : Int))))) := by
  rw [itoa_neg q (by omega), itoa_neg m (by omega), dec_more m (by omega), hq, hr]
  exact congrArg (fun s => Ending.returned (.string s)) (cat_mk _ [_])

set_option maxRecDepth 100000 in
set_option maxHeartbeats 1600000 in
theorem digits_neg (m : Nat) (w : World) (hm : 10 ≤ m) (hm2 : m ≤ 9223372036854775808)
    (ih : ∀ W, Calls Tryz.prog 133 #[.int .i64 (-((m / 10 : Nat) : Int))] W fun e w' => e = .returned (.string (mkB (Lib.itoa (-((m / 10 : Nat) : Int))))) ∧ Below W.heap.size W w') :
    Calls Tryz.prog 133 #[.int .i64 (-(m : Int))] w fun e w' => e = .returned (.string (mkB (Lib.itoa (-(m : Int))))) ∧ Below w.heap.size w w' := by
  obtain ⟨q, hq⟩ : ∃ q, Hid (m / 10 = q) := ⟨_, rfl⟩
  obtain ⟨r, hr⟩ : ∃ r, Hid (m % 10 = r) := ⟨_, rfl⟩
  rw [hq.out] at ih
  have hr10 : r < 10 := by rw [← hr.out]; exact Nat.mod_lt _ (by omega)
  have hq10 : q ≤ 922337203685477581 := by rw [← hq.out]; omega
  have d1 : (-(m : Int)).tdiv 10 = -(q : Int) := by rw [Int.neg_tdiv, Int.tdiv_eq_ediv_of_nonneg (by omega), ← hq.out]; omega
  have t1 : (-(m : Int)).tmod 10 = -(r : Int) := by rw [Int.neg_tmod, Int.tmod_eq_emod_of_nonneg (by omega), ← hr.out]; omega
  have w0 : IntKind.i64.wrap (-(q : Int)) = -(q : Int) := IntWalk.i64_in _ (by omega)
  have w1 : IntKind.i64.wrap (48 - -(r : Int)) = 48 + (r : Int) := by rw [IntWalk.i64_in _ (by omega)]; omega
  have w1' : IntKind.i64.wrap (48 + (r : Int)) = 48 + (r : Int) := IntWalk.i64_in _ (by omega)
  have w2 : IntKind.u8.wrap (48 + (r : Int)) = 48 + (r : Int) := IntWalk.u8_in _ (by omega)
  have hz : (mkB (Lib.itoa (-(q : Int)))).size ≤ 20 := by rw [mkB, size_list]; exact itoa_len (by omega) (by omega)
  have hcv := fun W => conv_new W (48 + (r : Int))
  have hcv3 := conv_at ((w.alloc (.cells #[.int .u8 (48 + (r : Int))] 5)).drew) w.heap.size (48 + (r : Int)) (Blk.new w 5 _).drew
  go_enter Tryz.func133, Tryz.ntmps133
  go_wp2_with fail
  go_region_with ((go_at_call 133; (with_reducible refine (ih _).mono ?_); rintro e w2 ⟨rfl, hb2⟩; first | (have hB2 : Below w.heap.size w w2 := ((Below.refl _ w).drew.trans hb2); skip) | (have hB2 : Below w.heap.size w w2 := (((Below.refl _ w).alloc (Nat.le_refl _) _).drew.trans (hb2.mono (by show _ ≤ (w.alloc _).heap.size; simp))); have hcq := conv_at w2 w.heap.size (48 + (r : Int)) (Blk.below (show Blk ((w.alloc (.cells #[.int .u8 (48 + (r : Int))] 5)).drew) w.heap.size 5 #[.int .u8 (48 + (r : Int))] from (Blk.new w 5 _).drew) hb2 (by show _ < (w.alloc _).heap.size; simp)))))
  all_goals
    go_wp2_with fail
    go_ret
    refine ⟨Eq.trans (by simp [Act.put]) (retDigN m q r hm hq.out hr.out), ?_⟩
    first | exact hB2 | exact hB2.alloc hB2.size _ | exact hB2.trans ((Below.refl _ _).alloc (hB2.size) _)

theorem digits_pos : ∀ (f m : Nat), m < 10 ^ (f + 1) → m ≤ 9223372036854775807 → ∀ w, Calls Tryz.prog 133 #[.int .i64 (m : Int)] w fun e w' => e = .returned (.string (mkB (Lib.itoa (m : Int)))) ∧ Below w.heap.size w w'
  | 0, m, h, _, w => digits_small m w (by simpa using h)
  | f + 1, m, h, h2, w => by
    by_cases hs : m < 10
    · exact digits_small m w hs
    · refine digits_more m w (by omega) h2 fun W => ?_
      have e : ((m : Int) / 10) = ((m / 10 : Nat) : Int) := by omega
      rw [e]
      exact digits_pos f (m / 10) (by rw [Nat.pow_succ] at h; omega) (by omega) W
theorem digits_negs : ∀ (f m : Nat), m < 10 ^ (f + 1) → m ≤ 9223372036854775808 → 1 ≤ m → ∀ w, Calls Tryz.prog 133 #[.int .i64 (-(m : Int))] w fun e w' => e = .returned (.string (mkB (Lib.itoa (-(m : Int))))) ∧ Below w.heap.size w w'
  | 0, m, h, _, h1, w => digits_one m w h1 (by simpa using h)
  | f + 1, m, h, h2, h1, w => by
    by_cases hs : m < 10
    · exact digits_one m w h1 hs
    · exact digits_neg m w (by omega) h2 fun W => digits_negs f (m / 10) (by rw [Nat.pow_succ] at h; omega) (by omega) (by omega) W
theorem digits_any (n : Int) (w : World) (h0 : -9223372036854775808 ≤ n) (h1 : n ≤ 9223372036854775807) :
    Calls Tryz.prog 133 #[.int .i64 n] w fun e w' => e = .returned (.string (mkB (Lib.itoa n))) ∧ Below w.heap.size w w' := by
  by_cases h : 0 ≤ n
  · obtain ⟨m, rfl⟩ := Int.eq_ofNat_of_zero_le h
    exact digits_pos 18 m (by simp; omega) (by omega) w
  · obtain ⟨m, hm⟩ : ∃ m : Nat, n = -(m : Int) := ⟨n.natAbs, by omega⟩
    subst hm
    exact digits_negs 18 m (by simp; omega) (by omega) (by omega) w
end Go.Proofs.YtdjmckjbibfecaaGreatDoor
namespace Go.Proofs.YtdjmckjbibfecaaGreatDoor
open Go Go.RowKit Go.BigFrame Go.Maps

structure Fld where
  name : ByteArray
  value : ByteArray
/-- A row of fields in memory. -/
def FieldsAt (w : World) (A : Option Addr) (l : List Fld) : Prop :=
  ∀ (k : Nat) (x : Fld), l[k]? = some x → ∃ b off, A = some ⟨b, off, none⟩ ∧ w.cell? ⟨b, off + k * 2, none⟩ = some (.string x.name) ∧ w.cell? ⟨b, off + k * 2 + 1, none⟩ = some (.string x.value)
theorem FieldsAt.below {w w' : World} {A : Option Addr} {l : List Fld} (h : FieldsAt w A l) (hb : Below w.heap.size w w') : FieldsAt w' A l := by
  intro k x hk
  obtain ⟨b, off, e, h0, h1⟩ := h k x hk
  have hlt : b < w.heap.size := World.block_lt_of_cell? w _ h0
  exact ⟨b, off, e, by rw [hb.cell hlt]; exact h0, by rw [hb.cell hlt]; exact h1⟩

/-- The value of the first field of a name. -/
def getF : List Fld → ByteArray → Option ByteArray
  | [], _ => none
  | x :: l, s => if x.name.toList = s.toList then some x.value else getF l s
theorem getF_no {l : List Fld} {k : Nat} {x : Fld} {s : ByteArray} {r : Option ByteArray} (hr : r = getF (l.drop k) s) (hx : l[k]? = some x) (h : ¬ x.name.toList = s.toList) : r = getF (l.drop (k + 1)) s := by
  obtain ⟨hk, he⟩ := List.getElem?_eq_some_iff.1 hx
  rw [hr, List.drop_eq_getElem_cons hk, he, getF, if_neg h]
theorem getF_yes {l : List Fld} {k : Nat} {x : Fld} {s : ByteArray} {r : Option ByteArray} (hr : r = getF (l.drop k) s) (hx : l[k]? = some x) (h : x.name.toList = s.toList) : r = some x.value := by
  obtain ⟨hk, he⟩ := List.getElem?_eq_some_iff.1 hx
  rw [hr, List.drop_eq_getElem_cons hk, he, getF, if_pos h]
def getV (l : List Fld) (s : ByteArray) : ByteArray := (getF l s).getD ⟨#[]⟩
def getB (l : List Fld) (s : ByteArray) : Bool := (getF l s).isSome

set_option maxRecDepth 100000 in
set_option maxHeartbeats 800000 in
theorem place1_any (nm vl : ByteArray) (g : Nat) (s : ByteArray) (w : World) (hg : w.cell? ⟨g, 0, none⟩ = some (.string s)) :
    Calls Tryz.prog 154 #[.agg #[.string nm, .string vl], .pointer (some ⟨g, 0, none⟩)] w fun e w' => e = .returned (.bool (decide (nm.toList = s.toList))) ∧ Below w.heap.size w w' := by
  have hb : Below w.heap.size w (w.alloc (.cells #[.string nm, .string vl] 108)) := (Below.refl _ w).alloc (Nat.le_refl _) _
  have hgl : g < w.heap.size := World.block_lt_of_cell? w _ hg
  have hg1 : (w.alloc (.cells #[.string nm, .string vl] 108)).cell? ⟨g, 0, none⟩ = some (.string s) := by rw [hb.cell hgl]; exact hg
  go_enter Tryz.func154, Tryz.ntmps154
  go_wp2_with fail
  go_ret
  exact ⟨congrArg (fun b => Ending.returned (.bool b)) (show (nm.toList == s.toList) = decide (nm.toList = s.toList) by rw [Bool.eq_iff_iff]; simp), hb⟩

def Found (l : List Fld) (s : ByteArray) (i : Int) : Prop := (i = -1 ∧ getF l s = none) ∨ ∃ (k : Nat) (x : Fld), i = (k : Int) ∧ l[k]? = some x ∧ getF l s = some x.value

set_option maxRecDepth 100000 in
set_option maxHeartbeats 800000 in
theorem index_any (A : Option Addr) (n c : Nat) (l : List Fld) (s : ByteArray) (g : Nat) (w : World) (hn : n ≤ maxLen) (hl : Hid (l.length = n)) (hA : Hid (FieldsAt w A l)) (hg : w.cell? ⟨g, 0, none⟩ = some (.string s)) :
    Calls Tryz.prog 153 #[.slice A n c, .func (Fn.func 154) #[] #[.pointer (some ⟨g, 0, none⟩)]] w fun e w' => ∃ i, e = .returned (.int .i64 i) ∧ Found l s i ∧ Below w.heap.size w w' := by
  unfold maxLen at hn
  have hgl : g < w.heap.size := World.block_lt_of_cell? w _ hg
  have hg' := Lib.hid hg
  clear hg
  go_enter Tryz.func153, Tryz.ntmps153
  go_wp2
  go_loopw [8] (fun i wr => ∃ k : Nat, k ≤ n ∧ i = .int .i64 k ∧ Hid (getF l s = getF (l.drop k) s) ∧ Below w.heap.size w wr) (fun i _ => n - (intOf i).toNat)
  case atStart => exact ⟨0, Nat.zero_le _, rfl, rfl, Below.refl _ _⟩
  case round =>
    obtain ⟨k, hk, rfl, hsame, hB⟩ := hrel
    by_cases hlt : k < n
    · obtain ⟨x, hx⟩ : ∃ x, l[k]? = some x := ⟨_, List.getElem?_eq_getElem (by have := hl.out; omega)⟩
      have hx' := Lib.hid hx
      clear hx
      obtain ⟨b, off, rfl, h0, h1⟩ := (hA.out.below hB) k x hx'.out
      obtain ⟨nm, vl⟩ := x
      simp only at h0 h1
      have hgr : wr.cell? ⟨g, 0, none⟩ = some (.string s) := by rw [hB.cell hgl]; exact hg'.out
      have hgr' := Lib.hid hgr
      clear hgr
      go_wp2_with fail
      refine (place1_any nm vl g s wr hgr'.out).mono ?_
      rintro e w1 ⟨rfl, hb1⟩
      have hB1 : Below w.heap.size w w1 := hB.trans (hb1.mono hB.size)
      by_cases heq : nm.toList = s.toList
      · rw [decide_eq_true heq]
        have heq' := Lib.hid heq
        clear heq
        go_wp2_with fail
        go_ret
        exact ⟨_, rfl, .inr ⟨k, ⟨nm, vl⟩, rfl, hx'.out, getF_yes hsame.out hx'.out heq'.out⟩, hB1⟩
      · rw [decide_eq_false heq]
        have heq' := Lib.hid heq
        clear heq
        go_wp2_with fail
        go_roundw
        case rel => exact ⟨k + 1, by omega, by go_num, getF_no hsame.out hx'.out heq'.out, hB1⟩
        case measure => simp [intOf]; omega
    · go_wp2_with fail
      go_ret
      exact ⟨_, rfl, .inl ⟨rfl, by rw [hsame.out, List.drop_eq_nil_of_le (by have := hl.out; omega)]; rfl⟩, hB⟩

set_option maxRecDepth 100000 in
set_option maxHeartbeats 800000 in
theorem place_any (A : Option Addr) (n c : Nat) (l : List Fld) (s : ByteArray) (w : World) (hn : n ≤ maxLen) (hl : Hid (l.length = n)) (hA : Hid (FieldsAt w A l)) :
    Calls Tryz.prog 97 #[.slice A n c, .string s] w fun e w' => ∃ i, e = .returned (.int .i64 i) ∧ Found l s i ∧ Below w.heap.size w w' := by
  go_enter Tryz.func97, Tryz.ntmps97
  have hb0 : Below w.heap.size w (w.alloc (.cells #[.string s] 9)) := (Below.refl _ w).alloc (Nat.le_refl _) _
  have hc0 : (w.alloc (.cells #[.string s] 9)).cell? ⟨w.heap.size, 0, none⟩ = some (.string s) := by rw [(Blk.new w 9 _).cell]; rfl
  go_wp2_with fail
  refine (index_any A n c l s w.heap.size _ hn hl (hA.out.below hb0) hc0).mono ?_
  rintro e w1 ⟨i, rfl, hF, hb1⟩
  have hF' := Lib.hid hF
  clear hF
  go_wp2_with fail
  go_ret
  exact ⟨i, rfl, hF'.out, hb0.trans (hb1.mono (by simp))⟩

set_option maxRecDepth 100000 in
set_option maxHeartbeats 800000 in
theorem get_any (A : Option Addr) (n c : Nat) (l : List Fld) (s : ByteArray) (w : World) (hn : n ≤ maxLen) (hl : Hid (l.length = n)) (hA : Hid (FieldsAt w A l)) :
    Calls Tryz.prog 54 #[.slice A n c, .string s] w fun e w' => e = .returned (.tuple #[.string (getV l s), .bool (getB l s)]) ∧ Below w.heap.size w w' := by
  have hn' := hn
  unfold maxLen at hn
  go_enter Tryz.func54, Tryz.ntmps54
  go_wp2_with fail
  refine (place_any A n c l s w hn' hl hA).mono ?_
  rintro e w1 ⟨i, rfl, hF, hb1⟩
  clear hn'
  rcases hF with ⟨rfl, h⟩ | ⟨k, x, rfl, hx, h⟩
  · have h' := Lib.hid h
    clear h
    go_wp2_with fail
    go_ret2
    exact ⟨by unfold getV getB; rw [h'.out]; rfl, hb1⟩
  · have h' := Lib.hid h
    have hlt : k < n := by have := (List.getElem?_eq_some_iff.1 hx).1; have := hl.out; omega
    clear h
    obtain ⟨b, off, rfl, h0, h1⟩ := (hA.out.below hb1) k x hx
    obtain ⟨nm, vl⟩ := x
    simp only at h0 h1
    have hx' := Lib.hid hx
    clear hx
    go_wp2_with fail
    go_ret2
    exact ⟨by unfold getV getB; rw [h'.out]; rfl, hb1⟩

set_option maxRecDepth 100000 in
set_option maxHeartbeats 800000 in
theorem getR_any (A : Option Addr) (n c : Nat) (l : List Fld) (s : ByteArray) (w : World) (hn : n ≤ maxLen) (hl : Hid (l.length = n)) (hA : Hid (FieldsAt w A l)) :
    Calls Tryz.prog 101 #[.slice A n c, .string s] w fun e w' => e = .returned (.tuple #[.string (getV l s), .bool (getB l s)]) ∧ Below w.heap.size w w' := by
  unfold maxLen at hn
  go_enter Tryz.func101, Tryz.ntmps101
  go_wp2_with fail
  go_loopw [6] (fun i wr => w = wr ∧ ∃ k : Nat, k ≤ n ∧ i = .int .i64 k ∧ Hid (getF l s = getF (l.drop k) s)) (fun i _ => n - (intOf i).toNat)
  case atStart => exact ⟨rfl, 0, Nat.zero_le _, rfl, rfl⟩
  case round =>
    obtain ⟨rfl, k, hk, rfl, hsame⟩ := hrel
    by_cases hlt : k < n
    · obtain ⟨x, hx⟩ : ∃ x, l[k]? = some x := ⟨_, List.getElem?_eq_getElem (by have := hl.out; omega)⟩
      have hx' := Lib.hid hx
      clear hx
      obtain ⟨b, off, rfl, h0, h1⟩ := hA.out k x hx'.out
      obtain ⟨nm, vl⟩ := x
      simp only at h0 h1
      by_cases heq : nm.toList = s.toList
      · have hq : (nm.toList == s.toList) = true := by simp [heq]
        have heq' := Lib.hid heq
        clear heq
        go_wp2_with fail
        go_ret2
        exact ⟨by unfold getV getB; rw [getF_yes hsame.out hx'.out heq'.out]; rfl, Below.refl _ _⟩
      · have hq : (nm.toList == s.toList) = false := by simp [heq]
        have heq' := Lib.hid heq
        clear heq
        go_wp2_with fail
        go_roundw
        case rel => exact ⟨trivial, k + 1, by omega, by go_num, getF_no hsame.out hx'.out heq'.out⟩
        case measure => simp [intOf]; omega
    · go_wp2_with fail
      go_ret2
      exact ⟨by unfold getV getB; rw [hsame.out, List.drop_eq_nil_of_le (by have := hl.out; omega)]; rfl, Below.refl _ _⟩
end Go.Proofs.YtdjmckjbibfecaaGreatDoor
namespace Go.Proofs.YtdjmckjbibfecaaGreatDoor
open Go Go.RowKit Go.BigFrame Go.Maps

structure Pap where
  kind : Int
  number : ByteArray
  issuer : ByteArray
  fA : Option Addr
  fc : Nat
  fields : List Fld
/-- A row of papers in memory. -/
def DocsAt (w : World) (A : Option Addr) (l : List Pap) : Prop :=
  ∀ (k : Nat) (x : Pap), l[k]? = some x → ∃ b off, A = some ⟨b, off, none⟩ ∧ w.cell? ⟨b, off + k * 4, none⟩ = some (.int .i64 x.kind) ∧ w.cell? ⟨b, off + k * 4 + 1, none⟩ = some (.string x.number) ∧
    w.cell? ⟨b, off + k * 4 + 2, none⟩ = some (.string x.issuer) ∧ w.cell? ⟨b, off + k * 4 + 3, none⟩ = some (.slice x.fA x.fields.length x.fc) ∧ FieldsAt w x.fA x.fields ∧ x.fields.length ≤ maxLen ∧ (-9223372036854775808 ≤ x.kind ∧ x.kind ≤ 9223372036854775807)
theorem DocsAt.below {w w' : World} {A : Option Addr} {l : List Pap} (h : DocsAt w A l) (hb : Below w.heap.size w w') : DocsAt w' A l := by
  intro k x hk
  obtain ⟨b, off, e, h0, h1, h2, h3, h4, h5⟩ := h k x hk
  have hlt : b < w.heap.size := World.block_lt_of_cell? w _ h0
  exact ⟨b, off, e, by rw [hb.cell hlt]; exact h0, by rw [hb.cell hlt]; exact h1, by rw [hb.cell hlt]; exact h2, by rw [hb.cell hlt]; exact h3, h4.below hb, h5⟩

/-- A field of the first paper of a kind. -/
def fieldD : List Pap → Int → ByteArray → Option ByteArray
  | [], _, _ => none
  | x :: l, k, s => if x.kind = k then getF x.fields s else fieldD l k s
theorem fieldD_no {l : List Pap} {k : Nat} {x : Pap} {i : Int} {s : ByteArray} {r : Option ByteArray} (hr : r = fieldD (l.drop k) i s) (hx : l[k]? = some x) (h : ¬ x.kind = i) : r = fieldD (l.drop (k + 1)) i s := by
  obtain ⟨hk, he⟩ := List.getElem?_eq_some_iff.1 hx
  rw [hr, List.drop_eq_getElem_cons hk, he, fieldD, if_neg h]
theorem fieldD_yes {l : List Pap} {k : Nat} {x : Pap} {i : Int} {s : ByteArray} {r : Option ByteArray} (hr : r = fieldD (l.drop k) i s) (hx : l[k]? = some x) (h : x.kind = i) : r = getF x.fields s := by
  obtain ⟨hk, he⟩ := List.getElem?_eq_some_iff.1 hx
  rw [hr, List.drop_eq_getElem_cons hk, he, fieldD, if_pos h]
/-- What a look-up hands back. -/
def two (r : Option ByteArray) : Value := .tuple #[.string (r.getD ⟨#[]⟩), .bool r.isSome]

set_option maxRecDepth 100000 in
set_option maxHeartbeats 800000 in
theorem field_any (A : Option Addr) (n c : Nat) (l : List Pap) (i : Int) (s : ByteArray) (w : World) (hn : n ≤ maxLen) (hl : Hid (l.length = n)) (hA : Hid (DocsAt w A l)) :
    Calls Tryz.prog 100 #[.slice A n c, .int .i64 i, .string s] w fun e w' => e = .returned (two (fieldD l i s)) ∧ Below w.heap.size w w' := by
  unfold maxLen at hn
  go_enter Tryz.func100, Tryz.ntmps100
  go_wp2_with fail
  go_loopw [12] (fun j wr => ∃ k : Nat, k ≤ n ∧ j = .int .i64 k ∧ Hid (fieldD l i s = fieldD (l.drop k) i s) ∧ Below w.heap.size w wr) (fun i _ => n - (intOf i).toNat)
  case atStart => exact ⟨0, Nat.zero_le _, rfl, rfl, Below.refl _ _⟩
  case round =>
    obtain ⟨k, hk, rfl, hsame, hB⟩ := hrel
    by_cases hlt : k < n
    · obtain ⟨x, hx⟩ : ∃ x, l[k]? = some x := ⟨_, List.getElem?_eq_getElem (by have := hl.out; omega)⟩
      have hx' := Lib.hid hx
      clear hx
      obtain ⟨b, off, rfl, h0, h1, h2, h3, h4, h5, h6⟩ := (hA.out.below hB) k x hx'.out
      obtain ⟨kd, nu, is, fA, fc, fs⟩ := x
      simp only at h0 h1 h2 h3 h4 h5 h6
      have h4' := Lib.hid h4
      have h5' := Lib.hid h5
      clear h4 h5 h6
      obtain ⟨m, hm⟩ : ∃ m, Hid (fs.length = m) := ⟨_, rfl⟩
      rw [hm.out] at h3
      by_cases heq : kd = i
      · subst heq
        go_wp2_with fail
        refine (get_any fA m fc fs s _ (by rw [← hm.out]; exact h5'.out) hm (h4'.out.below ((Below.refl _ _).alloc (Nat.le_refl _) _))).mono ?_
        rintro e w1 ⟨rfl, hb1⟩
        have hB1 : Below w.heap.size w w1 := hB.trans (((Below.refl _ wr).alloc (Nat.le_refl _) _ |>.trans (hb1.mono (by simp))).mono hB.size)
        go_wp2_with fail
        go_ret2
        exact ⟨by rw [fieldD_yes hsame.out hx'.out rfl]; rfl, hB1⟩
      · have heq' := Lib.hid heq
        go_wp2_with fail
        go_roundw
        case rel => exact ⟨k + 1, by omega, by go_num, fieldD_no hsame.out hx'.out heq'.out, hB.alloc hB.size _⟩
        case measure => simp [intOf]; omega
    · go_wp2_with fail
      go_ret2
      exact ⟨by rw [hsame.out, List.drop_eq_nil_of_le (by have := hl.out; omega)]; rfl, hB⟩

set_option maxRecDepth 100000 in
set_option maxHeartbeats 800000 in
theorem fieldR_any (A : Option Addr) (n c : Nat) (l : List Pap) (i : Int) (s : ByteArray) (w : World) (hn : n ≤ maxLen) (hl : Hid (l.length = n)) (hA : Hid (DocsAt w A l)) :
    Calls Tryz.prog 105 #[.slice A n c, .int .i64 i, .string s] w fun e w' => e = .returned (two (fieldD l i s)) ∧ Below w.heap.size w w' := by
  unfold maxLen at hn
  go_enter Tryz.func105, Tryz.ntmps105
  go_wp2_with fail
  go_loopw [8] (fun j wr => ∃ k : Nat, k ≤ n ∧ j = .int .i64 k ∧ Hid (fieldD l i s = fieldD (l.drop k) i s) ∧ Below w.heap.size w wr) (fun i _ => n - (intOf i).toNat)
  case atStart => exact ⟨0, Nat.zero_le _, rfl, rfl, Below.refl _ _⟩
  case round =>
    obtain ⟨k, hk, rfl, hsame, hB⟩ := hrel
    by_cases hlt : k < n
    · obtain ⟨x, hx⟩ : ∃ x, l[k]? = some x := ⟨_, List.getElem?_eq_getElem (by have := hl.out; omega)⟩
      have hx' := Lib.hid hx
      clear hx
      obtain ⟨b, off, rfl, h0, h1, h2, h3, h4, h5, h6⟩ := (hA.out.below hB) k x hx'.out
      obtain ⟨kd, nu, is, fA, fc, fs⟩ := x
      simp only at h0 h1 h2 h3 h4 h5 h6
      have h4' := Lib.hid h4
      have h5' := Lib.hid h5
      clear h4 h5 h6
      obtain ⟨m, hm⟩ : ∃ m, Hid (fs.length = m) := ⟨_, rfl⟩
      rw [hm.out] at h3
      by_cases heq : kd = i
      · subst heq
        go_wp2_with fail
        refine (getR_any fA m fc fs s _ (by rw [← hm.out]; exact h5'.out) hm h4').mono ?_
        rintro e w1 ⟨rfl, hb1⟩
        have hB1 : Below w.heap.size w w1 := hB.trans (hb1.mono hB.size)
        go_wp2_with fail
        go_ret2
        exact ⟨by rw [fieldD_yes hsame.out hx'.out rfl]; rfl, hB1⟩
      · have heq' := Lib.hid heq
        go_wp2_with fail
        go_roundw
        case rel => exact ⟨k + 1, by omega, by go_num, fieldD_no hsame.out hx'.out heq'.out, hB⟩
        case measure => simp [intOf]; omega
    · go_wp2_with fail
      go_ret2
      exact ⟨by rw [hsame.out, List.drop_eq_nil_of_le (by have := hl.out; omega)]; rfl, hB⟩
end Go.Proofs.YtdjmckjbibfecaaGreatDoor

/- Numbers of digits: the program's and the document's. -/
import Derived.Deep.QuietTactic
import Derived.BigQuiet
import Derived.Deep.Draws
import Derived.Test.YtdjmckjbibfecaaGreatDoorL
namespace Go.Proofs.YtdjmckjbibfecaaGreatDoor
open Go Go.RowKit Go.BigFrame Go.Maps

structure Fld where
  name : ByteArray
  value : ByteArray
/-- A row of fields in memory. -/
def FieldsAt (w : World) (A : Option Addr) (l : List Fld) : Prop :=
  ∀ (k : Nat) (x : Fld), l[k]? = some x → ∃ b off, A = some ⟨b, off, none⟩ ∧ w.cell? ⟨b, off + k * 2, none⟩ = some (.string x.name) ∧ w.cell? ⟨b, off + k * 2 + 1, none⟩ = some (.string x.value)
theorem FieldsAt.below {w w' : World} {A : Option Addr} {l : List Fld} (h : FieldsAt w A l) (hb : Below w.heap.size w w') : FieldsAt w' A l := by
  intro k x hk
  obtain ⟨b, off, e, h0, h1⟩ := h k x hk
  have hlt : b < w.heap.size := World.block_lt_of_cell? w _ h0
  exact ⟨b, off, e, by rw [hb.cell hlt]; exact h0, by rw [hb.cell hlt]; exact h1⟩

/-- The value of the first field of a name. -/
def getF : List Fld → ByteArray → Option ByteArray
  | [], _ => none
  | x :: l, s => if x.name.toList = s.toList then some x.value else getF l s
theorem getF_no {l : List Fld} {k : Nat} {x : Fld} {s : ByteArray} {r : Option ByteArray} (hr : r = getF (l.drop k) s) (hx : l[k]? = some x) (h : ¬ x.name.toList = s.toList) : r = getF (l.drop (k + 1)) s := by
  obtain ⟨hk, he⟩ := List.getElem?_eq_some_iff.1 hx
  rw [hr, List.drop_eq_getElem_cons hk, he, getF, if_neg h]
theorem getF_yes {l : List Fld} {k : Nat} {x : Fld} {s : ByteArray} {r : Option ByteArray} (hr : r = getF (l.drop k) s) (hx : l[k]? = some x) (h : x.name.toList = s.toList) : r = some x.value := by
  obtain ⟨hk, he⟩ := List.getElem?_eq_some_iff.1 hx
  rw [hr, List.drop_eq_getElem_cons hk, he, getF, if_pos h]
def getV (l : List Fld) (s : ByteArray) : ByteArray := (getF l s).getD ⟨#[]⟩
def getB (l : List Fld) (s : ByteArray) : Bool := (getF l s).isSome

set_option maxRecDepth 100000 in
set_option maxHeartbeats 800000 in
theorem place1_any (nm vl : ByteArray) (g : Nat) (s : ByteArray) (w : World) (hg : w.cell? ⟨g, 0, none⟩ = some (.string s)) :
    Calls Tryz.prog 154 #[.agg #[.string nm, .string vl], .pointer (some ⟨g, 0, none⟩)] w fun e w' => e = .returned (.bool (decide (nm.toList = s.toList))) ∧ Below w.heap.size w w' := by
  have hb : Below w.heap.size w (w.alloc (.cells #[.string nm, .string vl] 108)) := (Below.refl _ w).alloc (Nat.le_refl _) _
  have hgl : g < w.heap.size := World.block_lt_of_cell? w _ hg
  have hg1 : (w.alloc (.cells #[.string nm, .string vl] 108)).cell? ⟨g, 0, none⟩ = some (.string s) := by rw [hb.cell hgl]; exact hg
  go_enter Tryz.func154, Tryz.ntmps154
  go_wp2_with fail
  go_ret
  exact ⟨congrArg (fun b => Ending.returned (.bool b)) (show (nm.toList == s.toList) = decide (nm.toList = s.toList) by rw [Bool.eq_iff_iff]; simp), hb⟩

def Found (l : List Fld) (s : ByteArray) (i : Int) : Prop := (i = -1 ∧ getF l s = none) ∨ ∃ (k : Nat) (x : Fld), i = (k : Int) ∧ l[k]? = some x ∧ getF l s = some x.value

set_option maxRecDepth 100000 in
set_option maxHeartbeats 800000 in
theorem index_any (A : Option Addr) (n c : Nat) (l : List Fld) (s : ByteArray) (g : Nat) (w : World) (hn : n ≤ maxLen) (hl : Hid (l.length = n)) (hA : Hid (FieldsAt w A l)) (hg : w.cell? ⟨g, 0, none⟩ = some (.string s)) :
    Calls Tryz.prog 153 #[.slice A n c, .func (Fn.func 154) #[] #[.pointer (some ⟨g, 0, none⟩)]] w fun e w' => ∃ i, e = .returned (.int .i64 i) ∧ Found l s i ∧ Below w.heap.size w w' := by
  unfold maxLen at hn
  have hgl : g < w.heap.size := World.block_lt_of_cell? w _ hg
  have hg' := Lib.hid hg
  clear hg
  go_enter Tryz.func153, Tryz.ntmps153
  go_wp2
  go_loopw [8] (fun i wr => ∃ k : Nat, k ≤ n ∧ i = .int .i64 k ∧ Hid (getF l s = getF (l.drop k) s) ∧ Below w.heap.size w wr) (fun i _ => n - (intOf i).toNat)
  case atStart => exact ⟨0, Nat.zero_le _, rfl, rfl, Below.refl _ _⟩
  case round =>
    obtain ⟨k, hk, rfl, hsame, hB⟩ := hrel
    by_cases hlt : k < n
    · obtain ⟨x, hx⟩ : ∃ x, l[k]? = some x := ⟨_, List.getElem?_eq_getElem (by have := hl.out; omega)⟩
      have hx' := Lib.hid hx
      clear hx
      obtain ⟨b, off, rfl, h0, h1⟩ := (hA.out.below hB) k x hx'.out
      obtain ⟨nm, vl⟩ := x
      simp only at h0 h1
      have hgr : wr.cell? ⟨g, 0, none⟩ = some (.string s) := by rw [hB.cell hgl]; exact hg'.out
      have hgr' := Lib.hid hgr
      clear hgr
      go_wp2_with fail
      refine (place1_any nm vl g s wr hgr'.out).mono ?_
      rintro e w1 ⟨rfl, hb1⟩
      have hB1 : Below w.heap.size w w1 := hB.trans (hb1.mono hB.size)
      by_cases heq : nm.toList = s.toList
      · rw [decide_eq_true heq]
        have heq' := Lib.hid heq
        clear heq
        go_wp2_with fail
        go_ret
        exact ⟨_, rfl, .inr ⟨k, ⟨nm, vl⟩, rfl, hx'.out, getF_yes hsame.out hx'.out heq'.out⟩, hB1⟩
      · rw [decide_eq_false heq]
        have heq' := Lib.hid heq
        clear heq
        go_wp2_with fail
        go_roundw
        case rel => exact ⟨k + 1, by omega, by go_num, getF_no hsame.out hx'.out heq'.out, hB1⟩
        case measure => simp [intOf]; omega
    · go_wp2_with fail
      go_ret
      exact ⟨_, rfl, .inl ⟨rfl, by rw [hsame.out, List.drop_eq_nil_of_le (by have := hl.out; omega)]; rfl⟩, hB⟩

set_option maxRecDepth 100000 in
set_option maxHeartbeats 800000 in
theorem place_any (A : Option Addr) (n c : Nat) (l : List Fld) (s : ByteArray) (w : World) (hn : n ≤ maxLen) (hl : Hid (l.length = n)) (hA : Hid (FieldsAt w A l)) :
    Calls Tryz.prog 97 #[.slice A n c, .string s] w fun e w' => ∃ i, e = .returned (.int .i64 i) ∧ Found l s i ∧ Below w.heap.size w w' := by
  go_enter Tryz.func97, Tryz.ntmps97
  have hb0 : Below w.heap.size w (w.alloc (.cells #[.string s] 9)) := (Below.refl _ w).alloc (Nat.le_refl _) _
  have hc0 : (w.alloc (.cells #[.string s] 9)).cell? ⟨w.heap.size, 0, none⟩ = some (.string s) := by rw [(Blk.new w 9 _).cell]; rfl
  go_wp2_with fail
  refine (index_any A n c l s w.heap.size _ hn hl (hA.out.below hb0) hc0).mono ?_
  rintro e w1 ⟨i, rfl, hF, hb1⟩
  have hF' := Lib.hid hF
  clear hF
  go_wp2_with fail
  go_ret
  exact ⟨i, rfl, hF'.out, hb0.trans (hb1.mono (by simp))⟩

set_option maxRecDepth 100000 in
set_option maxHeartbeats 800000 in
theorem get_any (A : Option Addr) (n c : Nat) (l : List Fld) (s : ByteArray) (w : World) (hn : n ≤ maxLen) (hl : Hid (l.length = n)) (hA : Hid (FieldsAt w A l)) :
    Calls Tryz.prog 54 #[.slice A n c, .string s] w fun e w' => e = .returned (.tuple #[.string (getV l s), .bool (getB l s)]) ∧ Below w.heap.size w w' := by
  have hn' := hn
  unfold maxLen at hn
  go_enter Tryz.func54, Tryz.ntmps54
  go_wp2_with fail
  refine (place_any A n c l s w hn' hl hA).mono ?_
  rintro e w1 ⟨i, rfl, hF, hb1⟩
  clear hn'
  rcases hF with ⟨rfl, h⟩ | ⟨k, x, rfl, hx, h⟩
  · have h' := Lib.hid h
    clear h
    go_wp2_with fail
    go_ret2
    exact ⟨by unfold getV getB; rw [h'.out]; rfl, hb1⟩
  · have h' := Lib.hid h
    have hlt : k < n := by have := (List.getElem?_eq_some_iff.1 hx).1; have := hl.out; omega
    clear h
    obtain ⟨b, off, rfl, h0, h1⟩ := (hA.out.below hb1) k x hx
    obtain ⟨nm, vl⟩ := x
    simp only at h0 h1
    have hx' := Lib.hid hx
    clear hx
    go_wp2_with fail
    go_ret2
    exact ⟨by unfold getV getB; rw [h'.out]; rfl, hb1⟩

end Go.Proofs.YtdjmckjbibfecaaGreatDoor
namespace Go.Proofs.YtdjmckjbibfecaaGreatDoor
open Go Go.RowKit Go.BigFrame Go.Maps

/-- The number of digits. -/
def numF (s : List UInt8) : Option Int := match Lib.parseIntB 64 s with
  | .ok v => if -4611686018427387904 ≤ v ∧ v ≤ 4611686018427387904 ∧ Lib.itoa v = s then some v else none
  | _ => none
def twoN (r : Option Int) : Value := .tuple #[.int .i64 (r.getD 0), .bool r.isSome]

theorem below_bytes (w : World) (t : ByteArray) : Below w.heap.size w (Lib.bytesWorld w 5 t) := by
  unfold Lib.bytesWorld
  exact Lib.below_freeze ((Below.drew (Below.refl _ w)).alloc (Nat.le_refl _) _) (p := ⟨w.heap.size, _, none⟩) (Nat.le_refl _) 1
theorem parse_i64 {s : List UInt8} {v : Int} (h : Lib.parseIntB 64 s = .ok v) : -9223372036854775808 ≤ v ∧ v ≤ 9223372036854775807 := by
  unfold Lib.parseIntB at h
  split at h
  · cases h
  · simp only at h
    split at h
    · cases h
    · cases h
    · split at h
      · cases h
      · split at h
        · cases h
        · rename_i u _ h1 h2
          simp only [Lib.NumEnd.ok.injEq] at h
          subst h
          split <;> simp_all <;> omega

set_option maxRecDepth 100000 in
set_option maxHeartbeats 800000 in
theorem format_any (n : Int) (w : World) (h0 : -9223372036854775808 ≤ n) (h1 : n ≤ 9223372036854775807) (he : Env w) :
    Calls Tryz.prog 157 #[.int .i64 n, .int .i64 10] w fun e w' => e = .returned (.string (mkB (Lib.itoa n))) ∧ Below w.heap.size w w' := by
  have he' := Lib.hid he
  clear he
  go_enter Tryz.func157, Tryz.ntmps157
  go_wp2_with fail
  refine (Tryz.internal_strconv_FormatInt_10 n h0 h1 w he'.out.tab).mono ?_
  rintro e w' ⟨rfl, k, os, rfl⟩
  go_wp2_with fail
  go_ret
  exact ⟨rfl, below_grows w k os⟩

def Parsed (s : ByteArray) (w : World) (e : Ending) (w' : World) : Prop := Below w.heap.size w w' ∧ ((∃ v, Lib.parseIntB 64 s.data.toList = .ok v ∧ e = .returned (.tuple #[.int .i64 v, .nilIface])) ∨ (∃ v t p, (∀ v, Lib.parseIntB 64 s.data.toList ≠ .ok v) ∧ e = .returned (.tuple #[.int .i64 v, .iface t p])))
theorem parseInt_any (s : ByteArray) (w : World) (hs : s.size ≤ 4000000) (he : Env w) : Calls Tryz.prog 156 #[.string s, .int .i64 10, .int .i64 64] w (Parsed s w) := by
  cases hp : Lib.parseIntB 64 s.data.toList with
  | ok v =>
    refine (Tryz.strconv_ParseInt_10_at64_ok s (by omega) v hp w).mono ?_
    rintro e w' ⟨rfl, h | ⟨t, h⟩⟩
    · subst h; exact ⟨Below.refl _ _, .inl ⟨v, hp, rfl⟩⟩
    · subst h; exact ⟨below_bytes w t, .inl ⟨v, hp, rfl⟩⟩
  | range =>
    obtain ⟨te, pe, hv⟩ := he.ran
    refine (Tryz.strconv_ParseInt_10_at64_range s (by omega) hp _ w hv (.inr ⟨te, pe, rfl⟩)).mono ?_
    rintro e w' ⟨N, rfl, _, _, hb⟩
    exact ⟨hb, .inr ⟨_, _, _, (fun v => by rw [hp]; intro h; cases h), rfl⟩⟩
  | _ =>
    obtain ⟨te, pe, hv⟩ := he.syn
    refine (Any.strconv_ParseInt_10_at64_syntax Tryz.laysC174 s (by omega) hp _ w hv (.inr ⟨te, pe, rfl⟩)).mono ?_
    rintro e w' ⟨N, rfl, _, _, hb⟩
    exact ⟨hb, .inr ⟨_, _, _, (fun v => by rw [hp]; intro h; cases h), rfl⟩⟩

set_option maxRecDepth 100000 in
set_option maxHeartbeats 1600000 in
theorem number_any (s : ByteArray) (w : World) (hs : s.size ≤ 4000000) (he : Env w) :
    Calls Tryz.prog 99 #[.string s] w fun e w' => e = .returned (twoN (numF s.data.toList)) ∧ Below w.heap.size w w' := by
  have he' := Lib.hid he
  clear he
  go_enter Tryz.func99, Tryz.ntmps99
  go_wp2_with fail
  refine (parseInt_any s w hs he'.out).mono ?_
  rintro e w1 ⟨hb1, ⟨v, hp, rfl⟩ | ⟨v, t, p, hp, rfl⟩⟩
  · have hv := parse_i64 hp
    have hp' := Lib.hid hp
    clear hp
    obtain ⟨hv0, hv1⟩ := hv
    by_cases hlo : v < -4611686018427387904
    · have h0 : Hid (numF s.data.toList = none) := by unfold numF Hid; rw [hp'.out]; simp only; rw [if_neg (by omega)]
      skip
      go_wp2_with fail
      go_ret2
      exact ⟨by rw [h0.out]; rfl, hb1⟩
    · by_cases hhi : 4611686018427387904 < v
      · have h0 : Hid (numF s.data.toList = none) := by unfold numF Hid; rw [hp'.out]; simp only; rw [if_neg (by omega)]
        skip
        go_wp2_with fail
        go_ret2
        exact ⟨by rw [h0.out]; rfl, hb1⟩
      · have hr := Lib.hid (And.intro hv0 hv1)
        clear hv0 hv1
        go_wp2_with fail
        refine (format_any v w1 hr.out.1 hr.out.2 (he'.out.below hb1)).mono ?_
        rintro e w2 ⟨rfl, hb2⟩
        have hB2 : Below w.heap.size w w2 := hb1.trans (hb2.mono hb1.size)
        by_cases hq : (mkB (Lib.itoa v)).toList = s.toList
        · have hq1 : ((mkB (Lib.itoa v)).toList == s.toList) = true := by simp [hq]
          have hq' := Lib.hid hq
          clear hq
          go_wp2_with fail
          all_goals try (exfalso; simp_all; omega)
          go_ret2
          refine ⟨?_, hB2⟩
          unfold numF
          rw [hp'.out]; simp only
          have e1 : Lib.itoa v = s.data.toList := by have := hq'.out; simpa [mkB, ByteArray.toList_eq] using this
          rw [if_pos ⟨by omega, by omega, e1⟩]
          rfl
        · have hq1 : ((mkB (Lib.itoa v)).toList == s.toList) = false := by simp [hq]
          have hq' := Lib.hid hq
          clear hq
          go_wp2_with fail
          all_goals try (exfalso; simp_all; omega)
          go_ret2
          refine ⟨?_, hB2⟩
          unfold numF
          rw [hp'.out]; simp only
          rw [if_neg]
          · rfl
          · rintro ⟨_, _, e1⟩
            apply hq'.out
            rw [e1]
            simp [mkB]
  · have h0 : Hid (numF s.data.toList = none) := by
      unfold numF Hid
      split
      · rename_i u hu; exact absurd hu (hp u)
      · rfl
    skip
    have hp' := Lib.hid hp
    clear hp
    go_wp2_with fail
    go_ret2
    exact ⟨by rw [h0.out]; rfl, hb1⟩
end Go.Proofs.YtdjmckjbibfecaaGreatDoor

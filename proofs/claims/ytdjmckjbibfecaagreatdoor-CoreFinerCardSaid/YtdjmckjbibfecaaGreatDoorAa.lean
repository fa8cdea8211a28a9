/- Rows in memory, of any element; rows of fields of one's own; slices.Clone of fields. -/
import Derived.Deep.QuietTactic
import Derived.BigQuiet
import Derived.Deep.Draws
import Derived.Lib.SliceRun
import Derived.Test.YtdjmckjbibfecaaGreatDoorD
namespace Go.Proofs.YtdjmckjbibfecaaGreatDoor
open Go Go.RowKit Go.BigFrame Go.Maps

structure Fld where
  name : ByteArray
  value : ByteArray
/-- A row of fields in memory. -/
def FieldsAt (w : World) (A : Option Addr) (l : List Fld) : Prop :=
  ∀ (k : Nat) (x : Fld), l[k]? = some x → ∃ b off, A = some ⟨b, off, none⟩ ∧ w.cell? ⟨b, off + k * 2, none⟩ = some (.string x.name) ∧ w.cell? ⟨b, off + k * 2 + 1, none⟩ = some (.string x.value)
theorem FieldsAt.below {w w' : World} {A : Option Addr} {l : List Fld} (h : FieldsAt w A l) (hb : Below w.heap.size w w') : FieldsAt w' A l := by
  intro k x hk
  obtain ⟨b, off, e, h0, h1⟩ := h k x hk
  have hlt : b < w.heap.size := World.block_lt_of_cell? w _ h0
  exact ⟨b, off, e, by rw [hb.cell hlt]; exact h0, by rw [hb.cell hlt]; exact h1⟩

/-- The value of the first field of a name. -/
def getF : List Fld → ByteArray → Option ByteArray
  | [], _ => none
  | x :: l, s => if x.name.toList = s.toList then some x.value else getF l s
theorem getF_no {l : List Fld} {k : Nat} {x : Fld} {s : ByteArray} {r : Option ByteArray} (hr : r = getF (l.drop k) s) (hx : l[k]? = some x) (h : ¬ x.name.toList = s.toList) : r = getF (l.drop (k + 1)) s := by
  obtain ⟨hk, he⟩ := List.getElem?_eq_some_iff.1 hx
  rw [hr, List.drop_eq_getElem_cons hk, he, getF, if_neg h]
theorem getF_yes {l : List Fld} {k : Nat} {x : Fld} {s : ByteArray} {r : Option ByteArray} (hr : r = getF (l.drop k) s) (hx : l[k]? = some x) (h : x.name.toList = s.toList) : r = some x.value := by
  obtain ⟨hk, he⟩ := List.getElem?_eq_some_iff.1 hx
  rw [hr, List.drop_eq_getElem_cons hk, he, getF, if_pos h]
def getV (l : List Fld) (s : ByteArray) : ByteArray := (getF l s).getD ⟨#[]⟩
def getB (l : List Fld) (s : ByteArray) : Bool := (getF l s).isSome

set_option maxRecDepth 100000 in
set_option maxHeartbeats 800000 in
theorem place1_any (nm vl : ByteArray) (g : Nat) (s : ByteArray) (w : World) (hg : w.cell? ⟨g, 0, none⟩ = some (.string s)) :
    Calls Tryz.prog 154 #[.agg #[.string nm, .string vl], .pointer (some ⟨g, 0, none⟩)] w fun e w' => e = .returned (.bool (decide (nm.toList = s.toList))) ∧ Below w.heap.size w w' := by
  have hb : Below w.heap.size w (w.alloc (.cells #[.string nm, .string vl] 108)) := (Below.refl _ w).alloc (Nat.le_refl _) _
  have hgl : g < w.heap.size := World.block_lt_of_cell? w _ hg
  have hg1 : (w.alloc (.cells #[.string nm, .string vl] 108)).cell? ⟨g, 0, none⟩ = some (.string s) := by rw [hb.cell hgl]; exact hg
  go_enter Tryz.func154, Tryz.ntmps154
  go_wp2_with fail
  go_ret
  exact ⟨congrArg (fun b => Ending.returned (.bool b)) (show (nm.toList == s.toList) = decide (nm.toList = s.toList) by rw [Bool.eq_iff_iff]; simp), hb⟩

def Found (l : List Fld) (s : ByteArray) (i : Int) : Prop := (i = -1 ∧ getF l s = none) ∨ ∃ (k : Nat) (x : Fld), i = (k : Int) ∧ l[k]? = some x ∧ getF l s = some x.value

set_option maxRecDepth 100000 in
set_option maxHeartbeats 800000 in
theorem index_any (A : Option Addr) (n c : Nat) (l : List Fld) (s : ByteArray) (g : Nat) (w : World) (hn : n ≤ maxLen) (hl : Hid (l.length = n)) (hA : Hid (FieldsAt w A l)) (hg : w.cell? ⟨g, 0, none⟩ = some (.string s)) :
    Calls Tryz.prog 153 #[.slice A n c, .func (Fn.func 154) #[] #[.pointer (some ⟨g, 0, none⟩)]] w fun e w' => ∃ i, e = .returned (.int .i64 i) ∧ Found l s i ∧ Below w.heap.size w w' := by
  unfold maxLen at hn
  have hgl : g < w.heap.size := World.block_lt_of_cell? w _ hg
  have hg' := Lib.hid hg
  clear hg
  go_enter Tryz.func153, Tryz.ntmps153
  go_wp2
  go_loopw [8] (fun i wr => ∃ k : Nat, k ≤ n ∧ i = .int .i64 k ∧ Hid (getF l s = getF (l.drop k) s) ∧ Below w.heap.size w wr) (fun i _ => n - (intOf i).toNat)
  case atStart => exact ⟨0, Nat.zero_le _, rfl, rfl, Below.refl _ _⟩
  case round =>
    obtain ⟨k, hk, rfl, hsame, hB⟩ := hrel
    by_cases hlt : k < n
    · obtain ⟨x, hx⟩ : ∃ x, l[k]? = some x := ⟨_, List.getElem?_eq_getElem (by have := hl.out; omega)⟩
      have hx' := Lib.hid hx
      clear hx
      obtain ⟨b, off, rfl, h0, h1⟩ := (hA.out.below hB) k x hx'.out
      obtain ⟨nm, vl⟩ := x
      simp only at h0 h1
      have hgr : wr.cell? ⟨g, 0, none⟩ = some (.string s) := by rw [hB.cell hgl]; exact hg'.out
      have hgr' := Lib.hid hgr
      clear hgr
      go_wp2_with fail
      refine (place1_any nm vl g s wr hgr'.out).mono ?_
      rintro e w1 ⟨rfl, hb1⟩
      have hB1 : Below w.heap.size w w1 := hB.trans (hb1.mono hB.size)
      by_cases heq : nm.toList = s.toList
      · rw [decide_eq_true heq]
        have heq' := Lib.hid heq
        clear heq
        go_wp2_with fail
        go_ret
        exact ⟨_, rfl, .inr ⟨k, ⟨nm, vl⟩, rfl, hx'.out, getF_yes hsame.out hx'.out heq'.out⟩, hB1⟩
      · rw [decide_eq_false heq]
        have heq' := Lib.hid heq
        clear heq
        go_wp2_with fail
        go_roundw
        case rel => exact ⟨k + 1, by omega, by go_num, getF_no hsame.out hx'.out heq'.out, hB1⟩
        case measure => simp [intOf]; omega
    · go_wp2_with fail
      go_ret
      exact ⟨_, rfl, .inl ⟨rfl, by rw [hsame.out, List.drop_eq_nil_of_le (by have := hl.out; omega)]; rfl⟩, hB⟩

set_option maxRecDepth 100000 in
set_option maxHeartbeats 800000 in
theorem place_any (A : Option Addr) (n c : Nat) (l : List Fld) (s : ByteArray) (w : World) (hn : n ≤ maxLen) (hl : Hid (l.length = n)) (hA : Hid (FieldsAt w A l)) :
    Calls Tryz.prog 97 #[.slice A n c, .string s] w fun e w' => ∃ i, e = .returned (.int .i64 i) ∧ Found l s i ∧ Below w.heap.size w w' := by
  go_enter Tryz.func97, Tryz.ntmps97
  have hb0 : Below w.heap.size w (w.alloc (.cells #[.string s] 9)) := (Below.refl _ w).alloc (Nat.le_refl _) _
  have hc0 : (w.alloc (.cells #[.string s] 9)).cell? ⟨w.heap.size, 0, none⟩ = some (.string s) := by rw [(Blk.new w 9 _).cell]; rfl
  go_wp2_with fail
  refine (index_any A n c l s w.heap.size _ hn hl (hA.out.below hb0) hc0).mono ?_
  rintro e w1 ⟨i, rfl, hF, hb1⟩
  have hF' := Lib.hid hF
  clear hF
  go_wp2_with fail
  go_ret
  exact ⟨i, rfl, hF'.out, hb0.trans (hb1.mono (by simp))⟩

set_option maxRecDepth 100000 in
set_option maxHeartbeats 800000 in
theorem get_any (A : Option Addr) (n c : Nat) (l : List Fld) (s : ByteArray) (w : World) (hn : n ≤ maxLen) (hl : Hid (l.length = n)) (hA : Hid (FieldsAt w A l)) :
    Calls Tryz.prog 54 #[.slice A n c, .string s] w fun e w' => e = .returned (.tuple #[.string (getV l s), .bool (getB l s)]) ∧ Below w.heap.size w w' := by
  have hn' := hn
  unfold maxLen at hn
  go_enter Tryz.func54, Tryz.ntmps54
  go_wp2_with fail
  refine (place_any A n c l s w hn' hl hA).mono ?_
  rintro e w1 ⟨i, rfl, hF, hb1⟩
  clear hn'
  rcases hF with ⟨rfl, h⟩ | ⟨k, x, rfl, hx, h⟩
  · have h' := Lib.hid h
    clear h
    go_wp2_with fail
    go_ret2
    exact ⟨by unfold getV getB; rw [h'.out]; rfl, hb1⟩
  · have h' := Lib.hid h
    have hlt : k < n := by have := (List.getElem?_eq_some_iff.1 hx).1; have := hl.out; omega
    clear h
    obtain ⟨b, off, rfl, h0, h1⟩ := (hA.out.below hb1) k x hx
    obtain ⟨nm, vl⟩ := x
    simp only at h0 h1
    have hx' := Lib.hid hx
    clear hx
    go_wp2_with fail
    go_ret2
    exact ⟨by unfold getV getB; rw [h'.out]; rfl, hb1⟩

set_option maxRecDepth 100000 in
set_option maxHeartbeats 800000 in
theorem getR_any (A : Option Addr) (n c : Nat) (l : List Fld) (s : ByteArray) (w : World) (hn : n ≤ maxLen) (hl : Hid (l.length = n)) (hA : Hid (FieldsAt w A l)) :
    Calls Tryz.prog 101 #[.slice A n c, .string s] w fun e w' => e = .returned (.tuple #[.string (getV l s), .bool (getB l s)]) ∧ Below w.heap.size w w' := by
  unfold maxLen at hn
  go_enter Tryz.func101, Tryz.ntmps101
  go_wp2_with fail
  go_loopw [6] (fun i wr => w = wr ∧ ∃ k : Nat, k ≤ n ∧ i = .int .i64 k ∧ Hid (getF l s = getF (l.drop k) s)) (fun i _ => n - (intOf i).toNat)
  case atStart => exact ⟨rfl, 0, Nat.zero_le _, rfl, rfl⟩
  case round =>
    obtain ⟨rfl, k, hk, rfl, hsame⟩ := hrel
    by_cases hlt : k < n
    · obtain ⟨x, hx⟩ : ∃ x, l[k]? = some x := ⟨_, List.getElem?_eq_getElem (by have := hl.out; omega)⟩
      have hx' := Lib.hid hx
      clear hx
      obtain ⟨b, off, rfl, h0, h1⟩ := hA.out k x hx'.out
      obtain ⟨nm, vl⟩ := x
      simp only at h0 h1
      by_cases heq : nm.toList = s.toList
      · have hq : (nm.toList == s.toList) = true := by simp [heq]
        have heq' := Lib.hid heq
        clear heq
        go_wp2_with fail
        go_ret2
        exact ⟨by unfold getV getB; rw [getF_yes hsame.out hx'.out heq'.out]; rfl, Below.refl _ _⟩
      · have hq : (nm.toList == s.toList) = false := by simp [heq]
        have heq' := Lib.hid heq
        clear heq
        go_wp2_with fail
        go_roundw
        case rel => exact ⟨trivial, k + 1, by omega, by go_num, getF_no hsame.out hx'.out heq'.out⟩
        case measure => simp [intOf]; omega
    · go_wp2_with fail
      go_ret2
      exact ⟨by unfold getV getB; rw [hsame.out, List.drop_eq_nil_of_le (by have := hl.out; omega)]; rfl, Below.refl _ _⟩
end Go.Proofs.YtdjmckjbibfecaaGreatDoor
namespace Go.Proofs.YtdjmckjbibfecaaGreatDoor
open Go Go.RowKit Go.BigFrame Go.Maps

structure Pap where
  kind : Int
  number : ByteArray
  issuer : ByteArray
  fA : Option Addr
  fc : Nat
  fields : List Fld
/-- A row of papers in memory. -/
def DocsAt (w : World) (A : Option Addr) (l : List Pap) : Prop :=
  ∀ (k : Nat) (x : Pap), l[k]? = some x → ∃ b off, A = some ⟨b, off, none⟩ ∧ w.cell? ⟨b, off + k * 4, none⟩ = some (.int .i64 x.kind) ∧ w.cell? ⟨b, off + k * 4 + 1, none⟩ = some (.string x.number) ∧
    w.cell? ⟨b, off + k * 4 + 2, none⟩ = some (.string x.issuer) ∧ w.cell? ⟨b, off + k * 4 + 3, none⟩ = some (.slice x.fA x.fields.length x.fc) ∧ FieldsAt w x.fA x.fields ∧ x.fields.length ≤ maxLen ∧ (-9223372036854775808 ≤ x.kind ∧ x.kind ≤ 9223372036854775807)
theorem DocsAt.below {w w' : World} {A : Option Addr} {l : List Pap} (h : DocsAt w A l) (hb : Below w.heap.size w w') : DocsAt w' A l := by
  intro k x hk
  obtain ⟨b, off, e, h0, h1, h2, h3, h4, h5⟩ := h k x hk
  have hlt : b < w.heap.size := World.block_lt_of_cell? w _ h0
  exact ⟨b, off, e, by rw [hb.cell hlt]; exact h0, by rw [hb.cell hlt]; exact h1, by rw [hb.cell hlt]; exact h2, by rw [hb.cell hlt]; exact h3, h4.below hb, h5⟩

/-- A field of the first paper of a kind. -/
def fieldD : List Pap → Int → ByteArray → Option ByteArray
  | [], _, _ => none
  | x :: l, k, s => if x.kind = k then getF x.fields s else fieldD l k s
theorem fieldD_no {l : List Pap} {k : Nat} {x : Pap} {i : Int} {s : ByteArray} {r : Option ByteArray} (hr : r = fieldD (l.drop k) i s) (hx : l[k]? = some x) (h : ¬ x.kind = i) : r = fieldD (l.drop (k + 1)) i s := by
  obtain ⟨hk, he⟩ := List.getElem?_eq_some_iff.1 hx
  rw [hr, List.drop_eq_getElem_cons hk, he, fieldD, if_neg h]
theorem fieldD_yes {l : List Pap} {k : Nat} {x : Pap} {i : Int} {s : ByteArray} {r : Option ByteArray} (hr : r = fieldD (l.drop k) i s) (hx : l[k]? = some x) (h : x.kind = i) : r = getF x.fields s := by
  obtain ⟨hk, he⟩ := List.getElem?_eq_some_iff.1 hx
  rw [hr, List.drop_eq_getElem_cons hk, he, fieldD, if_pos h]
/-- What a look-up hands back. -/
def two (r : Option ByteArray) : Value := .tuple #[.string (r.getD ⟨#[]⟩), .bool r.isSome]

set_option maxRecDepth 100000 in
set_option maxHeartbeats 800000 in
theorem field_any (A : Option Addr) (n c : Nat) (l : List Pap) (i : Int) (s : ByteArray) (w : World) (hn : n ≤ maxLen) (hl : Hid (l.length = n)) (hA : Hid (DocsAt w A l)) :
    Calls Tryz.prog 100 #[.slice A n c, .int .i64 i, .string s] w fun e w' => e = .returned (two (fieldD l i s)) ∧ Below w.heap.size w w' := by
  unfold maxLen at hn
  go_enter Tryz.func100, Tryz.ntmps100
  go_wp2_with fail
  go_loopw [12] (fun j wr => ∃ k : Nat, k ≤ n ∧ j = .int .i64 k ∧ Hid (fieldD l i s = fieldD (l.drop k) i s) ∧ Below w.heap.size w wr) (fun i _ => n - (intOf i).toNat)
  case atStart => exact ⟨0, Nat.zero_le _, rfl, rfl, Below.refl _ _⟩
  case round =>
    obtain ⟨k, hk, rfl, hsame, hB⟩ := hrel
    by_cases hlt : k < n
    · obtain ⟨x, hx⟩ : ∃ x, l[k]? = some x := ⟨_, List.getElem?_eq_getElem (by have := hl.out; omega)⟩
      have hx' := Lib.hid hx
      clear hx
      obtain ⟨b, off, rfl, h0, h1, h2, h3, h4, h5, h6⟩ := (hA.out.below hB) k x hx'.out
      obtain ⟨kd, nu, is, fA, fc, fs⟩ := x
      simp only at h0 h1 h2 h3 h4 h5 h6
      have h4' := Lib.hid h4
      have h5' := Lib.hid h5
      clear h4 h5 h6
      obtain ⟨m, hm⟩ : ∃ m, Hid (fs.length = m) := ⟨_, rfl⟩
      rw [hm.out] at h3
      by_cases heq : kd = i
      · subst heq
        go_wp2_with fail
        refine (get_any fA m fc fs s _ (by rw [← hm.out]; exact h5'.out) hm (h4'.out.below ((Below.refl _ _).alloc (Nat.le_refl _) _))).mono ?_
        rintro e w1 ⟨rfl, hb1⟩
        have hB1 : Below w.heap.size w w1 := hB.trans (((Below.refl _ wr).alloc (Nat.le_refl _) _ |>.trans (hb1.mono (by simp))).mono hB.size)
        go_wp2_with fail
        go_ret2
        exact ⟨by rw [fieldD_yes hsame.out hx'.out rfl]; rfl, hB1⟩
      · have heq' := Lib.hid heq
        go_wp2_with fail
        go_roundw
        case rel => exact ⟨k + 1, by omega, by go_num, fieldD_no hsame.out hx'.out heq'.out, hB.alloc hB.size _⟩
        case measure => simp [intOf]; omega
    · go_wp2_with fail
      go_ret2
      exact ⟨by rw [hsame.out, List.drop_eq_nil_of_le (by have := hl.out; omega)]; rfl, hB⟩

set_option maxRecDepth 100000 in
set_option maxHeartbeats 800000 in
theorem fieldR_any (A : Option Addr) (n c : Nat) (l : List Pap) (i : Int) (s : ByteArray) (w : World) (hn : n ≤ maxLen) (hl : Hid (l.length = n)) (hA : Hid (DocsAt w A l)) :
    Calls Tryz.prog 105 #[.slice A n c, .int .i64 i, .string s] w fun e w' => e = .returned (two (fieldD l i s)) ∧ Below w.heap.size w w' := by
  unfold maxLen at hn
  go_enter Tryz.func105, Tryz.ntmps105
  go_wp2_with fail
  go_loopw [8] (fun j wr => ∃ k : Nat, k ≤ n ∧ j = .int .i64 k ∧ Hid (fieldD l i s = fieldD (l.drop k) i s) ∧ Below w.heap.size w wr) (fun i _ => n - (intOf i).toNat)
  case atStart => exact ⟨0, Nat.zero_le _, rfl, rfl, Below.refl _ _⟩
  case round =>
    obtain ⟨k, hk, rfl, hsame, hB⟩ := hrel
    by_cases hlt : k < n
    · obtain ⟨x, hx⟩ : ∃ x, l[k]? = some x := ⟨_, List.getElem?_eq_getElem (by have := hl.out; omega)⟩
      have hx' := Lib.hid hx
      clear hx
      obtain ⟨b, off, rfl, h0, h1, h2, h3, h4, h5, h6⟩ := (hA.out.below hB) k x hx'.out
      obtain ⟨kd, nu, is, fA, fc, fs⟩ := x
      simp only at h0 h1 h2 h3 h4 h5 h6
      have h4' := Lib.hid h4
      have h5' := Lib.hid h5
      clear h4 h5 h6
      obtain ⟨m, hm⟩ : ∃ m, Hid (fs.length = m) := ⟨_, rfl⟩
      rw [hm.out] at h3
      by_cases heq : kd = i
      · subst heq
        go_wp2_with fail
        refine (getR_any fA m fc fs s _ (by rw [← hm.out]; exact h5'.out) hm h4').mono ?_
        rintro e w1 ⟨rfl, hb1⟩
        have hB1 : Below w.heap.size w w1 := hB.trans (hb1.mono hB.size)
        go_wp2_with fail
        go_ret2
        exact ⟨by rw [fieldD_yes hsame.out hx'.out rfl]; rfl, hB1⟩
      · have heq' := Lib.hid heq
        go_wp2_with fail
        go_roundw
        case rel => exact ⟨k + 1, by omega, by go_num, fieldD_no hsame.out hx'.out heq'.out, hB⟩
        case measure => simp [intOf]; omega
    · go_wp2_with fail
      go_ret2
      exact ⟨by rw [hsame.out, List.drop_eq_nil_of_le (by have := hl.out; omega)]; rfl, hB⟩
end Go.Proofs.YtdjmckjbibfecaaGreatDoor
namespace Go.Proofs.YtdjmckjbibfecaaGreatDoor
open Go Go.RowKit Go.BigFrame Go.Maps

theorem add_none (b off j : Nat) : Addr.add ⟨b, off, none⟩ j = ⟨b, off + j, none⟩ := by unfold Addr.add; split <;> simp_all
section
variable {α : Type} {enc : α → List Value} {k : Nat} {w w' : World} {A : Option Addr} {l : List α}
theorem fm_get (hk : ∀ x, (enc x).length = k) : ∀ (l : List α) (i j : Nat), j < k → (l.flatMap enc)[i * k + j]? = (l[i]?).bind fun x => (enc x)[j]?
  | [], i, j, _ => by simp
  | x :: l, 0, j, hj => by rw [List.flatMap_cons, List.getElem?_append_left (by rw [hk]; omega)]; simp
  | x :: l, i + 1, j, hj => by
    rw [List.flatMap_cons, List.getElem?_append_right (by rw [hk, Nat.succ_mul]; omega), hk, show (i + 1) * k + j - k = i * k + j by rw [Nat.succ_mul]; omega, fm_get hk l i j hj]
    simp
/-- A row of elements in memory. -/
def RowOf (enc : α → List Value) (k : Nat) (w : World) (A : Option Addr) (l : List α) : Prop :=
  ∀ (i : Nat) (x : α), l[i]? = some x → ∃ b off, A = some ⟨b, off, none⟩ ∧ ∀ (j : Nat) (u : Value), (enc x)[j]? = some u → w.cell? ⟨b, off + i * k + j, none⟩ = some u
theorem RowOf.nil : RowOf enc k w A [] := by intro i x h; simp at h
theorem RowOf.keep (h : RowOf enc k w A l) (hc : ∀ p : Addr, p.block < w.heap.size → w'.cell? p = w.cell? p) : RowOf enc k w' A l := by
  intro i x hx
  obtain ⟨b, off, e, h0⟩ := h i x hx
  exact ⟨b, off, e, fun j u hu => by rw [hc _ (World.block_lt_of_cell? w _ (h0 j u hu))]; exact h0 j u hu⟩
theorem RowOf.below (h : RowOf enc k w A l) (hb : Below w.heap.size w w') : RowOf enc k w' A l := h.keep fun _ hp => hb.cell hp
theorem RowOf.of_own {base n : Nat} {e : TypeId} {v : Value} (hk : ∀ x, (enc x).length = k) (h : w.ownsRow base e k v n (l.flatMap enc)) (hl : l.length = n) : ∃ A c, v = .slice A n c ∧ n ≤ c ∧ RowOf enc k w A l := by
  rcases h.2 with ⟨rfl, hn⟩ | ⟨g, cap, cur, rfl, _, _, hnc, _⟩
  · have : l = [] := List.eq_nil_of_length_eq_zero (by omega)
    subst this
    subst hn
    exact ⟨_, _, rfl, Nat.le_refl _, RowOf.nil⟩
  · refine ⟨_, _, rfl, hnc, fun i x hx => ⟨g, 0, rfl, fun j u hu => ?_⟩⟩
    have hj : j < k := by have := (List.getElem?_eq_some_iff.1 hu).1; rw [hk] at this; exact this
    have := h.cells (g := g) rfl (i * k + j) u (by rw [fm_get hk l i j hj, hx]; exact hu)
    rwa [add_none, ← Nat.add_assoc] at this
theorem RowOf.drop (h : RowOf enc k w A l) {b off m : Nat} (hA : A = some ⟨b, off, none⟩) : RowOf enc k w (some ⟨b, off + m * k, none⟩) (l.drop m) := by
  intro i x hx
  rw [List.getElem?_drop] at hx
  obtain ⟨b', off', e, hc⟩ := h _ x hx
  rw [hA] at e
  simp only [Option.some.injEq, Addr.mk.injEq, and_true] at e
  obtain ⟨rfl, rfl⟩ := e
  exact ⟨b, _, rfl, fun j u hu => by have := hc j u hu; rwa [show off + (m + i) * k + j = off + m * k + i * k + j by rw [Nat.add_mul]; omega] at this⟩
theorem RowOf.take (h : RowOf enc k w A l) (m : Nat) : RowOf enc k w A (l.take m) := by
  intro i x hx
  rw [List.getElem?_take] at hx
  split at hx
  · exact h i x hx
  · cases hx
end

/-- Fields, cell by cell. -/
def encF (f : Fld) : List Value := [.string f.name, .string f.value]
def flF (l : List Fld) : List Value := l.flatMap encF
theorem encF_len (f : Fld) : (encF f).length = 2 := rfl
theorem FieldsAt.row {w : World} {A : Option Addr} {l : List Fld} (h : FieldsAt w A l) : RowOf encF 2 w A l := by
  intro i x hx
  obtain ⟨b, off, e, h0, h1⟩ := h i x hx
  refine ⟨b, off, e, fun j u hu => ?_⟩
  match j with
  | 0 => simp [encF] at hu; subst hu; exact h0
  | 1 => simp [encF] at hu; subst hu; exact h1
  | j + 2 => simp [encF] at hu
theorem FieldsAt.of_row {w : World} {A : Option Addr} {l : List Fld} (h : RowOf encF 2 w A l) : FieldsAt w A l := by
  intro i x hx
  obtain ⟨b, off, e, hc⟩ := h i x hx
  exact ⟨b, off, e, hc 0 _ rfl, hc 1 _ rfl⟩
theorem fields_of_own {w : World} {base n : Nat} {v : Value} {l : List Fld} (h : w.ownsRow base 108 2 v n (flF l)) (hl : l.length = n) : ∃ A c, v = .slice A n c ∧ n ≤ c ∧ FieldsAt w A l := by
  obtain ⟨A, c, e, hc, hr⟩ := RowOf.of_own encF_len h hl
  exact ⟨A, c, e, hc, FieldsAt.of_row hr⟩

end Go.Proofs.YtdjmckjbibfecaaGreatDoor

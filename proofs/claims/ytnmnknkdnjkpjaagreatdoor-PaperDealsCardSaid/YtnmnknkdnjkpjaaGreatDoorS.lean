/- Fields of a paper, in memory; the walk of field.Get and of the document's Get. -/
import Derived.Test.YtnmnknkdnjkpjaaGreatDoorDa
import Derived.Deep.QuietTactic
import Derived.BigQuiet
import Derived.Deep.Draws
namespace Go.Proofs.YtnmnknkdnjkpjaaGreatDoor
open Go Go.RowKit Go.BigFrame Go.Maps

structure Fld where
  name : ByteArray
  value : ByteArray
/-- A row of fields in memory. -/
def FieldsAt (w : World) (A : Option Addr) (l : List Fld) : Prop :=
  ∀ (k : Nat) (x : Fld), l[k]? = some x → ∃ b off, A = some ⟨b, off, none⟩ ∧ w.cell? ⟨b, off + k * 2, none⟩ = some (.string x.name) ∧ w.cell? ⟨b, off + k * 2 + 1, none⟩ = some (.string x.value)
theorem FieldsAt.below {w w' : World} {A : Option Addr} {l : List Fld} (h : FieldsAt w A l) (hb : Below w.heap.size w w') : FieldsAt w' A l := by
  intro k x hk
  obtain ⟨b, off, e, h0, h1⟩ := h k x hk
  have hlt : b < w.heap.size := World.block_lt_of_cell? w _ h0
  exact ⟨b, off, e, by rw [hb.cell hlt]; exact h0, by rw [hb.cell hlt]; exact h1⟩

/-- The value of the first field of a name. -/
def getF : List Fld → ByteArray → Option ByteArray
  | [], _ => none
  | x :: l, s => if x.name.toList = s.toList then some x.value else getF l s
theorem getF_no {l : List Fld} {k : Nat} {x : Fld} {s : ByteArray} {r : Option ByteArray} (hr : r = getF (l.drop k) s) (hx : l[k]? = some x) (h : ¬ x.name.toList = s.toList) : r = getF (l.drop (k + 1)) s := by
  obtain ⟨hk, he⟩ := List.getElem?_eq_some_iff.1 hx
  rw [hr, List.drop_eq_getElem_cons hk, he, getF, if_neg h]
theorem getF_yes {l : List Fld} {k : Nat} {x : Fld} {s : ByteArray} {r : Option ByteArray} (hr : r = getF (l.drop k) s) (hx : l[k]? = some x) (h : x.name.toList = s.toList) : r = some x.value := by
  obtain ⟨hk, he⟩ := List.getElem?_eq_some_iff.1 hx
  rw [hr, List.drop_eq_getElem_cons hk, he, getF, if_pos h]
def getV (l : List Fld) (s : ByteArray) : ByteArray := (getF l s).getD ⟨#[]⟩
def getB (l : List Fld) (s : ByteArray) : Bool := (getF l s).isSome

set_option maxRecDepth 100000 in
set_option maxHeartbeats 800000 in
theorem place1_any (nm vl : ByteArray) (g : Nat) (s : ByteArray) (w : World) (hg : w.cell? ⟨g, 0, none⟩ = some (.string s)) :
    Calls Tryz.prog 90 #[.agg #[.string nm, .string vl], .pointer (some ⟨g, 0, none⟩)] w fun e w' => e = .returned (.bool (decide (nm.toList = s.toList))) ∧ Below w.heap.size w w' := by
  have hb : Below w.heap.size w (w.alloc (.cells #[.string nm, .string vl] 79)) := (Below.refl _ w).alloc (Nat.le_refl _) _
  have hgl : g < w.heap.size := World.block_lt_of_cell? w _ hg
  have hg1 : (w.alloc (.cells #[.string nm, .string vl] 79)).cell? ⟨g, 0, none⟩ = some (.string s) := by rw [hb.cell hgl]; exact hg
  go_enter Tryz.func90, Tryz.ntmps90
  go_wp2_with fail
  go_ret
  exact ⟨congrArg (fun b => Ending.returned (.bool b)) (show (nm.toList == s.toList) = decide (nm.toList = s.toList) by rw [Bool.eq_iff_iff]; simp), hb⟩

/-- Where the first of a kind stands; -1: nowhere. -/
def FoundP {α : Type} (p : α → Prop) (l : List α) (i : Int) : Prop := (i = -1 ∧ ∀ x ∈ l, ¬ p x) ∨ ∃ (k : Nat) (x : α), i = (k : Int) ∧ l[k]? = some x ∧ p x ∧ ∀ j y, j < k → l[j]? = some y → ¬ p y
def Found (l : List Fld) (s : ByteArray) (i : Int) : Prop := FoundP (fun x => x.name.toList = s.toList) l i
theorem found_end {α : Type} {p : α → Prop} {l : List α} {n : Nat} (hl : l.length = n) (h : ∀ j y, j < n → l[j]? = some y → ¬ p y) : FoundP p l (-1) :=
  .inl ⟨rfl, fun x hx => by
    obtain ⟨j, hj⟩ := List.mem_iff_getElem?.1 hx
    exact h j x (by have := (List.getElem?_eq_some_iff.1 hj).1; omega) hj⟩
theorem not_next {α : Type} {p : α → Prop} {l : List α} {k : Nat} {x : α} (h : ∀ j y, j < k → l[j]? = some y → ¬ p y) (hx : l[k]? = some x) (hp : ¬ p x) : ∀ j y, j < k + 1 → l[j]? = some y → ¬ p y := by
  intro j y hj hy
  rcases Nat.lt_or_ge j k with h1 | h1
  · exact h j y h1 hy
  · obtain rfl : j = k := by omega
    rw [hx] at hy
    obtain rfl := Option.some.inj hy
    exact hp
theorem getF_of_found : ∀ {l : List Fld} {s : ByteArray} {i : Int}, Found l s i → (i = -1 ∧ getF l s = none) ∨ ∃ (k : Nat) (x : Fld), i = (k : Int) ∧ l[k]? = some x ∧ getF l s = some x.value := by
  intro l s i h
  rcases h with ⟨h0, h1⟩ | ⟨k, x, h0, h1, h2, h3⟩
  · refine .inl ⟨h0, ?_⟩
    clear h0
    induction l with
    | nil => rfl
    | cons y l ih => rw [getF, if_neg (h1 y (by simp))]; exact ih fun x hx => h1 x (by simp [hx])
  · refine .inr ⟨k, x, h0, h1, ?_⟩
    clear h0
    induction l generalizing k with
    | nil => simp at h1
    | cons y l ih =>
      cases k with
      | zero => simp at h1; subst h1; rw [getF, if_pos h2]
      | succ k =>
        rw [getF, if_neg (h3 0 y (by omega) rfl)]
        exact ih k (by simpa using h1) fun j z hj hz => h3 (j + 1) z (by omega) (by simpa using hz)

set_option maxRecDepth 100000 in
set_option maxHeartbeats 800000 in
theorem index_any (A : Option Addr) (n c : Nat) (l : List Fld) (s : ByteArray) (g : Nat) (w : World) (hn : n ≤ maxLen) (hl : Hid (l.length = n)) (hA : Hid (FieldsAt w A l)) (hg : w.cell? ⟨g, 0, none⟩ = some (.string s)) :
    Calls Tryz.prog 89 #[.slice A n c, .func (Fn.func 90) #[] #[.pointer (some ⟨g, 0, none⟩)]] w fun e w' => ∃ i, e = .returned (.int .i64 i) ∧ Found l s i ∧ Below w.heap.size w w' := by
  unfold maxLen at hn
  have hgl : g < w.heap.size := World.block_lt_of_cell? w _ hg
  have hg' := Lib.hid hg
  clear hg
  go_enter Tryz.func89, Tryz.ntmps89
  go_wp2
  go_loopw [8] (fun i wr => ∃ k : Nat, k ≤ n ∧ i = .int .i64 k ∧ Hid (∀ j y, j < k → l[j]? = some y → ¬ y.name.toList = s.toList) ∧ Below w.heap.size w wr) (fun i _ => n - (intOf i).toNat)
  case atStart => exact ⟨0, Nat.zero_le _, rfl, fun j y hj => absurd hj (by omega), Below.refl _ _⟩
  case round =>
    obtain ⟨k, hk, rfl, hsame, hB⟩ := hrel
    by_cases hlt : k < n
    · obtain ⟨x, hx⟩ : ∃ x, l[k]? = some x := ⟨_, List.getElem?_eq_getElem (by have := hl.out; omega)⟩
      have hx' := Lib.hid hx
      clear hx
      obtain ⟨b, off, rfl, h0, h1⟩ := (hA.out.below hB) k x hx'.out
      obtain ⟨nm, vl⟩ := x
      simp only at h0 h1
      have hgr : wr.cell? ⟨g, 0, none⟩ = some (.string s) := by rw [hB.cell hgl]; exact hg'.out
      have hgr' := Lib.hid hgr
      clear hgr
      go_wp2_with fail
      refine (place1_any nm vl g s wr hgr'.out).mono ?_
      rintro e w1 ⟨rfl, hb1⟩
      have hB1 : Below w.heap.size w w1 := hB.trans (hb1.mono hB.size)
      by_cases heq : nm.toList = s.toList
      · rw [decide_eq_true heq]
        have heq' := Lib.hid heq
        clear heq
        go_wp2_with fail
        go_ret
        exact ⟨_, rfl, .inr ⟨k, ⟨nm, vl⟩, rfl, hx'.out, heq'.out, hsame.out⟩, hB1⟩
      · rw [decide_eq_false heq]
        have heq' := Lib.hid heq
        clear heq
        go_wp2_with fail
        go_roundw
        case rel => exact ⟨k + 1, by omega, by go_num, not_next (p := fun y : Fld => y.name.toList = s.toList) hsame.out hx'.out heq'.out, hB1⟩
        case measure => simp [intOf]; omega
    · go_wp2_with fail
      go_ret
      exact ⟨_, rfl, found_end hl.out (fun j y hj hy => hsame.out j y (by omega) hy), hB⟩

set_option maxRecDepth 100000 in
set_option maxHeartbeats 800000 in
theorem place_any (A : Option Addr) (n c : Nat) (l : List Fld) (s : ByteArray) (w : World) (hn : n ≤ maxLen) (hl : Hid (l.length = n)) (hA : Hid (FieldsAt w A l)) :
    Calls Tryz.prog 68 #[.slice A n c, .string s] w fun e w' => ∃ i, e = .returned (.int .i64 i) ∧ Found l s i ∧ Below w.heap.size w w' := by
  go_enter Tryz.func68, Tryz.ntmps68
  have hb0 : Below w.heap.size w (w.alloc (.cells #[.string s] 9)) := (Below.refl _ w).alloc (Nat.le_refl _) _
  have hc0 : (w.alloc (.cells #[.string s] 9)).cell? ⟨w.heap.size, 0, none⟩ = some (.string s) := by rw [(Blk.new w 9 _).cell]; rfl
  go_wp2_with fail
  refine (index_any A n c l s w.heap.size _ hn hl (hA.out.below hb0) hc0).mono ?_
  rintro e w1 ⟨i, rfl, hF, hb1⟩
  have hF' := Lib.hid hF
  clear hF
  go_wp2_with fail
  go_ret
  exact ⟨i, rfl, hF'.out, hb0.trans (hb1.mono (by simp))⟩

set_option maxRecDepth 100000 in
set_option maxHeartbeats 800000 in
theorem get_any (A : Option Addr) (n c : Nat) (l : List Fld) (s : ByteArray) (w : World) (hn : n ≤ maxLen) (hl : Hid (l.length = n)) (hA : Hid (FieldsAt w A l)) :
    Calls Tryz.prog 30 #[.slice A n c, .string s] w fun e w' => e = .returned (.tuple #[.string (getV l s), .bool (getB l s)]) ∧ Below w.heap.size w w' := by
  have hn' := hn
  unfold maxLen at hn
  go_enter Tryz.func30, Tryz.ntmps30
  go_wp2_with fail
  refine (place_any A n c l s w hn' hl hA).mono ?_
  rintro e w1 ⟨i, rfl, hF, hb1⟩
  clear hn'
  rcases getF_of_found hF with ⟨rfl, h⟩ | ⟨k, x, rfl, hx, h⟩
  · have h' := Lib.hid h
    clear h
    go_wp2_with fail
    go_ret2
    exact ⟨by unfold getV getB; rw [h'.out]; rfl, hb1⟩
  · have h' := Lib.hid h
    have hlt : k < n := by have := (List.getElem?_eq_some_iff.1 hx).1; have := hl.out; omega
    clear h
    obtain ⟨b, off, rfl, h0, h1⟩ := (hA.out.below hb1) k x hx
    obtain ⟨nm, vl⟩ := x
    simp only at h0 h1
    have hx' := Lib.hid hx
    clear hx
    go_wp2_with fail
    go_ret2
    exact ⟨by unfold getV getB; rw [h'.out]; rfl, hb1⟩

end Go.Proofs.YtnmnknkdnjkpjaaGreatDoor

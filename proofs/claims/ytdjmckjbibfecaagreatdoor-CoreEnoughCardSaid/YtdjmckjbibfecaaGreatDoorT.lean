/- Papers in memory; the walks of Field, the program's and the document's. -/
import Derived.Test.YtdjmckjbibfecaaGreatDoorS
namespace Go.Proofs.YtdjmckjbibfecaaGreatDoor
open Go Go.RowKit Go.BigFrame Go.Maps

structure Pap where
  kind : Int
  number : ByteArray
  issuer : ByteArray
  fA : Option Addr
  fc : Nat
  fields : List Fld
/-- A row of papers in memory. -/
def DocsAt (w : World) (A : Option Addr) (l : List Pap) : Prop :=
  ∀ (k : Nat) (x : Pap), l[k]? = some x → ∃ b off, A = some ⟨b, off, none⟩ ∧ w.cell? ⟨b, off + k * 4, none⟩ = some (.int .i64 x.kind) ∧ w.cell? ⟨b, off + k * 4 + 1, none⟩ = some (.string x.number) ∧
    w.cell? ⟨b, off + k * 4 + 2, none⟩ = some (.string x.issuer) ∧ w.cell? ⟨b, off + k * 4 + 3, none⟩ = some (.slice x.fA x.fields.length x.fc) ∧ FieldsAt w x.fA x.fields ∧ x.fields.length ≤ maxLen ∧ (-9223372036854775808 ≤ x.kind ∧ x.kind ≤ 9223372036854775807)
theorem DocsAt.below {w w' : World} {A : Option Addr} {l : List Pap} (h : DocsAt w A l) (hb : Below w.heap.size w w') : DocsAt w' A l := by
  intro k x hk
  obtain ⟨b, off, e, h0, h1, h2, h3, h4, h5⟩ := h k x hk
  have hlt : b < w.heap.size := World.block_lt_of_cell? w _ h0
  exact ⟨b, off, e, by rw [hb.cell hlt]; exact h0, by rw [hb.cell hlt]; exact h1, by rw [hb.cell hlt]; exact h2, by rw [hb.cell hlt]; exact h3, h4.below hb, h5⟩

/-- A field of the first paper of a kind. -/
def fieldD : List Pap → Int → ByteArray → Option ByteArray
  | [], _, _ => none
  | x :: l, k, s => if x.kind = k then getF x.fields s else fieldD l k s
theorem fieldD_no {l : List Pap} {k : Nat} {x : Pap} {i : Int} {s : ByteArray} {r : Option ByteArray} (hr : r = fieldD (l.drop k) i s) (hx : l[k]? = some x) (h : ¬ x.kind = i) : r = fieldD (l.drop (k + 1)) i s := by
  obtain ⟨hk, he⟩ := List.getElem?_eq_some_iff.1 hx
  rw [hr, List.drop_eq_getElem_cons hk, he, fieldD, if_neg h]
theorem fieldD_yes {l : List Pap} {k : Nat} {x : Pap} {i : Int} {s : ByteArray} {r : Option ByteArray} (hr : r = fieldD (l.drop k) i s) (hx : l[k]? = some x) (h : x.kind = i) : r = getF x.fields s := by
  obtain ⟨hk, he⟩ := List.getElem?_eq_some_iff.1 hx
  rw [hr, List.drop_eq_getElem_cons hk, he, fieldD, if_pos h]
/-- What a look-up hands back. -/
def two (r : Option ByteArray) : Value := .tuple #[.string (r.getD ⟨#[]⟩), .bool r.isSome]

set_option maxRecDepth 100000 in
set_option maxHeartbeats 800000 in
theorem field_any (A : Option Addr) (n c : Nat) (l : List Pap) (i : Int) (s : ByteArray) (w : World) (hn : n ≤ maxLen) (hl : Hid (l.length = n)) (hA : Hid (DocsAt w A l)) :
    Calls Tryz.prog 100 #[.slice A n c, .int .i64 i, .string s] w fun e w' => e = .returned (two (fieldD l i s)) ∧ Below w.heap.size w w' := by
  unfold maxLen at hn
  go_enter Tryz.func100, Tryz.ntmps100
  go_wp2_with fail
  go_loopw [12] (fun j wr => ∃ k : Nat, k ≤ n ∧ j = .int .i64 k ∧ Hid (fieldD l i s = fieldD (l.drop k) i s) ∧ Below w.heap.size w wr) (fun i _ => n - (intOf i).toNat)
  case atStart => exact ⟨0, Nat.zero_le _, rfl, rfl, Below.refl _ _⟩
  case round =>
    obtain ⟨k, hk, rfl, hsame, hB⟩ := hrel
    by_cases hlt : k < n
    · obtain ⟨x, hx⟩ : ∃ x, l[k]? = some x := ⟨_, List.getElem?_eq_getElem (by have := hl.out; omega)⟩
      have hx' := Lib.hid hx
      clear hx
      obtain ⟨b, off, rfl, h0, h1, h2, h3, h4, h5, h6⟩ := (hA.out.below hB) k x hx'.out
      obtain ⟨kd, nu, is, fA, fc, fs⟩ := x
      simp only at h0 h1 h2 h3 h4 h5 h6
      have h4' := Lib.hid h4
      have h5' := Lib.hid h5
      clear h4 h5 h6
      obtain ⟨m, hm⟩ : ∃ m, Hid (fs.length = m) := ⟨_, rfl⟩
      rw [hm.out] at h3
      by_cases heq : kd = i
      · subst heq
        go_wp2_with fail
        refine (get_any fA m fc fs s _ (by rw [← hm.out]; exact h5'.out) hm (h4'.out.below ((Below.refl _ _).alloc (Nat.le_refl _) _))).mono ?_
        rintro e w1 ⟨rfl, hb1⟩
        have hB1 : Below w.heap.size w w1 := hB.trans (((Below.refl _ wr).alloc (Nat.le_refl _) _ |>.trans (hb1.mono (by simp))).mono hB.size)
        go_wp2_with fail
        go_ret2
        exact ⟨by rw [fieldD_yes hsame.out hx'.out rfl]; rfl, hB1⟩
      · have heq' := Lib.hid heq
        go_wp2_with fail
        go_roundw
        case rel => exact ⟨k + 1, by omega, by go_num, fieldD_no hsame.out hx'.out heq'.out, hB.alloc hB.size _⟩
        case measure => simp [intOf]; omega
    · go_wp2_with fail
      go_ret2
      exact ⟨by rw [hsame.out, List.drop_eq_nil_of_le (by have := hl.out; omega)]; rfl, hB⟩

set_option maxRecDepth 100000 in
set_option maxHeartbeats 800000 in
theorem fieldR_any (A : Option Addr) (n c : Nat) (l : List Pap) (i : Int) (s : ByteArray) (w : World) (hn : n ≤ maxLen) (hl : Hid (l.length = n)) (hA : Hid (DocsAt w A l)) :
    Calls Tryz.prog 105 #[.slice A n c, .int .i64 i, .string s] w fun e w' => e = .returned (two (fieldD l i s)) ∧ Below w.heap.size w w' := by
  unfold maxLen at hn
  go_enter Tryz.func105, Tryz.ntmps105
  go_wp2_with fail
  go_loopw [8] (fun j wr => ∃ k : Nat, k ≤ n ∧ j = .int .i64 k ∧ Hid (fieldD l i s = fieldD (l.drop k) i s) ∧ Below w.heap.size w wr) (fun i _ => n - (intOf i).toNat)
  case atStart => exact ⟨0, Nat.zero_le _, rfl, rfl, Below.refl _ _⟩
  case round =>
    obtain ⟨k, hk, rfl, hsame, hB⟩ := hrel
    by_cases hlt : k < n
    · obtain ⟨x, hx⟩ : ∃ x, l[k]? = some x := ⟨_, List.getElem?_eq_getElem (by have := hl.out; omega)⟩
      have hx' := Lib.hid hx
      clear hx
      obtain ⟨b, off, rfl, h0, h1, h2, h3, h4, h5, h6⟩ := (hA.out.below hB) k x hx'.out
      obtain ⟨kd, nu, is, fA, fc, fs⟩ := x
      simp only at h0 h1 h2 h3 h4 h5 h6
      have h4' := Lib.hid h4
      have h5' := Lib.hid h5
      clear h4 h5 h6
      obtain ⟨m, hm⟩ : ∃ m, Hid (fs.length = m) := ⟨_, rfl⟩
      rw [hm.out] at h3
      by_cases heq : kd = i
      · subst heq
        go_wp2_with fail
        refine (getR_any fA m fc fs s _ (by rw [← hm.out]; exact h5'.out) hm h4').mono ?_
        rintro e w1 ⟨rfl, hb1⟩
        have hB1 : Below w.heap.size w w1 := hB.trans (hb1.mono hB.size)
        go_wp2_with fail
        go_ret2
        exact ⟨by rw [fieldD_yes hsame.out hx'.out rfl]; rfl, hB1⟩
      · have heq' := Lib.hid heq
        go_wp2_with fail
        go_roundw
        case rel => exact ⟨k + 1, by omega, by go_num, fieldD_no hsame.out hx'.out heq'.out, hB⟩
        case measure => simp [intOf]; omega
    · go_wp2_with fail
      go_ret2
      exact ⟨by rw [hsame.out, List.drop_eq_nil_of_le (by have := hl.out; omega)]; rfl, hB⟩
end Go.Proofs.YtdjmckjbibfecaaGreatDoor

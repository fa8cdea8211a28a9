/- Papers copied; where the first paper of a kind stands. -/
import Derived.Test.YtnmnknkdnjkpjaaGreatDoorEa
import Derived.Deep.RegionHeld3
namespace Go.Proofs.YtnmnknkdnjkpjaaGreatDoor
open Go Go.RowKit Go.BigFrame Go.Maps

def encD (p : Pap) : List Value := [.int .i64 p.kind, .string p.number, .string p.issuer, .slice p.fA p.fields.length p.fc]
theorem encD_len (p : Pap) : (encD p).length = 4 := rfl
theorem encD_one (l : List Pap) : ∀ u ∈ l.flatMap encD, u.oneCell' = true := by
  intro u hu
  obtain ⟨p, _, hp⟩ := List.mem_flatMap.1 hu
  simp [encD] at hp
  rcases hp with rfl | rfl | rfl | rfl <;> rfl
/-- What a paper says. -/
structure Dc where
  kind : Int
  number : ByteArray
  issuer : ByteArray
  fields : List Fld
def Pap.pl (p : Pap) : Dc := ⟨p.kind, p.number, p.issuer, p.fields⟩
/-- Papers' fields in rows of one's own. -/
def OwnD (w : World) (B : Nat) (ps : List Pap) : Prop := ∀ p ∈ ps, w.ownsRow B 79 2 (.slice p.fA p.fields.length p.fc) p.fields.length (flF p.fields)
theorem OwnD.below {w w' : World} {B : Nat} {ps : List Pap} (h : OwnD w B ps) (hb : Below w.heap.size w w') : OwnD w' B ps := fun p hp => own_below (h p hp) hb
theorem OwnD.row {w w' : World} {B B' n : Nat} {ps : List Pap} {v : Value} {xs : List Value} (h : OwnD w B ps) (hv : w.ownsRow B' 32 4 v n xs) (hg : w.grownBy w' v.ownBlock) : OwnD w' B ps := fun p hp =>
  (h p hp).kept hg (own_apart (h p hp) hv (by decide))
theorem OwnD.set_ {w : World} {B g o : Nat} {t : TypeId} {ps : List Pap} {cs : Array Value} (h : OwnD w B ps) (hg : Blk w g t cs) (ht : 79 ≠ t) (u : Value) : OwnD (w.setCell ⟨g, o, none⟩ u) B ps := fun p hp => own_set (h p hp) hg ht
theorem Blk.of_row {w : World} {B n : Nat} {e : TypeId} {size : Nat} {v : Value} {xs : List Value} (h : w.ownsRow B e size v n xs) : v = .slice none 0 0 ∨ ∃ g c cs, v = .slice (some ⟨g, 0, none⟩) n c ∧ B ≤ g ∧ Blk w g e cs := by
  rcases h.2 with ⟨rfl, _⟩ | ⟨g, cap, cur, rfl, hb, hh, _⟩
  · exact .inl rfl
  · exact .inr ⟨g, cap, cur, rfl, hb, hh⟩

set_option maxRecDepth 100000 in
set_option maxHeartbeats 800000 in
theorem copyDoc_any (kd : Int) (nu is : ByteArray) (A : Option Addr) (n c : Nat) (fl : List Fld) (w : World) (hn : n ≤ 1000000) (hl : Hid (fl.length = n)) (hA : Hid (FieldsAt w A fl)) :
    Calls Tryz.prog 48 #[.agg #[.int .i64 kd, .string nu, .string is, .slice A n c]] w fun e w' => ∃ A' c', e = .returned (.agg #[.int .i64 kd, .string nu, .string is, .slice A' n c']) ∧ w'.ownsRow w.heap.size 79 2 (.slice A' n c') n (flF fl) ∧ Below w.heap.size w w' := by
  obtain ⟨w0, hw0⟩ : ∃ w0, Hid (w0 = ((w.alloc (.cells #[.int .i64 kd, .string nu, .string is, .slice A n c] 32)).alloc (.cells #[.int .i64 0, .string ⟨#[]⟩, .string ⟨#[]⟩, .slice none 0 0] 32))) := ⟨_, rfl⟩
  have hb0 : Hid (Below w.heap.size w w0) := by rw [hw0.out]; exact ((Below.refl _ w).alloc (Nat.le_refl _) _).alloc (by simp) _
  have hk0 : Hid (Blk w0 w.heap.size 32 #[.int .i64 kd, .string nu, .string is, .slice A n c]) := by rw [hw0.out]; exact (Blk.new w _ _).alloc _
  have hz0 : Hid (Blk w0 (w.heap.size + 1) 32 #[.int .i64 0, .string ⟨#[]⟩, .string ⟨#[]⟩, .slice none 0 0]) := by rw [hw0.out]; exact blk_second w _ _ _
  have hs0 : Hid (w0.heap.size = w.heap.size + 2) := by rw [hw0.out]; refine Lib.hid ?_; simp
  have hcl := Lib.hid (clone_any A n c fl w0 hn hl (Lib.hid (hA.out.below hb0.out)))
  go_enter Tryz.func48, Tryz.ntmps48
  go_wp2_with fail
  rw [← hw0.out]
  refine hcl.out.mono ?_
  rintro e w1 ⟨v, rfl, hown, hb1⟩
  obtain ⟨A1, c1, rfl, hc1, _⟩ := fields_of_own hown hl.out
  have hk1 := Lib.hid (hk0.out.below hb1 hk0.out.lt)
  have hz1 := Lib.hid (hz0.out.below hb1 hz0.out.lt)
  have hB1 := Lib.hid (hb0.out.trans (hb1.mono hb0.out.size))
  have hown' := Lib.hid hown
  have g0 : w1.cell? ⟨w.heap.size, 0, none⟩ = _ := hk1.out.cell 0
  have g1 : w1.cell? ⟨w.heap.size, 1, none⟩ = _ := hk1.out.cell 1
  have g2 : w1.cell? ⟨w.heap.size, 2, none⟩ = _ := hk1.out.cell 2
  have g3 : w1.cell? ⟨w.heap.size, 3, none⟩ = _ := hk1.out.cell 3
  have z0 : w1.cell? ⟨w.heap.size + 1, 0, none⟩ = _ := hz1.out.cell 0
  have z1 : w1.cell? ⟨w.heap.size + 1, 1, none⟩ = _ := hz1.out.cell 1
  have z2 : w1.cell? ⟨w.heap.size + 1, 2, none⟩ = _ := hz1.out.cell 2
  have z3 : w1.cell? ⟨w.heap.size + 1, 3, none⟩ = _ := hz1.out.cell 3
  simp only [List.getElem?_toArray, List.getElem?_cons_zero, List.getElem?_cons_succ] at g0 g1 g2 g3 z0 z1 z2 z3
  have f1 := hk1.out.frozen
  have f2 := hz1.out.frozen
  have hlt1 : w.heap.size < w1.heap.size := hk1.out.lt
  have hlt2 : w.heap.size + 1 < w1.heap.size := hz1.out.lt
  clear hown hb1
  go_wp2_with fail
  have hz5 := Lib.hid (((((hz1.out.far (p := ⟨w.heap.size, 3, none⟩) (by simp) (.slice A1 n c1)).set_ 0 (.int .i64 kd)).set_ 1 (.string nu)).set_ 2 (.string is)).set_ 3 (.slice A1 n c1))
  refine bodyPost_ret (results_row rfl _ _ (w.heap.size + 1) 32 _ _ rfl hz5.out Tryz.underlying32 rfl (by kernel_rfl)) rfl ?_
  have hlt : w.heap.size + 1 < w0.heap.size := by have := hs0.out; omega
  refine ⟨A1, c1, rfl, own_mono_base (ownsRow_setCell_below (ownsRow_setCell_below (ownsRow_setCell_below (ownsRow_setCell_below (ownsRow_setCell_below hown'.out (Nat.lt_of_succ_lt hlt) _) hlt _) hlt _) hlt _) hlt _) (by omega), ?_⟩
  exact ((((hB1.out.setCell (Nat.le_refl _) _).setCell (by simp) _).setCell (by simp) _).setCell (by simp) _).setCell (by simp) _

set_option maxRecDepth 100000 in
set_option maxHeartbeats 800000 in
theorem kind1_any (kd : Int) (nu is : ByteArray) (A : Option Addr) (n c : Nat) (g : Nat) (k : Int) (w : World) (hg : w.cell? ⟨g, 0, none⟩ = some (.int .i64 k)) :
    Calls Tryz.prog 51 #[.agg #[.int .i64 kd, .string nu, .string is, .slice A n c], .pointer (some ⟨g, 0, none⟩)] w fun e w' => e = .returned (.bool (decide (kd = k))) ∧ Below w.heap.size w w' := by
  have hb : Below w.heap.size w (w.alloc (.cells #[.int .i64 kd, .string nu, .string is, .slice A n c] 32)) := (Below.refl _ w).alloc (Nat.le_refl _) _
  have hgl : g < w.heap.size := World.block_lt_of_cell? w _ hg
  have hg1 : (w.alloc (.cells #[.int .i64 kd, .string nu, .string is, .slice A n c] 32)).cell? ⟨g, 0, none⟩ = some (.int .i64 k) := by rw [hb.cell hgl]; exact hg
  go_enter Tryz.func51, Tryz.ntmps51
  go_wp2_with fail
  go_ret
  exact ⟨rfl, hb⟩

set_option maxRecDepth 100000 in
set_option maxHeartbeats 800000 in
theorem indexD_any (A : Option Addr) (n c : Nat) (l : List Pap) (k : Int) (g : Nat) (w : World) (hn : n ≤ maxLen) (hl : Hid (l.length = n)) (hA : Hid (DocsAt w A l)) (hg : w.cell? ⟨g, 0, none⟩ = some (.int .i64 k)) :
    Calls Tryz.prog 50 #[.slice A n c, .func (Fn.func 51) #[] #[.pointer (some ⟨g, 0, none⟩)]] w fun e w' => ∃ i, e = .returned (.int .i64 i) ∧ FoundP (fun p : Pap => p.kind = k) l i ∧ Below w.heap.size w w' := by
  unfold maxLen at hn
  have hgl : g < w.heap.size := World.block_lt_of_cell? w _ hg
  have hg' := Lib.hid hg
  clear hg
  go_enter Tryz.func50, Tryz.ntmps50
  go_wp2
  go_loopw [8] (fun i wr => ∃ j : Nat, j ≤ n ∧ i = .int .i64 j ∧ Hid (∀ i y, i < j → l[i]? = some y → ¬ y.kind = k) ∧ Below w.heap.size w wr) (fun i _ => n - (intOf i).toNat)
  case atStart => exact ⟨0, Nat.zero_le _, rfl, fun j y hj => absurd hj (by omega), Below.refl _ _⟩
  case round =>
    obtain ⟨j, hj, rfl, hsame, hB⟩ := hrel
    by_cases hlt : j < n
    · obtain ⟨x, hx⟩ : ∃ x, l[j]? = some x := ⟨_, List.getElem?_eq_getElem (by have := hl.out; omega)⟩
      have hx' := Lib.hid hx
      clear hx
      obtain ⟨b, off, rfl, h0, h1, h2, h3, h4, h5, h6⟩ := (hA.out.below hB) j x hx'.out
      obtain ⟨kd, nu, is, fA, fc, fs⟩ := x
      simp only at h0 h1 h2 h3
      obtain ⟨m, hm⟩ : ∃ m, Hid (fs.length = m) := ⟨_, rfl⟩
      rw [hm.out] at h3
      clear h4 h5 h6
      have hgr : wr.cell? ⟨g, 0, none⟩ = some (.int .i64 k) := by rw [hB.cell hgl]; exact hg'.out
      have hgr' := Lib.hid hgr
      clear hgr
      go_wp2_with fail
      refine (kind1_any kd nu is fA m fc g k wr hgr'.out).mono ?_
      rintro e w1 ⟨rfl, hb1⟩
      have hB1 : Below w.heap.size w w1 := hB.trans (hb1.mono hB.size)
      by_cases heq : kd = k
      · rw [decide_eq_true heq]
        have heq' := Lib.hid heq
        clear heq
        go_wp2_with fail
        go_ret
        exact ⟨_, rfl, .inr ⟨j, _, rfl, hx'.out, heq'.out, hsame.out⟩, hB1⟩
      · rw [decide_eq_false heq]
        have heq' := Lib.hid heq
        clear heq
        go_wp2_with fail
        go_roundw
        case rel => exact ⟨j + 1, by omega, by go_num, not_next (p := fun y : Pap => y.kind = k) hsame.out hx'.out heq'.out, hB1⟩
        case measure => simp [intOf]; omega
    · go_wp2_with fail
      go_ret
      exact ⟨_, rfl, found_end hl.out (fun i y hi hy => hsame.out i y (by omega) hy), hB⟩

set_option maxRecDepth 100000 in
set_option maxHeartbeats 800000 in
theorem placeD_any (A : Option Addr) (n c : Nat) (l : List Pap) (k : Int) (cv : Nat) (w : World) (hn : n ≤ maxLen) (hl : Hid (l.length = n)) (hA : Hid (DocsAt w A l)) (hv : w.cell? ⟨cv, 0, none⟩ = some (.slice A n c)) :
    Calls Tryz.prog 49 #[.int .i64 k, .pointer (some ⟨cv, 0, none⟩)] w fun e w' => ∃ i, e = .returned (.int .i64 i) ∧ FoundP (fun p : Pap => p.kind = k) l i ∧ Below w.heap.size w w' := by
  have hb0 : Below w.heap.size w (w.alloc (.cells #[.int .i64 k] 3)) := (Below.refl _ w).alloc (Nat.le_refl _) _
  have hc0 : (w.alloc (.cells #[.int .i64 k] 3)).cell? ⟨w.heap.size, 0, none⟩ = some (.int .i64 k) := by rw [(Blk.new w 3 _).cell]; rfl
  have hvl : cv < w.heap.size := World.block_lt_of_cell? w _ hv
  have hv0 : (w.alloc (.cells #[.int .i64 k] 3)).cell? ⟨cv, 0, none⟩ = some (.slice A n c) := by rw [hb0.cell hvl]; exact hv
  have hcall := Lib.hid (indexD_any A n c l k w.heap.size _ hn hl (Lib.hid (hA.out.below hb0)) hc0)
  have hb0' := Lib.hid hb0
  clear hb0
  go_enter Tryz.func49, Tryz.ntmps49
  go_wp2_with fail
  refine hcall.out.mono ?_
  rintro e w1 ⟨i, rfl, hF, hb1⟩
  have hF' := Lib.hid hF
  clear hF
  go_wp2_with fail
  go_ret
  exact ⟨i, rfl, hF'.out, hb0'.out.trans (hb1.mono (by simp))⟩
end Go.Proofs.YtnmnknkdnjkpjaaGreatDoor

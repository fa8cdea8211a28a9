/- Rules over fields: is, need, the rules that fields are as a paper has them. -/
import Derived.Test.YtnmnknkdnjkpjaaGreatDoorFh
import Derived.Test.YtnmnknkdnjkpjaaGreatDoorBj
import Derived.Test.YtnmnknkdnjkpjaaGreatDoorZ
namespace Go.Proofs.YtnmnknkdnjkpjaaGreatDoor
open Go Go.RowKit Go.BigFrame Go.Maps

/-- A rule over a field. -/
structure Atm where
  kind : Int
  field : ByteArray
  text : ByteArray
  number : Int
def encT (x : Atm) : List Value := [.int .i64 x.kind, .int .i64 0, .string x.field, .string x.text, .int .i64 x.number, .slice none 0 0]
def flT (l : List Atm) : List Value := l.flatMap encT
theorem encT_len (x : Atm) : (encT x).length = 6 := rfl
theorem encT_one (x : Atm) : ∀ u ∈ encT x, u.oneCell' = true := by
  intro u hu
  simp [encT] at hu
  rcases hu with rfl | rfl | rfl | rfl | rfl | rfl <;> rfl
theorem flT_one (l : List Atm) : ∀ u ∈ flT l, u.oneCell' = true := by
  intro u hu
  obtain ⟨f, _, hf⟩ := List.mem_flatMap.1 hu
  exact encT_one f u hf
theorem flT_append (a b : List Atm) : flT (a ++ b) = flT a ++ flT b := List.flatMap_append
abbrev isC (n t : ByteArray) : Array Value := #[.int .i64 3, .int .i64 0, .string n, .string t, .int .i64 0, .slice none 0 0]
abbrev ndC (k : Int) (v : Value) : Array Value := #[.int .i64 k, .int .i64 1, .int .i64 0, .int .i64 0, .string ⟨#[]⟩, .string ⟨#[]⟩, .int .i64 0, v]
theorem Tryz.info109 : (Tryz.prog.info? 109).map (fun i => (i.zero, i.size, i.bytes)) = some (some (.agg #[.int .i64 0, .int .i64 0, .string ⟨#[]⟩, .string ⟨#[]⟩, .int .i64 0, .slice none 0 0]), 6, 80) := by kernel_rfl

set_option maxRecDepth 100000 in
theorem pis_any (n t : ByteArray) (w : World) : Calls Tryz.prog 62 #[.string n, .string t] w fun e w' => e = .returned (.agg (isC n t)) ∧ Below w.heap.size w w' := by
  go_enter Tryz.func62, Tryz.ntmps62
  go_wp2_with fail
  refine bodyPost_ret (results_row rfl _ _ w.heap.size 109 _ _ rfl (Blk.new w 109 (isC n t)) Tryz.underlying109 rfl (by kernel_rfl)) rfl ?_
  exact ⟨rfl, (Below.refl _ w).alloc (Nat.le_refl _) _⟩
set_option maxRecDepth 100000 in
theorem ris_any (n t : ByteArray) (w : World) : Calls Tryz.prog 63 #[.agg #[.string n, .string t]] w fun e w' => e = .returned (.agg (isC n t)) ∧ Below w.heap.size w w' := by
  go_enter Tryz.func63, Tryz.ntmps63
  go_wp2_with fail
  have hb : Blk ((w.alloc (.cells #[.string n, .string t] 79)).alloc (.cells (isC n t) 109)) (w.heap.size + 1) 109 (isC n t) := blk_second w _ _ _
  refine bodyPost_ret (results_row rfl _ _ (w.heap.size + 1) 109 _ _ rfl hb Tryz.underlying109 rfl (by kernel_rfl)) rfl ?_
  exact ⟨rfl, ((Below.refl _ w).alloc (Nat.le_refl _) _).alloc (by simp) _⟩
set_option maxRecDepth 100000 in
theorem pneed_any (k : Int) (A : Option Addr) (n c : Nat) (w : World) : Calls Tryz.prog 60 #[.int .i64 k, .slice A n c] w fun e w' => e = .returned (.agg (ndC k (.slice A n c))) ∧ Below w.heap.size w w' := by
  go_enter Tryz.func60, Tryz.ntmps60
  go_wp2_with fail
  refine bodyPost_ret (results_row rfl _ _ w.heap.size 111 _ _ rfl (Blk.new w 111 (ndC k (.slice A n c))) Tryz.underlying111 rfl (by kernel_rfl)) rfl ?_
  exact ⟨rfl, (Below.refl _ w).alloc (Nat.le_refl _) _⟩
set_option maxRecDepth 100000 in
theorem rneed_any (k : Int) (A : Option Addr) (n c : Nat) (w : World) : Calls Tryz.prog 64 #[.int .i64 k, .slice A n c] w fun e w' => e = .returned (.agg (ndC k (.slice A n c))) ∧ Below w.heap.size w w' := by
  go_enter Tryz.func64, Tryz.ntmps64
  go_wp2_with fail
  refine bodyPost_ret (results_row rfl _ _ w.heap.size 111 _ _ rfl (Blk.new w 111 (ndC k (.slice A n c))) Tryz.underlying111 rfl (by kernel_rfl)) rfl ?_
  exact ⟨rfl, (Below.refl _ w).alloc (Nat.le_refl _) _⟩

set_option maxRecDepth 100000 in
set_option maxHeartbeats 800000 in
theorem palike_any (kd : Int) (nu is : ByteArray) (fA : Option Addr) (m fc : Nat) (fs : List Fld) (A : Option Addr) (n c : Nat) (l : List ByteArray) (w : World) (hm : Hid (fs.length = m)) (hm0 : m ≤ 1000) (hF : Hid (FieldsAt w fA fs)) (hl : Hid (l.length = n)) (hn : n ≤ 1000) (hA : Hid (StrsAt w A l)) :
    Calls Tryz.prog 61 #[.agg #[.int .i64 kd, .string nu, .string is, .slice fA m fc], .slice A n c] w fun e w' => ∃ v, e = .returned v ∧ w'.ownsRow w.heap.size 109 6 v n (flT (l.map fun s => ⟨3, s, getV fs s, 0⟩)) ∧ Below w.heap.size w w' := by
  obtain ⟨i0, hi, hz0, hz1, hz2⟩ := info_parts Tryz.info109
  obtain ⟨w0, hw0⟩ : ∃ W, Hid (w.alloc (.cells #[.int .i64 kd, .string nu, .string is, .slice fA m fc] 32) = W) := ⟨_, rfl⟩
  have hb0 : Hid (Below w.heap.size w w0) := by rw [← hw0.out]; exact (Below.refl _ w).alloc (Nat.le_refl _) _
  have hk0 : Hid (Blk w0 w.heap.size 32 #[.int .i64 kd, .string nu, .string is, .slice fA m fc]) := by rw [← hw0.out]; exact Lib.hid (Blk.new _ _ _)
  have hlt0 : Hid (w.heap.size < w0.heap.size) := hk0.out.lt
  go_enter Tryz.func61, Tryz.ntmps61
  go_wp2_with fail
  rw [hw0.out]
  go_loopw [5, 12] (fun v i wr => ∃ k : Nat, k ≤ n ∧ i = .int .i64 (k : Int) ∧ Hid (wr.ownsRow w0.heap.size 109 6 v k (flT ((l.take k).map fun s => ⟨3, s, getV fs s, 0⟩))) ∧ Hid (Below w0.heap.size w0 wr)) (fun _ i _ => n - (intOf i).toNat)
  case atStart => exact ⟨0, Nat.zero_le _, rfl, by unfold Hid; simpa [flT] using World.ownsRow_nil w0 w0.heap.size 109 6, Below.refl _ _⟩
  case round =>
    obtain ⟨k, hk, rfl, hown, hB⟩ := hrel
    obtain ⟨Av, cw, rfl⟩ := own_form hown.out
    by_cases hlt : k < n
    · obtain ⟨s, hs⟩ : ∃ x, l[k]? = some x := ⟨_, List.getElem?_eq_getElem (by have := hl.out; omega)⟩
      obtain ⟨b, off, rfl, h0⟩ := ((hA.out.below hb0.out).below hB.out) k s hs
      have htk : Hid (flT ((l.take (k + 1)).map fun s => ⟨3, s, getV fs s, 0⟩) = flT ((l.take k).map fun s => ⟨3, s, getV fs s, 0⟩) ++ (isC s (getV fs s)).toList) := by unfold Hid; rw [List.take_add_one, hs]; simp [flT, encT]
      have hkr := hk0.out.below hB.out hk0.out.lt
      have c3 : wr.cell? ⟨w.heap.size, 3, none⟩ = some (.slice fA m fc) := hkr.cell 3
      have hget := Lib.hid (get_any fA m fc fs s wr (by unfold maxLen; omega) hm (Lib.hid ((hF.out.below hb0.out).below hB.out)))
      have hkm : decide (k < n) = true := decide_eq_true hlt
      obtain ⟨gv, hgv⟩ : ∃ x, Hid (getV fs s = x) := ⟨_, rfl⟩
      have hq1 : Hid (k + 1 ≤ maxLen) := by unfold Hid maxLen; omega
      have hq2 : Hid ((k + 1) * 80 ≤ 140737488355328) := by unfold Hid; omega
      rw [hgv.out] at hget htk
      clear hs hkr
      go_wp2_with fail
      refine hget.out.mono ?_
      rintro e w2 ⟨rfl, hb2⟩
      have hB2 : Hid (Below w0.heap.size w0 w2) := hB.out.trans (hb2.mono hB.out.size)
      have hown2 := Lib.hid (own_below hown.out hb2)
      clear hb2 hget
      go_wp2_with fail
      refine (pis_any s gv w2).mono ?_
      rintro e w3 ⟨rfl, hb3⟩
      have hB3 : Hid (Below w0.heap.size w0 w3) := hB2.out.trans (hb3.mono hB2.out.size)
      have hown3 := Lib.hid (own_below hown2.out hb3)
      have hsz : Hid (w0.heap.size ≤ (w3.alloc (.cells (isC s gv) 109)).heap.size) := Nat.le_trans hB3.out.size (by simp)
      have hone : Hid (∀ u ∈ (isC s gv).toList, u.oneCell' = true) := encT_one ⟨3, s, gv, 0⟩
      clear hb3
      go_wp2_with (at_builtin; go_must (refine wpList_app3 w0.heap.size rfl (.tmp 23) (.tmp 27) 107 rfl 109 i0 _ 6 80 Tryz.underlying107 hi hz0 hz1 hz2 rfl (by decide) (.slice Av k cw) k _ rfl w3.heap.size 1 (isC s gv) rfl (hown3.out.alloc _) (Blk.new w3 109 _) rfl hone.out hq1.out hq2.out hsz.out ?_); intro v5 w5 ho5 hb5 hg5)
      have ho5' : Hid (w5.ownsRow w0.heap.size 109 6 v5 (k + 1) (flT ((l.take (k + 1)).map fun s => ⟨3, s, getV fs s, 0⟩))) := by rw [htk.out]; exact Lib.hid ho5
      have hB5 : Hid (Below w0.heap.size w0 w5) := (hB3.out.alloc hB3.out.size _).trans hb5
      clear ho5 hb5 hg5
      go_roundw
      case rel => exact ⟨k + 1, by omega, by go_num, ho5', hB5⟩
      case measure => simp [intOf]; omega
    · have e : k = n := by omega
      have hkm : decide (k < n) = false := decide_eq_false hlt
      have eT : l.take k = l := List.take_of_length_le (by have := hl.out; omega)
      rw [eT] at hown
      clear eT
      go_wp2_with fail
      go_ret
      exact ⟨_, rfl, by rw [← e]; exact own_mono_base hown.out hb0.out.size, hb0.out.trans (hB.out.mono hb0.out.size)⟩
end Go.Proofs.YtnmnknkdnjkpjaaGreatDoor

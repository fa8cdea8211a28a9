/- pack.List: a line for each box, and one for all; paper.marks. -/
import Derived.Test.YtnmnknkdnjkpjaaGreatDoorR
namespace Go.Proofs.YtnmnknkdnjkpjaaGreatDoor
open Go Go.RowKit Go.BigFrame Go.Maps

def boxT (x : Bx) : List UInt8 := x.mark.data.toList ++ [32] ++ sizeT x.kind ++ (lotsT x.lots ++ [10])
def boxesT (l : List Bx) : List UInt8 := l.flatMap boxT
def listT (l : List Bx) : List UInt8 := boxesT l ++ [97, 108, 108] ++ (lotsT (joinM (lotsB l)) ++ [10])
theorem boxT_len {x : Bx} (h : x.mark.size ≤ 3000) (hn : x.lots.length ≤ 30) (hl : ∀ y ∈ x.lots, y.good.size ≤ 3000 ∧ i64 y.count) : (boxT x).length ≤ 100000 := by
  have h1 := lotsT_len hl
  have h2 := sizeT_len x.kind
  have e1 : x.mark.data.toList.length = x.mark.size := Array.length_toList
  simp only [boxT, List.length_append, List.length_cons, List.length_nil]
  omega
theorem boxesT_len {l : List Bx} (h : ∀ x ∈ l, (boxT x).length ≤ 100000) : (boxesT l).length ≤ l.length * 100000 := by
  induction l with
  | nil => simp [boxesT]
  | cons x l ih =>
    have h1 := h x (by simp)
    have h2 := ih fun y hy => h y (by simp [hy])
    simp only [boxesT, List.flatMap_cons, List.length_append, List.length_cons] at h2 ⊢
    omega
theorem boxesT_take (l : List Bx) (k : Nat) (x : Bx) (hx : l[k]? = some x) : boxesT (l.take (k + 1)) = boxesT (l.take k) ++ boxT x := by
  rw [List.take_add_one, hx]; simp [boxesT]
theorem safe_low {α : Type} {enc : α → List Value} {k : Nat} {w w' : World} {A : Option Addr} {l : List α} (h : RowOf enc k w A l) (hk : ∀ x, (enc x).length = k) (hk0 : 0 < k) (b : Nat) : SafeRow w' w.heap.size b A l := by
  intro hne g o e
  refine .inl ?_
  have hlen : 0 < l.length := by cases l with
    | nil => exact absurd rfl hne
    | cons x l => simp
  obtain ⟨b', off, e', hc⟩ := h 0 l[0] (List.getElem?_eq_getElem hlen)
  rw [e] at e'
  simp only [Option.some.injEq, Addr.mk.injEq, and_true] at e'
  obtain ⟨rfl, rfl⟩ := e'
  exact World.block_lt_of_cell? w _ (hc 0 _ (List.getElem?_eq_getElem (by rw [hk]; exact hk0)))

set_option maxRecDepth 100000 in
set_option maxHeartbeats 1600000 in
theorem list_any (A : Option Addr) (n c : Nat) (l : List Bx) (w : World) (hn : n ≤ 30) (hl : Hid (l.length = n)) (hA : Hid (BoxesOk w A l)) (he : Hid (Env w)) :
    Calls Tryz.prog 14 #[.slice A n c] w fun e w' => e = .returned (.string (mkB (listT l))) ∧ Below w.heap.size w w' := by
  have eg : Hid (∀ args w, (callFunc 40 args).run Tryz.prog w = .ok (.enter 40 args) w) := enters_of Tryz.func40 (by kernel_rfl) rfl
  have hnew := Lib.hid (builder_new w)
  have hB0 : Hid (Below w.heap.size w (w.alloc (.cells #[.pointer none, .slice none 0 0] 88))) := (Below.refl _ w).alloc (Nat.le_refl _) _
  have hboxT : Hid (∀ x ∈ l, (boxT x).length ≤ 100000) := fun x hx => boxT_len (hA.out.small x hx).1 (hA.out.small x hx).2.1 fun y hy => ⟨(hA.out.small x hx).2.2 y hy, (hA.out.at_.2 x hx).2.2.2.2 y hy⟩
  have h7 : Hid (6 ≤ w.heap.size) := he.out.size
  go_enter Tryz.func14, Tryz.ntmps14
  go_wp2_with fail
  go_loopw [10] (fun i wr => ∃ k : Nat, k ≤ n ∧ i = .int .i64 (k : Int) ∧ Hid (Below w.heap.size w wr) ∧ Hid (Bld wr w.heap.size w.heap.size (boxesT (l.take k)))) (fun i _ => n - (intOf i).toNat)
  case atStart => exact ⟨0, Nat.zero_le _, rfl, hB0, by simpa [boxesT] using hnew⟩
  case round =>
    obtain ⟨k, hk, rfl, hB, hbr⟩ := hrel
    by_cases hlt : k < n
    · obtain ⟨x, hx⟩ : ∃ x, l[k]? = some x := ⟨_, List.getElem?_eq_getElem (by have := hl.out; omega)⟩
      obtain ⟨b, off, rfl, h0, h1, h2, hL, hmk, hln⟩ := boxes_cells (hA.out.below hB.out) k x hx
      have htk := Lib.hid (boxesT_take l k x hx)
      have hmem := List.mem_of_getElem? hx
      have hrow := (hA.out.at_.2 x hmem).1
      have hbl : (boxesT (l.take k)).length ≤ 30 * 100000 := by
        refine Nat.le_trans (boxesT_len fun y hy => hboxT.out y (List.mem_of_mem_take hy)) ?_
        rw [List.length_take]; exact Nat.mul_le_mul_right _ (Nat.le_trans (Nat.min_le_left _ _) (by omega))
      have hbx1 := hboxT.out x hmem
      have hsafe := fun w' => Lib.hid (safe_low (w' := w') hrow encL_len (by decide) w.heap.size)
      have hL' := Lib.hid hL
      have hrow' := Lib.hid hrow
      have hbl' := Lib.hid hbl
      have hbx1' := Lib.hid hbx1
      clear hx hL hmem hrow hbl hbx1
      obtain ⟨mk, kd, bA, bc, ls⟩ := x
      simp only at h0 h1 h2 hmk hln
      obtain ⟨m, hm⟩ : ∃ m, Hid (ls.length = m) := ⟨_, rfl⟩
      rw [hm.out] at h2 hln
      obtain ⟨sz, hsz⟩ : ∃ s, Hid (sizeT kd = s) := ⟨_, rfl⟩
      have hszl : sz.length ≤ 5 := by rw [← hsz.out]; exact sizeT_len kd
      have hcat0 : ¬ 9223372036854775807 < mk.size + 1 := by omega
      have hcat1 : ¬ 9223372036854775807 < mk.size + 1 + (mkB sz).size := by have e : (mkB sz).size = sz.length := size_list sz; omega
      have hBs : Hid (w.heap.size ≤ wr.heap.size) := hB.out.size
      have hblk := Lib.hid (Blk.new wr 71 #[.string mk, .int .i64 kd, .slice bA m bc])
      have hba : Hid (Below wr.heap.size wr (wr.alloc (.cells #[.string mk, .int .i64 kd, .slice bA m bc] 71))) := (Below.refl _ wr).alloc (Nat.le_refl _) _
      have hBa : Hid (Below w.heap.size w (wr.alloc (.cells #[.string mk, .int .i64 kd, .slice bA m bc] 71))) := hB.out.alloc hBs.out _
      have hbda := Lib.hid (hbr.out.below hba.out)
      have hne : Hid (wr.heap.size ≠ w.heap.size) := by have := hbr.out.lt; unfold Hid; omega
      have e1 : (mk ++ ⟨#[32]⟩ ++ mkB sz : ByteArray).data.toList = mk.data.toList ++ [32] ++ sz := by simp [mkB]
      have hwl : Hid ((boxesT (l.take k)).length + (mk ++ ⟨#[32]⟩ ++ mkB sz : ByteArray).size ≤ 140737488355328) := by
        have e : (mk ++ ⟨#[32]⟩ ++ mkB sz : ByteArray).size = (mk.data.toList ++ [32] ++ sz).length := by rw [← e1]; exact Array.length_toList.symm
        have e2 : mk.data.toList.length = mk.size := Array.length_toList
        have := hbl'.out
        rw [e]; simp only [List.length_append, List.length_cons, List.length_nil]; unfold Hid; omega
      have e1' := Lib.hid e1
      have hmk' := Lib.hid hmk
      have hszl' := Lib.hid hszl
      have hln' := Lib.hid hln
      clear e1 hszl hln hmk
      go_wp2_with fail
      go_region_held3 (fun W => W.cell? ⟨wr.heap.size, 0, none⟩ = some (.string mk) ∧ W.cell? ⟨wr.heap.size, 1, none⟩ = some (.int .i64 kd)) (first | exact ⟨hblk.out.cell 0, hblk.out.cell 1⟩ | exact ⟨hx2.out.cell 0, hx2.out.cell 1⟩) (first
        | (go_at_call 44; (with_reducible refine (size_any kd _).mono ?_); rintro e w1 ⟨rfl, rfl⟩; rw [hsz.out])
        | (go_at_call 41; (with_reducible refine (writeS_any w.heap.size w.heap.size (boxesT (l.take k)) (mk ++ ⟨#[32]⟩ ++ mkB sz) _ (Lib.hid (hbda.out.below (Below.refl _ _).drew)) hwl.out (Nat.le_trans hBs.out (by simp))).mono ?_); rintro e w2 ⟨⟨nn, rfl⟩, hB2, hK2, hb2⟩; have hx2 : Hid (Blk w2 wr.heap.size 71 #[.string mk, .int .i64 kd, .slice bA m bc]) := kept_blk hK2 hblk.out hne.out (by decide)))
      all_goals
        have hBn : Hid (Below w.heap.size w w2) := hBa.out.trans ((Below.refl _ _).drew.trans hB2)
        have hKn : Hid (Lib.OthersKept 5 (some w.heap.size) (wr.alloc (.cells #[.string mk, .int .i64 kd, .slice bA m bc] 71)) w2) := hK2
        have hbn := Lib.hid hb2
        have c2 : w2.cell? ⟨wr.heap.size, 2, none⟩ = some (.slice bA m bc) := hx2.out.cell 2
        rw [e1'.out] at hbn
        clear hB2 hK2 hb2
        have hlots : Hid (LotsAt w2 bA ls) := by
          exact ⟨hrow'.out.below hBn.out, hL'.out.nums, hL'.out.size⟩
        have hcall := Lib.hid (tell_any bA m bc ls w2 w.heap.size w.heap.size (boxesT (l.take k) ++ (mk.data.toList ++ [32] ++ sz)) (by have := hln'.out; omega) hm hlots (hsafe w2) (Lib.hid (he.out.below hBn.out)) h7.out hBn.out.size hbn (by
          have h1 := hbl'.out; have h2 := hbx1'.out
          have e : boxT ⟨mk, kd, bA, bc, ls⟩ = mk.data.toList ++ [32] ++ sz ++ (lotsT ls ++ [10]) := by unfold boxT; rw [hsz.out]
          rw [e] at h2
          simp only [List.length_append, List.length_cons, List.length_nil] at h2 ⊢
          unfold Hid; omega))
        unfold Writes at hcall
        go_wp2_with fail
        refine hcall.out.mono ?_
        rintro e w3 ⟨rfl, hB3, _, hb3⟩
        have hBo : Hid (Below w.heap.size w w3) := hBn.out.trans hB3
        have hbo : Hid (Bld w3 w.heap.size w.heap.size (boxesT (l.take (k + 1)))) := by
          rw [htk.out]
          have e : boxT ⟨mk, kd, bA, bc, ls⟩ = mk.data.toList ++ [32] ++ sz ++ (lotsT ls ++ [10]) := by unfold boxT; rw [hsz.out]
          rw [e, ← List.append_assoc]; exact hb3
        clear hB3 hb3
        go_wp2_with fail
        go_roundw
        case rel => exact ⟨k + 1, by omega, by go_num, hBo, hbo⟩
        case measure => simp [intOf]; omega
    · have e : k = n := by omega
      have eT : l.take k = l := List.take_of_length_le (by have := hl.out; omega)
      rw [eT] at hbr
      have hbl : Hid ((boxesT l).length ≤ 30 * 100000) := Nat.le_trans (boxesT_len hboxT.out) (by have := hl.out; exact Nat.mul_le_mul_right _ (by omega))
      have hBs : Hid (w.heap.size ≤ wr.heap.size) := hB.out.size
      have hj : Hid (∀ y ∈ joinM (lotsB l), y.good.size ≤ 3000 ∧ i64 y.count) := join_small fun y hy => by
        obtain ⟨x, hx, hy⟩ := List.mem_flatMap.1 hy
        exact (hA.out.small x hx).2.2 y hy
      have hw9 := Lib.hid (write_any w.heap.size w.heap.size (boxesT l) [97, 108, 108] wr hbr (by have := hbl.out; simp; omega) hBs.out)
      clear eT
      go_wp2_with fail
      refine hw9.out.mono ?_
      rintro e w1 ⟨⟨nn, rfl⟩, hB1, _, hb1⟩
      have hBn : Hid (Below w.heap.size w w1) := hB.out.trans hB1
      have hbn := Lib.hid hb1
      have hcn := Lib.hid (content_any A n c l w1 hn hl (hA.out.below hBn.out))
      clear hB1 hb1 hw9
      go_wp2_with fail
      refine hcn.out.mono ?_
      rintro e w2 ⟨A2, c2, rfl, hj1, hj2, hj3, hj4, hb2⟩
      have hB2 : Hid (Below w.heap.size w w2) := hBn.out.trans (hb2.mono hBn.out.size)
      have hbn2 := Lib.hid (hbn.out.below hb2)
      have hlots : Hid (LotsAt w2 A2 (joinM (lotsB l))) := ⟨hj3, fun y hy => (hj.out y hy).2, fun y hy => (hj.out y hy).1⟩
      have hsafe : Hid (SafeRow w2 w.heap.size w.heap.size A2 (joinM (lotsB l))) := fun _ g o h => by
        obtain ⟨h1, cs, h2⟩ := hj4 g o h
        have := hbn.out.lt
        exact .inr ⟨by omega, cs, _, h2, by decide⟩
      have hjl := lotsT_len hj.out
      obtain ⟨q, hq⟩ : ∃ q, Hid ((joinM (lotsB l)).length = q) := ⟨_, rfl⟩
      rw [hq.out] at hj1 hjl
      rw [hq.out]
      have hcall := Lib.hid (tell_any A2 q c2 (joinM (lotsB l)) w2 w.heap.size w.heap.size (boxesT l ++ [97, 108, 108]) (by omega) hq hlots hsafe (Lib.hid (he.out.below hB2.out)) h7.out hB2.out.size hbn2 (by
        have := hbl.out
        simp only [List.length_append, List.length_cons, List.length_nil]
        unfold Hid; omega))
      unfold Writes at hcall
      clear hj1 hj2 hj3 hj4 hb2 hjl
      go_wp2_with fail
      refine hcall.out.mono ?_
      rintro e w3 ⟨rfl, hB3, _, hb3⟩
      have hBo : Hid (Below w.heap.size w w3) := hB2.out.trans hB3
      have hbo : Hid (Bld w3 w.heap.size w.heap.size (listT l)) := hb3
      have hfin := Lib.hid (Tryz.Builder_String_any_k w.heap.size w.heap.size (listT l) w3 hbo.out hBo.out.size)
      clear hB3 hb3
      go_wp2_with fail
      refine hfin.out.mono ?_
      rintro e w4 ⟨rfl, _, hB4, _⟩
      go_wp2_with fail
      go_ret
      exact ⟨rfl, hBo.out.trans hB4⟩

/-- Boxes' marks with commas between. -/
def marksT (l : List Bx) : List UInt8 := Lib.join (l.map fun x => x.mark.data.toList) [44]
theorem marksT_len {l : List Bx} (hn : l.length ≤ 30) (h : ∀ x ∈ l, x.mark.size ≤ 3000) : (marksT l).length ≤ 100000 := by
  have := join_len [44] 3000 (l.map fun x => x.mark.data.toList) (fun x hx => by
    obtain ⟨y, hy, rfl⟩ := List.mem_map.1 hx
    have e1 : y.mark.data.toList.length = y.mark.size := Array.length_toList
    have := h y hy
    omega)
  simp only [List.length_map, List.length_cons, List.length_nil] at this
  unfold marksT
  have h2 := Nat.mul_le_mul_right (3000 + 1) hn
  omega
set_option maxRecDepth 100000 in
set_option maxHeartbeats 1600000 in
theorem marks_any (A : Option Addr) (n c : Nat) (l : List Bx) (w : World) (hn : n ≤ 30) (hl : Hid (l.length = n)) (hA : Hid (BoxesOk w A l)) :
    Calls Tryz.prog 37 #[.slice A n c] w fun e w' => e = .returned (.string (mkB (marksT l))) ∧ Below w.heap.size w w' := by
  obtain ⟨i0, hi, hz0, hz1, hz2⟩ := info_parts Tryz.info9
  have hm1 : Hid (i0.bytes * n ≤ 281474976710656) := by unfold Hid; rw [hz2]; omega
  have hm2 : Hid (n ≤ maxLen) := by unfold Hid maxLen; omega
  have hml := Lib.hid (marksT_len (l := l) (by have := hl.out; omega) fun x hx => (hA.out.small x hx).1)
  go_enter Tryz.func37, Tryz.ntmps37
  go_wp2_with (at_make; go_must (refine wpList_make_own _ rfl _ _ 38 rfl w.heap.size 9 i0 _ 1 Tryz.underlying38 hi hz0 hz1 _ _ _ n rfl rfl rfl hm1.out hm2.out (Nat.le_refl _) ?_); intro w1 hown hgrow)
  have hB1 : Hid (Below w.heap.size w w1) := (Below.refl _ w).grown hgrow (Nat.le_refl _) (by simp)
  have hown1 := Lib.hid hown
  clear hown hgrow
  go_loopw [3, 11] (fun v i wr => ∃ k : Nat, k ≤ n ∧ i = .int .i64 (k : Int) ∧ Hid (wr.ownsRow w.heap.size 9 1 v k ((l.take k).map fun x => Value.string x.mark)) ∧ Hid (Below w.heap.size w wr)) (fun _ i _ => n - (intOf i).toNat)
  case atStart => exact ⟨0, Nat.zero_le _, rfl, hown1, hB1⟩
  case round =>
    obtain ⟨k, hk, rfl, hown, hB⟩ := hrel
    by_cases hlt : k < n
    · obtain ⟨x, hx⟩ : ∃ x, l[k]? = some x := ⟨_, List.getElem?_eq_getElem (by have := hl.out; omega)⟩
      obtain ⟨b, off, rfl, h0, h1, h2, hL, hmk, hln⟩ := boxes_cells (hA.out.below hB.out) k x hx
      have htk : Hid ((l.take (k + 1)).map (fun x => Value.string x.mark) = (l.take k).map (fun x => Value.string x.mark) ++ [.string x.mark]) := by unfold Hid; rw [List.take_add_one, hx]; simp
      clear hx hL hmk hln
      obtain ⟨mk, kd, bA, bc, ls⟩ := x
      simp only at h0 h1 h2 htk
      obtain ⟨m, hm⟩ : ∃ m, Hid (ls.length = m) := ⟨_, rfl⟩
      rw [hm.out] at h2
      have hq1 : Hid (k + 1 ≤ maxLen) := by unfold Hid maxLen; omega
      have hq2 : Hid ((k + 1) * 16 ≤ 140737488355328) := by unfold Hid; omega
      have hone : Hid (∀ u ∈ (#[.string mk] : Array Value).toList, u.oneCell' = true) := by intro u hu; simp at hu; subst hu; rfl
      have hB1 : Hid (Below w.heap.size w (wr.alloc (.cells #[.string mk, .int .i64 kd, .slice bA m bc] 71))) := hB.out.alloc hB.out.size _
      have hsz : Hid (w.heap.size ≤ ((wr.alloc (.cells #[.string mk, .int .i64 kd, .slice bA m bc] 71)).alloc (.cells #[.string mk] 9)).heap.size) := Nat.le_trans hB.out.size (by simp; omega)
      go_wp2_with (at_builtin; go_must (refine wpList_app3 w.heap.size rfl (.tmp 15) (.tmp 18) 38 rfl 9 i0 _ 1 16 Tryz.underlying38 hi hz0 hz1 hz2 rfl (by decide) _ k ((l.take k).map fun x => Value.string x.mark) rfl (wr.heap.size + 1) 1 #[.string mk] rfl ((hown.out.alloc _).alloc _) (blk_second wr _ 9 _) rfl hone.out hq1.out hq2.out hsz.out ?_); intro v5 w5 ho5 hb5 hg5)
      have ho5' : Hid (w5.ownsRow w.heap.size 9 1 v5 (k + 1) ((l.take (k + 1)).map fun x => Value.string x.mark)) := by rw [htk.out]; exact Lib.hid ho5
      have hB5 : Hid (Below w.heap.size w w5) := (hB1.out.alloc hB1.out.size _).trans hb5
      clear ho5 hb5 hg5
      go_roundw
      case rel => exact ⟨k + 1, by omega, by go_num, ho5', hB5⟩
      case measure => simp [intOf]; omega
    · have e : k = n := by omega
      have eT : l.take k = l := List.take_of_length_le (by have := hl.out; omega)
      rw [eT] at hown
      have hown2 : wr.ownsRow w.heap.size 9 1 u3 k ((l.map Bx.mark).map Value.string) := by rw [List.map_map]; exact hown.out
      obtain ⟨A1, c1, rfl, hc1, hs1⟩ := own_strs hown2 (by have := hl.out; simp; omega)
      have hs2 : StrsAt wr A1 ((l.map fun x => x.mark.data.toList).map mkB) := by
        have e : (l.map fun x => x.mark.data.toList).map mkB = l.map Bx.mark := by
          rw [List.map_map]; exact List.map_congr_left fun x _ => ByteArray.ext (by simp [mkB])
        rw [e]; exact hs1
      have hcall := Lib.hid (join_any A1 k c1 (l.map fun x => x.mark.data.toList) wr (by have := hl.out; simp; omega) hs2 hc1 (by omega) (by have := hml.out; unfold marksT at this; omega))
      clear hown2 hs1 hs2 eT e
      go_wp2_with fail
      refine hcall.out.mono ?_
      rintro e w2 ⟨rfl, hb2⟩
      go_wp2_with fail
      go_ret
      exact ⟨rfl, hB.out.trans (hb2.mono hB.out.size)⟩
end Go.Proofs.YtnmnknkdnjkpjaaGreatDoor

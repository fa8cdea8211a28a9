/- The walks of goods.rising and goods.Join. -/
import Derived.Test.YtnmnknkdnjkpjaaGreatDoorO
import Derived.Maps.RangeWalk
namespace Go.Proofs.YtnmnknkdnjkpjaaGreatDoor
open Go Go.RowKit Go.BigFrame Go.Maps Go.Sort

/-- The goods of which there is something, rising. -/
def IsKeys (S : List UInt8 → Option Int) (ks : List (List UInt8)) : Prop := ks.Nodup ∧ ∀ x, x ∈ ks ↔ (S x).isSome = true
def lotK (S : List UInt8 → Option Int) (k : List UInt8) : Lt := ⟨⟨k.toArray⟩, (S k).getD 0⟩
theorem IsKeys.same {S : List UInt8 → Option Int} {a b : List (List UInt8)} (h : IsKeys S a) (k : IsKeys S b) : a.mergeSort leB = b.mergeSort leB :=
  mergeSort_of_perm ((List.perm_ext_iff_of_nodup h.1 k.1).2 fun x => by rw [h.2, k.2])
theorem RowOf.mapK {S : List UInt8 → Option Int} {w : World} {A : Option Addr} {ts : List (List UInt8)} (h : RowOf (encK S) 2 w A ts) : RowOf encL 2 w A (ts.map (lotK S)) := by
  intro i x hx
  rw [List.getElem?_map] at hx
  obtain ⟨k, hk, rfl⟩ := Option.map_eq_some_iff.1 hx
  exact h i k hk
/-- The row lies in a block of that type. -/
def TypedAt (w : World) (B : Nat) (A : Option Addr) (e : TypeId) : Prop := ∀ g o, A = some ⟨g, o, none⟩ → B ≤ g ∧ ∃ cs, w.heap[g]? = some (.cells cs e (0, 0))
theorem Tryz.info63 : (Tryz.prog.info? 63).map (fun i => (i.zero, i.size, i.bytes)) = some (some (.agg #[.string ⟨#[]⟩, .int .i64 0]), 2, 24) := by kernel_rfl

set_option maxRecDepth 100000 in
set_option maxHeartbeats 1600000 in
theorem rising_any (b m : Nat) (S : List UInt8 → Option Int) (w : World) (hm : m ≤ 1000000) (hM : Hid (MapFn w Tryz.prog 9 3 b m (.int .i64 0) (valF S))) (hS : Hid (∀ x, (S x).isSome = true → x.length ≤ 3000)) :
    Calls Tryz.prog 94 #[.map (some b)] w fun e w' => ∃ A c ks, e = .returned (.slice A (ks.mergeSort leB).length c) ∧ IsKeys S ks ∧ ks.length ≤ m ∧ RowOf encL 2 w' A ((ks.mergeSort leB).map (lotK S)) ∧ (ks.mergeSort leB).length ≤ c ∧ TypedAt w' w.heap.size A 63 ∧ Below w.heap.size w w' := by
  obtain ⟨i0, hi, hz0, hz1, hz2⟩ := info_parts Tryz.info63
  obtain ⟨D0, zd, hown, hzd, hfn⟩ := hM.out
  have hsz := Lib.hid hown.size_le
  have hown' := Lib.hid hown
  have hfn' := Lib.hid hfn
  have hzd' := Lib.hid hzd
  have hbl := hown.lt
  clear hown hfn hzd
  have eg : Hid (∀ args w, (callFunc 109 args).run Tryz.prog w = .ok (.enter 109 args) w) := enters_of Tryz.func109 (by kernel_rfl) rfl
  go_enter Tryz.func94, Tryz.ntmps94
  go_wp2_with (at_range; go_must (refine wpList_range_own _ rfl _ 148 rfl 9 3 keyed9 Tryz.underlying148 _ b m D0 rfl hown'.out ?_); intro w0 hrg0 hg0 hs0)
  have hrg0' := Lib.hid hrg0
  have hB0 : Hid (Below w.heap.size w w0) := (Below.refl _ _).grown hg0 (Nat.le_refl _) (by simp)
  clear hrg0 hg0 hs0
  go_frame
  go_loopw [3] (fun v wr => ∃ (left : Lit → Bool) (cnt : Nat) (ss : List (List UInt8)), Hid (wr.ranges Tryz.prog 9 (plainElem Tryz.prog 3) b w.heap.size m D0 left cnt) ∧ ss.length + cnt ≤ Maps.size D0 ∧
      Hid (wr.ownsRow w.heap.size 63 2 v ss.length (ss.flatMap (encK S))) ∧ Hid (Collected D0 left ss) ∧ Hid (Below w.heap.size w wr)) (fun _ wr => wr.rangeLeft b w.heap.size)
  case atStart => exact ⟨_, _, [], hrg0', by simp, World.ownsRow_nil _ _ _ _, Collected.start D0, hB0⟩
  case round =>
    obtain ⟨left, cnt, ss, hrg, hcs, hrow, hC, hnx⟩ := hrel
    have hcs' := Lib.hid hcs
    clear hcs
    go_wp2_with (at_next; go_must (refine wpList_next_ranges _ rfl _ rfl 9 keyed9 (plainElem Tryz.prog 3) (fun x : List UInt8 => Value.string ⟨x.toArray⟩) (Value.int .i64) (fun key kl hk => by obtain ⟨x, hx, _⟩ := Maps.keyOf_str Tryz.underlying9 hk; exact ⟨x, hx⟩) (fun v y hv => by obtain ⟨c, rfl, _⟩ := plainElem_int_inv Tryz.underlying3 hv; exact ⟨c, rfl⟩) b w.heap.size m _ _ _ rfl hrg.out ?_ ?_))
    · intro hc0 hl0
      have hl0' := Lib.hid hl0
      clear hc0 hl0
      have hK : Hid (IsKeys S ss) := by
        refine ⟨hC.out.1, fun x => ?_⟩
        rw [hC.out.2 x, hl0'.out]
        simp only [and_true]
        constructor
        · intro hx
          have hmem : x ∈ ss := (hC.out.2 x).2 ⟨hx, hl0'.out _⟩
          have hlen := strKeys_le hown'.out Tryz.underlying9 x ((hC.out.perm hown'.out keyed9 Tryz.underlying9 hl0'.out).mem_iff.1 hmem)
          have := (hfn'.out (.string ⟨x.toArray⟩) (.string x) (Go.WideMaps.keyOf_string_mk Tryz.underlying9 (s := ⟨x.toArray⟩) (by simpa [ByteArray.size] using hlen))).2
          rw [hx] at this
          simpa [valF] using this.symm
        · intro hx
          have hlen := hS.out x hx
          have := (hfn'.out (.string ⟨x.toArray⟩) (.string x) (Go.WideMaps.keyOf_string_mk Tryz.underlying9 (s := ⟨x.toArray⟩) (by simp [ByteArray.size]; unfold maxLen; omega))).2
          rw [this]
          simpa [valF] using hx
      have hsm : Hid (ss.length ≤ m) := Nat.le_trans (by have := hcs'.out; omega) hsz.out
      have hlen : Hid ((ss.mergeSort leB).length = ss.length) := List.length_mergeSort _
      rcases hrow.out.2 with ⟨rfl, h0⟩ | ⟨g, cap, cur, rfl, hbase, hb, h1, h2, h3, h4⟩
      · have e0 : ss = [] := List.eq_nil_of_length_eq_zero h0
        subst e0
        have hcon := Lib.hid (Go.Proofs.AnyF.slices_SortFunc_none Tryz.laysSort none 0 (.func (.func 109) #[] #[]) wr)
        change Hid (Calls Tryz.prog 108 _ _ _) at hcon
        go_wp2_with fail
        refine hcon.out.mono ?_
        rintro e w1 ⟨rfl, rfl⟩
        go_wp2_with fail
        go_ret
        exact ⟨none, 0, [], by simp, hK.out, Nat.zero_le _, by simpa using RowOf.nil, by simp, (fun g o h => by cases h), hnx.out⟩
      · have hgl : g < wr.heap.size := (Array.getElem?_eq_some_iff.1 hb).1
        have hHd := holds_own hrow.out rfl
        have hcon := Lib.hid (Go.Proofs.AnyQ.slices_SortFunc_total Tryz.laysSort 2 Tryz.isAgg63 Tryz.sizeOf63 (encK S) (encK_len S) (encK_one S) cmpS swoS 109 #[] g 0 cap ss.toArray wr eg.out (fun _ _ _ _ x y => less_any S x y _) hHd hgl (by have := hsm.out; simp; omega) totS)
        change Hid (Calls Tryz.prog 108 _ _ _) at hcon
        have hHd' := Lib.hid hHd
        have h1' := Lib.hid h1
        have hbase' := Lib.hid hbase
        have hb' := Lib.hid hb
        have hgl' := Lib.hid hgl
        simp only [leS] at hcon
        clear hHd hb h1 h2 h3 h4 hbase hgl
        go_wp2_with fail
        refine hcon.out.mono ?_
        rintro e w1 ⟨rfl, nn, os, rfl⟩
        obtain ⟨W1, hW1⟩ : ∃ W1, Hid (Go.Proofs.sortWorldK (encK S) 2 wr g 0 nn (ss.mergeSort leB).toArray os = W1) := ⟨_, rfl⟩
        rw [hW1.out]
        go_wp2_with fail
        go_ret
        refine ⟨_, cap, ss, by rw [hlen.out]; rfl, hK.out, hsm.out, ?_, by rw [hlen.out]; exact h1'.out, ?_, ?_⟩
        · rw [← hW1.out]
          refine (row_holds ?_).mapK
          unfold Go.Proofs.sortWorldK
          exact holds_grow id _ os g 0 _ (by rw [size_putRowK]; exact hgl'.out) (holdsK_putRowK _ 2 (Sort.ahead wr nn) g 0 ss.toArray _ hHd'.out (by simp))
        · intro g' o' hg'
          simp only [Option.some.injEq, Addr.mk.injEq] at hg'
          obtain ⟨rfl, _⟩ := hg'
          rw [← hW1.out]
          exact ⟨hbase'.out, heap_sortedK _ hb'.out⟩
        · rw [← hW1.out]
          exact hnx.out.grown (grownBy_sortedK _) hnx.out.size (fun j hj => by cases hj; exact hbase'.out)
    · intro x c kl yd yp w2 cnt2 hkey hlk hv hat hrg2 hlt hg2 hs2 hen
      obtain ⟨x', ex, rfl, _⟩ := Maps.keyOf_str Tryz.underlying9 hkey
      obtain rfl : x = x' := by simpa [Go.Proofs.encStr] using ex
      have hc : Hid (c = (S x).getD 0) := by
        have h1 := (hfn'.out _ _ hkey).1
        have h2 := plainElem_inj hv h1 (hat zd).symm
        simp only [valF] at h2
        cases hx : S x with
        | none => simp [hx] at h2; exact Lib.hid (by simpa using h2)
        | some u => simp [hx] at h2; exact Lib.hid (by simpa using h2)
      have hrow2 := Lib.hid (hrow.out.kept hg2 (Or.inr (row_ne_iter hrow.out hrg.out).symm))
      have hB2 : Hid (Below w.heap.size w w2) := hnx.out.grown hg2 hnx.out.size (fun j hj => by cases hj; exact Nat.le_refl _)
      have hrg2' := Lib.hid hrg2
      have hC2 := Lib.hid (hC.out.step hlk hat)
      have hlt' := Lib.hid hlt
      have hq1 : Hid (ss.length + 1 ≤ maxLen) := by have := hcs'.out; have := hsz.out; unfold Hid maxLen; omega
      have hq2 : Hid ((ss.length + 1) * 24 ≤ 140737488355328) := by have := hcs'.out; have := hsz.out; unfold Hid; omega
      have hone : Hid (∀ u ∈ (#[.string ⟨x.toArray⟩, .int .i64 c] : Array Value).toList, u.oneCell' = true) := by
        intro u hu
        simp at hu
        rcases hu with rfl | rfl <;> rfl
      clear hs2 hkey hv hat hg2 hlk hlt hrg2 ex
      go_wp2_with (at_builtin; go_must (refine wpList_app3 w.heap.size rfl (.tmp 13) (.tmp 17) 57 rfl 63 i0 _ 2 24 Tryz.underlying57 hi hz0 hz1 hz2 rfl (by decide) _ ss.length (ss.flatMap (encK S)) rfl w2.heap.size 1 #[.string ⟨x.toArray⟩, .int .i64 c] rfl (hrow2.out.alloc _) (Blk.new w2 63 _) rfl hone.out hq1.out hq2.out (Nat.le_trans hB2.out.size (by simp)) ?_); intro v5 w5 ho5 hb5 hg5)
      have hrg3 := (hrg2'.out.alloc _).kept hg5 (row_ne_low hrow2.out hbl) (row_ne_iter hrow2.out hrg2'.out)
      have hrg3' := Lib.hid hrg3
      have ho5' := Lib.hid ho5
      have hB5 : Hid (Below w.heap.size w w5) := (hB2.out.alloc hB2.out.size _).trans hb5
      clear hrg3 ho5 hb5 hg5
      go_roundw
      case rel =>
        refine ⟨_, cnt2, ss ++ [x], hrg3', by have := hcs'.out; have := hlt'.out; simp; omega, ?_, hC2, hB5⟩
        rw [List.flatMap_append, List.length_append]
        have := ho5'.out
        rw [hc.out] at this
        exact Lib.hid (by simpa [encK] using this)
      case measure => rw [hrg3'.out.left_eq, hrg.out.left_eq]; exact hlt'.out

/-- The goods of lots of which there is something. -/
def goodsL (l : List Lt) : List (List UInt8) := ((l.filter fun x => decide (0 < x.count)).map fun x => x.good.data.toList)
theorem cntF_some (l : List Lt) (k : List UInt8) : (cntF l k).isSome = true ↔ k ∈ goodsL l := by
  have key : ∀ (l : List Lt) (S : List UInt8 → Option Int), (l.foldl cntS S k).isSome = true ↔ (S k).isSome = true ∨ k ∈ goodsL l := by
    intro l
    induction l with
    | nil => intro S; simp [goodsL]
    | cons x l ih =>
      intro S
      rw [List.foldl_cons, ih]
      unfold cntS goodsL
      by_cases hp : 0 < x.count
      · by_cases hk : k = x.good.data.toList
        · simp [hp, hk]
        · simp [hp, hk]
      · simp [hp]
  simpa [cntF] using key l (fun _ => none)
/-- Each once. -/
def onceL : List (List UInt8) → List (List UInt8)
  | [] => []
  | x :: l => if x ∈ l then onceL l else x :: onceL l
theorem mem_onceL (k : List UInt8) : ∀ l, k ∈ onceL l ↔ k ∈ l
  | [] => by simp [onceL]
  | x :: l => by
    rw [onceL]
    by_cases h : x ∈ l
    · rw [if_pos h, mem_onceL k l, List.mem_cons]
      exact ⟨.inr, fun h' => h'.elim (fun e => e ▸ h) id⟩
    · rw [if_neg h, List.mem_cons, List.mem_cons, mem_onceL k l]
theorem nodup_onceL : ∀ l, (onceL l).Nodup
  | [] => by simp [onceL]
  | x :: l => by
    rw [onceL]
    by_cases h : x ∈ l
    · rw [if_pos h]; exact nodup_onceL l
    · rw [if_neg h, List.nodup_cons, mem_onceL]; exact ⟨h, nodup_onceL l⟩
/-- All pieces of each good together, rising by the goods. -/
def joinM (l : List Lt) : List Lt := ((onceL (goodsL l)).mergeSort leB).map (lotK (cntF l))
theorem keysM (l : List Lt) : IsKeys (cntF l) (onceL (goodsL l)) := ⟨nodup_onceL _, fun x => by rw [mem_onceL, cntF_some]⟩

set_option maxRecDepth 100000 in
set_option maxHeartbeats 800000 in
theorem join_lots (A : Option Addr) (n c : Nat) (l : List Lt) (w : World) (hn : n ≤ 1000000) (hl : Hid (l.length = n)) (hA : Hid (LotsAt w A l)) :
    Calls Tryz.prog 73 #[.slice A n c] w fun e w' => ∃ A' c', e = .returned (.slice A' (joinM l).length c') ∧ (joinM l).length ≤ n ∧ (joinM l).length ≤ c' ∧ RowOf encL 2 w' A' (joinM l) ∧ TypedAt w' w.heap.size A' 63 ∧ Below w.heap.size w w' := by
  have hS : Hid (∀ x, (cntF l x).isSome = true → x.length ≤ 3000) := by
    intro x hx
    obtain ⟨y, hy, rfl⟩ := List.mem_map.1 ((cntF_some l x).1 hx)
    have := hA.out.size y (List.mem_filter.1 hy).1
    have e1 : y.good.data.toList.length = y.good.size := Array.length_toList
    omega
  go_enter Tryz.func73, Tryz.ntmps73
  go_wp2_with fail
  refine (counts_any A n c l w hn hl hA).mono ?_
  rintro e w1 ⟨b, m, rfl, hb, hm, hM, hb1⟩
  have hM' := Lib.hid hM
  clear hM
  go_wp2_with fail
  refine (rising_any b m (cntF l) w1 (by omega) hM' hS).mono ?_
  rintro e w2 ⟨A', c', ks, rfl, hK, hks, hR, hc, hT, hb2⟩
  have hT' : Hid (TypedAt w2 w.heap.size A' 63) := fun g o h => ⟨Nat.le_trans hb1.size (hT g o h).1, (hT g o h).2⟩
  have e1 : (ks.mergeSort leB).map (lotK (cntF l)) = joinM l := by rw [hK.same (keysM l)]; rfl
  have e2 : (ks.mergeSort leB).length = (joinM l).length := by rw [← e1, List.length_map]
  have e3 : (ks.mergeSort leB).length = ks.length := List.length_mergeSort _
  rw [e1] at hR
  rw [e2] at hc e3
  have hR' := Lib.hid hR
  have hB := Lib.hid (hb1.trans (hb2.mono hb1.size))
  have hc' := Lib.hid (And.intro (show (joinM l).length ≤ n by omega) hc)
  rw [e2]
  clear hK hks hR hc hT hb2 e1 e2 e3 hb1 hb hm
  obtain ⟨q, hq⟩ : ∃ q, Hid ((joinM l).length = q) := ⟨_, rfl⟩
  rw [hq.out]
  go_wp2_with fail
  go_ret
  exact ⟨A', c', by rw [hq.out]; rfl, hc'.out.1, hc'.out.2, hR'.out, hT'.out, hB.out⟩
theorem join_small {l : List Lt} {m : Nat} (h : ∀ x ∈ l, x.good.size ≤ m) : ∀ y ∈ joinM l, y.good.size ≤ m ∧ i64 y.count := by
  intro y hy
  obtain ⟨k, hk, rfl⟩ := List.mem_map.1 hy
  have hk' : k ∈ goodsL l := by
    have := (List.mergeSort_perm (onceL (goodsL l)) leB).mem_iff.1 hk
    rwa [mem_onceL] at this
  obtain ⟨x, hx, rfl⟩ := List.mem_map.1 hk'
  have := h x (List.mem_filter.1 hx).1
  have e : (lotK (cntF l) x.good.data.toList).good = x.good := ByteArray.ext Array.toArray_toList
  refine ⟨by rw [e]; exact this, ?_⟩
  unfold lotK
  simp only
  cases hv : cntF l x.good.data.toList with
  | none => exact ⟨by decide, by decide⟩
  | some v => exact cntF_range l _ v hv
end Go.Proofs.YtnmnknkdnjkpjaaGreatDoor

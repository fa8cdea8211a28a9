/- goods.counts: how many pieces of each good there are. -/
import Derived.Test.YtnmnknkdnjkpjaaGreatDoorM
import Derived.Test.YtnmnknkdnjkpjaaGreatDoorC
import Derived.StringKeys
import Derived.Sort.KeysCollected
namespace Go.Proofs.YtnmnknkdnjkpjaaGreatDoor
open Go Go.RowKit Go.BigFrame Go.Maps

theorem encL_len (x : Lt) : (encL x).length = 2 := rfl
theorem encB_len (x : Bx) : (encB x).length = 3 := rfl
/-- Lots in memory, none with too long a name. -/
structure LotsAt (w : World) (A : Option Addr) (l : List Lt) : Prop where
  row : RowOf encL 2 w A l
  nums : ∀ y ∈ l, i64 y.count
  size : ∀ y ∈ l, y.good.size ≤ 3000
theorem LotsAt.below {w w' : World} {A : Option Addr} {l : List Lt} (h : LotsAt w A l) (hb : Below w.heap.size w w') : LotsAt w' A l := ⟨h.row.below hb, h.nums, h.size⟩
/-- How many pieces of each good. -/
def cntS (S : List UInt8 → Option Int) (x : Lt) : List UInt8 → Option Int := fun k => if 0 < x.count then (if k = x.good.data.toList then some (IntKind.i64.wrap ((S x.good.data.toList).getD 0 + x.count)) else S k) else S k
def cntF (l : List Lt) : List UInt8 → Option Int := l.foldl cntS (fun _ => none)
def valF (S : List UInt8 → Option Int) : Value → Option Value
  | .string s => (S s.data.toList).map (.int .i64)
  | _ => none
theorem cntF_snoc (l : List Lt) (x : Lt) : cntF (l ++ [x]) = cntS (cntF l) x := by simp [cntF]
theorem cntF_range (l : List Lt) : ∀ k v, cntF l k = some v → i64 v := by
  have : ∀ (l : List Lt) (S : List UInt8 → Option Int), (∀ k v, S k = some v → i64 v) → ∀ k v, l.foldl cntS S k = some v → i64 v := by
    intro l
    induction l with
    | nil => intro S h; exact h
    | cons x l ih =>
      intro S h
      refine ih _ fun k v hv => ?_
      unfold cntS at hv
      split at hv
      · split at hv
        · obtain rfl := Option.some.inj hv
          simp only [i64, IntKind.wrap, IntKind.bits, IntKind.signed]
          simp
          omega
        · exact h k v hv
      · exact h k v hv
  exact this l _ (by simp)
theorem keyed9 : Keyed Tryz.prog 9 := string_keyed Tryz.underlying9
theorem i64_wf {n : Int} (h : i64 n) : (Lit.int .i64 n).wf = true := by
  simp only [Lit.wf, Bool.and_eq_true, decide_eq_true_eq]
  have e1 : IntKind.i64.min = -9223372036854775808 := by decide
  have e2 : IntKind.i64.max = 9223372036854775807 := by decide
  rw [e1, e2]; exact h

open Classical in
theorem valF_put (S : List UInt8 → Option Int) (x : Lt) (hpos : 0 < x.count) (v : Int) (hv : (S x.good.data.toList).getD 0 = v) (s : Int) (hs : IntKind.i64.wrap (v + x.count) = s) :
    (fun y => if y = Value.string x.good then some (.int .i64 s) else valF S y) = valF (cntS S x) := by
  funext y
  by_cases hy : y = .string x.good
  · subst hy
    simp only [if_true, valF, cntS, if_pos hpos, hv, hs, Option.map_some]
  · rw [if_neg hy]
    cases y <;> try rfl
    rename_i t
    simp only [valF, cntS, if_pos hpos]
    rw [if_neg]
    intro ht
    exact hy (by rw [show t = x.good from ByteArray.ext (Array.toList_inj.1 ht)])

set_option maxRecDepth 100000 in
set_option maxHeartbeats 1600000 in
theorem counts_any (A : Option Addr) (n c : Nat) (l : List Lt) (w : World) (hn : n ≤ 1000000) (hl : Hid (l.length = n)) (hA : Hid (LotsAt w A l)) :
    Calls Tryz.prog 95 #[.slice A n c] w fun e w' => ∃ b m, e = .returned (.map (some b)) ∧ w.heap.size ≤ b ∧ m ≤ n ∧ MapFn w' Tryz.prog 9 3 b m (.int .i64 0) (valF (cntF l)) ∧ Below w.heap.size w w' := by
  have hmk := Lib.hid (MapFn.made w Tryz.prog 9 3 (z := .int .i64 0) (plainElem_int Tryz.underlying3 (by decide)))
  have hmm := @run_makeMap Tryz.prog
  go_enter Tryz.func95, Tryz.ntmps95
  go_wp2_with fail
  clear hmm
  go_loopw [9] (fun i wr => ∃ k m : Nat, k ≤ n ∧ m ≤ k ∧ i = .int .i64 (k : Int) ∧ Hid (MapFn wr Tryz.prog 9 3 w.heap.size m (.int .i64 0) (valF (cntF (l.take k)))) ∧ Hid (Below w.heap.size w wr)) (fun i _ => n - (intOf i).toNat)
  case atStart => exact ⟨0, 0, Nat.zero_le _, Nat.le_refl _, rfl, by
    have e : valF (cntF (l.take 0)) = fun _ => none := by funext v; cases v <;> rfl
    rw [e]; exact hmk, (Below.refl _ w).alloc (Nat.le_refl _) _⟩
  case round =>
    obtain ⟨k, m, hk, hm, rfl, hmap, hB⟩ := hrel
    by_cases hlt : k < n
    · obtain ⟨x, hx⟩ : ∃ x, l[k]? = some x := ⟨_, List.getElem?_eq_getElem (by have := hl.out; omega)⟩
      obtain ⟨b, off, rfl, hc⟩ := (hA.out.below (hB.out)).row k x hx
      have htk : l.take (k + 1) = l.take k ++ [x] := by rw [List.take_add_one, hx]; rfl
      have hmem := List.mem_of_getElem? hx
      have hnum := hA.out.nums x hmem
      have hsz := hA.out.size x hmem
      have htk' := Lib.hid htk
      clear hx htk hmem
      obtain ⟨g, ct⟩ := x
      have h0 := hc 0 _ rfl
      have h1 := hc 1 _ rfl
      clear hc
      simp only at hnum hsz
      rw [Nat.add_zero] at h0
      have hmap1 := Lib.hid (hmap.out.alloc (.cells #[.string g, .int .i64 ct] 63))
      have hB1 : Hid (Below w.heap.size w (wr.alloc (.cells #[.string g, .int .i64 ct] 63))) := hB.out.alloc hB.out.size _
      by_cases hpos : 0 < ct
      · have hkey := Go.WideMaps.keyOf_string_mk (P := Tryz.prog) Tryz.underlying9 (s := g) (by unfold maxLen; omega)
        have hlook := hmap1.out.look keyed9 Tryz.underlying148 (z := .int .i64 0) (Tryz.zeroValue3 _) hkey
        have hmx : Hid (m < maxLen) := by unfold Hid maxLen; omega
        obtain ⟨v, hv⟩ : ∃ v, (cntF (l.take k) g.data.toList).getD 0 = v := ⟨_, rfl⟩
        obtain ⟨s, hs⟩ : ∃ s, IntKind.i64.wrap (v + ct) = s := ⟨_, rfl⟩
        have hlv : ((valF (cntF (l.take k)) (.string g)).getD (.int .i64 0)) = .int .i64 v := by
          rw [← hv]; simp only [valF]; cases cntF (l.take k) g.data.toList <;> rfl
        rw [hlv] at hlook
        have hsr : i64 s := by rw [← hs]; simp only [i64, IntKind.wrap, IntKind.bits, IntKind.signed]; simp; omega
        have hswf := Lib.hid (i64_wf hsr)
        have hv' := Lib.hid hv
        have hs' := Lib.hid hs
        have hkey' := Lib.hid hkey
        have hpos' := Lib.hid hpos
        clear hv hlv hsr hkey
        go_wp2_with (at_mapUpdate; go_must (refine wpList_put _ rfl _ _ _ 148 rfl keyed9 Tryz.underlying148 w.heap.size m rfl hmap1.out hmx.out (.string g) (.int .i64 s) _ rfl rfl hkey'.out (plainElem_int Tryz.underlying3 hswf.out) ?_); intro w2 hm2 hg2)
        go_roundw
        case rel =>
          refine ⟨k + 1, m + 1, by omega, by omega, by go_num, ?_, hB1.out.grown hg2 hB1.out.size (fun j hj => by cases hj; exact Nat.le_refl _)⟩
          rw [htk'.out, cntF_snoc, ← valF_put (cntF (l.take k)) ⟨g, ct⟩ hpos'.out v hv'.out s hs'.out]
          exact Lib.hid hm2
        case measure => simp [intOf]; omega
      · have hd : ¬ 0 < ct := hpos
        go_wp2_with fail
        go_roundw
        case rel =>
          refine ⟨k + 1, m, by omega, by omega, by go_num, ?_, hB1⟩
          have e : valF (cntF (l.take (k + 1))) = valF (cntF (l.take k)) := by
            rw [htk'.out, cntF_snoc]
            funext y
            cases y <;> try rfl
            simp only [valF, cntS, if_neg hpos]
          rw [e]; exact hmap1
        case measure => simp [intOf]; omega
    · have e : k = n := by omega
      go_wp2_with fail
      go_ret
      refine ⟨_, m, rfl, Nat.le_refl _, by omega, ?_, hB.out⟩
      have := hmap.out
      rw [e, List.take_of_length_le (by have := hl.out; omega)] at this
      exact this
end Go.Proofs.YtnmnknkdnjkpjaaGreatDoor

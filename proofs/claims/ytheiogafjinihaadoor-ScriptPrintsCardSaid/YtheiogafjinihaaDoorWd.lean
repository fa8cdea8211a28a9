/- The first words of the lines, by the steps' kinds: script.words. -/
import Derived.Test.YtheiogafjinihaaDoorRd
import Derived.Maps.RangeWalk
import Derived.Sort.KeysCollected
namespace Go.Proofs.YtheiogafjinihaaDoor
open Go Go.RowKit Go.BigFrame Go.Maps Go.WideMaps

/-- The eight words as they lie. -/
def firstA : Array Value := (firstL.map fun s => Value.string ⟨s.toArray⟩).toArray
theorem range_map {w : World} {P : Program} {k : TypeId} {b n : Nat} {z : Value} {S : List UInt8 → Option Value} (h : MapS w P k b n z S) : ∃ D : DataW Value, w.ownsMap P k anyR b n D ∧ ∀ kl, D.atKey (.string kl) (.held z) = .held ((S kl).getD z) ∧ Maps.has D (.string kl) = (S kl).isSome := h
theorem formS_word {r : Nat → Nat} {s : List UInt8} (h : (formS r s).isSome = true) : ∃ k, k < 8 ∧ s = firstL.getD k [] ∧ formS r s = some (formV r k) := by
  unfold formS at h
  cases e : placeL firstL s 0 with
  | none => rw [e] at h; cases h
  | some k =>
    have hk := place_lt e
    obtain ⟨_, h2⟩ := place_at _ _ _ _ e
    rw [Nat.sub_zero] at h2
    refine ⟨k, hk, ?_, ?_⟩
    · simp [h2]
    · unfold formS; rw [e]; rfl
theorem formS_first (r : Nat → Nat) : ∀ k, k < 8 → (formS r (firstL.getD k [])).isSome = true := by
  intro k hk
  unfold formS
  have := place_first ⟨k, hk⟩
  simp only at this
  rw [this]
  rfl
theorem keyed_str : Maps.Keyed Tryd.prog 9 := string_keyed Tryd.underlying9
theorem firstA_get (k : Nat) (hk : k < 8) : firstA[k]? = some (.string ⟨(firstL.getD k []).toArray⟩) := by
  have hc : k = 0 ∨ k = 1 ∨ k = 2 ∨ k = 3 ∨ k = 4 ∨ k = 5 ∨ k = 6 ∨ k = 7 := by omega
  rcases hc with rfl | rfl | rfl | rfl | rfl | rfl | rfl | rfl <;> rfl
set_option maxRecDepth 100000 in
set_option maxHeartbeats 3200000 in
theorem words_any (w : World) : Calls Tryd.prog 21 #[] w fun e w' => e = .returned (.agg firstA) ∧ Below w.heap.size w w' := by
  obtain ⟨w1, hw1⟩ : ∃ W, Hid (w.alloc (.cells #[.string ⟨#[]⟩, .string ⟨#[]⟩, .string ⟨#[]⟩, .string ⟨#[]⟩, .string ⟨#[]⟩, .string ⟨#[]⟩, .string ⟨#[]⟩, .string ⟨#[]⟩] 70) = W) := ⟨_, rfl⟩
  have hb1 : Hid (Below w.heap.size w w1) := by rw [← hw1.out]; exact (Below.refl _ w).alloc (Nat.le_refl _) _
  have hr1 : Hid (Blk w1 w.heap.size 70 #[.string ⟨#[]⟩, .string ⟨#[]⟩, .string ⟨#[]⟩, .string ⟨#[]⟩, .string ⟨#[]⟩, .string ⟨#[]⟩, .string ⟨#[]⟩, .string ⟨#[]⟩]) := by rw [← hw1.out]; exact Lib.hid (Blk.new _ _ _)
  obtain ⟨w2, hw2⟩ : ∃ W, Hid (w1.alloc (.cells #[.string ⟨#[]⟩, .string ⟨#[]⟩, .string ⟨#[]⟩, .string ⟨#[]⟩, .string ⟨#[]⟩, .string ⟨#[]⟩, .string ⟨#[]⟩, .string ⟨#[]⟩] 70) = W) := ⟨_, rfl⟩
  have hb2 : Hid (Below w1.heap.size w1 w2) := by rw [← hw2.out]; exact (Below.refl _ w1).alloc (Nat.le_refl _) _
  have ho2 : Hid (Blk w2 w1.heap.size 70 #[.string ⟨#[]⟩, .string ⟨#[]⟩, .string ⟨#[]⟩, .string ⟨#[]⟩, .string ⟨#[]⟩, .string ⟨#[]⟩, .string ⟨#[]⟩, .string ⟨#[]⟩]) := by rw [← hw2.out]; exact Lib.hid (Blk.new _ _ _)
  have hfm := Lib.hid (forms_any w2)
  go_enter Tryd.func21, Tryd.ntmps21
  go_wp2_with (first | rw [hw1.out] | rw [hw2.out])
  refine hfm.out.mono ?_
  rintro e w3 ⟨mb, rfl, hf, hb⟩
  have hB3 := Lib.hid hb
  clear hb
  obtain ⟨g1, g2, r, _, _, _, hmap⟩ := hf
  obtain ⟨D, hown, hat⟩ := hmap
  have hown3 := Lib.hid hown
  have hat3 := Lib.hid hat
  have ho3 := Lib.hid (ho2.out.below hB3.out ho2.out.lt)
  have hbm : Hid (w1.heap.size ≠ mb) := by
    intro e
    obtain ⟨es, clock, h1, _⟩ := hown
    have h2 := ho3.out
    unfold Blk at h2
    rw [e, h1] at h2
    cases h2
  have hB13 : Hid (Below w1.heap.size w1 w3) := hb2.out.trans (hB3.out.mono hb2.out.size)
  have hlo : Hid (w1.heap.size < w3.heap.size) := ho3.out.lt
  clear hown hat
  go_wp2_with (at_range; refine wpList_range_own _ rfl _ 68 rfl 9 77 keyed_str Tryd.underlying68 anyR mb 8 D rfl hown3.out ?_; intro w4 hrg4 hg4 hs4)
  have hrg4' := Lib.hid hrg4
  have ho4 := Lib.hid (ho3.out.grown hg4 (by simp))
  have hB14 : Hid (Below w1.heap.size w1 w4) := hB13.out.grown hg4 hB13.out.size (fun j hj => by cases hj)
  clear hrg4 hg4 hs4
  go_frame
  go_loopw [2] (fun _ wr => ∃ (left : Lit → Bool) (cnt : Nat) (cs : Array Value), Hid (wr.ranges Tryd.prog 9 anyR mb w3.heap.size 8 D left cnt) ∧ Hid (∀ kl, left kl = true → Maps.has D kl = true) ∧ Hid (Blk wr w1.heap.size 70 cs) ∧ Hid (cs.size = 8) ∧
      Hid (∀ k, k < 8 → left (.string (firstL.getD k [])) = true ∨ cs[k]? = some (.string ⟨(firstL.getD k []).toArray⟩)) ∧ Hid (Below w1.heap.size w1 wr)) (fun _ wr => wr.rangeLeft mb w3.heap.size)
  case atStart => exact ⟨_, _, _, hrg4', fun _ h => h, ho4, rfl, fun k hk => .inl ((hat3.out _).2.trans (formS_first r k hk)), hB14⟩
  case round =>
    obtain ⟨left, cnt, cs, hrg, hlf, hO, hsz, hcs, hB⟩ := hrel
    go_wp2_with (at_next; go_must (refine wpList_next_ranges _ rfl _ rfl 9 keyed_str anyR (fun x : List UInt8 => Value.string ⟨x.toArray⟩) (fun v : Value => v) (fun key kl hk => by obtain ⟨x, hx, _⟩ := Maps.keyOf_str Tryd.underlying9 hk; exact ⟨x, hx⟩) (fun v y hv => ⟨v, rfl⟩) mb w3.heap.size 8 _ _ _ rfl hrg.out ?_ ?_))
    · intro hc0 hl0
      have hfin : Hid (cs = firstA) := by
        refine Array.ext (by rw [hsz.out]; rfl) fun k h1 h2 => ?_
        have hk : k < 8 := by have := hsz.out; omega
        have h3 := (hcs.out k hk).resolve_left (by rw [hl0]; decide)
        have h4 := firstA_get k hk
        rw [Array.getElem?_eq_getElem h1] at h3
        rw [Array.getElem?_eq_getElem h2] at h4
        exact Option.some.inj (h3.trans h4.symm)
      clear hc0 hl0
      have hO' := hO.out
      rw [hfin.out] at hO'
      have hO2 := Lib.hid hO'
      clear hO'
      have hR := Lib.hid (hr1.out.below hB.out hr1.out.lt)
      go_wp2_with (first | (refine wpList_get_blk rfl 70 _ rfl w1.heap.size firstA 70 _ rfl hO2.out Tryd.underlying70 rfl (by kernel_rfl) ?_) | (refine wpList_put_blk rfl 70 _ _ rfl w.heap.size #[.string ⟨#[]⟩, .string ⟨#[]⟩, .string ⟨#[]⟩, .string ⟨#[]⟩, .string ⟨#[]⟩, .string ⟨#[]⟩, .string ⟨#[]⟩, .string ⟨#[]⟩] firstA 70 rfl rfl hR.out rfl (by kernel_rfl) (by simp [firstA, firstL, Value.oneCell']) ?_; intro w6 hr6 hu6; have hR6 := Lib.hid hr6; have hU6 := Lib.hid hu6; clear hr6 hu6))
      refine bodyPost_ret (results_row rfl _ _ w.heap.size 70 _ _ rfl hR6.out Tryd.underlying70 rfl (by kernel_rfl)) rfl ?_
      exact ⟨rfl, hU6.out.to_below (hb1.out.trans (hB.out.mono hb1.out.size)) (Nat.le_refl _) (by have := hb1.out.size; have := hB.out.size; omega)⟩
    · intro x c kl yd yp w5 cnt5 hkey hlk hv hat5 hrg5 hlt5 hg5 hs5 hen5
      obtain ⟨x', ex, hkl, _⟩ := Maps.keyOf_str Tryd.underlying9 hkey
      obtain rfl : x = x' := by simpa [Go.Proofs.encStr] using ex
      subst hkl
      have hhas := hlf.out _ hlk
      obtain ⟨k, hk, hxe, hfk⟩ := formS_word (r := r) (s := x) (by rw [← (hat3.out x).2]; exact hhas)
      have hce : c = formV r k := by
        have h1 := hat5 (.held formZ)
        rw [(hat3.out x).1, hfk] at h1
        simp only [anyR, Option.some.injEq, Prod.mk.injEq] at hv
        rw [← hv.1] at h1
        simpa using h1.symm
      obtain ⟨A, hA1, _⟩ := formV_eq r k hk
      rw [hA1] at hce
      obtain ⟨m, hm⟩ : ∃ m, (partsL.getD k []).length = m := ⟨_, rfl⟩
      rw [hm] at hce
      subst hce
      have hxe' := Lib.hid hxe
      have hk' := Lib.hid hk
      have hO5 := Lib.hid (hO.out.grown hg5 (by have := hlo.out; simp; omega))
      have hB5 : Hid (Below w1.heap.size w1 w5) := hB.out.grown hg5 hB.out.size (fun j hj => by cases hj; exact Nat.le_of_lt hlo.out)
      have hrg5' := Lib.hid hrg5
      have hlt5' := Lib.hid hlt5
      have hnew : Hid (∀ q, q < 8 → (left (.string (firstL.getD q [])) && !(Lit.string (firstL.getD q [])).sameKey (.string x)) = true ∨ (cs.setIfInBounds k (.string ⟨x.toArray⟩))[q]? = some (.string ⟨(firstL.getD q []).toArray⟩)) := by
        intro q hq
        by_cases hqk : q = k
        · subst hqk
          refine .inr ?_
          rw [hxe]
          simp [hsz.out, hq]
        · rcases hcs.out q hq with h | h
          · refine .inl ?_
            rw [h, Bool.true_and, Bool.not_eq_true']
            cases hs : (Lit.string (firstL.getD q [])).sameKey (.string x) with
            | false => rfl
            | true =>
              have he := WideAt.sameKey_eq hs
              rw [hxe] at he
              simp only [Lit.string.injEq] at he
              have h1 := place_first ⟨q, hq⟩
              have h2 := place_first ⟨k, hk⟩
              simp only at h1 h2
              rw [he, h2] at h1
              exact absurd (Option.some.inj h1).symm hqk
          · refine .inr ?_
            rw [Array.getElem?_setIfInBounds_ne (Ne.symm hqk)]
            exact h
      have hlf5 : Hid (∀ kl, (left kl && !kl.sameKey (.string x)) = true → Maps.has D kl = true) := by
        intro kl h
        simp only [Bool.and_eq_true] at h
        exact hlf.out kl h.1
      have hsz5 : Hid ((cs.setIfInBounds k (.string ⟨x.toArray⟩)).size = 8) := by unfold Hid; simp [hsz.out]
      have i0 : (k : Int) < 8 := by omega
      have o5 : w1.heap.size < w5.heap.size := hO5.out.lt
      clear hkey hlk hv hat5 hrg5 hlt5 hg5 hs5 hhas hxe hfk hA1 hm ex hk
      obtain ⟨u0, hu0⟩ : ∃ u0, cs[k]? = some u0 := ⟨_, Array.getElem?_eq_getElem (by have := hsz.out; have := hk'.out; omega)⟩
      have oc : w5.cell? ⟨w1.heap.size, k, none⟩ = some u0 := (hO5.out.cell k).trans hu0
      have of : w5.frozen? ⟨w1.heap.size, k, none⟩ = false := hO5.out.frozen k
      have hgr := Lib.hid (((But.refl w1.heap.size w5).setCell k (.string ⟨x.toArray⟩)).grown)
      have hrg6 := Lib.hid ((hrg5'.out.kept hgr.out (fun e => hbm.out (by have := Option.some.inj e; omega)) (fun e => by have := Option.some.inj e; have := hlo.out; omega)).alloc (.cells #[.int .i64 (k : Int), .slice A m m] 77))
      clear hu0
      go_wp2_with fail
      go_roundw
      case rel => exact ⟨_, cnt5, cs.setIfInBounds k (.string ⟨x.toArray⟩), hrg6.out, hlf5.out, (hO5.out.set_ k _).alloc _, hsz5.out, hnew.out, (hB5.out.setCell (p := ⟨w1.heap.size, k, none⟩) (Nat.le_refl _) _).alloc (by have := hB5.out.size; simpa using this) _⟩
      case measure => rw [hrg6.out.left_eq, hrg.out.left_eq]; exact hlt5'.out
end Go.Proofs.YtheiogafjinihaaDoor

/- paper.fields: names and values, put together into fields. -/
import Derived.Test.YtnmnknkdnjkpjaaGreatDoorA
import Derived.Deep.RegionHeld3
import Derived.IntWalk
namespace Go.Proofs.YtnmnknkdnjkpjaaGreatDoor
open Go Go.RowKit Go.BigFrame Go.Maps

section
variable {P : Program} {ops : Array Oper} {o : Oper} {a : Act} {W : World} {Q : Exit → Act → World → Prop} {K : Act → World → Prop} {E : Prop}
/-- An append of one element that lies in a block of its own, inside a region that draws. -/
theorem step_app_blk (B : Nat) (hgd : o.guard = none) (s x : Operand) (t : TypeId) (ho : o.op = .call { callee := .builtin .append, args := #[s, x], argTypes := #[t, t] })
    (e : TypeId) (i : TypeInfo) (z : Value) (size bytes : Nat) (ht : P.underlying t = some (.slice e)) (hi : P.info? e = some i) (hz : i.zero = some z)
    (hsize : i.size = size) (hby : i.bytes = bytes) (hzs : z.cells.size = size) (hsz : 0 < size)
    (v : Value) (m : Nat) (xs : List Value) (hs : a.eval s = v) (g c : Nat) (cs : Array Value) (hx : a.eval x = .slice (some ⟨g, 0, none⟩) 1 c)
    (hv : W.ownsRow B e size v m xs) (hg : Blk W g e cs) (hcs : cs.size = size) (h1 : ∀ u ∈ cs.toList, u.oneCell' = true) (h63 : m + 1 ≤ maxLen) (hbytes : (m + 1) * bytes ≤ 140737488355328) (hB : B ≤ W.heap.size)
    (h : ∀ v' w', w'.ownsRow B e size v' (m + 1) (xs ++ cs.toList) → Below B W w' → W.grownBy w' v.ownBlock → K (a.put o.dst v') w') :
    if Region.wanted o (yielded ops a.tmps) = true then Oper.wp P o a W K Q else E := by
  refine step_append_any _ hgd s x t ho B e i z size bytes ht hi hz hsize hby hzs hsz v m xs hs hv W.heap.size _ 1 c cs.toList hx (blk_reads hg size 1 (by omega)) h1 h63 hbytes hB ?_
  intro v' w' ho' hgr hvb
  refine h v' w' ho' ((Below.refl _ _).grown hgr hB (fun k hk => ?_)) hgr
  rcases hv.2 with ⟨rfl, _⟩ | ⟨g', cap, cur, rfl, hgb, _⟩
  · simp [Value.ownBlock] at hk
  · simp [Value.ownBlock] at hk; omega
end
theorem flF_snoc (l : List Fld) (a b : ByteArray) : flF (l ++ [⟨a, b⟩]) = flF l ++ (#[.string a, .string b] : Array Value).toList := by rw [flF_append]; rfl

set_option maxRecDepth 100000 in
set_option maxHeartbeats 800000 in
theorem fields_any (A : Option Addr) (c m : Nat) (fl : List Fld) (w : World) (hl : Hid (fl.length = m)) (hn : m ≤ 100) (hA : Hid (FieldsAt w A fl)) :
    Calls Tryz.prog 32 #[.slice A (2 * m) c] w fun e w' => ∃ v, e = .returned v ∧ w'.ownsRow w.heap.size 79 2 v m (flF fl) ∧ Below w.heap.size w w' := by
  obtain ⟨i0, hi, hz0, hz1, hz2⟩ := info_parts Tryz.info79
  have hq : Int.tdiv (2 * (m : Int)) 2 = (m : Int) := Int.mul_tdiv_cancel_left _ (by decide)
  go_enter Tryz.func32, Tryz.ntmps32
  have hm1 : Hid (i0.bytes * m ≤ 281474976710656) := by unfold Hid; rw [hz2]; omega
  have hm2 : Hid (m ≤ maxLen) := by unfold Hid maxLen; omega
  have hs := own_new w 79 2
  go_wp2_with (at_make; go_must (refine wpList_make_own _ rfl _ _ 30 rfl w.heap.size 79 i0 _ 2 Tryz.underlying30 hi hz0 hz1 _ _ _ m rfl rfl rfl hm1.out hm2.out (Nat.le_refl _) ?_); intro w1 hown hgrow)
  have hB1 : Below w.heap.size w w1 := (Below.refl _ w).grown hgrow (Nat.le_refl _) (by simp)
  have hown1 := Lib.hid hown
  clear hown hgrow hs
  go_loopw [3, 4] (fun v i wr => ∃ k : Nat, k ≤ m ∧ i = .int .i64 (2 * (k : Int)) ∧ Hid (wr.ownsRow w.heap.size 79 2 v k (flF (fl.take k))) ∧ Below w.heap.size w wr) (fun _ i _ => 2 * m - (intOf i).toNat)
  case atStart => exact ⟨0, Nat.zero_le _, rfl, hown1, hB1⟩
  case round =>
    obtain ⟨k, hk, rfl, hown2, hB⟩ := hrel
    have hw1 : IntKind.i64.wrap (2 * (k : Int) + 1) = 2 * (k : Int) + 1 := IntWalk.i64_in _ (by omega)
    have hw2 : IntKind.i64.wrap (2 * (k : Int) + 2) = 2 * (k : Int) + 2 := IntWalk.i64_in _ (by omega)
    by_cases hlt : k < m
    · have hd : decide (2 * (k : Int) + 1 < 2 * (m : Int)) = true := decide_eq_true (by omega)
      have hd' : 2 * (k : Int) + 1 < 2 * (m : Int) := by omega
      obtain ⟨x, hx⟩ : ∃ x, fl[k]? = some x := ⟨_, List.getElem?_eq_getElem (by have := hl.out; omega)⟩
      obtain ⟨b, off, rfl, h0, h1⟩ := hA.out k x hx
      have htk : fl.take (k + 1) = fl.take k ++ [⟨x.name, x.value⟩] := by
        obtain ⟨hkl, he⟩ := List.getElem?_eq_some_iff.1 hx
        rw [List.take_add_one, hx]; rfl
      have htk' := Lib.hid htk
      clear hx htk
      obtain ⟨nm, vl⟩ := x
      simp only at h0 h1 htk'
      rw [show off + k * 2 = off + 2 * k by omega] at h0 h1
      have hbw : b < w.heap.size := World.block_lt_of_cell? w _ h0
      have hSS : Hid (∀ W, Below w.heap.size w W → W.cell? ⟨b, off + 2 * k, none⟩ = some (.string nm) ∧ W.cell? ⟨b, off + (2 * k + 1), none⟩ = some (.string vl)) := fun W hW => ⟨(hW.cell hbw).trans h0, (hW.cell hbw).trans h1⟩
      have hk1 : Hid (k + 1 ≤ maxLen) := by unfold Hid maxLen; omega
      have hk2 : Hid ((k + 1) * 32 ≤ 140737488355328) := by unfold Hid; omega
      obtain ⟨z0, z1⟩ := hSS.out wr hB
      have hB' := Lib.hid hB
      clear h0 h1 hB
      have hd0 : (0 : Int) ≤ 2 * (k : Int) := by omega
      have hd1 : (0 : Int) ≤ 2 * (k : Int) + 1 := by omega
      have hd2 : 2 * (k : Int) < 2 * (m : Int) := by omega
      have ht1 : (2 * (k : Int)).toNat = 2 * k := by omega
      have ht2 : (2 * (k : Int) + 1).toNat = 2 * k + 1 := by omega
      have hsz : Hid (w.heap.size ≤ wr.heap.size) := hB'.out.size
      go_wp2_with fail
      go_region_held3 (fun W => W.cell? ⟨b, off + 2 * k, none⟩ = some (.string nm) ∧ W.cell? ⟨b, off + (2 * k + 1), none⟩ = some (.string vl)) (first | exact hSS.out _ hB'.out.drew | exact hSS.out _ (hB'.out.alloc hsz.out _).drew | exact hS5) (first | (refine step_app_blk w.heap.size rfl (.tmp 16) (.tmp 27) 30 rfl 79 i0 _ 2 32 Tryz.underlying30 hi hz0 hz1 hz2 rfl (by decide) _ k (flF (fl.take k)) rfl _ 1 #[.string nm, .string vl] rfl (own_below hown2.out ((Below.refl _ _).alloc (Nat.le_refl _) _).drew) (Blk.new _ 79 _).drew rfl (flF_one [⟨nm, vl⟩]) hk1.out hk2.out (Nat.le_trans hsz.out (by simp)) ?_; intro v5 w5 ho5 hb5 hg5; have ho5' := Lib.hid ho5; have hB9 : Hid (Below w.heap.size w w5) := ((hB'.out.alloc hsz.out _).drew).trans hb5; have hS5 := hSS.out _ hB9.out; clear ho5 hb5 hg5))
      all_goals
        go_wp2_with fail
        go_roundw
        case rel => exact ⟨k + 1, by omega, by go_num, by rw [htk'.out, flF_snoc]; exact ho5', hB9.out⟩
        case measure => simp [intOf]; omega
    · have hd : decide (2 * (k : Int) + 1 < 2 * (m : Int)) = false := decide_eq_false (by omega)
      have hd' : ¬ 2 * (k : Int) + 1 < 2 * (m : Int) := by omega
      go_wp2_with fail
      go_ret
      exact ⟨_, rfl, by have e : k = m := by omega
                        subst e
                        rw [List.take_of_length_le (by have := hl.out; omega)] at hown2
                        exact hown2.out, hB⟩
end Go.Proofs.YtnmnknkdnjkpjaaGreatDoor

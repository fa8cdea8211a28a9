/- slices.Delete of one paper. -/
import Derived.Test.YtnmnknkdnjkpjaaGreatDoorX
import Derived.Lib.SliceRun
import Derived.Laws.IdiomCopy
namespace Go.Proofs.YtnmnknkdnjkpjaaGreatDoor
open Go Go.RowKit Go.BigFrame Go.Maps

section
variable {P : Program} {ops : Array Oper} {o : Oper} {a : Act} {W : World} {Q : Exit → Act → World → Prop} {K : Act → World → Prop} {E : Prop}
/-- An append that fits, inside a region that draws. -/
theorem step_app_fits (hgd : o.guard = none) (s x : Operand) (t : TypeId) (ho : o.op = .call { callee := .builtin .append, args := #[s, x], argTypes := #[t, t] })
    (base : Nat) (e : TypeId) (i : TypeInfo) (size : Nat) (ht : P.underlying t = some (.slice e)) (hi : P.info? e = some i) (hsize : i.size = size)
    (g n cap : Nat) (xs : List Value) (hs : a.eval s = .slice (some ⟨g, 0, none⟩) n cap) (hown : W.ownsRow base e size (.slice (some ⟨g, 0, none⟩) n cap) n xs)
    (A : Option Addr) (B m c : Nat) (news : List Value) (hx : a.eval x = .slice A m c) (hr : Reads W B size A m news) (hA : A.isSome = true) (h1 : ∀ u ∈ news, u.oneCell' = true) (hroom : n + m ≤ cap)
    (h : ∀ w', w'.ownsRow base e size (.slice (some ⟨g, 0, none⟩) (n + m) cap) (n + m) (xs ++ news) → W.grownBy w' (some g) → K (a.put o.dst (.slice (some ⟨g, 0, none⟩) (n + m) cap)) w') :
    if Region.wanted o (yielded ops a.tmps) = true then Oper.wp P o a W K Q else E := by
  have hw : Region.wanted o (yielded ops a.tmps) = true := by simp [Region.wanted, hgd]
  rw [if_pos hw]
  obtain ⟨ad, rfl⟩ := Option.isSome_iff_exists.1 hA
  have hcells : ∀ j u, news[j]? = some u → W.cell? (ad.add j) = some u := by
    intro j u hu
    rcases Nat.eq_zero_or_pos m with h0 | h0
    · subst h0
      have hn : news = [] := List.eq_nil_of_length_eq_zero (by simpa using hr.1)
      subst hn
      simp at hu
    · obtain ⟨ad', h, _, hc⟩ := hr.2 h0
      injection h with h
      subst h
      exact hc j u hu
  obtain ⟨w', hrun, h2, h3⟩ := run_append_fits (P := P) W base t o.type e i size ht hi hsize g n cap xs hown ad m c news hr.1 hcells h1 hroom
  unfold Oper.wp execOp
  simp only [ho, resolve, invoke, builtin, Sem.run_bind, Sem.run_pure, Result.andThen_ok, List.map_toArray, List.map_cons, List.map_nil, hs, hx, hrun]
  exact h w' h2 h3
end
theorem own_take {w : World} {base : Nat} {e : TypeId} {size g n cap k : Nat} {xs : List Value} (h : w.ownsRow base e size (.slice (some ⟨g, 0, none⟩) n cap) n xs) (hk : k ≤ n) : w.ownsRow base e size (.slice (some ⟨g, 0, none⟩) k cap) k (xs.take (k * size)) := by
  have hkn : k * size ≤ n * size := Nat.mul_le_mul_right _ hk
  refine ⟨by rw [List.length_take, h.1]; exact Nat.min_eq_left hkn, ?_⟩
  rcases h.2 with ⟨h', _⟩ | ⟨g', cap', cur, h', hb, hg, hnc, hcm, hcs, htake⟩
  · simp at h'
  · simp only [Value.slice.injEq, Option.some.injEq, Addr.mk.injEq, and_true, true_and] at h'
    obtain ⟨rfl, rfl⟩ := h'
    refine .inr ⟨g, cap, cur, rfl, hb, hg, Nat.le_trans hk hnc, hcm, hcs, ?_⟩
    rw [← htake, List.take_take, Nat.min_eq_left hkn]
theorem own_far {w : World} {base : Nat} {e : TypeId} {size g n cap : Nat} {xs : List Value} (h : w.ownsRow base e size (.slice (some ⟨g, 0, none⟩) n cap) n xs) (j : Nat) (hj : n * size ≤ j) (u : Value) : (w.setCell ⟨g, j, none⟩ u).ownsRow base e size (.slice (some ⟨g, 0, none⟩) n cap) n xs := by
  have := (h.stored j u).1
  rwa [List.set_eq_of_length_le (by rw [h.1]; exact hj)] at this
theorem erase_take {α : Type} (l : List α) (k : Nat) : l.eraseIdx k = l.take k ++ l.drop (k + 1) := List.eraseIdx_eq_take_drop_succ l k
theorem flat_take {α : Type} {enc : α → List Value} {k : Nat} (hk : ∀ x, (enc x).length = k) : ∀ (l : List α) (n : Nat), (l.flatMap enc).take (n * k) = (l.take n).flatMap enc
  | [], n => by simp
  | x :: l, 0 => by simp
  | x :: l, n + 1 => by
    rw [List.flatMap_cons, Nat.succ_mul, Nat.add_comm, List.take_append, hk, List.take_of_length_le (by rw [hk]; omega), show k + n * k - k = n * k by omega, flat_take hk l n]
    simp
theorem flat_drop {α : Type} {enc : α → List Value} {k : Nat} (hk : ∀ x, (enc x).length = k) : ∀ (l : List α) (n : Nat), (l.flatMap enc).drop (n * k) = (l.drop n).flatMap enc
  | [], n => by simp
  | x :: l, 0 => by simp
  | x :: l, n + 1 => by
    rw [List.flatMap_cons, Nat.succ_mul, Nat.add_comm, List.drop_append, hk, List.drop_eq_nil_of_le (by rw [hk]; omega), show k + n * k - k = n * k by omega, flat_drop hk l n]
    simp
theorem Tryz.info32 : (Tryz.prog.info? 32).map (fun i => (i.zero, i.size, i.bytes)) = some (some (.agg #[.int .i64 0, .string ⟨#[]⟩, .string ⟨#[]⟩, .slice none 0 0]), 4, 64) := by kernel_rfl
theorem clear_doc (w : World) (ty : TypeId) (b o c : Nat) (hc : ∀ j, j < 4 → (w.cell? ⟨b, o + j, none⟩).isSome = true) (hf : ∀ j, j < 4 → w.frozen? ⟨b, o + j, none⟩ = false) :
    (Builtin.clear_ #[42] ty #[.slice (some ⟨b, o, none⟩) 1 c]).run Tryz.prog w = .ok (.tuple #[]) ((((w.setCell ⟨b, o, none⟩ (.int .i64 0)).setCell ⟨b, o + 1, none⟩ (.string ⟨#[]⟩)).setCell ⟨b, o + 2, none⟩ (.string ⟨#[]⟩)).setCell ⟨b, o + 3, none⟩ (.slice none 0 0)) := by
  have hst := run_storeCells_cells (P := Tryz.prog) b o [.int .i64 0, .string ⟨#[]⟩, .string ⟨#[]⟩, .slice none 0 0] 0 w (by simpa using hc) (by simpa using hf) (by intro v hv; simp at hv; rcases hv with rfl | rfl | rfl | rfl <;> rfl)
  simp only [Nat.add_zero] at hst
  have hzc : (Builtin.zeroCells (Value.agg #[.int .i64 0, .string ⟨#[]⟩, .string ⟨#[]⟩, .slice none 0 0]).cells 1).toList = [.int .i64 0, .string ⟨#[]⟩, .string ⟨#[]⟩, .slice none 0 0] := by kernel_rfl
  simp [Builtin.clear_, run_underlying Tryz.underlying42, Tryz.zeroValue32, hzc, hst]
  rfl

set_option maxRecDepth 100000 in
set_option maxHeartbeats 1600000 in
theorem delete_any (g cap q k : Nat) (ps : List Pap) (B : Nat) (w : World) (hk : k ≤ q) (hq : q + 1 ≤ 1000) (hcap : q + 1 ≤ cap) (hown : Hid (w.ownsRow B 32 4 (.slice (some ⟨g, 0, none⟩) (q + 1) cap) (q + 1) (ps.flatMap encD))) :
    Calls Tryz.prog 54 #[.slice (some ⟨g, 0, none⟩) (q + 1) cap, .int .i64 k, .int .i64 (k + 1)] w fun e w' => e = .returned (.slice (some ⟨g, 0, none⟩) q cap) ∧ w'.ownsRow B 32 4 (.slice (some ⟨g, 0, none⟩) q cap) q ((ps.eraseIdx k).flatMap encD) ∧ w.grownBy w' (some g) := by
  obtain ⟨i0, hi, hz0, hz1, hz2⟩ := info_parts Tryz.info32
  have hA0 : Hid (w.ownsRow B 32 4 (.slice (some ⟨g, 0, none⟩) k cap) k ((ps.take k).flatMap encD)) := by
    have := own_take hown.out (Nat.le_succ_of_le hk)
    rw [flat_take encD_len] at this
    exact Lib.hid this
  have hrd : Hid (Reads w w.heap.size 4 (if cap = k + 1 then some ⟨g, 0, none⟩ else some ⟨g, (k + 1) * 4, none⟩) (q - k) ((ps.drop (k + 1)).flatMap encD)) := by
    have := (Reads.of_own hown.out).cut (k := k + 1) (cap := cap) (by omega) hcap
    rw [flat_drop encD_len, Option.map_some, add_none, Nat.zero_add, show q + 1 - (k + 1) = q - k by omega] at this
    exact Lib.hid this
  have hsm : Hid ((if cap = k + 1 then some (⟨g, 0, none⟩ : Addr) else some ⟨g, (k + 1) * 4, none⟩).isSome = true) := by split <;> exact Lib.hid rfl
  have hkq : Hid (k + (q - k) ≤ cap) := by unfold Hid; omega
  have hone := Lib.hid (encD_one (ps.drop (k + 1)))
  have h1 : (k : Int) ≤ (k : Int) + 1 := by omega
  have h2 : (k : Int) + 1 ≤ (q : Int) + 1 := by omega
  have h3 : (q : Int) + 1 ≤ (cap : Int) := by omega
  have h4 : (k : Int) ≤ (cap : Int) := by omega
  have h5 : (k : Int) + 1 ≤ (cap : Int) := by omega
  have h6 : (0 : Int) ≤ (k : Int) + 1 := by omega
  have h7 : ¬ (k : Int) = (k : Int) + 1 := by omega
  go_enter Tryz.func54, Tryz.ntmps54
  go_wp2_with fail
  go_region_held3 (fun _ => True) (trivial) (first | (refine step_app_fits rfl (.tmp 22) (.tmp 25) 42 rfl B 32 i0 4 Tryz.underlying42 hi hz1 g k cap ((ps.take k).flatMap encD) rfl hA0.out.drew (if cap = k + 1 then some ⟨g, 0, none⟩ else some ⟨g, (k + 1) * 4, none⟩) w.heap.size (q - k) (cap - (k + 1)) ((ps.drop (k + 1)).flatMap encD) rfl hrd.out.drew hsm.out hone.out hkq.out ?_; intro w5 ho5 hg5; have hg5' : Hid (w.grownBy w5 (some g)) := ⟨hg5.os, hg5.tape, hg5.output, hg5.size, hg5.block⟩; have ho5' := Lib.hid ho5; clear ho5 hg5))
  have e1 : k + (q - k) = q := by omega
  rw [e1, ← List.flatMap_append, ← erase_take] at ho5'
  have hex : Hid ((∀ j, j < 4 → (w5.cell? ⟨g, q * 4 + j, none⟩).isSome = true) ∧ ∀ j, j < 4 → w5.frozen? ⟨g, q * 4 + j, none⟩ = false) := by
    rcases ho5'.out.2 with ⟨h', _⟩ | ⟨g', cap', cur, h', hb, hg, hnc, hcm', hcs, htake⟩
    · simp at h'
    · simp only [Value.slice.injEq, Option.some.injEq, Addr.mk.injEq, and_true, true_and] at h'
      obtain ⟨rfl, rfl⟩ := h'
      refine ⟨fun j hj => ?_, fun j hj => ho5'.out.frozenAt _⟩
      rw [cell_of_row w5 g (q * 4 + j) cur 32 (0, 0) hg, Array.getElem?_eq_getElem (by omega)]
      rfl
  have hcl := fun ty => clear_doc w5 ty g (q * 4) (cap - q) hex.out.1 hex.out.2
  have hq1 : (q : Int) ≤ (q : Int) + 1 := by omega
  have hq2 : (q : Int) ≤ (cap : Int) := by omega
  have hq3 : ¬ cap = q := by omega
  have hq4 : q + 1 - q = 1 := by omega
  clear h1 h2 h4 h5 h6 h7 e1
  have hfar : ∀ {W : World} (_ : W.ownsRow B 32 4 (.slice (some ⟨g, 0, none⟩) q cap) q ((ps.eraseIdx k).flatMap encD)) (j : Nat) (u : Value), (W.setCell ⟨g, q * 4 + j, none⟩ u).ownsRow B 32 4 (.slice (some ⟨g, 0, none⟩) q cap) q ((ps.eraseIdx k).flatMap encD) := fun h j u => own_far h _ (by omega) u
  have hg4 : ∀ {W : World} (_ : w.grownBy W (some g)) (j : Nat) (u : Value), w.grownBy (W.setCell ⟨g, j, none⟩ u) (some g) := fun h j u =>
    ⟨h.os, h.tape, h.output, by have := h.size; simpa [World.setCell] using this, fun i hi hn => (Below.heap_setCell _ _ _ _ (fun e => hn (by rw [e]))).trans (h.block i hi hn)⟩
  have hend := hfar (hfar (hfar (hfar ho5'.out 0 (.int .i64 0)) 1 (.string ⟨#[]⟩)) 2 (.string ⟨#[]⟩)) 3 (.slice none 0 0)
  have hend2 := hg4 (hg4 (hg4 (hg4 hg5'.out (q * 4) (.int .i64 0)) (q * 4 + 1) (.string ⟨#[]⟩)) (q * 4 + 2) (.string ⟨#[]⟩)) (q * 4 + 3) (.slice none 0 0)
  rw [Nat.add_zero] at hend
  have hE := Lib.hid (And.intro hend hend2)
  clear hend hend2 hfar hg4
  go_wp2_with fail
  all_goals
    go_ret
    first
    | exact ⟨rfl, hE.out⟩
    | (rw [← ‹cap = k + 1›]; exact ⟨rfl, hE.out⟩)
end Go.Proofs.YtnmnknkdnjkpjaaGreatDoor

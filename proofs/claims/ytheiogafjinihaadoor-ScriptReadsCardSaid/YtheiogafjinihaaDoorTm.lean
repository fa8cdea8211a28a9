/- append(s, make([]byte, m)...): m noughts behind a row of bytes of the call's own. -/
import Derived.Test.YtheiogafjinihaaDoorG
import Derived.IntWalk
namespace Go.Proofs.YtheiogafjinihaaDoor
open Go Go.RowKit Go.BigFrame

section
variable {P : Program} (w : World)
theorem zeroCells_u8 (m : Nat) : Builtin.zeroCells #[.int .u8 0] m = (List.replicate m (Value.int .u8 0)).toArray := by
  apply Array.ext
  · simp [Builtin.zeroCells]
  · intro i h1 h2
    simp [Builtin.zeroCells, Nat.mod_one]
theorem run_append_make (base : Nat) (t tx ty e : TypeId) (i : TypeInfo) (ht : P.underlying t = some (.slice e)) (htx : P.underlying tx = some (.int .i64)) (hi : P.info? e = some i) (hz : i.zero = some (.int .u8 0))
    (hsize : i.size = 1) (hby : i.bytes = 1) (g n cap : Nat) (xs : List Value) (hown : w.ownsRow base e 1 (.slice (some ⟨g, 0, none⟩) n cap) n xs) (m : Nat) (hm : n + m ≤ 1000000) (hbase : base ≤ w.heap.size) :
    ∃ v' w', (Builtin.append_ #[t, tx] ty #[.slice (some ⟨g, 0, none⟩) n cap, .int .i64 (m : Int)]).run P w = .ok v' w' ∧ w'.ownsRow base e 1 v' (n + m) (xs ++ List.replicate m (.int .u8 0)) ∧ w.grownBy w' (some g) ∧ ∃ g' cap', v' = .slice (some ⟨g', 0, none⟩) (n + m) cap' := by
  have hlen : (xs ++ List.replicate m (Value.int .u8 0)).length = (n + m) * 1 := by rw [List.length_append, hown.1, List.length_replicate]; omega
  have hwr : IntKind.i64.wrap (m : Int) = (m : Int) := IntWalk.i64_in _ (by omega)
  have hz0 : ((Value.int .u8 0).cells) = #[.int .u8 0] := rfl
  have h1 : ∀ u ∈ List.replicate m (Value.int .u8 0), u.oneCell' = true := by intro u hu; obtain ⟨_, rfl⟩ := List.mem_replicate.1 hu; rfl
  rcases hown.2 with ⟨e0, _⟩ | ⟨g', cap', cur, e1, hbg, hg, hnc, hcm, hcs, htake⟩
  · cases e0
  · simp only [Value.slice.injEq, Option.some.injEq, Addr.mk.injEq, and_true, true_and] at e1
    obtain ⟨rfl, rfl⟩ := e1
    have n1 : ¬ ((m : Int) < 0) := by omega
    have n2 : ¬ (281474976710656 < (m : Int)) := by omega
    by_cases hroom : n + m ≤ cap
    · have hfit : n * 1 + (List.replicate m (Value.int .u8 0)).length ≤ cur.size := by rw [hcs, List.length_replicate]; omega
      have hst := run_storeCells_at P g (n * 1) e (List.replicate m (Value.int .u8 0)) 0 cur w hg (by simpa using hfit) h1
      simp only [Nat.add_zero, Nat.mul_one] at hst
      refine ⟨.slice (some ⟨g, 0, none⟩) (n + m) cap, w.setRow g (cur.toList.take n ++ List.replicate m (Value.int .u8 0) ++ cur.toList.drop (n + (List.replicate m (Value.int .u8 0)).length)).toArray, ?_, ⟨hlen, .inr ⟨g, cap, _, rfl, hbg, setRow_heap w g cur _ e _ hg, hroom, hcm, ?_, ?_⟩⟩, ⟨rfl, rfl, rfl, by simp, fun k _ hk => setRow_other w g k _ (fun e => hk (by simp [e]))⟩, _, _, rfl⟩
      · by_cases hm0 : m = 0
        · subst hm0
          simp [Builtin.append_, run_underlying ht, run_underlying htx, sizeOf, typeInfo, zeroValue, hi, hz, hsize, hby, asInt, asIntOf, Addr.add_lit, Builtin.lenOf, show IntKind.i64.wrap 0 = 0 from by decide, show n ≤ cap from hnc] at hst ⊢
          rw [hst]
          rfl
        · simp [Builtin.append_, run_underlying ht, run_underlying htx, sizeOf, typeInfo, zeroValue, hi, hz, hsize, hby, asInt, asIntOf, hwr, n1, n2, Builtin.lenOf, hroom, hm0, hz0, zeroCells_u8, Addr.add_lit, hst]
      · simp only [List.size_toArray, List.length_append, List.length_take, List.length_drop, Array.length_toList, List.length_replicate]
        omega
      · have : List.take n cur.toList = xs := by simpa using htake
        rw [this, ← hlen]
        exact List.take_left
    · have hge := grownCap_ge w (n + m) cap e
      have hcg : grownCap w (n + m) cap e ≤ maxLen := grownCap_le_maxLen w (n + m) cap e (by unfold maxLen; omega)
      have hm0 : ¬ m = 0 := by omega
      have holds : ∀ j u, xs[j]? = some u → w.drew.cell? ((⟨g, 0, none⟩ : Addr).add j) = some u := by simpa using hown.cells (g := g) rfl
      have hfo := run_firstCells_some (P := P) w.drew 1 n ⟨g, 0, none⟩ n cap xs hown.1 holds
      have h48 : ¬ (281474976710656 < Builtin.nextslicecap (n + m) cap) := by have := growslice_fits (bytes := 1) (by omega : cap < n + m) (by omega : (n + m) * 1 ≤ 140737488355328); omega
      have h63 : ¬ (9223372036854775807 < (n : Int) + (m : Int)) := by omega
      refine ⟨.slice (some ⟨w.heap.size, 0, none⟩) (n + m) (grownCap w (n + m) cap e), w.drew.alloc (.cells (xs.toArray ++ (List.replicate m (Value.int .u8 0)).toArray ++ Builtin.zeroCells #[.int .u8 0] (grownCap w (n + m) cap e - (n + m))) e), ?_, ⟨hlen, .inr ⟨w.heap.size, _, _, rfl, hbase, heap_alloc_new w.drew _, hge, hcg, ?_, ?_⟩⟩, ⟨rfl, rfl, rfl, by simp, fun k hk _ => heap_alloc_old w.drew _ hk⟩, _, _, rfl⟩
      · simp [Builtin.append_, run_underlying ht, run_underlying htx, sizeOf, typeInfo, zeroValue, hi, hz, hsize, hby, asInt, asIntOf, hwr, n1, n2, Builtin.lenOf, hroom, hm0, hz0, zeroCells_u8, h48, h63, Question.forced, hfo, newRow, grownCap]
      · simp only [Array.size_append, List.size_toArray, List.length_replicate, zeroCells_u8]
        have := hown.1
        omega
      · simp only [Array.toList_append, List.append_assoc]
        rw [← List.append_assoc, ← hlen]
        exact List.take_left
end
end Go.Proofs.YtheiogafjinihaaDoor

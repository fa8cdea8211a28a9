/- Maps keyed by texts, as a literal fills them. (Behind t21/Mv.) -/
import Derived.Test.YtheiogafjinihaaDoorMv
namespace Go.Proofs.YtheiogafjinihaaDoor
open Go Go.RowKit Go.BigFrame Go.Maps

theorem run_make_none {P : Program} {t k e : TypeId} (_ht : P.underlying t = some (.map k e)) (w : World) : (Instr.makeMap t none).run P w = .ok (.map (some w.heap.size)) (w.alloc (.map #[] 0)) := by
  simp [Instr.makeMap, Result.andThen, go_sem]
theorem wpList_ins {P : Program} (w : World) {ops : Array Oper} {rest : List Oper} {o : Oper} {a : Act} {Q : Exit → Act → World → Prop}
    (hg : o.guard = none) (m x v : Operand) (t : TypeId) (hop : o.op = Op.insert t m x v)
    {k e : TypeId} (hk : P.underlying k = some .string) (ht : P.underlying t = some (.map k e)) (b n : Nat) {z : Value} {S : List UInt8 → Option Value}
    (hm : a.eval m = .map (some b)) (hown : MapS w P k b n z S) (hn : n < maxLen) (s : ByteArray) (val : Value) (hs : s.size ≤ maxLen) (hx : a.eval x = .string s) (hv : a.eval v = val)
    (hK : ∀ w', MapS w' P k b (n + 1) z (putS S s.data.toList val) → w.grownBy w' (some b) → wpList P ops Q rest (a.put o.dst undef) w') :
    wpList P ops Q (o :: rest) a w := by
  refine wpList_plain hg fun K' hK' => ?_
  obtain ⟨w', hrun, r1, r2⟩ := hown.put hk ht hn hs val
  unfold Oper.wp
  simp [execOp, hop, hm, hx, hv, hrun, Result.andThen]
  exact hK' _ _ (hK w' r1 r2)
end Go.Proofs.YtheiogafjinihaaDoor

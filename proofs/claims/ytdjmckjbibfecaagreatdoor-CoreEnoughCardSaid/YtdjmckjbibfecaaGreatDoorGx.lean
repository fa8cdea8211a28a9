/- What the operations of a drawn region leave, typed. -/
import Derived.Test.YtdjmckjbibfecaaGreatDoorGw
import Derived.Test.YtdjmckjbibfecaaGreatDoorLw
namespace Go.Proofs.YtdjmckjbibfecaaGreatDoor
open Go Go.RowKit Go.BigFrame Go.Maps

section
variable {P : Program} {ops : Array Oper} {Q : Exit → Act → World → Prop} {S : World → Prop} {o : Oper} {a : Act} {w : World}
theorem held_call {i : Nat} {K : Act → World → Prop} {f : FuncId} {args : Array Value} (hi : ops[i]? = some o) (hg : o.guard = none) (hop : (execOp a.eval o).run P w = .ok (.enter f args) w)
    (hc : Calls P f args w fun e w' => ∃ v, e = .returned v ∧ K (a.put o.dst v) w') : wpOp P ops Q i K a w := by
  unfold wpOp
  simp only [hi]
  have hw : Region.wanted o (yielded ops a.tmps) = true := by simp [Region.wanted, hg]
  rw [if_pos hw]
  unfold Oper.wp
  rw [hop, Oper.upon_enter]
  first
    | exact hc.mono (fun e w' ⟨v, he, h⟩ => by subst he; exact h)
    | exact .inl (hc.mono (fun e w' ⟨v, he, h⟩ => by subst he; exact h))
theorem held_callg {i : Nat} {K : Act → World → Prop} {f : FuncId} {args : Array Value} (hi : ops[i]? = some o) (hw : Region.wanted o (yielded ops a.tmps) = true) (hop : (execOp a.eval o).run P w = .ok (.enter f args) w)
    (hc : Calls P f args w fun e w' => ∃ v, e = .returned v ∧ K (a.put o.dst v) w') : wpOp P ops Q i K a w := by
  unfold wpOp
  simp only [hi]
  rw [if_pos hw]
  unfold Oper.wp
  rw [hop, Oper.upon_enter]
  first
    | exact hc.mono (fun e w' ⟨v, he, h⟩ => by subst he; exact h)
    | exact .inl (hc.mono (fun e w' ⟨v, he, h⟩ => by subst he; exact h))
theorem yields_of {v : Value} (hg : o.guard = none) (h : ∀ w, S w → (execOp a.eval o).run P w = .ok (.value v) w) : YieldsIf P ops S o v a :=
  .inl ⟨by simp [Region.wanted, hg], h⟩
end
section
variable {P : Program} {ops : Array Oper} {Q : Exit → Act → World → Prop} {o : Oper} {a : Act} {w w' : World} {i : Nat} {K : Act → World → Prop}
theorem held_value {v : Value} (hi : ops[i]? = some o) (hg : o.guard = none) (hop : (execOp a.eval o).run P w = .ok (.value v) w') (h : K (a.put o.dst v) w') : wpOp P ops Q i K a w := by
  unfold wpOp
  simp only [hi]
  rw [if_pos (by simp [Region.wanted, hg])]
  unfold Oper.wp
  rw [hop, Oper.upon_value]
  exact .inl h
theorem held_skip (hi : ops[i]? = some o) (hg : o.guard = none) (hop : (execOp a.eval o).run P w = .ok .skip w') (h : K (a.put o.dst undef) w') : wpOp P ops Q i K a w := by
  unfold wpOp
  simp only [hi]
  rw [if_pos (by simp [Region.wanted, hg])]
  unfold Oper.wp
  rw [hop, Oper.upon_skip]
  exact .inl h
theorem held_append (hi' : ops[i]? = some o) (hgd : o.guard = none) (s x : Operand) (t : TypeId)
    (ho : o.op = .call { callee := .builtin .append, args := #[s, x], argTypes := #[t, t] })
    (base : Nat) (e : TypeId) (ti : TypeInfo) (z : Value) (size bytes : Nat) (ht : P.underlying t = some (.slice e)) (hi : P.info? e = some ti) (hz : ti.zero = some z)
    (hsize : ti.size = size) (hby : ti.bytes = bytes) (hzs : z.cells.size = size) (hsz : 0 < size)
    (v : Value) (n : Nat) (xs : List Value) (hs : a.eval s = v) (hown : w.ownsRow base e size v n xs)
    (B : Nat) (A : Option Addr) (m c : Nat) (news : List Value) (hx : a.eval x = .slice A m c) (hr : Reads w B size A m news) (h1 : ∀ u ∈ news, u.oneCell' = true)
    (h63 : n + m ≤ maxLen) (hbytes : (n + m) * bytes ≤ 140737488355328) (hbase : base ≤ w.heap.size)
    (h : ∀ v' w', w'.ownsRow base e size v' (n + m) (xs ++ news) → w.grownBy w' v.ownBlock → (v'.ownBlock = v.ownBlock ∨ v'.ownBlock = some w.heap.size) → K (a.put o.dst v') w') : wpOp P ops Q i K a w := by
  unfold wpOp
  simp only [hi']
  rw [if_pos (by simp [Region.wanted, hgd])]
  exact .inl (wp_append_any w s x t ho base e ti z size bytes ht hi hz hsize hby hzs hsz v n xs hs hown B A m c news hx hr h1 h63 hbytes hbase h)
end
section
variable {P : Program} {ops : Array Oper} {Q : Exit → Act → World → Prop} {S : World → Prop} {o : Oper} {a : Act} {w : World}
theorem yields_blk {g : Nat} {C : Array Value} {ty : TypeId} {x : Operand} {d : TypeDesc} (hg : o.guard = none) (ho : o.op = .load ty x) (hx : a.eval x = .pointer (some ⟨g, 0, none⟩)) (hu : P.underlying ty = some d) (hd : d.isRow = true) (hi : (P.info? ty).map (·.size) = some C.size)
    (hS : ∀ w, S w → Blk w g ty C) : YieldsIf P ops S o (.agg C) a := by
  have h := yieldsIf_load_mid (P := P) (ops := ops) (S := S) (op := o) (a := a) (by simp [Region.wanted, hg]) ty x ho g 0 hx C.toList d (fun w hw j v hv => by
    rw [Nat.zero_add, (hS w hw).cell]; simpa using hv) hu hd (by simpa using hi)
  simpa using h
theorem held_put {i : Nat} {K : Act → World → Prop} (hi' : ops[i]? = some o) (hgd : o.guard = none) (ty : TypeId) (x y : Operand) (ho : o.op = .store ty x y) (g : Nat) (old cs : Array Value) (t : TypeId) (hx : a.eval x = .pointer (some ⟨g, 0, none⟩)) (hy : a.eval y = .agg cs)
    (hb : Blk w g t old) (hs : old.size = cs.size) (hi : (P.info? ty).map (·.size) = some cs.size) (h1 : cs.all (·.oneCell') = true)
    (h : ∀ w', Blk w' g t cs → But g w w' → K (a.put o.dst undef) w') : wpOp P ops Q i K a w := by
  unfold wpOp
  simp only [hi']
  rw [if_pos (by simp [Region.wanted, hgd])]
  refine .inl (wp_store_mid ty x y ho g 0 cs hx hy (fun j hj => ?_) hi h1 (h _ ?_ (setCells_put g _ 0 w)))
  · have hj' : j < old.size := by omega
    rw [Nat.zero_add]
    exact ⟨by rw [hb.cell]; simp [hj'], hb.frozen j⟩
  · have := setCells_row (g := g) (t := t) cs.toList [] old.toList w (by simpa using hs) (by simpa using hb)
    simpa using this
end

abbrev Ty := Value → World → Prop
def Is (c : Value) : Ty := fun v _ => v = c
def MonoT (t : Ty) : Prop := ∀ v W W', t v W → Below W.heap.size W W' → t v W'
def MonoL : List Ty → Prop
  | [] => True
  | t :: l => MonoT t ∧ MonoL l
theorem mono_at : ∀ {l : List Ty}, MonoL l → ∀ (i : Nat) {v : Value} {W W' : World}, (l.getD i (fun _ _ => True)) v W → Below W.heap.size W W' → (l.getD i (fun _ _ => True)) v W'
  | [], _, _, _, _, _, h, _ => h
  | _ :: _, hm, 0, _, _, _, h, hb => hm.1 _ _ _ h hb
  | _ :: _, hm, i + 1, _, _, _, h, hb => mono_at hm.2 i h hb
theorem mono_is (c : Value) : MonoT (Is c) := fun _ _ _ h _ => h
/-- A block of one's own, new. -/
def NewV (B : Nat) (t : TypeId) (cs : Array Value) : Ty := fun v W => ∃ g, B ≤ g ∧ v = .pointer (some ⟨g, 0, none⟩) ∧ Blk W g t cs
theorem mono_NewV {B : Nat} {t : TypeId} {cs : Array Value} : MonoT (NewV B t cs) := fun _ _ _ ⟨g, h0, e, h⟩ hb => ⟨g, h0, e, h.below hb h.lt⟩
end Go.Proofs.YtdjmckjbibfecaaGreatDoor

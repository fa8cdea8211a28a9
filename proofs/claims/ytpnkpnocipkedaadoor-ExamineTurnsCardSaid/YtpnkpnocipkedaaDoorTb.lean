/- How a rule stands twice turned: the plain law; steps of single operations. -/
import Derived.Test.YtpnkpnocipkedaaDoorZg
import Derived.Test.YtpnkpnocipkedaaDoorGr
namespace Go.Proofs.YtpnkpnocipkedaaDoor
open Go Go.RowKit Go.BigFrame Go.Maps

section
variable (docs : List Pap) (d : Pap) (p : Int) (f x : ByteArray) (n : Int) (A : Option Addr) (c : Nat) (s t : Tree)
theorem turn_not : holdsT docs d (.mk 2 p f x n A c [t]) = 2 - holdsT docs d t := by
  have := holdsT_range docs d t
  rw [holdsT, if_neg (by omega), if_neg (by omega), if_pos rfl, greatT, greatT]; omega
theorem turn_not2 : holdsT docs d (.mk 2 p f x n A c [s, t]) = 2 - max (holdsT docs d s) (holdsT docs d t) := by
  have := holdsT_range docs d s
  have := holdsT_range docs d t
  rw [holdsT, if_neg (by omega), if_neg (by omega), if_pos rfl, greatT, greatT, greatT]; omega
theorem turn_all : holdsT docs d (.mk 0 p f x n A c [s, t]) = max (holdsT docs d s) (holdsT docs d t) := by
  have := holdsT_range docs d s
  have := holdsT_range docs d t
  rw [holdsT, if_pos rfl, greatT, greatT, greatT]; omega
theorem turn_any : holdsT docs d (.mk 1 p f x n A c [s, t]) = min (holdsT docs d s) (holdsT docs d t) := by
  have := holdsT_range docs d s
  have := holdsT_range docs d t
  rw [holdsT, if_neg (by omega), if_pos rfl, leastT, leastT, leastT]; omega
end

/-- Rules in a row of memory of their own. -/
theorem row_one {w : World} {g : Nat} {t : Tree} (h : Blk w g 24 t.cells) (hT : TreeAt w t) : RowsAt w (some ⟨g, 0, none⟩) 0 [t] := by
  obtain ⟨k, p, f, x, n, A, c, L⟩ := t
  rw [RowsAt, RowsAt]
  refine ⟨⟨g, 0, rfl, (h.cell _).trans rfl, (h.cell _).trans rfl, (h.cell _).trans rfl, (h.cell _).trans rfl, (h.cell _).trans rfl, (h.cell _).trans rfl⟩, hT, trivial⟩
theorem row_two {w : World} {g : Nat} {s t : Tree} (h : Blk w g 24 (s.cells ++ t.cells)) (hS : TreeAt w s) (hT : TreeAt w t) : RowsAt w (some ⟨g, 0, none⟩) 0 [s, t] := by
  obtain ⟨k, p, f, x, n, A, c, L⟩ := s
  obtain ⟨k', p', f', x', n', A', c', L'⟩ := t
  rw [RowsAt, RowsAt, RowsAt]
  refine ⟨⟨g, 0, rfl, (h.cell _).trans rfl, (h.cell _).trans rfl, (h.cell _).trans rfl, (h.cell _).trans rfl, (h.cell _).trans rfl, (h.cell _).trans rfl⟩, hS, ⟨g, 0, rfl, (h.cell _).trans rfl, (h.cell _).trans rfl, (h.cell _).trans rfl, (h.cell _).trans rfl, (h.cell _).trans rfl, (h.cell _).trans rfl⟩, hT, trivial⟩
theorem tree_of {w : World} {k p : Int} {f x : ByteArray} {n : Int} {A : Option Addr} {c : Nat} {L : List Tree} (h : RowsAt w A 0 L) (hl : L.length ≤ maxLen) : TreeAt w (.mk k p f x n A c L) := by
  rw [TreeAt]; exact ⟨h, hl⟩

/-- The rule that a Not of a row is. -/
abbrev ntC (v : Value) : Array Value := #[.int .i64 2, .int .i64 0, .string ⟨#[]⟩, .string ⟨#[]⟩, .int .i64 0, v]
set_option maxRecDepth 100000 in
theorem not_any (A : Option Addr) (n c : Nat) (w : World) : Calls Tryd.prog 21 #[.slice A n c] w fun e w' => e = .returned (.agg (ntC (.slice A n c))) ∧ Below w.heap.size w w' := by
  have hb := Lib.hid ((Below.refl _ w).alloc (Nat.le_refl _) (.cells (ntC (.slice A n c)) 24))
  go_enter Tryd.func21, Tryd.ntmps21
  go_wp2_with fail
  have hbk := Lib.hid (Blk.new w 24 (ntC (.slice A n c)))
  refine bodyPost_ret (results_cell_row rfl _ _ w.heap.size 24 (ntC (.slice A n c)) (0, 0) _ rfl hbk.out Tryd.underlying24 rfl (by kernel_rfl)) rfl ?_
  exact ⟨rfl, hb.out⟩

abbrev ruC (k : Int) (v : Value) : Array Value := #[.int .i64 k, .int .i64 0, .string ⟨#[]⟩, .string ⟨#[]⟩, .int .i64 0, v]
abbrev ruT (k : Int) (g : Nat) (L : List Tree) : Tree := .mk k 0 ⟨#[]⟩ ⟨#[]⟩ 0 (some ⟨g, 0, none⟩) L.length L
theorem mem_one (k : Int) {w : World} {t : Tree} {T : Array Value} (hT : TreeAt w t) (hc : t.cells = T) : TreeAt (w.alloc (.cells T 24)) (ruT k w.heap.size [t]) :=
  tree_of (row_one (by rw [hc]; exact Blk.new w 24 T) (hT.below ((Below.refl _ w).alloc (Nat.le_refl _) _))) (by simp [maxLen])
theorem mem_two (k : Int) {w : World} {s t : Tree} {T : Array Value} (hS : TreeAt w s) (hT : TreeAt w t) (hc : s.cells ++ t.cells = T) : TreeAt (w.alloc (.cells T 24)) (ruT k w.heap.size [s, t]) :=
  tree_of (row_two (by rw [hc]; exact Blk.new w 24 T) (hS.below ((Below.refl _ w).alloc (Nat.le_refl _) _)) (hT.below ((Below.refl _ w).alloc (Nat.le_refl _) _))) (by simp [maxLen])
theorem below_new (w : World) (o : Obj) : Below w.heap.size w (w.alloc o) := (Below.refl _ w).alloc (Nat.le_refl _) o
/-- Two rules over the same two, made one behind the other. -/
theorem turn_mem {w : World} {s t : Tree} {T : Array Value} (hS : TreeAt w s) (hT : TreeAt w t) (hc : s.cells ++ t.cells = T) {A B : Array Value} {W : World}
    (hW : W = (((w.alloc (.cells T 24)).alloc (.cells A 24)).alloc (.cells T 24)).alloc (.cells B 24)) :
    Below w.heap.size w W ∧ Blk W (w.heap.size + 1) 24 A ∧ Blk W (w.heap.size + 1 + 1 + 1) 24 B ∧ TreeAt W (ruT 0 w.heap.size [s, t]) ∧ TreeAt W (ruT 1 (w.heap.size + 1 + 1) [s, t]) := by
  subst hW
  have b1 := below_new w (.cells T 24)
  have b2 := below_new (w.alloc (.cells T 24)) (.cells A 24)
  have b3 := below_new ((w.alloc (.cells T 24)).alloc (.cells A 24)) (.cells T 24)
  have b4 := below_new (((w.alloc (.cells T 24)).alloc (.cells A 24)).alloc (.cells T 24)) (.cells B 24)
  have b12 := b1.trans (b2.mono b1.size)
  have b123 := b12.trans (b3.mono b12.size)
  have k2 := Blk.new (w.alloc (.cells T 24)) 24 A
  have k4 := Blk.new (((w.alloc (.cells T 24)).alloc (.cells A 24)).alloc (.cells T 24)) 24 B
  have m1 := (((mem_two 0 hS hT hc).below b2).below b3).below b4
  have m2 := (mem_two 1 (hS.below b12) (hT.below b12) hc).below b4
  simp only [World.size_alloc] at k2 k4 m2
  exact ⟨b123.trans (b4.mono b123.size), (k2.alloc _).alloc _, k4, m1, m2⟩
/-- What Holds hands back of any rule. -/
def HoldsF (A : Option Addr) (nn c : Nat) (docs : List Pap) (a : Int) (d : Pap) : Prop :=
  ∀ (t : Tree) (w : World), TreeAt w t → Room w A nn docs → Calls Tryd.prog 17 #[.agg t.cells, .slice A nn c, .int .i64 a] w fun e w' => e = .returned (.int .i64 (holdsT docs d t)) ∧ Below w.heap.size w w'
theorem holdsF_of (A : Option Addr) (nn c : Nat) (docs : List Pap) (a : Nat) (d : Pap) (hd : docs[a]? = some d) : HoldsF A nn c docs a d := fun t w hT hR => by
  have := holds_any A nn c docs (a : Int) t w hT hR
  rwa [standsA_in hd] at this

section
variable {E : Operand → Value} {o : Oper} {W : World} {x y z : Operand} {v : Value}
theorem run_mv (ho : o.op = .move x) (hx : E x = v) : (execOp E o).run Tryd.prog W = .ok (.value v) W := by
  obtain ⟨d, op, ty, ps, af, gd⟩ := o
  simp only at ho; subst ho
  simp [go_sem, hx]
theorem run_as (ho : o.op = .assign x) (hx : E x = v) : (execOp E o).run Tryd.prog W = .ok (.value v) W := by
  obtain ⟨d, op, ty, ps, af, gd⟩ := o
  simp only at ho; subst ho
  simp [go_sem, hx]
theorem run_ld {g : Nat} {cs : Array Value} (ho : o.op = .load 24 x) (hx : E x = .pointer (some ⟨g, 0, none⟩)) (hb : Blk W g 24 cs) (hs : cs.size = 6) : (execOp E o).run Tryd.prog W = .ok (.value (.agg cs)) W := by
  have hi : (Tryd.prog.info? 24).map (·.size) = some cs.size := by rw [hs]; kernel_rfl
  unfold execOp
  simp only [ho, hx, Instr.loadAt, Instr.sureAddr, Sem.run_bind, Sem.run_pure, Result.andThen_ok, run_loadVar_row W g 24 24 cs (0, 0) _ hb Tryd.underlying24 rfl hi]
theorem run_bs1 {t : Tree} (ho : o.op = .buildSlice 22 1 #[(0, x)]) (hx : E x = .agg t.cells) : (execOp E o).run Tryd.prog W = .ok (.value (.slice (some ⟨W.heap.size, 0, none⟩) 1 1)) (W.alloc (.cells t.cells 24)) := by
  obtain ⟨d, op, ty, ps, af, gd⟩ := o
  simp only at ho; subst ho
  obtain ⟨k, p, f, tx, n, A, c, L⟩ := t
  simp only [Tree.cells] at hx ⊢
  simp [go_sem, hx]
theorem run_bs2 {s t : Tree} (ho : o.op = .buildSlice 22 2 #[(0, x), (1, y)]) (hx : E x = .agg s.cells) (hy : E y = .agg t.cells) : (execOp E o).run Tryd.prog W = .ok (.value (.slice (some ⟨W.heap.size, 0, none⟩) 2 2)) (W.alloc (.cells (s.cells ++ t.cells) 24)) := by
  obtain ⟨d, op, ty, ps, af, gd⟩ := o
  simp only at ho; subst ho
  obtain ⟨k, p, f, tx, n, A, c, L⟩ := s
  obtain ⟨k', p', f', tx', n', A', c', L'⟩ := t
  simp only [Tree.cells] at hx hy ⊢
  simp [go_sem, hx, hy]
theorem run_bd {k : Int} {A : Option Addr} {m c : Nat} (ho : o.op = .build 24 #[(0, .const (.int .i64 k)), (5, x)]) (hc : E (.const (.int .i64 k)) = .int .i64 k) (hx : E x = .slice A m c) : (execOp E o).run Tryd.prog W = .ok (.value (.agg #[.int .i64 k, .int .i64 0, .string ⟨#[]⟩, .string ⟨#[]⟩, .int .i64 0, .slice A m c])) W := by
  obtain ⟨d, op, ty, ps, af, gd⟩ := o
  simp only at ho; subst ho
  simp [go_sem, hx, hc]
theorem run_c3 {T : Array TypeId} (ho : o.op = .call { callee := .value (.func 17), args := #[x, y, z], argTypes := T }) (hf : E (.func 17) = .func (.func 17) #[] #[]) : (execOp E o).run Tryd.prog W = .ok (.enter 17 #[E x, E y, E z]) W := by
  obtain ⟨d, op, ty, ps, af, gd⟩ := o
  simp only at ho; subst ho
  simp [go_sem, hf]
theorem run_c1 {T : Array TypeId} (ho : o.op = .call { callee := .value x, args := #[y], argTypes := T }) (hf : E x = .func (.func 21) #[] #[]) : (execOp E o).run Tryd.prog W = .ok (.enter 21 #[E y]) W := by
  obtain ⟨d, op, ty, ps, af, gd⟩ := o
  simp only at ho; subst ho
  simp [go_sem, hf]
theorem run_eq {a b : Int} (ho : o.op = .binOp .eql 3 x y 3) (hx : E x = .int .i64 a) (hy : E y = .int .i64 b) : (execOp E o).run Tryd.prog W = .ok (.value (.bool (a == b))) W := by
  obtain ⟨d, op, ty, ps, af, gd⟩ := o
  simp only at ho; subst ho
  simp [go_sem, hx, hy]
theorem run_pk {b c e : Bool} {z : Operand} (ho : o.op = .pick x y z) (hx : E x = .bool b) (hy : E y = .bool c) (hz : E z = .bool e) : (execOp E o).run Tryd.prog W = .ok (.value (.bool (if b then c else e))) W := by
  obtain ⟨d, op, ty, ps, af, gd⟩ := o
  simp only at ho; subst ho
  simp [go_sem, hx, hy, hz]
end

/-- What a slot holds: a value; a rule that holds so; a row of rules that hold so. -/
abbrev cV (u : Value) : Value → World → Prop := fun v _ => v = u
def gT (docs : List Pap) (d : Pap) (h : Int) : Value → World → Prop := fun v W => ∃ t : Tree, v = .agg t.cells ∧ TreeAt W t ∧ holdsT docs d t = h
def gR1 (docs : List Pap) (d : Pap) (h : Int) : Value → World → Prop := fun v W => ∃ (A : Option Addr) (c : Nat) (t : Tree), v = .slice A 1 c ∧ RowsAt W A 0 [t] ∧ holdsT docs d t = h
def gR2 (docs : List Pap) (d : Pap) (h k : Int) : Value → World → Prop := fun v W => ∃ (A : Option Addr) (c : Nat) (s t : Tree), v = .slice A 2 c ∧ RowsAt W A 0 [s, t] ∧ holdsT docs d s = h ∧ holdsT docs d t = k
def gMono (g : Value → World → Prop) : Prop := ∀ v W W', g v W → Below W.heap.size W W' → g v W'
theorem cV_mono (u : Value) : gMono (cV u) := fun _ _ _ h _ => h
theorem gT_mono (docs : List Pap) (d : Pap) (h : Int) : gMono (gT docs d h) := fun _ _ _ ⟨t, e, hT, hh⟩ hb => ⟨t, e, hT.below hb, hh⟩
theorem gR1_mono (docs : List Pap) (d : Pap) (h : Int) : gMono (gR1 docs d h) := fun _ _ _ ⟨A, c, t, e, hT, hh⟩ hb => ⟨A, c, t, e, hT.below hb, hh⟩
theorem gR2_mono (docs : List Pap) (d : Pap) (h k : Int) : gMono (gR2 docs d h k) := fun _ _ _ ⟨A, c, s, t, e, hT, hh⟩ hb => ⟨A, c, s, t, e, hT.below hb, hh⟩

section
variable {docs : List Pap} {d : Pap} {ops : Array Oper} {o : Oper} {a : Act} {W : World} {x y z : Operand} {v u : Value} {h k : Int}
theorem wanted_no (hg : o.guard = none) : Region.wanted o (yielded ops a.tmps) = true := by simp [Region.wanted, hg]
theorem wanted_true {j : Nat} {e : Tmp} (hg : o.guard = some (j, true)) (hd : (ops[j]?).bind (·.dst) = some e) (hn : e < a.tmps.size) (hv : a.tmps.getD e undef = .bool true) : Region.wanted o (yielded ops a.tmps) = true := by
  rw [wanted_of hg hd hn hv rfl]; rfl
theorem st_eq {b c : Int} (hw : Region.wanted o (yielded ops a.tmps) = true) (ho : o.op = .binOp .eql 3 x y 3) (hx : a.eval x = .int .i64 b) (hy : a.eval y = .int .i64 c) (hbc : b = c) : Stepped Tryd.prog ops o a W fun v' W' => Below W.heap.size W W' ∧ cV (.bool true) v' W' :=
  stepped_value_if hw (run_eq ho hx hy) ⟨Below.refl _ _, by rw [hbc]; simp⟩
theorem st_val (hw : Region.wanted o (yielded ops a.tmps) = true) (hr : (execOp a.eval o).run Tryd.prog W = .ok (.value v) W) : Stepped Tryd.prog ops o a W fun v' W' => Below W.heap.size W W' ∧ cV v v' W' :=
  stepped_value_if hw hr ⟨Below.refl _ _, rfl⟩
theorem st_row1 (hw : Region.wanted o (yielded ops a.tmps) = true) (ho : o.op = .buildSlice 22 1 #[(0, x)]) (hv : gT docs d h (a.eval x) W) : Stepped Tryd.prog ops o a W fun v' W' => Below W.heap.size W W' ∧ gR1 docs d h v' W' := by
  obtain ⟨t, e, hT, hh⟩ := hv
  exact stepped_value_if hw (run_bs1 ho e) ⟨below_new _ _, _, _, t, rfl, row_one (Blk.new _ _ _) (hT.below (below_new _ _)), hh⟩
theorem st_row2 (hw : Region.wanted o (yielded ops a.tmps) = true) (ho : o.op = .buildSlice 22 2 #[(0, x), (1, y)]) (hx : gT docs d h (a.eval x) W) (hy : gT docs d k (a.eval y) W) : Stepped Tryd.prog ops o a W fun v' W' => Below W.heap.size W W' ∧ gR2 docs d h k v' W' := by
  obtain ⟨s, e, hS, hh⟩ := hx
  obtain ⟨t, e', hT, hk⟩ := hy
  exact stepped_value_if hw (run_bs2 ho e e') ⟨below_new _ _, _, _, s, t, rfl, row_two (Blk.new _ _ _) (hS.below (below_new _ _)) (hT.below (below_new _ _)), hh, hk⟩
theorem st_not1 {T : Array TypeId} (hw : Region.wanted o (yielded ops a.tmps) = true) (ho : o.op = .call { callee := .value x, args := #[y], argTypes := T }) (hx : a.eval x = .func (.func 21) #[] #[]) (hy : gR1 docs d h (a.eval y) W) : Stepped Tryd.prog ops o a W fun v' W' => Below W.heap.size W W' ∧ gT docs d (2 - h) v' W' := by
  obtain ⟨A, c, t, e, hR, hh⟩ := hy
  refine stepped_call_if hw (run_c1 ho hx) ?_
  rw [e]
  refine (not_any _ _ _ _).mono fun e' W' ⟨he, hb⟩ => ⟨_, he, hb, .mk 2 0 ⟨#[]⟩ ⟨#[]⟩ 0 A c [t], rfl, tree_of (hR.below hb) (by simp [maxLen]), ?_⟩
  rw [turn_not, hh]
theorem st_not2 {T : Array TypeId} (hw : Region.wanted o (yielded ops a.tmps) = true) (ho : o.op = .call { callee := .value x, args := #[y], argTypes := T }) (hx : a.eval x = .func (.func 21) #[] #[]) (hy : gR2 docs d h k (a.eval y) W) : Stepped Tryd.prog ops o a W fun v' W' => Below W.heap.size W W' ∧ gT docs d (2 - max h k) v' W' := by
  obtain ⟨A, c, s, t, e, hR, hh, hk⟩ := hy
  refine stepped_call_if hw (run_c1 ho hx) ?_
  rw [e]
  refine (not_any _ _ _ _).mono fun e' W' ⟨he, hb⟩ => ⟨_, he, hb, .mk 2 0 ⟨#[]⟩ ⟨#[]⟩ 0 A c [s, t], rfl, tree_of (hR.below hb) (by simp [maxLen]), ?_⟩
  rw [turn_not2, hh, hk]
theorem st_any2 (hw : Region.wanted o (yielded ops a.tmps) = true) (ho : o.op = .build 24 #[(0, .const (.int .i64 1)), (5, x)]) (hy : gR2 docs d h k (a.eval x) W) : Stepped Tryd.prog ops o a W fun v' W' => Below W.heap.size W W' ∧ gT docs d (min h k) v' W' := by
  obtain ⟨A, c, s, t, e, hR, hh, hk⟩ := hy
  exact stepped_value_if hw (run_bd ho rfl e) ⟨Below.refl _ _, .mk 1 0 ⟨#[]⟩ ⟨#[]⟩ 0 A c [s, t], rfl, tree_of hR (by simp [maxLen]), by rw [turn_any, hh, hk]⟩
theorem st_holds {T : Array TypeId} {A : Option Addr} {nn c m : Nat} (hH : HoldsF A nn c docs (m : Int) d) (hR : Room W A nn docs) (hw : Region.wanted o (yielded ops a.tmps) = true) (ho : o.op = .call { callee := .value (.func 17), args := #[x, y, z], argTypes := T })
    (hx : gT docs d h (a.eval x) W) (hy : a.eval y = .slice A nn c) (hz : a.eval z = .int .i64 (m : Int)) : Stepped Tryd.prog ops o a W fun v' W' => Below W.heap.size W W' ∧ cV (.int .i64 h) v' W' := by
  obtain ⟨t, e, hT, hh⟩ := hx
  refine stepped_call_if hw (run_c3 ho rfl) ?_
  rw [e, hy, hz]
  refine (hH t W hT hR).mono fun e' W' ⟨he, hb⟩ => ⟨_, he, hb, by rw [hh]⟩
end
/-- What the last region's operations leave. -/
def turnG (docs : List Pap) (d : Pap) (A : Option Addr) (nn c m ga : Nat) (s t : Tree) (x y : Int) : List (Value → World → Prop) :=
  [cV (.func (.func 21) #[] #[]), cV (.agg (ruT 0 ga [s, t]).cells), gR1 docs d (max x y), gT docs d (2 - max x y), cV (.slice A nn c), cV (.int .i64 (m : Int)), cV (.int .i64 (2 - max x y)), cV (.func (.func 21) #[] #[]), cV (.agg s.cells), gR1 docs d x, gT docs d (2 - x), cV (.func (.func 21) #[] #[]), cV (.agg t.cells), gR1 docs d y, gT docs d (2 - y), gR2 docs d (2 - x) (2 - y), gT docs d (min (2 - x) (2 - y)), cV (.slice A nn c), cV (.int .i64 (m : Int)), cV (.int .i64 (min (2 - x) (2 - y))), cV (.bool true), cV (.bool true), cV (.func (.func 21) #[] #[]), cV (.agg s.cells), cV (.agg t.cells), gR2 docs d x y, gT docs d (2 - max x y), cV (.slice A nn c), cV (.int .i64 (m : Int)), cV (.int .i64 (2 - max x y)), cV (.func (.func 21) #[] #[]), cV (.agg (ruT 0 ga [s, t]).cells), gR1 docs d (max x y), gT docs d (2 - max x y), cV (.slice A nn c), cV (.int .i64 (m : Int)), cV (.int .i64 (2 - max x y)), cV (.bool true), cV (.bool true), cV (.bool true)]
theorem turnG_mono (docs : List Pap) (d : Pap) (A : Option Addr) (nn c m ga : Nat) (s t : Tree) (x y : Int) : ∀ g ∈ turnG docs d A nn c m ga s t x y, gMono g := by
  intro g hg
  simp only [turnG, List.mem_cons, List.not_mem_nil, or_false] at hg
  rcases hg with rfl | rfl | rfl | rfl | rfl | rfl | rfl | rfl | rfl | rfl | rfl | rfl | rfl | rfl | rfl | rfl | rfl | rfl | rfl | rfl | rfl | rfl | rfl | rfl | rfl | rfl | rfl | rfl | rfl | rfl | rfl | rfl | rfl | rfl | rfl | rfl | rfl | rfl | rfl | rfl
  all_goals first | exact cV_mono _ | exact gT_mono _ _ _ | exact gR1_mono _ _ _ | exact gR2_mono _ _ _ _
theorem stepped_one {P : Program} {ops : Array Oper} {o : Oper} {a : Act} {W : World} {l : List (Value → World → Prop)} {i : Nat} {g : Value → World → Prop} (h : Stepped P ops o a W fun v' W' => Below W.heap.size W W' ∧ g v' W') (hi : l[i]? = some g := by rfl) :
    Stepped P ops o a W fun v' W' => Below W.heap.size W W' ∧ ∀ g, l[i]? = some g → g v' W' := by
  have key : ∀ v W', (Below W.heap.size W W' ∧ g v W') → (Below W.heap.size W W' ∧ ∀ g, l[i]? = some g → g v W') := fun v W' h => ⟨h.1, fun g' hg' => by rw [hi] at hg'; cases hg'; exact h.2⟩
  rcases h with ⟨hw, h⟩ | ⟨hw, h⟩
  · refine .inl ⟨hw, ?_⟩
    rcases h with ⟨v, W', hr, h⟩ | ⟨f, args, W', hr, h⟩
    · exact .inl ⟨v, W', hr, key _ _ h⟩
    · exact .inr ⟨f, args, W', hr, h.mono fun e W'' ⟨v, he, h⟩ => ⟨v, he, key _ _ h⟩⟩
  · exact .inr ⟨hw, key _ _ h⟩
end Go.Proofs.YtpnkpnocipkedaaDoor

/- Needs, appended: a region that makes a row of needs, held by hand; the walk of Asked. -/
import Derived.Test.YtpnkpnocipkedaaDoorEq
namespace Go.Proofs.YtpnkpnocipkedaaDoor
open Go Go.RowKit Go.BigFrame Go.Maps

section
variable {P : Program} {ops : Array Oper} {Q : Exit → Act → World → Prop} {o : Oper} {a : Act} {w w' : World} {i : Nat} {K : Act → World → Prop}
theorem held_value {v : Value} (hi : ops[i]? = some o) (hg : o.guard = none) (hop : (execOp a.eval o).run P w = .ok (.value v) w') (h : K (a.put o.dst v) w') : wpOp P ops Q i K a w := by
  unfold wpOp
  simp only [hi]
  rw [if_pos (by simp [Region.wanted, hg])]
  unfold Oper.wp
  rw [hop, Oper.upon_value]
  exact .inl h
theorem held_skip (hi : ops[i]? = some o) (hg : o.guard = none) (hop : (execOp a.eval o).run P w = .ok .skip w') (h : K (a.put o.dst undef) w') : wpOp P ops Q i K a w := by
  unfold wpOp
  simp only [hi]
  rw [if_pos (by simp [Region.wanted, hg])]
  unfold Oper.wp
  rw [hop, Oper.upon_skip]
  exact .inl h
theorem held_append (hi' : ops[i]? = some o) (hgd : o.guard = none) (s x : Operand) (t : TypeId)
    (ho : o.op = .call { callee := .builtin .append, args := #[s, x], argTypes := #[t, t] })
    (base : Nat) (e : TypeId) (ti : TypeInfo) (z : Value) (size bytes : Nat) (ht : P.underlying t = some (.slice e)) (hi : P.info? e = some ti) (hz : ti.zero = some z)
    (hsize : ti.size = size) (hby : ti.bytes = bytes) (hzs : z.cells.size = size) (hsz : 0 < size)
    (v : Value) (n : Nat) (xs : List Value) (hs : a.eval s = v) (hown : w.ownsRow base e size v n xs)
    (B : Nat) (A : Option Addr) (m c : Nat) (news : List Value) (hx : a.eval x = .slice A m c) (hr : Reads w B size A m news) (h1 : ∀ u ∈ news, u.oneCell' = true)
    (h63 : n + m ≤ maxLen) (hbytes : (n + m) * bytes ≤ 140737488355328) (hbase : base ≤ w.heap.size)
    (h : ∀ v' w', w'.ownsRow base e size v' (n + m) (xs ++ news) → w.grownBy w' v.ownBlock → (v'.ownBlock = v.ownBlock ∨ v'.ownBlock = some w.heap.size) → K (a.put o.dst v') w') : wpOp P ops Q i K a w := by
  unfold wpOp
  simp only [hi']
  rw [if_pos (by simp [Region.wanted, hgd])]
  exact .inl (wp_append_any w s x t ho base e ti z size bytes ht hi hz hsize hby hzs hsz v n xs hs hown B A m c news hx hr h1 h63 hbytes hbase h)
end
theorem Tryd.info52 : (Tryd.prog.info? 52).map (fun i => (i.zero, i.size, i.bytes)) = some (some (.agg #[.int .i64 0, .int .i64 0, .int .i64 0, .int .i64 0, .string ⟨#[]⟩, .string ⟨#[]⟩, .int .i64 0, .slice none 0 0]), 8, 96) := by kernel_rfl

/-- A need's cells. -/
def Nd.cells (x : Nd) : List Value := .int .i64 x.kind :: .int .i64 x.count :: x.rule.cells.toList
def ncells (l : List Nd) : List Value := l.flatMap Nd.cells
theorem Nd.cells_len (x : Nd) : x.cells.length = 8 := by
  obtain ⟨k, c, ⟨a, b, d, e, f, g, h, i⟩⟩ := x
  simp [Nd.cells, Tree.cells]
theorem ncells_len (l : List Nd) : (ncells l).length = l.length * 8 := by
  induction l with
  | nil => rfl
  | cons x l ih => show (x.cells ++ ncells l).length = _; rw [List.length_append, ih, Nd.cells_len, List.length_cons]; omega
theorem ncells_app (l m : List Nd) : ncells (l ++ m) = ncells l ++ ncells m := by simp [ncells]
theorem ncells_get : ∀ (l : List Nd) (k : Nat) (x : Nd), l[k]? = some x → ∀ i, i < 8 → (ncells l)[k * 8 + i]? = x.cells[i]?
  | [], k, x, h, i, hi => by simp at h
  | y :: l, 0, x, h, i, hi => by
    simp at h; subst h
    show (y.cells ++ ncells l)[0 * 8 + i]? = _
    rw [Nat.zero_mul, Nat.zero_add, List.getElem?_append_left (by rw [Nd.cells_len]; exact hi)]
  | y :: l, k + 1, x, h, i, hi => by
    have ih := ncells_get l k x (by simpa using h) i hi
    show (y.cells ++ ncells l)[(k + 1) * 8 + i]? = _
    rw [List.getElem?_append_right (by rw [Nd.cells_len]; omega), Nd.cells_len, show (k + 1) * 8 + i - 8 = k * 8 + i by omega]
    exact ih
theorem ncells_one (l : List Nd) : ∀ u ∈ ncells l, u.oneCell' = true := by
  intro u hu
  obtain ⟨x, _, hx⟩ := List.mem_flatMap.1 hu
  obtain ⟨k, c, ⟨a, b, d, e, f, g, h, i⟩⟩ := x
  simp [Nd.cells, Tree.cells] at hx
  rcases hx with rfl | rfl | rfl | rfl | rfl | rfl | rfl | rfl <;> rfl
/-- A need's cells stand at a place. -/
theorem nds_cell {w : World} {A : Option Addr} {l : List Nd} (h : NdsAt w A l) {k : Nat} {x : Nd} (hk : l[k]? = some x) : ∃ b off, A = some ⟨b, off, none⟩ ∧ ∀ i u, x.cells[i]? = some u → w.cell? ⟨b, off + k * 8 + i, none⟩ = some u := by
  obtain ⟨_, _, _, b, off, e, h0, h1, h2⟩ := h k x hk
  obtain ⟨kd, ct, ⟨tk, tp, tf, tx, tn, tA, tc, tL⟩⟩ := x
  simp only at h0 h1 h2
  obtain ⟨g0, g1, g2, g3, g4, g5⟩ := h2
  refine ⟨b, off, e, fun i u hu => ?_⟩
  match i, hu with
  | 0, hu => simp [Nd.cells] at hu; subst hu; exact h0
  | 1, hu => simp [Nd.cells] at hu; subst hu; exact h1
  | 2, hu => simp [Nd.cells, Tree.cells] at hu; subst hu; exact g0
  | 3, hu => simp [Nd.cells, Tree.cells] at hu; subst hu; exact g1
  | 4, hu => simp [Nd.cells, Tree.cells] at hu; subst hu; exact g2
  | 5, hu => simp [Nd.cells, Tree.cells] at hu; subst hu; exact g3
  | 6, hu => simp [Nd.cells, Tree.cells] at hu; subst hu; exact g4
  | 7, hu => simp [Nd.cells, Tree.cells] at hu; subst hu; exact g5
  | j + 8, hu => simp [Nd.cells, Tree.cells] at hu
theorem nds_reads {w : World} {A : Option Addr} {l : List Nd} (h : NdsAt w A l) : Reads w w.heap.size 8 A l.length (ncells l) := by
  refine ⟨ncells_len l, fun hn => ?_⟩
  obtain ⟨b, off, rfl, h0⟩ := nds_cell h (List.getElem?_eq_getElem hn)
  refine ⟨_, rfl, World.block_lt_of_cell? w _ (h0 0 (.int .i64 l[0].kind) rfl), fun j u hu => ?_⟩
  have hj : j < l.length * 8 := by have := (List.getElem?_eq_some_iff.1 hu).1; rw [ncells_len] at this; exact this
  have hk : j / 8 < l.length := by omega
  obtain ⟨b', off', e, hc⟩ := nds_cell h (List.getElem?_eq_getElem hk)
  simp only [Option.some.injEq, Addr.mk.injEq, and_true] at e
  obtain ⟨rfl, rfl⟩ := e
  have hg := ncells_get l (j / 8) l[j / 8] (List.getElem?_eq_getElem hk) (j % 8) (by omega)
  rw [show j / 8 * 8 + j % 8 = j by omega, hu] at hg
  have := hc (j % 8) u hg.symm
  have hadd : Addr.add ⟨b, off, none⟩ j = ⟨b, off + j, none⟩ := by unfold Addr.add; split <;> simp_all
  rw [hadd, show off + j = off + j / 8 * 8 + j % 8 by omega]
  exact this
/-- Needs in a row of one's own. -/
theorem own_nds {w : World} {base m : Nat} {v : Value} {l : List Nd} (h : w.ownsRow base 52 8 v m (ncells l)) (hl : l.length = m) (hn : ∀ x ∈ l, (-9223372036854775808 ≤ x.kind ∧ x.kind ≤ 9223372036854775807) ∧ TreeAt w x.rule ∧ LongT x.rule) : ∃ A' c', v = .slice A' m c' ∧ NdsAt w A' l := by
  rcases h.2 with ⟨rfl, rfl⟩ | ⟨g, cap, cur, rfl, _, _, hnc, _⟩
  · have : l = [] := List.eq_nil_of_length_eq_zero hl
    subst this
    exact ⟨_, _, rfl, by intro k x hk; simp at hk⟩
  · refine ⟨_, _, rfl, fun k x hk => ?_⟩
    have hx := hn x (List.mem_of_getElem? hk)
    have hc : ∀ i, i < 8 → ∀ u, x.cells[i]? = some u → w.cell? ⟨g, 0 + k * 8 + i, none⟩ = some u := fun i hi u hu => by
      have := h.cells (g := g) rfl (k * 8 + i) u (by rw [ncells_get l k x hk i hi]; exact hu)
      rwa [show Addr.add ⟨g, 0, none⟩ (k * 8 + i) = ⟨g, 0 + k * 8 + i, none⟩ by unfold Addr.add; split <;> simp_all] at this
    obtain ⟨kd, ct, ⟨tk, tp, tf, tx, tn, tA, tc, tL⟩⟩ := x
    exact ⟨hx.1, hx.2.1, hx.2.2, g, 0, rfl, hc 0 (by omega) _ rfl, hc 1 (by omega) _ rfl, hc 2 (by omega) _ rfl, hc 3 (by omega) _ rfl, hc 4 (by omega) _ rfl, hc 5 (by omega) _ rfl, hc 6 (by omega) _ rfl, hc 7 (by omega) _ rfl⟩

theorem asked_step {needs : List Nd} {q : Nat} {x : Nd} {k : Int} {r : Bool} (h : r = askedB (needs.drop q) k) (hx : needs[q]? = some x) : r = (decide (x.kind = k) || askedB (needs.drop (q + 1)) k) := by
  obtain ⟨hq, he⟩ := List.getElem?_eq_some_iff.1 hx
  rw [h, List.drop_eq_getElem_cons hq, he]; simp [askedB]
set_option maxRecDepth 100000 in
set_option maxHeartbeats 1600000 in
theorem asked_any (C : Array Value) (nA : Option Addr) (nl nc : Nat) (needs : List Nd) (k : Int) (w : World) (hC17 : Hid (C[17]? = some (.slice nA nl nc))) (hnl : Hid (needs.length = nl)) (hml : nl ≤ maxLen) (hN : Hid (NdsAt w nA needs)) :
    Calls Tryd.prog 22 #[.agg C, .int .i64 k] w fun e w' => e = .returned (.bool (askedB needs k)) ∧ Below w.heap.size w w' := by
  unfold maxLen at hml
  have hb0 := Lib.hid ((Below.refl _ w).alloc (Nat.le_refl _) (.cells C 32))
  have hbk := Lib.hid (Blk.new w 32 C)
  have c17 : (w.alloc (.cells C 32)).cell? ⟨w.heap.size, 17, none⟩ = some (.slice nA nl nc) := (hbk.out.cell 17).trans hC17.out
  have hN0 := Lib.hid (hN.out.below hb0.out)
  go_enter Tryd.func22, Tryd.ntmps22
  go_wp2_with fail
  go_loopw [5] (fun i wr => ∃ q : Nat, q ≤ nl ∧ i = .int .i64 q ∧ (w.alloc (.cells C 32)) = wr ∧ Hid (askedB needs k = askedB (needs.drop q) k)) (fun i _ => nl - (intOf i).toNat)
  case atStart => exact ⟨0, Nat.zero_le _, rfl, rfl, rfl⟩
  case round =>
    obtain ⟨q, hq, rfl, rfl, hs⟩ := hrel
    by_cases hlt : q < nl
    · obtain ⟨x, hx⟩ : ∃ x, needs[q]? = some x := ⟨_, List.getElem?_eq_getElem (by have := hnl.out; omega)⟩
      have hst := Lib.hid (asked_step hs.out hx)
      obtain ⟨_, _, _, b, off, rfl, h0, _, _⟩ := hN0.out q x hx
      clear hx
      by_cases hk : x.kind = k
      · have hb : (x.kind == k) = true := by simp [hk]
        have hr : Hid (askedB needs k = true) := by unfold Hid; rw [hst.out]; simp [hk]
        clear hk
        go_wp2_with fail
        go_ret
        exact ⟨by rw [hr.out]; first | done | rfl, hb0.out⟩
      · have hb : (x.kind == k) = false := by simp [hk]
        have hr : Hid (askedB needs k = askedB (needs.drop (q + 1)) k) := by unfold Hid; rw [hst.out]; simp [hk]
        clear hk
        go_wp2_with fail
        go_roundw
        case rel => exact ⟨q + 1, by omega, by go_num, trivial, hr⟩
        case measure => simp [intOf]; omega
    · have hr : Hid (askedB needs k = false) := by unfold Hid; rw [hs.out, List.drop_eq_nil_of_le (by have := hnl.out; omega)]; rfl
      go_wp2_with fail
      go_ret
      exact ⟨by rw [hr.out]; first | done | rfl, hb0.out⟩
end Go.Proofs.YtpnkpnocipkedaaDoor

/- Arguments opened, with their bulk: how great a rule is whose bulk is bounded. -/
import Derived.Test.YtjkmhlfjheiekaaGreatDoorOp
import Derived.Test.YtjkmhlfjheiekaaGreatDoorTb
namespace Go.Proofs.YtjkmhlfjheiekaaGreatDoor
open Go Go.ChangeShapes Go.WideShapes Go.ChangeAt Go.RowKit Go.Deep

section
variable {H : Type} {enc : TypeId × Value → H} {P : Program} {w : World} {base : Nat} {spare : Nat → Bool} {held : Bool}
theorem open_row2 {t e : TypeId} {fuel : Nat} {cs : List Value} {x : DataW H × List MemPlace} (ht : P.underlying t = some (.slice e)) (hs : 0 < P.cellsOf e) (h : DataW.trod enc P w base spare held fuel t cs = some x) :
    ∃ (A : Option Addr) (len cap n : Nat) (D : List (DataW H)), cs = [.slice A len cap] ∧ n < fuel ∧ len ≤ cap ∧ cap ≤ maxLen ∧ D.length = len ∧ Rows.uptoBulkAll D + 1 ≤ Rows.uptoBulk x.1 ∧ ∀ i, i < len → ∃ (b off : Nat) (cs' : List Value) (y : DataW H × List MemPlace), A = some ⟨b, off, none⟩ ∧ cs'.length = P.cellsOf e ∧
      (∀ j, j < P.cellsOf e → w.cell? ⟨b, off + i * P.cellsOf e + j, none⟩ = cs'[j]?) ∧ DataW.trod enc P w base spare held n e cs' = some y ∧ D[i]? = some y.1 := by
  have hfu : 0 < fuel := by
    rcases Nat.eq_zero_or_pos fuel with h0 | h0
    · subst h0; simp [DataW.trod] at h
    · exact h0
  rcases DataW.trod_slice ht h with ⟨rfl, rfl⟩ | ⟨a, len, cap, elems, rest, n, rfl, rfl, rfl, hb, hl, hm, hlen, hel, hsp, hns⟩
  · exact ⟨none, 0, 0, 0, [], rfl, hfu, Nat.le_refl _, Nat.zero_le _, rfl, by simp [Rows.uptoBulkAll, Rows.uptoBulk], fun i hi => by omega⟩
  · refine ⟨some a, len, cap, n, elems.map (·.1), rfl, by omega, hl, hm, by simp [hlen], by simp only [Rows.uptoBulk]; omega, fun i hi => ?_⟩
    have h1 := hel i hi
    rw [List.getElem?_eq_getElem (by omega)] at h1
    obtain ⟨cs', hc, ht'⟩ := Option.bind_eq_some_iff.1 h1
    obtain ⟨_, hcl, hat⟩ := World.cells?_some hc
    obtain ⟨b, off, spot⟩ := a
    have hsp0 : spot = none := by
      have g1 := hel 0 (by omega)
      rw [List.getElem?_eq_getElem (by omega)] at g1
      obtain ⟨ds', gc, _⟩ := Option.bind_eq_some_iff.1 g1
      obtain ⟨_, gcl, gat⟩ := World.cells?_some gc
      have h0 := gat 0 hs
      rw [List.getElem?_eq_getElem (by omega)] at h0
      have := World.cell?_spot h0
      simpa [Addr.add] using this
    subst hsp0
    have hadd : ∀ j, Addr.add ⟨b, off, none⟩ j = ⟨b, off + j, none⟩ := fun j => by unfold Addr.add; split <;> simp_all
    refine ⟨b, off, cs', elems[i], rfl, hcl, fun j hj => ?_, ht', by rw [List.getElem?_map, List.getElem?_eq_getElem (by omega)]; rfl⟩
    rw [← hat j hj, Go.Deep.add_add, hadd, Nat.add_assoc]
theorem open_strct2 {t : TypeId} {fs : Array Field} {fuel : Nat} {cs : List Value} {x : DataW H × List MemPlace} (ht : P.underlying t = some (.struct fs)) (h : DataW.trod enc P w base spare held fuel t cs = some x) :
    ∃ (n : Nat) (xs : List (DataW H × List MemPlace)), n < fuel ∧ cs.length = P.cellsOf t ∧ x.1 = .agg (xs.map (·.1)) ∧ xs.length = fs.size ∧ ∀ (i : Nat) (f : Field), fs[i]? = some f → DataW.trod enc P w base spare held n f.type ((cs.drop f.offset).take (P.cellsOf f.type)) = xs[i]? := by
  obtain ⟨xs, n, rfl, rfl, hl, hlen, hf⟩ := DataW.trod_struct ht h
  exact ⟨n, xs, by omega, hl, rfl, hlen, hf⟩
end
theorem szL_bulk {H : Type} : ∀ (L : List Tree) (D : List (DataW H)), L.length = D.length → (∀ (i : Nat) (t : Tree) (d : DataW H), L[i]? = some t → D[i]? = some d → szR (strip t) + 16 ≤ 80 * Rows.uptoBulk d) → szL (strips L) ≤ 80 * Rows.uptoBulkAll D
  | [], [], _, _ => by simp [strips, szL, Rows.uptoBulkAll]
  | [], _ :: _, h, _ => by simp at h
  | _ :: _, [], h, _ => by simp at h
  | t :: L, d :: D, hl, h => by
    have h0 := h 0 t d rfl rfl
    have h1 := szL_bulk L D (by simpa using hl) (fun i u e hu he => h (i + 1) u e (by simpa using hu) (by simpa using he))
    rw [strips, szL, Rows.uptoBulkAll]
    omega
section
variable {H : Type} {enc : TypeId × Value → H} {W : World}
theorem open_node_bulk : ∀ (fuel : Nat) (cs : List Value) (x : DataW H × List MemPlace), Trd enc W fuel 25 cs x → ∃ t : Tree, cs = t.cells.toList ∧ TreeAt W anyB t ∧ szR (strip t) + 16 ≤ 80 * Rows.uptoBulk x.1 := by
  intro fuel
  induction fuel using Nat.strongRecOn with
  | ind fuel ih =>
    intro cs x h
    obtain ⟨m, xs, hm, hcl, hx, hxl, hfd⟩ := open_strct2 Tryz.underlying25 h
    rw [show Tryz.prog.cellsOf 25 = 6 by kernel_rfl] at hcl
    obtain ⟨y0, y1, y2, y3, y4, y5, rfl⟩ := len6 (show xs.length = 6 from hxl)
    have t0 := hfd 0 _ rfl
    have t1 := hfd 1 _ rfl
    have t2 := hfd 2 _ rfl
    have t3 := hfd 3 _ rfl
    have t4 := hfd 4 _ rfl
    have t5 := hfd 5 _ rfl
    obtain ⟨k0, e0, _⟩ := open_int_at Tryz.underlying3 t0
    obtain ⟨k1, e1, _⟩ := open_int_at Tryz.underlying3 t1
    obtain ⟨s2, e2, b2, _⟩ := DataW.trod_string Tryz.underlying9 t2
    obtain ⟨s3, e3, b3, _⟩ := DataW.trod_string Tryz.underlying9 t3
    obtain ⟨k4, e4, _⟩ := open_int_at Tryz.underlying2 t4
    obtain ⟨A, len, cap, n, D, e5, hnm, hl, hmx, hDl, hDb, hi⟩ := open_row2 Tryz.underlying23 (by rw [show Tryz.prog.cellsOf 25 = 6 by kernel_rfl]; omega) t5
    rw [show Tryz.prog.cellsOf 25 = 6 by kernel_rfl] at hi
    obtain ⟨L, hlen, hR⟩ := list_of len (fun i (t : Tree) => (CellsAt W anyB A i t ∧ TreeAt W anyB t) ∧ ∃ d, D[i]? = some d ∧ szR (strip t) + 16 ≤ 80 * Rows.uptoBulk d) (fun i hin => by
      obtain ⟨b, off, cs', y, hA, hcl, hc, ht, hd⟩ := hi i hin
      obtain ⟨t, rfl, hT, hz⟩ := ih n (by omega) cs' y ht
      obtain ⟨tk, tp, tf, tx, tn, tA, tc, tL⟩ := t
      exact ⟨.mk tk tp tf tx tn tA tc tL, ⟨⟨b, off, hA, trivial, hc 0 (by omega), hc 1 (by omega), hc 2 (by omega), hc 3 (by omega), hc 4 (by omega), hc 5 (by omega)⟩, hT⟩, _, hd, hz⟩)
    subst hlen
    have hsz := szL_bulk L D hDl.symm (fun i t d ht hd => by
      obtain ⟨_, d', hd', hz⟩ := hR i t ht
      rw [hd] at hd'
      obtain rfl := Option.some.inj hd'
      exact hz)
    obtain ⟨v0, v1, v2, v3, v4, v5, rfl⟩ := len6 hcl
    simp [show Tryz.prog.cellsOf 9 = 1 by kernel_rfl, show Tryz.prog.cellsOf 3 = 1 by kernel_rfl, show Tryz.prog.cellsOf 2 = 1 by kernel_rfl, show Tryz.prog.cellsOf 23 = 1 by kernel_rfl] at e0 e1 e2 e3 e4 e5
    subst e0 e1 e2 e3 e4 e5
    refine ⟨.mk k0 k1 s2.data.toList s3.data.toList k4 A cap L, by simp [Tree.cells], ?_, ?_⟩
    · rw [TreeAt]
      exact ⟨rows_of L 0 fun k t hk => by rw [Nat.zero_add]; exact (hR k t hk).1, Nat.le_trans hl hmx⟩
    · rw [strip, szR, hx]
      simp only [List.map_cons, List.map_nil, Rows.uptoBulk, Rows.uptoBulkAll]
      have e2' : Rows.uptoBulk y2.1 = s2.data.toList.length + 1 := by rw [b2]; simp [Rows.uptoBulk]
      have e3' : Rows.uptoBulk y3.1 = s3.data.toList.length + 1 := by rw [b3]; simp [Rows.uptoBulk]
      omega
variable {base : Nat}
set_option maxRecDepth 100000 in
theorem arg_nodeb {v : Value} {d : DataW H} {p : List MemPlace} (hv : Value.okWide Tryz.prog W .any base 25 v) (h : TrdV enc W 25 v d p) (_hf : Fits Tryz.prog 25 d) :
    ∃ t : Tree, v = .agg t.cells ∧ TreeAt W anyB t ∧ szR (strip t) ≤ 80 * Rows.uptoBulk d := by
  obtain ⟨cs, rfl, _⟩ := okWide_struct Tryz.underlying25 hv
  obtain ⟨fuel, h⟩ := h
  obtain ⟨t, e, h1, h2⟩ := open_node_bulk fuel _ _ h
  have e' : cs = t.cells := by
    simp only [Value.cells] at e
    exact Array.toList_inj.1 e
  exact ⟨t, by rw [e'], h1, by simp only at h2; omega⟩
end
end Go.Proofs.YtjkmhlfjheiekaaGreatDoor

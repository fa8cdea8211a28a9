/- Arguments opened: rules, needs and credits. -/
import Derived.Test.YtjkmhlfjheiekaaGreatDoorEnv
import Derived.Test.YtjkmhlfjheiekaaGreatDoorWb
import Derived.SizedLaws
namespace Go.Proofs.YtjkmhlfjheiekaaGreatDoor
open Go Go.ChangeShapes Go.WideShapes Go.ChangeAt Go.RowKit Go.Deep

section
variable {H : Type} {enc : TypeId × Value → H} {P : Program} {w : World} {base : Nat} {spare : Nat → Bool} {held : Bool}
/-- No part is longer than memory. -/
def Fits (P : Program) (t : TypeId) (d : DataW H) : Prop := ∀ n ∈ d.weights P t, n ≤ reachBytes
theorem Fits.part {t : TypeId} {fs : Array Field} {parts : List (DataW H)} {i : Nat} {f : Field} {d : DataW H} (h : Fits P t (.agg parts)) (ht : P.underlying t = some (.struct fs)) (hf : fs[i]? = some f) (hd : parts[i]? = some d) : Fits P f.type d := by
  intro n hn
  refine h n ?_
  rw [DataW.weights, ht]
  exact DataW.weights_mem_each (j := i) (by simp [hf]) hd n hn
theorem weightsAll_mem {e : TypeId} : ∀ {l : List (DataW H)} {d : DataW H}, d ∈ l → ∀ n ∈ d.weights P e, n ∈ DataW.weightsAll P e l
  | [], _, h, _, _ => by cases h
  | x :: l, d, h, n, hn => by
    simp only [DataW.weightsAll, List.mem_append]
    rcases List.mem_cons.1 h with rfl | h
    · exact .inl hn
    · exact .inr (weightsAll_mem h n hn)
theorem Fits.elem {t e : TypeId} {l r : List (DataW H)} {d : DataW H} (h : Fits P t (.slice l r)) (ht : P.underlying t = some (.slice e)) (hd : d ∈ l) : Fits P e d := by
  intro n hn
  refine h n ?_
  rw [DataW.weights, ht]
  simp only [List.mem_cons, List.mem_append]
  exact .inr (.inl (weightsAll_mem hd n hn))
theorem Fits.len {t e : TypeId} {l r : List (DataW H)} (h : Fits P t (.slice l r)) (ht : P.underlying t = some (.slice e)) : (l.length + r.length) * P.bytesOf e ≤ reachBytes := by
  refine h _ ?_
  rw [DataW.weights, ht]
  simp
theorem Fits.str {t : TypeId} {l : List UInt8} (h : Fits P t (.lit (.string l) : DataW H)) : l.length ≤ reachBytes := by
  refine h _ ?_
  simp [DataW.weights]

theorem open_row {t e : TypeId} {fuel : Nat} {cs : List Value} {x : DataW H × List MemPlace} (ht : P.underlying t = some (.slice e)) (hs : 0 < P.cellsOf e) (h : DataW.trod enc P w base spare held fuel t cs = some x) (hw : Fits P t x.1) :
    ∃ (A : Option Addr) (len cap n : Nat), cs = [.slice A len cap] ∧ n < fuel ∧ len ≤ cap ∧ cap ≤ maxLen ∧ len * P.bytesOf e ≤ reachBytes ∧ ∀ i, i < len → ∃ (b off : Nat) (cs' : List Value) (y : DataW H × List MemPlace), A = some ⟨b, off, none⟩ ∧ cs'.length = P.cellsOf e ∧
      (∀ j, j < P.cellsOf e → w.cell? ⟨b, off + i * P.cellsOf e + j, none⟩ = cs'[j]?) ∧ DataW.trod enc P w base spare held n e cs' = some y ∧ Fits P e y.1 := by
  have hfu : 0 < fuel := by
    rcases Nat.eq_zero_or_pos fuel with h0 | h0
    · subst h0; simp [DataW.trod] at h
    · exact h0
  rcases DataW.trod_slice ht h with ⟨rfl, rfl⟩ | ⟨a, len, cap, elems, rest, n, rfl, rfl, rfl, hb, hl, hm, hlen, hel, hsp, hns⟩
  · exact ⟨none, 0, 0, 0, rfl, hfu, Nat.le_refl _, Nat.zero_le _, by simp, fun i hi => by omega⟩
  · refine ⟨some a, len, cap, n, rfl, by omega, hl, hm, ?_, fun i hi => ?_⟩
    · have := hw.len ht
      simp only [List.length_map, hlen] at this
      refine Nat.le_trans (Nat.mul_le_mul_right _ (Nat.le_add_right _ _)) this
    · have h1 := hel i hi
      rw [List.getElem?_eq_getElem (by omega)] at h1
      obtain ⟨cs', hc, ht'⟩ := Option.bind_eq_some_iff.1 h1
      obtain ⟨_, hcl, hat⟩ := World.cells?_some hc
      obtain ⟨b, off, spot⟩ := a
      have hsp0 : spot = none := by
        have g1 := hel 0 (by omega)
        rw [List.getElem?_eq_getElem (by omega)] at g1
        obtain ⟨ds', gc, _⟩ := Option.bind_eq_some_iff.1 g1
        obtain ⟨_, gcl, gat⟩ := World.cells?_some gc
        have h0 := gat 0 hs
        rw [List.getElem?_eq_getElem (by omega)] at h0
        have := World.cell?_spot h0
        simpa [Addr.add] using this
      subst hsp0
      have hadd : ∀ j, Addr.add ⟨b, off, none⟩ j = ⟨b, off + j, none⟩ := fun j => by unfold Addr.add; split <;> simp_all
      refine ⟨b, off, cs', elems[i], rfl, hcl, fun j hj => ?_, ht', hw.elem ht (by simp only [List.mem_map]; exact ⟨_, List.getElem_mem _, rfl⟩)⟩
      rw [← hat j hj, Go.Deep.add_add, hadd, Nat.add_assoc]
theorem open_strct {t : TypeId} {fs : Array Field} {fuel : Nat} {cs : List Value} {x : DataW H × List MemPlace} (ht : P.underlying t = some (.struct fs)) (h : DataW.trod enc P w base spare held fuel t cs = some x) (hw : Fits P t x.1) :
    ∃ n, n < fuel ∧ cs.length = P.cellsOf t ∧ ∀ (i : Nat) (f : Field), fs[i]? = some f → ∃ y : DataW H × List MemPlace, DataW.trod enc P w base spare held n f.type ((cs.drop f.offset).take (P.cellsOf f.type)) = some y ∧ Fits P f.type y.1 := by
  obtain ⟨xs, n, rfl, rfl, hl, hlen, hf⟩ := DataW.trod_struct ht h
  refine ⟨n, by omega, hl, fun i f hi => ?_⟩
  have hlt : i < xs.length := by rw [hlen]; exact (Array.getElem?_eq_some_iff.1 hi).1
  have h1 := hf i f hi
  rw [List.getElem?_eq_getElem hlt] at h1
  exact ⟨_, h1, hw.part ht hi (by simp [hlt])⟩
theorem open_int_at {t : TypeId} {k : IntKind} {fuel : Nat} {cs : List Value} {x : DataW H × List MemPlace} (ht : P.underlying t = some (.int k)) (h : DataW.trod enc P w base spare held fuel t cs = some x) : ∃ n, cs = [.int k n] ∧ (Lit.int k n).wf = true := by
  obtain ⟨n, e, _, hw⟩ := DataW.trod_int ht h
  exact ⟨n, e, hw⟩
theorem open_str_at {t : TypeId} {fuel : Nat} {cs : List Value} {x : DataW H × List MemPlace} (ht : P.underlying t = some .string) (h : DataW.trod enc P w base spare held fuel t cs = some x) (hw : Fits P t x.1) : ∃ s : ByteArray, cs = [.string s] ∧ s.size ≤ 140737488351232 := by
  obtain ⟨s, e, rfl, _⟩ := DataW.trod_string ht h
  have := hw.str
  exact ⟨s, e, by have e1 : s.data.toList.length = s.size := Array.length_toList; unfold reachBytes at this; omega⟩
end

theorem list_of {α : Type} (n : Nat) (R : Nat → α → Prop) (h : ∀ i, i < n → ∃ x, R i x) : ∃ l : List α, l.length = n ∧ ∀ i x, l[i]? = some x → R i x := by
  induction n with
  | zero => exact ⟨[], rfl, by simp⟩
  | succ n ih =>
    obtain ⟨l, hl, hR⟩ := ih fun i hi => h i (by omega)
    obtain ⟨x, hx⟩ := h n (by omega)
    refine ⟨l ++ [x], by simp [hl], fun i y hy => ?_⟩
    by_cases hi : i < n
    · rw [List.getElem?_append_left (by omega)] at hy; exact hR i y hy
    · have : i = n := by
        have := (List.getElem?_eq_some_iff.1 hy).1
        simp [hl] at this; omega
      subst this
      rw [List.getElem?_append_right (by omega)] at hy
      simp [hl] at hy; subst hy; exact hx
theorem bytes_back (s : ByteArray) : (⟨s.data.toList.toArray⟩ : ByteArray) = s := by rw [Array.toArray_toList]
theorem len6 {α : Type} {l : List α} (h : l.length = 6) : ∃ a b c d e f, l = [a, b, c, d, e, f] := by
  match l, h with
  | [a, b, c, d, e, f], _ => exact ⟨a, b, c, d, e, f, rfl⟩
theorem len8 {α : Type} {l : List α} (h : l.length = 8) : ∃ a b c d e f i j, l = [a, b, c, d, e, f, i, j] := by
  match l, h with
  | [a, b, c, d, e, f, i, j], _ => exact ⟨a, b, c, d, e, f, i, j, rfl⟩
theorem len18 {α : Type} {l : List α} (h : l.length = 18) : ∃ a b c d e f g i j k m n o p q r s t, l = [a, b, c, d, e, f, g, i, j, k, m, n, o, p, q, r, s, t] := by
  match l, h with
  | [a, b, c, d, e, f, g, i, j, k, m, n, o, p, q, r, s, t], _ => exact ⟨a, b, c, d, e, f, g, i, j, k, m, n, o, p, q, r, s, t, rfl⟩
abbrev anyB : Nat → Prop := fun _ => True
section
variable {H : Type} {enc : TypeId × Value → H} {W : World}
abbrev Trd (enc : TypeId × Value → H) (W : World) (fuel : Nat) (t : TypeId) (cs : List Value) (x : DataW H × List MemPlace) : Prop := DataW.trod enc Tryz.prog W 0 (fun _ => true) true fuel t cs = some x
theorem rows_of {A : Option Addr} : ∀ (L : List Tree) (j : Nat), (∀ k t, L[k]? = some t → CellsAt W anyB A (j + k) t ∧ TreeAt W anyB t) → RowsAt W anyB A j L
  | [], _, _ => by rw [RowsAt]; trivial
  | t :: L, j, h => by
    rw [RowsAt]
    have h0 := h 0 t rfl
    refine ⟨h0.1, h0.2, rows_of L (j + 1) fun k u hk => ?_⟩
    have := h (k + 1) u (by simpa using hk)
    rw [show j + 1 + k = j + (k + 1) by omega]
    exact this
theorem open_node : ∀ (fuel : Nat) (cs : List Value) (x : DataW H × List MemPlace), Trd enc W fuel 25 cs x → Fits Tryz.prog 25 x.1 → ∃ t : Tree, cs = t.cells.toList ∧ TreeAt W anyB t := by
  intro fuel
  induction fuel using Nat.strongRecOn with
  | ind fuel ih =>
    intro cs x h hw
    obtain ⟨m, hm, hcl, hfd⟩ := open_strct Tryz.underlying25 h hw
    rw [show Tryz.prog.cellsOf 25 = 6 by kernel_rfl] at hcl
    obtain ⟨y0, t0, f0⟩ := hfd 0 _ rfl
    obtain ⟨y1, t1, f1⟩ := hfd 1 _ rfl
    obtain ⟨y2, t2, f2⟩ := hfd 2 _ rfl
    obtain ⟨y3, t3, f3⟩ := hfd 3 _ rfl
    obtain ⟨y4, t4, f4⟩ := hfd 4 _ rfl
    obtain ⟨y5, t5, f5⟩ := hfd 5 _ rfl
    obtain ⟨k0, e0, _⟩ := open_int_at Tryz.underlying3 t0
    obtain ⟨k1, e1, _⟩ := open_int_at Tryz.underlying3 t1
    obtain ⟨s2, e2, _⟩ := open_str_at Tryz.underlying9 t2 f2
    obtain ⟨s3, e3, _⟩ := open_str_at Tryz.underlying9 t3 f3
    obtain ⟨k4, e4, _⟩ := open_int_at Tryz.underlying2 t4
    obtain ⟨A, len, cap, n, e5, hnm, hl, hmx, _, hi⟩ := open_row Tryz.underlying23 (by rw [show Tryz.prog.cellsOf 25 = 6 by kernel_rfl]; omega) t5 f5
    rw [show Tryz.prog.cellsOf 25 = 6 by kernel_rfl] at hi
    obtain ⟨L, hlen, hR⟩ := list_of len (fun i (t : Tree) => CellsAt W anyB A i t ∧ TreeAt W anyB t) (fun i hin => by
      obtain ⟨b, off, cs', y, hA, hcl, hc, ht, hf⟩ := hi i hin
      obtain ⟨t, rfl, hT⟩ := ih n (by omega) cs' y ht hf
      obtain ⟨tk, tp, tf, tx, tn, tA, tc, tL⟩ := t
      exact ⟨.mk tk tp tf tx tn tA tc tL, ⟨b, off, hA, trivial, hc 0 (by omega), hc 1 (by omega), hc 2 (by omega), hc 3 (by omega), hc 4 (by omega), hc 5 (by omega)⟩, hT⟩)
    subst hlen
    obtain ⟨v0, v1, v2, v3, v4, v5, rfl⟩ := len6 hcl
    simp [show Tryz.prog.cellsOf 9 = 1 by kernel_rfl, show Tryz.prog.cellsOf 3 = 1 by kernel_rfl, show Tryz.prog.cellsOf 2 = 1 by kernel_rfl, show Tryz.prog.cellsOf 23 = 1 by kernel_rfl] at e0 e1 e2 e3 e4 e5
    subst e0 e1 e2 e3 e4 e5
    refine ⟨.mk k0 k1 s2.data.toList s3.data.toList k4 A cap L, by simp [Tree.cells], ?_⟩
    rw [TreeAt]
    exact ⟨rows_of L 0 fun k t hk => by rw [Nat.zero_add]; exact hR k t hk, Nat.le_trans hl hmx⟩
theorem open_nds {fuel : Nat} {cs : List Value} {x : DataW H × List MemPlace} (h : Trd enc W fuel 39 cs x) (hw : Fits Tryz.prog 39 x.1) :
    ∃ (A : Option Addr) (c : Nat) (l : List Nd), cs = [.slice A l.length c] ∧ l.length ≤ maxLen ∧ NdsAt W anyB A l := by
  obtain ⟨A, len, cap, n, rfl, _, hl, hm, _, hi⟩ := open_row Tryz.underlying39 (by rw [show Tryz.prog.cellsOf 74 = 8 by kernel_rfl]; omega) h hw
  rw [show Tryz.prog.cellsOf 74 = 8 by kernel_rfl] at hi
  obtain ⟨l, hlen, hR⟩ := list_of len (fun k (x : Nd) => ∃ b off, A = some ⟨b, off, none⟩ ∧ anyB b ∧ (∀ i u, x.cells[i]? = some u → W.cell? ⟨b, off + k * 8 + i, none⟩ = some u) ∧ TreeAt W anyB x.rule) (fun i hin => by
    obtain ⟨b, off, cs', y, hA, hcl, hc, ht, hf⟩ := hi i hin
    obtain ⟨m, _, _, hfd⟩ := open_strct Tryz.underlying74 ht hf
    obtain ⟨y0, t0, f0⟩ := hfd 0 _ rfl
    obtain ⟨y1, t1, f1⟩ := hfd 1 _ rfl
    obtain ⟨y2, t2, f2⟩ := hfd 2 _ rfl
    obtain ⟨k0, e0, _⟩ := open_int_at Tryz.underlying3 t0
    obtain ⟨k1, e1, _⟩ := open_int_at Tryz.underlying3 t1
    obtain ⟨t, e2, hT⟩ := open_node _ _ _ t2 f2
    obtain ⟨v0, v1, v2, v3, v4, v5, v6, v7, rfl⟩ := len8 hcl
    simp [show Tryz.prog.cellsOf 3 = 1 by kernel_rfl, show Tryz.prog.cellsOf 25 = 6 by kernel_rfl] at e0 e1 e2
    subst e0 e1
    refine ⟨⟨k0, k1, t⟩, b, off, hA, trivial, fun j u hu => ?_, hT⟩
    have hj : j < 8 := by
      have := (List.getElem?_eq_some_iff.1 hu).1
      rwa [Nd.cells_len] at this
    rw [hc j hj]
    rw [← hu]
    unfold Nd.cells
    rw [← e2])
  subst hlen
  exact ⟨A, cap, l, rfl, Nat.le_trans hl hm, fun k x hk => hR k x hk⟩
theorem fits_of {P : Program} {ts : List TypeId} {l : List (DataW H)} (hz : (DataW.weightsEach P ts l).all (· ≤ reachBytes) = true) {j : Nat} {t : TypeId} {d : DataW H} (ht : ts[j]? = some t) (hd : l[j]? = some d) : Fits P t d := fun n hn => by
  have := List.all_eq_true.1 hz n (DataW.weights_mem_each ht hd n hn)
  simpa using this
variable {base : Nat}
abbrev TrdV (enc : TypeId × Value → H) (W : World) (t : TypeId) (v : Value) (d : DataW H) (p : List MemPlace) : Prop := DataW.Trod enc Tryz.prog W 0 (fun _ => true) true t v d p
set_option maxRecDepth 100000 in
theorem arg_node {v : Value} {d : DataW H} {p : List MemPlace} (hv : Value.okWide Tryz.prog W .any base 25 v) (h : TrdV enc W 25 v d p) (hf : Fits Tryz.prog 25 d) :
    ∃ t : Tree, v = .agg t.cells ∧ TreeAt W anyB t := by
  obtain ⟨cs, rfl, _⟩ := okWide_struct Tryz.underlying25 hv
  obtain ⟨fuel, h⟩ := h
  obtain ⟨t, e, h1⟩ := open_node fuel _ _ h hf
  have e' : cs = t.cells := by
    simp only [Value.cells] at e
    exact Array.toList_inj.1 e
  exact ⟨t, by rw [e'], h1⟩
set_option maxRecDepth 100000 in
theorem arg_credit {v : Value} {d : DataW H} {p : List MemPlace} (hv : Value.okWide Tryz.prog W .any base 41 v) (h : TrdV enc W 41 v d p) (hf : Fits Tryz.prog 41 d) :
    ∃ (c : Crd) (A : Option Addr) (cap : Nat) (l : List Nd), v = .agg (c.cells (.slice A l.length cap)) ∧ l.length ≤ maxLen ∧ NdsAt W anyB A l := by
  obtain ⟨cs, rfl, _⟩ := okWide_struct Tryz.underlying41 hv
  obtain ⟨fuel, h⟩ := h
  simp only [Value.cells] at h
  obtain ⟨m, _, hcl, hfd⟩ := open_strct Tryz.underlying41 h hf
  rw [show Tryz.prog.cellsOf 41 = 18 by kernel_rfl] at hcl
  have c9 : Tryz.prog.cellsOf 9 = 1 := by kernel_rfl
  have c3 : Tryz.prog.cellsOf 3 = 1 := by kernel_rfl
  have c4 : Tryz.prog.cellsOf 4 = 1 := by kernel_rfl
  have c2 : Tryz.prog.cellsOf 2 = 1 := by kernel_rfl
  have c38 : Tryz.prog.cellsOf 38 = 2 := by kernel_rfl
  have c39 : Tryz.prog.cellsOf 39 = 1 := by kernel_rfl
  obtain ⟨y0, t0, f0⟩ := hfd 0 _ rfl
  obtain ⟨y1, t1, f1⟩ := hfd 1 _ rfl
  obtain ⟨y2, t2, f2⟩ := hfd 2 _ rfl
  obtain ⟨y3, t3, f3⟩ := hfd 3 _ rfl
  obtain ⟨y4, t4, f4⟩ := hfd 4 _ rfl
  obtain ⟨y5, t5, f5⟩ := hfd 5 _ rfl
  obtain ⟨y6, t6, f6⟩ := hfd 6 _ rfl
  obtain ⟨y7, t7, f7⟩ := hfd 7 _ rfl
  obtain ⟨y8, t8, f8⟩ := hfd 8 _ rfl
  obtain ⟨y9, t9, f9⟩ := hfd 9 _ rfl
  obtain ⟨y10, t10, f10⟩ := hfd 10 _ rfl
  obtain ⟨y11, t11, f11⟩ := hfd 11 _ rfl
  obtain ⟨y12, t12, f12⟩ := hfd 12 _ rfl
  obtain ⟨y13, t13, f13⟩ := hfd 13 _ rfl
  obtain ⟨y14, t14, f14⟩ := hfd 14 _ rfl
  obtain ⟨y15, t15, f15⟩ := hfd 15 _ rfl
  obtain ⟨y16, t16, f16⟩ := hfd 16 _ rfl
  obtain ⟨s0, e0, _⟩ := open_str_at Tryz.underlying9 t0 f0
  obtain ⟨s1, e1, _⟩ := open_str_at Tryz.underlying9 t1 f1
  obtain ⟨s2, e2, _⟩ := open_str_at Tryz.underlying9 t2 f2
  obtain ⟨s3, e3, _⟩ := open_str_at Tryz.underlying9 t3 f3
  obtain ⟨s4, e4, _⟩ := open_str_at Tryz.underlying9 t4 f4
  obtain ⟨s5, e5, _⟩ := open_str_at Tryz.underlying9 t5 f5
  obtain ⟨s6, e6, _⟩ := open_str_at Tryz.underlying9 t6 f6
  obtain ⟨m7, _, hcl7, hfd7⟩ := open_strct Tryz.underlying38 t7 f7
  obtain ⟨z0, u0, g0⟩ := hfd7 0 _ rfl
  obtain ⟨z1, u1, g1⟩ := hfd7 1 _ rfl
  obtain ⟨s7, e7, _⟩ := open_str_at Tryz.underlying9 u0 g0
  obtain ⟨n7, e7', _⟩ := open_int_at Tryz.underlying2 u1
  obtain ⟨n8, e8, _⟩ := open_int_at Tryz.underlying3 t8
  obtain ⟨n9, e9, _⟩ := open_int_at Tryz.underlying3 t9
  obtain ⟨n10, e10, _⟩ := open_int_at Tryz.underlying3 t10
  obtain ⟨n11, e11, _⟩ := open_int_at Tryz.underlying3 t11
  obtain ⟨n12, e12, _⟩ := open_int_at Tryz.underlying3 t12
  obtain ⟨n13, e13, _⟩ := open_int_at Tryz.underlying3 t13
  obtain ⟨n14, e14, _⟩ := DataW.trod_bool Tryz.underlying4 t14
  obtain ⟨n15, e15, _⟩ := DataW.trod_bool Tryz.underlying4 t15
  obtain ⟨A, cap, l, e16, hl, hN⟩ := open_nds t16 f16
  obtain ⟨a0, a1, a2, a3, a4, a5, a6, a7, a8, a9, a10, a11, a12, a13, a14, a15, a16, a17, hcs⟩ := len18 hcl
  rw [hcs] at e0 e1 e2 e3 e4 e5 e6 e7 e7' e8 e9 e10 e11 e12 e13 e14 e15 e16
  simp [c9, c3, c4, c2, c38, c39] at e0 e1 e2 e3 e4 e5 e6 e7 e7' e8 e9 e10 e11 e12 e13 e14 e15 e16
  subst e0 e1 e2 e3 e4 e5 e6 e7 e7' e8 e9 e10 e11 e12 e13 e14 e15 e16
  refine ⟨⟨s0.data.toList, s1.data.toList, s2.data.toList, s3.data.toList, s4.data.toList, s5.data.toList, s6.data.toList, s7.data.toList, n7, n8, n9, n10, n11, n12, n13, n14, n15⟩, A, cap, l, ?_, hl, hN⟩
  rw [show cs = cs.toList.toArray by simp, hcs]
end
end Go.Proofs.YtjkmhlfjheiekaaGreatDoor

/- The law CoreGone, walked. -/
import Derived.StillTailTactics
import Derived.Test.YtdjmckjbibfecaaGreatDoorFv
import Derived.Test.YtdjmckjbibfecaaGreatDoorIc
import Derived.Test.YtdjmckjbibfecaaGreatDoorMf
import Derived.Test.YtdjmckjbibfecaaGreatDoorMi
import Derived.Test.YtdjmckjbibfecaaGreatDoorOb
import Derived.Test.YtdjmckjbibfecaaGreatDoorVj
namespace Go.Proofs.YtdjmckjbibfecaaGreatDoor
open Go Go.ChangeShapes Go.WideShapes Go.ChangeAt Go.RowKit Go.Deep

section
variable {H : Type} {enc : TypeId × Value → H} {W : World} {base : Nat}
theorem fits_of {P : Program} {ts : List TypeId} {l : List (DataW H)} (hz : (DataW.weightsEach P ts l).all (· ≤ reachBytes) = true) {j : Nat} {t : TypeId} {d : DataW H} (ht : ts[j]? = some t) (hd : l[j]? = some d) : Fits P t d := fun n hn => by
  have := List.all_eq_true.1 hz n (DataW.weights_mem_each ht hd n hn)
  simpa using this
abbrev TrdV (enc : TypeId × Value → H) (W : World) (t : TypeId) (v : Value) (d : DataW H) (p : List MemPlace) : Prop := DataW.Trod enc Tryz.prog W 0 (fun _ => true) true t v d p
set_option maxRecDepth 100000 in
theorem arg_docs {v : Value} {d : DataW H} {p : List MemPlace} (hv : Value.okWide Tryz.prog W .any base 25 v) (h : TrdV enc W 25 v d p) (hf : Fits Tryz.prog 25 d) :
    ∃ (A : Option Addr) (c : Nat) (l : List Pap), v = .slice A l.length c ∧ l.length ≤ maxLen ∧ DocsAt W A l ∧ LongD l := by
  obtain ⟨A, n, c, rfl⟩ := okWide_slice Tryz.underlying25 hv
  obtain ⟨fuel, h⟩ := h
  obtain ⟨A', c', l, e, h1, h2, h3⟩ := open_docs h hf
  simp [Value.cells] at e
  obtain ⟨rfl, rfl, rfl⟩ := e
  exact ⟨A, c, l, rfl, h1, h2, h3⟩
end
end Go.Proofs.YtdjmckjbibfecaaGreatDoor
namespace Go.Proofs.YtdjmckjbibfecaaGreatDoor
open Go Go.ChangeShapes Go.WideShapes Go.ChangeAt Go.RowKit Go.Deep

theorem open_faults {H : Type} {enc : TypeId × Value → H} {W : World} {A : Option Addr} {n c : Nat} {d : DataW H} {p : List MemPlace} (h : DataW.Trod enc Tryz.prog W 0 (fun _ => true) true 47 (.slice A n c) d p) :
    ∃ l : List Flt, l.length = n ∧ n ≤ c ∧ c ≤ maxLen ∧ FaultsAt W A l ∧ ∀ x ∈ l, x.fits := by
  obtain ⟨fuel, hf⟩ := h
  rcases open_slice_fields Tryz.underlying47 Tryz.underlying54 (by kernel_rfl) (by kernel_rfl) hf with ⟨hcs, _⟩ | ⟨a, len, cap, m, D, Pl, hcs, _, hl, hm, hmm, _, hi⟩
  · simp [Value.cells] at hcs
    obtain ⟨rfl, rfl, rfl⟩ := hcs
    exact ⟨[], rfl, Nat.le_refl _, Nat.zero_le _, by intro k x hk; simp at hk, by simp⟩
  · simp [Value.cells] at hcs
    obtain ⟨rfl, rfl, rfl⟩ := hcs
    simp only [if_true] at hmm
    subst hmm
    obtain ⟨l, hlen, hR⟩ := list_of n (fun i (x : Flt) => W.cell? (a.add (i * 4)) = some (.int .i64 x.paper) ∧ W.cell? (a.add (i * 4 + 1)) = some (.int .i64 x.kind) ∧ W.cell? (a.add (i * 4 + 2)) = some (.string x.field) ∧ W.cell? (a.add (i * 4 + 3)) = some (.int .i64 x.why) ∧ x.fits) (fun i hin => by
      obtain ⟨ys, k, _, _, hys, hfd⟩ := hi i (by omega)
      obtain ⟨v0, y0, hc0, _, ht0⟩ := hfd 0 _ rfl
      obtain ⟨v1, y1, hc1, _, ht1⟩ := hfd 1 _ rfl
      obtain ⟨v2, y2, hc2, _, ht2⟩ := hfd 2 _ rfl
      obtain ⟨v3, y3, hc3, _, ht3⟩ := hfd 3 _ rfl
      obtain ⟨i0, e0, _, g0⟩ := DataW.trod_int Tryz.underlying3 ht0
      obtain ⟨i1, e1, _, g1⟩ := DataW.trod_int Tryz.underlying3 ht1
      obtain ⟨s2, e2, _, g2⟩ := DataW.trod_string Tryz.underlying9 ht2
      obtain ⟨i3, e3, _, g3⟩ := DataW.trod_int Tryz.underlying3 ht3
      simp at e0 e1 e2 e3
      subst e0 e1 e2 e3
      exact ⟨⟨i0, i1, s2, i3⟩, by simpa using hc0, by simpa using hc1, by simpa using hc2, by simpa using hc3, g0, g1, g2, g3⟩)
    refine ⟨l, hlen, hl, hm, fun k x hk => ?_, fun x hx => ?_⟩
    · obtain ⟨h0, h1, h2, h3, _⟩ := hR k x hk
      obtain ⟨x0, hx0⟩ : ∃ x0, l[0]? = some x0 := ⟨_, List.getElem?_eq_getElem (by have := (List.getElem?_eq_some_iff.1 hk).1; omega)⟩
      have hsp := World.cell?_spot (hR 0 x0 hx0).1
      obtain ⟨b, off, spot⟩ := a
      have hspot : spot = none := by simpa [Addr.add] using hsp
      subst hspot
      have hadd : ∀ j, Addr.add ⟨b, off, none⟩ j = ⟨b, off + j, none⟩ := fun j => by unfold Addr.add; split <;> simp_all
      rw [hadd] at h0 h1 h2 h3
      exact ⟨b, off, rfl, h0, h1, h2, h3⟩
    · obtain ⟨k, hk⟩ := List.mem_iff_getElem?.1 hx
      exact (hR k x hk).2.2.2.2
theorem alike_of {W : World} {L : List (String × DataW Unit)} (hl : L.filter (fun x => x.1 == "supercargo/examine.alike") = [("supercargo/examine.alike", Rows.laid_supercargo_examine_alike)]) (h : laidMetH Tryz.prog L W) : AlikeAt W := by
  have h1 := laidMetH.filter (fun x => x.1 == "supercargo/examine.alike") h
  rw [hl, MakeChecks.laidMetH_plain _ _ _ (by kernel_rfl)] at h1
  exact strtab (t := 143) (e := 9) (n := 6) [[115, 101, 108, 108, 101, 114], [102, 114, 111, 109], [116, 111], [99, 117, 114, 114, 101, 110, 99, 121], [98, 111, 120, 101, 115], [109, 97, 114, 107, 115]] (by kernel_rfl) (by kernel_rfl) Tryz.underlying143 Tryz.underlying9 (by kernel_rfl) rfl h1
section
variable {H : Type} {enc : TypeId × Value → H} {W : World} {base : Nat}
set_option maxRecDepth 100000 in
theorem arg_faults {v : Value} {d : DataW H} {p : List MemPlace} (hv : Value.okWide Tryz.prog W .any base 47 v) (h : TrdV enc W 47 v d p) (_hf : Fits Tryz.prog 47 d) :
    ∃ (A : Option Addr) (c : Nat) (l : List Flt), v = .slice A l.length c ∧ l.length ≤ maxLen ∧ FaultsAt W A l ∧ ∀ x ∈ l, x.fits := by
  obtain ⟨A, n, c, rfl⟩ := okWide_slice Tryz.underlying47 hv
  obtain ⟨l, rfl, h1, h2, h3, h4⟩ := open_faults h
  exact ⟨A, c, l, rfl, Nat.le_trans h1 h2, h3, h4⟩
theorem len18 {α : Type} {l : List α} (h : l.length = 18) : ∃ a b c d e f g i j k m n o p q r s t, l = [a, b, c, d, e, f, g, i, j, k, m, n, o, p, q, r, s, t] := by
  match l, h with
  | [a, b, c, d, e, f, g, i, j, k, m, n, o, p, q, r, s, t], _ => exact ⟨a, b, c, d, e, f, g, i, j, k, m, n, o, p, q, r, s, t, rfl⟩
set_option maxRecDepth 100000 in
theorem arg_credit {v : Value} {d : DataW H} {p : List MemPlace} (hv : Value.okWide Tryz.prog W .any base 46 v) (h : TrdV enc W 46 v d p) (hf : Fits Tryz.prog 46 d) :
    ∃ (c : Crd) (A : Option Addr) (cap : Nat) (l : List Nd), v = .agg (c.cells (.slice A l.length cap)) ∧ c.okC ∧ l.length ≤ maxLen ∧ NdsAt W A l := by
  obtain ⟨cs, rfl, _⟩ := okWide_struct Tryz.underlying46 hv
  obtain ⟨fuel, h⟩ := h
  simp only [Value.cells] at h
  obtain ⟨m, _, hcl, hfd⟩ := open_strct Tryz.underlying46 h hf
  rw [show Tryz.prog.cellsOf 46 = 18 by kernel_rfl] at hcl
  have c9 : Tryz.prog.cellsOf 9 = 1 := by kernel_rfl
  have c3 : Tryz.prog.cellsOf 3 = 1 := by kernel_rfl
  have c4 : Tryz.prog.cellsOf 4 = 1 := by kernel_rfl
  have c2 : Tryz.prog.cellsOf 2 = 1 := by kernel_rfl
  have c29 : Tryz.prog.cellsOf 43 = 2 := by kernel_rfl
  have c30 : Tryz.prog.cellsOf 44 = 1 := by kernel_rfl
  obtain ⟨y0, t0, f0⟩ := hfd 0 _ rfl
  obtain ⟨y1, t1, f1⟩ := hfd 1 _ rfl
  obtain ⟨y2, t2, f2⟩ := hfd 2 _ rfl
  obtain ⟨y3, t3, f3⟩ := hfd 3 _ rfl
  obtain ⟨y4, t4, f4⟩ := hfd 4 _ rfl
  obtain ⟨y5, t5, f5⟩ := hfd 5 _ rfl
  obtain ⟨y6, t6, f6⟩ := hfd 6 _ rfl
  obtain ⟨y7, t7, f7⟩ := hfd 7 _ rfl
  obtain ⟨y8, t8, f8⟩ := hfd 8 _ rfl
  obtain ⟨y9, t9, f9⟩ := hfd 9 _ rfl
  obtain ⟨y10, t10, f10⟩ := hfd 10 _ rfl
  obtain ⟨y11, t11, f11⟩ := hfd 11 _ rfl
  obtain ⟨y12, t12, f12⟩ := hfd 12 _ rfl
  obtain ⟨y13, t13, f13⟩ := hfd 13 _ rfl
  obtain ⟨y14, t14, f14⟩ := hfd 14 _ rfl
  obtain ⟨y15, t15, f15⟩ := hfd 15 _ rfl
  obtain ⟨y16, t16, f16⟩ := hfd 16 _ rfl
  obtain ⟨s0, e0, _⟩ := open_str_at Tryz.underlying9 t0 f0
  obtain ⟨s1, e1, q1⟩ := open_str_at Tryz.underlying9 t1 f1
  obtain ⟨s2, e2, q2⟩ := open_str_at Tryz.underlying9 t2 f2
  obtain ⟨s3, e3, _⟩ := open_str_at Tryz.underlying9 t3 f3
  obtain ⟨s4, e4, _⟩ := open_str_at Tryz.underlying9 t4 f4
  obtain ⟨s5, e5, _⟩ := open_str_at Tryz.underlying9 t5 f5
  obtain ⟨s6, e6, _⟩ := open_str_at Tryz.underlying9 t6 f6
  obtain ⟨m7, _, hcl7, hfd7⟩ := open_strct Tryz.underlying43 t7 f7
  obtain ⟨z0, u0, g0⟩ := hfd7 0 _ rfl
  obtain ⟨z1, u1, g1⟩ := hfd7 1 _ rfl
  obtain ⟨s7, e7, q7⟩ := open_str_at Tryz.underlying9 u0 g0
  obtain ⟨n7, e7', b7⟩ := open_int_at Tryz.underlying2 u1
  obtain ⟨n8, e8, b8⟩ := open_int_at Tryz.underlying3 t8
  obtain ⟨n9, e9, b9⟩ := open_int_at Tryz.underlying3 t9
  obtain ⟨n10, e10, b10⟩ := open_int_at Tryz.underlying3 t10
  obtain ⟨n11, e11, b11⟩ := open_int_at Tryz.underlying3 t11
  obtain ⟨n12, e12, b12⟩ := open_int_at Tryz.underlying3 t12
  obtain ⟨n13, e13, b13⟩ := open_int_at Tryz.underlying3 t13
  obtain ⟨n14, e14, _⟩ := DataW.trod_bool Tryz.underlying4 t14
  obtain ⟨n15, e15, _⟩ := DataW.trod_bool Tryz.underlying4 t15
  obtain ⟨A, cap, l, e16, hl, hN⟩ := open_nds t16 f16
  obtain ⟨a0, a1, a2, a3, a4, a5, a6, a7, a8, a9, a10, a11, a12, a13, a14, a15, a16, a17, hcs⟩ := len18 hcl
  rw [hcs] at e0 e1 e2 e3 e4 e5 e6 e7 e7' e8 e9 e10 e11 e12 e13 e14 e15 e16
  simp [c9, c3, c4, c2, c29, c30] at e0 e1 e2 e3 e4 e5 e6 e7 e7' e8 e9 e10 e11 e12 e13 e14 e15 e16
  subst e0 e1 e2 e3 e4 e5 e6 e7 e7' e8 e9 e10 e11 e12 e13 e14 e15 e16
  refine ⟨⟨s0, s1, s2, s3, s4, s5, s6, s7, n7, n8, n9, n10, n11, n12, n13, n14, n15⟩, A, cap, l, ?_, ⟨i64_of b7, i64_of b8, i64_of b9, i64_of b10, i64_of b11, i64_of b12, q1, q2, q7⟩, hl, hN⟩
  rw [show cs = cs.toList.toArray by simp, hcs]
end
end Go.Proofs.YtdjmckjbibfecaaGreatDoor
namespace Go.Proofs.YtdjmckjbibfecaaGreatDoor
open Go Go.RowKit Go.BigFrame Go.Maps

theorem few_fields {needs : List Nd} {docs : List Pap} (h : fewB needs docs = true) : ∀ x ∈ docs, x.fields.length ≤ 1000000 := by
  intro d hd
  unfold fewB at h
  simp only [Bool.and_eq_true, decide_eq_true_eq] at h
  have := List.all_eq_true.1 h.2 d hd
  simp only [Bool.and_eq_true, decide_eq_true_eq] at this
  omega
end Go.Proofs.YtdjmckjbibfecaaGreatDoor
namespace Go.Proofs.YtdjmckjbibfecaaGreatDoor
open Go Go.RowKit Go.BigFrame Go.Maps

/-- The row of failing parts, while a rule's own parts are read. -/
structure FlS (w W : World) (C : Array Value) (A1 : Option Addr) (P : List Tree) (v : Value) (n : Nat) (L : List Tree) : Prop where
  below : Below w.heap.size w W
  row : W.ownsRow w.heap.size 24 6 v n (tcells L)
  cred : Blk W w.heap.size 46 C
  parts : ∀ r t, P[r]? = some t → CellsAt W A1 r t
  off : P ≠ [] → ∀ b o, A1 = some ⟨b, o, none⟩ → v.ownBlock ≠ some b
theorem cellsAt_in {W : World} {A1 : Option Addr} {r : Nat} {t : Tree} (h : CellsAt W A1 r t) : ∃ b o, A1 = some ⟨b, o, none⟩ ∧ b < W.heap.size := by
  obtain ⟨k, p, f, x, n, A, c, L⟩ := t
  obtain ⟨b, o, e, h0, _⟩ := h
  exact ⟨b, o, e, World.block_lt_of_cell? W _ h0⟩
theorem cellsAt_far {W W' : World} {A1 : Option Addr} {r : Nat} {t : Tree} {g : Option Nat} (h : CellsAt W A1 r t) (hg : W.grownBy W' g) (hne : ∀ b o, A1 = some ⟨b, o, none⟩ → g ≠ some b) : CellsAt W' A1 r t := by
  obtain ⟨k, p, f, x, n, A, c, L⟩ := t
  obtain ⟨b, o, e, h0, h1, h2, h3, h4, h5⟩ := h
  have hlt := World.block_lt_of_cell? W _ h0
  have hk : ∀ q : Addr, q.block = b → W'.cell? q = W.cell? q := fun q hq => hg.cell_far q (by rw [hq]; exact hlt) (by rw [hq]; exact fun e9 => hne b o e e9.symm)
  exact ⟨b, o, e, by rw [hk _ rfl]; exact h0, by rw [hk _ rfl]; exact h1, by rw [hk _ rfl]; exact h2, by rw [hk _ rfl]; exact h3, by rw [hk _ rfl]; exact h4, by rw [hk _ rfl]; exact h5⟩
theorem FlS.on {w W W' : World} {C : Array Value} {A1 : Option Addr} {P L : List Tree} {v : Value} {n : Nat} (h : FlS w W C A1 P v n L) (hb : Below W.heap.size W W') : FlS w W' C A1 P v n L :=
  ⟨h.below.trans (hb.mono h.below.size), own_below h.row hb, h.cred.below hb h.cred.lt, fun r t ht => (h.parts r t ht).below hb, h.off⟩
theorem FlS.put {w W W' : World} {C : Array Value} {A1 : Option Addr} {P L L' : List Tree} {v v' : Value} {n n' : Nat} (h : FlS w W C A1 P v n L) (hg : W.grownBy W' v.ownBlock) (hv : v'.ownBlock = v.ownBlock ∨ v'.ownBlock = some W.heap.size) (ho : W'.ownsRow w.heap.size 24 6 v' n' (tcells L')) : FlS w W' C A1 P v' n' L' := by
  refine ⟨h.below.grown hg h.below.size (fun j hj => (h.row.lt j hj).1), ho, Blk.kept h.cred hg (own_blk_ne h.row h.cred (by decide)), fun r t ht => ?_, fun hne b o e => ?_⟩
  · exact cellsAt_far (h.parts r t ht) hg fun b o e => h.off (by rintro rfl; simp at ht) b o e
  · rcases hv with e1 | e1
    · rw [e1]; exact h.off hne b o e
    · rw [e1]
      obtain ⟨x, hx⟩ : ∃ x, P[0]? = some x := ⟨_, List.getElem?_eq_getElem (List.length_pos_iff.2 hne)⟩
      obtain ⟨b', o', e', hlt⟩ := cellsAt_in (h.parts 0 x hx)
      rw [e] at e'
      simp only [Option.some.injEq, Addr.mk.injEq, and_true] at e'
      obtain ⟨rfl, rfl⟩ := e'
      intro h9
      injection h9 with h9
      omega
theorem failT_snoc {docs : List Pap} {d : Pap} {P : List Tree} {k : Nat} {t : Tree} (h : P[k]? = some t) : failT docs d (P.take (k + 1)) = failT docs d (P.take k) ++ (if holdsT docs d t = 0 then [] else [t]) := by
  unfold failT
  rw [List.take_add_one, h, List.filter_append]
  refine congrArg _ ?_
  by_cases h0 : holdsT docs d t = 0 <;> simp [h0]
set_option maxRecDepth 100000 in
set_option maxHeartbeats 6400000 in
theorem failR_any (C : Array Value) (nA : Option Addr) (nl nc : Nat) (needs : List Nd) (hC17 : Hid (C[17]? = some (.slice nA nl nc))) (hnl : Hid (needs.length = nl)) (A : Option Addr) (nn cc : Nat) (docs : List Pap) (a : Nat) (d : Pap) (hd : Hid (docs[a]? = some d)) (w : World)
    (hN : Hid (NdsAt w nA needs)) (hR : Hid (Room w A nn docs)) (hSm : Hid (∀ x ∈ needs, SmallT x.rule)) (hFP : Hid (FewParts needs)) :
    Calls Tryz.prog 69 #[.agg C, .slice A nn cc, .int .i64 (a : Int)] w fun e w' => ∃ v, e = .returned v ∧ w'.ownsRow w.heap.size 24 6 v (failL needs docs d).length (tcells (failL needs docs d)) ∧ Below w.heap.size w w' := by
  obtain ⟨iN, iNi, iN0, iN1, iN2⟩ := info_parts Tryz.info24
  have hat := Lib.hid hR.out.at_
  have hnl12 : nl ≤ 12 := by have := hFP.out.1; have := hnl.out; omega
  have hlt9 : a < nn := by have := (List.getElem?_eq_some_iff.1 hd.out).1; have := hR.out.len; omega
  have hnn9 := hR.out.most
  obtain ⟨w1, hw1⟩ : ∃ X, Hid ((w.alloc (.cells C 46)).alloc (.cells #[] 24) = X) := ⟨_, rfl⟩
  have hs1 : (w.alloc (.cells C 46)).heap.size = w.heap.size + 1 := by simp
  have hK1 : Hid (Blk w1 w.heap.size 46 C) := by rw [← hw1.out]; exact Lib.hid ((Blk.new _ _ _).alloc _)
  have ho1 : Hid (w1.ownsRow w.heap.size 24 6 (.slice (some ⟨w.heap.size + 1, 0, none⟩) 0 0) 0 (tcells [])) := by
    rw [← hw1.out, ← hs1]
    exact Lib.hid (own_mono (own_new _ 24 6) (by simp))
  have hb1 : Hid (Below w.heap.size w w1) := by
    rw [← hw1.out]
    have h1 := (Below.refl w.heap.size w).alloc (Nat.le_refl _) (.cells C 46)
    exact h1.alloc h1.size _
  have hF0 : failL (needs.take 0) docs d = [] := by rw [List.take_zero]; rfl
  have c17 : w1.cell? ⟨w.heap.size, 17, none⟩ = some (.slice nA nl nc) := (hK1.out.cell 17).trans hC17.out
  go_enter Tryz.func69, Tryz.ntmps69
  go_wp2_with (first | rw [hw1.out] | rw [hs1])
  clear c17
  go_loopw [7, 8] (fun v i wr => ∃ q : Nat, q ≤ nl ∧ i = .int .i64 q ∧ Hid (wr.ownsRow w.heap.size 24 6 v (failL (needs.take q) docs d).length (tcells (failL (needs.take q) docs d))) ∧ Hid (Below w.heap.size w wr) ∧ Hid (Blk wr w.heap.size 46 C)) (fun _ i _ => nl - (intOf i).toNat)
  case atStart => exact ⟨0, Nat.zero_le _, rfl, by rw [hF0]; exact ho1, hb1, hK1⟩
  case round =>
    clear ho1 hb1 hK1 hw1 hs1 hF0
    obtain ⟨q, hq, rfl, hown, hB, hK⟩ := hrel
    have c17 : wr.cell? ⟨w.heap.size, 17, none⟩ = some (.slice nA nl nc) := (hK.out.cell 17).trans hC17.out
    by_cases hlt : q < nl
    · skip
      obtain ⟨x, hx⟩ : ∃ x, needs[q]? = some x := ⟨_, List.getElem?_eq_getElem (by have := hnl.out; omega)⟩
      have hTx0 := (hN.out q x hx).2.1
      obtain ⟨_, hTx, _, b, off, rfl, h0, h1, h2⟩ := (hN.out.below hB.out) q x hx
      obtain ⟨b3, f3, rfl, d0, _⟩ := (hat.out.below hB.out) a d hd.out
      have hsn := Lib.hid (failL_snoc (docs := docs) (d := d) hx)
      have hmem := List.mem_of_getElem? hx
      have hP60 : Hid ((partsT x.rule).length ≤ 60) := Lib.hid (hFP.out.2 x hmem)
      have hSx := Lib.hid (hSm.out x hmem)
      have hFl : Hid ((failL (needs.take q) docs d).length ≤ 720) := Lib.hid (failL_len ⟨by rw [List.length_take]; have := hFP.out.1; omega, fun y hy => hFP.out.2 y (List.mem_of_mem_take hy)⟩)
      obtain ⟨F, hF⟩ : ∃ F, Hid (failL (needs.take q) docs d = F) := ⟨_, rfl⟩
      rw [hF.out] at hown hsn hFl
      have hTx' := Lib.hid hTx
      have i1 : (q : Int) < (nl : Int) := by omega
      have i2 : (0 : Int) ≤ (q : Int) := by omega
      have i3 : (a : Int) < (nn : Int) := by omega
      have i4 : (0 : Int) ≤ (a : Int) := by omega
      have hkm : decide (q < nl) = true := decide_eq_true hlt
      have hpa := Lib.hid (fun n => rparts_any x.rule (wr.drewN n) (Lib.hid (hTx'.out.below (below_drewN (Below.refl _ _) n))) (Lib.hid (by have := hP60.out; omega)))
      have hpt := Lib.hid (fun u (hu : u ∈ partsT x.rule) W (hW : Below w.heap.size w W) => stands_in (some ⟨b3, f3, none⟩) nn cc docs a d hd u W (Lib.hid (parts_all x.rule hSx.out u hu)) (Lib.hid ((parts_tree x.rule hTx0 u hu).below hW)) (Lib.hid (hR.out.below hW)))
      clear hx hmem hTx hTx0
      obtain ⟨xk, xc, rule⟩ := x
      obtain ⟨P, hPd⟩ : ∃ P, Hid (partsT rule = P) := ⟨_, rfl⟩
      simp only at hsn hP60 hpa hpt h0 h1 h2 hSx hTx'
      rw [hPd.out] at hsn hP60 hpa hpt
      obtain ⟨tk, tp, tf, tx, tn, tA, tc, tL⟩ := rule
      simp only [Tree.cells] at hpa h0 h1 h2
      obtain ⟨h2, h3, h4, h5, h6, h7⟩ := h2
      obtain ⟨dk, hdk⟩ : ∃ z, d.kind = z := ⟨_, rfl⟩
      rw [hdk] at hsn d0
      by_cases hk : xk = dk
      · subst hk
        have z1 : (xk != xk) = false := by simp
        rw [if_pos rfl] at hsn
        clear hSx hTx'
        go_wp2_with fail
        go_quiet (fail)
        go_wp2_with fail
        refine (hpa.out _).mono ?_
        rintro e w5 ⟨v5, rfl, hb5, ho5⟩
        obtain ⟨A1, c1, rfl, hcA⟩ := own_trees ho5 rfl
        have hB5 : Hid (Below w.heap.size w w5) := (below_drewN hB.out _).trans (hb5.mono (below_drewN hB.out _).size)
        have hown5 := Lib.hid (own_below (own_below hown.out (below_drewN (Below.refl _ _) _)) hb5)
        have hS5 : Hid (FlS w w5 C A1 P u7 (F.length + (failT docs d (P.take 0)).length) (F ++ failT docs d (P.take 0))) := by
          rw [List.take_zero, show failT docs d [] = [] from rfl, List.append_nil]
          refine Lib.hid ⟨hB5.out, hown5.out, (hK.out.below (below_drewN (Below.refl _ _) _) hK.out.lt).below hb5 (hK.out.below (below_drewN (Below.refl _ _) _) hK.out.lt).lt, hcA, fun hne b o e h9 => ?_⟩
          obtain ⟨g', c', e', h1', _⟩ := own_formS ho5 (List.length_pos_iff.2 hne)
          rw [e] at e'
          simp only [Value.slice.injEq, Option.some.injEq, Addr.mk.injEq, and_true, true_and] at e'
          have h3' := (hown.out.lt _ h9).2
          have h4' : ∀ n, (wr.drewN n).heap.size = wr.heap.size := fun _ => rfl
          rw [h4'] at h1'
          omega
        obtain ⟨np, hnp⟩ : ∃ z, Hid (P.length = z) := ⟨_, rfl⟩
        rw [hnp.out] at hP60 ⊢
        clear hb5 ho5 hcA hB5 hown5 hown hB hK c17 h0 h1 h2 h3 h4 h5 h6 h7 d0 hpa
        go_wp2_with fail
        go_loopw [7, 10] (fun v i wx => ∃ k : Nat, k ≤ np ∧ i = .int .i64 k ∧ Hid (FlS w wx C A1 P v (F.length + (failT docs d (P.take k)).length) (F ++ failT docs d (P.take k)))) (fun _ i _ => np - (intOf i).toNat)
        case atStart => exact ⟨0, Nat.zero_le _, rfl, hS5⟩
        case round =>
          clear hS5
          obtain ⟨k, hk, rfl, hS⟩ := hrel
          by_cases hkn : k < np
          · skip
            obtain ⟨t, ht⟩ : ∃ t, P[k]? = some t := ⟨_, List.getElem?_eq_getElem (by have := hnp.out; omega)⟩
            have hcl := hS.out.parts k t ht
            have hst := Lib.hid (hpt.out t (List.mem_of_getElem? ht) wr hS.out.below)
            have hsk := Lib.hid (failT_snoc (docs := docs) (d := d) ht)
            have hle : Hid ((failT docs d (P.take k)).length ≤ 60) := Lib.hid (by
              have h1 := List.length_filter_le (fun u => decide (holdsT docs d u ≠ 0)) (P.take k)
              rw [List.length_take] at h1
              have h2 := hP60.out
              unfold failT
              omega)
            have hcA := Lib.hid (fun W (h : FlS w W C A1 P u7 (F.length + (failT docs d (P.take k)).length) (F ++ failT docs d (P.take k))) => h.parts k t ht)
            obtain ⟨G, hG⟩ : ∃ G, Hid (failT docs d (P.take k) = G) := ⟨_, rfl⟩
            rw [hG.out] at hS hsk hle hcA
            obtain ⟨y, hy⟩ : ∃ y, holdsT docs d t = y := ⟨_, rfl⟩
            rw [hy] at hst hsk
            have hone := Lib.hid (tcells_one [t])
            have htl : Hid (tcells ((F ++ G) ++ [t]) = tcells (F ++ G) ++ t.cells.toList) := Lib.hid (by rw [tcells_app]; simp [tcells])
            have ht1 : Hid (tcells [t] = t.cells.toList) := Lib.hid (by simp [tcells])
            rw [ht1.out] at hone
            obtain ⟨T, hT⟩ : ∃ T, Hid (t = T) := ⟨_, rfl⟩
            clear ht hy ht1
            obtain ⟨sk, sp, sf, sx, sn, sA, sc, sL⟩ := t
            rw [hT.out] at hsk
            simp only [Tree.cells] at hst hone htl
            rw [hT.out] at htl
            have hcA' : Hid (∀ W, FlS w W C A1 P u7 (F.length + G.length) (F ++ G) → CellsAt W A1 k (.mk sk sp sf sx sn sA sc sL)) := hcA
            obtain ⟨b, off, rfl, g0, g1, g2, g3, g4, g5⟩ := hcl
            have hnp60 : np ≤ 60 := hP60.out
            have j1 : (k : Int) < (np : Int) := by omega
            have j2 : (0 : Int) ≤ (k : Int) := by omega
            have hkm2 : decide (k < np) = true := decide_eq_true hkn
            clear hcA hT
            go_wp2_with fail
            refine hst.out.mono ?_
            rintro e w6 ⟨rfl, hb6⟩
            have hS6 := Lib.hid (hS.out.on hb6)
            obtain ⟨b', off', e', g0', g1', g2', g3', g4', g5'⟩ := hcA'.out w6 hS6.out
            obtain ⟨rfl, rfl⟩ : b = b' ∧ off = off' := by simpa using e'
            clear hb6 hst g0 g1 g2 g3 g4 g5 e' hS hcA'
            by_cases hy0 : y = 0
            · have z2 : (y != 0) = false := by simp [hy0]
              rw [if_pos hy0, List.append_nil] at hsk
              go_wp2_with fail
              go_roundw
              case rel => exact ⟨k + 1, by omega, by go_num, by rw [hsk.out]; exact hS6⟩
              case measure => simp [intOf]; omega
            · have z2 : (y != 0) = true := by simpa using hy0
              rw [if_neg hy0] at hsk
              obtain ⟨w7, hw7⟩ : ∃ X, Hid (w6.alloc (.cells #[.int .i64 sk, .int .i64 sp, .string sf, .string sx, .int .i64 sn, .slice sA sL.length sc] 24) = X) := ⟨_, rfl⟩
              have hb7 : Hid (Below w6.heap.size w6 w7) := by rw [← hw7.out]; exact (Below.refl _ w6).alloc (Nat.le_refl _) _
              have hblk : Hid (Reads w7 w7.heap.size 6 (some ⟨w6.heap.size, 0, none⟩) 1 (#[.int .i64 sk, .int .i64 sp, .string sf, .string sx, .int .i64 sn, .slice sA sL.length sc] : Array Value).toList) := by rw [← hw7.out]; exact Lib.hid (blk_reads (Blk.new w6 24 #[.int .i64 sk, .int .i64 sp, .string sf, .string sx, .int .i64 sn, .slice sA sL.length sc]) 6 1 rfl)
              have hS7 := Lib.hid (hS6.out.on hb7.out)
              obtain ⟨m, hm⟩ : ∃ m, Hid (F.length + G.length = m) := ⟨_, rfl⟩
              have hm1 : m ≤ 780 := by have := hm.out; have := hle.out; have := hFl.out; omega
              rw [hm.out] at hS7
              have s1 : Hid (m + 1 ≤ maxLen) := by unfold Hid maxLen; omega
              have s2 : Hid ((m + 1) * 80 ≤ 140737488355328) := by unfold Hid; omega
              have s3 := Lib.hid hS7.out.below.size
              have hput : Hid (∀ v8 w8, w8.ownsRow w.heap.size 24 6 v8 (m + 1) (tcells (F ++ G) ++ (#[.int .i64 sk, .int .i64 sp, .string sf, .string sx, .int .i64 sn, .slice sA sL.length sc] : Array Value).toList) → w7.grownBy w8 u7.ownBlock → (v8.ownBlock = u7.ownBlock ∨ v8.ownBlock = some w7.heap.size) → FlS w w8 C (some ⟨b, off, none⟩) P v8 (F.length + (G ++ [T]).length) (F ++ (G ++ [T]))) := Lib.hid fun v8 w8 ho hg hv => by
                rw [← htl.out, List.append_assoc] at ho
                have e9 : F.length + (G ++ [T]).length = m + 1 := by rw [List.length_append]; have := hm.out; simp; omega
                rw [e9]
                exact hS7.out.put hg hv ho
              clear hb7 hS6
              go_wp2_with (first | rw [hw7.out] | (at_builtin; go_must (refine wpList_append_any _ rfl _ _ 22 rfl w.heap.size 24 iN _ 6 80 Tryz.underlying22 iNi iN0 iN1 iN2 rfl (by decide) _ m (tcells (F ++ G)) rfl hS7.out.row _ (some ⟨w6.heap.size, 0, none⟩) 1 1 (#[.int .i64 sk, .int .i64 sp, .string sf, .string sx, .int .i64 sn, .slice sA sL.length sc] : Array Value).toList rfl hblk.out hone.out s1.out s2.out s3.out ?_); intro v8 w8 ho8 hg8 hv8; have hS8 := Lib.hid (hput.out v8 w8 ho8 hg8 hv8); clear ho8 hg8 hv8))
              go_roundw
              case rel => exact ⟨k + 1, by omega, by go_num, by rw [hsk.out]; exact hS8⟩
              case measure => simp [intOf]; omega
          · have hkm2 : decide (k < np) = false := decide_eq_false hkn
            rw [List.take_of_length_le (by rw [hnp.out]; omega)] at hS
            go_wp2_with fail
            go_roundw
            case rel => exact ⟨q + 1, by omega, by go_num, by rw [hsn.out, List.length_append]; exact Lib.hid hS.out.row, Lib.hid hS.out.below, Lib.hid hS.out.cred⟩
            case measure => simp [intOf]; omega
      · have z1 : (xk != dk) = true := by simpa using hk
        rw [if_neg hk, List.append_nil] at hsn
        go_wp2_with fail
        go_quiet (fail)
        go_wp2_with fail
        go_roundw
        case rel => exact ⟨q + 1, by omega, by go_num, by rw [hsn.out]; exact Lib.hid (own_below hown.out (below_drewN (Below.refl _ _) _)), Lib.hid (below_drewN hB.out _), Lib.hid (hK.out.below (below_drewN (Below.refl _ _) _) hK.out.lt)⟩
        case measure => simp [intOf]; omega
    · have hkm : decide (q < nl) = false := decide_eq_false hlt
      obtain rfl : q = nl := by omega
      rw [List.take_of_length_le (by have := hnl.out; omega)] at hown
      go_wp2_with fail
      go_ret
      exact ⟨_, rfl, hown.out, hB.out⟩
end Go.Proofs.YtdjmckjbibfecaaGreatDoor
namespace Go.Proofs.YtdjmckjbibfecaaGreatDoor
open Go Go.RowKit Go.BigFrame Go.Maps

theorem faultsAt_far {W W' : World} {AF : Option Addr} {LF : List Flt} {g : Option Nat} (h : FaultsAt W AF LF) (hg : W.grownBy W' g) (hne : LF ≠ [] → ∀ b o, AF = some ⟨b, o, none⟩ → g ≠ some b) : FaultsAt W' AF LF := by
  intro k x hx
  obtain ⟨b, o, e, h0, h1, h2, h3⟩ := h k x hx
  have hlt := World.block_lt_of_cell? W _ h0
  have hk : ∀ q : Addr, q.block = b → W'.cell? q = W.cell? q := fun q hq => hg.cell_far q (by rw [hq]; exact hlt) (by rw [hq]; exact fun e9 => hne (by rintro rfl; simp at hx) b o e e9.symm)
  exact ⟨b, o, e, by rw [hk _ rfl]; exact h0, by rw [hk _ rfl]; exact h1, by rw [hk _ rfl]; exact h2, by rw [hk _ rfl]; exact h3⟩
/-- What stays while the row of faults grows. -/
structure KeepR (R : World → Prop) : Prop where
  below : ∀ {a b : World}, R a → Below a.heap.size a b → R b
  grown : ∀ {a b : World} {B n : Nat} {v : Value} {xs : List Value}, R a → a.ownsRow B 54 4 v n xs → a.grownBy b v.ownBlock → R b
/-- The row of finer faults while the document's own are read. -/
structure FnS (w W : World) (C : Array Value) (AF : Option Addr) (LF : List Flt) (v : Value) (M : List Flt) : Prop where
  below : Below w.heap.size w W
  cred : Blk W w.heap.size 46 C
  row : W.ownsRow w.heap.size 54 4 v M.length (fcells M)
  rest : FaultsAt W AF LF
  off : LF ≠ [] → ∀ b o, AF = some ⟨b, o, none⟩ → v.ownBlock ≠ some b
theorem FnS.on {w W W' : World} {C : Array Value} {AF : Option Addr} {LF M : List Flt} {v : Value} (h : FnS w W C AF LF v M) (hb : Below W.heap.size W W') : FnS w W' C AF LF v M :=
  ⟨h.below.trans (hb.mono h.below.size), h.cred.below hb h.cred.lt, own_below h.row hb, h.rest.below hb, h.off⟩
theorem FnS.put {w W W' : World} {C : Array Value} {AF : Option Addr} {LF M M' : List Flt} {v v' : Value} (h : FnS w W C AF LF v M) (hg : W.grownBy W' v.ownBlock) (hv : v'.ownBlock = v.ownBlock ∨ v'.ownBlock = some W.heap.size) (ho : W'.ownsRow w.heap.size 54 4 v' M'.length (fcells M')) : FnS w W' C AF LF v' M' := by
  refine ⟨h.below.grown hg h.below.size (fun j hj => (h.row.lt j hj).1), Blk.kept h.cred hg (own_blk_ne h.row h.cred (by decide)), ho, faultsAt_far h.rest hg h.off, fun hne b o e => ?_⟩
  rcases hv with e1 | e1
  · rw [e1]; exact h.off hne b o e
  · rw [e1]
    obtain ⟨x, hx⟩ : ∃ x, LF[0]? = some x := ⟨_, List.getElem?_eq_getElem (List.length_pos_iff.2 hne)⟩
    obtain ⟨b', o', e', h0, _⟩ := h.rest 0 x hx
    rw [e] at e'
    simp only [Option.some.injEq, Addr.mk.injEq, and_true] at e'
    obtain ⟨rfl, rfl⟩ := e'
    have hlt : b < W.heap.size := World.block_lt_of_cell? W _ h0
    intro h9
    injection h9 with h9
    omega
/-- The same, while one fault is made finer. -/
structure FkS (w W : World) (C : Array Value) (AF : Option Addr) (LF : List Flt) (gf : Nat) (X : Array Value) (R : World → Prop) (v : Value) (M : List Flt) : Prop where
  base : FnS w W C AF LF v M
  fault : Blk W gf 54 X
  apart : v.ownBlock ≠ some gf
  more : R W
theorem FkS.on {w W W' : World} {C : Array Value} {AF : Option Addr} {LF M : List Flt} {gf : Nat} {X : Array Value} {R : World → Prop} {v : Value} (K : KeepR R) (h : FkS w W C AF LF gf X R v M) (hb : Below W.heap.size W W') : FkS w W' C AF LF gf X R v M :=
  ⟨h.base.on hb, h.fault.below hb h.fault.lt, h.apart, K.below h.more hb⟩
theorem FkS.put {w W W' : World} {C : Array Value} {AF : Option Addr} {LF M M' : List Flt} {gf : Nat} {X : Array Value} {R : World → Prop} {v v' : Value} (K : KeepR R) (h : FkS w W C AF LF gf X R v M) (hg : W.grownBy W' v.ownBlock) (hv : v'.ownBlock = v.ownBlock ∨ v'.ownBlock = some W.heap.size) (ho : W'.ownsRow w.heap.size 54 4 v' M'.length (fcells M')) : FkS w W' C AF LF gf X R v' M' := by
  refine ⟨h.base.put hg hv ho, Blk.kept h.fault hg h.apart, ?_, K.grown h.more h.base.row hg⟩
  rcases hv with e | e
  · rw [e]; exact h.apart
  · rw [e]
    have := h.fault.lt
    intro h9
    injection h9 with h9
    omega
end Go.Proofs.YtdjmckjbibfecaaGreatDoor
namespace Go.Proofs.YtdjmckjbibfecaaGreatDoor
open Go Go.RowKit Go.BigFrame Go.Maps

theorem few_bnd {needs : List Nd} {docs : List Pap} (h : fewB needs docs = true) : Bnd 1048576 30 docs := by
  unfold fewB at h
  simp only [Bool.and_eq_true, decide_eq_true_eq] at h
  refine ⟨fun d hd f hf => ?_, fun d hd => ?_⟩
  · have := List.all_eq_true.1 h.2 d hd
    simp only [Bool.and_eq_true, decide_eq_true_eq] at this
    have := List.all_eq_true.1 this.2 f hf
    simp only [decide_eq_true_eq] at this
    omega
  · have := List.all_eq_true.1 h.2 d hd
    simp only [Bool.and_eq_true, decide_eq_true_eq] at this
    omega
end Go.Proofs.YtdjmckjbibfecaaGreatDoor

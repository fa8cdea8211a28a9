/- CoreEnough, walked. -/
import Derived.Test.YtdjmckjbibfecaaGreatDoorVk
import Derived.Test.YtdjmckjbibfecaaGreatDoorCg
namespace Go.Proofs.YtdjmckjbibfecaaGreatDoor
open Go Go.RowKit Go.BigFrame Go.Maps

/-- Bytes in memory. -/
def BytesAt (w : World) (A : Option Addr) (b : List UInt8) : Prop := ∀ i x, b[i]? = some x → ∃ g off, A = some ⟨g, off, none⟩ ∧ w.cell? ⟨g, off + i, none⟩ = some (.int .u8 (x.toNat : Int))
theorem BytesAt.below {w w' : World} {A : Option Addr} {b : List UInt8} (h : BytesAt w A b) (hb : Below w.heap.size w w') : BytesAt w' A b := by
  intro i x hx
  obtain ⟨g, off, e, hc⟩ := h i x hx
  exact ⟨g, off, e, (hb.cell (World.block_lt_of_cell? w _ hc)).trans hc⟩
def okS (l : List Int) : Prop := ∀ x ∈ l, 0 ≤ x ∧ x ≤ 2
theorem okS.snoc {l : List Int} (h : okS l) {x : Int} (h0 : 0 ≤ x) (h1 : x ≤ 2) : okS (l ++ [x]) := by
  intro y hy
  rcases List.mem_append.1 hy with hy | hy
  · exact h y hy
  · obtain rfl := List.mem_singleton.1 hy; exact ⟨h0, h1⟩
theorem okS.set {l : List Int} (h : okS l) {x : Int} (h0 : 0 ≤ x) (h1 : x ≤ 2) (i : Nat) : okS (l.set i x) := by
  intro y hy
  rcases List.mem_or_eq_of_mem_set hy with hy | rfl
  · exact h y hy
  · exact ⟨h0, h1⟩
theorem intsV_put (l : List Int) (i : Nat) (x : Int) : (intsV l).set i (.int .i64 x) = intsV (l.set i x) := by
  unfold intsV; rw [List.map_set]
def fixedS (l st : List Int) (p : List Nat) : Prop := ∀ i ∈ p, l[i]? = st[i]?
theorem fixedS.step {l st : List Int} {p : List Nat} (h : fixedS l st p) {i : Nat} {x : Int} (hx : st[i]? = some x) (hl : i < l.length) : fixedS (l.set i x) st (p ++ [i]) := by
  intro q hq
  by_cases e : i = q
  · subst e; rw [List.getElem?_set_self hl, hx]
  · rw [List.getElem?_set_ne e]
    rcases List.mem_append.1 hq with hq | hq
    · exact h q hq
    · exact absurd (List.mem_singleton.1 hq).symm e
theorem take_pair {R : List Nat → List Nat → Prop} {l : List (List Nat)} (h : l.Pairwise R) {j : Nat} {p : List Nat} (hp : l[j]? = some p) : ∀ q ∈ l.take j, R q p := by
  obtain ⟨hj, e⟩ := List.getElem?_eq_some_iff.1 hp
  have h1 : (l.take j ++ l.drop j).Pairwise R := by rw [List.take_append_drop]; exact h
  have h2 : p ∈ l.drop j := by rw [List.drop_eq_getElem_cons hj, e]; simp
  intro q hq
  exact (List.pairwise_append.1 h1).2.2 q hq p h2
theorem rem_nat (a b : Nat) : Int.tmod (a : Int) (b : Int) = ((a % b : Nat) : Int) := rfl
set_option maxRecDepth 100000 in
set_option maxHeartbeats 3200000 in
theorem coreEnough_law (t : Tree) (A0 : Option Addr) (nn c0 : Nat) (docs : List Pap) (pl : Int) (Ao : Option Addr) (no co : Nat) (ob : List UInt8) (w : World) (he : Hid (Env w)) (hT : Hid (TreeAt w t)) (hLT : Hid (LongT t)) (hnn : Hid (docs.length = nn)) (hmn : nn ≤ maxLen) (hD : Hid (DocsAt w A0 docs)) (hLD : Hid (LongD docs))
    (hno : Hid (ob.length = no)) (hnm : no ≤ maxLen) (hOb : Hid (BytesAt w Ao ob)) :
    Calls Tryz.prog 4 #[.agg t.cells, .slice A0 nn c0, .int .i64 pl, .slice Ao no co] w fun e w' => e = .returned (.bool true) ∧ Below w.heap.size w w' := by
  have hIT := Lib.hid (And.intro (info_parts Tryz.info3) trivial)
  have haw := Lib.hid (fun (W : World) (h : Env W) => awake_any W (Lib.hid h))
  have hli := Lib.hid (fun (W : World) (h1 : TreeAt W t) (h2 : DocsAt W A0 docs) => little_any t A0 nn c0 docs W (Lib.hid h1) hLT hnn hmn (Lib.hid h2) hLD)
  obtain ⟨F, hF⟩ : ∃ F, fewB [⟨0, 0, t⟩] docs = F := ⟨_, rfl⟩
  have hco := Lib.hid (fun (W : World) (h1 : TreeAt W t) (r : Room W A0 nn docs) (h60 : (atomsT t).length ≤ 60) => cores_any t A0 nn c0 docs pl W (Lib.hid h1) (Lib.hid r) h60)
  have hho := Lib.hid (fun W (h : TreeAt W t) (r : Room W A0 nn docs) => holds_any A0 nn c0 docs pl t W h r)
  have hat := Lib.hid (fun (W : World) (h1 : TreeAt W t) (h60 : (atomsT t).length ≤ 1000) => atomsR_any t W (Lib.hid h1) h60)
  have hev := Lib.hid (fun (sl : List Int) (sA : Option Addr) (m sc : Nat) (hl : sl.length = m) (h9 : m ≤ 1000) (h02 : okS sl) => eval_any sl sA m sc hl h9 (Lib.hid h02) t)
  have hff : Hid (F = true → nn ≤ 12 ∧ SmallT t ∧ (atomsT t).length ≤ 60 ∧ SmallD docs) := Lib.hid fun h => by
    have := few_facts (hF.trans h)
    rw [hnn.out] at this
    exact this
  have hnone : Hid ((standsA docs t pl = 0 ∨ pl < 0 ∨ (nn : Int) ≤ pl ∨ 12 < (atomsT t).length) → coresE docs t pl = []) := Lib.hid fun h => by
    by_cases hout : pl < 0 ∨ (nn : Int) ≤ pl
    · exact coresE_out (by rw [hnn.out]; exact hout)
    · obtain ⟨a, rfl⟩ : ∃ a : Nat, pl = a := ⟨pl.toNat, by omega⟩
      obtain ⟨d, hd⟩ : ∃ d, docs[a]? = some d := ⟨_, List.getElem?_eq_getElem (by have := hnn.out; omega)⟩
      rw [coresE_in hd, if_pos]
      rw [standsA_in hd] at h
      omega
  have hfacts : Hid (∀ (a : Nat) (d : Pap), pl = (a : Int) → docs[a]? = some d → (atomsT t).length ≤ 12 → standsA docs t pl ≠ 0 → coresE docs t pl ≠ [] ∧
      (coresE docs t pl).Pairwise (fun p q => orL 0 p &&& orL 0 q ≠ orL 0 q ∧ orL 0 p &&& orL 0 q ≠ orL 0 p) ∧
      ∀ p ∈ coresE docs t pl, (∀ i ∈ p, i < (atomsT t).length) ∧ ∀ s : List Int, s.length = (atomsT t).length → okS s → fixedS s (stL docs d t) p → (evalT (atL s) t 0).1 ≠ 0) := Lib.hid fun a d e hd h12 h0 => by
    subst e
    rw [standsA_in hd] at h0
    exact cores_facts hd rfl h12 h0
  have hrowsE : Hid ((atomsT t).length ≤ 12 → (coresE docs t pl).length ≤ 5000 ∧ ∀ p ∈ coresE docs t pl, p.length ≤ 12) := Lib.hid fun h => coresE_rows h
  obtain ⟨CE, hCE⟩ : ∃ C, coresE docs t pl = C := ⟨_, rfl⟩
  obtain ⟨AT, hATe⟩ : ∃ l, atomsT t = l := ⟨_, rfl⟩
  have hATT : Hid (∀ W, TreeAt W t → ∀ u ∈ AT, TreeAt W u) := Lib.hid fun W h u hu => atoms_at h u (by rw [hATe]; exact hu)
  have hATS : Hid (SmallT t → ∀ u ∈ AT, SmallT u) := Lib.hid fun h u hu => small_atoms h u (by rw [hATe]; exact hu)
  have hstl : Hid (∀ d, stL docs d t = AT.map (holdsT docs d)) := Lib.hid fun d => by rw [stL, hATe]
  obtain ⟨m, hm⟩ : ∃ m, AT.length = m := ⟨_, rfl⟩
  have hm' := Lib.hid hm
  obtain ⟨z, hz⟩ : ∃ z, standsA docs t pl = z := ⟨_, rfl⟩
  rw [hF] at hli
  simp only [EvalR, hCE, hATe, hm, hz] at hco hat hff hnone hfacts hho hev hrowsE
  obtain ⟨T, hTd⟩ : ∃ T, Hid (t = T) := ⟨_, rfl⟩
  obtain ⟨k, p, f, x, n, A, c, L⟩ := t
  simp only [Tree.cells] at hli hco hat hho hev ⊢
  rw [hTd.out] at hT hli hco hat hff hho hev hfacts hATT hATS hstl
  clear hF hCE hATe hm hTd hLT hz
  obtain ⟨w1, hw1⟩ : ∃ X, Hid (w.alloc (.cells #[.int .i64 k, .int .i64 p, .string f, .string x, .int .i64 n, .slice A L.length c] 24) = X) := ⟨_, rfl⟩
  have hb1 : Hid (Below w.heap.size w w1) := by rw [← hw1.out]; exact (Below.refl _ w).alloc (Nat.le_refl _) _
  have hN1 : Hid (Blk w1 w.heap.size 24 #[.int .i64 k, .int .i64 p, .string f, .string x, .int .i64 n, .slice A L.length c]) := by rw [← hw1.out]; exact Lib.hid (Blk.new _ _ _)
  have q0 : w1.cell? ⟨w.heap.size, 0, none⟩ = some (.int .i64 k) := hN1.out.cell 0
  have q1 : w1.cell? ⟨w.heap.size, 1, none⟩ = some (.int .i64 p) := hN1.out.cell 1
  have q2 : w1.cell? ⟨w.heap.size, 2, none⟩ = some (.string f) := hN1.out.cell 2
  have q3 : w1.cell? ⟨w.heap.size, 3, none⟩ = some (.string x) := hN1.out.cell 3
  have q4 : w1.cell? ⟨w.heap.size, 4, none⟩ = some (.int .i64 n) := hN1.out.cell 4
  have q5 : w1.cell? ⟨w.heap.size, 5, none⟩ = some (.slice A L.length c) := hN1.out.cell 5
  have hE1 := he.out.below hb1.out
  have haw1 := Lib.hid (haw.out w1 hE1)
  go_enter Tryz.func4, Tryz.ntmps4
  go_wp2_with (rw [hw1.out])
  refine haw1.out.mono ?_
  rintro e w2 ⟨rfl, hb2⟩
  have hB2 : Hid (Below w.heap.size w w2) := hb1.out.trans (hb2.mono hb1.out.size)
  have hN2 := Lib.hid (hN1.out.below hb2 hN1.out.lt)
  have hli2 := Lib.hid (hli.out w2 (hT.out.below hB2.out) (hD.out.below hB2.out))
  clear q0 q1 q2 q3 q4 q5 hb2 haw1 hE1 hN1
  have q0 : w2.cell? ⟨w.heap.size, 0, none⟩ = some (.int .i64 k) := hN2.out.cell 0
  have q1 : w2.cell? ⟨w.heap.size, 1, none⟩ = some (.int .i64 p) := hN2.out.cell 1
  have q2 : w2.cell? ⟨w.heap.size, 2, none⟩ = some (.string f) := hN2.out.cell 2
  have q3 : w2.cell? ⟨w.heap.size, 3, none⟩ = some (.string x) := hN2.out.cell 3
  have q4 : w2.cell? ⟨w.heap.size, 4, none⟩ = some (.int .i64 n) := hN2.out.cell 4
  have q5 : w2.cell? ⟨w.heap.size, 5, none⟩ = some (.slice A L.length c) := hN2.out.cell 5
  go_wp2_with fail
  refine hli2.out.mono ?_
  rintro e w3 ⟨rfl, hb3⟩
  have hB3 : Hid (Below w.heap.size w w3) := hB2.out.trans (hb3.mono hB2.out.size)
  have hN3 := Lib.hid (hN2.out.below hb3 hN2.out.lt)
  clear q0 q1 q2 q3 q4 q5 hb3 hli2 hN2
  cases F with
  | false =>
    have haw3 := Lib.hid (haw.out w3 (he.out.below hB3.out))
    go_wp2_with fail
    refine haw3.out.mono ?_
    rintro e w4 ⟨rfl, hb4⟩
    have hB4 : Hid (Below w.heap.size w w4) := hB3.out.trans (hb4.mono hB3.out.size)
    clear hb4
    go_wp2_with fail
    go_ret
    exact ⟨rfl, hB4.out⟩
  | true =>
    obtain ⟨hn12, hsm, h60, hsd⟩ := hff.out rfl
    have hRoom : Hid (∀ W, Below w.heap.size w W → Room W A0 nn docs) := Lib.hid fun W h => ⟨hnn.out, by omega, hD.out.below h, he.out.below h, hsd⟩
    have hco3 := Lib.hid (hco.out w3 (hT.out.below hB3.out) (hRoom.out _ hB3.out) h60)
    have hsm' := Lib.hid hsm
    have q0 : w3.cell? ⟨w.heap.size, 0, none⟩ = some (.int .i64 k) := hN3.out.cell 0
    have q1 : w3.cell? ⟨w.heap.size, 1, none⟩ = some (.int .i64 p) := hN3.out.cell 1
    have q2 : w3.cell? ⟨w.heap.size, 2, none⟩ = some (.string f) := hN3.out.cell 2
    have q3 : w3.cell? ⟨w.heap.size, 3, none⟩ = some (.string x) := hN3.out.cell 3
    have q4 : w3.cell? ⟨w.heap.size, 4, none⟩ = some (.int .i64 n) := hN3.out.cell 4
    have q5 : w3.cell? ⟨w.heap.size, 5, none⟩ = some (.slice A L.length c) := hN3.out.cell 5
    clear hco hli haw hff hsm hsd
    go_wp2_with fail
    refine hco3.out.mono ?_
    rintro e w4 ⟨v7, rfl, hc4, hb4⟩
    have hB4 : Hid (Below w.heap.size w w4) := hB3.out.trans (hb4.mono hB3.out.size)
    have hN4 := Lib.hid (hN3.out.below hb4 hN3.out.lt)
    have hc4' := Lib.hid hc4
    obtain ⟨A7, n7, c7, rfl⟩ := cor_form ⟨_, hc4⟩
    have hat4 := Lib.hid (hat.out w4 (hT.out.below hB4.out) (by omega))
    clear q0 q1 q2 q3 q4 q5 hb4 hc4 hco3 hN3 hat
    have q0 : w4.cell? ⟨w.heap.size, 0, none⟩ = some (.int .i64 k) := hN4.out.cell 0
    have q1 : w4.cell? ⟨w.heap.size, 1, none⟩ = some (.int .i64 p) := hN4.out.cell 1
    have q2 : w4.cell? ⟨w.heap.size, 2, none⟩ = some (.string f) := hN4.out.cell 2
    have q3 : w4.cell? ⟨w.heap.size, 3, none⟩ = some (.string x) := hN4.out.cell 3
    have q4 : w4.cell? ⟨w.heap.size, 4, none⟩ = some (.int .i64 n) := hN4.out.cell 4
    have q5 : w4.cell? ⟨w.heap.size, 5, none⟩ = some (.slice A L.length c) := hN4.out.cell 5
    go_wp2_with fail
    refine hat4.out.mono ?_
    rintro e w5 ⟨v8, rfl, ho8, hb5⟩
    obtain ⟨A8, c8, rfl⟩ := own_form ho8
    have hB5 : Hid (Below w.heap.size w w5) := hB4.out.trans (hb5.mono hB4.out.size)
    have hN5 := Lib.hid (hN4.out.below hb5 hN4.out.lt)
    have hc5 := Lib.hid (hc4'.out.on hb5)
    have ho5 := Lib.hid ho8
    have hho5 := Lib.hid (hho.out w5 (hT.out.below hB5.out) (hRoom.out _ hB5.out))
    clear q0 q1 q2 q3 q4 q5 hb5 ho8 hc4' hat4 hN4 hho
    have q0 : w5.cell? ⟨w.heap.size, 0, none⟩ = some (.int .i64 k) := hN5.out.cell 0
    have q1 : w5.cell? ⟨w.heap.size, 1, none⟩ = some (.int .i64 p) := hN5.out.cell 1
    have q2 : w5.cell? ⟨w.heap.size, 2, none⟩ = some (.string f) := hN5.out.cell 2
    have q3 : w5.cell? ⟨w.heap.size, 3, none⟩ = some (.string x) := hN5.out.cell 3
    have q4 : w5.cell? ⟨w.heap.size, 4, none⟩ = some (.int .i64 n) := hN5.out.cell 4
    have q5 : w5.cell? ⟨w.heap.size, 5, none⟩ = some (.slice A L.length c) := hN5.out.cell 5
    have hempty : Hid (CE = [] → n7 = 0) := Lib.hid fun hce => by
      obtain ⟨vs, _, h2, _⟩ := hc5.out
      rw [hce] at h2
      obtain ⟨A', c', e'⟩ := own_form h2
      simp only [Value.slice.injEq] at e'
      exact e'.2.1
    by_cases hz : z = 0
    · obtain rfl := hempty.out (hnone.out (.inl hz))
      subst hz
      go_wp2_with fail
      refine hho5.out.mono ?_
      rintro e w6 ⟨rfl, hb6⟩
      have hB6 : Hid (Below w.heap.size w w6) := hB5.out.trans (hb6.mono hB5.out.size)
      clear hb6 hho5
      go_wp2_with fail
      go_ret
      exact ⟨rfl, hB6.out⟩
    have z1 : (z == 0) = false := by simpa using hz
    by_cases hlow : pl < 0
    · obtain rfl := hempty.out (hnone.out (.inr (.inl hlow)))
      have d1 : decide (pl < 0) = true := decide_eq_true hlow
      go_wp2_with fail
      refine hho5.out.mono ?_
      rintro e w6 ⟨rfl, hb6⟩
      have hB6 : Hid (Below w.heap.size w w6) := hB5.out.trans (hb6.mono hB5.out.size)
      clear hb6 hho5
      go_wp2_with fail
      go_ret
      exact ⟨rfl, hB6.out⟩
    have d1 : decide (pl < 0) = false := decide_eq_false hlow
    by_cases hhi : (nn : Int) ≤ pl
    · obtain rfl := hempty.out (hnone.out (.inr (.inr (.inl hhi))))
      have d2 : decide ((nn : Int) ≤ pl) = true := decide_eq_true hhi
      go_wp2_with fail
      refine hho5.out.mono ?_
      rintro e w6 ⟨rfl, hb6⟩
      have hB6 : Hid (Below w.heap.size w w6) := hB5.out.trans (hb6.mono hB5.out.size)
      clear hb6 hho5
      go_wp2_with fail
      go_ret
      exact ⟨rfl, hB6.out⟩
    have d2 : decide ((nn : Int) ≤ pl) = false := decide_eq_false hhi
    by_cases h12 : 12 < m
    · obtain rfl := hempty.out (hnone.out (.inr (.inr (.inr h12))))
      have d3 : decide ((12 : Int) < (m : Int)) = true := decide_eq_true (by omega)
      have d4 : decide (12 < m) = true := decide_eq_true h12
      go_wp2_with fail
      refine hho5.out.mono ?_
      rintro e w6 ⟨rfl, hb6⟩
      have hB6 : Hid (Below w.heap.size w w6) := hB5.out.trans (hb6.mono hB5.out.size)
      clear hb6 hho5
      go_wp2_with fail
      go_ret
      exact ⟨rfl, hB6.out⟩
    have d3 : decide ((12 : Int) < (m : Int)) = false := decide_eq_false (by omega)
    have d4 : decide (12 < m) = false := decide_eq_false h12
    obtain ⟨a, rfl⟩ : ∃ a : Nat, pl = a := ⟨pl.toNat, by omega⟩
    have d2n : decide (nn ≤ a) = false := decide_eq_false (by omega)
    have d2m : a < nn := by omega
    obtain ⟨d, hd⟩ : ∃ d, docs[a]? = some d := ⟨_, List.getElem?_eq_getElem (by have := hnn.out; omega)⟩
    have hd' := Lib.hid hd
    obtain ⟨f1, f2, f3⟩ := hfacts.out a d rfl hd (by omega) hz
    have hn0 := Lib.hid f1
    have hapart := Lib.hid f2
    have hcore := Lib.hid f3
    have hst := hstl.out d
    obtain ⟨hCl0, hCp0⟩ := hrowsE.out (by omega)
    have hCl1 := Lib.hid hCl0
    have hCp := Lib.hid hCp0
    clear hnone hempty hfacts hlow hhi f1 f2 f3 hd h60 hstl hrowsE hCl0 hCp0
    go_wp2_with fail
    refine hho5.out.mono ?_
    rintro e w6 ⟨rfl, hb6⟩
    have hB6 : Hid (Below w.heap.size w w6) := hB5.out.trans (hb6.mono hB5.out.size)
    have hN6 := Lib.hid (hN5.out.below hb6 hN5.out.lt)
    have hc6 := Lib.hid (hc5.out.on hb6)
    have ho6 := Lib.hid (own_below ho5.out hb6)
    have hsn := Lib.hid (stand_any A0 nn c0 docs a d hd'.out AT A8 m c8 w4.heap.size w6 hm'.out (by omega) (Lib.hid (hATT.out _ (hT.out.below hB6.out))) (Lib.hid (hATS.out hsm'.out)) (Lib.hid (hRoom.out _ hB6.out)) (Lib.hid (own_mono ho6.out (Nat.le_refl _))))
    obtain ⟨ST, hST⟩ : ∃ l, AT.map (holdsT docs d) = l := ⟨_, rfl⟩
    rw [hST] at hst hsn
    rw [hst] at hcore
    have hSTl : Hid (ST.length = m) := by unfold Hid; rw [← hST, List.length_map]; exact hm'.out
    have hSTr : Hid (okS ST) := Lib.hid fun y hy => by
      rw [← hST] at hy
      obtain ⟨u, _, rfl⟩ := List.mem_map.1 hy
      exact holdsT_range docs d u
    clear q0 q1 q2 q3 q4 q5 hb6 hho5 hN5 hc5 ho5 hB5 hST hst hATT hATS hz d1 d2 d3 d4 d2n hm'
    go_wp2_with fail
    refine hsn.out.mono ?_
    rintro e w7 ⟨v9, rfl, ho9, hb7⟩
    obtain ⟨A9, c9, rfl⟩ := own_form ho9
    have hB7 : Hid (Below w.heap.size w w7) := hB6.out.trans (hb7.mono hB6.out.size)
    have hN7 := Lib.hid (hN6.out.below hb7 hN6.out.lt)
    have hc7 := Lib.hid (hc6.out.on hb7)
    have ho7 := Lib.hid ho9
    obtain ⟨w8, hw8⟩ : ∃ X, Hid (w7.alloc (.map #[] 0) = X) := ⟨_, rfl⟩
    have hb8 : Hid (Below w7.heap.size w7 w8) := by rw [← hw8.out]; exact (Below.refl _ w7).alloc (Nat.le_refl _) _
    have hs8 : Hid (SetI w8 Tryz.prog 3 w7.heap.size 0 []) := by rw [← hw8.out]; exact Lib.hid (SetI.made _ _ _)
    obtain ⟨vs, hvl, hrow, hrows⟩ := hc7.out
    obtain ⟨Ac, cc, e7⟩ := own_form hrow
    simp only [Value.slice.injEq] at e7
    obtain ⟨rfl, rfl, rfl⟩ := e7
    have hvl' := Lib.hid hvl
    have hrow' := Lib.hid hrow
    have hrows' := Lib.hid hrows
    obtain ⟨nC, hnC⟩ : ∃ z, CE.length = z := ⟨_, rfl⟩
    have hnC' := Lib.hid hnC
    have hCl : nC ≤ 5000 := by rw [← hnC]; exact hCl1.out
    rw [hnC] at hvl' hrow'
    clear hb7 ho9 hsn hN6 hc6 ho6 hc7 hvl hrow hrows
    rw [hnC]
    clear hnC
    have hmm := @run_makeMap Tryz.prog
    go_wp2_with (rw [hw8.out])
    clear hmm
    go_loopw [68] (fun i wr => ∃ j : Nat, j ≤ nC ∧ i = .int .i64 j ∧ Hid (SetI wr Tryz.prog 3 w7.heap.size j ((CE.take j).map (orL 0))) ∧ Hid (Below w7.heap.size w7 wr)) (fun i _ => nC - (intOf i).toNat)
    case atStart => exact ⟨0, Nat.zero_le _, rfl, hs8, hb8⟩
    case round =>
      obtain ⟨j, hj, rfl, hS, hB⟩ := hrel
      clear hw8 hs8 hb8
      by_cases hlt : j < nC
      · as_aux_lemma =>
        obtain ⟨wo, hwo⟩ : ∃ x, x = wr := ⟨_, rfl⟩
        subst hwo
        obtain ⟨iI, iIi, iI0, iI1, iI2⟩ := hIT.out.1
        obtain ⟨P, hP⟩ : ∃ P, CE[j]? = some P := ⟨_, List.getElem?_eq_getElem (by have := hnC'.out; omega)⟩
        obtain ⟨xv, hxv⟩ : ∃ x, vs[j]? = some x := ⟨_, List.getElem?_eq_getElem (by have := hvl'.out; omega)⟩
        have hxr := own_below (hrows'.out j P xv hP hxv) hB.out
        have hpf := hcore.out P (List.mem_of_getElem? hP)
        have hPm := Lib.hid hpf.1
        have hPe := Lib.hid hpf.2
        have hPp := Lib.hid (take_pair hapart.out hP)
        have hPt : Hid ((CE.take (j + 1)).map (orL 0) = (CE.take j).map (orL 0) ++ [orL 0 P]) := by
          unfold Hid; rw [take_snocG hP, List.map_append]; rfl
        obtain ⟨np, hnp⟩ : ∃ z, P.length = z := ⟨_, rfl⟩
        have hnp12 : np ≤ 12 := by rw [← hnp]; exact hCp.out P (List.mem_of_getElem? hP)
        have hnp' := Lib.hid hnp
        rw [hnp] at hxr
        obtain ⟨Ap, cp, rfl⟩ := own_form hxr
        have hxr' := Lib.hid hxr
        obtain ⟨ks, hks⟩ : ∃ l, (CE.take j).map (orL 0) = l := ⟨_, rfl⟩
        have hksP : Hid (∀ b ∈ ks, b &&& orL 0 P ≠ orL 0 P ∧ b &&& orL 0 P ≠ b ∧ b < 4096) := Lib.hid fun b hb => by
          rw [← hks] at hb
          obtain ⟨q, hq, rfl⟩ := List.mem_map.1 hb
          have h := hPp.out q hq
          refine ⟨h.1, h.2, ?_⟩
          have := orL_lt q 0 12 (by omega) (fun i hi => Nat.lt_of_lt_of_le ((hcore.out q (List.mem_of_mem_take hq)).1 i hi) (by omega))
          omega
        rw [hks] at hS hPt
        obtain ⟨g7, c9', e9, _, _⟩ := own_formS hrow'.out (by omega)
        obtain rfl : A7 = some ⟨g7, 0, none⟩ := by injection e9
        have hrwo := own_below hrow'.out hB.out
        have xs : wo.cell? ⟨g7, j, none⟩ = some (.slice Ap np cp) := by rw [hrwo.cellAt j (by omega)]; exact hxv
        have i1 : (j : Int) < (nC : Int) := by omega
        have i2 : (0 : Int) ≤ (j : Int) := by omega
        have hkm : decide (j < nC) = true := decide_eq_true hlt
        have hmb : Hid (w7.heap.size < wo.heap.size) := Lib.hid hS.out.lt
        obtain ⟨wa, hwa⟩ : ∃ X, Hid (wo.alloc (.cells #[] 3) = X) := ⟨_, rfl⟩
        have hoa : Hid (wa.ownsRow wo.heap.size 3 1 (.slice (some ⟨wo.heap.size, 0, none⟩) 0 0) 0 []) := by rw [← hwa.out]; exact Lib.hid (own_new wo 3 1)
        have hba : Hid (Below wo.heap.size wo wa) := by rw [← hwa.out]; exact Lib.hid ((Below.refl _ wo).alloc (Nat.le_refl _) _)
        clear hP hxv hxr hpf hPp hks hnp e9 hrwo hapart hcore hrows' hvl'
        go_wp2_with (rw [hwa.out])
        go_loopw [15, 75] (fun v i wr => ∃ (q : Nat) (sl : List Int), q ≤ m ∧ i = .int .i64 q ∧ Hid (sl.length = q) ∧ Hid (okS sl) ∧ Hid (wr.ownsRow wo.heap.size 3 1 v q (intsV sl)) ∧ Hid (Below wo.heap.size wo wr)) (fun _ i _ => m - (intOf i).toNat)
        case atStart => exact ⟨0, [], Nat.zero_le _, rfl, rfl, Lib.hid (by intro y hy; cases hy), hoa, hba⟩
        case round =>
          clear xs hwa hoa hba
          obtain ⟨q, sl, hq, rfl, hsl, hok, hown, hbs⟩ := hrel
          by_cases hqm : q < m
          · as_aux_lemma =>
            have j1 : (q : Int) < (m : Int) := by omega
            have j2 : (0 : Int) ≤ (q : Int) := by omega
            have jkm : decide (q < m) = true := decide_eq_true hqm
            have s1 : Hid (q + 1 ≤ maxLen) := by unfold Hid maxLen; omega
            have s2 : Hid ((q + 1) * 8 ≤ 140737488355328) := by unfold Hid; omega
            have s3 := Lib.hid hbs.out.size
            by_cases hn0' : no = 0
            · subst hn0'
              obtain ⟨wb, hwb⟩ : ∃ X, Hid (wr.alloc (.cells #[.int .i64 0] 3) = X) := ⟨_, rfl⟩
              have hbb : Hid (Below wr.heap.size wr wb) := by rw [← hwb.out]; exact (Below.refl _ wr).alloc (Nat.le_refl _) _
              have hblk : Hid (Reads wb wb.heap.size 1 (some ⟨wr.heap.size, 0, none⟩) 1 [.int .i64 0]) := by rw [← hwb.out]; exact Lib.hid (blk_reads (Blk.new wr 3 #[.int .i64 0]) 1 1 rfl)
              have hownb := Lib.hid (own_below hown.out hbb.out)
              have hbsb : Hid (Below wo.heap.size wo wb) := hbs.out.trans (hbb.out.mono hbs.out.size)
              have s3' := Lib.hid hbsb.out.size
              have s4 : Hid (∀ u ∈ ([.int .i64 0] : List Value), u.oneCell' = true) := Lib.hid (by intro u hu; simp at hu; subst hu; rfl)
              go_wp2_with (first | rw [hwb.out] | (at_builtin; go_must (refine wpList_append_any _ rfl _ _ 35 rfl wo.heap.size 3 iI _ 1 8 Tryz.underlying35 iIi iI0 iI1 iI2 rfl (by decide) _ q (intsV sl) rfl hownb.out _ (some ⟨wr.heap.size, 0, none⟩) 1 1 [.int .i64 0] rfl hblk.out s4.out s1.out s2.out s3'.out ?_); intro v8 w9 ho8 hg8 hv8; have hB8 := Lib.hid (hbsb.out.grown hg8 s3'.out (fun j hj => (hownb.out.lt j hj).1)); have ho8' := Lib.hid ho8; clear ho8 hg8 hv8))
              go_roundw
              case rel => exact ⟨q + 1, sl ++ [0], by omega, by go_num, by unfold Hid; rw [List.length_append, hsl.out]; rfl, Lib.hid (hok.out.snoc (by omega) (by omega)), by rw [intsV_app]; exact ho8', hB8⟩
              case measure => simp [intOf]; omega
            · have hnpos : 0 < no := by omega
              have n1 : decide ((0 : Int) < (no : Int)) = true := decide_eq_true (by omega)
              have n2 : decide (0 < no) = true := decide_eq_true hnpos
              obtain ⟨r9, hr9⟩ : ∃ z, q % no = z := ⟨_, rfl⟩
              have hr9l : r9 < no := by rw [← hr9]; exact Nat.mod_lt _ hnpos
              have hrem : Int.tmod (q : Int) (no : Int) = (r9 : Int) := by rw [rem_nat, hr9]
              obtain ⟨y, hy⟩ : ∃ y, ob[r9]? = some y := ⟨_, List.getElem?_eq_getElem (by have := hno.out; omega)⟩
              obtain ⟨gO, fO, rfl, hyc⟩ := hOb.out r9 y hy
              have hyc' : wr.cell? ⟨gO, fO + r9, none⟩ = some (.int .u8 (y.toNat : Int)) := by
                have hlt0 := World.block_lt_of_cell? w _ hyc
                have hb0 : Below w.heap.size w wr := (hB7.out.trans (hB.out.mono hB7.out.size)).trans (hbs.out.mono (Nat.le_trans hB7.out.size hB.out.size))
                exact (hb0.cell hlt0).trans hyc
              have k1 : (r9 : Int) < (no : Int) := by omega
              have k2 : (0 : Int) ≤ (r9 : Int) := by omega
              have k3 : ¬ (no : Int) = 0 := by omega
              have k4 : ((no : Int) == 0) = false := by simpa using hn0'
              obtain ⟨v3, hv3⟩ : ∃ z : Nat, y.toNat % 3 = z := ⟨_, rfl⟩
              have hv3l : v3 < 3 := by rw [← hv3]; exact Nat.mod_lt _ (by omega)
              have hrem3 : Int.tmod (y.toNat : Int) 3 = (v3 : Int) := by rw [show (3 : Int) = ((3 : Nat) : Int) from rfl, rem_nat, hv3]
              have hw8' : IntKind.u8.wrap (v3 : Int) = (v3 : Int) := by
                have : v3 = 0 ∨ v3 = 1 ∨ v3 = 2 := by omega
                rcases this with rfl | rfl | rfl <;> decide
              have hw64 : IntKind.i64.wrap (v3 : Int) = (v3 : Int) := IntWalk.i64_in _ (by omega)
              have hw65 : IntKind.i64.wrap (r9 : Int) = (r9 : Int) := IntWalk.i64_in _ (by unfold maxLen at hnm; omega)
              obtain ⟨wb, hwb⟩ : ∃ X, Hid (wr.alloc (.cells #[.int .i64 (v3 : Int)] 3) = X) := ⟨_, rfl⟩
              have hbb : Hid (Below wr.heap.size wr wb) := by rw [← hwb.out]; exact (Below.refl _ wr).alloc (Nat.le_refl _) _
              have hblk : Hid (Reads wb wb.heap.size 1 (some ⟨wr.heap.size, 0, none⟩) 1 [.int .i64 (v3 : Int)]) := by rw [← hwb.out]; exact Lib.hid (blk_reads (Blk.new wr 3 #[.int .i64 (v3 : Int)]) 1 1 rfl)
              have hownb := Lib.hid (own_below hown.out hbb.out)
              have hbsb : Hid (Below wo.heap.size wo wb) := hbs.out.trans (hbb.out.mono hbs.out.size)
              have s3' := Lib.hid hbsb.out.size
              have s4 : Hid (∀ u ∈ ([.int .i64 (v3 : Int)] : List Value), u.oneCell' = true) := Lib.hid (by intro u hu; simp at hu; subst hu; rfl)
              clear hy hyc hr9 hv3
              go_wp2_with (first | rw [hwb.out] | (at_builtin; go_must (refine wpList_append_any _ rfl _ _ 35 rfl wo.heap.size 3 iI _ 1 8 Tryz.underlying35 iIi iI0 iI1 iI2 rfl (by decide) _ q (intsV sl) rfl hownb.out _ (some ⟨wr.heap.size, 0, none⟩) 1 1 [.int .i64 (v3 : Int)] rfl hblk.out s4.out s1.out s2.out s3'.out ?_); intro v8 w9 ho8 hg8 hv8; have hB8 := Lib.hid (hbsb.out.grown hg8 s3'.out (fun j hj => (hownb.out.lt j hj).1)); have ho8' := Lib.hid ho8; clear ho8 hg8 hv8))
              go_roundw
              case rel => exact ⟨q + 1, sl ++ [(v3 : Int)], by omega, by go_num, by unfold Hid; rw [List.length_append, hsl.out]; rfl, Lib.hid (hok.out.snoc (by omega) (by omega)), by rw [intsV_app]; exact ho8', hB8⟩
              case measure => simp [intOf]; omega
          · have jkm : decide (q < m) = false := decide_eq_false hqm
            have hmq : m = q := by omega
            subst hmq
            obtain ⟨sA, sc, rfl⟩ := own_form hown.out
            obtain ⟨wu, hwu⟩ : ∃ x, x = wr := ⟨_, rfl⟩
            subst hwu
            go_wp2_with fail
            go_loopw [16, 99] (fun sv i wr => ∃ (q : Nat) (sl : List Int), q ≤ np ∧ i = .int .i64 q ∧ sv = .int .i64 ((orL 0 (P.take q) : Nat) : Int) ∧ Hid (sl.length = m) ∧ Hid (okS sl) ∧ Hid (fixedS sl ST (P.take q)) ∧ Hid (wr.ownsRow wo.heap.size 3 1 (.slice sA m sc) m (intsV sl)) ∧ Hid (Below wo.heap.size wo wr)) (fun _ i _ => np - (intOf i).toNat)
            case atStart => exact ⟨0, sl, Nat.zero_le _, rfl, rfl, hsl, hok, Lib.hid (by intro y hy; cases hy), hown, hbs⟩
            case round =>
              clear hsl hok hown hbs
              obtain ⟨q, sl, hq, rfl, rfl, hsl, hok, hfx, hown, hbs⟩ := hrel
              have hb0 : Hid (Below w7.heap.size w7 wr) := hB.out.trans (hbs.out.mono hB.out.size)
              by_cases hqm' : q < np
              · as_aux_lemma =>
                obtain ⟨i9, hi9⟩ : ∃ z, P[q]? = some z := ⟨_, List.getElem?_eq_getElem (by have := hnp'.out; omega)⟩
                have hi9m : i9 < m := hPm.out i9 (List.mem_of_getElem? hi9)
                obtain ⟨u, hu⟩ : ∃ u, ST[i9]? = some u := ⟨_, List.getElem?_eq_getElem (by have := hSTl.out; omega)⟩
                have hur := hSTr.out u (List.mem_of_getElem? hu)
                obtain ⟨gp, cp', e1, _, _⟩ := own_formS hxr'.out (by omega)
                obtain rfl : Ap = some ⟨gp, 0, none⟩ := by injection e1
                obtain ⟨g9, cq', e2, _, _⟩ := own_formS ho7.out (by omega)
                obtain rfl : A9 = some ⟨g9, 0, none⟩ := by injection e2
                obtain ⟨gs, cs', e3, hgs, hgsl⟩ := own_formS hown.out (by omega)
                obtain rfl : sA = some ⟨gs, 0, none⟩ := by injection e3
                have xp : wr.cell? ⟨gp, q, none⟩ = some (.int .i64 (i9 : Int)) := by
                  rw [(own_below hxr'.out hbs.out).cellAt q (by omega), natsV, List.getElem?_map, hi9]; rfl
                have xo : wr.cell? ⟨g9, i9, none⟩ = some (.int .i64 u) := by
                  rw [(own_below ho7.out hb0.out).cellAt i9 (by omega), intsV, List.getElem?_map, hu]; rfl
                obtain ⟨u0, hu0⟩ : ∃ u, sl[i9]? = some u := ⟨_, List.getElem?_eq_getElem (by have := hsl.out; omega)⟩
                have xq : wr.cell? ⟨gs, i9, none⟩ = some (.int .i64 u0) := by
                  rw [hown.out.cellAt i9 (by omega), intsV, List.getElem?_map, hu0]; rfl
                have hfr : wr.frozen? ⟨gs, i9, none⟩ = false := hown.out.frozenAt _
                have hst9 := hown.out.stored i9 (.int .i64 u)
                rw [intsV_put] at hst9
                have hbs9 := Lib.hid (hbs.out.setCell (p := ⟨gs, i9, none⟩) hgs (.int .i64 u))
                obtain ⟨wS, hwS⟩ : ∃ X, Hid (wr.setCell ⟨gs, i9, none⟩ (.int .i64 u) = X) := ⟨_, rfl⟩
                rw [hwS.out] at hst9 hbs9
                have hown9 := Lib.hid hst9.1
                have hfx9 : Hid (fixedS (sl.set i9 u) ST (P.take (q + 1))) := by
                  rw [take_snocG hi9]
                  exact Lib.hid (hfx.out.step hu (by have := hsl.out; omega))
                have hok9 := Lib.hid (hok.out.set hur.1 hur.2 i9)
                have hsl9 : Hid ((sl.set i9 u).length = m) := by unfold Hid; rw [List.length_set]; exact hsl.out
                have hor : orL 0 (P.take (q + 1)) = orL 0 (P.take q) ||| 2 ^ i9 := by rw [take_snocG hi9, orL_snoc]
                have hlt1 : orL 0 (P.take q) < 2 ^ 12 := orL_lt _ 0 12 (by omega) (fun i hi => Nat.lt_of_lt_of_le (hPm.out i (List.mem_of_mem_take hi)) (by omega))
                have hp1 : 2 ^ i9 < 2 ^ 12 := Nat.pow_lt_pow_right (by omega) (by omega)
                have hbo := bits_or_i64 _ _ 12 hlt1 hp1 (by omega)
                obtain ⟨NI, hNI⟩ : ∃ z, orL 0 (P.take (q + 1)) = z := ⟨_, rfl⟩
                rw [← hor, hNI] at hbo
                rw [hNI] at hor
                obtain ⟨OI, hOI⟩ : ∃ z, orL 0 (P.take q) = z := ⟨_, rfl⟩
                rw [hOI] at hbo ⊢
                obtain ⟨PI, hPI⟩ : ∃ z : Int, Hid (((2 ^ i9 : Nat) : Int) = z) := ⟨_, rfl⟩
                rw [hPI.out] at hbo
                have hws : IntKind.i64.wrap (2 ^ i9) = PI := by
                  have h4 : 2 ^ i9 < 4096 := hp1
                  obtain ⟨z9, hz9⟩ : ∃ z9, 2 ^ i9 = z9 := ⟨_, rfl⟩
                  have := IntWalk.i64_in ((2 ^ i9 : Nat) : Int) (by rw [hz9] at h4 ⊢; omega)
                  rw [← hPI.out, ← this]
                  simp
                have hwq : IntKind.u64.wrap (i9 : Int) = (i9 : Int) := wrapU i9 (by omega)
                have j1 : (q : Int) < (np : Int) := by omega
                have j2 : (0 : Int) ≤ (q : Int) := by omega
                have jkm' : decide (q < np) = true := decide_eq_true hqm'
                have j3 : (0 : Int) ≤ (i9 : Int) := by omega
                have j4 : (i9 : Int) < (m : Int) := by omega
                have j5 : (i9 : Int) ≤ 64 := by omega
                have j6 : decide ((i9 : Int) < 0) = false := decide_eq_false (by omega)
                have j7 : decide ((m : Int) ≤ (i9 : Int)) = false := decide_eq_false (by omega)
                have j8 : decide (m ≤ i9) = false := decide_eq_false (by omega)
                clear hi9 hu hu0 hst9 e1 e2 e3 hor hlt1 hp1 hOI hur hfx hok hsl hPI
                have hNI' := Lib.hid hNI
                clear hNI
                go_wp2_with (rw [hwS.out])
                go_roundw
                case rel => exact ⟨q + 1, sl.set i9 u, by omega, by go_num, by rw [hNI'.out], hsl9, hok9, hfx9, hown9, hbs9⟩
                case measure => simp [intOf]; omega
              · as_aux_lemma =>
                have jkm' : decide (q < np) = false := decide_eq_false hqm'
                have hqn : np = q := by omega
                subst hqn
                have hPall : P.take np = P := List.take_of_length_le (by rw [hnp'.out]; exact Nat.le_refl _)
                rw [hPall] at hfx ⊢
                obtain ⟨A', c', e', hI⟩ := own_ints hown.out
                obtain ⟨rfl, rfl⟩ : sA = A' ∧ sc = c' := by simpa using e'
                have hb1 : Hid (Below w.heap.size w wr) := hB7.out.trans (hb0.out.mono hB7.out.size)
                have hcall := hev.out sl sA m sc hsl.out (by omega) hok.out 0 wr (Lib.hid (hT.out.below hb1.out)) (Lib.hid hI) (by omega)
                have hne := hPe.out sl hsl.out hok.out hfx.out
                obtain ⟨V, hV⟩ : ∃ z, (evalT (atL sl) T 0).1 = z := ⟨_, rfl⟩
                rw [hV] at hcall hne
                have v1 : (V == 0) = false := by simpa using hne
                have hcall' := Lib.hid hcall
                obtain ⟨SV, hSV⟩ : ∃ z : Int, Hid (((orL 0 P : Nat) : Int) = z) := ⟨_, rfl⟩
                have hNr := Lib.hid (hN7.out.below hb0.out hN7.out.lt)
                rw [hSV.out]
                clear hcall hV hI e' hPall hfx hok hsl
                have q0 : wr.cell? ⟨w.heap.size, 0, none⟩ = some (.int .i64 k) := hNr.out.cell 0
                have q1 : wr.cell? ⟨w.heap.size, 1, none⟩ = some (.int .i64 p) := hNr.out.cell 1
                have q2 : wr.cell? ⟨w.heap.size, 2, none⟩ = some (.string f) := hNr.out.cell 2
                have q3 : wr.cell? ⟨w.heap.size, 3, none⟩ = some (.string x) := hNr.out.cell 3
                have q4 : wr.cell? ⟨w.heap.size, 4, none⟩ = some (.int .i64 n) := hNr.out.cell 4
                have q5 : wr.cell? ⟨w.heap.size, 5, none⟩ = some (.slice A L.length c) := hNr.out.cell 5
                go_wp2_with fail
                refine hcall'.out.mono ?_
                rintro e w9 ⟨rfl, hb9⟩
                have hbs9 : Hid (Below wo.heap.size wo w9) := hbs.out.trans (hb9.mono hbs.out.size)
                have hS9 := Lib.hid (hS.out.belowB hbs9.out hmb.out)
                clear q0 q1 q2 q3 q4 q5 hb9 hcall' hown hbs
                go_wp2_with (at_range; refine wpList_rangeI _ rfl _ rfl Tryz.underlying3 Tryz.underlying37 rfl hS9.out ?_; intro w10 hr10 hg10 hs10; have hR10 := Lib.hid hr10; have hS10 := Lib.hid (hS9.out.kept hg10 (by simp)); have hbs10 := Lib.hid (hbs9.out.grown hg10 hbs9.out.size (fun j hj => by cases hj)); clear hr10 hg10 hs10)
                have hlo : Hid (wo.heap.size ≤ w9.heap.size) := Lib.hid hbs9.out.size
                go_frame
                go_loopw [] (fun wr => Hid (SetR wr Tryz.prog 3 w7.heap.size w9.heap.size j ks) ∧ Hid (SetI wr Tryz.prog 3 w7.heap.size j ks) ∧ Hid (Below wo.heap.size wo wr)) (fun wr => wr.rangeLeft w7.heap.size w9.heap.size)
                case atStart => exact ⟨hR10, hS10, hbs10⟩
                case round =>
                  clear hR10 hS10 hbs10 hbs9 hS9
                  obtain ⟨hR, hSx, hbx⟩ := hrel
                  have hj9 : Hid (j < maxLen) := by unfold Hid maxLen; omega
                  have hsm9 : Hid (orL 0 P < 9223372036854775808) := Lib.hid (by
                    have := orL_lt P 0 12 (by omega) (fun i hi => Nat.lt_of_lt_of_le (hPm.out i hi) (by omega))
                    omega)
                  go_wp2_with (first | (at_next; go_must (refine wpList_nextI _ rfl _ rfl Tryz.underlying3 rfl hR.out ?_ ?_)) | (at_mapUpdate; go_must (refine wpList_putI _ rfl _ _ _ rfl Tryz.underlying3 Tryz.underlying37 rfl hSx.out hj9.out (orL 0 P) SV hSV.out (.bool true) hsm9.out rfl rfl ?_); intro w11 hs11 hg11))
                  · have hS11 := Lib.hid hs11
                    have hB11 : Hid (Below w7.heap.size w7 w11) := Lib.hid ((hB.out.trans (hbx.out.mono hB.out.size)).grown hg11 (Nat.le_trans hB.out.size hbx.out.size) (fun j hj => by cases hj; exact Nat.le_refl _))
                    clear hs11 hg11
                    go_roundw
                    case rel => exact ⟨j + 1, by omega, by go_num, by rw [hPt.out]; exact hS11, hB11⟩
                    case measure => simp [intOf]; omega
                  · intro b9 cv w11 hb9 hr11 hlt11 hg11 hs11 hen11
                    have hkk := hksP.out b9 hb9
                    have hR11 := Lib.hid hr11
                    have hlt11' := Lib.hid hlt11
                    have hS11 := Lib.hid (hSx.out.kept hg11 (by have := hmb.out; have := hlo.out; simp; omega))
                    have hB11 := Lib.hid (hbx.out.grown hg11 hbx.out.size (fun j hj => by cases hj; exact hlo.out))
                    have hbits := bits_and_i64 b9 (orL 0 P) (by omega) (by
                      have := orL_lt P 0 12 (by omega) (fun i hi => Nat.lt_of_lt_of_le (hPm.out i hi) (by omega))
                      omega)
                    rw [hSV.out] at hbits
                    obtain ⟨QI, hQI⟩ : ∃ z : Int, Hid ((b9 : Int) = z) := ⟨_, rfl⟩
                    rw [hQI.out] at hbits hen11 ⊢
                    obtain ⟨RI, hRI⟩ : ∃ z : Int, Hid (((b9 &&& orL 0 P : Nat) : Int) = z) := ⟨_, rfl⟩
                    rw [hRI.out] at hbits
                    have t1 : ¬ RI = SV := by rw [← hRI.out, ← hSV.out]; intro e; exact hkk.1 (by omega)
                    have t2 : ¬ RI = QI := by rw [← hRI.out, ← hQI.out]; intro e; exact hkk.2.1 (by omega)
                    have t3 : (RI == SV) = false := by simpa using t1
                    have t4 : (RI == QI) = false := by simpa using t2
                    clear hb9 hr11 hlt11 hg11 hs11 hkk
                    go_wp2_with fail
                    go_roundw
                    case rel => exact ⟨hR11, hS11, hB11⟩
                    case measure => exact hlt11'.out
      · have hkm : decide (j < nC) = false := decide_eq_false hlt
        have h0n : 0 < nC := by
          have h1 := hnC'.out
          have h2 := hn0.out
          rcases Nat.eq_zero_or_pos nC with h | h
          · rw [h] at h1; exact absurd (List.length_eq_zero_iff.1 h1) h2
          · exact h
        have e1 : decide ((0 : Int) < (nC : Int)) = true := decide_eq_true (by omega)
        have e2 : decide (0 < nC) = true := decide_eq_true h0n
        go_wp2_with fail
        go_ret
        exact ⟨rfl, hB7.out.trans (hB.out.mono hB7.out.size)⟩
end Go.Proofs.YtdjmckjbibfecaaGreatDoor

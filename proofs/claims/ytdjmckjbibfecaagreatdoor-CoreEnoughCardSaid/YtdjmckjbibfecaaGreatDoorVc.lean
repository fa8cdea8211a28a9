/- The document's Stand, places, before, walked. -/
import Derived.Test.YtdjmckjbibfecaaGreatDoorVb
namespace Go.Proofs.YtdjmckjbibfecaaGreatDoor
open Go Go.RowKit Go.BigFrame Go.Maps

theorem eval_any (st : List Int) (sA : Option Addr) (m sc : Nat) (hm : st.length = m) (hm9 : m ≤ 1000) (h02 : Hid (∀ x ∈ st, 0 ≤ x ∧ x ≤ 2)) : ∀ t, EvalR st sA m sc t := Tree.every fun t ih => eval_walk st sA m sc hm hm9 h02 t (Lib.hid ih)
theorem ints_reads {w : World} {A : Option Addr} {l : List Int} {m : Nat} (h : IntsAt w A l) (hl : l.length = m) : Reads w w.heap.size 1 A m (intsV l) := by
  refine ⟨by simp [intsV, hl], fun hn => ?_⟩
  obtain ⟨g, off, rfl, hc⟩ := h 0 (l[0]'(by omega)) (List.getElem?_eq_getElem _)
  refine ⟨_, rfl, World.block_lt_of_cell? w _ hc, fun j u hj => ?_⟩
  rw [intsV, List.getElem?_map] at hj
  obtain ⟨x, hx, rfl⟩ := Option.map_eq_some_iff.1 hj
  obtain ⟨g', off', e, hc'⟩ := h j x hx
  simp only [Option.some.injEq, Addr.mk.injEq, and_true] at e
  obtain ⟨rfl, rfl⟩ := e
  have hadd : (⟨g, off, none⟩ : Addr).add j = ⟨g, off + j, none⟩ := by unfold Addr.add; split <;> simp_all
  rw [hadd]; exact hc'
theorem intsV_app (l m : List Int) : intsV (l ++ m) = intsV l ++ intsV m := List.map_append
theorem take_snocG {α : Type} {L : List α} {q : Nat} {u : α} (hu : L[q]? = some u) : L.take (q + 1) = L.take q ++ [u] := by
  obtain ⟨hq, e⟩ := List.getElem?_eq_some_iff.1 hu
  rw [List.take_succ_eq_append_getElem hq, e]
theorem own_base {w : World} {B n g : Nat} {e : TypeId} {size : Nat} {v : Value} {xs : List Value} (h : w.ownsRow B e size v n xs) (hg : g < B) : v.ownBlock ≠ some g := fun he => by have := (h.lt g he).1; omega
set_option maxRecDepth 100000 in
set_option maxHeartbeats 3200000 in
theorem stand_any (A0 : Option Addr) (nn c0 : Nat) (docs : List Pap) (a : Nat) (d : Pap) (hd : docs[a]? = some d) (l : List Tree) (lA : Option Addr) (m lc B : Nat) (w : World) (hl : l.length = m) (hm9 : m ≤ 1000) (hT : Hid (∀ u ∈ l, TreeAt w u)) (hS : Hid (∀ u ∈ l, SmallT u)) (hR : Hid (Room w A0 nn docs)) (hrow : Hid (w.ownsRow B 24 6 (.slice lA m lc) m (cellsL l))) :
    Calls Tryz.prog 18 #[.slice lA m lc, .slice A0 nn c0, .int .i64 (a : Int)] w fun e w' => ∃ v, e = .returned v ∧ w'.ownsRow w.heap.size 3 1 v m (intsV (l.map (holdsT docs d))) ∧ Below w.heap.size w w' := by
  obtain ⟨i0, hi, hz0, hz1, hz2⟩ := info_parts Tryz.info3
  have hsl : Hid ((l.map (holdsT docs d)).length = m) := by unfold Hid; rw [List.length_map, hl]
  have hsg : Hid (∀ q u, l[q]? = some u → (l.map (holdsT docs d)).take (q + 1) = (l.map (holdsT docs d)).take q ++ [holdsT docs d u]) := Lib.hid fun q u hu => take_snocG (by rw [List.getElem?_map, hu]; rfl)
  obtain ⟨ST9, hST⟩ : ∃ ST9, Hid (l.map (holdsT docs d) = ST9) := ⟨_, rfl⟩
  have hl' := Lib.hid hl
  have hd' := Lib.hid hd
  rw [hST.out] at hsl hsg ⊢
  clear hl hd hST
  obtain ⟨w1, hw1⟩ : ∃ X, Hid (w.alloc (.cells #[] 3) = X) := ⟨_, rfl⟩
  have ho1 : Hid (w1.ownsRow w.heap.size 3 1 (.slice (some ⟨w.heap.size, 0, none⟩) 0 0) 0 []) := by rw [← hw1.out]; exact Lib.hid (own_new w 3 1)
  have hb1 : Hid (Below w.heap.size w w1) := by rw [← hw1.out]; exact Lib.hid ((Below.refl _ w).alloc (Nat.le_refl _) _)
  go_enter Tryz.func18, Tryz.ntmps18
  go_wp2_with (rw [hw1.out])
  go_loopw [7, 8] (fun v i wr => ∃ q : Nat, q ≤ m ∧ i = .int .i64 q ∧ Hid (wr.ownsRow w.heap.size 3 1 v q (intsV (ST9.take q))) ∧ Hid (Below w.heap.size w wr)) (fun _ i _ => m - (intOf i).toNat)
  case atStart => exact ⟨0, Nat.zero_le _, rfl, by rw [List.take_zero]; exact ho1, hb1⟩
  case round =>
    obtain ⟨q, hq, rfl, hown, hB⟩ := hrel
    by_cases hlt : q < m
    · as_aux_lemma =>
      obtain ⟨u, hu⟩ : ∃ u, l[q]? = some u := ⟨_, List.getElem?_eq_getElem (by have := hl'.out; omega)⟩
      have htk := Lib.hid (hsg.out q u hu)
      have huT := Lib.hid ((hT.out u (List.mem_of_getElem? hu)).below hB.out)
      have huS := Lib.hid (hS.out u (List.mem_of_getElem? hu))
      have hRr := Lib.hid (hR.out.below hB.out)
      have hcall := stands_in A0 nn c0 docs a d hd'.out u wr huS huT hRr
      have hrr := own_below hrow.out hB.out
      obtain ⟨g7, c9, e9, hg7, hg7l⟩ := own_formS hrr (by omega)
      obtain rfl : lA = some ⟨g7, 0, none⟩ := by injection e9
      have hcl : ∀ j v, u.cells.toList[j]? = some v → wr.cell? ⟨g7, q * 6 + j, none⟩ = some v := fun j v hv => by
        have := hrr.cells (g := g7) rfl _ v (cellsL_get l q j u v hu hv)
        have hadd : (⟨g7, 0, none⟩ : Addr).add (q * 6 + j) = ⟨g7, q * 6 + j, none⟩ := by unfold Addr.add; split <;> simp_all
        rw [← hadd]; exact this
      obtain ⟨hz9, hhz⟩ : ∃ z, holdsT docs d u = z := ⟨_, rfl⟩
      rw [hhz] at hcall htk
      clear hhz e9 hu hrr
      obtain ⟨uk, up, uf, ux, un, uA, uc, uL⟩ := u
      simp only [Tree.cells] at hcall hcl
      have d0 : wr.cell? ⟨g7, q * 6, none⟩ = some (.int .i64 uk) := hcl 0 _ rfl
      have d1' : wr.cell? ⟨g7, q * 6 + 1, none⟩ = some (.int .i64 up) := hcl 1 _ rfl
      have d2' : wr.cell? ⟨g7, q * 6 + 2, none⟩ = some (.string uf) := hcl 2 _ rfl
      have d3' : wr.cell? ⟨g7, q * 6 + 3, none⟩ = some (.string ux) := hcl 3 _ rfl
      have d4' : wr.cell? ⟨g7, q * 6 + 4, none⟩ = some (.int .i64 un) := hcl 4 _ rfl
      have d5' : wr.cell? ⟨g7, q * 6 + 5, none⟩ = some (.slice uA uL.length uc) := hcl 5 _ rfl
      have i1 : (q : Int) < (m : Int) := by omega
      have i2 : (0 : Int) ≤ (q : Int) := by omega
      have hkm : decide (q < m) = true := decide_eq_true hlt
      have hcall' := Lib.hid hcall
      clear hcl hcall hw1
      go_wp2_with fail
      refine hcall'.out.mono ?_
      rintro e w6 ⟨rfl, hb6⟩
      have hown6 := own_below hown.out hb6
      have hB6 : Below w.heap.size w w6 := hB.out.trans (hb6.mono hB.out.size)
      clear hb6 hcall' d0 d1' d2' d3' d4' d5'
      have hb7 := (Below.refl w6.heap.size w6).alloc (Nat.le_refl _) (.cells #[.int .i64 hz9] 3)
      have hB7 : Hid (Below w.heap.size w (w6.alloc (.cells #[.int .i64 hz9] 3))) := hB6.trans (hb7.mono hB6.size)
      have hown7 := Lib.hid (own_below hown6 hb7)
      have hblk7 := Lib.hid (blk_reads (Blk.new w6 3 #[.int .i64 hz9]) 1 1 rfl)
      have s1 : Hid (q + 1 ≤ maxLen) := by unfold Hid maxLen; omega
      have s2 : Hid ((q + 1) * 8 ≤ 140737488355328) := by unfold Hid; omega
      have s3 := Lib.hid hB7.out.size
      have s4 : Hid (∀ u ∈ (#[.int .i64 hz9] : Array Value).toList, u.oneCell' = true) := Lib.hid (by intro u hu; simp at hu; subst hu; rfl)
      clear hb7 hown6 hB6
      go_wp2_with (at_builtin; go_must (refine wpList_append_any _ rfl _ _ 35 rfl w.heap.size 3 i0 _ 1 8 Tryz.underlying35 hi hz0 hz1 hz2 rfl (by decide) _ q (intsV (ST9.take q)) rfl hown7.out _ (some ⟨w6.heap.size, 0, none⟩) 1 1 [.int .i64 hz9] rfl hblk7.out s4.out s1.out s2.out s3.out ?_); intro v8 w8 ho8 hg8 hv8; have hB8 := Lib.hid (hB7.out.grown hg8 s3.out (fun j hj => (hown7.out.lt j hj).1)); have ho8' := Lib.hid ho8; clear ho8 hg8 hv8)
      go_roundw
      case rel => exact ⟨q + 1, by omega, by go_num, by rw [htk.out]; unfold intsV; rw [List.map_append]; exact ho8', hB8⟩
      case measure => simp [intOf]; omega
    · have hkm : decide (q < m) = false := decide_eq_false hlt
      have hqm : m = q := by omega
      subst hqm
      rw [List.take_of_length_le (by rw [hsl.out]; exact Nat.le_refl _)] at hown
      go_wp2_with fail
      go_ret
      exact ⟨_, rfl, hown.out, hB.out⟩
set_option maxRecDepth 100000 in
theorem placesR_any (a m : Nat) (w : World) (ha : a < 4096) (hm : m ≤ 12) : Calls Tryz.prog 51 #[.int .i64 (a : Int), .int .i64 (m : Int)] w fun e w' => ∃ v, e = .returned v ∧ w'.ownsRow w.heap.size 3 1 v (plcD m a).length (natsV (plcD m a)) ∧ Below w.heap.size w w' := by
  obtain ⟨i0, hi, hz0, hz1, hz2⟩ := info_parts Tryz.info3
  have hhas := Lib.hid (fun (i : Nat) (h : i ≤ 60) (W : World) => has_any a i W ha h)
  have hpl : Hid (plcD m a = (List.range m).filter fun i => a.testBit i) := rfl
  rw [hpl.out]
  obtain ⟨w1, hw1⟩ : ∃ X, Hid (w.alloc (.cells #[] 3) = X) := ⟨_, rfl⟩
  have ho1 : Hid (w1.ownsRow w.heap.size 3 1 (.slice (some ⟨w.heap.size, 0, none⟩) 0 0) 0 []) := by rw [← hw1.out]; exact Lib.hid (own_new w 3 1)
  have hb1 : Hid (Below w.heap.size w w1) := by rw [← hw1.out]; exact Lib.hid ((Below.refl _ w).alloc (Nat.le_refl _) _)
  clear hpl
  go_enter Tryz.func51, Tryz.ntmps51
  go_wp2_with (rw [hw1.out])
  go_loopw [5, 6] (fun v i wr => ∃ q : Nat, q ≤ m ∧ i = .int .i64 q ∧ Hid (wr.ownsRow w.heap.size 3 1 v ((List.range q).filter fun i => a.testBit i).length (natsV ((List.range q).filter fun i => a.testBit i))) ∧ Hid (Below w.heap.size w wr)) (fun _ i _ => m - (intOf i).toNat)
  case atStart => exact ⟨0, Nat.zero_le _, rfl, ho1, hb1⟩
  case round =>
    obtain ⟨q, hq, rfl, hown, hB⟩ := hrel
    by_cases hlt : q < m
    · as_aux_lemma =>
      have hcall := hhas.out q (by omega) wr
      have hfs := filt_succ (fun i => a.testBit i) q
      have hfl := filt_le (fun i => a.testBit i) q
      obtain ⟨xs, hxs⟩ : ∃ xs, (List.range q).filter (fun i => a.testBit i) = xs := ⟨_, rfl⟩
      rw [hxs] at hown hfs hfl
      obtain ⟨nx, hnx⟩ : ∃ n, xs.length = n := ⟨_, rfl⟩
      rw [hnx] at hown hfl
      have hnx' := Lib.hid hnx
      obtain ⟨tb, htb⟩ : ∃ b, a.testBit q = b := ⟨_, rfl⟩
      simp only [htb] at hfs hcall
      have hfs' := Lib.hid hfs
      have hcall' := Lib.hid hcall
      have i1 : (q : Int) < (m : Int) := by omega
      clear hxs hnx hfs htb hcall hw1
      cases tb with
      | false =>
        have hnew : Hid ((List.range (q + 1)).filter (fun i => a.testBit i) = xs) := by unfold Hid; rw [hfs'.out]; simp
        go_wp2_with fail
        refine hcall'.out.mono ?_
        rintro e w2 ⟨rfl, rfl⟩
        go_wp2_with fail
        go_roundw
        case rel => exact ⟨q + 1, by omega, by go_num, by rw [hnew.out, hnx'.out]; exact hown, hB⟩
        case measure => simp [intOf]; omega
      | true =>
        have hnew : Hid ((List.range (q + 1)).filter (fun i => a.testBit i) = xs ++ [q]) := by unfold Hid; rw [hfs'.out]; simp
        have hown3 := Lib.hid (own_below hown.out ((Below.refl _ wr).alloc (Nat.le_refl _) (.cells #[.int .i64 (q : Int)] 3)))
        have hblk3 := Lib.hid (Blk.new wr 3 #[.int .i64 (q : Int)])
        have hb3 : Hid (Below w.heap.size w (wr.alloc (.cells #[.int .i64 (q : Int)] 3))) := Lib.hid (hB.out.alloc hB.out.size _)
        have s1 : Hid (nx + 1 ≤ maxLen) := by unfold Hid maxLen; omega
        have s2 : Hid ((nx + 1) * 8 ≤ 140737488355328) := by unfold Hid; omega
        have s3 : Hid (w.heap.size ≤ (wr.alloc (.cells #[.int .i64 (q : Int)] 3)).heap.size) := Lib.hid hb3.out.size
        go_wp2_with fail
        refine hcall'.out.mono ?_
        rintro e w2 ⟨rfl, rfl⟩
        go_wp2_with (at_builtin; go_must (refine wpList_app2 w.heap.size rfl _ _ 35 rfl 3 i0 _ 1 8 Tryz.underlying35 hi hz0 hz1 hz2 rfl (by decide) _ nx (natsV xs) rfl wr.heap.size 1 #[.int .i64 (q : Int)] rfl hown3.out hblk3.out rfl (by simp [Value.oneCell']) s1.out s2.out s3.out ?_); intro v4 w4 ho4 hb4; have ho4' := Lib.hid ho4; have hb4' : Hid (Below w.heap.size w w4) := hb3.out.trans hb4; clear ho4 hb4)
        go_roundw
        case rel => exact ⟨q + 1, by omega, by go_num, by rw [hnew.out, List.length_append, hnx'.out, natsV_app]; exact ho4', hb4'⟩
        case measure => simp [intOf]; omega
    · have hkm : decide (q < m) = false := decide_eq_false hlt
      have hqm : m = q := by omega
      subst hqm
      go_wp2_with fail
      go_ret
      exact ⟨_, rfl, hown.out, hB.out⟩
theorem nats_cells {w : World} {B n : Nat} {e : TypeId} {A : Option Addr} {c : Nat} {l : List Nat} (h : w.ownsRow B e 1 (.slice A n c) n (natsV l)) : IntsAt w A (l.map fun (x : Nat) => (x : Int)) := by
  have e1 : natsV l = intsV (l.map fun (x : Nat) => (x : Int)) := by simp [natsV, intsV]
  rw [e1] at h
  obtain ⟨A', c', e', hI⟩ := own_ints h
  obtain ⟨rfl, _⟩ : A = A' ∧ c = c' := by simpa using e'
  exact hI
set_option maxRecDepth 100000 in
theorem beforeR_any (p q : List Nat) (pA qA : Option Addr) (pn qn pc qc : Nat) (w : World) (hp : p.length = pn) (hq : q.length = qn) (h12 : pn ≤ 12) (hpA : Hid (IntsAt w pA (p.map fun (x : Nat) => (x : Int)))) (hqA : Hid (IntsAt w qA (q.map fun (x : Nat) => (x : Int)))) : Calls Tryz.prog 52 #[.slice pA pn pc, .slice qA qn qc] w fun e w' => e = .returned (.bool (beforeB p q)) ∧ Below w.heap.size w w' := by
  obtain ⟨R, hR⟩ : ∃ R, Hid (beforeB p q = R) := ⟨_, rfl⟩
  rw [hR.out]
  have hp' := Lib.hid hp
  have hq' := Lib.hid hq
  by_cases hne : pn = qn
  · have hRl : R = lexB p q := by rw [← hR.out, beforeB, if_pos (by rw [hp, hq]; exact hne)]
    have hRl' := Lib.hid hRl
    clear hp hq hRl hR
    subst hne
    go_enter Tryz.func52, Tryz.ntmps52
    go_wp2_with fail
    go_loopw [5] (fun i wr => ∃ j : Nat, j ≤ pn ∧ i = .int .i64 j ∧ Hid (R = lexB (p.drop j) (q.drop j)) ∧ Below w.heap.size w wr) (fun i _ => pn - (intOf i).toNat)
    case atStart => exact ⟨0, Nat.zero_le _, rfl, by rw [List.drop_zero, List.drop_zero]; exact hRl', Below.refl _ _⟩
    case round =>
      obtain ⟨j, hj, rfl, hx, hB⟩ := hrel
      by_cases hlt : j < pn
      · obtain ⟨a, ha⟩ : ∃ a, p[j]? = some a := ⟨_, List.getElem?_eq_getElem (by have := hp'.out; omega)⟩
        obtain ⟨b, hb⟩ : ∃ b, q[j]? = some b := ⟨_, List.getElem?_eq_getElem (by have := hq'.out; omega)⟩
        obtain ⟨g1, o1, rfl, x1⟩ := (hpA.out.below hB) j a (by rw [List.getElem?_map, ha]; rfl)
        obtain ⟨g2, o2, rfl, x2⟩ := (hqA.out.below hB) j b (by rw [List.getElem?_map, hb]; rfl)
        have hpd : p.drop j = a :: p.drop (j + 1) := by
          obtain ⟨h1, h2⟩ := List.getElem?_eq_some_iff.1 ha
          rw [List.drop_eq_getElem_cons h1, h2]
        have hqd : q.drop j = b :: q.drop (j + 1) := by
          obtain ⟨h1, h2⟩ := List.getElem?_eq_some_iff.1 hb
          rw [List.drop_eq_getElem_cons h1, h2]
        have hx2 : Hid (R = if a = b then lexB (p.drop (j + 1)) (q.drop (j + 1)) else decide (a < b)) := by unfold Hid; rw [hx.out, hpd, hqd, lexB]
        have i1 : (j : Int) < (pn : Int) := by omega
        have i2 : (0 : Int) ≤ (j : Int) := by omega
        have hkm : decide (j < pn) = true := decide_eq_true hlt
        clear ha hb hpd hqd hx
        by_cases hab : a = b
        · subst hab
          have hx3 : Hid (R = lexB (p.drop (j + 1)) (q.drop (j + 1))) := by unfold Hid; rw [hx2.out, if_pos rfl]
          clear hx2
          go_wp2_with fail
          go_quiet (fail)
          go_wp2_with fail
          go_roundw
          case rel => exact ⟨j + 1, by omega, by go_num, hx3, below_drewN hB _⟩
          case measure => simp [intOf]; omega
        · have hx3 : Hid (R = decide (a < b)) := by unfold Hid; rw [hx2.out, if_neg hab]
          have z3 : ¬ (a : Int) = (b : Int) := by omega
          have z1 : ((a : Int) != (b : Int)) = true := by simpa using z3
          have z2 : ((a : Int) == (b : Int)) = false := by simpa using z3
          clear hx2
          go_wp2_with fail
          go_quiet (fail)
          go_wp2_with fail
          go_quiet (fail)
          go_wp2_with fail
          go_ret
          exact ⟨by rw [hx3.out]; simp, below_drewN (below_drewN hB _) _⟩
      · have hkm : decide (j < pn) = false := decide_eq_false hlt
        have hx3 : Hid (R = false) := by
          unfold Hid
          rw [hx.out, List.drop_of_length_le (by have := hp'.out; omega)]
          simp [lexB]
        clear hx
        go_wp2_with fail
        go_ret
        exact ⟨by rw [hx3.out]; rfl, hB⟩
  · have hRl : Hid (R = decide (pn < qn)) := by unfold Hid; rw [← hR.out, beforeB, if_neg (by rw [hp, hq]; exact hne), hp, hq]
    have z3 : ¬ (pn : Int) = (qn : Int) := by omega
    have z1 : ((pn : Int) != (qn : Int)) = true := by simpa using z3
    have z2 : ((pn : Int) == (qn : Int)) = false := by simpa using z3
    clear hp hq hR
    go_enter Tryz.func52, Tryz.ntmps52
    go_wp2_with fail
    go_ret
    exact ⟨by rw [hRl.out]; simp, Below.refl _ _⟩
end Go.Proofs.YtdjmckjbibfecaaGreatDoor

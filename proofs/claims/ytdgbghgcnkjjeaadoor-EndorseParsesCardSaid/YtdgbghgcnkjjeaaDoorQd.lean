/- The walk of the document's Parse. -/
import Derived.Test.YtdgbghgcnkjjeaaDoorQc
namespace Go.Proofs.YtdgbghgcnkjjeaaDoor
open Go.RowKit Go.BigFrame

theorem _root_.Go.World.ownsRow.mono_base {w : World} {B B' : Nat} {e : TypeId} {size n : Nat} {v : Value} {xs : List Value} (h : w.ownsRow B e size v n xs) (hB : B' ≤ B) : w.ownsRow B' e size v n xs := by
  refine ⟨h.1, ?_⟩
  rcases h.2 with h | ⟨g, cap, cur, e1, e2, e3⟩
  · exact .inl h
  · exact .inr ⟨g, cap, cur, e1, Nat.le_trans hB e2, e3⟩
theorem rl_end {p : List End × Nat × Int} {L : List (List UInt8)} {acc : List End} (hp : p = parseRL L acc) (hL : L = [[]] ∨ L = []) : p = (acc, acc.length, 0) := by
  rcases hL with rfl | rfl <;> rw [hp] <;> simp [parseRL]
theorem rl_last {p : List End × Nat × Int} {t : List UInt8} {acc : List End} (hp : p = parseRL [t] acc) (ht : t ≠ []) : p = ([], acc.length, 2) := by
  rw [hp, parseRL, if_neg ht]
theorem rl_no {p : List End × Nat × Int} {t u : List UInt8} {r : List (List UInt8)} {acc : List End} (hp : p = parseRL (t :: u :: r) acc) (ho : (oneR t).2 = false) : p = ([], acc.length, 2) := by
  rw [hp, parseRL, if_neg (by rw [ho]; simp)]
theorem rl_yes {p : List End × Nat × Int} {t u : List UInt8} {r : List (List UInt8)} {acc : List End} (hp : p = parseRL (t :: u :: r) acc) (ho : (oneR t).2 = true) : p = parseRL (u :: r) (acc ++ [(oneR t).1]) := by
  rw [hp, parseRL, if_pos ho]
theorem drop_last {L : List (List UInt8)} {t : List UInt8} {k : Nat} (ht : L[k]? = some t) (hk : k + 1 = L.length) : L.drop k = [t] := by
  obtain ⟨h, e⟩ := List.getElem?_eq_some_iff.1 ht
  rw [List.drop_eq_getElem_cons h, e, List.drop_eq_nil_of_le (by omega)]
theorem drop_more {L : List (List UInt8)} {t : List UInt8} {k : Nat} (ht : L[k]? = some t) (hk : k + 1 < L.length) : ∃ u r, L.drop k = t :: u :: r ∧ L.drop (k + 1) = u :: r := by
  obtain ⟨h, e⟩ := List.getElem?_eq_some_iff.1 ht
  refine ⟨L[k + 1], L.drop (k + 2), ?_, ?_⟩
  · rw [List.drop_eq_getElem_cons h, e, List.drop_eq_getElem_cons hk]
  · rw [List.drop_eq_getElem_cons hk]

theorem parsed_yes {r : List End × Nat × Int} {w w' : World} {acc : List End} {A : Option Addr} {c k : Nat} (hr : r = (acc, acc.length, 0)) (hlen : acc.length = k) (hc : k ≤ c) (hE : EndsAt w' A acc) (hB : Below w.heap.size w w') :
    Parsed r w (.returned (.tuple #[.slice A k c, .int .i64 (k : Int), .int .i64 0])) w' := by
  subst hr; subst hlen; exact ⟨A, c, rfl, hc, hE, hB⟩
theorem parsed_no {r : List End × Nat × Int} {w w' : World} {acc : List End} {k : Nat} (hr : r = ([], acc.length, 2)) (hlen : acc.length = k) (hB : Below w.heap.size w w') :
    Parsed r w (.returned (.tuple #[.slice none 0 0, .int .i64 (k : Int), .int .i64 2])) w' := by
  subst hr; subst hlen; exact ⟨none, 0, rfl, Nat.le_refl _, by intro k x hk; simp at hk, hB⟩
theorem one_ok {t : List UInt8} {x : End} (h : oneR t = (x, true)) : x.okB = true := by
  unfold oneR at h
  simp only [Prod.mk.injEq, Bool.and_eq_true] at h
  rw [← h.1]; exact h.2.1

set_option maxRecDepth 100000 in
set_option maxHeartbeats 1600000 in
theorem parseR_any (s : ByteArray) (w : World) (hs : s.size ≤ 3000) :
    Calls Tryd.prog 11 #[.string s] w (Parsed (parseRL (parts 10 s.data.toList) []) w) := by
  obtain ⟨i0, hi, hz0, hz1, hz2⟩ := info_parts Tryd.info34
  have hpz : Hid (∀ y ∈ parts 10 s.data.toList, (mkB y).size ≤ 3000) := fun y hy => by
    have h1 := part_le 10 _ _ hy
    have h2 : (mkB y).size = y.length := size_list y
    have h3 : s.data.toList.length = s.size := by simp
    omega
  have hcount : (parts 10 s.data.toList).length ≤ 3001 := by
    have := parts_count 10 s.data.toList
    have h3 : s.data.toList.length = s.size := by simp
    omega
  obtain ⟨L, hL⟩ : ∃ L, Hid (L = parts 10 s.data.toList) := ⟨_, rfl⟩
  rw [← hL.out] at hcount hpz ⊢
  go_enter Tryd.func11, Tryd.ntmps11
  go_wp2_with fail
  refine (parts_own s 10 _ hs).mono ?_
  rintro e w1 ⟨vL, rfl, hA, hb1⟩
  rw [← hL.out] at hA
  obtain ⟨A, n, rfl, _, _⟩ := own_strs hA rfl
  have hA' := Lib.hid (hA.mono_base (Nat.zero_le _))
  clear hA
  obtain ⟨m, hm⟩ : ∃ m, Hid (L.length = m) := ⟨_, rfl⟩
  rw [List.length_map, hm.out] at hA' ⊢
  have hm1 : m ≤ 3001 := by rw [← hm.out]; exact hcount
  clear hcount
  have hB1 : Below w.heap.size w w1 := ((Below.refl _ w).alloc (Nat.le_refl _) _).trans (hb1.mono (by simp))
  have hown0 : Hid (w1.ownsRow w.heap.size 34 4 (.slice (some ⟨w.heap.size, 0, none⟩) 0 0) 0 (cellsOf [])) := own_below (own_new w 34 4) hb1
  go_wp2_with fail
  go_loopw [2, 3, 4, 5, 7, 8, 9] (fun _ _ _ v i _ _ wr => ∃ (k : Nat) (acc : List End), k ≤ m ∧ i = .int .i64 k ∧ Hid (acc.length = k) ∧ Hid (parseRL L [] = parseRL (L.drop k) acc) ∧ Hid (wr.ownsRow w.heap.size 34 4 v k (cellsOf acc)) ∧ Hid (Small acc) ∧ Hid (wr.ownsRow 0 9 1 (.slice A m n) m ((L.map mkB).map Value.string)) ∧ Below w.heap.size w wr) (fun _ _ _ _ i _ _ _ => m - (intOf i).toNat)
  case atStart => exact ⟨0, [], Nat.zero_le _, rfl, rfl, rfl, hown0, (by intro x hx; simp at hx), hA', hB1⟩
  case round =>
    obtain ⟨k, acc, hk, rfl, hlen, hpar, hown, hsm, hLs, hB⟩ := hrel
    by_cases hlt : k < m
    · obtain ⟨y, hy⟩ : ∃ y, L[k]? = some y := ⟨_, List.getElem?_eq_getElem (by have := hm.out; omega)⟩
      have hy' := Lib.hid hy
      clear hy
      have hysz := hpz.out y (List.mem_of_getElem? hy'.out)
      obtain ⟨A3, c3, e3, _, hE3⟩ := own_strs hLs.out (by rw [List.length_map]; exact hm.out)
      simp only [Value.slice.injEq] at e3
      obtain ⟨rfl, _, rfl⟩ := e3
      obtain ⟨bb, off, hAe, hc⟩ := hE3 k (mkB y) (by simp [hy'.out])
      clear hE3
      subst hAe
      by_cases hlast : k + 1 = m
      · have hkm : Hid (k + 1 = L.length) := by unfold Hid; rw [hm.out]; exact hlast
        have hkk : ((k : Int) == (m : Int) - 1) = true := by rw [beq_iff_eq]; omega
        by_cases hy0 : y = []
        · subst hy0
          obtain ⟨A2, c2, rfl, hc2, hE⟩ := own_ends hown.out hlen.out hsm.out
          have hE' := Lib.hid hE
          clear hE
          have hmt : mkB [] = ⟨#[]⟩ := rfl
          rw [hmt] at hc
          clear hmt
          go_wp2_with fail
          go_ret3
          exact parsed_yes (rl_end (hpar.out.trans (by rw [drop_last hy'.out hkm.out])) (.inl rfl)) hlen.out hc2 hE'.out hB
        · have hy1 : Hid (y ≠ []) := hy0
          have hn1 : ((mkB y).toList == []) = false := by rw [beq_eq_false_iff_ne, mkB, toList_mk]; exact hy0
          have hn2 : ¬ (mkB y).toList = [] := by rw [mkB, toList_mk]; exact hy0
          have hn3 : (mkB y).toList.isEmpty = false := by simpa using hn2
          clear hy0
          go_wp2_with fail
          refine (one_any (mkB y) _ hysz).mono ?_
          rintro e w2 ⟨rfl, hb2⟩
          have hB2 := hB.trans (hb2.mono hB.size)
          obtain ⟨x, ok, hone⟩ : ∃ x ok, Hid (oneR (mkB y).data.toList = (x, ok)) := ⟨_, _, rfl⟩
          rw [hone.out]
          unfold endV
          have hno := Lib.hid (rl_last (hpar.out.trans (by rw [drop_last hy'.out hkm.out])) hy1.out)
          cases ok
          all_goals
            go_wp2_with fail
            go_ret3
            exact parsed_no hno.out hlen.out (hB2.alloc hB2.size _)
      · have hkk : ((k : Int) == (m : Int) - 1) = false := by rw [beq_eq_false_iff_ne]; omega
        obtain ⟨u, r, hd1, hd2⟩ : ∃ u r, Hid (L.drop k = y :: u :: r) ∧ Hid (L.drop (k + 1) = u :: r) := drop_more hy'.out (by have := hm.out; omega)
        go_wp2_with fail
        refine (one_any (mkB y) _ hysz).mono ?_
        rintro e w2 ⟨rfl, hb2⟩
        have hB2 := hB.trans (hb2.mono hB.size)
        have hLs2 : Hid (w2.ownsRow 0 9 1 (.slice (some ⟨bb, off, none⟩) m n) m ((L.map mkB).map Value.string)) := own_below hLs.out hb2
        obtain ⟨x, ok, hone⟩ : ∃ x ok, Hid (oneR (mkB y).data.toList = (x, ok)) := ⟨_, _, rfl⟩
        rw [hone.out]
        unfold endV
        have hone' : Hid (oneR y = (x, ok)) := by have := hone.out; unfold Hid; simpa [mkB] using this
        have hown2 : Hid (w2.ownsRow w.heap.size 34 4 u5 k (cellsOf acc)) := own_below hown.out hb2
        cases ok with
        | false =>
          go_wp2_with fail
          go_ret3
          exact parsed_no (rl_no (hpar.out.trans (by rw [hd1.out])) (by rw [hone'.out])) hlen.out (hB2.alloc hB2.size _)
        | true =>
          have hxs := Lib.hid (okB_sizes (one_ok hone'.out))
          have hone2 : Hid (∀ u ∈ (#[Value.string x.frm, .string x.to, .int .i64 x.kind, .int .i64 x.day] : Array Value).toList, u.oneCell' = true) := cellsOf_one [x]
          have hq1 : Hid (k + 1 ≤ maxLen) := by unfold Hid maxLen; omega
          have hq2 : Hid ((k + 1) * 48 ≤ 140737488355328) := by unfold Hid; omega
          have hz1' : Hid (w.heap.size ≤ w2.heap.size) := hB2.size
          go_wp2_with (at_builtin; go_must (refine wpList_app3 w.heap.size rfl (.tmp 51) (.tmp 53) 22 rfl 34 i0 _ 4 48 Tryd.underlying22 hi hz0 hz1 hz2 rfl (by decide) _ k (cellsOf acc) rfl _ 1 #[.string x.frm, .string x.to, .int .i64 x.kind, .int .i64 x.day] rfl ((hown2.out.alloc _).alloc _) (blk_second w2 _ 34 _) rfl hone2.out hq1.out hq2.out (Nat.le_trans hz1'.out (by simp; omega)) ?_); intro v3 w3 ho3 hb3 hg3)
          have hB3 : Below w.heap.size w w3 := ((hB2.alloc hB2.size _).alloc (by simp; have := hB2.size; omega) _).trans hb3
          have hLs3 : Hid (w3.ownsRow 0 9 1 (.slice (some ⟨bb, off, none⟩) m n) m ((L.map mkB).map Value.string)) := ((hLs2.out.alloc _).alloc _).kept hg3 (own_apart hLs2.out hown2.out (by decide))
          have ho3' := Lib.hid ho3
          clear ho3 hg3
          go_wp2_with fail
          go_roundw
          case rel =>
            refine ⟨k + 1, acc ++ [x], by omega, by go_num, ?_, ?_, ?_, ?_, hLs3, hB3⟩
            · unfold Hid; rw [List.length_append, hlen.out]; rfl
            · unfold Hid
              rw [hd2.out]
              have := rl_yes (hpar.out.trans (by rw [hd1.out])) (by rw [hone'.out])
              rw [hone'.out] at this
              exact this
            · unfold Hid; simpa [cellsOf, End.cells] using ho3'.out
            · intro z hz
              rcases List.mem_append.1 hz with hz | hz
              · exact hsm.out z hz
              · obtain rfl : z = x := by simpa using hz
                have := hxs.out
                unfold maxLen; omega
          case measure => simp [intOf]; omega
    · obtain rfl : k = m := by omega
      obtain ⟨A2, c2, rfl, hc2, hE⟩ := own_ends hown.out hlen.out hsm.out
      have hE' := Lib.hid hE
      clear hE
      go_wp2_with fail
      go_ret3
      exact parsed_yes (rl_end (hpar.out.trans (by rw [List.drop_eq_nil_of_le (by have := hm.out; omega)])) (.inr rfl)) hlen.out hc2 hE'.out hB
end Go.Proofs.YtdgbghgcnkjjeaaDoor

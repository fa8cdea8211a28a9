/- The law ScriptJoins, walked. -/
import Derived.Test.YtheiogafjinihaaDoorSk
namespace Go.Proofs.YtheiogafjinihaaDoor
open Go Go.RowKit Go.BigFrame Go.Maps

theorem flat_get : ∀ (l : List Stp) (j : Nat) (u : Value), (l.flatMap stL)[j]? = some u → ∃ k i x, j = k * 6 + i ∧ i < 6 ∧ l[k]? = some x ∧ (stL x)[i]? = some u
  | [], j, u, h => by simp at h
  | y :: r, j, u, h => by
    have e : (stL y).length = 6 := rfl
    rw [List.flatMap_cons] at h
    by_cases hj : j < 6
    · rw [List.getElem?_append_left (by omega)] at h
      exact ⟨0, j, y, by omega, hj, rfl, h⟩
    · rw [List.getElem?_append_right (by omega), e] at h
      obtain ⟨k, i, x, h1, h2, h3, h4⟩ := flat_get r (j - 6) u h
      exact ⟨k + 1, i, x, by omega, h2, h3, h4⟩
theorem flat_len (l : List Stp) : (l.flatMap stL).length = l.length * 6 := by
  induction l with
  | nil => rfl
  | cons y r ih =>
    have e : (stL y).length = 6 := rfl
    rw [List.flatMap_cons, List.length_append, ih, e, List.length_cons]
    omega
theorem flat_one (l : List Stp) : ∀ u ∈ l.flatMap stL, u.oneCell' = true := by
  intro u hu
  obtain ⟨x, _, hx⟩ := List.mem_flatMap.1 hu
  simp only [stL, List.mem_cons, List.not_mem_nil, or_false] at hx
  rcases hx with rfl | rfl | rfl | rfl | rfl | rfl <;> rfl
theorem steps_reads {w : World} {A : Option Addr} {n : Nat} {l : List Stp} (h : StepsAt w A l) (hn : l.length = n) : Reads w w.heap.size 6 A n (l.flatMap stL) := by
  subst hn
  refine ⟨flat_len l, fun h0 => ?_⟩
  obtain ⟨x0, hx0⟩ : ∃ x, l[0]? = some x := ⟨_, List.getElem?_eq_getElem h0⟩
  obtain ⟨b, off, rfl, c0, _⟩ := h 0 x0 hx0
  refine ⟨_, rfl, World.block_lt_of_cell? w _ c0, fun j u hu => ?_⟩
  obtain ⟨k, i, x, rfl, hi, hx, hu⟩ := flat_get l j u hu
  obtain ⟨b', off', e, h0, h1, h2, h3, h4, h5⟩ := h k x hx
  have hadd : ∀ j, Addr.add ⟨b, off, none⟩ j = ⟨b, off + j, none⟩ := fun j => by unfold Addr.add; split <;> simp_all
  obtain ⟨rfl, rfl⟩ : b = b' ∧ off = off' := by injection e with e; injection e with e1 e2; exact ⟨e1, e2⟩
  rw [hadd, ← Nat.add_assoc]
  have hc : i = 0 ∨ i = 1 ∨ i = 2 ∨ i = 3 ∨ i = 4 ∨ i = 5 := by omega
  rcases hc with rfl | rfl | rfl | rfl | rfl | rfl
  · rw [Nat.add_zero, h0, ← hu]; rfl
  · rw [h1, ← hu]; rfl
  · rw [h2, ← hu]; rfl
  · rw [h3, ← hu]; rfl
  · rw [h4, ← hu]; rfl
  · rw [h5, ← hu]; rfl
section
variable {P : Program} {ops : Array Oper} {rest : List Oper} {o : Oper} {a : Act} {Q : Exit → Act → World → Prop} {W : World}
/-- A guarded operation that is wanted, as one without a guard. -/
theorem wpList_wanted (hw : Region.wanted o (yielded ops a.tmps) = true) (h : wpList P ops Q ({ o with guard := none } :: rest) a W) : wpList P ops Q (o :: rest) a W := by
  unfold wpList at h ⊢
  rw [if_pos hw]
  rw [if_pos (by rfl)] at h
  exact h
theorem wpList_appG (B : Nat) (hw : Region.wanted o (yielded ops a.tmps) = true) (s x : Operand) (t : TypeId) (ho : o.op = .call { callee := .builtin .append, args := #[s, x], argTypes := #[t, t] })
    (e : TypeId) (i : TypeInfo) (z : Value) (size bytes : Nat) (ht : P.underlying t = some (.slice e)) (hi : P.info? e = some i) (hz : i.zero = some z)
    (hsize : i.size = size) (hby : i.bytes = bytes) (hzs : z.cells.size = size) (hsz : 0 < size)
    (v : Value) (m : Nat) (xs : List Value) (hs : a.eval s = v) (A : Option Addr) (n c : Nat) (news : List Value) (hx : a.eval x = .slice A n c)
    (hv : W.ownsRow B e size v m xs) (hr : Reads W W.heap.size size A n news) (h1 : ∀ u ∈ news, u.oneCell' = true) (h63 : m + n ≤ maxLen) (hbytes : (m + n) * bytes ≤ 140737488355328) (hB : B ≤ W.heap.size)
    (h : ∀ v' w', w'.ownsRow B e size v' (m + n) (xs ++ news) → Below B W w' → wpList P ops Q rest (a.put o.dst v') w') : wpList P ops Q (o :: rest) a W := by
  refine wpList_wanted hw ?_
  refine wpList_append_any (o := { o with guard := none }) _ rfl s x t ho B e i z size bytes ht hi hz hsize hby hzs hsz v m xs hs hv W.heap.size A n c news hx hr h1 h63 hbytes hB ?_
  intro v' w' ho' hgr hvb
  refine h v' w' ho' ((Below.refl _ _).grown hgr hB (fun k hk => ?_))
  rcases hv.2 with ⟨rfl, _⟩ | ⟨g', cap, cur, rfl, hgb, _⟩
  · simp [Value.ownBlock] at hk
  · simp [Value.ownBlock] at hk; omega
end
theorem wrap_two {n n' : Nat} (h : n ≤ 61) (h' : n' ≤ 61) : wrap64 ((n : Int) + (n' : Int)) = (n : Int) + (n' : Int) ∧ IntKind.i64.wrap ((n : Int) + (n' : Int)) = (n : Int) + (n' : Int) := ⟨wrapI (by omega) (by omega), IntWalk.i64_in _ (by omega)⟩
theorem app_short {s u : List UInt8} {n m : Nat} (h : s.length ≤ n * 500) (hn : n ≤ 61) (hm : u.length = m) (h' : ¬ 200 < m) : (s ++ u).length < 4294967281 := by rw [List.length_append]; omega
theorem cat_bytes (s t : List UInt8) : (⟨s.toArray⟩ : ByteArray) ++ ⟨t.toArray⟩ = ⟨(s ++ t).toArray⟩ := ByteArray.ext (by rw [ByteArray.data_append]; simp)
set_option maxRecDepth 100000 in
set_option maxHeartbeats 3200000 in
theorem joins_any (A A' : Option Addr) (n c n' c' : Nat) (l m : List Stp) (u : List UInt8) (w : World) (hn : n ≤ maxLen) (hl : Hid (l.length = n)) (hA : Hid (StepsAt w A l)) (hf : Hid (∀ x ∈ l, Fine x))
    (hn' : n' ≤ maxLen) (hm : Hid (m.length = n')) (hM : Hid (StepsAt w A' m)) (hg : Hid (∀ x ∈ m, Fine x)) (he : Hid (Env w)) :
    Calls Tryd.prog 6 #[.slice A n c, .slice A' n' c', .string ⟨u.toArray⟩] w fun e w' => e = .returned (.bool true) ∧ Below w.heap.size w w' := by
  obtain ⟨i0, hi, hz0, hz1, hz2⟩ := info_parts Tryd.info49
  obtain ⟨ub, hub⟩ : ∃ b : ByteArray, Hid ((⟨u.toArray⟩ : ByteArray) = b) := ⟨_, rfl⟩
  have hsz : Hid (ub.size = u.length) := by unfold Hid; rw [← hub.out]; simp [ByteArray.size]
  have hlst : Hid (ub.data.toList = u) := by unfold Hid; rw [← hub.out]
  rw [hub.out]
  have hn0 := hn
  have hn0' := hn'
  unfold maxLen at hn0 hn0'
  have haw := Lib.hid (awake_any w he)
  go_enter Tryd.func6, Tryd.ntmps6
  go_wp2_with fail
  refine haw.out.mono ?_
  rintro e w1 ⟨rfl, hb1⟩
  have hB1 := Lib.hid hb1
  have hfe := Lib.hid (few_any A n c l w1 hn hl (Lib.hid (hA.out.below hb1)) hf)
  clear haw hb1
  go_wp2_with fail
  refine hfe.out.mono ?_
  rintro e w2 ⟨rfl, hb2⟩
  have hB2 := Lib.hid (hB1.out.trans (hb2.mono hB1.out.size))
  clear hfe hb2 hB1
  cases hfl : fewS l with
  | false =>
    go_wp2_with fail
    go_ret
    exact ⟨rfl, hB2.out⟩
  | true =>
    have hn61 : n ≤ 61 := by have h1 := fewS_len hfl; have := hl.out; omega
    have hfe := Lib.hid (few_any A' n' c' m w2 hn' hm (Lib.hid (hM.out.below hB2.out)) hg)
    go_wp2_with fail
    refine hfe.out.mono ?_
    rintro e w3 ⟨rfl, hb3⟩
    have hB3 := Lib.hid (hB2.out.trans (hb3.mono hB2.out.size))
    clear hfe hb3 hB2
    cases hfm : fewS m with
    | false =>
      go_wp2_with fail
      go_ret
      exact ⟨rfl, hB3.out⟩
    | true =>
      have hn61' : n' ≤ 61 := by have h1 := fewS_len hfm; have := hm.out; omega
      by_cases hs : 200 < ub.size
      · have d1 : decide ((200 : Int) < (ub.size : Int)) = true := by simp; omega
        go_wp2_with fail
        go_ret
        exact ⟨rfl, hB3.out⟩
      · have d1 : decide ((200 : Int) < (ub.size : Int)) = false := by simp; omega
        have hpr := Lib.hid (print_any A n c l w3 (by omega) hl (Lib.hid (hA.out.below hB3.out)) hf (Lib.hid (fewS_short hfl)) (Lib.hid (he.out.below hB3.out)))
        go_wp2_with fail
        refine hpr.out.mono ?_
        rintro e w4 ⟨rfl, hb4⟩
        have hB4 := Lib.hid (hB3.out.trans (hb4.mono hB3.out.size))
        clear hpr hb4 hB3
        have hpr := Lib.hid (print_any A' n' c' m w4 (by omega) hm (Lib.hid (hM.out.below hB4.out)) hg (Lib.hid (fewS_short hfm)) (Lib.hid (he.out.below hB4.out)))
        go_wp2_with fail
        refine hpr.out.mono ?_
        rintro e w5 ⟨rfl, hb5⟩
        have hB5 := Lib.hid (hB4.out.trans (hb5.mono hB4.out.size))
        clear hpr hb5 hB4
        cases hll : linesM l with
        | none =>
          rw [printM_none hll]
          go_wp2_with fail
          go_ret
          exact ⟨rfl, hB5.out⟩
        | some s =>
          rw [printM_some hll]
          cases hlm : linesM m with
          | none =>
            rw [printM_none hlm]
            go_wp2_with fail
            go_ret
            exact ⟨rfl, hB5.out⟩
          | some t =>
            rw [printM_some hlm]
            have hsn := lines_len hll
            have htn := lines_len hlm
            have hcat := cat_bytes s t
            have q7 : Hid ((s ++ u).length < 4294967281) := Lib.hid (app_short hsn (by rw [hl.out]; exact hn61) hsz.out.symm hs)
            have hll' := hl.out
            have hlm' := hm.out
            have hlen : (l ++ m).length = n + n' := by rw [List.length_append]; omega
            have hps := Lib.hid (parse_any (s ++ t) w5 (he.out.below hB5.out) (by rw [List.length_append]; omega))
            rw [parse_back (lines_app hll hlm) (by omega), hlen] at hps
            go_wp2_with fail
            refine hps.out.mono ?_
            rintro e w6 ⟨xv, rfl, hxrow, hb6⟩
            obtain ⟨xA, xc, rfl⟩ := own_form2 hxrow
            simp only at hxrow
            rw [hlen] at hxrow
            have hxA := Lib.hid (own_steps hxrow hlen)
            have hB6 := Lib.hid (hB5.out.trans (hb6.mono hB5.out.size))
            clear hps hb6 hxrow hB5
            obtain ⟨w7, hw7⟩ : ∃ W, Hid (w6.alloc (.cells #[] 49) = W) := ⟨_, rfl⟩
            have hown7 : Hid (w7.ownsRow w6.heap.size 49 6 (.slice (some ⟨w6.heap.size, 0, none⟩) 0 0) 0 []) := by rw [← hw7.out]; exact Lib.hid (own_new w6 _ 6)
            have hb7 : Hid (Below w6.heap.size w6 w7) := by rw [← hw7.out]; exact (Below.refl _ w6).alloc (Nat.le_refl _) _
            have hR7 : Hid (Reads w7 w7.heap.size 6 A n (l.flatMap stL)) := Lib.hid (steps_reads ((hA.out.below hB6.out).below hb7.out) hl.out)
            have h1l := Lib.hid (flat_one l)
            have h1m := Lib.hid (flat_one m)
            have q1 : Hid (0 + n ≤ maxLen) := by unfold Hid maxLen; omega
            have q2 : Hid (0 + n + n' ≤ maxLen) := by unfold Hid maxLen; omega
            have q3 : Hid ((0 + n) * 64 ≤ 140737488355328) := by unfold Hid; omega
            have q4 : Hid ((0 + n + n') * 64 ≤ 140737488355328) := by unfold Hid; omega
            have q5 : n + n' ≤ maxLen := by have := q2.out; rwa [Nat.zero_add] at this
            obtain ⟨wr1, wr2⟩ := wrap_two hn61 hn61'
            clear hn0 hn0'
            go_wp2_with (first | rw [hw7.out] | (at_builtin; (refine wpList_appG w6.heap.size (by rfl) (.tmp 70) (.tmp 71) 35 rfl 49 i0 _ 6 64 Tryd.underlying35 hi hz0 hz1 hz2 rfl (by decide) _ 0 [] rfl A n c (l.flatMap stL) rfl hown7.out hR7.out h1l.out q1.out q3.out hb7.out.size ?_); intro v8 w8 ho8 hb8; have hO8 := Lib.hid ho8; have hB8 := Lib.hid (hb7.out.trans hb8); have hR8 := Lib.hid (steps_reads ((hM.out.below hB6.out).below hB8.out) hm.out); clear ho8 hb8) | (at_builtin; go_must (refine wpList_appG w6.heap.size (by rfl) (.tmp 72) (.tmp 73) 35 rfl 49 i0 _ 6 64 Tryd.underlying35 hi hz0 hz1 hz2 rfl (by decide) v8 (0 + n) ([] ++ l.flatMap stL) rfl A' n' c' (m.flatMap stL) rfl hO8.out hR8.out h1m.out q2.out q4.out hB8.out.size ?_); intro v9 w9 ho9 hb9; rw [Nat.zero_add] at ho9; obtain ⟨A9, c9, rfl⟩ := own_form2 ho9; have hO9 := Lib.hid ho9; have hB9 := Lib.hid (hB8.out.trans hb9); clear ho9 hb9))
            have hxA9 := Lib.hid (hxA.out.below hB9.out)
            have hO9' : w9.ownsRow w6.heap.size 49 6 (.slice A9 (n + n') c9) (n + n') ((l ++ m).flatMap stL) := by
              rw [List.flatMap_append]
              exact hO9.out
            have hA9 := Lib.hid (own_steps hO9' hlen)
            have hsm := Lib.hid (same_any xA A9 (n + n') xc (n + n') c9 (l ++ m) (l ++ m) w9 q5 q5 (Lib.hid hlen) (Lib.hid hlen) hxA9 hA9)
            rw [sameS_refl] at hsm
            refine hsm.out.mono ?_
            rintro e w10 ⟨rfl, hb10⟩
            have hB10 := Lib.hid (hB6.out.trans ((hB9.out.trans (hb10.mono hB9.out.size)).mono hB6.out.size))
            clear wr1 wr2 hsm hb10 hxA9 hA9 hO9' hO9 hB9 hR8 hO8 hB8 hxA hR7 hb7 hown7 hw7 h1l h1m
            go_wp2_with fail
            go_loopg [14] ub.size (fun gg i wr => ∃ k : Nat, k ≤ ub.size ∧ gg = ub.size - k ∧ i = .int .i64 k ∧ w10 = wr ∧ Hid ((10 : UInt8) ∉ u.take k))
            case atStart => exact ⟨0, Nat.zero_le _, by simp, rfl, rfl, Lib.hid (by simp)⟩
            case round =>
              obtain ⟨k, hk, hg, rfl, rfl, hno⟩ := hrel
              have hg' := Lib.hid hg
              clear hg
              by_cases hlt : k < ub.size
              · have i1 : (k : Int) < (ub.size : Int) := by omega
                have i2 : (0 : Int) ≤ (k : Int) := by omega
                have hget : Hid (u[k]? = some ub[k]) := by
                  unfold Hid
                  have h1 : ub.data.toList[k]? = some ub[k] := by rw [List.getElem?_eq_getElem (by simpa using hlt)]; rfl
                  rw [hlst.out] at h1
                  exact h1
                obtain ⟨tb, htb⟩ : ∃ b, Hid (((ub[k].toNat : Int) == 10) = b) := ⟨_, Lib.hid rfl⟩
                have hq := htb.out
                cases tb with
                | true =>
                  go_wp2_with fail
                  go_ret
                  exact ⟨rfl, hB10.out⟩
                | false =>
                  go_wp2_with fail
                  go_roundg (ub.size - (k + 1))
                  case measure => have := hg'.out; omega
                  case rel =>
                    refine ⟨k + 1, by omega, rfl, by go_num, rfl, Lib.hid ?_⟩
                    rw [List.take_add_one, hget.out]
                    intro hc
                    rcases List.mem_append.1 hc with h1 | h1
                    · exact hno.out h1
                    · simp only [Option.toList_some, List.mem_singleton] at h1
                      have h2 := htb.out
                      rw [← h1] at h2
                      cases h2
              · have hno' : (10 : UInt8) ∉ u := by
                  have h1 := hno.out
                  rwa [List.take_of_length_le (by have := hsz.out; omega)] at h1
                have hcat2 : (⟨s.toArray⟩ : ByteArray) ++ ub = ⟨(s ++ u).toArray⟩ := by rw [← hub.out]; exact cat_bytes s u
                have hps := Lib.hid (parse_any (s ++ u) w10 (he.out.below hB10.out) q7.out)
                have i1 : ¬ (k : Int) < (ub.size : Int) := by omega
                by_cases hu0 : u = []
                · have hem : ub.toList.isEmpty = true := by rw [ByteArray.toList_eq, hlst.out, hu0]; rfl
                  clear hps
                  have hps := Lib.hid (parse_any s w10 (he.out.below hB10.out) (by omega))
                  rw [parse_back hll (by omega), hll'] at hps
                  clear hno' hcat
                  go_wp2_with fail
                  refine hps.out.mono ?_
                  rintro e w11 ⟨yv, rfl, hyrow, hb11⟩
                  obtain ⟨yA, yc, rfl⟩ := own_form2 hyrow
                  have hB11 := Lib.hid (hB10.out.trans (hb11.mono hB10.out.size))
                  clear hps hb11 hyrow
                  go_wp2_with fail
                  go_ret
                  exact ⟨rfl, hB11.out⟩
                · have hem : ub.toList.isEmpty = false := by rw [ByteArray.toList_eq, hlst.out]; cases u with
                    | nil => exact absurd rfl hu0
                    | cons _ _ => rfl
                  rw [parse_rest hll (by omega) hno' hu0, hll'] at hps
                  clear hno' hcat
                  go_wp2_with fail
                  refine hps.out.mono ?_
                  rintro e w11 ⟨yv, rfl, hyrow, hb11⟩
                  obtain ⟨yA, yc, rfl⟩ := own_form2 hyrow
                  have hB11 := Lib.hid (hB10.out.trans (hb11.mono hB10.out.size))
                  clear hps hb11 hyrow
                  go_wp2_with fail
                  go_ret
                  exact ⟨rfl, hB11.out⟩
end Go.Proofs.YtheiogafjinihaaDoor

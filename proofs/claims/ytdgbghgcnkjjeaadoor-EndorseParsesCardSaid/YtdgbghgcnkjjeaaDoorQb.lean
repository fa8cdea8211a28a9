/- Walks of the document's Number and Parts. -/
import Derived.Test.YtdgbghgcnkjjeaaDoorQa
namespace Go.Proofs.YtdgbghgcnkjjeaaDoor
open Go.RowKit Go.BigFrame

theorem numR_step {r : Option Nat} {s : ByteArray} {k acc : Nat} (h : k < s.size) (hr : r = numRLoop acc (s.data.toList.drop k)) :
    r = if s[k].toNat < 48 ∨ 57 < s[k].toNat then none else numRLoop (acc * 10 + (s[k].toNat - 48)) (s.data.toList.drop (k + 1)) := by
  have hk : k < s.data.toList.length := by simpa using h
  have he : s.data.toList[k] = s[k] := by rfl
  rw [hr, List.drop_eq_getElem_cons hk, numRLoop, he]
theorem numRI_no {s : ByteArray} (h1 : ¬ s.size < 1) (h9 : ¬ 9 < s.size) (h : numRLoop 0 s.data.toList = none) : numRI s.data.toList = -1 := by
  have hl : s.data.toList.length = s.size := by simp
  rw [numRI, if_neg (by omega), h]
theorem numRI_yes {s : ByteArray} {n : Nat} (h1 : ¬ s.size < 1) (h9 : ¬ 9 < s.size) (h : numRLoop 0 s.data.toList = some n) : numRI s.data.toList = n := by
  have hl : s.data.toList.length = s.size := by simp
  rw [numRI, if_neg (by omega), h]

set_option maxRecDepth 100000 in
set_option maxHeartbeats 800000 in
theorem numR_any (s : ByteArray) (w : World) (hs : s.size ≤ maxLen) :
    Calls Tryd.prog 33 #[.string s] w fun e w' => e = .returned (.int .i64 (numRI s.data.toList)) ∧ w = w' := by
  unfold maxLen at hs
  have hl : s.data.toList.length = s.size := by simp
  have hl' := Lib.hid hl
  clear hl
  by_cases h1 : s.size < 1
  · go_enter Tryd.func33, Tryd.ntmps33
    go_wp2
    go_ret
    exact ⟨retI (by rw [numRI, if_pos (.inl (by rw [hl'.out]; exact h1))]), rfl⟩
    all_goals (exfalso; omega)
  by_cases h9 : 9 < s.size
  · go_enter Tryd.func33, Tryd.ntmps33
    go_wp2
    go_ret
    exact ⟨retI (by rw [numRI, if_pos (.inr (by rw [hl'.out]; exact h9))]), rfl⟩
    all_goals (exfalso; omega)
  go_enter Tryd.func33, Tryd.ntmps33
  go_wp2
  go_loop [3, 4] (fun n i => ∃ k acc : Nat, k ≤ s.size ∧ acc < 10 ^ k ∧ i = .int .i64 k ∧ n = .int .i64 acc ∧ Hid (numRLoop 0 s.data.toList = numRLoop acc (s.data.toList.drop k))) (fun _ i => s.size - (intOf i).toNat)
  case atStart => exact ⟨0, 0, Nat.zero_le _, by simp, rfl, rfl, by unfold Hid; rfl⟩
  case round =>
    obtain ⟨k, acc, hk, hac, rfl, rfl, hnum⟩ := hrel
    have hac' : acc < 1000000000 := Nat.lt_of_lt_of_le hac (by have : 10 ^ k ≤ 10 ^ 9 := Nat.pow_le_pow_right (by omega) (by omega); simpa using this)
    have hac2 := Lib.hid hac
    clear hac
    by_cases hlt : k < s.size
    · have hst := Lib.hid (numR_step hlt hnum.out)
      have hbl : s[k].toNat < 256 := s[k].toNat_lt
      go_wp2
      · go_ret
        exact ⟨retI (numRI_no h1 h9 (by rw [hst.out, if_pos (by omega)])).symm, rfl⟩
      · go_round
        case rel => exact ⟨k + 1, acc * 10 + (s[k].toNat - 48), by omega, by have := hac2.out; rw [Nat.pow_succ]; omega, by go_num, congrArg (Value.int .i64) (by omega), by unfold Hid; rw [hst.out, if_neg (by omega)]⟩
        case measure => simp [intOf]; omega
      · go_ret
        exact ⟨retI (numRI_no h1 h9 (by rw [hst.out, if_pos (by omega)])).symm, rfl⟩
    · go_wp2
      go_ret
      exact ⟨retI (numRI_yes h1 h9 (by rw [hnum.out, List.drop_eq_nil_of_le (by simpa using hlt)]; rfl)).symm, rfl⟩

theorem Tryd.info9 : (Tryd.prog.info? 9).map (fun i => (i.zero, i.size, i.bytes)) = some (some (.string ⟨#[]⟩), 1, 16) := by kernel_rfl
def mkB (l : List UInt8) : ByteArray := ⟨l.toArray⟩
def StrsAt (w : World) (A : Option Addr) (l : List ByteArray) : Prop := ∀ k t, l[k]? = some t → ∃ b off, A = some ⟨b, off, none⟩ ∧ w.cell? ⟨b, off + k, none⟩ = some (.string t)
theorem StrsAt.below {w w' : World} {A : Option Addr} {l : List ByteArray} (h : StrsAt w A l) (hb : Below w.heap.size w w') : StrsAt w' A l := by
  intro k t hk
  obtain ⟨b, off, e, hc⟩ := h k t hk
  exact ⟨b, off, e, by rw [hb.cell (World.block_lt_of_cell? w _ hc)]; exact hc⟩
theorem own_strs {w : World} {base m : Nat} {v : Value} {l : List ByteArray} (h : w.ownsRow base 9 1 v m (l.map Value.string)) (hl : l.length = m) : ∃ A' c', v = .slice A' m c' ∧ m ≤ c' ∧ StrsAt w A' l := by
  rcases h.2 with ⟨rfl, rfl⟩ | ⟨g, cap, cur, rfl, _, _, hnc, _⟩
  · have : l = [] := List.eq_nil_of_length_eq_zero hl
    subst this
    exact ⟨_, _, rfl, Nat.le_refl _, by intro k x hk; simp at hk⟩
  · refine ⟨_, _, rfl, hnc, fun k t hk => ?_⟩
    refine ⟨g, 0, rfl, ?_⟩
    have := h.cells (g := g) rfl k (.string t) (by simp [hk])
    rwa [show Addr.add ⟨g, 0, none⟩ k = ⟨g, 0 + k, none⟩ by unfold Addr.add; split <;> simp_all] at this
theorem own_new (w : World) (e : TypeId) (size : Nat) : (w.alloc (.cells #[] e)).ownsRow w.heap.size e size (.slice (some ⟨w.heap.size, 0, none⟩) 0 0) 0 [] :=
  ⟨by simp, .inr ⟨_, 0, #[], rfl, Nat.le_refl _, heap_alloc_new w _, Nat.le_refl _, by simp [maxLen], by simp, by simp⟩⟩

/-- What is left of a text, from the place at which the part that is being read begins. -/
structure PartsRel (c : UInt8) (s : ByteArray) (k f : Nat) (acc : List ByteArray) : Prop where
  some : acc.length ≤ k
  rest : (k ≤ s.size ∧ f ≤ k ∧ parts c s.data.toList = acc.map (·.data.toList) ++ parts c (s.data.toList.drop f) ∧ c ∉ (s.data.toList.drop f).take (k - f)) ∨ (k = s.size + 1 ∧ parts c s.data.toList = acc.map (·.data.toList))
theorem parts_start (c : UInt8) (s : ByteArray) : PartsRel c s 0 0 [] := ⟨by simp, .inl ⟨by omega, by omega, by simp, by simp⟩⟩
theorem extract_list (s : ByteArray) (f k : Nat) : (s.extract f k).data.toList = (s.data.toList.drop f).take (k - f) := by
  rw [ByteArray.data_extract, Array.toList_extract, List.extract_eq_take_drop]
theorem parts_last {c : UInt8} {s : ByteArray} {f : Nat} {acc : List ByteArray} (h : PartsRel c s s.size f acc) : PartsRel c s (s.size + 1) (s.size + 1) (acc ++ [s.extract f s.size]) := by
  refine ⟨by have := h.some; simp; omega, .inr ⟨rfl, ?_⟩⟩
  rcases h.rest with ⟨_, hf, hp, hfree⟩ | ⟨h, _⟩
  · have hlen : (s.data.toList.drop f).length = s.size - f := by simp
    have e1 : (s.data.toList.drop f).take (s.size - f) = s.data.toList.drop f := List.take_of_length_le (by omega)
    rw [e1] at hfree
    rw [hp, parts_free hfree, List.map_append, List.map_cons, List.map_nil, extract_list, e1]
  · omega
theorem parts_hit {c : UInt8} {s : ByteArray} {k f : Nat} {acc : List ByteArray} (h : PartsRel c s k f acc) (hk : k < s.size) (hc : s[k] = c) : PartsRel c s (k + 1) (k + 1) (acc ++ [s.extract f k]) := by
  refine ⟨by have := h.some; simp; omega, .inl ⟨by omega, by omega, ?_, by simp⟩⟩
  rcases h.rest with ⟨_, hf, hp, hfree⟩ | ⟨h, _⟩
  · have hkl : k < s.data.toList.length := by simpa using hk
    have e1 : s.data.toList.drop f = (s.data.toList.drop f).take (k - f) ++ c :: s.data.toList.drop (k + 1) := by
      have h2 : (s.data.toList.drop f).drop (k - f) = c :: s.data.toList.drop (k + 1) := by
        rw [List.drop_drop, show f + (k - f) = k by omega, List.drop_eq_getElem_cons hkl, show s.data.toList[k] = c from hc]
      rw [← h2, List.take_append_drop]
    rw [hp, e1, parts_cut _ hfree, List.map_append, List.map_cons, List.map_nil, extract_list]; simp
  · omega
theorem parts_pass {c : UInt8} {s : ByteArray} {k f : Nat} {acc : List ByteArray} (h : PartsRel c s k f acc) (hk : k < s.size) (hc : s[k] ≠ c) : PartsRel c s (k + 1) f acc := by
  refine ⟨by have := h.some; omega, ?_⟩
  rcases h.rest with ⟨_, hf, hp, hfree⟩ | ⟨h, _⟩
  · refine .inl ⟨by omega, by omega, hp, ?_⟩
    have hkl : k - f < (s.data.toList.drop f).length := by simp; omega
    rw [show k + 1 - f = (k - f) + 1 by omega, List.take_succ_eq_append_getElem hkl, List.mem_append]
    rintro (h | h)
    · exact hfree h
    · have : (s.data.toList.drop f)[k - f] = s[k] := by
        rw [List.getElem_drop]
        have : f + (k - f) = k := by omega
        simp only [this]; rfl
      rw [this] at h
      exact hc (by simpa using (List.mem_singleton.1 h).symm)
  · omega
theorem parts_done {c : UInt8} {s : ByteArray} {k f : Nat} {acc : List ByteArray} (h : PartsRel c s k f acc) (hk : s.size < k) : acc = (parts c s.data.toList).map mkB := by
  rcases h.rest with ⟨h, _⟩ | ⟨_, h⟩
  · omega
  · rw [h, List.map_map]
    have : (mkB ∘ fun (x : ByteArray) => x.data.toList) = id := by funext x; cases x; simp [mkB]
    rw [this]; simp
theorem parts_from {c : UInt8} {s : ByteArray} {k f : Nat} {acc : List ByteArray} (h : PartsRel c s k f acc) (hk : k ≤ s.size) : f ≤ k := by
  rcases h.rest with ⟨_, h, _⟩ | ⟨h, _⟩
  · exact h
  · omega

def Cut (c : UInt8) (s : ByteArray) (w : World) (e : Ending) (w' : World) : Prop :=
  ∃ A n, e = .returned (.slice A ((parts c s.data.toList).map mkB).length n) ∧ StrsAt w' A ((parts c s.data.toList).map mkB) ∧ Below w.heap.size w w'

def CutO (c : UInt8) (s : ByteArray) (w : World) (e : Ending) (w' : World) : Prop :=
  ∃ v, e = .returned v ∧ w'.ownsRow w.heap.size 9 1 v ((parts c s.data.toList).map mkB).length (((parts c s.data.toList).map mkB).map Value.string) ∧ Below w.heap.size w w'

set_option maxRecDepth 100000 in
set_option maxHeartbeats 1600000 in
theorem parts_own (s : ByteArray) (c : UInt8) (w : World) (hs : s.size ≤ 3000) :
    Calls Tryd.prog 21 #[.string s, .int .u8 (c.toNat : Int)] w (CutO c s w) := by
  obtain ⟨i0, hi, hz0, hz1, hz2⟩ := info_parts Tryd.info9
  go_enter Tryd.func21, Tryd.ntmps21
  go_wp2
  go_loopw [5, 6, 7] (fun v f i wr => ∃ (k fr : Nat) (acc : List ByteArray), k ≤ s.size + 1 ∧ fr ≤ s.size + 1 ∧ i = .int .i64 k ∧ f = .int .i64 fr ∧ Hid (PartsRel c s k fr acc) ∧ Hid (wr.ownsRow w.heap.size 9 1 v acc.length (acc.map Value.string)) ∧ Below w.heap.size w wr) (fun _ _ i _ => s.size + 1 - (intOf i).toNat)
  case atStart => exact ⟨0, 0, [], by omega, by omega, rfl, rfl, parts_start c s, own_new w 9 1, (Below.refl _ _).alloc (Nat.le_refl _) _⟩
  case round =>
    obtain ⟨k, fr, acc, hk, hfr, rfl, rfl, hrl, hown, hB⟩ := hrel
    have hal := Lib.hid hrl.out.some
    have hn1 : Hid (acc.length + 1 ≤ maxLen) := by have := hal.out; unfold Hid maxLen; omega
    have hn2 : Hid ((acc.length + 1) * 16 ≤ 140737488355328) := by have := hal.out; unfold Hid; omega
    have hz1' : Hid (w.heap.size ≤ wr.heap.size) := hB.size
    by_cases hle : k ≤ s.size
    · have hfk : fr ≤ k := parts_from hrl.out hle
      by_cases hlt : k < s.size
      · have hne : ¬ k = s.size := by omega
        by_cases hc : s[k] = c
        · have hc1 : Hid (s[k] = c) := hc
          have hc2 : s[k].toNat = c.toNat := by rw [hc]
          have hc3 : (((s[k].toNat : Nat) : Int) == (c.toNat : Int)) = true := by rw [hc]; simp
          clear hc
          have hone : Hid (∀ u ∈ (#[Value.string (s.extract fr k)] : Array Value).toList, u.oneCell' = true) := by unfold Hid; simp [Value.oneCell']
          go_wp2_with (at_builtin; go_must (refine wpList_app2 w.heap.size rfl (.tmp 26) (.tmp 31) 52 rfl 9 i0 _ 1 16 Tryd.underlying52 hi hz0 hz1 hz2 rfl (by decide) _ acc.length (acc.map Value.string) rfl _ 1 #[.string (s.extract fr k)] rfl (hown.out.alloc _) (Blk.new _ _ _) rfl hone.out hn1.out hn2.out (Nat.le_trans hz1'.out (by simp)) ?_); intro v2 w2 ho2 hb2)
          have hB2 : Below w.heap.size w w2 := (hB.alloc hB.size _).trans hb2
          have ho2' := Lib.hid ho2
          clear ho2
          go_wp2_with fail
          go_roundw
          case rel => exact ⟨k + 1, k + 1, acc ++ [s.extract fr k], by omega, by omega, by go_num, by go_num, parts_hit hrl.out hlt hc1.out, by unfold Hid; simpa using ho2'.out, hB2⟩
          case measure => simp [intOf]; omega
        · have hc1 : Hid (s[k] ≠ c) := hc
          have hc2 : ¬ s[k].toNat = c.toNat := fun h => hc (UInt8.toNat_inj.1 h)
          have hc3 : (((s[k].toNat : Nat) : Int) == (c.toNat : Int)) = false := by rw [beq_eq_false_iff_ne]; omega
          clear hc
          go_wp2_with fail
          go_roundw
          case rel => exact ⟨k + 1, fr, acc, by omega, by omega, by go_num, rfl, parts_pass hrl.out hlt hc1.out, hown, hB⟩
          case measure => simp [intOf]; omega
      · obtain rfl : k = s.size := by omega
        have hone : Hid (∀ u ∈ (#[Value.string (s.extract fr s.size)] : Array Value).toList, u.oneCell' = true) := by unfold Hid; simp [Value.oneCell']
        go_wp2_with (at_builtin; go_must (refine wpList_app2 w.heap.size rfl (.tmp 26) (.tmp 31) 52 rfl 9 i0 _ 1 16 Tryd.underlying52 hi hz0 hz1 hz2 rfl (by decide) _ acc.length (acc.map Value.string) rfl _ 1 #[.string (s.extract fr s.size)] rfl (hown.out.alloc _) (Blk.new _ _ _) rfl hone.out hn1.out hn2.out (Nat.le_trans hz1'.out (by simp)) ?_); intro v2 w2 ho2 hb2)
        have hB2 : Below w.heap.size w w2 := (hB.alloc hB.size _).trans hb2
        have ho2' := Lib.hid ho2
        clear ho2
        go_wp2_with fail
        go_roundw
        case rel => exact ⟨s.size + 1, s.size + 1, acc ++ [s.extract fr s.size], by omega, by omega, by go_num, by go_num, parts_last hrl.out, by unfold Hid; simpa using ho2'.out, hB2⟩
        case measure => simp [intOf]
    · go_wp2_with fail
      go_ret
      have hd := parts_done hrl.out (by omega)
      unfold CutO
      rw [← hd]
      exact ⟨_, rfl, hown.out, hB⟩
theorem parts_any (s : ByteArray) (c : UInt8) (w : World) (hs : s.size ≤ 3000) :
    Calls Tryd.prog 21 #[.string s, .int .u8 (c.toNat : Int)] w (Cut c s w) := by
  refine (parts_own s c w hs).mono ?_
  rintro e w' ⟨v, rfl, ho, hB⟩
  obtain ⟨A, n, rfl, _, hE⟩ := own_strs ho rfl
  exact ⟨A, n, rfl, hE, hB⟩
theorem own_apart {w : World} {B B' : Nat} {e e' : TypeId} {size size' n n' : Nat} {v v' : Value} {xs xs' : List Value} (h : w.ownsRow B e size v n xs) (h' : w.ownsRow B' e' size' v' n' xs') (hne : e ≠ e') : v.ownBlock = none ∨ v.ownBlock ≠ v'.ownBlock := by
  rcases h.2 with ⟨rfl, _⟩ | ⟨g, cap, cur, rfl, _, hg, _⟩
  · exact .inl rfl
  · refine .inr fun he => ?_
    rcases h'.2 with ⟨rfl, _⟩ | ⟨g', cap', cur', rfl, _, hg', _⟩
    · simp [Value.ownBlock] at he
    · simp only [Value.ownBlock, Option.some.injEq] at he
      subst he
      rw [hg] at hg'
      simp only [Option.some.injEq, Obj.cells.injEq] at hg'
      exact hne hg'.2.1
section
variable {P : Program} {ops : Array Oper} {o : Oper} {rest : List Oper} {a : Act} {W : World} {Q : Exit → Act → World → Prop}
theorem wpList_app3 (B : Nat) (hgd : o.guard = none) (s x : Operand) (t : TypeId) (ho : o.op = .call { callee := .builtin .append, args := #[s, x], argTypes := #[t, t] })
    (e : TypeId) (i : TypeInfo) (z : Value) (size bytes : Nat) (ht : P.underlying t = some (.slice e)) (hi : P.info? e = some i) (hz : i.zero = some z)
    (hsize : i.size = size) (hby : i.bytes = bytes) (hzs : z.cells.size = size) (hsz : 0 < size)
    (v : Value) (m : Nat) (xs : List Value) (hs : a.eval s = v) (g c : Nat) (cs : Array Value) (hx : a.eval x = .slice (some ⟨g, 0, none⟩) 1 c)
    (hv : W.ownsRow B e size v m xs) (hg : Blk W g e cs) (hcs : cs.size = size) (h1 : ∀ u ∈ cs.toList, u.oneCell' = true) (h63 : m + 1 ≤ maxLen) (hbytes : (m + 1) * bytes ≤ 140737488355328) (hB : B ≤ W.heap.size)
    (h : ∀ v' w', w'.ownsRow B e size v' (m + 1) (xs ++ cs.toList) → Below B W w' → W.grownBy w' v.ownBlock → wpList P ops Q rest (a.put o.dst v') w') : wpList P ops Q (o :: rest) a W := by
  refine wpList_append_any _ hgd s x t ho B e i z size bytes ht hi hz hsize hby hzs hsz v m xs hs hv W.heap.size _ 1 c cs.toList hx (blk_reads hg size 1 (by omega)) h1 h63 hbytes hB ?_
  intro v' w' ho' hgr hvb
  refine h v' w' ho' ((Below.refl _ _).grown hgr hB (fun k hk => ?_)) hgr
  rcases hv.2 with ⟨rfl, _⟩ | ⟨g', cap, cur, rfl, hgb, _⟩
  · simp [Value.ownBlock] at hk
  · simp [Value.ownBlock] at hk; omega
end
end Go.Proofs.YtdgbghgcnkjjeaaDoor

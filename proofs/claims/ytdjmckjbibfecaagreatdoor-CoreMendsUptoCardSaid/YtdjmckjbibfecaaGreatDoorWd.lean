/- places; is a set that was found within another one? -/
import Derived.Test.YtdjmckjbibfecaaGreatDoorWc
namespace Go.Proofs.YtdjmckjbibfecaaGreatDoor
open Go Go.RowKit Go.BigFrame Go.Maps

theorem plcM_set (m a : Nat) : plcM 0 m a = (List.range m).filter (setP m a) := by
  rw [plcM_filter, ← List.range_eq_range']
  congr 1
  funext i
  unfold setP
  congr 1
  omega
def natsV (l : List Nat) : List Value := l.map fun (x : Nat) => Value.int .i64 (x : Int)
def unatsV (l : List Nat) : List Value := l.map fun (x : Nat) => Value.int .u64 (x : Int)
theorem natsV_app (l m : List Nat) : natsV (l ++ m) = natsV l ++ natsV m := List.map_append
theorem unatsV_app (l m : List Nat) : unatsV (l ++ m) = unatsV l ++ unatsV m := List.map_append
theorem filt_succ (p : Nat → Bool) (q : Nat) : (List.range (q + 1)).filter p = (List.range q).filter p ++ (if p q then [q] else []) := by
  rw [List.range_succ, List.filter_append]
  congr 1
  cases h : p q <;> simp [h]
theorem filt_le (p : Nat → Bool) (q : Nat) : ((List.range q).filter p).length ≤ q := by
  have := List.length_filter_le p (List.range q)
  simpa using this
theorem Tryz.info3 : (Tryz.prog.info? 3).map (fun i => (i.zero, i.size, i.bytes)) = some (some (.int .i64 0), 1, 8) := by kernel_rfl
theorem Tryz.info38 : (Tryz.prog.info? 38).map (fun i => (i.zero, i.size, i.bytes)) = some (some (.int .u64 0), 1, 8) := by kernel_rfl
set_option maxRecDepth 100000 in
set_option maxHeartbeats 1600000 in
theorem places_any (m set : Nat) (w : World) (hm : m ≤ 12) (hset : set < 2 ^ m) :
    Calls Tryz.prog 47 #[.int .u64 (set : Int), .int .i64 (m : Int)] w fun e w' => ∃ v, e = .returned v ∧ w'.ownsRow w.heap.size 3 1 v (plcM 0 m set).length (natsV (plcM 0 m set)) ∧ Below w.heap.size w w' := by
  obtain ⟨i0, hi, hz0, hz1, hz2⟩ := info_parts Tryz.info3
  rw [plcM_set]
  have hsm : set < 4096 := Nat.lt_of_lt_of_le hset (Nat.pow_le_pow_right (by omega) hm)
  have hm1 : Hid (i0.bytes * m ≤ 281474976710656) := by unfold Hid; rw [hz2]; omega
  have hm2 : Hid (m ≤ maxLen) := by unfold Hid maxLen; omega
  have hsm' := Lib.hid hsm
  clear hsm hset
  go_enter Tryz.func47, Tryz.ntmps47
  go_wp2_with (at_make; go_must (refine wpList_make_own _ rfl _ _ 35 rfl w.heap.size 3 i0 _ 1 Tryz.underlying35 hi hz0 hz1 _ _ _ m rfl rfl rfl hm1.out hm2.out (Nat.le_refl _) ?_); intro w1 hown hgrow)
  have hB1 : Below w.heap.size w w1 := (Below.refl _ w).grown hgrow (Nat.le_refl _) (by simp)
  have hown1 := Lib.hid hown
  clear hown hgrow
  go_loopw [5, 10] (fun v i wr => ∃ q : Nat, q ≤ m ∧ i = .int .i64 q ∧ Hid (wr.ownsRow w.heap.size 3 1 v ((List.range q).filter (setP m set)).length (natsV ((List.range q).filter (setP m set)))) ∧ Hid (Below w.heap.size w wr)) (fun _ i _ => m - (intOf i).toNat)
  case atStart => exact ⟨0, Nat.zero_le _, rfl, hown1, hB1⟩
  case round =>
    obtain ⟨q, hq, rfl, hown2, hB⟩ := hrel
    by_cases hlt : q < m
    · have hkm : decide (q < m) = true := decide_eq_true hlt
      obtain ⟨d, hd⟩ : ∃ d, m - 1 - q = d := ⟨_, rfl⟩
      have hd12 : d < 12 := by omega
      have hdi : (m : Int) - 1 - (q : Int) = (d : Int) := by omega
      have hp := two_pow_lt d hd12
      have hwq : IntKind.u64.wrap (2 ^ d) = ((2 ^ d : Nat) : Int) := by
        have := wrapU (2 ^ d) (by omega)
        rw [← this]
        simp
      obtain ⟨P, hP⟩ : ∃ z : Int, Hid (((2 ^ d : Nat) : Int) = z) := ⟨_, rfl⟩
      rw [hP.out] at hwq
      obtain ⟨RI, hRI⟩ : ∃ z : Int, Hid (((set &&& 2 ^ d : Nat) : Int) = z) := ⟨_, rfl⟩
      have hand : bits .and .u64 (set : Int) P = RI := by rw [← hP.out, bits_and_u64_nat _ _ (by have := hsm'.out; omega) (by omega)]; exact hRI.out
      have hea := and_bit set d
      have hsp : setP m set q = set.testBit d := by unfold setP; rw [hd]
      have hfs := filt_succ (setP m set) q
      have hfl := filt_le (setP m set) q
      rw [hsp] at hfs
      have hd0 : (0 : Int) ≤ (d : Int) := by omega
      have hd64 : (d : Int) ≤ 64 := by omega
      have i1 : (q : Int) < (m : Int) := by omega
      have i3 : (0 : Int) ≤ (m : Int) - 1 - (q : Int) := by omega
      have w1' : IntKind.i64.wrap ((m : Int) - 1) = (m : Int) - 1 := IntWalk.i64_in _ (by omega)
      obtain ⟨xs, hxs⟩ : ∃ xs, (List.range q).filter (setP m set) = xs := ⟨_, rfl⟩
      rw [hxs] at hown2 hfs hfl
      obtain ⟨nx, hnx⟩ : ∃ n, xs.length = n := ⟨_, rfl⟩
      rw [hnx] at hown2 hfl
      have hnx' := Lib.hid hnx
      have hfs' := Lib.hid hfs
      clear hp hd hsp hxs hnx hfs
      cases ht : set.testBit d with
      | false =>
        have hz : RI = 0 := by rw [← hRI.out, hea, ht]; rfl
        rw [hz] at hand
        have hnew : Hid ((List.range (q + 1)).filter (setP m set) = xs) := by unfold Hid; rw [hfs'.out, ht]; simp
        clear hz hRI hea ht
        go_wp2_with fail
        go_roundw
        case rel => exact ⟨q + 1, by omega, by go_num, by rw [hnew.out, hnx'.out]; exact hown2, hB⟩
        case measure => simp [intOf]; omega
      | true =>
        have hpos : 2 ^ d ≠ 0 := Nat.ne_of_gt (Nat.two_pow_pos d)
        have hne : ¬ RI = 0 := by rw [← hRI.out, hea, ht, if_pos rfl]; omega
        have hz : (RI == 0) = false := by simpa using hne
        have hz9 : (RI != 0) = true := by simpa using hne
        have hnew : Hid ((List.range (q + 1)).filter (setP m set) = xs ++ [q]) := by unfold Hid; rw [hfs'.out, ht]; simp
        have hown3 := Lib.hid (own_below hown2.out ((Below.refl _ wr).alloc (Nat.le_refl _) (.cells #[.int .i64 (q : Int)] 3)))
        have hblk3 := Lib.hid (Blk.new wr 3 #[.int .i64 (q : Int)])
        have hb3 : Hid (Below w.heap.size w (wr.alloc (.cells #[.int .i64 (q : Int)] 3))) := Lib.hid (hB.out.alloc hB.out.size _)
        have s1 : Hid (nx + 1 ≤ maxLen) := by unfold Hid maxLen; omega
        have s2 : Hid ((nx + 1) * 8 ≤ 140737488355328) := by unfold Hid; omega
        have s3 : Hid (w.heap.size ≤ (wr.alloc (.cells #[.int .i64 (q : Int)] 3)).heap.size) := Lib.hid hb3.out.size
        clear hRI hea ht hpos
        go_wp2_with (at_builtin; go_must (refine wpList_app2 w.heap.size rfl _ _ 35 rfl 3 i0 _ 1 8 Tryz.underlying35 hi hz0 hz1 hz2 rfl (by decide) _ nx (natsV xs) rfl wr.heap.size 1 #[.int .i64 (q : Int)] rfl hown3.out hblk3.out rfl (by simp [Value.oneCell']) s1.out s2.out s3.out ?_); intro v4 w4 ho4 hb4; have ho4' := Lib.hid ho4; have hb4' : Hid (Below w.heap.size w w4) := hb3.out.trans hb4; clear ho4 hb4)
        go_roundw
        case rel => exact ⟨q + 1, by omega, by go_num, by rw [hnew.out, List.length_append, hnx'.out, natsV_app]; exact ho4', hb4'⟩
        case measure => simp [intOf]; omega
    · have hkm : decide (q < m) = false := decide_eq_false hlt
      have hqm : Hid (q = m) := Lib.hid (by omega)
      go_wp2_with fail
      go_ret
      exact ⟨_, rfl, by have h := hown2.out; rw [hqm.out] at h; exact h, hB.out⟩
/-- Sets in memory. -/
def UAt (w : World) (A : Option Addr) (l : List Nat) : Prop := ∀ (i x : Nat), l[i]? = some x → ∃ g off, A = some ⟨g, off, none⟩ ∧ w.cell? ⟨g, off + i, none⟩ = some (.int .u64 (x : Int))
theorem own_u {w : World} {B n : Nat} {e : TypeId} {v : Value} {l : List Nat} (h : w.ownsRow B e 1 v n (unatsV l)) : ∃ A c, v = .slice A n c ∧ UAt w A l := by
  obtain ⟨A, c, rfl⟩ := own_form h
  refine ⟨A, c, rfl, fun i x hx => ?_⟩
  have hlen : l.length = n := by have := h.1; rw [unatsV, List.length_map] at this; omega
  obtain ⟨g, cap, e9, _, _⟩ := own_formS h (by have := (List.getElem?_eq_some_iff.1 hx).1; omega)
  have hA : A = some ⟨g, 0, none⟩ := by injection e9
  subst hA
  refine ⟨g, 0, rfl, ?_⟩
  have := h.cells (g := g) rfl i (.int .u64 (x : Int)) (by rw [unatsV, List.getElem?_map, hx]; rfl)
  have hadd : (⟨g, 0, none⟩ : Addr).add i = ⟨g, 0 + i, none⟩ := by unfold Addr.add; split <;> simp_all
  rw [← hadd]; exact this
set_option maxRecDepth 100000 in
theorem inset_any (a set b : Nat) (w : World) (ha : a < 4096) (hs : set < 4096) (hb : w.cell? ⟨b, 0, none⟩ = some (.int .u64 (set : Int))) :
    Calls Tryz.prog 44 #[.int .u64 (a : Int), .pointer (some ⟨b, 0, none⟩)] w fun e w' => e = .returned (.bool (subB a set)) ∧ w = w' := by
  have hand : bits .and .u64 (a : Int) (set : Int) = ((a &&& set : Nat) : Int) := bits_and_u64_nat _ _ (by omega) (by omega)
  obtain ⟨R, hR⟩ : ∃ R, a &&& set = R := ⟨_, rfl⟩
  rw [hR] at hand
  have hsub : Hid (subB a set = decide (R = a)) := by unfold Hid subB; rw [hR]
  rw [hsub.out]
  clear hR hsub ha hs
  by_cases h : R = a
  · subst h
    rw [decide_eq_true rfl]
    go_enter Tryz.func44, Tryz.ntmps44
    go_wp2_with fail
    go_ret
    exact ⟨rfl, rfl⟩
  · rw [decide_eq_false h]
    have e1 : ((R : Int) == (a : Int)) = false := by simp; omega
    have e2 : ¬ ((R : Int) = (a : Int)) := by omega
    have e3 : (R == a) = false := by simpa using h
    go_enter Tryz.func44, Tryz.ntmps44
    go_wp2_with fail
    go_ret
    exact ⟨rfl, rfl⟩
theorem any_drop {l : List Nat} {k : Nat} {x : Nat} {p : Nat → Bool} (hx : l[k]? = some x) : (l.drop k).any p = (p x || (l.drop (k + 1)).any p) := by
  obtain ⟨hk, he⟩ := List.getElem?_eq_some_iff.1 hx
  rw [List.drop_eq_getElem_cons hk, he, List.any_cons]
set_option maxRecDepth 100000 in
set_option maxHeartbeats 1600000 in
theorem index_any2 (A : Option Addr) (n c : Nat) (l : List Nat) (set b : Nat) (w : World) (hn : n ≤ 5000) (hl : Hid (l.length = n)) (hA : Hid (UAt w A l)) (hs : set < 4096) (hls : Hid (∀ x ∈ l, x < 4096)) (hb : w.cell? ⟨b, 0, none⟩ = some (.int .u64 (set : Int))) :
    Calls Tryz.prog 94 #[.slice A n c, .func (.func 44) #[] #[.pointer (some ⟨b, 0, none⟩)]] w fun e w' => ∃ i : Int, e = .returned (.int .i64 i) ∧ decide (0 ≤ i) = l.any (fun f => subB f set) ∧ w = w' := by
  go_enter Tryz.func94, Tryz.ntmps94
  go_wp2_with fail
  go_loopw [8] (fun i wr => ∃ k : Nat, k ≤ n ∧ i = .int .i64 k ∧ Hid (l.any (fun f => subB f set) = (l.drop k).any (fun f => subB f set)) ∧ w = wr) (fun i _ => n - (intOf i).toNat)
  case atStart => exact ⟨0, Nat.zero_le _, rfl, rfl, rfl⟩
  case round =>
    obtain ⟨k, hk, rfl, hal, rfl⟩ := hrel
    by_cases hlt : k < n
    · obtain ⟨x, hx⟩ : ∃ x, l[k]? = some x := ⟨_, List.getElem?_eq_getElem (by have := hl.out; omega)⟩
      have hst := any_drop (p := fun f => subB f set) hx
      obtain ⟨g, off, rfl, hc⟩ := hA.out k x hx
      have hwi := Lib.hid (inset_any x set b w (hls.out x (List.mem_of_getElem? hx)) hs hb)
      have hkm : decide (k < n) = true := decide_eq_true hlt
      have i1 : (k : Int) < (n : Int) := by omega
      have i2 : (0 : Int) ≤ (k : Int) := by omega
      obtain ⟨t, ht⟩ : ∃ t, subB x set = t := ⟨_, rfl⟩
      rw [ht] at hwi hst
      have hst' := Lib.hid hst
      clear hx hst ht
      cases t with
      | true =>
        go_wp2_with fail
        refine hwi.out.mono ?_
        rintro e w1 ⟨rfl, rfl⟩
        go_wp2_with fail
        go_ret
        exact ⟨k, rfl, by rw [hal.out, hst'.out]; simp, rfl⟩
      | false =>
        go_wp2_with fail
        refine hwi.out.mono ?_
        rintro e w1 ⟨rfl, rfl⟩
        go_wp2_with fail
        go_roundw
        case rel => exact ⟨k + 1, by omega, by go_num, Lib.hid (by rw [hal.out, hst'.out]; rfl), by first | trivial | rfl⟩
        case measure => simp [intOf]; omega
    · have hkm : decide (k < n) = false := decide_eq_false hlt
      have hend : Hid (l.any (fun f => subB f set) = false) := by
        unfold Hid
        rw [hal.out, List.drop_eq_nil_of_le (by have := hl.out; omega)]
        rfl
      go_wp2_with fail
      go_ret
      exact ⟨-1, rfl, by rw [hend.out]; rfl, rfl⟩
set_option maxRecDepth 100000 in
theorem contains_any (A : Option Addr) (n c : Nat) (l : List Nat) (set b : Nat) (w : World) (hn : n ≤ 5000) (hl : Hid (l.length = n)) (hA : Hid (UAt w A l)) (hs : set < 4096) (hls : Hid (∀ x ∈ l, x < 4096)) (hb : w.cell? ⟨b, 0, none⟩ = some (.int .u64 (set : Int))) :
    Calls Tryz.prog 45 #[.slice A n c, .func (.func 44) #[] #[.pointer (some ⟨b, 0, none⟩)]] w fun e w' => e = .returned (.bool (l.any fun f => subB f set)) ∧ w = w' := by
  have hix := Lib.hid (index_any2 A n c l set b w hn hl hA hs hls hb)
  go_enter Tryz.func45, Tryz.ntmps45
  go_wp2_with fail
  refine hix.out.mono ?_
  rintro e w1 ⟨i, rfl, hi, rfl⟩
  have hi' := Lib.hid hi
  clear hix hi
  go_wp2_with fail
  go_ret
  exact ⟨by rw [← hi'.out]; rfl, rfl⟩
end Go.Proofs.YtdjmckjbibfecaaGreatDoor

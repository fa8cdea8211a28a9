import Derived.Test.YtjkmhlfjheiekaaGreatDoorEnv
namespace Go.Proofs.YtjkmhlfjheiekaaGreatDoor
open Go Go.RowKit Go.BigFrame Go.Maps
def boundM (t : Txt) : Int := if 1 < t.length ∧ t.head? = some 48 then 2 else if mostN < numV t then 3 else 0
theorem numV_snoc (t : Txt) (c : UInt8) : numV (t ++ [c]) = 10 * numV t + (c.toNat - 48) := by unfold numV; rw [List.foldl_append]; rfl
theorem numV_mono (t u : Txt) : numV t ≤ numV (t ++ u) := by
 induction u generalizing t with
 | nil => simp
 | cons c u ih =>
  rw [show t ++ c :: u = (t ++ [c]) ++ u by simp]
  refine Nat.le_trans ?_ (ih (t ++ [c]))
  rw [numV_snoc]; omega
theorem take_byte {s : ByteArray} {k : Nat} (h : k < s.size) : s.data.toList.take (k + 1) = s.data.toList.take k ++ [s[k]] := by
 have hk : k < s.data.toList.length := by simpa using h
 rw [List.take_succ_eq_append_getElem hk]; rfl
theorem digit_range {c : UInt8} (h : digitB c = true) : 48 ≤ c.toNat ∧ c.toNat ≤ 57 := by
 rw [digit_eq] at h
 simp only [Bool.and_eq_true, decide_eq_true_eq] at h
 omega
theorem head_byte {s : ByteArray} (h : 0 < s.size) : s.data.toList.head? = some s[0] := by
 have := drop_byte (s := s) (k := 0) h
 rw [List.drop_zero] at this
 rw [this]; rfl
set_option maxRecDepth 100000 in
set_option maxHeartbeats 1600000 in
theorem bounded_any (s : ByteArray) (w : World) (hs : s.size ≤ maxLen) (hd : Hid (s.data.toList.all digitB = true)) : Calls Tryz.prog 143 #[.string s] w fun e w' => e = .returned (.int .i64 (boundM s.data.toList)) ∧ w = w' := by
 unfold maxLen at hs
 have hln : s.data.toList.length = s.size := by simp
 have hdig : Hid (∀ k (h : k < s.size), 48 ≤ s[k].toNat ∧ s[k].toNat ≤ 57) := fun k h => by
  have hk : k < s.data.toList.length := by rw [hln]; exact h
  exact digit_range (List.all_eq_true.1 hd.out _ (List.getElem_mem hk))
 have hn3 : Hid (mostN < numV s.data.toList → ¬ (1 < s.size ∧ s.data.toList.head? = some 48) → boundM s.data.toList = 3) := fun h1 h2 => by
  unfold boundM; rw [if_neg (by rw [hln]; exact h2), if_pos h1]
 have hn0 : Hid (¬ mostN < numV s.data.toList → ¬ (1 < s.size ∧ s.data.toList.head? = some 48) → boundM s.data.toList = 0) := fun h1 h2 => by
  unfold boundM; rw [if_neg (by rw [hln]; exact h2), if_neg h1]
 have hn2 : Hid ((1 < s.size ∧ s.data.toList.head? = some 48) → boundM s.data.toList = 2) := fun h2 => by
  unfold boundM; rw [if_pos (by rw [hln]; exact h2)]
 have hgo : Hid (¬ (1 < s.size ∧ s.data.toList.head? = some 48)) → (1 < s.size → ∃ h : 0 < s.size, ((s[0].toNat : Int) == 48) = false) := fun h h1 => by
  refine ⟨by omega, ?_⟩
  have := h.out
  rw [head_byte (by omega)] at this
  simp only [beq_eq_false_iff_ne, ne_eq]
  intro e
  exact this ⟨h1, by rw [show s[0] = 48 from UInt8.toNat_inj.1 (by simpa using (by omega : s[0].toNat = 48))]⟩
 by_cases hz : 1 < s.size ∧ s.data.toList.head? = some 48
 ·have hr := hd9 (hn2.out hz)
  obtain ⟨hz1, hz2⟩ := hz
  have h0 : 0 < s.size := by omega
  rw [head_byte h0] at hz2
  have b1 : decide (1 < (s.size : Int)) = true := by simp; omega
  have b2 : ((s[0].toNat : Int) == 48) = true := by rw [Option.some.inj hz2]; rfl
  clear hz2 hgo hdig
  go_enter Tryz.func143, Tryz.ntmps143
  go_wp2_with fail
  go_ret
  exact ⟨by rw [hr.out]; first | done | rfl, rfl⟩
 ·have hzz := hd9 hz
  have h3 := hd9 (fun h => hn3.out h hzz.out)
  have h0 := hd9 (fun h => hn0.out h hzz.out)
  have hg := hgo hzz
  clear hz hn3 hn0 hn2 hgo hln
  have key : ∀ (b : Bool), decide (1 < (s.size : Int)) = b → (b = true → ∃ h : 0 < s.size, ((s[0].toNat : Int) == 48) = false) → Calls Tryz.prog 143 #[.string s] w fun e w' => e = .returned (.int .i64 (boundM s.data.toList)) ∧ w = w' := by
   intro b b1 hb2
   cases b
   ·clear hb2
    go_enter Tryz.func143, Tryz.ntmps143
    go_wp2_with fail
    go_loopg [3, 4, 15] s.size (fun gg n _ i wr => ∃ k : Nat, k ≤ s.size ∧ gg = s.size - k ∧ i = .int .i64 k ∧ n = .int .i64 (numV (s.data.toList.take k) : Nat) ∧ numV (s.data.toList.take k) ≤ 1099511627776 ∧ w = wr)
    case atStart => exact ⟨0, Nat.zero_le _, by simp, rfl, rfl, by simp [numV], rfl⟩
    case round =>
     obtain ⟨k, hk, hgk, rfl, rfl, hnk, rfl⟩ := hrel
     have hgk' := hd9 hgk
     clear hgk
     by_cases hlt : k < s.size
     ·have hst : Hid (numV (s.data.toList.take (k + 1)) = 10 * numV (s.data.toList.take k) + (s[k].toNat - 48)) := by unfold Hid; rw [take_byte hlt, numV_snoc]
      have hmo : Hid (numV (s.data.toList.take (k + 1)) ≤ numV s.data.toList) := by
       have := numV_mono (s.data.toList.take (k + 1)) (s.data.toList.drop (k + 1))
       rwa [List.take_append_drop] at this
      obtain ⟨d0, d1⟩ := hdig.out k hlt
      obtain ⟨n, hn⟩ : ∃ n, Hid (numV (s.data.toList.take k) = n) := ⟨_, rfl⟩
      obtain ⟨n2, hn2⟩ : ∃ n, Hid (numV (s.data.toList.take (k + 1)) = n) := ⟨_, rfl⟩
      rw [hn.out] at hnk hst ⊢
      rw [hn2.out] at hst hmo
      have hst' := hst.out
      have i1 : (k : Int) < (s.size : Int) := by omega
      have i2 : (0 : Int) ≤ (k : Int) := by omega
      have w1 : IntKind.u8.wrap ((s[k].toNat : Int) - 48) = (s[k].toNat : Int) - 48 := IntWalk.u8_in _ (by omega)
      have w2 : IntKind.i64.wrap ((n : Int) * 10) = (n : Int) * 10 := IntWalk.i64_in _ (by omega)
      have w3 : IntKind.i64.wrap ((n : Int) * 10 + ((s[k].toNat : Int) - 48)) = (n2 : Int) := by rw [IntWalk.i64_in _ (by omega)]; omega
      have w4 : IntKind.i64.wrap ((s[k].toNat : Int) - 48) = (s[k].toNat : Int) - 48 := IntWalk.i64_in _ (by omega)
      by_cases hgt : 1099511627776 < n2
      ·have hr := hd9 (h3.out (by unfold mostN; have := hmo.out; omega))
       have b3 : decide (1099511627776 < (n2 : Int)) = true := by simp; omega
       go_wp2_with fail
       go_ret
       exact ⟨by rw [hr.out]; first | done | rfl, rfl⟩
      ·have b3 : decide (1099511627776 < (n2 : Int)) = false := by simp; omega
       go_wp2_with fail
       go_roundg (s.size - (k + 1))
       case measure => have := hgk'.out; omega
       case rel => exact ⟨k + 1, by omega, rfl, by go_num, by rw [hn2.out]; first | done | (congr 1; omega), by rw [hn2.out]; omega, rfl⟩
     ·have hfin : Hid (s.data.toList.take k = s.data.toList) := List.take_of_length_le (by simp; omega)
      rw [hfin.out] at hnk
      have hr := hd9 (h0.out (by unfold mostN; omega))
      go_wp2_with fail
      go_ret
      exact ⟨by rw [hr.out]; first | done | rfl, rfl⟩
   ·obtain ⟨h00, b2⟩ := hb2 rfl
    clear hb2
    go_enter Tryz.func143, Tryz.ntmps143
    go_wp2_with fail
    go_loopg [3, 4, 15] s.size (fun gg n _ i wr => ∃ k : Nat, k ≤ s.size ∧ gg = s.size - k ∧ i = .int .i64 k ∧ n = .int .i64 (numV (s.data.toList.take k) : Nat) ∧ numV (s.data.toList.take k) ≤ 1099511627776 ∧ w = wr)
    case atStart => exact ⟨0, Nat.zero_le _, by simp, rfl, rfl, by simp [numV], rfl⟩
    case round =>
     obtain ⟨k, hk, hgk, rfl, rfl, hnk, rfl⟩ := hrel
     have hgk' := hd9 hgk
     clear hgk
     by_cases hlt : k < s.size
     ·have hst : Hid (numV (s.data.toList.take (k + 1)) = 10 * numV (s.data.toList.take k) + (s[k].toNat - 48)) := by unfold Hid; rw [take_byte hlt, numV_snoc]
      have hmo : Hid (numV (s.data.toList.take (k + 1)) ≤ numV s.data.toList) := by
       have := numV_mono (s.data.toList.take (k + 1)) (s.data.toList.drop (k + 1))
       rwa [List.take_append_drop] at this
      obtain ⟨d0, d1⟩ := hdig.out k hlt
      obtain ⟨n, hn⟩ : ∃ n, Hid (numV (s.data.toList.take k) = n) := ⟨_, rfl⟩
      obtain ⟨n2, hn2⟩ : ∃ n, Hid (numV (s.data.toList.take (k + 1)) = n) := ⟨_, rfl⟩
      rw [hn.out] at hnk hst ⊢
      rw [hn2.out] at hst hmo
      have hst' := hst.out
      have i1 : (k : Int) < (s.size : Int) := by omega
      have i2 : (0 : Int) ≤ (k : Int) := by omega
      have w1 : IntKind.u8.wrap ((s[k].toNat : Int) - 48) = (s[k].toNat : Int) - 48 := IntWalk.u8_in _ (by omega)
      have w2 : IntKind.i64.wrap ((n : Int) * 10) = (n : Int) * 10 := IntWalk.i64_in _ (by omega)
      have w3 : IntKind.i64.wrap ((n : Int) * 10 + ((s[k].toNat : Int) - 48)) = (n2 : Int) := by rw [IntWalk.i64_in _ (by omega)]; omega
      have w4 : IntKind.i64.wrap ((s[k].toNat : Int) - 48) = (s[k].toNat : Int) - 48 := IntWalk.i64_in _ (by omega)
      by_cases hgt : 1099511627776 < n2
      ·have hr := hd9 (h3.out (by unfold mostN; have := hmo.out; omega))
       have b3 : decide (1099511627776 < (n2 : Int)) = true := by simp; omega
       go_wp2_with fail
       go_ret
       exact ⟨by rw [hr.out]; first | done | rfl, rfl⟩
      ·have b3 : decide (1099511627776 < (n2 : Int)) = false := by simp; omega
       go_wp2_with fail
       go_roundg (s.size - (k + 1))
       case measure => have := hgk'.out; omega
       case rel => exact ⟨k + 1, by omega, rfl, by go_num, by rw [hn2.out]; first | done | (congr 1; omega), by rw [hn2.out]; omega, rfl⟩
     ·have hfin : Hid (s.data.toList.take k = s.data.toList) := List.take_of_length_le (by simp; omega)
      rw [hfin.out] at hnk
      have hr := hd9 (h0.out (by unfold mostN; omega))
      go_wp2_with fail
      go_ret
      exact ⟨by rw [hr.out]; first | done | rfl, rfl⟩
  by_cases h1 : 1 < s.size
  ·exact key true (by simp; omega) (fun _ => hg h1)
  ·exact key false (by simp; omega) (fun h => by cases h)
theorem rank_digits {t : Txt} (h : t.all digitB = true) : rankM t = (2, boundM t) := by unfold rankM boundM; rw [if_pos h]
theorem rank_word {t : Txt} (h : t.all digitB = false) (h2 : wordsL.contains t = true) : rankM t = (0, 0) := by unfold rankM; rw [if_neg (by rw [h]; simp), if_pos h2]
theorem rank_name {t : Txt} (h : t.all digitB = false) (h2 : wordsL.contains t = false) : rankM t = (1, if t.length ≤ 16 then 0 else 2) := by unfold rankM; rw [if_neg (by rw [h]; simp), if_neg (by rw [h2]; simp)]
set_option maxRecDepth 100000 in
set_option maxHeartbeats 1600000 in
theorem ranked_any (s : ByteArray) (w : World) (hs : s.size ≤ maxLen) (h1 : 1 ≤ s.size) (hd : Hid (s.data.toList.all smallB = true)) (he : Hid (Env w)) :
  Calls Tryz.prog 109 #[.string s] w fun e w' => e = .returned (.tuple #[.int .i64 (rankM s.data.toList).1, .int .i64 (rankM s.data.toList).2]) ∧ Below w.heap.size w w' := by
 have hs' := hd9 hs
 clear hs
 have hidx := idx_all hd.out
 have hf := hd9 (Tryz.strings_IndexFunc 142 #[] (enters_of Tryz.func142 (by kernel_rfl) rfl) runeP s w (rune_pred w))
 obtain ⟨ix, hix⟩ : ∃ ix, Hid (Lib.idxFunc runeP true s = ix) := ⟨_, hd9 rfl⟩
 rw [hix.out] at hidx hf
 have hln : s.data.toList.length = s.size := by simp
 cases hb : s.data.toList.all digitB with
 | true =>
  have hr := hd9 (rank_digits hb)
  have b1 : decide (ix < 0) = true := by simp; exact hidx.2 hb
  have hb' := hd9 hb
  clear hidx hb
  go_enter Tryz.func109, Tryz.ntmps109
  go_wp2_with fail
  refine hf.out.mono ?_
  rintro e w1 ⟨rfl, hb1⟩
  go_wp2_with fail
  refine (bounded_any s w1 hs'.out hb').mono ?_
  rintro e w2 ⟨rfl, rfl⟩
  go_wp2_with fail
  go_ret2
  exact ⟨by rw [hr.out]; rfl, hb1⟩
 | false =>
  have b1 : decide (ix < 0) = false := by
   simp only [decide_eq_false_iff_not]
   intro h; rw [hidx.1 h] at hb; cases hb
  cases hw : wordsL.contains s.data.toList with
  | true =>
   have hr := hd9 (rank_word hb hw)
   have hw' := hd9 hw
   clear hidx hb hw
   go_enter Tryz.func109, Tryz.ntmps109
   go_wp2_with fail
   refine hf.out.mono ?_
   rintro e w1 ⟨rfl, hb1⟩
   go_wp2_with fail
   refine (reserved_any s w1 (he.out.below hb1)).mono ?_
   rintro e w2 ⟨rfl, rfl⟩
   rw [hw'.out]
   go_wp2_with fail
   go_ret2
   exact ⟨by rw [hr.out]; rfl, hb1⟩
  | false =>
   have hr := hd9 (rank_name hb hw)
   have hw' := hd9 hw
   have hm : Hid (markB s.data.toList = decide (s.size ≤ 16)) := by
    unfold Hid markB; rw [hd.out, hln]; simp; omega
   rw [hln] at hr
   clear hidx hb hw
   by_cases h16 : s.size ≤ 16
   ·rw [decide_eq_true h16] at hm
    rw [if_pos h16] at hr
    go_enter Tryz.func109, Tryz.ntmps109
    go_wp2_with fail
    refine hf.out.mono ?_
    rintro e w1 ⟨rfl, hb1⟩
    go_wp2_with fail
    refine (reserved_any s w1 (he.out.below hb1)).mono ?_
    rintro e w2 ⟨rfl, rfl⟩
    rw [hw'.out]
    go_wp2_with fail
    refine (markName_any s w1 hs'.out).mono ?_
    rintro e w2 ⟨rfl, rfl⟩
    rw [hm.out]
    go_wp2_with fail
    go_ret2
    exact ⟨by rw [hr.out]; rfl, hb1⟩
   ·rw [decide_eq_false h16] at hm
    rw [if_neg h16] at hr
    go_enter Tryz.func109, Tryz.ntmps109
    go_wp2_with fail
    refine hf.out.mono ?_
    rintro e w1 ⟨rfl, hb1⟩
    go_wp2_with fail
    refine (reserved_any s w1 (he.out.below hb1)).mono ?_
    rintro e w2 ⟨rfl, rfl⟩
    rw [hw'.out]
    go_wp2_with fail
    refine (markName_any s w1 hs'.out).mono ?_
    rintro e w2 ⟨rfl, rfl⟩
    rw [hm.out]
    go_wp2_with fail
    go_ret2
    exact ⟨by rw [hr.out]; rfl, hb1⟩
end Go.Proofs.YtjkmhlfjheiekaaGreatDoor
namespace Go.Proofs.YtjkmhlfjheiekaaGreatDoor
open Go Go.RowKit Go.BigFrame Go.Maps
theorem results_row_tmp {P : Program} {fn : Func} {p u : Tmp} {ty : TypeId} (h : fn.results = #[.cell p ty, .tmp u]) (tmps : Array Value) (w : World) (g : Nat) (t : TypeId) (cs : Array Value) (d : TypeDesc)
  (hp : tmps.getD p undef = .pointer (some ⟨g, 0, none⟩)) (hg : Blk w g t cs)
  (hu : P.underlying ty = some d) (hd : (match d with | .struct _ | .array _ _ => true | _ => false) = true) (hi : (P.info? ty).map (·.size) = some cs.size) :
  (results fn tmps).run P w = .ok (.tuple #[.agg cs, tmps.getD u undef]) w := by
 have hp' : tmps[p]?.getD undef = .pointer (some ⟨g, 0, none⟩) := by simpa using hp
 simp [results, h, hp', asAddr, run_loadVar_row w g t ty cs (0, 0) d hg hu hd hi, Result.andThen]
theorem But.blk {z g : Nat} {w w' : World} {t : TypeId} {cs : Array Value} (h : But z w w') (hb : Blk w g t cs) (hg : g ≠ z) : Blk w' g t cs := (h.block g hb.lt hg).trans hb
theorem But.trans {z : Nat} {a b c : World} (h : But z a b) (k : But z b c) : But z a c :=
 ⟨k.os.trans h.os, k.tape.trans h.tape, k.output.trans h.output, Nat.le_trans h.size k.size, fun i hi hn => (k.block i (Nat.lt_of_lt_of_le hi h.size) hn).trans (h.block i hi hn)⟩
theorem But.far {z g : Nat} {w w1 : World} (h : But z w w1) (hg : w.heap.size ≤ g) (o : Nat) (u : Value) : But z w (w1.setCell ⟨g, o, none⟩ u) := by
 have hb : Below w.heap.size w1 (w1.setCell ⟨g, o, none⟩ u) := (Below.refl _ _).setCell hg u
 exact ⟨hb.os.trans h.os, hb.tape.trans h.tape, hb.output.trans h.output, Nat.le_trans h.size hb.size, fun k hk hn => (hb.block k hk).trans (h.block k hk hn)⟩
abbrev ScanAt (w : World) (sb : Nat) (s : ByteArray) (k : Nat) : Prop := Blk w sb 105 #[.string s, .int .i64 k]
def noTok : Array Value := #[.int .i64 0, .int .i64 0, .string ⟨#[]⟩]
def tokC (kd : Int) (k : Nat) (t : ByteArray) : Array Value := #[.int .i64 kd, .int .i64 k, .string t]
set_option maxRecDepth 100000 in
set_option maxHeartbeats 1600000 in
theorem quoted_any (s : ByteArray) (k sb : Nat) (w : World) (hk : k < s.size) (hs : s.size ≤ maxLen) (hb : Hid (ScanAt w sb s k)) :
  Calls Tryz.prog 111 #[.pointer (some ⟨sb, 0, none⟩), .int .i64 k] w fun e w' => ∃ j, endP plainB s (k + 1) = j ∧ But sb w w' ∧
   ((∃ h : j < s.size, s[j] = 34 ∧ e = .returned (.tuple #[.agg (tokC 3 k (s.extract (k + 1) j)), .int .i64 0]) ∧ ScanAt w' sb s (j + 1)) ∨
    ((∀ h : j < s.size, s[j] ≠ 34) ∧ e = .returned (.tuple #[.agg noTok, .int .i64 2]))) := by
 have hs' := hd9 hs
 unfold maxLen at hs
 have hsb := hb.out.lt
 have c1 : w.cell? ⟨sb, 1, none⟩ = some (.int .i64 k) := hb.out.cell 1
 have y1 := hb.out.frozen 1
 have w1 : IntKind.i64.wrap ((k : Int) + 1) = (k : Int) + 1 := IntWalk.i64_in _ (by omega)
 obtain ⟨wa, hwa⟩ : ∃ wa, Hid (w.setCell ⟨sb, 1, none⟩ (.int .i64 ((k : Int) + 1)) = wa) := ⟨_, hd9 rfl⟩
 have hba : Hid (ScanAt wa sb s (k + 1)) := by unfold Hid; rw [← hwa.out]; exact hb.out.set_ 1 (.int .i64 ((k : Int) + 1))
 have hua : Hid (But sb w wa) := by unfold Hid; rw [← hwa.out]; exact (But.refl sb w).setCell 1 _
 have hsz : Hid (wa.heap.size = w.heap.size) := by unfold Hid; rw [← hwa.out]; simp
 go_enter Tryz.func111, Tryz.ntmps111
 go_wp2_with fail
 rw [hwa.out]
 have hrun := run145_any s (k + 1) sb (wa.alloc (.cells #[.int .i64 0, .int .i64 0, .string ⟨#[]⟩] 89)) (by omega) hs'.out (hba.out.alloc _)
 refine hrun.mono ?_
 rintro e w2 ⟨rfl, hu2, hb2⟩
 have hB2 : Hid (But sb w w2) := (hua.out.below ((Below.refl _ wa).alloc le9 (.cells #[.int .i64 0, .int .i64 0, .string ⟨#[]⟩] 89))).trans hu2
 have hr2 : Hid (Blk w2 w.heap.size 89 #[.int .i64 0, .int .i64 0, .string ⟨#[]⟩]) := hu2.blk (by have := Blk.new wa 89 #[.int .i64 0, .int .i64 0, .string ⟨#[]⟩]; rwa [hsz.out] at this) (by omega)
 obtain ⟨j, hj⟩ : ∃ j, Hid (endP plainB s (k + 1) = j) := ⟨_, hd9 rfl⟩
 have hjle : j ≤ s.size := by rw [← hj.out]; exact end_le (by omega)
 have hjk : k + 1 ≤ j := by rw [← hj.out]; exact end_ge _ _ _
 rw [hj.out] at hb2
 try rw [hj.out]
 have hb2' := hd9 hb2
 clear c1 y1 hrun hu2 hb2
 have d0 : w2.cell? ⟨sb, 0, none⟩ = some (.string s) := hb2'.out.cell 0
 have d1 : w2.cell? ⟨sb, 1, none⟩ = some (.int .i64 j) := hb2'.out.cell 1
 have y1 := hb2'.out.frozen 1
 obtain ⟨r0, r1, r2, f0, f1, f2⟩ := cf3 hr2.out
 by_cases hlt : j < s.size
 ·have i1 : (j : Int) < (s.size : Int) := by omega
  have i2 : (0 : Int) ≤ (j : Int) := by omega
  have b1 : decide ((s.size : Int) ≤ (j : Int)) = false := by simp; omega
  by_cases hc : s[j] = 34
  ·have b2 : ((s[j].toNat : Int) != 34) = false := by rw [hc]; rfl
   have w2' : IntKind.i64.wrap ((j : Int) + 1) = (j : Int) + 1 := IntWalk.i64_in _ (by omega)
   go_wp2_with fail
   go_quiet (fail)
   go_wp2_with fail
   have hd := hd9 (hb2'.out.below (below_drewN (Below.refl _ _) nq) hb2'.out.lt)
   have hq := hd9 (hr2.out.below (below_drewN (Below.refl _ _) nq) hr2.out.lt)
   refine bodyPost_ret (results_row_tmp rfl _ _ w.heap.size 89 _ _ rfl ((((hq.out.far (by simp; omega) _).set_ 0 _).set_ 1 _).set_ 2 _) Tryz.underlying89 rfl (by kernel_rfl)) rfl ?_
   have hne : sb ≠ w.heap.size := by omega
   refine ⟨j, hj.out, ((((hB2.out.below (below_drewN (Below.refl _ _) _)).setCell _ _).far le9 _ _).far le9 _ _).far le9 _ _, .inl ⟨hlt, hc, rfl, ?_⟩⟩
   exact (((hd.out.set_ 1 (.int .i64 ((j : Int) + 1))).far (p := ⟨w.heap.size, 0, none⟩) hne _).far (p := ⟨w.heap.size, 1, none⟩) hne _).far (p := ⟨w.heap.size, 2, none⟩) hne _
  ·have b2 : ((s[j].toNat : Int) != 34) = true := by
    simp only [bne_iff_ne, ne_eq]; intro h; exact hc (UInt8.toNat_inj.1 (by simpa using (by omega : s[j].toNat = 34)))
   go_wp2_with fail
   go_quiet (fail)
   go_wp2_with fail
   have hq := hd9 (hr2.out.below (below_drewN (Below.refl _ _) nq) hr2.out.lt)
   refine bodyPost_ret (results_row_tmp rfl _ _ w.heap.size 89 _ _ rfl (((hq.out.set_ 0 _).set_ 1 _).set_ 2 _) Tryz.underlying89 rfl (by kernel_rfl)) rfl ?_
   exact ⟨j, hj.out, (((hB2.out.below (below_drewN (Below.refl _ _) _)).far le9 _ _).far le9 _ _).far le9 _ _, .inr ⟨fun _ => hc, rfl⟩⟩
 ·have b1 : decide ((s.size : Int) ≤ (j : Int)) = true := by simp; omega
  go_wp2_with fail
  go_quiet (fail)
  go_wp2_with fail
  have hq := hd9 (hr2.out.below (below_drewN (Below.refl _ _) nq) hr2.out.lt)
  refine bodyPost_ret (results_row_tmp rfl _ _ w.heap.size 89 _ _ rfl (((hq.out.set_ 0 _).set_ 1 _).set_ 2 _) Tryz.underlying89 rfl (by kernel_rfl)) rfl ?_
  exact ⟨j, hj.out, (((hB2.out.below (below_drewN (Below.refl _ _) _)).far le9 _ _).far le9 _ _).far le9 _ _, .inr ⟨fun h => absurd h hlt, rfl⟩⟩
end Go.Proofs.YtjkmhlfjheiekaaGreatDoor

/- The library's builder of texts at this program: WriteString, laid. -/
import Derived.Test.YtjkmhlfjheiekaaGreatDoorShelf
import Derived.Test.YtjkmhlfjheiekaaGreatDoorZc
import Derived.Test.YtjkmhlfjheiekaaGreatDoorYb
namespace Go.Proofs
open Go
def Tryz.lays166_ren : Go.Shelf.Ren := ⟨fun | 166 => 79 | 240 => 126 | 276 => 151 | n => n, fun | 70 => 67 | 9 => 9 | 3 => 3 | 75 => 120 | 0 => 0 | 72 => 70 | 37 => 68 | 4 => 4 | 164 => 161 | 80 => 72 | 5 => 5 | n => n, fun | n => n⟩
theorem Tryz.lays166 : Go.Proofs.Lays.n166 Tryz.prog Tryz.lays166_ren := {
  mixed := by kernel_rfl
  f166 := Tryz.func79.trans (congrArg some (by kernel_rfl))
  f240 := Tryz.func126.trans (congrArg some (by kernel_rfl))
  f276 := Tryz.func151.trans (congrArg some (by kernel_rfl))
  t0 := Tryz.underlying0
  a0 := Tryz.isAgg0
  z0 := Tryz.sizeOf0
  v0 := Tryz.zeroValue0
  t3 := Tryz.underlying3
  a3 := Tryz.isAgg3
  z3 := Tryz.sizeOf3
  v3 := Tryz.zeroValue3
  t4 := Tryz.underlying4
  a4 := Tryz.isAgg4
  z4 := Tryz.sizeOf4
  v4 := Tryz.zeroValue4
  t9 := Tryz.underlying9
  a9 := Tryz.isAgg9
  z9 := Tryz.sizeOf9
  v9 := Tryz.zeroValue9
  t20 := Tryz.underlying20
  a20 := Tryz.isAgg20
  z20 := Tryz.sizeOf20
  v20 := Tryz.zeroValue20
  t37 := Tryz.underlying68
  a37 := Tryz.isAgg68
  z37 := Tryz.sizeOf68
  v37 := Tryz.zeroValue68
  t70 := Tryz.underlying67
  a70 := Tryz.isAgg67
  z70 := Tryz.sizeOf67
  v70 := Tryz.zeroValue67
  t72 := Tryz.underlying70
  a72 := Tryz.isAgg70
  z72 := Tryz.sizeOf70
  v72 := Tryz.zeroValue70
  t75 := Tryz.underlying120
  a75 := Tryz.isAgg120
  z75 := Tryz.sizeOf120
  v75 := Tryz.zeroValue120
  t164 := Tryz.underlying161
  a164 := Tryz.isAgg161
  z164 := Tryz.sizeOf161
  v164 := Tryz.zeroValue161 }

theorem Tryz.Builder_Extra_166 : Builder.Extra Tryz.prog Tryz.lays166_ren := {
  sizeBuilder := by kernel_rfl
  liesBuilder := by kernel_rfl
  t5 := Tryz.underlying5
  a5 := Tryz.isAgg5
  z5 := Tryz.sizeOf5
  v5 := Tryz.zeroValue5
  infoByte := by kernel_rfl
  cellsByte := by kernel_rfl
  sizeByte := by kernel_rfl
  neB5 := by decide }

open Go.RowKit in
theorem Tryz.Builder_WriteString_k (B b : Nat) (bs : List Value) (s : ByteArray) (w : World) (h : Lib.IsBuilderF 70 5 B b bs w) (hlen : bs.length + s.size ≤ 140737488355328) (hBw : B ≤ w.heap.size) :
    Calls Tryz.prog 79 #[.pointer (some ⟨b, 0, none⟩), .string s] w fun e w' => e = .returned (.tuple #[.int .i64 s.size, .nilIface]) ∧ (Lib.BuilderAtF 70 5 B b (.pointer (some ⟨b, 0, none⟩)) (bs ++ Lib.strCells s) w' ∧ Below B w w' ∧ Lib.OthersKept 5 (some b) w w') := Any.Builder_WriteString_k Tryz.lays166 Tryz.Builder_Extra_166 B b bs s w h hlen hBw
end Go.Proofs

namespace Go.Proofs.YtjkmhlfjheiekaaGreatDoor
open Go Go.RowKit Go.BigFrame Go.Maps

theorem run_all {s : ByteArray} {k : Nat} {r : Bool} {p : UInt8 → Bool} (hk : k < s.size) (h : r = (s.data.toList.drop k).all p) : r = (p s[k] && (s.data.toList.drop (k + 1)).all p) := by
  rw [h, drop_byte hk, List.all_cons]
set_option maxRecDepth 100000 in
theorem plain_nat (c : UInt8) : plainB c = (!decide ((c.toNat : Int) < 32) && !decide (126 < (c.toNat : Int)) && !((c.toNat : Int) == 34)) :=
  byte_all (P := fun c => plainB c = (!decide ((c.toNat : Int) < 32) && !decide (126 < (c.toNat : Int)) && !((c.toNat : Int) == 34))) (by decide) c
set_option maxRecDepth 100000 in
set_option maxHeartbeats 1600000 in
theorem isText_any (s : ByteArray) (w : World) (hs : s.size ≤ maxLen) : Calls Tryz.prog 76 #[.string s] w fun e w' => e = .returned (.bool (textM s.data.toList)) ∧ w = w' := by
  unfold maxLen at hs
  show Calls Tryz.prog 76 #[.string s] w fun e w' => e = .returned (.bool (s.data.toList.all plainB)) ∧ w = w'
  go_enter Tryz.func76, Tryz.ntmps76
  go_wp2_with fail
  go_loopg [3, 6] s.size (fun gg _ i wr => ∃ k : Nat, k ≤ s.size ∧ gg = s.size - k ∧ i = .int .i64 k ∧ w = wr ∧ Hid (s.data.toList.all plainB = (s.data.toList.drop k).all plainB))
  case atStart => exact ⟨0, Nat.zero_le _, by simp, rfl, rfl, rfl⟩
  case round =>
    obtain ⟨k, hk, hg, rfl, rfl, hall⟩ := hrel
    have hg' := Lib.hid hg
    clear hg
    by_cases hlt : k < s.size
    · have hst := Lib.hid (run_all hlt hall.out)
      rw [plain_nat] at hst
      have i1 : (k : Int) < (s.size : Int) := by omega
      have i2 : (0 : Int) ≤ (k : Int) := by omega
      have i3 : decide ((k : Int) < (s.size : Int)) = true := by simp; omega
      cases h1 : decide ((s[k].toNat : Int) < 32) <;> cases h2 : decide (126 < (s[k].toNat : Int)) <;> cases h3 : ((s[k].toNat : Int) == 34)
      all_goals
        rw [h1, h2, h3] at hst
        go_wp2_with fail
        first
          | (go_roundg (s.size - (k + 1))
             case measure => have := hg'.out; omega
             case rel => exact ⟨k + 1, by omega, rfl, by go_num, rfl, by rw [hst.out]; first | rfl | simp⟩)
          | (go_ret
             exact ⟨by rw [hst.out]; rfl, rfl⟩)
    · have hr : Hid (s.data.toList.all plainB = true) := by unfold Hid; rw [hall.out, List.drop_eq_nil_of_le (by simp; omega)]; rfl
      have i3 : decide ((k : Int) < (s.size : Int)) = false := by simp; omega
      go_wp2_with fail
      go_ret
      exact ⟨by rw [hr.out]; first | done | rfl, rfl⟩

theorem take_all {p : UInt8 → Bool} : ∀ {s : Txt}, s.all p = true → s.takeWhile p = s
  | [], _ => rfl
  | c :: r, h => by
    rw [List.all_cons, Bool.and_eq_true] at h
    rw [List.takeWhile_cons, if_pos h.1, take_all h.2]
theorem small_blank {c : UInt8} (h : smallB c = true) : blankB c = false := small_not_blank h
/-- The tokens of a text that has but small letters, digits, strokes. -/
theorem scan_mark {s : Txt} (h : markB s = true) : scanT s = if (rankM s).2 = 0 then .ok [⟨(rankM s).1, 0, s⟩] else .error (0, (rankM s).2) := by
  unfold markB at h
  simp only [Bool.and_eq_true, decide_eq_true_eq] at h
  obtain ⟨⟨h1, _⟩, h3⟩ := h
  cases s with
  | nil => simp at h1
  | cons c r =>
    have hc : smallB c = true := by rw [List.all_cons, Bool.and_eq_true] at h3; exact h3.1
    have hb := small_blank hc
    have htw := take_all h3
    unfold scanT
    rw [List.length_cons, scanM, List.dropWhile_cons, List.takeWhile_cons, hb]
    simp only [Bool.false_eq_true, if_false, reduceCtorEq, List.length_nil, Nat.add_zero, Nat.zero_add]
    rw [if_neg (by omega), oneM, if_pos hc, htw]
    by_cases h0 : (rankM (c :: r)).2 = 0
    · rw [if_pos h0, if_pos h0]
      simp only
      rw [List.drop_length, scanM]
      simp
    · rw [if_neg h0, if_neg h0]
theorem mark_name {s : Txt} : nameM s = (markB s && decide ((rankM s).2 = 0)) := rfl
theorem rank_named (s : Txt) (p : Nat) : namedB ⟨(rankM s).1, p, s⟩ = true := named_nm s p

set_option maxRecDepth 100000 in
set_option maxHeartbeats 1600000 in
theorem isName_any (s : ByteArray) (w : World) (hs : s.size ≤ maxLen) (he : Hid (Env w)) : Calls Tryz.prog 75 #[.string s] w fun e w' => e = .returned (.bool (nameM s.data.toList)) ∧ Below w.heap.size w w' := by
  have hcall := Lib.hid (markName_any s w hs)
  have hsc := Lib.hid (scan_any s w hs he)
  have hnm := Lib.hid (mark_name (s := s.data.toList))
  cases hm : markB s.data.toList with
  | false =>
    rw [hm] at hcall hnm
    clear hsc
    go_enter Tryz.func75, Tryz.ntmps75
    go_wp2_with (go_at_call 124; refine hcall.out.mono ?_; rintro e w1 ⟨rfl, rfl⟩)
    go_ret
    exact ⟨by rw [hnm.out]; rfl, Below.refl _ _⟩
  | true =>
    have hsm := Lib.hid (scan_mark hm)
    rw [hm] at hcall hnm
    go_enter Tryz.func75, Tryz.ntmps75
    go_wp2_with fail
    refine hcall.out.mono ?_
    rintro e w1 ⟨rfl, rfl⟩
    clear hm hcall
    go_wp2_with fail
    refine hsc.out.mono ?_
    rintro e w1 ⟨hB, hcase⟩
    have hB' := Lib.hid hB
    rcases hcase with ⟨l, v, h1, rfl, hl, hown⟩ | ⟨k, cd, h1, hcd, rfl⟩
    · rw [hsm.out] at h1
      have h0 : (rankM s.data.toList).2 = 0 := by
        by_cases h : (rankM s.data.toList).2 = 0
        · exact h
        · rw [if_neg h] at h1; cases h1
      rw [if_pos h0] at h1
      obtain rfl := Except.ok.inj h1
      obtain ⟨p, c, rfl⟩ := own_slice hown
      obtain ⟨g, off, rfl, hg, c0, c1, c2⟩ := tok_own (pb := 0) hown (by omega) 0 _ rfl
      rw [Nat.zero_mul, Nat.add_zero] at c0 c1 c2
      have hnd := Lib.hid (named_fits w1 w1 ⟨(rankM s.data.toList).1, 0, s.data.toList⟩ (Below.refl _ _))
      rw [rank_named] at hnd
      have hn1 : Hid (nameM s.data.toList = true) := by unfold Hid; rw [hnm.out, h0]; rfl
      obtain ⟨rk, hrk⟩ : ∃ r, Hid ((rankM s.data.toList).1 = r) := ⟨_, Lib.hid rfl⟩
      rw [hrk.out] at hnd c0
      clear hown h1 h0 hsm hsc hl hB hnm
      simp only at hnd c0 c1 c2
      go_wp2_with fail
      change Calls Tryz.prog 125 #[.agg #[.int .i64 rk, .int .i64 (0 : Nat), .string ⟨s.data.toList.toArray⟩]] w1 _
      refine Calls.mono (hnd.out) ?_
      rintro e w2 ⟨rfl, hB2⟩
      go_wp2_with fail
      go_ret
      exact ⟨by rw [hn1.out]; rfl, hB'.out.trans (hB2.mono hB'.out.size)⟩
    · have h0 : ¬ (rankM s.data.toList).2 = 0 := fun h => by rw [hsm.out, if_pos h] at h1; cases h1
      have hn1 : Hid (nameM s.data.toList = false) := by unfold Hid; rw [hnm.out, decide_eq_false h0]; rfl
      have b1 : (cd == 0) = false := by simp [hcd]
      clear h1 h0 hsm hsc hB hnm
      go_wp2_with fail
      go_ret
      exact ⟨by rw [hn1.out]; rfl, hB'.out⟩
set_option maxHeartbeats 400000 in
theorem isPaper_any (p : Int) (w : World) : Calls Tryz.prog 77 #[.int .i64 p] w fun e w' => e = .returned (.bool (decide (0 ≤ p) && decide (p < 6))) ∧ w = w' := by
  cases h1 : decide (0 ≤ p) <;> cases h2 : decide (p < 6)
  all_goals
    go_enter Tryz.func77, Tryz.ntmps77
    go_wp2_with fail
    go_ret
    exact ⟨rfl, rfl⟩
end Go.Proofs.YtjkmhlfjheiekaaGreatDoor

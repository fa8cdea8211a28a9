/- Numbers of digits: the program's and the document's. -/
import Derived.Test.YtdjmckjbibfecaaGreatDoorD
import Derived.Test.YtdjmckjbibfecaaGreatDoorS
namespace Go.Proofs.YtdjmckjbibfecaaGreatDoor
open Go Go.RowKit Go.BigFrame Go.Maps

/-- The number of digits. -/
def numF (s : List UInt8) : Option Int := match Lib.parseIntB 64 s with
  | .ok v => if -4611686018427387904 ≤ v ∧ v ≤ 4611686018427387904 ∧ Lib.itoa v = s then some v else none
  | _ => none
def twoN (r : Option Int) : Value := .tuple #[.int .i64 (r.getD 0), .bool r.isSome]

theorem below_bytes (w : World) (t : ByteArray) : Below w.heap.size w (Lib.bytesWorld w 5 t) := by
  unfold Lib.bytesWorld
  exact Lib.below_freeze ((Below.drew (Below.refl _ w)).alloc (Nat.le_refl _) _) (p := ⟨w.heap.size, _, none⟩) (Nat.le_refl _) 1
theorem parse_i64 {s : List UInt8} {v : Int} (h : Lib.parseIntB 64 s = .ok v) : -9223372036854775808 ≤ v ∧ v ≤ 9223372036854775807 := by
  unfold Lib.parseIntB at h
  split at h
  · cases h
  · simp only at h
    split at h
    · cases h
    · cases h
    · split at h
      · cases h
      · split at h
        · cases h
        · rename_i u _ h1 h2
          simp only [Lib.NumEnd.ok.injEq] at h
          subst h
          split <;> simp_all <;> omega

set_option maxRecDepth 100000 in
set_option maxHeartbeats 800000 in
theorem format_any (n : Int) (w : World) (h0 : -9223372036854775808 ≤ n) (h1 : n ≤ 9223372036854775807) (he : Env w) :
    Calls Tryz.prog 157 #[.int .i64 n, .int .i64 10] w fun e w' => e = .returned (.string (mkB (Lib.itoa n))) ∧ Below w.heap.size w w' := by
  have he' := Lib.hid he
  clear he
  go_enter Tryz.func157, Tryz.ntmps157
  go_wp2_with fail
  refine (Tryz.internal_strconv_FormatInt_10 n h0 h1 w he'.out.tab).mono ?_
  rintro e w' ⟨rfl, k, os, rfl⟩
  go_wp2_with fail
  go_ret
  exact ⟨rfl, below_grows w k os⟩

def Parsed (s : ByteArray) (w : World) (e : Ending) (w' : World) : Prop := Below w.heap.size w w' ∧ ((∃ v, Lib.parseIntB 64 s.data.toList = .ok v ∧ e = .returned (.tuple #[.int .i64 v, .nilIface])) ∨ (∃ v t p, (∀ v, Lib.parseIntB 64 s.data.toList ≠ .ok v) ∧ e = .returned (.tuple #[.int .i64 v, .iface t p])))
theorem parseInt_any (s : ByteArray) (w : World) (hs : s.size ≤ 1000000) (he : Env w) : Calls Tryz.prog 156 #[.string s, .int .i64 10, .int .i64 64] w (Parsed s w) := by
  cases hp : Lib.parseIntB 64 s.data.toList with
  | ok v =>
    refine (Tryz.strconv_ParseInt_10_at64_ok s (by omega) v hp w).mono ?_
    rintro e w' ⟨rfl, h | ⟨t, h⟩⟩
    · subst h; exact ⟨Below.refl _ _, .inl ⟨v, hp, rfl⟩⟩
    · subst h; exact ⟨below_bytes w t, .inl ⟨v, hp, rfl⟩⟩
  | range =>
    obtain ⟨te, pe, hv⟩ := he.ran
    refine (Tryz.strconv_ParseInt_10_at64_range s (by omega) hp _ w hv (.inr ⟨te, pe, rfl⟩)).mono ?_
    rintro e w' ⟨N, rfl, _, _, hb⟩
    exact ⟨hb, .inr ⟨_, _, _, (fun v => by rw [hp]; intro h; cases h), rfl⟩⟩
  | _ =>
    obtain ⟨te, pe, hv⟩ := he.syn
    refine (Any.strconv_ParseInt_10_at64_syntax Tryz.laysC174 s (by omega) hp _ w hv (.inr ⟨te, pe, rfl⟩)).mono ?_
    rintro e w' ⟨N, rfl, _, _, hb⟩
    exact ⟨hb, .inr ⟨_, _, _, (fun v => by rw [hp]; intro h; cases h), rfl⟩⟩

set_option maxRecDepth 100000 in
set_option maxHeartbeats 1600000 in
theorem number_any (s : ByteArray) (w : World) (hs : s.size ≤ 1000000) (he : Env w) :
    Calls Tryz.prog 99 #[.string s] w fun e w' => e = .returned (twoN (numF s.data.toList)) ∧ Below w.heap.size w w' := by
  have he' := Lib.hid he
  clear he
  go_enter Tryz.func99, Tryz.ntmps99
  go_wp2_with fail
  refine (parseInt_any s w hs he'.out).mono ?_
  rintro e w1 ⟨hb1, ⟨v, hp, rfl⟩ | ⟨v, t, p, hp, rfl⟩⟩
  · have hv := parse_i64 hp
    have hp' := Lib.hid hp
    clear hp
    obtain ⟨hv0, hv1⟩ := hv
    by_cases hlo : v < -4611686018427387904
    · have h0 : Hid (numF s.data.toList = none) := by unfold numF Hid; rw [hp'.out]; simp only; rw [if_neg (by omega)]
      skip
      go_wp2_with fail
      go_ret2
      exact ⟨by rw [h0.out]; rfl, hb1⟩
    · by_cases hhi : 4611686018427387904 < v
      · have h0 : Hid (numF s.data.toList = none) := by unfold numF Hid; rw [hp'.out]; simp only; rw [if_neg (by omega)]
        skip
        go_wp2_with fail
        go_ret2
        exact ⟨by rw [h0.out]; rfl, hb1⟩
      · have hr := Lib.hid (And.intro hv0 hv1)
        clear hv0 hv1
        go_wp2_with fail
        refine (format_any v w1 hr.out.1 hr.out.2 (he'.out.below hb1)).mono ?_
        rintro e w2 ⟨rfl, hb2⟩
        have hB2 : Below w.heap.size w w2 := hb1.trans (hb2.mono hb1.size)
        by_cases hq : (mkB (Lib.itoa v)).toList = s.toList
        · have hq1 : ((mkB (Lib.itoa v)).toList == s.toList) = true := by simp [hq]
          have hq' := Lib.hid hq
          clear hq
          go_wp2_with fail
          all_goals try (exfalso; simp_all; omega)
          go_ret2
          refine ⟨?_, hB2⟩
          unfold numF
          rw [hp'.out]; simp only
          have e1 : Lib.itoa v = s.data.toList := by have := hq'.out; simpa [mkB, ByteArray.toList_eq] using this
          rw [if_pos ⟨by omega, by omega, e1⟩]
          rfl
        · have hq1 : ((mkB (Lib.itoa v)).toList == s.toList) = false := by simp [hq]
          have hq' := Lib.hid hq
          clear hq
          go_wp2_with fail
          all_goals try (exfalso; simp_all; omega)
          go_ret2
          refine ⟨?_, hB2⟩
          unfold numF
          rw [hp'.out]; simp only
          rw [if_neg]
          · rfl
          · rintro ⟨_, _, e1⟩
            apply hq'.out
            rw [e1]
            simp [mkB]
  · have h0 : Hid (numF s.data.toList = none) := by
      unfold numF Hid
      split
      · rename_i u hu; exact absurd hu (hp u)
      · rfl
    skip
    have hp' := Lib.hid hp
    clear hp
    go_wp2_with fail
    go_ret2
    exact ⟨by rw [h0.out]; rfl, hb1⟩
end Go.Proofs.YtdjmckjbibfecaaGreatDoor

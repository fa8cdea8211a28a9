/- Walks of the scanner's questions about a byte. -/
import Derived.Test.YtjkmhlfjheiekaaGreatDoorA
import Derived.Test.YtjkmhlfjheiekaaGreatDoorG
namespace Go.Proofs.YtjkmhlfjheiekaaGreatDoor
open Go Go.RowKit Go.BigFrame Go.Maps

theorem byte_all {P : UInt8 → Prop} (h : ∀ n : Nat, n < 256 → P (UInt8.ofNat n)) (c : UInt8) : P c := by
  have := h c.toNat c.toNat_lt
  rwa [UInt8.ofNat_toNat] at this
set_option maxRecDepth 100000 in
theorem digit_eq (c : UInt8) : digitB c = (decide (48 ≤ (c.toNat : Int)) && decide ((c.toNat : Int) ≤ 57)) :=
  byte_all (P := fun c => digitB c = (decide (48 ≤ (c.toNat : Int)) && decide ((c.toNat : Int) ≤ 57))) (by decide) c
set_option maxRecDepth 100000 in
theorem large_eq (c : UInt8) : largeB c = (decide (65 ≤ (c.toNat : Int)) && decide ((c.toNat : Int) ≤ 90)) :=
  byte_all (P := fun c => largeB c = (decide (65 ≤ (c.toNat : Int)) && decide ((c.toNat : Int) ≤ 90))) (by decide) c
set_option maxRecDepth 100000 in
theorem blank_eq (c : UInt8) : blankB c = (((c.toNat : Int) == 32) || ((c.toNat : Int) == 10)) :=
  byte_all (P := fun c => blankB c = (((c.toNat : Int) == 32) || ((c.toNat : Int) == 10))) (by decide) c
set_option maxRecDepth 100000 in
theorem small_eq (c : UInt8) : smallB c = ((decide (97 ≤ (c.toNat : Int)) && decide ((c.toNat : Int) ≤ 122)) || digitB c || ((c.toNat : Int) == 45)) :=
  byte_all (P := fun c => smallB c = ((decide (97 ≤ (c.toNat : Int)) && decide ((c.toNat : Int) ≤ 122)) || digitB c || ((c.toNat : Int) == 45))) (by decide) c
set_option maxRecDepth 100000 in
theorem plain_eq (c : UInt8) : plainB c = (((c.toNat : Int) != 34) && decide (32 ≤ (c.toNat : Int)) && decide ((c.toNat : Int) ≤ 126)) :=
  byte_all (P := fun c => plainB c = (((c.toNat : Int) != 34) && decide (32 ≤ (c.toNat : Int)) && decide ((c.toNat : Int) ≤ 126))) (by decide) c
theorem retBl {a b : Bool} (h : a = b) : Ending.returned (.bool a) = .returned (.bool b) := by rw [h]

set_option maxHeartbeats 400000 in
theorem isDigit_any (c : UInt8) (w : World) : Calls Tryz.prog 140 #[.int .u8 c.toNat] w fun e w' => e = .returned (.bool (digitB c)) ∧ w = w' := by
  rw [digit_eq]
  cases h1 : decide (48 ≤ (c.toNat : Int)) <;> cases h2 : decide ((c.toNat : Int) ≤ 57)
  all_goals
    go_enter Tryz.func140, Tryz.ntmps140
    go_wp2_with fail
    go_ret
    exact ⟨retBl (by simp), rfl⟩
set_option maxHeartbeats 400000 in
theorem isLarge_any (c : UInt8) (w : World) : Calls Tryz.prog 110 #[.int .u8 c.toNat] w fun e w' => e = .returned (.bool (largeB c)) ∧ w = w' := by
  rw [large_eq]
  cases h1 : decide (65 ≤ (c.toNat : Int)) <;> cases h2 : decide ((c.toNat : Int) ≤ 90)
  all_goals
    go_enter Tryz.func110, Tryz.ntmps110
    go_wp2_with fail
    go_ret
    exact ⟨retBl (by simp), rfl⟩
set_option maxHeartbeats 400000 in
theorem isBlank_any (c : UInt8) (w : World) : Calls Tryz.prog 63 #[.int .u8 c.toNat] w fun e w' => e = .returned (.bool (blankB c)) ∧ w = w' := by
  rw [blank_eq]
  cases h1 : ((c.toNat : Int) == 32) <;> cases h2 : ((c.toNat : Int) == 10)
  all_goals
    go_enter Tryz.func63, Tryz.ntmps63
    go_wp2_with fail
    go_ret
    exact ⟨retBl (by simp), rfl⟩
set_option maxHeartbeats 400000 in
theorem isSmall_any (c : UInt8) (w : World) : Calls Tryz.prog 108 #[.int .u8 c.toNat] w fun e w' => e = .returned (.bool (smallB c)) ∧ w = w' := by
  rw [small_eq]
  cases h1 : decide (97 ≤ (c.toNat : Int)) <;> cases h2 : decide ((c.toNat : Int) ≤ 122) <;> cases h3 : ((c.toNat : Int) == 45) <;> obtain ⟨db, hd⟩ : ∃ db, Hid (digitB c = db) := ⟨_, rfl⟩ <;> cases db
  all_goals
    go_enter Tryz.func108, Tryz.ntmps108
    go_wp2_with (go_at_call 140; refine (isDigit_any _ _).mono ?_; rintro e w' ⟨rfl, rfl⟩; rw [hd.out])
    go_ret
    exact ⟨retBl (by rw [hd.out]; simp), rfl⟩
set_option maxHeartbeats 400000 in
theorem isPlain_any (c : UInt8) (w : World) : Calls Tryz.prog 145 #[.int .u8 c.toNat] w fun e w' => e = .returned (.bool (plainB c)) ∧ w = w' := by
  rw [plain_eq]
  cases h1 : ((c.toNat : Int) != 34) <;> cases h2 : decide (32 ≤ (c.toNat : Int)) <;> cases h3 : decide ((c.toNat : Int) ≤ 126)
  all_goals
    go_enter Tryz.func145, Tryz.ntmps145
    go_wp2_with fail
    go_ret
    exact ⟨retBl (by simp), rfl⟩
end Go.Proofs.YtjkmhlfjheiekaaGreatDoor

namespace Go.Proofs.YtjkmhlfjheiekaaGreatDoor
open Go Go.RowKit Go.BigFrame Go.Maps

/-- Where a run of bytes ends. -/
def endP (p : UInt8 → Bool) (s : ByteArray) (k : Nat) : Nat := k + ((s.data.toList.drop k).takeWhile p).length
theorem drop_byte {s : ByteArray} {k : Nat} (h : k < s.size) : s.data.toList.drop k = s[k] :: s.data.toList.drop (k + 1) := by
  have hk : k < s.data.toList.length := by simpa using h
  rw [List.drop_eq_getElem_cons hk]; rfl
theorem end_yes {p : UInt8 → Bool} {s : ByteArray} {k : Nat} (h : k < s.size) (hp : p s[k] = true) : endP p s k = endP p s (k + 1) := by
  unfold endP
  rw [drop_byte h, List.takeWhile_cons_of_pos hp, List.length_cons]; omega
theorem end_no {p : UInt8 → Bool} {s : ByteArray} {k : Nat} (h : k < s.size) (hp : p s[k] = false) : endP p s k = k := by
  unfold endP
  rw [drop_byte h, List.takeWhile_cons_of_neg (by rw [hp]; simp)]; rfl
theorem end_end {p : UInt8 → Bool} {s : ByteArray} {k : Nat} (h : s.size ≤ k) : endP p s k = k := by
  unfold endP
  rw [List.drop_eq_nil_of_le (by simpa using h)]; rfl
theorem end_ge (p : UInt8 → Bool) (s : ByteArray) (k : Nat) : k ≤ endP p s k := by unfold endP; omega
theorem end_le {p : UInt8 → Bool} {s : ByteArray} {k : Nat} (h : k ≤ s.size) : endP p s k ≤ s.size := by
  unfold endP
  have h1 := (List.takeWhile_prefix p (l := s.data.toList.drop k)).length_le
  rw [List.length_drop] at h1
  have : s.data.toList.length = s.size := by simp
  omega
theorem extract_list (s : ByteArray) (f k : Nat) : (s.extract f k).data.toList = (s.data.toList.drop f).take (k - f) := by
  rw [ByteArray.data_extract, Array.toList_extract, List.extract_eq_take_drop]
theorem extract_run (p : UInt8 → Bool) (s : ByteArray) (k : Nat) : (s.extract k (endP p s k)).data.toList = (s.data.toList.drop k).takeWhile p := by
  rw [extract_list]
  unfold endP
  rw [Nat.add_sub_cancel_left]
  have := List.takeWhile_prefix p (l := s.data.toList.drop k)
  rw [List.prefix_iff_eq_take] at this
  exact this.symm
theorem below_drewN {B : Nat} {a w : World} (h : Below B a w) (n : Nat) : Below B a (w.drewN n) := ⟨h.os, h.tape, h.output, h.size, h.block⟩

set_option maxRecDepth 100000 in
set_option maxHeartbeats 1600000 in
theorem run63_any (s : ByteArray) (k sb : Nat) (w : World) (hk : k ≤ s.size) (hs : s.size ≤ maxLen) (hb : Hid (Blk w sb 105 #[.string s, .int .i64 k])) :
    Calls Tryz.prog 62 #[.pointer (some ⟨sb, 0, none⟩), .func (Fn.func 63) #[] #[]] w fun e w' => e = .returned (.string (s.extract k (endP blankB s k))) ∧ But sb w w' ∧ Blk w' sb 105 #[.string s, .int .i64 (endP blankB s k : Nat)] := by
  unfold maxLen at hs
  have c0 : w.cell? ⟨sb, 0, none⟩ = some (.string s) := hb.out.cell 0
  have c1 : w.cell? ⟨sb, 1, none⟩ = some (.int .i64 k) := hb.out.cell 1
  go_enter Tryz.func62, Tryz.ntmps62
  go_wp2_with fail
  clear c0 c1
  go_loopg [] (s.size - k) (fun gg wr => ∃ j : Nat, k ≤ j ∧ j ≤ s.size ∧ gg = s.size - j ∧ Hid (endP blankB s k = endP blankB s j) ∧ Hid (But sb w wr) ∧ Hid (Blk wr sb 105 #[.string s, .int .i64 j]))
  case atStart => exact ⟨k, Nat.le_refl _, hk, rfl, rfl, But.refl _ _, hb⟩
  case round =>
    obtain ⟨j, hkj, hj, hg, he, hB, hbr⟩ := hrel
    have hg' := Lib.hid hg
    clear hg
    have e0 : wr.cell? ⟨sb, 0, none⟩ = some (.string s) := hbr.out.cell 0
    have e1 : wr.cell? ⟨sb, 1, none⟩ = some (.int .i64 j) := hbr.out.cell 1
    have y1 := hbr.out.frozen 1
    have i4 : (0 : Int) ≤ (j : Int) := by omega
    by_cases hlt : j < s.size
    · have hl1 : decide ((j : Int) < (s.size : Int)) = true := by simp; omega
      have i3 : (j : Int) < (s.size : Int) := by omega
      obtain ⟨pb, hpb⟩ : ∃ b, Hid (blankB s[j] = b) := ⟨_, Lib.hid rfl⟩
      have hcl : Hid (∀ y : Ext wr, Calls Tryz.prog 63 #[.int .u8 (s[j].toNat)] y.wd fun e w' => e = .returned (.bool pb) ∧ y.wd = w') := fun y => by
        have := isBlank_any s[j] y.wd
        rw [hpb.out] at this
        exact this
      have f0 : ∀ y : Ext wr, y.wd.cell? ⟨sb, 0, none⟩ = some (.string s) := fun y => (y.cell ⟨sb, 0, none⟩ hbr.out.lt).trans e0
      have f1 : ∀ y : Ext wr, y.wd.cell? ⟨sb, 1, none⟩ = some (.int .i64 j) := fun y => (y.cell ⟨sb, 1, none⟩ hbr.out.lt).trans e1
      go_wp2_with fail
      refine wp_region_ext (by kernel_rfl) (by kernel_rfl) ?_
      repeat (go_big_quiet_step ((go_at_call 63; exact Calls.ext_of_same (hcl.out _))))
      refine wpQuiet_nil ?_
      rintro _ ⟨y, rfl⟩
      have g0 := f0 y
      have g1 := f1 y
      have hby := Lib.hid y.below
      obtain ⟨wy, hwy⟩ : ∃ w6, y.wd = w6 := ⟨_, rfl⟩
      rw [hwy] at g0 g1 hby ⊢
      clear hwy y f0 f1 e0 e1 hcl y1
      have hbd := Lib.hid (hbr.out.below hby.out hbr.out.lt)
      have hBy : Hid (But sb w wy) := hB.out.below hby.out
      have y1 := hbd.out.frozen 1
      cases pb with
      | true =>
        have hn := Lib.hid (end_yes hlt hpb.out)
        go_wp2_with fail
        go_roundg (s.size - (j + 1))
        case measure => have := hg'.out; omega
        case rel => exact ⟨j + 1, by omega, by omega, rfl, he.out.trans hn.out, hBy.out.setCell _ _, hbd.out.set_ 1 _⟩
      | false =>
        have hn : Hid (endP blankB s k = j) := he.out.trans (end_no hlt hpb.out)
        go_wp2_with fail
        go_quiet (fail)
        go_wp2_with fail
        go_ret
        rw [hn.out]
        exact ⟨rfl, hBy.out.below (below_drewN (Below.refl _ _) _), hbd.out.below (below_drewN (Below.refl _ _) _) hbd.out.lt⟩
    · have hl1 : decide ((j : Int) < (s.size : Int)) = false := by simp; omega
      have hn : Hid (endP blankB s k = j) := he.out.trans (end_end (by omega))
      go_wp2_with fail
      go_quiet (fail)
      go_wp2_with fail
      go_quiet (fail)
      go_wp2_with fail
      go_ret
      rw [hn.out]
      exact ⟨rfl, hB.out.below (below_drewN (below_drewN (Below.refl _ _) _) _), hbr.out.below (below_drewN (below_drewN (Below.refl _ _) _) _) hbr.out.lt⟩

set_option maxRecDepth 100000 in
set_option maxHeartbeats 1600000 in
theorem run108_any (s : ByteArray) (k sb : Nat) (w : World) (hk : k ≤ s.size) (hs : s.size ≤ maxLen) (hb : Hid (Blk w sb 105 #[.string s, .int .i64 k])) :
    Calls Tryz.prog 62 #[.pointer (some ⟨sb, 0, none⟩), .func (Fn.func 108) #[] #[]] w fun e w' => e = .returned (.string (s.extract k (endP smallB s k))) ∧ But sb w w' ∧ Blk w' sb 105 #[.string s, .int .i64 (endP smallB s k : Nat)] := by
  unfold maxLen at hs
  have c0 : w.cell? ⟨sb, 0, none⟩ = some (.string s) := hb.out.cell 0
  have c1 : w.cell? ⟨sb, 1, none⟩ = some (.int .i64 k) := hb.out.cell 1
  go_enter Tryz.func62, Tryz.ntmps62
  go_wp2_with fail
  clear c0 c1
  go_loopg [] (s.size - k) (fun gg wr => ∃ j : Nat, k ≤ j ∧ j ≤ s.size ∧ gg = s.size - j ∧ Hid (endP smallB s k = endP smallB s j) ∧ Hid (But sb w wr) ∧ Hid (Blk wr sb 105 #[.string s, .int .i64 j]))
  case atStart => exact ⟨k, Nat.le_refl _, hk, rfl, rfl, But.refl _ _, hb⟩
  case round =>
    obtain ⟨j, hkj, hj, hg, he, hB, hbr⟩ := hrel
    have hg' := Lib.hid hg
    clear hg
    have e0 : wr.cell? ⟨sb, 0, none⟩ = some (.string s) := hbr.out.cell 0
    have e1 : wr.cell? ⟨sb, 1, none⟩ = some (.int .i64 j) := hbr.out.cell 1
    have y1 := hbr.out.frozen 1
    have i4 : (0 : Int) ≤ (j : Int) := by omega
    by_cases hlt : j < s.size
    · have hl1 : decide ((j : Int) < (s.size : Int)) = true := by simp; omega
      have i3 : (j : Int) < (s.size : Int) := by omega
      obtain ⟨pb, hpb⟩ : ∃ b, Hid (smallB s[j] = b) := ⟨_, Lib.hid rfl⟩
      have hcl : Hid (∀ y : Ext wr, Calls Tryz.prog 108 #[.int .u8 (s[j].toNat)] y.wd fun e w' => e = .returned (.bool pb) ∧ y.wd = w') := fun y => by
        have := isSmall_any s[j] y.wd
        rw [hpb.out] at this
        exact this
      have f0 : ∀ y : Ext wr, y.wd.cell? ⟨sb, 0, none⟩ = some (.string s) := fun y => (y.cell ⟨sb, 0, none⟩ hbr.out.lt).trans e0
      have f1 : ∀ y : Ext wr, y.wd.cell? ⟨sb, 1, none⟩ = some (.int .i64 j) := fun y => (y.cell ⟨sb, 1, none⟩ hbr.out.lt).trans e1
      go_wp2_with fail
      refine wp_region_ext (by kernel_rfl) (by kernel_rfl) ?_
      repeat (go_big_quiet_step ((go_at_call 108; exact Calls.ext_of_same (hcl.out _))))
      refine wpQuiet_nil ?_
      rintro _ ⟨y, rfl⟩
      have g0 := f0 y
      have g1 := f1 y
      have hby := Lib.hid y.below
      obtain ⟨wy, hwy⟩ : ∃ w6, y.wd = w6 := ⟨_, rfl⟩
      rw [hwy] at g0 g1 hby ⊢
      clear hwy y f0 f1 e0 e1 hcl y1
      have hbd := Lib.hid (hbr.out.below hby.out hbr.out.lt)
      have hBy : Hid (But sb w wy) := hB.out.below hby.out
      have y1 := hbd.out.frozen 1
      cases pb with
      | true =>
        have hn := Lib.hid (end_yes hlt hpb.out)
        go_wp2_with fail
        go_roundg (s.size - (j + 1))
        case measure => have := hg'.out; omega
        case rel => exact ⟨j + 1, by omega, by omega, rfl, he.out.trans hn.out, hBy.out.setCell _ _, hbd.out.set_ 1 _⟩
      | false =>
        have hn : Hid (endP smallB s k = j) := he.out.trans (end_no hlt hpb.out)
        go_wp2_with fail
        go_quiet (fail)
        go_wp2_with fail
        go_ret
        rw [hn.out]
        exact ⟨rfl, hBy.out.below (below_drewN (Below.refl _ _) _), hbd.out.below (below_drewN (Below.refl _ _) _) hbd.out.lt⟩
    · have hl1 : decide ((j : Int) < (s.size : Int)) = false := by simp; omega
      have hn : Hid (endP smallB s k = j) := he.out.trans (end_end (by omega))
      go_wp2_with fail
      go_quiet (fail)
      go_wp2_with fail
      go_quiet (fail)
      go_wp2_with fail
      go_ret
      rw [hn.out]
      exact ⟨rfl, hB.out.below (below_drewN (below_drewN (Below.refl _ _) _) _), hbr.out.below (below_drewN (below_drewN (Below.refl _ _) _) _) hbr.out.lt⟩

set_option maxRecDepth 100000 in
set_option maxHeartbeats 1600000 in
theorem run110_any (s : ByteArray) (k sb : Nat) (w : World) (hk : k ≤ s.size) (hs : s.size ≤ maxLen) (hb : Hid (Blk w sb 105 #[.string s, .int .i64 k])) :
    Calls Tryz.prog 62 #[.pointer (some ⟨sb, 0, none⟩), .func (Fn.func 110) #[] #[]] w fun e w' => e = .returned (.string (s.extract k (endP largeB s k))) ∧ But sb w w' ∧ Blk w' sb 105 #[.string s, .int .i64 (endP largeB s k : Nat)] := by
  unfold maxLen at hs
  have c0 : w.cell? ⟨sb, 0, none⟩ = some (.string s) := hb.out.cell 0
  have c1 : w.cell? ⟨sb, 1, none⟩ = some (.int .i64 k) := hb.out.cell 1
  go_enter Tryz.func62, Tryz.ntmps62
  go_wp2_with fail
  clear c0 c1
  go_loopg [] (s.size - k) (fun gg wr => ∃ j : Nat, k ≤ j ∧ j ≤ s.size ∧ gg = s.size - j ∧ Hid (endP largeB s k = endP largeB s j) ∧ Hid (But sb w wr) ∧ Hid (Blk wr sb 105 #[.string s, .int .i64 j]))
  case atStart => exact ⟨k, Nat.le_refl _, hk, rfl, rfl, But.refl _ _, hb⟩
  case round =>
    obtain ⟨j, hkj, hj, hg, he, hB, hbr⟩ := hrel
    have hg' := Lib.hid hg
    clear hg
    have e0 : wr.cell? ⟨sb, 0, none⟩ = some (.string s) := hbr.out.cell 0
    have e1 : wr.cell? ⟨sb, 1, none⟩ = some (.int .i64 j) := hbr.out.cell 1
    have y1 := hbr.out.frozen 1
    have i4 : (0 : Int) ≤ (j : Int) := by omega
    by_cases hlt : j < s.size
    · have hl1 : decide ((j : Int) < (s.size : Int)) = true := by simp; omega
      have i3 : (j : Int) < (s.size : Int) := by omega
      obtain ⟨pb, hpb⟩ : ∃ b, Hid (largeB s[j] = b) := ⟨_, Lib.hid rfl⟩
      have hcl : Hid (∀ y : Ext wr, Calls Tryz.prog 110 #[.int .u8 (s[j].toNat)] y.wd fun e w' => e = .returned (.bool pb) ∧ y.wd = w') := fun y => by
        have := isLarge_any s[j] y.wd
        rw [hpb.out] at this
        exact this
      have f0 : ∀ y : Ext wr, y.wd.cell? ⟨sb, 0, none⟩ = some (.string s) := fun y => (y.cell ⟨sb, 0, none⟩ hbr.out.lt).trans e0
      have f1 : ∀ y : Ext wr, y.wd.cell? ⟨sb, 1, none⟩ = some (.int .i64 j) := fun y => (y.cell ⟨sb, 1, none⟩ hbr.out.lt).trans e1
      go_wp2_with fail
      refine wp_region_ext (by kernel_rfl) (by kernel_rfl) ?_
      repeat (go_big_quiet_step ((go_at_call 110; exact Calls.ext_of_same (hcl.out _))))
      refine wpQuiet_nil ?_
      rintro _ ⟨y, rfl⟩
      have g0 := f0 y
      have g1 := f1 y
      have hby := Lib.hid y.below
      obtain ⟨wy, hwy⟩ : ∃ w6, y.wd = w6 := ⟨_, rfl⟩
      rw [hwy] at g0 g1 hby ⊢
      clear hwy y f0 f1 e0 e1 hcl y1
      have hbd := Lib.hid (hbr.out.below hby.out hbr.out.lt)
      have hBy : Hid (But sb w wy) := hB.out.below hby.out
      have y1 := hbd.out.frozen 1
      cases pb with
      | true =>
        have hn := Lib.hid (end_yes hlt hpb.out)
        go_wp2_with fail
        go_roundg (s.size - (j + 1))
        case measure => have := hg'.out; omega
        case rel => exact ⟨j + 1, by omega, by omega, rfl, he.out.trans hn.out, hBy.out.setCell _ _, hbd.out.set_ 1 _⟩
      | false =>
        have hn : Hid (endP largeB s k = j) := he.out.trans (end_no hlt hpb.out)
        go_wp2_with fail
        go_quiet (fail)
        go_wp2_with fail
        go_ret
        rw [hn.out]
        exact ⟨rfl, hBy.out.below (below_drewN (Below.refl _ _) _), hbd.out.below (below_drewN (Below.refl _ _) _) hbd.out.lt⟩
    · have hl1 : decide ((j : Int) < (s.size : Int)) = false := by simp; omega
      have hn : Hid (endP largeB s k = j) := he.out.trans (end_end (by omega))
      go_wp2_with fail
      go_quiet (fail)
      go_wp2_with fail
      go_quiet (fail)
      go_wp2_with fail
      go_ret
      rw [hn.out]
      exact ⟨rfl, hB.out.below (below_drewN (below_drewN (Below.refl _ _) _) _), hbr.out.below (below_drewN (below_drewN (Below.refl _ _) _) _) hbr.out.lt⟩

set_option maxRecDepth 100000 in
set_option maxHeartbeats 1600000 in
theorem run145_any (s : ByteArray) (k sb : Nat) (w : World) (hk : k ≤ s.size) (hs : s.size ≤ maxLen) (hb : Hid (Blk w sb 105 #[.string s, .int .i64 k])) :
    Calls Tryz.prog 62 #[.pointer (some ⟨sb, 0, none⟩), .func (Fn.func 145) #[] #[]] w fun e w' => e = .returned (.string (s.extract k (endP plainB s k))) ∧ But sb w w' ∧ Blk w' sb 105 #[.string s, .int .i64 (endP plainB s k : Nat)] := by
  unfold maxLen at hs
  have c0 : w.cell? ⟨sb, 0, none⟩ = some (.string s) := hb.out.cell 0
  have c1 : w.cell? ⟨sb, 1, none⟩ = some (.int .i64 k) := hb.out.cell 1
  go_enter Tryz.func62, Tryz.ntmps62
  go_wp2_with fail
  clear c0 c1
  go_loopg [] (s.size - k) (fun gg wr => ∃ j : Nat, k ≤ j ∧ j ≤ s.size ∧ gg = s.size - j ∧ Hid (endP plainB s k = endP plainB s j) ∧ Hid (But sb w wr) ∧ Hid (Blk wr sb 105 #[.string s, .int .i64 j]))
  case atStart => exact ⟨k, Nat.le_refl _, hk, rfl, rfl, But.refl _ _, hb⟩
  case round =>
    obtain ⟨j, hkj, hj, hg, he, hB, hbr⟩ := hrel
    have hg' := Lib.hid hg
    clear hg
    have e0 : wr.cell? ⟨sb, 0, none⟩ = some (.string s) := hbr.out.cell 0
    have e1 : wr.cell? ⟨sb, 1, none⟩ = some (.int .i64 j) := hbr.out.cell 1
    have y1 := hbr.out.frozen 1
    have i4 : (0 : Int) ≤ (j : Int) := by omega
    by_cases hlt : j < s.size
    · have hl1 : decide ((j : Int) < (s.size : Int)) = true := by simp; omega
      have i3 : (j : Int) < (s.size : Int) := by omega
      obtain ⟨pb, hpb⟩ : ∃ b, Hid (plainB s[j] = b) := ⟨_, Lib.hid rfl⟩
      have hcl : Hid (∀ y : Ext wr, Calls Tryz.prog 145 #[.int .u8 (s[j].toNat)] y.wd fun e w' => e = .returned (.bool pb) ∧ y.wd = w') := fun y => by
        have := isPlain_any s[j] y.wd
        rw [hpb.out] at this
        exact this
      have f0 : ∀ y : Ext wr, y.wd.cell? ⟨sb, 0, none⟩ = some (.string s) := fun y => (y.cell ⟨sb, 0, none⟩ hbr.out.lt).trans e0
      have f1 : ∀ y : Ext wr, y.wd.cell? ⟨sb, 1, none⟩ = some (.int .i64 j) := fun y => (y.cell ⟨sb, 1, none⟩ hbr.out.lt).trans e1
      go_wp2_with fail
      refine wp_region_ext (by kernel_rfl) (by kernel_rfl) ?_
      repeat (go_big_quiet_step ((go_at_call 145; exact Calls.ext_of_same (hcl.out _))))
      refine wpQuiet_nil ?_
      rintro _ ⟨y, rfl⟩
      have g0 := f0 y
      have g1 := f1 y
      have hby := Lib.hid y.below
      obtain ⟨wy, hwy⟩ : ∃ w6, y.wd = w6 := ⟨_, rfl⟩
      rw [hwy] at g0 g1 hby ⊢
      clear hwy y f0 f1 e0 e1 hcl y1
      have hbd := Lib.hid (hbr.out.below hby.out hbr.out.lt)
      have hBy : Hid (But sb w wy) := hB.out.below hby.out
      have y1 := hbd.out.frozen 1
      cases pb with
      | true =>
        have hn := Lib.hid (end_yes hlt hpb.out)
        go_wp2_with fail
        go_roundg (s.size - (j + 1))
        case measure => have := hg'.out; omega
        case rel => exact ⟨j + 1, by omega, by omega, rfl, he.out.trans hn.out, hBy.out.setCell _ _, hbd.out.set_ 1 _⟩
      | false =>
        have hn : Hid (endP plainB s k = j) := he.out.trans (end_no hlt hpb.out)
        go_wp2_with fail
        go_quiet (fail)
        go_wp2_with fail
        go_ret
        rw [hn.out]
        exact ⟨rfl, hBy.out.below (below_drewN (Below.refl _ _) _), hbd.out.below (below_drewN (Below.refl _ _) _) hbd.out.lt⟩
    · have hl1 : decide ((j : Int) < (s.size : Int)) = false := by simp; omega
      have hn : Hid (endP plainB s k = j) := he.out.trans (end_end (by omega))
      go_wp2_with fail
      go_quiet (fail)
      go_wp2_with fail
      go_quiet (fail)
      go_wp2_with fail
      go_ret
      rw [hn.out]
      exact ⟨rfl, hB.out.below (below_drewN (below_drewN (Below.refl _ _) _) _), hbr.out.below (below_drewN (below_drewN (Below.refl _ _) _) _) hbr.out.lt⟩
end Go.Proofs.YtjkmhlfjheiekaaGreatDoor

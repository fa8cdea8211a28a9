/- The document's scanner: its questions about bytes and texts (walks of run, digits, above, in, Words). -/
import Derived.Test.YtjkmhlfjheiekaaGreatDoorYb
namespace Go.Proofs.YtjkmhlfjheiekaaGreatDoor
open Go Go.RowKit Go.BigFrame Go.Maps

def mostL : Txt := [49, 48, 57, 57, 53, 49, 49, 54, 50, 55, 55, 55, 54]
theorem fold_small : ∀ (t : Txt) (a : Nat), t.all digitB = true → foldV a t < (a + 1) * 10 ^ t.length
  | [], a, _ => by simp [foldV]
  | c :: r, a, h => by
    rw [List.all_cons, Bool.and_eq_true] at h
    obtain ⟨h1, h2⟩ := digit_range h.1
    have := fold_small r (10 * a + (c.toNat - 48)) h.2
    have h3 : foldV a (c :: r) = foldV (10 * a + (c.toNat - 48)) r := rfl
    rw [h3, List.length_cons, Nat.pow_succ]
    refine Nat.lt_of_lt_of_le this ?_
    have h4 : (a + 1) * (10 ^ r.length * 10) = (10 * (a + 1)) * 10 ^ r.length := by rw [Nat.mul_comm (10 ^ r.length), ← Nat.mul_assoc, Nat.mul_comm (a + 1)]
    rw [h4]
    exact Nat.mul_le_mul_right _ (by omega)
theorem fold_lt : ∀ (x y : Txt) (a b : Nat), x.length = y.length → x.all digitB = true → y.all digitB = true → a < b → foldV a x < foldV b y
  | [], y, a, b, hl, _, _, h => by
    obtain rfl := List.eq_nil_of_length_eq_zero hl.symm
    exact h
  | c :: x, [], a, b, hl, _, _, _ => by simp at hl
  | c :: x, d :: y, a, b, hl, hx, hy, h => by
    rw [List.all_cons, Bool.and_eq_true] at hx hy
    obtain ⟨c1, c2⟩ := digit_range hx.1
    obtain ⟨d1, d2⟩ := digit_range hy.1
    exact fold_lt x y (10 * a + (c.toNat - 48)) (10 * b + (d.toNat - 48)) (by simpa using hl) hx.2 hy.2 (by omega)
theorem bytes_fold : ∀ (x y : Txt) (a : Nat), x.length = y.length → x.all digitB = true → y.all digitB = true → (!(Op.bytesLess x y || x == y)) = decide (foldV a y < foldV a x)
  | [], y, a, hl, _, _ => by
    obtain rfl := List.eq_nil_of_length_eq_zero hl.symm
    simp
  | c :: x, [], a, hl, _, _ => by simp at hl
  | c :: x, d :: y, a, hl, hx, hy => by
    rw [List.all_cons, Bool.and_eq_true] at hx hy
    obtain ⟨c1, c2⟩ := digit_range hx.1
    obtain ⟨d1, d2⟩ := digit_range hy.1
    have hl' : x.length = y.length := by simpa using hl
    have e1 : foldV a (c :: x) = foldV (10 * a + (c.toNat - 48)) x := rfl
    have e2 : foldV a (d :: y) = foldV (10 * a + (d.toNat - 48)) y := rfl
    rw [e1, e2, Op.bytesLess]
    rcases Nat.lt_trichotomy c.toNat d.toNat with h | h | h
    · have g1 := fold_lt x y (10 * a + (c.toNat - 48)) (10 * a + (d.toNat - 48)) hl' hx.2 hy.2 (by omega)
      have g2 : c < d := by rw [UInt8.lt_iff_toNat_lt]; exact h
      rw [decide_eq_true g2]
      simp; omega
    · obtain rfl : c = d := UInt8.toNat_inj.1 h
      have g2 : ¬ c < c := by rw [UInt8.lt_iff_toNat_lt]; omega
      rw [← bytes_fold x y (10 * a + (c.toNat - 48)) hl' hx.2 hy.2, decide_eq_false g2]
      simp
    · have g1 := fold_lt y x (10 * a + (d.toNat - 48)) (10 * a + (c.toNat - 48)) hl'.symm hy.2 hx.2 (by omega)
      have g2 : ¬ c < d := by rw [UInt8.lt_iff_toNat_lt]; omega
      have g3 : c ≠ d := fun e => by rw [e] at h; omega
      rw [decide_eq_false g2, decide_eq_true g1]
      simp [g3]
def aboveB (t : Txt) : Bool := decide (13 < t.length) || (decide (t.length = 13) && !(Op.bytesLess t mostL || t == mostL))
theorem above_eq {t : Txt} (hd : t.all digitB = true) (h0 : ¬ (1 < t.length ∧ t.head? = some 48)) : aboveB t = decide (mostN < numV t) := by
  have hm : foldV 0 mostL = mostN := by decide
  unfold aboveB
  by_cases h13 : 13 < t.length
  · have hbig : mostN < numV t := by
      cases t with
      | nil => simp at h13
      | cons c r =>
        have hc : c ≠ 48 := fun h => h0 ⟨by omega, by rw [h]; rfl⟩
        rw [List.all_cons, Bool.and_eq_true] at hd
        have hg := digit_nought c hd.1 hc
        have hf : numV (c :: r) = foldV (10 * 0 + (c.toNat - 48)) r := rfl
        have hb := fold_big r (10 * 0 + (c.toNat - 48))
        rw [← hf] at hb
        simp only [List.length_cons] at h13
        have h10 : 10 ^ 13 ≤ 10 ^ r.length := Nat.pow_le_pow_right (by omega) (by omega)
        have h11 : 1 * 10 ^ r.length ≤ (10 * 0 + (c.toNat - 48)) * 10 ^ r.length := Nat.mul_le_mul_right _ (by omega)
        unfold mostN
        omega
    rw [decide_eq_true h13, decide_eq_true hbig]; rfl
  · rw [decide_eq_false h13]
    by_cases he : t.length = 13
    · rw [decide_eq_true he, bytes_fold t mostL 0 (by rw [he]; rfl) hd (by decide), hm]
      rfl
    · rw [decide_eq_false he]
      have hs := fold_small t 0 hd
      have h10 : 10 ^ t.length ≤ 10 ^ 12 := Nat.pow_le_pow_right (by omega) (by omega)
      have hf : numV t = foldV 0 t := rfl
      have : ¬ mostN < numV t := by unfold mostN; omega
      rw [decide_eq_false this]; rfl

set_option maxHeartbeats 400000 in
theorem rrun_any (c : UInt8) (w : World) : Calls Tryz.prog 117 #[.int .u8 c.toNat] w fun e w' => e = .returned (.bool (smallB c)) ∧ w = w' := by
  rw [small_eq, digit_eq]
  cases h1 : decide (97 ≤ (c.toNat : Int)) <;> cases h2 : decide ((c.toNat : Int) ≤ 122) <;> cases h3 : ((c.toNat : Int) == 45) <;> cases h4 : decide (48 ≤ (c.toNat : Int)) <;> cases h5 : decide ((c.toNat : Int) ≤ 57)
  all_goals
    go_enter Tryz.func117, Tryz.ntmps117
    go_wp2_with fail
    go_ret
    exact ⟨retBl (by simp), rfl⟩
theorem all_run {s : ByteArray} {k : Nat} {r : Bool} {p : UInt8 → Bool} (hk : k < s.size) (h : r = (s.data.toList.drop k).all p) : r = (p s[k] && (s.data.toList.drop (k + 1)).all p) := by
  rw [h, drop_byte hk, List.all_cons]
set_option maxRecDepth 100000 in
set_option maxHeartbeats 1600000 in
theorem rdigits_any (s : ByteArray) (w : World) (hs : s.size ≤ maxLen) : Calls Tryz.prog 118 #[.string s] w fun e w' => e = .returned (.bool (s.data.toList.all digitB)) ∧ w = w' := by
  unfold maxLen at hs
  go_enter Tryz.func118, Tryz.ntmps118
  go_wp2_with fail
  go_loopg [3] s.size (fun gg i wr => ∃ k : Nat, k ≤ s.size ∧ gg = s.size - k ∧ i = .int .i64 k ∧ w = wr ∧ Hid (s.data.toList.all digitB = (s.data.toList.drop k).all digitB))
  case atStart => exact ⟨0, Nat.zero_le _, by simp, rfl, rfl, rfl⟩
  case round =>
    obtain ⟨k, hk, hg, rfl, rfl, hall⟩ := hrel
    have hg' := Lib.hid hg
    clear hg
    by_cases hlt : k < s.size
    · have hst := Lib.hid (all_run hlt hall.out)
      rw [digit_eq] at hst
      have i1 : (k : Int) < (s.size : Int) := by omega
      have i2 : (0 : Int) ≤ (k : Int) := by omega
      cases h1 : decide (48 ≤ (s[k].toNat : Int)) <;> cases h2 : decide ((s[k].toNat : Int) ≤ 57)
      all_goals
        rw [h1, h2] at hst
        have h1' : decide ((s[k].toNat : Int) < 48) = !decide (48 ≤ (s[k].toNat : Int)) := by rw [Bool.eq_iff_iff]; simp
        have h2' : decide (57 < (s[k].toNat : Int)) = !decide ((s[k].toNat : Int) ≤ 57) := by rw [Bool.eq_iff_iff]; simp
        rw [h1] at h1'
        rw [h2] at h2'
        go_wp2_with fail
        first
          | (go_roundg (s.size - (k + 1))
             case measure => have := hg'.out; omega
             case rel => exact ⟨k + 1, by omega, rfl, by go_num, rfl, by rw [hst.out]; first | rfl | simp⟩)
          | (go_ret
             exact ⟨by rw [hst.out]; rfl, rfl⟩)
    · have hr : Hid (s.data.toList.all digitB = true) := by unfold Hid; rw [hall.out, List.drop_eq_nil_of_le (by simp; omega)]; rfl
      go_wp2_with fail
      go_ret
      exact ⟨by rw [hr.out]; first | done | rfl, rfl⟩

set_option maxRecDepth 100000 in
set_option maxHeartbeats 1600000 in
theorem rabove_any (s : ByteArray) (w : World) (hs : s.size ≤ maxLen) : Calls Tryz.prog 119 #[.string s] w fun e w' => e = .returned (.bool (aboveB s.data.toList)) ∧ w = w' := by
  unfold maxLen at hs
  have hln : s.data.toList.length = s.size := by simp
  have hst0 : s.toList = s.data.toList := by simp [ByteArray.toList_eq]
  obtain ⟨b, hb⟩ : ∃ b, Hid ((!(Op.bytesLess s.data.toList mostL || s.data.toList == mostL)) = b) := ⟨_, Lib.hid rfl⟩
  have hres : Hid (aboveB s.data.toList = (decide (13 < s.size) || (decide (s.size = 13) && b))) := by unfold Hid aboveB; rw [hb.out, hln]
  have hq := hb.out
  unfold mostL at hq
  simp only [Bool.not_or] at hq
  rcases Nat.lt_trichotomy s.size 13 with h | h | h
  · have b1 : decide ((13 : Int) < (s.size : Int)) = false := by simp; omega
    have b2 : ((s.size : Int) == 13) = false := by simp; omega
    go_enter Tryz.func119, Tryz.ntmps119
    go_wp2_with fail
    go_ret
    exact ⟨by rw [hres.out, decide_eq_false (by omega), decide_eq_false (by omega)]; rfl, rfl⟩
  · have b1 : decide ((13 : Int) < (s.size : Int)) = false := by simp; omega
    have b2 : ((s.size : Int) == 13) = true := by simp; omega
    go_enter Tryz.func119, Tryz.ntmps119
    go_wp2_with fail
    go_ret
    exact ⟨by rw [hres.out, decide_eq_false (by omega), decide_eq_true h]; simp, rfl⟩
  · have b1 : decide ((13 : Int) < (s.size : Int)) = true := by simp; omega
    go_enter Tryz.func119, Tryz.ntmps119
    go_wp2_with fail
    go_ret
    exact ⟨by rw [hres.out, decide_eq_true (by omega)]; rfl, rfl⟩

/-- Texts in a row in memory. -/
def TxtsAt (w : World) (A : Option Addr) (l : List Txt) : Prop := ∀ (k : Nat) (x : Txt), l[k]? = some x → ∃ b off, A = some ⟨b, off, none⟩ ∧ w.cell? ⟨b, off + k, none⟩ = some (.string ⟨x.toArray⟩)
theorem TxtsAt.below {w w' : World} {A : Option Addr} {l : List Txt} (h : TxtsAt w A l) (hb : Below w.heap.size w w') : TxtsAt w' A l := by
  intro k x hk
  obtain ⟨b, off, e, h0⟩ := h k x hk
  exact ⟨b, off, e, (hb.cell (World.block_lt_of_cell? w _ h0)).trans h0⟩
set_option maxRecDepth 100000 in
set_option maxHeartbeats 1600000 in
theorem rin_any (A : Option Addr) (n c : Nat) (l : List Txt) (t : Txt) (w : World) (hn : n ≤ maxLen) (hl : Hid (l.length = n)) (hA : Hid (TxtsAt w A l)) :
    Calls Tryz.prog 120 #[.slice A n c, .string ⟨t.toArray⟩] w fun e w' => e = .returned (.bool (l.contains t)) ∧ w = w' := by
  unfold maxLen at hn
  go_enter Tryz.func120, Tryz.ntmps120
  go_wp2_with fail
  go_loopg [5] n (fun gg i wr => ∃ k : Nat, k ≤ n ∧ gg = n - k ∧ i = .int .i64 k ∧ w = wr ∧ Hid (l.contains t = (l.drop k).contains t))
  case atStart => exact ⟨0, Nat.zero_le _, by simp, rfl, rfl, rfl⟩
  case round =>
    obtain ⟨k, hk, hg, rfl, rfl, hsame⟩ := hrel
    have hg' := Lib.hid hg
    clear hg
    by_cases hlt : k < n
    · obtain ⟨x, hx⟩ : ∃ x, l[k]? = some x := ⟨_, List.getElem?_eq_getElem (by have := hl.out; omega)⟩
      have hst := Lib.hid (any_step hsame.out hx)
      obtain ⟨b, off, rfl, h0⟩ := hA.out k x hx
      have hl1 : (⟨x.toArray⟩ : ByteArray).toList = x := by simp [ByteArray.toList_eq]
      have hl2 : (⟨t.toArray⟩ : ByteArray).toList = t := by simp [ByteArray.toList_eq]
      have i1 : (k : Int) < (n : Int) := by omega
      have i2 : (0 : Int) ≤ (k : Int) := by omega
      clear hx
      obtain ⟨q, hq⟩ : ∃ q, Hid ((x == t) = q) := ⟨_, Lib.hid rfl⟩
      have hq' := hq.out
      rw [hq.out] at hst
      cases q with
      | true =>
        go_wp2_with fail
        go_ret
        exact ⟨by rw [hst.out]; rfl, rfl⟩
      | false =>
        go_wp2_with fail
        go_roundg (n - (k + 1))
        case measure => have := hg'.out; omega
        case rel => exact ⟨k + 1, by omega, rfl, by go_num, rfl, by unfold Hid; rw [hst.out]; rfl⟩
    · have hr : Hid (l.contains t = false) := by unfold Hid; rw [hsame.out, List.drop_eq_nil_of_le (by have := hl.out; omega)]; rfl
      go_wp2_with fail
      go_ret
      exact ⟨by rw [hr.out]; first | done | rfl, rfl⟩
end Go.Proofs.YtjkmhlfjheiekaaGreatDoor

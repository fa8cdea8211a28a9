import Derived.Test.YtjkmhlfjheiekaaGreatDoorTa
set_option maxRecDepth 1000000
set_option maxHeartbeats 51200000
namespace Go.Proofs.YtjkmhlfjheiekaaGreatDoor
open Go Go.RowKit Go.BigFrame Go.Maps
def mostL : Txt := [49, 48, 57, 57, 53, 49, 49, 54, 50, 55, 55, 55, 54]
theorem fold_small : ∀ (t : Txt) (a : Nat), t.all dgB = true → foldV a t < (a + 1) * 10 ^ t.length
 | [], a, _ => by simp [foldV]
 | c :: r, a, h => by
  rw [List.all_cons, Bool.and_eq_true] at h; obtain ⟨h1, h2⟩ := digit_range h.1; have := fold_small r (10 * a + (c.toNat - 48)) h.2; have h3 : foldV a (c :: r) = foldV (10 * a + (c.toNat - 48)) r := rfl; rw [h3, List.length_cons, Nat.pow_succ]; refine Nat.lt_of_lt_of_le this ?_; have h4 : (a + 1) * (10 ^ r.length * 10) = (10 * (a + 1)) * 10 ^ r.length := by rw [Nat.mul_comm (10 ^ r.length), ← Nat.mul_assoc, Nat.mul_comm (a + 1)]
  rw [h4]; exact Nat.mul_le_mul_right _ (by omega)
theorem fold_lt : ∀ (x y : Txt) (a b : Nat), x.length = y.length → x.all dgB = true → y.all dgB = true → a < b → foldV a x < foldV b y
 | [], y, a, b, hl, _, _, h => by
  obtain rfl := List.eq_nil_of_length_eq_zero hl.symm; exact h
 | c :: x, [], a, b, hl, _, _, _ => by simp at hl
 | c :: x, d :: y, a, b, hl, hx, hy, h => by
  rw [List.all_cons, Bool.and_eq_true] at hx hy; obtain ⟨c1, c2⟩ := digit_range hx.1; obtain ⟨d1, d2⟩ := digit_range hy.1; exact fold_lt x y (10 * a + (c.toNat - 48)) (10 * b + (d.toNat - 48)) (by simpa using hl) hx.2 hy.2 (by omega)
theorem bytes_fold : ∀ (x y : Txt) (a : Nat), x.length = y.length → x.all dgB = true → y.all dgB = true → (!(Op.bytesLess x y || x == y)) = decide (foldV a y < foldV a x)
 | [], y, a, hl, _, _ => by
  obtain rfl := List.eq_nil_of_length_eq_zero hl.symm; simp
 | c :: x, [], a, hl, _, _ => by simp at hl
 | c :: x, d :: y, a, hl, hx, hy => by
  rw [List.all_cons, Bool.and_eq_true] at hx hy; obtain ⟨c1, c2⟩ := digit_range hx.1; obtain ⟨d1, d2⟩ := digit_range hy.1; have hl' : x.length = y.length := by simpa using hl
  have e1 : foldV a (c :: x) = foldV (10 * a + (c.toNat - 48)) x := rfl; have e2 : foldV a (d :: y) = foldV (10 * a + (d.toNat - 48)) y := rfl; rw [e1, e2, Op.bytesLess]
  rcases Nat.lt_trichotomy c.toNat d.toNat with h | h | h
  ·have g1 := fold_lt x y (10 * a + (c.toNat - 48)) (10 * a + (d.toNat - 48)) hl' hx.2 hy.2 (by omega)
   have g2 : c < d := by rw [UInt8.lt_iff_toNat_lt]; exact h
   rw [decide_eq_true g2]; simp; omega
  ·obtain rfl : c = d := UInt8.toNat_inj.1 h
   have g2 : ¬ c < c := by rw [UInt8.lt_iff_toNat_lt]; omega
   rw [← bytes_fold x y (10 * a + (c.toNat - 48)) hl' hx.2 hy.2, decide_eq_false g2]; simp
  ·have g1 := fold_lt y x (10 * a + (d.toNat - 48)) (10 * a + (c.toNat - 48)) hl'.symm hy.2 hx.2 (by omega)
   have g2 : ¬ c < d := by rw [UInt8.lt_iff_toNat_lt]; omega
   have g3 : c ≠ d := fun e => by rw [e] at h; omega
   rw [decide_eq_false g2, decide_eq_true g1]; simp [g3]
def aboveB (t : Txt) : Bool := decide (13 < t.length) || (decide (t.length = 13) && !(Op.bytesLess t mostL || t == mostL))
theorem above_eq {t : Txt} (hd : t.all dgB = true) (h0 : ¬ (1 < t.length ∧ t.head? = some 48)) : aboveB t = decide (mostN < numV t) := by
 have hm : foldV 0 mostL = mostN := by decide
 unfold aboveB
 by_cases h13 : 13 < t.length
 ·have hbig : mostN < numV t := by
   cases t with
   | nil => simp at h13
   | cons c r =>
    have hc : c ≠ 48 := fun h => h0 ⟨by omega, by rw [h]; rfl⟩
    rw [List.all_cons, Bool.and_eq_true] at hd; have hg := digit_nought c hd.1 hc; have hf : numV (c :: r) = foldV (10 * 0 + (c.toNat - 48)) r := rfl; have hb := fold_big r (10 * 0 + (c.toNat - 48)); rw [← hf] at hb; simp only [List.length_cons] at h13; have h10 : 10 ^ 13 ≤ 10 ^ r.length := Nat.pow_le_pow_right (by omega) (by omega); have h11 : 1 * 10 ^ r.length ≤ (10 * 0 + (c.toNat - 48)) * 10 ^ r.length := Nat.mul_le_mul_right _ (by omega); unfold mostN; omega
  rw [decide_eq_true h13, decide_eq_true hbig]; rfl
 ·rw [decide_eq_false h13]
  by_cases he : t.length = 13
  ·rw [decide_eq_true he, bytes_fold t mostL 0 (by rw [he]; rfl) hd (by decide), hm]
   rfl
  ·rw [decide_eq_false he]
   have hs := fold_small t 0 hd; have h10 : 10 ^ t.length ≤ 10 ^ 12 := Nat.pow_le_pow_right (by omega) (by omega); have hf : numV t = foldV 0 t := rfl; have : ¬ mostN < numV t := by unfold mostN; omega
   rw [decide_eq_false this]; rfl
theorem rrun_any (c : UInt8) (w : World) : Cz 117 #[.int .u8 c.toNat] w fun e w' => e = .returned (.bool (smB c)) ∧ w = w' := by
 rw [small_eq, digit_eq]
 cases h1 : decide (97 ≤ (c.toNat : Int)) <;> cases h2 : decide ((c.toNat : Int) ≤ 122) <;> cases h3 : ((c.toNat : Int) == 45) <;> cases h4 : decide (48 ≤ (c.toNat : Int)) <;> cases h5 : decide ((c.toNat : Int) ≤ 57)
 all_goals
  go_enter Tryz.func117, Tryz.ntmps117
  go_wp2_with fail; go_ret; exact ⟨retBl (by simp), rfl⟩
theorem all_run {s : ByteArray} {k : Nat} {r : Bool} {p : UInt8 → Bool} (hk : k < s.size) (h : r = (s.data.toList.drop k).all p) : r = (p s[k] && (s.data.toList.drop (k + 1)).all p) := by
 rw [h, drop_byte hk, List.all_cons]
theorem rdigits_any (s : ByteArray) (w : World) (hs : s.size ≤ maxLen) : Cz 118 #[.string s] w fun e w' => e = .returned (.bool (s.data.toList.all dgB)) ∧ w = w' := by
 unfold maxLen at hs
 go_enter Tryz.func118, Tryz.ntmps118
 go_wp2_with fail
 go_loopg [3] s.size (fun gg i wr => ∃ k : Nat, k ≤ s.size ∧ gg = s.size - k ∧ i = Iz k ∧ w = wr ∧ Hid (s.data.toList.all dgB = (s.data.toList.drop k).all dgB))
 case atStart => exact ⟨0, Nat.zero_le _, by simp, rfl, rfl, rfl⟩
 case round =>
  obtain ⟨k, hk, hg, rfl, rfl, hall⟩ := hrel; have hg' := hdZ hg; clear hg
  by_cases hlt : k < s.size
  ·have hst := hdZ (all_run hlt hall.out)
   rw [digit_eq] at hst; have i1 : (k : Int) < (s.size : Int) := by omega
   have i2 : (0 : Int) ≤ (k : Int) := by omega
   cases h1 : decide (48 ≤ (s[k].toNat : Int)) <;> cases h2 : decide ((s[k].toNat : Int) ≤ 57)
   all_goals
    rw [h1, h2] at hst; have h1' : decide ((s[k].toNat : Int) < 48) = !decide (48 ≤ (s[k].toNat : Int)) := by rw [Bool.eq_iff_iff]; simp
    have h2' : decide (57 < (s[k].toNat : Int)) = !decide ((s[k].toNat : Int) ≤ 57) := by rw [Bool.eq_iff_iff]; simp
    rw [h1] at h1'; rw [h2] at h2'; go_wp2_with fail
    first
     | (go_roundg (s.size - (k + 1))
        case measure => have := hg'.out; omega
        case rel => exact ⟨k + 1, by omega, rfl, by go_num, rfl, by rw [hst.out]; first | rfl | simp⟩)
     | (go_ret
        exact ⟨by rw [hst.out]; rfl, rfl⟩)
  ·have hr : Hid (s.data.toList.all dgB = true) := by unfold Hid; rw [hall.out, List.drop_eq_nil_of_le (by simp; omega)]; rfl
   go_wp2_with fail; go_ret; exact ⟨by rw [hr.out]; first | done | rfl, rfl⟩
theorem rabove_any (s : ByteArray) (w : World) (hs : s.size ≤ maxLen) : Cz 119 #[.string s] w fun e w' => e = .returned (.bool (aboveB s.data.toList)) ∧ w = w' := by
 unfold maxLen at hs
 have hln : s.data.toList.length = s.size := by simp
 have hst0 : s.toList = s.data.toList := by simp [ByteArray.toList_eq]
 obtain ⟨b, hb⟩ := nmZ ((!(Op.bytesLess s.data.toList mostL || s.data.toList == mostL)))
 have hres : Hid (aboveB s.data.toList = (decide (13 < s.size) || (decide (s.size = 13) && b))) := by unfold Hid aboveB; rw [hb.out, hln]
 have hq := hb.out
 unfold mostL at hq
 simp only [Bool.not_or] at hq
 rcases Nat.lt_trichotomy s.size 13 with h | h | h
 ·have b1 : decide ((13 : Int) < (s.size : Int)) = false := by simp; omega
  have b2 : ((s.size : Int) == 13) = false := by simp; omega
  go_enter Tryz.func119, Tryz.ntmps119
  go_wp2_with fail; go_ret; exact ⟨by rw [hres.out, decide_eq_false (by omega), decide_eq_false (by omega)]; rfl, rfl⟩
 ·have b1 : decide ((13 : Int) < (s.size : Int)) = false := by simp; omega
  have b2 : ((s.size : Int) == 13) = true := by simp; omega
  go_enter Tryz.func119, Tryz.ntmps119
  go_wp2_with fail; go_ret; exact ⟨by rw [hres.out, decide_eq_false (by omega), decide_eq_true h]; simp, rfl⟩
 ·have b1 : decide ((13 : Int) < (s.size : Int)) = true := by simp; omega
  go_enter Tryz.func119, Tryz.ntmps119
  go_wp2_with fail; go_ret; exact ⟨by rw [hres.out, decide_eq_true (by omega)]; rfl, rfl⟩
def TxtsAt (w : World) (A : Option Addr) (l : List Txt) : Prop := ∀ (k : Nat) (x : Txt), l[k]? = some x → ∃ b off, A = some (Az b off) ∧ w.cell? ⟨b, off + k, none⟩ = some (Sz x)
theorem TxtsAt.below {w w' : World} {A : Option Addr} {l : List Txt} (h : TxtsAt w A l) (hb : Bz w w') : TxtsAt w' A l := by
 intro k x hk
 obtain ⟨b, off, e, h0⟩ := h k x hk
 exact ⟨b, off, e, (hb.cell (World.block_lt_of_cell? w _ h0)).trans h0⟩
theorem rin_any (A : Option Addr) (n c : Nat) (l : List Txt) (t : Txt) (w : World) (hn : n ≤ maxLen) (hl : Hid (l.length = n)) (hA : Hid (TxtsAt w A l)) :
  Cz 120 #[.slice A n c, Sz t] w fun e w' => e = .returned (.bool (l.contains t)) ∧ w = w' := by
 unfold maxLen at hn
 go_enter Tryz.func120, Tryz.ntmps120
 go_wp2_with fail
 go_loopg [5] n (fun gg i wr => ∃ k : Nat, k ≤ n ∧ gg = n - k ∧ i = Iz k ∧ w = wr ∧ Hid (l.contains t = (l.drop k).contains t))
 case atStart => exact ⟨0, Nat.zero_le _, by simp, rfl, rfl, rfl⟩
 case round =>
  obtain ⟨k, hk, hg, rfl, rfl, hsame⟩ := hrel; have hg' := hdZ hg; clear hg
  by_cases hlt : k < n
  ·obtain ⟨x, hx⟩ : ∃ x, l[k]? = some x := ⟨_, List.getElem?_eq_getElem (by have := hl.out; omega)⟩
   have hst := hdZ (any_step hsame.out hx); obtain ⟨b, off, rfl, h0⟩ := hA.out k x hx; have hl1 : (⟨x.toArray⟩ : ByteArray).toList = x := by simp [ByteArray.toList_eq]
   have hl2 : (⟨t.toArray⟩ : ByteArray).toList = t := by simp [ByteArray.toList_eq]
   have i1 : (k : Int) < (n : Int) := by omega
   have i2 : (0 : Int) ≤ (k : Int) := by omega
   clear hx; obtain ⟨q, hq⟩ := nmZ ((x == t)); have hq' := hq.out; rw [hq.out] at hst
   cases q with
   | true =>
    go_wp2_with fail; go_ret; exact ⟨by rw [hst.out]; rfl, rfl⟩
   | false =>
    go_wp2_with fail
    go_roundg (n - (k + 1))
    case measure => have := hg'.out; omega
    case rel => exact ⟨k + 1, by omega, rfl, by go_num, rfl, by unfold Hid; rw [hst.out]; rfl⟩
  ·have hr : Hid (l.contains t = false) := by unfold Hid; rw [hsame.out, List.drop_eq_nil_of_le (by have := hl.out; omega)]; rfl
   go_wp2_with fail; go_ret; exact ⟨by rw [hr.out]; first | done | rfl, rfl⟩
theorem wordsA_lit : wordsA = #[.string ⟨#[97, 98, 111, 118, 101]⟩, .string ⟨#[97, 108, 108]⟩, .string ⟨#[97, 110, 100]⟩, .string ⟨#[97, 110, 121]⟩, .string ⟨#[97, 112, 112, 108, 105, 99, 97, 110, 116]⟩, .string ⟨#[98, 101, 108, 111, 119]⟩, .string ⟨#[98, 101, 110, 101, 102, 105, 99, 105, 97, 114, 121]⟩, .string ⟨#[99, 104, 97, 110, 103, 101]⟩, .string ⟨#[99, 111, 110, 102, 105, 114, 109, 101, 114]⟩, .string ⟨#[99, 111, 112, 105, 101, 115]⟩, .string ⟨#[99, 114, 101, 100, 105, 116]⟩, .string ⟨#[100, 97, 121, 115]⟩, .string ⟨#[100, 114, 97, 102, 116]⟩, .string ⟨#[101, 120, 112, 105, 114, 121]⟩, .string ⟨#[102, 114, 111, 109]⟩, .string ⟨#[105, 110, 115, 117, 114, 97, 110, 99, 101]⟩, .string ⟨#[105, 110, 118, 111, 105, 99, 101]⟩, .string ⟨#[105, 115, 115, 117, 101, 114]⟩, .string ⟨#[108, 97, 100, 105, 110, 103]⟩, .string ⟨#[108, 97, 116, 101, 115, 116]⟩, .string ⟨#[110, 111]⟩, .string ⟨#[110, 111, 116]⟩, .string ⟨#[111, 102]⟩, .string ⟨#[111, 114]⟩, .string ⟨#[111, 114, 105, 103, 105, 110]⟩, .string ⟨#[112, 97, 99, 107, 105, 110, 103]⟩, .string ⟨#[112, 97, 114, 116, 105, 97, 108]⟩, .string ⟨#[115, 105, 103, 104, 116]⟩, .string ⟨#[115, 117, 109]⟩, .string ⟨#[116, 101, 110, 111, 114]⟩, .string ⟨#[116, 111]⟩, .string ⟨#[119, 97, 110, 116, 115]⟩, .string ⟨#[119, 105, 116, 104]⟩, .string ⟨#[119, 105, 116, 104, 105, 110]⟩, .string ⟨#[121, 101, 115]⟩] := rfl
theorem rwords_any (w : World) : Cz 121 #[] w fun e w' => e = .returned (.slice (some (Az w.heap.size 0)) 35 35) ∧ w' = w.alloc (.cells wordsA 9) := by
 rw [wordsA_lit]
 go_enter Tryz.func121, Tryz.ntmps121
 go_wp2_with fail
 go_ret
 exact ⟨rfl, rfl⟩
theorem txts_blk {w : World} {g : Nat} {t : TypeId} {l : List Txt} (h : Blk w g t (l.map fun x => Value.string ⟨x.toArray⟩).toArray) : TxtsAt w (some (Az g 0)) l := fun k x hx => by
 refine ⟨g, 0, rfl, ?_⟩
 rw [Nat.zero_add, h.cell, List.getElem?_toArray, List.getElem?_map, hx]; rfl
def signsA : Array Value := #[.string ⟨#[40]⟩, .string ⟨#[41]⟩, .string ⟨#[44]⟩, .string ⟨#[59]⟩, .string ⟨#[58]⟩, .string ⟨#[46]⟩, .string ⟨#[61]⟩, .string ⟨#[126]⟩]
def signsT : List Txt := [[40], [41], [44], [59], [58], [46], [61], [126]]
theorem signs_one : ∀ c : UInt8, signsT.contains [c] = oneSigns.contains c :=
 byte_all (P := fun c => signsT.contains [c] = oneSigns.contains c) (by decide)
theorem conv_at (W : World) (g : Nat) (k : Int) (h : Blk W g 5 #[.int .u8 k]) : (convert 68 9 (.slice (some (Az g 0)) 1 1)).run Tryz.prog W = .ok (.string ⟨#[UInt8.ofNat k.toNat]⟩) W := by
 have := run_convert_bytes_arg (P := Tryz.prog) W 68 5 Tryz.underlying68 Tryz.underlying5 g 0 1 1 [k] rfl
 exact this (fun i hi => by obtain rfl : i = 0 := by omega
                            exact h.cell 0) 9 Tryz.underlying9
def OneOut (w : World) (s : ByteArray) (k : Nat) (x : Ending) (w' : World) : Prop := Bz w w' ∧
 ((∃ kd t m, oneM (s.data.toList.drop k) = .ok (kd, t, m) ∧ 0 < m ∧ k + m ≤ s.size ∧ x = .returned (.tuple #[.agg (tokC kd k ⟨t.toArray⟩), Iz (k + m : Nat), Iz 0])) ∨
  (∃ cd, oneM (s.data.toList.drop k) = .error cd ∧ cd ≠ 0 ∧ x = .returned (.tuple #[.agg noTok, Iz k, Iz cd])))
theorem OneOut.ok {w w' : World} {s : ByteArray} {k m : Nat} {kd : Int} {t : Txt} {x : Ending} (hb : Bz w w') (h : oneM (s.data.toList.drop k) = .ok (kd, t, m)) (h1 : 0 < m) (h2 : k + m ≤ s.size) (hx : x = .returned (.tuple #[.agg (tokC kd k ⟨t.toArray⟩), Iz (k + m : Nat), Iz 0])) : OneOut w s k x w' := ⟨hb, .inl ⟨kd, t, m, h, h1, h2, hx⟩⟩
theorem OneOut.bad {w w' : World} {s : ByteArray} {k : Nat} {cd : Int} {x : Ending} (hb : Bz w w') (h : oneM (s.data.toList.drop k) = .error cd) (h1 : cd ≠ 0) (hx : x = .returned (.tuple #[.agg noTok, Iz k, Iz cd])) : OneOut w s k x w' := ⟨hb, .inr ⟨cd, h, h1, hx⟩⟩
theorem rone_small (s : ByteArray) (k : Nat) (w : World) (hk : k < s.size) (hs : s.size ≤ maxLen) (h1 : Hid (smB s[k] = true)) : Cz 70 #[.string s, Iz k] w (OneOut w s k) := by
 unfold maxLen at hs
 have hT : Hid (Blk (w.alloc (.cells (z6z 0 0) 89)) w.heap.size 89 (z6z 0 0)) := Blk.new w 89 _
 have hB : Hid (Bz w (w.alloc (.cells (z6z 0 0) 89))) := (Below.refl _ w).alloc leZ _
 have i1 : (k : Int) < (s.size : Int) := by omega
 have i2 : (0 : Int) ≤ (k : Int) := by omega
 have w1 : IntKind.i64.wrap ((k : Int) + 1) = ((k + 1 : Nat) : Int) := by rw [IntWalk.i64_in _ (by omega)]; omega
 have hone := hdZ (one_small hk h1.out)
 go_enter Tryz.func70, Tryz.ntmps70
 go_wp2_with fail
 refine (rrun_any s[k] _).mono ?_
 rintro x w1 ⟨rfl, rfl⟩
 rw [h1.out]
 obtain ⟨wa, hwa⟩ := nmZ (w.alloc (.cells (z6z 0 0) 89))
 rw [hwa.out] at hT hB ⊢
 clear hwa
 go_wp2_with fail
 go_loopg [8] (s.size - (k + 1)) (fun gg v wr => ∃ j : Nat, k + 1 ≤ j ∧ j ≤ s.size ∧ gg = s.size - j ∧ v = Iz j ∧ Hid (endP smB s k = endP smB s j) ∧ wa = wr)
 case atStart => exact ⟨k + 1, Nat.le_refl _, hk, rfl, rfl, end_yes hk h1.out, rfl⟩
 case round =>
  obtain ⟨j, hkj, hj, hg, rfl, he, rfl⟩ := hrel; have hg' := hdZ hg; clear hg; have i4 : (0 : Int) ≤ (j : Int) := by omega
  by_cases hlt : j < s.size
  ·have hl1 : decide ((j : Int) < (s.size : Int)) = true := by simp; omega
   have i3 : (j : Int) < (s.size : Int) := by omega
   obtain ⟨pb, hpb⟩ := nmZ (smB s[j]); have w2 : IntKind.i64.wrap ((j : Int) + 1) = ((j + 1 : Nat) : Int) := by rw [IntWalk.i64_in _ (by omega)]; omega
   go_wp2_with fail; refine (rrun_any s[j] _).mono ?_; rintro x w1 ⟨rfl, rfl⟩; rw [hpb.out]
   cases pb with
   | true =>
    go_wp2_with fail
    go_roundg (s.size - (j + 1))
    case measure => have := hg'.out; omega
    case rel => exact ⟨j + 1, by omega, hlt, rfl, rfl, by unfold Hid; rw [he.out, end_yes hlt hpb.out], rfl⟩
   | false =>
    have hj' : Hid (endP smB s k = j) := by unfold Hid; rw [he.out, end_no hlt hpb.out]
    have hsub : s.extract k j = s.extract k j := rfl; go_wp2_with fail; have hxs : (s.extract k j).size = j - k := by simp; omega
    have hall : Hid ((s.extract k j).data.toList.all smB = true) := by unfold Hid; rw [← hj'.out, extract_run]; exact List.all_takeWhile
    rw [hj'.out] at hone; obtain ⟨x, hx⟩ := nmZ (s.extract k j); rw [hx.out] at hall hone hxs ⊢; have hx1 : 0 < x.size := by omega
    have hln : Hid (x.data.toList.length = x.size) := by unfold Hid; simp
    have hxL : Hid ((⟨x.data.toList.toArray⟩ : ByteArray) = x) := rfl; clear hsub hx; refine (rdigits_any x wa (by unfold maxLen; omega)).mono ?_; rintro y w3 ⟨rfl, rfl⟩; have f0 := hT.out.frozen 0; have f1 := hT.out.frozen 1; have f2 := hT.out.frozen 2; obtain ⟨r0, r1, r2⟩ := cs3 hT.out; have rlt := hT.out.lt
    cases hd : x.data.toList.all dgB with
    | true =>
     rw [rank_digits hd] at hone
     by_cases hz : 1 < x.size ∧ x.data.toList.head? = some 48
     ·have hr : Hid (oneM (s.data.toList.drop k) = .error 2) := by unfold Hid; rw [hone.out]; unfold boundM; simp only; rw [hln.out, if_pos hz]; rfl
      obtain ⟨hz1, hz2⟩ := hz; rw [head_byte hx1] at hz2; have b1 : decide (1 < (x.size : Int)) = true := by simp; omega
      have b2 : ((x[0].toNat : Int) == 48) = true := by rw [Option.some.inj hz2]; rfl
      clear hz2 hd hone; go_wp2_with fail; refine bodyPost_ret (rr2z rfl _ _ w.heap.size 89 _ _ rfl (((hT.out.set_ 0 _).set_ 1 _).set_ 2 _) Tryz.underlying89 rfl (by kernel_rfl)) rfl ?_; exact .bad (((hB.out.setCell leZ _).setCell leZ _).setCell leZ _) hr.out (by decide) rfl
     ·have hab := above_eq hd (by rw [hln.out]; exact hz)
      have key : Hid (1 < x.size → ((x[0].toNat : Int) == 48) = false) := fun h => by
       simp only [beq_eq_false_iff_ne, ne_eq]; intro e; exact hz ⟨h, by rw [head_byte hx1, show x[0] = 48 from UInt8.toNat_inj.1 (by simpa using (by omega : x[0].toNat = 48))]⟩
      have hbm : boundM x.data.toList = if mostN < numV x.data.toList then 3 else 0 := by unfold boundM; rw [hln.out, if_neg hz]
      rw [hbm] at hone
      have hcall : Hid (Cz 119 #[.string x] wa fun e w' => e = .returned (.bool (decide (mostN < numV x.data.toList))) ∧ wa = w') := by
       rw [← hab]; exact rabove_any x wa (by unfold maxLen; omega)
      clear hab hbm hz hd
      by_cases h1x : 1 < x.size
      ·have b1 : decide (1 < (x.size : Int)) = true := by simp; omega
       have b2 := key.out h1x; go_wp2_with fail; refine hcall.out.mono ?_; rintro y w3 ⟨rfl, rfl⟩
       by_cases hm : mostN < numV x.data.toList
       ·rw [decide_eq_true hm]
        rw [if_pos hm, if_neg (by decide)] at hone; clear hm; go_wp2_with fail; refine bodyPost_ret (rr2z rfl _ _ w.heap.size 89 _ _ rfl (((hT.out.set_ 0 _).set_ 1 _).set_ 2 _) Tryz.underlying89 rfl (by kernel_rfl)) rfl ?_; exact .bad (((hB.out.setCell leZ _).setCell leZ _).setCell leZ _) hone.out (by decide) rfl
       ·rw [decide_eq_false hm]
        rw [if_neg hm, if_pos rfl] at hone; clear hm; go_wp2_with fail; refine bodyPost_ret (rr2z rfl _ _ w.heap.size 89 _ _ rfl (((hT.out.set_ 0 _).set_ 1 _).set_ 2 _) Tryz.underlying89 rfl (by kernel_rfl)) rfl ?_; exact .ok (((hB.out.setCell leZ _).setCell leZ _).setCell leZ _) hone.out (by omega) (by omega) (by rw [show k + (j - k) = j by omega]; rfl)
      ·have b1 : decide (1 < (x.size : Int)) = false := by simp; omega
       go_wp2_with fail; refine hcall.out.mono ?_; rintro y w3 ⟨rfl, rfl⟩
       by_cases hm : mostN < numV x.data.toList
       ·rw [decide_eq_true hm]
        rw [if_pos hm, if_neg (by decide)] at hone; clear hm; go_wp2_with fail; refine bodyPost_ret (rr2z rfl _ _ w.heap.size 89 _ _ rfl (((hT.out.set_ 0 _).set_ 1 _).set_ 2 _) Tryz.underlying89 rfl (by kernel_rfl)) rfl ?_; exact .bad (((hB.out.setCell leZ _).setCell leZ _).setCell leZ _) hone.out (by decide) rfl
       ·rw [decide_eq_false hm]
        rw [if_neg hm, if_pos rfl] at hone; clear hm; go_wp2_with fail; refine bodyPost_ret (rr2z rfl _ _ w.heap.size 89 _ _ rfl (((hT.out.set_ 0 _).set_ 1 _).set_ 2 _) Tryz.underlying89 rfl (by kernel_rfl)) rfl ?_; exact .ok (((hB.out.setCell leZ _).setCell leZ _).setCell leZ _) hone.out (by omega) (by omega) (by rw [show k + (j - k) = j by omega]; rfl)
    | false =>
     clear f0 f1 f2 r0 r1 r2 rlt; go_wp2_with fail; refine (rwords_any wa).mono ?_; rintro y w3 ⟨rfl, rfl⟩; have hbl : Bz wa (wa.alloc (.cells wordsA 9)) := (Below.refl _ wa).alloc leZ _; have hin := hdZ (rin_any (some (Az wa.heap.size 0)) 35 35 wordsL x.data.toList (wa.alloc (.cells wordsA 9)) (by unfold maxLen; omega) rfl (txts_blk (t := 9) (Blk.new wa 9 wordsA))); have hT := hdZ (hT.out.below hbl hT.out.lt); have hB := hdZ (hB.out.trans (hbl.mono hB.out.size)); obtain ⟨wb, hwb⟩ := nmZ (wa.alloc (.cells wordsA 9)); rw [hwb.out] at hin hT hB ⊢; clear hbl hwb; go_wp2_with fail; refine hin.out.mono ?_; rintro y w3 ⟨rfl, rfl⟩; have f0 := hT.out.frozen 0; have f1 := hT.out.frozen 1; have f2 := hT.out.frozen 2; obtain ⟨r0, r1, r2⟩ := cs3 hT.out; have rlt := hT.out.lt
     cases hwd : wordsL.contains x.data.toList with
     | true =>
      rw [rank_word hd hwd, if_pos rfl] at hone; clear hin hd; go_wp2_with fail; refine bodyPost_ret (rr2z rfl _ _ w.heap.size 89 _ _ rfl (((hT.out.set_ 0 _).set_ 1 _).set_ 2 _) Tryz.underlying89 rfl (by kernel_rfl)) rfl ?_; exact .ok (((hB.out.setCell leZ _).setCell leZ _).setCell leZ _) hone.out (by omega) (by omega) (by rw [show k + (j - k) = j by omega]; rfl)
     | false =>
      rw [rank_name hd hwd, hln.out] at hone; clear hin hd
      by_cases h16 : x.size ≤ 16
      ·have b1 : decide ((16 : Int) < (x.size : Int)) = false := by simp; omega
       rw [if_pos h16, if_pos rfl] at hone; go_wp2_with fail; refine bodyPost_ret (rr2z rfl _ _ w.heap.size 89 _ _ rfl (((hT.out.set_ 0 _).set_ 1 _).set_ 2 _) Tryz.underlying89 rfl (by kernel_rfl)) rfl ?_; exact .ok (((hB.out.setCell leZ _).setCell leZ _).setCell leZ _) hone.out (by omega) (by omega) (by rw [show k + (j - k) = j by omega]; rfl)
      ·have b1 : decide ((16 : Int) < (x.size : Int)) = true := by simp; omega
       rw [if_neg h16, if_neg (by decide)] at hone; go_wp2_with fail; refine bodyPost_ret (rr2z rfl _ _ w.heap.size 89 _ _ rfl (((hT.out.set_ 0 _).set_ 1 _).set_ 2 _) Tryz.underlying89 rfl (by kernel_rfl)) rfl ?_; exact .bad (((hB.out.setCell leZ _).setCell leZ _).setCell leZ _) hone.out (by decide) rfl
  ·have hl1 : decide ((j : Int) < (s.size : Int)) = false := by simp; omega
   have hj' : Hid (endP smB s k = j) := by unfold Hid; rw [he.out, end_end (by omega)]
   have hsub : s.extract k j = s.extract k j := rfl; go_wp2_with fail; have hxs : (s.extract k j).size = j - k := by simp; omega
   have hall : Hid ((s.extract k j).data.toList.all smB = true) := by unfold Hid; rw [← hj'.out, extract_run]; exact List.all_takeWhile
   rw [hj'.out] at hone; obtain ⟨x, hx⟩ := nmZ (s.extract k j); rw [hx.out] at hall hone hxs ⊢; have hx1 : 0 < x.size := by omega
   have hln : Hid (x.data.toList.length = x.size) := by unfold Hid; simp
   have hxL : Hid ((⟨x.data.toList.toArray⟩ : ByteArray) = x) := rfl; clear hsub hx; refine (rdigits_any x wa (by unfold maxLen; omega)).mono ?_; rintro y w3 ⟨rfl, rfl⟩; have f0 := hT.out.frozen 0; have f1 := hT.out.frozen 1; have f2 := hT.out.frozen 2; obtain ⟨r0, r1, r2⟩ := cs3 hT.out; have rlt := hT.out.lt
   cases hd : x.data.toList.all dgB with
   | true =>
    rw [rank_digits hd] at hone
    by_cases hz : 1 < x.size ∧ x.data.toList.head? = some 48
    ·have hr : Hid (oneM (s.data.toList.drop k) = .error 2) := by unfold Hid; rw [hone.out]; unfold boundM; simp only; rw [hln.out, if_pos hz]; rfl
     obtain ⟨hz1, hz2⟩ := hz; rw [head_byte hx1] at hz2; have b1 : decide (1 < (x.size : Int)) = true := by simp; omega
     have b2 : ((x[0].toNat : Int) == 48) = true := by rw [Option.some.inj hz2]; rfl
     clear hz2 hd hone; go_wp2_with fail; refine bodyPost_ret (rr2z rfl _ _ w.heap.size 89 _ _ rfl (((hT.out.set_ 0 _).set_ 1 _).set_ 2 _) Tryz.underlying89 rfl (by kernel_rfl)) rfl ?_; exact .bad (((hB.out.setCell leZ _).setCell leZ _).setCell leZ _) hr.out (by decide) rfl
    ·have hab := above_eq hd (by rw [hln.out]; exact hz)
     have key : Hid (1 < x.size → ((x[0].toNat : Int) == 48) = false) := fun h => by
      simp only [beq_eq_false_iff_ne, ne_eq]; intro e; exact hz ⟨h, by rw [head_byte hx1, show x[0] = 48 from UInt8.toNat_inj.1 (by simpa using (by omega : x[0].toNat = 48))]⟩
     have hbm : boundM x.data.toList = if mostN < numV x.data.toList then 3 else 0 := by unfold boundM; rw [hln.out, if_neg hz]
     rw [hbm] at hone
     have hcall : Hid (Cz 119 #[.string x] wa fun e w' => e = .returned (.bool (decide (mostN < numV x.data.toList))) ∧ wa = w') := by
      rw [← hab]; exact rabove_any x wa (by unfold maxLen; omega)
     clear hab hbm hz hd
     by_cases h1x : 1 < x.size
     ·have b1 : decide (1 < (x.size : Int)) = true := by simp; omega
      have b2 := key.out h1x; go_wp2_with fail; refine hcall.out.mono ?_; rintro y w3 ⟨rfl, rfl⟩
      by_cases hm : mostN < numV x.data.toList
      ·rw [decide_eq_true hm]
       rw [if_pos hm, if_neg (by decide)] at hone; clear hm; go_wp2_with fail; refine bodyPost_ret (rr2z rfl _ _ w.heap.size 89 _ _ rfl (((hT.out.set_ 0 _).set_ 1 _).set_ 2 _) Tryz.underlying89 rfl (by kernel_rfl)) rfl ?_; exact .bad (((hB.out.setCell leZ _).setCell leZ _).setCell leZ _) hone.out (by decide) rfl
      ·rw [decide_eq_false hm]
       rw [if_neg hm, if_pos rfl] at hone; clear hm; go_wp2_with fail; refine bodyPost_ret (rr2z rfl _ _ w.heap.size 89 _ _ rfl (((hT.out.set_ 0 _).set_ 1 _).set_ 2 _) Tryz.underlying89 rfl (by kernel_rfl)) rfl ?_; exact .ok (((hB.out.setCell leZ _).setCell leZ _).setCell leZ _) hone.out (by omega) (by omega) (by rw [show k + (j - k) = j by omega]; rfl)
     ·have b1 : decide (1 < (x.size : Int)) = false := by simp; omega
      go_wp2_with fail; refine hcall.out.mono ?_; rintro y w3 ⟨rfl, rfl⟩
      by_cases hm : mostN < numV x.data.toList
      ·rw [decide_eq_true hm]
       rw [if_pos hm, if_neg (by decide)] at hone; clear hm; go_wp2_with fail; refine bodyPost_ret (rr2z rfl _ _ w.heap.size 89 _ _ rfl (((hT.out.set_ 0 _).set_ 1 _).set_ 2 _) Tryz.underlying89 rfl (by kernel_rfl)) rfl ?_; exact .bad (((hB.out.setCell leZ _).setCell leZ _).setCell leZ _) hone.out (by decide) rfl
      ·rw [decide_eq_false hm]
       rw [if_neg hm, if_pos rfl] at hone; clear hm; go_wp2_with fail; refine bodyPost_ret (rr2z rfl _ _ w.heap.size 89 _ _ rfl (((hT.out.set_ 0 _).set_ 1 _).set_ 2 _) Tryz.underlying89 rfl (by kernel_rfl)) rfl ?_; exact .ok (((hB.out.setCell leZ _).setCell leZ _).setCell leZ _) hone.out (by omega) (by omega) (by rw [show k + (j - k) = j by omega]; rfl)
   | false =>
    clear f0 f1 f2 r0 r1 r2 rlt; go_wp2_with fail; refine (rwords_any wa).mono ?_; rintro y w3 ⟨rfl, rfl⟩; have hbl : Bz wa (wa.alloc (.cells wordsA 9)) := (Below.refl _ wa).alloc leZ _; have hin := hdZ (rin_any (some (Az wa.heap.size 0)) 35 35 wordsL x.data.toList (wa.alloc (.cells wordsA 9)) (by unfold maxLen; omega) rfl (txts_blk (t := 9) (Blk.new wa 9 wordsA))); have hT := hdZ (hT.out.below hbl hT.out.lt); have hB := hdZ (hB.out.trans (hbl.mono hB.out.size)); obtain ⟨wb, hwb⟩ := nmZ (wa.alloc (.cells wordsA 9)); rw [hwb.out] at hin hT hB ⊢; clear hbl hwb; go_wp2_with fail; refine hin.out.mono ?_; rintro y w3 ⟨rfl, rfl⟩; have f0 := hT.out.frozen 0; have f1 := hT.out.frozen 1; have f2 := hT.out.frozen 2; obtain ⟨r0, r1, r2⟩ := cs3 hT.out; have rlt := hT.out.lt
    cases hwd : wordsL.contains x.data.toList with
    | true =>
     rw [rank_word hd hwd, if_pos rfl] at hone; clear hin hd; go_wp2_with fail; refine bodyPost_ret (rr2z rfl _ _ w.heap.size 89 _ _ rfl (((hT.out.set_ 0 _).set_ 1 _).set_ 2 _) Tryz.underlying89 rfl (by kernel_rfl)) rfl ?_; exact .ok (((hB.out.setCell leZ _).setCell leZ _).setCell leZ _) hone.out (by omega) (by omega) (by rw [show k + (j - k) = j by omega]; rfl)
    | false =>
     rw [rank_name hd hwd, hln.out] at hone; clear hin hd
     by_cases h16 : x.size ≤ 16
     ·have b1 : decide ((16 : Int) < (x.size : Int)) = false := by simp; omega
      rw [if_pos h16, if_pos rfl] at hone; go_wp2_with fail; refine bodyPost_ret (rr2z rfl _ _ w.heap.size 89 _ _ rfl (((hT.out.set_ 0 _).set_ 1 _).set_ 2 _) Tryz.underlying89 rfl (by kernel_rfl)) rfl ?_; exact .ok (((hB.out.setCell leZ _).setCell leZ _).setCell leZ _) hone.out (by omega) (by omega) (by rw [show k + (j - k) = j by omega]; rfl)
     ·have b1 : decide ((16 : Int) < (x.size : Int)) = true := by simp; omega
      rw [if_neg h16, if_neg (by decide)] at hone; go_wp2_with fail; refine bodyPost_ret (rr2z rfl _ _ w.heap.size 89 _ _ rfl (((hT.out.set_ 0 _).set_ 1 _).set_ 2 _) Tryz.underlying89 rfl (by kernel_rfl)) rfl ?_; exact .bad (((hB.out.setCell leZ _).setCell leZ _).setCell leZ _) hone.out (by decide) rfl
end Go.Proofs.YtjkmhlfjheiekaaGreatDoor

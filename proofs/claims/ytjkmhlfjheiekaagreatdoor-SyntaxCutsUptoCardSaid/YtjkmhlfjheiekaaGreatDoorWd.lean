import Derived.ChangeKeysEq
import Derived.Test.YtjkmhlfjheiekaaGreatDoorSb
import Derived.Test.YtjkmhlfjheiekaaGreatDoorWc
set_option maxRecDepth 1000000
set_option maxHeartbeats 51200000
namespace Go.Proofs.YtjkmhlfjheiekaaGreatDoor
open Go Go.RowKit Go.BigFrame Go.Maps
def plz (e : Nat) (l : List Tok) (i : Nat) : Nat := match l[i]? with | some t => t.place | none => e
def isT (s : Txt) (t : Tok) : Bool := t.text == s && (t.kind == 0 || t.kind == 5)
def atI (p : Tok → Bool) (l : List Tok) (i : Nat) : Bool := match l[i]? with | some t => p t | none => false
def nameT (t : Tok) : Bool := decide (t.kind ≤ 2) && markB t.text
def cmpT (t : Tok) : Bool := isT sEq t || isT sTilde t || isT sLe t || isT sGe t
theorem atI_none {p : Tok → Bool} {l : List Tok} {i : Nat} (h : l.length ≤ i) : atI p l i = false := by unfold atI; rw [List.getElem?_eq_none h]
theorem atI_some {p : Tok → Bool} {l : List Tok} {i : Nat} {t : Tok} (h : l[i]? = some t) : atI p l i = p t := by unfold atI; rw [h]
theorem txz (t : Txt) : (⟨t.toArray⟩ : ByteArray).toList = t := by simp [ByteArray.toList_eq]
section
variable (A : Option Addr) (n c : Nat) (l : List Tok) (w : World)
theorem rplace_any (e i : Nat) (hn : Hid (l.length = n)) (hA : Hid (TokAt w 0 A l)) :
  Cz 72 #[.slice A n c, Iz i, Iz e] w fun x w' => x = .returned (Iz (plz e l i : Nat)) ∧ w = w' := by
 by_cases hlt : i < n
 ·have b1 : decide ((i : Int) < (n : Int)) = true := by simp; omega
  have i1 : (i : Int) < (n : Int) := by omega
  have i2 : (0 : Int) ≤ (i : Int) := by omega
  obtain ⟨t, ht⟩ : ∃ t, l[i]? = some t := ⟨_, List.getElem?_eq_getElem (by have := hn.out; omega)⟩; have hpl : Hid (plz e l i = t.place) := by unfold Hid plz; rw [ht]
  obtain ⟨g, off, rfl, hg, h0, h1, h2⟩ := hA.out i t ht; clear ht
  go_enter Tryz.func72, Tryz.ntmps72
  go_wp2_with fail; go_ret; exact ⟨by rw [hpl.out]; rfl, rfl⟩
 ·have b1 : decide ((i : Int) < (n : Int)) = false := by simp; omega
  have hpl : Hid (plz e l i = e) := by unfold Hid plz; rw [List.getElem?_eq_none (by have := hn.out; omega)]
  go_enter Tryz.func72, Tryz.ntmps72
  go_wp2_with fail; go_ret; exact ⟨by rw [hpl.out]; rfl, rfl⟩
theorem rsz (i : Nat) (s : Txt) (hn : Hid (l.length = n)) (hA : Hid (TokAt w 0 A l)) :
  Cz 48 #[.slice A n c, Iz i, Sz s] w fun x w' => x = .returned (.bool (atI (isT s) l i)) ∧ w = w' := by
 by_cases hlt : i < n
 ·have b1 : decide ((i : Int) < (n : Int)) = true := by simp; omega
  have i1 : (i : Int) < (n : Int) := by omega
  have i2 : (0 : Int) ≤ (i : Int) := by omega
  obtain ⟨t, ht⟩ : ∃ t, l[i]? = some t := ⟨_, List.getElem?_eq_getElem (by have := hn.out; omega)⟩; have hpl := hdZ (atI_some (p := isT s) ht); obtain ⟨g, off, rfl, hg, h0, h1, h2⟩ := hA.out i t ht; have e1 := txz t.text; have e2 := txz s; clear ht
  cases q1 : (t.text == s) <;> cases q2 : (t.kind == 0) <;> cases q3 : (t.kind == 5)
  all_goals
   have hv : Hid (isT s t = ((t.text == s) && ((t.kind == 0) || (t.kind == 5)))) := rfl; rw [q1, q2, q3] at hv
   go_enter Tryz.func48, Tryz.ntmps48
   go_wp2_with fail; go_ret; exact ⟨by rw [hpl.out, hv.out]; rfl, rfl⟩
 ·have b1 : decide ((i : Int) < (n : Int)) = false := by simp; omega
  have hpl := hdZ (atI_none (p := isT s) (l := l) (i := i) (by have := hn.out; omega))
  go_enter Tryz.func48, Tryz.ntmps48
  go_wp2_with fail; go_ret; exact ⟨by rw [hpl.out]; rfl, rfl⟩
end
theorem rletter_any (c : UInt8) (w : World) : Cz 156 #[.int .u8 c.toNat] w fun e w' => e = .returned (.bool (letterB c)) ∧ w = w' := by
 unfold letterB
 cases h1 : decide (97 ≤ (c.toNat : Int)) <;> cases h2 : decide ((c.toNat : Int) ≤ 122)
 all_goals
  go_enter Tryz.func156, Tryz.ntmps156
  go_wp2_with fail; go_ret; exact ⟨retBl (by simp), rfl⟩
theorem rdigit_any (c : UInt8) (w : World) : Cz 157 #[.int .u8 c.toNat] w fun e w' => e = .returned (.bool (numB c)) ∧ w = w' := by
 unfold numB
 cases h1 : decide (48 ≤ (c.toNat : Int)) <;> cases h2 : decide ((c.toNat : Int) ≤ 57)
 all_goals
  go_enter Tryz.func157, Tryz.ntmps157
  go_wp2_with fail; go_ret; exact ⟨retBl (by simp), rfl⟩
theorem rname_any (s : ByteArray) (w : World) (hs : s.size ≤ maxLen) : Cz 128 #[.string s] w fun e w' => e = .returned (.bool (markB s.data.toList)) ∧ w = w' := by
 unfold maxLen at hs
 have hln : Hid (s.data.toList.length = s.size) := by unfold Hid; simp
 go_enter Tryz.func128, Tryz.ntmps128
 go_wp2_with fail
 go_loopg [3] s.size (fun gg i wr => ∃ k : Nat, k ≤ s.size ∧ gg = s.size - k ∧ i = Iz k ∧ w = wr ∧ Hid (s.data.toList.all smB = (s.data.toList.drop k).all smB))
 case atStart => exact ⟨0, Nat.zero_le _, by simp, rfl, rfl, rfl⟩
 case round =>
  obtain ⟨k, hk, hg, rfl, rfl, hall⟩ := hrel; have hg' := hdZ hg; clear hg
  by_cases hlt : k < s.size
  ·have hst := hdZ (mark_run hlt hall.out)
   rw [small_parts] at hst; have i1 : (k : Int) < (s.size : Int) := by omega
   have i2 : (0 : Int) ≤ (k : Int) := by omega
   obtain ⟨lb, hlb⟩ := nmZ (letterB s[k]); obtain ⟨nb, hnb⟩ := nmZ (numB s[k]); obtain ⟨sb, hsb⟩ := nmZ (((s[k].toNat : Int) != 45)); rw [hlb.out, hnb.out, hsb.out] at hst; have hq := hsb.out
   cases lb <;> cases nb <;> cases sb
   all_goals
    go_wp2_with (first | (go_at_call 156; refine (rletter_any _ _).mono ?_; rintro e w' ⟨rfl, rfl⟩; rw [hlb.out]) | (go_at_call 157; refine (rdigit_any _ _).mono ?_; rintro e w' ⟨rfl, rfl⟩; rw [hnb.out]))
    first
     | (go_roundg (s.size - (k + 1))
        case measure => have := hg'.out; omega
        case rel => exact ⟨k + 1, by omega, rfl, by go_num, rfl, by rw [hst.out]; first | rfl | simp⟩)
     | (go_ret
        exact ⟨by unfold markB; rw [hst.out]; simp, rfl⟩)
  ·have hr : Hid (s.data.toList.all smB = true) := by unfold Hid; rw [hall.out, List.drop_eq_nil_of_le (by simp; omega)]; rfl
   by_cases h1 : 1 ≤ s.size
   ·have b1 : decide ((1 : Int) ≤ (s.size : Int)) = true := by simp; omega
    by_cases h2 : s.size ≤ 16
    ·have b2 : decide ((s.size : Int) ≤ 16) = true := by simp; omega
     go_wp2_with fail; go_ret; exact ⟨by unfold markB; rw [hr.out, hln.out, decide_eq_true h1, decide_eq_true h2]; rfl, rfl⟩
    ·have b2 : decide ((s.size : Int) ≤ 16) = false := by simp; omega
     go_wp2_with fail; go_ret; exact ⟨by unfold markB; rw [hr.out, hln.out, decide_eq_false h2]; simp, rfl⟩
   ·have b1 : decide ((1 : Int) ≤ (s.size : Int)) = false := by simp; omega
    go_wp2_with fail; go_ret; exact ⟨by unfold markB; rw [hr.out, hln.out, decide_eq_false h1]; simp, rfl⟩
section
variable (A : Option Addr) (n c : Nat) (l : List Tok) (w : World)
theorem rnm_any (i : Nat) (hn : Hid (l.length = n)) (hok : Hid (TokOk l)) (hA : Hid (TokAt w 0 A l)) :
  Cz 96 #[.slice A n c, Iz i] w fun x w' => x = .returned (.bool (atI nameT l i)) ∧ w = w' := by
 by_cases hlt : i < n
 ·have b1 : decide ((i : Int) < (n : Int)) = true := by simp; omega
  have i1 : (i : Int) < (n : Int) := by omega
  have i2 : (0 : Int) ≤ (i : Int) := by omega
  obtain ⟨t, ht⟩ : ∃ t, l[i]? = some t := ⟨_, List.getElem?_eq_getElem (by have := hn.out; omega)⟩; have hpl := hdZ (atI_some (p := nameT) ht); obtain ⟨hlen, _⟩ := hok.out i t ht; obtain ⟨g, off, rfl, hg, h0, h1, h2⟩ := hA.out i t ht; have hcall := hdZ (rname_any ⟨t.text.toArray⟩ w (by rw [szl]; unfold maxLen; omega)); rw [show (⟨t.text.toArray⟩ : ByteArray).data.toList = t.text by simp] at hcall; clear ht
  cases q1 : decide (t.kind ≤ 2)
  all_goals
   have hv : Hid (nameT t = (decide (t.kind ≤ 2) && markB t.text)) := rfl; rw [q1] at hv
   go_enter Tryz.func96, Tryz.ntmps96
   go_wp2_with (go_at_call 128; refine hcall.out.mono ?_; rintro e w' ⟨rfl, rfl⟩)
   go_ret; exact ⟨by rw [hpl.out, hv.out]; rfl, rfl⟩
 ·have b1 : decide ((i : Int) < (n : Int)) = false := by simp; omega
  have hpl := hdZ (atI_none (p := nameT) (l := l) (i := i) (by have := hn.out; omega))
  go_enter Tryz.func96, Tryz.ntmps96
  go_wp2_with fail; go_ret; exact ⟨by rw [hpl.out]; rfl, rfl⟩
theorem rcz (i : Nat) (hn : Hid (l.length = n)) (hA : Hid (TokAt w 0 A l)) :
  Cz 166 #[.slice A n c, Iz i] w fun x w' => x = .returned (.bool (atI cmpT l i)) ∧ w = w' := by
 have hv : Hid (atI cmpT l i = (atI (isT [61]) l i || atI (isT [126]) l i || atI (isT [60, 61]) l i || atI (isT [62, 61]) l i)) := by
  unfold Hid atI
  cases l[i]? <;> rfl
 have hcall : Hid (∀ s : Txt, Cz 48 #[.slice A n c, Iz i, Sz s] w fun x w' => x = .returned (.bool (atI (isT s) l i)) ∧ w = w') := fun s => rsz A n c l w i s hn hA
 obtain ⟨b1, hb1⟩ := nmZ (atI (isT [61]) l i)
 obtain ⟨b2, hb2⟩ := nmZ (atI (isT [126]) l i)
 obtain ⟨b3, hb3⟩ := nmZ (atI (isT [60, 61]) l i)
 obtain ⟨b4, hb4⟩ := nmZ (atI (isT [62, 61]) l i)
 rw [hv.out, hb1.out, hb2.out, hb3.out, hb4.out]
 clear hv
 go_enter Tryz.func166, Tryz.ntmps166
 go_wp2_with fail
 refine (hcall.out [61]).mono ?_
 rintro x w1 ⟨rfl, rfl⟩
 rw [hb1.out]
 cases b1 with
 | true =>
  go_wp2_with fail; go_ret; exact ⟨rfl, rfl⟩
 | false =>
  go_wp2_with fail; refine (hcall.out [126]).mono ?_; rintro x w2 ⟨rfl, rfl⟩; rw [hb2.out]
  cases b2 with
  | true =>
   go_wp2_with fail; go_ret; exact ⟨rfl, rfl⟩
  | false =>
   go_wp2_with fail; refine (hcall.out [60, 61]).mono ?_; rintro x w3 ⟨rfl, rfl⟩; rw [hb3.out]
   cases b3 with
   | true =>
    go_wp2_with fail; go_ret; exact ⟨rfl, rfl⟩
   | false =>
    go_wp2_with fail; refine (hcall.out [62, 61]).mono ?_; rintro x w4 ⟨rfl, rfl⟩; rw [hb4.out]; go_wp2_with fail; go_ret; exact ⟨rfl, rfl⟩
end
theorem rnumber_any (s : ByteArray) (w : World) (hs : s.size ≤ maxLen) (hd : Hid (s.data.toList.all dgB = true)) (hm : Hid (numV s.data.toList ≤ 1099511627776)) : Cz 97 #[.string s] w fun e w' => e = .returned (Iz (numV s.data.toList : Nat)) ∧ w = w' := by
 unfold maxLen at hs
 have hln : s.data.toList.length = s.size := by simp
 have hdig : Hid (∀ k (h : k < s.size), 48 ≤ s[k].toNat ∧ s[k].toNat ≤ 57) := fun k h => by
  have hk : k < s.data.toList.length := by rw [hln]; exact h
  exact digit_range (List.all_eq_true.1 hd.out _ (List.getElem_mem hk))
 clear hln
 go_enter Tryz.func97, Tryz.ntmps97
 go_wp2_with fail
 go_loopg [3, 4] s.size (fun gg n i wr => ∃ k : Nat, k ≤ s.size ∧ gg = s.size - k ∧ i = Iz k ∧ n = Iz (numV (s.data.toList.take k) : Nat) ∧ w = wr)
 case atStart => exact ⟨0, Nat.zero_le _, by simp, rfl, rfl, rfl⟩
 case round =>
  obtain ⟨k, hk, hgk, rfl, rfl, rfl⟩ := hrel; have hgk' := hdZ hgk; clear hgk
  by_cases hlt : k < s.size
  ·have hst : Hid (numV (s.data.toList.take (k + 1)) = 10 * numV (s.data.toList.take k) + (s[k].toNat - 48)) := by unfold Hid; rw [take_byte hlt, numV_snoc]
   have hmo : numV (s.data.toList.take (k + 1)) ≤ 1099511627776 := by
    have := numV_mono (s.data.toList.take (k + 1)) (s.data.toList.drop (k + 1)); rw [List.take_append_drop] at this; exact Nat.le_trans this hm.out
   obtain ⟨d0, d1⟩ := hdig.out k hlt; obtain ⟨n, hn⟩ : ∃ n, Hid (numV (s.data.toList.take k) = n) := ⟨_, rfl⟩; obtain ⟨n2, hn2⟩ : ∃ n, Hid (numV (s.data.toList.take (k + 1)) = n) := ⟨_, rfl⟩; rw [hn.out] at hst ⊢; rw [hn2.out] at hst hmo; have hst' := hst.out; have i1 : (k : Int) < (s.size : Int) := by omega
   have i2 : (0 : Int) ≤ (k : Int) := by omega
   have w1 : IntKind.u8.wrap ((s[k].toNat : Int) - 48) = (s[k].toNat : Int) - 48 := IntWalk.u8_in _ (by omega); have w2 : IntKind.i64.wrap (10 * (n : Int)) = 10 * (n : Int) := IntWalk.i64_in _ (by omega); have w3 : IntKind.i64.wrap (10 * (n : Int) + ((s[k].toNat : Int) - 48)) = (n2 : Int) := by rw [IntWalk.i64_in _ (by omega)]; omega
   have w4 : IntKind.i64.wrap ((s[k].toNat : Int) - 48) = (s[k].toNat : Int) - 48 := IntWalk.i64_in _ (by omega); go_wp2_with fail
   go_roundg (s.size - (k + 1))
   case measure => have := hgk'.out; omega
   case rel => exact ⟨k + 1, by omega, rfl, by go_num, by rw [hn2.out]; first | done | (congr 1; omega), rfl⟩
  ·have hfin : Hid (s.data.toList.take k = s.data.toList) := List.take_of_length_le (by simp; omega)
   rw [hfin.out]; go_wp2_with fail; go_ret; exact ⟨rfl, rfl⟩
open Go Go.RowKit Go.BigFrame Go.Maps
theorem rword_any (k : Nat) (hk : k < 6) (w : World) : Cz 60 #[Iz k] w fun x w' => x = .returned (.string ⟨(ppL.getD k []).toArray⟩) ∧ w = w' := by
 obtain rfl | rfl | rfl | rfl | rfl | rfl : k = 0 ∨ k = 1 ∨ k = 2 ∨ k = 3 ∨ k = 4 ∨ k = 5 := by omega
 all_goals
  go_enter Tryz.func60, Tryz.ntmps60
  go_wp2_with fail; go_ret; exact ⟨rfl, rfl⟩
def paperJ (t : Tok) : Int := if t.kind = 0 then paperI t.text else -1
def papI (l : List Tok) (i : Nat) : Int := match l[i]? with | some t => paperJ t | none => -1
section
variable (A : Option Addr) (n c : Nat) (l : List Tok) (w : World)
theorem rpaper_any (i : Nat) (hn : Hid (l.length = n)) (hA : Hid (TokAt w 0 A l)) :
  Cz 98 #[.slice A n c, Iz i] w fun x w' => x = .returned (Iz (papI l i)) ∧ Bz w w' := by
 by_cases hlt : i < n
 ·have b1 : decide ((i : Int) < (n : Int)) = true := by simp; omega
  have i1 : (i : Int) < (n : Int) := by omega
  have i2 : (0 : Int) ≤ (i : Int) := by omega
  obtain ⟨t, ht⟩ : ∃ t, l[i]? = some t := ⟨_, List.getElem?_eq_getElem (by have := hn.out; omega)⟩; have hpl : Hid (papI l i = paperJ t) := by unfold Hid papI; rw [ht]
  obtain ⟨g, off, rfl, hg, h0, h1, h2⟩ := hA.out i t ht; have hgl : g < w.heap.size := World.block_lt_of_cell? w _ h0; have h0' := hdZ h0; have h2' := hdZ h2; have e1 := txz t.text; clear ht h0 h1 h2; rw [hpl.out]
  by_cases hk0 : t.kind = 0
  ·have q1 : (t.kind == 0) = true := by simp [hk0]
   have hpj : Hid (paperJ t = paperI t.text) := by unfold Hid paperJ; rw [if_pos hk0]
   clear hk0
   go_enter Tryz.func98, Tryz.ntmps98
   go_wp2_with fail
   go_loopg [5] 6 (fun gg a wr => ∃ k : Nat, k ≤ 6 ∧ gg = 6 - k ∧ a = Iz k ∧ Hid (Bz w wr) ∧ Hid (paperI t.text = paperD (ppL.drop k) k t.text))
   case atStart => exact ⟨0, by omega, rfl, rfl, Below.refl _ _, paperI_D _⟩
   case round =>
    obtain ⟨k, hk, hg', rfl, hB, hs⟩ := hrel; have hgh := hdZ hg'; clear hg'
    by_cases hk6 : k < 6
    ·obtain ⟨x, hx⟩ : ∃ x, ppL[k]? = some x := ⟨_, List.getElem?_eq_getElem (show k < ppL.length from hk6)⟩
     have hgd : ppL.getD k [] = x := by rw [List.getD_eq_getElem?_getD, hx]; rfl
     have hcl : Hid (∀ y : Ext wr, Cz 60 #[Iz k] y.wd fun e w' => e = .returned (Sz x) ∧ y.wd = w') := fun y => by
      have := rword_any k hk6 y.wd; rw [hgd] at this; exact this
     have f0 : ∀ y : Ext wr, y.wd.cell? ⟨g, off + i * 3, none⟩ = some (Iz t.kind) := fun y => (y.cell ⟨g, off + i * 3, none⟩ (Nat.lt_of_lt_of_le hgl hB.out.size)).trans ((hB.out.cell (p := ⟨g, off + i * 3, none⟩) hgl).trans h0'.out)
     have f2 : ∀ y : Ext wr, y.wd.cell? ⟨g, off + i * 3 + 2, none⟩ = some (.string ⟨t.text.toArray⟩) := fun y => (y.cell ⟨g, off + i * 3 + 2, none⟩ (Nat.lt_of_lt_of_le hgl hB.out.size)).trans ((hB.out.cell (p := ⟨g, off + i * 3 + 2, none⟩) hgl).trans h2'.out)
     have e2 := txz x; have b2 : decide ((k : Int) < 6) = true := by simp; omega
     by_cases heq : x = t.text
     ·have hr : Hid (paperI t.text = k) := by unfold Hid; rw [hs.out, paperD_yes hx heq]
      have q2 : (t.text == x) = true := by simp [heq]
      clear heq hx hgd; go_wp2_with fail; refine wrz (by kernel_rfl) (by kernel_rfl) ?_
      repeat (go_big_quiet_step ((go_at_call 60; exact Calls.ext_of_same (hcl.out _))))
      refine wpQuiet_nil ?_; rintro _ ⟨y, rfl⟩; have hby := hdZ y.below; obtain ⟨wy, hwy⟩ : ∃ w6, y.wd = w6 := ⟨_, rfl⟩; rw [hwy] at hby ⊢; clear hwy y f0 f2 hcl; have hBy : Hid (Bz w wy) := hB.out.trans (hby.out.mono hB.out.size); go_wp2_with fail; go_ret; exact ⟨by rw [hpj.out, hr.out]; first | done | rfl, hBy.out⟩
     ·have hr : Hid (paperI t.text = paperD (ppL.drop (k + 1)) (k + 1) t.text) := by unfold Hid; rw [hs.out, paperD_no hx heq]
      have q2 : (t.text == x) = false := by simp; exact fun h => heq h.symm
      clear heq hx hgd; go_wp2_with fail; refine wrz (by kernel_rfl) (by kernel_rfl) ?_
      repeat (go_big_quiet_step ((go_at_call 60; exact Calls.ext_of_same (hcl.out _))))
      refine wpQuiet_nil ?_; rintro _ ⟨y, rfl⟩; have hby := hdZ y.below; obtain ⟨wy, hwy⟩ : ∃ w6, y.wd = w6 := ⟨_, rfl⟩; rw [hwy] at hby ⊢; clear hwy y f0 f2 hcl; have hBy : Hid (Bz w wy) := hB.out.trans (hby.out.mono hB.out.size); go_wp2_with fail
      go_roundg (6 - (k + 1))
      case measure => have := hgh.out; omega
      case rel => exact ⟨k + 1, by omega, rfl, by go_num, hBy, hr⟩
    ·have hr : Hid (paperI t.text = -1) := by unfold Hid; rw [hs.out, show k = 6 by omega]; rfl
     have b2 : decide ((k : Int) < 6) = false := by simp; omega
     go_wp2_with fail; go_ret; exact ⟨by rw [hpj.out, hr.out]; first | done | rfl, hB.out⟩
  ·have q1 : (t.kind == 0) = false := by simp [hk0]
   have hpj : Hid (paperJ t = -1) := by unfold Hid paperJ; rw [if_neg hk0]
   clear hk0
   go_enter Tryz.func98, Tryz.ntmps98
   go_wp2_with fail
   go_loopg [5] 6 (fun gg a wr => ∃ k : Nat, k ≤ 6 ∧ gg = 6 - k ∧ a = Iz k ∧ Hid (Bz w wr))
   case atStart => exact ⟨0, by omega, rfl, rfl, Below.refl _ _⟩
   case round =>
    obtain ⟨k, hk, hg', rfl, hB⟩ := hrel; have hgh := hdZ hg'; clear hg'; have f0 : wr.cell? ⟨g, off + i * 3, none⟩ = some (Iz t.kind) := (hB.out.cell (p := ⟨g, off + i * 3, none⟩) hgl).trans h0'.out
    by_cases hk6 : k < 6
    ·have b2 : decide ((k : Int) < 6) = true := by simp; omega
     go_wp2_with fail
     go_quiet (fail)
     go_wp2_with fail
     go_roundg (6 - (k + 1))
     case measure => have := hgh.out; omega
     case rel => exact ⟨k + 1, by omega, rfl, by go_num, bdz hB.out _⟩
    ·have b2 : decide ((k : Int) < 6) = false := by simp; omega
     go_wp2_with fail; go_ret; exact ⟨by rw [hpj.out]; first | done | rfl, hB.out⟩
 ·have b1 : decide ((i : Int) < (n : Int)) = false := by simp; omega
  have hpl : Hid (papI l i = -1) := by unfold Hid papI; rw [List.getElem?_eq_none (by have := hn.out; omega)]
  go_enter Tryz.func98, Tryz.ntmps98
  go_wp2_with fail
  go_loopg [5] 6 (fun gg a wr => ∃ k : Nat, k ≤ 6 ∧ gg = 6 - k ∧ a = Iz k ∧ Hid (Bz w wr))
  case atStart => exact ⟨0, by omega, rfl, rfl, Below.refl _ _⟩
  case round =>
   obtain ⟨k, hk, hg', rfl, hB⟩ := hrel; have hgh := hdZ hg'; clear hg'
   by_cases hk6 : k < 6
   ·have b2 : decide ((k : Int) < 6) = true := by simp; omega
    go_wp2_with fail
    go_quiet (fail)
    go_wp2_with fail
    go_roundg (6 - (k + 1))
    case measure => have := hgh.out; omega
    case rel => exact ⟨k + 1, by omega, rfl, by go_num, bdz hB.out _⟩
   ·have b2 : decide ((k : Int) < 6) = false := by simp; omega
    go_wp2_with fail; go_ret; exact ⟨by rw [hpl.out]; first | done | rfl, hB.out⟩
def zeroG : Array Value := (z2z 0 0 0 none 0 0 0 0 0)
def gotE (cd : Int) (pl : Nat) : Array Value := (z2z 0 0 0 none 0 0 0 cd pl)
def gotV (t : Tree) (k : Nat) : Array Value := match t with
 | .mk tk tp tf tx tn tA tc tL => (z5z tk tp tf tx tn tA tL.length tc k 0 0)
theorem rwz (e i : Nat) (hn : Hid (l.length = n)) (hA : Hid (TokAt w 0 A l)) :
  Cz 36 #[.slice A n c, Iz i, Iz e] w fun x w' => x = .returned (.agg (gotE 2 (plz e l i))) ∧ Bz w w' := by
 have hbl : Hid (Bz w (w.alloc (.cells zeroG 65))) := (Below.refl _ w).alloc leZ _
 have hcall := hdZ (rplace_any A n c l (w.alloc (.cells zeroG 65)) e i hn (hA.out.below hbl.out))
 have hR0 := hdZ (Blk.new w 65 zeroG)
 obtain ⟨pl, hpl⟩ := nmZ (plz e l i)
 rw [hpl.out] at hcall ⊢
 go_enter Tryz.func36, Tryz.ntmps36
 go_wp2_with fail
 refine hcall.out.mono ?_
 rintro x w1 ⟨rfl, hw1⟩
 have hB : Hid (Bz w w1) := by rw [← hw1]; exact hbl.out
 have hR : Hid (Blk w1 w.heap.size 65 zeroG) := by rw [← hw1]; exact hR0.out
 clear hw1 hcall
 obtain ⟨rc0, rc1, rc2, rc3, rc4, rc5, rc6, rc7, rc8, rf0, rf1, rf2, rf3, rf4, rf5, rf6, rf7, rf8⟩ := cf9 hR.out
 have rlt := hR.out.lt
 go_wp2_with fail
 refine bodyPost_ret (rrz rfl _ _ w.heap.size 65 _ _ rfl (st9z (hR.out)) Tryz.underlying65 rfl (by kernel_rfl)) rfl ?_
 exact ⟨rfl, ((((((((hB.out.setCell leZ _).setCell leZ _).setCell leZ _).setCell leZ _).setCell leZ _).setCell leZ _).setCell leZ _).setCell leZ _).setCell leZ _⟩
end
open Go Go.RowKit Go.BigFrame Go.Maps
theorem quiet_blk {P : Program} {C : World → Prop} {K : Act → Prop} {o : Oper} {a : Act} (ty : TypeId) (x : Operand) (ho : o.op = .load ty x) (g : Nat) (cs : Array Value) (t : TypeId) (d : TypeDesc) (hx : a.eval x = .pointer (some ⟨g, 0, none⟩))
  (hb : ∀ w, C w → Blk w g t cs) (hu : P.underlying ty = some d) (hd : (match d with | .struct _ | .array _ _ => true | _ => false) = true) (hi : (P.info? ty).map (·.size) = some cs.size)
  (hk : K (a.put o.dst (.agg cs))) : o.quiet P a C K := by
 refine ⟨_, fun w hw => ?_, hk⟩
 unfold Oper.quietAt execOp
 simp only [ho, hx, Instr.loadAt, Instr.sureAddr, Sem.run_bind, Sem.run_pure, Result.andThen_ok, run_loadVar_row w g t ty cs (0, 0) d (hb w hw) hu hd hi]
 exact ⟨rfl, rfl⟩
section
variable {P : Program} (w : World)
theorem items_str (d : Nat) {e : TypeId} (hp : P.plainKey e = true) (he : P.underlying e = some .string) {xs ys : Array Value} {i : Nat} {is : List Nat} {a b : Txt} (hx : xs[i]? = some (.string ⟨a.toArray⟩)) (hy : ys[i]? = some (.string ⟨b.toArray⟩)) :
  (Op.eqItems (d + 1) e 1 xs ys (i :: is)).run P w = if (a == b) = true then (Op.eqItems (d + 1) e 1 xs ys is).run P w else .ok false w := by
 have h1 := run_part_plain w hp hx
 have h2 := run_part_plain w hp hy
 rw [Op.eqItems]
 simp only [Nat.mul_one, Sem.run_bind, h1, h2, Result.andThen_ok, run_equalIn_string w d e _ _ he, txz]
 generalize (a == b) = r
 cases r <;> simp
theorem items_int (d : Nat) {e : TypeId} {k : IntKind} (hp : P.plainKey e = true) (he : P.underlying e = some (.int k)) {xs ys : Array Value} {i : Nat} {is : List Nat} {a b : Int} (hx : xs[i]? = some (.int .i64 a)) (hy : ys[i]? = some (.int .i64 b)) :
  (Op.eqItems (d + 1) e 1 xs ys (i :: is)).run P w = if (a == b) = true then (Op.eqItems (d + 1) e 1 xs ys is).run P w else .ok false w := by
 have h1 := run_part_plain w hp hx
 have h2 := run_part_plain w hp hy
 rw [Op.eqItems]
 simp only [Nat.mul_one, Sem.run_bind, h1, h2, Result.andThen_ok, run_equalIn_int w d e _ _ _ _ he]
 generalize (a == b) = r
 cases r <;> simp
end
theorem eq_names (w : World) (s0 s1 s2 s3 s4 s5 s6 t0 t1 t2 t3 t4 t5 t6 : Txt) : (Op.equalIn 10000 75 (.agg #[.string ⟨s0.toArray⟩, .string ⟨s1.toArray⟩, .string ⟨s2.toArray⟩, .string ⟨s3.toArray⟩, .string ⟨s4.toArray⟩, .string ⟨s5.toArray⟩, .string ⟨s6.toArray⟩]) (.agg #[.string ⟨t0.toArray⟩, .string ⟨t1.toArray⟩, .string ⟨t2.toArray⟩, .string ⟨t3.toArray⟩, .string ⟨t4.toArray⟩, .string ⟨t5.toArray⟩, .string ⟨t6.toArray⟩])).run Tryz.prog w = .ok (s0 == t0 && s1 == t1 && s2 == t2 && s3 == t3 && s4 == t4 && s5 == t5 && s6 == t6) w := by
 have h0 : (Tryz.prog.info? 9).isSome = true := by kernel_rfl
 obtain ⟨i0, hi⟩ := Option.isSome_iff_exists.1 h0
 clear h0
 have hp : Tryz.prog.plainKey 9 = true := by kernel_rfl
 have hc : Tryz.prog.cellsOf 9 = 1 := by kernel_rfl
 rw [show (10000 : Nat) = 9998 + 1 + 1 from rfl, run_equalIn_array w (9998 + 1) _ _ Tryz.underlying75 hi, hc, show List.range 7 = [0, 1, 2, 3, 4, 5, 6] from rfl]
 rw [items_str w 9998 hp Tryz.underlying9 (by rfl) (by rfl), items_str w 9998 hp Tryz.underlying9 (by rfl) (by rfl), items_str w 9998 hp Tryz.underlying9 (by rfl) (by rfl), items_str w 9998 hp Tryz.underlying9 (by rfl) (by rfl), items_str w 9998 hp Tryz.underlying9 (by rfl) (by rfl), items_str w 9998 hp Tryz.underlying9 (by rfl) (by rfl), items_str w 9998 hp Tryz.underlying9 (by rfl) (by rfl), Op.eqItems]
 cases s0 == t0 <;> cases s1 == t1 <;> cases s2 == t2 <;> cases s3 == t3 <;> cases s4 == t4 <;> cases s5 == t5 <;> cases s6 == t6 <;> rfl
theorem eq_nums (w : World) (s0 s1 s2 s3 s4 s5 t0 t1 t2 t3 t4 t5 : Int) : (Op.equalIn 10000 77 (.agg #[.int .i64 s0, .int .i64 s1, .int .i64 s2, .int .i64 s3, .int .i64 s4, .int .i64 s5]) (.agg #[.int .i64 t0, .int .i64 t1, .int .i64 t2, .int .i64 t3, .int .i64 t4, .int .i64 t5])).run Tryz.prog w = .ok (s0 == t0 && s1 == t1 && s2 == t2 && s3 == t3 && s4 == t4 && s5 == t5) w := by
 have h0 : (Tryz.prog.info? 3).isSome = true := by kernel_rfl
 obtain ⟨i0, hi⟩ := Option.isSome_iff_exists.1 h0
 clear h0
 have hp : Tryz.prog.plainKey 3 = true := by kernel_rfl
 have hc : Tryz.prog.cellsOf 3 = 1 := by kernel_rfl
 rw [show (10000 : Nat) = 9998 + 1 + 1 from rfl, run_equalIn_array w (9998 + 1) _ _ Tryz.underlying77 hi, hc, show List.range 6 = [0, 1, 2, 3, 4, 5] from rfl]
 rw [items_int w 9998 hp Tryz.underlying3 (by rfl) (by rfl), items_int w 9998 hp Tryz.underlying3 (by rfl) (by rfl), items_int w 9998 hp Tryz.underlying3 (by rfl) (by rfl), items_int w 9998 hp Tryz.underlying3 (by rfl) (by rfl), items_int w 9998 hp Tryz.underlying3 (by rfl) (by rfl), items_int w 9998 hp Tryz.underlying3 (by rfl) (by rfl), Op.eqItems]
 cases s0 == t0 <;> cases s1 == t1 <;> cases s2 == t2 <;> cases s3 == t3 <;> cases s4 == t4 <;> cases s5 == t5 <;> rfl
def eqNm (c d : Crd) : Bool := c.number == d.number && c.applicant == d.applicant && c.beneficiary == d.beneficiary && c.issuer == d.issuer && c.confirmer == d.confirmer && c.orig == d.orig && c.dest == d.dest
def eqNu (c d : Crd) : Bool := c.above == d.above && c.below == d.below && c.latest == d.latest && c.expiry == d.expiry && c.within == d.within && c.tenor == d.tenor
def eqCr (c d : Crd) : Bool := eqNm c d && eqNu c d && c.currency == d.currency && c.amount == d.amount && c.part == d.part && c.change == d.change
theorem same_prog (C D : Array Value) (c d : Crd) (A : Option Addr) (n cc : Nat) (l : List Nd) (A' : Option Addr) (n' cc' : Nat) (l' : List Nd) (ok ok' : Nat → Prop) (w : World) (hC : Hid (C = c.cells (.slice A n cc))) (hD : Hid (D = d.cells (.slice A' n' cc'))) (hn : n ≤ maxLen) (hn' : n' ≤ maxLen) (hl : Hid (l.length = n)) (hl' : Hid (l'.length = n'))
  (hN : Hid (NdsAt w ok A l)) (hN' : Hid (NdsAt w ok' A' l')) : Calls Tryz.prog 21 #[.agg C, .agg D] w fun e w' => e = .returned (.bool (eqCr c d && eqBy eqNd l l')) ∧ Below w.heap.size w w' := by
 have e42 : ∀ (args : Array Value) (w : World), (callFunc 42 args).run Tryz.prog w = .ok (.enter 42 args) w := enters_of Tryz.func42 (by kernel_rfl) rfl
 have e43 : ∀ (args : Array Value) (w : World), (callFunc 43 args).run Tryz.prog w = .ok (.enter 43 args) w := enters_of Tryz.func43 (by kernel_rfl) rfl
 have e45 : ∀ (args : Array Value) (w : World), (callFunc 45 args).run Tryz.prog w = .ok (.enter 45 args) w := enters_of Tryz.func45 (by kernel_rfl) rfl
 have hb0 : Hid (Below w.heap.size w ((w.alloc (.cells C 41)).alloc (.cells D 41))) := ((Below.refl _ w).alloc (Nat.le_refl _) _).alloc (by simp) _
 have hbx := Lib.hid ((Blk.new w 41 C).alloc (.cells D 41))
 have hby : Hid (Blk ((w.alloc (.cells C 41)).alloc (.cells D 41)) (w.heap.size + 1) 41 D) := by
  have h := Blk.new (w.alloc (.cells C 41)) 41 D; have hs : (w.alloc (.cells C 41)).heap.size = w.heap.size + 1 := by simp
  rw [hs] at h; exact h
 have hsC : Hid ((Tryz.prog.info? 41).map (·.size) = some C.size) := by unfold Hid; rw [hC.out]; kernel_rfl
 have hsD : Hid ((Tryz.prog.info? 41).map (·.size) = some D.size) := by unfold Hid; rw [hD.out]; kernel_rfl
 have q1 := Lib.hid (fun y : Ext ((w.alloc (.cells C 41)).alloc (.cells D 41)) => names_any C c _ hC y.wd)
 have q2 := Lib.hid (fun y : Ext ((w.alloc (.cells C 41)).alloc (.cells D 41)) => names_any D d _ hD y.wd)
 have q3 := Lib.hid (fun y : Ext ((w.alloc (.cells C 41)).alloc (.cells D 41)) => nums_any C c _ hC y.wd)
 have q4 := Lib.hid (fun y : Ext ((w.alloc (.cells C 41)).alloc (.cells D 41)) => nums_any D d _ hD y.wd)
 have hcall := Lib.hid (fun y : Ext ((w.alloc (.cells C 41)).alloc (.cells D 41)) => equal_needs A n cc l A' n' cc' l' ok ok' 45 e45 eqNd y.wd hn hn' hl hl' (hN.out.below (hb0.out.trans (y.below.mono hb0.out.size))) (hN'.out.below (hb0.out.trans (y.below.mono hb0.out.size))) (fun W t u ht hu hW => sameNeed_any t u W ok ok'
  (by obtain ⟨k, hk⟩ := List.mem_iff_getElem?.1 ht; obtain ⟨_, _, _, _, _, hT⟩ := hN.out k t hk; exact hT.below (hb0.out.trans ((y.below.trans (hW.mono y.below.size)).mono hb0.out.size)))
  (by obtain ⟨k, hk⟩ := List.mem_iff_getElem?.1 hu; obtain ⟨_, _, _, _, _, hT⟩ := hN'.out k u hk; exact hT.below (hb0.out.trans ((y.below.trans (hW.mono y.below.size)).mono hb0.out.size)))))
 obtain ⟨bl, hbl⟩ : ∃ b, Hid (eqBy eqNd l l' = b) := ⟨_, Lib.hid rfl⟩
 rw [hbl.out] at hcall ⊢
 clear hN hN' hbl
 have f7 : ∀ y : Ext ((w.alloc (.cells C 41)).alloc (.cells D 41)), y.wd.cell? ⟨w.heap.size, 7, none⟩ = some (.string ⟨c.currency.toArray⟩) := fun y => (y.cell ⟨w.heap.size, 7, none⟩ hbx.out.lt).trans ((hbx.out.cell 7).trans (by rw [hC.out]; rfl))
 have g7 : ∀ y : Ext ((w.alloc (.cells C 41)).alloc (.cells D 41)), y.wd.cell? ⟨w.heap.size + 1, 7, none⟩ = some (.string ⟨d.currency.toArray⟩) := fun y => (y.cell ⟨w.heap.size + 1, 7, none⟩ hby.out.lt).trans ((hby.out.cell 7).trans (by rw [hD.out]; rfl))
 have f8 : ∀ y : Ext ((w.alloc (.cells C 41)).alloc (.cells D 41)), y.wd.cell? ⟨w.heap.size, 8, none⟩ = some (.int .i64 c.amount) := fun y => (y.cell ⟨w.heap.size, 8, none⟩ hbx.out.lt).trans ((hbx.out.cell 8).trans (by rw [hC.out]; rfl))
 have g8 : ∀ y : Ext ((w.alloc (.cells C 41)).alloc (.cells D 41)), y.wd.cell? ⟨w.heap.size + 1, 8, none⟩ = some (.int .i64 d.amount) := fun y => (y.cell ⟨w.heap.size + 1, 8, none⟩ hby.out.lt).trans ((hby.out.cell 8).trans (by rw [hD.out]; rfl))
 have f15 : ∀ y : Ext ((w.alloc (.cells C 41)).alloc (.cells D 41)), y.wd.cell? ⟨w.heap.size, 15, none⟩ = some (.bool c.part) := fun y => (y.cell ⟨w.heap.size, 15, none⟩ hbx.out.lt).trans ((hbx.out.cell 15).trans (by rw [hC.out]; rfl))
 have g15 : ∀ y : Ext ((w.alloc (.cells C 41)).alloc (.cells D 41)), y.wd.cell? ⟨w.heap.size + 1, 15, none⟩ = some (.bool d.part) := fun y => (y.cell ⟨w.heap.size + 1, 15, none⟩ hby.out.lt).trans ((hby.out.cell 15).trans (by rw [hD.out]; rfl))
 have f16 : ∀ y : Ext ((w.alloc (.cells C 41)).alloc (.cells D 41)), y.wd.cell? ⟨w.heap.size, 16, none⟩ = some (.bool c.change) := fun y => (y.cell ⟨w.heap.size, 16, none⟩ hbx.out.lt).trans ((hbx.out.cell 16).trans (by rw [hC.out]; rfl))
 have g16 : ∀ y : Ext ((w.alloc (.cells C 41)).alloc (.cells D 41)), y.wd.cell? ⟨w.heap.size + 1, 16, none⟩ = some (.bool d.change) := fun y => (y.cell ⟨w.heap.size + 1, 16, none⟩ hby.out.lt).trans ((hby.out.cell 16).trans (by rw [hD.out]; rfl))
 have f17 : ∀ y : Ext ((w.alloc (.cells C 41)).alloc (.cells D 41)), y.wd.cell? ⟨w.heap.size, 17, none⟩ = some (.slice A n cc) := fun y => (y.cell ⟨w.heap.size, 17, none⟩ hbx.out.lt).trans ((hbx.out.cell 17).trans (by rw [hC.out]; rfl))
 have g17 : ∀ y : Ext ((w.alloc (.cells C 41)).alloc (.cells D 41)), y.wd.cell? ⟨w.heap.size + 1, 17, none⟩ = some (.slice A' n' cc') := fun y => (y.cell ⟨w.heap.size + 1, 17, none⟩ hby.out.lt).trans ((hby.out.cell 17).trans (by rw [hD.out]; rfl))
 clear hC hD
 obtain ⟨s0, s1, s2, s3, s4, s5, s6, s7, n8, n9, n10, n11, n12, n13, n14, b15, b16⟩ := c
 obtain ⟨s0', s1', s2', s3', s4', s5', s6', s7', n8', n9', n10', n11', n12', n13', n14', b15', b16'⟩ := d
 obtain ⟨nm, hnm⟩ : ∃ b, Hid ((s0 == s0' && s1 == s1' && s2 == s2' && s3 == s3' && s4 == s4' && s5 == s5' && s6 == s6') = b) := ⟨_, Lib.hid rfl⟩
 obtain ⟨nu, hnu⟩ : ∃ b, Hid ((n9 == n9' && n10 == n10' && n11 == n11' && n12 == n12' && n13 == n13' && n14 == n14') = b) := ⟨_, Lib.hid rfl⟩
 have hres : Hid (eqCr ⟨s0, s1, s2, s3, s4, s5, s6, s7, n8, n9, n10, n11, n12, n13, n14, b15, b16⟩ ⟨s0', s1', s2', s3', s4', s5', s6', s7', n8', n9', n10', n11', n12', n13', n14', b15', b16'⟩ = (nm && nu && s7 == s7' && n8 == n8' && b15 == b15' && b16 == b16')) := by unfold Hid eqCr eqNm eqNu; rw [← hnm.out, ← hnu.out]
 rw [hres.out]
 simp only [Crd.names, Crd.nums] at q1 q2 q3 q4
 clear hres
 have z1 : ∀ W, (Op.equalIn 10000 75 (.agg #[.string ⟨s0.toArray⟩, .string ⟨s1.toArray⟩, .string ⟨s2.toArray⟩, .string ⟨s3.toArray⟩, .string ⟨s4.toArray⟩, .string ⟨s5.toArray⟩, .string ⟨s6.toArray⟩]) (.agg #[.string ⟨s0'.toArray⟩, .string ⟨s1'.toArray⟩, .string ⟨s2'.toArray⟩, .string ⟨s3'.toArray⟩, .string ⟨s4'.toArray⟩, .string ⟨s5'.toArray⟩, .string ⟨s6'.toArray⟩])).run Tryz.prog W = .ok nm W := fun W => by rw [eq_names, hnm.out]
 have z2 : ∀ W, (Op.equalIn 10000 77 (.agg #[.int .i64 n9, .int .i64 n10, .int .i64 n11, .int .i64 n12, .int .i64 n13, .int .i64 n14]) (.agg #[.int .i64 n9', .int .i64 n10', .int .i64 n11', .int .i64 n12', .int .i64 n13', .int .i64 n14'])).run Tryz.prog W = .ok nu W := fun W => by rw [eq_nums, hnu.out]
 have t7 := txz s7
 have t7' := txz s7'
 cases nm with
 | false =>
  go_enter Tryz.func21, Tryz.ntmps21
  go_upto_region 3 with fail
  refine wrz (by kernel_rfl) (by kernel_rfl) ?_
  repeat (first
   | (go_big_quiet_want; (refine quiet_blk 41 (.tmp 2) rfl w.heap.size C 41 _ rfl (by rintro _ ⟨y, rfl⟩; exact hbx.out.below y.below hbx.out.lt) Tryz.underlying41 rfl hsC.out ?_); go_big_quiet_on; simp only [Act.put, List.setIfInBounds_toArray, List.set_cons_zero, List.set_cons_succ])
   | (go_big_quiet_want; (refine quiet_blk 41 (.tmp 3) rfl (w.heap.size + 1) D 41 _ rfl (by rintro _ ⟨y, rfl⟩; exact hby.out.below y.below hby.out.lt) Tryz.underlying41 rfl hsD.out ?_); go_big_quiet_on; simp only [Act.put, List.setIfInBounds_toArray, List.set_cons_zero, List.set_cons_succ])
   | go_big_quiet_step ((first
     | (go_at_fn 42; (first | with_reducible exact Calls.ext_of (q1.out _) | with_reducible exact Calls.ext_of (q2.out _)))
     | (go_at_fn 43; (first | with_reducible exact Calls.ext_of (q3.out _) | with_reducible exact Calls.ext_of (q4.out _)))
     | (go_at_call 44; with_reducible exact Calls.ext_of (hcall.out _)))))
  refine wpQuiet_nil ?_; rintro _ ⟨y, rfl⟩; have hby9 := hb0.out.trans (y.below.mono hb0.out.size); go_wp2_with fail; go_ret; exact ⟨by simp, hby9⟩
 | true =>
 cases nu with
 | false =>
  go_enter Tryz.func21, Tryz.ntmps21
  go_upto_region 3 with fail
  refine wrz (by kernel_rfl) (by kernel_rfl) ?_
  repeat (first
   | (go_big_quiet_want; (refine quiet_blk 41 (.tmp 2) rfl w.heap.size C 41 _ rfl (by rintro _ ⟨y, rfl⟩; exact hbx.out.below y.below hbx.out.lt) Tryz.underlying41 rfl hsC.out ?_); go_big_quiet_on; simp only [Act.put, List.setIfInBounds_toArray, List.set_cons_zero, List.set_cons_succ])
   | (go_big_quiet_want; (refine quiet_blk 41 (.tmp 3) rfl (w.heap.size + 1) D 41 _ rfl (by rintro _ ⟨y, rfl⟩; exact hby.out.below y.below hby.out.lt) Tryz.underlying41 rfl hsD.out ?_); go_big_quiet_on; simp only [Act.put, List.setIfInBounds_toArray, List.set_cons_zero, List.set_cons_succ])
   | go_big_quiet_step ((first
     | (go_at_fn 42; (first | with_reducible exact Calls.ext_of (q1.out _) | with_reducible exact Calls.ext_of (q2.out _)))
     | (go_at_fn 43; (first | with_reducible exact Calls.ext_of (q3.out _) | with_reducible exact Calls.ext_of (q4.out _)))
     | (go_at_call 44; with_reducible exact Calls.ext_of (hcall.out _)))))
  refine wpQuiet_nil ?_; rintro _ ⟨y, rfl⟩; have hby9 := hb0.out.trans (y.below.mono hb0.out.size); go_wp2_with fail; go_ret; exact ⟨by simp, hby9⟩
 | true =>
 by_cases h7 : ¬ (s7 = s7')
 ·have k7 : (s7 == s7') = false := by simp [h7]
  rw [k7]
  go_enter Tryz.func21, Tryz.ntmps21
  go_upto_region 3 with fail
  refine wrz (by kernel_rfl) (by kernel_rfl) ?_
  repeat (first
   | (go_big_quiet_want; (refine quiet_blk 41 (.tmp 2) rfl w.heap.size C 41 _ rfl (by rintro _ ⟨y, rfl⟩; exact hbx.out.below y.below hbx.out.lt) Tryz.underlying41 rfl hsC.out ?_); go_big_quiet_on; simp only [Act.put, List.setIfInBounds_toArray, List.set_cons_zero, List.set_cons_succ])
   | (go_big_quiet_want; (refine quiet_blk 41 (.tmp 3) rfl (w.heap.size + 1) D 41 _ rfl (by rintro _ ⟨y, rfl⟩; exact hby.out.below y.below hby.out.lt) Tryz.underlying41 rfl hsD.out ?_); go_big_quiet_on; simp only [Act.put, List.setIfInBounds_toArray, List.set_cons_zero, List.set_cons_succ])
   | go_big_quiet_step ((first
     | (go_at_fn 42; (first | with_reducible exact Calls.ext_of (q1.out _) | with_reducible exact Calls.ext_of (q2.out _)))
     | (go_at_fn 43; (first | with_reducible exact Calls.ext_of (q3.out _) | with_reducible exact Calls.ext_of (q4.out _)))
     | (go_at_call 44; with_reducible exact Calls.ext_of (hcall.out _)))))
  refine wpQuiet_nil ?_; rintro _ ⟨y, rfl⟩; have hby9 := hb0.out.trans (y.below.mono hb0.out.size); go_wp2_with fail; go_ret; exact ⟨by simp, hby9⟩
 obtain rfl := Classical.not_not.1 h7
 clear h7
 by_cases h8 : ¬ (n8 = n8')
 ·have k8 : (n8 == n8') = false := by simp [h8]
  rw [k8]
  go_enter Tryz.func21, Tryz.ntmps21
  go_upto_region 3 with fail
  refine wrz (by kernel_rfl) (by kernel_rfl) ?_
  repeat (first
   | (go_big_quiet_want; (refine quiet_blk 41 (.tmp 2) rfl w.heap.size C 41 _ rfl (by rintro _ ⟨y, rfl⟩; exact hbx.out.below y.below hbx.out.lt) Tryz.underlying41 rfl hsC.out ?_); go_big_quiet_on; simp only [Act.put, List.setIfInBounds_toArray, List.set_cons_zero, List.set_cons_succ])
   | (go_big_quiet_want; (refine quiet_blk 41 (.tmp 3) rfl (w.heap.size + 1) D 41 _ rfl (by rintro _ ⟨y, rfl⟩; exact hby.out.below y.below hby.out.lt) Tryz.underlying41 rfl hsD.out ?_); go_big_quiet_on; simp only [Act.put, List.setIfInBounds_toArray, List.set_cons_zero, List.set_cons_succ])
   | go_big_quiet_step ((first
     | (go_at_fn 42; (first | with_reducible exact Calls.ext_of (q1.out _) | with_reducible exact Calls.ext_of (q2.out _)))
     | (go_at_fn 43; (first | with_reducible exact Calls.ext_of (q3.out _) | with_reducible exact Calls.ext_of (q4.out _)))
     | (go_at_call 44; with_reducible exact Calls.ext_of (hcall.out _)))))
  refine wpQuiet_nil ?_; rintro _ ⟨y, rfl⟩; have hby9 := hb0.out.trans (y.below.mono hb0.out.size); go_wp2_with fail; go_ret; exact ⟨by simp, hby9⟩
 obtain rfl := Classical.not_not.1 h8
 clear h8
 by_cases h15 : ¬ (b15 = b15')
 ·have k15 : (b15 == b15') = false := by simp [h15]
  rw [k15]
  go_enter Tryz.func21, Tryz.ntmps21
  go_upto_region 3 with fail
  refine wrz (by kernel_rfl) (by kernel_rfl) ?_
  repeat (first
   | (go_big_quiet_want; (refine quiet_blk 41 (.tmp 2) rfl w.heap.size C 41 _ rfl (by rintro _ ⟨y, rfl⟩; exact hbx.out.below y.below hbx.out.lt) Tryz.underlying41 rfl hsC.out ?_); go_big_quiet_on; simp only [Act.put, List.setIfInBounds_toArray, List.set_cons_zero, List.set_cons_succ])
   | (go_big_quiet_want; (refine quiet_blk 41 (.tmp 3) rfl (w.heap.size + 1) D 41 _ rfl (by rintro _ ⟨y, rfl⟩; exact hby.out.below y.below hby.out.lt) Tryz.underlying41 rfl hsD.out ?_); go_big_quiet_on; simp only [Act.put, List.setIfInBounds_toArray, List.set_cons_zero, List.set_cons_succ])
   | go_big_quiet_step ((first
     | (go_at_fn 42; (first | with_reducible exact Calls.ext_of (q1.out _) | with_reducible exact Calls.ext_of (q2.out _)))
     | (go_at_fn 43; (first | with_reducible exact Calls.ext_of (q3.out _) | with_reducible exact Calls.ext_of (q4.out _)))
     | (go_at_call 44; with_reducible exact Calls.ext_of (hcall.out _)))))
  refine wpQuiet_nil ?_; rintro _ ⟨y, rfl⟩; have hby9 := hb0.out.trans (y.below.mono hb0.out.size); go_wp2_with fail; go_ret; exact ⟨by simp, hby9⟩
 obtain rfl := Classical.not_not.1 h15
 clear h15
 by_cases h16 : ¬ (b16 = b16')
 ·have k16 : (b16 == b16') = false := by simp [h16]
  rw [k16]
  go_enter Tryz.func21, Tryz.ntmps21
  go_upto_region 3 with fail
  refine wrz (by kernel_rfl) (by kernel_rfl) ?_
  repeat (first
   | (go_big_quiet_want; (refine quiet_blk 41 (.tmp 2) rfl w.heap.size C 41 _ rfl (by rintro _ ⟨y, rfl⟩; exact hbx.out.below y.below hbx.out.lt) Tryz.underlying41 rfl hsC.out ?_); go_big_quiet_on; simp only [Act.put, List.setIfInBounds_toArray, List.set_cons_zero, List.set_cons_succ])
   | (go_big_quiet_want; (refine quiet_blk 41 (.tmp 3) rfl (w.heap.size + 1) D 41 _ rfl (by rintro _ ⟨y, rfl⟩; exact hby.out.below y.below hby.out.lt) Tryz.underlying41 rfl hsD.out ?_); go_big_quiet_on; simp only [Act.put, List.setIfInBounds_toArray, List.set_cons_zero, List.set_cons_succ])
   | go_big_quiet_step ((first
     | (go_at_fn 42; (first | with_reducible exact Calls.ext_of (q1.out _) | with_reducible exact Calls.ext_of (q2.out _)))
     | (go_at_fn 43; (first | with_reducible exact Calls.ext_of (q3.out _) | with_reducible exact Calls.ext_of (q4.out _)))
     | (go_at_call 44; with_reducible exact Calls.ext_of (hcall.out _)))))
  refine wpQuiet_nil ?_; rintro _ ⟨y, rfl⟩; have hby9 := hb0.out.trans (y.below.mono hb0.out.size); go_wp2_with fail; go_ret; exact ⟨by simp, hby9⟩
 obtain rfl := Classical.not_not.1 h16
 clear h16
 go_enter Tryz.func21, Tryz.ntmps21
 go_upto_region 3 with fail
 refine wrz (by kernel_rfl) (by kernel_rfl) ?_
 repeat (first
  | (go_big_quiet_want; (refine quiet_blk 41 (.tmp 2) rfl w.heap.size C 41 _ rfl (by rintro _ ⟨y, rfl⟩; exact hbx.out.below y.below hbx.out.lt) Tryz.underlying41 rfl hsC.out ?_); go_big_quiet_on; simp only [Act.put, List.setIfInBounds_toArray, List.set_cons_zero, List.set_cons_succ])
  | (go_big_quiet_want; (refine quiet_blk 41 (.tmp 3) rfl (w.heap.size + 1) D 41 _ rfl (by rintro _ ⟨y, rfl⟩; exact hby.out.below y.below hby.out.lt) Tryz.underlying41 rfl hsD.out ?_); go_big_quiet_on; simp only [Act.put, List.setIfInBounds_toArray, List.set_cons_zero, List.set_cons_succ])
  | go_big_quiet_step ((first
    | (go_at_fn 42; (first | with_reducible exact Calls.ext_of (q1.out _) | with_reducible exact Calls.ext_of (q2.out _)))
    | (go_at_fn 43; (first | with_reducible exact Calls.ext_of (q3.out _) | with_reducible exact Calls.ext_of (q4.out _)))
    | (go_at_call 44; with_reducible exact Calls.ext_of (hcall.out _)))))
 refine wpQuiet_nil ?_
 rintro _ ⟨y, rfl⟩
 have hby9 := hb0.out.trans (y.below.mono hb0.out.size)
 go_wp2_with fail
 go_ret
 exact ⟨by simp, hby9⟩
end Go.Proofs.YtjkmhlfjheiekaaGreatDoor

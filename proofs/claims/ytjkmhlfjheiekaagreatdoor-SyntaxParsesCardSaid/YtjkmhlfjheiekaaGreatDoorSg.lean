import Derived.Test.YtjkmhlfjheiekaaGreatDoorSb
namespace Go.Proofs.YtjkmhlfjheiekaaGreatDoor
open Go Go.RowKit Go.BigFrame Go.Maps
def placeI (e : Nat) (l : List Tok) (i : Nat) : Nat := match l[i]? with | some t => t.place | none => e
def isT (s : Txt) (t : Tok) : Bool := t.text == s && (t.kind == 0 || t.kind == 5)
def atI (p : Tok → Bool) (l : List Tok) (i : Nat) : Bool := match l[i]? with | some t => p t | none => false
def nameT (t : Tok) : Bool := decide (t.kind ≤ 2) && markB t.text
def cmpT (t : Tok) : Bool := isT sEq t || isT sTilde t || isT sLe t || isT sGe t
theorem atI_none {p : Tok → Bool} {l : List Tok} {i : Nat} (h : l.length ≤ i) : atI p l i = false := by unfold atI; rw [List.getElem?_eq_none h]
theorem atI_some {p : Tok → Bool} {l : List Tok} {i : Nat} {t : Tok} (h : l[i]? = some t) : atI p l i = p t := by unfold atI; rw [h]
theorem tx_list (t : Txt) : (⟨t.toArray⟩ : ByteArray).toList = t := by simp [ByteArray.toList_eq]
section
variable (A : Option Addr) (n c : Nat) (l : List Tok) (w : World)
set_option maxRecDepth 100000 in
set_option maxHeartbeats 1600000 in
theorem rplace_any (e i : Nat) (hn : Hid (l.length = n)) (hA : Hid (TokAt w 0 A l)) :
  Calls Tryz.prog 72 #[.slice A n c, .int .i64 i, .int .i64 e] w fun x w' => x = .returned (.int .i64 (placeI e l i : Nat)) ∧ w = w' := by
 by_cases hlt : i < n
 ·have b1 : decide ((i : Int) < (n : Int)) = true := by simp; omega
  have i1 : (i : Int) < (n : Int) := by omega
  have i2 : (0 : Int) ≤ (i : Int) := by omega
  obtain ⟨t, ht⟩ : ∃ t, l[i]? = some t := ⟨_, List.getElem?_eq_getElem (by have := hn.out; omega)⟩
  have hpl : Hid (placeI e l i = t.place) := by unfold Hid placeI; rw [ht]
  obtain ⟨g, off, rfl, hg, h0, h1, h2⟩ := hA.out i t ht
  clear ht
  go_enter Tryz.func72, Tryz.ntmps72
  go_wp2_with fail
  go_ret
  exact ⟨by rw [hpl.out]; rfl, rfl⟩
 ·have b1 : decide ((i : Int) < (n : Int)) = false := by simp; omega
  have hpl : Hid (placeI e l i = e) := by unfold Hid placeI; rw [List.getElem?_eq_none (by have := hn.out; omega)]
  go_enter Tryz.func72, Tryz.ntmps72
  go_wp2_with fail
  go_ret
  exact ⟨by rw [hpl.out]; rfl, rfl⟩
set_option maxRecDepth 100000 in
set_option maxHeartbeats 1600000 in
theorem ris_any (i : Nat) (s : Txt) (hn : Hid (l.length = n)) (hA : Hid (TokAt w 0 A l)) :
  Calls Tryz.prog 48 #[.slice A n c, .int .i64 i, .string ⟨s.toArray⟩] w fun x w' => x = .returned (.bool (atI (isT s) l i)) ∧ w = w' := by
 by_cases hlt : i < n
 ·have b1 : decide ((i : Int) < (n : Int)) = true := by simp; omega
  have i1 : (i : Int) < (n : Int) := by omega
  have i2 : (0 : Int) ≤ (i : Int) := by omega
  obtain ⟨t, ht⟩ : ∃ t, l[i]? = some t := ⟨_, List.getElem?_eq_getElem (by have := hn.out; omega)⟩
  have hpl := hd9 (atI_some (p := isT s) ht)
  obtain ⟨g, off, rfl, hg, h0, h1, h2⟩ := hA.out i t ht
  have e1 := tx_list t.text
  have e2 := tx_list s
  clear ht
  cases q1 : (t.text == s) <;> cases q2 : (t.kind == 0) <;> cases q3 : (t.kind == 5)
  all_goals
   have hv : Hid (isT s t = ((t.text == s) && ((t.kind == 0) || (t.kind == 5)))) := rfl
   rw [q1, q2, q3] at hv
   go_enter Tryz.func48, Tryz.ntmps48
   go_wp2_with fail
   go_ret
   exact ⟨by rw [hpl.out, hv.out]; rfl, rfl⟩
 ·have b1 : decide ((i : Int) < (n : Int)) = false := by simp; omega
  have hpl := hd9 (atI_none (p := isT s) (l := l) (i := i) (by have := hn.out; omega))
  go_enter Tryz.func48, Tryz.ntmps48
  go_wp2_with fail
  go_ret
  exact ⟨by rw [hpl.out]; rfl, rfl⟩
end
set_option maxHeartbeats 400000 in
theorem rletter_any (c : UInt8) (w : World) : Calls Tryz.prog 156 #[.int .u8 c.toNat] w fun e w' => e = .returned (.bool (letterB c)) ∧ w = w' := by
 unfold letterB
 cases h1 : decide (97 ≤ (c.toNat : Int)) <;> cases h2 : decide ((c.toNat : Int) ≤ 122)
 all_goals
  go_enter Tryz.func156, Tryz.ntmps156
  go_wp2_with fail
  go_ret
  exact ⟨retBl (by simp), rfl⟩
set_option maxHeartbeats 400000 in
theorem rdigit_any (c : UInt8) (w : World) : Calls Tryz.prog 157 #[.int .u8 c.toNat] w fun e w' => e = .returned (.bool (numB c)) ∧ w = w' := by
 unfold numB
 cases h1 : decide (48 ≤ (c.toNat : Int)) <;> cases h2 : decide ((c.toNat : Int) ≤ 57)
 all_goals
  go_enter Tryz.func157, Tryz.ntmps157
  go_wp2_with fail
  go_ret
  exact ⟨retBl (by simp), rfl⟩
set_option maxRecDepth 100000 in
set_option maxHeartbeats 1600000 in
theorem rname_any (s : ByteArray) (w : World) (hs : s.size ≤ maxLen) : Calls Tryz.prog 128 #[.string s] w fun e w' => e = .returned (.bool (markB s.data.toList)) ∧ w = w' := by
 unfold maxLen at hs
 have hln : Hid (s.data.toList.length = s.size) := by unfold Hid; simp
 go_enter Tryz.func128, Tryz.ntmps128
 go_wp2_with fail
 go_loopg [3] s.size (fun gg i wr => ∃ k : Nat, k ≤ s.size ∧ gg = s.size - k ∧ i = .int .i64 k ∧ w = wr ∧ Hid (s.data.toList.all smallB = (s.data.toList.drop k).all smallB))
 case atStart => exact ⟨0, Nat.zero_le _, by simp, rfl, rfl, rfl⟩
 case round =>
  obtain ⟨k, hk, hg, rfl, rfl, hall⟩ := hrel
  have hg' := hd9 hg
  clear hg
  by_cases hlt : k < s.size
  ·have hst := hd9 (mark_run hlt hall.out)
   rw [small_parts] at hst
   have i1 : (k : Int) < (s.size : Int) := by omega
   have i2 : (0 : Int) ≤ (k : Int) := by omega
   obtain ⟨lb, hlb⟩ : ∃ b, Hid (letterB s[k] = b) := ⟨_, hd9 rfl⟩
   obtain ⟨nb, hnb⟩ : ∃ b, Hid (numB s[k] = b) := ⟨_, hd9 rfl⟩
   obtain ⟨sb, hsb⟩ : ∃ b, Hid (((s[k].toNat : Int) != 45) = b) := ⟨_, hd9 rfl⟩
   rw [hlb.out, hnb.out, hsb.out] at hst
   have hq := hsb.out
   cases lb <;> cases nb <;> cases sb
   all_goals
    go_wp2_with (first | (go_at_call 156; refine (rletter_any _ _).mono ?_; rintro e w' ⟨rfl, rfl⟩; rw [hlb.out]) | (go_at_call 157; refine (rdigit_any _ _).mono ?_; rintro e w' ⟨rfl, rfl⟩; rw [hnb.out]))
    first
     | (go_roundg (s.size - (k + 1))
        case measure => have := hg'.out; omega
        case rel => exact ⟨k + 1, by omega, rfl, by go_num, rfl, by rw [hst.out]; first | rfl | simp⟩)
     | (go_ret
        exact ⟨by unfold markB; rw [hst.out]; simp, rfl⟩)
  ·have hr : Hid (s.data.toList.all smallB = true) := by unfold Hid; rw [hall.out, List.drop_eq_nil_of_le (by simp; omega)]; rfl
   by_cases h1 : 1 ≤ s.size
   ·have b1 : decide ((1 : Int) ≤ (s.size : Int)) = true := by simp; omega
    by_cases h2 : s.size ≤ 16
    ·have b2 : decide ((s.size : Int) ≤ 16) = true := by simp; omega
     go_wp2_with fail
     go_ret
     exact ⟨by unfold markB; rw [hr.out, hln.out, decide_eq_true h1, decide_eq_true h2]; rfl, rfl⟩
    ·have b2 : decide ((s.size : Int) ≤ 16) = false := by simp; omega
     go_wp2_with fail
     go_ret
     exact ⟨by unfold markB; rw [hr.out, hln.out, decide_eq_false h2]; simp, rfl⟩
   ·have b1 : decide ((1 : Int) ≤ (s.size : Int)) = false := by simp; omega
    go_wp2_with fail
    go_ret
    exact ⟨by unfold markB; rw [hr.out, hln.out, decide_eq_false h1]; simp, rfl⟩
section
variable (A : Option Addr) (n c : Nat) (l : List Tok) (w : World)
set_option maxRecDepth 100000 in
set_option maxHeartbeats 1600000 in
theorem rnm_any (i : Nat) (hn : Hid (l.length = n)) (hok : Hid (TokOk l)) (hA : Hid (TokAt w 0 A l)) :
  Calls Tryz.prog 96 #[.slice A n c, .int .i64 i] w fun x w' => x = .returned (.bool (atI nameT l i)) ∧ w = w' := by
 by_cases hlt : i < n
 ·have b1 : decide ((i : Int) < (n : Int)) = true := by simp; omega
  have i1 : (i : Int) < (n : Int) := by omega
  have i2 : (0 : Int) ≤ (i : Int) := by omega
  obtain ⟨t, ht⟩ : ∃ t, l[i]? = some t := ⟨_, List.getElem?_eq_getElem (by have := hn.out; omega)⟩
  have hpl := hd9 (atI_some (p := nameT) ht)
  obtain ⟨hlen, _⟩ := hok.out i t ht
  obtain ⟨g, off, rfl, hg, h0, h1, h2⟩ := hA.out i t ht
  have hcall := hd9 (rname_any ⟨t.text.toArray⟩ w (by rw [size_list]; unfold maxLen; omega))
  rw [show (⟨t.text.toArray⟩ : ByteArray).data.toList = t.text by simp] at hcall
  clear ht
  cases q1 : decide (t.kind ≤ 2)
  all_goals
   have hv : Hid (nameT t = (decide (t.kind ≤ 2) && markB t.text)) := rfl
   rw [q1] at hv
   go_enter Tryz.func96, Tryz.ntmps96
   go_wp2_with (go_at_call 128; refine hcall.out.mono ?_; rintro e w' ⟨rfl, rfl⟩)
   go_ret
   exact ⟨by rw [hpl.out, hv.out]; rfl, rfl⟩
 ·have b1 : decide ((i : Int) < (n : Int)) = false := by simp; omega
  have hpl := hd9 (atI_none (p := nameT) (l := l) (i := i) (by have := hn.out; omega))
  go_enter Tryz.func96, Tryz.ntmps96
  go_wp2_with fail
  go_ret
  exact ⟨by rw [hpl.out]; rfl, rfl⟩
set_option maxRecDepth 100000 in
set_option maxHeartbeats 1600000 in
theorem rcmp_any (i : Nat) (hn : Hid (l.length = n)) (hA : Hid (TokAt w 0 A l)) :
  Calls Tryz.prog 166 #[.slice A n c, .int .i64 i] w fun x w' => x = .returned (.bool (atI cmpT l i)) ∧ w = w' := by
 have hv : Hid (atI cmpT l i = (atI (isT [61]) l i || atI (isT [126]) l i || atI (isT [60, 61]) l i || atI (isT [62, 61]) l i)) := by
  unfold Hid atI
  cases l[i]? <;> rfl
 have hcall : Hid (∀ s : Txt, Calls Tryz.prog 48 #[.slice A n c, .int .i64 i, .string ⟨s.toArray⟩] w fun x w' => x = .returned (.bool (atI (isT s) l i)) ∧ w = w') := fun s => ris_any A n c l w i s hn hA
 obtain ⟨b1, hb1⟩ : ∃ b, Hid (atI (isT [61]) l i = b) := ⟨_, hd9 rfl⟩
 obtain ⟨b2, hb2⟩ : ∃ b, Hid (atI (isT [126]) l i = b) := ⟨_, hd9 rfl⟩
 obtain ⟨b3, hb3⟩ : ∃ b, Hid (atI (isT [60, 61]) l i = b) := ⟨_, hd9 rfl⟩
 obtain ⟨b4, hb4⟩ : ∃ b, Hid (atI (isT [62, 61]) l i = b) := ⟨_, hd9 rfl⟩
 rw [hv.out, hb1.out, hb2.out, hb3.out, hb4.out]
 clear hv
 go_enter Tryz.func166, Tryz.ntmps166
 go_wp2_with fail
 refine (hcall.out [61]).mono ?_
 rintro x w1 ⟨rfl, rfl⟩
 rw [hb1.out]
 cases b1 with
 | true =>
  go_wp2_with fail
  go_ret
  exact ⟨rfl, rfl⟩
 | false =>
  go_wp2_with fail
  refine (hcall.out [126]).mono ?_
  rintro x w2 ⟨rfl, rfl⟩
  rw [hb2.out]
  cases b2 with
  | true =>
   go_wp2_with fail
   go_ret
   exact ⟨rfl, rfl⟩
  | false =>
   go_wp2_with fail
   refine (hcall.out [60, 61]).mono ?_
   rintro x w3 ⟨rfl, rfl⟩
   rw [hb3.out]
   cases b3 with
   | true =>
    go_wp2_with fail
    go_ret
    exact ⟨rfl, rfl⟩
   | false =>
    go_wp2_with fail
    refine (hcall.out [62, 61]).mono ?_
    rintro x w4 ⟨rfl, rfl⟩
    rw [hb4.out]
    go_wp2_with fail
    go_ret
    exact ⟨rfl, rfl⟩
end
set_option maxRecDepth 100000 in
set_option maxHeartbeats 1600000 in
theorem rnumber_any (s : ByteArray) (w : World) (hs : s.size ≤ maxLen) (hd : Hid (s.data.toList.all digitB = true)) (hm : Hid (numV s.data.toList ≤ 1099511627776)) : Calls Tryz.prog 97 #[.string s] w fun e w' => e = .returned (.int .i64 (numV s.data.toList : Nat)) ∧ w = w' := by
 unfold maxLen at hs
 have hln : s.data.toList.length = s.size := by simp
 have hdig : Hid (∀ k (h : k < s.size), 48 ≤ s[k].toNat ∧ s[k].toNat ≤ 57) := fun k h => by
  have hk : k < s.data.toList.length := by rw [hln]; exact h
  exact digit_range (List.all_eq_true.1 hd.out _ (List.getElem_mem hk))
 clear hln
 go_enter Tryz.func97, Tryz.ntmps97
 go_wp2_with fail
 go_loopg [3, 4] s.size (fun gg n i wr => ∃ k : Nat, k ≤ s.size ∧ gg = s.size - k ∧ i = .int .i64 k ∧ n = .int .i64 (numV (s.data.toList.take k) : Nat) ∧ w = wr)
 case atStart => exact ⟨0, Nat.zero_le _, by simp, rfl, rfl, rfl⟩
 case round =>
  obtain ⟨k, hk, hgk, rfl, rfl, rfl⟩ := hrel
  have hgk' := hd9 hgk
  clear hgk
  by_cases hlt : k < s.size
  ·have hst : Hid (numV (s.data.toList.take (k + 1)) = 10 * numV (s.data.toList.take k) + (s[k].toNat - 48)) := by unfold Hid; rw [take_byte hlt, numV_snoc]
   have hmo : numV (s.data.toList.take (k + 1)) ≤ 1099511627776 := by
    have := numV_mono (s.data.toList.take (k + 1)) (s.data.toList.drop (k + 1))
    rw [List.take_append_drop] at this
    exact Nat.le_trans this hm.out
   obtain ⟨d0, d1⟩ := hdig.out k hlt
   obtain ⟨n, hn⟩ : ∃ n, Hid (numV (s.data.toList.take k) = n) := ⟨_, rfl⟩
   obtain ⟨n2, hn2⟩ : ∃ n, Hid (numV (s.data.toList.take (k + 1)) = n) := ⟨_, rfl⟩
   rw [hn.out] at hst ⊢
   rw [hn2.out] at hst hmo
   have hst' := hst.out
   have i1 : (k : Int) < (s.size : Int) := by omega
   have i2 : (0 : Int) ≤ (k : Int) := by omega
   have w1 : IntKind.u8.wrap ((s[k].toNat : Int) - 48) = (s[k].toNat : Int) - 48 := IntWalk.u8_in _ (by omega)
   have w2 : IntKind.i64.wrap (10 * (n : Int)) = 10 * (n : Int) := IntWalk.i64_in _ (by omega)
   have w3 : IntKind.i64.wrap (10 * (n : Int) + ((s[k].toNat : Int) - 48)) = (n2 : Int) := by rw [IntWalk.i64_in _ (by omega)]; omega
   have w4 : IntKind.i64.wrap ((s[k].toNat : Int) - 48) = (s[k].toNat : Int) - 48 := IntWalk.i64_in _ (by omega)
   go_wp2_with fail
   go_roundg (s.size - (k + 1))
   case measure => have := hgk'.out; omega
   case rel => exact ⟨k + 1, by omega, rfl, by go_num, by rw [hn2.out]; first | done | (congr 1; omega), rfl⟩
  ·have hfin : Hid (s.data.toList.take k = s.data.toList) := List.take_of_length_le (by simp; omega)
   rw [hfin.out]
   go_wp2_with fail
   go_ret
   exact ⟨rfl, rfl⟩
end Go.Proofs.YtjkmhlfjheiekaaGreatDoor
namespace Go.Proofs.YtjkmhlfjheiekaaGreatDoor
open Go Go.RowKit Go.BigFrame Go.Maps
set_option maxRecDepth 100000 in
set_option maxHeartbeats 1600000 in
theorem rword_any (k : Nat) (hk : k < 6) (w : World) : Calls Tryz.prog 60 #[.int .i64 k] w fun x w' => x = .returned (.string ⟨(papersL.getD k []).toArray⟩) ∧ w = w' := by
 obtain rfl | rfl | rfl | rfl | rfl | rfl : k = 0 ∨ k = 1 ∨ k = 2 ∨ k = 3 ∨ k = 4 ∨ k = 5 := by omega
 all_goals
  go_enter Tryz.func60, Tryz.ntmps60
  go_wp2_with fail
  go_ret
  exact ⟨rfl, rfl⟩
def paperJ (t : Tok) : Int := if t.kind = 0 then paperI t.text else -1
def papI (l : List Tok) (i : Nat) : Int := match l[i]? with | some t => paperJ t | none => -1
section
variable (A : Option Addr) (n c : Nat) (l : List Tok) (w : World)
set_option maxRecDepth 100000 in
set_option maxHeartbeats 3200000 in
theorem rpaper_any (i : Nat) (hn : Hid (l.length = n)) (hA : Hid (TokAt w 0 A l)) :
  Calls Tryz.prog 98 #[.slice A n c, .int .i64 i] w fun x w' => x = .returned (.int .i64 (papI l i)) ∧ Below w.heap.size w w' := by
 by_cases hlt : i < n
 ·have b1 : decide ((i : Int) < (n : Int)) = true := by simp; omega
  have i1 : (i : Int) < (n : Int) := by omega
  have i2 : (0 : Int) ≤ (i : Int) := by omega
  obtain ⟨t, ht⟩ : ∃ t, l[i]? = some t := ⟨_, List.getElem?_eq_getElem (by have := hn.out; omega)⟩
  have hpl : Hid (papI l i = paperJ t) := by unfold Hid papI; rw [ht]
  obtain ⟨g, off, rfl, hg, h0, h1, h2⟩ := hA.out i t ht
  have hgl : g < w.heap.size := World.block_lt_of_cell? w _ h0
  have h0' := hd9 h0
  have h2' := hd9 h2
  have e1 := tx_list t.text
  clear ht h0 h1 h2
  rw [hpl.out]
  by_cases hk0 : t.kind = 0
  ·have q1 : (t.kind == 0) = true := by simp [hk0]
   have hpj : Hid (paperJ t = paperI t.text) := by unfold Hid paperJ; rw [if_pos hk0]
   clear hk0
   go_enter Tryz.func98, Tryz.ntmps98
   go_wp2_with fail
   go_loopg [5] 6 (fun gg a wr => ∃ k : Nat, k ≤ 6 ∧ gg = 6 - k ∧ a = .int .i64 k ∧ Hid (Below w.heap.size w wr) ∧ Hid (paperI t.text = paperD (papersL.drop k) k t.text))
   case atStart => exact ⟨0, by omega, rfl, rfl, Below.refl _ _, paperI_D _⟩
   case round =>
    obtain ⟨k, hk, hg', rfl, hB, hs⟩ := hrel
    have hgh := hd9 hg'
    clear hg'
    by_cases hk6 : k < 6
    ·obtain ⟨x, hx⟩ : ∃ x, papersL[k]? = some x := ⟨_, List.getElem?_eq_getElem (show k < papersL.length from hk6)⟩
     have hgd : papersL.getD k [] = x := by rw [List.getD_eq_getElem?_getD, hx]; rfl
     have hcl : Hid (∀ y : Ext wr, Calls Tryz.prog 60 #[.int .i64 k] y.wd fun e w' => e = .returned (.string ⟨x.toArray⟩) ∧ y.wd = w') := fun y => by
      have := rword_any k hk6 y.wd
      rw [hgd] at this; exact this
     have f0 : ∀ y : Ext wr, y.wd.cell? ⟨g, off + i * 3, none⟩ = some (.int .i64 t.kind) := fun y => (y.cell ⟨g, off + i * 3, none⟩ (Nat.lt_of_lt_of_le hgl hB.out.size)).trans ((hB.out.cell (p := ⟨g, off + i * 3, none⟩) hgl).trans h0'.out)
     have f2 : ∀ y : Ext wr, y.wd.cell? ⟨g, off + i * 3 + 2, none⟩ = some (.string ⟨t.text.toArray⟩) := fun y => (y.cell ⟨g, off + i * 3 + 2, none⟩ (Nat.lt_of_lt_of_le hgl hB.out.size)).trans ((hB.out.cell (p := ⟨g, off + i * 3 + 2, none⟩) hgl).trans h2'.out)
     have e2 := tx_list x
     have b2 : decide ((k : Int) < 6) = true := by simp; omega
     by_cases heq : x = t.text
     ·have hr : Hid (paperI t.text = k) := by unfold Hid; rw [hs.out, paperD_yes hx heq]
      have q2 : (t.text == x) = true := by simp [heq]
      clear heq hx hgd
      go_wp2_with fail
      refine wp_region_ext (by kernel_rfl) (by kernel_rfl) ?_
      repeat (go_big_quiet_step ((go_at_call 60; exact Calls.ext_of_same (hcl.out _))))
      refine wpQuiet_nil ?_
      rintro _ ⟨y, rfl⟩
      have hby := hd9 y.below
      obtain ⟨wy, hwy⟩ : ∃ w6, y.wd = w6 := ⟨_, rfl⟩
      rw [hwy] at hby ⊢
      clear hwy y f0 f2 hcl
      have hBy : Hid (Below w.heap.size w wy) := hB.out.trans (hby.out.mono hB.out.size)
      go_wp2_with fail
      go_ret
      exact ⟨by rw [hpj.out, hr.out]; first | done | rfl, hBy.out⟩
     ·have hr : Hid (paperI t.text = paperD (papersL.drop (k + 1)) (k + 1) t.text) := by unfold Hid; rw [hs.out, paperD_no hx heq]
      have q2 : (t.text == x) = false := by simp; exact fun h => heq h.symm
      clear heq hx hgd
      go_wp2_with fail
      refine wp_region_ext (by kernel_rfl) (by kernel_rfl) ?_
      repeat (go_big_quiet_step ((go_at_call 60; exact Calls.ext_of_same (hcl.out _))))
      refine wpQuiet_nil ?_
      rintro _ ⟨y, rfl⟩
      have hby := hd9 y.below
      obtain ⟨wy, hwy⟩ : ∃ w6, y.wd = w6 := ⟨_, rfl⟩
      rw [hwy] at hby ⊢
      clear hwy y f0 f2 hcl
      have hBy : Hid (Below w.heap.size w wy) := hB.out.trans (hby.out.mono hB.out.size)
      go_wp2_with fail
      go_roundg (6 - (k + 1))
      case measure => have := hgh.out; omega
      case rel => exact ⟨k + 1, by omega, rfl, by go_num, hBy, hr⟩
    ·have hr : Hid (paperI t.text = -1) := by unfold Hid; rw [hs.out, show k = 6 by omega]; rfl
     have b2 : decide ((k : Int) < 6) = false := by simp; omega
     go_wp2_with fail
     go_ret
     exact ⟨by rw [hpj.out, hr.out]; first | done | rfl, hB.out⟩
  ·have q1 : (t.kind == 0) = false := by simp [hk0]
   have hpj : Hid (paperJ t = -1) := by unfold Hid paperJ; rw [if_neg hk0]
   clear hk0
   go_enter Tryz.func98, Tryz.ntmps98
   go_wp2_with fail
   go_loopg [5] 6 (fun gg a wr => ∃ k : Nat, k ≤ 6 ∧ gg = 6 - k ∧ a = .int .i64 k ∧ Hid (Below w.heap.size w wr))
   case atStart => exact ⟨0, by omega, rfl, rfl, Below.refl _ _⟩
   case round =>
    obtain ⟨k, hk, hg', rfl, hB⟩ := hrel
    have hgh := hd9 hg'
    clear hg'
    have f0 : wr.cell? ⟨g, off + i * 3, none⟩ = some (.int .i64 t.kind) := (hB.out.cell (p := ⟨g, off + i * 3, none⟩) hgl).trans h0'.out
    by_cases hk6 : k < 6
    ·have b2 : decide ((k : Int) < 6) = true := by simp; omega
     go_wp2_with fail
     go_quiet (fail)
     go_wp2_with fail
     go_roundg (6 - (k + 1))
     case measure => have := hgh.out; omega
     case rel => exact ⟨k + 1, by omega, rfl, by go_num, below_drewN hB.out _⟩
    ·have b2 : decide ((k : Int) < 6) = false := by simp; omega
     go_wp2_with fail
     go_ret
     exact ⟨by rw [hpj.out]; first | done | rfl, hB.out⟩
 ·have b1 : decide ((i : Int) < (n : Int)) = false := by simp; omega
  have hpl : Hid (papI l i = -1) := by unfold Hid papI; rw [List.getElem?_eq_none (by have := hn.out; omega)]
  go_enter Tryz.func98, Tryz.ntmps98
  go_wp2_with fail
  go_loopg [5] 6 (fun gg a wr => ∃ k : Nat, k ≤ 6 ∧ gg = 6 - k ∧ a = .int .i64 k ∧ Hid (Below w.heap.size w wr))
  case atStart => exact ⟨0, by omega, rfl, rfl, Below.refl _ _⟩
  case round =>
   obtain ⟨k, hk, hg', rfl, hB⟩ := hrel
   have hgh := hd9 hg'
   clear hg'
   by_cases hk6 : k < 6
   ·have b2 : decide ((k : Int) < 6) = true := by simp; omega
    go_wp2_with fail
    go_quiet (fail)
    go_wp2_with fail
    go_roundg (6 - (k + 1))
    case measure => have := hgh.out; omega
    case rel => exact ⟨k + 1, by omega, rfl, by go_num, below_drewN hB.out _⟩
   ·have b2 : decide ((k : Int) < 6) = false := by simp; omega
    go_wp2_with fail
    go_ret
    exact ⟨by rw [hpl.out]; first | done | rfl, hB.out⟩
def zeroG : Array Value := #[.int .i64 0, .int .i64 0, .string ⟨#[]⟩, .string ⟨#[]⟩, .int .i64 0, .slice none 0 0, .int .i64 0, .int .i64 0, .int .i64 0]
def gotE (cd : Int) (pl : Nat) : Array Value := #[.int .i64 0, .int .i64 0, .string ⟨#[]⟩, .string ⟨#[]⟩, .int .i64 0, .slice none 0 0, .int .i64 0, .int .i64 cd, .int .i64 pl]
def gotV (t : Tree) (k : Nat) : Array Value := match t with
 | .mk tk tp tf tx tn tA tc tL => #[.int .i64 tk, .int .i64 tp, .string ⟨tf.toArray⟩, .string ⟨tx.toArray⟩, .int .i64 tn, .slice tA tL.length tc, .int .i64 k, .int .i64 0, .int .i64 0]
set_option maxRecDepth 100000 in
set_option maxHeartbeats 1600000 in
theorem rwrong_any (e i : Nat) (hn : Hid (l.length = n)) (hA : Hid (TokAt w 0 A l)) :
  Calls Tryz.prog 36 #[.slice A n c, .int .i64 i, .int .i64 e] w fun x w' => x = .returned (.agg (gotE 2 (placeI e l i))) ∧ Below w.heap.size w w' := by
 have hbl : Hid (Below w.heap.size w (w.alloc (.cells zeroG 65))) := (Below.refl _ w).alloc le9 _
 have hcall := hd9 (rplace_any A n c l (w.alloc (.cells zeroG 65)) e i hn (hA.out.below hbl.out))
 have hR0 := hd9 (Blk.new w 65 zeroG)
 obtain ⟨pl, hpl⟩ : ∃ k, Hid (placeI e l i = k) := ⟨_, hd9 rfl⟩
 rw [hpl.out] at hcall ⊢
 go_enter Tryz.func36, Tryz.ntmps36
 go_wp2_with fail
 refine hcall.out.mono ?_
 rintro x w1 ⟨rfl, hw1⟩
 have hB : Hid (Below w.heap.size w w1) := by rw [← hw1]; exact hbl.out
 have hR : Hid (Blk w1 w.heap.size 65 zeroG) := by rw [← hw1]; exact hR0.out
 clear hw1 hcall
 obtain ⟨rc0, rc1, rc2, rc3, rc4, rc5, rc6, rc7, rc8, rf0, rf1, rf2, rf3, rf4, rf5, rf6, rf7, rf8⟩ := cf9 hR.out
 have rlt := hR.out.lt
 go_wp2_with fail
 refine bodyPost_ret (results_row rfl _ _ w.heap.size 65 _ _ rfl (((((((((hR.out.set_ 0 _).set_ 1 _).set_ 2 _).set_ 3 _).set_ 4 _).set_ 5 _).set_ 6 _).set_ 7 _).set_ 8 _) Tryz.underlying65 rfl (by kernel_rfl)) rfl ?_
 exact ⟨rfl, ((((((((hB.out.setCell le9 _).setCell le9 _).setCell le9 _).setCell le9 _).setCell le9 _).setCell le9 _).setCell le9 _).setCell le9 _).setCell le9 _⟩
end
end Go.Proofs.YtjkmhlfjheiekaaGreatDoor

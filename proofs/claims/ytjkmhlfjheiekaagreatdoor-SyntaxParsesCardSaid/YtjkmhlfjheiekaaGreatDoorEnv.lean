import Derived.Deep.MidRow
import Derived.Test.YtjkmhlfjheiekaaGreatDoorCards
import Derived.Test.YtjkmhlfjheiekaaGreatDoorTie
import Derived.ProofKit
import Derived.OpenShut
import Derived.ShutString
import Derived.ChangeOld
import Derived.Deep.Slices
import Derived.Deep.Fields
import Derived.ChangeSame
import Derived.Lib.SmallJoins
import Derived.Deep.DeepHandedRow
import Derived.Lib.LaidTab
import Derived.Stop.LaidErr
import Derived.LaidSub
import Derived.MakeChecks
import Derived.Test.YtjkmhlfjheiekaaGreatDoorE
import Derived.Test.YtjkmhlfjheiekaaGreatDoorShelf
namespace Go.Proofs.YtjkmhlfjheiekaaGreatDoor
open Go Go.RowKit Go.BigFrame Go.Maps
def runeP (r : Nat) : Bool := decide ((r : Int) < 48) || decide (57 < (r : Int))
theorem rune_pred (w : World) : PredAt Tryz.prog 142 #[] encR runeP w := fun W r _ => by
 unfold FnGives runeP encR
 cases h1 : decide ((r : Int) < 48) <;> cases h2 : decide (57 < (r : Int))
 all_goals
  go_enter Tryz.func142, Tryz.ntmps142
  go_wp2_with fail
  go_ret
  exact ⟨retBl (by simp), 0, rfl⟩
set_option maxRecDepth 100000 in
theorem small_ascii : ∀ c : UInt8, smallB c = true → c.toNat < 128 :=
 byte_all (P := fun c => smallB c = true → c.toNat < 128) (by decide)
set_option maxRecDepth 100000 in
theorem rune_digit : ∀ c : UInt8, smallB c = true → runeP c.toNat = !digitB c :=
 byte_all (P := fun c => smallB c = true → runeP c.toNat = !digitB c) (by decide)
theorem idx_run {s : ByteArray} : ∀ (f k : Nat), s.size - k ≤ f → (s.data.toList.drop k).all smallB = true → (Lib.idxFuncFrom runeP true s f k < 0 ↔ (s.data.toList.drop k).all digitB = true)
 | 0, k, h, hs => by
  have hl : s.data.toList.length = s.size := by simp
  have : s.data.toList.drop k = [] := List.drop_eq_nil_of_le (by omega)
  rw [this, Lib.idxFuncFrom]; simp
 | f + 1, k, h, hs => by
  by_cases hk : k < s.size
  ·rw [drop_byte hk, List.all_cons, Bool.and_eq_true] at hs
   have hd := decode_ascii s k hk (small_ascii _ hs.1)
   have hr := rune_digit _ hs.1
   rw [Lib.idxFuncFrom, if_pos hk, hd, drop_byte hk, List.all_cons]
   simp only
   rw [hr]
   cases hb : digitB s[k] with
   | true =>
    rw [if_neg (by simp), Bool.true_and]
    exact idx_run f (k + 1) (by omega) hs.2
   | false =>
    rw [if_pos (by simp)]
    simp
  ·rw [Lib.idxFuncFrom_end _ _ _ _ _ hk]
   have hl : s.data.toList.length = s.size := by simp
   have : s.data.toList.drop k = [] := List.drop_eq_nil_of_le (by omega)
   rw [this]; simp
theorem idx_all {s : ByteArray} (hs : s.data.toList.all smallB = true) : (Lib.idxFunc runeP true s < 0 ↔ s.data.toList.all digitB = true) := by
 have := idx_run (s := s) s.size 0 (by omega) (by simpa using hs)
 simpa [Lib.idxFunc] using this
def wordsA : Array Value := (wordsL.map fun t => Value.string ⟨t.toArray⟩).toArray
def papersA : Array Value := (papersL.map fun t => Value.string ⟨t.toArray⟩).toArray
theorem any_step {l : List Txt} {k : Nat} {x t : Txt} {r : Bool} (h : r = (l.drop k).contains t) (hx : l[k]? = some x) : r = (x == t || (l.drop (k + 1)).contains t) := by
 obtain ⟨hk, he⟩ := List.getElem?_eq_some_iff.1 hx
 rw [h, List.drop_eq_getElem_cons hk, he, List.contains_cons]
 congr 1
 rw [Bool.eq_iff_iff, beq_iff_eq, beq_iff_eq]; exact eq_comm
structure Env (w : World) : Prop where
 tab : Lib.TabIs Tryz.prog w "internal/strconv.uint64pow10" .u64 Lib.pow10Tab
 most : ∃ m, w.cell? ⟨3, 0, none⟩ = some (.int .i64 m)
 papers : ∀ n, n < 6 → w.cell? ⟨0, n, none⟩ = papersA[n]?
 words : ∀ n, n < 35 → w.cell? ⟨1, n, none⟩ = wordsA[n]?
 syn : ∃ t p, w.cell? ⟨6, 0, none⟩ = some (.iface t (.pointer p))
 rng : ∃ t p, w.cell? ⟨7, 0, none⟩ = some (.iface t (.pointer p))
 size : 8 ≤ w.heap.size
theorem Env.below {w w' : World} (h : Env w) (hb : Below w.heap.size w w') : Env w' := by
 have hs := h.size
 have hc : ∀ b n, b < 8 → w'.cell? ⟨b, n, none⟩ = w.cell? ⟨b, n, none⟩ := fun b n hn => hb.cell (by show b < w.heap.size; omega)
 refine ⟨var?_below hb (g := 2) (by kernel_rfl) (by omega) h.tab, ?_, fun n hn => ?_, fun n hn => ?_, ?_, ?_, Nat.le_trans hs hb.size⟩
 ·obtain ⟨m, hm⟩ := h.most
  exact ⟨m, by rw [hc _ _ (by omega)]; exact hm⟩
 ·rw [hc _ _ (by omega)]; exact h.papers n hn
 ·rw [hc _ _ (by omega)]; exact h.words n hn
 ·obtain ⟨t, p, hm⟩ := h.syn
  exact ⟨t, p, by rw [hc _ _ (by omega)]; exact hm⟩
 ·obtain ⟨t, p, hm⟩ := h.rng
  exact ⟨t, p, by rw [hc _ _ (by omega)]; exact hm⟩
theorem cell_lt {w : World} {p : Addr} {v : Value} (h : w.cell? p = some v) : p.block < w.heap.size := World.block_lt_of_cell? w p h
theorem words_len : wordsL.length = 35 := rfl
set_option maxRecDepth 100000 in
theorem index173 (k : Nat) (hk : k < 35) (w : World) : (Instr.index 173 (.agg wordsA) (.int .i64 k)).run Tryz.prog w = .ok (.string ⟨(wordsL.getD k []).toArray⟩) w := by
 obtain rfl | rfl | rfl | rfl | rfl | rfl | rfl | rfl | rfl | rfl | rfl | rfl | rfl | rfl | rfl | rfl | rfl | rfl | rfl | rfl | rfl | rfl | rfl | rfl | rfl | rfl | rfl | rfl | rfl | rfl | rfl | rfl | rfl | rfl | rfl : k = 0 ∨ k = 1 ∨ k = 2 ∨ k = 3 ∨ k = 4 ∨ k = 5 ∨ k = 6 ∨ k = 7 ∨ k = 8 ∨ k = 9 ∨ k = 10 ∨ k = 11 ∨ k = 12 ∨ k = 13 ∨ k = 14 ∨ k = 15 ∨ k = 16 ∨ k = 17 ∨ k = 18 ∨ k = 19 ∨ k = 20 ∨ k = 21 ∨ k = 22 ∨ k = 23 ∨ k = 24 ∨ k = 25 ∨ k = 26 ∨ k = 27 ∨ k = 28 ∨ k = 29 ∨ k = 30 ∨ k = 31 ∨ k = 32 ∨ k = 33 ∨ k = 34 := by omega
 all_goals kernel_rfl
set_option maxRecDepth 100000 in
set_option maxHeartbeats 1600000 in
theorem reserved_any (s : ByteArray) (w : World) (he : Hid (Env w)) :
  Calls Tryz.prog 144 #[.string s] w fun e w' => e = .returned (.bool (wordsL.contains s.data.toList)) ∧ w = w' := by
 have hW := fun n hn => he.out.words n hn
 have hsz : Hid (wordsA.size = 35) := rfl
 have hget : Hid (∀ (k : Nat) (x : Txt) (W : World), wordsL[k]? = some x → (Instr.index 173 (.agg wordsA) (.int .i64 k)).run Tryz.prog W = .ok (.string ⟨x.toArray⟩) W) := fun k x W h => by
  have hk : k < 35 := by have := (List.getElem?_eq_some_iff.1 h).1; rw [words_len] at this; exact this
  rw [index173 k hk, List.getD_eq_getElem?_getD, h]; rfl
 obtain ⟨WA, hWA⟩ : ∃ A, Hid (wordsA = A) := ⟨_, hd9 rfl⟩
 rw [hWA.out] at hW hsz hget
 have hrg : Hid (w.rangeAt 1 0 WA.toList) := fun j v hv => by
  have hj : j < 35 := by
   have := (List.getElem?_eq_some_iff.1 hv).1
   rw [Array.length_toList, hsz.out] at this; exact this
  rw [Nat.zero_add, hW j hj]
  simpa using hv
 have hin : Hid ((Tryz.prog.info? 173).map (·.size) = some WA.toList.length) := by unfold Hid; rw [Array.length_toList, hsz.out]; kernel_rfl
 clear hW hWA
 go_enter Tryz.func144, Tryz.ntmps144
 go_wp2_with (refine wpList_load_mid rfl 173 (.global 1) rfl 1 0 rfl WA.toList _ hrg.out Tryz.underlying173 rfl hin.out ?_)
 rw [Array.toArray_toList]
 go_loopg [4, 6] 35 (fun gg _ i wr => ∃ k : Nat, k ≤ 35 ∧ gg = 35 - k ∧ i = .int .i64 k ∧ w = wr ∧ Hid (wordsL.contains s.data.toList = (wordsL.drop k).contains s.data.toList))
 case atStart => exact ⟨0, by omega, rfl, rfl, rfl, rfl⟩
 case round =>
  obtain ⟨k, hk, hg, rfl, rfl, hs⟩ := hrel
  have hg' := hd9 hg
  clear hg
  by_cases hlt : k < 35
  ·obtain ⟨x, hx⟩ : ∃ x, wordsL[k]? = some x := ⟨_, List.getElem?_eq_getElem (by rw [words_len]; omega)⟩
   have hst := hd9 (any_step hs.out hx)
   have hgk := hget.out k x w hx
   clear hx
   have i1 : (k : Int) < 35 := by omega
   have i2 : (0 : Int) ≤ (k : Int) := by omega
   have hst0 : s.toList = s.data.toList := by simp [ByteArray.toList_eq]
   by_cases heq : x = s.data.toList
   ·have hq : (x == s.toList) = true := by rw [hst0]; simp [heq]
    have hr : Hid (wordsL.contains s.data.toList = true) := by unfold Hid; rw [hst.out]; simp [heq]
    clear heq hst0
    go_wp2_with fail
    go_ret
    exact ⟨by rw [hr.out]; first | done | rfl, rfl⟩
   ·have hq : (x == s.toList) = false := by rw [hst0]; simp [heq]
    have hr : Hid (wordsL.contains s.data.toList = (wordsL.drop (k + 1)).contains s.data.toList) := by unfold Hid; rw [hst.out]; simp [heq]
    clear heq hst0
    go_wp2_with fail
    go_roundg (35 - (k + 1))
    case measure => have := hg'.out; omega
    case rel => exact ⟨k + 1, by omega, rfl, by go_num, rfl, hr⟩
  ·have hr : Hid (wordsL.contains s.data.toList = false) := by unfold Hid; rw [hs.out, List.drop_eq_nil_of_le (by rw [words_len]; omega)]; rfl
   go_wp2_with fail
   go_ret
   exact ⟨by rw [hr.out]; first | done | rfl, rfl⟩
def letterB (c : UInt8) : Bool := decide (97 ≤ (c.toNat : Int)) && decide ((c.toNat : Int) ≤ 122)
def numB (c : UInt8) : Bool := decide (48 ≤ (c.toNat : Int)) && decide ((c.toNat : Int) ≤ 57)
theorem isLetter_any (c : UInt8) (w : World) : Calls Tryz.prog 149 #[.int .u8 c.toNat] w fun e w' => e = .returned (.bool (letterB c)) ∧ w = w' := by
 unfold letterB
 cases h1 : decide (97 ≤ (c.toNat : Int)) <;> cases h2 : decide ((c.toNat : Int) ≤ 122)
 all_goals
  go_enter Tryz.func149, Tryz.ntmps149
  go_wp2_with fail
  go_ret
  exact ⟨retBl (by simp), rfl⟩
theorem isNum_any (c : UInt8) (w : World) : Calls Tryz.prog 150 #[.int .u8 c.toNat] w fun e w' => e = .returned (.bool (numB c)) ∧ w = w' := by
 unfold numB
 cases h1 : decide (48 ≤ (c.toNat : Int)) <;> cases h2 : decide ((c.toNat : Int) ≤ 57)
 all_goals
  go_enter Tryz.func150, Tryz.ntmps150
  go_wp2_with fail
  go_ret
  exact ⟨retBl (by simp), rfl⟩
theorem small_parts (c : UInt8) : smallB c = (letterB c || numB c || !((c.toNat : Int) != 45)) := by
 rw [small_eq, digit_eq]
 unfold letterB numB
 rw [show (!((c.toNat : Int) != 45)) = ((c.toNat : Int) == 45) by simp [bne]]
def markB (s : Txt) : Bool := decide (1 ≤ s.length) && decide (s.length ≤ 16) && s.all smallB
theorem mark_run {s : ByteArray} {k : Nat} {r : Bool} (hk : k < s.size) (h : r = (s.data.toList.drop k).all smallB) : r = (smallB s[k] && (s.data.toList.drop (k + 1)).all smallB) := by
 rw [h, drop_byte hk, List.all_cons]
set_option maxRecDepth 100000 in
set_option maxHeartbeats 1600000 in
theorem markName_any (s : ByteArray) (w : World) (hs : s.size ≤ maxLen) : Calls Tryz.prog 124 #[.string s] w fun e w' => e = .returned (.bool (markB s.data.toList)) ∧ w = w' := by
 unfold maxLen at hs
 have hln : s.data.toList.length = s.size := by simp
 by_cases h1 : s.size < 1
 ·have hr : Hid (markB s.data.toList = false) := by unfold Hid markB; rw [hln]; simp; omega
  have b1 : decide ((s.size : Int) < 1) = true := by simp; omega
  clear h1
  go_enter Tryz.func124, Tryz.ntmps124
  go_wp2_with fail
  go_ret
  exact ⟨by rw [hr.out]; first | done | rfl, rfl⟩
 ·have b1 : decide ((s.size : Int) < 1) = false := by simp; omega
  by_cases h2 : 16 < s.size
  ·have hr : Hid (markB s.data.toList = false) := by unfold Hid markB; rw [hln]; simp; omega
   have b2 : decide (16 < (s.size : Int)) = true := by simp; omega
   clear h1 h2
   go_enter Tryz.func124, Tryz.ntmps124
   go_wp2_with fail
   go_ret
   exact ⟨by rw [hr.out]; first | done | rfl, rfl⟩
  ·have b2 : decide (16 < (s.size : Int)) = false := by simp; omega
   have hm : Hid (markB s.data.toList = s.data.toList.all smallB) := by unfold Hid markB; rw [hln]; simp; omega
   rw [hm.out]
   clear h1 hm hln
   go_enter Tryz.func124, Tryz.ntmps124
   go_wp2_with fail
   go_loopg [3, 14] s.size (fun gg _ i wr => ∃ k : Nat, k ≤ s.size ∧ gg = s.size - k ∧ i = .int .i64 k ∧ w = wr ∧ Hid (s.data.toList.all smallB = (s.data.toList.drop k).all smallB))
   case atStart => exact ⟨0, Nat.zero_le _, by simp, rfl, rfl, rfl⟩
   case round =>
    obtain ⟨k, hk, hg, rfl, rfl, hall⟩ := hrel
    have hg' := hd9 hg
    clear hg
    by_cases hlt : k < s.size
    ·have hst := hd9 (mark_run hlt hall.out)
     rw [small_parts] at hst
     have i1 : (k : Int) < (s.size : Int) := by omega
     have i2 : (0 : Int) ≤ (k : Int) := by omega
     obtain ⟨lb, hlb⟩ : ∃ b, Hid (letterB s[k] = b) := ⟨_, hd9 rfl⟩
     obtain ⟨nb, hnb⟩ : ∃ b, Hid (numB s[k] = b) := ⟨_, hd9 rfl⟩
     obtain ⟨sb, hsb⟩ : ∃ b, Hid (((s[k].toNat : Int) != 45) = b) := ⟨_, hd9 rfl⟩
     rw [hlb.out, hnb.out, hsb.out] at hst
     have hq := hsb.out
     cases lb <;> cases nb <;> cases sb
     all_goals
      go_wp2_with (first | (go_at_call 149; refine (isLetter_any _ _).mono ?_; rintro e w' ⟨rfl, rfl⟩; rw [hlb.out]) | (go_at_call 150; refine (isNum_any _ _).mono ?_; rintro e w' ⟨rfl, rfl⟩; rw [hnb.out]))
      first
       | (go_roundg (s.size - (k + 1))
          case measure => have := hg'.out; omega
          case rel => exact ⟨k + 1, by omega, rfl, by go_num, rfl, by rw [hst.out]; first | rfl | simp⟩)
       | (go_ret
          exact ⟨by rw [hst.out]; rfl, rfl⟩)
    ·have hr : Hid (s.data.toList.all smallB = true) := by unfold Hid; rw [hall.out, List.drop_eq_nil_of_le (by simp; omega)]; rfl
     go_wp2_with fail
     go_ret
     exact ⟨by rw [hr.out]; first | done | rfl, rfl⟩
end Go.Proofs.YtjkmhlfjheiekaaGreatDoor
namespace Go.Proofs.YtjkmhlfjheiekaaGreatDoor
open Go Go.ChangeShapes Go.WideShapes Go.ChangeAt Go.RowKit Go.Deep
theorem laidOut : laidOutB Tryz.prog = true := by kernel_rfl
theorem own : ownKnob Tryz.prog.godebug = none := by kernel_rfl
theorem strtab {P : Program} {W : World} {name : String} {rest : List (String × DataW Unit)} {g : Nat} {t e : TypeId} {n : Nat} (ss : List (List UInt8))
  (hg : P.globalNamed name = some g) (hty : (P.globals[g]?).map (·.type) = some t) (ht : P.underlying t = some (.array n e)) (he : P.underlying e = some .string) (hce : P.cellsOf e = 1) (hss : ss.length = n)
  (h : laidMet P ((name, .agg (ss.map fun s => .lit (.string s))) :: rest) W) : ∀ r, r < n → W.cell? ⟨g, r, none⟩ = some (.string ((⟨(ss.getD r []).toArray⟩ : ByteArray))) := by
 intro r hr
 obtain ⟨ps, ⟨g', t', cs, fuel, p, q, hg', ht', hv, hd, _, _⟩, _, _⟩ := h
 obtain rfl := Option.some.inj (hg.symm.trans hg')
 obtain rfl := Option.some.inj (hty.symm.trans ht')
 obtain ⟨xs, m, _, ex, _, hl, hel⟩ := DataW.trod_array ht hd
 have hE := hel r hr
 rw [hce, Nat.mul_one, List.getElem?_eq_getElem (by omega)] at hE
 obtain ⟨z, e1, e2, _⟩ := DataW.trod_string he hE
 have e3 : (xs.map (·.1)) = ss.map fun s => .lit (.string s) := (DataW.agg.inj (Prod.mk.inj ex).1).symm
 have e4 : (xs.map (·.1))[r]? = (ss.map fun s => (DataW.lit (.string s) : DataW Unit))[r]? := by rw [e3]
 rw [List.getElem?_map, List.getElem?_map, List.getElem?_eq_getElem (by omega : r < xs.length), List.getElem?_eq_getElem (by omega : r < ss.length), e2] at e4
 have hz : z = (⟨(ss.getD r []).toArray⟩ : ByteArray) := by
  simp only [Option.map_some, Option.some.injEq, DataW.lit.injEq, Lit.string.injEq] at e4
  rw [List.getD, List.getElem?_eq_getElem (by omega : r < ss.length)]
  apply ByteArray.ext
  simp only [Option.getD_some]
  rw [← e4]
 rw [World.var?_cell hg hv r, ← hz]
 have : cs.toList[r]? = some (.string z) := by
  have h0 : ((cs.toList.drop r).take 1)[0]? = some (.string z) := by rw [e1]; rfl
  simpa using h0
 simpa using this
theorem star : "*" ++ "errors.errorString" = "*errors.errorString" := by decide
theorem row196 (u : TypeId) (h : Tryz.prog.typeName? 3 u = some "*errors.errorString") : u = 196 :=
 typeName_ptr_named (nm := "errors.errorString") (by rw [star]; kernel_rfl) (by kernel_rfl) (by decide) u (by rw [star]; exact h)
theorem cells198 : Tryz.prog.cellsOf 198 = 1 := by kernel_rfl
theorem cells9 : Tryz.prog.cellsOf 9 = 1 := by kernel_rfl
def wordsN : List (List UInt8) := [[97, 98, 111, 118, 101], [97, 108, 108], [97, 110, 100], [97, 110, 121], [97, 112, 112, 108, 105, 99, 97, 110, 116], [98, 101, 108, 111, 119], [98, 101, 110, 101, 102, 105, 99, 105, 97, 114, 121], [99, 104, 97, 110, 103, 101], [99, 111, 110, 102, 105, 114, 109, 101, 114], [99, 111, 112, 105, 101, 115], [99, 114, 101, 100, 105, 116], [100, 97, 121, 115], [100, 114, 97, 102, 116], [101, 120, 112, 105, 114, 121], [102, 114, 111, 109], [105, 110, 115, 117, 114, 97, 110, 99, 101], [105, 110, 118, 111, 105, 99, 101], [105, 115, 115, 117, 101, 114], [108, 97, 100, 105, 110, 103], [108, 97, 116, 101, 115, 116], [110, 111], [110, 111, 116], [111, 102], [111, 114], [111, 114, 105, 103, 105, 110], [112, 97, 99, 107, 105, 110, 103], [112, 97, 114, 116, 105, 97, 108], [115, 105, 103, 104, 116], [115, 117, 109], [116, 101, 110, 111, 114], [116, 111], [119, 97, 110, 116, 115], [119, 105, 116, 104], [119, 105, 116, 104, 105, 110], [121, 101, 115]]
def papersN : List (List UInt8) := [[105, 110, 118, 111, 105, 99, 101], [112, 97, 99, 107, 105, 110, 103], [108, 97, 100, 105, 110, 103], [105, 110, 115, 117, 114, 97, 110, 99, 101], [111, 114, 105, 103, 105, 110], [100, 114, 97, 102, 116]]
theorem gTab : Tryz.prog.globalNamed "internal/strconv.uint64pow10" = some 2 := by kernel_rfl
theorem gTabType : (Tryz.prog.globals[2]?).map (·.type) = some 177 := by kernel_rfl
theorem cells177 : Tryz.prog.cellsOf 177 = 20 := by kernel_rfl
theorem cells164 : Tryz.prog.cellsOf 164 = 1 := by kernel_rfl
theorem arr_get (l : List (List UInt8)) (n : Nat) (h : n < l.length) : (l.map fun t => Value.string ⟨t.toArray⟩).toArray[n]? = some (.string ⟨(l.getD n []).toArray⟩) := by
 rw [List.getElem?_toArray, List.getElem?_map, List.getD, List.getElem?_eq_getElem h]; rfl
set_option maxRecDepth 100000 in
theorem env_of {W : World} (h : laidMetH Tryz.prog Rows.syntaxRulesRow.laid W) (hs : W.ShapedOpen Tryz.prog) : Env W := by
 refine ⟨?_, ?_, ?_, ?_, ?_, ?_, ?_⟩
 ·have h1 := laidMetH.filter (fun x => x.1 == "internal/strconv.uint64pow10") h
  have h2 : laidMetH Tryz.prog [("internal/strconv.uint64pow10", Lib.tabData .u64 Lib.pow10Tab)] W := h1
  exact Lib.tabIs_of_head (rest := []) gTab gTabType Tryz.underlying177 Tryz.underlying164 cells164 cells177 h2
 ·exact Go.Proofs.cell_of_shapedOpen_int (zero := #[.int .i64 0]) (t := 3) hs (of_decide_eq_true (by kernel_rfl)) (by kernel_rfl) rfl (by kernel_rfl) (by kernel_rfl) Tryz.underlying3
 ·have h1 := laidMetH.filter (fun x => x.1 == "supercargo/syntax.papers") h
  have h2 : laidMetH Tryz.prog [("supercargo/syntax.papers", Rows.laid_supercargo_syntax_papers)] W := h1
  rw [MakeChecks.laidMetH_plain _ _ _ (by kernel_rfl)] at h2
  intro n hn
  rw [show papersA = (papersN.map fun t => Value.string ⟨t.toArray⟩).toArray from rfl, arr_get papersN n hn]
  exact strtab (t := 125) (e := 9) (n := 6) papersN (by kernel_rfl) (by kernel_rfl) Tryz.underlying125 Tryz.underlying9 (by kernel_rfl) rfl h2 n hn
 ·have h1 := laidMetH.filter (fun x => x.1 == "supercargo/token.words") h
  have h2 : laidMetH Tryz.prog [("supercargo/token.words", Rows.laid_supercargo_token_words)] W := h1
  rw [MakeChecks.laidMetH_plain _ _ _ (by kernel_rfl)] at h2
  intro n hn
  rw [show wordsA = (wordsN.map fun t => Value.string ⟨t.toArray⟩).toArray from rfl, arr_get wordsN n hn]
  exact strtab (t := 173) (e := 9) (n := 35) wordsN (by kernel_rfl) (by kernel_rfl) Tryz.underlying173 Tryz.underlying9 (by kernel_rfl) rfl h2 n hn
 ·have h1 := laidMetH.filter (fun x => x.1 == "strconv.ErrSyntax") h
  have h2 : laidMetH Tryz.prog [("strconv.ErrSyntax", Rows.laid_strconv_ErrSyntax)] W := h1
  rw [MakeChecks.laidMetH_plain _ _ _ (by kernel_rfl)] at h2
  have hg : Tryz.prog.globalNamed "strconv.ErrSyntax" = some 6 := by kernel_rfl
  obtain ⟨a, _, hv, _⟩ := laid_sentinel h2 hg (ti := 120) (by kernel_rfl) Tryz.underlying120 row196 Tryz.underlying196 Tryz.underlying198 rfl rfl Tryz.underlying9 cells198 cells9
  exact ⟨196, some a, by simpa using World.var?_cell hg hv 0⟩
 ·have h1 := laidMetH.filter (fun x => x.1 == "strconv.ErrRange") h
  have h2 : laidMetH Tryz.prog [("strconv.ErrRange", Rows.laid_strconv_ErrRange)] W := h1
  rw [MakeChecks.laidMetH_plain _ _ _ (by kernel_rfl)] at h2
  have hg : Tryz.prog.globalNamed "strconv.ErrRange" = some 7 := by kernel_rfl
  obtain ⟨a, _, hv, _⟩ := laid_sentinel h2 hg (ti := 120) (by kernel_rfl) Tryz.underlying120 row196 Tryz.underlying196 Tryz.underlying198 rfl rfl Tryz.underlying9 cells198 cells9
  exact ⟨196, some a, by simpa using World.var?_cell hg hv 0⟩
 ·have h0 : (((begin Tryz.prog (fun _ _ => 0) default).world.heap[7]?).bind Obj.row?).isSome = true := by kernel_rfl
  obtain ⟨⟨zero, t⟩, hz⟩ := Option.isSome_iff_exists.1 h0
  obtain ⟨cs, hh, _⟩ := hs.1 7 zero t (of_decide_eq_true (by kernel_rfl)) hz
  rcases Nat.lt_or_ge 7 W.heap.size with h | h
  ·omega
  ·rw [Array.getElem?_eq_none h] at hh; simp at hh
end Go.Proofs.YtjkmhlfjheiekaaGreatDoor

/- A credit's text, or what is wrong with it: the walks of the program's Print and May. -/
import Derived.Test.YtjkmhlfjheiekaaGreatDoorTa
import Derived.Test.YtjkmhlfjheiekaaGreatDoorTb
import Derived.Test.YtjkmhlfjheiekaaGreatDoorTf
import Derived.Test.YtjkmhlfjheiekaaGreatDoorWd
import Derived.Test.YtjkmhlfjheiekaaGreatDoorYd
import Derived.Test.YtjkmhlfjheiekaaGreatDoorYf
import Derived.Test.YtjkmhlfjheiekaaGreatDoorYg
namespace Go.Proofs.YtjkmhlfjheiekaaGreatDoor
open Go Go.RowKit Go.BigFrame Go.Maps

end Go.Proofs.YtjkmhlfjheiekaaGreatDoor
namespace Go.Proofs.YtjkmhlfjheiekaaGreatDoor
open Go Go.RowKit Go.BigFrame Go.Maps

end Go.Proofs.YtjkmhlfjheiekaaGreatDoor
namespace Go.Proofs.YtjkmhlfjheiekaaGreatDoor
open Go Go.RowKit Go.BigFrame Go.Maps


end Go.Proofs.YtjkmhlfjheiekaaGreatDoor
namespace Go.Proofs.YtjkmhlfjheiekaaGreatDoor
open Go Go.RowKit Go.BigFrame Go.Maps

def ex1 : Txt := [110, 111, 116, 32, 40, 97, 32, 61, 32, 34, 120, 34, 32, 111, 114, 32, 98, 32, 60, 61, 32, 53, 41, 32, 97, 110, 100, 32, 99, 32, 126, 32, 34, 121, 34]
def ex2 : Txt := [115, 117, 109, 32, 61, 32, 105, 110, 118, 111, 105, 99, 101, 46, 115, 117, 109]
def exR1 : Rul := .mk 0 0 [] [] 0 [.mk 2 0 [] [] 0 [.mk 1 0 [] [] 0 [.mk 3 0 [97] [120] 0 [], .mk 5 0 [98] [] 5 []]], .mk 4 0 [99] [121] 0 []]
def exR2 : Rul := .mk 7 0 [115, 117, 109] [115, 117, 109] 0 []
theorem ex1_rule : ruleT ex1 = .ok exR1 := by kernel_rfl
theorem ex2_rule : ruleT ex2 = .ok exR2 := by kernel_rfl
theorem ex1_shown : shownR exR1 = ex1 := by kernel_rfl
theorem ex1_size : szR exR1 ≤ mostZ := of_decide_eq_true (by kernel_rfl)
theorem strips_two {L : List Tree} {a b : Rul} (h : strips L = [a, b]) : ∃ t u, L = [t, u] ∧ strip t = a ∧ strip u = b := by
  match L, h with
  | [t, u], h =>
    rw [strips, strips, strips] at h
    simp only [List.cons.injEq, and_true] at h
    exact ⟨t, u, rfl, h.1, h.2⟩
  | [], h => rw [strips] at h; cases h
  | [t], h => rw [strips, strips] at h; simp at h
  | t :: u :: v :: L, h => rw [strips, strips, strips] at h; simp at h

set_option maxRecDepth 100000 in
set_option maxHeartbeats 3200000 in
theorem awake_any (w : World) (he : Hid (Env w)) : Calls Tryz.prog 12 #[] w fun e w' => e = .returned (.bool true) ∧ Below w.heap.size w w' := by
  have hc1 : Hid (Calls Tryz.prog 13 #[.string ⟨#[110, 111, 116, 32, 40, 97, 32, 61, 32, 34, 120, 34, 32, 111, 114, 32, 98, 32, 60, 61, 32, 53, 41, 32, 97, 110, 100, 32, 99, 32, 126, 32, 34, 121, 34]⟩] w (RuleOut w ex1)) := rule_full_any ⟨#[110, 111, 116, 32, 40, 97, 32, 61, 32, 34, 120, 34, 32, 111, 114, 32, 98, 32, 60, 61, 32, 53, 41, 32, 97, 110, 100, 32, 99, 32, 126, 32, 34, 121, 34]⟩ w (by unfold maxLen; decide) he
  have hc2 : Hid (∀ W, Below w.heap.size w W → Calls Tryz.prog 13 #[.string ⟨#[115, 117, 109, 32, 61, 32, 105, 110, 118, 111, 105, 99, 101, 46, 115, 117, 109]⟩] W (RuleOut W ex2)) := fun W hW => rule_full_any ⟨#[115, 117, 109, 32, 61, 32, 105, 110, 118, 111, 105, 99, 101, 46, 115, 117, 109]⟩ W (by unfold maxLen; decide) (he.out.below hW)
  have ht1 : (⟨#[110, 111, 116, 32, 40, 97, 32, 61, 32, 34, 120, 34, 32, 111, 114, 32, 98, 32, 60, 61, 32, 53, 41, 32, 97, 110, 100, 32, 99, 32, 126, 32, 34, 121, 34]⟩ : ByteArray).toList = [110, 111, 116, 32, 40, 97, 32, 61, 32, 34, 120, 34, 32, 111, 114, 32, 98, 32, 60, 61, 32, 53, 41, 32, 97, 110, 100, 32, 99, 32, 126, 32, 34, 121, 34] := by simp [ByteArray.toList_eq]
  go_enter Tryz.func12, Tryz.ntmps12
  go_wp2_with fail
  refine hc1.out.mono ?_
  rintro e w1 ⟨hB1, hcase⟩
  rw [ex1_rule] at hcase
  obtain ⟨t, rfl, hT, hst⟩ := hcase
  have hB1' := Lib.hid hB1
  have hshow : Hid (∀ W, Below w1.heap.size w1 W → Calls Tryz.prog 17 #[.agg t.cells] W fun e w' => e = .returned (.string ⟨#[110, 111, 116, 32, 40, 97, 32, 61, 32, 34, 120, 34, 32, 111, 114, 32, 98, 32, 60, 61, 32, 53, 41, 32, 97, 110, 100, 32, 99, 32, 126, 32, 34, 121, 34]⟩) ∧ Below W.heap.size W w') := fun W hW => by
    have := showR_any t W _ (he.out.below (hB1.trans (hW.mono hB1.size))) (Lib.hid (hT.below hW)) (by unfold Hid; rw [hst]; exact ex1_size)
    rw [hst, ex1_shown] at this
    exact this
  obtain ⟨k, p, f, x, n, A, c, L⟩ := t
  rw [strip, exR1] at hst
  simp only [Rul.mk.injEq] at hst
  obtain ⟨rfl, rfl, rfl, rfl, rfl, hL⟩ := hst
  obtain ⟨t1, t2, rfl, hs1, hs2⟩ := strips_two hL
  rw [TreeAt, RowsAt, RowsAt, RowsAt] at hT
  obtain ⟨⟨hc1', _, hc2', _, _⟩, _⟩ := hT
  obtain ⟨k1, p1, f1, x1, n1, A1, cc1, LL1⟩ := t1
  obtain ⟨k2, p2, f2, x2, n2, A2, cc2, LL2⟩ := t2
  rw [strip] at hs1 hs2
  simp only [Rul.mk.injEq] at hs1 hs2
  obtain ⟨rfl, _⟩ := hs1
  obtain ⟨rfl, _⟩ := hs2
  obtain ⟨bb, off, rfl, _, g0, _⟩ := hc1'
  obtain ⟨bb', off', ho, _, g1, _⟩ := hc2'
  simp only [Option.some.injEq, Addr.mk.injEq, and_true] at ho
  obtain ⟨rfl, rfl⟩ := ho
  rw [Nat.zero_mul, Nat.add_zero] at g0
  rw [Nat.zero_add, Nat.one_mul] at g1
  have glt : bb < w1.heap.size := World.block_lt_of_cell? w1 _ g0
  have hbl : Below w1.heap.size w1 (w1.alloc (.cells #[.int .i64 0, .int .i64 0, .string ⟨#[]⟩, .string ⟨#[]⟩, .int .i64 0, .slice (some ⟨bb, off, none⟩) 2 c] 25)) := (Below.refl _ w1).alloc (Nat.le_refl _) _
  have hsw := Lib.hid (hshow.out _ hbl)
  have hB2 := Lib.hid (hB1.trans (hbl.mono hB1.size))
  unfold Tree.cells at hsw
  simp only [List.length_cons, List.length_nil, Nat.zero_add, Nat.reduceAdd] at hsw
  clear hbl hc1 hB1 hshow hL
  unfold Tree.cells
  simp only [List.length_cons, List.length_nil, Nat.zero_add, Nat.reduceAdd]
  go_wp2_with fail
  refine hsw.out.mono ?_
  rintro e w2 ⟨rfl, hb2⟩
  have hB3 := Lib.hid (hB2.out.trans (hb2.mono hB2.out.size))
  have hc3 := Lib.hid (hc2.out w2 hB3.out)
  clear hb2 hsw hc2 g0 g1 glt
  go_wp2_with fail
  refine hc3.out.mono ?_
  rintro e w3 ⟨hB4, hcase⟩
  rw [ex2_rule] at hcase
  obtain ⟨t, rfl, _, hst⟩ := hcase
  have hB5 := Lib.hid (hB3.out.trans (hB4.mono hB3.out.size))
  obtain ⟨k, p, f, x, n, A, c9, L⟩ := t
  rw [strip, exR2] at hst
  simp only [Rul.mk.injEq] at hst
  obtain ⟨rfl, rfl, rfl, rfl, rfl, hL⟩ := hst
  have ht2 : (⟨[115, 117, 109].toArray⟩ : ByteArray).toList = [115, 117, 109] := by simp [ByteArray.toList_eq]
  clear hB4 hc3 hL
  unfold Tree.cells
  go_wp2_with fail
  go_ret
  exact ⟨rfl, hB5.out.alloc hB5.out.size _⟩
end Go.Proofs.YtjkmhlfjheiekaaGreatDoor
namespace Go.Proofs.YtjkmhlfjheiekaaGreatDoor
open Go Go.RowKit Go.BigFrame Go.Maps

end Go.Proofs.YtjkmhlfjheiekaaGreatDoor

namespace Go.Proofs.YtjkmhlfjheiekaaGreatDoor
open Go Go.RowKit Go.BigFrame Go.Maps

end Go.Proofs.YtjkmhlfjheiekaaGreatDoor
namespace Go.Proofs.YtjkmhlfjheiekaaGreatDoor
open Go Go.RowKit Go.BigFrame Go.Maps

end Go.Proofs.YtjkmhlfjheiekaaGreatDoor
namespace Go.Proofs.YtjkmhlfjheiekaaGreatDoor
open Go Go.RowKit Go.BigFrame Go.Maps

end Go.Proofs.YtjkmhlfjheiekaaGreatDoor
namespace Go.Proofs.YtjkmhlfjheiekaaGreatDoor
open Go Go.RowKit Go.BigFrame Go.Maps

theorem eqBy_refl : ∀ l : List Nd, eqBy eqNd l l = true
  | [] => rfl
  | a :: l => by
    have h : eqNd a a = true := by unfold eqNd; simp [eqR_refl]
    rw [eqBy, eqBy_refl l, h]; rfl
theorem eqCr_refl (c : Crd) : eqCr c c = true := by
  unfold eqCr eqNm eqNu; simp
theorem wpList_load_blkg {P : Program} {ops : Array Oper} {o : Oper} {rest : List Oper} {a : Act} {w : World} {Q : Exit → Act → World → Prop} (hw : Region.wanted o (yielded ops a.tmps) = true) (ty : TypeId) (x : Operand) (ho : o.op = .load ty x) (g : Nat) (cs : Array Value) (t : TypeId) (d : TypeDesc) (hx : a.eval x = .pointer (some ⟨g, 0, none⟩))
    (hb : Blk w g t cs) (hu : P.underlying ty = some d) (hd : (match d with | .struct _ | .array _ _ => true | _ => false) = true) (hi : (P.info? ty).map (·.size) = some cs.size)
    (h : wpList P ops Q rest (a.put o.dst (.agg cs)) w) : wpList P ops Q (o :: rest) a w := by
  rw [wpList, if_pos hw]
  exact .inl (wp_load_row ty x ho g hx t cs (0, 0) d hb hu hd hi h)

end Go.Proofs.YtjkmhlfjheiekaaGreatDoor
namespace Go.Proofs.YtjkmhlfjheiekaaGreatDoor
open Go Go.RowKit Go.BigFrame Go.Maps

end Go.Proofs.YtjkmhlfjheiekaaGreatDoor

namespace Go.Proofs.YtjkmhlfjheiekaaGreatDoor
open Go Go.RowKit Go.BigFrame Go.Maps

end Go.Proofs.YtjkmhlfjheiekaaGreatDoor
namespace Go.Proofs.YtjkmhlfjheiekaaGreatDoor
open Go Go.RowKit Go.BigFrame Go.Maps

end Go.Proofs.YtjkmhlfjheiekaaGreatDoor
namespace Go.Proofs.YtjkmhlfjheiekaaGreatDoor
open Go Go.RowKit Go.BigFrame Go.Maps

def printT (c : Crd) (l : List Nd) : Txt := if creditM c l = true then (if 4096 < (creditT c l).length then [] else creditT c l) else []
def printE (c : Crd) (l : List Nd) : Int := if creditM c l = true then (if 4096 < (creditT c l).length then 7 else 0) else 1
end Go.Proofs.YtjkmhlfjheiekaaGreatDoor
namespace Go.Proofs.YtjkmhlfjheiekaaGreatDoor
open Go Go.RowKit Go.BigFrame Go.Maps

set_option maxRecDepth 100000 in
set_option maxHeartbeats 3200000 in
theorem print_any (C : Array Value) (c : Crd) (A : Option Addr) (n cc : Nat) (l : List Nd) (w : World) (ok : Nat → Prop) (he : Hid (Env w)) (hC : Hid (C = c.cells (.slice A n cc))) (hs : Hid c.short) (hn : n ≤ maxLen) (hl : Hid (l.length = n)) (hN : Hid (NdsAt w ok A l)) (hz : Hid (∀ x ∈ l, szR (strip x.rule) ≤ 100000000)) :
    Calls Tryz.prog 25 #[.agg C] w fun e w' => e = .returned (.tuple #[.string ⟨(printT c l).toArray⟩, .int .i64 (printE c l)]) ∧ Below w.heap.size w w' := by
  have hb0 : Hid (Below w.heap.size w (w.alloc (.cells C 41))) := (Below.refl _ w).alloc (Nat.le_refl _) _
  have hx0 := Lib.hid (Blk.new w 41 C)
  have hsC : Hid ((Tryz.prog.info? 41).map (·.size) = some C.size) := by unfold Hid; rw [hC.out]; kernel_rfl
  have hz' : Hid (∀ x ∈ l, szR (strip x.rule) ≤ mostZ) := fun x hx => by have := hz.out x hx; unfold mostZ; omega
  have p1 : Hid (∀ W, Below w.heap.size w W → Calls Tryz.prog 55 #[.agg C] W fun e w' => e = .returned (.bool (creditM c l)) ∧ Below W.heap.size W w') := fun W hW => creditMay_any C c A n cc l W ok (he.out.below hW) hC hs hn hl (hN.out.below hW) hz'
  have p2 : Hid (creditM c l = true → ∀ W, Below w.heap.size w W → Calls Tryz.prog 56 #[.agg C] W fun e w' => e = .returned (.string ⟨(creditT c l).toArray⟩) ∧ Below W.heap.size W w') := fun hm W hW => write_walk C c A n cc l W ok (he.out.below hW) hC hm hn hl (hN.out.below hW) hz
  have e1 : Hid (printT c l = if creditM c l = true then (if 4096 < (creditT c l).length then [] else creditT c l) else []) := rfl
  have e2 : Hid (printE c l = if creditM c l = true then (if 4096 < (creditT c l).length then 7 else 0) else 1) := rfl
  obtain ⟨b, hb⟩ : ∃ b, Hid (creditM c l = b) := ⟨_, Lib.hid rfl⟩
  obtain ⟨t, ht⟩ : ∃ b, Hid (creditT c l = b) := ⟨_, Lib.hid rfl⟩
  obtain ⟨rt, hrt⟩ : ∃ b, Hid (printT c l = b) := ⟨_, Lib.hid rfl⟩
  obtain ⟨re, hre⟩ : ∃ b, Hid (printE c l = b) := ⟨_, Lib.hid rfl⟩
  rw [hrt.out, hb.out, ht.out] at e1
  rw [hre.out, hb.out, ht.out] at e2
  rw [hb.out] at p1 p2
  rw [ht.out] at p2
  rw [hrt.out, hre.out]
  clear hb ht hrt hre he hC hs hl hN hz hz'
  go_enter Tryz.func25, Tryz.ntmps25
  go_wp2_with (refine wpList_load_blkg rfl 41 _ rfl w.heap.size C 41 _ rfl hx0.out Tryz.underlying41 rfl hsC.out ?_)
  obtain ⟨wa, hwa⟩ : ∃ x, Hid (w.alloc (.cells C 41) = x) := ⟨_, Lib.hid rfl⟩
  rw [hwa.out] at hb0 hx0 ⊢
  clear hwa
  refine (p1.out wa hb0.out).mono ?_
  rintro e w1 ⟨rfl, hb1⟩
  have hB1 := Lib.hid (hb0.out.trans (hb1.mono hb0.out.size))
  have hx1 := Lib.hid (hx0.out.below hb1 hx0.out.lt)
  clear hb1 hb0 hx0 p1
  cases b with
  | false =>
    go_wp2_with fail
    go_ret2
    exact ⟨by rw [e1.out, e2.out]; rfl, hB1.out⟩
  | true =>
    go_wp2_with (refine wpList_load_blkg rfl 41 _ rfl w.heap.size C 41 _ rfl hx1.out Tryz.underlying41 rfl hsC.out ?_)
    refine (p2.out (by simp) w1 hB1.out).mono ?_
    rintro e w2 ⟨rfl, hb2⟩
    have hB2 := Lib.hid (hB1.out.trans (hb2.mono hB1.out.size))
    clear hb2 hB1 hx1 p2
    by_cases h4 : 4096 < t.length
    · have b1 : decide ((4096 : Int) < (t.length : Int)) = true := by simp; omega
      have b2 : decide (4096 < t.length) = true := by simpa using h4
      go_wp2_with fail
      go_ret2
      exact ⟨by rw [e1.out, e2.out]; simp [h4], hB2.out⟩
    · have b1 : decide ((4096 : Int) < (t.length : Int)) = false := by simp; omega
      have b2 : decide (4096 < t.length) = false := by simpa using h4
      go_wp2_with fail
      go_ret2
      exact ⟨by rw [e1.out, e2.out]; simp [h4], hB2.out⟩
set_option maxRecDepth 100000 in
set_option maxHeartbeats 3200000 in
theorem may_credit_any (C : Array Value) (c : Crd) (A : Option Addr) (n cc : Nat) (l : List Nd) (w : World) (ok : Nat → Prop) (he : Hid (Env w)) (hC : Hid (C = c.cells (.slice A n cc))) (hs : Hid c.short) (hn : n ≤ maxLen) (hl : Hid (l.length = n)) (hN : Hid (NdsAt w ok A l)) (hz : Hid (∀ x ∈ l, szR (strip x.rule) ≤ 100000000)) :
    Calls Tryz.prog 27 #[.agg C] w fun e w' => e = .returned (.bool (printE c l == 0)) ∧ Below w.heap.size w w' := by
  have hb0 : Hid (Below w.heap.size w (w.alloc (.cells C 41))) := (Below.refl _ w).alloc (Nat.le_refl _) _
  have hx0 := Lib.hid (Blk.new w 41 C)
  have hsC : Hid ((Tryz.prog.info? 41).map (·.size) = some C.size) := by unfold Hid; rw [hC.out]; kernel_rfl
  have p1 := Lib.hid (print_any C c A n cc l (w.alloc (.cells C 41)) ok (he.out.below hb0.out) hC hs hn hl (hN.out.below hb0.out) hz)
  clear he hC hs hl hN hz
  obtain ⟨rt, hrt⟩ : ∃ b, Hid (printT c l = b) := ⟨_, Lib.hid rfl⟩
  obtain ⟨re, hre⟩ : ∃ b, Hid (printE c l = b) := ⟨_, Lib.hid rfl⟩
  rw [hrt.out, hre.out] at p1
  rw [hre.out]
  clear hrt hre
  go_enter Tryz.func27, Tryz.ntmps27
  go_wp2_with (refine wpList_load_blkg rfl 41 _ rfl w.heap.size C 41 _ rfl hx0.out Tryz.underlying41 rfl hsC.out ?_)
  refine p1.out.mono ?_
  rintro e w1 ⟨rfl, hb1⟩
  have hB1 := Lib.hid (hb0.out.trans (hb1.mono hb0.out.size))
  clear hb1 hb0 hx0 p1
  go_wp2_with fail
  go_ret
  exact ⟨rfl, hB1.out⟩
end Go.Proofs.YtjkmhlfjheiekaaGreatDoor

namespace Go.Proofs.YtjkmhlfjheiekaaGreatDoor
open Go Go.RowKit Go.BigFrame Go.Maps

end Go.Proofs.YtjkmhlfjheiekaaGreatDoor

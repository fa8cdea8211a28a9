/- The parser: rules bound by and, by or (walks of all, rule). -/
import Derived.Test.YtjkmhlfjheiekaaGreatDoorU
namespace Go.Proofs.YtjkmhlfjheiekaaGreatDoor
open Go Go.RowKit Go.BigFrame Go.Maps

def rowS (l : List Tok) (part : St → Option (Rul × St)) (sep : Txt) (k : Int) (n : Nat) (st : St) : Option (Rul × St) := match partsS l part sep n st with
  | none => none
  | some (L, s) => some (joinK k L, s)
theorem parts_len {l : List Tok} {part : St → Option (Rul × St)} {sep : Txt} : ∀ (n : Nat) {st s' : St} {L : List Rul}, partsS l part sep n st = some (L, s') → L.length ≤ n
  | 0, _, _, _, h => by simp [partsS] at h
  | n + 1, st, s', L, h => by
    obtain ⟨m, r, s1, L1, hn, _, hr, rfl⟩ := parts_cons h
    obtain rfl : n = m := by omega
    unfold restS at hr
    by_cases ha : askS l s1 0 (wordB sep) = true
    · rw [if_pos ha] at hr
      have := parts_len n hr
      simp; omega
    · rw [if_neg ha] at hr
      simp only [Option.some.injEq, Prod.mk.injEq] at hr
      rw [← hr.1]; simp
theorem row_some {l : List Tok} {part : St → Option (Rul × St)} {sep : Txt} {k : Int} {n : Nat} {st : St} {r : Rul × St} (h : rowS l part sep k n st = some r) : ∃ L s', partsS l part sep n st = some (L, s') ∧ r = (joinK k L, s') := by
  unfold rowS at h
  cases hp : partsS l part sep n st with
  | none => rw [hp] at h; simp at h
  | some x =>
    obtain ⟨L, s'⟩ := x
    rw [hp] at h
    simp only [Option.some.injEq] at h
    exact ⟨L, s', rfl, h.symm⟩
/-- What a function that reads a rule does, by what it reads in plain words. -/
def Reads' (pb : Nat) (A : Option Addr) (c e : Nat) (l : List Tok) (g : Nat) (part : St → Option (Rul × St)) : Prop :=
  ∀ (W : World) (st : St) (r : Rul × St), part st = some r → Hid (ParAt W pb A c e l st) → Hid (Env W) → Calls Tryz.prog g #[.pointer (some ⟨pb, 0, none⟩)] W (Ruled W pb A c e l r)

set_option maxRecDepth 100000 in
set_option maxHeartbeats 1600000 in
theorem all_any (pb : Nat) (A : Option Addr) (c e : Nat) (l : List Tok) (part : St → Option (Rul × St)) (h8 : Hid (8 ≤ pb)) (hone : Hid (Reads' pb A c e l 147 part)) (n : Nat) (hn : n ≤ 100000) : Reads' pb A c e l 115 (rowS l part wAnd 0 n) := by
  intro w st r hr hp he
  obtain ⟨L, s', hps, rfl⟩ := row_some hr
  have hL : Hid (L.length ≤ 100000) := Nat.le_trans (parts_len n hps) hn
  have eg : ∀ (args : Array Value) (w : World), (callFunc 147 args).run Tryz.prog w = .ok (.enter 147 args) w := enters_of Tryz.func147 (by kernel_rfl) rfl
  have hlt0 := hp.out.row.lt
  have hneR : Hid (w.heap.size ≠ pb) := by unfold Hid; omega
  have hR0 : Hid (Blk (w.alloc (.cells zeroN 25)) w.heap.size 25 zeroN) := Blk.new w 25 zeroN
  have hB0 : Hid (But pb w (w.alloc (.cells zeroN 25))) := (But.refl pb w).below ((Below.refl _ w).alloc (Nat.le_refl _) _)
  have hp0 : Hid (ParAt (w.alloc (.cells zeroN 25)) pb A c e l st) := hp.out.below ((Below.refl _ w).alloc (Nat.le_refl _) _)
  have hcall := Lib.hid (row_any pb A c e l part 147 eg h8 hone wAnd 0 n (w.alloc (.cells zeroN 25)) st s' L hps hL hp0 (he.out.but hB0.out h8.out))
  clear hps hr
  go_enter Tryz.func115, Tryz.ntmps115
  go_wp2_with fail
  refine hcall.out.mono ?_
  rintro x w1 ⟨hu1, hp1, ⟨uk, up, uf, ux, un, uA, uc, uL⟩, rfl, ht, hs⟩
  unfold Tree.cells
  have hB1 := Lib.hid (hB0.out.trans hu1)
  have hR3 := Lib.hid (hu1.blk hR0.out hneR.out)
  have rc0 : w1.cell? ⟨w.heap.size, 0, none⟩ = some (.int .i64 0) := hR3.out.cell 0
  have rc1 : w1.cell? ⟨w.heap.size, 1, none⟩ = some (.int .i64 0) := hR3.out.cell 1
  have rc2 : w1.cell? ⟨w.heap.size, 2, none⟩ = some (.string ⟨#[]⟩) := hR3.out.cell 2
  have rc3 : w1.cell? ⟨w.heap.size, 3, none⟩ = some (.string ⟨#[]⟩) := hR3.out.cell 3
  have rc4 : w1.cell? ⟨w.heap.size, 4, none⟩ = some (.int .i64 0) := hR3.out.cell 4
  have rc5 : w1.cell? ⟨w.heap.size, 5, none⟩ = some (.slice none 0 0) := hR3.out.cell 5
  have rf0 := hR3.out.frozen 0
  have rf1 := hR3.out.frozen 1
  have rf2 := hR3.out.frozen 2
  have rf3 := hR3.out.frozen 3
  have rf4 := hR3.out.frozen 4
  have rf5 := hR3.out.frozen 5
  have rlt := hR3.out.lt
  go_wp2_with fail
  refine bodyPost_ret (results_row rfl _ _ w.heap.size 25 _ _ rfl ((((((hR3.out.set_ 0 _).set_ 1 _).set_ 2 _).set_ 3 _).set_ 4 _).set_ 5 _) Tryz.underlying25 rfl (by kernel_rfl)) rfl ?_
  have hh : ∀ b, ((w.alloc (.cells zeroN 25)).heap.size ≤ b) → b ≠ w.heap.size := fun b hb => by simp at hb; omega
  unfold Ruled
  refine ⟨(((((((hB1.out).far (Nat.le_refl _) _ _).far (Nat.le_refl _) _ _).far (Nat.le_refl _) _ _).far (Nat.le_refl _) _ _).far (Nat.le_refl _) _ _).far (Nat.le_refl _) _ _), ⟨((((((hp1.row.far (p := ⟨w.heap.size, 0, none⟩) hneR.out.symm _).far (p := ⟨w.heap.size, 1, none⟩) hneR.out.symm _).far (p := ⟨w.heap.size, 2, none⟩) hneR.out.symm _).far (p := ⟨w.heap.size, 3, none⟩) hneR.out.symm _).far (p := ⟨w.heap.size, 4, none⟩) hneR.out.symm _).far (p := ⟨w.heap.size, 5, none⟩) hneR.out.symm _), hp.out.tok.but (((((((hB1.out).far (Nat.le_refl _) _ _).far (Nat.le_refl _) _ _).far (Nat.le_refl _) _ _).far (Nat.le_refl _) _ _).far (Nat.le_refl _) _ _).far (Nat.le_refl _) _ _), hp1.len, hp1.pos⟩, .mk uk up uf ux un uA uc uL, rfl, ?_, hs⟩
  exact ((((((ht.far hh _ _).far hh _ _).far hh _ _).far hh _ _).far hh _ _).far hh _ _).mono (fun b _ hk => by simp at hk; omega)

set_option maxRecDepth 100000 in
set_option maxHeartbeats 1600000 in
theorem rule_any (pb : Nat) (A : Option Addr) (c e : Nat) (l : List Tok) (part : St → Option (Rul × St)) (h8 : Hid (8 ≤ pb)) (hone : Hid (Reads' pb A c e l 115 part)) (n : Nat) (hn : n ≤ 100000) : Reads' pb A c e l 67 (rowS l part wOr 1 n) := by
  intro w st r hr hp he
  obtain ⟨L, s', hps, rfl⟩ := row_some hr
  have hL : Hid (L.length ≤ 100000) := Nat.le_trans (parts_len n hps) hn
  have eg : ∀ (args : Array Value) (w : World), (callFunc 115 args).run Tryz.prog w = .ok (.enter 115 args) w := enters_of Tryz.func115 (by kernel_rfl) rfl
  have hlt0 := hp.out.row.lt
  have hneR : Hid (w.heap.size ≠ pb) := by unfold Hid; omega
  have hR0 : Hid (Blk (w.alloc (.cells zeroN 25)) w.heap.size 25 zeroN) := Blk.new w 25 zeroN
  have hB0 : Hid (But pb w (w.alloc (.cells zeroN 25))) := (But.refl pb w).below ((Below.refl _ w).alloc (Nat.le_refl _) _)
  have hp0 : Hid (ParAt (w.alloc (.cells zeroN 25)) pb A c e l st) := hp.out.below ((Below.refl _ w).alloc (Nat.le_refl _) _)
  have hcall := Lib.hid (row_any pb A c e l part 115 eg h8 hone wOr 1 n (w.alloc (.cells zeroN 25)) st s' L hps hL hp0 (he.out.but hB0.out h8.out))
  clear hps hr
  go_enter Tryz.func67, Tryz.ntmps67
  go_wp2_with fail
  refine hcall.out.mono ?_
  rintro x w1 ⟨hu1, hp1, ⟨uk, up, uf, ux, un, uA, uc, uL⟩, rfl, ht, hs⟩
  unfold Tree.cells
  have hB1 := Lib.hid (hB0.out.trans hu1)
  have hR3 := Lib.hid (hu1.blk hR0.out hneR.out)
  have rc0 : w1.cell? ⟨w.heap.size, 0, none⟩ = some (.int .i64 0) := hR3.out.cell 0
  have rc1 : w1.cell? ⟨w.heap.size, 1, none⟩ = some (.int .i64 0) := hR3.out.cell 1
  have rc2 : w1.cell? ⟨w.heap.size, 2, none⟩ = some (.string ⟨#[]⟩) := hR3.out.cell 2
  have rc3 : w1.cell? ⟨w.heap.size, 3, none⟩ = some (.string ⟨#[]⟩) := hR3.out.cell 3
  have rc4 : w1.cell? ⟨w.heap.size, 4, none⟩ = some (.int .i64 0) := hR3.out.cell 4
  have rc5 : w1.cell? ⟨w.heap.size, 5, none⟩ = some (.slice none 0 0) := hR3.out.cell 5
  have rf0 := hR3.out.frozen 0
  have rf1 := hR3.out.frozen 1
  have rf2 := hR3.out.frozen 2
  have rf3 := hR3.out.frozen 3
  have rf4 := hR3.out.frozen 4
  have rf5 := hR3.out.frozen 5
  have rlt := hR3.out.lt
  go_wp2_with fail
  refine bodyPost_ret (results_row rfl _ _ w.heap.size 25 _ _ rfl ((((((hR3.out.set_ 0 _).set_ 1 _).set_ 2 _).set_ 3 _).set_ 4 _).set_ 5 _) Tryz.underlying25 rfl (by kernel_rfl)) rfl ?_
  have hh : ∀ b, ((w.alloc (.cells zeroN 25)).heap.size ≤ b) → b ≠ w.heap.size := fun b hb => by simp at hb; omega
  unfold Ruled
  refine ⟨(((((((hB1.out).far (Nat.le_refl _) _ _).far (Nat.le_refl _) _ _).far (Nat.le_refl _) _ _).far (Nat.le_refl _) _ _).far (Nat.le_refl _) _ _).far (Nat.le_refl _) _ _), ⟨((((((hp1.row.far (p := ⟨w.heap.size, 0, none⟩) hneR.out.symm _).far (p := ⟨w.heap.size, 1, none⟩) hneR.out.symm _).far (p := ⟨w.heap.size, 2, none⟩) hneR.out.symm _).far (p := ⟨w.heap.size, 3, none⟩) hneR.out.symm _).far (p := ⟨w.heap.size, 4, none⟩) hneR.out.symm _).far (p := ⟨w.heap.size, 5, none⟩) hneR.out.symm _), hp.out.tok.but (((((((hB1.out).far (Nat.le_refl _) _ _).far (Nat.le_refl _) _ _).far (Nat.le_refl _) _ _).far (Nat.le_refl _) _ _).far (Nat.le_refl _) _ _).far (Nat.le_refl _) _ _), hp1.len, hp1.pos⟩, .mk uk up uf ux un uA uc uL, rfl, ?_, hs⟩
  exact ((((((ht.far hh _ _).far hh _ _).far hh _ _).far hh _ _).far hh _ _).far hh _ _).mono (fun b _ hk => by simp at hk; omega)
end Go.Proofs.YtjkmhlfjheiekaaGreatDoor

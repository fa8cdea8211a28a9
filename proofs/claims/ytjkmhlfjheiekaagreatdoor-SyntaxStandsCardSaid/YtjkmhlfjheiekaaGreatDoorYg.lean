/- A credit's text, written: the walk of write. -/
import Derived.Test.YtjkmhlfjheiekaaGreatDoorYf
namespace Go.Proofs.YtjkmhlfjheiekaaGreatDoor
open Go Go.RowKit Go.BigFrame Go.Maps

theorem blk_adds {W : World} {g : Nat} {t : TypeId} {cs : Array Value} (h : Blk W g t cs) : ∀ (j : Nat) (u : Value), cs.toList[j]? = some u → W.cell? (Addr.add ⟨g, 0, none⟩ j) = some u := fun j u hj => by
  rw [show Addr.add ⟨g, 0, none⟩ j = ⟨g, j, none⟩ by unfold Addr.add; split <;> simp_all, h.cell j, ← Array.getElem?_toList]
  exact hj
section
variable {P : Program} {ops : Array Oper} {o : Oper} {rest : List Oper} {a : Act} {W : World} {Q : Exit → Act → World → Prop}
/-- Two words more behind a full row of four. -/
theorem wpList_words2 (hgd : o.guard = none) (s x : Operand) (t : TypeId) (ho : o.op = .call { callee := .builtin .append, args := #[s, x], argTypes := #[t, t] }) (i : TypeInfo) (z : Value) (bytes : Nat) (ht : P.underlying t = some (.slice 9)) (hi : P.info? 9 = some i) (hz : i.zero = some z) (hsize : i.size = 1) (hby : i.bytes = bytes) (hzs : z.cells.size = 1) (hb16 : bytes = 16)
    (g1 g2 : Nat) (a1 a2 : List Txt) (hs : a.eval s = .slice (some ⟨g1, 0, none⟩) 4 4) (hx : a.eval x = .slice (some ⟨g2, 0, none⟩) 2 2) (h1 : Blk W g1 9 (a1.map fun t => Value.string ⟨t.toArray⟩).toArray) (h2 : Blk W g2 9 (a2.map fun t => Value.string ⟨t.toArray⟩).toArray) (l1 : a1.length = 4) (l2 : a2.length = 2)
    (h : ∀ g c w', g < w'.heap.size → 6 ≤ c → WordsAt w' g (a1 ++ a2) → Below W.heap.size W w' → wpList P ops Q rest (a.put o.dst (.slice (some ⟨g, 0, none⟩) 6 c)) w') : wpList P ops Q (o :: rest) a W := by
  subst hb16
  refine wpList_append_grows W hgd s x t ho 9 i z 1 16 ht hi hz hsize hby hzs (by decide) (some ⟨g1, 0, none⟩) 4 4 (a1.map fun t => Value.string ⟨t.toArray⟩) hs (fun h => by cases h) (by simp [l1]) (fun b hb j u hj => ?_) ⟨g2, 0, none⟩ 2 2 (a2.map fun t => Value.string ⟨t.toArray⟩) hx (by simp [l2]) (fun j u hj => ?_) (fun u hu => ?_) (by decide) (by decide) (by decide) (fun v' w' ho hgr => ?_)
  · obtain rfl := Option.some.inj hb
    exact blk_adds h1 j u hj
  · exact blk_adds h2 j u hj
  · obtain ⟨t, _, rfl⟩ := List.mem_map.1 hu
    rfl
  · have hoo := ho
    rcases ho.2 with ⟨_, h0⟩ | ⟨g, cap, cur, rfl, hg, hh, hc, _, _, hcur⟩
    · omega
    · refine h g cap w' (Array.getElem?_eq_some_iff.1 hh).1 hc (fun j y hj => ?_) ((Below.refl _ _).grown hgr (Nat.le_refl _) (fun k hk => by cases hk))
      have := hoo.cells (g := g) rfl j (.string ⟨y.toArray⟩) (by rw [← List.map_append, List.getElem?_map, hj]; rfl)
      rwa [show Addr.add ⟨g, 0, none⟩ j = ⟨g, j, none⟩ by unfold Addr.add; split <;> simp_all] at this
end
set_option maxRecDepth 100000 in
set_option maxHeartbeats 6400000 in
theorem write_walk (C : Array Value) (c : Crd) (A : Option Addr) (n cc : Nat) (l : List Nd) (w : World) (ok : Nat → Prop) (he : Hid (Env w)) (hC : Hid (C = c.cells (.slice A n cc))) (hm : creditM c l = true) (hn : n ≤ maxLen) (hl : Hid (l.length = n)) (hN : Hid (NdsAt w ok A l)) (hz : Hid (∀ x ∈ l, szR (strip x.rule) ≤ 100000000)) :
    Calls Tryz.prog 56 #[.agg C] w fun e w' => e = .returned (.string ⟨(creditT c l).toArray⟩) ∧ Below w.heap.size w w' := by
  have hs := Lib.hid (small_of hm).1
  have hn64 : Hid (n ≤ 64) := by rw [← hl.out]; exact (small_of hm).2.1
  have hneeds := Lib.hid (small_of hm).2.2
  clear hm
  unfold maxLen at hn
  have e104 : ∀ (args : Array Value) (w : World), (callFunc 104 args).run Tryz.prog w = .ok (.enter 104 args) w := enters_of Tryz.func104 (by kernel_rfl) rfl
  have hk : Hid (∀ i, i < 18 → C[i]? = (c.cells (.slice A n cc))[i]?) := fun i _ => by rw [hC.out]
  have hsz : (w.alloc (.cells C 41)).heap.size = w.heap.size + 1 := by simp
  have hbl : Below (w.alloc (.cells C 41)).heap.size (w.alloc (.cells C 41)) ((w.alloc (.cells C 41)).alloc (.cells #[.pointer none, .slice none 0 0] 70)) := (Below.refl _ _).alloc (Nat.le_refl _) _
  have hX0 := Lib.hid ((Blk.new w 41 C).below hbl (by rw [hsz]; omega))
  have hB0 : Hid (Below w.heap.size w ((w.alloc (.cells C 41)).alloc (.cells #[.pointer none, .slice none 0 0] 70))) := ((Below.refl _ w).alloc (Nat.le_refl _) _).trans (hbl.mono (by rw [hsz]; omega))
  have hD0 : Hid (Bld ((w.alloc (.cells C 41)).alloc (.cells #[.pointer none, .slice none 0 0] 70)) (w.heap.size + 1) (w.heap.size + 1) (textL [])) := by
    have h := builder_new (w.alloc (.cells C 41))
    rw [hsz] at h
    exact h
  have hS0 : Hid (w.heap.size + 1 ≤ ((w.alloc (.cells C 41)).alloc (.cells #[.pointer none, .slice none 0 0] 70)).heap.size) := by unfold Hid; simp
  have hL0 : Hid ((textL []).length ≤ 0) := Nat.le_refl _
  have neb : w.heap.size ≠ w.heap.size + 1 := by omega
  clear hbl hC
  obtain ⟨w0, hw0⟩ : ∃ y, Hid ((w.alloc (.cells C 41)).alloc (.cells #[.pointer none, .slice none 0 0] 70) = y) := ⟨_, Lib.hid rfl⟩
  go_enter Tryz.func56, Tryz.ntmps56
  go_upto_region 3 with fail
  rw [hw0.out] at hX0 hB0 hD0 hS0 ⊢
  clear hw0 hsz
  have m0 : w0.cell? ⟨w.heap.size, 0, none⟩ = some (.string ⟨c.number.toArray⟩) := (hX0.out.cell 0).trans (hk.out 0 (by decide))
  have mlt := hX0.out.lt
  have hbl : Below w0.heap.size w0 (w0.alloc (.cells #[.string ⟨#[99, 114, 101, 100, 105, 116]⟩, .string ⟨c.number.toArray⟩] 9)) := (Below.refl _ _).alloc (Nat.le_refl _) _
  have hwd : Hid (WordsAt (w0.alloc (.cells #[.string ⟨#[99, 114, 101, 100, 105, 116]⟩, .string ⟨c.number.toArray⟩] 9)) w0.heap.size [[99, 114, 101, 100, 105, 116], c.number]) := words_new w0 [[99, 114, 101, 100, 105, 116], c.number]
  have hsp : (spaced [[99, 114, 101, 100, 105, 116], c.number]).length + 2 ≤ 40 := by rw [two_len]; have := hs.out.number; simp; omega
  have hcl := Lib.hid (line_any (w.heap.size + 1) (w.heap.size + 1) (textL ([])) [[99, 114, 101, 100, 105, 116], c.number] w0.heap.size 2 2 (w0.alloc (.cells #[.string ⟨#[99, 114, 101, 100, 105, 116]⟩, .string ⟨c.number.toArray⟩] 9)) rfl hwd (by simp) (Nat.le_refl _) (by decide) (hD0.out.below hbl) (by have := hL0.out; omega) (Nat.le_trans hS0.out hbl.size))
  have hBa := Lib.hid (hB0.out.trans (hbl.mono hB0.out.size))
  have hXa := Lib.hid (hX0.out.below hbl hX0.out.lt)
  have hSa := Lib.hid (Nat.le_trans hS0.out hbl.size)
  clear hbl hwd
  go_upto_region 4 with (go_at_fn 104; refine hcl.out.mono ?_; rintro e w1 ⟨rfl, hbb, hkk, hdd⟩)
  have hB1 := Lib.hid (hBa.out.trans (hbb.mono (Nat.le_succ _)))
  have hX1 := Lib.hid (kept_blk hkk hXa.out neb (by decide))
  have hS1 := Lib.hid (Nat.le_trans hSa.out hbb.size)
  have hD1 : Hid (Bld w1 (w.heap.size + 1) (w.heap.size + 1) (textL ([] ++ [[[99, 114, 101, 100, 105, 116], c.number]]))) := by unfold Hid; rw [textL_snoc]; exact hdd
  have hL1 : Hid ((textL ([] ++ [[[99, 114, 101, 100, 105, 116], c.number]])).length ≤ 40) := snoc_len hL0.out hsp
  clear hbb hkk hdd hcl hBa hXa hSa hsp hB0 hX0 hS0 hD0 hL0 m0 mlt
  have m1 : w1.cell? ⟨w.heap.size, 1, none⟩ = some (.string ⟨c.applicant.toArray⟩) := (hX1.out.cell 1).trans (hk.out 1 (by decide))
  have mlt := hX1.out.lt
  have hbl : Below w1.heap.size w1 (w1.alloc (.cells #[.string ⟨#[97, 112, 112, 108, 105, 99, 97, 110, 116]⟩, .string ⟨c.applicant.toArray⟩] 9)) := (Below.refl _ _).alloc (Nat.le_refl _) _
  have hwd : Hid (WordsAt (w1.alloc (.cells #[.string ⟨#[97, 112, 112, 108, 105, 99, 97, 110, 116]⟩, .string ⟨c.applicant.toArray⟩] 9)) w1.heap.size [[97, 112, 112, 108, 105, 99, 97, 110, 116], c.applicant]) := words_new w1 [[97, 112, 112, 108, 105, 99, 97, 110, 116], c.applicant]
  have hsp : (spaced [[97, 112, 112, 108, 105, 99, 97, 110, 116], c.applicant]).length + 2 ≤ 40 := by rw [two_len]; have := hs.out.applicant; simp; omega
  have hcl := Lib.hid (line_any (w.heap.size + 1) (w.heap.size + 1) (textL ([] ++ [[[99, 114, 101, 100, 105, 116], c.number]])) [[97, 112, 112, 108, 105, 99, 97, 110, 116], c.applicant] w1.heap.size 2 2 (w1.alloc (.cells #[.string ⟨#[97, 112, 112, 108, 105, 99, 97, 110, 116]⟩, .string ⟨c.applicant.toArray⟩] 9)) rfl hwd (by simp) (Nat.le_refl _) (by decide) (hD1.out.below hbl) (by have := hL1.out; omega) (Nat.le_trans hS1.out hbl.size))
  have hBa := Lib.hid (hB1.out.trans (hbl.mono hB1.out.size))
  have hXa := Lib.hid (hX1.out.below hbl hX1.out.lt)
  have hSa := Lib.hid (Nat.le_trans hS1.out hbl.size)
  clear hbl hwd
  go_upto_region 5 with (go_at_fn 104; refine hcl.out.mono ?_; rintro e w2 ⟨rfl, hbb, hkk, hdd⟩)
  have hB2 := Lib.hid (hBa.out.trans (hbb.mono (Nat.le_succ _)))
  have hX2 := Lib.hid (kept_blk hkk hXa.out neb (by decide))
  have hS2 := Lib.hid (Nat.le_trans hSa.out hbb.size)
  have hD2 : Hid (Bld w2 (w.heap.size + 1) (w.heap.size + 1) (textL ([] ++ [[[99, 114, 101, 100, 105, 116], c.number]] ++ [[[97, 112, 112, 108, 105, 99, 97, 110, 116], c.applicant]]))) := by unfold Hid; rw [textL_snoc]; exact hdd
  have hL2 : Hid ((textL ([] ++ [[[99, 114, 101, 100, 105, 116], c.number]] ++ [[[97, 112, 112, 108, 105, 99, 97, 110, 116], c.applicant]])).length ≤ 80) := snoc_len hL1.out hsp
  clear hbb hkk hdd hcl hBa hXa hSa hsp hB1 hX1 hS1 hD1 hL1 m1 mlt
  have m2 : w2.cell? ⟨w.heap.size, 2, none⟩ = some (.string ⟨c.beneficiary.toArray⟩) := (hX2.out.cell 2).trans (hk.out 2 (by decide))
  have mlt := hX2.out.lt
  have hbl : Below w2.heap.size w2 (w2.alloc (.cells #[.string ⟨#[98, 101, 110, 101, 102, 105, 99, 105, 97, 114, 121]⟩, .string ⟨c.beneficiary.toArray⟩] 9)) := (Below.refl _ _).alloc (Nat.le_refl _) _
  have hwd : Hid (WordsAt (w2.alloc (.cells #[.string ⟨#[98, 101, 110, 101, 102, 105, 99, 105, 97, 114, 121]⟩, .string ⟨c.beneficiary.toArray⟩] 9)) w2.heap.size [[98, 101, 110, 101, 102, 105, 99, 105, 97, 114, 121], c.beneficiary]) := words_new w2 [[98, 101, 110, 101, 102, 105, 99, 105, 97, 114, 121], c.beneficiary]
  have hsp : (spaced [[98, 101, 110, 101, 102, 105, 99, 105, 97, 114, 121], c.beneficiary]).length + 2 ≤ 40 := by rw [two_len]; have := hs.out.beneficiary; simp; omega
  have hcl := Lib.hid (line_any (w.heap.size + 1) (w.heap.size + 1) (textL ([] ++ [[[99, 114, 101, 100, 105, 116], c.number]] ++ [[[97, 112, 112, 108, 105, 99, 97, 110, 116], c.applicant]])) [[98, 101, 110, 101, 102, 105, 99, 105, 97, 114, 121], c.beneficiary] w2.heap.size 2 2 (w2.alloc (.cells #[.string ⟨#[98, 101, 110, 101, 102, 105, 99, 105, 97, 114, 121]⟩, .string ⟨c.beneficiary.toArray⟩] 9)) rfl hwd (by simp) (Nat.le_refl _) (by decide) (hD2.out.below hbl) (by have := hL2.out; omega) (Nat.le_trans hS2.out hbl.size))
  have hBa := Lib.hid (hB2.out.trans (hbl.mono hB2.out.size))
  have hXa := Lib.hid (hX2.out.below hbl hX2.out.lt)
  have hSa := Lib.hid (Nat.le_trans hS2.out hbl.size)
  clear hbl hwd
  go_upto_region 6 with (go_at_fn 104; refine hcl.out.mono ?_; rintro e w3 ⟨rfl, hbb, hkk, hdd⟩)
  have hB3 := Lib.hid (hBa.out.trans (hbb.mono (Nat.le_succ _)))
  have hX3 := Lib.hid (kept_blk hkk hXa.out neb (by decide))
  have hS3 := Lib.hid (Nat.le_trans hSa.out hbb.size)
  have hD3 : Hid (Bld w3 (w.heap.size + 1) (w.heap.size + 1) (textL ([] ++ [[[99, 114, 101, 100, 105, 116], c.number]] ++ [[[97, 112, 112, 108, 105, 99, 97, 110, 116], c.applicant]] ++ [[[98, 101, 110, 101, 102, 105, 99, 105, 97, 114, 121], c.beneficiary]]))) := by unfold Hid; rw [textL_snoc]; exact hdd
  have hL3 : Hid ((textL ([] ++ [[[99, 114, 101, 100, 105, 116], c.number]] ++ [[[97, 112, 112, 108, 105, 99, 97, 110, 116], c.applicant]] ++ [[[98, 101, 110, 101, 102, 105, 99, 105, 97, 114, 121], c.beneficiary]])).length ≤ 120) := snoc_len hL2.out hsp
  clear hbb hkk hdd hcl hBa hXa hSa hsp hB2 hX2 hS2 hD2 hL2 m2 mlt
  have m3 : w3.cell? ⟨w.heap.size, 3, none⟩ = some (.string ⟨c.issuer.toArray⟩) := (hX3.out.cell 3).trans (hk.out 3 (by decide))
  have mlt := hX3.out.lt
  have hbl : Below w3.heap.size w3 (w3.alloc (.cells #[.string ⟨#[105, 115, 115, 117, 101, 114]⟩, .string ⟨c.issuer.toArray⟩] 9)) := (Below.refl _ _).alloc (Nat.le_refl _) _
  have hwd : Hid (WordsAt (w3.alloc (.cells #[.string ⟨#[105, 115, 115, 117, 101, 114]⟩, .string ⟨c.issuer.toArray⟩] 9)) w3.heap.size [[105, 115, 115, 117, 101, 114], c.issuer]) := words_new w3 [[105, 115, 115, 117, 101, 114], c.issuer]
  have hsp : (spaced [[105, 115, 115, 117, 101, 114], c.issuer]).length + 2 ≤ 40 := by rw [two_len]; have := hs.out.issuer; simp; omega
  have hcl := Lib.hid (line_any (w.heap.size + 1) (w.heap.size + 1) (textL ([] ++ [[[99, 114, 101, 100, 105, 116], c.number]] ++ [[[97, 112, 112, 108, 105, 99, 97, 110, 116], c.applicant]] ++ [[[98, 101, 110, 101, 102, 105, 99, 105, 97, 114, 121], c.beneficiary]])) [[105, 115, 115, 117, 101, 114], c.issuer] w3.heap.size 2 2 (w3.alloc (.cells #[.string ⟨#[105, 115, 115, 117, 101, 114]⟩, .string ⟨c.issuer.toArray⟩] 9)) rfl hwd (by simp) (Nat.le_refl _) (by decide) (hD3.out.below hbl) (by have := hL3.out; omega) (Nat.le_trans hS3.out hbl.size))
  have hBa := Lib.hid (hB3.out.trans (hbl.mono hB3.out.size))
  have hXa := Lib.hid (hX3.out.below hbl hX3.out.lt)
  have hSa := Lib.hid (Nat.le_trans hS3.out hbl.size)
  clear hbl hwd
  go_upto_region 7 with (go_at_fn 104; refine hcl.out.mono ?_; rintro e w4 ⟨rfl, hbb, hkk, hdd⟩)
  have hB4 := Lib.hid (hBa.out.trans (hbb.mono (Nat.le_succ _)))
  have hX4 := Lib.hid (kept_blk hkk hXa.out neb (by decide))
  have hS4 := Lib.hid (Nat.le_trans hSa.out hbb.size)
  have hD4 : Hid (Bld w4 (w.heap.size + 1) (w.heap.size + 1) (textL ([] ++ [[[99, 114, 101, 100, 105, 116], c.number]] ++ [[[97, 112, 112, 108, 105, 99, 97, 110, 116], c.applicant]] ++ [[[98, 101, 110, 101, 102, 105, 99, 105, 97, 114, 121], c.beneficiary]] ++ [[[105, 115, 115, 117, 101, 114], c.issuer]]))) := by unfold Hid; rw [textL_snoc]; exact hdd
  have hL4 : Hid ((textL ([] ++ [[[99, 114, 101, 100, 105, 116], c.number]] ++ [[[97, 112, 112, 108, 105, 99, 97, 110, 116], c.applicant]] ++ [[[98, 101, 110, 101, 102, 105, 99, 105, 97, 114, 121], c.beneficiary]] ++ [[[105, 115, 115, 117, 101, 114], c.issuer]])).length ≤ 160) := snoc_len hL3.out hsp
  clear hbb hkk hdd hcl hBa hXa hSa hsp hB3 hX3 hS3 hD3 hL3 m3 mlt
  have hD4' : Hid (Bld w4 (w.heap.size + 1) (w.heap.size + 1) (textL (heads c))) := hD4.out
  have hL4' : Hid ((textL (heads c)).length ≤ 160) := hL4.out
  clear hD4 hL4
  have m4 : w4.cell? ⟨w.heap.size, 4, none⟩ = some (.string ⟨c.confirmer.toArray⟩) := (hX4.out.cell 4).trans (hk.out 4 (by decide))
  have mlt := hX4.out.lt
  have etc := tx_list c.confirmer
  go_upto_if 31 with fail
  go_cut [] (fun wx => Hid (Below w.heap.size w wx) ∧ Hid (Blk wx w.heap.size 41 C) ∧ Hid (w.heap.size + 1 ≤ wx.heap.size) ∧ Hid (Bld wx (w.heap.size + 1) (w.heap.size + 1) (textL (heads c ++ confL c))) ∧ Hid ((textL (heads c ++ confL c)).length ≤ 200))
  case first =>
    by_cases hc0 : c.confirmer = []
    · have bc : (c.confirmer == []) = true := by simp [hc0]
      have be : c.confirmer.isEmpty = true := by simp [hc0]
      have e5 : heads c ++ confL c = heads c := by unfold confL; rw [if_pos hc0]; simp
      simp only [be, Bool.not_true]
      clear hc0
      go_wp2_with fail
      go_meet
      case rel => exact ⟨hB4, hX4, hS4, by rw [e5]; exact hD4', by rw [e5]; exact Nat.le_trans hL4'.out (by decide)⟩
    · have bc : (c.confirmer == []) = false := by simp [hc0]
      have be : c.confirmer.isEmpty = false := by simp [hc0]
      have e5 : heads c ++ confL c = heads c ++ [[[99, 111, 110, 102, 105, 114, 109, 101, 114], c.confirmer]] := by unfold confL; rw [if_neg hc0]
      simp only [be, Bool.not_false]
      have hD4 := hD4'
      have hL4 := hL4'
      have hbl : Below w4.heap.size w4 (w4.alloc (.cells #[.string ⟨#[99, 111, 110, 102, 105, 114, 109, 101, 114]⟩, .string ⟨c.confirmer.toArray⟩] 9)) := (Below.refl _ _).alloc (Nat.le_refl _) _
      have hwd : Hid (WordsAt (w4.alloc (.cells #[.string ⟨#[99, 111, 110, 102, 105, 114, 109, 101, 114]⟩, .string ⟨c.confirmer.toArray⟩] 9)) w4.heap.size [[99, 111, 110, 102, 105, 114, 109, 101, 114], c.confirmer]) := words_new w4 [[99, 111, 110, 102, 105, 114, 109, 101, 114], c.confirmer]
      have hsp : (spaced [[99, 111, 110, 102, 105, 114, 109, 101, 114], c.confirmer]).length + 2 ≤ 40 := by rw [two_len]; have := hs.out.confirmer; simp; omega
      have hcl := Lib.hid (line_any (w.heap.size + 1) (w.heap.size + 1) (textL (heads c)) [[99, 111, 110, 102, 105, 114, 109, 101, 114], c.confirmer] w4.heap.size 2 2 (w4.alloc (.cells #[.string ⟨#[99, 111, 110, 102, 105, 114, 109, 101, 114]⟩, .string ⟨c.confirmer.toArray⟩] 9)) rfl hwd (by simp) (Nat.le_refl _) (by decide) (hD4.out.below hbl) (by have := hL4.out; omega) (Nat.le_trans hS4.out hbl.size))
      have hBa := Lib.hid (hB4.out.trans (hbl.mono hB4.out.size))
      have hXa := Lib.hid (hX4.out.below hbl hX4.out.lt)
      have hSa := Lib.hid (Nat.le_trans hS4.out hbl.size)
      clear hbl hwd
      go_wp2_with fail
      go_at_fn 104
      refine hcl.out.mono ?_
      rintro e w5 ⟨rfl, hbb, hkk, hdd⟩
      have hB5 := Lib.hid (hBa.out.trans (hbb.mono (Nat.le_succ _)))
      have hX5 := Lib.hid (kept_blk hkk hXa.out neb (by decide))
      have hS5 := Lib.hid (Nat.le_trans hSa.out hbb.size)
      have hD5 : Hid (Bld w5 (w.heap.size + 1) (w.heap.size + 1) (textL (heads c ++ [[[99, 111, 110, 102, 105, 114, 109, 101, 114], c.confirmer]]))) := by unfold Hid; rw [textL_snoc]; exact hdd
      have hL5 : Hid ((textL (heads c ++ [[[99, 111, 110, 102, 105, 114, 109, 101, 114], c.confirmer]])).length ≤ 200) := snoc_len hL4.out hsp
      clear hbb hkk hdd hcl hBa hXa hSa hsp hB4 hX4 hS4 hD4 hL4 
      go_wp2_with fail
      go_meet
      case rel => exact ⟨hB5, hX5, hS5, by rw [e5]; exact hD5, by rw [e5]; exact hL5⟩
  case rest =>
    obtain ⟨hB5, hX5, hS5, hD5, hL5⟩ := hcut
    clear hB4 hX4 hS4 hD4' hL4' m4 mlt etc
    obtain ⟨w5, hw5⟩ : ∃ y, wc = y := ⟨_, rfl⟩
    rw [hw5] at hB5 hX5 hS5 hD5 ⊢
    clear hw5
    have m5 : w5.cell? ⟨w.heap.size, 5, none⟩ = some (.string ⟨c.orig.toArray⟩) := (hX5.out.cell 5).trans (hk.out 5 (by decide))
    have mlt := hX5.out.lt
    have hbl : Below w5.heap.size w5 (w5.alloc (.cells #[.string ⟨#[102, 114, 111, 109]⟩, .string ⟨c.orig.toArray⟩] 9)) := (Below.refl _ _).alloc (Nat.le_refl _) _
    have hwd : Hid (WordsAt (w5.alloc (.cells #[.string ⟨#[102, 114, 111, 109]⟩, .string ⟨c.orig.toArray⟩] 9)) w5.heap.size [[102, 114, 111, 109], c.orig]) := words_new w5 [[102, 114, 111, 109], c.orig]
    have hsp : (spaced [[102, 114, 111, 109], c.orig]).length + 2 ≤ 40 := by rw [two_len]; have := hs.out.orig; simp; omega
    have hcl := Lib.hid (line_any (w.heap.size + 1) (w.heap.size + 1) (textL (heads c ++ confL c)) [[102, 114, 111, 109], c.orig] w5.heap.size 2 2 (w5.alloc (.cells #[.string ⟨#[102, 114, 111, 109]⟩, .string ⟨c.orig.toArray⟩] 9)) rfl hwd (by simp) (Nat.le_refl _) (by decide) (hD5.out.below hbl) (by have := hL5.out; omega) (Nat.le_trans hS5.out hbl.size))
    have hBa := Lib.hid (hB5.out.trans (hbl.mono hB5.out.size))
    have hXa := Lib.hid (hX5.out.below hbl hX5.out.lt)
    have hSa := Lib.hid (Nat.le_trans hS5.out hbl.size)
    clear hbl hwd
    go_upto_region 10 with (go_at_fn 104; refine hcl.out.mono ?_; rintro e w6 ⟨rfl, hbb, hkk, hdd⟩)
    have hB6 := Lib.hid (hBa.out.trans (hbb.mono (Nat.le_succ _)))
    have hX6 := Lib.hid (kept_blk hkk hXa.out neb (by decide))
    have hS6 := Lib.hid (Nat.le_trans hSa.out hbb.size)
    have hD6 : Hid (Bld w6 (w.heap.size + 1) (w.heap.size + 1) (textL (heads c ++ confL c ++ [[[102, 114, 111, 109], c.orig]]))) := by unfold Hid; rw [textL_snoc]; exact hdd
    have hL6 : Hid ((textL (heads c ++ confL c ++ [[[102, 114, 111, 109], c.orig]])).length ≤ 240) := snoc_len hL5.out hsp
    clear hbb hkk hdd hcl hBa hXa hSa hsp hB5 hX5 hS5 hD5 hL5 m5 mlt
    have m6 : w6.cell? ⟨w.heap.size, 6, none⟩ = some (.string ⟨c.dest.toArray⟩) := (hX6.out.cell 6).trans (hk.out 6 (by decide))
    have mlt := hX6.out.lt
    have hbl : Below w6.heap.size w6 (w6.alloc (.cells #[.string ⟨#[116, 111]⟩, .string ⟨c.dest.toArray⟩] 9)) := (Below.refl _ _).alloc (Nat.le_refl _) _
    have hwd : Hid (WordsAt (w6.alloc (.cells #[.string ⟨#[116, 111]⟩, .string ⟨c.dest.toArray⟩] 9)) w6.heap.size [[116, 111], c.dest]) := words_new w6 [[116, 111], c.dest]
    have hsp : (spaced [[116, 111], c.dest]).length + 2 ≤ 40 := by rw [two_len]; have := hs.out.dest; simp; omega
    have hcl := Lib.hid (line_any (w.heap.size + 1) (w.heap.size + 1) (textL (heads c ++ confL c ++ [[[102, 114, 111, 109], c.orig]])) [[116, 111], c.dest] w6.heap.size 2 2 (w6.alloc (.cells #[.string ⟨#[116, 111]⟩, .string ⟨c.dest.toArray⟩] 9)) rfl hwd (by simp) (Nat.le_refl _) (by decide) (hD6.out.below hbl) (by have := hL6.out; omega) (Nat.le_trans hS6.out hbl.size))
    have hBa := Lib.hid (hB6.out.trans (hbl.mono hB6.out.size))
    have hXa := Lib.hid (hX6.out.below hbl hX6.out.lt)
    have hSa := Lib.hid (Nat.le_trans hS6.out hbl.size)
    clear hbl hwd
    go_upto_region 11 with (go_at_fn 104; refine hcl.out.mono ?_; rintro e w7 ⟨rfl, hbb, hkk, hdd⟩)
    have hB7 := Lib.hid (hBa.out.trans (hbb.mono (Nat.le_succ _)))
    have hX7 := Lib.hid (kept_blk hkk hXa.out neb (by decide))
    have hS7 := Lib.hid (Nat.le_trans hSa.out hbb.size)
    have hD7 : Hid (Bld w7 (w.heap.size + 1) (w.heap.size + 1) (textL (heads c ++ confL c ++ [[[102, 114, 111, 109], c.orig]] ++ [[[116, 111], c.dest]]))) := by unfold Hid; rw [textL_snoc]; exact hdd
    have hL7 : Hid ((textL (heads c ++ confL c ++ [[[102, 114, 111, 109], c.orig]] ++ [[[116, 111], c.dest]])).length ≤ 280) := snoc_len hL6.out hsp
    clear hbb hkk hdd hcl hBa hXa hSa hsp hB6 hX6 hS6 hD6 hL6 m6 mlt
    have hXs : Hid (∀ W, Blk W w.heap.size 41 C → W.cell? ⟨w.heap.size, 7, none⟩ = some (.string ⟨c.currency.toArray⟩) ∧ W.cell? ⟨w.heap.size, 8, none⟩ = some (.int .i64 c.amount) ∧ W.cell? ⟨w.heap.size, 9, none⟩ = some (.int .i64 c.above) ∧ W.cell? ⟨w.heap.size, 10, none⟩ = some (.int .i64 c.below)) := fun W h => ⟨(h.cell 7).trans (hk.out 7 (by decide)), (h.cell 8).trans (hk.out 8 (by decide)), (h.cell 9).trans (hk.out 9 (by decide)), (h.cell 10).trans (hk.out 10 (by decide))⟩
    have hfi : Hid (∀ W, Below w7.heap.size w7 W → Calls Tryz.prog 81 #[.int .i64 c.amount, .int .i64 10] W fun e w' => e = .returned (.string ⟨(decN 20 c.amount.toNat).toArray⟩) ∧ Below W.heap.size W w') := fun W hW => format_any _ hs.out.amount.1 hs.out.amount.2 W (he.out.below (hB7.out.trans (hW.mono hB7.out.size)))
    have hia : Hid (∀ W, Below w7.heap.size w7 W → Calls Tryz.prog 105 #[.int .i64 c.above] W fun e w' => e = .returned (.string ⟨(decN 20 c.above.toNat).toArray⟩) ∧ Below W.heap.size W w') := fun W hW => itoa_any _ hs.out.above.1 hs.out.above.2 W (he.out.below (hB7.out.trans (hW.mono hB7.out.size)))
    have hib : Hid (∀ W, Below w7.heap.size w7 W → Calls Tryz.prog 105 #[.int .i64 c.below] W fun e w' => e = .returned (.string ⟨(decN 20 c.below.toNat).toArray⟩) ∧ Below W.heap.size W w') := fun W hW => itoa_any _ hs.out.below.1 hs.out.below.2 W (he.out.below (hB7.out.trans (hW.mono hB7.out.size)))
    have hsp : Hid ((spaced [[115, 117, 109], c.currency, (decN 20 c.amount.toNat), [97, 98, 111, 118, 101], (decN 20 c.above.toNat), [98, 101, 108, 111, 119], (decN 20 c.below.toNat)]).length + 2 ≤ 110) := by
      have h1 := hs.out.currency
      have h2 := (decN_len 20 c.amount.toNat (by omega)).2
      have h3 := (decN_len 20 c.above.toNat (by omega)).2
      have h4 := (decN_len 20 c.below.toNat (by omega)).2
      unfold Hid
      simp only [spaced_cons, spaced_one, List.length_append, List.length_cons, List.length_nil]
      omega
    have hcl : Hid (∀ W, Below w7.heap.size w7 W → Calls Tryz.prog 104 #[.slice (some ⟨W.heap.size, 0, none⟩) 7 7, .pointer (some ⟨w.heap.size + 1, 0, none⟩)] (W.alloc (.cells #[.string ⟨#[115, 117, 109]⟩, .string ⟨c.currency.toArray⟩, .string ⟨(decN 20 c.amount.toNat).toArray⟩, .string ⟨#[97, 98, 111, 118, 101]⟩, .string ⟨(decN 20 c.above.toNat).toArray⟩, .string ⟨#[98, 101, 108, 111, 119]⟩, .string ⟨(decN 20 c.below.toNat).toArray⟩] 9)) fun e w' => e = .returned (.tuple #[]) ∧ Below (w.heap.size + 1) (W.alloc (.cells #[.string ⟨#[115, 117, 109]⟩, .string ⟨c.currency.toArray⟩, .string ⟨(decN 20 c.amount.toNat).toArray⟩, .string ⟨#[97, 98, 111, 118, 101]⟩, .string ⟨(decN 20 c.above.toNat).toArray⟩, .string ⟨#[98, 101, 108, 111, 119]⟩, .string ⟨(decN 20 c.below.toNat).toArray⟩] 9)) w' ∧ Lib.OthersKept 5 (some (w.heap.size + 1)) (W.alloc (.cells #[.string ⟨#[115, 117, 109]⟩, .string ⟨c.currency.toArray⟩, .string ⟨(decN 20 c.amount.toNat).toArray⟩, .string ⟨#[97, 98, 111, 118, 101]⟩, .string ⟨(decN 20 c.above.toNat).toArray⟩, .string ⟨#[98, 101, 108, 111, 119]⟩, .string ⟨(decN 20 c.below.toNat).toArray⟩] 9)) w' ∧ Bld w' (w.heap.size + 1) (w.heap.size + 1) (textL (heads c ++ confL c ++ [[[102, 114, 111, 109], c.orig]] ++ [[[116, 111], c.dest]]) ++ lineT [[115, 117, 109], c.currency, (decN 20 c.amount.toNat), [97, 98, 111, 118, 101], (decN 20 c.above.toNat), [98, 101, 108, 111, 119], (decN 20 c.below.toNat)])) := fun W hW => line_any (w.heap.size + 1) (w.heap.size + 1) (textL (heads c ++ confL c ++ [[[102, 114, 111, 109], c.orig]] ++ [[[116, 111], c.dest]])) [[115, 117, 109], c.currency, (decN 20 c.amount.toNat), [97, 98, 111, 118, 101], (decN 20 c.above.toNat), [98, 101, 108, 111, 119], (decN 20 c.below.toNat)] W.heap.size 7 7 _ rfl (words_new W [[115, 117, 109], c.currency, (decN 20 c.amount.toNat), [97, 98, 111, 118, 101], (decN 20 c.above.toNat), [98, 101, 108, 111, 119], (decN 20 c.below.toNat)]) (by simp) (Nat.le_refl _) (by decide) (hD7.out.below (hW.alloc hW.size _)) (by have := hL7.out; have := hsp.out; omega) (by have := hS7.out; have := hW.size; simp; omega)
    have hS0 := hXs.out w7 hX7.out
    go_region_held3 (fun W => W.cell? ⟨w.heap.size, 7, none⟩ = some (.string ⟨c.currency.toArray⟩) ∧ W.cell? ⟨w.heap.size, 8, none⟩ = some (.int .i64 c.amount) ∧ W.cell? ⟨w.heap.size, 9, none⟩ = some (.int .i64 c.above) ∧ W.cell? ⟨w.heap.size, 10, none⟩ = some (.int .i64 c.below)) (first | exact hS5 | exact hS4 | exact hS3 | exact hS2 | exact hS1 | exact hS0) (first | (go_at_call 81; (with_reducible refine (hfi.out _ (Below.refl _ _).drew).mono ?_); rintro e v1 ⟨rfl, hb1⟩; have hq1 : Hid (Below w7.heap.size w7 v1) := (Below.refl _ w7).drew.trans hb1; have hS1 := hXs.out v1 (hX7.out.below hq1.out hX7.out.lt); clear hb1) | (go_at_call 105; (with_reducible refine (hia.out _ hq1.out).mono ?_); rintro e v2 ⟨rfl, hb2⟩; have hq2 := Lib.hid (hq1.out.trans (hb2.mono hq1.out.size)); have hS2 := hXs.out v2 (hX7.out.below hq2.out hX7.out.lt); clear hb2) | (go_at_call 105; (with_reducible refine (hib.out _ hq2.out).mono ?_); rintro e v3 ⟨rfl, hb3⟩; have hq3 := Lib.hid (hq2.out.trans (hb3.mono hq2.out.size)); have hS3 := hXs.out v3 (hX7.out.below hq3.out hX7.out.lt); have hS4 := hXs.out _ (hX7.out.below (hq3.out.alloc hq3.out.size (.cells #[.string ⟨#[115, 117, 109]⟩, .string ⟨c.currency.toArray⟩, .string ⟨(decN 20 c.amount.toNat).toArray⟩, .string ⟨#[97, 98, 111, 118, 101]⟩, .string ⟨(decN 20 c.above.toNat).toArray⟩, .string ⟨#[98, 101, 108, 111, 119]⟩, .string ⟨(decN 20 c.below.toNat).toArray⟩] 9)) hX7.out.lt); clear hb3) | (go_at_fn 104; (with_reducible refine (hcl.out _ hq3.out).mono ?_); rintro e w8 ⟨rfl, hbb, hkk, hdd⟩; have hX8 := Lib.hid (kept_blk hkk (hX7.out.below (hq3.out.alloc hq3.out.size (.cells #[.string ⟨#[115, 117, 109]⟩, .string ⟨c.currency.toArray⟩, .string ⟨(decN 20 c.amount.toNat).toArray⟩, .string ⟨#[97, 98, 111, 118, 101]⟩, .string ⟨(decN 20 c.above.toNat).toArray⟩, .string ⟨#[98, 101, 108, 111, 119]⟩, .string ⟨(decN 20 c.below.toNat).toArray⟩] 9)) hX7.out.lt) neb (by decide)); have hS5 := hXs.out w8 hX8.out))
    have hB8 := Lib.hid (hB7.out.trans (((hq3.out.mono hB7.out.size).alloc (Nat.le_trans hB7.out.size hq3.out.size) _).trans (hbb.mono (Nat.le_succ _))))
    have hS8 := Lib.hid (Nat.le_trans hS7.out (Nat.le_trans hq3.out.size (Nat.le_trans (by simp) hbb.size)))
    have hD8 : Hid (Bld w8 (w.heap.size + 1) (w.heap.size + 1) (textL (heads c ++ confL c ++ [[[102, 114, 111, 109], c.orig]] ++ [[[116, 111], c.dest]] ++ [[[115, 117, 109], c.currency, (decN 20 c.amount.toNat), [97, 98, 111, 118, 101], (decN 20 c.above.toNat), [98, 101, 108, 111, 119], (decN 20 c.below.toNat)]]))) := by unfold Hid; rw [textL_snoc]; exact hdd
    have hL8 : Hid ((textL (heads c ++ confL c ++ [[[102, 114, 111, 109], c.orig]] ++ [[[116, 111], c.dest]] ++ [[[115, 117, 109], c.currency, (decN 20 c.amount.toNat), [97, 98, 111, 118, 101], (decN 20 c.above.toNat), [98, 101, 108, 111, 119], (decN 20 c.below.toNat)]])).length ≤ 390) := snoc_len hL7.out hsp.out
    clear hbb hkk hdd hcl hfi hia hib hsp hXs hS0 hS1 hS2 hS3 hS4 hS5 hq1 hq2 hq3 hB7 hX7 hS7 hD7 hL7
    go_upto_region 12 with fail
    have m11 : w8.cell? ⟨w.heap.size, 11, none⟩ = some (.int .i64 c.latest) := (hX8.out.cell 11).trans (hk.out 11 (by decide))
    have mlt := hX8.out.lt
    have hia := Lib.hid (itoa_any c.latest hs.out.latest.1 hs.out.latest.2 w8 (he.out.below hB8.out))
    have hsp : Hid ((spaced [[108, 97, 116, 101, 115, 116], (decN 20 c.latest.toNat)]).length + 2 ≤ 40) := by
      have h2 := (decN_len 20 c.latest.toNat (by omega)).2
      unfold Hid
      simp only [spaced_cons, spaced_one, List.length_append, List.length_cons, List.length_nil]
      omega
    have hcl : Hid (∀ W, Below w8.heap.size w8 W → Calls Tryz.prog 104 #[.slice (some ⟨W.heap.size, 0, none⟩) 2 2, .pointer (some ⟨w.heap.size + 1, 0, none⟩)] (W.alloc (.cells #[.string ⟨#[108, 97, 116, 101, 115, 116]⟩, .string ⟨(decN 20 c.latest.toNat).toArray⟩] 9)) fun e w' => e = .returned (.tuple #[]) ∧ Below (w.heap.size + 1) (W.alloc (.cells #[.string ⟨#[108, 97, 116, 101, 115, 116]⟩, .string ⟨(decN 20 c.latest.toNat).toArray⟩] 9)) w' ∧ Lib.OthersKept 5 (some (w.heap.size + 1)) (W.alloc (.cells #[.string ⟨#[108, 97, 116, 101, 115, 116]⟩, .string ⟨(decN 20 c.latest.toNat).toArray⟩] 9)) w' ∧ Bld w' (w.heap.size + 1) (w.heap.size + 1) (textL (heads c ++ confL c ++ [[[102, 114, 111, 109], c.orig]] ++ [[[116, 111], c.dest]] ++ [[[115, 117, 109], c.currency, (decN 20 c.amount.toNat), [97, 98, 111, 118, 101], (decN 20 c.above.toNat), [98, 101, 108, 111, 119], (decN 20 c.below.toNat)]]) ++ lineT [[108, 97, 116, 101, 115, 116], (decN 20 c.latest.toNat)])) := fun W hW => line_any (w.heap.size + 1) (w.heap.size + 1) (textL (heads c ++ confL c ++ [[[102, 114, 111, 109], c.orig]] ++ [[[116, 111], c.dest]] ++ [[[115, 117, 109], c.currency, (decN 20 c.amount.toNat), [97, 98, 111, 118, 101], (decN 20 c.above.toNat), [98, 101, 108, 111, 119], (decN 20 c.below.toNat)]])) [[108, 97, 116, 101, 115, 116], (decN 20 c.latest.toNat)] W.heap.size 2 2 _ rfl (words_new W [[108, 97, 116, 101, 115, 116], (decN 20 c.latest.toNat)]) (by simp) (Nat.le_refl _) (by decide) (hD8.out.below (hW.alloc hW.size _)) (by have := hL8.out; have := hsp.out; omega) (by have := hS8.out; have := hW.size; simp; omega)
    go_upto_region 13 with (first | (go_at_call 105; refine hia.out.mono ?_; rintro e v ⟨rfl, hq⟩) | (go_at_fn 104; refine (hcl.out _ hq).mono ?_; rintro e w9 ⟨rfl, hbb, hkk, hdd⟩))
    have hX9 := Lib.hid (kept_blk hkk (hX8.out.below (hq.alloc hq.size (.cells #[.string ⟨#[108, 97, 116, 101, 115, 116]⟩, .string ⟨(decN 20 c.latest.toNat).toArray⟩] 9)) hX8.out.lt) neb (by decide))
    have hB9 := Lib.hid (hB8.out.trans (((hq.mono hB8.out.size).alloc (Nat.le_trans hB8.out.size hq.size) _).trans (hbb.mono (Nat.le_succ _))))
    have hS9 := Lib.hid (Nat.le_trans hS8.out (Nat.le_trans hq.size (Nat.le_trans (by simp) hbb.size)))
    have hD9 : Hid (Bld w9 (w.heap.size + 1) (w.heap.size + 1) (textL (heads c ++ confL c ++ [[[102, 114, 111, 109], c.orig]] ++ [[[116, 111], c.dest]] ++ [[[115, 117, 109], c.currency, (decN 20 c.amount.toNat), [97, 98, 111, 118, 101], (decN 20 c.above.toNat), [98, 101, 108, 111, 119], (decN 20 c.below.toNat)]] ++ [[[108, 97, 116, 101, 115, 116], (decN 20 c.latest.toNat)]]))) := by unfold Hid; rw [textL_snoc]; exact hdd
    have hL9 : Hid ((textL (heads c ++ confL c ++ [[[102, 114, 111, 109], c.orig]] ++ [[[116, 111], c.dest]] ++ [[[115, 117, 109], c.currency, (decN 20 c.amount.toNat), [97, 98, 111, 118, 101], (decN 20 c.above.toNat), [98, 101, 108, 111, 119], (decN 20 c.below.toNat)]] ++ [[[108, 97, 116, 101, 115, 116], (decN 20 c.latest.toNat)]])).length ≤ 430) := snoc_len hL8.out hsp.out
    clear hbb hkk hdd hcl hia hsp hq hB8 hX8 hS8 hD8 hL8 m11 mlt
    have m12 : w9.cell? ⟨w.heap.size, 12, none⟩ = some (.int .i64 c.expiry) := (hX9.out.cell 12).trans (hk.out 12 (by decide))
    have mlt := hX9.out.lt
    have hia := Lib.hid (itoa_any c.expiry hs.out.expiry.1 hs.out.expiry.2 w9 (he.out.below hB9.out))
    have hsp : Hid ((spaced [[101, 120, 112, 105, 114, 121], (decN 20 c.expiry.toNat)]).length + 2 ≤ 40) := by
      have h2 := (decN_len 20 c.expiry.toNat (by omega)).2
      unfold Hid
      simp only [spaced_cons, spaced_one, List.length_append, List.length_cons, List.length_nil]
      omega
    have hcl : Hid (∀ W, Below w9.heap.size w9 W → Calls Tryz.prog 104 #[.slice (some ⟨W.heap.size, 0, none⟩) 2 2, .pointer (some ⟨w.heap.size + 1, 0, none⟩)] (W.alloc (.cells #[.string ⟨#[101, 120, 112, 105, 114, 121]⟩, .string ⟨(decN 20 c.expiry.toNat).toArray⟩] 9)) fun e w' => e = .returned (.tuple #[]) ∧ Below (w.heap.size + 1) (W.alloc (.cells #[.string ⟨#[101, 120, 112, 105, 114, 121]⟩, .string ⟨(decN 20 c.expiry.toNat).toArray⟩] 9)) w' ∧ Lib.OthersKept 5 (some (w.heap.size + 1)) (W.alloc (.cells #[.string ⟨#[101, 120, 112, 105, 114, 121]⟩, .string ⟨(decN 20 c.expiry.toNat).toArray⟩] 9)) w' ∧ Bld w' (w.heap.size + 1) (w.heap.size + 1) (textL (heads c ++ confL c ++ [[[102, 114, 111, 109], c.orig]] ++ [[[116, 111], c.dest]] ++ [[[115, 117, 109], c.currency, (decN 20 c.amount.toNat), [97, 98, 111, 118, 101], (decN 20 c.above.toNat), [98, 101, 108, 111, 119], (decN 20 c.below.toNat)]] ++ [[[108, 97, 116, 101, 115, 116], (decN 20 c.latest.toNat)]]) ++ lineT [[101, 120, 112, 105, 114, 121], (decN 20 c.expiry.toNat)])) := fun W hW => line_any (w.heap.size + 1) (w.heap.size + 1) (textL (heads c ++ confL c ++ [[[102, 114, 111, 109], c.orig]] ++ [[[116, 111], c.dest]] ++ [[[115, 117, 109], c.currency, (decN 20 c.amount.toNat), [97, 98, 111, 118, 101], (decN 20 c.above.toNat), [98, 101, 108, 111, 119], (decN 20 c.below.toNat)]] ++ [[[108, 97, 116, 101, 115, 116], (decN 20 c.latest.toNat)]])) [[101, 120, 112, 105, 114, 121], (decN 20 c.expiry.toNat)] W.heap.size 2 2 _ rfl (words_new W [[101, 120, 112, 105, 114, 121], (decN 20 c.expiry.toNat)]) (by simp) (Nat.le_refl _) (by decide) (hD9.out.below (hW.alloc hW.size _)) (by have := hL9.out; have := hsp.out; omega) (by have := hS9.out; have := hW.size; simp; omega)
    go_upto_region 14 with (first | (go_at_call 105; refine hia.out.mono ?_; rintro e v ⟨rfl, hq⟩) | (go_at_fn 104; refine (hcl.out _ hq).mono ?_; rintro e w10 ⟨rfl, hbb, hkk, hdd⟩))
    have hX10 := Lib.hid (kept_blk hkk (hX9.out.below (hq.alloc hq.size (.cells #[.string ⟨#[101, 120, 112, 105, 114, 121]⟩, .string ⟨(decN 20 c.expiry.toNat).toArray⟩] 9)) hX9.out.lt) neb (by decide))
    have hB10 := Lib.hid (hB9.out.trans (((hq.mono hB9.out.size).alloc (Nat.le_trans hB9.out.size hq.size) _).trans (hbb.mono (Nat.le_succ _))))
    have hS10 := Lib.hid (Nat.le_trans hS9.out (Nat.le_trans hq.size (Nat.le_trans (by simp) hbb.size)))
    have hD10 : Hid (Bld w10 (w.heap.size + 1) (w.heap.size + 1) (textL (heads c ++ confL c ++ [[[102, 114, 111, 109], c.orig]] ++ [[[116, 111], c.dest]] ++ [[[115, 117, 109], c.currency, (decN 20 c.amount.toNat), [97, 98, 111, 118, 101], (decN 20 c.above.toNat), [98, 101, 108, 111, 119], (decN 20 c.below.toNat)]] ++ [[[108, 97, 116, 101, 115, 116], (decN 20 c.latest.toNat)]] ++ [[[101, 120, 112, 105, 114, 121], (decN 20 c.expiry.toNat)]]))) := by unfold Hid; rw [textL_snoc]; exact hdd
    have hL10 : Hid ((textL (heads c ++ confL c ++ [[[102, 114, 111, 109], c.orig]] ++ [[[116, 111], c.dest]] ++ [[[115, 117, 109], c.currency, (decN 20 c.amount.toNat), [97, 98, 111, 118, 101], (decN 20 c.above.toNat), [98, 101, 108, 111, 119], (decN 20 c.below.toNat)]] ++ [[[108, 97, 116, 101, 115, 116], (decN 20 c.latest.toNat)]] ++ [[[101, 120, 112, 105, 114, 121], (decN 20 c.expiry.toNat)]])).length ≤ 470) := snoc_len hL9.out hsp.out
    clear hbb hkk hdd hcl hia hsp hq hB9 hX9 hS9 hD9 hL9 m12 mlt
    have m13 : w10.cell? ⟨w.heap.size, 13, none⟩ = some (.int .i64 c.within) := (hX10.out.cell 13).trans (hk.out 13 (by decide))
    have mlt := hX10.out.lt
    have hia := Lib.hid (itoa_any c.within hs.out.within.1 hs.out.within.2 w10 (he.out.below hB10.out))
    have hsp : Hid ((spaced [[119, 105, 116, 104, 105, 110], (decN 20 c.within.toNat), [100, 97, 121, 115]]).length + 2 ≤ 40) := by
      have h2 := (decN_len 20 c.within.toNat (by omega)).2
      unfold Hid
      simp only [spaced_cons, spaced_one, List.length_append, List.length_cons, List.length_nil]
      omega
    have hcl : Hid (∀ W, Below w10.heap.size w10 W → Calls Tryz.prog 104 #[.slice (some ⟨W.heap.size, 0, none⟩) 3 3, .pointer (some ⟨w.heap.size + 1, 0, none⟩)] (W.alloc (.cells #[.string ⟨#[119, 105, 116, 104, 105, 110]⟩, .string ⟨(decN 20 c.within.toNat).toArray⟩, .string ⟨#[100, 97, 121, 115]⟩] 9)) fun e w' => e = .returned (.tuple #[]) ∧ Below (w.heap.size + 1) (W.alloc (.cells #[.string ⟨#[119, 105, 116, 104, 105, 110]⟩, .string ⟨(decN 20 c.within.toNat).toArray⟩, .string ⟨#[100, 97, 121, 115]⟩] 9)) w' ∧ Lib.OthersKept 5 (some (w.heap.size + 1)) (W.alloc (.cells #[.string ⟨#[119, 105, 116, 104, 105, 110]⟩, .string ⟨(decN 20 c.within.toNat).toArray⟩, .string ⟨#[100, 97, 121, 115]⟩] 9)) w' ∧ Bld w' (w.heap.size + 1) (w.heap.size + 1) (textL (heads c ++ confL c ++ [[[102, 114, 111, 109], c.orig]] ++ [[[116, 111], c.dest]] ++ [[[115, 117, 109], c.currency, (decN 20 c.amount.toNat), [97, 98, 111, 118, 101], (decN 20 c.above.toNat), [98, 101, 108, 111, 119], (decN 20 c.below.toNat)]] ++ [[[108, 97, 116, 101, 115, 116], (decN 20 c.latest.toNat)]] ++ [[[101, 120, 112, 105, 114, 121], (decN 20 c.expiry.toNat)]]) ++ lineT [[119, 105, 116, 104, 105, 110], (decN 20 c.within.toNat), [100, 97, 121, 115]])) := fun W hW => line_any (w.heap.size + 1) (w.heap.size + 1) (textL (heads c ++ confL c ++ [[[102, 114, 111, 109], c.orig]] ++ [[[116, 111], c.dest]] ++ [[[115, 117, 109], c.currency, (decN 20 c.amount.toNat), [97, 98, 111, 118, 101], (decN 20 c.above.toNat), [98, 101, 108, 111, 119], (decN 20 c.below.toNat)]] ++ [[[108, 97, 116, 101, 115, 116], (decN 20 c.latest.toNat)]] ++ [[[101, 120, 112, 105, 114, 121], (decN 20 c.expiry.toNat)]])) [[119, 105, 116, 104, 105, 110], (decN 20 c.within.toNat), [100, 97, 121, 115]] W.heap.size 3 3 _ rfl (words_new W [[119, 105, 116, 104, 105, 110], (decN 20 c.within.toNat), [100, 97, 121, 115]]) (by simp) (Nat.le_refl _) (by decide) (hD10.out.below (hW.alloc hW.size _)) (by have := hL10.out; have := hsp.out; omega) (by have := hS10.out; have := hW.size; simp; omega)
    go_upto_region 15 with (first | (go_at_call 105; refine hia.out.mono ?_; rintro e v ⟨rfl, hq⟩) | (go_at_fn 104; refine (hcl.out _ hq).mono ?_; rintro e w11 ⟨rfl, hbb, hkk, hdd⟩))
    have hX11 := Lib.hid (kept_blk hkk (hX10.out.below (hq.alloc hq.size (.cells #[.string ⟨#[119, 105, 116, 104, 105, 110]⟩, .string ⟨(decN 20 c.within.toNat).toArray⟩, .string ⟨#[100, 97, 121, 115]⟩] 9)) hX10.out.lt) neb (by decide))
    have hB11 := Lib.hid (hB10.out.trans (((hq.mono hB10.out.size).alloc (Nat.le_trans hB10.out.size hq.size) _).trans (hbb.mono (Nat.le_succ _))))
    have hS11 := Lib.hid (Nat.le_trans hS10.out (Nat.le_trans hq.size (Nat.le_trans (by simp) hbb.size)))
    have hD11 : Hid (Bld w11 (w.heap.size + 1) (w.heap.size + 1) (textL (heads c ++ confL c ++ [[[102, 114, 111, 109], c.orig]] ++ [[[116, 111], c.dest]] ++ [[[115, 117, 109], c.currency, (decN 20 c.amount.toNat), [97, 98, 111, 118, 101], (decN 20 c.above.toNat), [98, 101, 108, 111, 119], (decN 20 c.below.toNat)]] ++ [[[108, 97, 116, 101, 115, 116], (decN 20 c.latest.toNat)]] ++ [[[101, 120, 112, 105, 114, 121], (decN 20 c.expiry.toNat)]] ++ [[[119, 105, 116, 104, 105, 110], (decN 20 c.within.toNat), [100, 97, 121, 115]]]))) := by unfold Hid; rw [textL_snoc]; exact hdd
    have hL11 : Hid ((textL (heads c ++ confL c ++ [[[102, 114, 111, 109], c.orig]] ++ [[[116, 111], c.dest]] ++ [[[115, 117, 109], c.currency, (decN 20 c.amount.toNat), [97, 98, 111, 118, 101], (decN 20 c.above.toNat), [98, 101, 108, 111, 119], (decN 20 c.below.toNat)]] ++ [[[108, 97, 116, 101, 115, 116], (decN 20 c.latest.toNat)]] ++ [[[101, 120, 112, 105, 114, 121], (decN 20 c.expiry.toNat)]] ++ [[[119, 105, 116, 104, 105, 110], (decN 20 c.within.toNat), [100, 97, 121, 115]]])).length ≤ 510) := snoc_len hL10.out hsp.out
    clear hbb hkk hdd hcl hia hsp hq hB10 hX10 hS10 hD10 hL10 m13 mlt
    have e11 : heads c ++ confL c ++ [[[102, 114, 111, 109], c.orig]] ++ [[[116, 111], c.dest]] ++ [[[115, 117, 109], c.currency, (decN 20 c.amount.toNat), [97, 98, 111, 118, 101], (decN 20 c.above.toNat), [98, 101, 108, 111, 119], (decN 20 c.below.toNat)]] ++ [[[108, 97, 116, 101, 115, 116], (decN 20 c.latest.toNat)]] ++ [[[101, 120, 112, 105, 114, 121], (decN 20 c.expiry.toNat)]] ++ [[[119, 105, 116, 104, 105, 110], (decN 20 c.within.toNat), [100, 97, 121, 115]]] = heads c ++ confL c ++ midL c := by simp [midL]
    have hDm : Hid (Bld w11 (w.heap.size + 1) (w.heap.size + 1) (textL (heads c ++ confL c ++ midL c))) := by rw [← e11]; exact hD11
    have hLm : Hid ((textL (heads c ++ confL c ++ midL c)).length ≤ 510) := by rw [← e11]; exact hL11
    clear hD11 hL11 e11
    have m14 : w11.cell? ⟨w.heap.size, 14, none⟩ = some (.int .i64 c.tenor) := (hX11.out.cell 14).trans (hk.out 14 (by decide))
    have mlt := hX11.out.lt
    go_upto_if 83 with fail
    go_cut [] (fun wx => Hid (Below w.heap.size w wx) ∧ Hid (Blk wx w.heap.size 41 C) ∧ Hid (w.heap.size + 1 ≤ wx.heap.size) ∧ Hid (Bld wx (w.heap.size + 1) (w.heap.size + 1) (textL (heads c ++ confL c ++ midL c ++ tenL c))) ∧ Hid ((textL (heads c ++ confL c ++ midL c ++ tenL c)).length ≤ 550))
    case first =>
      have hD11 := hDm
      have hL11 := hLm
      by_cases ht0 : c.tenor = 0
      · have bc : (c.tenor == 0) = true := by simp [ht0]
        have bd : decide (c.tenor = 0) = true := by simp [ht0]
        have e5 : heads c ++ confL c ++ midL c ++ tenL c = heads c ++ confL c ++ midL c ++ [[[116, 101, 110, 111, 114], [115, 105, 103, 104, 116]]] := by unfold tenL; rw [if_pos ht0]
        simp only [bc]
        have hbl : Below w11.heap.size w11 (w11.alloc (.cells #[.string ⟨#[116, 101, 110, 111, 114]⟩, .string ⟨#[115, 105, 103, 104, 116]⟩] 9)) := (Below.refl _ _).alloc (Nat.le_refl _) _
        have hwd : Hid (WordsAt (w11.alloc (.cells #[.string ⟨#[116, 101, 110, 111, 114]⟩, .string ⟨#[115, 105, 103, 104, 116]⟩] 9)) w11.heap.size [[116, 101, 110, 111, 114], [115, 105, 103, 104, 116]]) := words_new w11 [[116, 101, 110, 111, 114], [115, 105, 103, 104, 116]]
        have hsp : (spaced [[116, 101, 110, 111, 114], [115, 105, 103, 104, 116]]).length + 2 ≤ 40 := by rw [two_len]; simp
        have hcl := Lib.hid (line_any (w.heap.size + 1) (w.heap.size + 1) (textL (heads c ++ confL c ++ midL c)) [[116, 101, 110, 111, 114], [115, 105, 103, 104, 116]] w11.heap.size 2 2 (w11.alloc (.cells #[.string ⟨#[116, 101, 110, 111, 114]⟩, .string ⟨#[115, 105, 103, 104, 116]⟩] 9)) rfl hwd (by simp) (Nat.le_refl _) (by decide) (hD11.out.below hbl) (by have := hL11.out; omega) (Nat.le_trans hS11.out hbl.size))
        have hBa := Lib.hid (hB11.out.trans (hbl.mono hB11.out.size))
        have hXa := Lib.hid (hX11.out.below hbl hX11.out.lt)
        have hSa := Lib.hid (Nat.le_trans hS11.out hbl.size)
        clear hbl hwd
        go_wp2_with fail
        go_at_fn 104
        refine hcl.out.mono ?_
        rintro e w12 ⟨rfl, hbb, hkk, hdd⟩
        have hB12 := Lib.hid (hBa.out.trans (hbb.mono (Nat.le_succ _)))
        have hX12 := Lib.hid (kept_blk hkk hXa.out neb (by decide))
        have hS12 := Lib.hid (Nat.le_trans hSa.out hbb.size)
        have hD12 : Hid (Bld w12 (w.heap.size + 1) (w.heap.size + 1) (textL (heads c ++ confL c ++ midL c ++ [[[116, 101, 110, 111, 114], [115, 105, 103, 104, 116]]]))) := by unfold Hid; rw [textL_snoc]; exact hdd
        have hL12 : Hid ((textL (heads c ++ confL c ++ midL c ++ [[[116, 101, 110, 111, 114], [115, 105, 103, 104, 116]]])).length ≤ 550) := snoc_len hL11.out hsp
        clear hbb hkk hdd hcl hBa hXa hSa hsp hB11 hX11 hS11 hD11 hL11 
        go_wp2_with fail
        go_meet
        case rel => exact ⟨hB12, hX12, hS12, by rw [e5]; exact hD12, by rw [e5]; exact hL12⟩
      · have bc : (c.tenor == 0) = false := by simp [ht0]
        have bd : decide (c.tenor = 0) = false := by simp [ht0]
        have e5 : heads c ++ confL c ++ midL c ++ tenL c = heads c ++ confL c ++ midL c ++ [[[116, 101, 110, 111, 114], decN 20 c.tenor.toNat, [100, 97, 121, 115]]] := by unfold tenL; rw [if_neg ht0]
        simp only [bc]
        have m14 : w11.cell? ⟨w.heap.size, 14, none⟩ = some (.int .i64 c.tenor) := (hX11.out.cell 14).trans (hk.out 14 (by decide))
        have mlt := hX11.out.lt
        have hia := Lib.hid (itoa_any c.tenor hs.out.tenor.1 hs.out.tenor.2 w11 (he.out.below hB11.out))
        have hsp : Hid ((spaced [[116, 101, 110, 111, 114], (decN 20 c.tenor.toNat), [100, 97, 121, 115]]).length + 2 ≤ 40) := by
          have h2 := (decN_len 20 c.tenor.toNat (by omega)).2
          unfold Hid
          simp only [spaced_cons, spaced_one, List.length_append, List.length_cons, List.length_nil]
          omega
        have hcl : Hid (∀ W, Below w11.heap.size w11 W → Calls Tryz.prog 104 #[.slice (some ⟨W.heap.size, 0, none⟩) 3 3, .pointer (some ⟨w.heap.size + 1, 0, none⟩)] (W.alloc (.cells #[.string ⟨#[116, 101, 110, 111, 114]⟩, .string ⟨(decN 20 c.tenor.toNat).toArray⟩, .string ⟨#[100, 97, 121, 115]⟩] 9)) fun e w' => e = .returned (.tuple #[]) ∧ Below (w.heap.size + 1) (W.alloc (.cells #[.string ⟨#[116, 101, 110, 111, 114]⟩, .string ⟨(decN 20 c.tenor.toNat).toArray⟩, .string ⟨#[100, 97, 121, 115]⟩] 9)) w' ∧ Lib.OthersKept 5 (some (w.heap.size + 1)) (W.alloc (.cells #[.string ⟨#[116, 101, 110, 111, 114]⟩, .string ⟨(decN 20 c.tenor.toNat).toArray⟩, .string ⟨#[100, 97, 121, 115]⟩] 9)) w' ∧ Bld w' (w.heap.size + 1) (w.heap.size + 1) (textL (heads c ++ confL c ++ midL c) ++ lineT [[116, 101, 110, 111, 114], (decN 20 c.tenor.toNat), [100, 97, 121, 115]])) := fun W hW => line_any (w.heap.size + 1) (w.heap.size + 1) (textL (heads c ++ confL c ++ midL c)) [[116, 101, 110, 111, 114], (decN 20 c.tenor.toNat), [100, 97, 121, 115]] W.heap.size 3 3 _ rfl (words_new W [[116, 101, 110, 111, 114], (decN 20 c.tenor.toNat), [100, 97, 121, 115]]) (by simp) (Nat.le_refl _) (by decide) (hD11.out.below (hW.alloc hW.size _)) (by have := hL11.out; have := hsp.out; omega) (by have := hS11.out; have := hW.size; simp; omega)
        go_wp2_with fail
        go_at_call 105
        refine hia.out.mono ?_
        rintro e v ⟨rfl, hq⟩
        go_wp2_with fail
        go_at_fn 104
        refine (hcl.out _ hq).mono ?_
        rintro e w12 ⟨rfl, hbb, hkk, hdd⟩
        have hX12 := Lib.hid (kept_blk hkk (hX11.out.below (hq.alloc hq.size (.cells #[.string ⟨#[116, 101, 110, 111, 114]⟩, .string ⟨(decN 20 c.tenor.toNat).toArray⟩, .string ⟨#[100, 97, 121, 115]⟩] 9)) hX11.out.lt) neb (by decide))
        have hB12 := Lib.hid (hB11.out.trans (((hq.mono hB11.out.size).alloc (Nat.le_trans hB11.out.size hq.size) _).trans (hbb.mono (Nat.le_succ _))))
        have hS12 := Lib.hid (Nat.le_trans hS11.out (Nat.le_trans hq.size (Nat.le_trans (by simp) hbb.size)))
        have hD12 : Hid (Bld w12 (w.heap.size + 1) (w.heap.size + 1) (textL (heads c ++ confL c ++ midL c ++ [[[116, 101, 110, 111, 114], (decN 20 c.tenor.toNat), [100, 97, 121, 115]]]))) := by unfold Hid; rw [textL_snoc]; exact hdd
        have hL12 : Hid ((textL (heads c ++ confL c ++ midL c ++ [[[116, 101, 110, 111, 114], (decN 20 c.tenor.toNat), [100, 97, 121, 115]]])).length ≤ 550) := snoc_len hL11.out hsp.out
        clear hbb hkk hdd hcl hia hsp hq hB11 hX11 hS11 hD11 hL11 m14 mlt
        go_wp2_with fail
        go_meet
        case rel => exact ⟨hB12, hX12, hS12, by rw [e5]; exact hD12, by rw [e5]; exact hL12⟩
    case rest =>
      obtain ⟨hB12, hX12, hS12, hD12, hL12⟩ := hcut
      clear hB11 hX11 hS11 hDm hLm m14 mlt
      obtain ⟨w12, hwk⟩ : ∃ y, wc = y := ⟨_, rfl⟩
      rw [hwk] at hB12 hX12 hS12 hD12 ⊢
      clear hwk
      go_upto_region 18 with fail
      have m15 : w12.cell? ⟨w.heap.size, 15, none⟩ = some (.bool c.part) := (hX12.out.cell 15).trans (hk.out 15 (by decide))
      have mlt := hX12.out.lt
      have hbl : Below w12.heap.size w12 (w12.alloc (.cells #[.string ⟨#[112, 97, 114, 116, 105, 97, 108]⟩, .string ⟨(yesT c.part).toArray⟩] 9)) := (Below.refl _ _).alloc (Nat.le_refl _) _
      have hwd : Hid (WordsAt (w12.alloc (.cells #[.string ⟨#[112, 97, 114, 116, 105, 97, 108]⟩, .string ⟨(yesT c.part).toArray⟩] 9)) w12.heap.size [[112, 97, 114, 116, 105, 97, 108], (yesT c.part)]) := words_new w12 [[112, 97, 114, 116, 105, 97, 108], (yesT c.part)]
      have hsp : (spaced [[112, 97, 114, 116, 105, 97, 108], (yesT c.part)]).length + 2 ≤ 40 := by rw [two_len]; unfold yesT; split <;> simp
      have hcl := Lib.hid (line_any (w.heap.size + 1) (w.heap.size + 1) (textL (heads c ++ confL c ++ midL c ++ tenL c)) [[112, 97, 114, 116, 105, 97, 108], (yesT c.part)] w12.heap.size 2 2 (w12.alloc (.cells #[.string ⟨#[112, 97, 114, 116, 105, 97, 108]⟩, .string ⟨(yesT c.part).toArray⟩] 9)) rfl hwd (by simp) (Nat.le_refl _) (by decide) (hD12.out.below hbl) (by have := hL12.out; omega) (Nat.le_trans hS12.out hbl.size))
      have hBa := Lib.hid (hB12.out.trans (hbl.mono hB12.out.size))
      have hXa := Lib.hid (hX12.out.below hbl hX12.out.lt)
      have hSa := Lib.hid (Nat.le_trans hS12.out hbl.size)
      clear hbl hwd
      go_upto_region 19 with (first | (go_at_call 106; refine (yes_any c.part _).mono ?_; rintro e v ⟨rfl, rfl⟩) | (go_at_fn 104; refine hcl.out.mono ?_; rintro e w13 ⟨rfl, hbb, hkk, hdd⟩))
      have hB13 := Lib.hid (hBa.out.trans (hbb.mono (Nat.le_succ _)))
      have hX13 := Lib.hid (kept_blk hkk hXa.out neb (by decide))
      have hS13 := Lib.hid (Nat.le_trans hSa.out hbb.size)
      have hD13 : Hid (Bld w13 (w.heap.size + 1) (w.heap.size + 1) (textL (heads c ++ confL c ++ midL c ++ tenL c ++ [[[112, 97, 114, 116, 105, 97, 108], (yesT c.part)]]))) := by unfold Hid; rw [textL_snoc]; exact hdd
      have hL13 : Hid ((textL (heads c ++ confL c ++ midL c ++ tenL c ++ [[[112, 97, 114, 116, 105, 97, 108], (yesT c.part)]])).length ≤ 590) := snoc_len hL12.out hsp
      clear hbb hkk hdd hcl hBa hXa hSa hsp hB12 hX12 hS12 hD12 hL12 m15 mlt
      have m16 : w13.cell? ⟨w.heap.size, 16, none⟩ = some (.bool c.change) := (hX13.out.cell 16).trans (hk.out 16 (by decide))
      have mlt := hX13.out.lt
      have hbl : Below w13.heap.size w13 (w13.alloc (.cells #[.string ⟨#[99, 104, 97, 110, 103, 101]⟩, .string ⟨(yesT c.change).toArray⟩] 9)) := (Below.refl _ _).alloc (Nat.le_refl _) _
      have hwd : Hid (WordsAt (w13.alloc (.cells #[.string ⟨#[99, 104, 97, 110, 103, 101]⟩, .string ⟨(yesT c.change).toArray⟩] 9)) w13.heap.size [[99, 104, 97, 110, 103, 101], (yesT c.change)]) := words_new w13 [[99, 104, 97, 110, 103, 101], (yesT c.change)]
      have hsp : (spaced [[99, 104, 97, 110, 103, 101], (yesT c.change)]).length + 2 ≤ 40 := by rw [two_len]; unfold yesT; split <;> simp
      have hcl := Lib.hid (line_any (w.heap.size + 1) (w.heap.size + 1) (textL (heads c ++ confL c ++ midL c ++ tenL c ++ [[[112, 97, 114, 116, 105, 97, 108], (yesT c.part)]])) [[99, 104, 97, 110, 103, 101], (yesT c.change)] w13.heap.size 2 2 (w13.alloc (.cells #[.string ⟨#[99, 104, 97, 110, 103, 101]⟩, .string ⟨(yesT c.change).toArray⟩] 9)) rfl hwd (by simp) (Nat.le_refl _) (by decide) (hD13.out.below hbl) (by have := hL13.out; omega) (Nat.le_trans hS13.out hbl.size))
      have hBa := Lib.hid (hB13.out.trans (hbl.mono hB13.out.size))
      have hXa := Lib.hid (hX13.out.below hbl hX13.out.lt)
      have hSa := Lib.hid (Nat.le_trans hS13.out hbl.size)
      clear hbl hwd
      go_upto_region 20 with (first | (go_at_call 106; refine (yes_any c.change _).mono ?_; rintro e v ⟨rfl, rfl⟩) | (go_at_fn 104; refine hcl.out.mono ?_; rintro e w14 ⟨rfl, hbb, hkk, hdd⟩))
      have hB14 := Lib.hid (hBa.out.trans (hbb.mono (Nat.le_succ _)))
      have hX14 := Lib.hid (kept_blk hkk hXa.out neb (by decide))
      have hS14 := Lib.hid (Nat.le_trans hSa.out hbb.size)
      have hD14 : Hid (Bld w14 (w.heap.size + 1) (w.heap.size + 1) (textL (heads c ++ confL c ++ midL c ++ tenL c ++ [[[112, 97, 114, 116, 105, 97, 108], (yesT c.part)]] ++ [[[99, 104, 97, 110, 103, 101], (yesT c.change)]]))) := by unfold Hid; rw [textL_snoc]; exact hdd
      have hL14 : Hid ((textL (heads c ++ confL c ++ midL c ++ tenL c ++ [[[112, 97, 114, 116, 105, 97, 108], (yesT c.part)]] ++ [[[99, 104, 97, 110, 103, 101], (yesT c.change)]])).length ≤ 630) := snoc_len hL13.out hsp
      clear hbb hkk hdd hcl hBa hXa hSa hsp hB13 hX13 hS13 hD13 hL13 m16 mlt
      have hDt : Hid (Bld w14 (w.heap.size + 1) (w.heap.size + 1) (textL (topL c ++ (l.take 0).map needL))) := by
        have e0 : topL c ++ (l.take 0).map needL = topL c := by simp
        unfold Hid; rw [e0]; exact hD14.out
      have htop := Lib.hid (top_len hs.out)
      have m17 : w14.cell? ⟨w.heap.size, 17, none⟩ = some (.slice A n cc) := (hX14.out.cell 17).trans (hk.out 17 (by decide))
      have mlt := hX14.out.lt
      clear hD14 hL14
      obtain ⟨i0, hi, hz0, hz1, hz2⟩ := info_parts (P := Tryz.prog) (e := 9) (z := .string ⟨#[]⟩) (size := 1) (bytes := 16) (by kernel_rfl)
      go_wp2_with fail
      go_loopg [108] n (fun gg a wr => ∃ q : Nat, q ≤ n ∧ gg = n - q ∧ a = .int .i64 q ∧ Hid (Below w.heap.size w wr) ∧ Hid (w.heap.size + 1 ≤ wr.heap.size) ∧ Hid (Bld wr (w.heap.size + 1) (w.heap.size + 1) (textL (topL c ++ (l.take q).map needL))))
      case atStart => exact ⟨0, Nat.zero_le _, rfl, rfl, hB14, hS14, hDt⟩
      case round =>
        clear hB14 hS14 hDt hX14 m17 mlt
        obtain ⟨q, hq, hg, rfl, hB, hS, hD⟩ := hrel
        have hg' := Lib.hid hg
        clear hg
        by_cases hlt : q < n
        · have i1 : decide ((q : Int) < (n : Int)) = true := by simp; omega
          have i2 : (q : Int) < (n : Int) := by omega
          have i3 : (0 : Int) ≤ (q : Int) := by omega
          obtain ⟨x, hxq⟩ : ∃ x, l[q]? = some x := ⟨_, List.getElem?_eq_getElem (by have := hl.out; omega)⟩
          have hmem := List.mem_of_getElem? hxq
          obtain ⟨k0, k6, c1', c9, hmr⟩ := need_parts (hneeds.out x hmem)
          have hzx := hz.out x hmem
          have hlen : Hid ((textL (topL c ++ (l.take q).map needL)).length ≤ 10000000000) := by
            have h1 := needs_len (l.take q) 100000000 (fun y hy => hz.out y (List.mem_of_mem_take hy))
            have h2 := htop.out
            have h3 : (l.take q).length ≤ 64 := by have := hn64.out; rw [List.length_take]; omega
            have h4 : (l.take q).length * (100000000 + 100) ≤ 64 * (100000000 + 100) := Nat.mul_le_mul_right _ h3
            unfold Hid
            rw [textL_app, List.length_append]
            omega
          have hsn := Lib.hid (need_len x 100000000 hzx)
          have hstep : Hid (textL (topL c ++ (l.take (q + 1)).map needL) = textL (topL c ++ (l.take q).map needL) ++ lineT (needL x)) := by
            unfold Hid
            rw [List.take_add_one, hxq]
            simp only [Option.toList, List.map_append, List.map_cons, List.map_nil, ← List.append_assoc]
            exact textL_snoc _ _
          obtain ⟨bb, off, rfl, _, hc, hTt⟩ := (hN.out.below hB.out) q x hxq
          obtain ⟨acc, hacc⟩ : ∃ y, Hid (textL (topL c ++ (l.take q).map needL) = y) := ⟨_, Lib.hid rfl⟩
          obtain ⟨al, hal⟩ : ∃ b, Hid (alwaysR (strip x.rule) = b) := ⟨_, Lib.hid rfl⟩
          obtain ⟨sh, hsh⟩ : ∃ b, Hid (shownR (strip x.rule) = b) := ⟨_, Lib.hid rfl⟩
          obtain ⟨pt, hpt⟩ : ∃ b, Hid (paperT x.kind = b) := ⟨_, Lib.hid rfl⟩
          obtain ⟨dn, hdn⟩ : ∃ b, Hid (decN 20 x.count.toNat = b) := ⟨_, Lib.hid rfl⟩
          have c1 : Hid (∀ W, Calls Tryz.prog 107 #[.agg x.rule.cells] W fun e w' => e = .returned (.bool al) ∧ Below W.heap.size W w') := fun W => by
            have h := always_any x.rule W
            rw [hal.out] at h
            exact h
          have c2 : Hid (∀ W, Below wr.heap.size wr W → Calls Tryz.prog 17 #[.agg x.rule.cells] W fun e w' => e = .returned (.string ⟨sh.toArray⟩) ∧ Below W.heap.size W w') := fun W hW => by
            have h := showR_any x.rule W ok (he.out.below (hB.out.trans (hW.mono hB.out.size))) (hTt.below hW) (Lib.hid (by unfold mostZ; omega))
            rw [hsh.out] at h
            exact h
          have c3 : Hid (∀ W, Below w.heap.size w W → Calls Tryz.prog 105 #[.int .i64 x.count] W fun e w' => e = .returned (.string ⟨dn.toArray⟩) ∧ Below W.heap.size W w') := fun W hW => by
            have h := itoa_any x.count (by omega) (by omega) W (he.out.below hW)
            rw [hdn.out] at h
            exact h
          have hnd : Hid (needL x = [[119, 97, 110, 116, 115], pt, [99, 111, 112, 105, 101, 115], dn] ++ (if al = true then [] else [[119, 105, 116, 104], sh])) := by
            unfold Hid needL
            rw [hal.out, hpt.out, hdn.out]
            cases al with
            | true => rfl
            | false =>
              have hmt : mayR (strip x.rule) = true := hmr.resolve_left (by rw [hal.out]; decide)
              have : showR (strip x.rule) = sh := by rw [← hsh.out]; unfold shownR; rw [if_pos hmt]
              rw [this]
          rw [hacc.out] at hD hlen hstep
          obtain ⟨pn, hpn⟩ : ∃ pn : Nat, x.kind = (pn : Int) := ⟨x.kind.toNat, by omega⟩
          have hp6 : pn < 6 := by omega
          have hgl : Hid (papersA[pn]? = some (.string ⟨pt.toArray⟩)) := by
            unfold Hid
            rw [← hpt.out, hpn]
            show papersA[pn]? = some (.string ⟨(papersL.getD ((pn : Int)).toNat []).toArray⟩)
            rw [show ((pn : Int)).toNat = pn by omega]
            obtain rfl | rfl | rfl | rfl | rfl | rfl : pn = 0 ∨ pn = 1 ∨ pn = 2 ∨ pn = 3 ∨ pn = 4 ∨ pn = 5 := by omega
            all_goals rfl
          have hpc : Hid (∀ W, Below w.heap.size w W → W.cell? ⟨0, pn, none⟩ = some (.string ⟨pt.toArray⟩)) := fun W hW => ((he.out.below hW).papers pn hp6).trans hgl.out
          have p0 : (0 : Int) ≤ (pn : Int) := by omega
          have p6 : (pn : Int) < 6 := by omega
          clear hxq hmem hmr hzx hTt hacc hal hsh hpt hdn hgl k0 k6 c1' c9 hp6
          obtain ⟨xk, xn, ⟨tk, tp, tf, tx, tn, tA, tc, tL⟩⟩ := x
          obtain rfl : xk = (pn : Int) := hpn
          have g0 : wr.cell? ⟨bb, off + q * 8, none⟩ = some (.int .i64 pn) := hc 0 _ rfl
          have g1 : wr.cell? ⟨bb, off + q * 8 + 1, none⟩ = some (.int .i64 xn) := hc 1 _ rfl
          have g2 : wr.cell? ⟨bb, off + q * 8 + 2, none⟩ = some (.int .i64 tk) := hc 2 _ rfl
          have g3 : wr.cell? ⟨bb, off + q * 8 + 3, none⟩ = some (.int .i64 tp) := hc 3 _ rfl
          have g4 : wr.cell? ⟨bb, off + q * 8 + 4, none⟩ = some (.string ⟨tf.toArray⟩) := hc 4 _ rfl
          have g5 : wr.cell? ⟨bb, off + q * 8 + 5, none⟩ = some (.string ⟨tx.toArray⟩) := hc 5 _ rfl
          have g6 : wr.cell? ⟨bb, off + q * 8 + 6, none⟩ = some (.int .i64 tn) := hc 6 _ rfl
          have g7 : wr.cell? ⟨bb, off + q * 8 + 7, none⟩ = some (.slice tA tL.length tc) := hc 7 _ rfl
          clear hc
          simp only [Tree.cells] at c1 c2 c3
          have hbl : Below wr.heap.size wr (wr.alloc (.cells #[.int .i64 pn, .int .i64 xn, .int .i64 tk, .int .i64 tp, .string ⟨tf.toArray⟩, .string ⟨tx.toArray⟩, .int .i64 tn, .slice tA tL.length tc] 74)) := (Below.refl _ _).alloc (Nat.le_refl _) _
          have hM := Lib.hid (Blk.new wr 74 #[.int .i64 pn, .int .i64 xn, .int .i64 tk, .int .i64 tp, .string ⟨tf.toArray⟩, .string ⟨tx.toArray⟩, .int .i64 tn, .slice tA tL.length tc])
          have hBn := Lib.hid (hB.out.trans (hbl.mono hB.out.size))
          have hDn := Lib.hid (hD.out.below hbl)
          have hbl' := Lib.hid hbl
          obtain ⟨wb, hwb⟩ : ∃ y, Hid (wr.alloc (.cells #[.int .i64 pn, .int .i64 xn, .int .i64 tk, .int .i64 tp, .string ⟨tf.toArray⟩, .string ⟨tx.toArray⟩, .int .i64 tn, .slice tA tL.length tc] 74) = y) := ⟨_, Lib.hid rfl⟩
          clear hbl
          go_upto_region 23 with fail
          rw [hwb.out] at hM hBn hDn hbl' ⊢
          obtain ⟨G, hG⟩ : ∃ y, Hid (wr.heap.size = y) := ⟨_, Lib.hid rfl⟩
          have hSn : Hid (w.heap.size + 1 ≤ G) := by rw [← hG.out]; exact hS
          have hSb : Hid (w.heap.size + 1 ≤ wb.heap.size) := Nat.le_trans hS.out hbl'.out.size
          rw [hG.out] at hM ⊢
          clear hwb g0 g1 g2 g3 g4 g5 g6 g7
          have hXs : Hid (∀ W, Below wb.heap.size wb W → W.cell? ⟨G, 0, none⟩ = some (.int .i64 pn) ∧ W.cell? ⟨G, 1, none⟩ = some (.int .i64 xn) ∧ W.cell? ⟨0, pn, none⟩ = some (.string ⟨pt.toArray⟩)) := fun W hW => ⟨(hM.out.below hW hM.out.lt).cell 0, (hM.out.below hW hM.out.lt).cell 1, hpc.out W (hBn.out.trans (hW.mono hBn.out.size))⟩
          have hia : Hid (∀ W, Below wb.heap.size wb W → Calls Tryz.prog 105 #[.int .i64 xn] W fun e w' => e = .returned (.string ⟨dn.toArray⟩) ∧ Below W.heap.size W w') := fun W hW => c3.out W (hBn.out.trans (hW.mono hBn.out.size))
          have hS0 := hXs.out wb (Below.refl _ _)
          go_region_held3 (fun W => W.cell? ⟨G, 0, none⟩ = some (.int .i64 pn) ∧ W.cell? ⟨G, 1, none⟩ = some (.int .i64 xn) ∧ W.cell? ⟨0, pn, none⟩ = some (.string ⟨pt.toArray⟩)) (first | exact hS2 | exact hS1 | exact hS0) (first | (go_at_call 105; (with_reducible refine (hia.out _ (Below.refl _ _).drew).mono ?_); rintro e v1 ⟨rfl, hb1⟩; have hq1 : Hid (Below wb.heap.size wb v1) := (Below.refl _ wb).drew.trans hb1; have hS1 := hXs.out v1 hq1.out; have hS2 := hXs.out (v1.alloc (.cells #[.string ⟨#[119, 97, 110, 116, 115]⟩, .string ⟨pt.toArray⟩, .string ⟨#[99, 111, 112, 105, 101, 115]⟩, .string ⟨dn.toArray⟩] 9)) (hq1.out.alloc hq1.out.size _); clear hb1))
          have hq4 : Hid (Below wb.heap.size wb (v1.alloc (.cells #[.string ⟨#[119, 97, 110, 116, 115]⟩, .string ⟨pt.toArray⟩, .string ⟨#[99, 111, 112, 105, 101, 115]⟩, .string ⟨dn.toArray⟩] 9))) := hq1.out.alloc hq1.out.size _
          have hW4 := Lib.hid (Blk.new v1 9 #[.string ⟨#[119, 97, 110, 116, 115]⟩, .string ⟨pt.toArray⟩, .string ⟨#[99, 111, 112, 105, 101, 115]⟩, .string ⟨dn.toArray⟩])
          have hM4 := Lib.hid (hM.out.below hq4.out hM.out.lt)
          have hB4 := Lib.hid (hBn.out.trans (hq4.out.mono hBn.out.size))
          have hl4 := Lib.hid (hbl'.out.trans (hq4.out.mono hbl'.out.size))
          have hD4 := Lib.hid (hDn.out.below hq4.out)
          have hS4 : Hid (w.heap.size + 1 ≤ (v1.alloc (.cells #[.string ⟨#[119, 97, 110, 116, 115]⟩, .string ⟨pt.toArray⟩, .string ⟨#[99, 111, 112, 105, 101, 115]⟩, .string ⟨dn.toArray⟩] 9)).heap.size) := Nat.le_trans hSb.out hq4.out.size
          clear hS0 hS1 hS2 hXs hia hq1 hq4 hM hBn hDn hbl' hSb hS hD hB
          obtain ⟨w4, hw4⟩ : ∃ y, Hid (v1.alloc (.cells #[.string ⟨#[119, 97, 110, 116, 115]⟩, .string ⟨pt.toArray⟩, .string ⟨#[99, 111, 112, 105, 101, 115]⟩, .string ⟨dn.toArray⟩] 9) = y) := ⟨_, Lib.hid rfl⟩
          obtain ⟨G4, hG4⟩ : ∃ y, Hid (v1.heap.size = y) := ⟨_, Lib.hid rfl⟩
          rw [hw4.out] at hW4 hM4 hB4 hl4 hD4 hS4 ⊢
          rw [hG4.out] at hW4 ⊢
          clear hw4 hG4
          have m2 : w4.cell? ⟨G, 2, none⟩ = some (.int .i64 tk) := hM4.out.cell 2
          have m3 : w4.cell? ⟨G, 2 + 1, none⟩ = some (.int .i64 tp) := hM4.out.cell 3
          have m4 : w4.cell? ⟨G, 2 + 2, none⟩ = some (.string ⟨tf.toArray⟩) := hM4.out.cell 4
          have m5 : w4.cell? ⟨G, 2 + 3, none⟩ = some (.string ⟨tx.toArray⟩) := hM4.out.cell 5
          have m6 : w4.cell? ⟨G, 2 + 4, none⟩ = some (.int .i64 tn) := hM4.out.cell 6
          have m7 : w4.cell? ⟨G, 2 + 5, none⟩ = some (.slice tA tL.length tc) := hM4.out.cell 7
          have mlt := hM4.out.lt
          go_wp2_with fail
          refine (c1.out w4).mono ?_
          rintro e w5 ⟨rfl, hb5⟩
          have hB5 := Lib.hid (hB4.out.trans (hb5.mono hB4.out.size))
          have hl5 := Lib.hid (hl4.out.trans (hb5.mono hl4.out.size))
          have hM5 := Lib.hid (hM4.out.below hb5 hM4.out.lt)
          have hW5 := Lib.hid (hW4.out.below hb5 hW4.out.lt)
          have hD5 := Lib.hid (hD4.out.below hb5)
          have hS5 := Lib.hid (Nat.le_trans hS4.out hb5.size)
          clear hb5 hB4 hl4 hM4 hW4 hD4 hS4 m2 m3 m4 m5 m6 m7 mlt c1
          cases al with
          | true =>
            rw [if_pos rfl, List.append_nil] at hnd
            have hwd : Hid (WordsAt w5 G4 [[119, 97, 110, 116, 115], pt, [99, 111, 112, 105, 101, 115], dn]) := fun j y hj => by
              rw [hW5.out.cell j]
              have h := congrArg (Option.map fun t : Txt => Value.string ⟨t.toArray⟩) hj
              rw [← List.getElem?_map] at h
              simpa using h
            have hg0 := hW5.out.lt
            have hgc : 4 ≤ 4 := Nat.le_refl _
            have hcl := Lib.hid (line_any (w.heap.size + 1) (w.heap.size + 1) acc [[119, 97, 110, 116, 115], pt, [99, 111, 112, 105, 101, 115], dn] G4 4 4 w5 rfl hwd hg0 hgc (by decide) hD5 (by have h1 := hlen.out; have h2 := hsn.out; rw [hnd.out] at h2; omega) hS5.out)
            go_wp2_with fail
            go_at_fn 104
            refine hcl.out.mono ?_
            rintro e w9 ⟨rfl, hbb, hkk, hdd⟩
            have hB9 := Lib.hid (hB5.out.trans (hbb.mono (Nat.le_succ _)))
            have hS9 := Lib.hid (Nat.le_trans hS5.out hbb.size)
            have hD9 : Hid (Bld w9 (w.heap.size + 1) (w.heap.size + 1) (textL (topL c ++ (l.take (q + 1)).map needL))) := by unfold Hid; rw [hstep.out, hnd.out]; exact hdd
            clear hbb hkk hdd hcl
            go_wp2_with fail
            go_roundg (n - (q + 1))
            case measure => have := hg'.out; omega
            case rel => exact ⟨q + 1, by omega, rfl, by go_num, hB9, hS9, hD9⟩
          | false =>
            rw [if_neg (by decide)] at hnd
            have m2 : w5.cell? ⟨G, 2, none⟩ = some (.int .i64 tk) := hM5.out.cell 2
            have m3 : w5.cell? ⟨G, 2 + 1, none⟩ = some (.int .i64 tp) := hM5.out.cell 3
            have m4 : w5.cell? ⟨G, 2 + 2, none⟩ = some (.string ⟨tf.toArray⟩) := hM5.out.cell 4
            have m5 : w5.cell? ⟨G, 2 + 3, none⟩ = some (.string ⟨tx.toArray⟩) := hM5.out.cell 5
            have m6 : w5.cell? ⟨G, 2 + 4, none⟩ = some (.int .i64 tn) := hM5.out.cell 6
            have m7 : w5.cell? ⟨G, 2 + 5, none⟩ = some (.slice tA tL.length tc) := hM5.out.cell 7
            have mlt := hM5.out.lt
            go_wp2_with fail
            refine (c2.out w5 hl5.out).mono ?_
            rintro e w6 ⟨rfl, hb6⟩
            have hbl6 : Below w6.heap.size w6 (w6.alloc (.cells #[.string ⟨#[119, 105, 116, 104]⟩, .string ⟨sh.toArray⟩] 9)) := (Below.refl _ _).alloc (Nat.le_refl _) _
            have hb7 := hb6.trans (hbl6.mono hb6.size)
            have hB7 := Lib.hid (hB5.out.trans (hb7.mono hB5.out.size))
            have hW7 := Lib.hid (hW5.out.below hb7 hW5.out.lt)
            have hV7 := Lib.hid (Blk.new w6 9 #[.string ⟨#[119, 105, 116, 104]⟩, .string ⟨sh.toArray⟩])
            have hD7 := Lib.hid (hD5.out.below hb7)
            have hS7 := Lib.hid (Nat.le_trans hS5.out hb7.size)
            clear hb6 hb7 hbl6 hB5 hl5 hM5 hW5 hD5 hS5 m2 m3 m4 m5 m6 m7 mlt c2
            go_wp2_with (at_builtin; go_must (refine wpList_words2 rfl (.tmp 124) (.tmp 128) 110 rfl i0 _ 16 Tryz.underlying110 hi hz0 hz1 hz2 rfl rfl G4 w6.heap.size [[119, 97, 110, 116, 115], pt, [99, 111, 112, 105, 101, 115], dn] [[119, 105, 116, 104], sh] rfl rfl hW7.out hV7.out rfl rfl ?_); intro g8 cap8 w8 hg0 hgc hwd8 hb8)
            have hwd := Lib.hid hwd8
            have hB8 := Lib.hid (hB7.out.trans (hb8.mono hB7.out.size))
            have hD8 := Lib.hid (hD7.out.below hb8)
            have hS8 := Lib.hid (Nat.le_trans hS7.out hb8.size)
            clear hwd8 hb8 hB7 hW7 hV7 hD7 hS7
            have hcl := Lib.hid (line_any (w.heap.size + 1) (w.heap.size + 1) acc ([[119, 97, 110, 116, 115], pt, [99, 111, 112, 105, 101, 115], dn] ++ [[119, 105, 116, 104], sh]) g8 6 cap8 w8 rfl hwd hg0 hgc (by decide) hD8 (by have h1 := hlen.out; have h2 := hsn.out; rw [hnd.out] at h2; omega) hS8.out)
            go_wp2_with fail
            go_at_fn 104
            refine hcl.out.mono ?_
            rintro e w9 ⟨rfl, hbb, hkk, hdd⟩
            have hB9 := Lib.hid (hB8.out.trans (hbb.mono (Nat.le_succ _)))
            have hS9 := Lib.hid (Nat.le_trans hS8.out hbb.size)
            have hD9 : Hid (Bld w9 (w.heap.size + 1) (w.heap.size + 1) (textL (topL c ++ (l.take (q + 1)).map needL))) := by unfold Hid; rw [hstep.out, hnd.out]; exact hdd
            clear hbb hkk hdd hcl
            go_wp2_with fail
            go_roundg (n - (q + 1))
            case measure => have := hg'.out; omega
            case rel => exact ⟨q + 1, by omega, rfl, by go_num, hB9, hS9, hD9⟩
        · have i1 : decide ((q : Int) < (n : Int)) = false := by simp; omega
          obtain rfl : n = q := by omega
          have hfin : Hid (textL (topL c ++ (l.take n).map needL) = creditT c l) := by
            unfold Hid creditT
            rw [List.take_of_length_le (by have := hl.out; omega)]
          rw [hfin.out] at hD
          obtain ⟨tt, htt⟩ : ∃ y, Hid (creditT c l = y) := ⟨_, Lib.hid rfl⟩
          rw [htt.out] at hD
          clear hfin
          go_wp2_with fail
          refine (Tryz.Builder_String_any_k (w.heap.size + 1) (w.heap.size + 1) tt wr hD.out hS.out).mono ?_
          rintro e w3 ⟨rfl, _, hB3, _⟩
          go_wp2_with fail
          go_ret
          exact ⟨by rw [htt.out]; rfl, hB.out.trans (hB3.mono (Nat.le_succ _))⟩

end Go.Proofs.YtjkmhlfjheiekaaGreatDoor

import Derived.Test.YtjkmhlfjheiekaaGreatDoorQa
set_option maxRecDepth 1000000
set_option maxHeartbeats 51200000
namespace Go.Proofs.YtjkmhlfjheiekaaGreatDoor
open Go Go.RowKit Go.BigFrame Go.Maps
theorem blk_adds {W : World} {g : Nat} {t : TypeId} {cs : Array Value} (h : Blk W g t cs) : ∀ (j : Nat) (u : Value), cs.toList[j]? = some u → W.cell? (Addr.add (Az g 0) j) = some u := fun j u hj => by
 rw [show Addr.add (Az g 0) j = (Az g j) by unfold Addr.add; split <;> simp_all, h.cell j, ← Array.getElem?_toList]
 exact hj
section
variable {P : Program} {ops : Array Oper} {o : Oper} {rest : List Oper} {a : Act} {W : World} {Q : Exit → Act → World → Prop}
theorem wpList_words2 (hgd : o.guard = none) (s x : Operand) (t : TypeId) (ho : o.op = .call { callee := .builtin .append, args := #[s, x], argTypes := #[t, t] }) (i : TypeInfo) (z : Value) (bytes : Nat) (ht : P.underlying t = some (.slice 9)) (hi : P.info? 9 = some i) (hz : i.zero = some z) (hsize : i.size = 1) (hby : i.bytes = bytes) (hzs : z.cells.size = 1) (hb16 : bytes = 16)
  (g1 g2 : Nat) (a1 a2 : List Txt) (hs : a.eval s = .slice (some (Az g1 0)) 4 4) (hx : a.eval x = .slice (some (Az g2 0)) 2 2) (h1 : Blk W g1 9 (a1.map fun t => Value.string ⟨t.toArray⟩).toArray) (h2 : Blk W g2 9 (a2.map fun t => Value.string ⟨t.toArray⟩).toArray) (l1 : a1.length = 4) (l2 : a2.length = 2)
  (h : ∀ g c w', g < w'.heap.size → 6 ≤ c → WordsAt w' g (a1 ++ a2) → Bz W w' → wpList P ops Q rest (a.put o.dst (.slice (some (Az g 0)) 6 c)) w') : wpList P ops Q (o :: rest) a W := by
 subst hb16
 refine wpList_append_grows W hgd s x t ho 9 i z 1 16 ht hi hz hsize hby hzs (by decide) (some (Az g1 0)) 4 4 (a1.map fun t => Value.string ⟨t.toArray⟩) hs (fun h => by cases h) (by simp [l1]) (fun b hb j u hj => ?_) (Az g2 0) 2 2 (a2.map fun t => Value.string ⟨t.toArray⟩) hx (by simp [l2]) (fun j u hj => ?_) (fun u hu => ?_) (by decide) (by decide) (by decide) (fun v' w' ho hgr => ?_)
 ·obtain rfl := Option.some.inj hb
  exact blk_adds h1 j u hj
 ·exact blk_adds h2 j u hj
 ·obtain ⟨t, _, rfl⟩ := List.mem_map.1 hu
  rfl
 ·have hoo := ho
  rcases ho.2 with ⟨_, h0⟩ | ⟨g, cap, cur, rfl, hg, hh, hc, _, _, hcur⟩
  ·omega
  ·refine h g cap w' (Array.getElem?_eq_some_iff.1 hh).1 hc (fun j y hj => ?_) ((Below.refl _ _).grown hgr leZ (fun k hk => by cases hk))
   have := hoo.cells (g := g) rfl j (Sz y) (by rw [← List.map_append, List.getElem?_map, hj]; rfl)
   rwa [show Addr.add (Az g 0) j = (Az g j) by unfold Addr.add; split <;> simp_all] at this
end
theorem ln_step {w W : World} {C : Array Value} {Ls : List (List Txt)} {N : Nat} (ws : List Txt) (m k M : Nat) (hB : Hid (Bz w W)) (hX : Hid (Blk W w.heap.size 41 C)) (hS : Hid (w.heap.size + 1 ≤ W.heap.size)) (hD : Hid (Bld W (w.heap.size + 1) (w.heap.size + 1) (textL Ls))) (hL : Hid ((textL Ls).length ≤ N)) (hk : ws.length = k) (hk9 : k ≤ 1000) (hsp : (spaced ws).length + 2 ≤ m) (hM : N + m ≤ M) (h9 : M ≤ 100000) (V : World) (hV : Bz W V) :
  Cz 104 #[.slice (some (Az V.heap.size 0)) k k, .pointer (some ⟨w.heap.size + 1, 0, none⟩)] (V.alloc (.cells (ws.map fun t => Value.string ⟨t.toArray⟩).toArray 9)) fun e w1 => e = .returned (.tuple #[]) ∧ Hid (Bz w w1) ∧ Hid (Blk w1 w.heap.size 41 C) ∧ Hid (w.heap.size + 1 ≤ w1.heap.size) ∧ Hid (Bld w1 (w.heap.size + 1) (w.heap.size + 1) (textL (Ls ++ [ws]))) ∧ Hid ((textL (Ls ++ [ws])).length ≤ M) := by
 have hbl : Bz V (V.alloc (.cells (ws.map fun t => Value.string ⟨t.toArray⟩).toArray 9)) := (Below.refl _ _).alloc leZ _
 have hBV := hB.out.trans (hV.mono hB.out.size)
 have hSV := Nat.le_trans hS.out hV.size
 have hXV := hX.out.below hV hX.out.lt
 have hL' := hL.out
 refine (line_any (w.heap.size + 1) (w.heap.size + 1) (textL Ls) ws V.heap.size k k _ hk (words_new V ws) (by simp) leZ hk9 ((hD.out.below hV).below hbl) (by omega) (Nat.le_trans hSV hbl.size)).mono ?_
 rintro e w1 ⟨rfl, hbb, hkk, hdd⟩
 refine ⟨rfl, (hBV.trans (hbl.mono hBV.size)).trans (hbb.mono (Nat.le_succ _)), kept_blk hkk (hXV.below hbl hXV.lt) (by omega) (by decide), Nat.le_trans (Nat.le_trans hSV hbl.size) hbb.size, ?_, Nat.le_trans (snoc_len hL.out hsp) hM⟩
 unfold Hid; rw [textL_snoc]; exact hdd
theorem write_walk (C : Array Value) (c : Crd) (A : Option Addr) (n cc : Nat) (l : List Nd) (w : World) (ok : Nat → Prop) (he : Hid (Env w)) (hC : Hid (C = c.cells (.slice A n cc))) (hm : creditM c l = true) (hn : n ≤ maxLen) (hl : Hid (l.length = n)) (hN : Hid (NdsAt w ok A l)) (hz : Hid (∀ x ∈ l, szR (stz x.rule) ≤ 100000000)) :
  Cz 56 #[.agg C] w fun e w' => e = .returned (.string ⟨(creditT c l).toArray⟩) ∧ Bz w w' := by
 have hs := hdZ (small_of hm).1
 have hn64 : Hid (n ≤ 64) := by rw [← hl.out]; exact (small_of hm).2.1
 have hneeds := hdZ (small_of hm).2.2
 clear hm
 unfold maxLen at hn
 have e104 : ∀ (args : Array Value) (w : World), (callFunc 104 args).run Tryz.prog w = .ok (.enter 104 args) w := enters_of Tryz.func104 (by kernel_rfl) rfl
 have hk : Hid (∀ i, i < 18 → C[i]? = (c.cells (.slice A n cc))[i]?) := fun i _ => by rw [hC.out]
 have hsz : (w.alloc (.cells C 41)).heap.size = w.heap.size + 1 := by simp
 have hbl : Below (w.alloc (.cells C 41)).heap.size (w.alloc (.cells C 41)) ((w.alloc (.cells C 41)).alloc (.cells #[.pointer none, .slice none 0 0] 70)) := (Below.refl _ _).alloc leZ _
 have hX0 := hdZ ((Blk.new w 41 C).below hbl (by rw [hsz]; omega))
 have hB0 : Hid (Bz w ((w.alloc (.cells C 41)).alloc (.cells #[.pointer none, .slice none 0 0] 70))) := ((Below.refl _ w).alloc leZ _).trans (hbl.mono (by rw [hsz]; omega))
 have hD0 : Hid (Bld ((w.alloc (.cells C 41)).alloc (.cells #[.pointer none, .slice none 0 0] 70)) (w.heap.size + 1) (w.heap.size + 1) (textL [])) := by
  have h := builder_new (w.alloc (.cells C 41)); rw [hsz] at h; exact h
 have hS0 : Hid (w.heap.size + 1 ≤ ((w.alloc (.cells C 41)).alloc (.cells #[.pointer none, .slice none 0 0] 70)).heap.size) := by unfold Hid; simp
 have hL0 : Hid ((textL []).length ≤ 0) := Nat.le_refl _
 have neb : w.heap.size ≠ w.heap.size + 1 := by omega
 clear hbl hC
 obtain ⟨w0, hw0⟩ := nmZ ((w.alloc (.cells C 41)).alloc (.cells #[.pointer none, .slice none 0 0] 70))
 go_enter Tryz.func56, Tryz.ntmps56
 go_upto_region 3 with fail
 rw [hw0.out] at hX0 hB0 hD0 hS0 ⊢
 clear hw0 hsz
 have m0 : w0.cell? (Az w.heap.size 0) = some (.string ⟨c.number.toArray⟩) := (hX0.out.cell 0).trans (hk.out 0 (by decide))
 have mlt := hX0.out.lt
 have hcl := hdZ (ln_step [[99, 114, 101, 100, 105, 116], c.number] 40 2 40 hB0 hX0 hS0 hD0 hL0 rfl (by decide) (by rw [two_len]; have := hs.out.number; simp; omega) (by decide) (by decide) w0 (Below.refl _ _))
 go_upto_region 4 with (go_at_fn 104; refine hcl.out.mono ?_; rintro e w1 ⟨rfl, hB1, hX1, hS1, hD1, hL1⟩)
 clear hcl hB0 hX0 hS0 hD0 hL0 m0 mlt
 have m1 : w1.cell? (Az w.heap.size 1) = some (.string ⟨c.applicant.toArray⟩) := (hX1.out.cell 1).trans (hk.out 1 (by decide))
 have mlt := hX1.out.lt
 have hcl := hdZ (ln_step [[97, 112, 112, 108, 105, 99, 97, 110, 116], c.applicant] 40 2 80 hB1 hX1 hS1 hD1 hL1 rfl (by decide) (by rw [two_len]; have := hs.out.applicant; simp; omega) (by decide) (by decide) w1 (Below.refl _ _))
 go_upto_region 5 with (go_at_fn 104; refine hcl.out.mono ?_; rintro e w2 ⟨rfl, hB2, hX2, hS2, hD2, hL2⟩)
 clear hcl hB1 hX1 hS1 hD1 hL1 m1 mlt
 have m2 : w2.cell? (Az w.heap.size 2) = some (.string ⟨c.beneficiary.toArray⟩) := (hX2.out.cell 2).trans (hk.out 2 (by decide))
 have mlt := hX2.out.lt
 have hcl := hdZ (ln_step [[98, 101, 110, 101, 102, 105, 99, 105, 97, 114, 121], c.beneficiary] 40 2 120 hB2 hX2 hS2 hD2 hL2 rfl (by decide) (by rw [two_len]; have := hs.out.beneficiary; simp; omega) (by decide) (by decide) w2 (Below.refl _ _))
 go_upto_region 6 with (go_at_fn 104; refine hcl.out.mono ?_; rintro e w3 ⟨rfl, hB3, hX3, hS3, hD3, hL3⟩)
 clear hcl hB2 hX2 hS2 hD2 hL2 m2 mlt
 have m3 : w3.cell? (Az w.heap.size 3) = some (.string ⟨c.issuer.toArray⟩) := (hX3.out.cell 3).trans (hk.out 3 (by decide))
 have mlt := hX3.out.lt
 have hcl := hdZ (ln_step [[105, 115, 115, 117, 101, 114], c.issuer] 40 2 160 hB3 hX3 hS3 hD3 hL3 rfl (by decide) (by rw [two_len]; have := hs.out.issuer; simp; omega) (by decide) (by decide) w3 (Below.refl _ _))
 go_upto_region 7 with (go_at_fn 104; refine hcl.out.mono ?_; rintro e w4 ⟨rfl, hB4, hX4, hS4, hD4, hL4⟩)
 clear hcl hB3 hX3 hS3 hD3 hL3 m3 mlt
 have hD4' : Hid (Bld w4 (w.heap.size + 1) (w.heap.size + 1) (textL (heads c))) := hD4.out
 have hL4' : Hid ((textL (heads c)).length ≤ 160) := hL4.out
 clear hD4 hL4
 have m4 : w4.cell? (Az w.heap.size 4) = some (.string ⟨c.confirmer.toArray⟩) := (hX4.out.cell 4).trans (hk.out 4 (by decide))
 have mlt := hX4.out.lt
 have etc := txz c.confirmer
 go_upto_if 31 with fail
 go_cut [] (fun wx => Hid (Bz w wx) ∧ Hid (Blk wx w.heap.size 41 C) ∧ Hid (w.heap.size + 1 ≤ wx.heap.size) ∧ Hid (Bld wx (w.heap.size + 1) (w.heap.size + 1) (textL (heads c ++ confL c))) ∧ Hid ((textL (heads c ++ confL c)).length ≤ 200))
 case first =>
  by_cases hc0 : c.confirmer = []
  ·have bc : (c.confirmer == []) = true := by simp [hc0]
   have be : c.confirmer.isEmpty = true := by simp [hc0]
   have e5 : heads c ++ confL c = heads c := by unfold confL; rw [if_pos hc0]; simp
   simp only [be, Bool.not_true]; clear hc0; go_wp2_with fail
   go_meet
   case rel => exact ⟨hB4, hX4, hS4, by rw [e5]; exact hD4', by rw [e5]; exact Nat.le_trans hL4'.out (by decide)⟩
  ·have bc : (c.confirmer == []) = false := by simp [hc0]
   have be : c.confirmer.isEmpty = false := by simp [hc0]
   have e5 : heads c ++ confL c = heads c ++ [[[99, 111, 110, 102, 105, 114, 109, 101, 114], c.confirmer]] := by unfold confL; rw [if_neg hc0]
   simp only [be, Bool.not_false]; have hD4 := hD4'; have hL4 := hL4'; have hcl := hdZ (ln_step [[99, 111, 110, 102, 105, 114, 109, 101, 114], c.confirmer] 40 2 200 hB4 hX4 hS4 hD4 hL4 rfl (by decide) (by rw [two_len]; have := hs.out.confirmer; simp; omega) (by decide) (by decide) w4 (Below.refl _ _)); go_wp2_with fail; go_at_fn 104; refine hcl.out.mono ?_; rintro e w5 ⟨rfl, hB5, hX5, hS5, hD5, hL5⟩; clear hcl hB4 hX4 hS4 hD4 hL4 ; go_wp2_with fail
   go_meet
   case rel => exact ⟨hB5, hX5, hS5, by rw [e5]; exact hD5, by rw [e5]; exact hL5⟩
 case rest =>
  obtain ⟨hB5, hX5, hS5, hD5, hL5⟩ := hcut; clear hB4 hX4 hS4 hD4' hL4' m4 mlt etc; obtain ⟨w5, hw5⟩ : ∃ y, wc = y := ⟨_, rfl⟩; rw [hw5] at hB5 hX5 hS5 hD5 ⊢; clear hw5; have m5 : w5.cell? (Az w.heap.size 5) = some (.string ⟨c.orig.toArray⟩) := (hX5.out.cell 5).trans (hk.out 5 (by decide)); have mlt := hX5.out.lt; have hcl := hdZ (ln_step [[102, 114, 111, 109], c.orig] 40 2 240 hB5 hX5 hS5 hD5 hL5 rfl (by decide) (by rw [two_len]; have := hs.out.orig; simp; omega) (by decide) (by decide) w5 (Below.refl _ _))
  go_upto_region 10 with (go_at_fn 104; refine hcl.out.mono ?_; rintro e w6 ⟨rfl, hB6, hX6, hS6, hD6, hL6⟩)
  clear hcl hB5 hX5 hS5 hD5 hL5 m5 mlt; have m6 : w6.cell? (Az w.heap.size 6) = some (.string ⟨c.dest.toArray⟩) := (hX6.out.cell 6).trans (hk.out 6 (by decide)); have mlt := hX6.out.lt; have hcl := hdZ (ln_step [[116, 111], c.dest] 40 2 280 hB6 hX6 hS6 hD6 hL6 rfl (by decide) (by rw [two_len]; have := hs.out.dest; simp; omega) (by decide) (by decide) w6 (Below.refl _ _))
  go_upto_region 11 with (go_at_fn 104; refine hcl.out.mono ?_; rintro e w7 ⟨rfl, hB7, hX7, hS7, hD7, hL7⟩)
  clear hcl hB6 hX6 hS6 hD6 hL6 m6 mlt; have hXs : Hid (∀ W, Blk W w.heap.size 41 C → W.cell? (Az w.heap.size 7) = some (.string ⟨c.currency.toArray⟩) ∧ W.cell? (Az w.heap.size 8) = some (Iz c.amount) ∧ W.cell? (Az w.heap.size 9) = some (Iz c.above) ∧ W.cell? (Az w.heap.size 10) = some (Iz c.below)) := fun W h => ⟨(h.cell 7).trans (hk.out 7 (by decide)), (h.cell 8).trans (hk.out 8 (by decide)), (h.cell 9).trans (hk.out 9 (by decide)), (h.cell 10).trans (hk.out 10 (by decide))⟩
  have hfi : Hid (∀ W, Bz w7 W → Cz 81 #[Iz c.amount, Iz 10] W fun e w' => e = .returned (.string ⟨(decN 20 c.amount.toNat).toArray⟩) ∧ Bz W w') := fun W hW => format_any _ hs.out.amount.1 hs.out.amount.2 W (he.out.below (hB7.out.trans (hW.mono hB7.out.size)))
  have hia : Hid (∀ W, Bz w7 W → Cz 105 #[Iz c.above] W fun e w' => e = .returned (.string ⟨(decN 20 c.above.toNat).toArray⟩) ∧ Bz W w') := fun W hW => itoa_any _ hs.out.above.1 hs.out.above.2 W (he.out.below (hB7.out.trans (hW.mono hB7.out.size)))
  have hib : Hid (∀ W, Bz w7 W → Cz 105 #[Iz c.below] W fun e w' => e = .returned (.string ⟨(decN 20 c.below.toNat).toArray⟩) ∧ Bz W w') := fun W hW => itoa_any _ hs.out.below.1 hs.out.below.2 W (he.out.below (hB7.out.trans (hW.mono hB7.out.size)))
  have hsp : Hid ((spaced [[115, 117, 109], c.currency, (decN 20 c.amount.toNat), [97, 98, 111, 118, 101], (decN 20 c.above.toNat), [98, 101, 108, 111, 119], (decN 20 c.below.toNat)]).length + 2 ≤ 110) := by
   have h1 := hs.out.currency; have h2 := (decN_len 20 c.amount.toNat (by omega)).2; have h3 := (decN_len 20 c.above.toNat (by omega)).2; have h4 := (decN_len 20 c.below.toNat (by omega)).2; unfold Hid; simp only [spaced_cons, spaced_one, List.length_append, List.length_cons, List.length_nil]; omega
  have hcl : Hid (∀ W, Bz w7 W → Cz 104 #[.slice (some (Az W.heap.size 0)) 7 7, .pointer (some ⟨w.heap.size + 1, 0, none⟩)] (W.alloc (.cells #[.string ⟨#[115, 117, 109]⟩, .string ⟨c.currency.toArray⟩, .string ⟨(decN 20 c.amount.toNat).toArray⟩, .string ⟨#[97, 98, 111, 118, 101]⟩, .string ⟨(decN 20 c.above.toNat).toArray⟩, .string ⟨#[98, 101, 108, 111, 119]⟩, .string ⟨(decN 20 c.below.toNat).toArray⟩] 9)) fun e w' => e = .returned (.tuple #[]) ∧ Below (w.heap.size + 1) (W.alloc (.cells #[.string ⟨#[115, 117, 109]⟩, .string ⟨c.currency.toArray⟩, .string ⟨(decN 20 c.amount.toNat).toArray⟩, .string ⟨#[97, 98, 111, 118, 101]⟩, .string ⟨(decN 20 c.above.toNat).toArray⟩, .string ⟨#[98, 101, 108, 111, 119]⟩, .string ⟨(decN 20 c.below.toNat).toArray⟩] 9)) w' ∧ Lib.OthersKept 5 (some (w.heap.size + 1)) (W.alloc (.cells #[.string ⟨#[115, 117, 109]⟩, .string ⟨c.currency.toArray⟩, .string ⟨(decN 20 c.amount.toNat).toArray⟩, .string ⟨#[97, 98, 111, 118, 101]⟩, .string ⟨(decN 20 c.above.toNat).toArray⟩, .string ⟨#[98, 101, 108, 111, 119]⟩, .string ⟨(decN 20 c.below.toNat).toArray⟩] 9)) w' ∧ Bld w' (w.heap.size + 1) (w.heap.size + 1) (textL (heads c ++ confL c ++ [[[102, 114, 111, 109], c.orig]] ++ [[[116, 111], c.dest]]) ++ lineT [[115, 117, 109], c.currency, (decN 20 c.amount.toNat), [97, 98, 111, 118, 101], (decN 20 c.above.toNat), [98, 101, 108, 111, 119], (decN 20 c.below.toNat)])) := fun W hW => line_any (w.heap.size + 1) (w.heap.size + 1) (textL (heads c ++ confL c ++ [[[102, 114, 111, 109], c.orig]] ++ [[[116, 111], c.dest]])) [[115, 117, 109], c.currency, (decN 20 c.amount.toNat), [97, 98, 111, 118, 101], (decN 20 c.above.toNat), [98, 101, 108, 111, 119], (decN 20 c.below.toNat)] W.heap.size 7 7 _ rfl (words_new W [[115, 117, 109], c.currency, (decN 20 c.amount.toNat), [97, 98, 111, 118, 101], (decN 20 c.above.toNat), [98, 101, 108, 111, 119], (decN 20 c.below.toNat)]) (by simp) leZ (by decide) (hD7.out.below (hW.alloc hW.size _)) (by have := hL7.out; have := hsp.out; omega) (by have := hS7.out; have := hW.size; simp; omega)
  have hS0 := hXs.out w7 hX7.out
  go_region_held3 (fun W => W.cell? (Az w.heap.size 7) = some (.string ⟨c.currency.toArray⟩) ∧ W.cell? (Az w.heap.size 8) = some (Iz c.amount) ∧ W.cell? (Az w.heap.size 9) = some (Iz c.above) ∧ W.cell? (Az w.heap.size 10) = some (Iz c.below)) (first | exact hS5 | exact hS4 | exact hS3 | exact hS2 | exact hS1 | exact hS0) (first | (go_at_call 81; (with_reducible refine (hfi.out _ (Below.refl _ _).drew).mono ?_); rintro e v1 ⟨rfl, hb1⟩; have hq1 : Hid (Bz w7 v1) := (Below.refl _ w7).drew.trans hb1; have hS1 := hXs.out v1 (hX7.out.below hq1.out hX7.out.lt); clear hb1) | (go_at_call 105; (with_reducible refine (hia.out _ hq1.out).mono ?_); rintro e v2 ⟨rfl, hb2⟩; have hq2 := hdZ (hq1.out.trans (hb2.mono hq1.out.size)); have hS2 := hXs.out v2 (hX7.out.below hq2.out hX7.out.lt); clear hb2) | (go_at_call 105; (with_reducible refine (hib.out _ hq2.out).mono ?_); rintro e v3 ⟨rfl, hb3⟩; have hq3 := hdZ (hq2.out.trans (hb3.mono hq2.out.size)); have hS3 := hXs.out v3 (hX7.out.below hq3.out hX7.out.lt); have hS4 := hXs.out _ (hX7.out.below (hq3.out.alloc hq3.out.size (.cells #[.string ⟨#[115, 117, 109]⟩, .string ⟨c.currency.toArray⟩, .string ⟨(decN 20 c.amount.toNat).toArray⟩, .string ⟨#[97, 98, 111, 118, 101]⟩, .string ⟨(decN 20 c.above.toNat).toArray⟩, .string ⟨#[98, 101, 108, 111, 119]⟩, .string ⟨(decN 20 c.below.toNat).toArray⟩] 9)) hX7.out.lt); clear hb3) | (go_at_fn 104; (with_reducible refine (hcl.out _ hq3.out).mono ?_); rintro e w8 ⟨rfl, hbb, hkk, hdd⟩; have hX8 := hdZ (kept_blk hkk (hX7.out.below (hq3.out.alloc hq3.out.size (.cells #[.string ⟨#[115, 117, 109]⟩, .string ⟨c.currency.toArray⟩, .string ⟨(decN 20 c.amount.toNat).toArray⟩, .string ⟨#[97, 98, 111, 118, 101]⟩, .string ⟨(decN 20 c.above.toNat).toArray⟩, .string ⟨#[98, 101, 108, 111, 119]⟩, .string ⟨(decN 20 c.below.toNat).toArray⟩] 9)) hX7.out.lt) neb (by decide)); have hS5 := hXs.out w8 hX8.out))
  have hB8 := hdZ (hB7.out.trans (((hq3.out.mono hB7.out.size).alloc (Nat.le_trans hB7.out.size hq3.out.size) _).trans (hbb.mono (Nat.le_succ _)))); have hS8 := hdZ (Nat.le_trans hS7.out (Nat.le_trans hq3.out.size (Nat.le_trans (by simp) hbb.size))); have hD8 : Hid (Bld w8 (w.heap.size + 1) (w.heap.size + 1) (textL (heads c ++ confL c ++ [[[102, 114, 111, 109], c.orig]] ++ [[[116, 111], c.dest]] ++ [[[115, 117, 109], c.currency, (decN 20 c.amount.toNat), [97, 98, 111, 118, 101], (decN 20 c.above.toNat), [98, 101, 108, 111, 119], (decN 20 c.below.toNat)]]))) := by unfold Hid; rw [textL_snoc]; exact hdd
  have hL8 : Hid ((textL (heads c ++ confL c ++ [[[102, 114, 111, 109], c.orig]] ++ [[[116, 111], c.dest]] ++ [[[115, 117, 109], c.currency, (decN 20 c.amount.toNat), [97, 98, 111, 118, 101], (decN 20 c.above.toNat), [98, 101, 108, 111, 119], (decN 20 c.below.toNat)]])).length ≤ 390) := snoc_len hL7.out hsp.out; clear hbb hkk hdd hcl hfi hia hib hsp hXs hS0 hS1 hS2 hS3 hS4 hS5 hq1 hq2 hq3 hB7 hX7 hS7 hD7 hL7
  go_upto_region 12 with fail
  have m11 : w8.cell? (Az w.heap.size 11) = some (Iz c.latest) := (hX8.out.cell 11).trans (hk.out 11 (by decide)); have mlt := hX8.out.lt; have hia := hdZ (itoa_any c.latest hs.out.latest.1 hs.out.latest.2 w8 (he.out.below hB8.out))
  have hsp : Hid ((spaced [[108, 97, 116, 101, 115, 116], (decN 20 c.latest.toNat)]).length + 2 ≤ 40) := by
   have h2 := (decN_len 20 c.latest.toNat (by omega)).2; unfold Hid; simp only [spaced_cons, spaced_one, List.length_append, List.length_cons, List.length_nil]; omega
  have hcl := hdZ (ln_step [[108, 97, 116, 101, 115, 116], (decN 20 c.latest.toNat)] 40 2 430 hB8 hX8 hS8 hD8 hL8 rfl (by decide) hsp.out (by decide) (by decide))
  go_upto_region 13 with (first | (go_at_call 105; refine hia.out.mono ?_; rintro e v ⟨rfl, hq⟩) | (go_at_fn 104; refine (hcl.out _ hq).mono ?_; rintro e w9 ⟨rfl, hB9, hX9, hS9, hD9, hL9⟩))
  clear hcl hia hsp hq hB8 hX8 hS8 hD8 hL8 m11 mlt; have m12 : w9.cell? (Az w.heap.size 12) = some (Iz c.expiry) := (hX9.out.cell 12).trans (hk.out 12 (by decide)); have mlt := hX9.out.lt; have hia := hdZ (itoa_any c.expiry hs.out.expiry.1 hs.out.expiry.2 w9 (he.out.below hB9.out))
  have hsp : Hid ((spaced [[101, 120, 112, 105, 114, 121], (decN 20 c.expiry.toNat)]).length + 2 ≤ 40) := by
   have h2 := (decN_len 20 c.expiry.toNat (by omega)).2; unfold Hid; simp only [spaced_cons, spaced_one, List.length_append, List.length_cons, List.length_nil]; omega
  have hcl := hdZ (ln_step [[101, 120, 112, 105, 114, 121], (decN 20 c.expiry.toNat)] 40 2 470 hB9 hX9 hS9 hD9 hL9 rfl (by decide) hsp.out (by decide) (by decide))
  go_upto_region 14 with (first | (go_at_call 105; refine hia.out.mono ?_; rintro e v ⟨rfl, hq⟩) | (go_at_fn 104; refine (hcl.out _ hq).mono ?_; rintro e w10 ⟨rfl, hB10, hX10, hS10, hD10, hL10⟩))
  clear hcl hia hsp hq hB9 hX9 hS9 hD9 hL9 m12 mlt; have m13 : w10.cell? (Az w.heap.size 13) = some (Iz c.within) := (hX10.out.cell 13).trans (hk.out 13 (by decide)); have mlt := hX10.out.lt; have hia := hdZ (itoa_any c.within hs.out.within.1 hs.out.within.2 w10 (he.out.below hB10.out))
  have hsp : Hid ((spaced [[119, 105, 116, 104, 105, 110], (decN 20 c.within.toNat), [100, 97, 121, 115]]).length + 2 ≤ 40) := by
   have h2 := (decN_len 20 c.within.toNat (by omega)).2; unfold Hid; simp only [spaced_cons, spaced_one, List.length_append, List.length_cons, List.length_nil]; omega
  have hcl := hdZ (ln_step [[119, 105, 116, 104, 105, 110], (decN 20 c.within.toNat), [100, 97, 121, 115]] 40 3 510 hB10 hX10 hS10 hD10 hL10 rfl (by decide) hsp.out (by decide) (by decide))
  go_upto_region 15 with (first | (go_at_call 105; refine hia.out.mono ?_; rintro e v ⟨rfl, hq⟩) | (go_at_fn 104; refine (hcl.out _ hq).mono ?_; rintro e w11 ⟨rfl, hB11, hX11, hS11, hD11, hL11⟩))
  clear hcl hia hsp hq hB10 hX10 hS10 hD10 hL10 m13 mlt; have e11 : heads c ++ confL c ++ [[[102, 114, 111, 109], c.orig]] ++ [[[116, 111], c.dest]] ++ [[[115, 117, 109], c.currency, (decN 20 c.amount.toNat), [97, 98, 111, 118, 101], (decN 20 c.above.toNat), [98, 101, 108, 111, 119], (decN 20 c.below.toNat)]] ++ [[[108, 97, 116, 101, 115, 116], (decN 20 c.latest.toNat)]] ++ [[[101, 120, 112, 105, 114, 121], (decN 20 c.expiry.toNat)]] ++ [[[119, 105, 116, 104, 105, 110], (decN 20 c.within.toNat), [100, 97, 121, 115]]] = heads c ++ confL c ++ midL c := by simp [midL]
  have hDm : Hid (Bld w11 (w.heap.size + 1) (w.heap.size + 1) (textL (heads c ++ confL c ++ midL c))) := by rw [← e11]; exact hD11
  have hLm : Hid ((textL (heads c ++ confL c ++ midL c)).length ≤ 510) := by rw [← e11]; exact hL11
  clear hD11 hL11 e11; have m14 : w11.cell? (Az w.heap.size 14) = some (Iz c.tenor) := (hX11.out.cell 14).trans (hk.out 14 (by decide)); have mlt := hX11.out.lt
  go_upto_if 83 with fail
  go_cut [] (fun wx => Hid (Bz w wx) ∧ Hid (Blk wx w.heap.size 41 C) ∧ Hid (w.heap.size + 1 ≤ wx.heap.size) ∧ Hid (Bld wx (w.heap.size + 1) (w.heap.size + 1) (textL (heads c ++ confL c ++ midL c ++ tenL c))) ∧ Hid ((textL (heads c ++ confL c ++ midL c ++ tenL c)).length ≤ 550))
  case first =>
   have hD11 := hDm; have hL11 := hLm
   by_cases ht0 : c.tenor = 0
   ·have bc : (c.tenor == 0) = true := by simp [ht0]
    have bd : decide (c.tenor = 0) = true := by simp [ht0]
    have e5 : heads c ++ confL c ++ midL c ++ tenL c = heads c ++ confL c ++ midL c ++ [[[116, 101, 110, 111, 114], [115, 105, 103, 104, 116]]] := by unfold tenL; rw [if_pos ht0]
    simp only [bc]; have hcl := hdZ (ln_step [[116, 101, 110, 111, 114], [115, 105, 103, 104, 116]] 40 2 550 hB11 hX11 hS11 hD11 hL11 rfl (by decide) (by rw [two_len]; simp) (by decide) (by decide) w11 (Below.refl _ _)); go_wp2_with fail; go_at_fn 104; refine hcl.out.mono ?_; rintro e w12 ⟨rfl, hB12, hX12, hS12, hD12, hL12⟩; clear hcl hB11 hX11 hS11 hD11 hL11 ; go_wp2_with fail
    go_meet
    case rel => exact ⟨hB12, hX12, hS12, by rw [e5]; exact hD12, by rw [e5]; exact hL12⟩
   ·have bc : (c.tenor == 0) = false := by simp [ht0]
    have bd : decide (c.tenor = 0) = false := by simp [ht0]
    have e5 : heads c ++ confL c ++ midL c ++ tenL c = heads c ++ confL c ++ midL c ++ [[[116, 101, 110, 111, 114], decN 20 c.tenor.toNat, [100, 97, 121, 115]]] := by unfold tenL; rw [if_neg ht0]
    simp only [bc]; have m14 : w11.cell? (Az w.heap.size 14) = some (Iz c.tenor) := (hX11.out.cell 14).trans (hk.out 14 (by decide)); have mlt := hX11.out.lt; have hia := hdZ (itoa_any c.tenor hs.out.tenor.1 hs.out.tenor.2 w11 (he.out.below hB11.out))
    have hsp : Hid ((spaced [[116, 101, 110, 111, 114], (decN 20 c.tenor.toNat), [100, 97, 121, 115]]).length + 2 ≤ 40) := by
     have h2 := (decN_len 20 c.tenor.toNat (by omega)).2; unfold Hid; simp only [spaced_cons, spaced_one, List.length_append, List.length_cons, List.length_nil]; omega
    have hcl := hdZ (ln_step [[116, 101, 110, 111, 114], (decN 20 c.tenor.toNat), [100, 97, 121, 115]] 40 3 550 hB11 hX11 hS11 hD11 hL11 rfl (by decide) hsp.out (by decide) (by decide)); go_wp2_with fail
    go_at_call 105
    refine hia.out.mono ?_; rintro e v ⟨rfl, hq⟩; go_wp2_with fail; go_at_fn 104; refine (hcl.out _ hq).mono ?_; rintro e w12 ⟨rfl, hB12, hX12, hS12, hD12, hL12⟩; clear hcl hia hsp hq hB11 hX11 hS11 hD11 hL11 m14 mlt; go_wp2_with fail
    go_meet
    case rel => exact ⟨hB12, hX12, hS12, by rw [e5]; exact hD12, by rw [e5]; exact hL12⟩
  case rest =>
   obtain ⟨hB12, hX12, hS12, hD12, hL12⟩ := hcut; clear hB11 hX11 hS11 hDm hLm m14 mlt; obtain ⟨w12, hwk⟩ : ∃ y, wc = y := ⟨_, rfl⟩; rw [hwk] at hB12 hX12 hS12 hD12 ⊢; clear hwk
   go_upto_region 18 with fail
   have m15 : w12.cell? (Az w.heap.size 15) = some (.bool c.part) := (hX12.out.cell 15).trans (hk.out 15 (by decide)); have mlt := hX12.out.lt; have hcl := hdZ (ln_step [[112, 97, 114, 116, 105, 97, 108], (yesT c.part)] 40 2 590 hB12 hX12 hS12 hD12 hL12 rfl (by decide) (by rw [two_len]; unfold yesT; split <;> simp) (by decide) (by decide) w12 (Below.refl _ _))
   go_upto_region 19 with (first | (go_at_call 106; refine (yes_any c.part _).mono ?_; rintro e v ⟨rfl, rfl⟩) | (go_at_fn 104; refine hcl.out.mono ?_; rintro e w13 ⟨rfl, hB13, hX13, hS13, hD13, hL13⟩))
   clear hcl hB12 hX12 hS12 hD12 hL12 m15 mlt; have m16 : w13.cell? (Az w.heap.size 16) = some (.bool c.change) := (hX13.out.cell 16).trans (hk.out 16 (by decide)); have mlt := hX13.out.lt; have hcl := hdZ (ln_step [[99, 104, 97, 110, 103, 101], (yesT c.change)] 40 2 630 hB13 hX13 hS13 hD13 hL13 rfl (by decide) (by rw [two_len]; unfold yesT; split <;> simp) (by decide) (by decide) w13 (Below.refl _ _))
   go_upto_region 20 with (first | (go_at_call 106; refine (yes_any c.change _).mono ?_; rintro e v ⟨rfl, rfl⟩) | (go_at_fn 104; refine hcl.out.mono ?_; rintro e w14 ⟨rfl, hB14, hX14, hS14, hD14, hL14⟩))
   clear hcl hB13 hX13 hS13 hD13 hL13 m16 mlt
   have hDt : Hid (Bld w14 (w.heap.size + 1) (w.heap.size + 1) (textL (topL c ++ (l.take 0).map needL))) := by
    have e0 : topL c ++ (l.take 0).map needL = topL c := by simp
    unfold Hid; rw [e0]; exact hD14.out
   have htop := hdZ (top_len hs.out); have m17 : w14.cell? (Az w.heap.size 17) = some (.slice A n cc) := (hX14.out.cell 17).trans (hk.out 17 (by decide)); have mlt := hX14.out.lt; clear hD14 hL14; obtain ⟨i0, hi, hz0, hz1, hz2⟩ := info_parts (P := Tryz.prog) (e := 9) (z := S0z) (size := 1) (bytes := 16) (by kernel_rfl); go_wp2_with fail
   go_loopg [108] n (fun gg a wr => ∃ q : Nat, q ≤ n ∧ gg = n - q ∧ a = Iz q ∧ Hid (Bz w wr) ∧ Hid (w.heap.size + 1 ≤ wr.heap.size) ∧ Hid (Bld wr (w.heap.size + 1) (w.heap.size + 1) (textL (topL c ++ (l.take q).map needL))))
   case atStart => exact ⟨0, Nat.zero_le _, rfl, rfl, hB14, hS14, hDt⟩
   case round =>
    clear hB14 hS14 hDt hX14 m17 mlt; obtain ⟨q, hq, hg, rfl, hB, hS, hD⟩ := hrel; have hg' := hdZ hg; clear hg
    by_cases hlt : q < n
    ·have i1 : decide ((q : Int) < (n : Int)) = true := by simp; omega
     have i2 : (q : Int) < (n : Int) := by omega
     have i3 : (0 : Int) ≤ (q : Int) := by omega
     obtain ⟨x, hxq⟩ : ∃ x, l[q]? = some x := ⟨_, List.getElem?_eq_getElem (by have := hl.out; omega)⟩; have hmem := List.mem_of_getElem? hxq; obtain ⟨k0, k6, c1', c9, hmr⟩ := need_parts (hneeds.out x hmem); have hzx := hz.out x hmem
     have hlen : Hid ((textL (topL c ++ (l.take q).map needL)).length ≤ 10000000000) := by
      have h1 := needs_len (l.take q) 100000000 (fun y hy => hz.out y (List.mem_of_mem_take hy)); have h2 := htop.out; have h3 : (l.take q).length ≤ 64 := by have := hn64.out; rw [List.length_take]; omega
      have h4 : (l.take q).length * (100000000 + 100) ≤ 64 * (100000000 + 100) := Nat.mul_le_mul_right _ h3; unfold Hid; rw [textL_app, List.length_append]; omega
     have hsn := hdZ (need_len x 100000000 hzx)
     have hstep : Hid (textL (topL c ++ (l.take (q + 1)).map needL) = textL (topL c ++ (l.take q).map needL) ++ lineT (needL x)) := by
      unfold Hid; rw [List.take_add_one, hxq]; simp only [Option.toList, List.map_append, List.map_cons, List.map_nil, ← List.append_assoc]; exact textL_snoc _ _
     obtain ⟨bb, off, rfl, _, hc, hTt⟩ := (hN.out.below hB.out) q x hxq; obtain ⟨acc, hacc⟩ := nmZ (textL (topL c ++ (l.take q).map needL)); obtain ⟨al, hal⟩ := nmZ (alwaysR (stz x.rule)); obtain ⟨sh, hsh⟩ := nmZ (shownR (stz x.rule)); obtain ⟨pt, hpt⟩ := nmZ (paperT x.kind); obtain ⟨dn, hdn⟩ := nmZ (decN 20 x.count.toNat)
     have c1 : Hid (∀ W, Cz 107 #[.agg x.rule.cells] W fun e w' => e = .returned (.bool al) ∧ Bz W w') := fun W => by
      have h := always_any x.rule W; rw [hal.out] at h; exact h
     have c2 : Hid (∀ W, Bz wr W → Cz 17 #[.agg x.rule.cells] W fun e w' => e = .returned (Sz sh) ∧ Bz W w') := fun W hW => by
      have h := showR_any x.rule W ok (he.out.below (hB.out.trans (hW.mono hB.out.size))) (hTt.below hW) (hdZ (by unfold mostZ; omega)); rw [hsh.out] at h; exact h
     have c3 : Hid (∀ W, Bz w W → Cz 105 #[Iz x.count] W fun e w' => e = .returned (Sz dn) ∧ Bz W w') := fun W hW => by
      have h := itoa_any x.count (by omega) (by omega) W (he.out.below hW); rw [hdn.out] at h; exact h
     have hnd : Hid (needL x = [[119, 97, 110, 116, 115], pt, [99, 111, 112, 105, 101, 115], dn] ++ (if al = true then [] else [[119, 105, 116, 104], sh])) := by
      unfold Hid needL; rw [hal.out, hpt.out, hdn.out]
      cases al with
      | true => rfl
      | false =>
       have hmt : mayR (stz x.rule) = true := hmr.resolve_left (by rw [hal.out]; decide); have : showR (stz x.rule) = sh := by rw [← hsh.out]; unfold shownR; rw [if_pos hmt]
       rw [this]
     rw [hacc.out] at hD hlen hstep; obtain ⟨pn, hpn⟩ : ∃ pn : Nat, x.kind = (pn : Int) := ⟨x.kind.toNat, by omega⟩; have hp6 : pn < 6 := by omega
     have hgl : Hid (papersA[pn]? = some (Sz pt)) := by
      unfold Hid; rw [← hpt.out, hpn]; show papersA[pn]? = some (.string ⟨(ppL.getD ((pn : Int)).toNat []).toArray⟩); rw [show ((pn : Int)).toNat = pn by omega]; obtain rfl | rfl | rfl | rfl | rfl | rfl : pn = 0 ∨ pn = 1 ∨ pn = 2 ∨ pn = 3 ∨ pn = 4 ∨ pn = 5 := by omega
      all_goals rfl
     have hpc : Hid (∀ W, Bz w W → W.cell? (Az 0 pn) = some (Sz pt)) := fun W hW => ((he.out.below hW).papers pn hp6).trans hgl.out
     have p0 : (0 : Int) ≤ (pn : Int) := by omega
     have p6 : (pn : Int) < 6 := by omega
     clear hxq hmem hmr hzx hTt hacc hal hsh hpt hdn hgl k0 k6 c1' c9 hp6; obtain ⟨xk, xn, ⟨tk, tp, tf, tx, tn, tA, tc, tL⟩⟩ := x; obtain rfl : xk = (pn : Int) := hpn; have g0 : wr.cell? ⟨bb, off + q * 8, none⟩ = some (Iz pn) := hc 0 _ rfl; have g1 : wr.cell? ⟨bb, off + q * 8 + 1, none⟩ = some (Iz xn) := hc 1 _ rfl; have g2 : wr.cell? ⟨bb, off + q * 8 + 2, none⟩ = some (Iz tk) := hc 2 _ rfl; have g3 : wr.cell? ⟨bb, off + q * 8 + 3, none⟩ = some (Iz tp) := hc 3 _ rfl; have g4 : wr.cell? ⟨bb, off + q * 8 + 4, none⟩ = some (Sz tf) := hc 4 _ rfl; have g5 : wr.cell? ⟨bb, off + q * 8 + 5, none⟩ = some (Sz tx) := hc 5 _ rfl; have g6 : wr.cell? ⟨bb, off + q * 8 + 6, none⟩ = some (Iz tn) := hc 6 _ rfl; have g7 : wr.cell? ⟨bb, off + q * 8 + 7, none⟩ = some (.slice tA tL.length tc) := hc 7 _ rfl; clear hc; simp only [Tree.cells] at c1 c2 c3; have hbl : Bz wr (wr.alloc (.cells (z4z pn xn tk tp tf tx tn tA tL.length tc) 74)) := (Below.refl _ _).alloc leZ _; have hM := hdZ (Blk.new wr 74 (z4z pn xn tk tp tf tx tn tA tL.length tc)); have hBn := hdZ (hB.out.trans (hbl.mono hB.out.size)); have hDn := hdZ (hD.out.below hbl); have hbl' := hdZ hbl; obtain ⟨wb, hwb⟩ := nmZ (wr.alloc (.cells (z4z pn xn tk tp tf tx tn tA tL.length tc) 74)); clear hbl
     go_upto_region 23 with fail
     rw [hwb.out] at hM hBn hDn hbl' ⊢; obtain ⟨G, hG⟩ := nmZ (wr.heap.size); have hSn : Hid (w.heap.size + 1 ≤ G) := by rw [← hG.out]; exact hS
     have hSb : Hid (w.heap.size + 1 ≤ wb.heap.size) := Nat.le_trans hS.out hbl'.out.size; rw [hG.out] at hM ⊢; clear hwb g0 g1 g2 g3 g4 g5 g6 g7; have hXs : Hid (∀ W, Bz wb W → W.cell? (Az G 0) = some (Iz pn) ∧ W.cell? (Az G 1) = some (Iz xn) ∧ W.cell? (Az 0 pn) = some (Sz pt)) := fun W hW => ⟨(hM.out.below hW hM.out.lt).cell 0, (hM.out.below hW hM.out.lt).cell 1, hpc.out W (hBn.out.trans (hW.mono hBn.out.size))⟩
     have hia : Hid (∀ W, Bz wb W → Cz 105 #[Iz xn] W fun e w' => e = .returned (Sz dn) ∧ Bz W w') := fun W hW => c3.out W (hBn.out.trans (hW.mono hBn.out.size))
     have hS0 := hXs.out wb (Below.refl _ _)
     go_region_held3 (fun W => W.cell? (Az G 0) = some (Iz pn) ∧ W.cell? (Az G 1) = some (Iz xn) ∧ W.cell? (Az 0 pn) = some (Sz pt)) (first | exact hS2 | exact hS1 | exact hS0) (first | (go_at_call 105; (with_reducible refine (hia.out _ (Below.refl _ _).drew).mono ?_); rintro e v1 ⟨rfl, hb1⟩; have hq1 : Hid (Bz wb v1) := (Below.refl _ wb).drew.trans hb1; have hS1 := hXs.out v1 hq1.out; have hS2 := hXs.out (v1.alloc (.cells #[.string ⟨#[119, 97, 110, 116, 115]⟩, Sz pt, .string ⟨#[99, 111, 112, 105, 101, 115]⟩, Sz dn] 9)) (hq1.out.alloc hq1.out.size _); clear hb1))
     have hq4 : Hid (Bz wb (v1.alloc (.cells #[.string ⟨#[119, 97, 110, 116, 115]⟩, Sz pt, .string ⟨#[99, 111, 112, 105, 101, 115]⟩, Sz dn] 9))) := hq1.out.alloc hq1.out.size _; have hW4 := hdZ (Blk.new v1 9 #[.string ⟨#[119, 97, 110, 116, 115]⟩, Sz pt, .string ⟨#[99, 111, 112, 105, 101, 115]⟩, Sz dn]); have hM4 := hdZ (hM.out.below hq4.out hM.out.lt); have hB4 := hdZ (hBn.out.trans (hq4.out.mono hBn.out.size)); have hl4 := hdZ (hbl'.out.trans (hq4.out.mono hbl'.out.size)); have hD4 := hdZ (hDn.out.below hq4.out); have hS4 : Hid (w.heap.size + 1 ≤ (v1.alloc (.cells #[.string ⟨#[119, 97, 110, 116, 115]⟩, Sz pt, .string ⟨#[99, 111, 112, 105, 101, 115]⟩, Sz dn] 9)).heap.size) := Nat.le_trans hSb.out hq4.out.size; clear hS0 hS1 hS2 hXs hia hq1 hq4 hM hBn hDn hbl' hSb hS hD hB; obtain ⟨w4, hw4⟩ := nmZ (v1.alloc (.cells #[.string ⟨#[119, 97, 110, 116, 115]⟩, Sz pt, .string ⟨#[99, 111, 112, 105, 101, 115]⟩, Sz dn] 9)); obtain ⟨G4, hG4⟩ := nmZ (v1.heap.size); rw [hw4.out] at hW4 hM4 hB4 hl4 hD4 hS4 ⊢; rw [hG4.out] at hW4 ⊢; clear hw4 hG4; have m2 : w4.cell? (Az G 2) = some (Iz tk) := hM4.out.cell 2; have m3 : w4.cell? ⟨G, 2 + 1, none⟩ = some (Iz tp) := hM4.out.cell 3; have m4 : w4.cell? ⟨G, 2 + 2, none⟩ = some (Sz tf) := hM4.out.cell 4; have m5 : w4.cell? ⟨G, 2 + 3, none⟩ = some (Sz tx) := hM4.out.cell 5; have m6 : w4.cell? ⟨G, 2 + 4, none⟩ = some (Iz tn) := hM4.out.cell 6; have m7 : w4.cell? ⟨G, 2 + 5, none⟩ = some (.slice tA tL.length tc) := hM4.out.cell 7; have mlt := hM4.out.lt; go_wp2_with fail; refine (c1.out w4).mono ?_; rintro e w5 ⟨rfl, hb5⟩; have hB5 := hdZ (hB4.out.trans (hb5.mono hB4.out.size)); have hl5 := hdZ (hl4.out.trans (hb5.mono hl4.out.size)); have hM5 := hdZ (hM4.out.below hb5 hM4.out.lt); have hW5 := hdZ (hW4.out.below hb5 hW4.out.lt); have hD5 := hdZ (hD4.out.below hb5); have hS5 := hdZ (Nat.le_trans hS4.out hb5.size); clear hb5 hB4 hl4 hM4 hW4 hD4 hS4 m2 m3 m4 m5 m6 m7 mlt c1
     cases al with
     | true =>
      rw [if_pos rfl, List.append_nil] at hnd
      have hwd : Hid (WordsAt w5 G4 [[119, 97, 110, 116, 115], pt, [99, 111, 112, 105, 101, 115], dn]) := fun j y hj => by
       rw [hW5.out.cell j]; have h := congrArg (Option.map fun t : Txt => Value.string ⟨t.toArray⟩) hj; rw [← List.getElem?_map] at h; simpa using h
      have hg0 := hW5.out.lt; have hgc : 4 ≤ 4 := Nat.le_refl _; have hcl := hdZ (line_any (w.heap.size + 1) (w.heap.size + 1) acc [[119, 97, 110, 116, 115], pt, [99, 111, 112, 105, 101, 115], dn] G4 4 4 w5 rfl hwd hg0 hgc (by decide) hD5 (by have h1 := hlen.out; have h2 := hsn.out; rw [hnd.out] at h2; omega) hS5.out); go_wp2_with fail; go_at_fn 104; refine hcl.out.mono ?_; rintro e w9 ⟨rfl, hbb, hkk, hdd⟩; have hB9 := hdZ (hB5.out.trans (hbb.mono (Nat.le_succ _))); have hS9 := hdZ (Nat.le_trans hS5.out hbb.size); have hD9 : Hid (Bld w9 (w.heap.size + 1) (w.heap.size + 1) (textL (topL c ++ (l.take (q + 1)).map needL))) := by unfold Hid; rw [hstep.out, hnd.out]; exact hdd
      clear hbb hkk hdd hcl; go_wp2_with fail
      go_roundg (n - (q + 1))
      case measure => have := hg'.out; omega
      case rel => exact ⟨q + 1, by omega, rfl, by go_num, hB9, hS9, hD9⟩
     | false =>
      rw [if_neg (by decide)] at hnd; have m2 : w5.cell? (Az G 2) = some (Iz tk) := hM5.out.cell 2; have m3 : w5.cell? ⟨G, 2 + 1, none⟩ = some (Iz tp) := hM5.out.cell 3; have m4 : w5.cell? ⟨G, 2 + 2, none⟩ = some (Sz tf) := hM5.out.cell 4; have m5 : w5.cell? ⟨G, 2 + 3, none⟩ = some (Sz tx) := hM5.out.cell 5; have m6 : w5.cell? ⟨G, 2 + 4, none⟩ = some (Iz tn) := hM5.out.cell 6; have m7 : w5.cell? ⟨G, 2 + 5, none⟩ = some (.slice tA tL.length tc) := hM5.out.cell 7; have mlt := hM5.out.lt; go_wp2_with fail; refine (c2.out w5 hl5.out).mono ?_; rintro e w6 ⟨rfl, hb6⟩; have hbl6 : Bz w6 (w6.alloc (.cells #[.string ⟨#[119, 105, 116, 104]⟩, Sz sh] 9)) := (Below.refl _ _).alloc leZ _; have hb7 := hb6.trans (hbl6.mono hb6.size); have hB7 := hdZ (hB5.out.trans (hb7.mono hB5.out.size)); have hW7 := hdZ (hW5.out.below hb7 hW5.out.lt); have hV7 := hdZ (Blk.new w6 9 #[.string ⟨#[119, 105, 116, 104]⟩, Sz sh]); have hD7 := hdZ (hD5.out.below hb7); have hS7 := hdZ (Nat.le_trans hS5.out hb7.size); clear hb6 hb7 hbl6 hB5 hl5 hM5 hW5 hD5 hS5 m2 m3 m4 m5 m6 m7 mlt c2
      go_wp2_with (at_builtin; go_must (refine wpList_words2 rfl (.tmp 124) (.tmp 128) 110 rfl i0 _ 16 Tryz.underlying110 hi hz0 hz1 hz2 rfl rfl G4 w6.heap.size [[119, 97, 110, 116, 115], pt, [99, 111, 112, 105, 101, 115], dn] [[119, 105, 116, 104], sh] rfl rfl hW7.out hV7.out rfl rfl ?_); intro g8 cap8 w8 hg0 hgc hwd8 hb8)
      have hwd := hdZ hwd8; have hB8 := hdZ (hB7.out.trans (hb8.mono hB7.out.size)); have hD8 := hdZ (hD7.out.below hb8); have hS8 := hdZ (Nat.le_trans hS7.out hb8.size); clear hwd8 hb8 hB7 hW7 hV7 hD7 hS7; have hcl := hdZ (line_any (w.heap.size + 1) (w.heap.size + 1) acc ([[119, 97, 110, 116, 115], pt, [99, 111, 112, 105, 101, 115], dn] ++ [[119, 105, 116, 104], sh]) g8 6 cap8 w8 rfl hwd hg0 hgc (by decide) hD8 (by have h1 := hlen.out; have h2 := hsn.out; rw [hnd.out] at h2; omega) hS8.out); go_wp2_with fail; go_at_fn 104; refine hcl.out.mono ?_; rintro e w9 ⟨rfl, hbb, hkk, hdd⟩; have hB9 := hdZ (hB8.out.trans (hbb.mono (Nat.le_succ _))); have hS9 := hdZ (Nat.le_trans hS8.out hbb.size); have hD9 : Hid (Bld w9 (w.heap.size + 1) (w.heap.size + 1) (textL (topL c ++ (l.take (q + 1)).map needL))) := by unfold Hid; rw [hstep.out, hnd.out]; exact hdd
      clear hbb hkk hdd hcl; go_wp2_with fail
      go_roundg (n - (q + 1))
      case measure => have := hg'.out; omega
      case rel => exact ⟨q + 1, by omega, rfl, by go_num, hB9, hS9, hD9⟩
    ·have i1 : decide ((q : Int) < (n : Int)) = false := by simp; omega
     obtain rfl : n = q := by omega
     have hfin : Hid (textL (topL c ++ (l.take n).map needL) = creditT c l) := by
      unfold Hid creditT; rw [List.take_of_length_le (by have := hl.out; omega)]
     rw [hfin.out] at hD; obtain ⟨tt, htt⟩ := nmZ (creditT c l); rw [htt.out] at hD; clear hfin; go_wp2_with fail; refine (Tryz.Builder_String_any_k (w.heap.size + 1) (w.heap.size + 1) tt wr hD.out hS.out).mono ?_; rintro e w3 ⟨rfl, _, hB3, _⟩; go_wp2_with fail; go_ret; exact ⟨by rw [htt.out]; rfl, hB.out.trans (hB3.mono (Nat.le_succ _))⟩
end Go.Proofs.YtjkmhlfjheiekaaGreatDoor

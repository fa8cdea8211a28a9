import Derived.StillTailTactics
import Derived.Test.YtjkmhlfjheiekaaGreatDoorPd
set_option maxRecDepth 1000000
set_option maxHeartbeats 51200000
namespace Go.Proofs.YtjkmhlfjheiekaaGreatDoor
open Go Go.RowKit Go.BigFrame Go.Maps
def Parsed (w : World) (y : Except (Nat × Int) (Crd × List NdP)) (x : Ending) (w' : World) : Prop := Bz w w' ∧ match y with
 | .ok (cr, L) => ∃ (T : List Nd) (A2 : Option Addr) (c2 : Nat), x = .returned (.tuple #[.agg (cr.cells (.slice A2 T.length c2)), Iz 0, Iz 0]) ∧ NdsAt w' (fun b => w.heap.size ≤ b) A2 T ∧ T.map ndP = L ∧ T.length ≤ 5000
 | .error (k, cd) => x = .returned (.tuple #[.agg zeroC, Iz k, Iz cd]) ∧ cd ≠ 0
def endC (r : (Crd × List NdP) × St) : Except (Nat × Int) (Crd × List NdP) := if r.2.cd = 0 then .ok r.1 else .error (r.2.pl, r.2.cd)
theorem parse_noscan {s : Txt} {k : Nat} {cd : Int} (e : Nat) (hcd : cd ≠ 0) (h : 4096 < s.length ∧ k = 0 ∧ cd = 7 ∨ s.length ≤ 4096 ∧ scanT s = .error (k, cd)) : parseT s = endC (creditS e [] ⟨0, k, cd⟩) := by
 have h1 : endC (creditS e [] ⟨0, k, cd⟩) = .error (k, cd) := by
  have hb := credit_bad (e := e) (l := []) (st := ⟨0, k, cd⟩) hcd; unfold endC; rw [hb, if_neg hcd]
 rw [h1]
 unfold parseT
 rcases h with ⟨h, rfl, rfl⟩ | ⟨h, h2⟩
 ·rw [if_pos h]
 ·rw [if_neg (by omega), h2]
theorem parse_tokens {s : Txt} {l : List Tok} (h1 : s.length ≤ 4096) (h2 : scanT s = .ok l) : parseT s = endC (creditS s.length l ⟨0, 0, 0⟩) := by
 unfold parseT endC
 rw [if_neg (by omega), h2]
theorem parse_any (s : ByteArray) (w : World) (hs : s.size ≤ maxLen) (he : Hid (Env w)) : Cz 23 #[.string s] w (Parsed w (parseT s.data.toList)) := by
 have hln : Hid (s.data.toList.length = s.size) := by unfold Hid; simp
 have h8 : Hid (8 ≤ w.heap.size + 1) := by have := he.out.size; unfold Hid; omega
 have hR0 : Hid (Blk (w.alloc (.cells zeroC 41)) w.heap.size 41 zeroC) := Blk.new w 41 zeroC
 have hB0 : Hid (Bz w (w.alloc (.cells zeroC 41))) := (Below.refl _ w).alloc leZ _
 have hsz0 : Hid ((w.alloc (.cells zeroC 41)).heap.size = w.heap.size + 1) := by unfold Hid; simp
 have ne1 : w.heap.size + 1 ≠ w.heap.size := by omega
 have ne2 : w.heap.size ≠ w.heap.size + 1 := by omega
 go_enter Tryz.func23, Tryz.ntmps23
 go_wp2_with fail
 change Cz 30 _ (w.alloc (.cells zeroC 41)) _
 obtain ⟨wa, hwa⟩ := nmZ (w.alloc (.cells zeroC 41))
 rw [hwa.out] at hR0 hB0 hsz0 ⊢
 clear hwa
 refine (begin_any s wa hs (he.out.below hB0.out)).mono ?_
 rintro x w1 ⟨rfl, hb1, hcase⟩
 rw [hsz0.out] at hcase ⊢
 have hR1 := hdZ (hR0.out.below hb1 hR0.out.lt)
 have hB1 : Hid (Bz w w1) := hB0.out.trans (hb1.mono hB0.out.size)
 have hsz1 : Hid (w.heap.size + 1 ≤ w1.heap.size) := by have := hb1.size; have := hsz0.out; unfold Hid; omega
 clear hb1 hR0 hB0
 obtain ⟨l, A, c, st, hok, hpar, hres⟩ : ∃ (l : List Tok) (A : Option Addr) (c : Nat) (st : St), Hid (TokOk l) ∧ Hid (ParAt w1 (w.heap.size + 1) A c s.size l st) ∧ Hid (parseT s.data.toList = endC (creditS s.size l st)) := by
  rcases hcase with ⟨l, v, h4096, hsc, hl, hown, hrow⟩ | ⟨k, cd, hbad, hcd, hrow⟩
  ·obtain ⟨A, c, rfl⟩ := osz hown
   refine ⟨l, A, c, ⟨0, 0, 0⟩, tokens_ok hsc (by rw [hln.out]; exact h4096), ⟨hrow, tok_own hown (Nat.lt_succ_self _), hl, Nat.zero_le _⟩, ?_⟩; have := parse_tokens (by rw [hln.out]; exact h4096) hsc; rw [hln.out] at this; exact this
  ·exact ⟨[], none, 0, ⟨0, k, cd⟩, fun i t h => by simp at h, ⟨hrow, fun i t h => by simp at h, by simp, Nat.zero_le _⟩, parse_noscan s.size hcd (by rw [hln.out]; exact hbad)⟩
 clear hcase
 obtain ⟨⟨⟨cr, L⟩, sE⟩, hcs⟩ := nmZ (creditS s.size l st)
 rw [hcs.out] at hres
 go_wp2_with fail
 refine (credit_any w1 (w.heap.size + 1) A c s.size l st hpar hok (he.out.below hB1.out) h8).mono ?_
 rintro x w2 ⟨hu2, hq2, T, A2, c2, rfl, hnd, hT, hTl⟩
 rw [hcs.out] at hq2 hT
 simp only at hq2 hT
 rw [hcs.out]
 obtain ⟨C, hCe⟩ := nmZ (cr.cells (.slice A2 T.length c2))
 have hCs : Hid (C.size = 18) := by rw [← hCe.out]; rfl
 have hCi : Hid ((Tryz.prog.info? 41).map (·.size) = some C.size) := by unfold Hid; rw [hCs.out]; kernel_rfl
 have hC1 : Hid (C.all (·.oneCell') = true) := by unfold Hid; rw [← hCe.out, ← Array.all_toList]; rfl
 simp only
 rw [hCe.out]
 have hsz2 : Hid (w.heap.size + 1 ≤ w2.heap.size) := Nat.le_trans hsz1.out hu2.size
 have hR2 := hdZ ((hu2.blk hR1.out (by omega)).alloc (.cells zeroC 41))
 have hB2 : Hid (Bz w w2) := hu2.to_below hB1.out (by omega) hB1.out.size
 have hq2' := hdZ (hq2.below ((Below.refl _ w2).alloc leZ (.cells zeroC 41)))
 have hnd2 : Hid (NdsAt (w2.alloc (.cells zeroC 41)) (fun b => w.heap.size + 1 ≤ b ∧ b < w2.heap.size) A2 T) := fun k x hx => by
  obtain ⟨b, off, e, hk, hc, hT⟩ := hnd k x hx; have hlt : b < w2.heap.size := World.block_lt_of_cell? w2 _ (hc 0 _ rfl); have hbl : Bz w2 (w2.alloc (.cells zeroC 41)) := (Below.refl _ w2).alloc leZ _; exact ⟨b, off, e, ⟨Nat.le_trans hsz1.out hk, hlt⟩, fun i u hi => (hbl.cell (p := (Az b _)) hlt).trans (hc i u hi), (hT.mono (fun b hb hk => ⟨Nat.le_trans hsz1.out hk, hb⟩)).below hbl⟩
 have hT' := hdZ hT
 have hTl' := hdZ hTl
 have hN2 : Hid (Blk (w2.alloc (.cells zeroC 41)) w2.heap.size 41 zeroC) := Blk.new w2 41 zeroC
 have hsz3 : Hid (w.heap.size + 1 < w2.heap.size) := by have := hq2.row.lt; unfold Hid; omega
 have hB3 : Hid (Bz w (w2.alloc (.cells zeroC 41))) := hB2.out.alloc hB2.out.size _
 have hu2' := hdZ hu2
 have hsz12 : Hid (w1.heap.size ≤ w2.heap.size) := hu2.size
 clear hu2 hq2 hnd hT hTl
 go_upto_region 3 with (refine pbz rfl 41 _ _ rfl w2.heap.size zeroC C 41 rfl rfl hN2.out hCs.out.symm hCi.out hC1.out ?_; intro w3 hN3 hu3)
 have hq3 : Hid (ParAt w3 (w.heap.size + 1) A c s.size l sE) := ⟨hu3.blk hq2'.out.row (by have := hsz3.out; omega), fun i t ht => by
  obtain ⟨g, off, hA, hg, h0, h1, h2⟩ := hpar.out.tok i t ht
  have hh : ∀ o, w3.cell? (Az g o) = w1.cell? (Az g o) := fun o => by
   have hl1 : g < w1.heap.size := World.block_lt_of_cell? w1 _ h0; have e1 : w3.cell? (Az g o) = (w2.alloc (.cells zeroC 41)).cell? (Az g o) := hu3.cell (by have := hsz12.out; simp; omega) (by have := hsz12.out; show g ≠ w2.heap.size; omega); have e2 : (w2.alloc (.cells zeroC 41)).cell? (Az g o) = w2.cell? (Az g o) := ((Below.refl _ w2).alloc leZ _).cell (by have := hsz12.out; show g < w2.heap.size; omega); exact e1.trans (e2.trans (hu2'.out.cell hl1 hg))
  exact ⟨g, off, hA, hg, (hh _).trans h0, (hh _).trans h1, (hh _).trans h2⟩, hq2'.out.len, hq2'.out.pos⟩
 have hR3 := hdZ (hu3.blk hR2.out (by have := hsz3.out; omega))
 have hB4 : Hid (Bz w w3) := hu3.to_below hB3.out (by have := hsz3.out; omega) hB3.out.size
 have hN3' := hdZ hN3
 have hnd3 : Hid (NdsAt w3 (fun b => w.heap.size + 1 ≤ b) A2 T) := nds_but hnd2.out hu3 (fun b hb => by have := hb.2; omega) (fun b hb => hb.1)
 clear hu3 hN3
 obtain ⟨sk, pl, cd⟩ := sE
 have d3 : w3.cell? ⟨w.heap.size + 1, 3, none⟩ = some (Iz (pl : Nat)) := hq3.out.row.cell 3
 have d4 : w3.cell? ⟨w.heap.size + 1, 4, none⟩ = some (Iz cd) := hq3.out.row.cell 4
 have dlt := hq3.out.row.lt
 by_cases hz : cd = 0
 ·subst hz
  have hres2 : Hid (parseT s.data.toList = .ok (cr, L)) := by unfold Hid; rw [hres.out]; unfold endC; rw [if_pos rfl]
  go_wp2_with (first | (refine gbz rfl 41 _ rfl w2.heap.size C 41 _ rfl hN3'.out Tryz.underlying41 rfl hCi.out ?_) | (refine pbz rfl 41 _ _ rfl w.heap.size zeroC C 41 rfl rfl hR3.out hCs.out.symm hCi.out hC1.out ?_; intro w9 hR9 hu9))
  refine bodyPost_ret (rr2z rfl _ _ w.heap.size 41 _ _ rfl hR9 Tryz.underlying41 rfl hCi.out) rfl ?_; unfold Parsed; rw [hres2.out]; refine ⟨hu9.to_below hB4.out leZ hB4.out.size, T, A2, c2, ?_, nds_but hnd3.out hu9 (fun b hb => by omega) (fun b hb => by omega), hT'.out, hTl'.out⟩; rw [← hCe.out]; rfl
 ·have b2 : (cd != 0) = true := by simp [hz]
  have hz' := hdZ hz; have hres2 : Hid (parseT s.data.toList = .error (pl, cd)) := by unfold Hid; rw [hres.out]; unfold endC; rw [if_neg hz]
  clear hz; go_wp2_with fail; obtain ⟨rc0, rc1, rc2, rc3, rc4, rc5, rc6, rc7, rc8, rc9, rc10, rc11, rc12, rc13, rc14, rc15, rc16, rc17, rf0, rf1, rf2, rf3, rf4, rf5, rf6, rf7, rf8, rf9, rf10, rf11, rf12, rf13, rf14, rf15, rf16, rf17⟩ := cf18 hR3.out; have rlt := hR3.out.lt
  go_region
  all_goals
   go_wp2_with fail; refine bodyPost_ret (rr2z rfl _ _ w.heap.size 41 _ _ rfl (Blk.drew ((((((((((st9z (hR3.out)).set_ 9 _).set_ 10 _).set_ 11 _).set_ 12 _).set_ 13 _).set_ 14 _).set_ 15 _).set_ 16 _).set_ 17 _)) Tryz.underlying41 rfl (by kernel_rfl)) rfl ?_; unfold Parsed; rw [hres2.out]; exact ⟨Below.drew (sc9z ((sc9z (hB4.out)))), rfl, hz'.out⟩
end Go.Proofs.YtjkmhlfjheiekaaGreatDoor

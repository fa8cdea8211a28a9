/- The document's reader of rules: an atom, a not, a rule within brackets (walk of atom). -/
import Derived.Test.YtjkmhlfjheiekaaGreatDoorVd
namespace Go.Proofs.YtjkmhlfjheiekaaGreatDoor
open Go Go.RowKit Go.BigFrame Go.Maps


set_option maxRecDepth 100000 in
set_option maxHeartbeats 3200000 in
theorem ratom_open_bad (A : Option Addr) (m c e : Nat) (l : List Tok) (hm : Hid (l.length = m)) (hm4 : m ≤ 4096) (w : World) (i : Nat) (hi : i ≤ m) (htk : Hid (TokAt w 0 A l)) (q1 : Hid (atI (isT [40]) l i = true)) (cd : Int) (pl : Nat) (hcd : cd ≠ 0) (hcall : Hid (∀ W, Below w.heap.size w W → Calls Tryz.prog 71 #[.slice A m c, .int .i64 (i + 1 : Nat), .int .i64 e] W (fun x w' => Below W.heap.size W w' ∧ x = .returned (.agg (gotE cd pl))))) :
    Calls Tryz.prog 148 #[.slice A m c, .int .i64 i, .int .i64 e] w (fun x w' => Below w.heap.size w w' ∧ x = .returned (.agg (gotE cd pl))) := by
  have hb0 : Hid (Below w.heap.size w (w.alloc (.cells #[.int .i64 0, .int .i64 0, .string ⟨#[]⟩, .string ⟨#[]⟩, .int .i64 0, .slice none 0 0, .int .i64 0, .int .i64 0, .int .i64 0] 65))) := (Below.refl _ w).alloc (Nat.le_refl _) _
  have hR0 := Lib.hid (Blk.new w 65 #[.int .i64 0, .int .i64 0, .string ⟨#[]⟩, .string ⟨#[]⟩, .int .i64 0, .slice none 0 0, .int .i64 0, .int .i64 0, .int .i64 0])
  have ht0 := Lib.hid (htk.out.below hb0.out)
  have hs0 : Hid ((w.alloc (.cells #[.int .i64 0, .int .i64 0, .string ⟨#[]⟩, .string ⟨#[]⟩, .int .i64 0, .slice none 0 0, .int .i64 0, .int .i64 0, .int .i64 0] 65)).heap.size = w.heap.size + 1) := by unfold Hid; simp
  have w1x : IntKind.i64.wrap ((i : Int) + 1) = ((i + 1 : Nat) : Int) := by rw [IntWalk.i64_in _ (by omega)]; omega
  have w2x : IntKind.i64.wrap ((i : Int) + 2) = ((i + 2 : Nat) : Int) := by rw [IntWalk.i64_in _ (by omega)]; omega
  go_enter Tryz.func148, Tryz.ntmps148
  go_wp2_with fail
  obtain ⟨wa, hwa⟩ : ∃ x, Hid (w.alloc (.cells #[.int .i64 0, .int .i64 0, .string ⟨#[]⟩, .string ⟨#[]⟩, .int .i64 0, .slice none 0 0, .int .i64 0, .int .i64 0, .int .i64 0] 65) = x) := ⟨_, Lib.hid rfl⟩
  change Calls Tryz.prog 48 _ (w.alloc (.cells #[.int .i64 0, .int .i64 0, .string ⟨#[]⟩, .string ⟨#[]⟩, .int .i64 0, .slice none 0 0, .int .i64 0, .int .i64 0, .int .i64 0] 65)) _
  rw [hwa.out] at hb0 hR0 ht0 hs0 ⊢
  clear hwa
  refine (ris_any A m c l wa (i) [40] hm ht0).mono ?_
  rintro x w1 ⟨rfl, rfl⟩
  rw [q1.out]
  go_wp2_with fail
  refine (hcall.out wa hb0.out).mono ?_
  rintro x w1 ⟨hb1, rfl⟩
  have hB1 := Lib.hid (hb0.out.trans (hb1.mono hb0.out.size))
  have hR1 := Lib.hid (hR0.out.below hb1 hR0.out.lt)
  have ht1 := Lib.hid (ht0.out.below hb1)
  have hsz : w.heap.size + 1 ≤ w1.heap.size := by have := hb1.size; have := hs0.out; omega
  have ne1 : w1.heap.size ≠ w.heap.size := by omega
  have ne2 : w.heap.size ≠ w1.heap.size := by omega
  clear hb1 hcall ht0 hR0
  unfold gotE
  have b1 : (cd != 0) = true := by simp [hcd]
  have rc0 : w1.cell? ⟨w.heap.size, 0, none⟩ = some (.int .i64 0) := hR1.out.cell 0
  have rc1 : w1.cell? ⟨w.heap.size, 1, none⟩ = some (.int .i64 0) := hR1.out.cell 1
  have rc2 : w1.cell? ⟨w.heap.size, 2, none⟩ = some (.string ⟨#[]⟩) := hR1.out.cell 2
  have rc3 : w1.cell? ⟨w.heap.size, 3, none⟩ = some (.string ⟨#[]⟩) := hR1.out.cell 3
  have rc4 : w1.cell? ⟨w.heap.size, 4, none⟩ = some (.int .i64 0) := hR1.out.cell 4
  have rc5 : w1.cell? ⟨w.heap.size, 5, none⟩ = some (.slice none 0 0) := hR1.out.cell 5
  have rc6 : w1.cell? ⟨w.heap.size, 6, none⟩ = some (.int .i64 0) := hR1.out.cell 6
  have rc7 : w1.cell? ⟨w.heap.size, 7, none⟩ = some (.int .i64 0) := hR1.out.cell 7
  have rc8 : w1.cell? ⟨w.heap.size, 8, none⟩ = some (.int .i64 0) := hR1.out.cell 8
  have rf0 := hR1.out.frozen 0
  have rf1 := hR1.out.frozen 1
  have rf2 := hR1.out.frozen 2
  have rf3 := hR1.out.frozen 3
  have rf4 := hR1.out.frozen 4
  have rf5 := hR1.out.frozen 5
  have rf6 := hR1.out.frozen 6
  have rf7 := hR1.out.frozen 7
  have rf8 := hR1.out.frozen 8
  have rlt := hR1.out.lt
  go_wp2_with fail
  refine bodyPost_ret (results_row rfl _ _ w.heap.size 65 _ _ rfl ((((((((((hR1.out.set_ 0 _).set_ 1 _).set_ 2 _).set_ 3 _).set_ 4 _).set_ 5 _).set_ 6 _).set_ 7 _).set_ 8 _).alloc _) Tryz.underlying65 rfl (by kernel_rfl)) rfl ?_
  exact ⟨(((((((((hB1.out.setCell (Nat.le_refl _) _).setCell (Nat.le_refl _) _).setCell (Nat.le_refl _) _).setCell (Nat.le_refl _) _).setCell (Nat.le_refl _) _).setCell (Nat.le_refl _) _).setCell (Nat.le_refl _) _).setCell (Nat.le_refl _) _).setCell (Nat.le_refl _) _).alloc (by simpa using hB1.out.size) _, rfl⟩


set_option maxRecDepth 100000 in
set_option maxHeartbeats 3200000 in
theorem ratom_open_ok (A : Option Addr) (m c e : Nat) (l : List Tok) (hm : Hid (l.length = m)) (hm4 : m ≤ 4096) (w : World) (i : Nat) (hi : i ≤ m) (htk : Hid (TokAt w 0 A l)) (q1 : Hid (atI (isT [40]) l i = true)) (r : Rul) (kx : Nat) (hkx : kx ≤ m) (hcall : Hid (∀ W, Below w.heap.size w W → Calls Tryz.prog 71 #[.slice A m c, .int .i64 (i + 1 : Nat), .int .i64 e] W (fun x w' => Below W.heap.size W w' ∧ ∃ t, x = .returned (.agg (gotV t kx)) ∧ TreeAt w' (fun b => W.heap.size ≤ b) t ∧ strip t = r))) (q2 : Hid (atI (isT [41]) l kx = true)) :
    Calls Tryz.prog 148 #[.slice A m c, .int .i64 i, .int .i64 e] w (fun x w' => Below w.heap.size w w' ∧ ∃ t, x = .returned (.agg (gotV t (kx + 1))) ∧ TreeAt w' (fun b => w.heap.size ≤ b) t ∧ strip t = r) := by
  have hb0 : Hid (Below w.heap.size w (w.alloc (.cells #[.int .i64 0, .int .i64 0, .string ⟨#[]⟩, .string ⟨#[]⟩, .int .i64 0, .slice none 0 0, .int .i64 0, .int .i64 0, .int .i64 0] 65))) := (Below.refl _ w).alloc (Nat.le_refl _) _
  have hR0 := Lib.hid (Blk.new w 65 #[.int .i64 0, .int .i64 0, .string ⟨#[]⟩, .string ⟨#[]⟩, .int .i64 0, .slice none 0 0, .int .i64 0, .int .i64 0, .int .i64 0])
  have ht0 := Lib.hid (htk.out.below hb0.out)
  have hs0 : Hid ((w.alloc (.cells #[.int .i64 0, .int .i64 0, .string ⟨#[]⟩, .string ⟨#[]⟩, .int .i64 0, .slice none 0 0, .int .i64 0, .int .i64 0, .int .i64 0] 65)).heap.size = w.heap.size + 1) := by unfold Hid; simp
  have w1x : IntKind.i64.wrap ((i : Int) + 1) = ((i + 1 : Nat) : Int) := by rw [IntWalk.i64_in _ (by omega)]; omega
  have w2x : IntKind.i64.wrap ((i : Int) + 2) = ((i + 2 : Nat) : Int) := by rw [IntWalk.i64_in _ (by omega)]; omega
  go_enter Tryz.func148, Tryz.ntmps148
  go_wp2_with fail
  obtain ⟨wa, hwa⟩ : ∃ x, Hid (w.alloc (.cells #[.int .i64 0, .int .i64 0, .string ⟨#[]⟩, .string ⟨#[]⟩, .int .i64 0, .slice none 0 0, .int .i64 0, .int .i64 0, .int .i64 0] 65) = x) := ⟨_, Lib.hid rfl⟩
  change Calls Tryz.prog 48 _ (w.alloc (.cells #[.int .i64 0, .int .i64 0, .string ⟨#[]⟩, .string ⟨#[]⟩, .int .i64 0, .slice none 0 0, .int .i64 0, .int .i64 0, .int .i64 0] 65)) _
  rw [hwa.out] at hb0 hR0 ht0 hs0 ⊢
  clear hwa
  refine (ris_any A m c l wa (i) [40] hm ht0).mono ?_
  rintro x w1 ⟨rfl, rfl⟩
  rw [q1.out]
  go_wp2_with fail
  refine (hcall.out wa hb0.out).mono ?_
  rintro x w1 ⟨hb1, ⟨tk, tp, tf, tx, tn, tA, tc, tL⟩, rfl, hT1, hst⟩
  have hB1 := Lib.hid (hb0.out.trans (hb1.mono hb0.out.size))
  have hR1 := Lib.hid (hR0.out.below hb1 hR0.out.lt)
  have ht1 := Lib.hid (ht0.out.below hb1)
  have hsz : w.heap.size + 1 ≤ w1.heap.size := by have := hb1.size; have := hs0.out; omega
  have ne1 : w1.heap.size ≠ w.heap.size := by omega
  have ne2 : w.heap.size ≠ w1.heap.size := by omega
  have hT1' : Hid (TreeAt w1 (fun b => w.heap.size + 1 ≤ b) (.mk tk tp tf tx tn tA tc tL)) := hT1.mono fun b _ hb => by have := hs0.out; omega
  have hst' := Lib.hid hst
  clear hT1 hst
  clear hb1 hcall ht0 hR0
  unfold gotV
  go_wp2_with fail
  have hbl : Below w1.heap.size w1 (w1.alloc (.cells #[.int .i64 tk, .int .i64 tp, .string ⟨tf.toArray⟩, .string ⟨tx.toArray⟩, .int .i64 tn, .slice tA tL.length tc, .int .i64 kx, .int .i64 0, .int .i64 0] 65)) := (Below.refl _ w1).alloc (Nat.le_refl _) _
  have hN := Lib.hid (Blk.new w1 65 #[.int .i64 tk, .int .i64 tp, .string ⟨tf.toArray⟩, .string ⟨tx.toArray⟩, .int .i64 tn, .slice tA tL.length tc, .int .i64 kx, .int .i64 0, .int .i64 0])
  have hRb := Lib.hid (hR1.out.below hbl hR1.out.lt)
  have hBb := Lib.hid (hB1.out.trans (hbl.mono hB1.out.size))
  have htb := Lib.hid (ht1.out.below hbl)
  have hTb := Lib.hid (hT1'.out.below hbl)
  have hTc : Hid (TreeAt (w1.alloc (.cells #[.int .i64 tk, .int .i64 tp, .string ⟨tf.toArray⟩, .string ⟨tx.toArray⟩, .int .i64 tn, .slice tA tL.length tc, .int .i64 kx, .int .i64 0, .int .i64 0] 65)) (fun b => w.heap.size + 1 ≤ b ∧ b ≠ w1.heap.size) (.mk tk tp tf tx tn tA tc tL)) := (hT1'.out.mono fun b hlt hb => ⟨hb, by omega⟩).below hbl
  obtain ⟨wb, hwb⟩ : ∃ x, Hid (w1.alloc (.cells #[.int .i64 tk, .int .i64 tp, .string ⟨tf.toArray⟩, .string ⟨tx.toArray⟩, .int .i64 tn, .slice tA tL.length tc, .int .i64 kx, .int .i64 0, .int .i64 0] 65) = x) := ⟨_, Lib.hid rfl⟩
  rw [hwb.out] at hN hRb hBb htb hTb hTc ⊢
  clear hbl hwb
  refine (ris_any A m c l wb (kx) [41] hm htb).mono ?_
  rintro x w1 ⟨rfl, rfl⟩
  rw [q2.out]
  have w3x : IntKind.i64.wrap ((kx : Int) + 1) = ((kx + 1 : Nat) : Int) := by rw [IntWalk.i64_in _ (by omega)]; omega
  have nc6 : wb.cell? ⟨w1.heap.size, 6, none⟩ = some (.int .i64 kx) := hN.out.cell 6
  have nf6 := hN.out.frozen 6
  have nlt := hN.out.lt
  go_upto_region 8 with fail
  have hNc : Hid (Blk (wb.setCell ⟨w1.heap.size, 6, none⟩ (.int .i64 ((kx + 1 : Nat) : Int))) w1.heap.size 65 #[.int .i64 tk, .int .i64 tp, .string ⟨tf.toArray⟩, .string ⟨tx.toArray⟩, .int .i64 tn, .slice tA tL.length tc, .int .i64 ((kx + 1 : Nat) : Int), .int .i64 0, .int .i64 0]) := hN.out.set_ 6 _
  have hRc : Hid (Blk (wb.setCell ⟨w1.heap.size, 6, none⟩ (.int .i64 ((kx + 1 : Nat) : Int))) w.heap.size 65 #[.int .i64 0, .int .i64 0, .string ⟨#[]⟩, .string ⟨#[]⟩, .int .i64 0, .slice none 0 0, .int .i64 0, .int .i64 0, .int .i64 0]) := hRb.out.far (p := ⟨w1.heap.size, 6, none⟩) ne2 _
  have hBc : Hid (Below w.heap.size w (wb.setCell ⟨w1.heap.size, 6, none⟩ (.int .i64 ((kx + 1 : Nat) : Int)))) := hBb.out.setCell (p := ⟨w1.heap.size, 6, none⟩) (by show w.heap.size ≤ w1.heap.size; omega) _
  have hTd : Hid (TreeAt (wb.setCell ⟨w1.heap.size, 6, none⟩ (.int .i64 ((kx + 1 : Nat) : Int))) (fun b => w.heap.size + 1 ≤ b ∧ b ≠ w1.heap.size) (.mk tk tp tf tx tn tA tc tL)) := hTc.out.far (fun b hb => hb.2) _ _
  obtain ⟨wc, hwc⟩ : ∃ x, Hid (wb.setCell ⟨w1.heap.size, 6, none⟩ (.int .i64 ((kx + 1 : Nat) : Int)) = x) := ⟨_, Lib.hid rfl⟩
  change Code.wp _ _ _ _ (wb.setCell ⟨w1.heap.size, 6, none⟩ (.int .i64 ((kx + 1 : Nat) : Int)))
  rw [hwc.out] at hNc hRc hBc hTd ⊢
  clear hwc nc6 nf6 nlt hN hRb hBb htb hTb hTc
  have nc0 : wc.cell? ⟨w1.heap.size, 0, none⟩ = some (.int .i64 tk) := hNc.out.cell 0
  have nc1 : wc.cell? ⟨w1.heap.size, 1, none⟩ = some (.int .i64 tp) := hNc.out.cell 1
  have nc2 : wc.cell? ⟨w1.heap.size, 2, none⟩ = some (.string ⟨tf.toArray⟩) := hNc.out.cell 2
  have nc3 : wc.cell? ⟨w1.heap.size, 3, none⟩ = some (.string ⟨tx.toArray⟩) := hNc.out.cell 3
  have nc4 : wc.cell? ⟨w1.heap.size, 4, none⟩ = some (.int .i64 tn) := hNc.out.cell 4
  have nc5 : wc.cell? ⟨w1.heap.size, 5, none⟩ = some (.slice tA tL.length tc) := hNc.out.cell 5
  have nc6 : wc.cell? ⟨w1.heap.size, 6, none⟩ = some (.int .i64 ((kx + 1 : Nat) : Int)) := hNc.out.cell 6
  have nc7 : wc.cell? ⟨w1.heap.size, 7, none⟩ = some (.int .i64 0) := hNc.out.cell 7
  have nc8 : wc.cell? ⟨w1.heap.size, 8, none⟩ = some (.int .i64 0) := hNc.out.cell 8
  have nf0 := hNc.out.frozen 0
  have nf1 := hNc.out.frozen 1
  have nf2 := hNc.out.frozen 2
  have nf3 := hNc.out.frozen 3
  have nf4 := hNc.out.frozen 4
  have nf5 := hNc.out.frozen 5
  have nf6 := hNc.out.frozen 6
  have nf7 := hNc.out.frozen 7
  have nf8 := hNc.out.frozen 8
  have nlt := hNc.out.lt
  have rc0 : wc.cell? ⟨w.heap.size, 0, none⟩ = some (.int .i64 0) := hRc.out.cell 0
  have rc1 : wc.cell? ⟨w.heap.size, 1, none⟩ = some (.int .i64 0) := hRc.out.cell 1
  have rc2 : wc.cell? ⟨w.heap.size, 2, none⟩ = some (.string ⟨#[]⟩) := hRc.out.cell 2
  have rc3 : wc.cell? ⟨w.heap.size, 3, none⟩ = some (.string ⟨#[]⟩) := hRc.out.cell 3
  have rc4 : wc.cell? ⟨w.heap.size, 4, none⟩ = some (.int .i64 0) := hRc.out.cell 4
  have rc5 : wc.cell? ⟨w.heap.size, 5, none⟩ = some (.slice none 0 0) := hRc.out.cell 5
  have rc6 : wc.cell? ⟨w.heap.size, 6, none⟩ = some (.int .i64 0) := hRc.out.cell 6
  have rc7 : wc.cell? ⟨w.heap.size, 7, none⟩ = some (.int .i64 0) := hRc.out.cell 7
  have rc8 : wc.cell? ⟨w.heap.size, 8, none⟩ = some (.int .i64 0) := hRc.out.cell 8
  have rf0 := hRc.out.frozen 0
  have rf1 := hRc.out.frozen 1
  have rf2 := hRc.out.frozen 2
  have rf3 := hRc.out.frozen 3
  have rf4 := hRc.out.frozen 4
  have rf5 := hRc.out.frozen 5
  have rf6 := hRc.out.frozen 6
  have rf7 := hRc.out.frozen 7
  have rf8 := hRc.out.frozen 8
  have rlt := hRc.out.lt
  go_wp2_with fail
  refine bodyPost_ret (results_row rfl _ _ w.heap.size 65 _ _ rfl (((((((((hRc.out.set_ 0 _).set_ 1 _).set_ 2 _).set_ 3 _).set_ 4 _).set_ 5 _).set_ 6 _).set_ 7 _).set_ 8 _) Tryz.underlying65 rfl (by kernel_rfl)) rfl ?_
  have hh : ∀ b, (w.heap.size + 1 ≤ b ∧ b ≠ w1.heap.size) → b ≠ w.heap.size := fun b hb => by omega
  refine ⟨(((((((((hBc.out.setCell (Nat.le_refl _) _).setCell (Nat.le_refl _) _).setCell (Nat.le_refl _) _).setCell (Nat.le_refl _) _).setCell (Nat.le_refl _) _).setCell (Nat.le_refl _) _).setCell (Nat.le_refl _) _).setCell (Nat.le_refl _) _).setCell (Nat.le_refl _) _), .mk tk tp tf tx tn tA tc tL, ?_, ?_, hst'.out⟩
  · simp [gotV]
  · exact ((((((((((hTd.out.far hh _ _).far hh _ _).far hh _ _).far hh _ _).far hh _ _).far hh _ _).far hh _ _).far hh _ _).far hh _ _)).mono (fun b _ hk => by omega)


set_option maxRecDepth 100000 in
set_option maxHeartbeats 3200000 in
theorem ratom_open_no (A : Option Addr) (m c e : Nat) (l : List Tok) (hm : Hid (l.length = m)) (hm4 : m ≤ 4096) (w : World) (i : Nat) (hi : i ≤ m) (htk : Hid (TokAt w 0 A l)) (q1 : Hid (atI (isT [40]) l i = true)) (r : Rul) (kx : Nat) (_hkx : kx ≤ m) (hcall : Hid (∀ W, Below w.heap.size w W → Calls Tryz.prog 71 #[.slice A m c, .int .i64 (i + 1 : Nat), .int .i64 e] W (fun x w' => Below W.heap.size W w' ∧ ∃ t, x = .returned (.agg (gotV t kx)) ∧ TreeAt w' (fun b => W.heap.size ≤ b) t ∧ strip t = r))) (q2 : Hid (atI (isT [41]) l kx = false)) :
    Calls Tryz.prog 148 #[.slice A m c, .int .i64 i, .int .i64 e] w (fun x w' => Below w.heap.size w w' ∧ x = .returned (.agg (gotE 2 (placeI e l kx)))) := by
  have hb0 : Hid (Below w.heap.size w (w.alloc (.cells #[.int .i64 0, .int .i64 0, .string ⟨#[]⟩, .string ⟨#[]⟩, .int .i64 0, .slice none 0 0, .int .i64 0, .int .i64 0, .int .i64 0] 65))) := (Below.refl _ w).alloc (Nat.le_refl _) _
  have hR0 := Lib.hid (Blk.new w 65 #[.int .i64 0, .int .i64 0, .string ⟨#[]⟩, .string ⟨#[]⟩, .int .i64 0, .slice none 0 0, .int .i64 0, .int .i64 0, .int .i64 0])
  have ht0 := Lib.hid (htk.out.below hb0.out)
  have hs0 : Hid ((w.alloc (.cells #[.int .i64 0, .int .i64 0, .string ⟨#[]⟩, .string ⟨#[]⟩, .int .i64 0, .slice none 0 0, .int .i64 0, .int .i64 0, .int .i64 0] 65)).heap.size = w.heap.size + 1) := by unfold Hid; simp
  have w1x : IntKind.i64.wrap ((i : Int) + 1) = ((i + 1 : Nat) : Int) := by rw [IntWalk.i64_in _ (by omega)]; omega
  have w2x : IntKind.i64.wrap ((i : Int) + 2) = ((i + 2 : Nat) : Int) := by rw [IntWalk.i64_in _ (by omega)]; omega
  go_enter Tryz.func148, Tryz.ntmps148
  go_wp2_with fail
  obtain ⟨wa, hwa⟩ : ∃ x, Hid (w.alloc (.cells #[.int .i64 0, .int .i64 0, .string ⟨#[]⟩, .string ⟨#[]⟩, .int .i64 0, .slice none 0 0, .int .i64 0, .int .i64 0, .int .i64 0] 65) = x) := ⟨_, Lib.hid rfl⟩
  change Calls Tryz.prog 48 _ (w.alloc (.cells #[.int .i64 0, .int .i64 0, .string ⟨#[]⟩, .string ⟨#[]⟩, .int .i64 0, .slice none 0 0, .int .i64 0, .int .i64 0, .int .i64 0] 65)) _
  rw [hwa.out] at hb0 hR0 ht0 hs0 ⊢
  clear hwa
  refine (ris_any A m c l wa (i) [40] hm ht0).mono ?_
  rintro x w1 ⟨rfl, rfl⟩
  rw [q1.out]
  go_wp2_with fail
  refine (hcall.out wa hb0.out).mono ?_
  rintro x w1 ⟨hb1, ⟨tk, tp, tf, tx, tn, tA, tc, tL⟩, rfl, hT1, hst⟩
  have hB1 := Lib.hid (hb0.out.trans (hb1.mono hb0.out.size))
  have hR1 := Lib.hid (hR0.out.below hb1 hR0.out.lt)
  have ht1 := Lib.hid (ht0.out.below hb1)
  have hsz : w.heap.size + 1 ≤ w1.heap.size := by have := hb1.size; have := hs0.out; omega
  have ne1 : w1.heap.size ≠ w.heap.size := by omega
  have ne2 : w.heap.size ≠ w1.heap.size := by omega
  have hT1' : Hid (TreeAt w1 (fun b => w.heap.size + 1 ≤ b) (.mk tk tp tf tx tn tA tc tL)) := hT1.mono fun b _ hb => by have := hs0.out; omega
  have hst' := Lib.hid hst
  clear hT1 hst
  clear hb1 hcall ht0 hR0
  unfold gotV
  go_wp2_with fail
  have hbl : Below w1.heap.size w1 (w1.alloc (.cells #[.int .i64 tk, .int .i64 tp, .string ⟨tf.toArray⟩, .string ⟨tx.toArray⟩, .int .i64 tn, .slice tA tL.length tc, .int .i64 kx, .int .i64 0, .int .i64 0] 65)) := (Below.refl _ w1).alloc (Nat.le_refl _) _
  have hN := Lib.hid (Blk.new w1 65 #[.int .i64 tk, .int .i64 tp, .string ⟨tf.toArray⟩, .string ⟨tx.toArray⟩, .int .i64 tn, .slice tA tL.length tc, .int .i64 kx, .int .i64 0, .int .i64 0])
  have hRb := Lib.hid (hR1.out.below hbl hR1.out.lt)
  have hBb := Lib.hid (hB1.out.trans (hbl.mono hB1.out.size))
  have htb := Lib.hid (ht1.out.below hbl)
  have hTb := Lib.hid (hT1'.out.below hbl)
  obtain ⟨wb, hwb⟩ : ∃ x, Hid (w1.alloc (.cells #[.int .i64 tk, .int .i64 tp, .string ⟨tf.toArray⟩, .string ⟨tx.toArray⟩, .int .i64 tn, .slice tA tL.length tc, .int .i64 kx, .int .i64 0, .int .i64 0] 65) = x) := ⟨_, Lib.hid rfl⟩
  rw [hwb.out] at hN hRb hBb htb hTb ⊢
  clear hbl hwb
  refine (ris_any A m c l wb (kx) [41] hm htb).mono ?_
  rintro x w1 ⟨rfl, rfl⟩
  rw [q2.out]
  have nc0 : wb.cell? ⟨w1.heap.size, 0, none⟩ = some (.int .i64 tk) := hN.out.cell 0
  have nc1 : wb.cell? ⟨w1.heap.size, 1, none⟩ = some (.int .i64 tp) := hN.out.cell 1
  have nc2 : wb.cell? ⟨w1.heap.size, 2, none⟩ = some (.string ⟨tf.toArray⟩) := hN.out.cell 2
  have nc3 : wb.cell? ⟨w1.heap.size, 3, none⟩ = some (.string ⟨tx.toArray⟩) := hN.out.cell 3
  have nc4 : wb.cell? ⟨w1.heap.size, 4, none⟩ = some (.int .i64 tn) := hN.out.cell 4
  have nc5 : wb.cell? ⟨w1.heap.size, 5, none⟩ = some (.slice tA tL.length tc) := hN.out.cell 5
  have nc6 : wb.cell? ⟨w1.heap.size, 6, none⟩ = some (.int .i64 kx) := hN.out.cell 6
  have nc7 : wb.cell? ⟨w1.heap.size, 7, none⟩ = some (.int .i64 0) := hN.out.cell 7
  have nc8 : wb.cell? ⟨w1.heap.size, 8, none⟩ = some (.int .i64 0) := hN.out.cell 8
  have nf0 := hN.out.frozen 0
  have nf1 := hN.out.frozen 1
  have nf2 := hN.out.frozen 2
  have nf3 := hN.out.frozen 3
  have nf4 := hN.out.frozen 4
  have nf5 := hN.out.frozen 5
  have nf6 := hN.out.frozen 6
  have nf7 := hN.out.frozen 7
  have nf8 := hN.out.frozen 8
  have nlt := hN.out.lt
  go_wp2_with fail
  obtain ⟨pl, hpl⟩ : ∃ k, Hid (placeI e l (kx) = k) := ⟨_, Lib.hid rfl⟩
  refine (rwrong_any A m c l wb e (kx) hm htb).mono ?_
  rintro x wz ⟨rfl, hbz⟩
  rw [hpl.out]
  have hB := Lib.hid (hBb.out.trans (hbz.mono hBb.out.size))
  have hR := Lib.hid (hRb.out.below hbz hRb.out.lt)
  clear hbz
  unfold gotE
  have rc0 : wz.cell? ⟨w.heap.size, 0, none⟩ = some (.int .i64 0) := hR.out.cell 0
  have rc1 : wz.cell? ⟨w.heap.size, 1, none⟩ = some (.int .i64 0) := hR.out.cell 1
  have rc2 : wz.cell? ⟨w.heap.size, 2, none⟩ = some (.string ⟨#[]⟩) := hR.out.cell 2
  have rc3 : wz.cell? ⟨w.heap.size, 3, none⟩ = some (.string ⟨#[]⟩) := hR.out.cell 3
  have rc4 : wz.cell? ⟨w.heap.size, 4, none⟩ = some (.int .i64 0) := hR.out.cell 4
  have rc5 : wz.cell? ⟨w.heap.size, 5, none⟩ = some (.slice none 0 0) := hR.out.cell 5
  have rc6 : wz.cell? ⟨w.heap.size, 6, none⟩ = some (.int .i64 0) := hR.out.cell 6
  have rc7 : wz.cell? ⟨w.heap.size, 7, none⟩ = some (.int .i64 0) := hR.out.cell 7
  have rc8 : wz.cell? ⟨w.heap.size, 8, none⟩ = some (.int .i64 0) := hR.out.cell 8
  have rf0 := hR.out.frozen 0
  have rf1 := hR.out.frozen 1
  have rf2 := hR.out.frozen 2
  have rf3 := hR.out.frozen 3
  have rf4 := hR.out.frozen 4
  have rf5 := hR.out.frozen 5
  have rf6 := hR.out.frozen 6
  have rf7 := hR.out.frozen 7
  have rf8 := hR.out.frozen 8
  have rlt := hR.out.lt
  go_wp2_with fail
  refine bodyPost_ret (results_row rfl _ _ w.heap.size 65 _ _ rfl (((((((((hR.out.set_ 0 _).set_ 1 _).set_ 2 _).set_ 3 _).set_ 4 _).set_ 5 _).set_ 6 _).set_ 7 _).set_ 8 _) Tryz.underlying65 rfl (by kernel_rfl)) rfl ?_
  exact ⟨(((((((((hB.out.setCell (Nat.le_refl _) _).setCell (Nat.le_refl _) _).setCell (Nat.le_refl _) _).setCell (Nat.le_refl _) _).setCell (Nat.le_refl _) _).setCell (Nat.le_refl _) _).setCell (Nat.le_refl _) _).setCell (Nat.le_refl _) _).setCell (Nat.le_refl _) _), by rw [hpl.out]; rfl⟩


set_option maxRecDepth 100000 in
set_option maxHeartbeats 3200000 in
theorem ratom_not_bad (A : Option Addr) (m c e : Nat) (l : List Tok) (hm : Hid (l.length = m)) (hm4 : m ≤ 4096) (w : World) (i : Nat) (hi : i ≤ m) (htk : Hid (TokAt w 0 A l)) (q1 : Hid (atI (isT [40]) l i = false)) (q2 : Hid (atI (isT [110, 111, 116]) l i = true)) (q3 : Hid (atI cmpT l (i + 1) = false)) (cd : Int) (pl : Nat) (hcd : cd ≠ 0) (hcall : Hid (∀ W, Below w.heap.size w W → Calls Tryz.prog 148 #[.slice A m c, .int .i64 (i + 1 : Nat), .int .i64 e] W (fun x w' => Below W.heap.size W w' ∧ x = .returned (.agg (gotE cd pl))))) :
    Calls Tryz.prog 148 #[.slice A m c, .int .i64 i, .int .i64 e] w (fun x w' => Below w.heap.size w w' ∧ x = .returned (.agg (gotE cd pl))) := by
  have hb0 : Hid (Below w.heap.size w (w.alloc (.cells #[.int .i64 0, .int .i64 0, .string ⟨#[]⟩, .string ⟨#[]⟩, .int .i64 0, .slice none 0 0, .int .i64 0, .int .i64 0, .int .i64 0] 65))) := (Below.refl _ w).alloc (Nat.le_refl _) _
  have hR0 := Lib.hid (Blk.new w 65 #[.int .i64 0, .int .i64 0, .string ⟨#[]⟩, .string ⟨#[]⟩, .int .i64 0, .slice none 0 0, .int .i64 0, .int .i64 0, .int .i64 0])
  have ht0 := Lib.hid (htk.out.below hb0.out)
  have hs0 : Hid ((w.alloc (.cells #[.int .i64 0, .int .i64 0, .string ⟨#[]⟩, .string ⟨#[]⟩, .int .i64 0, .slice none 0 0, .int .i64 0, .int .i64 0, .int .i64 0] 65)).heap.size = w.heap.size + 1) := by unfold Hid; simp
  have w1x : IntKind.i64.wrap ((i : Int) + 1) = ((i + 1 : Nat) : Int) := by rw [IntWalk.i64_in _ (by omega)]; omega
  have w2x : IntKind.i64.wrap ((i : Int) + 2) = ((i + 2 : Nat) : Int) := by rw [IntWalk.i64_in _ (by omega)]; omega
  go_enter Tryz.func148, Tryz.ntmps148
  go_wp2_with fail
  obtain ⟨wa, hwa⟩ : ∃ x, Hid (w.alloc (.cells #[.int .i64 0, .int .i64 0, .string ⟨#[]⟩, .string ⟨#[]⟩, .int .i64 0, .slice none 0 0, .int .i64 0, .int .i64 0, .int .i64 0] 65) = x) := ⟨_, Lib.hid rfl⟩
  change Calls Tryz.prog 48 _ (w.alloc (.cells #[.int .i64 0, .int .i64 0, .string ⟨#[]⟩, .string ⟨#[]⟩, .int .i64 0, .slice none 0 0, .int .i64 0, .int .i64 0, .int .i64 0] 65)) _
  rw [hwa.out] at hb0 hR0 ht0 hs0 ⊢
  clear hwa
  refine (ris_any A m c l wa (i) [40] hm ht0).mono ?_
  rintro x w1 ⟨rfl, rfl⟩
  rw [q1.out]
  go_wp2_with fail
  refine (ris_any A m c l wa (i) [110, 111, 116] hm ht0).mono ?_
  rintro x w1 ⟨rfl, rfl⟩
  rw [q2.out]
  go_wp2_with fail
  refine (rcmp_any A m c l wa (i + 1) hm ht0).mono ?_
  rintro x w1 ⟨rfl, rfl⟩
  rw [q3.out]
  go_wp2_with fail
  refine (hcall.out wa hb0.out).mono ?_
  rintro x w1 ⟨hb1, rfl⟩
  have hB1 := Lib.hid (hb0.out.trans (hb1.mono hb0.out.size))
  have hR1 := Lib.hid (hR0.out.below hb1 hR0.out.lt)
  have ht1 := Lib.hid (ht0.out.below hb1)
  have hsz : w.heap.size + 1 ≤ w1.heap.size := by have := hb1.size; have := hs0.out; omega
  have ne1 : w1.heap.size ≠ w.heap.size := by omega
  have ne2 : w.heap.size ≠ w1.heap.size := by omega
  clear hb1 hcall ht0 hR0
  unfold gotE
  have b1 : (cd != 0) = true := by simp [hcd]
  have rc0 : w1.cell? ⟨w.heap.size, 0, none⟩ = some (.int .i64 0) := hR1.out.cell 0
  have rc1 : w1.cell? ⟨w.heap.size, 1, none⟩ = some (.int .i64 0) := hR1.out.cell 1
  have rc2 : w1.cell? ⟨w.heap.size, 2, none⟩ = some (.string ⟨#[]⟩) := hR1.out.cell 2
  have rc3 : w1.cell? ⟨w.heap.size, 3, none⟩ = some (.string ⟨#[]⟩) := hR1.out.cell 3
  have rc4 : w1.cell? ⟨w.heap.size, 4, none⟩ = some (.int .i64 0) := hR1.out.cell 4
  have rc5 : w1.cell? ⟨w.heap.size, 5, none⟩ = some (.slice none 0 0) := hR1.out.cell 5
  have rc6 : w1.cell? ⟨w.heap.size, 6, none⟩ = some (.int .i64 0) := hR1.out.cell 6
  have rc7 : w1.cell? ⟨w.heap.size, 7, none⟩ = some (.int .i64 0) := hR1.out.cell 7
  have rc8 : w1.cell? ⟨w.heap.size, 8, none⟩ = some (.int .i64 0) := hR1.out.cell 8
  have rf0 := hR1.out.frozen 0
  have rf1 := hR1.out.frozen 1
  have rf2 := hR1.out.frozen 2
  have rf3 := hR1.out.frozen 3
  have rf4 := hR1.out.frozen 4
  have rf5 := hR1.out.frozen 5
  have rf6 := hR1.out.frozen 6
  have rf7 := hR1.out.frozen 7
  have rf8 := hR1.out.frozen 8
  have rlt := hR1.out.lt
  go_wp2_with fail
  refine bodyPost_ret (results_row rfl _ _ w.heap.size 65 _ _ rfl ((((((((((hR1.out.set_ 0 _).set_ 1 _).set_ 2 _).set_ 3 _).set_ 4 _).set_ 5 _).set_ 6 _).set_ 7 _).set_ 8 _).alloc _) Tryz.underlying65 rfl (by kernel_rfl)) rfl ?_
  exact ⟨(((((((((hB1.out.setCell (Nat.le_refl _) _).setCell (Nat.le_refl _) _).setCell (Nat.le_refl _) _).setCell (Nat.le_refl _) _).setCell (Nat.le_refl _) _).setCell (Nat.le_refl _) _).setCell (Nat.le_refl _) _).setCell (Nat.le_refl _) _).setCell (Nat.le_refl _) _).alloc (by simpa using hB1.out.size) _, rfl⟩


set_option maxRecDepth 100000 in
set_option maxHeartbeats 3200000 in
theorem ratom_not_ok (A : Option Addr) (m c e : Nat) (l : List Tok) (hm : Hid (l.length = m)) (hm4 : m ≤ 4096) (w : World) (i : Nat) (hi : i ≤ m) (htk : Hid (TokAt w 0 A l)) (q1 : Hid (atI (isT [40]) l i = false)) (q2 : Hid (atI (isT [110, 111, 116]) l i = true)) (q3 : Hid (atI cmpT l (i + 1) = false)) (r : Rul) (kx : Nat) (_hkx : kx ≤ m) (hcall : Hid (∀ W, Below w.heap.size w W → Calls Tryz.prog 148 #[.slice A m c, .int .i64 (i + 1 : Nat), .int .i64 e] W (fun x w' => Below W.heap.size W w' ∧ ∃ t, x = .returned (.agg (gotV t kx)) ∧ TreeAt w' (fun b => W.heap.size ≤ b) t ∧ strip t = r))) :
    Calls Tryz.prog 148 #[.slice A m c, .int .i64 i, .int .i64 e] w (fun x w' => Below w.heap.size w w' ∧ ∃ t, x = .returned (.agg (gotV t kx)) ∧ TreeAt w' (fun b => w.heap.size ≤ b) t ∧ strip t = (.mk 2 0 [] [] 0 [r])) := by
  have hb0 : Hid (Below w.heap.size w (w.alloc (.cells #[.int .i64 0, .int .i64 0, .string ⟨#[]⟩, .string ⟨#[]⟩, .int .i64 0, .slice none 0 0, .int .i64 0, .int .i64 0, .int .i64 0] 65))) := (Below.refl _ w).alloc (Nat.le_refl _) _
  have hR0 := Lib.hid (Blk.new w 65 #[.int .i64 0, .int .i64 0, .string ⟨#[]⟩, .string ⟨#[]⟩, .int .i64 0, .slice none 0 0, .int .i64 0, .int .i64 0, .int .i64 0])
  have ht0 := Lib.hid (htk.out.below hb0.out)
  have hs0 : Hid ((w.alloc (.cells #[.int .i64 0, .int .i64 0, .string ⟨#[]⟩, .string ⟨#[]⟩, .int .i64 0, .slice none 0 0, .int .i64 0, .int .i64 0, .int .i64 0] 65)).heap.size = w.heap.size + 1) := by unfold Hid; simp
  have w1x : IntKind.i64.wrap ((i : Int) + 1) = ((i + 1 : Nat) : Int) := by rw [IntWalk.i64_in _ (by omega)]; omega
  have w2x : IntKind.i64.wrap ((i : Int) + 2) = ((i + 2 : Nat) : Int) := by rw [IntWalk.i64_in _ (by omega)]; omega
  go_enter Tryz.func148, Tryz.ntmps148
  go_wp2_with fail
  obtain ⟨wa, hwa⟩ : ∃ x, Hid (w.alloc (.cells #[.int .i64 0, .int .i64 0, .string ⟨#[]⟩, .string ⟨#[]⟩, .int .i64 0, .slice none 0 0, .int .i64 0, .int .i64 0, .int .i64 0] 65) = x) := ⟨_, Lib.hid rfl⟩
  change Calls Tryz.prog 48 _ (w.alloc (.cells #[.int .i64 0, .int .i64 0, .string ⟨#[]⟩, .string ⟨#[]⟩, .int .i64 0, .slice none 0 0, .int .i64 0, .int .i64 0, .int .i64 0] 65)) _
  rw [hwa.out] at hb0 hR0 ht0 hs0 ⊢
  clear hwa
  refine (ris_any A m c l wa (i) [40] hm ht0).mono ?_
  rintro x w1 ⟨rfl, rfl⟩
  rw [q1.out]
  go_wp2_with fail
  refine (ris_any A m c l wa (i) [110, 111, 116] hm ht0).mono ?_
  rintro x w1 ⟨rfl, rfl⟩
  rw [q2.out]
  go_wp2_with fail
  refine (rcmp_any A m c l wa (i + 1) hm ht0).mono ?_
  rintro x w1 ⟨rfl, rfl⟩
  rw [q3.out]
  go_wp2_with fail
  refine (hcall.out wa hb0.out).mono ?_
  rintro x w1 ⟨hb1, ⟨tk, tp, tf, tx, tn, tA, tc, tL⟩, rfl, hT1, hst⟩
  have hB1 := Lib.hid (hb0.out.trans (hb1.mono hb0.out.size))
  have hR1 := Lib.hid (hR0.out.below hb1 hR0.out.lt)
  have ht1 := Lib.hid (ht0.out.below hb1)
  have hsz : w.heap.size + 1 ≤ w1.heap.size := by have := hb1.size; have := hs0.out; omega
  have ne1 : w1.heap.size ≠ w.heap.size := by omega
  have ne2 : w.heap.size ≠ w1.heap.size := by omega
  have hT1' : Hid (TreeAt w1 (fun b => w.heap.size + 1 ≤ b) (.mk tk tp tf tx tn tA tc tL)) := hT1.mono fun b _ hb => by have := hs0.out; omega
  have hst' := Lib.hid hst
  clear hT1 hst
  clear hb1 hcall ht0 hR0
  unfold gotV
  have rc0 : w1.cell? ⟨w.heap.size, 0, none⟩ = some (.int .i64 0) := hR1.out.cell 0
  have rc1 : w1.cell? ⟨w.heap.size, 1, none⟩ = some (.int .i64 0) := hR1.out.cell 1
  have rc2 : w1.cell? ⟨w.heap.size, 2, none⟩ = some (.string ⟨#[]⟩) := hR1.out.cell 2
  have rc3 : w1.cell? ⟨w.heap.size, 3, none⟩ = some (.string ⟨#[]⟩) := hR1.out.cell 3
  have rc4 : w1.cell? ⟨w.heap.size, 4, none⟩ = some (.int .i64 0) := hR1.out.cell 4
  have rc5 : w1.cell? ⟨w.heap.size, 5, none⟩ = some (.slice none 0 0) := hR1.out.cell 5
  have rc6 : w1.cell? ⟨w.heap.size, 6, none⟩ = some (.int .i64 0) := hR1.out.cell 6
  have rc7 : w1.cell? ⟨w.heap.size, 7, none⟩ = some (.int .i64 0) := hR1.out.cell 7
  have rc8 : w1.cell? ⟨w.heap.size, 8, none⟩ = some (.int .i64 0) := hR1.out.cell 8
  have rf0 := hR1.out.frozen 0
  have rf1 := hR1.out.frozen 1
  have rf2 := hR1.out.frozen 2
  have rf3 := hR1.out.frozen 3
  have rf4 := hR1.out.frozen 4
  have rf5 := hR1.out.frozen 5
  have rf6 := hR1.out.frozen 6
  have rf7 := hR1.out.frozen 7
  have rf8 := hR1.out.frozen 8
  have rlt := hR1.out.lt
  have hn : ∀ V : World, V.heap.size = w1.heap.size + 1 → Blk (V.alloc (.cells #[.int .i64 tk, .int .i64 tp, .string ⟨tf.toArray⟩, .string ⟨tx.toArray⟩, .int .i64 tn, .slice tA tL.length tc] 25)) (w1.heap.size + 1) 25 #[.int .i64 tk, .int .i64 tp, .string ⟨tf.toArray⟩, .string ⟨tx.toArray⟩, .int .i64 tn, .slice tA tL.length tc] := fun V hV => by rw [← hV]; exact Blk.new V 25 _
  go_wp2_with fail
  refine bodyPost_ret (results_row rfl _ _ w.heap.size 65 _ _ rfl (((((((((((hR1.out.set_ 0 _).set_ 1 _).set_ 2 _).set_ 3 _).set_ 4 _).set_ 5 _).set_ 6 _).set_ 7 _).set_ 8 _).alloc _).alloc _) Tryz.underlying65 rfl (by kernel_rfl)) rfl ?_
  have hh : ∀ b, (w.heap.size + 1 ≤ b) → b ≠ w.heap.size := fun b hb => by omega
  refine ⟨((((((((((hB1.out.setCell (Nat.le_refl _) _).setCell (Nat.le_refl _) _).setCell (Nat.le_refl _) _).setCell (Nat.le_refl _) _).setCell (Nat.le_refl _) _).setCell (Nat.le_refl _) _).setCell (Nat.le_refl _) _).setCell (Nat.le_refl _) _).setCell (Nat.le_refl _) _).alloc (by simp; omega) _).alloc (by simp; omega) _, .mk 2 0 [] [] 0 (some ⟨w1.heap.size + 1, 0, none⟩) 1 [.mk tk tp tf tx tn tA tc tL], rfl, ?_, by rw [strip, strips, strips, hst'.out]⟩
  refine TreeAt.mono (ok := fun b => w.heap.size + 1 ≤ b) (fun b _ hk => by omega) ?_
  rw [TreeAt, RowsAt, RowsAt]
  exact ⟨⟨⟨w1.heap.size + 1, 0, rfl, by omega, (hn _ (by simp)).cell 0, (hn _ (by simp)).cell 1, (hn _ (by simp)).cell 2, (hn _ (by simp)).cell 3, (hn _ (by simp)).cell 4, (hn _ (by simp)).cell 5⟩, (((((((((((hT1'.out.far hh _ _).far hh _ _).far hh _ _).far hh _ _).far hh _ _).far hh _ _).far hh _ _).far hh _ _).far hh _ _)).below ((Below.refl _ _).alloc (Nat.le_refl _) _)).below ((Below.refl _ _).alloc (Nat.le_refl _) _), trivial⟩, by simp [maxLen]⟩

end Go.Proofs.YtjkmhlfjheiekaaGreatDoor

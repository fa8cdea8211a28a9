/- paper.Spoilt at a number that spoils nothing: all papers copied. -/
import Derived.Test.YtnmnknkdnjkpjaaGreatDoorZ
namespace Go.Proofs.YtnmnknkdnjkpjaaGreatDoor
open Go Go.RowKit Go.BigFrame Go.Maps

set_option maxRecDepth 100000 in
set_option maxHeartbeats 3200000 in
theorem spoiltD_any (nn : Int) (A : Option Addr) (n c : Nat) (l : List Pap) (w : World) (h1 : ¬ nn = 1) (h2 : ¬ nn = 2) (h3 : ¬ nn = 3) (hn : n ≤ 1000) (hl : Hid (l.length = n)) (hA : Hid (DocsAt w A l)) (hsm : Hid (∀ p ∈ l, p.fields.length ≤ 1000000)) :
    Calls Tryz.prog 23 #[.int .i64 nn, .slice A n c] w fun e w' => ∃ A' c' L', e = .returned (.slice A' L'.length c') ∧ DocsAt w' A' L' ∧ L'.map Pap.pl = l.map Pap.pl ∧ Below w.heap.size w w' := by
  have hh : Hid (¬ nn = 1 ∧ ¬ nn = 2 ∧ ¬ nn = 3) := ⟨h1, h2, h3⟩
  clear h1 h2 h3
  obtain ⟨i0, hi, hz0, hz1, hz2⟩ := info_parts Tryz.info32
  have hm1 : Hid (i0.bytes * n ≤ 281474976710656) := by unfold Hid; rw [hz2]; omega
  have hm2 : Hid (n ≤ maxLen) := by unfold Hid maxLen; omega
  go_enter Tryz.func23, Tryz.ntmps23
  go_wp2_with (at_make; go_must (refine wpList_make_own _ rfl _ _ 42 rfl w.heap.size 32 i0 _ 4 Tryz.underlying42 hi hz0 hz1 _ _ _ n rfl rfl rfl hm1.out hm2.out (Nat.le_refl _) ?_); intro w1 hown hgrow)
  have hcv : Hid (w.heap.size ≤ w1.heap.size) := hgrow.size
  have hC0 : Hid (Copied w.heap.size w1.heap.size w (w1.alloc (.cells #[.slice (some ⟨w.heap.size, 0, none⟩) 0 n] 42)) l 0 (.slice (some ⟨w.heap.size, 0, none⟩) 0 n) []) :=
    ⟨hown.alloc _, rfl, rfl, fun p hp => by simp at hp, Blk.new _ _ _, ((Below.refl _ w).grown hgrow (Nat.le_refl _) (by simp)).alloc hgrow.size _⟩
  obtain ⟨cv, hcve⟩ : ∃ cv, Hid (w1.heap.size = cv) := ⟨_, rfl⟩
  rw [hcve.out] at hC0 hcv ⊢
  clear hown hgrow
  go_loopw [21] (fun i wr => ∃ (k : Nat) (v : Value) (ps : List Pap), k ≤ n ∧ i = .int .i64 (k : Int) ∧ Hid (Copied w.heap.size cv w wr l k v ps)) (fun i _ => n - (intOf i).toNat)
  case atStart => exact ⟨0, _, [], Nat.zero_le _, rfl, hC0⟩
  case round =>
    obtain ⟨k, v, ps, hk, rfl, hC⟩ := hrel
    obtain ⟨Av, cw, rfl, hcw, _⟩ := RowOf.of_own encD_len hC.out.row hC.out.len
    by_cases hlt : k < n
    · obtain ⟨x, hx⟩ : ∃ x, l[k]? = some x := ⟨_, List.getElem?_eq_getElem (by have := hl.out; omega)⟩
      obtain ⟨b, off, rfl, h0, h1, h2, h3, h4, h5, h6⟩ := (hA.out.below hC.out.below) k x hx
      have hmx := hsm.out x (List.mem_of_getElem? hx)
      have htk : Hid ((l.take (k + 1)).map Pap.pl = (l.take k).map Pap.pl ++ [x.pl]) := by unfold Hid; rw [List.take_add_one, hx]; simp
      have h4' := Lib.hid h4
      clear hx h4 h5 h6
      obtain ⟨kd, nu, is, fA, fc, fs⟩ := x
      simp only at h0 h1 h2 h3 hmx h4' htk
      obtain ⟨m, hm⟩ : ∃ m, Hid (fs.length = m) := ⟨_, rfl⟩
      rw [hm.out] at h3 hmx
      obtain ⟨wa, hwa⟩ : ∃ wa, Hid (wr.alloc (.cells #[.int .i64 kd, .string nu, .string is, .slice fA m fc] 32) = wa) := ⟨_, rfl⟩
      have hbl : Hid (Below wr.heap.size wr wa) := by rw [← hwa.out]; exact (Below.refl _ wr).alloc (Nat.le_refl _) _
      have hbx : Hid (Blk wa wr.heap.size 32 #[.int .i64 kd, .string nu, .string is, .slice fA m fc]) := by rw [← hwa.out]; exact Blk.new _ _ _
      have hva := Lib.hid (hC.out.var_.below hbl.out hC.out.var_.lt)
      have hcvl : Hid (cv < wr.heap.size) := hC.out.var_.lt
      have hcall : Hid (∀ W, Below wa.heap.size wa W → Calls Tryz.prog 48 #[.agg #[.int .i64 kd, .string nu, .string is, .slice fA m fc]] W fun e w' => ∃ A' c', e = .returned (.agg #[.int .i64 kd, .string nu, .string is, .slice A' m c']) ∧ w'.ownsRow W.heap.size 79 2 (.slice A' m c') m (flF fs) ∧ Below W.heap.size W w') :=
        fun W hW => copyDoc_any kd nu is fA m fc fs W hmx hm (Lib.hid ((h4'.out.below hbl.out).below hW))
      have hkc : Hid (cv ≠ wr.heap.size) := by have := hcvl.out; unfold Hid; omega
      have hroww := Lib.hid (own_below hC.out.row hbl.out)
      have hq1 : Hid (k + 1 ≤ maxLen) := by unfold Hid maxLen; omega
      have hq2 : Hid ((k + 1) * 64 ≤ 140737488355328) := by unfold Hid; omega
      have hB0 : Hid (w.heap.size ≤ wr.heap.size) := hC.out.below.size
      have hnb : Hid (some wr.heap.size ≠ (Value.slice Av k cw).ownBlock) := fun e => by have := (hC.out.row.lt _ e.symm).2; omega
      have hnv : Hid (some cv ≠ (Value.slice Av k cw).ownBlock) := fun e => own_blk_ne hC.out.row hC.out.var_ (by decide) e.symm
      have hvc : wa.cell? ⟨cv, 0, none⟩ = some (.slice Av k cw) := hva.out.cell 0
      have hvl : cv < wa.heap.size := hva.out.lt
      go_wp2_with fail
      rw [hwa.out]
      rw [← id_eq (a := Oper.mk (some 25) _ _ _ _ _)]
      go_region_held3 (fun W => W.cell? ⟨wr.heap.size, 0, none⟩ = some (.int .i64 kd) ∧ W.cell? ⟨wr.heap.size, 1, none⟩ = some (.string nu) ∧ W.cell? ⟨wr.heap.size, 2, none⟩ = some (.string is) ∧ W.cell? ⟨wr.heap.size, 3, none⟩ = some (.slice fA m fc)) (first | exact ⟨hbx.out.cell 0, hbx.out.cell 1, hbx.out.cell 2, hbx.out.cell 3⟩ | exact ⟨hx2.out.cell 0, hx2.out.cell 1, hx2.out.cell 2, hx2.out.cell 3⟩ | exact ⟨hx3.out.cell 0, hx3.out.cell 1, hx3.out.cell 2, hx3.out.cell 3⟩ | exact ⟨hx5.out.cell 0, hx5.out.cell 1, hx5.out.cell 2, hx5.out.cell 3⟩ | exact ⟨hx6.out.cell 0, hx6.out.cell 1, hx6.out.cell 2, hx6.out.cell 3⟩) (first
        | (go_at_call 48; (with_reducible refine (hcall.out _ (Below.refl _ _).drew).mono ?_); rintro e w2 ⟨A2, c2, rfl, ho2, hb2⟩; have hb2' : Hid (Below wa.heap.size wa w2) := (Below.refl _ _).drew.trans hb2; have ho2' := Lib.hid ho2; have hx2 := Lib.hid (hbx.out.below hb2'.out hbx.out.lt); have hv2 := Lib.hid (hva.out.below hb2'.out hva.out.lt); have hvc2 : w2.cell? ⟨cv, 0, none⟩ = some (.slice Av k cw) := hv2.out.cell 0; have hvl2 : cv < w2.heap.size := hv2.out.lt; have hx3 := Lib.hid (hx2.out.alloc (.cells #[.int .i64 kd, .string nu, .string is, .slice A2 m c2] 32)); have hone : Hid (∀ u ∈ (#[.int .i64 kd, .string nu, .string is, .slice A2 m c2] : Array Value).toList, u.oneCell' = true) := (by intro u hu; simp at hu; rcases hu with rfl | rfl | rfl | rfl <;> rfl); have hsz2 : Hid (w.heap.size ≤ (w2.alloc (.cells #[.int .i64 kd, .string nu, .string is, .slice A2 m c2] 32)).heap.size) := Nat.le_trans (Nat.le_trans hB0.out hbl.out.size) (Nat.le_trans hb2'.out.size (by simp)); clear ho2 hb2)
        | (refine step_app_blk w.heap.size rfl (.tmp 25) (.tmp 28) 42 rfl 32 i0 _ 4 64 Tryz.underlying42 hi hz0 hz1 hz2 rfl (by decide) (.slice Av k cw) k (ps.flatMap encD) rfl w2.heap.size 1 #[.int .i64 kd, .string nu, .string is, .slice A2 m c2] rfl ((own_below hroww.out hb2'.out).alloc _) (Blk.new w2 32 _) rfl hone.out hq1.out hq2.out hsz2.out ?_; intro v5 w5 ho5 hb5 hg5; obtain ⟨A5, c5, rfl⟩ := own_form ho5; have ho5' := Lib.hid ho5; have hg5' := Lib.hid hg5; have hb5' := Lib.hid hb5; have hx5 := Lib.hid (hx3.out.grown hg5 hnb.out); have hv5 := Lib.hid ((hv2.out.alloc _).grown hg5 hnv.out); have hvc5 : w5.cell? ⟨cv, 0, none⟩ = some (.slice Av k cw) := hv5.out.cell 0; have hvl5 : cv < w5.heap.size := hv5.out.lt; have hvf5 := hv5.out.frozen; have hx6 := Lib.hid (hx5.out.far (p := ⟨cv, 0, none⟩) hkc.out.symm (.slice A5 (k + 1) c5)); clear ho5 hg5 hb5))
      all_goals
        have hp : Hid (Pap.pl ⟨kd, nu, is, A2, c2, fs⟩ = Pap.pl ⟨kd, nu, is, fA, fc, fs⟩) := Lib.hid rfl
        have hW2 : Hid (Below w.heap.size w w2) := hC.out.below.trans ((hbl.out.mono hB0.out).trans (hb2'.out.mono (Nat.le_trans hB0.out hbl.out.size)))
        have hrow5 : Hid (w5.ownsRow w.heap.size 32 4 (.slice A5 (k + 1) c5) (k + 1) ((ps ++ [(⟨kd, nu, is, A2, c2, fs⟩ : Pap)]).flatMap encD)) := by
          rw [List.flatMap_append]
          have := ho5'.out
          exact Lib.hid (by simpa [encD, hm.out] using this)
        have hO2 : Hid (OwnD w2 w.heap.size (ps ++ [(⟨kd, nu, is, A2, c2, fs⟩ : Pap)])) := by
          intro p hp
          rcases List.mem_append.1 hp with h | h
          · exact (hC.out.fields.below hbl.out).below hb2'.out p h
          · obtain rfl := List.mem_singleton.1 h
            have := own_mono_base ho2'.out (B' := w.heap.size) (Nat.le_trans hB0.out hbl.out.size)
            simpa [hm.out] using this
        have hO5 : Hid (OwnD w5 w.heap.size (ps ++ [(⟨kd, nu, is, A2, c2, fs⟩ : Pap)])) := by
          intro p hp
          have h0 := (hO2.out p hp).alloc (.cells #[.int .i64 kd, .string nu, .string is, .slice A2 m c2] 32)
          exact h0.kept hg5'.out (own_apart h0 ((own_below hroww.out hb2'.out).alloc _) (by decide))
        have hnew : Hid (Copied w.heap.size cv w (w5.setCell ⟨cv, 0, none⟩ (.slice A5 (k + 1) c5)) l (k + 1) (.slice A5 (k + 1) c5) (ps ++ [(⟨kd, nu, is, A2, c2, fs⟩ : Pap)])) :=
          ⟨own_set hrow5.out hv5.out (by decide), by simp [hC.out.len], by rw [List.map_append, hC.out.same, htk.out]; rfl, hO5.out.set_ hv5.out (by decide) _, by simpa using hv5.out.set_ 0 (.slice A5 (k + 1) c5),
            ((hW2.out.alloc (Nat.le_trans (Nat.le_trans hB0.out hbl.out.size) hb2'.out.size) _).trans hb5'.out).setCell hcv.out _⟩
        go_wp2_with fail
        go_roundw
        case rel => exact ⟨k + 1, _, _, by omega, by go_num, hnew⟩
        case measure => simp [intOf]; omega
    · have e : k = n := by omega
      have eT : l.take k = l := List.take_of_length_le (by have := hl.out; omega)
      have hsame : Hid (ps.map Pap.pl = l.map Pap.pl) := by have := hC.out.same; rw [eT] at this; exact this
      have hki : Hid (∀ p ∈ ps, i64 p.kind ∧ p.fields.length ≤ maxLen) := by
        intro p hp
        obtain ⟨q, hq, he⟩ : ∃ q ∈ l, q.pl = p.pl := by
          have : p.pl ∈ l.map Pap.pl := by rw [← hsame.out]; exact List.mem_map_of_mem hp
          obtain ⟨q, hq, he⟩ := List.mem_map.1 this
          exact ⟨q, hq, he⟩
        obtain ⟨j, hj⟩ := List.mem_iff_getElem?.1 hq
        obtain ⟨_, _, _, _, _, _, _, _, h5, h6⟩ := hA.out j q hj
        simp only [Pap.pl, Dc.mk.injEq] at he
        exact ⟨by rw [← he.1]; exact h6, by rw [← he.2.2.2]; exact h5⟩
      obtain ⟨Av', cw', eA, hcw', hDocs⟩ := docs_of hC.out.row hC.out.len hC.out.fields hki.out
      simp only [Value.slice.injEq, true_and] at eA
      obtain ⟨rfl, rfl⟩ := eA
      have hD := Lib.hid hDocs
      have hvc : wr.cell? ⟨cv, 0, none⟩ = some (.slice Av k cw) := hC.out.var_.cell 0
      have hvl : cv < wr.heap.size := hC.out.var_.lt
      have d1 : decide (nn = 1) = false := decide_eq_false hh.out.1
      have d2 : decide (nn = 2) = false := decide_eq_false hh.out.2.1
      have d3 : decide (nn = 3) = false := decide_eq_false hh.out.2.2
      have f1 := hh.out.1
      have f2 := hh.out.2.1
      have f3 := hh.out.2.2
      clear eT hcw'
      go_wp2_with fail
      go_ret
      exact ⟨Av, cw, ps, by rw [hC.out.len, e]; rfl, hD.out, hsame.out, hC.out.below⟩
end Go.Proofs.YtnmnknkdnjkpjaaGreatDoor

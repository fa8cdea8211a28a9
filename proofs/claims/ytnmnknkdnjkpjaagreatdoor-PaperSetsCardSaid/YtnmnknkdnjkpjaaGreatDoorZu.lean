/- paper.Spoilt at 1: the invoice's sum is one more. -/
import Derived.Test.YtnmnknkdnjkpjaaGreatDoorZt
import Derived.Test.YtnmnknkdnjkpjaaGreatDoorU
import Derived.Test.YtnmnknkdnjkpjaaGreatDoorC
namespace Go.Proofs.YtnmnknkdnjkpjaaGreatDoor
open Go Go.RowKit Go.BigFrame Go.Maps

def spoilS (fs : List Fld) : List Fld := match numF (getV fs ⟨#[115, 117, 109]⟩).data.toList with
  | some v => setF fs ⟨#[115, 117, 109]⟩ (mkB (Lib.itoa (v + 1)))
  | none => fs

set_option maxRecDepth 100000 in
set_option maxHeartbeats 3200000 in
theorem spoilt1_any (A : Option Addr) (n c : Nat) (l : List Pap) (w : World) (hn : n ≤ 1000) (hl : Hid (l.length = n)) (hA : Hid (DocsAt w A l)) (hsm : Hid (∀ p ∈ l, p.fields.length ≤ 1000000)) (hgv : Hid (∀ p ∈ l, (getV p.fields ⟨#[115, 117, 109]⟩).size ≤ 1000000)) (he : Env w) :
    Calls Tryz.prog 23 #[.int .i64 1, .slice A n c] w fun e w' => ∃ A' c' L', e = .returned (.slice A' L'.length c') ∧ DocsAt w' A' L' ∧ L'.map Pap.pl = spoilK 0 spoilS (l.map Pap.pl) ∧ Below w.heap.size w w' := by
  have he' := Lib.hid he
  clear he
  obtain ⟨i0, hi, hz0, hz1, hz2⟩ := info_parts Tryz.info32
  have hm1 : Hid (i0.bytes * n ≤ 281474976710656) := by unfold Hid; rw [hz2]; omega
  have hm2 : Hid (n ≤ maxLen) := by unfold Hid maxLen; omega
  go_enter Tryz.func23, Tryz.ntmps23
  go_wp2_with (at_make; go_must (refine wpList_make_own _ rfl _ _ 42 rfl w.heap.size 32 i0 _ 4 Tryz.underlying42 hi hz0 hz1 _ _ _ n rfl rfl rfl hm1.out hm2.out (Nat.le_refl _) ?_); intro w1 hown hgrow)
  have hcv : Hid (w.heap.size ≤ w1.heap.size) := hgrow.size
  have hC0 : Hid (Copied w.heap.size w1.heap.size w (w1.alloc (.cells #[.slice (some ⟨w.heap.size, 0, none⟩) 0 n] 42)) l 0 (.slice (some ⟨w.heap.size, 0, none⟩) 0 n) []) :=
    ⟨hown.alloc _, rfl, rfl, fun p hp => by simp at hp, Blk.new _ _ _, ((Below.refl _ w).grown hgrow (Nat.le_refl _) (by simp)).alloc hgrow.size _⟩
  obtain ⟨cv, hcve⟩ : ∃ cv, Hid (w1.heap.size = cv) := ⟨_, rfl⟩
  rw [hcve.out] at hC0 hcv ⊢
  clear hown hgrow
  go_loopw [21] (fun i wr => ∃ (k : Nat) (v : Value) (ps : List Pap), k ≤ n ∧ i = .int .i64 (k : Int) ∧ Hid (Copied w.heap.size cv w wr l k v ps)) (fun i _ => n - (intOf i).toNat)
  case atStart => exact ⟨0, _, [], Nat.zero_le _, rfl, hC0⟩
  case round =>
    obtain ⟨k, v, ps, hk, rfl, hC⟩ := hrel
    obtain ⟨Av, cw, rfl, hcw, _⟩ := RowOf.of_own encD_len hC.out.row hC.out.len
    by_cases hlt : k < n
    · obtain ⟨x, hx⟩ : ∃ x, l[k]? = some x := ⟨_, List.getElem?_eq_getElem (by have := hl.out; omega)⟩
      obtain ⟨b, off, rfl, h0, h1, h2, h3, h4, h5, h6⟩ := (hA.out.below hC.out.below) k x hx
      have hmx := hsm.out x (List.mem_of_getElem? hx)
      have htk : Hid ((l.take (k + 1)).map Pap.pl = (l.take k).map Pap.pl ++ [x.pl]) := by unfold Hid; rw [List.take_add_one, hx]; simp
      have h4' := Lib.hid h4
      clear hx h4 h5 h6
      obtain ⟨kd, nu, is, fA, fc, fs⟩ := x
      simp only at h0 h1 h2 h3 hmx h4' htk
      obtain ⟨m, hm⟩ : ∃ m, Hid (fs.length = m) := ⟨_, rfl⟩
      rw [hm.out] at h3 hmx
      obtain ⟨wa, hwa⟩ : ∃ wa, Hid (wr.alloc (.cells #[.int .i64 kd, .string nu, .string is, .slice fA m fc] 32) = wa) := ⟨_, rfl⟩
      have hbl : Hid (Below wr.heap.size wr wa) := by rw [← hwa.out]; exact (Below.refl _ wr).alloc (Nat.le_refl _) _
      have hbx : Hid (Blk wa wr.heap.size 32 #[.int .i64 kd, .string nu, .string is, .slice fA m fc]) := by rw [← hwa.out]; exact Blk.new _ _ _
      have hva := Lib.hid (hC.out.var_.below hbl.out hC.out.var_.lt)
      have hcvl : Hid (cv < wr.heap.size) := hC.out.var_.lt
      have hcall : Hid (∀ W, Below wa.heap.size wa W → Calls Tryz.prog 48 #[.agg #[.int .i64 kd, .string nu, .string is, .slice fA m fc]] W fun e w' => ∃ A' c', e = .returned (.agg #[.int .i64 kd, .string nu, .string is, .slice A' m c']) ∧ w'.ownsRow W.heap.size 79 2 (.slice A' m c') m (flF fs) ∧ Below W.heap.size W w') :=
        fun W hW => copyDoc_any kd nu is fA m fc fs W hmx hm (Lib.hid ((h4'.out.below hbl.out).below hW))
      have hkc : Hid (cv ≠ wr.heap.size) := by have := hcvl.out; unfold Hid; omega
      have hroww := Lib.hid (own_below hC.out.row hbl.out)
      have hq1 : Hid (k + 1 ≤ maxLen) := by unfold Hid maxLen; omega
      have hq2 : Hid ((k + 1) * 64 ≤ 140737488355328) := by unfold Hid; omega
      have hB0 : Hid (w.heap.size ≤ wr.heap.size) := hC.out.below.size
      have hnb : Hid (some wr.heap.size ≠ (Value.slice Av k cw).ownBlock) := fun e => by have := (hC.out.row.lt _ e.symm).2; omega
      have hnv : Hid (some cv ≠ (Value.slice Av k cw).ownBlock) := fun e => own_blk_ne hC.out.row hC.out.var_ (by decide) e.symm
      have hvc : wa.cell? ⟨cv, 0, none⟩ = some (.slice Av k cw) := hva.out.cell 0
      have hvl : cv < wa.heap.size := hva.out.lt
      go_wp2_with fail
      rw [hwa.out]
      rw [← id_eq (a := Oper.mk (some 25) _ _ _ _ _)]
      go_region_held3 (fun W => W.cell? ⟨wr.heap.size, 0, none⟩ = some (.int .i64 kd) ∧ W.cell? ⟨wr.heap.size, 1, none⟩ = some (.string nu) ∧ W.cell? ⟨wr.heap.size, 2, none⟩ = some (.string is) ∧ W.cell? ⟨wr.heap.size, 3, none⟩ = some (.slice fA m fc)) (first | exact ⟨hbx.out.cell 0, hbx.out.cell 1, hbx.out.cell 2, hbx.out.cell 3⟩ | exact ⟨hx2.out.cell 0, hx2.out.cell 1, hx2.out.cell 2, hx2.out.cell 3⟩ | exact ⟨hx3.out.cell 0, hx3.out.cell 1, hx3.out.cell 2, hx3.out.cell 3⟩ | exact ⟨hx5.out.cell 0, hx5.out.cell 1, hx5.out.cell 2, hx5.out.cell 3⟩ | exact ⟨hx6.out.cell 0, hx6.out.cell 1, hx6.out.cell 2, hx6.out.cell 3⟩) (first
        | (go_at_call 48; (with_reducible refine (hcall.out _ (Below.refl _ _).drew).mono ?_); rintro e w2 ⟨A2, c2, rfl, ho2, hb2⟩; have hb2' : Hid (Below wa.heap.size wa w2) := (Below.refl _ _).drew.trans hb2; have ho2' := Lib.hid ho2; have hx2 := Lib.hid (hbx.out.below hb2'.out hbx.out.lt); have hv2 := Lib.hid (hva.out.below hb2'.out hva.out.lt); have hvc2 : w2.cell? ⟨cv, 0, none⟩ = some (.slice Av k cw) := hv2.out.cell 0; have hvl2 : cv < w2.heap.size := hv2.out.lt; have hx3 := Lib.hid (hx2.out.alloc (.cells #[.int .i64 kd, .string nu, .string is, .slice A2 m c2] 32)); have hone : Hid (∀ u ∈ (#[.int .i64 kd, .string nu, .string is, .slice A2 m c2] : Array Value).toList, u.oneCell' = true) := (by intro u hu; simp at hu; rcases hu with rfl | rfl | rfl | rfl <;> rfl); have hsz2 : Hid (w.heap.size ≤ (w2.alloc (.cells #[.int .i64 kd, .string nu, .string is, .slice A2 m c2] 32)).heap.size) := Nat.le_trans (Nat.le_trans hB0.out hbl.out.size) (Nat.le_trans hb2'.out.size (by simp)); clear ho2 hb2)
        | (refine step_app_blk w.heap.size rfl (.tmp 25) (.tmp 28) 42 rfl 32 i0 _ 4 64 Tryz.underlying42 hi hz0 hz1 hz2 rfl (by decide) (.slice Av k cw) k (ps.flatMap encD) rfl w2.heap.size 1 #[.int .i64 kd, .string nu, .string is, .slice A2 m c2] rfl ((own_below hroww.out hb2'.out).alloc _) (Blk.new w2 32 _) rfl hone.out hq1.out hq2.out hsz2.out ?_; intro v5 w5 ho5 hb5 hg5; obtain ⟨A5, c5, rfl⟩ := own_form ho5; have ho5' := Lib.hid ho5; have hg5' := Lib.hid hg5; have hb5' := Lib.hid hb5; have hx5 := Lib.hid (hx3.out.grown hg5 hnb.out); have hv5 := Lib.hid ((hv2.out.alloc _).grown hg5 hnv.out); have hvc5 : w5.cell? ⟨cv, 0, none⟩ = some (.slice Av k cw) := hv5.out.cell 0; have hvl5 : cv < w5.heap.size := hv5.out.lt; have hvf5 := hv5.out.frozen; have hx6 := Lib.hid (hx5.out.far (p := ⟨cv, 0, none⟩) hkc.out.symm (.slice A5 (k + 1) c5)); clear ho5 hg5 hb5))
      all_goals
        have hp : Hid (Pap.pl ⟨kd, nu, is, A2, c2, fs⟩ = Pap.pl ⟨kd, nu, is, fA, fc, fs⟩) := Lib.hid rfl
        have hW2 : Hid (Below w.heap.size w w2) := hC.out.below.trans ((hbl.out.mono hB0.out).trans (hb2'.out.mono (Nat.le_trans hB0.out hbl.out.size)))
        have hrow5 : Hid (w5.ownsRow w.heap.size 32 4 (.slice A5 (k + 1) c5) (k + 1) ((ps ++ [(⟨kd, nu, is, A2, c2, fs⟩ : Pap)]).flatMap encD)) := by
          rw [List.flatMap_append]
          have := ho5'.out
          exact Lib.hid (by simpa [encD, hm.out] using this)
        have hO2 : Hid (OwnD w2 w.heap.size (ps ++ [(⟨kd, nu, is, A2, c2, fs⟩ : Pap)])) := by
          intro p hp
          rcases List.mem_append.1 hp with h | h
          · exact (hC.out.fields.below hbl.out).below hb2'.out p h
          · obtain rfl := List.mem_singleton.1 h
            have := own_mono_base ho2'.out (B' := w.heap.size) (Nat.le_trans hB0.out hbl.out.size)
            simpa [hm.out] using this
        have hO5 : Hid (OwnD w5 w.heap.size (ps ++ [(⟨kd, nu, is, A2, c2, fs⟩ : Pap)])) := by
          intro p hp
          have h0 := (hO2.out p hp).alloc (.cells #[.int .i64 kd, .string nu, .string is, .slice A2 m c2] 32)
          exact h0.kept hg5'.out (own_apart h0 ((own_below hroww.out hb2'.out).alloc _) (by decide))
        have hnew : Hid (Copied w.heap.size cv w (w5.setCell ⟨cv, 0, none⟩ (.slice A5 (k + 1) c5)) l (k + 1) (.slice A5 (k + 1) c5) (ps ++ [(⟨kd, nu, is, A2, c2, fs⟩ : Pap)])) :=
          ⟨own_set hrow5.out hv5.out (by decide), by simp [hC.out.len], by rw [List.map_append, hC.out.same, htk.out]; rfl, hO5.out.set_ hv5.out (by decide) _, by simpa using hv5.out.set_ 0 (.slice A5 (k + 1) c5),
            ((hW2.out.alloc (Nat.le_trans (Nat.le_trans hB0.out hbl.out.size) hb2'.out.size) _).trans hb5'.out).setCell hcv.out _⟩
        go_wp2_with fail
        go_roundw
        case rel => exact ⟨k + 1, _, _, by omega, by go_num, hnew⟩
        case measure => simp [intOf]; omega
    · have e : k = n := by omega
      have eT : l.take k = l := List.take_of_length_le (by have := hl.out; omega)
      have hsame : Hid (ps.map Pap.pl = l.map Pap.pl) := by have := hC.out.same; rw [eT] at this; exact this
      have hki : Hid (∀ p ∈ ps, i64 p.kind ∧ p.fields.length ≤ maxLen) := by
        intro p hp
        obtain ⟨q, hq, he⟩ : ∃ q ∈ l, q.pl = p.pl := by
          have : p.pl ∈ l.map Pap.pl := by rw [← hsame.out]; exact List.mem_map_of_mem hp
          obtain ⟨q, hq, he⟩ := List.mem_map.1 this
          exact ⟨q, hq, he⟩
        obtain ⟨j, hj⟩ := List.mem_iff_getElem?.1 hq
        obtain ⟨_, _, _, _, _, _, _, _, h5, h6⟩ := hA.out j q hj
        simp only [Pap.pl, Dc.mk.injEq] at he
        exact ⟨by rw [← he.1]; exact h6, by rw [← he.2.2.2]; exact h5⟩
      obtain ⟨Av', cw', eA, hcw', hDocs⟩ := docs_of hC.out.row hC.out.len hC.out.fields hki.out
      simp only [Value.slice.injEq, true_and] at eA
      obtain ⟨rfl, rfl⟩ := eA
      have hD := Lib.hid hDocs
      have hvc : wr.cell? ⟨cv, 0, none⟩ = some (.slice Av k cw) := hC.out.var_.cell 0
      have hvl : cv < wr.heap.size := hC.out.var_.lt
      have hpl := Lib.hid (placeD_any Av k cw ps 0 cv wr (by unfold maxLen; omega) (Lib.hid hC.out.len) hD hvc)
      clear hDocs eT e hcw'
      go_wp2_with fail
      refine hpl.out.mono ?_
      rintro e w2 ⟨i, rfl, hF, hb2⟩
      have hb2' := Lib.hid hb2
      have hv2 := Lib.hid (hC.out.var_.below hb2 hC.out.var_.lt)
      have hvc2 : w2.cell? ⟨cv, 0, none⟩ = some (.slice Av k cw) := hv2.out.cell 0
      have hvl2 : cv < w2.heap.size := hv2.out.lt
      have hvf2 := hv2.out.frozen
      have hB2 : Hid (Below w.heap.size w w2) := hC.out.below.trans (hb2.mono hC.out.below.size)
      have hlt' := Lib.hid hlt
      clear hb2 hpl hvc hvl hlt
      rcases hF with ⟨rfl, hno⟩ | ⟨j, x, rfl, hx, hk1, hno⟩
      · have hno' := Lib.hid hno
        clear hno
        go_wp2_with fail
        go_ret
        refine ⟨Av, cw, ps, by rw [hC.out.len]; rfl, hD.out.below hb2'.out, ?_, hB2.out⟩
        rw [← hsame.out, spoilK_none]
        intro d hd
        obtain ⟨p, hp, rfl⟩ := List.mem_map.1 hd
        exact hno'.out p hp
      · have hx' := Lib.hid hx
        have hk1' := Lib.hid hk1
        have hno' := Lib.hid hno
        have hjk : j < k := by have := (List.getElem?_eq_some_iff.1 hx).1; have := hC.out.len; omega
        obtain ⟨q, rfl⟩ : ∃ q, k = q + 1 := ⟨k - 1, by omega⟩
        obtain ⟨g, cap, hv, hg0, hg1⟩ := hC.out.row.form (by omega)
        simp only [Value.slice.injEq, true_and] at hv
        obtain ⟨rfl, rfl⟩ := hv
        have hrow2 := Lib.hid (own_below hC.out.row hb2'.out)
        have hsmall : Hid (∀ p ∈ ps, p.fields.length ≤ 1000000) := by
          intro p hp
          have : p.pl ∈ l.map Pap.pl := by rw [← hsame.out]; exact List.mem_map_of_mem hp
          obtain ⟨z, hz, he⟩ := List.mem_map.1 this
          simp only [Pap.pl, Dc.mk.injEq] at he
          rw [← he.2.2.2]
          exact hsm.out z hz
        have hgx : Hid ((getV x.fields ⟨#[115, 117, 109]⟩).size ≤ 1000000) := by
          have : x.pl ∈ l.map Pap.pl := by rw [← hsame.out]; exact List.mem_map_of_mem (List.mem_of_getElem? hx)
          obtain ⟨z, hz, he⟩ := List.mem_map.1 this
          simp only [Pap.pl, Dc.mk.injEq] at he
          unfold Hid
          rw [← he.2.2.2]
          exact hgv.out z hz
        have hmx := hsmall.out x (List.mem_of_getElem? hx)
        have hFx := (fields_of_own ((hC.out.fields.below hb2'.out) x (List.mem_of_getElem? hx)) rfl)
        obtain ⟨A7, c7, e7, _, hF7⟩ := hFx
        simp only [Value.slice.injEq, true_and] at e7
        obtain ⟨rfl, rfl⟩ := e7
        have hcell : ∀ i v, (encD x)[i]? = some v → i < 4 → w2.cell? ⟨g, j * 4 + i, none⟩ = some v := fun i v hv hi4 => by
          rw [hrow2.out.cellAt (j * 4 + i) (by omega)]
          rw [fm_get encD_len ps j i hi4, hx]
          exact hv
        have x0 : w2.cell? ⟨g, j * 4, none⟩ = some (.int .i64 x.kind) := hcell 0 _ rfl (by decide)
        have x1 : w2.cell? ⟨g, j * 4 + 1, none⟩ = some (.string x.number) := hcell 1 _ rfl (by decide)
        have x2 : w2.cell? ⟨g, j * 4 + 2, none⟩ = some (.string x.issuer) := hcell 2 _ rfl (by decide)
        have x3 : w2.cell? ⟨g, j * 4 + 3, none⟩ = some (.slice x.fA x.fields.length x.fc) := hcell 3 _ rfl (by decide)
        clear hcell hx hk1 hno
        have hF7' := Lib.hid hF7
        clear hF7
        obtain ⟨kd, nu, is, fA, fc, fs⟩ := x
        simp only at x0 x1 x2 x3 hmx hF7' hk1'
        obtain ⟨m, hm⟩ : ∃ m, Hid (fs.length = m) := ⟨_, rfl⟩
        rw [hm.out] at x3 hmx
        have hjp : (0 : Int) ≤ (j : Int) := by omega
        have hjq : j < q + 1 := hjk
        have hjq' : (j : Int) < (q : Int) + 1 := by omega
        have hget := Lib.hid (get_any fA m fc fs ⟨#[115, 117, 109]⟩ w2 (by unfold maxLen; omega) hm hF7')
        simp only at hgx
        obtain ⟨gv, hgve⟩ : ∃ x, Hid (getV fs ⟨#[115, 117, 109]⟩ = x) := ⟨_, rfl⟩
        rw [hgve.out] at hget hgx
        have hx8 := Lib.hid (And.intro x0 (And.intro x1 (And.intro x2 x3)))
        have hgl0 : Hid (g < w2.heap.size) := World.block_lt_of_cell? w2 _ x0
        go_wp2_with fail
        refine hget.out.mono ?_
        rintro e w3 ⟨rfl, hb3⟩
        have hb3' := Lib.hid hb3
        have hv3 := Lib.hid (hv2.out.below hb3 hv2.out.lt)
        have hB3 : Hid (Below w.heap.size w w3) := hB2.out.trans (hb3.mono hB2.out.size)
        clear hb3 hvc2 x0 x1 x2 x3
        go_wp2_with fail
        refine (number_any gv w3 hgx.out (he'.out.below hB3.out)).mono ?_
        rintro e w4 ⟨rfl, hb4⟩
        have hb24 : Hid (Below w2.heap.size w2 w4) := hb3'.out.trans (hb4.mono hb3'.out.size)
        have hv4 := Lib.hid (hv2.out.below hb24.out hv2.out.lt)
        have hvc4 : w4.cell? ⟨cv, 0, none⟩ = some (.slice (some ⟨g, 0, none⟩) (q + 1) cw) := hv4.out.cell 0
        have hrow4 := Lib.hid (own_below hrow2.out hb24.out)
        have hB4 : Hid (Below w.heap.size w w4) := hB2.out.trans (hb24.out.mono hB2.out.size)
        have hF4 := Lib.hid (hF7'.out.below hb24.out)
        clear hb4 hvl2
        cases hnf : numF gv.data.toList with
        | none =>
          have hpay : Hid (ps.map Pap.pl = spoilK 0 spoilS (l.map Pap.pl)) := by
            have h1 : (l.map Pap.pl)[j]? = some (Pap.pl ⟨kd, nu, is, fA, fc, fs⟩) := by rw [← hsame.out, List.getElem?_map, hx'.out]; rfl
            have hsp : spoilS fs = fs := by unfold spoilS; rw [hgve.out, hnf]
            unfold Hid
            rw [spoilK_some h1 hk1'.out]
            · simp only [Pap.pl]; rw [hsp]
              obtain ⟨hj, he⟩ := List.getElem?_eq_some_iff.1 h1
              have := List.set_getElem_self hj
              rw [he] at this
              rw [hsame.out]
              exact this.symm
            · intro i y hi hy
              rw [← hsame.out, List.getElem?_map] at hy
              obtain ⟨p, hp, rfl⟩ := Option.map_eq_some_iff.1 hy
              exact hno'.out i p hi hp
          have hlen9 : Hid (ps.length = q + 1) := hC.out.len
          clear hnf
          simp only [twoN, Option.getD_none, Option.isSome_none]
          go_wp2_with fail
          go_ret
          exact ⟨_, cw, ps, by rw [hlen9.out]; rfl, (hD.out.below hb2'.out).below hb24.out, hpay.out, hB4.out⟩
        | some v =>
          have hvb : Hid (-4611686018427387904 ≤ v ∧ v ≤ 4611686018427387904) := by
            unfold numF at hnf
            split at hnf
            · split at hnf
              · rename_i h; cases hnf; exact ⟨h.1, h.2.1⟩
              · cases hnf
            · cases hnf
          have hsp : Hid (spoilS fs = setF fs ⟨#[115, 117, 109]⟩ (mkB (Lib.itoa (v + 1)))) := by unfold Hid spoilS; rw [hgve.out, hnf]
          clear hnf
          have hvw : IntKind.i64.wrap (v + 1) = v + 1 := IntWalk.i64_in _ (by have := hvb.out; omega)
          have hx9 : Hid (∀ W, Below w4.heap.size w4 W → W.cell? ⟨g, j * 4, none⟩ = some (.int .i64 kd) ∧ W.cell? ⟨g, j * 4 + 1, none⟩ = some (.string nu) ∧ W.cell? ⟨g, j * 4 + 2, none⟩ = some (.string is) ∧ W.cell? ⟨g, j * 4 + 3, none⟩ = some (.slice fA m fc)) := fun W hW => by
            have hh : ∀ o, W.cell? ⟨g, o, none⟩ = w2.cell? ⟨g, o, none⟩ := fun o => (hW.cell (by have := hgl0.out; have := hb24.out.size; show g < _; omega)).trans (hb24.out.cell hgl0.out)
            exact ⟨(hh _).trans hx8.out.1, (hh _).trans hx8.out.2.1, (hh _).trans hx8.out.2.2.1, (hh _).trans hx8.out.2.2.2⟩
          obtain ⟨x0, x1, x2, x3⟩ := hx9.out w4.drew (Below.refl _ _).drew
          have hcall : Hid (∀ W, Below w4.heap.size w4 W → Calls Tryz.prog 53 #[.agg #[.int .i64 kd, .string nu, .string is, .slice fA m fc], .string ⟨#[115, 117, 109]⟩, .string (mkB (Lib.itoa (v + 1)))] W fun e w' => ∃ A' c', e = .returned (.agg #[.int .i64 kd, .string nu, .string is, .slice A' (setF fs ⟨#[115, 117, 109]⟩ (mkB (Lib.itoa (v + 1)))).length c']) ∧ w'.ownsRow W.heap.size 79 2 (.slice A' (setF fs ⟨#[115, 117, 109]⟩ (mkB (Lib.itoa (v + 1)))).length c') (setF fs ⟨#[115, 117, 109]⟩ (mkB (Lib.itoa (v + 1)))).length (flF (setF fs ⟨#[115, 117, 109]⟩ (mkB (Lib.itoa (v + 1))))) ∧ Below W.heap.size W w') :=
            fun W hW => spoil_any kd nu is fA m fc fs _ _ W hmx hm (Lib.hid (hF4.out.below hW))
          obtain ⟨G, hG⟩ : ∃ G, Hid (setF fs ⟨#[115, 117, 109]⟩ (mkB (Lib.itoa (v + 1))) = G) := ⟨_, rfl⟩
          obtain ⟨r, hr⟩ : ∃ r, Hid (G.length = r) := ⟨_, rfl⟩
          rw [hG.out, hr.out] at hcall
          rw [hG.out] at hsp
          have hdig : Hid (∀ W, Below w4.heap.size w4 W → Calls Tryz.prog 33 #[.int .i64 (v + 1)] W fun e w' => e = .returned (.string (mkB (Lib.itoa (v + 1)))) ∧ Below W.heap.size W w') :=
            fun W hW => pdigits_any (v + 1) W (by have := hvb.out; omega) (by have := hvb.out; omega) (he'.out.below (hB4.out.trans (hW.mono hB4.out.size)))
          have hne : Hid (some cv ≠ some g) := fun e => own_blk_ne hC.out.row hC.out.var_ (by decide) (by rw [e]; rfl)
          have hcg : cv ≠ g := fun e => hne.out (by rw [e])
          have hcg' := Lib.hid hcg
          have hgl' : Hid (g < w4.heap.size) := by have := hgl0.out; have := hb24.out.size; unfold Hid; omega
          obtain ⟨cs9, hgB⟩ : ∃ cs9, Hid (Blk w4 g 32 cs9) := by
            rcases Blk.of_row hrow4.out with h | ⟨g', c', cs, h, _, hb⟩
            · cases h
            · simp only [Value.slice.injEq, Option.some.injEq, Addr.mk.injEq, and_true, true_and] at h
              obtain ⟨rfl, rfl⟩ := h
              exact ⟨cs, hb⟩
          simp only [twoN, Option.getD_some, Option.isSome_some]
          go_wp2_with fail
          rw [← id_eq (a := Oper.mk (some 59) _ _ _ _ _)]
          go_region_held3 (fun W => W.cell? ⟨cv, 0, none⟩ = some (.slice (some ⟨g, 0, none⟩) (q + 1) cw)) (first | exact hv4.out.drew.cell 0 | exact hv5.out.cell 0 | exact hv6.out.cell 0 | exact hv9.out.cell 0) (first
            | (go_at_call 33; (with_reducible refine (hdig.out _ (Below.refl _ _).drew).mono ?_); rintro e w5 ⟨rfl, hb5⟩; have hb45' : Hid (Below w4.heap.size w4 w5) := (Below.refl _ _).drew.trans hb5; have hv5 := Lib.hid (hv4.out.below hb45'.out hv4.out.lt); obtain ⟨v0, v1, v2, v3⟩ := hx9.out w5 hb45'.out; clear hb5)
            | (go_at_call 53; (with_reducible refine (hcall.out _ hb45'.out).mono ?_); rintro e w6 ⟨A8, c8, rfl, ho6, hb6⟩; have hb46 : Hid (Below w4.heap.size w4 w6) := hb45'.out.trans (hb6.mono hb45'.out.size); have ho6' := Lib.hid ho6; have hv6 := Lib.hid (hv4.out.below hb46.out hv4.out.lt); have hrow6 := Lib.hid (own_below hrow4.out hb46.out); have hgB6 := Lib.hid (hgB.out.below hb46.out hgl'.out); obtain ⟨y0, y1, y2, y3⟩ := hx9.out w6 hb46.out; have yf := hgB6.out.frozen; have hv9 := Lib.hid ((((hv6.out.far (p := ⟨g, j * 4, none⟩) hcg'.out (.int .i64 kd)).far (p := ⟨g, j * 4 + 1, none⟩) hcg'.out (.string nu)).far (p := ⟨g, j * 4 + 2, none⟩) hcg'.out (.string is)).far (p := ⟨g, j * 4 + 3, none⟩) hcg'.out (.slice A8 r c8)); clear ho6 hb6))
          all_goals
            have hvc9 := hv9.out.cell 0
            simp only [List.getElem?_toArray, List.getElem?_cons_zero] at hvc9
            have hrow9 := Lib.hid ((((hrow6.out.stored (j * 4) (.int .i64 kd)).1.stored (j * 4 + 1) (.string nu)).1.stored (j * 4 + 2) (.string is)).1.stored (j * 4 + 3) (.slice A8 r c8)).1
            have hset := docs_set ps j _ ⟨kd, nu, is, A8, c8, G⟩ hx'.out
            simp only at hset
            rw [hr.out] at hset
            have hrow := hrow9.out
            rw [hset] at hrow
            have hrow' := Lib.hid hrow
            have hB6 : Hid (Below w.heap.size w w6) := hB4.out.trans (hb46.out.mono hB4.out.size)
            have hO6 : Hid (OwnD w6 w.heap.size (ps.set j ⟨kd, nu, is, A8, c8, G⟩)) := by
              intro p hp
              rcases List.mem_or_eq_of_mem_set hp with h | rfl
              · exact (((hC.out.fields.below hb2'.out).below hb24.out).below hb46.out) p h
              · simp only; rw [hr.out]; exact own_mono_base ho6'.out (Nat.le_trans hB4.out.size hb45'.out.size)
            have hO9 := Lib.hid ((((hO6.out.set_ hgB6.out (by decide) (o := j * 4) (.int .i64 kd)).set_ (hgB6.out.set_ (j * 4) (.int .i64 kd)) (by decide) (o := j * 4 + 1) (.string nu)).set_ ((hgB6.out.set_ (j * 4) (.int .i64 kd)).set_ (j * 4 + 1) (.string nu)) (by decide) (o := j * 4 + 2) (.string is)).set_ (((hgB6.out.set_ (j * 4) (.int .i64 kd)).set_ (j * 4 + 1) (.string nu)).set_ (j * 4 + 2) (.string is)) (by decide) (o := j * 4 + 3) (.slice A8 r c8))
            have hki9 : Hid (∀ p ∈ ps.set j ⟨kd, nu, is, A8, c8, G⟩, i64 p.kind ∧ p.fields.length ≤ maxLen) := by
              intro p hp
              rcases List.mem_or_eq_of_mem_set hp with h | rfl
              · exact hki.out p h
              · refine ⟨(hki.out _ (List.mem_of_getElem? hx'.out)).1, ?_⟩
                have h2 := setF_len2 fs ⟨#[115, 117, 109]⟩ (mkB (Lib.itoa (v + 1)))
                rw [hG.out, hm.out] at h2
                simp only
                unfold maxLen
                omega
            have hpay : Hid ((ps.set j ⟨kd, nu, is, A8, c8, G⟩).map Pap.pl = spoilK 0 spoilS (l.map Pap.pl)) := by
              have h1 : (l.map Pap.pl)[j]? = some (Pap.pl ⟨kd, nu, is, fA, fc, fs⟩) := by rw [← hsame.out, List.getElem?_map, hx'.out]; rfl
              unfold Hid
              rw [spoilK_some h1 hk1'.out, ← hsame.out, List.map_set]
              · simp only [Pap.pl]; rw [hsp.out]
              · intro i y hi hy
                rw [← hsame.out, List.getElem?_map] at hy
                obtain ⟨p, hp, rfl⟩ := Option.map_eq_some_iff.1 hy
                exact hno'.out i p hi hp
            have hlen9 : Hid ((ps.set j ⟨kd, nu, is, A8, c8, G⟩).length = q + 1) := by unfold Hid; rw [List.length_set]; exact hC.out.len
            clear hset hrow y0 y1 y2 y3 yf x0 x1 x2 x3 v0 v1 v2 v3
            go_wp2_with fail
            go_ret
            obtain ⟨A9, c9, e9, _, hd9⟩ := docs_of hrow'.out hlen9.out hO9.out hki9.out
            simp only [Value.slice.injEq, true_and] at e9
            obtain ⟨rfl, rfl⟩ := e9
            exact ⟨_, cw, ps.set j ⟨kd, nu, is, A8, c8, G⟩, by rw [hlen9.out]; rfl, hd9, hpay.out, (((hB6.out.setCell hg0 _).setCell hg0 _).setCell hg0 _).setCell hg0 _⟩
end Go.Proofs.YtnmnknkdnjkpjaaGreatDoor

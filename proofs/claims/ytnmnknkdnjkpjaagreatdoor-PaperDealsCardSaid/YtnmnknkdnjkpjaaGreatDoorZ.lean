/- paper.Spoilt: all papers copied; one left out. -/
import Derived.Test.YtnmnknkdnjkpjaaGreatDoorY
namespace Go.Proofs.YtnmnknkdnjkpjaaGreatDoor
open Go Go.RowKit Go.BigFrame Go.Maps

theorem own_form {w : World} {B n : Nat} {e : TypeId} {size : Nat} {v : Value} {xs : List Value} (h : w.ownsRow B e size v n xs) : ∃ A c, v = .slice A n c := by
  rcases h.2 with ⟨rfl, h0⟩ | ⟨g, cap, cur, rfl, _⟩
  · subst h0; exact ⟨_, _, rfl⟩
  · exact ⟨_, _, rfl⟩
theorem docs_of {w : World} {B n : Nat} {v : Value} {ps : List Pap} (h : w.ownsRow B 32 4 v n (ps.flatMap encD)) (hl : ps.length = n) (hO : OwnD w B ps) (hk : ∀ p ∈ ps, i64 p.kind ∧ p.fields.length ≤ maxLen) : ∃ A c, v = .slice A n c ∧ n ≤ c ∧ DocsAt w A ps := by
  obtain ⟨A, c, e, hc, hr⟩ := RowOf.of_own encD_len h hl
  refine ⟨A, c, e, hc, fun k x hx => ?_⟩
  obtain ⟨b, off, hA, hcell⟩ := hr k x hx
  have hm := List.mem_of_getElem? hx
  obtain ⟨A', c', e', hc', hf⟩ := fields_of_own (hO x hm) rfl
  simp only [Value.slice.injEq, true_and] at e'
  obtain ⟨rfl, rfl⟩ := e'
  exact ⟨b, off, hA, hcell 0 _ rfl, hcell 1 _ rfl, hcell 2 _ rfl, hcell 3 _ rfl, hf, (hk x hm).2, (hk x hm).1⟩
/-- All but the first paper of a kind. -/
def eraseK (k : Int) : List Dc → List Dc
  | [] => []
  | x :: l => if x.kind = k then l else x :: eraseK k l
theorem eraseK_none {k : Int} : ∀ {l : List Dc}, (∀ x ∈ l, ¬ x.kind = k) → eraseK k l = l
  | [], _ => rfl
  | x :: l, h => by rw [eraseK, if_neg (h x (by simp)), eraseK_none fun y hy => h y (by simp [hy])]
theorem eraseK_some {k : Int} : ∀ {l : List Dc} {j : Nat} {x : Dc}, l[j]? = some x → x.kind = k → (∀ i y, i < j → l[i]? = some y → ¬ y.kind = k) → eraseK k l = l.eraseIdx j
  | [], j, x, h, _, _ => by simp at h
  | y :: l, 0, x, h, h1, _ => by simp at h; subst h; rw [eraseK, if_pos h1]; rfl
  | y :: l, j + 1, x, h, h1, h2 => by
    rw [eraseK, if_neg (h2 0 y (by omega) rfl), eraseK_some (by simpa using h) h1 fun i z hi hz => h2 (i + 1) z (by omega) (by simpa using hz)]
    rfl
/-- The state behind the copying. -/
structure Copied (B cv : Nat) (w W : World) (l : List Pap) (k : Nat) (v : Value) (ps : List Pap) : Prop where
  row : W.ownsRow B 32 4 v k (ps.flatMap encD)
  len : ps.length = k
  same : ps.map Pap.pl = (l.take k).map Pap.pl
  fields : OwnD W B ps
  var_ : Blk W cv 42 #[v]
  below : Below B w W

set_option maxRecDepth 100000 in
set_option maxHeartbeats 3200000 in
theorem spoilt2_any (A : Option Addr) (n c : Nat) (l : List Pap) (w : World) (hn : n ≤ 1000) (hl : Hid (l.length = n)) (hA : Hid (DocsAt w A l)) (hsm : Hid (∀ p ∈ l, p.fields.length ≤ 1000000)) :
    Calls Tryz.prog 23 #[.int .i64 2, .slice A n c] w fun e w' => ∃ A' c' L', e = .returned (.slice A' L'.length c') ∧ DocsAt w' A' L' ∧ L'.map Pap.pl = eraseK 1 (l.map Pap.pl) ∧ Below w.heap.size w w' := by
  obtain ⟨i0, hi, hz0, hz1, hz2⟩ := info_parts Tryz.info32
  have hm1 : Hid (i0.bytes * n ≤ 281474976710656) := by unfold Hid; rw [hz2]; omega
  have hm2 : Hid (n ≤ maxLen) := by unfold Hid maxLen; omega
  go_enter Tryz.func23, Tryz.ntmps23
  go_wp2_with (at_make; go_must (refine wpList_make_own _ rfl _ _ 42 rfl w.heap.size 32 i0 _ 4 Tryz.underlying42 hi hz0 hz1 _ _ _ n rfl rfl rfl hm1.out hm2.out (Nat.le_refl _) ?_); intro w1 hown hgrow)
  have hcv : Hid (w.heap.size ≤ w1.heap.size) := hgrow.size
  have hC0 : Hid (Copied w.heap.size w1.heap.size w (w1.alloc (.cells #[.slice (some ⟨w.heap.size, 0, none⟩) 0 n] 42)) l 0 (.slice (some ⟨w.heap.size, 0, none⟩) 0 n) []) :=
    ⟨hown.alloc _, rfl, rfl, fun p hp => by simp at hp, Blk.new _ _ _, ((Below.refl _ w).grown hgrow (Nat.le_refl _) (by simp)).alloc hgrow.size _⟩
  obtain ⟨cv, hcve⟩ : ∃ cv, Hid (w1.heap.size = cv) := ⟨_, rfl⟩
  rw [hcve.out] at hC0 hcv ⊢
  clear hown hgrow
  go_loopw [21] (fun i wr => ∃ (k : Nat) (v : Value) (ps : List Pap), k ≤ n ∧ i = .int .i64 (k : Int) ∧ Hid (Copied w.heap.size cv w wr l k v ps)) (fun i _ => n - (intOf i).toNat)
  case atStart => exact ⟨0, _, [], Nat.zero_le _, rfl, hC0⟩
  case round =>
    obtain ⟨k, v, ps, hk, rfl, hC⟩ := hrel
    obtain ⟨Av, cw, rfl, hcw, _⟩ := RowOf.of_own encD_len hC.out.row hC.out.len
    by_cases hlt : k < n
    · obtain ⟨x, hx⟩ : ∃ x, l[k]? = some x := ⟨_, List.getElem?_eq_getElem (by have := hl.out; omega)⟩
      obtain ⟨b, off, rfl, h0, h1, h2, h3, h4, h5, h6⟩ := (hA.out.below hC.out.below) k x hx
      have hmx := hsm.out x (List.mem_of_getElem? hx)
      have htk : Hid ((l.take (k + 1)).map Pap.pl = (l.take k).map Pap.pl ++ [x.pl]) := by unfold Hid; rw [List.take_add_one, hx]; simp
      have h4' := Lib.hid h4
      clear hx h4 h5 h6
      obtain ⟨kd, nu, is, fA, fc, fs⟩ := x
      simp only at h0 h1 h2 h3 hmx h4' htk
      obtain ⟨m, hm⟩ : ∃ m, Hid (fs.length = m) := ⟨_, rfl⟩
      rw [hm.out] at h3 hmx
      obtain ⟨wa, hwa⟩ : ∃ wa, Hid (wr.alloc (.cells #[.int .i64 kd, .string nu, .string is, .slice fA m fc] 32) = wa) := ⟨_, rfl⟩
      have hbl : Hid (Below wr.heap.size wr wa) := by rw [← hwa.out]; exact (Below.refl _ wr).alloc (Nat.le_refl _) _
      have hbx : Hid (Blk wa wr.heap.size 32 #[.int .i64 kd, .string nu, .string is, .slice fA m fc]) := by rw [← hwa.out]; exact Blk.new _ _ _
      have hva := Lib.hid (hC.out.var_.below hbl.out hC.out.var_.lt)
      have hcvl : Hid (cv < wr.heap.size) := hC.out.var_.lt
      have hcall : Hid (∀ W, Below wa.heap.size wa W → Calls Tryz.prog 48 #[.agg #[.int .i64 kd, .string nu, .string is, .slice fA m fc]] W fun e w' => ∃ A' c', e = .returned (.agg #[.int .i64 kd, .string nu, .string is, .slice A' m c']) ∧ w'.ownsRow W.heap.size 79 2 (.slice A' m c') m (flF fs) ∧ Below W.heap.size W w') :=
        fun W hW => copyDoc_any kd nu is fA m fc fs W hmx hm (Lib.hid ((h4'.out.below hbl.out).below hW))
      have hkc : Hid (cv ≠ wr.heap.size) := by have := hcvl.out; unfold Hid; omega
      have hroww := Lib.hid (own_below hC.out.row hbl.out)
      have hq1 : Hid (k + 1 ≤ maxLen) := by unfold Hid maxLen; omega
      have hq2 : Hid ((k + 1) * 64 ≤ 140737488355328) := by unfold Hid; omega
      have hB0 : Hid (w.heap.size ≤ wr.heap.size) := hC.out.below.size
      have hnb : Hid (some wr.heap.size ≠ (Value.slice Av k cw).ownBlock) := fun e => by have := (hC.out.row.lt _ e.symm).2; omega
      have hnv : Hid (some cv ≠ (Value.slice Av k cw).ownBlock) := fun e => own_blk_ne hC.out.row hC.out.var_ (by decide) e.symm
      have hvc : wa.cell? ⟨cv, 0, none⟩ = some (.slice Av k cw) := hva.out.cell 0
      have hvl : cv < wa.heap.size := hva.out.lt
      go_wp2_with fail
      rw [hwa.out]
      rw [← id_eq (a := Oper.mk (some 25) _ _ _ _ _)]
      go_region_held3 (fun W => W.cell? ⟨wr.heap.size, 0, none⟩ = some (.int .i64 kd) ∧ W.cell? ⟨wr.heap.size, 1, none⟩ = some (.string nu) ∧ W.cell? ⟨wr.heap.size, 2, none⟩ = some (.string is) ∧ W.cell? ⟨wr.heap.size, 3, none⟩ = some (.slice fA m fc)) (first | exact ⟨hbx.out.cell 0, hbx.out.cell 1, hbx.out.cell 2, hbx.out.cell 3⟩ | exact ⟨hx2.out.cell 0, hx2.out.cell 1, hx2.out.cell 2, hx2.out.cell 3⟩ | exact ⟨hx3.out.cell 0, hx3.out.cell 1, hx3.out.cell 2, hx3.out.cell 3⟩ | exact ⟨hx5.out.cell 0, hx5.out.cell 1, hx5.out.cell 2, hx5.out.cell 3⟩ | exact ⟨hx6.out.cell 0, hx6.out.cell 1, hx6.out.cell 2, hx6.out.cell 3⟩) (first
        | (go_at_call 48; (with_reducible refine (hcall.out _ (Below.refl _ _).drew).mono ?_); rintro e w2 ⟨A2, c2, rfl, ho2, hb2⟩; have hb2' : Hid (Below wa.heap.size wa w2) := (Below.refl _ _).drew.trans hb2; have ho2' := Lib.hid ho2; have hx2 := Lib.hid (hbx.out.below hb2'.out hbx.out.lt); have hv2 := Lib.hid (hva.out.below hb2'.out hva.out.lt); have hvc2 : w2.cell? ⟨cv, 0, none⟩ = some (.slice Av k cw) := hv2.out.cell 0; have hvl2 : cv < w2.heap.size := hv2.out.lt; have hx3 := Lib.hid (hx2.out.alloc (.cells #[.int .i64 kd, .string nu, .string is, .slice A2 m c2] 32)); have hone : Hid (∀ u ∈ (#[.int .i64 kd, .string nu, .string is, .slice A2 m c2] : Array Value).toList, u.oneCell' = true) := (by intro u hu; simp at hu; rcases hu with rfl | rfl | rfl | rfl <;> rfl); have hsz2 : Hid (w.heap.size ≤ (w2.alloc (.cells #[.int .i64 kd, .string nu, .string is, .slice A2 m c2] 32)).heap.size) := Nat.le_trans (Nat.le_trans hB0.out hbl.out.size) (Nat.le_trans hb2'.out.size (by simp)); clear ho2 hb2)
        | (refine step_app_blk w.heap.size rfl (.tmp 25) (.tmp 28) 42 rfl 32 i0 _ 4 64 Tryz.underlying42 hi hz0 hz1 hz2 rfl (by decide) (.slice Av k cw) k (ps.flatMap encD) rfl w2.heap.size 1 #[.int .i64 kd, .string nu, .string is, .slice A2 m c2] rfl ((own_below hroww.out hb2'.out).alloc _) (Blk.new w2 32 _) rfl hone.out hq1.out hq2.out hsz2.out ?_; intro v5 w5 ho5 hb5 hg5; obtain ⟨A5, c5, rfl⟩ := own_form ho5; have ho5' := Lib.hid ho5; have hg5' := Lib.hid hg5; have hb5' := Lib.hid hb5; have hx5 := Lib.hid (hx3.out.grown hg5 hnb.out); have hv5 := Lib.hid ((hv2.out.alloc _).grown hg5 hnv.out); have hvc5 : w5.cell? ⟨cv, 0, none⟩ = some (.slice Av k cw) := hv5.out.cell 0; have hvl5 : cv < w5.heap.size := hv5.out.lt; have hvf5 := hv5.out.frozen; have hx6 := Lib.hid (hx5.out.far (p := ⟨cv, 0, none⟩) hkc.out.symm (.slice A5 (k + 1) c5)); clear ho5 hg5 hb5))
      all_goals
        have hp : Hid (Pap.pl ⟨kd, nu, is, A2, c2, fs⟩ = Pap.pl ⟨kd, nu, is, fA, fc, fs⟩) := Lib.hid rfl
        have hW2 : Hid (Below w.heap.size w w2) := hC.out.below.trans ((hbl.out.mono hB0.out).trans (hb2'.out.mono (Nat.le_trans hB0.out hbl.out.size)))
        have hrow5 : Hid (w5.ownsRow w.heap.size 32 4 (.slice A5 (k + 1) c5) (k + 1) ((ps ++ [(⟨kd, nu, is, A2, c2, fs⟩ : Pap)]).flatMap encD)) := by
          rw [List.flatMap_append]
          have := ho5'.out
          exact Lib.hid (by simpa [encD, hm.out] using this)
        have hO2 : Hid (OwnD w2 w.heap.size (ps ++ [(⟨kd, nu, is, A2, c2, fs⟩ : Pap)])) := by
          intro p hp
          rcases List.mem_append.1 hp with h | h
          · exact (hC.out.fields.below hbl.out).below hb2'.out p h
          · obtain rfl := List.mem_singleton.1 h
            have := own_mono_base ho2'.out (B' := w.heap.size) (Nat.le_trans hB0.out hbl.out.size)
            simpa [hm.out] using this
        have hO5 : Hid (OwnD w5 w.heap.size (ps ++ [(⟨kd, nu, is, A2, c2, fs⟩ : Pap)])) := by
          intro p hp
          have h0 := (hO2.out p hp).alloc (.cells #[.int .i64 kd, .string nu, .string is, .slice A2 m c2] 32)
          exact h0.kept hg5'.out (own_apart h0 ((own_below hroww.out hb2'.out).alloc _) (by decide))
        have hnew : Hid (Copied w.heap.size cv w (w5.setCell ⟨cv, 0, none⟩ (.slice A5 (k + 1) c5)) l (k + 1) (.slice A5 (k + 1) c5) (ps ++ [(⟨kd, nu, is, A2, c2, fs⟩ : Pap)])) :=
          ⟨own_set hrow5.out hv5.out (by decide), by simp [hC.out.len], by rw [List.map_append, hC.out.same, htk.out]; rfl, hO5.out.set_ hv5.out (by decide) _, by simpa using hv5.out.set_ 0 (.slice A5 (k + 1) c5),
            ((hW2.out.alloc (Nat.le_trans (Nat.le_trans hB0.out hbl.out.size) hb2'.out.size) _).trans hb5'.out).setCell hcv.out _⟩
        go_wp2_with fail
        go_roundw
        case rel => exact ⟨k + 1, _, _, by omega, by go_num, hnew⟩
        case measure => simp [intOf]; omega
    · have e : k = n := by omega
      have eT : l.take k = l := List.take_of_length_le (by have := hl.out; omega)
      have hsame : Hid (ps.map Pap.pl = l.map Pap.pl) := by have := hC.out.same; rw [eT] at this; exact this
      have hki : Hid (∀ p ∈ ps, i64 p.kind ∧ p.fields.length ≤ maxLen) := by
        intro p hp
        obtain ⟨q, hq, he⟩ : ∃ q ∈ l, q.pl = p.pl := by
          have : p.pl ∈ l.map Pap.pl := by rw [← hsame.out]; exact List.mem_map_of_mem hp
          obtain ⟨q, hq, he⟩ := List.mem_map.1 this
          exact ⟨q, hq, he⟩
        obtain ⟨j, hj⟩ := List.mem_iff_getElem?.1 hq
        obtain ⟨_, _, _, _, _, _, _, _, h5, h6⟩ := hA.out j q hj
        simp only [Pap.pl, Dc.mk.injEq] at he
        exact ⟨by rw [← he.1]; exact h6, by rw [← he.2.2.2]; exact h5⟩
      obtain ⟨Av', cw', eA, hcw', hDocs⟩ := docs_of hC.out.row hC.out.len hC.out.fields hki.out
      simp only [Value.slice.injEq, true_and] at eA
      obtain ⟨rfl, rfl⟩ := eA
      have hD := Lib.hid hDocs
      have hvc : wr.cell? ⟨cv, 0, none⟩ = some (.slice Av k cw) := hC.out.var_.cell 0
      have hvl : cv < wr.heap.size := hC.out.var_.lt
      have hpl := Lib.hid (placeD_any Av k cw ps 1 cv wr (by unfold maxLen; omega) (Lib.hid hC.out.len) hD hvc)
      clear hDocs eT e hcw'
      go_wp2_with fail
      refine hpl.out.mono ?_
      rintro e w2 ⟨i, rfl, hF, hb2⟩
      have hb2' := Lib.hid hb2
      have hv2 := Lib.hid (hC.out.var_.below hb2 hC.out.var_.lt)
      have hvc2 : w2.cell? ⟨cv, 0, none⟩ = some (.slice Av k cw) := hv2.out.cell 0
      have hvl2 : cv < w2.heap.size := hv2.out.lt
      have hvf2 := hv2.out.frozen
      have hB2 : Hid (Below w.heap.size w w2) := hC.out.below.trans (hb2.mono hC.out.below.size)
      have hlt' := Lib.hid hlt
      clear hb2 hpl hvc hvl hlt
      rcases hF with ⟨rfl, hno⟩ | ⟨j, x, rfl, hx, hk1, hno⟩
      · have hno' := Lib.hid hno
        clear hno
        go_wp2_with fail
        go_ret
        refine ⟨Av, cw, ps, by rw [hC.out.len]; rfl, hD.out.below hb2'.out, ?_, hB2.out⟩
        rw [← hsame.out, eraseK_none]
        intro d hd
        obtain ⟨p, hp, rfl⟩ := List.mem_map.1 hd
        exact hno'.out p hp
      · have hx' := Lib.hid hx
        have hk1' := Lib.hid hk1
        have hno' := Lib.hid hno
        have hjk : j < k := by have := (List.getElem?_eq_some_iff.1 hx).1; have := hC.out.len; omega
        obtain ⟨q, rfl⟩ : ∃ q, k = q + 1 := ⟨k - 1, by omega⟩
        obtain ⟨g, cap, hv, hg0, hg1⟩ := hC.out.row.form (by omega)
        simp only [Value.slice.injEq, true_and] at hv
        obtain ⟨rfl, rfl⟩ := hv
        have hrow2 := Lib.hid (own_below hC.out.row hb2'.out)
        have hdel := Lib.hid (delete_any g cw q j ps w.heap.size w2 (by omega) (by omega) hcw hrow2)
        have hjp : (0 : Int) ≤ (j : Int) := by omega
        clear hx hk1 hno
        go_wp2_with fail
        refine hdel.out.mono ?_
        rintro e w3 ⟨rfl, ho3, hg3⟩
        have hne : Hid (some cv ≠ some g) := fun e => own_blk_ne hC.out.row hC.out.var_ (by decide) (by rw [e]; rfl)
        have hv3 := Lib.hid (hv2.out.grown hg3 hne.out)
        have hvl3 : cv < w3.heap.size := hv3.out.lt
        have hvf3 := hv3.out.frozen
        have hvc3 : w3.cell? ⟨cv, 0, none⟩ = some (.slice (some ⟨g, 0, none⟩) (q + 1) cw) := hv3.out.cell 0
        have hO3 : Hid (OwnD w3 w.heap.size (ps.eraseIdx j)) := fun p hp =>
          ((hC.out.fields.below hb2'.out) p (List.mem_of_mem_eraseIdx hp)).kept hg3 (own_apart ((hC.out.fields.below hb2'.out) p (List.mem_of_mem_eraseIdx hp)) hrow2.out (by decide))
        have ho3' := Lib.hid ho3
        have hB3 : Hid (Below w.heap.size w w3) := hB2.out.grown hg3 hB2.out.size (fun i hi => by cases hi; exact hg0)
        clear ho3 hg3
        go_wp2_with fail
        go_ret
        have hlen : (ps.eraseIdx j).length = q := by rw [List.length_eraseIdx, if_pos (by have := hC.out.len; omega), hC.out.len]; rfl
        have hdo := docs_of (own_set ho3'.out hv3.out (by decide) (o := 0) (u := .slice (some ⟨g, 0, none⟩) q cw)) hlen (hO3.out.set_ hv3.out (by decide) _) (fun p hp => hki.out p (List.mem_of_mem_eraseIdx hp))
        obtain ⟨A9, c9, e9, _, hd9⟩ := hdo
        simp only [Value.slice.injEq, true_and] at e9
        obtain ⟨rfl, rfl⟩ := e9
        refine ⟨_, cw, ps.eraseIdx j, by rw [hlen]; rfl, hd9, ?_, hB3.out.setCell hcv.out _⟩
        have h1 : (l.map Pap.pl)[j]? = some x.pl := by rw [← hsame.out, List.getElem?_map, hx'.out]; rfl
        rw [eraseK_some h1 hk1'.out, ← hsame.out]
        · rw [erase_take, erase_take, List.map_append, List.map_take, List.map_drop]
        · intro i y hi hy
          rw [← hsame.out, List.getElem?_map] at hy
          obtain ⟨p, hp, rfl⟩ := Option.map_eq_some_iff.1 hy
          exact hno'.out i p hi hp
end Go.Proofs.YtnmnknkdnjkpjaaGreatDoor

/- The law SyntaxStands: what is parsed is printed to a text that is parsed to the same, unless it is too long. -/
import Derived.Test.YtjkmhlfjheiekaaGreatDoorQe
import Derived.Test.YtjkmhlfjheiekaaGreatDoorQf
namespace Go.Proofs.YtjkmhlfjheiekaaGreatDoor
open Go Go.RowKit Go.BigFrame Go.Maps

theorem par_len (b : Bool) (t : Txt) : t.length ≤ (inPar b t).length := by unfold inPar; split <;> simp <;> omega
mutual
/-- How great a rule is, by its text. -/
theorem sz_show : ∀ r : Rul, mayR r = true → szR r + 16 ≤ 100 * (showR r).length
  | .mk k p f x n L, hm => by
    rw [mayR] at hm
    rw [szR, showR]
    split at hm
    · rename_i hk
      simp only [Bool.and_eq_true, decide_eq_true_eq] at hm
      obtain ⟨⟨⟨⟨⟨⟨_, _⟩, rfl⟩, rfl⟩, h2⟩, _⟩, hl⟩ := hm
      rw [if_neg (by omega), if_neg (by omega), if_neg (by omega), if_neg (by omega), if_neg (by omega), if_neg (by omega)]
      split
      · have := sz_showL 1 [32, 111, 114, 32] L hl
        rw [if_pos h2] at this
        simp only [List.length_cons, List.length_nil] at this ⊢
        omega
      · have := sz_showL 0 [32, 97, 110, 100, 32] L hl
        rw [if_pos h2] at this
        simp only [List.length_cons, List.length_nil] at this ⊢
        omega
    · split at hm
      · rename_i hk
        subst hk
        simp only [Bool.and_eq_true, decide_eq_true_eq] at hm
        obtain ⟨⟨⟨⟨⟨_, _⟩, rfl⟩, rfl⟩, _⟩, hl⟩ := hm
        rw [if_neg (by decide), if_neg (by decide), if_neg (by decide), if_neg (by decide), if_neg (by decide), if_pos rfl]
        have := sz_showL 2 [] L hl
        simp only [List.length_append, List.length_cons, List.length_nil] at this ⊢
        split at this <;> omega
      · split at hm
        · rename_i hk
          simp only [Bool.and_eq_true, decide_eq_true_eq] at hm
          obtain ⟨⟨⟨⟨_, _⟩, hL⟩, _⟩, _⟩ := hm
          obtain rfl := List.eq_nil_of_length_eq_zero hL
          rw [szL]
          rcases hk with rfl | rfl
          · rw [if_pos rfl]; simp only [List.length_append, List.length_cons, List.length_nil]; omega
          · rw [if_neg (by decide), if_pos rfl]; simp only [List.length_append, List.length_cons, List.length_nil]; omega
        · split at hm
          · rename_i hk
            simp only [Bool.and_eq_true, decide_eq_true_eq] at hm
            obtain ⟨⟨⟨⟨⟨_, rfl⟩, hL⟩, _⟩, _⟩, _⟩ := hm
            obtain rfl := List.eq_nil_of_length_eq_zero hL
            rw [szL]
            rcases hk with rfl | rfl
            · rw [if_neg (by decide), if_neg (by decide), if_pos rfl]; simp only [List.length_append, List.length_cons, List.length_nil]; omega
            · rw [if_neg (by decide), if_neg (by decide), if_neg (by decide), if_pos rfl]; simp only [List.length_append, List.length_cons, List.length_nil]; omega
          · split at hm
            · rename_i hk
              subst hk
              simp only [Bool.and_eq_true, decide_eq_true_eq] at hm
              obtain ⟨⟨⟨⟨⟨_, hL⟩, _⟩, _⟩, _⟩, _⟩ := hm
              obtain rfl := List.eq_nil_of_length_eq_zero hL
              rw [szL, if_neg (by decide), if_neg (by decide), if_neg (by decide), if_neg (by decide), if_pos rfl]
              simp only [List.length_append, List.length_cons, List.length_nil]; omega
            · cases hm
theorem sz_showL (o : Int) (sep : Txt) : ∀ L : List Rul, mayL L = true → szL L + (if 2 ≤ L.length then 100 * sep.length else 0) ≤ 100 * (showL o sep L).length
  | [], _ => by simp [szL]
  | r :: L, hm => by
    rw [mayL, Bool.and_eq_true] at hm
    have h1 := sz_show r hm.1
    have h2 := sz_showL o sep L hm.2
    have h3 := par_len (parB o r.kind) (showR r)
    rw [szL, showL]
    simp only [List.length_append, List.length_cons]
    cases L with
    | nil => rw [if_neg (by simp)]; simp [szL]; omega
    | cons a L => rw [if_pos (by simp), if_neg (by simp)]; simp only [List.length_cons] at h2 ⊢; omega
end
theorem sz_empty : szR emptyR = 64 := rfl
theorem texts_short {c : Crd} (h : c.names1) : c.short := by
  intro x hx
  have hc : c.confirmer.length ≤ 16 := by
    rcases h.confirmer with h | h
    · rw [h]; simp
    · exact nameM_len h
  have hk : c.currency.length = 3 := by
    have := h.currency
    unfold codeM at this
    simp only [Bool.and_eq_true, decide_eq_true_eq] at this
    exact this.1
  have h1 := nameM_len h.number
  have h2 := nameM_len h.applicant
  have h3 := nameM_len h.beneficiary
  have h4 := nameM_len h.issuer
  have h5 := nameM_len h.orig
  have h6 := nameM_len h.dest
  simp only [List.mem_cons, List.not_mem_nil, or_false] at hx
  rcases hx with rfl | rfl | rfl | rfl | rfl | rfl | rfl | rfl <;> omega
theorem need_text (x : Nd) : (textL [needL x]).length = needN (ndP x) := by
  unfold needN ndP
  simp only
  rw [show textL [needL x] = lineT (needL x) by simp [textL]]
  unfold needL lineT
  split <;> simp only [List.append_nil, List.cons_append, List.nil_append, spaced_cons, spaced_one, List.length_append, List.length_cons, List.length_nil] <;> omega
theorem needs_text : ∀ l : List Nd, (textL (l.map needL)).length = needsN (l.map ndP)
  | [] => rfl
  | x :: l => by
    rw [List.map_cons, ← List.singleton_append, textL_app, List.length_append, need_text, needs_text l]
    simp [needsN]
theorem needN_le {x : NdP} : ∀ {L : List NdP}, x ∈ L → needN x ≤ needsN L
  | [], h => by simp at h
  | y :: L, h => by
    simp only [needsN, List.map_cons, List.sum_cons]
    rcases List.mem_cons.1 h with rfl | h
    · omega
    · have := needN_le h
      unfold needsN at this; omega
/-- **What is parsed may be; its text is at most twice as long.** -/
theorem stands_plain {s : Txt} {c : Crd} {L : List NdP} (h : parseT s = .ok (c, L)) {T : List Nd} (hT : T.map ndP = L) :
    creditM c T = true ∧ c.short ∧ (∀ x ∈ T, szR (strip x.rule) ≤ 100000000) ∧ (4096 < (creditT c T).length → 2000 < s.length) := by
  unfold parseT at h
  split at h
  · cases h
  rename_i h4
  split at h
  · cases h
  · rename_i l hl
    split at h
    · rename_i hcd
      obtain ⟨c', L', st, hcr⟩ : ∃ c' L' st, creditS s.length l ⟨0, 0, 0⟩ = ((c', L'), st) := ⟨_, _, _, rfl⟩
      rw [hcr] at h hcd
      simp only [Except.ok.injEq, Prod.mk.injEq] at h
      obtain ⟨rfl, rfl⟩ := h
      have hg := scan_goodL hl
      have hw := scan_wt hl
      obtain ⟨a1, a2, a3, a4, a5⟩ := credit_good hg hcr hcd
      have hm : creditM c' T = true := by
        rw [creditM_map, hT]
        simp only [namesM, daysM, List.all_cons, List.all_nil, Bool.and_eq_true, Bool.or_eq_true, decide_eq_true_eq, List.all_eq_true, beq_iff_eq, and_true]
        exact ⟨⟨⟨⟨⟨⟨a1.number, a1.applicant, a1.beneficiary, a1.issuer, a1.orig, a1.dest⟩, a1.confirmer, a1.currency⟩, a2.amount⟩, a2.above, a2.below⟩, a2.latest, a2.expiry, a2.within, a2.tenor⟩, a3, a4⟩
      have htx : (creditT c' T).length ≤ 2 * s.length := by
        unfold creditT
        rw [textL_app, List.length_append, needs_text, hT]; omega
      refine ⟨hm, texts_short a1, fun x hx => ?_, fun hx => by omega⟩
      have hx' : ndP x ∈ L' := by rw [← hT]; exact List.mem_map_of_mem hx
      have hp := a4 _ hx'
      have hn : needN (ndP x) ≤ needsN L' := by
        exact needN_le hx'
      unfold needP at hp
      simp only [Bool.and_eq_true, Bool.or_eq_true, decide_eq_true_eq] at hp
      unfold needN at hn
      by_cases ha : alwaysR (ndP x).2.2 = true
      · have := always_is ha
        show szR (ndP x).2.2 ≤ _
        rw [this, sz_empty]; omega
      · rw [if_neg ha] at hn
        have := sz_show _ (hp.2.resolve_left ha).2
        show szR (ndP x).2.2 ≤ _
        omega
    · cases h
def zeroK : Crd := ⟨[], [], [], [], [], [], [], [], 0, 0, 0, 0, 0, 0, 0, false, false⟩
set_option maxRecDepth 100000 in
set_option maxHeartbeats 6400000 in
theorem stands_law (s : ByteArray) (w : World) (hs : s.size ≤ maxLen) (he : Hid (Env w)) : Calls Tryz.prog 10 #[.string s] w fun e w' => e = .returned (.bool true) ∧ Below w.heap.size w w' := by
  have hs' := Lib.hid hs
  unfold maxLen at hs
  have hln : Hid (s.data.toList.length = s.size) := by unfold Hid; simp
  have hi41 : Hid ((Tryz.prog.info? 41).map (·.size) = some 18) := by unfold Hid; kernel_rfl
  have hzc : Hid (zeroC = zeroK.cells (.slice none 0 0)) := rfl
  have hz0 : Hid (∀ W, Calls Tryz.prog 21 #[.agg zeroC, .agg zeroC] W fun e w' => e = .returned (.bool true) ∧ Below W.heap.size W w') := fun W => by
    have h := same_prog zeroC zeroC zeroK zeroK none 0 0 [] none 0 0 [] (fun _ => True) (fun _ => True) W hzc hzc (by decide) (by decide) (Lib.hid rfl) (Lib.hid rfl) (Lib.hid fun k x hx => by simp at hx) (Lib.hid fun k x hx => by simp at hx)
    rw [eqCr_refl, eqBy_refl] at h
    exact h
  go_enter Tryz.func10, Tryz.ntmps10
  go_wp2_with fail
  refine (awake_any w he).mono ?_
  rintro e w1 ⟨rfl, hb1⟩
  have he1 := Lib.hid (he.out.below hb1)
  have hB1 := Lib.hid hb1
  by_cases hbig : 5000 < s.size
  · have b1 : decide ((5000 : Int) < (s.size : Int)) = true := by simp; omega
    go_wp2_with fail
    refine (awake_any w1 he1).mono ?_
    rintro e w2 ⟨rfl, hb2⟩
    go_wp2_with fail
    go_ret
    exact ⟨rfl, hB1.out.trans (hb2.mono hB1.out.size)⟩
  · have b1 : decide ((5000 : Int) < (s.size : Int)) = false := by simp; omega
    clear hb1
    go_wp2_with fail
    have hp := parse_any s w1 hs'.out he1
    cases hr : parseT s.data.toList with
    | error q =>
      obtain ⟨k, cd⟩ := q
      rw [hr] at hp
      refine hp.mono ?_
      rintro x w2 ⟨hb2, rfl, hcd⟩
      have hB2 := Lib.hid (hB1.out.trans (hb2.mono hB1.out.size))
      have b2 : (cd != 0) = true := by simpa using hcd
      have hN0 : Hid (Blk (w2.alloc (.cells zeroC 41)) w2.heap.size 41 zeroC) := Blk.new w2 41 zeroC
      have hBz : Hid (Below w.heap.size w (w2.alloc (.cells zeroC 41))) := hB2.out.alloc hB2.out.size _
      clear hp hr hcd hb2 hB1
      go_upto_region 4 with (refine wpList_put_blk rfl 41 _ _ rfl w2.heap.size zeroC zeroC 41 rfl rfl hN0.out rfl hi41.out zk_one ?_; intro w3 hN3 hu3)
      have hB3 : Hid (Below w.heap.size w w3) := hu3.to_below hBz.out hB2.out.size hBz.out.size
      have hN3' := Lib.hid hN3
      obtain ⟨G, hG⟩ : ∃ g, Hid (w2.heap.size = g) := ⟨_, Lib.hid rfl⟩
      rw [hG.out] at hN3' ⊢
      clear hu3 hN3 hBz hN0 hB2 hG
      go_wp2_with (refine wpList_get_blk rfl 41 _ rfl G zeroC 41 _ rfl hN3'.out Tryz.underlying41 rfl hi41.out ?_)
      refine (hz0.out w3).mono ?_
      rintro e w4 ⟨rfl, hb4⟩
      go_wp2_with fail
      go_ret
      exact ⟨rfl, hB3.out.trans (hb4.mono hB3.out.size)⟩
    | ok q =>
      obtain ⟨c, L⟩ := q
      rw [hr] at hp
      have hst := Lib.hid (fun (T : List Nd) (hT : T.map ndP = L) => stands_plain hr hT)
      refine hp.mono ?_
      rintro x w2 ⟨hb2, T, A2, c2, rfl, hnd, hT, hTl⟩
      obtain ⟨hm, hsh, hzz, hlong⟩ := hst.out T hT
      have hB2 := Lib.hid (hB1.out.trans (hb2.mono hB1.out.size))
      have he2 := Lib.hid (he1.out.below hb2)
      have hT' := Lib.hid hT
      have hTl' := Lib.hid hTl
      have hnd' := Lib.hid hnd
      have hm' := Lib.hid hm
      have hsh' := Lib.hid hsh
      have hzz' := Lib.hid hzz
      have hlong' : Hid (4096 < (creditT c T).length → 2000 < s.size) := fun h => by have := hlong h; rw [hln.out] at this; exact this
      clear hp hr hst hb2 hB1 hT hTl hnd hm hsh hzz hlong he1
      obtain ⟨C, hC⟩ : ∃ D, Hid (D = c.cells (.slice A2 T.length c2)) := ⟨_, Lib.hid rfl⟩
      have hCs : Hid (C.size = 18) := by rw [hC.out]; rfl
      have hCi : Hid ((Tryz.prog.info? 41).map (·.size) = some C.size) := by unfold Hid; rw [hCs.out]; kernel_rfl
      have hC1 : Hid (C.all (·.oneCell') = true) := by unfold Hid; rw [hC.out, ← Array.all_toList]; rfl
      rw [← hC.out]
      have hN0 : Hid (Blk (w2.alloc (.cells zeroC 41)) w2.heap.size 41 zeroC) := Blk.new w2 41 zeroC
      have hBz : Hid (Below w.heap.size w (w2.alloc (.cells zeroC 41))) := hB2.out.alloc hB2.out.size _
      go_upto_region 4 with (refine wpList_put_blk rfl 41 _ _ rfl w2.heap.size zeroC C 41 rfl rfl hN0.out hCs.out.symm hCi.out hC1.out ?_; intro w3 hN3 hu3)
      have hB3 : Hid (Below w.heap.size w w3) := hu3.to_below hBz.out hB2.out.size hBz.out.size
      have he3 : Hid (Env w3) := he2.out.below (hu3.to_below ((Below.refl _ w2).alloc (Nat.le_refl _) _) (Nat.le_refl _) (by simp))
      have hnd3 := Lib.hid (nds_put hnd'.out hu3)
      have hN3' := Lib.hid hN3
      obtain ⟨G, hG⟩ : ∃ g, Hid (w2.heap.size = g) := ⟨_, Lib.hid rfl⟩
      rw [hG.out] at hN3' ⊢
      clear hu3 hN3 hBz hN0 hB2 hG he2 hnd'
      have hpr := Lib.hid (print_any C c A2 T.length c2 T w3 _ he3 hC hsh' (by have := hTl'.out; unfold maxLen; omega) (Lib.hid rfl) hnd3 hzz')
      have hfine := Lib.hid (@print_fine c T)
      have he7 : Hid (printE c T = 0 ∨ printE c T = 7 ∧ 2000 < s.size) := by
        unfold Hid printE
        rw [if_pos hm'.out]
        by_cases h4 : 4096 < (creditT c T).length
        · rw [if_pos h4]; exact .inr ⟨rfl, hlong'.out h4⟩
        · rw [if_neg h4]; exact .inl rfl
      have hmay : Hid (∀ W, Env W → NdsAt W (fun b => w1.heap.size ≤ b) A2 T → Calls Tryz.prog 27 #[.agg C] W fun e w' => e = .returned (.bool (printE c T == 0)) ∧ Below W.heap.size W w') := fun W hW hNd => may_credit_any C c A2 T.length c2 T W _ (Lib.hid hW) hC hsh' (by have := hTl'.out; unfold maxLen; omega) (Lib.hid rfl) (Lib.hid hNd) hzz'
      have p3 : Hid (printE c T = 0 → ∀ W, Env W → Calls Tryz.prog 23 #[.string ⟨(printT c T).toArray⟩] W (Parsed W (.ok (c, T.map ndP)))) := fun h0 W hW => by
        obtain ⟨h1, h2, h3⟩ := print_fine h0
        have h := parse_any ⟨(printT c T).toArray⟩ W (by rw [h3]; show (creditT c T).toArray.size ≤ _; rw [List.size_toArray]; unfold maxLen; omega) (Lib.hid hW)
        rw [show (ByteArray.mk (printT c T).toArray).data.toList = printT c T from rfl, h3, credit_back h1 h2] at h
        rw [h3]
        exact h
      have p5 : Hid (∀ (T2 : List Nd) (A3 : Option Addr) (c3 : Nat) (ok' : Nat → Prop) (D : Array Value) (W : World), T2.map ndP = T.map ndP → T2.length ≤ 5000 → Hid (D = c.cells (.slice A3 T2.length c3)) → NdsAt W (fun b => w1.heap.size ≤ b) A2 T → NdsAt W ok' A3 T2 → Calls Tryz.prog 21 #[.agg C, .agg D] W fun e w' => e = .returned (.bool true) ∧ Below W.heap.size W w') := fun T2 A3 c3 ok' D W hT2 hTl2 hD hNc hNd => by
        have h := same_prog C D c c A2 T.length c2 T A3 T2.length c3 T2 _ ok' W hC hD (by have := hTl'.out; unfold maxLen; omega) (by unfold maxLen; omega) (Lib.hid rfl) (Lib.hid rfl) (Lib.hid hNc) (Lib.hid hNd)
        rw [eqCr_refl, eqBy_same T T2 hT2.symm] at h
        exact h
      obtain ⟨rt, hrt⟩ : ∃ b, Hid (printT c T = b) := ⟨_, Lib.hid rfl⟩
      obtain ⟨re, hre⟩ : ∃ b, Hid (printE c T = b) := ⟨_, Lib.hid rfl⟩
      rw [hrt.out, hre.out] at hpr p3
      rw [hre.out] at he7 hmay
      clear hrt hre hm' hsh' hzz' hlong' hfine
      go_wp2_with (refine wpList_get_blk rfl 41 _ rfl G C 41 _ rfl hN3'.out Tryz.underlying41 rfl hCi.out ?_)
      refine hpr.out.mono ?_
      rintro e w4 ⟨rfl, hb4⟩
      have hB4 := Lib.hid (hB3.out.trans (hb4.mono hB3.out.size))
      have he4 := Lib.hid (he3.out.below hb4)
      have hx4 := Lib.hid (hN3'.out.below hb4 hN3'.out.lt)
      have hn4 := Lib.hid (hnd3.out.below hb4)
      clear hb4 hB3 he3 hN3' hnd3 hpr
      rcases he7.out with h0 | ⟨h7, h2⟩
      · have b2 : (re == 7) = false := by rw [h0]; rfl
        have p3' := Lib.hid (p3.out h0)
        have h0' := Lib.hid h0
        clear p3 h0 he7
        go_wp2_with fail
        refine (p3'.out w4 he4.out).mono ?_
        rintro x w5 ⟨hb5, T2, A3, c3, rfl, hnd2, hT2, hTl2⟩
        have hB5 := Lib.hid (hB4.out.trans (hb5.mono hB4.out.size))
        have he5 := Lib.hid (he4.out.below hb5)
        have hx5 := Lib.hid (hx4.out.below hb5 hx4.out.lt)
        have hn5 := Lib.hid (hn4.out.below hb5)
        have hT2' := Lib.hid hT2
        have hTl2' := Lib.hid hTl2
        have hnd2' := Lib.hid hnd2
        clear hb5 hB4 he4 hx4 hn4 hT2 hTl2 hnd2 p3'
        obtain ⟨D, hD⟩ : ∃ D, Hid (D = c.cells (.slice A3 T2.length c3)) := ⟨_, Lib.hid rfl⟩
        have hDs : Hid (D.size = 18) := by rw [hD.out]; rfl
        have hDi : Hid ((Tryz.prog.info? 41).map (·.size) = some D.size) := by unfold Hid; rw [hDs.out]; kernel_rfl
        have hD1 : Hid (D.all (·.oneCell') = true) := by unfold Hid; rw [hD.out, ← Array.all_toList]; rfl
        rw [← hD.out]
        have hM0 : Hid (Blk (w5.alloc (.cells zeroC 41)) w5.heap.size 41 zeroC) := Blk.new w5 41 zeroC
        have hBz : Hid (Below w.heap.size w (w5.alloc (.cells zeroC 41))) := hB5.out.alloc hB5.out.size _
        go_upto_region 10 with (refine wpList_put_blk rfl 41 _ _ rfl w5.heap.size zeroC D 41 rfl rfl hM0.out hDs.out.symm hDi.out hD1.out ?_; intro w6 hM6 hu6)
        have hx6 := Lib.hid (blk_put hx5.out hu6)
        have hB6 : Hid (Below w.heap.size w w6) := hu6.to_below hBz.out hB5.out.size hBz.out.size
        have he6 : Hid (Env w6) := he5.out.below (hu6.to_below ((Below.refl _ w5).alloc (Nat.le_refl _) _) (Nat.le_refl _) (by simp))
        have hn6 := Lib.hid (nds_put hn5.out hu6)
        have hm6 := Lib.hid (nds_put hnd2'.out hu6)
        have hM6' := Lib.hid hM6
        obtain ⟨G2, hG2⟩ : ∃ g, Hid (w5.heap.size = g) := ⟨_, Lib.hid rfl⟩
        rw [hG2.out] at hM6' ⊢
        clear hu6 hM6 hBz hM0 hG2 hx5 he5 hn5 hnd2' hB5
        have p6 := Lib.hid (p5.out T2 A3 c3 _ D w6 hT2'.out hTl2'.out hD hn6.out hm6.out)
        clear p5 hm6
        have t2 : (re == 0) = true := by rw [h0'.out]; rfl
        go_wp2_with (first | (refine wpList_load_blkg rfl 41 (.tmp 3) rfl G C 41 _ rfl hx6.out Tryz.underlying41 rfl hCi.out ?_) | (refine wpList_load_blkg rfl 41 (.tmp 8) rfl G2 D 41 _ rfl hM6'.out Tryz.underlying41 rfl hDi.out ?_))
        refine p6.out.mono ?_
        rintro e w7 ⟨rfl, hb7⟩
        have hB7 := Lib.hid (hB6.out.trans (hb7.mono hB6.out.size))
        have hx7 := Lib.hid (hx6.out.below hb7 hx6.out.lt)
        have p7 := Lib.hid (hmay.out w7 (he6.out.below hb7) (hn6.out.below hb7))
        clear hb7 hB6 hx6 hmay he6 hn6 p6
        go_wp2_with (refine wpList_load_blkg rfl 41 (.tmp 3) rfl G C 41 _ rfl hx7.out Tryz.underlying41 rfl hCi.out ?_)
        refine p7.out.mono ?_
        rintro e w8 ⟨rfl, hb8⟩
        go_wp2_with fail
        go_ret
        exact ⟨by simp, hB7.out.trans (hb8.mono hB7.out.size)⟩
      · have b2 : (re == 7) = true := by rw [h7]; rfl
        have b3 : decide ((2000 : Int) < (s.size : Int)) = true := by simp; omega
        clear p3 he7 hmay p5 h7
        go_wp2_with fail
        go_ret
        exact ⟨by simp, hB4.out⟩
end Go.Proofs.YtjkmhlfjheiekaaGreatDoor

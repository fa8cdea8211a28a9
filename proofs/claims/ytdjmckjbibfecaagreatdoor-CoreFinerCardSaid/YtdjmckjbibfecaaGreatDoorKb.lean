/- The document's Finer. -/
import Derived.StillTailTactics
import Derived.Test.YtdjmckjbibfecaaGreatDoorKa
import Derived.Test.YtdjmckjbibfecaaGreatDoorVf
namespace Go.Proofs.YtdjmckjbibfecaaGreatDoor
open Go Go.RowKit Go.BigFrame Go.Maps

theorem faultsAt_far {W W' : World} {AF : Option Addr} {LF : List Flt} {g : Option Nat} (h : FaultsAt W AF LF) (hg : W.grownBy W' g) (hne : LF ≠ [] → ∀ b o, AF = some ⟨b, o, none⟩ → g ≠ some b) : FaultsAt W' AF LF := by
  intro k x hx
  obtain ⟨b, o, e, h0, h1, h2, h3⟩ := h k x hx
  have hlt := World.block_lt_of_cell? W _ h0
  have hk : ∀ q : Addr, q.block = b → W'.cell? q = W.cell? q := fun q hq => hg.cell_far q (by rw [hq]; exact hlt) (by rw [hq]; exact fun e9 => hne (by rintro rfl; simp at hx) b o e e9.symm)
  exact ⟨b, o, e, by rw [hk _ rfl]; exact h0, by rw [hk _ rfl]; exact h1, by rw [hk _ rfl]; exact h2, by rw [hk _ rfl]; exact h3⟩
/-- What stays while the row of faults grows. -/
structure KeepR (R : World → Prop) : Prop where
  below : ∀ {a b : World}, R a → Below a.heap.size a b → R b
  grown : ∀ {a b : World} {B n : Nat} {v : Value} {xs : List Value}, R a → a.ownsRow B 54 4 v n xs → a.grownBy b v.ownBlock → R b
theorem keep_and {R S : World → Prop} (h : KeepR R) (k : KeepR S) : KeepR (fun W => R W ∧ S W) :=
  ⟨fun ⟨x, y⟩ hb => ⟨h.below x hb, k.below y hb⟩, fun ⟨x, y⟩ ho hg => ⟨h.grown x ho hg, k.grown y ho hg⟩⟩
theorem keep_row {B n size : Nat} {t : TypeId} {v : Value} {xs : List Value} (ht : t ≠ 54) : KeepR (fun W => W.ownsRow B t size v n xs) :=
  ⟨fun h hb => own_below h hb, fun h ho hg => own_far h ho hg ht⟩
/-- The row of finer faults while the document's own are read. -/
structure FnS (w W : World) (C : Array Value) (AF : Option Addr) (LF : List Flt) (v : Value) (M : List Flt) : Prop where
  below : Below w.heap.size w W
  cred : Blk W w.heap.size 46 C
  row : W.ownsRow w.heap.size 54 4 v M.length (fcells M)
  rest : FaultsAt W AF LF
  off : LF ≠ [] → ∀ b o, AF = some ⟨b, o, none⟩ → v.ownBlock ≠ some b
theorem FnS.on {w W W' : World} {C : Array Value} {AF : Option Addr} {LF M : List Flt} {v : Value} (h : FnS w W C AF LF v M) (hb : Below W.heap.size W W') : FnS w W' C AF LF v M :=
  ⟨h.below.trans (hb.mono h.below.size), h.cred.below hb h.cred.lt, own_below h.row hb, h.rest.below hb, h.off⟩
theorem FnS.put {w W W' : World} {C : Array Value} {AF : Option Addr} {LF M M' : List Flt} {v v' : Value} (h : FnS w W C AF LF v M) (hg : W.grownBy W' v.ownBlock) (hv : v'.ownBlock = v.ownBlock ∨ v'.ownBlock = some W.heap.size) (ho : W'.ownsRow w.heap.size 54 4 v' M'.length (fcells M')) : FnS w W' C AF LF v' M' := by
  refine ⟨h.below.grown hg h.below.size (fun j hj => (h.row.lt j hj).1), Blk.kept h.cred hg (own_blk_ne h.row h.cred (by decide)), ho, faultsAt_far h.rest hg h.off, fun hne b o e => ?_⟩
  rcases hv with e1 | e1
  · rw [e1]; exact h.off hne b o e
  · rw [e1]
    obtain ⟨x, hx⟩ : ∃ x, LF[0]? = some x := ⟨_, List.getElem?_eq_getElem (List.length_pos_iff.2 hne)⟩
    obtain ⟨b', o', e', h0, _⟩ := h.rest 0 x hx
    rw [e] at e'
    simp only [Option.some.injEq, Addr.mk.injEq, and_true] at e'
    obtain ⟨rfl, rfl⟩ := e'
    have hlt : b < W.heap.size := World.block_lt_of_cell? W _ h0
    intro h9
    injection h9 with h9
    omega
/-- The same, while one fault is made finer. -/
structure FkS (w W : World) (C : Array Value) (AF : Option Addr) (LF : List Flt) (gf : Nat) (X : Array Value) (R : World → Prop) (v : Value) (M : List Flt) : Prop where
  base : FnS w W C AF LF v M
  fault : Blk W gf 54 X
  apart : v.ownBlock ≠ some gf
  more : R W
theorem FkS.on {w W W' : World} {C : Array Value} {AF : Option Addr} {LF M : List Flt} {gf : Nat} {X : Array Value} {R : World → Prop} {v : Value} (K : KeepR R) (h : FkS w W C AF LF gf X R v M) (hb : Below W.heap.size W W') : FkS w W' C AF LF gf X R v M :=
  ⟨h.base.on hb, h.fault.below hb h.fault.lt, h.apart, K.below h.more hb⟩
theorem FkS.put {w W W' : World} {C : Array Value} {AF : Option Addr} {LF M M' : List Flt} {gf : Nat} {X : Array Value} {R : World → Prop} {v v' : Value} (K : KeepR R) (h : FkS w W C AF LF gf X R v M) (hg : W.grownBy W' v.ownBlock) (hv : v'.ownBlock = v.ownBlock ∨ v'.ownBlock = some W.heap.size) (ho : W'.ownsRow w.heap.size 54 4 v' M'.length (fcells M')) : FkS w W' C AF LF gf X R v' M' := by
  refine ⟨h.base.put hg hv ho, Blk.kept h.fault hg h.apart, ?_, K.grown h.more h.base.row hg⟩
  rcases hv with e | e
  · rw [e]; exact h.apart
  · rw [e]
    have := h.fault.lt
    intro h9
    injection h9 with h9
    omega
theorem FkS.with_ {w W : World} {C : Array Value} {AF : Option Addr} {LF M : List Flt} {gf : Nat} {X : Array Value} {R S : World → Prop} {v : Value} (h : FkS w W C AF LF gf X R v M) (k : R W → S W) : FkS w W C AF LF gf X S v M := ⟨h.base, h.fault, h.apart, k h.more⟩
theorem failL_in {w : World} {nA : Option Addr} {needs : List Nd} {docs : List Pap} {d : Pap} {t : Tree} (hN : NdsAt w nA needs) (hSm : ∀ x ∈ needs, SmallT x.rule) (hsm : ∀ x ∈ needs, ∀ u ∈ partsT x.rule, (atomsT u).length ≤ 12) (h : t ∈ failL needs docs d) : TreeAt w t ∧ SmallT t ∧ (atomsT t).length ≤ 12 := by
  unfold failL at h
  obtain ⟨x, hx, ht⟩ := List.mem_flatMap.1 h
  obtain ⟨i, hi⟩ := List.getElem?_of_mem hx
  split at ht
  · have ht' := (List.mem_filter.1 ht).1
    exact ⟨parts_tree x.rule (hN i x hi).2.1 t ht', parts_all x.rule (hSm x hx) t ht', hsm x hx t ht'⟩
  · cases ht
theorem leastFold_snoc {docs : List Pap} {d : Pap} {f : Flt} {M : List Flt} {FL : List Tree} {k : Nat} {t : Tree} (h : FL[k]? = some t) : (FL.take (k + 1)).foldl (leastStep docs d f) M = leastStep docs d f ((FL.take k).foldl (leastStep docs d f) M) t := by
  obtain ⟨hj, e⟩ := List.getElem?_eq_some_iff.1 h
  rw [List.take_succ_eq_append_getElem hj, e, List.foldl_append]
  rfl
set_option maxRecDepth 100000 in
set_option maxHeartbeats 12800000 in
theorem finerR_any (w : World) (C : Array Value) (hsz : Hid ((Tryz.prog.info? 46).map (·.size) = some C.size)) (nA : Option Addr) (nl nc : Nat) (needs : List Nd) (hnl : Hid (needs.length = nl)) (hC17 : Hid (C[17]? = some (.slice nA nl nc))) (hN : Hid (NdsAt w nA needs)) (A : Option Addr) (nn cc : Nat) (docs : List Pap) (day : Int) (LF : List Flt)
    (hX : Hid (∀ W, Below w.heap.size w W → Calls Tryz.prog 61 #[.agg C, .slice A nn cc, .int .i64 day] W fun e w' => ∃ v, e = .returned v ∧ w'.ownsRow W.heap.size 54 4 v LF.length (fcells LF) ∧ Below W.heap.size W w')) (hLl : Hid (LF.length ≤ 20000)) (hR : Hid (Room w A nn docs)) (hFP : Hid (FewParts needs)) (hSm : Hid (∀ x ∈ needs, SmallT x.rule))
    (hsm : Hid (∀ x ∈ needs, ∀ u ∈ partsT x.rule, (atomsT u).length ≤ 12)) :
    Calls Tryz.prog 30 #[.agg C, .slice A nn cc, .int .i64 day] w fun e w' => ∃ v, e = .returned (.tuple #[v, .bool true]) ∧ w'.ownsRow w.heap.size 54 4 v (leastM needs docs LF).length (fcells (leastM needs docs LF)) ∧ Below w.heap.size w w' := by
  obtain ⟨iF, iFi, iF0, iF1, iF2⟩ := info_parts Tryz.info54
  have hnn := hR.out.most
  have hlen := Lib.hid hR.out.len
  obtain ⟨w1, hw1⟩ : ∃ X, Hid ((w.alloc (.cells C 46)).alloc (.cells #[] 54) = X) := ⟨_, rfl⟩
  have hs1 : (w.alloc (.cells C 46)).heap.size = w.heap.size + 1 := by simp
  have hK1 : Hid (Blk w1 w.heap.size 46 C) := by rw [← hw1.out]; exact Lib.hid ((Blk.new _ _ _).alloc _)
  have ho1 : Hid (w1.ownsRow w.heap.size 54 4 (.slice (some ⟨w.heap.size + 1, 0, none⟩) 0 0) 0 []) := by
    rw [← hw1.out, ← hs1]
    exact Lib.hid (own_mono (own_new _ 54 4) (by simp))
  have hb1 : Hid (Below w.heap.size w w1) := by
    rw [← hw1.out]
    have h1 := (Below.refl w.heap.size w).alloc (Nat.le_refl _) (.cells C 46)
    exact h1.alloc h1.size _
  have hg1 : Hid (w.heap.size + 1 < w1.heap.size) := by rw [← hw1.out]; unfold Hid; simp
  obtain ⟨K, hK⟩ : ∃ k, Hid (LF.length = k) := ⟨_, rfl⟩
  rw [hK.out] at hLl
  have hex := Lib.hid (hX.out w1 hb1.out)
  go_enter Tryz.func30, Tryz.ntmps30
  go_wp2_with (first | rw [hw1.out] | rw [hs1] | (refine wpList_load_blk rfl 46 (.tmp 3) rfl w.heap.size C 46 _ rfl hK1.out Tryz.underlying46 rfl hsz.out ?_))
  refine hex.out.mono ?_
  rintro e w2 ⟨v2, rfl, ho2, hb2⟩
  obtain ⟨A2, c2, rfl, _, hF2⟩ := own_faults ho2 rfl
  rw [hK.out]
  have hS2 : Hid (FnS w w2 C A2 LF (.slice (some ⟨w.heap.size + 1, 0, none⟩) 0 0) (leastM needs docs (LF.take 0))) := by
    refine Lib.hid ⟨hb1.out.trans (hb2.mono hb1.out.size), hK1.out.below hb2 hK1.out.lt, by rw [List.take_zero]; exact own_below ho1.out hb2, hF2, fun hne b o e h9 => ?_⟩
    obtain ⟨g', c', e', h1', _⟩ := own_formS ho2 (List.length_pos_iff.2 hne)
    rw [e] at e'
    simp only [Value.slice.injEq, Option.some.injEq, Addr.mk.injEq, and_true, true_and] at e'
    simp only [Value.ownBlock, Option.some.injEq] at h9
    have := hg1.out
    omega
  clear hF2 hb2 ho2 hex hX hs1
  go_wp2_with fail
  go_loopw [8, 9, 11] (fun v tb i wr => ∃ q : Nat, q ≤ K ∧ i = .int .i64 q ∧ tb = .bool true ∧ Hid (FnS w wr C A2 LF v (leastM needs docs (LF.take q)))) (fun _ _ i _ => K - (intOf i).toNat)
  case atStart => exact ⟨0, Nat.zero_le _, rfl, rfl, hS2⟩
  case round =>
    clear hS2
    obtain ⟨q, hq, rfl, rfl, hS⟩ := hrel
    by_cases hlt : q < K
    · skip
      obtain ⟨x, hx⟩ : ∃ x, LF[q]? = some x := ⟨_, List.getElem?_eq_getElem (by have := hK.out; omega)⟩
      obtain ⟨M, hM⟩ : ∃ l, Hid (leastM needs docs (LF.take q) = l) := ⟨_, rfl⟩
      have hsn := Lib.hid (leastM_snoc (needs := needs) (docs := docs) hx)
      have hMl : Hid (M.length ≤ 8640 * 20000) := by
        have := leastM_len (docs := docs) hFP.out (LF.take q) []
        rw [← hM.out]
        unfold Hid leastM
        have := hLl.out
        rw [List.length_take] at *
        simp only [List.length_nil] at *
        omega
      rw [hM.out] at hsn hS
      obtain ⟨b, off, rfl, x0, x1, x2, x3⟩ := hS.out.rest q x hx
      obtain ⟨xp, xk, xf, xw⟩ := x
      simp only at x0 x1 x2 x3
      obtain ⟨w5, hw5⟩ : ∃ X, Hid (wr.alloc (.cells #[.int .i64 xp, .int .i64 xk, .string xf, .int .i64 xw] 54) = X) := ⟨_, rfl⟩
      have hb5 : Hid (Below wr.heap.size wr w5) := by rw [← hw5.out]; exact (Below.refl _ wr).alloc (Nat.le_refl _) _
      have hG5 : Hid (Blk w5 wr.heap.size 54 #[.int .i64 xp, .int .i64 xk, .string xf, .int .i64 xw]) := by rw [← hw5.out]; exact Lib.hid (Blk.new _ _ _)
      have hap : Hid (u8.ownBlock ≠ some wr.heap.size) := Lib.hid fun e => by have := (hS.out.row.lt _ e).2; omega
      obtain ⟨gf, hgf⟩ : ∃ z, Hid (wr.heap.size = z) := ⟨_, rfl⟩
      rw [hgf.out] at hG5 hap
      have e3 : wr.heap.size = gf := hgf.out
      have hS5 := Lib.hid (hS.out.on hb5.out)
      have r0 : w5.cell? ⟨gf, 0, none⟩ = some (.int .i64 xp) := hG5.out.cell 0
      have r1 : w5.cell? ⟨gf, 1, none⟩ = some (.int .i64 xk) := hG5.out.cell 1
      have r2 : w5.cell? ⟨gf, 2, none⟩ = some (.string xf) := hG5.out.cell 2
      have r3 : w5.cell? ⟨gf, 3, none⟩ = some (.int .i64 xw) := hG5.out.cell 3
      have hwh := Lib.hid (coarse_any ⟨xp, xk, xf, xw⟩ A nn cc w5)
      simp only [Flt.agg] at hwh
      obtain ⟨bw, hbw⟩ : ∃ b, Hid (wholeB nn ⟨xp, xk, xf, xw⟩ = b) := ⟨_, rfl⟩
      rw [hbw.out] at hwh
      have hK20 : K ≤ 20000 := hLl.out
      have i1 : (q : Int) < (K : Int) := by omega
      have i2 : (0 : Int) ≤ (q : Int) := by omega
      have hkm : decide (q < K) = true := decide_eq_true hlt
      clear hx hM
      go_wp2_with (first | rw [hw5.out])
      refine hwh.out.mono ?_
      rintro e w6 ⟨rfl, hb6⟩
      have hS6 := Lib.hid (hS5.out.on hb6)
      have hG6 := Lib.hid (hG5.out.below hb6 hG5.out.lt)
      clear hb6 r0 r1 r2 r3 hwh hS5 hG5 x0 x1 x2 x3 hb5 hw5 e3
      cases bw with
      | false =>
        have hacc : Hid (leastM needs docs (LF.take (q + 1)) = M ++ [⟨xp, xk, xf, xw⟩]) := by
          unfold Hid
          rw [hsn.out]
          unfold leastAcc
          rw [hlen.out, if_neg (by rw [hbw.out]; decide)]
        obtain ⟨A9, c9, rfl⟩ := own_form hS6.out.row
        have r0 : w6.cell? ⟨gf, 0, none⟩ = some (.int .i64 xp) := hG6.out.cell 0
        have r1 : w6.cell? ⟨gf, 1, none⟩ = some (.int .i64 xk) := hG6.out.cell 1
        have r2 : w6.cell? ⟨gf, 2, none⟩ = some (.string xf) := hG6.out.cell 2
        have r3 : w6.cell? ⟨gf, 3, none⟩ = some (.int .i64 xw) := hG6.out.cell 3
        obtain ⟨w7, hw7⟩ : ∃ X, Hid (w6.alloc (.cells #[.int .i64 xp, .int .i64 xk, .string xf, .int .i64 xw] 54) = X) := ⟨_, rfl⟩
        have hb7 : Hid (Below w6.heap.size w6 w7) := by rw [← hw7.out]; exact (Below.refl _ w6).alloc (Nat.le_refl _) _
        have hblk : Hid (Reads w7 w7.heap.size 4 (some ⟨w6.heap.size, 0, none⟩) 1 (#[.int .i64 xp, .int .i64 xk, .string xf, .int .i64 xw] : Array Value).toList) := by rw [← hw7.out]; exact Lib.hid (blk_reads (Blk.new w6 54 #[.int .i64 xp, .int .i64 xk, .string xf, .int .i64 xw]) 4 1 rfl)
        have hS7 := Lib.hid (hS6.out.on hb7.out)
        have s1 : Hid (M.length + 1 ≤ maxLen) := by unfold Hid maxLen; have := hMl.out; omega
        have s2 : Hid ((M.length + 1) * 40 ≤ 140737488355328) := by unfold Hid; have := hMl.out; omega
        have s3 := Lib.hid hS7.out.below.size
        have s4 : Hid (∀ v ∈ (#[.int .i64 xp, .int .i64 xk, .string xf, .int .i64 xw] : Array Value).toList, v.oneCell' = true) := Lib.hid (one4 ⟨xp, xk, xf, xw⟩)
        have hfin : Hid (∀ v8 w8, w8.ownsRow w.heap.size 54 4 v8 (M.length + 1) (fcells M ++ (#[.int .i64 xp, .int .i64 xk, .string xf, .int .i64 xw] : Array Value).toList) → w7.grownBy w8 (Value.slice A9 M.length c9).ownBlock → (v8.ownBlock = (Value.slice A9 M.length c9).ownBlock ∨ v8.ownBlock = some w7.heap.size) → FnS w w8 C (some ⟨b, off, none⟩) LF v8 (M ++ [⟨xp, xk, xf, xw⟩])) :=
          Lib.hid fun v8 w8 ho hg hv => hS7.out.put hg hv (by rw [fcells_snoc1, List.length_append]; exact ho)
        clear hS6 hG6 hb7 hap
        go_wp2_with (first | rw [hw7.out] | (at_builtin; go_must (refine wpList_append_any _ rfl _ _ 47 rfl w.heap.size 54 iF _ 4 40 Tryz.underlying47 iFi iF0 iF1 iF2 rfl (by decide) _ M.length (fcells M) rfl hS7.out.row _ (some ⟨w6.heap.size, 0, none⟩) 1 1 _ rfl hblk.out s4.out s1.out s2.out s3.out ?_); intro v8 w8 ho8 hg8 hv8; have hS8 := Lib.hid (hfin.out v8 w8 ho8 hg8 hv8); clear ho8 hg8 hv8))
        go_roundw
        case rel => exact ⟨q + 1, by omega, by go_num, rfl, by rw [hacc.out]; exact hS8⟩
        case measure => simp [intOf]; omega
      | true =>
        have hw3 : 0 ≤ xp ∧ xp < (nn : Int) := by
          have := hbw.out
          unfold wholeB at this
          simp only [Bool.and_eq_true, decide_eq_true_eq] at this
          exact this.1
        obtain ⟨a, rfl⟩ : ∃ a : Nat, xp = a := ⟨xp.toNat, by omega⟩
        obtain ⟨d, hd⟩ : ∃ d, docs[a]? = some d := ⟨_, List.getElem?_eq_getElem (by have := hlen.out; omega)⟩
        have hd' := Lib.hid hd
        have hacc : Hid (leastM needs docs (LF.take (q + 1)) = (failL needs docs d).foldl (leastStep docs d ⟨(a : Int), xk, xf, xw⟩) M) := by
          unfold Hid
          rw [hsn.out]
          unfold leastAcc
          rw [hlen.out, if_pos hbw.out]
          simp only [Int.toNat_natCast, hd]
        have hfr := Lib.hid (failR_any C nA nl nc needs hC17 hnl A nn cc docs a d (Lib.hid hd) w6 (Lib.hid (hN.out.below hS6.out.below)) (Lib.hid (hR.out.below hS6.out.below)) hSm hFP)
        have r0 : w6.cell? ⟨gf, 0, none⟩ = some (.int .i64 (a : Int)) := hG6.out.cell 0
        have hc6 := Lib.hid hS6.out.cred
        have hFl := Lib.hid (failL_len (docs := docs) (d := d) hFP.out)
        have hFm := Lib.hid (fun t (ht : t ∈ failL needs docs d) => failL_in hN.out hSm.out hsm.out ht)
        obtain ⟨FL, hFL⟩ : ∃ l, Hid (failL needs docs d = l) := ⟨_, rfl⟩
        rw [hFL.out] at hacc hfr hFl hFm
        clear hd hsn hw3 hbw
        go_wp2_with (refine wpList_load_blk rfl 46 (.tmp 3) rfl w.heap.size C 46 _ rfl hc6.out Tryz.underlying46 rfl hsz.out ?_)
        refine hfr.out.mono ?_
        rintro e w7 ⟨v7, rfl, ho7, hb7⟩
        obtain ⟨Ap, cp, rfl⟩ := own_form ho7
        obtain ⟨np, hnp⟩ : ∃ z, Hid (FL.length = z) := ⟨_, rfl⟩
        rw [hnp.out] at ho7 hFl ⊢
        have hKp : Hid (KeepR (fun W => W.ownsRow w.heap.size 24 6 (.slice Ap np cp) np (tcells FL))) := Lib.hid (keep_row (by decide))
        have hS7 : Hid (FkS w w7 C (some ⟨b, off, none⟩) LF gf #[.int .i64 (a : Int), .int .i64 xk, .string xf, .int .i64 xw] (fun W => W.ownsRow w.heap.size 24 6 (.slice Ap np cp) np (tcells FL)) u8 ((FL.take 0).foldl (leastStep docs d ⟨(a : Int), xk, xf, xw⟩) M)) :=
          Lib.hid ⟨hS6.out.on hb7, hG6.out.below hb7 hG6.out.lt, hap.out, own_mono ho7 hS6.out.below.size⟩
        have hMk : Hid (∀ k, ((FL.take k).foldl (leastStep docs d ⟨(a : Int), xk, xf, xw⟩) M).length ≤ 8640 * 20000 + 8640) := Lib.hid fun k => by
          have h1 := leastFold_len (f := ⟨(a : Int), xk, xf, xw⟩) rfl hd'.out (FL.take k) M
          have h2 := hFl.out
          have h3 := hMl.out
          have h4 := hnp.out
          rw [List.length_take] at h1
          omega
        clear hS6 hG6 ho7 hb7 hfr r0 hc6 hap hMl hS
        go_wp2_with fail
        go_loopw [8, 9, 14] (fun v tb i wx => ∃ k : Nat, k ≤ np ∧ i = .int .i64 k ∧ tb = .bool true ∧ Hid (FkS w wx C (some ⟨b, off, none⟩) LF gf #[.int .i64 (a : Int), .int .i64 xk, .string xf, .int .i64 xw] (fun W => W.ownsRow w.heap.size 24 6 (.slice Ap np cp) np (tcells FL)) v ((FL.take k).foldl (leastStep docs d ⟨(a : Int), xk, xf, xw⟩) M))) (fun _ _ i _ => np - (intOf i).toNat)
        case atStart => exact ⟨0, Nat.zero_le _, rfl, rfl, hS7⟩
        case round =>
          clear hS7
          obtain ⟨k, hk, rfl, rfl, hS⟩ := hrel
          by_cases hkn : k < np
          · skip
            obtain ⟨t, ht⟩ : ∃ t, FL[k]? = some t := ⟨_, List.getElem?_eq_getElem (by have := hnp.out; omega)⟩
            obtain ⟨hTt, hSt, hAt⟩ := hFm.out t (List.mem_of_getElem? ht)
            have hTt' := Lib.hid hTt
            have hSt' := Lib.hid hSt
            have hcells := Lib.hid (fun (W : World) (h : W.ownsRow w.heap.size 24 6 (.slice Ap np cp) np (tcells FL)) => by
              obtain ⟨A', c', e9, hcl⟩ := own_trees h hnp.out
              simp only [Value.slice.injEq, true_and] at e9
              obtain ⟨rfl, rfl⟩ := e9
              exact hcl k t ht)
            have hsnk := Lib.hid (leastFold_snoc (docs := docs) (d := d) (f := ⟨(a : Int), xk, xf, xw⟩) (M := M) ht)
            have hGl := Lib.hid (hMk.out k)
            obtain ⟨G, hG⟩ : ∃ l, Hid ((FL.take k).foldl (leastStep docs d ⟨(a : Int), xk, xf, xw⟩) M = l) := ⟨_, rfl⟩
            rw [hG.out] at hsnk hGl hS
            have hBx := Lib.hid hS.out.base.below
            have hRx : Hid (∀ W, Below wr.heap.size wr W → Room W A nn docs) := Lib.hid fun W hW => hR.out.below (hBx.out.trans (hW.mono hBx.out.size))
            have hTx : Hid (∀ W, Below wr.heap.size wr W → TreeAt W t) := Lib.hid fun W hW => hTt'.out.below (hBx.out.trans (hW.mono hBx.out.size))
            have hatom : Hid (∀ y : Ext wr, Calls Tryz.prog 48 #[.agg t.cells] y.wd fun e w' => e = .returned (.bool (isAt t.kind)) ∧ Below y.wd.heap.size y.wd w') := Lib.hid fun y => atomR_any t y.wd
            have hstd : Hid (∀ y : Ext wr, Calls Tryz.prog 56 #[.agg t.cells, .slice A nn cc, .int .i64 (a : Int)] y.wd fun e w' => e = .returned (.int .i64 (holdsT docs d t)) ∧ Below y.wd.heap.size y.wd w') := Lib.hid fun y => stands_in A nn cc docs a d hd'.out t y.wd hSt' (Lib.hid (hTx.out y.wd y.below)) (Lib.hid (hRx.out y.wd y.below))
            have hats : Hid (∀ W, Below wr.heap.size wr W → Calls Tryz.prog 14 #[.agg t.cells] W fun e w' => ∃ v, e = .returned v ∧ w'.ownsRow W.heap.size 24 6 v (atomsT t).length (cellsL (atomsT t)) ∧ Below W.heap.size W w') := Lib.hid fun W hW => atomsR_any t W (Lib.hid (hTx.out W hW)) (by omega)
            have hcrs : Hid (∀ W, Below wr.heap.size wr W → Calls Tryz.prog 16 #[.agg t.cells, .slice A nn cc, .int .i64 (a : Int)] W fun e w' => ∃ v, e = .returned v ∧ CoresAt w' W.heap.size v (coresE docs t (a : Int)) ∧ Below W.heap.size W w') := Lib.hid fun W hW => coresR_any t A nn cc docs (a : Int) W (Lib.hid (hTx.out W hW)) hSt' (Lib.hid (hRx.out W hW)) hAt
            have hsmall := Lib.hid (fun p (hp : p ∈ coresE docs t (a : Int)) => core_small hd'.out hp)
            have huT : Hid (∀ u ∈ atomsT t, TreeAt w u ∧ SmallT u) := Lib.hid fun u hu => ⟨atoms_at hTt'.out u hu, small_atoms hSt'.out u hu⟩
            have hFM : Hid (finestM docs d t ⟨(a : Int), xk, xf, xw⟩ = match coresE docs t (a : Int) with
              | (p :: ps) :: _ => fineM docs d ⟨(a : Int), xk, xf, xw⟩ (atomsT t) (p :: ps)
              | _ => [⟨(a : Int), xk, xf, xw⟩]) := rfl
            obtain ⟨FM, hFMe⟩ : ∃ l, Hid (finestM docs d t ⟨(a : Int), xk, xf, xw⟩ = l) := ⟨_, rfl⟩
            obtain ⟨hz, hhz⟩ : ∃ z, holdsT docs d t = z := ⟨_, rfl⟩
            have hstep : Hid (∀ b bw, isAt t.kind = b → (hz == xw) = bw → leastStep docs d ⟨(a : Int), xk, xf, xw⟩ G t = if (!b && bw) = true then G ++ FM else G) := Lib.hid fun b bw h1 h2 => by unfold leastStep; rw [hFMe.out, hhz, h1, h2]
            rw [hFMe.out] at hFM
            rw [hhz] at hstd
            obtain ⟨G', hG'⟩ : ∃ l, Hid (leastStep docs d ⟨(a : Int), xk, xf, xw⟩ G t = l) := ⟨_, rfl⟩
            rw [hG'.out] at hsnk hstep
            obtain ⟨CE, hCE⟩ : ∃ l, Hid (coresE docs t (a : Int) = l) := ⟨_, rfl⟩
            obtain ⟨AT, hATe⟩ : ∃ l, Hid (atomsT t = l) := ⟨_, rfl⟩
            rw [hCE.out] at hFM hcrs hsmall
            rw [hATe.out] at hFM hats hsmall hAt huT
            obtain ⟨m, hm⟩ : ∃ z, Hid (AT.length = z) := ⟨_, rfl⟩
            rw [hm.out] at hats hsmall hAt
            clear ht hTt hSt hTx hhz hG' hCE hATe hFMe hG
            obtain ⟨tk, tp, tf, tx, tn, tA, tc, tL⟩ := t
            simp only [Tree.cells, Tree.kind] at hatom hstd hats hcrs hstep
            have hcells' : Hid (∀ W, W.ownsRow w.heap.size 24 6 (.slice Ap np cp) np (tcells FL) → CellsAt W Ap k (.mk tk tp tf tx tn tA tc tL)) := hcells
            obtain ⟨b2, off2, rfl, g0, g1, g2, g3, g4, g5⟩ := hcells'.out wr hS.out.more
            have hb2l : b2 < wr.heap.size := World.block_lt_of_cell? wr _ g0
            have y0 : ∀ y : Ext wr, y.wd.cell? ⟨b2, off2 + k * 6, none⟩ = some (.int .i64 tk) := fun y => (y.cell ⟨b2, _, none⟩ hb2l).trans g0
            have y1 : ∀ y : Ext wr, y.wd.cell? ⟨b2, off2 + k * 6 + 1, none⟩ = some (.int .i64 tp) := fun y => (y.cell ⟨b2, _, none⟩ hb2l).trans g1
            have y2 : ∀ y : Ext wr, y.wd.cell? ⟨b2, off2 + k * 6 + 2, none⟩ = some (.string tf) := fun y => (y.cell ⟨b2, _, none⟩ hb2l).trans g2
            have y3 : ∀ y : Ext wr, y.wd.cell? ⟨b2, off2 + k * 6 + 3, none⟩ = some (.string tx) := fun y => (y.cell ⟨b2, _, none⟩ hb2l).trans g3
            have y4 : ∀ y : Ext wr, y.wd.cell? ⟨b2, off2 + k * 6 + 4, none⟩ = some (.int .i64 tn) := fun y => (y.cell ⟨b2, _, none⟩ hb2l).trans g4
            have y5 : ∀ y : Ext wr, y.wd.cell? ⟨b2, off2 + k * 6 + 5, none⟩ = some (.slice tA tL.length tc) := fun y => (y.cell ⟨b2, _, none⟩ hb2l).trans g5
            have hflt := Lib.hid hS.out.fault
            have f0 : ∀ y : Ext wr, y.wd.cell? ⟨gf, 0, none⟩ = some (.int .i64 (a : Int)) := fun y => (y.cell ⟨gf, 0, none⟩ hflt.out.lt).trans (hflt.out.cell 0)
            have f3 : ∀ y : Ext wr, y.wd.cell? ⟨gf, 3, none⟩ = some (.int .i64 xw) := fun y => (y.cell ⟨gf, 3, none⟩ hflt.out.lt).trans (hflt.out.cell 3)
            have hnp720 : np ≤ 720 := hFl.out
            have j1 : (k : Int) < (np : Int) := by omega
            have j2 : (0 : Int) ≤ (k : Int) := by omega
            have hkm2 : decide (k < np) = true := decide_eq_true hkn
            obtain ⟨bA, hbA⟩ : ∃ b, isAt tk = b := ⟨_, rfl⟩
            obtain ⟨bW, hbW⟩ : ∃ b, (hz == xw) = b := ⟨_, rfl⟩
            have hbW' : (hz != xw) = !bW := by rw [← hbW]; rfl
            have hst1 := Lib.hid (hstep.out bA bW hbA hbW)
            rw [hbA] at hatom
            clear g0 g1 g2 g3 g4 g5 hcells hstep hbA hbW
            cases bA with
            | true =>
              go_wp2_with fail
              refine wp_region_ext (by kernel_rfl) (by kernel_rfl) ?_
              repeat (go_big_quiet_step (first | (go_at_call 48; exact Calls.ext_of (hatom.out _)) | (go_at_call 56; exact Calls.ext_of (hstd.out _))))
              refine wpQuiet_nil ?_
              rintro _ ⟨y, rfl⟩
              have hSy := Lib.hid (hS.out.on hKp.out y.below)
              clear y0 y1 y2 y3 y4 y5 f0 f3
              go_wp2_with fail
              go_roundw
              case rel => exact ⟨k + 1, by omega, by go_num, rfl, by rw [hsnk.out, hst1.out]; exact hSy⟩
              case measure => simp [intOf]; omega
            | false =>
            cases bW with
            | false =>
              go_wp2_with fail
              refine wp_region_ext (by kernel_rfl) (by kernel_rfl) ?_
              repeat (go_big_quiet_step (first | (go_at_call 48; exact Calls.ext_of (hatom.out _)) | (go_at_call 56; exact Calls.ext_of (hstd.out _))))
              refine wpQuiet_nil ?_
              rintro _ ⟨y, rfl⟩
              have hSy := Lib.hid (hS.out.on hKp.out y.below)
              clear y0 y1 y2 y3 y4 y5 f0 f3
              go_wp2_with fail
              go_roundw
              case rel => exact ⟨k + 1, by omega, by go_num, rfl, by rw [hsnk.out, hst1.out]; exact hSy⟩
              case measure => simp [intOf]; omega
            | true =>
              go_wp2_with fail
              refine wp_region_ext (by kernel_rfl) (by kernel_rfl) ?_
              repeat (go_big_quiet_step (first | (go_at_call 48; exact Calls.ext_of (hatom.out _)) | (go_at_call 56; exact Calls.ext_of (hstd.out _))))
              refine wpQuiet_nil ?_
              rintro _ ⟨y, rfl⟩
              have hSy := Lib.hid (hS.out.on hKp.out y.below)
              have hby := Lib.hid y.below
              obtain ⟨ws, hws⟩ : ∃ w6, y.wd = w6 := ⟨_, rfl⟩
              rw [hws] at hSy hby ⊢
              clear hws y y0 y1 y2 y3 y4 y5 f0 f3 hatom hstd hS hflt
              have hats' := Lib.hid (hats.out ws hby.out)
              obtain ⟨b3, off3, e3, g0, g1, g2, g3, g4, g5⟩ := hcells'.out ws hSy.out.more
              obtain ⟨rfl, rfl⟩ : b2 = b3 ∧ off2 = off3 := by simpa using e3
              go_wp2_with fail
              refine hats'.out.mono ?_
              rintro e w8 ⟨v8, rfl, ho8, hb8⟩
              obtain ⟨A15, c15, rfl⟩ := own_form ho8
              have hS8 := Lib.hid (hSy.out.on hKp.out hb8)
              have hb8' := Lib.hid (hby.out.trans (hb8.mono hby.out.size))
              have hat8 := Lib.hid (own_mono ho8 hSy.out.base.below.size)
              clear e3 g0 g1 g2 g3 g4 g5 hats' ho8 hb8
              obtain ⟨b3, off3, e3, g0, g1, g2, g3, g4, g5⟩ := hcells'.out w8 hS8.out.more
              obtain ⟨rfl, rfl⟩ : b2 = b3 ∧ off2 = off3 := by simpa using e3
              have f0 : w8.cell? ⟨gf, 0, none⟩ = some (.int .i64 (a : Int)) := hS8.out.fault.cell 0
              have d1 : decide ((m : Int) ≤ 12) = true := decide_eq_true (by omega)
              have d2 : decide (m ≤ 12) = true := decide_eq_true hAt
              have hcrs' := Lib.hid (hcrs.out w8.drew (hb8'.out.trans (below_drewN (Below.refl _ w8) 1)))
              go_wp2_with fail
              go_still_tail 7, (by kernel_rfl)
              change wpList _ _ _ _ _ w8.drew
              go_wp2_with fail
              refine hcrs'.out.mono ?_
              rintro e w9 ⟨v9, rfl, ⟨vs, hvl, hvo, hve⟩, hb9⟩
              obtain ⟨A16, c16, rfl⟩ := own_form hvo
              have hb89 : Hid (Below w8.heap.size w8 w9) := (below_drewN (Below.refl _ w8) 1).trans hb9
              have hS9 := Lib.hid (hS8.out.on hKp.out hb89.out)
              have hat9 := Lib.hid (own_below hat8.out hb89.out)
              have hsz8 : w.heap.size ≤ w8.drew.heap.size := hS8.out.base.below.size
              have hvo' := Lib.hid (own_mono hvo hsz8)
              have hve' := Lib.hid (fun i p x h1 h2 => own_mono (hve i p x h1 h2) hsz8)
              have hst2 : Hid (G' = G ++ FM) := by unfold Hid; rw [hst1.out]; rfl
              have hbx9 := Lib.hid (hb8'.out.trans (hb89.out.mono hb8'.out.size))
              clear e3 g0 g1 g2 g3 g4 g5 f0 hb9 hvo hve hcrs hcrs' hats hS8 hat8 hsz8 hb89 hst1 hSy hby hb8' hcells'
              obtain _ | ⟨ps, CE'⟩ := CE
              · skip
                have hFM' : Hid (FM = [⟨(a : Int), xk, xf, xw⟩]) := hFM.out
                have r0 : w9.cell? ⟨gf, 0, none⟩ = some (.int .i64 (a : Int)) := hS9.out.fault.cell 0
                have r1 : w9.cell? ⟨gf, 1, none⟩ = some (.int .i64 xk) := hS9.out.fault.cell 1
                have r2 : w9.cell? ⟨gf, 2, none⟩ = some (.string xf) := hS9.out.fault.cell 2
                have r3 : w9.cell? ⟨gf, 3, none⟩ = some (.int .i64 xw) := hS9.out.fault.cell 3
                obtain ⟨w7, hw7⟩ : ∃ X, Hid (w9.alloc (.cells #[.int .i64 (a : Int), .int .i64 xk, .string xf, .int .i64 xw] 54) = X) := ⟨_, rfl⟩
                have hb7 : Hid (Below w9.heap.size w9 w7) := by rw [← hw7.out]; exact (Below.refl _ w9).alloc (Nat.le_refl _) _
                have hblk : Hid (Reads w7 w7.heap.size 4 (some ⟨w9.heap.size, 0, none⟩) 1 (#[.int .i64 (a : Int), .int .i64 xk, .string xf, .int .i64 xw] : Array Value).toList) := by rw [← hw7.out]; exact Lib.hid (blk_reads (Blk.new w9 54 #[.int .i64 (a : Int), .int .i64 xk, .string xf, .int .i64 xw]) 4 1 rfl)
                have hS7 := Lib.hid (hS9.out.on hKp.out hb7.out)
                have s1 : Hid (G.length + 1 ≤ maxLen) := by unfold Hid maxLen; have := hGl.out; omega
                have s2 : Hid ((G.length + 1) * 40 ≤ 140737488355328) := by unfold Hid; have := hGl.out; omega
                have s3 := Lib.hid hS7.out.base.below.size
                have s4 : Hid (∀ v ∈ (#[.int .i64 (a : Int), .int .i64 xk, .string xf, .int .i64 xw] : Array Value).toList, v.oneCell' = true) := Lib.hid (one4 ⟨(a : Int), xk, xf, xw⟩)
                have hfin : Hid (∀ v8 w8, w8.ownsRow w.heap.size 54 4 v8 (G.length + 1) (fcells G ++ (#[.int .i64 (a : Int), .int .i64 xk, .string xf, .int .i64 xw] : Array Value).toList) → w7.grownBy w8 u8.ownBlock → (v8.ownBlock = u8.ownBlock ∨ v8.ownBlock = some w7.heap.size) → FkS w w8 C (some ⟨b, off, none⟩) LF gf #[.int .i64 (a : Int), .int .i64 xk, .string xf, .int .i64 xw] (fun W => W.ownsRow w.heap.size 24 6 (.slice (some ⟨b2, off2, none⟩) np cp) np (tcells FL)) v8 (G ++ FM)) :=
                  Lib.hid fun v8 w8 ho hg hv => hS7.out.put hKp.out hg hv (by rw [hFM'.out, fcells_snoc1, List.length_append]; exact ho)
                clear hFM hb7 hvo' hve' hat9 hsmall huT
                go_wp2_with (first | rw [hw7.out] | (at_builtin; go_must (refine wpList_append_any _ rfl _ _ 47 rfl w.heap.size 54 iF _ 4 40 Tryz.underlying47 iFi iF0 iF1 iF2 rfl (by decide) _ G.length (fcells G) rfl hS7.out.base.row _ (some ⟨w9.heap.size, 0, none⟩) 1 1 _ rfl hblk.out s4.out s1.out s2.out s3.out ?_); intro v8 w8 ho8 hg8 hv8; have hS10 := Lib.hid (hfin.out v8 w8 ho8 hg8 hv8); clear ho8 hg8 hv8))
                go_roundw
                case rel => exact ⟨k + 1, by omega, by go_num, rfl, by rw [hsnk.out, hst2.out]; exact hS10⟩
                case measure => simp [intOf]; omega
              obtain ⟨nE, hnE⟩ : ∃ z, (ps :: CE').length = z := ⟨_, rfl⟩
              have hnE0 : 0 < nE := by rw [← hnE]; simp
              obtain ⟨x0, hx0⟩ : ∃ x, vs[0]? = some x := ⟨_, List.getElem?_eq_getElem (by omega)⟩
              rw [hnE] at hvo' ⊢
              obtain ⟨g7, c9, e9, hg7, hg7l⟩ := own_formS hvo'.out hnE0
              obtain rfl : A16 = some ⟨g7, 0, none⟩ := by injection e9
              have hx0c : w9.cell? ⟨g7, 0, none⟩ = some x0 := hvo'.out.cells (g := g7) rfl 0 x0 hx0
              have hx0o := Lib.hid (hve'.out 0 ps x0 rfl hx0)
              have hx0' := Lib.hid hx0
              obtain ⟨A3, c3, rfl⟩ := own_form hx0o.out
              have z0 : ((nE : Int) == 0) = false := by simp; omega
              have i0 : (0 : Int) < (nE : Int) := by omega
              clear hve' hx0 e9 hvl
              have hve' := i0
              obtain _ | ⟨p0, pr⟩ := ps
              · skip
                have hFM' : Hid (FM = [⟨(a : Int), xk, xf, xw⟩]) := hFM.out
                have r0 : w9.cell? ⟨gf, 0, none⟩ = some (.int .i64 (a : Int)) := hS9.out.fault.cell 0
                have r1 : w9.cell? ⟨gf, 1, none⟩ = some (.int .i64 xk) := hS9.out.fault.cell 1
                have r2 : w9.cell? ⟨gf, 2, none⟩ = some (.string xf) := hS9.out.fault.cell 2
                have r3 : w9.cell? ⟨gf, 3, none⟩ = some (.int .i64 xw) := hS9.out.fault.cell 3
                obtain ⟨w7, hw7⟩ : ∃ X, Hid (w9.alloc (.cells #[.int .i64 (a : Int), .int .i64 xk, .string xf, .int .i64 xw] 54) = X) := ⟨_, rfl⟩
                have hb7 : Hid (Below w9.heap.size w9 w7) := by rw [← hw7.out]; exact (Below.refl _ w9).alloc (Nat.le_refl _) _
                have hblk : Hid (Reads w7 w7.heap.size 4 (some ⟨w9.heap.size, 0, none⟩) 1 (#[.int .i64 (a : Int), .int .i64 xk, .string xf, .int .i64 xw] : Array Value).toList) := by rw [← hw7.out]; exact Lib.hid (blk_reads (Blk.new w9 54 #[.int .i64 (a : Int), .int .i64 xk, .string xf, .int .i64 xw]) 4 1 rfl)
                have hS7 := Lib.hid (hS9.out.on hKp.out hb7.out)
                have s1 : Hid (G.length + 1 ≤ maxLen) := by unfold Hid maxLen; have := hGl.out; omega
                have s2 : Hid ((G.length + 1) * 40 ≤ 140737488355328) := by unfold Hid; have := hGl.out; omega
                have s3 := Lib.hid hS7.out.base.below.size
                have s4 : Hid (∀ v ∈ (#[.int .i64 (a : Int), .int .i64 xk, .string xf, .int .i64 xw] : Array Value).toList, v.oneCell' = true) := Lib.hid (one4 ⟨(a : Int), xk, xf, xw⟩)
                have hfin : Hid (∀ v8 w8, w8.ownsRow w.heap.size 54 4 v8 (G.length + 1) (fcells G ++ (#[.int .i64 (a : Int), .int .i64 xk, .string xf, .int .i64 xw] : Array Value).toList) → w7.grownBy w8 u8.ownBlock → (v8.ownBlock = u8.ownBlock ∨ v8.ownBlock = some w7.heap.size) → FkS w w8 C (some ⟨b, off, none⟩) LF gf #[.int .i64 (a : Int), .int .i64 xk, .string xf, .int .i64 xw] (fun W => W.ownsRow w.heap.size 24 6 (.slice (some ⟨b2, off2, none⟩) np cp) np (tcells FL)) v8 (G ++ FM)) :=
                  Lib.hid fun v8 w8 ho hg hv => hS7.out.put hKp.out hg hv (by rw [hFM'.out, fcells_snoc1, List.length_append]; exact ho)
                clear hFM hb7 hvo' hve' hat9 hsmall huT
                go_wp2_with (first | rw [hw7.out] | (at_builtin; go_must (refine wpList_append_any _ rfl _ _ 47 rfl w.heap.size 54 iF _ 4 40 Tryz.underlying47 iFi iF0 iF1 iF2 rfl (by decide) _ G.length (fcells G) rfl hS7.out.base.row _ (some ⟨w9.heap.size, 0, none⟩) 1 1 _ rfl hblk.out s4.out s1.out s2.out s3.out ?_); intro v8 w8 ho8 hg8 hv8; have hS10 := Lib.hid (hfin.out v8 w8 ho8 hg8 hv8); clear ho8 hg8 hv8))
                go_roundw
                case rel => exact ⟨k + 1, by omega, by go_num, rfl, by rw [hsnk.out, hst2.out]; exact hS10⟩
                case measure => simp [intOf]; omega
              have hFM' : Hid (FM = fineM docs d ⟨(a : Int), xk, xf, xw⟩ AT (p0 :: pr)) := hFM.out
              have hcs' := Lib.hid (hsmall.out (p0 :: pr) (by simp))
              obtain ⟨PS, hPS⟩ : ∃ l, p0 :: pr = l := ⟨_, rfl⟩
              rw [hPS] at hFM' hcs' hx0o hx0c hx0'
              obtain ⟨n7, hn7⟩ : ∃ z, PS.length = z := ⟨_, rfl⟩
              have hn7' := Lib.hid hn7
              have hn70 : 0 < n7 := by rw [← hn7, ← hPS]; simp
              rw [hn7] at hx0o hx0c hcs' hx0'
              obtain ⟨g3, c9, e9, hg3, hg3l⟩ := own_formS hx0o.out hn70
              obtain rfl : A3 = some ⟨g3, 0, none⟩ := by injection e9
              have z1 : ((n7 : Int) == 0) = false := by simp; omega
              obtain ⟨R2, hR2⟩ : ∃ R : World → Prop, Hid (R = fun W => W.ownsRow w.heap.size 24 6 (.slice (some ⟨b2, off2, none⟩) np cp) np (tcells FL) ∧ (W.ownsRow w.heap.size 24 6 (.slice A15 m c15) m (cellsL AT) ∧ (W.ownsRow w.heap.size 35 1 (.slice (some ⟨g7, 0, none⟩) nE c16) nE vs ∧ W.ownsRow w.heap.size 3 1 (.slice (some ⟨g3, 0, none⟩) n7 c3) n7 (natsV PS)))) := ⟨_, rfl⟩
              have hK2 : Hid (KeepR R2) := by
                rw [hR2.out]
                exact Lib.hid (keep_and (keep_row (by decide)) (keep_and (keep_row (by decide)) (keep_and (keep_row (by decide)) (keep_row (by decide)))))
              have hS10 : Hid (FkS w w9 C (some ⟨b, off, none⟩) LF gf #[.int .i64 (a : Int), .int .i64 xk, .string xf, .int .i64 xw] R2 u8 (G ++ fineM docs d ⟨(a : Int), xk, xf, xw⟩ AT (PS.take 0))) := by
                rw [List.take_zero, show fineM docs d ⟨(a : Int), xk, xf, xw⟩ AT [] = [] from rfl, List.append_nil, hR2.out]
                exact Lib.hid (hS9.out.with_ fun h => ⟨h, hat9.out, hvo'.out, hx0o.out⟩)
              clear hFM hsmall hn7 hPS e9 hnE hS9 hat9 hvo' hx0o hve'
              go_wp2_with fail
              clear hx0c
              go_loopw [8, 17] (fun v i wz => ∃ j : Nat, j ≤ n7 ∧ i = .int .i64 j ∧ Hid (FkS w wz C (some ⟨b, off, none⟩) LF gf #[.int .i64 (a : Int), .int .i64 xk, .string xf, .int .i64 xw] R2 v (G ++ fineM docs d ⟨(a : Int), xk, xf, xw⟩ AT (PS.take j)))) (fun _ i _ => n7 - (intOf i).toNat)
              case atStart => exact ⟨0, Nat.zero_le _, rfl, hS10⟩
              case round =>
                clear hS10
                obtain ⟨j, hj, rfl, hS⟩ := hrel
                have hmore := hS.out.more
                rw [hR2.out] at hmore
                obtain ⟨_, m8, m9, m7⟩ := hmore
                have hx0c : wr.cell? ⟨g7, 0, none⟩ = some (.slice (some ⟨g3, 0, none⟩) n7 c3) := m9.cells (g := g7) rfl 0 _ hx0'.out
                by_cases hjn : j < n7
                · skip
                  have hn712 : n7 ≤ 12 := hcs'.out.1
                  obtain ⟨pp, hpp⟩ : ∃ x, PS[j]? = some x := ⟨_, List.getElem?_eq_getElem (by have := hn7'.out; omega)⟩
                  have hpm : pp < m := hcs'.out.2 pp (List.mem_of_getElem? hpp)
                  obtain ⟨u, hu⟩ : ∃ u, AT[pp]? = some u := ⟨_, List.getElem?_eq_getElem (by have := hm.out; omega)⟩
                  have hsn : Hid (fineM docs d ⟨(a : Int), xk, xf, xw⟩ AT (PS.take (j + 1)) = fineM docs d ⟨(a : Int), xk, xf, xw⟩ AT (PS.take j) ++ [fineOf docs d ⟨(a : Int), xk, xf, xw⟩ u]) := Lib.hid (fineM_snoc hpp hu)
                  have hFl2 : Hid ((fineM docs d ⟨(a : Int), xk, xf, xw⟩ AT (PS.take j)).length = j) := Lib.hid (by
                    rw [fineM_len (fun p hp => by rw [hm.out]; exact hcs'.out.2 p (List.mem_of_mem_take hp)), List.length_take]
                    have := hn7'.out; omega)
                  obtain ⟨F, hF⟩ : ∃ l, Hid (fineM docs d ⟨(a : Int), xk, xf, xw⟩ AT (PS.take j) = l) := ⟨_, rfl⟩
                  rw [hF.out] at hsn hS hFl2
                  obtain ⟨F', hF'⟩ : ∃ l, Hid (fineM docs d ⟨(a : Int), xk, xf, xw⟩ AT (PS.take (j + 1)) = l) := ⟨_, rfl⟩
                  rw [hF'.out] at hsn
                  obtain ⟨huT1, huS1⟩ := huT.out u (List.mem_of_getElem? hu)
                  have huT' := Lib.hid huT1
                  have huS' := Lib.hid huS1
                  obtain ⟨g8, c9, e9, hg8, hg8l⟩ := own_formS m8 (by omega)
                  obtain rfl : A15 = some ⟨g8, 0, none⟩ := by injection e9
                  have hcl : ∀ i v, u.cells.toList[i]? = some v → wr.cell? ⟨g8, pp * 6 + i, none⟩ = some v := fun i v hv => by
                    have := m8.cells (g := g8) rfl _ v (cellsL_get AT pp i u v hu hv)
                    have hadd : (⟨g8, 0, none⟩ : Addr).add (pp * 6 + i) = ⟨g8, pp * 6 + i, none⟩ := by unfold Addr.add; split <;> simp_all
                    rw [← hadd]; exact this
                  have hpc : wr.cell? ⟨g3, j, none⟩ = some (.int .i64 (pp : Int)) := by
                    have := m7.cells (g := g3) rfl j (.int .i64 (pp : Int)) (by rw [natsV, List.getElem?_map, hpp]; rfl)
                    have hadd : (⟨g3, 0, none⟩ : Addr).add j = ⟨g3, j, none⟩ := by unfold Addr.add; split <;> simp_all
                    rw [← hadd]; exact this
                  have hwf : Hid (fineOf docs d ⟨(a : Int), xk, xf, xw⟩ u = ⟨(a : Int), xk, u.field, if u.kind = 7 ∧ holdsT docs d u = 2 then 3 else holdsT docs d u⟩) := rfl
                  have hho := Lib.hid (fun (W : World) (hW : Below wr.heap.size wr W) => stands_in A nn cc docs a d hd'.out u W huS' (Lib.hid (huT'.out.below (hS.out.base.below.trans (hW.mono hS.out.base.below.size)))) (Lib.hid (hR.out.below (hS.out.base.below.trans (hW.mono hS.out.base.below.size)))))
                  obtain ⟨hz9, hhz⟩ : ∃ z, holdsT docs d u = z := ⟨_, rfl⟩
                  rw [hhz] at hho hwf
                  obtain ⟨FO, hFO⟩ : ∃ l, Hid (fineOf docs d ⟨(a : Int), xk, xf, xw⟩ u = l) := ⟨_, rfl⟩
                  rw [hFO.out] at hsn hwf
                  clear hhz e9 hu hpp hF hFO huT1 huS1 m8 m9 m7
                  obtain ⟨uk, up, uf, ux, un, uA, uc, uL⟩ := u
                  simp only [Tree.cells] at hho hcl
                  have hwf' : Hid (FO = ⟨(a : Int), xk, uf, if uk = 7 ∧ hz9 = 2 then 3 else hz9⟩) := hwf.out
                  clear hwf huT' huS'
                  have d0 : wr.cell? ⟨g8, pp * 6, none⟩ = some (.int .i64 uk) := hcl 0 _ rfl
                  have d1' : wr.cell? ⟨g8, pp * 6 + 1, none⟩ = some (.int .i64 up) := hcl 1 _ rfl
                  have d2' : wr.cell? ⟨g8, pp * 6 + 2, none⟩ = some (.string uf) := hcl 2 _ rfl
                  have d3' : wr.cell? ⟨g8, pp * 6 + 3, none⟩ = some (.string ux) := hcl 3 _ rfl
                  have d4' : wr.cell? ⟨g8, pp * 6 + 4, none⟩ = some (.int .i64 un) := hcl 4 _ rfl
                  have d5' : wr.cell? ⟨g8, pp * 6 + 5, none⟩ = some (.slice uA uL.length uc) := hcl 5 _ rfl
                  obtain ⟨w5, hw5⟩ : ∃ X, Hid (wr.alloc (.cells #[.int .i64 uk, .int .i64 up, .string uf, .string ux, .int .i64 un, .slice uA uL.length uc] 24) = X) := ⟨_, rfl⟩
                  have hb5 : Hid (Below wr.heap.size wr w5) := by rw [← hw5.out]; exact (Below.refl _ wr).alloc (Nat.le_refl _) _
                  have hN5 : Hid (Blk w5 wr.heap.size 24 #[.int .i64 uk, .int .i64 up, .string uf, .string ux, .int .i64 un, .slice uA uL.length uc]) := by rw [← hw5.out]; exact Lib.hid (Blk.new _ _ _)
                  have hS5 := Lib.hid (hS.out.on hK2.out hb5.out)
                  have hcall := Lib.hid (hho.out w5 hb5.out)
                  have r0 : w5.cell? ⟨wr.heap.size, 0, none⟩ = some (.int .i64 uk) := hN5.out.cell 0
                  have r1 : w5.cell? ⟨wr.heap.size, 1, none⟩ = some (.int .i64 up) := hN5.out.cell 1
                  have r2 : w5.cell? ⟨wr.heap.size, 2, none⟩ = some (.string uf) := hN5.out.cell 2
                  have r3 : w5.cell? ⟨wr.heap.size, 3, none⟩ = some (.string ux) := hN5.out.cell 3
                  have r4 : w5.cell? ⟨wr.heap.size, 4, none⟩ = some (.int .i64 un) := hN5.out.cell 4
                  have r5 : w5.cell? ⟨wr.heap.size, 5, none⟩ = some (.slice uA uL.length uc) := hN5.out.cell 5
                  have f0 : w5.cell? ⟨gf, 0, none⟩ = some (.int .i64 (a : Int)) := hS5.out.fault.cell 0
                  have i1 : (j : Int) < (n7 : Int) := by omega
                  have i2 : (0 : Int) ≤ (j : Int) := by omega
                  have i3 : (pp : Int) < (m : Int) := by omega
                  have i4 : (0 : Int) ≤ (pp : Int) := by omega
                  have hkm3 : decide (j < n7) = true := decide_eq_true hjn
                  clear hho hcl
                  go_wp2_with (rw [hw5.out])
                  refine hcall.out.mono ?_
                  rintro e w6 ⟨rfl, hb6⟩
                  have hS6 := Lib.hid (hS5.out.on hK2.out hb6)
                  have hN6 := Lib.hid (hN5.out.below hb6 hN5.out.lt)
                  clear hb6 r0 r1 r2 r3 r4 r5 f0 d0 d1' d2' d3' d4' d5' hcall hpc hx0c
                  have r0 : w6.cell? ⟨wr.heap.size, 0, none⟩ = some (.int .i64 uk) := hN6.out.cell 0
                  have r2 : w6.cell? ⟨wr.heap.size, 2, none⟩ = some (.string uf) := hN6.out.cell 2
                  have f0 : w6.cell? ⟨gf, 0, none⟩ = some (.int .i64 (a : Int)) := hS6.out.fault.cell 0
                  have f1 : w6.cell? ⟨gf, 1, none⟩ = some (.int .i64 xk) := hS6.out.fault.cell 1
                  obtain ⟨GF, hGF⟩ : ∃ z, Hid (G ++ F = z) := ⟨_, rfl⟩
                  have hGFl : Hid (GF.length = G.length + j) := by unfold Hid; rw [← hGF.out, List.length_append, hFl2.out]
                  rw [hGF.out] at hS6
                  have s1 : Hid (GF.length + 1 ≤ maxLen) := by unfold Hid maxLen; have := hGl.out; have := hGFl.out; omega
                  have s2 : Hid ((GF.length + 1) * 40 ≤ 140737488355328) := by unfold Hid; have := hGl.out; have := hGFl.out; omega
                  obtain ⟨bk, hbk⟩ : ∃ b, (uk == 7) = b := ⟨_, rfl⟩
                  obtain ⟨bz, hbz⟩ : ∃ b, (hz9 == 2) = b := ⟨_, rfl⟩
                  obtain ⟨wy, hwy⟩ : ∃ z, Hid ((if (bk && bz) = true then (3 : Int) else hz9) = z) := ⟨_, rfl⟩
                  have hFO : Hid (FO = ⟨(a : Int), xk, uf, wy⟩) := by unfold Hid; rw [hwf'.out, ← hwy.out, ← hbk, ← hbz]; simp
                  obtain ⟨w7, hw7⟩ : ∃ X, Hid (w6.alloc (.cells #[.int .i64 (a : Int), .int .i64 xk, .string uf, .int .i64 wy] 54) = X) := ⟨_, rfl⟩
                  have hb7 : Hid (Below w6.heap.size w6 w7) := by rw [← hw7.out]; exact (Below.refl _ w6).alloc (Nat.le_refl _) _
                  have hblk : Hid (Reads w7 w7.heap.size 4 (some ⟨w6.heap.size, 0, none⟩) 1 (#[.int .i64 (a : Int), .int .i64 xk, .string uf, .int .i64 wy] : Array Value).toList) := by rw [← hw7.out]; exact Lib.hid (blk_reads (Blk.new w6 54 #[.int .i64 (a : Int), .int .i64 xk, .string uf, .int .i64 wy]) 4 1 rfl)
                  have hS7 := Lib.hid (hS6.out.on hK2.out hb7.out)
                  have s3 := Lib.hid hS7.out.base.below.size
                  have s4 : Hid (∀ v ∈ (#[.int .i64 (a : Int), .int .i64 xk, .string uf, .int .i64 wy] : Array Value).toList, v.oneCell' = true) := Lib.hid (one4 ⟨(a : Int), xk, uf, wy⟩)
                  rw [hFO.out] at hsn
                  have hfin : Hid (∀ v8 w8, w8.ownsRow w.heap.size 54 4 v8 (GF.length + 1) (fcells GF ++ (#[.int .i64 (a : Int), .int .i64 xk, .string uf, .int .i64 wy] : Array Value).toList) → w7.grownBy w8 u8.ownBlock → (v8.ownBlock = u8.ownBlock ∨ v8.ownBlock = some w7.heap.size) → FkS w w8 C (some ⟨b, off, none⟩) LF gf #[.int .i64 (a : Int), .int .i64 xk, .string xf, .int .i64 xw] R2 v8 (G ++ F')) :=
                    Lib.hid fun v8 w8 ho hg hv => hS7.out.put hK2.out hg hv (by rw [hsn.out, ← List.append_assoc, hGF.out, fcells_snoc1, List.length_append]; exact ho)
                  clear hFO hwf' hsn hb7 hN5 hN6 hS5
                  cases bk <;> cases bz
                  all_goals
                    have hwy' := hwy.out
                    simp only [Bool.and_self, Bool.and_false, Bool.and_true, Bool.false_eq_true, if_true, if_false] at hwy'
                    subst hwy'
                    clear hwy
                    go_wp2_with (first | rw [hw7.out] | (at_builtin; go_must (refine wpList_append_any _ rfl _ _ 47 rfl w.heap.size 54 iF _ 4 40 Tryz.underlying47 iFi iF0 iF1 iF2 rfl (by decide) _ GF.length (fcells GF) rfl hS7.out.base.row _ (some ⟨w6.heap.size, 0, none⟩) 1 1 _ rfl hblk.out s4.out s1.out s2.out s3.out ?_); intro v8 w8 ho8 hg8 hv8; have hS8 := Lib.hid (hfin.out v8 w8 ho8 hg8 hv8); clear ho8 hg8 hv8))
                    go_roundw
                    case rel => exact ⟨j + 1, by omega, by go_num, by rw [hF'.out]; exact hS8⟩
                    case measure => simp [intOf]; omega
                · have hkm3 : decide (j < n7) = false := decide_eq_false hjn
                  have hjn7 : j = n7 := by omega
                  rw [List.take_of_length_le (by rw [hn7'.out]; omega), ← hFM'.out, ← hst2.out] at hS
                  clear m8 m9 m7
                  go_wp2_with fail
                  go_roundw
                  case rel => exact ⟨k + 1, by omega, by go_num, rfl, by rw [hsnk.out]; exact Lib.hid (hS.out.with_ fun h => by rw [hR2.out] at h; exact h.1)⟩
                  case measure => simp [intOf]; omega
          · have hkm2 : decide (k < np) = false := decide_eq_false hkn
            rw [List.take_of_length_le (by rw [hnp.out]; omega)] at hS
            go_wp2_with fail
            go_roundw
            case rel => exact ⟨q + 1, by omega, by go_num, rfl, by rw [hacc.out]; exact Lib.hid hS.out.base⟩
            case measure => simp [intOf]; omega
    · have hkm : decide (q < K) = false := decide_eq_false hlt
      rw [List.take_of_length_le (by rw [hK.out]; omega)] at hS
      go_wp2_with fail
      go_ret2
      exact ⟨_, rfl, hS.out.row, hS.out.below⟩
end Go.Proofs.YtdjmckjbibfecaaGreatDoor

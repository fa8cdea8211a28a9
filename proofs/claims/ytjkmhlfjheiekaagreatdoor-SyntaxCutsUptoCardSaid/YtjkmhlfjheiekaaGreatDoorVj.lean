import Derived.Test.YtjkmhlfjheiekaaGreatDoorVg
set_option maxRecDepth 1000000
set_option maxHeartbeats 51200000
namespace Go.Proofs.YtjkmhlfjheiekaaGreatDoor
open Go Go.RowKit Go.BigFrame Go.Maps
def nextP (part : List Tok → Option (Res Rul)) (sep : Txt) (n : Nat) (z : Res Rul) : Option (Res (List Rul)) := match z with
 | .error x => some (.error x)
 | .ok (r, ts) => if seZ (wdz sep) ts = true then (match partsP part sep n ts.tail with
   | none => none
   | some (.error x) => some (.error x)
   | some (.ok (l, ts')) => some (.ok (r :: l, ts'))) else some (.ok ([r], ts))
theorem parts_next (part : List Tok → Option (Res Rul)) (sep : Txt) (n : Nat) (ts : List Tok) : partsP part sep (n + 1) ts = match part ts with
  | none => none
  | some z => nextP part sep n z := by
 rw [partsP]
 cases part ts with
 | none => rfl
 | some z => cases z with
  | error x => rfl
  | ok x => rfl
def preL (L : List Rul) (r : Option (Res (List Rul))) : Option (Res (List Rul)) := match r with
 | none => none
 | some (.error x) => some (.error x)
 | some (.ok (l, ts)) => some (.ok (L ++ l, ts))
theorem preL_nil (r : Option (Res (List Rul))) : preL [] r = r := by
 rcases r with _ | ⟨x | ⟨l, ts⟩⟩ <;> rfl
theorem pre_step {part : List Tok → Option (Res Rul)} {sep : Txt} {n : Nat} {L : List Rul} {r : Rul} {ts : List Tok} {R : Res (List Rul)} (h : some R = preL L (nextP part sep n (.ok (r, ts)))) (hs : seZ (wdz sep) ts = true) :
  ∃ n' z', n = n' + 1 ∧ part ts.tail = some z' ∧ some R = preL (L ++ [r]) (nextP part sep n' z') := by
 rw [nextP, if_pos hs] at h
 cases n with
 | zero => rw [partsP] at h; cases h
 | succ n' =>
  rw [parts_next] at h
  cases hp : part ts.tail with
  | none => rw [hp] at h; cases h
  | some z' =>
   rw [hp] at h; refine ⟨n', z', rfl, rfl, ?_⟩; rw [h]; simp only
   rcases nextP part sep n' z' with _ | ⟨x | ⟨l, ts'⟩⟩
   ·rfl
   ·rfl
   ·show some (Except.ok (L ++ (r :: l), ts')) = some (Except.ok ((L ++ [r]) ++ l, ts'))
    rw [List.append_assoc]; rfl
theorem pre_stop {part : List Tok → Option (Res Rul)} {sep : Txt} {n : Nat} {L : List Rul} {r : Rul} {ts : List Tok} {R : Res (List Rul)} (h : some R = preL L (nextP part sep n (.ok (r, ts)))) (hs : seZ (wdz sep) ts = false) : R = .ok (L ++ [r], ts) := by
 rw [nextP, if_neg (by rw [hs]; simp)] at h
 exact Option.some.inj h
theorem pre_bad {part : List Tok → Option (Res Rul)} {sep : Txt} {n : Nat} {L : List Rul} {x : Nat × Int} {R : Res (List Rul)} (h : some R = preL L (nextP part sep n (.error x))) : R = .error x := Option.some.inj h
theorem row_start {part : List Tok → Option (Res Rul)} {sep : Txt} {k : Int} {n : Nat} {ts : List Tok} {y : Res Rul} (h : rowP part sep k n ts = some y) : ∃ n' z R, n = n' + 1 ∧ part ts = some z ∧ some R = preL [] (nextP part sep n' z) ∧
  y = match R with
   | .error x => .error x
   | .ok (l, ts') => .ok (joinK k l, ts') := by
 unfold rowP at h
 cases n with
 | zero => rw [partsP] at h; cases h
 | succ n' =>
  rw [parts_next] at h
  cases hp : part ts with
  | none => rw [hp] at h; cases h
  | some z =>
   rw [hp] at h; simp only at h
   cases hq : nextP part sep n' z with
   | none => rw [hq] at h; cases h
   | some R =>
    refine ⟨n', z, R, rfl, rfl, by rw [preL_nil, hq], ?_⟩; rw [hq] at h
    rcases R with x | ⟨l, ts'⟩
    ·exact (Option.some.inj h).symm
    ·exact (Option.some.inj h).symm
def gotG (t : Tree) (nx : Nat) (ee : Int) (at_ : Nat) : Array Value := match t with
 | .mk tk tp tf tx tn tA tc tL => (z5z tk tp tf tx tn tA tL.length tc nx ee at_)
def GotM (l : List Tok) (z : Res Rul) (t : Tree) (nx : Nat) (ee : Int) (at_ : Nat) : Prop := match z with
 | .ok (r, ts) => nx = l.length - ts.length ∧ ee = 0 ∧ at_ = 0 ∧ stz t = r
 | .error (pl, cd) => t = .mk 0 0 [] [] 0 none 0 [] ∧ nx = 0 ∧ ee = cd ∧ at_ = pl ∧ cd ≠ 0
theorem got_any {w w' : World} {l : List Tok} {z : Res Rul} {x : Ending} (h : GotC w w' l z x) : ∃ t nx ee at_, x = .returned (.agg (gotG t nx ee at_)) ∧ TAz w' (fun b => w.heap.size ≤ b) t ∧ GotM l z t nx ee at_ := by
 rcases z with ⟨pl, cd⟩ | ⟨r, ts⟩
 ·exact ⟨.mk 0 0 [] [] 0 none 0 [], 0, cd, pl, h.2, tlz _ _ _ _ _ _ _ _ _, rfl, rfl, rfl, rfl, h.1⟩
 ·obtain ⟨t, hx, hT, hs⟩ := h
  refine ⟨t, l.length - ts.length, 0, 0, ?_, hT, rfl, rfl, rfl, hs⟩; rw [hx]; obtain ⟨tk, tp, tf, tx, tn, tA, tc, tL⟩ := t; rfl
theorem got_back {w w' : World} {l : List Tok} {r : Rul} {ts : List Tok} {x : Ending} {t : Tree} {nx : Nat} (hx : x = .returned (.agg (gotG t nx 0 0))) (hn : nx = l.length - ts.length) (hT : TAz w' (fun b => w.heap.size ≤ b) t) (hs : stz t = r) : GotC w w' l (.ok (r, ts)) x := by
 refine ⟨t, ?_, hT, hs⟩
 rw [hx, hn]; obtain ⟨tk, tp, tf, tx, tn, tA, tc, tL⟩ := t; rfl
theorem grow_low {w w' : World} {B : Nat} {e : TypeId} {size n : Nat} {v : Value} {xs : List Value} (how : w.ownsRow B e size v n xs) (hB : B ≤ w.heap.size) (hg : w.grownBy w' v.ownBlock) : Below B w w' :=
 (Below.refl _ _).grown hg hB (fun k hk => by
  rcases how.2 with ⟨rfl, _⟩ | ⟨g', cap, cur, rfl, h2, _⟩
  ·simp [Value.ownBlock] at hk
  ·have : g' = k := by simpa [Value.ownBlock] using hk
   omega)
theorem tree_grown {w wa w' : World} {okB : Nat → Prop} {v v' : Value} {t : Tree} (h : TAz w (fun b => okB b ∧ v.ownBlock ≠ some b) t) (hb : Bz w wa) (hg : wa.grownBy w' v.ownBlock) (hv : v'.ownBlock = v.ownBlock ∨ v'.ownBlock = some wa.heap.size) :
  TAz w' (fun b => okB b ∧ v'.ownBlock ≠ some b) t := by
 have h1 := (h.mono (ok' := fun b => (okB b ∧ v.ownBlock ≠ some b) ∧ v'.ownBlock ≠ some b) (fun b hlt hk => ⟨hk, by
  rcases hv with h | h
  ·rw [h]; exact hk.2
  ·rw [h]; intro h'; have := Option.some.inj h'; have := hb.size; omega⟩)).below hb
 exact (h1.same (w' := w') (fun q h1 h2 => grown_cell hg h1 h2.1.2)).mono (fun b _ hk => ⟨hk.1.1, hk.2⟩)
theorem blk9 {w : World} {g : Nat} {t : TypeId} {a0 a1 a2 a3 a4 a5 a6 a7 a8 : Value} (h : Blk w g t #[a0, a1, a2, a3, a4, a5, a6, a7, a8]) (v0 v1 v2 v3 v4 v5 v6 v7 v8 : Value) :
  Blk (((((((((w.setCell (Az g 0) v0).setCell (Az g 1) v1).setCell (Az g 2) v2).setCell (Az g 3) v3).setCell (Az g 4) v4).setCell (Az g 5) v5).setCell (Az g 6) v6).setCell (Az g 7) v7).setCell (Az g 8) v8) g t #[v0, v1, v2, v3, v4, v5, v6, v7, v8] := by
 have h9 := ((((((((h.set_ 0 v0).set_ 1 v1).set_ 2 v2).set_ 3 v3).set_ 4 v4).set_ 5 v5).set_ 6 v6).set_ 7 v7).set_ 8 v8
 simp only [List.setIfInBounds_toArray, List.set_cons_zero, List.set_cons_succ] at h9
 exact h9
theorem own_void {B : Nat} (w : World) (hB : B ≤ w.heap.size) : (w.alloc (.cells #[] 25)).ownsRow B 25 6 (.slice (some (Az w.heap.size 0)) 0 0) 0 (treesL []) :=
 ⟨rfl, .inr ⟨w.heap.size, 0, #[], rfl, hB, Blk.new w 25 #[], Nat.le_refl _, by decide, by simp, rfl⟩⟩
theorem sees_len' {p : Tok → Bool} {ts : List Tok} (h : seZ p ts = true) : 1 ≤ ts.length := by
 obtain ⟨t, r, rfl, _⟩ := seesB_cons h
 simp
theorem rrow122 (A : Option Addr) (c e : Nat) (l : List Tok) (hg : GoodL l) (hlen : l.length ≤ 4096) (part : List Tok → Option (Res Rul)) (hsuf : Suf part) (ih : RReads 148 A c e l part) (n : Nat) (hn : n ≤ 100000) : RReads 122 A c e l (rowP part [97, 110, 100] 0 n) := by
 intro W i y hi hy htk
 obtain ⟨n0, z0, R, rfl, hz0, hR0, hyR⟩ := row_start hy
 have hR0' := hdZ hR0
 have hyR' := hdZ hyR
 clear hyR
 obtain ⟨m, hm⟩ := nmZ (l.length)
 have hm4 : m ≤ 4096 := by rw [← hm.out]; exact hlen
 have hgd := hdZ hg
 have hb0 : Hid (Bz W (W.alloc (.cells (z2z 0 0 0 none 0 0 0 0 0) 65))) := (Below.refl _ W).alloc leZ _
 have hQ0 := hdZ (Blk.new W 65 (z2z 0 0 0 none 0 0 0 0 0))
 have hs0 : Hid ((W.alloc (.cells (z2z 0 0 0 none 0 0 0 0 0) 65)).heap.size = W.heap.size + 1) := by unfold Hid; simp
 have hcall := hdZ (ih (W.alloc (.cells (z2z 0 0 0 none 0 0 0 0 0) 65)) i z0 hi hz0 (htk.out.below hb0.out))
 have ih' : Hid (∀ (W' : World) (j : Nat) (z : Res Rul), j ≤ m → part (l.drop j) = some z → Hid (TokAt W' 0 A l) → Cz 148 #[.slice A m c, Iz j, Iz e] W' fun x w' => Below W'.heap.size W' w' ∧ GotC W' w' l z x) := by unfold Hid; rw [← hm.out]; exact ih
 obtain ⟨i0, hi0, hz0', hz1, hz2⟩ := info_parts (P := Tryz.prog) (e := 25) (z := .agg #[Iz 0, Iz 0, S0z, S0z, Iz 0, .slice none 0 0]) (size := 6) (bytes := 80) (by kernel_rfl)
 have hsf0 : Hid (∀ r ts, z0 = .ok (r, ts) → ts <:+ l) := fun r ts h => ((hsuf _ _ _ (h ▸ hz0)).trans (List.drop_suffix i l))
 have hsuf' := hdZ hsuf
 rw [hm.out] at hcall ⊢
 clear hy hR0 hz0 ih hg hsuf hlen
 go_enter Tryz.func122, Tryz.ntmps122
 go_wp2_with fail
 refine hcall.out.mono ?_
 rintro x w1 ⟨hb1, hgot⟩
 obtain ⟨⟨tk, tp, tf, tx, tn, tA, tc, tL⟩, nx, ee, at_, rfl, hT1, hM1⟩ := got_any hgot
 have hM1' := hdZ hM1
 have hT1' : Hid (TAz w1 (fun b => W.heap.size + 1 ≤ b) (.mk tk tp tf tx tn tA tc tL)) := hT1.mono fun b _ hb => by have := hs0.out; omega
 have hB1 : Hid (Bz W w1) := hb0.out.trans (hb1.mono hb0.out.size)
 have hQ1 := hdZ (hQ0.out.below hb1 hQ0.out.lt)
 have hsz : W.heap.size + 1 ≤ w1.heap.size := by have := hb1.size; have := hs0.out; omega
 have ne1 : w1.heap.size ≠ W.heap.size := by omega
 have ne2 : W.heap.size ≠ w1.heap.size := by omega
 clear hgot hM1 hT1 hb1 hcall hb0 hQ0 hs0
 unfold gotG
 have hbl : Bz w1 (w1.alloc (.cells (z5z tk tp tf tx tn tA tL.length tc nx ee at_) 65)) := (Below.refl _ w1).alloc leZ _
 have hN : Hid (Blk (w1.alloc (.cells (z5z tk tp tf tx tn tA tL.length tc nx ee at_) 65)) w1.heap.size 65 (gotG (.mk tk tp tf tx tn tA tc tL) nx ee at_)) := Blk.new w1 65 _
 have hRb := hdZ (hQ1.out.below hbl hQ1.out.lt)
 have hBb := hdZ (hB1.out.trans (hbl.mono hB1.out.size))
 have hTb : Hid (TAz (w1.alloc (.cells (z5z tk tp tf tx tn tA tL.length tc nx ee at_) 65)) (fun b => (W.heap.size + 1 ≤ b ∧ b ≠ w1.heap.size) ∧ (Value.slice (some ⟨w1.heap.size + 1, 0, none⟩) 0 0).ownBlock ≠ some b) (.mk tk tp tf tx tn tA tc tL)) := (hT1'.out.mono fun b hlt hb => ⟨⟨hb, by omega⟩, by simp [Value.ownBlock]; omega⟩).below hbl
 have hsb : Hid (w1.heap.size + 1 ≤ (w1.alloc (.cells (z5z tk tp tf tx tn tA tL.length tc nx ee at_) 65)).heap.size) := by unfold Hid; simp
 have hsc : Hid ((w1.alloc (.cells (z5z tk tp tf tx tn tA tL.length tc nx ee at_) 65)).heap.size = w1.heap.size + 1) := by unfold Hid; simp
 obtain ⟨wb, hwb⟩ := nmZ (w1.alloc (.cells (z5z tk tp tf tx tn tA tL.length tc nx ee at_) 65))
 go_wp2_with fail
 rw [hwb.out] at hN hRb hBb hTb hsb hsc ⊢
 obtain ⟨G, hG⟩ := nmZ (w1.heap.size)
 rw [hG.out] at hN hTb hsb hsc ne1 ne2 hsz ⊢
 have hbl2 : Bz wb (wb.alloc (.cells #[] 25)) := (Below.refl _ wb).alloc leZ _
 have how := hdZ (own_void (B := G + 1) wb (by have := hsc.out; omega))
 rw [hsc.out] at how
 have hN' := hdZ (hN.out.below hbl2 hN.out.lt)
 have hRb' := hdZ (hRb.out.below hbl2 hRb.out.lt)
 have hTb' := hdZ (hTb.out.below hbl2)
 have hBb' := hdZ (hBb.out.trans (hbl2.mono hBb.out.size))
 have hsb' : Hid (G + 1 ≤ (wb.alloc (.cells #[] 25)).heap.size) := Nat.le_trans hsb.out hbl2.size
 clear hbl hwb hB1 hQ1 hT1' hG hbl2 hsc hN hRb hTb hBb hsb
 go_loopg [8] n0 (fun gg v wr => ∃ (T : List Tree) (z : Res Rul) (t : Tree) (nx : Nat) (ee : Int) (at_ : Nat), T.length + gg = n0 ∧ Hid (some R = preL (sSz T) (nextP part [97, 110, 100] gg z)) ∧ Hid (GotM l z t nx ee at_) ∧ Hid (Blk wr G 65 (gotG t nx ee at_)) ∧ Hid (TAz wr (fun b => (W.heap.size + 1 ≤ b ∧ b ≠ G) ∧ v.ownBlock ≠ some b) t) ∧ Hid (∀ u ∈ T, TAz wr (fun b => (W.heap.size + 1 ≤ b ∧ b ≠ G) ∧ v.ownBlock ≠ some b) u) ∧ Hid (wr.ownsRow (G + 1) 25 6 v T.length (treesL T)) ∧ Hid (Bz W wr) ∧ Hid (Blk wr W.heap.size 65 (z2z 0 0 0 none 0 0 0 0 0)) ∧ Hid (G + 1 ≤ wr.heap.size) ∧ Hid (∀ r ts, z = .ok (r, ts) → ts <:+ l))
 case atStart => exact ⟨[], z0, _, nx, ee, at_, by simp, hR0', hM1', hN', hTb', (fun u hu => by cases hu), how, hBb', hRb', hsb', hsf0⟩
 case round =>
  clear hN' hRb' hBb' hTb' hsb' hR0' hM1' hsf0 how; obtain ⟨T, z, ⟨tk, tp, tf, tx, tn, tA, tc, tL⟩, nx, ee, at_, hgn, hR, hM, hbG, hTt, hTs, hown, hBr, hRr, hszr, hsf⟩ := hrel; have hgn' := hdZ hgn; have hbG' : Hid (Blk wr G 65 (z5z tk tp tf tx tn tA tL.length tc nx ee at_)) := hbG; clear hbG hgn; obtain ⟨nc0, nc1, nc2, nc3, nc4, nc5, nc6, nc7, nc8, nf0, nf1, nf2, nf3, nf4, nf5, nf6, nf7, nf8⟩ := cf9 hbG'.out; have nlt := hbG'.out.lt
  rcases z with ⟨pl, cd⟩ | ⟨r, ts⟩
  ·obtain ⟨het, rfl, rfl, rfl, hcd⟩ := hM.out
   simp only [Tree.mk.injEq] at het; obtain ⟨rfl, rfl, rfl, rfl, rfl, rfl, rfl, rfl⟩ := het; have hRe := hdZ (pre_bad hR.out); have b1 : (ee == 0) = false := by simp [hcd]
   have hcd' := hdZ hcd; clear hcd; obtain ⟨rc0, rc1, rc2, rc3, rc4, rc5, rc6, rc7, rc8, rf0, rf1, rf2, rf3, rf4, rf5, rf6, rf7, rf8⟩ := cf9 hRr.out; have rlt := hRr.out.lt; go_wp2_with fail; refine bodyPost_ret (rrz rfl _ _ W.heap.size 65 _ _ rfl (st9z (hRr.out)) Tryz.underlying65 rfl (by kernel_rfl)) rfl ?_; rw [hyR'.out, hRe.out]; exact ⟨(sc9z (hBr.out)), hcd'.out, rfl⟩
  ·obtain ⟨hnx, rfl, rfl, hst⟩ := hM.out
   have hsx := hsf.out r ts rfl; have hdr : Hid (l.drop nx = ts) := by unfold Hid; rw [hnx]; exact (List.suffix_iff_eq_drop.1 hsx).symm
   have hnm : nx ≤ m := by rw [hnx, ← hm.out]; omega
   have hnx' := hdZ hnx; have hst' := hdZ hst; have hat : Hid (atI (isT [97, 110, 100]) l nx = seZ (wdz [97, 110, 100]) ts) := by unfold Hid; rw [atI_good hgd.out (fun t ht => isT_word ht (by decide)) nx, ati_sees, hdr.out]
   have hsx' := hdZ hsx; clear hM hsf hnx hst hsx; obtain ⟨p, cc, rfl⟩ := osz hown.out; have hq1 : Hid (T.length + 1 ≤ maxLen) := by have := hgn'.out; unfold Hid maxLen; omega
   have hq2 : Hid ((T.length + 1) * 80 ≤ 140737488355328) := by have := hgn'.out; unfold Hid; omega
   go_wp2_with (at_builtin; go_must (refine wpList_app4 (G + 1) rfl (.tmp 17) (.tmp 20) 23 rfl 25 i0 _ 6 80 Tryz.underlying23 hi0 hz0' hz1 hz2 rfl (by decide) _ T.length (treesL T) rfl wr.heap.size 1 (z1z tk tp tf tx tn tA tL.length tc) rfl (hown.out.alloc _) (Blk.new wr 25 _) rfl (tree_one _ _ _ _ _ _ _ _) hq1.out hq2.out (Nat.le_trans hszr.out (by simp)) ?_); intro v6 w6 ho6 hg6 hv6; have hWl := grow_low (hown.out.alloc (.cells (z1z tk tp tf tx tn tA tL.length tc) 25)) (Nat.le_trans hszr.out (by simp)) hg6; have hbG6 := hdZ ((hbG'.out.alloc (.cells (z1z tk tp tf tx tn tA tL.length tc) 25)).below hWl (Nat.lt_succ_self _)); have d6 : w6.cell? (Az G 6) = some (Iz nx) := hbG6.out.cell 6)
   have hbl : Bz wr (wr.alloc (.cells (z1z tk tp tf tx tn tA tL.length tc) 25)) := (Below.refl _ wr).alloc leZ _; have hB6 : Hid (Bz W w6) := (hBr.out.trans (hbl.mono hBr.out.size)).trans (hWl.mono (by omega)); have hR6 : Hid (Blk w6 W.heap.size 65 (z2z 0 0 0 none 0 0 0 0 0)) := (hRr.out.alloc _).below hWl (by omega); have hsz6 : Hid (G + 1 ≤ w6.heap.size) := Nat.le_trans (Nat.le_trans hszr.out hbl.size) hWl.size; have htt6 : Hid (TAz w6 (fun b => (W.heap.size + 1 ≤ b ∧ b ≠ G) ∧ v6.ownBlock ≠ some b) (.mk tk tp tf tx tn tA tc tL)) := tree_grown hTt.out hbl hg6 hv6
   have hts6 : Hid (∀ u ∈ T ++ [Tree.mk tk tp tf tx tn tA tc tL], TAz w6 (fun b => (W.heap.size + 1 ≤ b ∧ b ≠ G) ∧ v6.ownBlock ≠ some b) u) := fun u hu => by
    rcases List.mem_append.1 hu with h | h
    ·exact tree_grown (hTs.out u h) hbl hg6 hv6
    ·rw [List.mem_singleton.1 h]; exact htt6.out
   have hown6 : Hid (w6.ownsRow (G + 1) 25 6 v6 (T ++ [Tree.mk tk tp tf tx tn tA tc tL]).length (treesL (T ++ [Tree.mk tk tp tf tx tn tA tc tL]))) := by unfold Hid; rw [treesL_snoc, List.length_append, List.length_singleton]; exact ho6
   have htk6 := hdZ (htk.out.below hB6.out); clear ho6 hg6 hv6 hWl hbl hbG' hTt hTs hown hBr hRr hszr nc0 nc1 nc2 nc3 nc4 nc5 nc6 nc7 nc8 nf0 nf1 nf2 nf3 nf4 nf5 nf6 nf7 nf8 nlt hq1 hq2; refine (rsz A m c l w6 nx [97, 110, 100] hm htk6).mono ?_; rintro x w7 ⟨rfl, rfl⟩; rw [hat.out]; obtain ⟨T1, hT1⟩ := nmZ (T ++ [Tree.mk tk tp tf tx tn tA tc tL]); rw [hT1.out] at hown6 hts6; have hlT : Hid (T1.length = T.length + 1) := by unfold Hid; rw [← hT1.out]; simp
   have hsT : Hid (sSz T1 = sSz T ++ [r]) := by unfold Hid; rw [← hT1.out, strips_app, hst'.out]
   obtain ⟨p6, c6, rfl⟩ := osz hown6.out; obtain ⟨mc0, mc1, mc2, mc3, mc4, mc5, mc6, mc7, mc8, mf0, mf1, mf2, mf3, mf4, mf5, mf6, mf7, mf8⟩ := cf9 hbG6.out; have mlt := hbG6.out.lt
   cases hb : seZ (wdz [97, 110, 100]) ts with
   | false =>
    have hRe := hdZ (pre_stop hR.out hb); obtain ⟨rc0, rc1, rc2, rc3, rc4, rc5, rc6, rc7, rc8, rf0, rf1, rf2, rf3, rf4, rf5, rf6, rf7, rf8⟩ := cf9 hR6.out; have rlt := hR6.out.lt
    by_cases hT0 : T.length = 0
    ·have b1 : decide ((1 : Int) < (T1.length : Int)) = false := by have := hlT.out; simp; omega
     go_wp2_with fail; refine bodyPost_ret (rrz rfl _ _ W.heap.size 65 _ _ rfl (st9z (hR6.out)) Tryz.underlying65 rfl (by kernel_rfl)) rfl ?_; rw [hyR'.out, hRe.out]; have hT0' : T = [] := List.eq_nil_of_length_eq_zero hT0; subst hT0'; have hJ : joinK 0 (sSz [] ++ [r]) = r := by rw [sSz]; rfl
     simp only; rw [hJ]; have hTf : TAz w6 (fun b => W.heap.size + 1 ≤ b) (.mk tk tp tf tx tn tA tc tL) := htt6.out.mono fun b _ hk => hk.1.1
     have hh : ∀ b, W.heap.size + 1 ≤ b → b ≠ W.heap.size := fun b hb => by omega
     exact ⟨(sc9z (hB6.out)), got_back (t := .mk tk tp tf tx tn tA tc tL) (nx := nx) rfl hnx'.out ((((((((((hTf.far hh 0 _).far hh 1 _).far hh 2 _).far hh 3 _).far hh 4 _).far hh 5 _).far hh 6 _).far hh 7 _).far hh 8 _).mono fun b _ hk => by omega) hst'.out⟩
    ·have b1 : decide ((1 : Int) < (T1.length : Int)) = true := by have := hlT.out; simp; omega
     go_wp2_with fail; refine bodyPost_ret (rrz rfl _ _ W.heap.size 65 _ _ rfl (st9z (((((((hR6.out.far (p := (Az G 0)) ne2 _).far (p := (Az G 1)) ne2 _).far (p := (Az G 2)) ne2 _).far (p := (Az G 3)) ne2 _).far (p := (Az G 4)) ne2 _).far (p := (Az G 5)) ne2 _))) Tryz.underlying65 rfl (by kernel_rfl)) rfl ?_; rw [hyR'.out, hRe.out]; simp only
     have hJ : joinK 0 (sSz T ++ [r]) = stz (.mk 0 0 [] [] 0 p6 c6 T1) := by
      rw [stz, hsT.out]
      match T, hT0 with
      | [], h => exact absurd rfl h
      | a :: T', _ => rw [sSz]; cases h : sSz T' <;> rfl
     have hTf : TAz w6 (fun b => W.heap.size + 1 ≤ b ∧ b ≠ G) (.mk 0 0 [] [] 0 p6 c6 T1) := by
      obtain ⟨p', c', hv, hr⟩ := own_rows (ok := fun b => W.heap.size + 1 ≤ b ∧ b ≠ G) hown6.out (fun b hb => ⟨by omega, by omega⟩) (fun t ht => (hts6.out t ht).mono (fun b _ hk => hk.1)); obtain ⟨rfl, _, rfl⟩ : p6 = p' ∧ T1.length = T1.length ∧ c6 = c' := by simpa using hv
      rw [TAz]; refine ⟨hr, ?_⟩; have := hgn'.out; have := hlT.out; unfold maxLen; omega
     have hh : ∀ b, W.heap.size + 1 ≤ b ∧ b ≠ G → b ≠ W.heap.size := fun b hb => by omega
     have hh2 : ∀ b, W.heap.size + 1 ≤ b ∧ b ≠ G → b ≠ G := fun b hb => hb.2
     have hleG : W.heap.size ≤ G := by omega
     exact ⟨(sc9z (((((((hB6.out.setCell hleG _).setCell hleG _).setCell hleG _).setCell hleG _).setCell hleG _).setCell hleG _))), got_back (t := .mk 0 0 [] [] 0 p6 c6 T1) (nx := nx) rfl hnx'.out ((((((((((((((((hTf.far hh2 0 _).far hh2 1 _).far hh2 2 _).far hh2 3 _).far hh2 4 _).far hh2 5 _).far hh 0 _).far hh 1 _).far hh 2 _).far hh 3 _).far hh 4 _).far hh 5 _).far hh 6 _).far hh 7 _).far hh 8 _).mono fun b _ hk => by omega) hJ.symm⟩
   | true =>
    obtain ⟨n', z', rfl, hz', hR'⟩ := pre_step hR.out hb
    have hlt : nx + 1 ≤ m := by
     have h1 := sees_len' hb; have h2 := hsx'.out.length_le; have := hnx'.out; have := hm.out; omega
    have hdr' : l.drop (nx + 1) = ts.tail := by rw [← hdr.out, List.tail_drop]
    have w1x : IntKind.i64.wrap ((nx : Int) + 1) = ((nx + 1 : Nat) : Int) := by rw [IntWalk.i64_in _ (by omega)]; omega
    have hcl := hdZ (ih'.out w6 (nx + 1) z' hlt (by rw [hdr']; exact hz') htk6); have hsf' : Hid (∀ r' ts', z' = .ok (r', ts') → ts' <:+ l) := fun r' ts' h => ((hsuf'.out _ _ _ (h ▸ hz')).trans (List.tail_suffix ts)).trans hsx'.out
    have hRn : Hid (some R = preL (sSz T1) (nextP part [97, 110, 100] n' z')) := by unfold Hid; rw [hsT.out]; exact hR'
    have hgt : Hid (T1.length + n' = n0) := by have := hgn'.out; have := hlT.out; unfold Hid; omega
    clear hz' hR' hdr' hR hsx' hdr hat hb; go_wp2_with fail; refine hcl.out.mono ?_; rintro x w7 ⟨hB7, hgot⟩; obtain ⟨⟨uk, up, uf, ux, un, uA, uc, uL⟩, ny, ef, au, rfl, hTu, hMu⟩ := got_any hgot; have hMu' := hdZ hMu; have hbG7 := hdZ (hbG6.out.below hB7 hbG6.out.lt); have hR7 := hdZ (hR6.out.below hB7 hR6.out.lt); have hBW7 := hdZ (hB6.out.trans (hB7.mono hB6.out.size)); have hts7 : Hid (∀ u ∈ T1, TAz w7 (fun b => (W.heap.size + 1 ≤ b ∧ b ≠ G) ∧ (Value.slice p6 T1.length c6).ownBlock ≠ some b) u) := fun u hu => (hts6.out u hu).below hB7
    have hown7 := hdZ (own_below hown6.out hB7); have hsz7 : Hid (G + 1 ≤ w7.heap.size) := Nat.le_trans hsz6.out hB7.size
    have htu7 : Hid (TAz w7 (fun b => (W.heap.size + 1 ≤ b ∧ b ≠ G) ∧ (Value.slice p6 T1.length c6).ownBlock ≠ some b) (.mk uk up uf ux un uA uc uL)) := by
     have hold := own_old hown6.out; exact hTu.mono (fun b _ h2 => ⟨⟨by have := hsz6.out; omega, by have := hsz6.out; omega⟩, hold b h2⟩)
    clear hgot hMu hTu hB7 hbG6 hR6 hB6 hts6 hown6 htt6 hsz6 htk6 hcl mc0 mc1 mc2 mc3 mc4 mc5 mc6 mc7 mc8 mf0 mf1 mf2 mf3 mf4 mf5 mf6 mf7 mf8 mlt d6; unfold gotG; obtain ⟨qc0, qc1, qc2, qc3, qc4, qc5, qc6, qc7, qc8, qf0, qf1, qf2, qf3, qf4, qf5, qf6, qf7, qf8⟩ := cf9 hbG7.out; have qlt := hbG7.out.lt; go_wp2_with fail; have hh2 : ∀ b, ((W.heap.size + 1 ≤ b ∧ b ≠ G) ∧ (Value.slice p6 T1.length c6).ownBlock ≠ some b) → b ≠ G := fun b hb => hb.1.2
    have hleG : W.heap.size ≤ G := by omega
    go_roundg n'
    case measure => omega
    case rel =>
     refine ⟨T1, z', .mk uk up uf ux un uA uc uL, ny, ef, au, hgt.out, hRn, hMu', blk9 hbG7.out _ _ _ _ _ _ _ _ _, (((((((((htu7.out.far hh2 0 _).far hh2 1 _).far hh2 2 _).far hh2 3 _).far hh2 4 _).far hh2 5 _).far hh2 6 _).far hh2 7 _).far hh2 8 _), (fun u hu => ((((((((((hts7.out u hu).far hh2 0 _).far hh2 1 _).far hh2 2 _).far hh2 3 _).far hh2 4 _).far hh2 5 _).far hh2 6 _).far hh2 7 _).far hh2 8 _)), own_but hown7.out ((((((((((But.refl G w7).setCell 0 _).setCell 1 _).setCell 2 _).setCell 3 _).setCell 4 _).setCell 5 _).setCell 6 _).setCell 7 _).setCell 8 _) (Nat.lt_succ_self _), (((((((((hBW7.out.setCell hleG _).setCell hleG _).setCell hleG _).setCell hleG _).setCell hleG _).setCell hleG _).setCell hleG _).setCell hleG _).setCell hleG _), (((((((((hR7.out.far (p := (Az G 0)) ne2 _).far (p := (Az G 1)) ne2 _).far (p := (Az G 2)) ne2 _).far (p := (Az G 3)) ne2 _).far (p := (Az G 4)) ne2 _).far (p := (Az G 5)) ne2 _).far (p := (Az G 6)) ne2 _).far (p := (Az G 7)) ne2 _).far (p := (Az G 8)) ne2 _), ?_, hsf'⟩; unfold Hid; simpa using hsz7.out
theorem rrow71 (A : Option Addr) (c e : Nat) (l : List Tok) (hg : GoodL l) (hlen : l.length ≤ 4096) (part : List Tok → Option (Res Rul)) (hsuf : Suf part) (ih : RReads 122 A c e l part) (n : Nat) (hn : n ≤ 100000) : RReads 71 A c e l (rowP part [111, 114] 1 n) := by
 intro W i y hi hy htk
 obtain ⟨n0, z0, R, rfl, hz0, hR0, hyR⟩ := row_start hy
 have hR0' := hdZ hR0
 have hyR' := hdZ hyR
 clear hyR
 obtain ⟨m, hm⟩ := nmZ (l.length)
 have hm4 : m ≤ 4096 := by rw [← hm.out]; exact hlen
 have hgd := hdZ hg
 have hb0 : Hid (Bz W (W.alloc (.cells (z2z 0 0 0 none 0 0 0 0 0) 65))) := (Below.refl _ W).alloc leZ _
 have hQ0 := hdZ (Blk.new W 65 (z2z 0 0 0 none 0 0 0 0 0))
 have hs0 : Hid ((W.alloc (.cells (z2z 0 0 0 none 0 0 0 0 0) 65)).heap.size = W.heap.size + 1) := by unfold Hid; simp
 have hcall := hdZ (ih (W.alloc (.cells (z2z 0 0 0 none 0 0 0 0 0) 65)) i z0 hi hz0 (htk.out.below hb0.out))
 have ih' : Hid (∀ (W' : World) (j : Nat) (z : Res Rul), j ≤ m → part (l.drop j) = some z → Hid (TokAt W' 0 A l) → Cz 122 #[.slice A m c, Iz j, Iz e] W' fun x w' => Below W'.heap.size W' w' ∧ GotC W' w' l z x) := by unfold Hid; rw [← hm.out]; exact ih
 obtain ⟨i0, hi0, hz0', hz1, hz2⟩ := info_parts (P := Tryz.prog) (e := 25) (z := .agg #[Iz 0, Iz 0, S0z, S0z, Iz 0, .slice none 0 0]) (size := 6) (bytes := 80) (by kernel_rfl)
 have hsf0 : Hid (∀ r ts, z0 = .ok (r, ts) → ts <:+ l) := fun r ts h => ((hsuf _ _ _ (h ▸ hz0)).trans (List.drop_suffix i l))
 have hsuf' := hdZ hsuf
 rw [hm.out] at hcall ⊢
 clear hy hR0 hz0 ih hg hsuf hlen
 go_enter Tryz.func71, Tryz.ntmps71
 go_wp2_with fail
 refine hcall.out.mono ?_
 rintro x w1 ⟨hb1, hgot⟩
 obtain ⟨⟨tk, tp, tf, tx, tn, tA, tc, tL⟩, nx, ee, at_, rfl, hT1, hM1⟩ := got_any hgot
 have hM1' := hdZ hM1
 have hT1' : Hid (TAz w1 (fun b => W.heap.size + 1 ≤ b) (.mk tk tp tf tx tn tA tc tL)) := hT1.mono fun b _ hb => by have := hs0.out; omega
 have hB1 : Hid (Bz W w1) := hb0.out.trans (hb1.mono hb0.out.size)
 have hQ1 := hdZ (hQ0.out.below hb1 hQ0.out.lt)
 have hsz : W.heap.size + 1 ≤ w1.heap.size := by have := hb1.size; have := hs0.out; omega
 have ne1 : w1.heap.size ≠ W.heap.size := by omega
 have ne2 : W.heap.size ≠ w1.heap.size := by omega
 clear hgot hM1 hT1 hb1 hcall hb0 hQ0 hs0
 unfold gotG
 have hbl : Bz w1 (w1.alloc (.cells (z5z tk tp tf tx tn tA tL.length tc nx ee at_) 65)) := (Below.refl _ w1).alloc leZ _
 have hN : Hid (Blk (w1.alloc (.cells (z5z tk tp tf tx tn tA tL.length tc nx ee at_) 65)) w1.heap.size 65 (gotG (.mk tk tp tf tx tn tA tc tL) nx ee at_)) := Blk.new w1 65 _
 have hRb := hdZ (hQ1.out.below hbl hQ1.out.lt)
 have hBb := hdZ (hB1.out.trans (hbl.mono hB1.out.size))
 have hTb : Hid (TAz (w1.alloc (.cells (z5z tk tp tf tx tn tA tL.length tc nx ee at_) 65)) (fun b => (W.heap.size + 1 ≤ b ∧ b ≠ w1.heap.size) ∧ (Value.slice (some ⟨w1.heap.size + 1, 0, none⟩) 0 0).ownBlock ≠ some b) (.mk tk tp tf tx tn tA tc tL)) := (hT1'.out.mono fun b hlt hb => ⟨⟨hb, by omega⟩, by simp [Value.ownBlock]; omega⟩).below hbl
 have hsb : Hid (w1.heap.size + 1 ≤ (w1.alloc (.cells (z5z tk tp tf tx tn tA tL.length tc nx ee at_) 65)).heap.size) := by unfold Hid; simp
 have hsc : Hid ((w1.alloc (.cells (z5z tk tp tf tx tn tA tL.length tc nx ee at_) 65)).heap.size = w1.heap.size + 1) := by unfold Hid; simp
 obtain ⟨wb, hwb⟩ := nmZ (w1.alloc (.cells (z5z tk tp tf tx tn tA tL.length tc nx ee at_) 65))
 go_wp2_with fail
 rw [hwb.out] at hN hRb hBb hTb hsb hsc ⊢
 obtain ⟨G, hG⟩ := nmZ (w1.heap.size)
 rw [hG.out] at hN hTb hsb hsc ne1 ne2 hsz ⊢
 have hbl2 : Bz wb (wb.alloc (.cells #[] 25)) := (Below.refl _ wb).alloc leZ _
 have how := hdZ (own_void (B := G + 1) wb (by have := hsc.out; omega))
 rw [hsc.out] at how
 have hN' := hdZ (hN.out.below hbl2 hN.out.lt)
 have hRb' := hdZ (hRb.out.below hbl2 hRb.out.lt)
 have hTb' := hdZ (hTb.out.below hbl2)
 have hBb' := hdZ (hBb.out.trans (hbl2.mono hBb.out.size))
 have hsb' : Hid (G + 1 ≤ (wb.alloc (.cells #[] 25)).heap.size) := Nat.le_trans hsb.out hbl2.size
 clear hbl hwb hB1 hQ1 hT1' hG hbl2 hsc hN hRb hTb hBb hsb
 go_loopg [8] n0 (fun gg v wr => ∃ (T : List Tree) (z : Res Rul) (t : Tree) (nx : Nat) (ee : Int) (at_ : Nat), T.length + gg = n0 ∧ Hid (some R = preL (sSz T) (nextP part [111, 114] gg z)) ∧ Hid (GotM l z t nx ee at_) ∧ Hid (Blk wr G 65 (gotG t nx ee at_)) ∧ Hid (TAz wr (fun b => (W.heap.size + 1 ≤ b ∧ b ≠ G) ∧ v.ownBlock ≠ some b) t) ∧ Hid (∀ u ∈ T, TAz wr (fun b => (W.heap.size + 1 ≤ b ∧ b ≠ G) ∧ v.ownBlock ≠ some b) u) ∧ Hid (wr.ownsRow (G + 1) 25 6 v T.length (treesL T)) ∧ Hid (Bz W wr) ∧ Hid (Blk wr W.heap.size 65 (z2z 0 0 0 none 0 0 0 0 0)) ∧ Hid (G + 1 ≤ wr.heap.size) ∧ Hid (∀ r ts, z = .ok (r, ts) → ts <:+ l))
 case atStart => exact ⟨[], z0, _, nx, ee, at_, by simp, hR0', hM1', hN', hTb', (fun u hu => by cases hu), how, hBb', hRb', hsb', hsf0⟩
 case round =>
  clear hN' hRb' hBb' hTb' hsb' hR0' hM1' hsf0 how; obtain ⟨T, z, ⟨tk, tp, tf, tx, tn, tA, tc, tL⟩, nx, ee, at_, hgn, hR, hM, hbG, hTt, hTs, hown, hBr, hRr, hszr, hsf⟩ := hrel; have hgn' := hdZ hgn; have hbG' : Hid (Blk wr G 65 (z5z tk tp tf tx tn tA tL.length tc nx ee at_)) := hbG; clear hbG hgn; obtain ⟨nc0, nc1, nc2, nc3, nc4, nc5, nc6, nc7, nc8, nf0, nf1, nf2, nf3, nf4, nf5, nf6, nf7, nf8⟩ := cf9 hbG'.out; have nlt := hbG'.out.lt
  rcases z with ⟨pl, cd⟩ | ⟨r, ts⟩
  ·obtain ⟨het, rfl, rfl, rfl, hcd⟩ := hM.out
   simp only [Tree.mk.injEq] at het; obtain ⟨rfl, rfl, rfl, rfl, rfl, rfl, rfl, rfl⟩ := het; have hRe := hdZ (pre_bad hR.out); have b1 : (ee == 0) = false := by simp [hcd]
   have hcd' := hdZ hcd; clear hcd; obtain ⟨rc0, rc1, rc2, rc3, rc4, rc5, rc6, rc7, rc8, rf0, rf1, rf2, rf3, rf4, rf5, rf6, rf7, rf8⟩ := cf9 hRr.out; have rlt := hRr.out.lt; go_wp2_with fail; refine bodyPost_ret (rrz rfl _ _ W.heap.size 65 _ _ rfl (st9z (hRr.out)) Tryz.underlying65 rfl (by kernel_rfl)) rfl ?_; rw [hyR'.out, hRe.out]; exact ⟨(sc9z (hBr.out)), hcd'.out, rfl⟩
  ·obtain ⟨hnx, rfl, rfl, hst⟩ := hM.out
   have hsx := hsf.out r ts rfl; have hdr : Hid (l.drop nx = ts) := by unfold Hid; rw [hnx]; exact (List.suffix_iff_eq_drop.1 hsx).symm
   have hnm : nx ≤ m := by rw [hnx, ← hm.out]; omega
   have hnx' := hdZ hnx; have hst' := hdZ hst; have hat : Hid (atI (isT [111, 114]) l nx = seZ (wdz [111, 114]) ts) := by unfold Hid; rw [atI_good hgd.out (fun t ht => isT_word ht (by decide)) nx, ati_sees, hdr.out]
   have hsx' := hdZ hsx; clear hM hsf hnx hst hsx; obtain ⟨p, cc, rfl⟩ := osz hown.out; have hq1 : Hid (T.length + 1 ≤ maxLen) := by have := hgn'.out; unfold Hid maxLen; omega
   have hq2 : Hid ((T.length + 1) * 80 ≤ 140737488355328) := by have := hgn'.out; unfold Hid; omega
   go_wp2_with (at_builtin; go_must (refine wpList_app4 (G + 1) rfl (.tmp 17) (.tmp 20) 23 rfl 25 i0 _ 6 80 Tryz.underlying23 hi0 hz0' hz1 hz2 rfl (by decide) _ T.length (treesL T) rfl wr.heap.size 1 (z1z tk tp tf tx tn tA tL.length tc) rfl (hown.out.alloc _) (Blk.new wr 25 _) rfl (tree_one _ _ _ _ _ _ _ _) hq1.out hq2.out (Nat.le_trans hszr.out (by simp)) ?_); intro v6 w6 ho6 hg6 hv6; have hWl := grow_low (hown.out.alloc (.cells (z1z tk tp tf tx tn tA tL.length tc) 25)) (Nat.le_trans hszr.out (by simp)) hg6; have hbG6 := hdZ ((hbG'.out.alloc (.cells (z1z tk tp tf tx tn tA tL.length tc) 25)).below hWl (Nat.lt_succ_self _)); have d6 : w6.cell? (Az G 6) = some (Iz nx) := hbG6.out.cell 6)
   have hbl : Bz wr (wr.alloc (.cells (z1z tk tp tf tx tn tA tL.length tc) 25)) := (Below.refl _ wr).alloc leZ _; have hB6 : Hid (Bz W w6) := (hBr.out.trans (hbl.mono hBr.out.size)).trans (hWl.mono (by omega)); have hR6 : Hid (Blk w6 W.heap.size 65 (z2z 0 0 0 none 0 0 0 0 0)) := (hRr.out.alloc _).below hWl (by omega); have hsz6 : Hid (G + 1 ≤ w6.heap.size) := Nat.le_trans (Nat.le_trans hszr.out hbl.size) hWl.size; have htt6 : Hid (TAz w6 (fun b => (W.heap.size + 1 ≤ b ∧ b ≠ G) ∧ v6.ownBlock ≠ some b) (.mk tk tp tf tx tn tA tc tL)) := tree_grown hTt.out hbl hg6 hv6
   have hts6 : Hid (∀ u ∈ T ++ [Tree.mk tk tp tf tx tn tA tc tL], TAz w6 (fun b => (W.heap.size + 1 ≤ b ∧ b ≠ G) ∧ v6.ownBlock ≠ some b) u) := fun u hu => by
    rcases List.mem_append.1 hu with h | h
    ·exact tree_grown (hTs.out u h) hbl hg6 hv6
    ·rw [List.mem_singleton.1 h]; exact htt6.out
   have hown6 : Hid (w6.ownsRow (G + 1) 25 6 v6 (T ++ [Tree.mk tk tp tf tx tn tA tc tL]).length (treesL (T ++ [Tree.mk tk tp tf tx tn tA tc tL]))) := by unfold Hid; rw [treesL_snoc, List.length_append, List.length_singleton]; exact ho6
   have htk6 := hdZ (htk.out.below hB6.out); clear ho6 hg6 hv6 hWl hbl hbG' hTt hTs hown hBr hRr hszr nc0 nc1 nc2 nc3 nc4 nc5 nc6 nc7 nc8 nf0 nf1 nf2 nf3 nf4 nf5 nf6 nf7 nf8 nlt hq1 hq2; refine (rsz A m c l w6 nx [111, 114] hm htk6).mono ?_; rintro x w7 ⟨rfl, rfl⟩; rw [hat.out]; obtain ⟨T1, hT1⟩ := nmZ (T ++ [Tree.mk tk tp tf tx tn tA tc tL]); rw [hT1.out] at hown6 hts6; have hlT : Hid (T1.length = T.length + 1) := by unfold Hid; rw [← hT1.out]; simp
   have hsT : Hid (sSz T1 = sSz T ++ [r]) := by unfold Hid; rw [← hT1.out, strips_app, hst'.out]
   obtain ⟨p6, c6, rfl⟩ := osz hown6.out; obtain ⟨mc0, mc1, mc2, mc3, mc4, mc5, mc6, mc7, mc8, mf0, mf1, mf2, mf3, mf4, mf5, mf6, mf7, mf8⟩ := cf9 hbG6.out; have mlt := hbG6.out.lt
   cases hb : seZ (wdz [111, 114]) ts with
   | false =>
    have hRe := hdZ (pre_stop hR.out hb); obtain ⟨rc0, rc1, rc2, rc3, rc4, rc5, rc6, rc7, rc8, rf0, rf1, rf2, rf3, rf4, rf5, rf6, rf7, rf8⟩ := cf9 hR6.out; have rlt := hR6.out.lt
    by_cases hT0 : T.length = 0
    ·have b1 : decide ((1 : Int) < (T1.length : Int)) = false := by have := hlT.out; simp; omega
     go_wp2_with fail; refine bodyPost_ret (rrz rfl _ _ W.heap.size 65 _ _ rfl (st9z (hR6.out)) Tryz.underlying65 rfl (by kernel_rfl)) rfl ?_; rw [hyR'.out, hRe.out]; have hT0' : T = [] := List.eq_nil_of_length_eq_zero hT0; subst hT0'; have hJ : joinK 1 (sSz [] ++ [r]) = r := by rw [sSz]; rfl
     simp only; rw [hJ]; have hTf : TAz w6 (fun b => W.heap.size + 1 ≤ b) (.mk tk tp tf tx tn tA tc tL) := htt6.out.mono fun b _ hk => hk.1.1
     have hh : ∀ b, W.heap.size + 1 ≤ b → b ≠ W.heap.size := fun b hb => by omega
     exact ⟨(sc9z (hB6.out)), got_back (t := .mk tk tp tf tx tn tA tc tL) (nx := nx) rfl hnx'.out ((((((((((hTf.far hh 0 _).far hh 1 _).far hh 2 _).far hh 3 _).far hh 4 _).far hh 5 _).far hh 6 _).far hh 7 _).far hh 8 _).mono fun b _ hk => by omega) hst'.out⟩
    ·have b1 : decide ((1 : Int) < (T1.length : Int)) = true := by have := hlT.out; simp; omega
     go_wp2_with fail; refine bodyPost_ret (rrz rfl _ _ W.heap.size 65 _ _ rfl (st9z (((((((hR6.out.far (p := (Az G 0)) ne2 _).far (p := (Az G 1)) ne2 _).far (p := (Az G 2)) ne2 _).far (p := (Az G 3)) ne2 _).far (p := (Az G 4)) ne2 _).far (p := (Az G 5)) ne2 _))) Tryz.underlying65 rfl (by kernel_rfl)) rfl ?_; rw [hyR'.out, hRe.out]; simp only
     have hJ : joinK 1 (sSz T ++ [r]) = stz (.mk 1 0 [] [] 0 p6 c6 T1) := by
      rw [stz, hsT.out]
      match T, hT0 with
      | [], h => exact absurd rfl h
      | a :: T', _ => rw [sSz]; cases h : sSz T' <;> rfl
     have hTf : TAz w6 (fun b => W.heap.size + 1 ≤ b ∧ b ≠ G) (.mk 1 0 [] [] 0 p6 c6 T1) := by
      obtain ⟨p', c', hv, hr⟩ := own_rows (ok := fun b => W.heap.size + 1 ≤ b ∧ b ≠ G) hown6.out (fun b hb => ⟨by omega, by omega⟩) (fun t ht => (hts6.out t ht).mono (fun b _ hk => hk.1)); obtain ⟨rfl, _, rfl⟩ : p6 = p' ∧ T1.length = T1.length ∧ c6 = c' := by simpa using hv
      rw [TAz]; refine ⟨hr, ?_⟩; have := hgn'.out; have := hlT.out; unfold maxLen; omega
     have hh : ∀ b, W.heap.size + 1 ≤ b ∧ b ≠ G → b ≠ W.heap.size := fun b hb => by omega
     have hh2 : ∀ b, W.heap.size + 1 ≤ b ∧ b ≠ G → b ≠ G := fun b hb => hb.2
     have hleG : W.heap.size ≤ G := by omega
     exact ⟨(sc9z (((((((hB6.out.setCell hleG _).setCell hleG _).setCell hleG _).setCell hleG _).setCell hleG _).setCell hleG _))), got_back (t := .mk 1 0 [] [] 0 p6 c6 T1) (nx := nx) rfl hnx'.out ((((((((((((((((hTf.far hh2 0 _).far hh2 1 _).far hh2 2 _).far hh2 3 _).far hh2 4 _).far hh2 5 _).far hh 0 _).far hh 1 _).far hh 2 _).far hh 3 _).far hh 4 _).far hh 5 _).far hh 6 _).far hh 7 _).far hh 8 _).mono fun b _ hk => by omega) hJ.symm⟩
   | true =>
    obtain ⟨n', z', rfl, hz', hR'⟩ := pre_step hR.out hb
    have hlt : nx + 1 ≤ m := by
     have h1 := sees_len' hb; have h2 := hsx'.out.length_le; have := hnx'.out; have := hm.out; omega
    have hdr' : l.drop (nx + 1) = ts.tail := by rw [← hdr.out, List.tail_drop]
    have w1x : IntKind.i64.wrap ((nx : Int) + 1) = ((nx + 1 : Nat) : Int) := by rw [IntWalk.i64_in _ (by omega)]; omega
    have hcl := hdZ (ih'.out w6 (nx + 1) z' hlt (by rw [hdr']; exact hz') htk6); have hsf' : Hid (∀ r' ts', z' = .ok (r', ts') → ts' <:+ l) := fun r' ts' h => ((hsuf'.out _ _ _ (h ▸ hz')).trans (List.tail_suffix ts)).trans hsx'.out
    have hRn : Hid (some R = preL (sSz T1) (nextP part [111, 114] n' z')) := by unfold Hid; rw [hsT.out]; exact hR'
    have hgt : Hid (T1.length + n' = n0) := by have := hgn'.out; have := hlT.out; unfold Hid; omega
    clear hz' hR' hdr' hR hsx' hdr hat hb; go_wp2_with fail; refine hcl.out.mono ?_; rintro x w7 ⟨hB7, hgot⟩; obtain ⟨⟨uk, up, uf, ux, un, uA, uc, uL⟩, ny, ef, au, rfl, hTu, hMu⟩ := got_any hgot; have hMu' := hdZ hMu; have hbG7 := hdZ (hbG6.out.below hB7 hbG6.out.lt); have hR7 := hdZ (hR6.out.below hB7 hR6.out.lt); have hBW7 := hdZ (hB6.out.trans (hB7.mono hB6.out.size)); have hts7 : Hid (∀ u ∈ T1, TAz w7 (fun b => (W.heap.size + 1 ≤ b ∧ b ≠ G) ∧ (Value.slice p6 T1.length c6).ownBlock ≠ some b) u) := fun u hu => (hts6.out u hu).below hB7
    have hown7 := hdZ (own_below hown6.out hB7); have hsz7 : Hid (G + 1 ≤ w7.heap.size) := Nat.le_trans hsz6.out hB7.size
    have htu7 : Hid (TAz w7 (fun b => (W.heap.size + 1 ≤ b ∧ b ≠ G) ∧ (Value.slice p6 T1.length c6).ownBlock ≠ some b) (.mk uk up uf ux un uA uc uL)) := by
     have hold := own_old hown6.out; exact hTu.mono (fun b _ h2 => ⟨⟨by have := hsz6.out; omega, by have := hsz6.out; omega⟩, hold b h2⟩)
    clear hgot hMu hTu hB7 hbG6 hR6 hB6 hts6 hown6 htt6 hsz6 htk6 hcl mc0 mc1 mc2 mc3 mc4 mc5 mc6 mc7 mc8 mf0 mf1 mf2 mf3 mf4 mf5 mf6 mf7 mf8 mlt d6; unfold gotG; obtain ⟨qc0, qc1, qc2, qc3, qc4, qc5, qc6, qc7, qc8, qf0, qf1, qf2, qf3, qf4, qf5, qf6, qf7, qf8⟩ := cf9 hbG7.out; have qlt := hbG7.out.lt; go_wp2_with fail; have hh2 : ∀ b, ((W.heap.size + 1 ≤ b ∧ b ≠ G) ∧ (Value.slice p6 T1.length c6).ownBlock ≠ some b) → b ≠ G := fun b hb => hb.1.2
    have hleG : W.heap.size ≤ G := by omega
    go_roundg n'
    case measure => omega
    case rel =>
     refine ⟨T1, z', .mk uk up uf ux un uA uc uL, ny, ef, au, hgt.out, hRn, hMu', blk9 hbG7.out _ _ _ _ _ _ _ _ _, (((((((((htu7.out.far hh2 0 _).far hh2 1 _).far hh2 2 _).far hh2 3 _).far hh2 4 _).far hh2 5 _).far hh2 6 _).far hh2 7 _).far hh2 8 _), (fun u hu => ((((((((((hts7.out u hu).far hh2 0 _).far hh2 1 _).far hh2 2 _).far hh2 3 _).far hh2 4 _).far hh2 5 _).far hh2 6 _).far hh2 7 _).far hh2 8 _)), own_but hown7.out ((((((((((But.refl G w7).setCell 0 _).setCell 1 _).setCell 2 _).setCell 3 _).setCell 4 _).setCell 5 _).setCell 6 _).setCell 7 _).setCell 8 _) (Nat.lt_succ_self _), (((((((((hBW7.out.setCell hleG _).setCell hleG _).setCell hleG _).setCell hleG _).setCell hleG _).setCell hleG _).setCell hleG _).setCell hleG _).setCell hleG _), (((((((((hR7.out.far (p := (Az G 0)) ne2 _).far (p := (Az G 1)) ne2 _).far (p := (Az G 2)) ne2 _).far (p := (Az G 3)) ne2 _).far (p := (Az G 4)) ne2 _).far (p := (Az G 5)) ne2 _).far (p := (Az G 6)) ne2 _).far (p := (Az G 7)) ne2 _).far (p := (Az G 8)) ne2 _), ?_, hsf'⟩; unfold Hid; simpa using hsz7.out
end Go.Proofs.YtjkmhlfjheiekaaGreatDoor

import Derived.Test.YtjkmhlfjheiekaaGreatDoorVg
import Derived.Test.YtjkmhlfjheiekaaGreatDoorVj
set_option maxRecDepth 1000000
set_option maxHeartbeats 51200000
namespace Go.Proofs.YtjkmhlfjheiekaaGreatDoor
open Go Go.RowKit Go.BigFrame Go.Maps
def ShortL (ts : List Tok) : Prop := ∀ t ∈ ts, t.text.length ≤ 5000
theorem takeM_at {e : Nat} {p : Tok → Bool} {ts r : List Tok} {x : Txt} (h : takeM e p ts = .ok (x, r)) (hs : ShortL ts) : ShortL r ∧ r.length + 1 = ts.length ∧ x.length ≤ 5000 := by
 obtain ⟨t, rfl, _, rfl⟩ := takeM_ok h
 exact ⟨fun u hu => hs u (List.mem_cons_of_mem _ hu), rfl, hs t List.mem_cons_self⟩
theorem numM_at {e : Nat} {lo hi x : Int} {ts r : List Tok} (h : numM e lo hi ts = .ok (x, r)) (hs : ShortL ts) : ShortL r ∧ r.length + 1 = ts.length := by
 unfold numM at h
 split at h
 ·cases h
 ·rename_i t r' ht
  split at h
  ·cases h
  ·simp only [Except.ok.injEq, Prod.mk.injEq] at h
   obtain ⟨_, rfl⟩ := h; obtain ⟨a, b, _⟩ := takeM_at ht hs; exact ⟨a, b⟩
theorem leaf_sz (k p : Int) (f x : Txt) (n : Int) : szR (.mk k p f x n []) = f.length + x.length + 64 := by rw [szR, szL]
theorem leaf_depth (k p : Int) (f x : Txt) (n : Int) : depthR (.mk k p f x n []) = 0 := by rw [depthR, depthL]
def Sized (part : List Tok → Option (Res Rul)) : Prop := ∀ ts r ts', part ts = some (.ok (r, ts')) → ShortL ts → ShortL ts' ∧ szR r + 16 + 20000 * ts'.length ≤ 20000 * ts.length ∧ depthR r + ts'.length + 1 ≤ ts.length
theorem atomM_sized {e : Nat} {ts r : List Tok} {x : Rul} (h : atomM e ts = .ok (x, r)) (hs : ShortL ts) : ShortL r ∧ szR x + 16 + 20000 * r.length ≤ 20000 * ts.length ∧ depthR x + r.length + 1 ≤ ts.length := by
 unfold atomM at h
 obtain ⟨f, t1, h1, h⟩ := bsz h
 obtain ⟨o, t2, h2, h⟩ := bsz h
 obtain ⟨s1, e1, x1⟩ := takeM_at h1 hs
 obtain ⟨s2, e2, _⟩ := takeM_at h2 s1
 split at h
 ·split at h
  ·obtain ⟨_, t3, h3, h⟩ := bsz h
   obtain ⟨_, t4, h4, h⟩ := bsz h; obtain ⟨_, t5, h5, h⟩ := bsz h; obtain ⟨s3, e3, _⟩ := takeM_at h3 s2; obtain ⟨s4, e4, _⟩ := takeM_at h4 s3; obtain ⟨s5, e5, x5⟩ := takeM_at h5 s4; simp only [Except.ok.injEq, Prod.mk.injEq] at h; obtain ⟨rfl, rfl⟩ := h; rw [leaf_sz, leaf_depth]; exact ⟨s5, by omega, by omega⟩
  ·obtain ⟨_, t3, h3, h⟩ := bsz h
   obtain ⟨s3, e3, x3⟩ := takeM_at h3 s2; simp only [Except.ok.injEq, Prod.mk.injEq] at h; obtain ⟨rfl, rfl⟩ := h; rw [leaf_sz, leaf_depth]; exact ⟨s3, by omega, by omega⟩
 ·split at h
  ·obtain ⟨_, t3, h3, h⟩ := bsz h
   obtain ⟨s3, e3, x3⟩ := takeM_at h3 s2; simp only [Except.ok.injEq, Prod.mk.injEq] at h; obtain ⟨rfl, rfl⟩ := h; rw [leaf_sz, leaf_depth]; exact ⟨s3, by omega, by omega⟩
  ·split at h
   all_goals
    obtain ⟨_, t3, h3, h⟩ := bsz h; obtain ⟨s3, e3⟩ := numM_at h3 s2; simp only [Except.ok.injEq, Prod.mk.injEq] at h; obtain ⟨rfl, rfl⟩ := h; rw [leaf_sz, leaf_depth]; exact ⟨s3, by simp only [List.length_nil]; omega, by omega⟩
theorem short_tail {ts : List Tok} (h : ShortL ts) : ShortL ts.tail := fun u hu => h u (List.mem_of_mem_tail hu)
theorem sees_len {p : Tok → Bool} {ts : List Tok} (h : seZ p ts = true) : ts.tail.length + 1 = ts.length := by
 obtain ⟨t, r, rfl, _⟩ := seesB_cons h
 rfl
theorem parts_sized {part : List Tok → Option (Res Rul)} (sep : Txt) (h : Sized part) : ∀ (n : Nat) (ts : List Tok) (L : List Rul) (ts' : List Tok), partsP part sep n ts = some (.ok (L, ts')) → ShortL ts → ShortL ts' ∧ L ≠ [] ∧
  szL L + 20000 * ts'.length ≤ 20000 * ts.length ∧ depthL L + ts'.length ≤ ts.length ∧ ts'.length + 1 ≤ ts.length ∧
  (2 ≤ L.length → szL L + 20000 + 20000 * ts'.length ≤ 20000 * ts.length ∧ depthL L + ts'.length + 1 ≤ ts.length)
 | 0, _, _, _, hp, _ => by simp [partsP] at hp
 | n + 1, ts, L, ts', hp, hs => by
  rw [partsP] at hp
  split at hp
  ·cases hp
  ·cases hp
  ·rename_i r t1 h1
   obtain ⟨s1, z1, d1⟩ := h _ _ _ h1 hs
   split at hp
   ·rename_i hsee
    have htl := sees_len hsee
    split at hp
    ·cases hp
    ·cases hp
    ·rename_i l t2 h2
     simp only [Option.some.injEq, Except.ok.injEq, Prod.mk.injEq] at hp; obtain ⟨rfl, rfl⟩ := hp; obtain ⟨s2, _, z2, d2, e2, _⟩ := parts_sized sep h n _ _ _ h2 (short_tail s1); rw [szL, depthL]; exact ⟨s2, by simp, by omega, by omega, by omega, fun _ => ⟨by omega, by omega⟩⟩
   ·simp only [Option.some.injEq, Except.ok.injEq, Prod.mk.injEq] at hp
    obtain ⟨rfl, rfl⟩ := hp; rw [szL, depthL, szL, depthL]; exact ⟨s1, by simp, by omega, by omega, by omega, fun h => by simp at h⟩
theorem row_sized {part : List Tok → Option (Res Rul)} {sep : Txt} {k : Int} (n : Nat) (h : Sized part) : Sized (rowP part sep k n) := by
 intro ts r ts' hr hs
 unfold rowP at hr
 split at hr
 ·cases hr
 ·cases hr
 ·rename_i L t1 h1
  simp only [Option.some.injEq, Except.ok.injEq, Prod.mk.injEq] at hr; obtain ⟨rfl, rfl⟩ := hr; obtain ⟨s1, hne, z1, d1, e1, h2⟩ := parts_sized sep h n _ _ _ h1 hs
  match L, hne, z1, d1, h2 with
  | [], hne, _, _, _ => exact absurd rfl hne
  | [r], _, z1, d1, _ =>
   rw [szL, szL] at z1; rw [depthL, depthL] at d1; rw [joinK]; exact ⟨s1, by omega, by omega⟩
  | r1 :: r2 :: L, _, _, _, h2 =>
   obtain ⟨z2, d2⟩ := h2 (by simp); rw [joinK]
   ·rw [szR, depthR]
    exact ⟨s1, by simp only [List.length_nil]; omega, by omega⟩
   ·intro r h; simp at h
theorem one_sized (e : Nat) : ∀ n, Sized (oneP e n)
 | 0 => fun ts r ts' h _ => by simp [oneP] at h
 | n + 1 => fun ts r ts' h hs => by
  have ih := one_sized e n; rw [oneP] at h; have htl := short_tail hs
  split at h
  ·rename_i hc
   rw [Bool.and_eq_true] at hc; have hl := sees_len hc.1
   split at h
   ·cases h
   ·cases h
   ·rename_i r1 t1 h1
    simp only [Option.some.injEq, Except.ok.injEq, Prod.mk.injEq] at h; obtain ⟨rfl, rfl⟩ := h; obtain ⟨s1, z1, d1⟩ := ih _ _ _ h1 htl; rw [szR, depthR, szL, depthL, szL, depthL]; exact ⟨s1, by simp only [List.length_nil]; omega, by omega⟩
  ·split at h
   ·rename_i hc
    have hl := sees_len hc
    split at h
    ·cases h
    ·cases h
    ·rename_i r1 t1 h1
     simp only [Option.some.injEq] at h; obtain ⟨_, t2, h2, h⟩ := bsz h; simp only [Except.ok.injEq, Prod.mk.injEq] at h; obtain ⟨rfl, rfl⟩ := h; obtain ⟨s1, z1, d1⟩ := (row_sized n (row_sized n ih)) _ _ _ h1 htl; obtain ⟨s2, e2, _⟩ := takeM_at h2 s1; exact ⟨s2, by omega, by omega⟩
   ·simp only [Option.some.injEq] at h
    exact atomM_sized h hs
theorem rule_sized (e n : Nat) : Sized (ruleP e n) := row_sized n (row_sized n (one_sized e n))
theorem rone_all (A : Option Addr) (c e : Nat) (l : List Tok) (hg : GoodL l) (hok : Hid (TokOk l)) (hlen : l.length ≤ 4096) : ∀ n, n ≤ 100000 → RReads 148 A c e l (oneP e n) ∧ RReads 71 A c e l (ruleOf (oneP e n) n)
 | 0, _ => by
  refine ⟨fun W i y hi hy _ => ?_, fun W i y hi hy _ => ?_⟩
  ·simp [oneP] at hy
  ·simp [ruleOf, rowP, partsP] at hy
 | n + 1, hn => by
  obtain ⟨h1, h2⟩ := rone_all A c e l hg hok hlen n (by omega); have h3 := ratom_any A c e l hg hok hlen n h2 h1; exact ⟨h3, rrow71 A c e l hg hlen _ (row_suf _ (one_suf e (n + 1))) (rrow122 A c e l hg hlen _ (one_suf e (n + 1)) h3 (n + 1) hn) (n + 1) hn⟩
theorem rrule_any (A : Option Addr) (c e : Nat) (l : List Tok) (hg : GoodL l) (hok : Hid (TokOk l)) (hlen : l.length ≤ 4096) (n : Nat) (hn : n ≤ 100000) : RReads 71 A c e l (ruleP e n) := (rone_all A c e l hg hok hlen n hn).2
theorem short_of {l : List Tok} (hok : TokOk l) (i : Nat) : ShortL (l.drop i) := fun t ht => by
 obtain ⟨k, hk⟩ := List.mem_iff_getElem?.1 (List.mem_of_mem_drop ht)
 exact (hok k t hk).1
theorem rwhole_any (A : Option Addr) (c e : Nat) (l : List Tok) (hg : GoodL l) (hok : Hid (TokOk l)) (hlen : l.length ≤ 4096) (n : Nat) (hn : n ≤ 100000) : RReads 35 A c e l (wholeP e n) := by
 intro W i y hi hy htk
 have hrule := rrule_any A c e l hg hok hlen n hn
 obtain ⟨m, hm⟩ := nmZ (l.length)
 have hm4 : m ≤ 4096 := by rw [← hm.out]; exact hlen
 have hb0 : Hid (Bz W (W.alloc (.cells (z2z 0 0 0 none 0 0 0 0 0) 65))) := (Below.refl _ W).alloc leZ _
 have hQ0 := hdZ (Blk.new W 65 (z2z 0 0 0 none 0 0 0 0 0))
 have hs0 : Hid ((W.alloc (.cells (z2z 0 0 0 none 0 0 0 0 0) 65)).heap.size = W.heap.size + 1) := by unfold Hid; simp
 obtain ⟨z, hz⟩ : ∃ z, ruleP e n (l.drop i) = some z := by
  unfold wholeP at hy
  cases h : ruleP e n (l.drop i) with
  | none => rw [h] at hy; cases hy
  | some z => exact ⟨z, rfl⟩
 have hcall := hdZ (hrule (W.alloc (.cells (z2z 0 0 0 none 0 0 0 0 0) 65)) i z hi hz (htk.out.below hb0.out))
 have hz' := hdZ hz
 have hy' := hdZ hy
 rw [hm.out] at hcall ⊢
 clear hz hy hrule
 go_enter Tryz.func35, Tryz.ntmps35
 go_wp2_with fail
 refine hcall.out.mono ?_
 rintro x w1 ⟨hb1, hgot⟩
 obtain ⟨⟨tk, tp, tf, tx, tn, tA, tc, tL⟩, nx, ee, at_, rfl, hT1, hM1⟩ := got_any hgot
 have hM1' := hdZ hM1
 have hT1' : Hid (TAz w1 (fun b => W.heap.size + 1 ≤ b) (.mk tk tp tf tx tn tA tc tL)) := hT1.mono fun b _ hb => by have := hs0.out; omega
 have hB1 : Hid (Bz W w1) := hb0.out.trans (hb1.mono hb0.out.size)
 have hQ1 := hdZ (hQ0.out.below hb1 hQ0.out.lt)
 have hsz : W.heap.size + 1 ≤ w1.heap.size := by have := hb1.size; have := hs0.out; omega
 have ne1 : w1.heap.size ≠ W.heap.size := by omega
 have ne2 : W.heap.size ≠ w1.heap.size := by omega
 clear hgot hM1 hT1 hb1 hcall hb0 hQ0 hs0
 unfold gotG
 have hbl : Bz w1 (w1.alloc (.cells (z5z tk tp tf tx tn tA tL.length tc nx ee at_) 65)) := (Below.refl _ w1).alloc leZ _
 have hN := hdZ (Blk.new w1 65 (z5z tk tp tf tx tn tA tL.length tc nx ee at_))
 have hRb := hdZ (hQ1.out.below hbl hQ1.out.lt)
 have hBb := hdZ (hB1.out.trans (hbl.mono hB1.out.size))
 have hTb : Hid (TAz (w1.alloc (.cells (z5z tk tp tf tx tn tA tL.length tc nx ee at_) 65)) (fun b => W.heap.size + 1 ≤ b ∧ b ≠ w1.heap.size) (.mk tk tp tf tx tn tA tc tL)) := (hT1'.out.mono fun b hlt hb => ⟨hb, by omega⟩).below hbl
 obtain ⟨wb, hwb⟩ := nmZ (w1.alloc (.cells (z5z tk tp tf tx tn tA tL.length tc nx ee at_) 65))
 go_upto_region 2 with fail
 rw [hwb.out] at hN hRb hBb hTb ⊢
 obtain ⟨G, hG⟩ := nmZ (w1.heap.size)
 rw [hG.out] at hN hTb ne1 ne2 hsz ⊢
 clear hbl hwb hB1 hQ1 hT1' hG
 rcases z with ⟨pl, cd⟩ | ⟨r, ts⟩
 ·obtain ⟨het, rfl, rfl, rfl, hcd⟩ := hM1'.out
  simp only [Tree.mk.injEq] at het; obtain ⟨rfl, rfl, rfl, rfl, rfl, rfl, rfl, rfl⟩ := het
  have hye : Hid (y = .error (at_, ee)) := by
   have h := hy'.out; unfold wholeP at h; rw [hz'.out] at h; exact (Option.some.inj h).symm
  have b1 : (ee == 0) = false := by simp [hcd]
  have hcd' := hdZ hcd; clear hcd; obtain ⟨nc0, nc1, nc2, nc3, nc4, nc5, nc6, nc7, nc8⟩ := cs9 hN.out; have nlt := hN.out.lt; obtain ⟨rc0, rc1, rc2, rc3, rc4, rc5, rc6, rc7, rc8, rf0, rf1, rf2, rf3, rf4, rf5, rf6, rf7, rf8⟩ := cf9 hRb.out; have rlt := hRb.out.lt; go_wp2_with fail; refine bodyPost_ret (rrz rfl _ _ W.heap.size 65 _ _ rfl (st9z (hRb.out)) Tryz.underlying65 rfl (by kernel_rfl)) rfl ?_; rw [hye.out]; exact ⟨(sc9z (hBb.out)), hcd'.out, rfl⟩
 ·obtain ⟨hnx, rfl, rfl, hst⟩ := hM1'.out
  have hnx' := hdZ hnx; have hst' := hdZ hst; obtain ⟨_, hsz1, hdp1⟩ := rule_sized e n _ _ _ hz'.out (short_of hok.out i); have hlz : (l.drop i).length ≤ 4096 := by rw [List.length_drop]; have := hm.out; omega
  have hmz : Hid (szR (stz (.mk tk tp tf tx tn tA tc tL)) ≤ mostZ) := by unfold Hid mostZ; rw [hst]; omega
  have hdz : Hid (depthR (stz (.mk tk tp tf tx tn tA tc tL)) ≤ 1000000) := by unfold Hid; rw [hst]; omega
  have hmay : Hid (mayR r = !crowdR r) := rule_may hz'.out (fun t ht => hg t (List.mem_of_mem_drop ht))
  have hyw : Hid (y = if 16 < depthR r ∨ crowdR r = true then .error (placeM e (l.drop i), 7) else .ok (r, ts)) := by
   have h := hy'.out; unfold wholeP at h; rw [hz'.out] at h; simp only at h; unfold Hid
   split at h
   ·rename_i hc; rw [if_pos hc]; exact (Option.some.inj h).symm
   ·rename_i hc; rw [if_neg hc]; exact (Option.some.inj h).symm
  have hr1 := hdZ (right_any (.mk tk tp tf tx tn tA tc tL) wb _ (by have := hRb.out.lt; omega) hTb hmz); clear hM1' hnx hst hsz1 hdp1 hlz hz' hy' hg; rw [hst'.out] at hr1 hmz hdz; unfold Tree.cells at hr1; obtain ⟨bm, hbm⟩ := nmZ (mayR r); rw [hbm.out] at hr1 hmay; obtain ⟨nc0, nc1, nc2, nc3, nc4, nc5, nc6, nc7, nc8⟩ := cs9 hN.out; have nlt := hN.out.lt; go_wp2_with fail; refine hr1.out.mono ?_; rintro x w2 ⟨rfl, hb2⟩; have hB2 := hdZ (hBb.out.trans (hb2.mono hBb.out.size)); have hR2 := hdZ (hRb.out.below hb2 hRb.out.lt); have hN2 := hdZ (hN.out.below hb2 hN.out.lt); have hT2 := hdZ (hTb.out.below hb2); clear hb2 hBb hRb hN hTb hr1 nc0 nc1 nc2 nc3 nc4 nc5 nc6 nc7 nc8 nlt
  cases bm with
  | false =>
   have hcr : crowdR r = true := by have := hmay.out; simpa using this
   have hye : Hid (y = .error (placeM e (l.drop i), 7)) := by unfold Hid; rw [hyw.out, if_pos (.inr hcr)]
   have htp := hdZ (htk.out.below hB2.out); go_wp2_with fail; refine (rplace_any A m c l w2 e i hm htp).mono ?_; rintro x w9 ⟨rfl, rfl⟩; obtain ⟨rc0, rc1, rc2, rc3, rc4, rc5, rc6, rc7, rc8, rf0, rf1, rf2, rf3, rf4, rf5, rf6, rf7, rf8⟩ := cf9 hR2.out; have rlt := hR2.out.lt; obtain ⟨pl, hpl⟩ := nmZ (plz e l i); rw [hpl.out]; go_wp2_with fail; refine bodyPost_ret (rrz rfl _ _ W.heap.size 65 _ _ rfl (st9z (hR2.out)) Tryz.underlying65 rfl (by kernel_rfl)) rfl ?_; rw [hye.out]; refine ⟨(sc9z (hB2.out)), by decide, ?_⟩; rw [place_i, hpl.out]
   rfl
  | true =>
   have hcr : crowdR r = false := by have := hmay.out; simpa using this
   have hd1 := hdZ (depth_any (.mk tk tp tf tx tn tA tc tL) w2 _ hT2 (by rw [hst'.out]; exact hdz.out)); rw [hst'.out] at hd1; unfold Tree.cells at hd1; obtain ⟨dd, hdd⟩ := nmZ (depthR r); rw [hdd.out] at hd1 hyw hdz; obtain ⟨nc0, nc1, nc2, nc3, nc4, nc5, nc6, nc7, nc8⟩ := cs9 hN2.out; have nlt := hN2.out.lt; go_wp2_with fail; refine hd1.out.mono ?_; rintro x w3 ⟨rfl, hb3⟩; have hB3 := hdZ (hB2.out.trans (hb3.mono hB2.out.size)); have hR3 := hdZ (hR2.out.below hb3 hR2.out.lt); have hN3 := hdZ (hN2.out.below hb3 hN2.out.lt); have hT3 := hdZ (hT2.out.below hb3); clear hb3 hB2 hR2 hN2 hT2 hd1 nc0 nc1 nc2 nc3 nc4 nc5 nc6 nc7 nc8 nlt
   by_cases h16 : 16 < dd
   ·have b1 : decide ((16 : Int) < (dd : Int)) = true := by simp; omega
    have hye : Hid (y = .error (placeM e (l.drop i), 7)) := by unfold Hid; rw [hyw.out, if_pos (.inl h16)]
    have htp := hdZ (htk.out.below hB3.out); go_wp2_with fail; refine (rplace_any A m c l w3 e i hm htp).mono ?_; rintro x w9 ⟨rfl, rfl⟩; obtain ⟨rc0, rc1, rc2, rc3, rc4, rc5, rc6, rc7, rc8, rf0, rf1, rf2, rf3, rf4, rf5, rf6, rf7, rf8⟩ := cf9 hR3.out; have rlt := hR3.out.lt; obtain ⟨pl, hpl⟩ := nmZ (plz e l i); rw [hpl.out]; go_wp2_with fail; refine bodyPost_ret (rrz rfl _ _ W.heap.size 65 _ _ rfl (st9z (hR3.out)) Tryz.underlying65 rfl (by kernel_rfl)) rfl ?_; rw [hye.out]; refine ⟨(sc9z (hB3.out)), by decide, ?_⟩; rw [place_i, hpl.out]
    rfl
   ·have b1 : decide ((16 : Int) < (dd : Int)) = false := by simp; omega
    have hye : Hid (y = .ok (r, ts)) := by unfold Hid; rw [hyw.out, if_neg (by rw [hcr]; simp; omega)]
    obtain ⟨rc0, rc1, rc2, rc3, rc4, rc5, rc6, rc7, rc8, rf0, rf1, rf2, rf3, rf4, rf5, rf6, rf7, rf8⟩ := cf9 hR3.out; have rlt := hR3.out.lt; obtain ⟨nc0, nc1, nc2, nc3, nc4, nc5, nc6, nc7, nc8⟩ := cs9 hN3.out; have nlt := hN3.out.lt; go_wp2_with fail; refine bodyPost_ret (rrz rfl _ _ W.heap.size 65 _ _ rfl (st9z (hR3.out)) Tryz.underlying65 rfl (by kernel_rfl)) rfl ?_; rw [hye.out]; have hTf : TAz w3 (fun b => W.heap.size + 1 ≤ b) (.mk tk tp tf tx tn tA tc tL) := hT3.out.mono fun b _ hk => hk.1
    have hh : ∀ b, W.heap.size + 1 ≤ b → b ≠ W.heap.size := fun b hb => by omega
    exact ⟨(sc9z (hB3.out)), got_back (t := .mk tk tp tf tx tn tA tc tL) (nx := nx) rfl hnx'.out ((((((((((hTf.far hh 0 _).far hh 1 _).far hh 2 _).far hh 3 _).far hh 4 _).far hh 5 _).far hh 6 _).far hh 7 _).far hh 8 _).mono fun b _ hk => by omega) hst'.out⟩
end Go.Proofs.YtjkmhlfjheiekaaGreatDoor

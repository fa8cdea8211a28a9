import Derived.Test.YtjkmhlfjheiekaaGreatDoorPe
import Derived.Test.YtjkmhlfjheiekaaGreatDoorVm
set_option maxRecDepth 1000000
set_option maxHeartbeats 51200000
namespace Go.Proofs.YtjkmhlfjheiekaaGreatDoor
open Go Go.RowKit Go.BigFrame Go.Maps
abbrev rdA (A : Option Addr) (n c e : Nat) (st : St) : Array Value := (z0z A n c st.k e st.cd st.pl)
theorem rdz (A : Option Addr) (n c : Nat) (a b d f : Int) : ((z0z A n c a b d f) : Array Value).all (·.oneCell') = true := by rw [← Array.all_toList]; rfl
theorem rr1z {P : Program} {fn : Func} {p u : Tmp} {ty : TypeId} (h : fn.results = #[.cell p ty, .tmp u]) (tmps : Array Value) (w : World) (g : Nat) (t : TypeId) (cs : Array Value) (d : TypeDesc)
  (hp : tmps.getD p undef = .pointer (some (Az g 0))) (hg : Blk w g t cs)
  (hu : P.underlying ty = some d) (hd : (match d with | .struct _ | .array _ _ => true | _ => false) = true) (hi : (P.info? ty).map (·.size) = some cs.size) :
  (results fn tmps).run P w = .ok (.tuple #[.agg cs, tmps.getD u undef]) w := by
 have hp' : tmps[p]?.getD undef = .pointer (some (Az g 0)) := by simpa using hp
 simp [results, h, hp', asAddr, run_loadVar_row w g t ty cs (0, 0) d hg hu hd hi]
theorem take_at {e : Nat} {l : List Tok} {p : Tok → Bool} {k pl : Nat} {b : Bool} (h : atI p l k = b) : (tkz e l p ⟨k, pl, 0⟩).2 = if b = true then ⟨k + 1, pl, 0⟩ else ⟨k, plz e l k, 2⟩ := by
 subst h
 unfold tkz askS atI
 simp only [Nat.add_zero]
 cases l[k]? with
 | none => rfl
 | some t => cases hp : p t <;> simp [hp] <;> rfl
theorem stop_any (A : Option Addr) (n c : Nat) (l : List Tok) (w : World) (e : Nat) (hn : Hid (l.length = n)) (st : St) (i : Nat) (cd : Int) (hA : Hid (TokAt w 0 A l)) :
  Cz 50 #[.agg (rdA A n c e st), Iz i, Iz cd] w fun x w' => x = .returned (.agg (rdA A n c e (failS st (plz e l i) cd))) ∧ Bz w w' := by
 obtain ⟨k, pl, cd0⟩ := st
 have hA0 := hA
 by_cases hz : cd0 = 0
 ·subst hz
  obtain ⟨pv, hpv⟩ := nmZ (plz e l i); have hr : Hid (failS ⟨k, pl, 0⟩ (plz e l i) cd = ⟨k, pv, cd⟩) := by unfold Hid failS; rw [if_pos rfl, hpv.out]
  have hR : Hid (Blk ((w.alloc (.cells (z0z A n c k e 0 pl) 83)).alloc (.cells (z0z none 0 0 0 0 0 0) 83)) w.heap.size 83 (z0z A n c k e 0 pl)) := (Blk.new w 83 (z0z A n c k e 0 pl)).alloc _
  have hP : Hid (Blk ((w.alloc (.cells (z0z A n c k e 0 pl) 83)).alloc (.cells (z0z none 0 0 0 0 0 0) 83)) (w.heap.size + 1) 83 (z0z none 0 0 0 0 0 0)) := by
   have h := Blk.new (w.alloc (.cells (z0z A n c k e 0 pl) 83)) 83 (z0z none 0 0 0 0 0 0); have hs : (w.alloc (.cells (z0z A n c k e 0 pl) 83)).heap.size = w.heap.size + 1 := by simp
   rw [hs] at h; exact h
  have hB : Hid (Bz w ((w.alloc (.cells (z0z A n c k e 0 pl) 83)).alloc (.cells (z0z none 0 0 0 0 0 0) 83))) := ((Below.refl _ w).alloc leZ _).alloc (by simp) _; have ne1 : w.heap.size ≠ w.heap.size + 1 := by omega
  have ne2 : w.heap.size + 1 ≠ w.heap.size := by omega
  go_enter Tryz.func50, Tryz.ntmps50
  go_upto_region 1 with fail
  obtain ⟨wa, hwa⟩ := nmZ (((w.alloc (.cells (z0z A n c k e 0 pl) 83)).alloc (.cells (z0z none 0 0 0 0 0 0) 83))); rw [hwa.out] at hR hP hB ⊢; clear hwa; have hA := hdZ (hA.out.below hB.out); obtain ⟨r0, r1, r2, r3, r4, f0, f1, f2, f3, f4⟩ := cf5 hR.out; have rl := hR.out.lt
  go_upto_region 3 with fail
  clear r0 r1 r2 r3 r4 f0 f1 f2 f3 f4 rl; have hR : Hid (Blk (wa.setCell (Az w.heap.size 3) (Iz cd)) w.heap.size 83 (z0z A n c k e cd pl)) := (hR.out.set_ 3 (Iz cd)); have hP : Hid (Blk (wa.setCell (Az w.heap.size 3) (Iz cd)) (w.heap.size + 1) 83 (z0z none 0 0 0 0 0 0)) := (hP.out.far (p := (Az w.heap.size 3)) ne2 _); have hB : Hid (Bz w (wa.setCell (Az w.heap.size 3) (Iz cd))) := (hB.out.setCell leZ _); obtain ⟨w1, hw⟩ := nmZ ((wa.setCell (Az w.heap.size 3) (Iz cd))); rw [hw.out] at hR hP hB ⊢; clear hw hA; have hA := hdZ (hA0.out.below hB.out); obtain ⟨r0, r1, r2, r3, r4, f0, f1, f2, f3, f4⟩ := cf5 hR.out; have rl := hR.out.lt
  go_upto_region 4 with (go_at_call 72; refine (rplace_any A n c l w1 e i hn hA).mono ?_; rintro x wx ⟨rfl, rfl⟩; rw [hpv.out])
  clear r0 r1 r2 r3 r4 f0 f1 f2 f3 f4 rl; have hR : Hid (Blk (w1.setCell (Az w.heap.size 4) (Iz pv)) w.heap.size 83 (z0z A n c k e cd pv)) := (hR.out.set_ 4 (Iz pv)); have hP : Hid (Blk (w1.setCell (Az w.heap.size 4) (Iz pv)) (w.heap.size + 1) 83 (z0z none 0 0 0 0 0 0)) := (hP.out.far (p := (Az w.heap.size 4)) ne2 _); have hB : Hid (Bz w (w1.setCell (Az w.heap.size 4) (Iz pv))) := (hB.out.setCell leZ _); obtain ⟨w2, hw⟩ := nmZ ((w1.setCell (Az w.heap.size 4) (Iz pv))); rw [hw.out] at hR hP hB ⊢; clear hw hA; have hA := hdZ (hA0.out.below hB.out)
  go_wp2_with (first | (refine gbz rfl 83 _ rfl w.heap.size (z0z A n c k e cd pv) 83 _ rfl hR.out Tryz.underlying83 rfl (by kernel_rfl) ?_) | (refine pbz rfl 83 _ _ rfl (w.heap.size + 1) (z0z none 0 0 0 0 0 0) (z0z A n c k e cd pv) 83 rfl rfl hP.out rfl (by kernel_rfl) (rdz _ _ _ _ _ _ _) ?_; intro w9 hP9 hu9))
  refine bodyPost_ret (rrz rfl _ _ (w.heap.size + 1) 83 _ _ rfl hP9 Tryz.underlying83 rfl (by kernel_rfl)) rfl ?_; rw [hr.out]; exact ⟨rfl, hu9.to_below hB.out (by omega) hB.out.size⟩
 ·have b1 : (cd0 == 0) = false := by simp [hz]
  have hr : Hid (failS ⟨k, pl, cd0⟩ (plz e l i) cd = ⟨k, pl, cd0⟩) := by unfold Hid failS; rw [if_neg hz]
  clear hz; have hR : Hid (Blk ((w.alloc (.cells (z0z A n c k e cd0 pl) 83)).alloc (.cells (z0z none 0 0 0 0 0 0) 83)) w.heap.size 83 (z0z A n c k e cd0 pl)) := (Blk.new w 83 (z0z A n c k e cd0 pl)).alloc _
  have hP : Hid (Blk ((w.alloc (.cells (z0z A n c k e cd0 pl) 83)).alloc (.cells (z0z none 0 0 0 0 0 0) 83)) (w.heap.size + 1) 83 (z0z none 0 0 0 0 0 0)) := by
   have h := Blk.new (w.alloc (.cells (z0z A n c k e cd0 pl) 83)) 83 (z0z none 0 0 0 0 0 0); have hs : (w.alloc (.cells (z0z A n c k e cd0 pl) 83)).heap.size = w.heap.size + 1 := by simp
   rw [hs] at h; exact h
  have hB : Hid (Bz w ((w.alloc (.cells (z0z A n c k e cd0 pl) 83)).alloc (.cells (z0z none 0 0 0 0 0 0) 83))) := ((Below.refl _ w).alloc leZ _).alloc (by simp) _; have ne1 : w.heap.size ≠ w.heap.size + 1 := by omega
  have ne2 : w.heap.size + 1 ≠ w.heap.size := by omega
  go_enter Tryz.func50, Tryz.ntmps50
  go_upto_region 1 with fail
  obtain ⟨wa, hwa⟩ := nmZ (((w.alloc (.cells (z0z A n c k e cd0 pl) 83)).alloc (.cells (z0z none 0 0 0 0 0 0) 83))); rw [hwa.out] at hR hP hB ⊢; clear hwa; have hA := hdZ (hA.out.below hB.out); obtain ⟨r0, r1, r2, r3, r4, f0, f1, f2, f3, f4⟩ := cf5 hR.out; have rl := hR.out.lt
  go_wp2_with (first | (refine gbz rfl 83 _ rfl w.heap.size (z0z A n c k e cd0 pl) 83 _ rfl hR.out Tryz.underlying83 rfl (by kernel_rfl) ?_) | (refine pbz rfl 83 _ _ rfl (w.heap.size + 1) (z0z none 0 0 0 0 0 0) (z0z A n c k e cd0 pl) 83 rfl rfl hP.out rfl (by kernel_rfl) (rdz _ _ _ _ _ _ _) ?_; intro w9 hP9 hu9))
  refine bodyPost_ret (rrz rfl _ _ (w.heap.size + 1) 83 _ _ rfl hP9 Tryz.underlying83 rfl (by kernel_rfl)) rfl ?_; rw [hr.out]; exact ⟨rfl, hu9.to_below hB.out (by omega) hB.out.size⟩
theorem rwd_any (A : Option Addr) (n c : Nat) (l : List Tok) (w : World) (e : Nat) (hn : Hid (l.length = n)) (hm : n ≤ 4096) (x : Txt) (st : St) (hA : Hid (TokAt w 0 A l)) :
  Cz 49 #[.agg (rdA A n c e st), .string (mkT x)] w fun x' w' => x' = .returned (.agg (rdA A n c e (tkz e l (isT x) st).2)) ∧ Bz w w' := by
 obtain ⟨k, pl, cd⟩ := st
 have hA0 := hA
 by_cases hz : cd = 0
 ·subst hz
  obtain ⟨b, hb⟩ := nmZ (atI (isT x) l k); have hr := hdZ (take_at (e := e) (pl := pl) hb.out)
  cases b with
  | true =>
   rw [if_pos rfl] at hr
   have hkl : k < n := by
    rcases Nat.lt_or_ge k n with h | h
    ·exact h
    ·exact absurd hb.out (by rw [atI_none (by rw [hn.out]; exact h)]; simp)
   have w1' : IntKind.i64.wrap ((k : Int) + 1) = (k : Int) + 1 := IntWalk.i64_in _ (by omega); have hR : Hid (Blk ((w.alloc (.cells (z0z A n c k e 0 pl) 83)).alloc (.cells (z0z none 0 0 0 0 0 0) 83)) w.heap.size 83 (z0z A n c k e 0 pl)) := (Blk.new w 83 (z0z A n c k e 0 pl)).alloc _
   have hP : Hid (Blk ((w.alloc (.cells (z0z A n c k e 0 pl) 83)).alloc (.cells (z0z none 0 0 0 0 0 0) 83)) (w.heap.size + 1) 83 (z0z none 0 0 0 0 0 0)) := by
    have h := Blk.new (w.alloc (.cells (z0z A n c k e 0 pl) 83)) 83 (z0z none 0 0 0 0 0 0); have hs : (w.alloc (.cells (z0z A n c k e 0 pl) 83)).heap.size = w.heap.size + 1 := by simp
    rw [hs] at h; exact h
   have hB : Hid (Bz w ((w.alloc (.cells (z0z A n c k e 0 pl) 83)).alloc (.cells (z0z none 0 0 0 0 0 0) 83))) := ((Below.refl _ w).alloc leZ _).alloc (by simp) _; have ne1 : w.heap.size ≠ w.heap.size + 1 := by omega
   have ne2 : w.heap.size + 1 ≠ w.heap.size := by omega
   go_enter Tryz.func49, Tryz.ntmps49
   go_upto_region 1 with fail
   obtain ⟨wa, hwa⟩ := nmZ (((w.alloc (.cells (z0z A n c k e 0 pl) 83)).alloc (.cells (z0z none 0 0 0 0 0 0) 83))); rw [hwa.out] at hR hP hB ⊢; clear hwa; have hA := hdZ (hA.out.below hB.out); obtain ⟨r0, r1, r2, r3, r4, f0, f1, f2, f3, f4⟩ := cf5 hR.out; have rl := hR.out.lt
   go_upto_region 6 with (go_at_call 48; refine (rsz A n c l wa k x hn hA).mono ?_; rintro x1 wx ⟨rfl, rfl⟩; rw [hb.out])
   clear r0 r1 r2 r3 r4 f0 f1 f2 f3 f4 rl; have hR : Hid (Blk (wa.setCell (Az w.heap.size 1) (Iz ((k : Int) + 1))) w.heap.size 83 (z0z A n c ((k : Int) + 1) e 0 pl)) := (hR.out.set_ 1 (Iz ((k : Int) + 1))); have hP : Hid (Blk (wa.setCell (Az w.heap.size 1) (Iz ((k : Int) + 1))) (w.heap.size + 1) 83 (z0z none 0 0 0 0 0 0)) := (hP.out.far (p := (Az w.heap.size 1)) ne2 _); have hB : Hid (Bz w (wa.setCell (Az w.heap.size 1) (Iz ((k : Int) + 1)))) := (hB.out.setCell leZ _); obtain ⟨w1, hw⟩ := nmZ ((wa.setCell (Az w.heap.size 1) (Iz ((k : Int) + 1)))); rw [hw.out] at hR hP hB ⊢; clear hw hA; have hA := hdZ (hA0.out.below hB.out)
   go_wp2_with (first | (refine gbz rfl 83 _ rfl w.heap.size (z0z A n c ((k : Int) + 1) e 0 pl) 83 _ rfl hR.out Tryz.underlying83 rfl (by kernel_rfl) ?_) | (refine pbz rfl 83 _ _ rfl (w.heap.size + 1) (z0z none 0 0 0 0 0 0) (z0z A n c ((k : Int) + 1) e 0 pl) 83 rfl rfl hP.out rfl (by kernel_rfl) (rdz _ _ _ _ _ _ _) ?_; intro w9 hP9 hu9))
   refine bodyPost_ret (rrz rfl _ _ (w.heap.size + 1) 83 _ _ rfl hP9 Tryz.underlying83 rfl (by kernel_rfl)) rfl ?_; rw [hr.out]; exact ⟨rfl, hu9.to_below hB.out (by omega) hB.out.size⟩
  | false =>
   rw [if_neg (by simp)] at hr; have hst := hdZ (show failS ⟨k, pl, 0⟩ (plz e l k) 2 = ⟨k, plz e l k, 2⟩ from rfl); have hR : Hid (Blk ((w.alloc (.cells (z0z A n c k e 0 pl) 83)).alloc (.cells (z0z none 0 0 0 0 0 0) 83)) w.heap.size 83 (z0z A n c k e 0 pl)) := (Blk.new w 83 (z0z A n c k e 0 pl)).alloc _
   have hP : Hid (Blk ((w.alloc (.cells (z0z A n c k e 0 pl) 83)).alloc (.cells (z0z none 0 0 0 0 0 0) 83)) (w.heap.size + 1) 83 (z0z none 0 0 0 0 0 0)) := by
    have h := Blk.new (w.alloc (.cells (z0z A n c k e 0 pl) 83)) 83 (z0z none 0 0 0 0 0 0); have hs : (w.alloc (.cells (z0z A n c k e 0 pl) 83)).heap.size = w.heap.size + 1 := by simp
    rw [hs] at h; exact h
   have hB : Hid (Bz w ((w.alloc (.cells (z0z A n c k e 0 pl) 83)).alloc (.cells (z0z none 0 0 0 0 0 0) 83))) := ((Below.refl _ w).alloc leZ _).alloc (by simp) _; have ne1 : w.heap.size ≠ w.heap.size + 1 := by omega
   have ne2 : w.heap.size + 1 ≠ w.heap.size := by omega
   go_enter Tryz.func49, Tryz.ntmps49
   go_upto_region 1 with fail
   obtain ⟨wa, hwa⟩ := nmZ (((w.alloc (.cells (z0z A n c k e 0 pl) 83)).alloc (.cells (z0z none 0 0 0 0 0 0) 83))); rw [hwa.out] at hR hP hB ⊢; clear hwa; have hA := hdZ (hA.out.below hB.out); obtain ⟨r0, r1, r2, r3, r4, f0, f1, f2, f3, f4⟩ := cf5 hR.out; have rl := hR.out.lt
   go_wp2_with (first | (go_at_call 48; refine (rsz A n c l wa k x hn hA).mono ?_; rintro x1 wx ⟨rfl, rfl⟩; rw [hb.out]) | (go_at_call 50; refine (stop_any A n c l wa e hn ⟨k, pl, 0⟩ k 2 hA).mono ?_; rintro x2 ws ⟨rfl, hbs⟩; rw [hst.out]; have hP := hdZ (hP.out.below hbs hP.out.lt); have hB := hdZ (hB.out.trans (hbs.mono hB.out.size))) | (refine gbz rfl 83 _ rfl w.heap.size (z0z A n c k e 0 pl) 83 _ rfl hR.out Tryz.underlying83 rfl (by kernel_rfl) ?_) | (refine pbz rfl 83 _ _ rfl (w.heap.size + 1) (z0z none 0 0 0 0 0 0) (z0z A n c k e 2 (plz e l k : Nat)) 83 rfl rfl hP.out rfl (by kernel_rfl) (rdz _ _ _ _ _ _ _) ?_; intro w9 hP9 hu9))
   refine bodyPost_ret (rrz rfl _ _ (w.heap.size + 1) 83 _ _ rfl hP9 Tryz.underlying83 rfl (by kernel_rfl)) rfl ?_; rw [hr.out]; exact ⟨rfl, hu9.to_below hB.out (by omega) hB.out.size⟩
 ·have b1 : (cd != 0) = true := by simp [hz]
  have hr : Hid ((tkz e l (isT x) ⟨k, pl, cd⟩).2 = ⟨k, pl, cd⟩) := by unfold Hid; rw [tbz hz]
  clear hz; have hR : Hid (Blk ((w.alloc (.cells (z0z A n c k e cd pl) 83)).alloc (.cells (z0z none 0 0 0 0 0 0) 83)) w.heap.size 83 (z0z A n c k e cd pl)) := (Blk.new w 83 (z0z A n c k e cd pl)).alloc _
  have hP : Hid (Blk ((w.alloc (.cells (z0z A n c k e cd pl) 83)).alloc (.cells (z0z none 0 0 0 0 0 0) 83)) (w.heap.size + 1) 83 (z0z none 0 0 0 0 0 0)) := by
   have h := Blk.new (w.alloc (.cells (z0z A n c k e cd pl) 83)) 83 (z0z none 0 0 0 0 0 0); have hs : (w.alloc (.cells (z0z A n c k e cd pl) 83)).heap.size = w.heap.size + 1 := by simp
   rw [hs] at h; exact h
  have hB : Hid (Bz w ((w.alloc (.cells (z0z A n c k e cd pl) 83)).alloc (.cells (z0z none 0 0 0 0 0 0) 83))) := ((Below.refl _ w).alloc leZ _).alloc (by simp) _; have ne1 : w.heap.size ≠ w.heap.size + 1 := by omega
  have ne2 : w.heap.size + 1 ≠ w.heap.size := by omega
  go_enter Tryz.func49, Tryz.ntmps49
  go_upto_region 1 with fail
  obtain ⟨wa, hwa⟩ := nmZ (((w.alloc (.cells (z0z A n c k e cd pl) 83)).alloc (.cells (z0z none 0 0 0 0 0 0) 83))); rw [hwa.out] at hR hP hB ⊢; clear hwa; have hA := hdZ (hA.out.below hB.out); obtain ⟨r0, r1, r2, r3, r4, f0, f1, f2, f3, f4⟩ := cf5 hR.out; have rl := hR.out.lt
  go_wp2_with (first | (refine gbz rfl 83 _ rfl w.heap.size (z0z A n c k e cd pl) 83 _ rfl hR.out Tryz.underlying83 rfl (by kernel_rfl) ?_) | (refine pbz rfl 83 _ _ rfl (w.heap.size + 1) (z0z none 0 0 0 0 0 0) (z0z A n c k e cd pl) 83 rfl rfl hP.out rfl (by kernel_rfl) (rdz _ _ _ _ _ _ _) ?_; intro w9 hP9 hu9))
  refine bodyPost_ret (rrz rfl _ _ (w.heap.size + 1) 83 _ _ rfl hP9 Tryz.underlying83 rfl (by kernel_rfl)) rfl ?_; rw [hr.out]; exact ⟨rfl, hu9.to_below hB.out (by omega) hB.out.size⟩
def lineD (e : Nat) (l : List Tok) (x : Txt) (st : St) : Txt × St := ((tkz e l nameT (tkz e l (isT x) st).2).1, (tkz e l (isT sSemi) (tkz e l nameT (tkz e l (isT x) st).2).2).2)
theorem two_ne : (2 : Int) ≠ 0 := by decide
theorem take_fail {e : Nat} {l : List Tok} {p : Tok → Bool} {k pl : Nat} : tkz e l p ⟨k, pl, 2⟩ = ([], ⟨k, pl, 2⟩) := tbz two_ne
theorem take_full {e : Nat} {l : List Tok} {p : Tok → Bool} {k pl : Nat} {b : Bool} (h : atI p l k = b) : tkz e l p ⟨k, pl, 0⟩ = if b = true then ((match l[k]? with | some t => t.text | none => []), ⟨k + 1, pl, 0⟩) else ([], ⟨k, plz e l k, 2⟩) := by
 subst h
 unfold tkz askS atI
 simp only [Nat.add_zero]
 cases hl : l[k]? with
 | none => rfl
 | some t => cases hp : p t <;> simp [hp, textS, hl] <;> rfl
theorem rnamed_any (A : Option Addr) (n c : Nat) (l : List Tok) (w : World) (e : Nat) (hn : Hid (l.length = n)) (hm : n ≤ 4096) (hok : Hid (TokOk l)) (x : Txt) (st : St) (hA : Hid (TokAt w 0 A l)) :
  Cz 47 #[.agg (rdA A n c e st), .string (mkT x)] w fun x' w' => x' = .returned (.tuple #[.agg (rdA A n c e (lineD e l x st).2), .string ⟨(lineD e l x st).1.toArray⟩]) ∧ Bz w w' := by
 have hA0 := hA
 obtain ⟨⟨k1, pl1, cd1⟩, h1⟩ := nmZ ((tkz e l (isT x) st).2)
 have hlD : Hid (lineD e l x st = ((tkz e l nameT ⟨k1, pl1, cd1⟩).1, (tkz e l (isT sSemi) (tkz e l nameT ⟨k1, pl1, cd1⟩).2).2)) := by unfold Hid lineD; rw [h1.out]
 obtain ⟨k, pl, cd⟩ := st
 have hR : Hid (Blk ((w.alloc (.cells (z0z A n c k e cd pl) 83)).alloc (.cells (z0z none 0 0 0 0 0 0) 83)) w.heap.size 83 (z0z A n c k e cd pl)) := (Blk.new w 83 (z0z A n c k e cd pl)).alloc _
 have hP : Hid (Blk ((w.alloc (.cells (z0z A n c k e cd pl) 83)).alloc (.cells (z0z none 0 0 0 0 0 0) 83)) (w.heap.size + 1) 83 (z0z none 0 0 0 0 0 0)) := by
  have h := Blk.new (w.alloc (.cells (z0z A n c k e cd pl) 83)) 83 (z0z none 0 0 0 0 0 0); have hs : (w.alloc (.cells (z0z A n c k e cd pl) 83)).heap.size = w.heap.size + 1 := by simp
  rw [hs] at h; exact h
 have hB : Hid (Bz w ((w.alloc (.cells (z0z A n c k e cd pl) 83)).alloc (.cells (z0z none 0 0 0 0 0 0) 83))) := ((Below.refl _ w).alloc leZ _).alloc (by simp) _
 have ne1 : w.heap.size ≠ w.heap.size + 1 := by omega
 have ne2 : w.heap.size + 1 ≠ w.heap.size := by omega
 go_enter Tryz.func47, Tryz.ntmps47
 go_upto_region 1 with fail
 obtain ⟨wa, hwa⟩ := nmZ (((w.alloc (.cells (z0z A n c k e cd pl) 83)).alloc (.cells (z0z none 0 0 0 0 0 0) 83)))
 rw [hwa.out] at hR hP hB ⊢
 clear hwa
 have hA := hdZ (hA.out.below hB.out)
 go_upto_region 2 with (first | (go_at_call 49; refine (rwd_any A n c l wa e hn hm x ⟨k, pl, cd⟩ hA).mono ?_; rintro x2 w1 ⟨rfl, hb1⟩; rw [h1.out]; have hP := hdZ (hP.out.below hb1 hP.out.lt); have hR := hdZ (hR.out.below hb1 hR.out.lt); have hB := hdZ (hB.out.trans (hb1.mono hB.out.size)); have hA := hdZ (hA.out.below hb1)) | (refine gbz rfl 83 _ rfl w.heap.size (z0z A n c k e cd pl) 83 _ rfl hR.out Tryz.underlying83 rfl (by kernel_rfl) ?_) | (refine pbz rfl 83 _ _ rfl w.heap.size (z0z A n c k e cd pl) (z0z A n c k1 e cd1 pl1) 83 rfl rfl hR.out rfl (by kernel_rfl) (rdz _ _ _ _ _ _ _) ?_; intro w2 hR9 hu8))
 have hR := hdZ hR9
 have hP := hdZ (hu8.blk hP.out ne2)
 have hB : Hid (Bz w w2) := hu8.to_below hB.out leZ hB.out.size
 clear hR9 hu8 hA
 have hA := hdZ (hA0.out.below hB.out)
 by_cases hz : cd1 = 0
 ·subst hz
  obtain ⟨b, hb⟩ := nmZ (atI nameT l k1); have htk := hdZ (take_full (e := e) (pl := pl1) hb.out); obtain ⟨r0, r1, r2, r3, r4, f0, f1, f2, f3, f4⟩ := cf5 hR.out; have rl := hR.out.lt
  cases b with
  | false =>
   rw [if_neg (by simp)] at htk; have hst := hdZ (show failS ⟨k1, pl1, 0⟩ (plz e l k1) 2 = ⟨k1, plz e l k1, 2⟩ from rfl); have hr : Hid (lineD e l x ⟨k, pl, cd⟩ = ([], ⟨k1, plz e l k1, 2⟩)) := by unfold Hid; rw [hlD.out, htk.out, take_fail]
   go_wp2_with (first | (go_at_call 96; refine (rnm_any A n c l w2 k1 hn hok hA).mono ?_; rintro x1 wx ⟨rfl, rfl⟩; rw [hb.out]) | (go_at_call 50; refine (stop_any A n c l w2 e hn ⟨k1, pl1, 0⟩ k1 2 hA).mono ?_; rintro x2 ws ⟨rfl, hbs⟩; rw [hst.out]; have hP := hdZ (hP.out.below hbs hP.out.lt); have hR := hdZ (hR.out.below hbs hR.out.lt); have hB := hdZ (hB.out.trans (hbs.mono hB.out.size)); have hA := hdZ (hA.out.below hbs)) | (refine gbz rfl 83 _ rfl w.heap.size (z0z A n c k1 e 0 pl1) 83 _ rfl hR.out Tryz.underlying83 rfl (by kernel_rfl) ?_) | (refine pbz rfl 83 _ _ rfl (w.heap.size + 1) (z0z none 0 0 0 0 0 0) (z0z A n c k1 e 2 (plz e l k1 : Nat)) 83 rfl rfl hP.out rfl (by kernel_rfl) (rdz _ _ _ _ _ _ _) ?_; intro w9 hP9 hu9))
   refine bodyPost_ret (rr1z rfl _ _ (w.heap.size + 1) 83 _ _ rfl hP9 Tryz.underlying83 rfl (by kernel_rfl)) rfl ?_; rw [hr.out]; exact ⟨rfl, hu9.to_below hB.out (by omega) hB.out.size⟩
  | true =>
   rw [if_pos rfl] at htk
   have hkl : k1 < n := by
    rcases Nat.lt_or_ge k1 n with h | h
    ·exact h
    ·exact absurd hb.out (by rw [atI_none (by rw [hn.out]; exact h)]; simp)
   obtain ⟨t, ht⟩ : ∃ t, l[k1]? = some t := ⟨_, List.getElem?_eq_getElem (by rw [hn.out]; exact hkl)⟩; rw [ht] at htk; simp only at htk; obtain ⟨⟨k3, pl3, cd3⟩, h3⟩ := nmZ ((tkz e l (isT sSemi) ⟨k1 + 1, pl1, 0⟩).2); have hr : Hid (lineD e l x ⟨k, pl, cd⟩ = (t.text, ⟨k3, pl3, cd3⟩)) := by unfold Hid; rw [hlD.out, htk.out]; simp only; rw [h3.out]
   obtain ⟨g, off, rfl, hg, g0, g1, g2⟩ := hA.out k1 t ht; have w1' : IntKind.i64.wrap ((k1 : Int) + 1) = (k1 : Int) + 1 := IntWalk.i64_in _ (by omega); have i1 : (k1 : Int) < (n : Int) := by omega
   have i2 : (0 : Int) ≤ (k1 : Int) := by omega
   clear ht
   go_upto_region 8 with (go_at_call 96; refine (rnm_any (some (Az g off)) n c l w2 k1 hn hok hA).mono ?_; rintro x1 wx ⟨rfl, rfl⟩; rw [hb.out])
   clear r0 r1 r2 r3 r4 f0 f1 f2 f3 f4 rl; clear g0 g1 g2; have hR : Hid (Blk (w2.setCell (Az w.heap.size 1) (Iz ((k1 : Int) + 1))) w.heap.size 83 (z0z (some (Az g off)) n c ((k1 : Int) + 1) e 0 pl1)) := (hR.out.set_ 1 (Iz ((k1 : Int) + 1))); have hP : Hid (Blk (w2.setCell (Az w.heap.size 1) (Iz ((k1 : Int) + 1))) (w.heap.size + 1) 83 (z0z none 0 0 0 0 0 0)) := (hP.out.far (p := (Az w.heap.size 1)) ne2 _); have hB : Hid (Bz w (w2.setCell (Az w.heap.size 1) (Iz ((k1 : Int) + 1)))) := (hB.out.setCell leZ _); obtain ⟨w1, hw⟩ := nmZ ((w2.setCell (Az w.heap.size 1) (Iz ((k1 : Int) + 1)))); rw [hw.out] at hR hP hB ⊢; clear hw hA; have hA := hdZ (hA0.out.below hB.out)
   go_wp2_with (first | (go_at_call 49; refine (rwd_any (some (Az g off)) n c l w1 e hn hm sSemi ⟨k1 + 1, pl1, 0⟩ hA).mono ?_; rintro x2 w5 ⟨rfl, hb3⟩; rw [h3.out]; have hP := hdZ (hP.out.below hb3 hP.out.lt); have hR := hdZ (hR.out.below hb3 hR.out.lt); have hB := hdZ (hB.out.trans (hb3.mono hB.out.size)); have hA := hdZ (hA.out.below hb3)) | (refine gbz rfl 83 _ rfl w.heap.size (z0z (some (Az g off)) n c ((k1 : Int) + 1) e 0 pl1) 83 _ rfl hR.out Tryz.underlying83 rfl (by kernel_rfl) ?_) | (refine pbz rfl 83 _ _ rfl (w.heap.size + 1) (z0z none 0 0 0 0 0 0) (z0z (some (Az g off)) n c k3 e cd3 pl3) 83 rfl rfl hP.out rfl (by kernel_rfl) (rdz _ _ _ _ _ _ _) ?_; intro w9 hP9 hu9))
   refine bodyPost_ret (rr1z rfl _ _ (w.heap.size + 1) 83 _ _ rfl hP9 Tryz.underlying83 rfl (by kernel_rfl)) rfl ?_; rw [hr.out]; exact ⟨rfl, hu9.to_below hB.out (by omega) hB.out.size⟩
 ·have b1 : (cd1 != 0) = true := by simp [hz]
  have hr : Hid (lineD e l x ⟨k, pl, cd⟩ = ([], ⟨k1, pl1, cd1⟩)) := by unfold Hid; rw [hlD.out, tbz (show (⟨k1, pl1, cd1⟩ : St).cd ≠ 0 from hz), tbz (show (⟨k1, pl1, cd1⟩ : St).cd ≠ 0 from hz)]
  clear hz; obtain ⟨r0, r1, r2, r3, r4, f0, f1, f2, f3, f4⟩ := cf5 hR.out; have rl := hR.out.lt
  go_wp2_with (first | (refine gbz rfl 83 _ rfl w.heap.size (z0z A n c k1 e cd1 pl1) 83 _ rfl hR.out Tryz.underlying83 rfl (by kernel_rfl) ?_) | (refine pbz rfl 83 _ _ rfl (w.heap.size + 1) (z0z none 0 0 0 0 0 0) (z0z A n c k1 e cd1 pl1) 83 rfl rfl hP.out rfl (by kernel_rfl) (rdz _ _ _ _ _ _ _) ?_; intro w9 hP9 hu9))
  refine bodyPost_ret (rr1z rfl _ _ (w.heap.size + 1) 83 _ _ rfl hP9 Tryz.underlying83 rfl (by kernel_rfl)) rfl ?_; rw [hr.out]; exact ⟨rfl, hu9.to_below hB.out (by omega) hB.out.size⟩
def numD (e : Nat) (l : List Tok) (lo hi : Int) (st : St) : Int × St :=
 if (tkz e l (kdB 2) st).2.cd = 0 then (if (numV (tkz e l (kdB 2) st).1 : Int) < lo ∨ hi < (numV (tkz e l (kdB 2) st).1 : Int) then (0, failS st (placeS e l st) 3) else ((numV (tkz e l (kdB 2) st).1 : Int), (tkz e l (kdB 2) st).2))
 else (0, (tkz e l (kdB 2) st).2)
def toldD (e : Nat) (l : List Tok) (x : Txt) (st : St) : Int × St := ((numD e l 0 1048576 (tkz e l (isT x) st).2).1, (tkz e l (isT sSemi) (numD e l 0 1048576 (tkz e l (isT x) st).2).2).2)
def withinD (e : Nat) (l : List Tok) (x : Txt) (st : St) : Int × St := ((numD e l 0 1048576 (tkz e l (isT x) st).2).1, (tkz e l (isT sSemi) (tkz e l (isT wDays) (numD e l 0 1048576 (tkz e l (isT x) st).2).2).2).2)
def eitherD (e : Nat) (l : List Tok) (x : Txt) (st : St) : Bool × St :=
 if (tkz e l (isT x) st).2.cd = 0 ∧ atI (isT wYes) l (tkz e l (isT x) st).2.k = true then (true, (tkz e l (isT sSemi) (tkz e l (isT x) st).2.step).2)
 else (false, (tkz e l (isT sSemi) (tkz e l (isT wNo) (tkz e l (isT x) st).2).2).2)
theorem ramount_any (A : Option Addr) (n c : Nat) (l : List Tok) (w : World) (e : Nat) (hn : Hid (l.length = n)) (hm : n ≤ 4096) (hok : Hid (TokOk l)) (lo hi : Int) (st : St) (hA : Hid (TokAt w 0 A l)) :
  Cz 51 #[.agg (rdA A n c e st), Iz lo, Iz hi] w fun x' w' => x' = .returned (.tuple #[.agg (rdA A n c e (numD e l lo hi st).2), Iz (numD e l lo hi st).1]) ∧ Bz w w' := by
 have hA0 := hA
 obtain ⟨k, pl, cd⟩ := st
 by_cases hz : cd = 0
 ·subst hz
  obtain ⟨b, hb⟩ := nmZ (atI (kdB 2) l k); have htk := hdZ (take_full (e := e) (pl := pl) hb.out)
  cases b with
  | false =>
   rw [if_neg (by simp)] at htk; have hr : Hid (numD e l lo hi ⟨k, pl, 0⟩ = (0, ⟨k, plz e l k, 2⟩)) := by unfold Hid numD; rw [htk.out, if_neg (show ¬ (2 : Int) = 0 from two_ne)]
   have hst := hdZ (show failS ⟨k, pl, 0⟩ (plz e l k) 2 = ⟨k, plz e l k, 2⟩ from rfl)
   by_cases hkl : k < n
   ·obtain ⟨t, ht⟩ : ∃ t, l[k]? = some t := ⟨_, List.getElem?_eq_getElem (by rw [hn.out]; exact hkl)⟩
    have hkd : (t.kind != 2) = true := by have h := hb.out; rw [atI_some ht] at h; unfold kdB at h; simpa using h
    obtain ⟨g, off, rfl, hg, g0, g1, g2⟩ := hA.out k t ht; have hgg := hdZ g0; clear ht g0 g1 g2; have hR : Hid (Blk ((w.alloc (.cells (z0z (some (Az g off)) n c k e 0 pl) 83)).alloc (.cells (z0z none 0 0 0 0 0 0) 83)) w.heap.size 83 (z0z (some (Az g off)) n c k e 0 pl)) := (Blk.new w 83 (z0z (some (Az g off)) n c k e 0 pl)).alloc _
    have hP : Hid (Blk ((w.alloc (.cells (z0z (some (Az g off)) n c k e 0 pl) 83)).alloc (.cells (z0z none 0 0 0 0 0 0) 83)) (w.heap.size + 1) 83 (z0z none 0 0 0 0 0 0)) := by
     have h := Blk.new (w.alloc (.cells (z0z (some (Az g off)) n c k e 0 pl) 83)) 83 (z0z none 0 0 0 0 0 0); have hs : (w.alloc (.cells (z0z (some (Az g off)) n c k e 0 pl) 83)).heap.size = w.heap.size + 1 := by simp
     rw [hs] at h; exact h
    have hB : Hid (Bz w ((w.alloc (.cells (z0z (some (Az g off)) n c k e 0 pl) 83)).alloc (.cells (z0z none 0 0 0 0 0 0) 83))) := ((Below.refl _ w).alloc leZ _).alloc (by simp) _; have ne1 : w.heap.size ≠ w.heap.size + 1 := by omega
    have ne2 : w.heap.size + 1 ≠ w.heap.size := by omega
    go_enter Tryz.func51, Tryz.ntmps51
    go_upto_region 1 with fail
    obtain ⟨wa, hwa⟩ := nmZ (((w.alloc (.cells (z0z (some (Az g off)) n c k e 0 pl) 83)).alloc (.cells (z0z none 0 0 0 0 0 0) 83))); rw [hwa.out] at hR hP hB ⊢; clear hwa; have hA := hdZ (hA.out.below hB.out); obtain ⟨r0, r1, r2, r3, r4, f0, f1, f2, f3, f4⟩ := cf5 hR.out; have rl := hR.out.lt; obtain ⟨tk, htkk⟩ := nmZ (t.kind); rw [htkk.out] at hkd hgg; have g0 : wa.cell? ⟨g, off + k * 3, none⟩ = some (Iz tk) := (hB.out.cell (World.block_lt_of_cell? w _ hgg.out)).trans hgg.out; have i1 : (k : Int) < (n : Int) := by omega
    have i2 : (0 : Int) ≤ (k : Int) := by omega
    have b1 : decide ((n : Int) ≤ (k : Int)) = false := by simp; omega
    have b2 : ¬ n ≤ k := by omega
    go_wp2_with (first | (go_at_call 50; refine (stop_any (some (Az g off)) n c l wa e hn ⟨k, pl, 0⟩ k 2 hA).mono ?_; rintro x2 ws ⟨rfl, hbs⟩; rw [hst.out]; have hP := hdZ (hP.out.below hbs hP.out.lt); have hR := hdZ (hR.out.below hbs hR.out.lt); have hB := hdZ (hB.out.trans (hbs.mono hB.out.size)); have hA := hdZ (hA.out.below hbs)) | (refine gbz rfl 83 _ rfl w.heap.size (z0z (some (Az g off)) n c k e 0 pl) 83 _ rfl hR.out Tryz.underlying83 rfl (by kernel_rfl) ?_) | (refine pbz rfl 83 _ _ rfl (w.heap.size + 1) (z0z none 0 0 0 0 0 0) (z0z (some (Az g off)) n c k e 2 (plz e l k : Nat)) 83 rfl rfl hP.out rfl (by kernel_rfl) (rdz _ _ _ _ _ _ _) ?_; intro w9 hP9 hu9))
    refine bodyPost_ret (rr1z rfl _ _ (w.heap.size + 1) 83 _ _ rfl hP9 Tryz.underlying83 rfl (by kernel_rfl)) rfl ?_; rw [hr.out]; exact ⟨rfl, hu9.to_below hB.out (by omega) hB.out.size⟩
   ·skip
    have hR : Hid (Blk ((w.alloc (.cells (z0z A n c k e 0 pl) 83)).alloc (.cells (z0z none 0 0 0 0 0 0) 83)) w.heap.size 83 (z0z A n c k e 0 pl)) := (Blk.new w 83 (z0z A n c k e 0 pl)).alloc _
    have hP : Hid (Blk ((w.alloc (.cells (z0z A n c k e 0 pl) 83)).alloc (.cells (z0z none 0 0 0 0 0 0) 83)) (w.heap.size + 1) 83 (z0z none 0 0 0 0 0 0)) := by
     have h := Blk.new (w.alloc (.cells (z0z A n c k e 0 pl) 83)) 83 (z0z none 0 0 0 0 0 0); have hs : (w.alloc (.cells (z0z A n c k e 0 pl) 83)).heap.size = w.heap.size + 1 := by simp
     rw [hs] at h; exact h
    have hB : Hid (Bz w ((w.alloc (.cells (z0z A n c k e 0 pl) 83)).alloc (.cells (z0z none 0 0 0 0 0 0) 83))) := ((Below.refl _ w).alloc leZ _).alloc (by simp) _; have ne1 : w.heap.size ≠ w.heap.size + 1 := by omega
    have ne2 : w.heap.size + 1 ≠ w.heap.size := by omega
    go_enter Tryz.func51, Tryz.ntmps51
    go_upto_region 1 with fail
    obtain ⟨wa, hwa⟩ := nmZ (((w.alloc (.cells (z0z A n c k e 0 pl) 83)).alloc (.cells (z0z none 0 0 0 0 0 0) 83))); rw [hwa.out] at hR hP hB ⊢; clear hwa; have hA := hdZ (hA.out.below hB.out); obtain ⟨r0, r1, r2, r3, r4, f0, f1, f2, f3, f4⟩ := cf5 hR.out; have rl := hR.out.lt; have b1 : decide ((n : Int) ≤ (k : Int)) = true := by simp; omega
    have b2 : n ≤ k := by omega
    go_wp2_with (first | (go_at_call 50; refine (stop_any A n c l wa e hn ⟨k, pl, 0⟩ k 2 hA).mono ?_; rintro x2 ws ⟨rfl, hbs⟩; rw [hst.out]; have hP := hdZ (hP.out.below hbs hP.out.lt); have hR := hdZ (hR.out.below hbs hR.out.lt); have hB := hdZ (hB.out.trans (hbs.mono hB.out.size)); have hA := hdZ (hA.out.below hbs)) | (refine gbz rfl 83 _ rfl w.heap.size (z0z A n c k e 0 pl) 83 _ rfl hR.out Tryz.underlying83 rfl (by kernel_rfl) ?_) | (refine pbz rfl 83 _ _ rfl (w.heap.size + 1) (z0z none 0 0 0 0 0 0) (z0z A n c k e 2 (plz e l k : Nat)) 83 rfl rfl hP.out rfl (by kernel_rfl) (rdz _ _ _ _ _ _ _) ?_; intro w9 hP9 hu9))
    refine bodyPost_ret (rr1z rfl _ _ (w.heap.size + 1) 83 _ _ rfl hP9 Tryz.underlying83 rfl (by kernel_rfl)) rfl ?_; rw [hr.out]; exact ⟨rfl, hu9.to_below hB.out (by omega) hB.out.size⟩
  | true =>
   rw [if_pos rfl] at htk
   have hkl : k < n := by
    rcases Nat.lt_or_ge k n with h | h
    ·exact h
    ·exact absurd hb.out (by rw [atI_none (by rw [hn.out]; exact h)]; simp)
   obtain ⟨t, ht⟩ : ∃ t, l[k]? = some t := ⟨_, List.getElem?_eq_getElem (by rw [hn.out]; exact hkl)⟩; rw [ht] at htk; simp only at htk; have hkd0 : t.kind = 2 := by have h := hb.out; rw [atI_some ht] at h; unfold kdB at h; simpa using h
   obtain ⟨hlen, hnum⟩ := hok.out k t ht; obtain ⟨hd, hne, hmx⟩ := hnum hkd0; obtain ⟨v, hv⟩ := nmZ (numV t.text); have hcall := hdZ (fun W => rnumber_any ⟨t.text.toArray⟩ W (by unfold maxLen; simp [ByteArray.size]; omega) (hdZ (by simpa using hd)) (hdZ (by unfold mostN at hmx; simpa using hmx))); have hte : (⟨t.text.toArray⟩ : ByteArray).data.toList = t.text := by simp
   rw [hte, hv.out] at hcall; have hpl : Hid (placeS e l ⟨k, pl, 0⟩ = plz e l k) := rfl; have hnD : Hid (numD e l lo hi ⟨k, pl, 0⟩ = if (v : Int) < lo ∨ hi < (v : Int) then (0, ⟨k, plz e l k, 3⟩) else ((v : Int), ⟨k + 1, pl, 0⟩)) := by unfold Hid numD; rw [htk.out]; simp only; rw [if_pos trivial, hv.out, hpl.out]; rfl
   obtain ⟨g, off, rfl, hg, g0, g1, g2⟩ := hA.out k t ht; have hg0 : Hid (w.cell? ⟨g, off + k * 3, none⟩ = some (Iz 2)) := by rw [← hkd0]; exact g0
   have hg2 := hdZ g2; clear ht g0 g1 g2 hd hne hmx hnum hte hlen hkd0; have w1' : IntKind.i64.wrap ((k : Int) + 1) = (k : Int) + 1 := IntWalk.i64_in _ (by omega); have i1 : (k : Int) < (n : Int) := by omega
   have i2 : (0 : Int) ≤ (k : Int) := by omega
   have b1 : decide ((n : Int) ≤ (k : Int)) = false := by simp; omega
   have b2 : ¬ n ≤ k := by omega
   by_cases c1 : (v : Int) < lo
   ·have b3 : decide ((v : Int) < lo) = true := by simp; omega
    have hr : Hid (numD e l lo hi ⟨k, pl, 0⟩ = (0, ⟨k, plz e l k, 3⟩)) := by unfold Hid; rw [hnD.out, if_pos (.inl c1)]
    have hR : Hid (Blk ((w.alloc (.cells (z0z (some (Az g off)) n c k e 0 pl) 83)).alloc (.cells (z0z none 0 0 0 0 0 0) 83)) w.heap.size 83 (z0z (some (Az g off)) n c k e 0 pl)) := (Blk.new w 83 (z0z (some (Az g off)) n c k e 0 pl)).alloc _
    have hP : Hid (Blk ((w.alloc (.cells (z0z (some (Az g off)) n c k e 0 pl) 83)).alloc (.cells (z0z none 0 0 0 0 0 0) 83)) (w.heap.size + 1) 83 (z0z none 0 0 0 0 0 0)) := by
     have h := Blk.new (w.alloc (.cells (z0z (some (Az g off)) n c k e 0 pl) 83)) 83 (z0z none 0 0 0 0 0 0); have hs : (w.alloc (.cells (z0z (some (Az g off)) n c k e 0 pl) 83)).heap.size = w.heap.size + 1 := by simp
     rw [hs] at h; exact h
    have hB : Hid (Bz w ((w.alloc (.cells (z0z (some (Az g off)) n c k e 0 pl) 83)).alloc (.cells (z0z none 0 0 0 0 0 0) 83))) := ((Below.refl _ w).alloc leZ _).alloc (by simp) _; have ne1 : w.heap.size ≠ w.heap.size + 1 := by omega
    have ne2 : w.heap.size + 1 ≠ w.heap.size := by omega
    go_enter Tryz.func51, Tryz.ntmps51
    go_upto_region 1 with fail
    obtain ⟨wa, hwa⟩ := nmZ (((w.alloc (.cells (z0z (some (Az g off)) n c k e 0 pl) 83)).alloc (.cells (z0z none 0 0 0 0 0 0) 83))); rw [hwa.out] at hR hP hB ⊢; clear hwa; have hA := hdZ (hA.out.below hB.out); obtain ⟨r0, r1, r2, r3, r4, f0, f1, f2, f3, f4⟩ := cf5 hR.out; have rl := hR.out.lt; have g0 : wa.cell? ⟨g, off + k * 3, none⟩ = some (Iz 2) := (hB.out.cell (World.block_lt_of_cell? w _ hg0.out)).trans hg0.out; have g2 : wa.cell? ⟨g, off + k * 3 + 2, none⟩ = some (.string ⟨t.text.toArray⟩) := (hB.out.cell (World.block_lt_of_cell? w _ hg2.out)).trans hg2.out; have hst := hdZ (show failS ⟨k, pl, 0⟩ (plz e l k) 3 = ⟨k, plz e l k, 3⟩ from rfl)
    go_wp2_with (first | (go_at_call 97; refine (hcall.out wa).mono ?_; rintro x1 wx ⟨rfl, rfl⟩) | (go_at_call 50; refine (stop_any (some (Az g off)) n c l wa e hn ⟨k, pl, 0⟩ k 3 hA).mono ?_; rintro x2 ws ⟨rfl, hbs⟩; rw [hst.out]; have hP := hdZ (hP.out.below hbs hP.out.lt); have hR := hdZ (hR.out.below hbs hR.out.lt); have hB := hdZ (hB.out.trans (hbs.mono hB.out.size)); have hA := hdZ (hA.out.below hbs)) | (refine gbz rfl 83 _ rfl w.heap.size (z0z (some (Az g off)) n c k e 0 pl) 83 _ rfl hR.out Tryz.underlying83 rfl (by kernel_rfl) ?_) | (refine pbz rfl 83 _ _ rfl (w.heap.size + 1) (z0z none 0 0 0 0 0 0) (z0z (some (Az g off)) n c k e 3 (plz e l k : Nat)) 83 rfl rfl hP.out rfl (by kernel_rfl) (rdz _ _ _ _ _ _ _) ?_; intro w9 hP9 hu9))
    refine bodyPost_ret (rr1z rfl _ _ (w.heap.size + 1) 83 _ _ rfl hP9 Tryz.underlying83 rfl (by kernel_rfl)) rfl ?_; rw [hr.out]; exact ⟨rfl, hu9.to_below hB.out (by omega) hB.out.size⟩
   ·have b3 : decide ((v : Int) < lo) = false := by simp; omega
    by_cases c2 : hi < (v : Int)
    ·have b4 : decide (hi < (v : Int)) = true := by simp; omega
     have hr : Hid (numD e l lo hi ⟨k, pl, 0⟩ = (0, ⟨k, plz e l k, 3⟩)) := by unfold Hid; rw [hnD.out, if_pos (.inr c2)]
     have hR : Hid (Blk ((w.alloc (.cells (z0z (some (Az g off)) n c k e 0 pl) 83)).alloc (.cells (z0z none 0 0 0 0 0 0) 83)) w.heap.size 83 (z0z (some (Az g off)) n c k e 0 pl)) := (Blk.new w 83 (z0z (some (Az g off)) n c k e 0 pl)).alloc _
     have hP : Hid (Blk ((w.alloc (.cells (z0z (some (Az g off)) n c k e 0 pl) 83)).alloc (.cells (z0z none 0 0 0 0 0 0) 83)) (w.heap.size + 1) 83 (z0z none 0 0 0 0 0 0)) := by
      have h := Blk.new (w.alloc (.cells (z0z (some (Az g off)) n c k e 0 pl) 83)) 83 (z0z none 0 0 0 0 0 0); have hs : (w.alloc (.cells (z0z (some (Az g off)) n c k e 0 pl) 83)).heap.size = w.heap.size + 1 := by simp
      rw [hs] at h; exact h
     have hB : Hid (Bz w ((w.alloc (.cells (z0z (some (Az g off)) n c k e 0 pl) 83)).alloc (.cells (z0z none 0 0 0 0 0 0) 83))) := ((Below.refl _ w).alloc leZ _).alloc (by simp) _; have ne1 : w.heap.size ≠ w.heap.size + 1 := by omega
     have ne2 : w.heap.size + 1 ≠ w.heap.size := by omega
     go_enter Tryz.func51, Tryz.ntmps51
     go_upto_region 1 with fail
     obtain ⟨wa, hwa⟩ := nmZ (((w.alloc (.cells (z0z (some (Az g off)) n c k e 0 pl) 83)).alloc (.cells (z0z none 0 0 0 0 0 0) 83))); rw [hwa.out] at hR hP hB ⊢; clear hwa; have hA := hdZ (hA.out.below hB.out); obtain ⟨r0, r1, r2, r3, r4, f0, f1, f2, f3, f4⟩ := cf5 hR.out; have rl := hR.out.lt; have g0 : wa.cell? ⟨g, off + k * 3, none⟩ = some (Iz 2) := (hB.out.cell (World.block_lt_of_cell? w _ hg0.out)).trans hg0.out; have g2 : wa.cell? ⟨g, off + k * 3 + 2, none⟩ = some (.string ⟨t.text.toArray⟩) := (hB.out.cell (World.block_lt_of_cell? w _ hg2.out)).trans hg2.out; have hst := hdZ (show failS ⟨k, pl, 0⟩ (plz e l k) 3 = ⟨k, plz e l k, 3⟩ from rfl)
     go_wp2_with (first | (go_at_call 97; refine (hcall.out wa).mono ?_; rintro x1 wx ⟨rfl, rfl⟩) | (go_at_call 50; refine (stop_any (some (Az g off)) n c l wa e hn ⟨k, pl, 0⟩ k 3 hA).mono ?_; rintro x2 ws ⟨rfl, hbs⟩; rw [hst.out]; have hP := hdZ (hP.out.below hbs hP.out.lt); have hR := hdZ (hR.out.below hbs hR.out.lt); have hB := hdZ (hB.out.trans (hbs.mono hB.out.size)); have hA := hdZ (hA.out.below hbs)) | (refine gbz rfl 83 _ rfl w.heap.size (z0z (some (Az g off)) n c k e 0 pl) 83 _ rfl hR.out Tryz.underlying83 rfl (by kernel_rfl) ?_) | (refine pbz rfl 83 _ _ rfl (w.heap.size + 1) (z0z none 0 0 0 0 0 0) (z0z (some (Az g off)) n c k e 3 (plz e l k : Nat)) 83 rfl rfl hP.out rfl (by kernel_rfl) (rdz _ _ _ _ _ _ _) ?_; intro w9 hP9 hu9))
     refine bodyPost_ret (rr1z rfl _ _ (w.heap.size + 1) 83 _ _ rfl hP9 Tryz.underlying83 rfl (by kernel_rfl)) rfl ?_; rw [hr.out]; exact ⟨rfl, hu9.to_below hB.out (by omega) hB.out.size⟩
    ·have b4 : decide (hi < (v : Int)) = false := by simp; omega
     have hr : Hid (numD e l lo hi ⟨k, pl, 0⟩ = ((v : Int), ⟨k + 1, pl, 0⟩)) := by unfold Hid; rw [hnD.out, if_neg (by rintro (h | h) <;> omega)]
     have hR : Hid (Blk ((w.alloc (.cells (z0z (some (Az g off)) n c k e 0 pl) 83)).alloc (.cells (z0z none 0 0 0 0 0 0) 83)) w.heap.size 83 (z0z (some (Az g off)) n c k e 0 pl)) := (Blk.new w 83 (z0z (some (Az g off)) n c k e 0 pl)).alloc _
     have hP : Hid (Blk ((w.alloc (.cells (z0z (some (Az g off)) n c k e 0 pl) 83)).alloc (.cells (z0z none 0 0 0 0 0 0) 83)) (w.heap.size + 1) 83 (z0z none 0 0 0 0 0 0)) := by
      have h := Blk.new (w.alloc (.cells (z0z (some (Az g off)) n c k e 0 pl) 83)) 83 (z0z none 0 0 0 0 0 0); have hs : (w.alloc (.cells (z0z (some (Az g off)) n c k e 0 pl) 83)).heap.size = w.heap.size + 1 := by simp
      rw [hs] at h; exact h
     have hB : Hid (Bz w ((w.alloc (.cells (z0z (some (Az g off)) n c k e 0 pl) 83)).alloc (.cells (z0z none 0 0 0 0 0 0) 83))) := ((Below.refl _ w).alloc leZ _).alloc (by simp) _; have ne1 : w.heap.size ≠ w.heap.size + 1 := by omega
     have ne2 : w.heap.size + 1 ≠ w.heap.size := by omega
     go_enter Tryz.func51, Tryz.ntmps51
     go_upto_region 1 with fail
     obtain ⟨wa, hwa⟩ := nmZ (((w.alloc (.cells (z0z (some (Az g off)) n c k e 0 pl) 83)).alloc (.cells (z0z none 0 0 0 0 0 0) 83))); rw [hwa.out] at hR hP hB ⊢; clear hwa; have hA := hdZ (hA.out.below hB.out); obtain ⟨r0, r1, r2, r3, r4, f0, f1, f2, f3, f4⟩ := cf5 hR.out; have rl := hR.out.lt; have g0 : wa.cell? ⟨g, off + k * 3, none⟩ = some (Iz 2) := (hB.out.cell (World.block_lt_of_cell? w _ hg0.out)).trans hg0.out; have g2 : wa.cell? ⟨g, off + k * 3 + 2, none⟩ = some (.string ⟨t.text.toArray⟩) := (hB.out.cell (World.block_lt_of_cell? w _ hg2.out)).trans hg2.out
     go_upto_region 9 with (go_at_call 97; refine (hcall.out wa).mono ?_; rintro x1 wx ⟨rfl, rfl⟩)
     clear r0 r1 r2 r3 r4 f0 f1 f2 f3 f4 rl; clear g0 g2; have hR : Hid (Blk (wa.setCell (Az w.heap.size 1) (Iz ((k : Int) + 1))) w.heap.size 83 (z0z (some (Az g off)) n c ((k : Int) + 1) e 0 pl)) := (hR.out.set_ 1 (Iz ((k : Int) + 1))); have hP : Hid (Blk (wa.setCell (Az w.heap.size 1) (Iz ((k : Int) + 1))) (w.heap.size + 1) 83 (z0z none 0 0 0 0 0 0)) := (hP.out.far (p := (Az w.heap.size 1)) ne2 _); have hB : Hid (Bz w (wa.setCell (Az w.heap.size 1) (Iz ((k : Int) + 1)))) := (hB.out.setCell leZ _); obtain ⟨w1, hw⟩ := nmZ ((wa.setCell (Az w.heap.size 1) (Iz ((k : Int) + 1)))); rw [hw.out] at hR hP hB ⊢; clear hw hA; have hA := hdZ (hA0.out.below hB.out)
     go_wp2_with (first | (refine gbz rfl 83 _ rfl w.heap.size (z0z (some (Az g off)) n c ((k : Int) + 1) e 0 pl) 83 _ rfl hR.out Tryz.underlying83 rfl (by kernel_rfl) ?_) | (refine pbz rfl 83 _ _ rfl (w.heap.size + 1) (z0z none 0 0 0 0 0 0) (z0z (some (Az g off)) n c ((k : Int) + 1) e 0 pl) 83 rfl rfl hP.out rfl (by kernel_rfl) (rdz _ _ _ _ _ _ _) ?_; intro w9 hP9 hu9))
     refine bodyPost_ret (rr1z rfl _ _ (w.heap.size + 1) 83 _ _ rfl hP9 Tryz.underlying83 rfl (by kernel_rfl)) rfl ?_; rw [hr.out]; exact ⟨rfl, hu9.to_below hB.out (by omega) hB.out.size⟩
 ·have b1 : (cd != 0) = true := by simp [hz]
  have hr : Hid (numD e l lo hi ⟨k, pl, cd⟩ = (0, ⟨k, pl, cd⟩)) := by unfold Hid numD; rw [tbz (show (⟨k, pl, cd⟩ : St).cd ≠ 0 from hz), if_neg (show ¬ cd = 0 from hz)]
  clear hz; have hR : Hid (Blk ((w.alloc (.cells (z0z A n c k e cd pl) 83)).alloc (.cells (z0z none 0 0 0 0 0 0) 83)) w.heap.size 83 (z0z A n c k e cd pl)) := (Blk.new w 83 (z0z A n c k e cd pl)).alloc _
  have hP : Hid (Blk ((w.alloc (.cells (z0z A n c k e cd pl) 83)).alloc (.cells (z0z none 0 0 0 0 0 0) 83)) (w.heap.size + 1) 83 (z0z none 0 0 0 0 0 0)) := by
   have h := Blk.new (w.alloc (.cells (z0z A n c k e cd pl) 83)) 83 (z0z none 0 0 0 0 0 0); have hs : (w.alloc (.cells (z0z A n c k e cd pl) 83)).heap.size = w.heap.size + 1 := by simp
   rw [hs] at h; exact h
  have hB : Hid (Bz w ((w.alloc (.cells (z0z A n c k e cd pl) 83)).alloc (.cells (z0z none 0 0 0 0 0 0) 83))) := ((Below.refl _ w).alloc leZ _).alloc (by simp) _; have ne1 : w.heap.size ≠ w.heap.size + 1 := by omega
  have ne2 : w.heap.size + 1 ≠ w.heap.size := by omega
  go_enter Tryz.func51, Tryz.ntmps51
  go_upto_region 1 with fail
  obtain ⟨wa, hwa⟩ := nmZ (((w.alloc (.cells (z0z A n c k e cd pl) 83)).alloc (.cells (z0z none 0 0 0 0 0 0) 83))); rw [hwa.out] at hR hP hB ⊢; clear hwa; have hA := hdZ (hA.out.below hB.out); obtain ⟨r0, r1, r2, r3, r4, f0, f1, f2, f3, f4⟩ := cf5 hR.out; have rl := hR.out.lt
  go_wp2_with (first | (refine gbz rfl 83 _ rfl w.heap.size (z0z A n c k e cd pl) 83 _ rfl hR.out Tryz.underlying83 rfl (by kernel_rfl) ?_) | (refine pbz rfl 83 _ _ rfl (w.heap.size + 1) (z0z none 0 0 0 0 0 0) (z0z A n c k e cd pl) 83 rfl rfl hP.out rfl (by kernel_rfl) (rdz _ _ _ _ _ _ _) ?_; intro w9 hP9 hu9))
  refine bodyPost_ret (rr1z rfl _ _ (w.heap.size + 1) 83 _ _ rfl hP9 Tryz.underlying83 rfl (by kernel_rfl)) rfl ?_; rw [hr.out]; exact ⟨rfl, hu9.to_below hB.out (by omega) hB.out.size⟩
theorem rtold_any (A : Option Addr) (n c : Nat) (l : List Tok) (w : World) (e : Nat) (hn : Hid (l.length = n)) (hm : n ≤ 4096) (hok : Hid (TokOk l)) (x : Txt) (st : St) (hA : Hid (TokAt w 0 A l)) :
  Cz 52 #[.agg (rdA A n c e st), .string (mkT x), S0z] w fun x' w' => x' = .returned (.tuple #[.agg (rdA A n c e (toldD e l x st).2), Iz (toldD e l x st).1]) ∧ Bz w w' := by
 have hA0 := hA
 obtain ⟨⟨k1, pl1, cd1⟩, h1⟩ := nmZ ((tkz e l (isT x) st).2)
 obtain ⟨⟨v2, ⟨k2, pl2, cd2⟩⟩, h2⟩ := nmZ (numD e l 0 1048576 ⟨k1, pl1, cd1⟩)
 obtain ⟨⟨k4, pl4, cd4⟩, h4⟩ := nmZ ((tkz e l (isT sSemi) ⟨k2, pl2, cd2⟩).2)
 have hr : Hid (toldD e l x st = (v2, ⟨k4, pl4, cd4⟩)) := by unfold Hid toldD; rw [h1.out, h2.out]; simp only; rw [h4.out]
 obtain ⟨k, pl, cd⟩ := st
 have hR : Hid (Blk ((w.alloc (.cells (z0z A n c k e cd pl) 83)).alloc (.cells (z0z none 0 0 0 0 0 0) 83)) w.heap.size 83 (z0z A n c k e cd pl)) := (Blk.new w 83 (z0z A n c k e cd pl)).alloc _
 have hP : Hid (Blk ((w.alloc (.cells (z0z A n c k e cd pl) 83)).alloc (.cells (z0z none 0 0 0 0 0 0) 83)) (w.heap.size + 1) 83 (z0z none 0 0 0 0 0 0)) := by
  have h := Blk.new (w.alloc (.cells (z0z A n c k e cd pl) 83)) 83 (z0z none 0 0 0 0 0 0); have hs : (w.alloc (.cells (z0z A n c k e cd pl) 83)).heap.size = w.heap.size + 1 := by simp
  rw [hs] at h; exact h
 have hB : Hid (Bz w ((w.alloc (.cells (z0z A n c k e cd pl) 83)).alloc (.cells (z0z none 0 0 0 0 0 0) 83))) := ((Below.refl _ w).alloc leZ _).alloc (by simp) _
 have ne1 : w.heap.size ≠ w.heap.size + 1 := by omega
 have ne2 : w.heap.size + 1 ≠ w.heap.size := by omega
 go_enter Tryz.func52, Tryz.ntmps52
 go_upto_region 1 with fail
 obtain ⟨wa, hwa⟩ := nmZ (((w.alloc (.cells (z0z A n c k e cd pl) 83)).alloc (.cells (z0z none 0 0 0 0 0 0) 83)))
 rw [hwa.out] at hR hP hB ⊢
 clear hwa
 have hA := hdZ (hA.out.below hB.out)
 go_upto_region 2 with (first | (go_at_call 49; refine (rwd_any A n c l wa e hn hm x ⟨k, pl, cd⟩ hA).mono ?_; rintro x2 w1 ⟨rfl, hb1⟩; rw [h1.out]; have hP := hdZ (hP.out.below hb1 hP.out.lt); have hR := hdZ (hR.out.below hb1 hR.out.lt); have hB := hdZ (hB.out.trans (hb1.mono hB.out.size)); have hA := hdZ (hA.out.below hb1)) | (go_at_call 51; refine (ramount_any A n c l w1 e hn hm hok 0 1048576 ⟨k1, pl1, cd1⟩ hA).mono ?_; rintro x2 w2 ⟨rfl, hb2⟩; rw [h2.out]; have hP := hdZ (hP.out.below hb2 hP.out.lt); have hR := hdZ (hR.out.below hb2 hR.out.lt); have hB := hdZ (hB.out.trans (hb2.mono hB.out.size)); have hA := hdZ (hA.out.below hb2)) | (refine gbz rfl 83 _ rfl w.heap.size (z0z A n c k e cd pl) 83 _ rfl hR.out Tryz.underlying83 rfl (by kernel_rfl) ?_) | (refine pbz rfl 83 _ _ rfl w.heap.size (z0z A n c k e cd pl) (z0z A n c k2 e cd2 pl2) 83 rfl rfl hR.out rfl (by kernel_rfl) (rdz _ _ _ _ _ _ _) ?_; intro w3 hR9 hu8))
 have hR := hdZ hR9
 have hP := hdZ (hu8.blk hP.out ne2)
 have hB : Hid (Bz w w3) := hu8.to_below hB.out leZ hB.out.size
 clear hR9 hu8 hA
 have hA := hdZ (hA0.out.below hB.out)
 go_wp2_with (first | (go_at_call 49; refine (rwd_any A n c l w3 e hn hm sSemi ⟨k2, pl2, cd2⟩ hA).mono ?_; rintro x2 w6 ⟨rfl, hb4⟩; rw [h4.out]; have hP := hdZ (hP.out.below hb4 hP.out.lt); have hR := hdZ (hR.out.below hb4 hR.out.lt); have hB := hdZ (hB.out.trans (hb4.mono hB.out.size)); have hA := hdZ (hA.out.below hb4)) | (refine gbz rfl 83 _ rfl w.heap.size (z0z A n c k2 e cd2 pl2) 83 _ rfl hR.out Tryz.underlying83 rfl (by kernel_rfl) ?_) | (refine pbz rfl 83 _ _ rfl (w.heap.size + 1) (z0z none 0 0 0 0 0 0) (z0z A n c k4 e cd4 pl4) 83 rfl rfl hP.out rfl (by kernel_rfl) (rdz _ _ _ _ _ _ _) ?_; intro w9 hP9 hu9))
 refine bodyPost_ret (rr1z rfl _ _ (w.heap.size + 1) 83 _ _ rfl hP9 Tryz.underlying83 rfl (by kernel_rfl)) rfl ?_
 rw [hr.out]
 exact ⟨rfl, hu9.to_below hB.out (by omega) hB.out.size⟩
theorem rwithin_any (A : Option Addr) (n c : Nat) (l : List Tok) (w : World) (e : Nat) (hn : Hid (l.length = n)) (hm : n ≤ 4096) (hok : Hid (TokOk l)) (x : Txt) (st : St) (hA : Hid (TokAt w 0 A l)) :
  Cz 52 #[.agg (rdA A n c e st), .string (mkT x), .string ⟨#[100, 97, 121, 115]⟩] w fun x' w' => x' = .returned (.tuple #[.agg (rdA A n c e (withinD e l x st).2), Iz (withinD e l x st).1]) ∧ Bz w w' := by
 have hA0 := hA
 obtain ⟨⟨k1, pl1, cd1⟩, h1⟩ := nmZ ((tkz e l (isT x) st).2)
 obtain ⟨⟨v2, ⟨k2, pl2, cd2⟩⟩, h2⟩ := nmZ (numD e l 0 1048576 ⟨k1, pl1, cd1⟩)
 obtain ⟨⟨k3, pl3, cd3⟩, h3⟩ := nmZ ((tkz e l (isT wDays) ⟨k2, pl2, cd2⟩).2)
 obtain ⟨⟨k4, pl4, cd4⟩, h4⟩ := nmZ ((tkz e l (isT sSemi) ⟨k3, pl3, cd3⟩).2)
 have hr : Hid (withinD e l x st = (v2, ⟨k4, pl4, cd4⟩)) := by unfold Hid withinD; rw [h1.out, h2.out]; simp only; rw [h3.out, h4.out]
 obtain ⟨k, pl, cd⟩ := st
 have hR : Hid (Blk ((w.alloc (.cells (z0z A n c k e cd pl) 83)).alloc (.cells (z0z none 0 0 0 0 0 0) 83)) w.heap.size 83 (z0z A n c k e cd pl)) := (Blk.new w 83 (z0z A n c k e cd pl)).alloc _
 have hP : Hid (Blk ((w.alloc (.cells (z0z A n c k e cd pl) 83)).alloc (.cells (z0z none 0 0 0 0 0 0) 83)) (w.heap.size + 1) 83 (z0z none 0 0 0 0 0 0)) := by
  have h := Blk.new (w.alloc (.cells (z0z A n c k e cd pl) 83)) 83 (z0z none 0 0 0 0 0 0); have hs : (w.alloc (.cells (z0z A n c k e cd pl) 83)).heap.size = w.heap.size + 1 := by simp
  rw [hs] at h; exact h
 have hB : Hid (Bz w ((w.alloc (.cells (z0z A n c k e cd pl) 83)).alloc (.cells (z0z none 0 0 0 0 0 0) 83))) := ((Below.refl _ w).alloc leZ _).alloc (by simp) _
 have ne1 : w.heap.size ≠ w.heap.size + 1 := by omega
 have ne2 : w.heap.size + 1 ≠ w.heap.size := by omega
 go_enter Tryz.func52, Tryz.ntmps52
 go_upto_region 1 with fail
 obtain ⟨wa, hwa⟩ := nmZ (((w.alloc (.cells (z0z A n c k e cd pl) 83)).alloc (.cells (z0z none 0 0 0 0 0 0) 83)))
 rw [hwa.out] at hR hP hB ⊢
 clear hwa
 have hA := hdZ (hA.out.below hB.out)
 go_upto_region 2 with (first | (go_at_call 49; refine (rwd_any A n c l wa e hn hm x ⟨k, pl, cd⟩ hA).mono ?_; rintro x2 w1 ⟨rfl, hb1⟩; rw [h1.out]; have hP := hdZ (hP.out.below hb1 hP.out.lt); have hR := hdZ (hR.out.below hb1 hR.out.lt); have hB := hdZ (hB.out.trans (hb1.mono hB.out.size)); have hA := hdZ (hA.out.below hb1)) | (go_at_call 51; refine (ramount_any A n c l w1 e hn hm hok 0 1048576 ⟨k1, pl1, cd1⟩ hA).mono ?_; rintro x2 w2 ⟨rfl, hb2⟩; rw [h2.out]; have hP := hdZ (hP.out.below hb2 hP.out.lt); have hR := hdZ (hR.out.below hb2 hR.out.lt); have hB := hdZ (hB.out.trans (hb2.mono hB.out.size)); have hA := hdZ (hA.out.below hb2)) | (refine gbz rfl 83 _ rfl w.heap.size (z0z A n c k e cd pl) 83 _ rfl hR.out Tryz.underlying83 rfl (by kernel_rfl) ?_) | (refine pbz rfl 83 _ _ rfl w.heap.size (z0z A n c k e cd pl) (z0z A n c k2 e cd2 pl2) 83 rfl rfl hR.out rfl (by kernel_rfl) (rdz _ _ _ _ _ _ _) ?_; intro w3 hR9 hu8))
 have hR := hdZ hR9
 have hP := hdZ (hu8.blk hP.out ne2)
 have hB : Hid (Bz w w3) := hu8.to_below hB.out leZ hB.out.size
 clear hR9 hu8 hA
 have hA := hdZ (hA0.out.below hB.out)
 go_upto_region 4 with (first | (go_at_call 49; refine (rwd_any A n c l w3 e hn hm wDays ⟨k2, pl2, cd2⟩ hA).mono ?_; rintro x2 w4 ⟨rfl, hb3⟩; rw [h3.out]; have hP := hdZ (hP.out.below hb3 hP.out.lt); have hR := hdZ (hR.out.below hb3 hR.out.lt); have hB := hdZ (hB.out.trans (hb3.mono hB.out.size)); have hA := hdZ (hA.out.below hb3)) | (refine gbz rfl 83 _ rfl w.heap.size (z0z A n c k2 e cd2 pl2) 83 _ rfl hR.out Tryz.underlying83 rfl (by kernel_rfl) ?_) | (refine pbz rfl 83 _ _ rfl w.heap.size (z0z A n c k2 e cd2 pl2) (z0z A n c k3 e cd3 pl3) 83 rfl rfl hR.out rfl (by kernel_rfl) (rdz _ _ _ _ _ _ _) ?_; intro w5 hR9 hu8))
 have hR := hdZ hR9
 have hP := hdZ (hu8.blk hP.out ne2)
 have hB : Hid (Bz w w5) := hu8.to_below hB.out leZ hB.out.size
 clear hR9 hu8 hA
 have hA := hdZ (hA0.out.below hB.out)
 go_wp2_with (first | (go_at_call 49; refine (rwd_any A n c l w5 e hn hm sSemi ⟨k3, pl3, cd3⟩ hA).mono ?_; rintro x2 w6 ⟨rfl, hb4⟩; rw [h4.out]; have hP := hdZ (hP.out.below hb4 hP.out.lt); have hR := hdZ (hR.out.below hb4 hR.out.lt); have hB := hdZ (hB.out.trans (hb4.mono hB.out.size)); have hA := hdZ (hA.out.below hb4)) | (refine gbz rfl 83 _ rfl w.heap.size (z0z A n c k3 e cd3 pl3) 83 _ rfl hR.out Tryz.underlying83 rfl (by kernel_rfl) ?_) | (refine pbz rfl 83 _ _ rfl (w.heap.size + 1) (z0z none 0 0 0 0 0 0) (z0z A n c k4 e cd4 pl4) 83 rfl rfl hP.out rfl (by kernel_rfl) (rdz _ _ _ _ _ _ _) ?_; intro w9 hP9 hu9))
 refine bodyPost_ret (rr1z rfl _ _ (w.heap.size + 1) 83 _ _ rfl hP9 Tryz.underlying83 rfl (by kernel_rfl)) rfl ?_
 rw [hr.out]
 exact ⟨rfl, hu9.to_below hB.out (by omega) hB.out.size⟩
theorem reither_any (A : Option Addr) (n c : Nat) (l : List Tok) (w : World) (e : Nat) (hn : Hid (l.length = n)) (hm : n ≤ 4096) (x : Txt) (st : St) (hA : Hid (TokAt w 0 A l)) :
  Cz 53 #[.agg (rdA A n c e st), .string (mkT x)] w fun x' w' => x' = .returned (.tuple #[.agg (rdA A n c e (eitherD e l x st).2), .bool (eitherD e l x st).1]) ∧ Bz w w' := by
 have hA0 := hA
 obtain ⟨⟨k1, pl1, cd1⟩, h1⟩ := nmZ ((tkz e l (isT x) st).2)
 obtain ⟨b, hb⟩ := nmZ (atI (isT wYes) l k1)
 obtain ⟨⟨k3, pl3, cd3⟩, h3⟩ := nmZ ((tkz e l (isT wNo) ⟨k1, pl1, cd1⟩).2)
 obtain ⟨⟨k4, pl4, cd4⟩, h4⟩ := nmZ ((tkz e l (isT sSemi) ⟨k3, pl3, cd3⟩).2)
 obtain ⟨⟨k5, pl5, cd5⟩, h5⟩ := nmZ ((tkz e l (isT sSemi) ⟨k1 + 1, pl1, cd1⟩).2)
 have hE : Hid (eitherD e l x st = if cd1 = 0 ∧ b = true then (true, ⟨k5, pl5, cd5⟩) else (false, ⟨k4, pl4, cd4⟩)) := by
  unfold Hid eitherD; rw [h1.out]; simp only [St.step]; rw [hb.out, h5.out, h3.out, h4.out]
 obtain ⟨k, pl, cd⟩ := st
 have hR : Hid (Blk ((w.alloc (.cells (z0z A n c k e cd pl) 83)).alloc (.cells (z0z none 0 0 0 0 0 0) 83)) w.heap.size 83 (z0z A n c k e cd pl)) := (Blk.new w 83 (z0z A n c k e cd pl)).alloc _
 have hP : Hid (Blk ((w.alloc (.cells (z0z A n c k e cd pl) 83)).alloc (.cells (z0z none 0 0 0 0 0 0) 83)) (w.heap.size + 1) 83 (z0z none 0 0 0 0 0 0)) := by
  have h := Blk.new (w.alloc (.cells (z0z A n c k e cd pl) 83)) 83 (z0z none 0 0 0 0 0 0); have hs : (w.alloc (.cells (z0z A n c k e cd pl) 83)).heap.size = w.heap.size + 1 := by simp
  rw [hs] at h; exact h
 have hB : Hid (Bz w ((w.alloc (.cells (z0z A n c k e cd pl) 83)).alloc (.cells (z0z none 0 0 0 0 0 0) 83))) := ((Below.refl _ w).alloc leZ _).alloc (by simp) _
 have ne1 : w.heap.size ≠ w.heap.size + 1 := by omega
 have ne2 : w.heap.size + 1 ≠ w.heap.size := by omega
 go_enter Tryz.func53, Tryz.ntmps53
 go_upto_region 1 with fail
 obtain ⟨wa, hwa⟩ := nmZ (((w.alloc (.cells (z0z A n c k e cd pl) 83)).alloc (.cells (z0z none 0 0 0 0 0 0) 83)))
 rw [hwa.out] at hR hP hB ⊢
 clear hwa
 have hA := hdZ (hA.out.below hB.out)
 go_upto_region 2 with (first | (go_at_call 49; refine (rwd_any A n c l wa e hn hm x ⟨k, pl, cd⟩ hA).mono ?_; rintro x2 w1 ⟨rfl, hb1⟩; rw [h1.out]; have hP := hdZ (hP.out.below hb1 hP.out.lt); have hR := hdZ (hR.out.below hb1 hR.out.lt); have hB := hdZ (hB.out.trans (hb1.mono hB.out.size)); have hA := hdZ (hA.out.below hb1)) | (refine gbz rfl 83 _ rfl w.heap.size (z0z A n c k e cd pl) 83 _ rfl hR.out Tryz.underlying83 rfl (by kernel_rfl) ?_) | (refine pbz rfl 83 _ _ rfl w.heap.size (z0z A n c k e cd pl) (z0z A n c k1 e cd1 pl1) 83 rfl rfl hR.out rfl (by kernel_rfl) (rdz _ _ _ _ _ _ _) ?_; intro w2 hR9 hu8))
 have hR := hdZ hR9
 have hP := hdZ (hu8.blk hP.out ne2)
 have hB : Hid (Bz w w2) := hu8.to_below hB.out leZ hB.out.size
 clear hR9 hu8 hA
 have hA := hdZ (hA0.out.below hB.out)
 obtain ⟨r0, r1, r2, r3, r4, f0, f1, f2, f3, f4⟩ := cf5 hR.out
 have rl := hR.out.lt
 by_cases hz : cd1 = 0
 ·have b1 : (cd1 == 0) = true := by simp [hz]
  have hz1 := hdZ hz; clear hz
  cases b with
  | false =>
   have hno : ¬ (cd1 = 0 ∧ (false : Bool) = true) := by simp
   go_wp2_with (first | (go_at_call 48; refine (rsz A n c l w2 k1 wYes hn hA).mono ?_; rintro x1 wx ⟨rfl, rfl⟩; rw [hb.out]) | (go_at_call 49; first | (refine (rwd_any A n c l w2 e hn hm wNo ⟨k1, pl1, cd1⟩ hA).mono ?_; rintro x2 w6 ⟨rfl, hb6⟩; rw [h3.out]; have hP := hdZ (hP.out.below hb6 hP.out.lt); have hB := hdZ (hB.out.trans (hb6.mono hB.out.size)); have hA := hdZ (hA.out.below hb6)) | (refine (rwd_any A n c l w6 e hn hm sSemi ⟨k3, pl3, cd3⟩ hA).mono ?_; rintro x2 w7 ⟨rfl, hb7⟩; rw [h4.out]; have hP := hdZ (hP.out.below hb7 hP.out.lt); have hB := hdZ (hB.out.trans (hb7.mono hB.out.size)))) | (refine gbz rfl 83 _ rfl w.heap.size (z0z A n c k1 e cd1 pl1) 83 _ rfl hR.out Tryz.underlying83 rfl (by kernel_rfl) ?_) | (refine pbz rfl 83 _ _ rfl (w.heap.size + 1) (z0z none 0 0 0 0 0 0) (z0z A n c k4 e cd4 pl4) 83 rfl rfl hP.out rfl (by kernel_rfl) (rdz _ _ _ _ _ _ _) ?_; intro w9 hP9 hu9))
   refine bodyPost_ret (rr1z rfl _ _ (w.heap.size + 1) 83 _ _ rfl hP9 Tryz.underlying83 rfl (by kernel_rfl)) rfl ?_; rw [hE.out, if_neg hno]; exact ⟨rfl, hu9.to_below hB.out (by omega) hB.out.size⟩
  | true =>
   have hkl : k1 < n := by
    rcases Nat.lt_or_ge k1 n with h | h
    ·exact h
    ·exact absurd hb.out (by rw [atI_none (by rw [hn.out]; exact h)]; simp)
   have w1' : IntKind.i64.wrap ((k1 : Int) + 1) = (k1 : Int) + 1 := IntWalk.i64_in _ (by omega)
   go_upto_region 4 with (go_at_call 48; refine (rsz A n c l w2 k1 wYes hn hA).mono ?_; rintro x1 wx ⟨rfl, rfl⟩; rw [hb.out])
   clear r0 r1 r2 r3 r4 f0 f1 f2 f3 f4 rl; have hR : Hid (Blk (w2.setCell (Az w.heap.size 1) (Iz ((k1 : Int) + 1))) w.heap.size 83 (z0z A n c ((k1 : Int) + 1) e cd1 pl1)) := (hR.out.set_ 1 (Iz ((k1 : Int) + 1))); have hP : Hid (Blk (w2.setCell (Az w.heap.size 1) (Iz ((k1 : Int) + 1))) (w.heap.size + 1) 83 (z0z none 0 0 0 0 0 0)) := (hP.out.far (p := (Az w.heap.size 1)) ne2 _); have hB : Hid (Bz w (w2.setCell (Az w.heap.size 1) (Iz ((k1 : Int) + 1)))) := (hB.out.setCell leZ _); obtain ⟨w1, hw⟩ := nmZ ((w2.setCell (Az w.heap.size 1) (Iz ((k1 : Int) + 1)))); rw [hw.out] at hR hP hB ⊢; clear hw hA; have hA := hdZ (hA0.out.below hB.out)
   go_wp2_with (first | (go_at_call 49; refine (rwd_any A n c l w1 e hn hm sSemi ⟨k1 + 1, pl1, cd1⟩ hA).mono ?_; rintro x2 w6 ⟨rfl, hb5⟩; rw [h5.out]; have hP := hdZ (hP.out.below hb5 hP.out.lt); have hR := hdZ (hR.out.below hb5 hR.out.lt); have hB := hdZ (hB.out.trans (hb5.mono hB.out.size)); have hA := hdZ (hA.out.below hb5)) | (refine gbz rfl 83 _ rfl w.heap.size (z0z A n c ((k1 : Int) + 1) e cd1 pl1) 83 _ rfl hR.out Tryz.underlying83 rfl (by kernel_rfl) ?_) | (refine pbz rfl 83 _ _ rfl (w.heap.size + 1) (z0z none 0 0 0 0 0 0) (z0z A n c k5 e cd5 pl5) 83 rfl rfl hP.out rfl (by kernel_rfl) (rdz _ _ _ _ _ _ _) ?_; intro w9 hP9 hu9))
   refine bodyPost_ret (rr1z rfl _ _ (w.heap.size + 1) 83 _ _ rfl hP9 Tryz.underlying83 rfl (by kernel_rfl)) rfl ?_; rw [hE.out, if_pos (by simp [hz1.out])]; exact ⟨rfl, hu9.to_below hB.out (by omega) hB.out.size⟩
 ·have b1 : (cd1 == 0) = false := by simp [hz]
  have hno : ¬ (cd1 = 0 ∧ b = true) := fun h => hz h.1
  have hno2 := hdZ hno; clear hz hno
  go_wp2_with (first | (go_at_call 48; refine (rsz A n c l w2 k1 wYes hn hA).mono ?_; rintro x1 wx ⟨rfl, rfl⟩; rw [hb.out]) | (go_at_call 49; first | (refine (rwd_any A n c l w2 e hn hm wNo ⟨k1, pl1, cd1⟩ hA).mono ?_; rintro x2 w6 ⟨rfl, hb6⟩; rw [h3.out]; have hP := hdZ (hP.out.below hb6 hP.out.lt); have hB := hdZ (hB.out.trans (hb6.mono hB.out.size)); have hA := hdZ (hA.out.below hb6)) | (refine (rwd_any A n c l w6 e hn hm sSemi ⟨k3, pl3, cd3⟩ hA).mono ?_; rintro x2 w7 ⟨rfl, hb7⟩; rw [h4.out]; have hP := hdZ (hP.out.below hb7 hP.out.lt); have hB := hdZ (hB.out.trans (hb7.mono hB.out.size)))) | (refine gbz rfl 83 _ rfl w.heap.size (z0z A n c k1 e cd1 pl1) 83 _ rfl hR.out Tryz.underlying83 rfl (by kernel_rfl) ?_) | (refine pbz rfl 83 _ _ rfl (w.heap.size + 1) (z0z none 0 0 0 0 0 0) (z0z A n c k4 e cd4 pl4) 83 rfl rfl hP.out rfl (by kernel_rfl) (rdz _ _ _ _ _ _ _) ?_; intro w9 hP9 hu9))
  refine bodyPost_ret (rr1z rfl _ _ (w.heap.size + 1) 83 _ _ rfl hP9 Tryz.underlying83 rfl (by kernel_rfl)) rfl ?_; rw [hE.out, if_neg hno2.out]; exact ⟨rfl, hu9.to_below hB.out (by omega) hB.out.size⟩
end Go.Proofs.YtjkmhlfjheiekaaGreatDoor

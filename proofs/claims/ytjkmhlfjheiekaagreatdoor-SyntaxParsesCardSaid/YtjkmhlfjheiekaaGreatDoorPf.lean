import Derived.Test.YtjkmhlfjheiekaaGreatDoorPe
import Derived.Test.YtjkmhlfjheiekaaGreatDoorVm
namespace Go.Proofs.YtjkmhlfjheiekaaGreatDoor
open Go Go.RowKit Go.BigFrame Go.Maps
abbrev rdA (A : Option Addr) (n c e : Nat) (st : St) : Array Value := #[.slice A n c, .int .i64 st.k, .int .i64 e, .int .i64 st.cd, .int .i64 st.pl]
theorem rd_one (A : Option Addr) (n c : Nat) (a b d f : Int) : (#[.slice A n c, .int .i64 a, .int .i64 b, .int .i64 d, .int .i64 f] : Array Value).all (·.oneCell') = true := by rw [← Array.all_toList]; rfl
theorem results_row_tmp1 {P : Program} {fn : Func} {p u : Tmp} {ty : TypeId} (h : fn.results = #[.cell p ty, .tmp u]) (tmps : Array Value) (w : World) (g : Nat) (t : TypeId) (cs : Array Value) (d : TypeDesc)
  (hp : tmps.getD p undef = .pointer (some ⟨g, 0, none⟩)) (hg : Blk w g t cs)
  (hu : P.underlying ty = some d) (hd : (match d with | .struct _ | .array _ _ => true | _ => false) = true) (hi : (P.info? ty).map (·.size) = some cs.size) :
  (results fn tmps).run P w = .ok (.tuple #[.agg cs, tmps.getD u undef]) w := by
 have hp' : tmps[p]?.getD undef = .pointer (some ⟨g, 0, none⟩) := by simpa using hp
 simp [results, h, hp', asAddr, run_loadVar_row w g t ty cs (0, 0) d hg hu hd hi]
theorem take_at {e : Nat} {l : List Tok} {p : Tok → Bool} {k pl : Nat} {b : Bool} (h : atI p l k = b) : (takeS e l p ⟨k, pl, 0⟩).2 = if b = true then ⟨k + 1, pl, 0⟩ else ⟨k, placeI e l k, 2⟩ := by
 subst h
 unfold takeS askS atI
 simp only [Nat.add_zero]
 cases l[k]? with
 | none => rfl
 | some t => cases hp : p t <;> simp [hp] <;> rfl
set_option maxRecDepth 100000 in
set_option maxHeartbeats 3200000 in
theorem stop_any (A : Option Addr) (n c : Nat) (l : List Tok) (w : World) (e : Nat) (hn : Hid (l.length = n)) (st : St) (i : Nat) (cd : Int) (hA : Hid (TokAt w 0 A l)) :
  Calls Tryz.prog 50 #[.agg (rdA A n c e st), .int .i64 i, .int .i64 cd] w fun x w' => x = .returned (.agg (rdA A n c e (failS st (placeI e l i) cd))) ∧ Below w.heap.size w w' := by
 obtain ⟨k, pl, cd0⟩ := st
 have hA0 := hA
 by_cases hz : cd0 = 0
 ·subst hz
  obtain ⟨pv, hpv⟩ : ∃ k, Hid (placeI e l i = k) := ⟨_, hd9 rfl⟩
  have hr : Hid (failS ⟨k, pl, 0⟩ (placeI e l i) cd = ⟨k, pv, cd⟩) := by unfold Hid failS; rw [if_pos rfl, hpv.out]
  have hR : Hid (Blk ((w.alloc (.cells #[.slice A n c, .int .i64 k, .int .i64 e, .int .i64 0, .int .i64 pl] 83)).alloc (.cells #[.slice none 0 0, .int .i64 0, .int .i64 0, .int .i64 0, .int .i64 0] 83)) w.heap.size 83 #[.slice A n c, .int .i64 k, .int .i64 e, .int .i64 0, .int .i64 pl]) := (Blk.new w 83 #[.slice A n c, .int .i64 k, .int .i64 e, .int .i64 0, .int .i64 pl]).alloc _
  have hP : Hid (Blk ((w.alloc (.cells #[.slice A n c, .int .i64 k, .int .i64 e, .int .i64 0, .int .i64 pl] 83)).alloc (.cells #[.slice none 0 0, .int .i64 0, .int .i64 0, .int .i64 0, .int .i64 0] 83)) (w.heap.size + 1) 83 #[.slice none 0 0, .int .i64 0, .int .i64 0, .int .i64 0, .int .i64 0]) := by
   have h := Blk.new (w.alloc (.cells #[.slice A n c, .int .i64 k, .int .i64 e, .int .i64 0, .int .i64 pl] 83)) 83 #[.slice none 0 0, .int .i64 0, .int .i64 0, .int .i64 0, .int .i64 0]
   have hs : (w.alloc (.cells #[.slice A n c, .int .i64 k, .int .i64 e, .int .i64 0, .int .i64 pl] 83)).heap.size = w.heap.size + 1 := by simp
   rw [hs] at h; exact h
  have hB : Hid (Below w.heap.size w ((w.alloc (.cells #[.slice A n c, .int .i64 k, .int .i64 e, .int .i64 0, .int .i64 pl] 83)).alloc (.cells #[.slice none 0 0, .int .i64 0, .int .i64 0, .int .i64 0, .int .i64 0] 83))) := ((Below.refl _ w).alloc le9 _).alloc (by simp) _
  have ne1 : w.heap.size ≠ w.heap.size + 1 := by omega
  have ne2 : w.heap.size + 1 ≠ w.heap.size := by omega
  go_enter Tryz.func50, Tryz.ntmps50
  go_upto_region 1 with fail
  obtain ⟨wa, hwa⟩ : ∃ x, Hid (((w.alloc (.cells #[.slice A n c, .int .i64 k, .int .i64 e, .int .i64 0, .int .i64 pl] 83)).alloc (.cells #[.slice none 0 0, .int .i64 0, .int .i64 0, .int .i64 0, .int .i64 0] 83)) = x) := ⟨_, hd9 rfl⟩
  rw [hwa.out] at hR hP hB ⊢
  clear hwa
  have hA := hd9 (hA.out.below hB.out)
  obtain ⟨r0, r1, r2, r3, r4, f0, f1, f2, f3, f4⟩ := cf5 hR.out
  have rl := hR.out.lt
  go_upto_region 3 with fail
  clear r0 r1 r2 r3 r4 f0 f1 f2 f3 f4 rl
  have hR : Hid (Blk (wa.setCell ⟨w.heap.size, 3, none⟩ (.int .i64 cd)) w.heap.size 83 #[.slice A n c, .int .i64 k, .int .i64 e, .int .i64 cd, .int .i64 pl]) := (hR.out.set_ 3 (.int .i64 cd))
  have hP : Hid (Blk (wa.setCell ⟨w.heap.size, 3, none⟩ (.int .i64 cd)) (w.heap.size + 1) 83 #[.slice none 0 0, .int .i64 0, .int .i64 0, .int .i64 0, .int .i64 0]) := (hP.out.far (p := ⟨w.heap.size, 3, none⟩) ne2 _)
  have hB : Hid (Below w.heap.size w (wa.setCell ⟨w.heap.size, 3, none⟩ (.int .i64 cd))) := (hB.out.setCell le9 _)
  obtain ⟨w1, hw⟩ : ∃ x, Hid ((wa.setCell ⟨w.heap.size, 3, none⟩ (.int .i64 cd)) = x) := ⟨_, hd9 rfl⟩
  rw [hw.out] at hR hP hB ⊢
  clear hw hA
  have hA := hd9 (hA0.out.below hB.out)
  obtain ⟨r0, r1, r2, r3, r4, f0, f1, f2, f3, f4⟩ := cf5 hR.out
  have rl := hR.out.lt
  go_upto_region 4 with (go_at_call 72; refine (rplace_any A n c l w1 e i hn hA).mono ?_; rintro x wx ⟨rfl, rfl⟩; rw [hpv.out])
  clear r0 r1 r2 r3 r4 f0 f1 f2 f3 f4 rl
  have hR : Hid (Blk (w1.setCell ⟨w.heap.size, 4, none⟩ (.int .i64 pv)) w.heap.size 83 #[.slice A n c, .int .i64 k, .int .i64 e, .int .i64 cd, .int .i64 pv]) := (hR.out.set_ 4 (.int .i64 pv))
  have hP : Hid (Blk (w1.setCell ⟨w.heap.size, 4, none⟩ (.int .i64 pv)) (w.heap.size + 1) 83 #[.slice none 0 0, .int .i64 0, .int .i64 0, .int .i64 0, .int .i64 0]) := (hP.out.far (p := ⟨w.heap.size, 4, none⟩) ne2 _)
  have hB : Hid (Below w.heap.size w (w1.setCell ⟨w.heap.size, 4, none⟩ (.int .i64 pv))) := (hB.out.setCell le9 _)
  obtain ⟨w2, hw⟩ : ∃ x, Hid ((w1.setCell ⟨w.heap.size, 4, none⟩ (.int .i64 pv)) = x) := ⟨_, hd9 rfl⟩
  rw [hw.out] at hR hP hB ⊢
  clear hw hA
  have hA := hd9 (hA0.out.below hB.out)
  go_wp2_with (first | (refine wpList_get_blk rfl 83 _ rfl w.heap.size #[.slice A n c, .int .i64 k, .int .i64 e, .int .i64 cd, .int .i64 pv] 83 _ rfl hR.out Tryz.underlying83 rfl (by kernel_rfl) ?_) | (refine wpList_put_blk rfl 83 _ _ rfl (w.heap.size + 1) #[.slice none 0 0, .int .i64 0, .int .i64 0, .int .i64 0, .int .i64 0] #[.slice A n c, .int .i64 k, .int .i64 e, .int .i64 cd, .int .i64 pv] 83 rfl rfl hP.out rfl (by kernel_rfl) (rd_one _ _ _ _ _ _ _) ?_; intro w9 hP9 hu9))
  refine bodyPost_ret (results_row rfl _ _ (w.heap.size + 1) 83 _ _ rfl hP9 Tryz.underlying83 rfl (by kernel_rfl)) rfl ?_
  rw [hr.out]
  exact ⟨rfl, hu9.to_below hB.out (by omega) hB.out.size⟩
 ·have b1 : (cd0 == 0) = false := by simp [hz]
  have hr : Hid (failS ⟨k, pl, cd0⟩ (placeI e l i) cd = ⟨k, pl, cd0⟩) := by unfold Hid failS; rw [if_neg hz]
  clear hz
  have hR : Hid (Blk ((w.alloc (.cells #[.slice A n c, .int .i64 k, .int .i64 e, .int .i64 cd0, .int .i64 pl] 83)).alloc (.cells #[.slice none 0 0, .int .i64 0, .int .i64 0, .int .i64 0, .int .i64 0] 83)) w.heap.size 83 #[.slice A n c, .int .i64 k, .int .i64 e, .int .i64 cd0, .int .i64 pl]) := (Blk.new w 83 #[.slice A n c, .int .i64 k, .int .i64 e, .int .i64 cd0, .int .i64 pl]).alloc _
  have hP : Hid (Blk ((w.alloc (.cells #[.slice A n c, .int .i64 k, .int .i64 e, .int .i64 cd0, .int .i64 pl] 83)).alloc (.cells #[.slice none 0 0, .int .i64 0, .int .i64 0, .int .i64 0, .int .i64 0] 83)) (w.heap.size + 1) 83 #[.slice none 0 0, .int .i64 0, .int .i64 0, .int .i64 0, .int .i64 0]) := by
   have h := Blk.new (w.alloc (.cells #[.slice A n c, .int .i64 k, .int .i64 e, .int .i64 cd0, .int .i64 pl] 83)) 83 #[.slice none 0 0, .int .i64 0, .int .i64 0, .int .i64 0, .int .i64 0]
   have hs : (w.alloc (.cells #[.slice A n c, .int .i64 k, .int .i64 e, .int .i64 cd0, .int .i64 pl] 83)).heap.size = w.heap.size + 1 := by simp
   rw [hs] at h; exact h
  have hB : Hid (Below w.heap.size w ((w.alloc (.cells #[.slice A n c, .int .i64 k, .int .i64 e, .int .i64 cd0, .int .i64 pl] 83)).alloc (.cells #[.slice none 0 0, .int .i64 0, .int .i64 0, .int .i64 0, .int .i64 0] 83))) := ((Below.refl _ w).alloc le9 _).alloc (by simp) _
  have ne1 : w.heap.size ≠ w.heap.size + 1 := by omega
  have ne2 : w.heap.size + 1 ≠ w.heap.size := by omega
  go_enter Tryz.func50, Tryz.ntmps50
  go_upto_region 1 with fail
  obtain ⟨wa, hwa⟩ : ∃ x, Hid (((w.alloc (.cells #[.slice A n c, .int .i64 k, .int .i64 e, .int .i64 cd0, .int .i64 pl] 83)).alloc (.cells #[.slice none 0 0, .int .i64 0, .int .i64 0, .int .i64 0, .int .i64 0] 83)) = x) := ⟨_, hd9 rfl⟩
  rw [hwa.out] at hR hP hB ⊢
  clear hwa
  have hA := hd9 (hA.out.below hB.out)
  obtain ⟨r0, r1, r2, r3, r4, f0, f1, f2, f3, f4⟩ := cf5 hR.out
  have rl := hR.out.lt
  go_wp2_with (first | (refine wpList_get_blk rfl 83 _ rfl w.heap.size #[.slice A n c, .int .i64 k, .int .i64 e, .int .i64 cd0, .int .i64 pl] 83 _ rfl hR.out Tryz.underlying83 rfl (by kernel_rfl) ?_) | (refine wpList_put_blk rfl 83 _ _ rfl (w.heap.size + 1) #[.slice none 0 0, .int .i64 0, .int .i64 0, .int .i64 0, .int .i64 0] #[.slice A n c, .int .i64 k, .int .i64 e, .int .i64 cd0, .int .i64 pl] 83 rfl rfl hP.out rfl (by kernel_rfl) (rd_one _ _ _ _ _ _ _) ?_; intro w9 hP9 hu9))
  refine bodyPost_ret (results_row rfl _ _ (w.heap.size + 1) 83 _ _ rfl hP9 Tryz.underlying83 rfl (by kernel_rfl)) rfl ?_
  rw [hr.out]
  exact ⟨rfl, hu9.to_below hB.out (by omega) hB.out.size⟩
set_option maxRecDepth 100000 in
set_option maxHeartbeats 3200000 in
theorem rwd_any (A : Option Addr) (n c : Nat) (l : List Tok) (w : World) (e : Nat) (hn : Hid (l.length = n)) (hm : n ≤ 4096) (x : Txt) (st : St) (hA : Hid (TokAt w 0 A l)) :
  Calls Tryz.prog 49 #[.agg (rdA A n c e st), .string (mkT x)] w fun x' w' => x' = .returned (.agg (rdA A n c e (takeS e l (isT x) st).2)) ∧ Below w.heap.size w w' := by
 obtain ⟨k, pl, cd⟩ := st
 have hA0 := hA
 by_cases hz : cd = 0
 ·subst hz
  obtain ⟨b, hb⟩ : ∃ b, Hid (atI (isT x) l k = b) := ⟨_, hd9 rfl⟩
  have hr := hd9 (take_at (e := e) (pl := pl) hb.out)
  cases b with
  | true =>
   rw [if_pos rfl] at hr
   have hkl : k < n := by
    rcases Nat.lt_or_ge k n with h | h
    ·exact h
    ·exact absurd hb.out (by rw [atI_none (by rw [hn.out]; exact h)]; simp)
   have w1' : IntKind.i64.wrap ((k : Int) + 1) = (k : Int) + 1 := IntWalk.i64_in _ (by omega)
   have hR : Hid (Blk ((w.alloc (.cells #[.slice A n c, .int .i64 k, .int .i64 e, .int .i64 0, .int .i64 pl] 83)).alloc (.cells #[.slice none 0 0, .int .i64 0, .int .i64 0, .int .i64 0, .int .i64 0] 83)) w.heap.size 83 #[.slice A n c, .int .i64 k, .int .i64 e, .int .i64 0, .int .i64 pl]) := (Blk.new w 83 #[.slice A n c, .int .i64 k, .int .i64 e, .int .i64 0, .int .i64 pl]).alloc _
   have hP : Hid (Blk ((w.alloc (.cells #[.slice A n c, .int .i64 k, .int .i64 e, .int .i64 0, .int .i64 pl] 83)).alloc (.cells #[.slice none 0 0, .int .i64 0, .int .i64 0, .int .i64 0, .int .i64 0] 83)) (w.heap.size + 1) 83 #[.slice none 0 0, .int .i64 0, .int .i64 0, .int .i64 0, .int .i64 0]) := by
    have h := Blk.new (w.alloc (.cells #[.slice A n c, .int .i64 k, .int .i64 e, .int .i64 0, .int .i64 pl] 83)) 83 #[.slice none 0 0, .int .i64 0, .int .i64 0, .int .i64 0, .int .i64 0]
    have hs : (w.alloc (.cells #[.slice A n c, .int .i64 k, .int .i64 e, .int .i64 0, .int .i64 pl] 83)).heap.size = w.heap.size + 1 := by simp
    rw [hs] at h; exact h
   have hB : Hid (Below w.heap.size w ((w.alloc (.cells #[.slice A n c, .int .i64 k, .int .i64 e, .int .i64 0, .int .i64 pl] 83)).alloc (.cells #[.slice none 0 0, .int .i64 0, .int .i64 0, .int .i64 0, .int .i64 0] 83))) := ((Below.refl _ w).alloc le9 _).alloc (by simp) _
   have ne1 : w.heap.size ≠ w.heap.size + 1 := by omega
   have ne2 : w.heap.size + 1 ≠ w.heap.size := by omega
   go_enter Tryz.func49, Tryz.ntmps49
   go_upto_region 1 with fail
   obtain ⟨wa, hwa⟩ : ∃ x, Hid (((w.alloc (.cells #[.slice A n c, .int .i64 k, .int .i64 e, .int .i64 0, .int .i64 pl] 83)).alloc (.cells #[.slice none 0 0, .int .i64 0, .int .i64 0, .int .i64 0, .int .i64 0] 83)) = x) := ⟨_, hd9 rfl⟩
   rw [hwa.out] at hR hP hB ⊢
   clear hwa
   have hA := hd9 (hA.out.below hB.out)
   obtain ⟨r0, r1, r2, r3, r4, f0, f1, f2, f3, f4⟩ := cf5 hR.out
   have rl := hR.out.lt
   go_upto_region 6 with (go_at_call 48; refine (ris_any A n c l wa k x hn hA).mono ?_; rintro x1 wx ⟨rfl, rfl⟩; rw [hb.out])
   clear r0 r1 r2 r3 r4 f0 f1 f2 f3 f4 rl
   have hR : Hid (Blk (wa.setCell ⟨w.heap.size, 1, none⟩ (.int .i64 ((k : Int) + 1))) w.heap.size 83 #[.slice A n c, .int .i64 ((k : Int) + 1), .int .i64 e, .int .i64 0, .int .i64 pl]) := (hR.out.set_ 1 (.int .i64 ((k : Int) + 1)))
   have hP : Hid (Blk (wa.setCell ⟨w.heap.size, 1, none⟩ (.int .i64 ((k : Int) + 1))) (w.heap.size + 1) 83 #[.slice none 0 0, .int .i64 0, .int .i64 0, .int .i64 0, .int .i64 0]) := (hP.out.far (p := ⟨w.heap.size, 1, none⟩) ne2 _)
   have hB : Hid (Below w.heap.size w (wa.setCell ⟨w.heap.size, 1, none⟩ (.int .i64 ((k : Int) + 1)))) := (hB.out.setCell le9 _)
   obtain ⟨w1, hw⟩ : ∃ x, Hid ((wa.setCell ⟨w.heap.size, 1, none⟩ (.int .i64 ((k : Int) + 1))) = x) := ⟨_, hd9 rfl⟩
   rw [hw.out] at hR hP hB ⊢
   clear hw hA
   have hA := hd9 (hA0.out.below hB.out)
   go_wp2_with (first | (refine wpList_get_blk rfl 83 _ rfl w.heap.size #[.slice A n c, .int .i64 ((k : Int) + 1), .int .i64 e, .int .i64 0, .int .i64 pl] 83 _ rfl hR.out Tryz.underlying83 rfl (by kernel_rfl) ?_) | (refine wpList_put_blk rfl 83 _ _ rfl (w.heap.size + 1) #[.slice none 0 0, .int .i64 0, .int .i64 0, .int .i64 0, .int .i64 0] #[.slice A n c, .int .i64 ((k : Int) + 1), .int .i64 e, .int .i64 0, .int .i64 pl] 83 rfl rfl hP.out rfl (by kernel_rfl) (rd_one _ _ _ _ _ _ _) ?_; intro w9 hP9 hu9))
   refine bodyPost_ret (results_row rfl _ _ (w.heap.size + 1) 83 _ _ rfl hP9 Tryz.underlying83 rfl (by kernel_rfl)) rfl ?_
   rw [hr.out]
   exact ⟨rfl, hu9.to_below hB.out (by omega) hB.out.size⟩
  | false =>
   rw [if_neg (by simp)] at hr
   have hst := hd9 (show failS ⟨k, pl, 0⟩ (placeI e l k) 2 = ⟨k, placeI e l k, 2⟩ from rfl)
   have hR : Hid (Blk ((w.alloc (.cells #[.slice A n c, .int .i64 k, .int .i64 e, .int .i64 0, .int .i64 pl] 83)).alloc (.cells #[.slice none 0 0, .int .i64 0, .int .i64 0, .int .i64 0, .int .i64 0] 83)) w.heap.size 83 #[.slice A n c, .int .i64 k, .int .i64 e, .int .i64 0, .int .i64 pl]) := (Blk.new w 83 #[.slice A n c, .int .i64 k, .int .i64 e, .int .i64 0, .int .i64 pl]).alloc _
   have hP : Hid (Blk ((w.alloc (.cells #[.slice A n c, .int .i64 k, .int .i64 e, .int .i64 0, .int .i64 pl] 83)).alloc (.cells #[.slice none 0 0, .int .i64 0, .int .i64 0, .int .i64 0, .int .i64 0] 83)) (w.heap.size + 1) 83 #[.slice none 0 0, .int .i64 0, .int .i64 0, .int .i64 0, .int .i64 0]) := by
    have h := Blk.new (w.alloc (.cells #[.slice A n c, .int .i64 k, .int .i64 e, .int .i64 0, .int .i64 pl] 83)) 83 #[.slice none 0 0, .int .i64 0, .int .i64 0, .int .i64 0, .int .i64 0]
    have hs : (w.alloc (.cells #[.slice A n c, .int .i64 k, .int .i64 e, .int .i64 0, .int .i64 pl] 83)).heap.size = w.heap.size + 1 := by simp
    rw [hs] at h; exact h
   have hB : Hid (Below w.heap.size w ((w.alloc (.cells #[.slice A n c, .int .i64 k, .int .i64 e, .int .i64 0, .int .i64 pl] 83)).alloc (.cells #[.slice none 0 0, .int .i64 0, .int .i64 0, .int .i64 0, .int .i64 0] 83))) := ((Below.refl _ w).alloc le9 _).alloc (by simp) _
   have ne1 : w.heap.size ≠ w.heap.size + 1 := by omega
   have ne2 : w.heap.size + 1 ≠ w.heap.size := by omega
   go_enter Tryz.func49, Tryz.ntmps49
   go_upto_region 1 with fail
   obtain ⟨wa, hwa⟩ : ∃ x, Hid (((w.alloc (.cells #[.slice A n c, .int .i64 k, .int .i64 e, .int .i64 0, .int .i64 pl] 83)).alloc (.cells #[.slice none 0 0, .int .i64 0, .int .i64 0, .int .i64 0, .int .i64 0] 83)) = x) := ⟨_, hd9 rfl⟩
   rw [hwa.out] at hR hP hB ⊢
   clear hwa
   have hA := hd9 (hA.out.below hB.out)
   obtain ⟨r0, r1, r2, r3, r4, f0, f1, f2, f3, f4⟩ := cf5 hR.out
   have rl := hR.out.lt
   go_wp2_with (first | (go_at_call 48; refine (ris_any A n c l wa k x hn hA).mono ?_; rintro x1 wx ⟨rfl, rfl⟩; rw [hb.out]) | (go_at_call 50; refine (stop_any A n c l wa e hn ⟨k, pl, 0⟩ k 2 hA).mono ?_; rintro x2 ws ⟨rfl, hbs⟩; rw [hst.out]; have hP := hd9 (hP.out.below hbs hP.out.lt); have hB := hd9 (hB.out.trans (hbs.mono hB.out.size))) | (refine wpList_get_blk rfl 83 _ rfl w.heap.size #[.slice A n c, .int .i64 k, .int .i64 e, .int .i64 0, .int .i64 pl] 83 _ rfl hR.out Tryz.underlying83 rfl (by kernel_rfl) ?_) | (refine wpList_put_blk rfl 83 _ _ rfl (w.heap.size + 1) #[.slice none 0 0, .int .i64 0, .int .i64 0, .int .i64 0, .int .i64 0] #[.slice A n c, .int .i64 k, .int .i64 e, .int .i64 2, .int .i64 (placeI e l k : Nat)] 83 rfl rfl hP.out rfl (by kernel_rfl) (rd_one _ _ _ _ _ _ _) ?_; intro w9 hP9 hu9))
   refine bodyPost_ret (results_row rfl _ _ (w.heap.size + 1) 83 _ _ rfl hP9 Tryz.underlying83 rfl (by kernel_rfl)) rfl ?_
   rw [hr.out]
   exact ⟨rfl, hu9.to_below hB.out (by omega) hB.out.size⟩
 ·have b1 : (cd != 0) = true := by simp [hz]
  have hr : Hid ((takeS e l (isT x) ⟨k, pl, cd⟩).2 = ⟨k, pl, cd⟩) := by unfold Hid; rw [take_bad hz]
  clear hz
  have hR : Hid (Blk ((w.alloc (.cells #[.slice A n c, .int .i64 k, .int .i64 e, .int .i64 cd, .int .i64 pl] 83)).alloc (.cells #[.slice none 0 0, .int .i64 0, .int .i64 0, .int .i64 0, .int .i64 0] 83)) w.heap.size 83 #[.slice A n c, .int .i64 k, .int .i64 e, .int .i64 cd, .int .i64 pl]) := (Blk.new w 83 #[.slice A n c, .int .i64 k, .int .i64 e, .int .i64 cd, .int .i64 pl]).alloc _
  have hP : Hid (Blk ((w.alloc (.cells #[.slice A n c, .int .i64 k, .int .i64 e, .int .i64 cd, .int .i64 pl] 83)).alloc (.cells #[.slice none 0 0, .int .i64 0, .int .i64 0, .int .i64 0, .int .i64 0] 83)) (w.heap.size + 1) 83 #[.slice none 0 0, .int .i64 0, .int .i64 0, .int .i64 0, .int .i64 0]) := by
   have h := Blk.new (w.alloc (.cells #[.slice A n c, .int .i64 k, .int .i64 e, .int .i64 cd, .int .i64 pl] 83)) 83 #[.slice none 0 0, .int .i64 0, .int .i64 0, .int .i64 0, .int .i64 0]
   have hs : (w.alloc (.cells #[.slice A n c, .int .i64 k, .int .i64 e, .int .i64 cd, .int .i64 pl] 83)).heap.size = w.heap.size + 1 := by simp
   rw [hs] at h; exact h
  have hB : Hid (Below w.heap.size w ((w.alloc (.cells #[.slice A n c, .int .i64 k, .int .i64 e, .int .i64 cd, .int .i64 pl] 83)).alloc (.cells #[.slice none 0 0, .int .i64 0, .int .i64 0, .int .i64 0, .int .i64 0] 83))) := ((Below.refl _ w).alloc le9 _).alloc (by simp) _
  have ne1 : w.heap.size ≠ w.heap.size + 1 := by omega
  have ne2 : w.heap.size + 1 ≠ w.heap.size := by omega
  go_enter Tryz.func49, Tryz.ntmps49
  go_upto_region 1 with fail
  obtain ⟨wa, hwa⟩ : ∃ x, Hid (((w.alloc (.cells #[.slice A n c, .int .i64 k, .int .i64 e, .int .i64 cd, .int .i64 pl] 83)).alloc (.cells #[.slice none 0 0, .int .i64 0, .int .i64 0, .int .i64 0, .int .i64 0] 83)) = x) := ⟨_, hd9 rfl⟩
  rw [hwa.out] at hR hP hB ⊢
  clear hwa
  have hA := hd9 (hA.out.below hB.out)
  obtain ⟨r0, r1, r2, r3, r4, f0, f1, f2, f3, f4⟩ := cf5 hR.out
  have rl := hR.out.lt
  go_wp2_with (first | (refine wpList_get_blk rfl 83 _ rfl w.heap.size #[.slice A n c, .int .i64 k, .int .i64 e, .int .i64 cd, .int .i64 pl] 83 _ rfl hR.out Tryz.underlying83 rfl (by kernel_rfl) ?_) | (refine wpList_put_blk rfl 83 _ _ rfl (w.heap.size + 1) #[.slice none 0 0, .int .i64 0, .int .i64 0, .int .i64 0, .int .i64 0] #[.slice A n c, .int .i64 k, .int .i64 e, .int .i64 cd, .int .i64 pl] 83 rfl rfl hP.out rfl (by kernel_rfl) (rd_one _ _ _ _ _ _ _) ?_; intro w9 hP9 hu9))
  refine bodyPost_ret (results_row rfl _ _ (w.heap.size + 1) 83 _ _ rfl hP9 Tryz.underlying83 rfl (by kernel_rfl)) rfl ?_
  rw [hr.out]
  exact ⟨rfl, hu9.to_below hB.out (by omega) hB.out.size⟩
def lineD (e : Nat) (l : List Tok) (x : Txt) (st : St) : Txt × St := ((takeS e l nameT (takeS e l (isT x) st).2).1, (takeS e l (isT sSemi) (takeS e l nameT (takeS e l (isT x) st).2).2).2)
theorem two_ne : (2 : Int) ≠ 0 := by decide
theorem take_fail {e : Nat} {l : List Tok} {p : Tok → Bool} {k pl : Nat} : takeS e l p ⟨k, pl, 2⟩ = ([], ⟨k, pl, 2⟩) := take_bad two_ne
theorem take_full {e : Nat} {l : List Tok} {p : Tok → Bool} {k pl : Nat} {b : Bool} (h : atI p l k = b) : takeS e l p ⟨k, pl, 0⟩ = if b = true then ((match l[k]? with | some t => t.text | none => []), ⟨k + 1, pl, 0⟩) else ([], ⟨k, placeI e l k, 2⟩) := by
 subst h
 unfold takeS askS atI
 simp only [Nat.add_zero]
 cases hl : l[k]? with
 | none => rfl
 | some t => cases hp : p t <;> simp [hp, textS, hl] <;> rfl
set_option maxRecDepth 100000 in
set_option maxHeartbeats 3200000 in
theorem rnamed_any (A : Option Addr) (n c : Nat) (l : List Tok) (w : World) (e : Nat) (hn : Hid (l.length = n)) (hm : n ≤ 4096) (hok : Hid (TokOk l)) (x : Txt) (st : St) (hA : Hid (TokAt w 0 A l)) :
  Calls Tryz.prog 47 #[.agg (rdA A n c e st), .string (mkT x)] w fun x' w' => x' = .returned (.tuple #[.agg (rdA A n c e (lineD e l x st).2), .string ⟨(lineD e l x st).1.toArray⟩]) ∧ Below w.heap.size w w' := by
 have hA0 := hA
 obtain ⟨⟨k1, pl1, cd1⟩, h1⟩ : ∃ s, Hid ((takeS e l (isT x) st).2 = s) := ⟨_, hd9 rfl⟩
 have hlD : Hid (lineD e l x st = ((takeS e l nameT ⟨k1, pl1, cd1⟩).1, (takeS e l (isT sSemi) (takeS e l nameT ⟨k1, pl1, cd1⟩).2).2)) := by unfold Hid lineD; rw [h1.out]
 obtain ⟨k, pl, cd⟩ := st
 have hR : Hid (Blk ((w.alloc (.cells #[.slice A n c, .int .i64 k, .int .i64 e, .int .i64 cd, .int .i64 pl] 83)).alloc (.cells #[.slice none 0 0, .int .i64 0, .int .i64 0, .int .i64 0, .int .i64 0] 83)) w.heap.size 83 #[.slice A n c, .int .i64 k, .int .i64 e, .int .i64 cd, .int .i64 pl]) := (Blk.new w 83 #[.slice A n c, .int .i64 k, .int .i64 e, .int .i64 cd, .int .i64 pl]).alloc _
 have hP : Hid (Blk ((w.alloc (.cells #[.slice A n c, .int .i64 k, .int .i64 e, .int .i64 cd, .int .i64 pl] 83)).alloc (.cells #[.slice none 0 0, .int .i64 0, .int .i64 0, .int .i64 0, .int .i64 0] 83)) (w.heap.size + 1) 83 #[.slice none 0 0, .int .i64 0, .int .i64 0, .int .i64 0, .int .i64 0]) := by
  have h := Blk.new (w.alloc (.cells #[.slice A n c, .int .i64 k, .int .i64 e, .int .i64 cd, .int .i64 pl] 83)) 83 #[.slice none 0 0, .int .i64 0, .int .i64 0, .int .i64 0, .int .i64 0]
  have hs : (w.alloc (.cells #[.slice A n c, .int .i64 k, .int .i64 e, .int .i64 cd, .int .i64 pl] 83)).heap.size = w.heap.size + 1 := by simp
  rw [hs] at h; exact h
 have hB : Hid (Below w.heap.size w ((w.alloc (.cells #[.slice A n c, .int .i64 k, .int .i64 e, .int .i64 cd, .int .i64 pl] 83)).alloc (.cells #[.slice none 0 0, .int .i64 0, .int .i64 0, .int .i64 0, .int .i64 0] 83))) := ((Below.refl _ w).alloc le9 _).alloc (by simp) _
 have ne1 : w.heap.size ≠ w.heap.size + 1 := by omega
 have ne2 : w.heap.size + 1 ≠ w.heap.size := by omega
 go_enter Tryz.func47, Tryz.ntmps47
 go_upto_region 1 with fail
 obtain ⟨wa, hwa⟩ : ∃ x, Hid (((w.alloc (.cells #[.slice A n c, .int .i64 k, .int .i64 e, .int .i64 cd, .int .i64 pl] 83)).alloc (.cells #[.slice none 0 0, .int .i64 0, .int .i64 0, .int .i64 0, .int .i64 0] 83)) = x) := ⟨_, hd9 rfl⟩
 rw [hwa.out] at hR hP hB ⊢
 clear hwa
 have hA := hd9 (hA.out.below hB.out)
 go_upto_region 2 with (first | (go_at_call 49; refine (rwd_any A n c l wa e hn hm x ⟨k, pl, cd⟩ hA).mono ?_; rintro x2 w1 ⟨rfl, hb1⟩; rw [h1.out]; have hP := hd9 (hP.out.below hb1 hP.out.lt); have hR := hd9 (hR.out.below hb1 hR.out.lt); have hB := hd9 (hB.out.trans (hb1.mono hB.out.size)); have hA := hd9 (hA.out.below hb1)) | (refine wpList_get_blk rfl 83 _ rfl w.heap.size #[.slice A n c, .int .i64 k, .int .i64 e, .int .i64 cd, .int .i64 pl] 83 _ rfl hR.out Tryz.underlying83 rfl (by kernel_rfl) ?_) | (refine wpList_put_blk rfl 83 _ _ rfl w.heap.size #[.slice A n c, .int .i64 k, .int .i64 e, .int .i64 cd, .int .i64 pl] #[.slice A n c, .int .i64 k1, .int .i64 e, .int .i64 cd1, .int .i64 pl1] 83 rfl rfl hR.out rfl (by kernel_rfl) (rd_one _ _ _ _ _ _ _) ?_; intro w2 hR9 hu8))
 have hR := hd9 hR9
 have hP := hd9 (hu8.blk hP.out ne2)
 have hB : Hid (Below w.heap.size w w2) := hu8.to_below hB.out le9 hB.out.size
 clear hR9 hu8 hA
 have hA := hd9 (hA0.out.below hB.out)
 by_cases hz : cd1 = 0
 ·subst hz
  obtain ⟨b, hb⟩ : ∃ b, Hid (atI nameT l k1 = b) := ⟨_, hd9 rfl⟩
  have htk := hd9 (take_full (e := e) (pl := pl1) hb.out)
  obtain ⟨r0, r1, r2, r3, r4, f0, f1, f2, f3, f4⟩ := cf5 hR.out
  have rl := hR.out.lt
  cases b with
  | false =>
   rw [if_neg (by simp)] at htk
   have hst := hd9 (show failS ⟨k1, pl1, 0⟩ (placeI e l k1) 2 = ⟨k1, placeI e l k1, 2⟩ from rfl)
   have hr : Hid (lineD e l x ⟨k, pl, cd⟩ = ([], ⟨k1, placeI e l k1, 2⟩)) := by unfold Hid; rw [hlD.out, htk.out, take_fail]
   go_wp2_with (first | (go_at_call 96; refine (rnm_any A n c l w2 k1 hn hok hA).mono ?_; rintro x1 wx ⟨rfl, rfl⟩; rw [hb.out]) | (go_at_call 50; refine (stop_any A n c l w2 e hn ⟨k1, pl1, 0⟩ k1 2 hA).mono ?_; rintro x2 ws ⟨rfl, hbs⟩; rw [hst.out]; have hP := hd9 (hP.out.below hbs hP.out.lt); have hR := hd9 (hR.out.below hbs hR.out.lt); have hB := hd9 (hB.out.trans (hbs.mono hB.out.size)); have hA := hd9 (hA.out.below hbs)) | (refine wpList_get_blk rfl 83 _ rfl w.heap.size #[.slice A n c, .int .i64 k1, .int .i64 e, .int .i64 0, .int .i64 pl1] 83 _ rfl hR.out Tryz.underlying83 rfl (by kernel_rfl) ?_) | (refine wpList_put_blk rfl 83 _ _ rfl (w.heap.size + 1) #[.slice none 0 0, .int .i64 0, .int .i64 0, .int .i64 0, .int .i64 0] #[.slice A n c, .int .i64 k1, .int .i64 e, .int .i64 2, .int .i64 (placeI e l k1 : Nat)] 83 rfl rfl hP.out rfl (by kernel_rfl) (rd_one _ _ _ _ _ _ _) ?_; intro w9 hP9 hu9))
   refine bodyPost_ret (results_row_tmp1 rfl _ _ (w.heap.size + 1) 83 _ _ rfl hP9 Tryz.underlying83 rfl (by kernel_rfl)) rfl ?_
   rw [hr.out]
   exact ⟨rfl, hu9.to_below hB.out (by omega) hB.out.size⟩
  | true =>
   rw [if_pos rfl] at htk
   have hkl : k1 < n := by
    rcases Nat.lt_or_ge k1 n with h | h
    ·exact h
    ·exact absurd hb.out (by rw [atI_none (by rw [hn.out]; exact h)]; simp)
   obtain ⟨t, ht⟩ : ∃ t, l[k1]? = some t := ⟨_, List.getElem?_eq_getElem (by rw [hn.out]; exact hkl)⟩
   rw [ht] at htk
   simp only at htk
   obtain ⟨⟨k3, pl3, cd3⟩, h3⟩ : ∃ s, Hid ((takeS e l (isT sSemi) ⟨k1 + 1, pl1, 0⟩).2 = s) := ⟨_, hd9 rfl⟩
   have hr : Hid (lineD e l x ⟨k, pl, cd⟩ = (t.text, ⟨k3, pl3, cd3⟩)) := by unfold Hid; rw [hlD.out, htk.out]; simp only; rw [h3.out]
   obtain ⟨g, off, rfl, hg, g0, g1, g2⟩ := hA.out k1 t ht
   have w1' : IntKind.i64.wrap ((k1 : Int) + 1) = (k1 : Int) + 1 := IntWalk.i64_in _ (by omega)
   have i1 : (k1 : Int) < (n : Int) := by omega
   have i2 : (0 : Int) ≤ (k1 : Int) := by omega
   clear ht
   go_upto_region 8 with (go_at_call 96; refine (rnm_any (some ⟨g, off, none⟩) n c l w2 k1 hn hok hA).mono ?_; rintro x1 wx ⟨rfl, rfl⟩; rw [hb.out])
   clear r0 r1 r2 r3 r4 f0 f1 f2 f3 f4 rl
   clear g0 g1 g2
   have hR : Hid (Blk (w2.setCell ⟨w.heap.size, 1, none⟩ (.int .i64 ((k1 : Int) + 1))) w.heap.size 83 #[.slice (some ⟨g, off, none⟩) n c, .int .i64 ((k1 : Int) + 1), .int .i64 e, .int .i64 0, .int .i64 pl1]) := (hR.out.set_ 1 (.int .i64 ((k1 : Int) + 1)))
   have hP : Hid (Blk (w2.setCell ⟨w.heap.size, 1, none⟩ (.int .i64 ((k1 : Int) + 1))) (w.heap.size + 1) 83 #[.slice none 0 0, .int .i64 0, .int .i64 0, .int .i64 0, .int .i64 0]) := (hP.out.far (p := ⟨w.heap.size, 1, none⟩) ne2 _)
   have hB : Hid (Below w.heap.size w (w2.setCell ⟨w.heap.size, 1, none⟩ (.int .i64 ((k1 : Int) + 1)))) := (hB.out.setCell le9 _)
   obtain ⟨w1, hw⟩ : ∃ x, Hid ((w2.setCell ⟨w.heap.size, 1, none⟩ (.int .i64 ((k1 : Int) + 1))) = x) := ⟨_, hd9 rfl⟩
   rw [hw.out] at hR hP hB ⊢
   clear hw hA
   have hA := hd9 (hA0.out.below hB.out)
   go_wp2_with (first | (go_at_call 49; refine (rwd_any (some ⟨g, off, none⟩) n c l w1 e hn hm sSemi ⟨k1 + 1, pl1, 0⟩ hA).mono ?_; rintro x2 w5 ⟨rfl, hb3⟩; rw [h3.out]; have hP := hd9 (hP.out.below hb3 hP.out.lt); have hR := hd9 (hR.out.below hb3 hR.out.lt); have hB := hd9 (hB.out.trans (hb3.mono hB.out.size)); have hA := hd9 (hA.out.below hb3)) | (refine wpList_get_blk rfl 83 _ rfl w.heap.size #[.slice (some ⟨g, off, none⟩) n c, .int .i64 ((k1 : Int) + 1), .int .i64 e, .int .i64 0, .int .i64 pl1] 83 _ rfl hR.out Tryz.underlying83 rfl (by kernel_rfl) ?_) | (refine wpList_put_blk rfl 83 _ _ rfl (w.heap.size + 1) #[.slice none 0 0, .int .i64 0, .int .i64 0, .int .i64 0, .int .i64 0] #[.slice (some ⟨g, off, none⟩) n c, .int .i64 k3, .int .i64 e, .int .i64 cd3, .int .i64 pl3] 83 rfl rfl hP.out rfl (by kernel_rfl) (rd_one _ _ _ _ _ _ _) ?_; intro w9 hP9 hu9))
   refine bodyPost_ret (results_row_tmp1 rfl _ _ (w.heap.size + 1) 83 _ _ rfl hP9 Tryz.underlying83 rfl (by kernel_rfl)) rfl ?_
   rw [hr.out]
   exact ⟨rfl, hu9.to_below hB.out (by omega) hB.out.size⟩
 ·have b1 : (cd1 != 0) = true := by simp [hz]
  have hr : Hid (lineD e l x ⟨k, pl, cd⟩ = ([], ⟨k1, pl1, cd1⟩)) := by unfold Hid; rw [hlD.out, take_bad (show (⟨k1, pl1, cd1⟩ : St).cd ≠ 0 from hz), take_bad (show (⟨k1, pl1, cd1⟩ : St).cd ≠ 0 from hz)]
  clear hz
  obtain ⟨r0, r1, r2, r3, r4, f0, f1, f2, f3, f4⟩ := cf5 hR.out
  have rl := hR.out.lt
  go_wp2_with (first | (refine wpList_get_blk rfl 83 _ rfl w.heap.size #[.slice A n c, .int .i64 k1, .int .i64 e, .int .i64 cd1, .int .i64 pl1] 83 _ rfl hR.out Tryz.underlying83 rfl (by kernel_rfl) ?_) | (refine wpList_put_blk rfl 83 _ _ rfl (w.heap.size + 1) #[.slice none 0 0, .int .i64 0, .int .i64 0, .int .i64 0, .int .i64 0] #[.slice A n c, .int .i64 k1, .int .i64 e, .int .i64 cd1, .int .i64 pl1] 83 rfl rfl hP.out rfl (by kernel_rfl) (rd_one _ _ _ _ _ _ _) ?_; intro w9 hP9 hu9))
  refine bodyPost_ret (results_row_tmp1 rfl _ _ (w.heap.size + 1) 83 _ _ rfl hP9 Tryz.underlying83 rfl (by kernel_rfl)) rfl ?_
  rw [hr.out]
  exact ⟨rfl, hu9.to_below hB.out (by omega) hB.out.size⟩
def numD (e : Nat) (l : List Tok) (lo hi : Int) (st : St) : Int × St :=
 if (takeS e l (kindB 2) st).2.cd = 0 then (if (numV (takeS e l (kindB 2) st).1 : Int) < lo ∨ hi < (numV (takeS e l (kindB 2) st).1 : Int) then (0, failS st (placeS e l st) 3) else ((numV (takeS e l (kindB 2) st).1 : Int), (takeS e l (kindB 2) st).2))
 else (0, (takeS e l (kindB 2) st).2)
def toldD (e : Nat) (l : List Tok) (x : Txt) (st : St) : Int × St := ((numD e l 0 1048576 (takeS e l (isT x) st).2).1, (takeS e l (isT sSemi) (numD e l 0 1048576 (takeS e l (isT x) st).2).2).2)
def withinD (e : Nat) (l : List Tok) (x : Txt) (st : St) : Int × St := ((numD e l 0 1048576 (takeS e l (isT x) st).2).1, (takeS e l (isT sSemi) (takeS e l (isT wDays) (numD e l 0 1048576 (takeS e l (isT x) st).2).2).2).2)
def eitherD (e : Nat) (l : List Tok) (x : Txt) (st : St) : Bool × St :=
 if (takeS e l (isT x) st).2.cd = 0 ∧ atI (isT wYes) l (takeS e l (isT x) st).2.k = true then (true, (takeS e l (isT sSemi) (takeS e l (isT x) st).2.step).2)
 else (false, (takeS e l (isT sSemi) (takeS e l (isT wNo) (takeS e l (isT x) st).2).2).2)
set_option maxRecDepth 100000 in
set_option maxHeartbeats 25600000 in
theorem ramount_any (A : Option Addr) (n c : Nat) (l : List Tok) (w : World) (e : Nat) (hn : Hid (l.length = n)) (hm : n ≤ 4096) (hok : Hid (TokOk l)) (lo hi : Int) (st : St) (hA : Hid (TokAt w 0 A l)) :
  Calls Tryz.prog 51 #[.agg (rdA A n c e st), .int .i64 lo, .int .i64 hi] w fun x' w' => x' = .returned (.tuple #[.agg (rdA A n c e (numD e l lo hi st).2), .int .i64 (numD e l lo hi st).1]) ∧ Below w.heap.size w w' := by
 have hA0 := hA
 obtain ⟨k, pl, cd⟩ := st
 by_cases hz : cd = 0
 ·subst hz
  obtain ⟨b, hb⟩ : ∃ b, Hid (atI (kindB 2) l k = b) := ⟨_, hd9 rfl⟩
  have htk := hd9 (take_full (e := e) (pl := pl) hb.out)
  cases b with
  | false =>
   rw [if_neg (by simp)] at htk
   have hr : Hid (numD e l lo hi ⟨k, pl, 0⟩ = (0, ⟨k, placeI e l k, 2⟩)) := by unfold Hid numD; rw [htk.out, if_neg (show ¬ (2 : Int) = 0 from two_ne)]
   have hst := hd9 (show failS ⟨k, pl, 0⟩ (placeI e l k) 2 = ⟨k, placeI e l k, 2⟩ from rfl)
   by_cases hkl : k < n
   ·obtain ⟨t, ht⟩ : ∃ t, l[k]? = some t := ⟨_, List.getElem?_eq_getElem (by rw [hn.out]; exact hkl)⟩
    have hkd : (t.kind != 2) = true := by have h := hb.out; rw [atI_some ht] at h; unfold kindB at h; simpa using h
    obtain ⟨g, off, rfl, hg, g0, g1, g2⟩ := hA.out k t ht
    have hgg := hd9 g0
    clear ht g0 g1 g2
    have hR : Hid (Blk ((w.alloc (.cells #[.slice (some ⟨g, off, none⟩) n c, .int .i64 k, .int .i64 e, .int .i64 0, .int .i64 pl] 83)).alloc (.cells #[.slice none 0 0, .int .i64 0, .int .i64 0, .int .i64 0, .int .i64 0] 83)) w.heap.size 83 #[.slice (some ⟨g, off, none⟩) n c, .int .i64 k, .int .i64 e, .int .i64 0, .int .i64 pl]) := (Blk.new w 83 #[.slice (some ⟨g, off, none⟩) n c, .int .i64 k, .int .i64 e, .int .i64 0, .int .i64 pl]).alloc _
    have hP : Hid (Blk ((w.alloc (.cells #[.slice (some ⟨g, off, none⟩) n c, .int .i64 k, .int .i64 e, .int .i64 0, .int .i64 pl] 83)).alloc (.cells #[.slice none 0 0, .int .i64 0, .int .i64 0, .int .i64 0, .int .i64 0] 83)) (w.heap.size + 1) 83 #[.slice none 0 0, .int .i64 0, .int .i64 0, .int .i64 0, .int .i64 0]) := by
     have h := Blk.new (w.alloc (.cells #[.slice (some ⟨g, off, none⟩) n c, .int .i64 k, .int .i64 e, .int .i64 0, .int .i64 pl] 83)) 83 #[.slice none 0 0, .int .i64 0, .int .i64 0, .int .i64 0, .int .i64 0]
     have hs : (w.alloc (.cells #[.slice (some ⟨g, off, none⟩) n c, .int .i64 k, .int .i64 e, .int .i64 0, .int .i64 pl] 83)).heap.size = w.heap.size + 1 := by simp
     rw [hs] at h; exact h
    have hB : Hid (Below w.heap.size w ((w.alloc (.cells #[.slice (some ⟨g, off, none⟩) n c, .int .i64 k, .int .i64 e, .int .i64 0, .int .i64 pl] 83)).alloc (.cells #[.slice none 0 0, .int .i64 0, .int .i64 0, .int .i64 0, .int .i64 0] 83))) := ((Below.refl _ w).alloc le9 _).alloc (by simp) _
    have ne1 : w.heap.size ≠ w.heap.size + 1 := by omega
    have ne2 : w.heap.size + 1 ≠ w.heap.size := by omega
    go_enter Tryz.func51, Tryz.ntmps51
    go_upto_region 1 with fail
    obtain ⟨wa, hwa⟩ : ∃ x, Hid (((w.alloc (.cells #[.slice (some ⟨g, off, none⟩) n c, .int .i64 k, .int .i64 e, .int .i64 0, .int .i64 pl] 83)).alloc (.cells #[.slice none 0 0, .int .i64 0, .int .i64 0, .int .i64 0, .int .i64 0] 83)) = x) := ⟨_, hd9 rfl⟩
    rw [hwa.out] at hR hP hB ⊢
    clear hwa
    have hA := hd9 (hA.out.below hB.out)
    obtain ⟨r0, r1, r2, r3, r4, f0, f1, f2, f3, f4⟩ := cf5 hR.out
    have rl := hR.out.lt
    obtain ⟨tk, htkk⟩ : ∃ q, Hid (t.kind = q) := ⟨_, hd9 rfl⟩
    rw [htkk.out] at hkd hgg
    have g0 : wa.cell? ⟨g, off + k * 3, none⟩ = some (.int .i64 tk) := (hB.out.cell (World.block_lt_of_cell? w _ hgg.out)).trans hgg.out
    have i1 : (k : Int) < (n : Int) := by omega
    have i2 : (0 : Int) ≤ (k : Int) := by omega
    have b1 : decide ((n : Int) ≤ (k : Int)) = false := by simp; omega
    have b2 : ¬ n ≤ k := by omega
    go_wp2_with (first | (go_at_call 50; refine (stop_any (some ⟨g, off, none⟩) n c l wa e hn ⟨k, pl, 0⟩ k 2 hA).mono ?_; rintro x2 ws ⟨rfl, hbs⟩; rw [hst.out]; have hP := hd9 (hP.out.below hbs hP.out.lt); have hR := hd9 (hR.out.below hbs hR.out.lt); have hB := hd9 (hB.out.trans (hbs.mono hB.out.size)); have hA := hd9 (hA.out.below hbs)) | (refine wpList_get_blk rfl 83 _ rfl w.heap.size #[.slice (some ⟨g, off, none⟩) n c, .int .i64 k, .int .i64 e, .int .i64 0, .int .i64 pl] 83 _ rfl hR.out Tryz.underlying83 rfl (by kernel_rfl) ?_) | (refine wpList_put_blk rfl 83 _ _ rfl (w.heap.size + 1) #[.slice none 0 0, .int .i64 0, .int .i64 0, .int .i64 0, .int .i64 0] #[.slice (some ⟨g, off, none⟩) n c, .int .i64 k, .int .i64 e, .int .i64 2, .int .i64 (placeI e l k : Nat)] 83 rfl rfl hP.out rfl (by kernel_rfl) (rd_one _ _ _ _ _ _ _) ?_; intro w9 hP9 hu9))
    refine bodyPost_ret (results_row_tmp1 rfl _ _ (w.heap.size + 1) 83 _ _ rfl hP9 Tryz.underlying83 rfl (by kernel_rfl)) rfl ?_
    rw [hr.out]
    exact ⟨rfl, hu9.to_below hB.out (by omega) hB.out.size⟩
   ·skip
    have hR : Hid (Blk ((w.alloc (.cells #[.slice A n c, .int .i64 k, .int .i64 e, .int .i64 0, .int .i64 pl] 83)).alloc (.cells #[.slice none 0 0, .int .i64 0, .int .i64 0, .int .i64 0, .int .i64 0] 83)) w.heap.size 83 #[.slice A n c, .int .i64 k, .int .i64 e, .int .i64 0, .int .i64 pl]) := (Blk.new w 83 #[.slice A n c, .int .i64 k, .int .i64 e, .int .i64 0, .int .i64 pl]).alloc _
    have hP : Hid (Blk ((w.alloc (.cells #[.slice A n c, .int .i64 k, .int .i64 e, .int .i64 0, .int .i64 pl] 83)).alloc (.cells #[.slice none 0 0, .int .i64 0, .int .i64 0, .int .i64 0, .int .i64 0] 83)) (w.heap.size + 1) 83 #[.slice none 0 0, .int .i64 0, .int .i64 0, .int .i64 0, .int .i64 0]) := by
     have h := Blk.new (w.alloc (.cells #[.slice A n c, .int .i64 k, .int .i64 e, .int .i64 0, .int .i64 pl] 83)) 83 #[.slice none 0 0, .int .i64 0, .int .i64 0, .int .i64 0, .int .i64 0]
     have hs : (w.alloc (.cells #[.slice A n c, .int .i64 k, .int .i64 e, .int .i64 0, .int .i64 pl] 83)).heap.size = w.heap.size + 1 := by simp
     rw [hs] at h; exact h
    have hB : Hid (Below w.heap.size w ((w.alloc (.cells #[.slice A n c, .int .i64 k, .int .i64 e, .int .i64 0, .int .i64 pl] 83)).alloc (.cells #[.slice none 0 0, .int .i64 0, .int .i64 0, .int .i64 0, .int .i64 0] 83))) := ((Below.refl _ w).alloc le9 _).alloc (by simp) _
    have ne1 : w.heap.size ≠ w.heap.size + 1 := by omega
    have ne2 : w.heap.size + 1 ≠ w.heap.size := by omega
    go_enter Tryz.func51, Tryz.ntmps51
    go_upto_region 1 with fail
    obtain ⟨wa, hwa⟩ : ∃ x, Hid (((w.alloc (.cells #[.slice A n c, .int .i64 k, .int .i64 e, .int .i64 0, .int .i64 pl] 83)).alloc (.cells #[.slice none 0 0, .int .i64 0, .int .i64 0, .int .i64 0, .int .i64 0] 83)) = x) := ⟨_, hd9 rfl⟩
    rw [hwa.out] at hR hP hB ⊢
    clear hwa
    have hA := hd9 (hA.out.below hB.out)
    obtain ⟨r0, r1, r2, r3, r4, f0, f1, f2, f3, f4⟩ := cf5 hR.out
    have rl := hR.out.lt
    have b1 : decide ((n : Int) ≤ (k : Int)) = true := by simp; omega
    have b2 : n ≤ k := by omega
    go_wp2_with (first | (go_at_call 50; refine (stop_any A n c l wa e hn ⟨k, pl, 0⟩ k 2 hA).mono ?_; rintro x2 ws ⟨rfl, hbs⟩; rw [hst.out]; have hP := hd9 (hP.out.below hbs hP.out.lt); have hR := hd9 (hR.out.below hbs hR.out.lt); have hB := hd9 (hB.out.trans (hbs.mono hB.out.size)); have hA := hd9 (hA.out.below hbs)) | (refine wpList_get_blk rfl 83 _ rfl w.heap.size #[.slice A n c, .int .i64 k, .int .i64 e, .int .i64 0, .int .i64 pl] 83 _ rfl hR.out Tryz.underlying83 rfl (by kernel_rfl) ?_) | (refine wpList_put_blk rfl 83 _ _ rfl (w.heap.size + 1) #[.slice none 0 0, .int .i64 0, .int .i64 0, .int .i64 0, .int .i64 0] #[.slice A n c, .int .i64 k, .int .i64 e, .int .i64 2, .int .i64 (placeI e l k : Nat)] 83 rfl rfl hP.out rfl (by kernel_rfl) (rd_one _ _ _ _ _ _ _) ?_; intro w9 hP9 hu9))
    refine bodyPost_ret (results_row_tmp1 rfl _ _ (w.heap.size + 1) 83 _ _ rfl hP9 Tryz.underlying83 rfl (by kernel_rfl)) rfl ?_
    rw [hr.out]
    exact ⟨rfl, hu9.to_below hB.out (by omega) hB.out.size⟩
  | true =>
   rw [if_pos rfl] at htk
   have hkl : k < n := by
    rcases Nat.lt_or_ge k n with h | h
    ·exact h
    ·exact absurd hb.out (by rw [atI_none (by rw [hn.out]; exact h)]; simp)
   obtain ⟨t, ht⟩ : ∃ t, l[k]? = some t := ⟨_, List.getElem?_eq_getElem (by rw [hn.out]; exact hkl)⟩
   rw [ht] at htk
   simp only at htk
   have hkd0 : t.kind = 2 := by have h := hb.out; rw [atI_some ht] at h; unfold kindB at h; simpa using h
   obtain ⟨hlen, hnum⟩ := hok.out k t ht
   obtain ⟨hd, hne, hmx⟩ := hnum hkd0
   obtain ⟨v, hv⟩ : ∃ v, Hid (numV t.text = v) := ⟨_, hd9 rfl⟩
   have hcall := hd9 (fun W => rnumber_any ⟨t.text.toArray⟩ W (by unfold maxLen; simp [ByteArray.size]; omega) (hd9 (by simpa using hd)) (hd9 (by unfold mostN at hmx; simpa using hmx)))
   have hte : (⟨t.text.toArray⟩ : ByteArray).data.toList = t.text := by simp
   rw [hte, hv.out] at hcall
   have hpl : Hid (placeS e l ⟨k, pl, 0⟩ = placeI e l k) := rfl
   have hnD : Hid (numD e l lo hi ⟨k, pl, 0⟩ = if (v : Int) < lo ∨ hi < (v : Int) then (0, ⟨k, placeI e l k, 3⟩) else ((v : Int), ⟨k + 1, pl, 0⟩)) := by unfold Hid numD; rw [htk.out]; simp only; rw [if_pos trivial, hv.out, hpl.out]; rfl
   obtain ⟨g, off, rfl, hg, g0, g1, g2⟩ := hA.out k t ht
   have hg0 : Hid (w.cell? ⟨g, off + k * 3, none⟩ = some (.int .i64 2)) := by rw [← hkd0]; exact g0
   have hg2 := hd9 g2
   clear ht g0 g1 g2 hd hne hmx hnum hte hlen hkd0
   have w1' : IntKind.i64.wrap ((k : Int) + 1) = (k : Int) + 1 := IntWalk.i64_in _ (by omega)
   have i1 : (k : Int) < (n : Int) := by omega
   have i2 : (0 : Int) ≤ (k : Int) := by omega
   have b1 : decide ((n : Int) ≤ (k : Int)) = false := by simp; omega
   have b2 : ¬ n ≤ k := by omega
   by_cases c1 : (v : Int) < lo
   ·have b3 : decide ((v : Int) < lo) = true := by simp; omega
    have hr : Hid (numD e l lo hi ⟨k, pl, 0⟩ = (0, ⟨k, placeI e l k, 3⟩)) := by unfold Hid; rw [hnD.out, if_pos (.inl c1)]
    have hR : Hid (Blk ((w.alloc (.cells #[.slice (some ⟨g, off, none⟩) n c, .int .i64 k, .int .i64 e, .int .i64 0, .int .i64 pl] 83)).alloc (.cells #[.slice none 0 0, .int .i64 0, .int .i64 0, .int .i64 0, .int .i64 0] 83)) w.heap.size 83 #[.slice (some ⟨g, off, none⟩) n c, .int .i64 k, .int .i64 e, .int .i64 0, .int .i64 pl]) := (Blk.new w 83 #[.slice (some ⟨g, off, none⟩) n c, .int .i64 k, .int .i64 e, .int .i64 0, .int .i64 pl]).alloc _
    have hP : Hid (Blk ((w.alloc (.cells #[.slice (some ⟨g, off, none⟩) n c, .int .i64 k, .int .i64 e, .int .i64 0, .int .i64 pl] 83)).alloc (.cells #[.slice none 0 0, .int .i64 0, .int .i64 0, .int .i64 0, .int .i64 0] 83)) (w.heap.size + 1) 83 #[.slice none 0 0, .int .i64 0, .int .i64 0, .int .i64 0, .int .i64 0]) := by
     have h := Blk.new (w.alloc (.cells #[.slice (some ⟨g, off, none⟩) n c, .int .i64 k, .int .i64 e, .int .i64 0, .int .i64 pl] 83)) 83 #[.slice none 0 0, .int .i64 0, .int .i64 0, .int .i64 0, .int .i64 0]
     have hs : (w.alloc (.cells #[.slice (some ⟨g, off, none⟩) n c, .int .i64 k, .int .i64 e, .int .i64 0, .int .i64 pl] 83)).heap.size = w.heap.size + 1 := by simp
     rw [hs] at h; exact h
    have hB : Hid (Below w.heap.size w ((w.alloc (.cells #[.slice (some ⟨g, off, none⟩) n c, .int .i64 k, .int .i64 e, .int .i64 0, .int .i64 pl] 83)).alloc (.cells #[.slice none 0 0, .int .i64 0, .int .i64 0, .int .i64 0, .int .i64 0] 83))) := ((Below.refl _ w).alloc le9 _).alloc (by simp) _
    have ne1 : w.heap.size ≠ w.heap.size + 1 := by omega
    have ne2 : w.heap.size + 1 ≠ w.heap.size := by omega
    go_enter Tryz.func51, Tryz.ntmps51
    go_upto_region 1 with fail
    obtain ⟨wa, hwa⟩ : ∃ x, Hid (((w.alloc (.cells #[.slice (some ⟨g, off, none⟩) n c, .int .i64 k, .int .i64 e, .int .i64 0, .int .i64 pl] 83)).alloc (.cells #[.slice none 0 0, .int .i64 0, .int .i64 0, .int .i64 0, .int .i64 0] 83)) = x) := ⟨_, hd9 rfl⟩
    rw [hwa.out] at hR hP hB ⊢
    clear hwa
    have hA := hd9 (hA.out.below hB.out)
    obtain ⟨r0, r1, r2, r3, r4, f0, f1, f2, f3, f4⟩ := cf5 hR.out
    have rl := hR.out.lt
    have g0 : wa.cell? ⟨g, off + k * 3, none⟩ = some (.int .i64 2) := (hB.out.cell (World.block_lt_of_cell? w _ hg0.out)).trans hg0.out
    have g2 : wa.cell? ⟨g, off + k * 3 + 2, none⟩ = some (.string ⟨t.text.toArray⟩) := (hB.out.cell (World.block_lt_of_cell? w _ hg2.out)).trans hg2.out
    have hst := hd9 (show failS ⟨k, pl, 0⟩ (placeI e l k) 3 = ⟨k, placeI e l k, 3⟩ from rfl)
    go_wp2_with (first | (go_at_call 97; refine (hcall.out wa).mono ?_; rintro x1 wx ⟨rfl, rfl⟩) | (go_at_call 50; refine (stop_any (some ⟨g, off, none⟩) n c l wa e hn ⟨k, pl, 0⟩ k 3 hA).mono ?_; rintro x2 ws ⟨rfl, hbs⟩; rw [hst.out]; have hP := hd9 (hP.out.below hbs hP.out.lt); have hR := hd9 (hR.out.below hbs hR.out.lt); have hB := hd9 (hB.out.trans (hbs.mono hB.out.size)); have hA := hd9 (hA.out.below hbs)) | (refine wpList_get_blk rfl 83 _ rfl w.heap.size #[.slice (some ⟨g, off, none⟩) n c, .int .i64 k, .int .i64 e, .int .i64 0, .int .i64 pl] 83 _ rfl hR.out Tryz.underlying83 rfl (by kernel_rfl) ?_) | (refine wpList_put_blk rfl 83 _ _ rfl (w.heap.size + 1) #[.slice none 0 0, .int .i64 0, .int .i64 0, .int .i64 0, .int .i64 0] #[.slice (some ⟨g, off, none⟩) n c, .int .i64 k, .int .i64 e, .int .i64 3, .int .i64 (placeI e l k : Nat)] 83 rfl rfl hP.out rfl (by kernel_rfl) (rd_one _ _ _ _ _ _ _) ?_; intro w9 hP9 hu9))
    refine bodyPost_ret (results_row_tmp1 rfl _ _ (w.heap.size + 1) 83 _ _ rfl hP9 Tryz.underlying83 rfl (by kernel_rfl)) rfl ?_
    rw [hr.out]
    exact ⟨rfl, hu9.to_below hB.out (by omega) hB.out.size⟩
   ·have b3 : decide ((v : Int) < lo) = false := by simp; omega
    by_cases c2 : hi < (v : Int)
    ·have b4 : decide (hi < (v : Int)) = true := by simp; omega
     have hr : Hid (numD e l lo hi ⟨k, pl, 0⟩ = (0, ⟨k, placeI e l k, 3⟩)) := by unfold Hid; rw [hnD.out, if_pos (.inr c2)]
     have hR : Hid (Blk ((w.alloc (.cells #[.slice (some ⟨g, off, none⟩) n c, .int .i64 k, .int .i64 e, .int .i64 0, .int .i64 pl] 83)).alloc (.cells #[.slice none 0 0, .int .i64 0, .int .i64 0, .int .i64 0, .int .i64 0] 83)) w.heap.size 83 #[.slice (some ⟨g, off, none⟩) n c, .int .i64 k, .int .i64 e, .int .i64 0, .int .i64 pl]) := (Blk.new w 83 #[.slice (some ⟨g, off, none⟩) n c, .int .i64 k, .int .i64 e, .int .i64 0, .int .i64 pl]).alloc _
     have hP : Hid (Blk ((w.alloc (.cells #[.slice (some ⟨g, off, none⟩) n c, .int .i64 k, .int .i64 e, .int .i64 0, .int .i64 pl] 83)).alloc (.cells #[.slice none 0 0, .int .i64 0, .int .i64 0, .int .i64 0, .int .i64 0] 83)) (w.heap.size + 1) 83 #[.slice none 0 0, .int .i64 0, .int .i64 0, .int .i64 0, .int .i64 0]) := by
      have h := Blk.new (w.alloc (.cells #[.slice (some ⟨g, off, none⟩) n c, .int .i64 k, .int .i64 e, .int .i64 0, .int .i64 pl] 83)) 83 #[.slice none 0 0, .int .i64 0, .int .i64 0, .int .i64 0, .int .i64 0]
      have hs : (w.alloc (.cells #[.slice (some ⟨g, off, none⟩) n c, .int .i64 k, .int .i64 e, .int .i64 0, .int .i64 pl] 83)).heap.size = w.heap.size + 1 := by simp
      rw [hs] at h; exact h
     have hB : Hid (Below w.heap.size w ((w.alloc (.cells #[.slice (some ⟨g, off, none⟩) n c, .int .i64 k, .int .i64 e, .int .i64 0, .int .i64 pl] 83)).alloc (.cells #[.slice none 0 0, .int .i64 0, .int .i64 0, .int .i64 0, .int .i64 0] 83))) := ((Below.refl _ w).alloc le9 _).alloc (by simp) _
     have ne1 : w.heap.size ≠ w.heap.size + 1 := by omega
     have ne2 : w.heap.size + 1 ≠ w.heap.size := by omega
     go_enter Tryz.func51, Tryz.ntmps51
     go_upto_region 1 with fail
     obtain ⟨wa, hwa⟩ : ∃ x, Hid (((w.alloc (.cells #[.slice (some ⟨g, off, none⟩) n c, .int .i64 k, .int .i64 e, .int .i64 0, .int .i64 pl] 83)).alloc (.cells #[.slice none 0 0, .int .i64 0, .int .i64 0, .int .i64 0, .int .i64 0] 83)) = x) := ⟨_, hd9 rfl⟩
     rw [hwa.out] at hR hP hB ⊢
     clear hwa
     have hA := hd9 (hA.out.below hB.out)
     obtain ⟨r0, r1, r2, r3, r4, f0, f1, f2, f3, f4⟩ := cf5 hR.out
     have rl := hR.out.lt
     have g0 : wa.cell? ⟨g, off + k * 3, none⟩ = some (.int .i64 2) := (hB.out.cell (World.block_lt_of_cell? w _ hg0.out)).trans hg0.out
     have g2 : wa.cell? ⟨g, off + k * 3 + 2, none⟩ = some (.string ⟨t.text.toArray⟩) := (hB.out.cell (World.block_lt_of_cell? w _ hg2.out)).trans hg2.out
     have hst := hd9 (show failS ⟨k, pl, 0⟩ (placeI e l k) 3 = ⟨k, placeI e l k, 3⟩ from rfl)
     go_wp2_with (first | (go_at_call 97; refine (hcall.out wa).mono ?_; rintro x1 wx ⟨rfl, rfl⟩) | (go_at_call 50; refine (stop_any (some ⟨g, off, none⟩) n c l wa e hn ⟨k, pl, 0⟩ k 3 hA).mono ?_; rintro x2 ws ⟨rfl, hbs⟩; rw [hst.out]; have hP := hd9 (hP.out.below hbs hP.out.lt); have hR := hd9 (hR.out.below hbs hR.out.lt); have hB := hd9 (hB.out.trans (hbs.mono hB.out.size)); have hA := hd9 (hA.out.below hbs)) | (refine wpList_get_blk rfl 83 _ rfl w.heap.size #[.slice (some ⟨g, off, none⟩) n c, .int .i64 k, .int .i64 e, .int .i64 0, .int .i64 pl] 83 _ rfl hR.out Tryz.underlying83 rfl (by kernel_rfl) ?_) | (refine wpList_put_blk rfl 83 _ _ rfl (w.heap.size + 1) #[.slice none 0 0, .int .i64 0, .int .i64 0, .int .i64 0, .int .i64 0] #[.slice (some ⟨g, off, none⟩) n c, .int .i64 k, .int .i64 e, .int .i64 3, .int .i64 (placeI e l k : Nat)] 83 rfl rfl hP.out rfl (by kernel_rfl) (rd_one _ _ _ _ _ _ _) ?_; intro w9 hP9 hu9))
     refine bodyPost_ret (results_row_tmp1 rfl _ _ (w.heap.size + 1) 83 _ _ rfl hP9 Tryz.underlying83 rfl (by kernel_rfl)) rfl ?_
     rw [hr.out]
     exact ⟨rfl, hu9.to_below hB.out (by omega) hB.out.size⟩
    ·have b4 : decide (hi < (v : Int)) = false := by simp; omega
     have hr : Hid (numD e l lo hi ⟨k, pl, 0⟩ = ((v : Int), ⟨k + 1, pl, 0⟩)) := by unfold Hid; rw [hnD.out, if_neg (by rintro (h | h) <;> omega)]
     have hR : Hid (Blk ((w.alloc (.cells #[.slice (some ⟨g, off, none⟩) n c, .int .i64 k, .int .i64 e, .int .i64 0, .int .i64 pl] 83)).alloc (.cells #[.slice none 0 0, .int .i64 0, .int .i64 0, .int .i64 0, .int .i64 0] 83)) w.heap.size 83 #[.slice (some ⟨g, off, none⟩) n c, .int .i64 k, .int .i64 e, .int .i64 0, .int .i64 pl]) := (Blk.new w 83 #[.slice (some ⟨g, off, none⟩) n c, .int .i64 k, .int .i64 e, .int .i64 0, .int .i64 pl]).alloc _
     have hP : Hid (Blk ((w.alloc (.cells #[.slice (some ⟨g, off, none⟩) n c, .int .i64 k, .int .i64 e, .int .i64 0, .int .i64 pl] 83)).alloc (.cells #[.slice none 0 0, .int .i64 0, .int .i64 0, .int .i64 0, .int .i64 0] 83)) (w.heap.size + 1) 83 #[.slice none 0 0, .int .i64 0, .int .i64 0, .int .i64 0, .int .i64 0]) := by
      have h := Blk.new (w.alloc (.cells #[.slice (some ⟨g, off, none⟩) n c, .int .i64 k, .int .i64 e, .int .i64 0, .int .i64 pl] 83)) 83 #[.slice none 0 0, .int .i64 0, .int .i64 0, .int .i64 0, .int .i64 0]
      have hs : (w.alloc (.cells #[.slice (some ⟨g, off, none⟩) n c, .int .i64 k, .int .i64 e, .int .i64 0, .int .i64 pl] 83)).heap.size = w.heap.size + 1 := by simp
      rw [hs] at h; exact h
     have hB : Hid (Below w.heap.size w ((w.alloc (.cells #[.slice (some ⟨g, off, none⟩) n c, .int .i64 k, .int .i64 e, .int .i64 0, .int .i64 pl] 83)).alloc (.cells #[.slice none 0 0, .int .i64 0, .int .i64 0, .int .i64 0, .int .i64 0] 83))) := ((Below.refl _ w).alloc le9 _).alloc (by simp) _
     have ne1 : w.heap.size ≠ w.heap.size + 1 := by omega
     have ne2 : w.heap.size + 1 ≠ w.heap.size := by omega
     go_enter Tryz.func51, Tryz.ntmps51
     go_upto_region 1 with fail
     obtain ⟨wa, hwa⟩ : ∃ x, Hid (((w.alloc (.cells #[.slice (some ⟨g, off, none⟩) n c, .int .i64 k, .int .i64 e, .int .i64 0, .int .i64 pl] 83)).alloc (.cells #[.slice none 0 0, .int .i64 0, .int .i64 0, .int .i64 0, .int .i64 0] 83)) = x) := ⟨_, hd9 rfl⟩
     rw [hwa.out] at hR hP hB ⊢
     clear hwa
     have hA := hd9 (hA.out.below hB.out)
     obtain ⟨r0, r1, r2, r3, r4, f0, f1, f2, f3, f4⟩ := cf5 hR.out
     have rl := hR.out.lt
     have g0 : wa.cell? ⟨g, off + k * 3, none⟩ = some (.int .i64 2) := (hB.out.cell (World.block_lt_of_cell? w _ hg0.out)).trans hg0.out
     have g2 : wa.cell? ⟨g, off + k * 3 + 2, none⟩ = some (.string ⟨t.text.toArray⟩) := (hB.out.cell (World.block_lt_of_cell? w _ hg2.out)).trans hg2.out
     go_upto_region 9 with (go_at_call 97; refine (hcall.out wa).mono ?_; rintro x1 wx ⟨rfl, rfl⟩)
     clear r0 r1 r2 r3 r4 f0 f1 f2 f3 f4 rl
     clear g0 g2
     have hR : Hid (Blk (wa.setCell ⟨w.heap.size, 1, none⟩ (.int .i64 ((k : Int) + 1))) w.heap.size 83 #[.slice (some ⟨g, off, none⟩) n c, .int .i64 ((k : Int) + 1), .int .i64 e, .int .i64 0, .int .i64 pl]) := (hR.out.set_ 1 (.int .i64 ((k : Int) + 1)))
     have hP : Hid (Blk (wa.setCell ⟨w.heap.size, 1, none⟩ (.int .i64 ((k : Int) + 1))) (w.heap.size + 1) 83 #[.slice none 0 0, .int .i64 0, .int .i64 0, .int .i64 0, .int .i64 0]) := (hP.out.far (p := ⟨w.heap.size, 1, none⟩) ne2 _)
     have hB : Hid (Below w.heap.size w (wa.setCell ⟨w.heap.size, 1, none⟩ (.int .i64 ((k : Int) + 1)))) := (hB.out.setCell le9 _)
     obtain ⟨w1, hw⟩ : ∃ x, Hid ((wa.setCell ⟨w.heap.size, 1, none⟩ (.int .i64 ((k : Int) + 1))) = x) := ⟨_, hd9 rfl⟩
     rw [hw.out] at hR hP hB ⊢
     clear hw hA
     have hA := hd9 (hA0.out.below hB.out)
     go_wp2_with (first | (refine wpList_get_blk rfl 83 _ rfl w.heap.size #[.slice (some ⟨g, off, none⟩) n c, .int .i64 ((k : Int) + 1), .int .i64 e, .int .i64 0, .int .i64 pl] 83 _ rfl hR.out Tryz.underlying83 rfl (by kernel_rfl) ?_) | (refine wpList_put_blk rfl 83 _ _ rfl (w.heap.size + 1) #[.slice none 0 0, .int .i64 0, .int .i64 0, .int .i64 0, .int .i64 0] #[.slice (some ⟨g, off, none⟩) n c, .int .i64 ((k : Int) + 1), .int .i64 e, .int .i64 0, .int .i64 pl] 83 rfl rfl hP.out rfl (by kernel_rfl) (rd_one _ _ _ _ _ _ _) ?_; intro w9 hP9 hu9))
     refine bodyPost_ret (results_row_tmp1 rfl _ _ (w.heap.size + 1) 83 _ _ rfl hP9 Tryz.underlying83 rfl (by kernel_rfl)) rfl ?_
     rw [hr.out]
     exact ⟨rfl, hu9.to_below hB.out (by omega) hB.out.size⟩
 ·have b1 : (cd != 0) = true := by simp [hz]
  have hr : Hid (numD e l lo hi ⟨k, pl, cd⟩ = (0, ⟨k, pl, cd⟩)) := by unfold Hid numD; rw [take_bad (show (⟨k, pl, cd⟩ : St).cd ≠ 0 from hz), if_neg (show ¬ cd = 0 from hz)]
  clear hz
  have hR : Hid (Blk ((w.alloc (.cells #[.slice A n c, .int .i64 k, .int .i64 e, .int .i64 cd, .int .i64 pl] 83)).alloc (.cells #[.slice none 0 0, .int .i64 0, .int .i64 0, .int .i64 0, .int .i64 0] 83)) w.heap.size 83 #[.slice A n c, .int .i64 k, .int .i64 e, .int .i64 cd, .int .i64 pl]) := (Blk.new w 83 #[.slice A n c, .int .i64 k, .int .i64 e, .int .i64 cd, .int .i64 pl]).alloc _
  have hP : Hid (Blk ((w.alloc (.cells #[.slice A n c, .int .i64 k, .int .i64 e, .int .i64 cd, .int .i64 pl] 83)).alloc (.cells #[.slice none 0 0, .int .i64 0, .int .i64 0, .int .i64 0, .int .i64 0] 83)) (w.heap.size + 1) 83 #[.slice none 0 0, .int .i64 0, .int .i64 0, .int .i64 0, .int .i64 0]) := by
   have h := Blk.new (w.alloc (.cells #[.slice A n c, .int .i64 k, .int .i64 e, .int .i64 cd, .int .i64 pl] 83)) 83 #[.slice none 0 0, .int .i64 0, .int .i64 0, .int .i64 0, .int .i64 0]
   have hs : (w.alloc (.cells #[.slice A n c, .int .i64 k, .int .i64 e, .int .i64 cd, .int .i64 pl] 83)).heap.size = w.heap.size + 1 := by simp
   rw [hs] at h; exact h
  have hB : Hid (Below w.heap.size w ((w.alloc (.cells #[.slice A n c, .int .i64 k, .int .i64 e, .int .i64 cd, .int .i64 pl] 83)).alloc (.cells #[.slice none 0 0, .int .i64 0, .int .i64 0, .int .i64 0, .int .i64 0] 83))) := ((Below.refl _ w).alloc le9 _).alloc (by simp) _
  have ne1 : w.heap.size ≠ w.heap.size + 1 := by omega
  have ne2 : w.heap.size + 1 ≠ w.heap.size := by omega
  go_enter Tryz.func51, Tryz.ntmps51
  go_upto_region 1 with fail
  obtain ⟨wa, hwa⟩ : ∃ x, Hid (((w.alloc (.cells #[.slice A n c, .int .i64 k, .int .i64 e, .int .i64 cd, .int .i64 pl] 83)).alloc (.cells #[.slice none 0 0, .int .i64 0, .int .i64 0, .int .i64 0, .int .i64 0] 83)) = x) := ⟨_, hd9 rfl⟩
  rw [hwa.out] at hR hP hB ⊢
  clear hwa
  have hA := hd9 (hA.out.below hB.out)
  obtain ⟨r0, r1, r2, r3, r4, f0, f1, f2, f3, f4⟩ := cf5 hR.out
  have rl := hR.out.lt
  go_wp2_with (first | (refine wpList_get_blk rfl 83 _ rfl w.heap.size #[.slice A n c, .int .i64 k, .int .i64 e, .int .i64 cd, .int .i64 pl] 83 _ rfl hR.out Tryz.underlying83 rfl (by kernel_rfl) ?_) | (refine wpList_put_blk rfl 83 _ _ rfl (w.heap.size + 1) #[.slice none 0 0, .int .i64 0, .int .i64 0, .int .i64 0, .int .i64 0] #[.slice A n c, .int .i64 k, .int .i64 e, .int .i64 cd, .int .i64 pl] 83 rfl rfl hP.out rfl (by kernel_rfl) (rd_one _ _ _ _ _ _ _) ?_; intro w9 hP9 hu9))
  refine bodyPost_ret (results_row_tmp1 rfl _ _ (w.heap.size + 1) 83 _ _ rfl hP9 Tryz.underlying83 rfl (by kernel_rfl)) rfl ?_
  rw [hr.out]
  exact ⟨rfl, hu9.to_below hB.out (by omega) hB.out.size⟩
set_option maxRecDepth 100000 in
set_option maxHeartbeats 3200000 in
theorem rtold_any (A : Option Addr) (n c : Nat) (l : List Tok) (w : World) (e : Nat) (hn : Hid (l.length = n)) (hm : n ≤ 4096) (hok : Hid (TokOk l)) (x : Txt) (st : St) (hA : Hid (TokAt w 0 A l)) :
  Calls Tryz.prog 52 #[.agg (rdA A n c e st), .string (mkT x), .string ⟨#[]⟩] w fun x' w' => x' = .returned (.tuple #[.agg (rdA A n c e (toldD e l x st).2), .int .i64 (toldD e l x st).1]) ∧ Below w.heap.size w w' := by
 have hA0 := hA
 obtain ⟨⟨k1, pl1, cd1⟩, h1⟩ : ∃ s, Hid ((takeS e l (isT x) st).2 = s) := ⟨_, hd9 rfl⟩
 obtain ⟨⟨v2, ⟨k2, pl2, cd2⟩⟩, h2⟩ : ∃ s, Hid (numD e l 0 1048576 ⟨k1, pl1, cd1⟩ = s) := ⟨_, hd9 rfl⟩
 obtain ⟨⟨k4, pl4, cd4⟩, h4⟩ : ∃ s, Hid ((takeS e l (isT sSemi) ⟨k2, pl2, cd2⟩).2 = s) := ⟨_, hd9 rfl⟩
 have hr : Hid (toldD e l x st = (v2, ⟨k4, pl4, cd4⟩)) := by unfold Hid toldD; rw [h1.out, h2.out]; simp only; rw [h4.out]
 obtain ⟨k, pl, cd⟩ := st
 have hR : Hid (Blk ((w.alloc (.cells #[.slice A n c, .int .i64 k, .int .i64 e, .int .i64 cd, .int .i64 pl] 83)).alloc (.cells #[.slice none 0 0, .int .i64 0, .int .i64 0, .int .i64 0, .int .i64 0] 83)) w.heap.size 83 #[.slice A n c, .int .i64 k, .int .i64 e, .int .i64 cd, .int .i64 pl]) := (Blk.new w 83 #[.slice A n c, .int .i64 k, .int .i64 e, .int .i64 cd, .int .i64 pl]).alloc _
 have hP : Hid (Blk ((w.alloc (.cells #[.slice A n c, .int .i64 k, .int .i64 e, .int .i64 cd, .int .i64 pl] 83)).alloc (.cells #[.slice none 0 0, .int .i64 0, .int .i64 0, .int .i64 0, .int .i64 0] 83)) (w.heap.size + 1) 83 #[.slice none 0 0, .int .i64 0, .int .i64 0, .int .i64 0, .int .i64 0]) := by
  have h := Blk.new (w.alloc (.cells #[.slice A n c, .int .i64 k, .int .i64 e, .int .i64 cd, .int .i64 pl] 83)) 83 #[.slice none 0 0, .int .i64 0, .int .i64 0, .int .i64 0, .int .i64 0]
  have hs : (w.alloc (.cells #[.slice A n c, .int .i64 k, .int .i64 e, .int .i64 cd, .int .i64 pl] 83)).heap.size = w.heap.size + 1 := by simp
  rw [hs] at h; exact h
 have hB : Hid (Below w.heap.size w ((w.alloc (.cells #[.slice A n c, .int .i64 k, .int .i64 e, .int .i64 cd, .int .i64 pl] 83)).alloc (.cells #[.slice none 0 0, .int .i64 0, .int .i64 0, .int .i64 0, .int .i64 0] 83))) := ((Below.refl _ w).alloc le9 _).alloc (by simp) _
 have ne1 : w.heap.size ≠ w.heap.size + 1 := by omega
 have ne2 : w.heap.size + 1 ≠ w.heap.size := by omega
 go_enter Tryz.func52, Tryz.ntmps52
 go_upto_region 1 with fail
 obtain ⟨wa, hwa⟩ : ∃ x, Hid (((w.alloc (.cells #[.slice A n c, .int .i64 k, .int .i64 e, .int .i64 cd, .int .i64 pl] 83)).alloc (.cells #[.slice none 0 0, .int .i64 0, .int .i64 0, .int .i64 0, .int .i64 0] 83)) = x) := ⟨_, hd9 rfl⟩
 rw [hwa.out] at hR hP hB ⊢
 clear hwa
 have hA := hd9 (hA.out.below hB.out)
 go_upto_region 2 with (first | (go_at_call 49; refine (rwd_any A n c l wa e hn hm x ⟨k, pl, cd⟩ hA).mono ?_; rintro x2 w1 ⟨rfl, hb1⟩; rw [h1.out]; have hP := hd9 (hP.out.below hb1 hP.out.lt); have hR := hd9 (hR.out.below hb1 hR.out.lt); have hB := hd9 (hB.out.trans (hb1.mono hB.out.size)); have hA := hd9 (hA.out.below hb1)) | (go_at_call 51; refine (ramount_any A n c l w1 e hn hm hok 0 1048576 ⟨k1, pl1, cd1⟩ hA).mono ?_; rintro x2 w2 ⟨rfl, hb2⟩; rw [h2.out]; have hP := hd9 (hP.out.below hb2 hP.out.lt); have hR := hd9 (hR.out.below hb2 hR.out.lt); have hB := hd9 (hB.out.trans (hb2.mono hB.out.size)); have hA := hd9 (hA.out.below hb2)) | (refine wpList_get_blk rfl 83 _ rfl w.heap.size #[.slice A n c, .int .i64 k, .int .i64 e, .int .i64 cd, .int .i64 pl] 83 _ rfl hR.out Tryz.underlying83 rfl (by kernel_rfl) ?_) | (refine wpList_put_blk rfl 83 _ _ rfl w.heap.size #[.slice A n c, .int .i64 k, .int .i64 e, .int .i64 cd, .int .i64 pl] #[.slice A n c, .int .i64 k2, .int .i64 e, .int .i64 cd2, .int .i64 pl2] 83 rfl rfl hR.out rfl (by kernel_rfl) (rd_one _ _ _ _ _ _ _) ?_; intro w3 hR9 hu8))
 have hR := hd9 hR9
 have hP := hd9 (hu8.blk hP.out ne2)
 have hB : Hid (Below w.heap.size w w3) := hu8.to_below hB.out le9 hB.out.size
 clear hR9 hu8 hA
 have hA := hd9 (hA0.out.below hB.out)
 go_wp2_with (first | (go_at_call 49; refine (rwd_any A n c l w3 e hn hm sSemi ⟨k2, pl2, cd2⟩ hA).mono ?_; rintro x2 w6 ⟨rfl, hb4⟩; rw [h4.out]; have hP := hd9 (hP.out.below hb4 hP.out.lt); have hR := hd9 (hR.out.below hb4 hR.out.lt); have hB := hd9 (hB.out.trans (hb4.mono hB.out.size)); have hA := hd9 (hA.out.below hb4)) | (refine wpList_get_blk rfl 83 _ rfl w.heap.size #[.slice A n c, .int .i64 k2, .int .i64 e, .int .i64 cd2, .int .i64 pl2] 83 _ rfl hR.out Tryz.underlying83 rfl (by kernel_rfl) ?_) | (refine wpList_put_blk rfl 83 _ _ rfl (w.heap.size + 1) #[.slice none 0 0, .int .i64 0, .int .i64 0, .int .i64 0, .int .i64 0] #[.slice A n c, .int .i64 k4, .int .i64 e, .int .i64 cd4, .int .i64 pl4] 83 rfl rfl hP.out rfl (by kernel_rfl) (rd_one _ _ _ _ _ _ _) ?_; intro w9 hP9 hu9))
 refine bodyPost_ret (results_row_tmp1 rfl _ _ (w.heap.size + 1) 83 _ _ rfl hP9 Tryz.underlying83 rfl (by kernel_rfl)) rfl ?_
 rw [hr.out]
 exact ⟨rfl, hu9.to_below hB.out (by omega) hB.out.size⟩
set_option maxRecDepth 100000 in
set_option maxHeartbeats 3200000 in
theorem rwithin_any (A : Option Addr) (n c : Nat) (l : List Tok) (w : World) (e : Nat) (hn : Hid (l.length = n)) (hm : n ≤ 4096) (hok : Hid (TokOk l)) (x : Txt) (st : St) (hA : Hid (TokAt w 0 A l)) :
  Calls Tryz.prog 52 #[.agg (rdA A n c e st), .string (mkT x), .string ⟨#[100, 97, 121, 115]⟩] w fun x' w' => x' = .returned (.tuple #[.agg (rdA A n c e (withinD e l x st).2), .int .i64 (withinD e l x st).1]) ∧ Below w.heap.size w w' := by
 have hA0 := hA
 obtain ⟨⟨k1, pl1, cd1⟩, h1⟩ : ∃ s, Hid ((takeS e l (isT x) st).2 = s) := ⟨_, hd9 rfl⟩
 obtain ⟨⟨v2, ⟨k2, pl2, cd2⟩⟩, h2⟩ : ∃ s, Hid (numD e l 0 1048576 ⟨k1, pl1, cd1⟩ = s) := ⟨_, hd9 rfl⟩
 obtain ⟨⟨k3, pl3, cd3⟩, h3⟩ : ∃ s, Hid ((takeS e l (isT wDays) ⟨k2, pl2, cd2⟩).2 = s) := ⟨_, hd9 rfl⟩
 obtain ⟨⟨k4, pl4, cd4⟩, h4⟩ : ∃ s, Hid ((takeS e l (isT sSemi) ⟨k3, pl3, cd3⟩).2 = s) := ⟨_, hd9 rfl⟩
 have hr : Hid (withinD e l x st = (v2, ⟨k4, pl4, cd4⟩)) := by unfold Hid withinD; rw [h1.out, h2.out]; simp only; rw [h3.out, h4.out]
 obtain ⟨k, pl, cd⟩ := st
 have hR : Hid (Blk ((w.alloc (.cells #[.slice A n c, .int .i64 k, .int .i64 e, .int .i64 cd, .int .i64 pl] 83)).alloc (.cells #[.slice none 0 0, .int .i64 0, .int .i64 0, .int .i64 0, .int .i64 0] 83)) w.heap.size 83 #[.slice A n c, .int .i64 k, .int .i64 e, .int .i64 cd, .int .i64 pl]) := (Blk.new w 83 #[.slice A n c, .int .i64 k, .int .i64 e, .int .i64 cd, .int .i64 pl]).alloc _
 have hP : Hid (Blk ((w.alloc (.cells #[.slice A n c, .int .i64 k, .int .i64 e, .int .i64 cd, .int .i64 pl] 83)).alloc (.cells #[.slice none 0 0, .int .i64 0, .int .i64 0, .int .i64 0, .int .i64 0] 83)) (w.heap.size + 1) 83 #[.slice none 0 0, .int .i64 0, .int .i64 0, .int .i64 0, .int .i64 0]) := by
  have h := Blk.new (w.alloc (.cells #[.slice A n c, .int .i64 k, .int .i64 e, .int .i64 cd, .int .i64 pl] 83)) 83 #[.slice none 0 0, .int .i64 0, .int .i64 0, .int .i64 0, .int .i64 0]
  have hs : (w.alloc (.cells #[.slice A n c, .int .i64 k, .int .i64 e, .int .i64 cd, .int .i64 pl] 83)).heap.size = w.heap.size + 1 := by simp
  rw [hs] at h; exact h
 have hB : Hid (Below w.heap.size w ((w.alloc (.cells #[.slice A n c, .int .i64 k, .int .i64 e, .int .i64 cd, .int .i64 pl] 83)).alloc (.cells #[.slice none 0 0, .int .i64 0, .int .i64 0, .int .i64 0, .int .i64 0] 83))) := ((Below.refl _ w).alloc le9 _).alloc (by simp) _
 have ne1 : w.heap.size ≠ w.heap.size + 1 := by omega
 have ne2 : w.heap.size + 1 ≠ w.heap.size := by omega
 go_enter Tryz.func52, Tryz.ntmps52
 go_upto_region 1 with fail
 obtain ⟨wa, hwa⟩ : ∃ x, Hid (((w.alloc (.cells #[.slice A n c, .int .i64 k, .int .i64 e, .int .i64 cd, .int .i64 pl] 83)).alloc (.cells #[.slice none 0 0, .int .i64 0, .int .i64 0, .int .i64 0, .int .i64 0] 83)) = x) := ⟨_, hd9 rfl⟩
 rw [hwa.out] at hR hP hB ⊢
 clear hwa
 have hA := hd9 (hA.out.below hB.out)
 go_upto_region 2 with (first | (go_at_call 49; refine (rwd_any A n c l wa e hn hm x ⟨k, pl, cd⟩ hA).mono ?_; rintro x2 w1 ⟨rfl, hb1⟩; rw [h1.out]; have hP := hd9 (hP.out.below hb1 hP.out.lt); have hR := hd9 (hR.out.below hb1 hR.out.lt); have hB := hd9 (hB.out.trans (hb1.mono hB.out.size)); have hA := hd9 (hA.out.below hb1)) | (go_at_call 51; refine (ramount_any A n c l w1 e hn hm hok 0 1048576 ⟨k1, pl1, cd1⟩ hA).mono ?_; rintro x2 w2 ⟨rfl, hb2⟩; rw [h2.out]; have hP := hd9 (hP.out.below hb2 hP.out.lt); have hR := hd9 (hR.out.below hb2 hR.out.lt); have hB := hd9 (hB.out.trans (hb2.mono hB.out.size)); have hA := hd9 (hA.out.below hb2)) | (refine wpList_get_blk rfl 83 _ rfl w.heap.size #[.slice A n c, .int .i64 k, .int .i64 e, .int .i64 cd, .int .i64 pl] 83 _ rfl hR.out Tryz.underlying83 rfl (by kernel_rfl) ?_) | (refine wpList_put_blk rfl 83 _ _ rfl w.heap.size #[.slice A n c, .int .i64 k, .int .i64 e, .int .i64 cd, .int .i64 pl] #[.slice A n c, .int .i64 k2, .int .i64 e, .int .i64 cd2, .int .i64 pl2] 83 rfl rfl hR.out rfl (by kernel_rfl) (rd_one _ _ _ _ _ _ _) ?_; intro w3 hR9 hu8))
 have hR := hd9 hR9
 have hP := hd9 (hu8.blk hP.out ne2)
 have hB : Hid (Below w.heap.size w w3) := hu8.to_below hB.out le9 hB.out.size
 clear hR9 hu8 hA
 have hA := hd9 (hA0.out.below hB.out)
 go_upto_region 4 with (first | (go_at_call 49; refine (rwd_any A n c l w3 e hn hm wDays ⟨k2, pl2, cd2⟩ hA).mono ?_; rintro x2 w4 ⟨rfl, hb3⟩; rw [h3.out]; have hP := hd9 (hP.out.below hb3 hP.out.lt); have hR := hd9 (hR.out.below hb3 hR.out.lt); have hB := hd9 (hB.out.trans (hb3.mono hB.out.size)); have hA := hd9 (hA.out.below hb3)) | (refine wpList_get_blk rfl 83 _ rfl w.heap.size #[.slice A n c, .int .i64 k2, .int .i64 e, .int .i64 cd2, .int .i64 pl2] 83 _ rfl hR.out Tryz.underlying83 rfl (by kernel_rfl) ?_) | (refine wpList_put_blk rfl 83 _ _ rfl w.heap.size #[.slice A n c, .int .i64 k2, .int .i64 e, .int .i64 cd2, .int .i64 pl2] #[.slice A n c, .int .i64 k3, .int .i64 e, .int .i64 cd3, .int .i64 pl3] 83 rfl rfl hR.out rfl (by kernel_rfl) (rd_one _ _ _ _ _ _ _) ?_; intro w5 hR9 hu8))
 have hR := hd9 hR9
 have hP := hd9 (hu8.blk hP.out ne2)
 have hB : Hid (Below w.heap.size w w5) := hu8.to_below hB.out le9 hB.out.size
 clear hR9 hu8 hA
 have hA := hd9 (hA0.out.below hB.out)
 go_wp2_with (first | (go_at_call 49; refine (rwd_any A n c l w5 e hn hm sSemi ⟨k3, pl3, cd3⟩ hA).mono ?_; rintro x2 w6 ⟨rfl, hb4⟩; rw [h4.out]; have hP := hd9 (hP.out.below hb4 hP.out.lt); have hR := hd9 (hR.out.below hb4 hR.out.lt); have hB := hd9 (hB.out.trans (hb4.mono hB.out.size)); have hA := hd9 (hA.out.below hb4)) | (refine wpList_get_blk rfl 83 _ rfl w.heap.size #[.slice A n c, .int .i64 k3, .int .i64 e, .int .i64 cd3, .int .i64 pl3] 83 _ rfl hR.out Tryz.underlying83 rfl (by kernel_rfl) ?_) | (refine wpList_put_blk rfl 83 _ _ rfl (w.heap.size + 1) #[.slice none 0 0, .int .i64 0, .int .i64 0, .int .i64 0, .int .i64 0] #[.slice A n c, .int .i64 k4, .int .i64 e, .int .i64 cd4, .int .i64 pl4] 83 rfl rfl hP.out rfl (by kernel_rfl) (rd_one _ _ _ _ _ _ _) ?_; intro w9 hP9 hu9))
 refine bodyPost_ret (results_row_tmp1 rfl _ _ (w.heap.size + 1) 83 _ _ rfl hP9 Tryz.underlying83 rfl (by kernel_rfl)) rfl ?_
 rw [hr.out]
 exact ⟨rfl, hu9.to_below hB.out (by omega) hB.out.size⟩
set_option maxRecDepth 100000 in
set_option maxHeartbeats 3200000 in
theorem reither_any (A : Option Addr) (n c : Nat) (l : List Tok) (w : World) (e : Nat) (hn : Hid (l.length = n)) (hm : n ≤ 4096) (x : Txt) (st : St) (hA : Hid (TokAt w 0 A l)) :
  Calls Tryz.prog 53 #[.agg (rdA A n c e st), .string (mkT x)] w fun x' w' => x' = .returned (.tuple #[.agg (rdA A n c e (eitherD e l x st).2), .bool (eitherD e l x st).1]) ∧ Below w.heap.size w w' := by
 have hA0 := hA
 obtain ⟨⟨k1, pl1, cd1⟩, h1⟩ : ∃ s, Hid ((takeS e l (isT x) st).2 = s) := ⟨_, hd9 rfl⟩
 obtain ⟨b, hb⟩ : ∃ b, Hid (atI (isT wYes) l k1 = b) := ⟨_, hd9 rfl⟩
 obtain ⟨⟨k3, pl3, cd3⟩, h3⟩ : ∃ s, Hid ((takeS e l (isT wNo) ⟨k1, pl1, cd1⟩).2 = s) := ⟨_, hd9 rfl⟩
 obtain ⟨⟨k4, pl4, cd4⟩, h4⟩ : ∃ s, Hid ((takeS e l (isT sSemi) ⟨k3, pl3, cd3⟩).2 = s) := ⟨_, hd9 rfl⟩
 obtain ⟨⟨k5, pl5, cd5⟩, h5⟩ : ∃ s, Hid ((takeS e l (isT sSemi) ⟨k1 + 1, pl1, cd1⟩).2 = s) := ⟨_, hd9 rfl⟩
 have hE : Hid (eitherD e l x st = if cd1 = 0 ∧ b = true then (true, ⟨k5, pl5, cd5⟩) else (false, ⟨k4, pl4, cd4⟩)) := by
  unfold Hid eitherD; rw [h1.out]; simp only [St.step]; rw [hb.out, h5.out, h3.out, h4.out]
 obtain ⟨k, pl, cd⟩ := st
 have hR : Hid (Blk ((w.alloc (.cells #[.slice A n c, .int .i64 k, .int .i64 e, .int .i64 cd, .int .i64 pl] 83)).alloc (.cells #[.slice none 0 0, .int .i64 0, .int .i64 0, .int .i64 0, .int .i64 0] 83)) w.heap.size 83 #[.slice A n c, .int .i64 k, .int .i64 e, .int .i64 cd, .int .i64 pl]) := (Blk.new w 83 #[.slice A n c, .int .i64 k, .int .i64 e, .int .i64 cd, .int .i64 pl]).alloc _
 have hP : Hid (Blk ((w.alloc (.cells #[.slice A n c, .int .i64 k, .int .i64 e, .int .i64 cd, .int .i64 pl] 83)).alloc (.cells #[.slice none 0 0, .int .i64 0, .int .i64 0, .int .i64 0, .int .i64 0] 83)) (w.heap.size + 1) 83 #[.slice none 0 0, .int .i64 0, .int .i64 0, .int .i64 0, .int .i64 0]) := by
  have h := Blk.new (w.alloc (.cells #[.slice A n c, .int .i64 k, .int .i64 e, .int .i64 cd, .int .i64 pl] 83)) 83 #[.slice none 0 0, .int .i64 0, .int .i64 0, .int .i64 0, .int .i64 0]
  have hs : (w.alloc (.cells #[.slice A n c, .int .i64 k, .int .i64 e, .int .i64 cd, .int .i64 pl] 83)).heap.size = w.heap.size + 1 := by simp
  rw [hs] at h; exact h
 have hB : Hid (Below w.heap.size w ((w.alloc (.cells #[.slice A n c, .int .i64 k, .int .i64 e, .int .i64 cd, .int .i64 pl] 83)).alloc (.cells #[.slice none 0 0, .int .i64 0, .int .i64 0, .int .i64 0, .int .i64 0] 83))) := ((Below.refl _ w).alloc le9 _).alloc (by simp) _
 have ne1 : w.heap.size ≠ w.heap.size + 1 := by omega
 have ne2 : w.heap.size + 1 ≠ w.heap.size := by omega
 go_enter Tryz.func53, Tryz.ntmps53
 go_upto_region 1 with fail
 obtain ⟨wa, hwa⟩ : ∃ x, Hid (((w.alloc (.cells #[.slice A n c, .int .i64 k, .int .i64 e, .int .i64 cd, .int .i64 pl] 83)).alloc (.cells #[.slice none 0 0, .int .i64 0, .int .i64 0, .int .i64 0, .int .i64 0] 83)) = x) := ⟨_, hd9 rfl⟩
 rw [hwa.out] at hR hP hB ⊢
 clear hwa
 have hA := hd9 (hA.out.below hB.out)
 go_upto_region 2 with (first | (go_at_call 49; refine (rwd_any A n c l wa e hn hm x ⟨k, pl, cd⟩ hA).mono ?_; rintro x2 w1 ⟨rfl, hb1⟩; rw [h1.out]; have hP := hd9 (hP.out.below hb1 hP.out.lt); have hR := hd9 (hR.out.below hb1 hR.out.lt); have hB := hd9 (hB.out.trans (hb1.mono hB.out.size)); have hA := hd9 (hA.out.below hb1)) | (refine wpList_get_blk rfl 83 _ rfl w.heap.size #[.slice A n c, .int .i64 k, .int .i64 e, .int .i64 cd, .int .i64 pl] 83 _ rfl hR.out Tryz.underlying83 rfl (by kernel_rfl) ?_) | (refine wpList_put_blk rfl 83 _ _ rfl w.heap.size #[.slice A n c, .int .i64 k, .int .i64 e, .int .i64 cd, .int .i64 pl] #[.slice A n c, .int .i64 k1, .int .i64 e, .int .i64 cd1, .int .i64 pl1] 83 rfl rfl hR.out rfl (by kernel_rfl) (rd_one _ _ _ _ _ _ _) ?_; intro w2 hR9 hu8))
 have hR := hd9 hR9
 have hP := hd9 (hu8.blk hP.out ne2)
 have hB : Hid (Below w.heap.size w w2) := hu8.to_below hB.out le9 hB.out.size
 clear hR9 hu8 hA
 have hA := hd9 (hA0.out.below hB.out)
 obtain ⟨r0, r1, r2, r3, r4, f0, f1, f2, f3, f4⟩ := cf5 hR.out
 have rl := hR.out.lt
 by_cases hz : cd1 = 0
 ·have b1 : (cd1 == 0) = true := by simp [hz]
  have hz1 := hd9 hz
  clear hz
  cases b with
  | false =>
   have hno : ¬ (cd1 = 0 ∧ (false : Bool) = true) := by simp
   go_wp2_with (first | (go_at_call 48; refine (ris_any A n c l w2 k1 wYes hn hA).mono ?_; rintro x1 wx ⟨rfl, rfl⟩; rw [hb.out]) | (go_at_call 49; first | (refine (rwd_any A n c l w2 e hn hm wNo ⟨k1, pl1, cd1⟩ hA).mono ?_; rintro x2 w6 ⟨rfl, hb6⟩; rw [h3.out]; have hP := hd9 (hP.out.below hb6 hP.out.lt); have hB := hd9 (hB.out.trans (hb6.mono hB.out.size)); have hA := hd9 (hA.out.below hb6)) | (refine (rwd_any A n c l w6 e hn hm sSemi ⟨k3, pl3, cd3⟩ hA).mono ?_; rintro x2 w7 ⟨rfl, hb7⟩; rw [h4.out]; have hP := hd9 (hP.out.below hb7 hP.out.lt); have hB := hd9 (hB.out.trans (hb7.mono hB.out.size)))) | (refine wpList_get_blk rfl 83 _ rfl w.heap.size #[.slice A n c, .int .i64 k1, .int .i64 e, .int .i64 cd1, .int .i64 pl1] 83 _ rfl hR.out Tryz.underlying83 rfl (by kernel_rfl) ?_) | (refine wpList_put_blk rfl 83 _ _ rfl (w.heap.size + 1) #[.slice none 0 0, .int .i64 0, .int .i64 0, .int .i64 0, .int .i64 0] #[.slice A n c, .int .i64 k4, .int .i64 e, .int .i64 cd4, .int .i64 pl4] 83 rfl rfl hP.out rfl (by kernel_rfl) (rd_one _ _ _ _ _ _ _) ?_; intro w9 hP9 hu9))
   refine bodyPost_ret (results_row_tmp1 rfl _ _ (w.heap.size + 1) 83 _ _ rfl hP9 Tryz.underlying83 rfl (by kernel_rfl)) rfl ?_
   rw [hE.out, if_neg hno]
   exact ⟨rfl, hu9.to_below hB.out (by omega) hB.out.size⟩
  | true =>
   have hkl : k1 < n := by
    rcases Nat.lt_or_ge k1 n with h | h
    ·exact h
    ·exact absurd hb.out (by rw [atI_none (by rw [hn.out]; exact h)]; simp)
   have w1' : IntKind.i64.wrap ((k1 : Int) + 1) = (k1 : Int) + 1 := IntWalk.i64_in _ (by omega)
   go_upto_region 4 with (go_at_call 48; refine (ris_any A n c l w2 k1 wYes hn hA).mono ?_; rintro x1 wx ⟨rfl, rfl⟩; rw [hb.out])
   clear r0 r1 r2 r3 r4 f0 f1 f2 f3 f4 rl
   have hR : Hid (Blk (w2.setCell ⟨w.heap.size, 1, none⟩ (.int .i64 ((k1 : Int) + 1))) w.heap.size 83 #[.slice A n c, .int .i64 ((k1 : Int) + 1), .int .i64 e, .int .i64 cd1, .int .i64 pl1]) := (hR.out.set_ 1 (.int .i64 ((k1 : Int) + 1)))
   have hP : Hid (Blk (w2.setCell ⟨w.heap.size, 1, none⟩ (.int .i64 ((k1 : Int) + 1))) (w.heap.size + 1) 83 #[.slice none 0 0, .int .i64 0, .int .i64 0, .int .i64 0, .int .i64 0]) := (hP.out.far (p := ⟨w.heap.size, 1, none⟩) ne2 _)
   have hB : Hid (Below w.heap.size w (w2.setCell ⟨w.heap.size, 1, none⟩ (.int .i64 ((k1 : Int) + 1)))) := (hB.out.setCell le9 _)
   obtain ⟨w1, hw⟩ : ∃ x, Hid ((w2.setCell ⟨w.heap.size, 1, none⟩ (.int .i64 ((k1 : Int) + 1))) = x) := ⟨_, hd9 rfl⟩
   rw [hw.out] at hR hP hB ⊢
   clear hw hA
   have hA := hd9 (hA0.out.below hB.out)
   go_wp2_with (first | (go_at_call 49; refine (rwd_any A n c l w1 e hn hm sSemi ⟨k1 + 1, pl1, cd1⟩ hA).mono ?_; rintro x2 w6 ⟨rfl, hb5⟩; rw [h5.out]; have hP := hd9 (hP.out.below hb5 hP.out.lt); have hR := hd9 (hR.out.below hb5 hR.out.lt); have hB := hd9 (hB.out.trans (hb5.mono hB.out.size)); have hA := hd9 (hA.out.below hb5)) | (refine wpList_get_blk rfl 83 _ rfl w.heap.size #[.slice A n c, .int .i64 ((k1 : Int) + 1), .int .i64 e, .int .i64 cd1, .int .i64 pl1] 83 _ rfl hR.out Tryz.underlying83 rfl (by kernel_rfl) ?_) | (refine wpList_put_blk rfl 83 _ _ rfl (w.heap.size + 1) #[.slice none 0 0, .int .i64 0, .int .i64 0, .int .i64 0, .int .i64 0] #[.slice A n c, .int .i64 k5, .int .i64 e, .int .i64 cd5, .int .i64 pl5] 83 rfl rfl hP.out rfl (by kernel_rfl) (rd_one _ _ _ _ _ _ _) ?_; intro w9 hP9 hu9))
   refine bodyPost_ret (results_row_tmp1 rfl _ _ (w.heap.size + 1) 83 _ _ rfl hP9 Tryz.underlying83 rfl (by kernel_rfl)) rfl ?_
   rw [hE.out, if_pos (by simp [hz1.out])]
   exact ⟨rfl, hu9.to_below hB.out (by omega) hB.out.size⟩
 ·have b1 : (cd1 == 0) = false := by simp [hz]
  have hno : ¬ (cd1 = 0 ∧ b = true) := fun h => hz h.1
  have hno2 := hd9 hno
  clear hz hno
  go_wp2_with (first | (go_at_call 48; refine (ris_any A n c l w2 k1 wYes hn hA).mono ?_; rintro x1 wx ⟨rfl, rfl⟩; rw [hb.out]) | (go_at_call 49; first | (refine (rwd_any A n c l w2 e hn hm wNo ⟨k1, pl1, cd1⟩ hA).mono ?_; rintro x2 w6 ⟨rfl, hb6⟩; rw [h3.out]; have hP := hd9 (hP.out.below hb6 hP.out.lt); have hB := hd9 (hB.out.trans (hb6.mono hB.out.size)); have hA := hd9 (hA.out.below hb6)) | (refine (rwd_any A n c l w6 e hn hm sSemi ⟨k3, pl3, cd3⟩ hA).mono ?_; rintro x2 w7 ⟨rfl, hb7⟩; rw [h4.out]; have hP := hd9 (hP.out.below hb7 hP.out.lt); have hB := hd9 (hB.out.trans (hb7.mono hB.out.size)))) | (refine wpList_get_blk rfl 83 _ rfl w.heap.size #[.slice A n c, .int .i64 k1, .int .i64 e, .int .i64 cd1, .int .i64 pl1] 83 _ rfl hR.out Tryz.underlying83 rfl (by kernel_rfl) ?_) | (refine wpList_put_blk rfl 83 _ _ rfl (w.heap.size + 1) #[.slice none 0 0, .int .i64 0, .int .i64 0, .int .i64 0, .int .i64 0] #[.slice A n c, .int .i64 k4, .int .i64 e, .int .i64 cd4, .int .i64 pl4] 83 rfl rfl hP.out rfl (by kernel_rfl) (rd_one _ _ _ _ _ _ _) ?_; intro w9 hP9 hu9))
  refine bodyPost_ret (results_row_tmp1 rfl _ _ (w.heap.size + 1) 83 _ _ rfl hP9 Tryz.underlying83 rfl (by kernel_rfl)) rfl ?_
  rw [hE.out, if_neg hno2.out]
  exact ⟨rfl, hu9.to_below hB.out (by omega) hB.out.size⟩
end Go.Proofs.YtjkmhlfjheiekaaGreatDoor

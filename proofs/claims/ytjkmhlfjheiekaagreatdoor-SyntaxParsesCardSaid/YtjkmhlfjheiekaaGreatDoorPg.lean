import Derived.Test.YtjkmhlfjheiekaaGreatDoorPf
namespace Go.Proofs.YtjkmhlfjheiekaaGreatDoor
open Go Go.RowKit Go.BigFrame Go.Maps
section
variable {P : Program} {ops : Array Oper} {Q : Exit → Act → World → Prop} {S : World → Prop} {o : Oper} {a : Act} {w : World}
theorem yields_blk {g : Nat} {C : Array Value} {ty : TypeId} {x : Operand} {d : TypeDesc} (hg : o.guard = none) (ho : o.op = .load ty x) (hx : a.eval x = .pointer (some ⟨g, 0, none⟩)) (hu : P.underlying ty = some d) (hd : d.isRow = true) (hi : (P.info? ty).map (·.size) = some C.size)
  (hS : ∀ w, S w → Blk w g ty C) : YieldsIf P ops S o (.agg C) a := by
 have h := yieldsIf_load_mid (P := P) (ops := ops) (S := S) (op := o) (a := a) (by simp [Region.wanted, hg]) ty x ho g 0 hx C.toList d (fun w hw j v hv => by
  rw [Nat.zero_add, (hS w hw).cell]; simpa using hv) hu hd (by simpa using hi)
 simpa using h
theorem held_put {i : Nat} {K : Act → World → Prop} (hi' : ops[i]? = some o) (hgd : o.guard = none) (ty : TypeId) (x y : Operand) (ho : o.op = .store ty x y) (g : Nat) (old cs : Array Value) (t : TypeId) (hx : a.eval x = .pointer (some ⟨g, 0, none⟩)) (hy : a.eval y = .agg cs)
  (hb : Blk w g t old) (hs : old.size = cs.size) (hi : (P.info? ty).map (·.size) = some cs.size) (h1 : cs.all (·.oneCell') = true)
  (h : ∀ w', Blk w' g t cs → But g w w' → K (a.put o.dst undef) w') : wpOp P ops Q i K a w := by
 unfold wpOp
 simp only [hi']
 rw [if_pos (by simp [Region.wanted, hgd])]
 refine .inl (wp_store_mid ty x y ho g 0 cs hx hy (fun j hj => ?_) hi h1 (h _ ?_ (setCells_put g _ 0 w)))
 ·have hj' : j < old.size := by omega
  rw [Nat.zero_add]
  exact ⟨by rw [hb.cell]; simp [hj'], hb.frozen j⟩
 ·have := setCells_row (g := g) (t := t) cs.toList [] old.toList w (by simpa using hs) (by simpa using hb)
  simpa using this
end
theorem results_row_row {P : Program} {fn : Func} {p q : Tmp} {ty ty' : TypeId} (h : fn.results = #[.cell p ty, .cell q ty']) (tmps : Array Value) (w : World) (g g' : Nat) (t t' : TypeId) (cs cs' : Array Value) (d d' : TypeDesc)
  (hp : tmps.getD p undef = .pointer (some ⟨g, 0, none⟩)) (hg : Blk w g t cs)
  (hu : P.underlying ty = some d) (hd : (match d with | .struct _ | .array _ _ => true | _ => false) = true) (hi : (P.info? ty).map (·.size) = some cs.size)
  (hp2 : tmps.getD q undef = .pointer (some ⟨g', 0, none⟩)) (hg2 : Blk w g' t' cs')
  (hu2 : P.underlying ty' = some d') (hd2 : (match d' with | .struct _ | .array _ _ => true | _ => false) = true) (hi2 : (P.info? ty').map (·.size) = some cs'.size) :
  (results fn tmps).run P w = .ok (.tuple #[.agg cs, .agg cs']) w := by
 have hp' : tmps[p]?.getD undef = .pointer (some ⟨g, 0, none⟩) := by simpa using hp
 have hq' : tmps[q]?.getD undef = .pointer (some ⟨g', 0, none⟩) := by simpa using hp2
 simp [results, h, hp', hq', asAddr, run_loadVar_row w g t ty cs (0, 0) d hg hu hd hi, run_loadVar_row w g' t' ty' cs' (0, 0) d' hg2 hu2 hd2 hi2]
theorem nd_one (a b k p : Int) (f x : ByteArray) (n : Int) (A : Option Addr) (m c : Nat) : (#[.int .i64 a, .int .i64 b, .int .i64 k, .int .i64 p, .string f, .string x, .int .i64 n, .slice A m c] : Array Value).all (·.oneCell') = true := by rw [← Array.all_toList]; rfl
def needT (e : Nat) (l : List Tok) (N : Nat) (kd : Int) (a : Int × St) : NdP × St :=
 if a.2.cd = 0 ∧ atI (isT wWith) l a.2.k = true then (match wholeP e N (l.drop (a.2.k + 1)) with
   | some (.ok (r, ts)) => ((kd, a.1, r), (takeS e l (isT sSemi) ⟨l.length - ts.length, a.2.pl, 0⟩).2)
   | some (.error (pl, cd)) => ((kd, a.1, emptyR), ⟨a.2.k, pl, cd⟩)
   | none => ((kd, a.1, emptyR), a.2))
  else ((kd, a.1, emptyR), (takeS e l (isT sSemi) a.2).2)
def needD (e : Nat) (l : List Tok) (N : Nat) (st : St) : NdP × St :=
 if (takeS e l (isT wWants) st).2.cd ≠ 0 then ((0, 0, emptyR), (takeS e l (isT wWants) st).2)
 else if papI l (takeS e l (isT wWants) st).2.k < 0 then ((papI l (takeS e l (isT wWants) st).2.k, 0, emptyR), ⟨(takeS e l (isT wWants) st).2.k, placeI e l (takeS e l (isT wWants) st).2.k, 2⟩)
 else needT e l N (papI l (takeS e l (isT wWants) st).2.k) (numD e l 1 9 (takeS e l (isT wCopies) (takeS e l (isT wWants) st).2.step).2)
theorem take_k {e : Nat} {l : List Tok} {p : Tok → Bool} {st : St} (h : (takeS e l p st).2.cd = 0) : (takeS e l p st).2.k ≤ l.length := by
 obtain ⟨t, h1, _, h3⟩ := take_ok h
 rw [h3]
 have := (List.getElem?_eq_some_iff.1 h1).1
 show st.k + 1 ≤ l.length
 omega
theorem whole_some_any (e : Nat) (l : List Tok) (i : Nat) (hi : i ≤ l.length) : ∃ y, wholeP e (2 * l.length + 2) (l.drop i) = some y := by
 obtain ⟨x, y, _, h2, _⟩ := (whole_agree e l (2 * l.length + 2) (by omega)).2 ⟨i, 0, 0⟩ ⟨rfl, hi⟩ (by show l.length - i < _; omega)
 exact ⟨y, h2⟩
def NeededD (w : World) (A : Option Addr) (n c e : Nat) (r : NdP × St) (x : Ending) (w' : World) : Prop :=
 Below w.heap.size w w' ∧ ∃ t : Tree, x = .returned (.tuple #[.agg (rdA A n c e r.2), .agg (needC r.1.1 r.1.2.1 t)]) ∧ TreeAt w' (fun b => w.heap.size ≤ b) t ∧ strip t = r.1.2.2
set_option maxRecDepth 100000 in
set_option maxHeartbeats 25600000 in
theorem rneed_any (A : Option Addr) (n c : Nat) (l : List Tok) (w : World) (e : Nat) (hn : Hid (l.length = n)) (hm : n ≤ 4096) (hok : Hid (TokOk l)) (hg : GoodL l) (st : St) (hA : Hid (TokAt w 0 A l)) :
  Calls Tryz.prog 54 #[.agg (rdA A n c e st)] w (NeededD w A n c e (needD e l (2 * l.length + 2) st)) := by
 have hA0 := hA
 obtain ⟨N, hN⟩ : ∃ N, Hid (2 * l.length + 2 = N) := ⟨_, hd9 rfl⟩
 have hwh := rwhole_any A c e l hg hok (by rw [hn.out]; exact hm) (2 * l.length + 2) (by rw [hn.out]; omega)
 unfold RReads at hwh
 have hfu := hd9 (fun i (hi : i ≤ l.length) => whole_some_any e l i hi)
 rw [hN.out] at hwh hfu ⊢
 rw [hn.out] at hwh
 have hwh := hd9 hwh
 clear hg
 obtain ⟨⟨k1, pl1, cd1⟩, h1⟩ : ∃ s, Hid ((takeS e l (isT wWants) st).2 = s) := ⟨_, hd9 rfl⟩
 have hk1 : cd1 = 0 → k1 ≤ n := fun hz => by
  have h := take_k (e := e) (l := l) (p := isT wWants) (st := st) (by rw [h1.out]; exact hz)
  rw [h1.out, hn.out] at h
  exact h
 obtain ⟨nd, hnd⟩ : ∃ r, Hid (needD e l N st = r) := ⟨_, hd9 rfl⟩
 have hD := hnd.out
 unfold needD at hD
 rw [h1.out] at hD
 rw [hnd.out]
 obtain ⟨k, pl, cd⟩ := st
 have hD := hd9 hD
 clear hnd
 have hR : Hid (Blk (((w.alloc (.cells #[.slice A n c, .int .i64 k, .int .i64 e, .int .i64 cd, .int .i64 pl] 83)).alloc (.cells #[.slice none 0 0, .int .i64 0, .int .i64 0, .int .i64 0, .int .i64 0] 83)).alloc (.cells #[.int .i64 0, .int .i64 0, .int .i64 0, .int .i64 0, .string ⟨#[]⟩, .string ⟨#[]⟩, .int .i64 0, .slice none 0 0] 74)) w.heap.size 83 #[.slice A n c, .int .i64 k, .int .i64 e, .int .i64 cd, .int .i64 pl]) := ((Blk.new w 83 #[.slice A n c, .int .i64 k, .int .i64 e, .int .i64 cd, .int .i64 pl]).alloc _).alloc _
 have hP : Hid (Blk (((w.alloc (.cells #[.slice A n c, .int .i64 k, .int .i64 e, .int .i64 cd, .int .i64 pl] 83)).alloc (.cells #[.slice none 0 0, .int .i64 0, .int .i64 0, .int .i64 0, .int .i64 0] 83)).alloc (.cells #[.int .i64 0, .int .i64 0, .int .i64 0, .int .i64 0, .string ⟨#[]⟩, .string ⟨#[]⟩, .int .i64 0, .slice none 0 0] 74)) (w.heap.size + 1) 83 #[.slice none 0 0, .int .i64 0, .int .i64 0, .int .i64 0, .int .i64 0]) := by
  have h := (Blk.new (w.alloc (.cells #[.slice A n c, .int .i64 k, .int .i64 e, .int .i64 cd, .int .i64 pl] 83)) 83 #[.slice none 0 0, .int .i64 0, .int .i64 0, .int .i64 0, .int .i64 0]).alloc (.cells #[.int .i64 0, .int .i64 0, .int .i64 0, .int .i64 0, .string ⟨#[]⟩, .string ⟨#[]⟩, .int .i64 0, .slice none 0 0] 74)
  have hs : (w.alloc (.cells #[.slice A n c, .int .i64 k, .int .i64 e, .int .i64 cd, .int .i64 pl] 83)).heap.size = w.heap.size + 1 := by simp
  rw [hs] at h; exact h
 have hQ : Hid (Blk (((w.alloc (.cells #[.slice A n c, .int .i64 k, .int .i64 e, .int .i64 cd, .int .i64 pl] 83)).alloc (.cells #[.slice none 0 0, .int .i64 0, .int .i64 0, .int .i64 0, .int .i64 0] 83)).alloc (.cells #[.int .i64 0, .int .i64 0, .int .i64 0, .int .i64 0, .string ⟨#[]⟩, .string ⟨#[]⟩, .int .i64 0, .slice none 0 0] 74)) (w.heap.size + 2) 74 #[.int .i64 0, .int .i64 0, .int .i64 0, .int .i64 0, .string ⟨#[]⟩, .string ⟨#[]⟩, .int .i64 0, .slice none 0 0]) := by
  have h := Blk.new ((w.alloc (.cells #[.slice A n c, .int .i64 k, .int .i64 e, .int .i64 cd, .int .i64 pl] 83)).alloc (.cells #[.slice none 0 0, .int .i64 0, .int .i64 0, .int .i64 0, .int .i64 0] 83)) 74 #[.int .i64 0, .int .i64 0, .int .i64 0, .int .i64 0, .string ⟨#[]⟩, .string ⟨#[]⟩, .int .i64 0, .slice none 0 0]
  have hs : ((w.alloc (.cells #[.slice A n c, .int .i64 k, .int .i64 e, .int .i64 cd, .int .i64 pl] 83)).alloc (.cells #[.slice none 0 0, .int .i64 0, .int .i64 0, .int .i64 0, .int .i64 0] 83)).heap.size = w.heap.size + 2 := by simp
  rw [hs] at h; exact h
 have hB : Hid (Below w.heap.size w (((w.alloc (.cells #[.slice A n c, .int .i64 k, .int .i64 e, .int .i64 cd, .int .i64 pl] 83)).alloc (.cells #[.slice none 0 0, .int .i64 0, .int .i64 0, .int .i64 0, .int .i64 0] 83)).alloc (.cells #[.int .i64 0, .int .i64 0, .int .i64 0, .int .i64 0, .string ⟨#[]⟩, .string ⟨#[]⟩, .int .i64 0, .slice none 0 0] 74))) := (((Below.refl _ w).alloc le9 _).alloc (by simp) _).alloc (by simp; omega) _
 have ne1 : w.heap.size ≠ w.heap.size + 1 := by omega
 have ne2 : w.heap.size + 1 ≠ w.heap.size := by omega
 have ne3 : w.heap.size ≠ w.heap.size + 2 := by omega
 have ne4 : w.heap.size + 2 ≠ w.heap.size := by omega
 have ne5 : w.heap.size + 1 ≠ w.heap.size + 2 := by omega
 have ne6 : w.heap.size + 2 ≠ w.heap.size + 1 := by omega
 go_enter Tryz.func54, Tryz.ntmps54
 go_upto_region 1 with fail
 obtain ⟨wa, hwa⟩ : ∃ x, Hid ((((w.alloc (.cells #[.slice A n c, .int .i64 k, .int .i64 e, .int .i64 cd, .int .i64 pl] 83)).alloc (.cells #[.slice none 0 0, .int .i64 0, .int .i64 0, .int .i64 0, .int .i64 0] 83)).alloc (.cells #[.int .i64 0, .int .i64 0, .int .i64 0, .int .i64 0, .string ⟨#[]⟩, .string ⟨#[]⟩, .int .i64 0, .slice none 0 0] 74)) = x) := ⟨_, hd9 rfl⟩
 rw [hwa.out] at hR hP hQ hB ⊢
 clear hwa
 have hA := hd9 (hA.out.below hB.out)
 go_upto_region 2 with (first | (go_at_call 49; refine (rwd_any A n c l wa e hn hm wWants ⟨k, pl, cd⟩ hA).mono ?_; rintro x2 w1 ⟨rfl, hb1⟩; rw [h1.out]; have hP := hd9 (hP.out.below hb1 hP.out.lt); have hQ := hd9 (hQ.out.below hb1 hQ.out.lt); have hR := hd9 (hR.out.below hb1 hR.out.lt); have hB := hd9 (hB.out.trans (hb1.mono hB.out.size)); have hA := hd9 (hA.out.below hb1)) | (refine wpList_get_blk rfl 83 _ rfl w.heap.size #[.slice A n c, .int .i64 k, .int .i64 e, .int .i64 cd, .int .i64 pl] 83 _ rfl hR.out Tryz.underlying83 rfl (by kernel_rfl) ?_) | (refine wpList_put_blk rfl 83 _ _ rfl w.heap.size #[.slice A n c, .int .i64 k, .int .i64 e, .int .i64 cd, .int .i64 pl] #[.slice A n c, .int .i64 k1, .int .i64 e, .int .i64 cd1, .int .i64 pl1] 83 rfl rfl hR.out rfl (by kernel_rfl) (rd_one _ _ _ _ _ _ _) ?_; intro w2 hR9 hu8))
 have hR := hd9 hR9
 have hP := hd9 (hu8.blk hP.out ne2)
 have hQ := hd9 (hu8.blk hQ.out ne4)
 have hB : Hid (Below w.heap.size w w2) := hu8.to_below hB.out le9 hB.out.size
 clear hR9 hu8 hA
 have hA := hd9 (hA0.out.below hB.out)
 go_upto_region 3 with fail
 have hszX : Hid (w.heap.size + 3 ≤ w2.heap.size) := by have := hQ.out.lt; unfold Hid; omega
 have hX : Hid (Blk (w2.alloc (.cells #[.int .i64 0, .int .i64 0, .int .i64 0, .int .i64 0, .string ⟨#[]⟩, .string ⟨#[]⟩, .int .i64 0, .slice none 0 0] 74)) w2.heap.size 74 #[.int .i64 0, .int .i64 0, .int .i64 0, .int .i64 0, .string ⟨#[]⟩, .string ⟨#[]⟩, .int .i64 0, .slice none 0 0]) := Blk.new w2 74 _
 have hR := hd9 (hR.out.alloc (.cells #[.int .i64 0, .int .i64 0, .int .i64 0, .int .i64 0, .string ⟨#[]⟩, .string ⟨#[]⟩, .int .i64 0, .slice none 0 0] 74))
 have hP := hd9 (hP.out.alloc (.cells #[.int .i64 0, .int .i64 0, .int .i64 0, .int .i64 0, .string ⟨#[]⟩, .string ⟨#[]⟩, .int .i64 0, .slice none 0 0] 74))
 have hQ := hd9 (hQ.out.alloc (.cells #[.int .i64 0, .int .i64 0, .int .i64 0, .int .i64 0, .string ⟨#[]⟩, .string ⟨#[]⟩, .int .i64 0, .slice none 0 0] 74))
 have hB : Hid (Below w.heap.size w (w2.alloc (.cells #[.int .i64 0, .int .i64 0, .int .i64 0, .int .i64 0, .string ⟨#[]⟩, .string ⟨#[]⟩, .int .i64 0, .slice none 0 0] 74))) := hB.out.alloc hB.out.size _
 obtain ⟨wb, hwb⟩ : ∃ x, Hid ((w2.alloc (.cells #[.int .i64 0, .int .i64 0, .int .i64 0, .int .i64 0, .string ⟨#[]⟩, .string ⟨#[]⟩, .int .i64 0, .slice none 0 0] 74)) = x) := ⟨_, hd9 rfl⟩
 have hXlt : w2.heap.size < wb.heap.size := by rw [← hwb.out]; simp
 rw [hwb.out] at hR hP hQ hX hB ⊢
 obtain ⟨G, hG⟩ : ∃ g, Hid (w2.heap.size = g) := ⟨_, hd9 rfl⟩
 rw [hG.out] at hX hszX hXlt ⊢
 clear hwb hA
 have hA := hd9 (hA0.out.below hB.out)
 have ng1 : w.heap.size ≠ G := by have := hszX.out; omega
 have ng2 : w.heap.size + 1 ≠ G := by have := hszX.out; omega
 have ng3 : w.heap.size + 2 ≠ G := by have := hszX.out; omega
 have ng4 : G ≠ w.heap.size := by have := hszX.out; omega
 have ng5 : G ≠ w.heap.size + 1 := by have := hszX.out; omega
 have ng6 : G ≠ w.heap.size + 2 := by have := hszX.out; omega
 have hgl : Hid (w.heap.size ≤ G) := by have := hszX.out; unfold Hid; omega
 by_cases hz : cd1 = 0
 ·subst hz
  have hk1n : k1 ≤ n := hk1 rfl
  obtain ⟨kd, hkd⟩ : ∃ i, Hid (papI l k1 = i) := ⟨_, hd9 rfl⟩
  have hRc0 : wb.cell? ⟨w.heap.size, 0, none⟩ = some (.slice A n c) := hR.out.cell 0
  have hRf0 := hR.out.frozen 0
  have hRc1 : wb.cell? ⟨w.heap.size, 1, none⟩ = some (.int .i64 k1) := hR.out.cell 1
  have hRf1 := hR.out.frozen 1
  have hRc3 : wb.cell? ⟨w.heap.size, 3, none⟩ = some (.int .i64 0) := hR.out.cell 3
  have hRf3 := hR.out.frozen 3
  have hRl := hR.out.lt
  have hXc0 : wb.cell? ⟨G, 0, none⟩ = some (.int .i64 0) := hX.out.cell 0
  have hXf0 := hX.out.frozen 0
  have hXl := hX.out.lt
  go_upto_region 6 with (go_at_call 98; refine (rpaper_any A n c l wb k1 hn hA).mono ?_; rintro x2 w3 ⟨rfl, hb3⟩; rw [hkd.out]; have hP := hd9 (hP.out.below hb3 hP.out.lt); have hQ := hd9 (hQ.out.below hb3 hQ.out.lt); have hR := hd9 (hR.out.below hb3 hR.out.lt); have hB := hd9 (hB.out.trans (hb3.mono hB.out.size)); have hA := hd9 (hA.out.below hb3); have hX := hd9 (hX.out.below hb3 hX.out.lt); have hXc0 : w3.cell? ⟨G, 0, none⟩ = some (.int .i64 0) := hX.out.cell 0; have hXf0 := hX.out.frozen 0; have hXl := hX.out.lt)
  clear hRc0 hRf0 hRc1 hRf1 hRc3 hRf3 hRl hXc0 hXf0 hXl
  have hX : Hid (Blk (w3.setCell ⟨G, 0, none⟩ (.int .i64 kd)) G 74 #[.int .i64 kd, .int .i64 0, .int .i64 0, .int .i64 0, .string ⟨#[]⟩, .string ⟨#[]⟩, .int .i64 0, .slice none 0 0]) := (hX.out.set_ 0 (.int .i64 kd))
  have hR : Hid (Blk (w3.setCell ⟨G, 0, none⟩ (.int .i64 kd)) w.heap.size 83 #[.slice A n c, .int .i64 k1, .int .i64 e, .int .i64 0, .int .i64 pl1]) := (hR.out.far (p := ⟨G, 0, none⟩) ng1 _)
  have hP : Hid (Blk (w3.setCell ⟨G, 0, none⟩ (.int .i64 kd)) (w.heap.size + 1) 83 #[.slice none 0 0, .int .i64 0, .int .i64 0, .int .i64 0, .int .i64 0]) := (hP.out.far (p := ⟨G, 0, none⟩) ng2 _)
  have hQ : Hid (Blk (w3.setCell ⟨G, 0, none⟩ (.int .i64 kd)) (w.heap.size + 2) 74 #[.int .i64 0, .int .i64 0, .int .i64 0, .int .i64 0, .string ⟨#[]⟩, .string ⟨#[]⟩, .int .i64 0, .slice none 0 0]) := (hQ.out.far (p := ⟨G, 0, none⟩) ng3 _)
  have hB : Hid (Below w.heap.size w (w3.setCell ⟨G, 0, none⟩ (.int .i64 kd))) := (hB.out.setCell hgl.out _)
  obtain ⟨w11, hw⟩ : ∃ x, Hid ((w3.setCell ⟨G, 0, none⟩ (.int .i64 kd)) = x) := ⟨_, hd9 rfl⟩
  rw [hw.out] at hR hP hQ hX hB ⊢
  clear hw hA
  have hA := hd9 (hA0.out.below hB.out)
  by_cases hneg : kd < 0
  ·have b1 : decide (kd < 0) = true := by simp; omega
   have hD1 : nd = ((kd, 0, emptyR), ⟨k1, placeI e l k1, 2⟩) := by
    have h := hD.out
    rw [if_neg (show ¬ (⟨k1, pl1, 0⟩ : St).cd ≠ 0 from fun h => h rfl), hkd.out, if_pos hneg] at h
    exact h.symm
   have hD1 := hd9 hD1
   have hst := hd9 (show failS ⟨k1, pl1, 0⟩ (placeI e l k1) 2 = ⟨k1, placeI e l k1, 2⟩ from rfl)
   clear hneg
   have hXc0 : w11.cell? ⟨G, 0, none⟩ = some (.int .i64 kd) := hX.out.cell 0
   have hXf0 := hX.out.frozen 0
   have hXl := hX.out.lt
   go_upto_region 7 with fail
   clear hXc0 hXf0 hXl
   have hSV : Blk w11.drew w.heap.size 83 #[.slice A n c, .int .i64 k1, .int .i64 e, .int .i64 0, .int .i64 pl1] ∧ Blk w11.drew G 74 #[.int .i64 kd, .int .i64 0, .int .i64 0, .int .i64 0, .string ⟨#[]⟩, .string ⟨#[]⟩, .int .i64 0, .slice none 0 0] := ⟨hR.out.drew, hX.out.drew⟩
   refine wp_region_held (S := fun W => Blk W w.heap.size 83 #[.slice A n c, .int .i64 k1, .int .i64 e, .int .i64 0, .int .i64 pl1] ∧ Blk W G 74 #[.int .i64 kd, .int .i64 0, .int .i64 0, .int .i64 0, .string ⟨#[]⟩, .string ⟨#[]⟩, .int .i64 0, .slice none 0 0]) (by kernel_rfl) ?_
   refine wpAnyH_take (i := 0) rfl (by kernel_rfl) (by kernel_rfl) (by kernel_rfl) (fun _ _ _ h => h) (yields_blk rfl rfl rfl Tryz.underlying83 rfl (by kernel_rfl) (fun _ h => h.1)) hSV ?_
   go_simp
   refine wpAnyH_take (i := 1) rfl (by kernel_rfl) (by kernel_rfl) (by kernel_rfl) (fun _ _ _ h => h) (yields_of (v := .pointer (some ⟨w.heap.size, 1, none⟩)) rfl (fun _ _ => by go_simp)) hSV ?_
   go_simp
   refine wpAnyH_take (i := 2) rfl (by kernel_rfl) (by kernel_rfl) (by kernel_rfl) (fun _ _ _ h => h) (yields_of (v := .int .i64 k1) rfl (fun W hW => by
     have r1 : W.cell? ⟨w.heap.size, 1, none⟩ = some (.int .i64 k1) := hW.1.cell 1
     go_simp)) hSV ?_
   go_simp
   refine wpAnyH_take (i := 4) rfl (by kernel_rfl) (by kernel_rfl) (by kernel_rfl) (fun _ _ _ h => h) (yields_blk rfl rfl rfl Tryz.underlying74 rfl (by kernel_rfl) (fun _ h => h.2)) hSV ?_
   go_simp
   have hPd := hd9 hP.out.drew
   have hQd := hd9 hQ.out.drew
   have hBd := hd9 hB.out.drew
   refine wpAnyH_all (rs := [3]) (by kernel_rfl) (by decide) ?_
   intro i hi'
   obtain rfl := List.mem_singleton.1 hi'
   have hAd := hd9 (hA0.out.below hBd.out)
   refine held_call (f := 50) (args := #[.agg #[.slice A n c, .int .i64 k1, .int .i64 e, .int .i64 0, .int .i64 pl1], .int .i64 k1, .int .i64 2]) rfl rfl (by go_simp) ?_
   refine (stop_any A n c l _ e hn ⟨k1, pl1, 0⟩ k1 2 hAd).mono ?_
   rintro x2 wv ⟨rfl, hbv⟩
   refine ⟨_, rfl, ?_⟩
   rw [hst.out]
   have hSV : Blk wv w.heap.size 83 #[.slice A n c, .int .i64 k1, .int .i64 e, .int .i64 0, .int .i64 pl1] ∧ Blk wv G 74 #[.int .i64 kd, .int .i64 0, .int .i64 0, .int .i64 0, .string ⟨#[]⟩, .string ⟨#[]⟩, .int .i64 0, .slice none 0 0] := ⟨hSV.1.below hbv hSV.1.lt, hSV.2.below hbv hSV.2.lt⟩
   have hPd := hd9 (hPd.out.below hbv hPd.out.lt)
   have hQd := hd9 (hQd.out.below hbv hQd.out.lt)
   have hBd := hd9 (hBd.out.trans (hbv.mono hBd.out.size))
   refine ⟨hSV, ?_⟩
   go_simp
   refine wpAnyH_all (rs := [5]) (by kernel_rfl) (by decide) ?_
   intro i hi'
   obtain rfl := List.mem_singleton.1 hi'
   refine held_put rfl rfl 83 _ _ rfl (w.heap.size + 1) #[.slice none 0 0, .int .i64 0, .int .i64 0, .int .i64 0, .int .i64 0] #[.slice A n c, .int .i64 k1, .int .i64 e, .int .i64 2, .int .i64 (placeI e l k1 : Nat)] 83 rfl rfl hPd.out rfl (by kernel_rfl) (rd_one _ _ _ _ _ _ _) ?_
   intro wp hPp hup
   have hSV : Blk wp w.heap.size 83 #[.slice A n c, .int .i64 k1, .int .i64 e, .int .i64 0, .int .i64 pl1] ∧ Blk wp G 74 #[.int .i64 kd, .int .i64 0, .int .i64 0, .int .i64 0, .string ⟨#[]⟩, .string ⟨#[]⟩, .int .i64 0, .slice none 0 0] := ⟨hup.blk hSV.1 ne1, hup.blk hSV.2 ng5⟩
   have hQd := hd9 (hup.blk hQd.out ne6)
   have hBd : Hid (Below w.heap.size w wp) := hup.to_below hBd.out (by omega) hBd.out.size
   refine ⟨hSV, ?_⟩
   go_simp
   refine wpAnyH_all (rs := [6]) (by kernel_rfl) (by decide) ?_
   intro i hi'
   obtain rfl := List.mem_singleton.1 hi'
   refine held_put rfl rfl 74 _ _ rfl (w.heap.size + 2) #[.int .i64 0, .int .i64 0, .int .i64 0, .int .i64 0, .string ⟨#[]⟩, .string ⟨#[]⟩, .int .i64 0, .slice none 0 0] #[.int .i64 kd, .int .i64 0, .int .i64 0, .int .i64 0, .string ⟨#[]⟩, .string ⟨#[]⟩, .int .i64 0, .slice none 0 0] 74 rfl rfl hQd.out rfl (by kernel_rfl) (nd_one _ _ _ _ _ _ _ _ _ _) ?_
   intro wq hQq huq
   have hPq := huq.blk hPp ne5
   have hBq : Below w.heap.size w wq := huq.to_below hBd.out (by omega) hBd.out.size
   refine ⟨⟨huq.blk hSV.1 ne3, huq.blk hSV.2 ng6⟩, ?_⟩
   go_simp
   refine wpAnyH_done (by kernel_rfl) ?_ _
   go_wp2_with fail
   refine bodyPost_ret (results_row_row rfl _ _ (w.heap.size + 1) (w.heap.size + 2) 83 74 _ _ _ _ rfl hPq Tryz.underlying83 rfl (by kernel_rfl) rfl hQq Tryz.underlying74 rfl (by kernel_rfl)) rfl ?_
   unfold NeededD
   rw [hD1.out]
   exact ⟨hBq, .mk 0 0 [] [] 0 none 0 [], rfl, tree_leaf _ _ _ _ _ _ _ _ _, strip_leaf _ _ _ _ _ _ _⟩
  ·have b1 : decide (kd < 0) = false := by simp; omega
   obtain ⟨⟨k3, pl3, cd3⟩, h3⟩ : ∃ s, Hid ((takeS e l (isT wCopies) ⟨k1 + 1, pl1, 0⟩).2 = s) := ⟨_, hd9 rfl⟩
   obtain ⟨⟨v4, ⟨k4, pl4, cd4⟩⟩, h4⟩ : ∃ s, Hid (numD e l 1 9 ⟨k3, pl3, cd3⟩ = s) := ⟨_, hd9 rfl⟩
   obtain ⟨b5, hb5⟩ : ∃ b, Hid (atI (isT wWith) l k4 = b) := ⟨_, hd9 rfl⟩
   have hD1 : (if cd4 = 0 ∧ b5 = true then (match wholeP e N (l.drop (k4 + 1)) with | some (.ok (r, ts)) => ((kd, v4, r), (takeS e l (isT sSemi) ⟨l.length - ts.length, pl4, 0⟩).2) | some (.error (pl, cd)) => ((kd, v4, emptyR), ⟨k4, pl, cd⟩) | none => ((kd, v4, emptyR), ⟨k4, pl4, cd4⟩)) else ((kd, v4, emptyR), (takeS e l (isT sSemi) ⟨k4, pl4, cd4⟩).2)) = nd := by
    have h := hD.out
    rw [if_neg (show ¬ (⟨k1, pl1, 0⟩ : St).cd ≠ 0 from fun h => h rfl), hkd.out, if_neg hneg, show (⟨k1, pl1, 0⟩ : St).step = ⟨k1 + 1, pl1, 0⟩ from rfl, h3.out, h4.out] at h
    unfold needT at h
    simp only at h
    rw [hb5.out] at h
    exact h
   have hD1 := hd9 hD1
   have hkl : k1 < n := by
    rcases Nat.lt_or_ge k1 n with h | h
    ·exact h
    ·have h2 := hkd.out
     unfold papI at h2
     rw [List.getElem?_eq_none (by rw [hn.out]; exact h)] at h2
     simp only at h2
     omega
   clear hneg
   have w1' : IntKind.i64.wrap ((k1 : Int) + 1) = (k1 : Int) + 1 := IntWalk.i64_in _ (by omega)
   have hRc1 : w11.cell? ⟨w.heap.size, 1, none⟩ = some (.int .i64 k1) := hR.out.cell 1
   have hRf1 := hR.out.frozen 1
   have hRl := hR.out.lt
   have hXc0 : w11.cell? ⟨G, 0, none⟩ = some (.int .i64 kd) := hX.out.cell 0
   have hXf0 := hX.out.frozen 0
   have hXl := hX.out.lt
   go_upto_region 9 with fail
   clear hRc1 hRf1 hRl hXc0 hXf0 hXl
   have hR : Hid (Blk (w11.setCell ⟨w.heap.size, 1, none⟩ (.int .i64 ((k1 : Int) + 1))) w.heap.size 83 #[.slice A n c, .int .i64 ((k1 : Int) + 1), .int .i64 e, .int .i64 0, .int .i64 pl1]) := (hR.out.set_ 1 (.int .i64 ((k1 : Int) + 1)))
   have hP : Hid (Blk (w11.setCell ⟨w.heap.size, 1, none⟩ (.int .i64 ((k1 : Int) + 1))) (w.heap.size + 1) 83 #[.slice none 0 0, .int .i64 0, .int .i64 0, .int .i64 0, .int .i64 0]) := (hP.out.far (p := ⟨w.heap.size, 1, none⟩) ne2 _)
   have hQ : Hid (Blk (w11.setCell ⟨w.heap.size, 1, none⟩ (.int .i64 ((k1 : Int) + 1))) (w.heap.size + 2) 74 #[.int .i64 0, .int .i64 0, .int .i64 0, .int .i64 0, .string ⟨#[]⟩, .string ⟨#[]⟩, .int .i64 0, .slice none 0 0]) := (hQ.out.far (p := ⟨w.heap.size, 1, none⟩) ne4 _)
   have hX : Hid (Blk (w11.setCell ⟨w.heap.size, 1, none⟩ (.int .i64 ((k1 : Int) + 1))) G 74 #[.int .i64 kd, .int .i64 0, .int .i64 0, .int .i64 0, .string ⟨#[]⟩, .string ⟨#[]⟩, .int .i64 0, .slice none 0 0]) := (hX.out.far (p := ⟨w.heap.size, 1, none⟩) ng4 _)
   have hB : Hid (Below w.heap.size w (w11.setCell ⟨w.heap.size, 1, none⟩ (.int .i64 ((k1 : Int) + 1)))) := (hB.out.setCell le9 _)
   obtain ⟨w12, hw⟩ : ∃ x, Hid ((w11.setCell ⟨w.heap.size, 1, none⟩ (.int .i64 ((k1 : Int) + 1))) = x) := ⟨_, hd9 rfl⟩
   rw [hw.out] at hR hP hQ hX hB ⊢
   clear hw hA
   have hA := hd9 (hA0.out.below hB.out)
   go_upto_region 10 with (first | (go_at_call 49; refine (rwd_any A n c l w12 e hn hm wCopies ⟨k1 + 1, pl1, 0⟩ hA).mono ?_; rintro x2 w4 ⟨rfl, hb3⟩; rw [h3.out]; have hP := hd9 (hP.out.below hb3 hP.out.lt); have hQ := hd9 (hQ.out.below hb3 hQ.out.lt); have hR := hd9 (hR.out.below hb3 hR.out.lt); have hB := hd9 (hB.out.trans (hb3.mono hB.out.size)); have hA := hd9 (hA.out.below hb3); have hX := hd9 (hX.out.below hb3 hX.out.lt)) | (go_at_call 51; refine (ramount_any A n c l w4 e hn hm hok 1 9 ⟨k3, pl3, cd3⟩ hA).mono ?_; rintro x2 w5 ⟨rfl, hb4⟩; rw [h4.out]; have hP := hd9 (hP.out.below hb4 hP.out.lt); have hQ := hd9 (hQ.out.below hb4 hQ.out.lt); have hR := hd9 (hR.out.below hb4 hR.out.lt); have hB := hd9 (hB.out.trans (hb4.mono hB.out.size)); have hA := hd9 (hA.out.below hb4); have hX := hd9 (hX.out.below hb4 hX.out.lt)) | (refine wpList_get_blk rfl 83 _ rfl w.heap.size #[.slice A n c, .int .i64 ((k1 : Int) + 1), .int .i64 e, .int .i64 0, .int .i64 pl1] 83 _ rfl hR.out Tryz.underlying83 rfl (by kernel_rfl) ?_) | (refine wpList_put_blk rfl 83 _ _ rfl w.heap.size #[.slice A n c, .int .i64 ((k1 : Int) + 1), .int .i64 e, .int .i64 0, .int .i64 pl1] #[.slice A n c, .int .i64 k4, .int .i64 e, .int .i64 cd4, .int .i64 pl4] 83 rfl rfl hR.out rfl (by kernel_rfl) (rd_one _ _ _ _ _ _ _) ?_; intro w6 hR9 hu8))
   have hR := hd9 hR9
   have hP := hd9 (hu8.blk hP.out ne2)
   have hQ := hd9 (hu8.blk hQ.out ne4)
   have hX := hd9 (hu8.blk hX.out ng4)
   have hB : Hid (Below w.heap.size w w6) := hu8.to_below hB.out le9 hB.out.size
   clear hR9 hu8 hA
   have hA := hd9 (hA0.out.below hB.out)
   have hXc1 : w6.cell? ⟨G, 1, none⟩ = some (.int .i64 0) := hX.out.cell 1
   have hXf1 := hX.out.frozen 1
   have hXl := hX.out.lt
   go_upto_region 11 with fail
   clear hXc1 hXf1 hXl
   have hX : Hid (Blk (w6.setCell ⟨G, 1, none⟩ (.int .i64 v4)) G 74 #[.int .i64 kd, .int .i64 v4, .int .i64 0, .int .i64 0, .string ⟨#[]⟩, .string ⟨#[]⟩, .int .i64 0, .slice none 0 0]) := (hX.out.set_ 1 (.int .i64 v4))
   have hR : Hid (Blk (w6.setCell ⟨G, 1, none⟩ (.int .i64 v4)) w.heap.size 83 #[.slice A n c, .int .i64 k4, .int .i64 e, .int .i64 cd4, .int .i64 pl4]) := (hR.out.far (p := ⟨G, 1, none⟩) ng1 _)
   have hP : Hid (Blk (w6.setCell ⟨G, 1, none⟩ (.int .i64 v4)) (w.heap.size + 1) 83 #[.slice none 0 0, .int .i64 0, .int .i64 0, .int .i64 0, .int .i64 0]) := (hP.out.far (p := ⟨G, 1, none⟩) ng2 _)
   have hQ : Hid (Blk (w6.setCell ⟨G, 1, none⟩ (.int .i64 v4)) (w.heap.size + 2) 74 #[.int .i64 0, .int .i64 0, .int .i64 0, .int .i64 0, .string ⟨#[]⟩, .string ⟨#[]⟩, .int .i64 0, .slice none 0 0]) := (hQ.out.far (p := ⟨G, 1, none⟩) ng3 _)
   have hB : Hid (Below w.heap.size w (w6.setCell ⟨G, 1, none⟩ (.int .i64 v4))) := (hB.out.setCell hgl.out _)
   obtain ⟨w13, hw⟩ : ∃ x, Hid ((w6.setCell ⟨G, 1, none⟩ (.int .i64 v4)) = x) := ⟨_, hd9 rfl⟩
   rw [hw.out] at hR hP hQ hX hB ⊢
   clear hw hA
   have hA := hd9 (hA0.out.below hB.out)
   by_cases hz4 : cd4 = 0
   ·subst hz4
    have hk4 : k4 < n ∨ b5 = false := by
     rcases Nat.lt_or_ge k4 n with h | h
     ·exact .inl h
     ·right; rw [← hb5.out, atI_none (by rw [hn.out]; exact h)]
    cases b5 with
    | false =>
     obtain ⟨⟨k9, pl9, cd9⟩, h9⟩ : ∃ s, Hid ((takeS e l (isT sSemi) ⟨k4, pl4, 0⟩).2 = s) := ⟨_, hd9 rfl⟩
     have hD2 : Hid (nd = ((kd, v4, emptyR), ⟨k9, pl9, cd9⟩)) := by have h := hD1.out; rw [if_neg (by simp), h9.out] at h; exact h.symm
     have hRc0 : w13.cell? ⟨w.heap.size, 0, none⟩ = some (.slice A n c) := hR.out.cell 0
     have hRf0 := hR.out.frozen 0
     have hRc1 : w13.cell? ⟨w.heap.size, 1, none⟩ = some (.int .i64 k4) := hR.out.cell 1
     have hRf1 := hR.out.frozen 1
     have hRc3 : w13.cell? ⟨w.heap.size, 3, none⟩ = some (.int .i64 0) := hR.out.cell 3
     have hRf3 := hR.out.frozen 3
     have hRl := hR.out.lt
     go_upto_region 19 with (go_at_call 48; refine (ris_any A n c l w13 k4 wWith hn hA).mono ?_; rintro x1 wx ⟨rfl, rfl⟩; rw [hb5.out])
     clear hRc0 hRf0 hRc1 hRf1 hRc3 hRf3 hRl
     have hSV : Blk w13.drew w.heap.size 83 #[.slice A n c, .int .i64 k4, .int .i64 e, .int .i64 0, .int .i64 pl4] ∧ Blk w13.drew G 74 #[.int .i64 kd, .int .i64 v4, .int .i64 0, .int .i64 0, .string ⟨#[]⟩, .string ⟨#[]⟩, .int .i64 0, .slice none 0 0] := ⟨hR.out.drew, hX.out.drew⟩
     refine wp_region_held (S := fun W => Blk W w.heap.size 83 #[.slice A n c, .int .i64 k4, .int .i64 e, .int .i64 0, .int .i64 pl4] ∧ Blk W G 74 #[.int .i64 kd, .int .i64 v4, .int .i64 0, .int .i64 0, .string ⟨#[]⟩, .string ⟨#[]⟩, .int .i64 0, .slice none 0 0]) (by kernel_rfl) ?_
     refine wpAnyH_take (i := 0) rfl (by kernel_rfl) (by kernel_rfl) (by kernel_rfl) (fun _ _ _ h => h) (yields_blk rfl rfl rfl Tryz.underlying83 rfl (by kernel_rfl) (fun _ h => h.1)) hSV ?_
     go_simp
     refine wpAnyH_take (i := 2) rfl (by kernel_rfl) (by kernel_rfl) (by kernel_rfl) (fun _ _ _ h => h) (yields_blk rfl rfl rfl Tryz.underlying74 rfl (by kernel_rfl) (fun _ h => h.2)) hSV ?_
     go_simp
     have hPd := hd9 hP.out.drew
     have hQd := hd9 hQ.out.drew
     have hBd := hd9 hB.out.drew
     refine wpAnyH_all (rs := [1]) (by kernel_rfl) (by decide) ?_
     intro i hi'
     obtain rfl := List.mem_singleton.1 hi'
     have hAd := hd9 (hA0.out.below hBd.out)
     refine held_call (f := 49) (args := #[.agg #[.slice A n c, .int .i64 k4, .int .i64 e, .int .i64 0, .int .i64 pl4], .string ⟨#[59]⟩]) rfl rfl (by go_simp) ?_
     refine (rwd_any A n c l _ e hn hm sSemi ⟨k4, pl4, 0⟩ hAd).mono ?_
     rintro x2 wv ⟨rfl, hbv⟩
     refine ⟨_, rfl, ?_⟩
     rw [h9.out]
     have hSV : Blk wv w.heap.size 83 #[.slice A n c, .int .i64 k4, .int .i64 e, .int .i64 0, .int .i64 pl4] ∧ Blk wv G 74 #[.int .i64 kd, .int .i64 v4, .int .i64 0, .int .i64 0, .string ⟨#[]⟩, .string ⟨#[]⟩, .int .i64 0, .slice none 0 0] := ⟨hSV.1.below hbv hSV.1.lt, hSV.2.below hbv hSV.2.lt⟩
     have hPd := hd9 (hPd.out.below hbv hPd.out.lt)
     have hQd := hd9 (hQd.out.below hbv hQd.out.lt)
     have hBd := hd9 (hBd.out.trans (hbv.mono hBd.out.size))
     refine ⟨hSV, ?_⟩
     go_simp
     refine wpAnyH_all (rs := [3]) (by kernel_rfl) (by decide) ?_
     intro i hi'
     obtain rfl := List.mem_singleton.1 hi'
     refine held_put rfl rfl 83 _ _ rfl (w.heap.size + 1) #[.slice none 0 0, .int .i64 0, .int .i64 0, .int .i64 0, .int .i64 0] #[.slice A n c, .int .i64 k9, .int .i64 e, .int .i64 cd9, .int .i64 pl9] 83 rfl rfl hPd.out rfl (by kernel_rfl) (rd_one _ _ _ _ _ _ _) ?_
     intro wp hPp hup
     have hSV : Blk wp w.heap.size 83 #[.slice A n c, .int .i64 k4, .int .i64 e, .int .i64 0, .int .i64 pl4] ∧ Blk wp G 74 #[.int .i64 kd, .int .i64 v4, .int .i64 0, .int .i64 0, .string ⟨#[]⟩, .string ⟨#[]⟩, .int .i64 0, .slice none 0 0] := ⟨hup.blk hSV.1 ne1, hup.blk hSV.2 ng5⟩
     have hQd := hd9 (hup.blk hQd.out ne6)
     have hBd : Hid (Below w.heap.size w wp) := hup.to_below hBd.out (by omega) hBd.out.size
     refine ⟨hSV, ?_⟩
     go_simp
     refine wpAnyH_all (rs := [4]) (by kernel_rfl) (by decide) ?_
     intro i hi'
     obtain rfl := List.mem_singleton.1 hi'
     refine held_put rfl rfl 74 _ _ rfl (w.heap.size + 2) #[.int .i64 0, .int .i64 0, .int .i64 0, .int .i64 0, .string ⟨#[]⟩, .string ⟨#[]⟩, .int .i64 0, .slice none 0 0] #[.int .i64 kd, .int .i64 v4, .int .i64 0, .int .i64 0, .string ⟨#[]⟩, .string ⟨#[]⟩, .int .i64 0, .slice none 0 0] 74 rfl rfl hQd.out rfl (by kernel_rfl) (nd_one _ _ _ _ _ _ _ _ _ _) ?_
     intro wq hQq huq
     have hPq := huq.blk hPp ne5
     have hBq : Below w.heap.size w wq := huq.to_below hBd.out (by omega) hBd.out.size
     refine ⟨⟨huq.blk hSV.1 ne3, huq.blk hSV.2 ng6⟩, ?_⟩
     go_simp
     refine wpAnyH_done (by kernel_rfl) ?_ _
     go_wp2_with fail
     refine bodyPost_ret (results_row_row rfl _ _ (w.heap.size + 1) (w.heap.size + 2) 83 74 _ _ _ _ rfl hPq Tryz.underlying83 rfl (by kernel_rfl) rfl hQq Tryz.underlying74 rfl (by kernel_rfl)) rfl ?_
     unfold NeededD
     rw [hD2.out]
     exact ⟨hBq, .mk 0 0 [] [] 0 none 0 [], rfl, tree_leaf _ _ _ _ _ _ _ _ _, strip_leaf _ _ _ _ _ _ _⟩
    | true =>
     have hk4 : k4 < n := by simpa using hk4
     obtain ⟨y, hy⟩ : ∃ y, wholeP e N (l.drop (k4 + 1)) = some y := hfu.out (k4 + 1) (by rw [hn.out]; omega)
     have w1' : IntKind.i64.wrap ((k4 : Int) + 1) = ((k4 + 1 : Nat) : Int) := IntWalk.i64_in _ (by omega)
     have hD2 := hD1.out
     rw [if_pos (by simp), hy] at hD2
     have hy' := hd9 hy
     clear hy
     have hRc0 : w13.cell? ⟨w.heap.size, 0, none⟩ = some (.slice A n c) := hR.out.cell 0
     have hRf0 := hR.out.frozen 0
     have hRc1 : w13.cell? ⟨w.heap.size, 1, none⟩ = some (.int .i64 k4) := hR.out.cell 1
     have hRf1 := hR.out.frozen 1
     have hRc2 : w13.cell? ⟨w.heap.size, 2, none⟩ = some (.int .i64 e) := hR.out.cell 2
     have hRf2 := hR.out.frozen 2
     have hRc3 : w13.cell? ⟨w.heap.size, 3, none⟩ = some (.int .i64 0) := hR.out.cell 3
     have hRf3 := hR.out.frozen 3
     have hRl := hR.out.lt
     go_upto_region 12 with (go_at_call 48; refine (ris_any A n c l w13 k4 wWith hn hA).mono ?_; rintro x1 wx ⟨rfl, rfl⟩; rw [hb5.out])
     go_wp2_with fail
     have hXW : Hid (G < w13.heap.size) := hX.out.lt
     refine (hwh.out w13 (k4 + 1) y (by omega) hy'.out hA).mono ?_
     rintro x wg ⟨hbg, hgot⟩
     clear hRc0 hRf0 hRc1 hRf1 hRc2 hRf2 hRc3 hRf3 hRl
     have hR := hd9 (hR.out.below hbg hR.out.lt)
     have hP := hd9 (hP.out.below hbg hP.out.lt)
     have hQ := hd9 (hQ.out.below hbg hQ.out.lt)
     have hX := hd9 (hX.out.below hbg hX.out.lt)
     have hB := hd9 (hB.out.trans (hbg.mono hB.out.size))
     have hA := hd9 (hA.out.below hbg)
     cases y with
     | error q =>
      obtain ⟨pl6, cd6⟩ := q
      simp only at hD2
      have hD2 := hd9 hD2.symm
      obtain ⟨hcd6, rfl⟩ := hgot
      have b6 : (cd6 != 0) = true := by simp [hcd6]
      have hcd6p := hd9 hcd6
      clear hcd6
      unfold gotE
      have hY : Hid (Blk (wg.alloc (.cells #[.int .i64 0, .int .i64 0, .string ⟨#[]⟩, .string ⟨#[]⟩, .int .i64 0, .slice none 0 0, .int .i64 0, .int .i64 cd6, .int .i64 pl6] 65)) wg.heap.size 65 #[.int .i64 0, .int .i64 0, .string ⟨#[]⟩, .string ⟨#[]⟩, .int .i64 0, .slice none 0 0, .int .i64 0, .int .i64 cd6, .int .i64 pl6]) := Blk.new wg 65 _
      have hYl : Hid (G < wg.heap.size) := hX.out.lt
      have hbl : Hid (Below wg.heap.size wg (wg.alloc (.cells #[.int .i64 0, .int .i64 0, .string ⟨#[]⟩, .string ⟨#[]⟩, .int .i64 0, .slice none 0 0, .int .i64 0, .int .i64 cd6, .int .i64 pl6] 65))) := (Below.refl _ wg).alloc le9 _
      have hR := hd9 (hR.out.below hbl.out hR.out.lt)
      have hP := hd9 (hP.out.below hbl.out hP.out.lt)
      have hQ := hd9 (hQ.out.below hbl.out hQ.out.lt)
      have hX := hd9 (hX.out.below hbl.out hX.out.lt)
      have hB := hd9 (hB.out.trans (hbl.out.mono hB.out.size))
      go_upto_region 13 with fail
      obtain ⟨wh, hwh2⟩ : ∃ x, Hid ((wg.alloc (.cells #[.int .i64 0, .int .i64 0, .string ⟨#[]⟩, .string ⟨#[]⟩, .int .i64 0, .slice none 0 0, .int .i64 0, .int .i64 cd6, .int .i64 pl6] 65)) = x) := ⟨_, hd9 rfl⟩
      rw [hwh2.out] at hY hR hP hQ hX hB  ⊢
      clear hwh2 hbl hA
      have hA := hd9 (hA0.out.below hB.out)
      obtain ⟨Y, hYe⟩ : ∃ g, Hid (wg.heap.size = g) := ⟨_, hd9 rfl⟩
      rw [hYe.out] at hY hYl ⊢
      have y7 : wh.cell? ⟨Y, 7, none⟩ = some (.int .i64 cd6) := hY.out.cell 7
      have ny1 : w.heap.size ≠ Y := by have := hYl.out; have := hszX.out; omega
      have ny2 : Y ≠ w.heap.size := by have := hYl.out; have := hszX.out; omega
      have hRc3 : wh.cell? ⟨w.heap.size, 3, none⟩ = some (.int .i64 0) := hR.out.cell 3
      have hRf3 := hR.out.frozen 3
      have hRl := hR.out.lt
      go_upto_region 15 with fail
      have hY := hd9 (hY.out.far (p := ⟨w.heap.size, 3, none⟩) ny2 (.int .i64 cd6))
      clear y7 hRc3 hRf3 hRl
      have hR : Hid (Blk (wh.setCell ⟨w.heap.size, 3, none⟩ (.int .i64 cd6)) w.heap.size 83 #[.slice A n c, .int .i64 k4, .int .i64 e, .int .i64 cd6, .int .i64 pl4]) := (hR.out.set_ 3 (.int .i64 cd6))
      have hP : Hid (Blk (wh.setCell ⟨w.heap.size, 3, none⟩ (.int .i64 cd6)) (w.heap.size + 1) 83 #[.slice none 0 0, .int .i64 0, .int .i64 0, .int .i64 0, .int .i64 0]) := (hP.out.far (p := ⟨w.heap.size, 3, none⟩) ne2 _)
      have hQ : Hid (Blk (wh.setCell ⟨w.heap.size, 3, none⟩ (.int .i64 cd6)) (w.heap.size + 2) 74 #[.int .i64 0, .int .i64 0, .int .i64 0, .int .i64 0, .string ⟨#[]⟩, .string ⟨#[]⟩, .int .i64 0, .slice none 0 0]) := (hQ.out.far (p := ⟨w.heap.size, 3, none⟩) ne4 _)
      have hX : Hid (Blk (wh.setCell ⟨w.heap.size, 3, none⟩ (.int .i64 cd6)) G 74 #[.int .i64 kd, .int .i64 v4, .int .i64 0, .int .i64 0, .string ⟨#[]⟩, .string ⟨#[]⟩, .int .i64 0, .slice none 0 0]) := (hX.out.far (p := ⟨w.heap.size, 3, none⟩) ng4 _)
      have hB : Hid (Below w.heap.size w (wh.setCell ⟨w.heap.size, 3, none⟩ (.int .i64 cd6))) := (hB.out.setCell le9 _)
      obtain ⟨w34, hw⟩ : ∃ x, Hid ((wh.setCell ⟨w.heap.size, 3, none⟩ (.int .i64 cd6)) = x) := ⟨_, hd9 rfl⟩
      rw [hw.out] at hY hR hP hQ hX hB ⊢
      clear hw hA
      have hA := hd9 (hA0.out.below hB.out)
      have y8 : w34.cell? ⟨Y, 8, none⟩ = some (.int .i64 pl6) := hY.out.cell 8
      have hRc4 : w34.cell? ⟨w.heap.size, 4, none⟩ = some (.int .i64 pl4) := hR.out.cell 4
      have hRf4 := hR.out.frozen 4
      have hRl := hR.out.lt
      go_upto_region 16 with fail
      clear y8 hRc4 hRf4 hRl
      have hR : Hid (Blk (w34.setCell ⟨w.heap.size, 4, none⟩ (.int .i64 (pl6 : Nat))) w.heap.size 83 #[.slice A n c, .int .i64 k4, .int .i64 e, .int .i64 cd6, .int .i64 (pl6 : Nat)]) := (hR.out.set_ 4 (.int .i64 (pl6 : Nat)))
      have hP : Hid (Blk (w34.setCell ⟨w.heap.size, 4, none⟩ (.int .i64 (pl6 : Nat))) (w.heap.size + 1) 83 #[.slice none 0 0, .int .i64 0, .int .i64 0, .int .i64 0, .int .i64 0]) := (hP.out.far (p := ⟨w.heap.size, 4, none⟩) ne2 _)
      have hQ : Hid (Blk (w34.setCell ⟨w.heap.size, 4, none⟩ (.int .i64 (pl6 : Nat))) (w.heap.size + 2) 74 #[.int .i64 0, .int .i64 0, .int .i64 0, .int .i64 0, .string ⟨#[]⟩, .string ⟨#[]⟩, .int .i64 0, .slice none 0 0]) := (hQ.out.far (p := ⟨w.heap.size, 4, none⟩) ne4 _)
      have hX : Hid (Blk (w34.setCell ⟨w.heap.size, 4, none⟩ (.int .i64 (pl6 : Nat))) G 74 #[.int .i64 kd, .int .i64 v4, .int .i64 0, .int .i64 0, .string ⟨#[]⟩, .string ⟨#[]⟩, .int .i64 0, .slice none 0 0]) := (hX.out.far (p := ⟨w.heap.size, 4, none⟩) ng4 _)
      have hB : Hid (Below w.heap.size w (w34.setCell ⟨w.heap.size, 4, none⟩ (.int .i64 (pl6 : Nat)))) := (hB.out.setCell le9 _)
      obtain ⟨w35, hw⟩ : ∃ x, Hid ((w34.setCell ⟨w.heap.size, 4, none⟩ (.int .i64 (pl6 : Nat))) = x) := ⟨_, hd9 rfl⟩
      rw [hw.out] at hR hP hQ hX hB ⊢
      clear hw hA
      have hA := hd9 (hA0.out.below hB.out)
      have hSV : Blk w35.drew w.heap.size 83 #[.slice A n c, .int .i64 k4, .int .i64 e, .int .i64 cd6, .int .i64 (pl6 : Nat)] ∧ Blk w35.drew G 74 #[.int .i64 kd, .int .i64 v4, .int .i64 0, .int .i64 0, .string ⟨#[]⟩, .string ⟨#[]⟩, .int .i64 0, .slice none 0 0] := ⟨hR.out.drew, hX.out.drew⟩
      refine wp_region_held (S := fun W => Blk W w.heap.size 83 #[.slice A n c, .int .i64 k4, .int .i64 e, .int .i64 cd6, .int .i64 (pl6 : Nat)] ∧ Blk W G 74 #[.int .i64 kd, .int .i64 v4, .int .i64 0, .int .i64 0, .string ⟨#[]⟩, .string ⟨#[]⟩, .int .i64 0, .slice none 0 0]) (by kernel_rfl) ?_
      refine wpAnyH_take (i := 0) rfl (by kernel_rfl) (by kernel_rfl) (by kernel_rfl) (fun _ _ _ h => h) (yields_blk rfl rfl rfl Tryz.underlying83 rfl (by kernel_rfl) (fun _ h => h.1)) hSV ?_
      go_simp
      refine wpAnyH_take (i := 1) rfl (by kernel_rfl) (by kernel_rfl) (by kernel_rfl) (fun _ _ _ h => h) (yields_blk rfl rfl rfl Tryz.underlying74 rfl (by kernel_rfl) (fun _ h => h.2)) hSV ?_
      go_simp
      have hPd := hd9 hP.out.drew
      have hQd := hd9 hQ.out.drew
      have hBd := hd9 hB.out.drew
      refine wpAnyH_all (rs := [2]) (by kernel_rfl) (by decide) ?_
      intro i hi'
      obtain rfl := List.mem_singleton.1 hi'
      refine held_put rfl rfl 83 _ _ rfl (w.heap.size + 1) #[.slice none 0 0, .int .i64 0, .int .i64 0, .int .i64 0, .int .i64 0] #[.slice A n c, .int .i64 k4, .int .i64 e, .int .i64 cd6, .int .i64 (pl6 : Nat)] 83 rfl rfl hPd.out rfl (by kernel_rfl) (rd_one _ _ _ _ _ _ _) ?_
      intro wp hPp hup
      have hSV : Blk wp w.heap.size 83 #[.slice A n c, .int .i64 k4, .int .i64 e, .int .i64 cd6, .int .i64 (pl6 : Nat)] ∧ Blk wp G 74 #[.int .i64 kd, .int .i64 v4, .int .i64 0, .int .i64 0, .string ⟨#[]⟩, .string ⟨#[]⟩, .int .i64 0, .slice none 0 0] := ⟨hup.blk hSV.1 ne1, hup.blk hSV.2 ng5⟩
      have hQd := hd9 (hup.blk hQd.out ne6)
      have hBd : Hid (Below w.heap.size w wp) := hup.to_below hBd.out (by omega) hBd.out.size
      refine ⟨hSV, ?_⟩
      go_simp
      refine wpAnyH_all (rs := [3]) (by kernel_rfl) (by decide) ?_
      intro i hi'
      obtain rfl := List.mem_singleton.1 hi'
      refine held_put rfl rfl 74 _ _ rfl (w.heap.size + 2) #[.int .i64 0, .int .i64 0, .int .i64 0, .int .i64 0, .string ⟨#[]⟩, .string ⟨#[]⟩, .int .i64 0, .slice none 0 0] #[.int .i64 kd, .int .i64 v4, .int .i64 0, .int .i64 0, .string ⟨#[]⟩, .string ⟨#[]⟩, .int .i64 0, .slice none 0 0] 74 rfl rfl hQd.out rfl (by kernel_rfl) (nd_one _ _ _ _ _ _ _ _ _ _) ?_
      intro wq hQq huq
      have hPq := huq.blk hPp ne5
      have hBq : Below w.heap.size w wq := huq.to_below hBd.out (by omega) hBd.out.size
      refine ⟨⟨huq.blk hSV.1 ne3, huq.blk hSV.2 ng6⟩, ?_⟩
      go_simp
      refine wpAnyH_done (by kernel_rfl) ?_ _
      go_wp2_with fail
      refine bodyPost_ret (results_row_row rfl _ _ (w.heap.size + 1) (w.heap.size + 2) 83 74 _ _ _ _ rfl hPq Tryz.underlying83 rfl (by kernel_rfl) rfl hQq Tryz.underlying74 rfl (by kernel_rfl)) rfl ?_
      unfold NeededD
      rw [hD2.out]
      exact ⟨hBq, .mk 0 0 [] [] 0 none 0 [], rfl, tree_leaf _ _ _ _ _ _ _ _ _, strip_leaf _ _ _ _ _ _ _⟩
     | ok q =>
      obtain ⟨r6, ts6⟩ := q
      simp only at hD2
      obtain ⟨k6, hk6⟩ : ∃ k, Hid (l.length - ts6.length = k) := ⟨_, hd9 rfl⟩
      rw [hk6.out] at hD2
      obtain ⟨⟨k9, pl9, cd9⟩, h9⟩ : ∃ s, Hid ((takeS e l (isT sSemi) ⟨k6, pl4, 0⟩).2 = s) := ⟨_, hd9 rfl⟩
      rw [h9.out] at hD2
      have hD2 := hd9 hD2.symm
      obtain ⟨⟨uk, up, uf, ux, un, uA, uc, uL⟩, rfl, ht6, hs6⟩ := hgot
      rw [hk6.out]
      have hs6 := hd9 hs6
      have htr : Hid (TreeAt wg (fun b => w13.heap.size ≤ b ∧ b < wg.heap.size) (.mk uk up uf ux un uA uc uL)) := ht6.mono (fun b hb hk => ⟨hk, hb⟩)
      have hszW : Hid (G < w13.heap.size) := hXW.out
      clear ht6
      unfold gotV
      have hY : Hid (Blk (wg.alloc (.cells #[.int .i64 uk, .int .i64 up, .string ⟨uf.toArray⟩, .string ⟨ux.toArray⟩, .int .i64 un, .slice uA uL.length uc, .int .i64 k6, .int .i64 0, .int .i64 0] 65)) wg.heap.size 65 #[.int .i64 uk, .int .i64 up, .string ⟨uf.toArray⟩, .string ⟨ux.toArray⟩, .int .i64 un, .slice uA uL.length uc, .int .i64 k6, .int .i64 0, .int .i64 0]) := Blk.new wg 65 _
      have hYl : Hid (G < wg.heap.size) := hX.out.lt
      have hbl : Hid (Below wg.heap.size wg (wg.alloc (.cells #[.int .i64 uk, .int .i64 up, .string ⟨uf.toArray⟩, .string ⟨ux.toArray⟩, .int .i64 un, .slice uA uL.length uc, .int .i64 k6, .int .i64 0, .int .i64 0] 65))) := (Below.refl _ wg).alloc le9 _
      have htr := hd9 (htr.out.below hbl.out)
      have hR := hd9 (hR.out.below hbl.out hR.out.lt)
      have hP := hd9 (hP.out.below hbl.out hP.out.lt)
      have hQ := hd9 (hQ.out.below hbl.out hQ.out.lt)
      have hX := hd9 (hX.out.below hbl.out hX.out.lt)
      have hB := hd9 (hB.out.trans (hbl.out.mono hB.out.size))
      go_upto_region 13 with fail
      obtain ⟨wh, hwh2⟩ : ∃ x, Hid ((wg.alloc (.cells #[.int .i64 uk, .int .i64 up, .string ⟨uf.toArray⟩, .string ⟨ux.toArray⟩, .int .i64 un, .slice uA uL.length uc, .int .i64 k6, .int .i64 0, .int .i64 0] 65)) = x) := ⟨_, hd9 rfl⟩
      rw [hwh2.out] at hY hR hP hQ hX hB htr ⊢
      clear hwh2 hbl hA
      have hA := hd9 (hA0.out.below hB.out)
      obtain ⟨Y, hYe⟩ : ∃ g, Hid (wg.heap.size = g) := ⟨_, hd9 rfl⟩
      rw [hYe.out] at hY hYl ⊢
      have htr : Hid (TreeAt wh (fun b => G < b ∧ b < Y) (.mk uk up uf ux un uA uc uL)) := htr.out.mono (fun b _ hk => ⟨by have := hszW.out; omega, by rw [← hYe.out]; exact hk.2⟩)
      have hhX : ∀ b, G < b ∧ b < Y → b ≠ G := fun b hb => by omega
      have hhR : ∀ b, G < b ∧ b < Y → b ≠ w.heap.size := fun b hb => by have := hszX.out; omega
      have hhP : ∀ b, G < b ∧ b < Y → b ≠ w.heap.size + 1 := fun b hb => by have := hszX.out; omega
      have hhQ : ∀ b, G < b ∧ b < Y → b ≠ w.heap.size + 2 := fun b hb => by have := hszX.out; omega
      have ny3 : G ≠ Y := by have := hYl.out; omega
      have ny4 : Y ≠ G := by have := hYl.out; omega
      obtain ⟨y0, y1, y2, y3, y4, y5, y6, y7, _⟩ := cs9 hY.out
      have hXc2 : wh.cell? ⟨G, 2, none⟩ = some (.int .i64 0) := hX.out.cell 2
      have hXf2 := hX.out.frozen 2
      have hXc3 : wh.cell? ⟨G, 3, none⟩ = some (.int .i64 0) := hX.out.cell 3
      have hXf3 := hX.out.frozen 3
      have hXc4 : wh.cell? ⟨G, 4, none⟩ = some (.string ⟨#[]⟩) := hX.out.cell 4
      have hXf4 := hX.out.frozen 4
      have hXc5 : wh.cell? ⟨G, 5, none⟩ = some (.string ⟨#[]⟩) := hX.out.cell 5
      have hXf5 := hX.out.frozen 5
      have hXc6 : wh.cell? ⟨G, 6, none⟩ = some (.int .i64 0) := hX.out.cell 6
      have hXf6 := hX.out.frozen 6
      have hXc7 : wh.cell? ⟨G, 7, none⟩ = some (.slice none 0 0) := hX.out.cell 7
      have hXf7 := hX.out.frozen 7
      have hXl := hX.out.lt
      go_upto_region 18 with fail
      have hY := hd9 ((((((hY.out.far (p := ⟨G, 2, none⟩) ny4 (.int .i64 uk)).far (p := ⟨G, 3, none⟩) ny4 (.int .i64 up)).far (p := ⟨G, 4, none⟩) ny4 (.string ⟨uf.toArray⟩)).far (p := ⟨G, 5, none⟩) ny4 (.string ⟨ux.toArray⟩)).far (p := ⟨G, 6, none⟩) ny4 (.int .i64 un)).far (p := ⟨G, 7, none⟩) ny4 (.slice uA uL.length uc))
      clear y0 y1 y2 y3 y4 y5 y6 y7 hXc2 hXf2 hXc3 hXf3 hXc4 hXf4 hXc5 hXf5 hXc6 hXf6 hXc7 hXf7 hXl
      have hX : Hid (Blk ((((((wh.setCell ⟨G, 2, none⟩ (.int .i64 uk)).setCell ⟨G, 3, none⟩ (.int .i64 up)).setCell ⟨G, 4, none⟩ (.string ⟨uf.toArray⟩)).setCell ⟨G, 5, none⟩ (.string ⟨ux.toArray⟩)).setCell ⟨G, 6, none⟩ (.int .i64 un)).setCell ⟨G, 7, none⟩ (.slice uA uL.length uc)) G 74 #[.int .i64 kd, .int .i64 v4, .int .i64 uk, .int .i64 up, .string ⟨uf.toArray⟩, .string ⟨ux.toArray⟩, .int .i64 un, .slice uA uL.length uc]) := ((((((hX.out.set_ 2 (.int .i64 uk)).set_ 3 (.int .i64 up)).set_ 4 (.string ⟨uf.toArray⟩)).set_ 5 (.string ⟨ux.toArray⟩)).set_ 6 (.int .i64 un)).set_ 7 (.slice uA uL.length uc))
      have hR : Hid (Blk ((((((wh.setCell ⟨G, 2, none⟩ (.int .i64 uk)).setCell ⟨G, 3, none⟩ (.int .i64 up)).setCell ⟨G, 4, none⟩ (.string ⟨uf.toArray⟩)).setCell ⟨G, 5, none⟩ (.string ⟨ux.toArray⟩)).setCell ⟨G, 6, none⟩ (.int .i64 un)).setCell ⟨G, 7, none⟩ (.slice uA uL.length uc)) w.heap.size 83 #[.slice A n c, .int .i64 k4, .int .i64 e, .int .i64 0, .int .i64 pl4]) := ((((((hR.out.far (p := ⟨G, 2, none⟩) ng1 _).far (p := ⟨G, 3, none⟩) ng1 _).far (p := ⟨G, 4, none⟩) ng1 _).far (p := ⟨G, 5, none⟩) ng1 _).far (p := ⟨G, 6, none⟩) ng1 _).far (p := ⟨G, 7, none⟩) ng1 _)
      have hP : Hid (Blk ((((((wh.setCell ⟨G, 2, none⟩ (.int .i64 uk)).setCell ⟨G, 3, none⟩ (.int .i64 up)).setCell ⟨G, 4, none⟩ (.string ⟨uf.toArray⟩)).setCell ⟨G, 5, none⟩ (.string ⟨ux.toArray⟩)).setCell ⟨G, 6, none⟩ (.int .i64 un)).setCell ⟨G, 7, none⟩ (.slice uA uL.length uc)) (w.heap.size + 1) 83 #[.slice none 0 0, .int .i64 0, .int .i64 0, .int .i64 0, .int .i64 0]) := ((((((hP.out.far (p := ⟨G, 2, none⟩) ng2 _).far (p := ⟨G, 3, none⟩) ng2 _).far (p := ⟨G, 4, none⟩) ng2 _).far (p := ⟨G, 5, none⟩) ng2 _).far (p := ⟨G, 6, none⟩) ng2 _).far (p := ⟨G, 7, none⟩) ng2 _)
      have hQ : Hid (Blk ((((((wh.setCell ⟨G, 2, none⟩ (.int .i64 uk)).setCell ⟨G, 3, none⟩ (.int .i64 up)).setCell ⟨G, 4, none⟩ (.string ⟨uf.toArray⟩)).setCell ⟨G, 5, none⟩ (.string ⟨ux.toArray⟩)).setCell ⟨G, 6, none⟩ (.int .i64 un)).setCell ⟨G, 7, none⟩ (.slice uA uL.length uc)) (w.heap.size + 2) 74 #[.int .i64 0, .int .i64 0, .int .i64 0, .int .i64 0, .string ⟨#[]⟩, .string ⟨#[]⟩, .int .i64 0, .slice none 0 0]) := ((((((hQ.out.far (p := ⟨G, 2, none⟩) ng3 _).far (p := ⟨G, 3, none⟩) ng3 _).far (p := ⟨G, 4, none⟩) ng3 _).far (p := ⟨G, 5, none⟩) ng3 _).far (p := ⟨G, 6, none⟩) ng3 _).far (p := ⟨G, 7, none⟩) ng3 _)
      have htr := hd9 ((((((htr.out.far hhX 2 (.int .i64 uk)).far hhX 3 (.int .i64 up)).far hhX 4 (.string ⟨uf.toArray⟩)).far hhX 5 (.string ⟨ux.toArray⟩)).far hhX 6 (.int .i64 un)).far hhX 7 (.slice uA uL.length uc))
      have hB : Hid (Below w.heap.size w ((((((wh.setCell ⟨G, 2, none⟩ (.int .i64 uk)).setCell ⟨G, 3, none⟩ (.int .i64 up)).setCell ⟨G, 4, none⟩ (.string ⟨uf.toArray⟩)).setCell ⟨G, 5, none⟩ (.string ⟨ux.toArray⟩)).setCell ⟨G, 6, none⟩ (.int .i64 un)).setCell ⟨G, 7, none⟩ (.slice uA uL.length uc))) := ((((((hB.out.setCell hgl.out _).setCell hgl.out _).setCell hgl.out _).setCell hgl.out _).setCell hgl.out _).setCell hgl.out _)
      obtain ⟨w46, hw⟩ : ∃ x, Hid (((((((wh.setCell ⟨G, 2, none⟩ (.int .i64 uk)).setCell ⟨G, 3, none⟩ (.int .i64 up)).setCell ⟨G, 4, none⟩ (.string ⟨uf.toArray⟩)).setCell ⟨G, 5, none⟩ (.string ⟨ux.toArray⟩)).setCell ⟨G, 6, none⟩ (.int .i64 un)).setCell ⟨G, 7, none⟩ (.slice uA uL.length uc)) = x) := ⟨_, hd9 rfl⟩
      rw [hw.out] at hY hR hP hQ hX htr hB ⊢
      clear hw hA
      have hA := hd9 (hA0.out.below hB.out)
      have y6 : w46.cell? ⟨Y, 6, none⟩ = some (.int .i64 k6) := hY.out.cell 6
      have hRc1 : w46.cell? ⟨w.heap.size, 1, none⟩ = some (.int .i64 k4) := hR.out.cell 1
      have hRf1 := hR.out.frozen 1
      have hRl := hR.out.lt
      go_upto_region 19 with fail
      clear y6 hRc1 hRf1 hRl
      have hR : Hid (Blk (w46.setCell ⟨w.heap.size, 1, none⟩ (.int .i64 (k6 : Nat))) w.heap.size 83 #[.slice A n c, .int .i64 (k6 : Nat), .int .i64 e, .int .i64 0, .int .i64 pl4]) := (hR.out.set_ 1 (.int .i64 (k6 : Nat)))
      have hP : Hid (Blk (w46.setCell ⟨w.heap.size, 1, none⟩ (.int .i64 (k6 : Nat))) (w.heap.size + 1) 83 #[.slice none 0 0, .int .i64 0, .int .i64 0, .int .i64 0, .int .i64 0]) := (hP.out.far (p := ⟨w.heap.size, 1, none⟩) ne2 _)
      have hQ : Hid (Blk (w46.setCell ⟨w.heap.size, 1, none⟩ (.int .i64 (k6 : Nat))) (w.heap.size + 2) 74 #[.int .i64 0, .int .i64 0, .int .i64 0, .int .i64 0, .string ⟨#[]⟩, .string ⟨#[]⟩, .int .i64 0, .slice none 0 0]) := (hQ.out.far (p := ⟨w.heap.size, 1, none⟩) ne4 _)
      have hX : Hid (Blk (w46.setCell ⟨w.heap.size, 1, none⟩ (.int .i64 (k6 : Nat))) G 74 #[.int .i64 kd, .int .i64 v4, .int .i64 uk, .int .i64 up, .string ⟨uf.toArray⟩, .string ⟨ux.toArray⟩, .int .i64 un, .slice uA uL.length uc]) := (hX.out.far (p := ⟨w.heap.size, 1, none⟩) ng4 _)
      have htr := hd9 (htr.out.far hhR 1 (.int .i64 (k6 : Nat)))
      have hB : Hid (Below w.heap.size w (w46.setCell ⟨w.heap.size, 1, none⟩ (.int .i64 (k6 : Nat)))) := (hB.out.setCell le9 _)
      obtain ⟨w47, hw⟩ : ∃ x, Hid ((w46.setCell ⟨w.heap.size, 1, none⟩ (.int .i64 (k6 : Nat))) = x) := ⟨_, hd9 rfl⟩
      rw [hw.out] at hR hP hQ hX htr hB ⊢
      clear hw hA
      have hA := hd9 (hA0.out.below hB.out)
      have hSV : Blk w47.drew w.heap.size 83 #[.slice A n c, .int .i64 (k6 : Nat), .int .i64 e, .int .i64 0, .int .i64 pl4] ∧ Blk w47.drew G 74 #[.int .i64 kd, .int .i64 v4, .int .i64 uk, .int .i64 up, .string ⟨uf.toArray⟩, .string ⟨ux.toArray⟩, .int .i64 un, .slice uA uL.length uc] := ⟨hR.out.drew, hX.out.drew⟩
      refine wp_region_held (S := fun W => Blk W w.heap.size 83 #[.slice A n c, .int .i64 (k6 : Nat), .int .i64 e, .int .i64 0, .int .i64 pl4] ∧ Blk W G 74 #[.int .i64 kd, .int .i64 v4, .int .i64 uk, .int .i64 up, .string ⟨uf.toArray⟩, .string ⟨ux.toArray⟩, .int .i64 un, .slice uA uL.length uc]) (by kernel_rfl) ?_
      refine wpAnyH_take (i := 0) rfl (by kernel_rfl) (by kernel_rfl) (by kernel_rfl) (fun _ _ _ h => h) (yields_blk rfl rfl rfl Tryz.underlying83 rfl (by kernel_rfl) (fun _ h => h.1)) hSV ?_
      go_simp
      refine wpAnyH_take (i := 2) rfl (by kernel_rfl) (by kernel_rfl) (by kernel_rfl) (fun _ _ _ h => h) (yields_blk rfl rfl rfl Tryz.underlying74 rfl (by kernel_rfl) (fun _ h => h.2)) hSV ?_
      go_simp
      have hPd := hd9 hP.out.drew
      have hQd := hd9 hQ.out.drew
      have hBd := hd9 hB.out.drew
      have htr := hd9 (htr.out.below (Below.refl _ _).drew)
      refine wpAnyH_all (rs := [1]) (by kernel_rfl) (by decide) ?_
      intro i hi'
      obtain rfl := List.mem_singleton.1 hi'
      have hAd := hd9 (hA0.out.below hBd.out)
      refine held_call (f := 49) (args := #[.agg #[.slice A n c, .int .i64 (k6 : Nat), .int .i64 e, .int .i64 0, .int .i64 pl4], .string ⟨#[59]⟩]) rfl rfl (by go_simp) ?_
      refine (rwd_any A n c l _ e hn hm sSemi ⟨k6, pl4, 0⟩ hAd).mono ?_
      rintro x2 wv ⟨rfl, hbv⟩
      refine ⟨_, rfl, ?_⟩
      rw [h9.out]
      have hSV : Blk wv w.heap.size 83 #[.slice A n c, .int .i64 (k6 : Nat), .int .i64 e, .int .i64 0, .int .i64 pl4] ∧ Blk wv G 74 #[.int .i64 kd, .int .i64 v4, .int .i64 uk, .int .i64 up, .string ⟨uf.toArray⟩, .string ⟨ux.toArray⟩, .int .i64 un, .slice uA uL.length uc] := ⟨hSV.1.below hbv hSV.1.lt, hSV.2.below hbv hSV.2.lt⟩
      have hPd := hd9 (hPd.out.below hbv hPd.out.lt)
      have hQd := hd9 (hQd.out.below hbv hQd.out.lt)
      have hBd := hd9 (hBd.out.trans (hbv.mono hBd.out.size))
      have htr := hd9 (htr.out.below hbv)
      refine ⟨hSV, ?_⟩
      go_simp
      refine wpAnyH_all (rs := [3]) (by kernel_rfl) (by decide) ?_
      intro i hi'
      obtain rfl := List.mem_singleton.1 hi'
      refine held_put rfl rfl 83 _ _ rfl (w.heap.size + 1) #[.slice none 0 0, .int .i64 0, .int .i64 0, .int .i64 0, .int .i64 0] #[.slice A n c, .int .i64 k9, .int .i64 e, .int .i64 cd9, .int .i64 pl9] 83 rfl rfl hPd.out rfl (by kernel_rfl) (rd_one _ _ _ _ _ _ _) ?_
      intro wp hPp hup
      have hSV : Blk wp w.heap.size 83 #[.slice A n c, .int .i64 (k6 : Nat), .int .i64 e, .int .i64 0, .int .i64 pl4] ∧ Blk wp G 74 #[.int .i64 kd, .int .i64 v4, .int .i64 uk, .int .i64 up, .string ⟨uf.toArray⟩, .string ⟨ux.toArray⟩, .int .i64 un, .slice uA uL.length uc] := ⟨hup.blk hSV.1 ne1, hup.blk hSV.2 ng5⟩
      have hQd := hd9 (hup.blk hQd.out ne6)
      have hBd : Hid (Below w.heap.size w wp) := hup.to_below hBd.out (by omega) hBd.out.size
      have htr := hd9 (htr.out.but hup hhP)
      refine ⟨hSV, ?_⟩
      go_simp
      refine wpAnyH_all (rs := [4]) (by kernel_rfl) (by decide) ?_
      intro i hi'
      obtain rfl := List.mem_singleton.1 hi'
      refine held_put rfl rfl 74 _ _ rfl (w.heap.size + 2) #[.int .i64 0, .int .i64 0, .int .i64 0, .int .i64 0, .string ⟨#[]⟩, .string ⟨#[]⟩, .int .i64 0, .slice none 0 0] #[.int .i64 kd, .int .i64 v4, .int .i64 uk, .int .i64 up, .string ⟨uf.toArray⟩, .string ⟨ux.toArray⟩, .int .i64 un, .slice uA uL.length uc] 74 rfl rfl hQd.out rfl (by kernel_rfl) (nd_one _ _ _ _ _ _ _ _ _ _) ?_
      intro wq hQq huq
      have hPq := huq.blk hPp ne5
      have hBq : Below w.heap.size w wq := huq.to_below hBd.out (by omega) hBd.out.size
      have htr := hd9 (htr.out.but huq hhQ)
      refine ⟨⟨huq.blk hSV.1 ne3, huq.blk hSV.2 ng6⟩, ?_⟩
      go_simp
      refine wpAnyH_done (by kernel_rfl) ?_ _
      go_wp2_with fail
      refine bodyPost_ret (results_row_row rfl _ _ (w.heap.size + 1) (w.heap.size + 2) 83 74 _ _ _ _ rfl hPq Tryz.underlying83 rfl (by kernel_rfl) rfl hQq Tryz.underlying74 rfl (by kernel_rfl)) rfl ?_
      unfold NeededD
      rw [hD2.out]
      exact ⟨hBq, .mk uk up uf ux un uA uc uL, rfl, htr.out.mono (fun b _ hb => by have := hszX.out; omega), hs6.out⟩
   ·have b4 : (cd4 == 0) = false := by simp [hz4]
    obtain ⟨⟨k9, pl9, cd9⟩, h9⟩ : ∃ s, Hid ((takeS e l (isT sSemi) ⟨k4, pl4, cd4⟩).2 = s) := ⟨_, hd9 rfl⟩
    have hD2 : Hid (nd = ((kd, v4, emptyR), ⟨k9, pl9, cd9⟩)) := by have h := hD1.out; rw [if_neg (fun h => hz4 h.1), h9.out] at h; exact h.symm
    clear hz4
    have hRc0 : w13.cell? ⟨w.heap.size, 0, none⟩ = some (.slice A n c) := hR.out.cell 0
    have hRf0 := hR.out.frozen 0
    have hRc1 : w13.cell? ⟨w.heap.size, 1, none⟩ = some (.int .i64 k4) := hR.out.cell 1
    have hRf1 := hR.out.frozen 1
    have hRc3 : w13.cell? ⟨w.heap.size, 3, none⟩ = some (.int .i64 cd4) := hR.out.cell 3
    have hRf3 := hR.out.frozen 3
    have hRl := hR.out.lt
    go_upto_region 19 with fail
    clear hRc0 hRf0 hRc1 hRf1 hRc3 hRf3 hRl
    have hSV : Blk w13.drew w.heap.size 83 #[.slice A n c, .int .i64 k4, .int .i64 e, .int .i64 cd4, .int .i64 pl4] ∧ Blk w13.drew G 74 #[.int .i64 kd, .int .i64 v4, .int .i64 0, .int .i64 0, .string ⟨#[]⟩, .string ⟨#[]⟩, .int .i64 0, .slice none 0 0] := ⟨hR.out.drew, hX.out.drew⟩
    refine wp_region_held (S := fun W => Blk W w.heap.size 83 #[.slice A n c, .int .i64 k4, .int .i64 e, .int .i64 cd4, .int .i64 pl4] ∧ Blk W G 74 #[.int .i64 kd, .int .i64 v4, .int .i64 0, .int .i64 0, .string ⟨#[]⟩, .string ⟨#[]⟩, .int .i64 0, .slice none 0 0]) (by kernel_rfl) ?_
    refine wpAnyH_take (i := 0) rfl (by kernel_rfl) (by kernel_rfl) (by kernel_rfl) (fun _ _ _ h => h) (yields_blk rfl rfl rfl Tryz.underlying83 rfl (by kernel_rfl) (fun _ h => h.1)) hSV ?_
    go_simp
    refine wpAnyH_take (i := 2) rfl (by kernel_rfl) (by kernel_rfl) (by kernel_rfl) (fun _ _ _ h => h) (yields_blk rfl rfl rfl Tryz.underlying74 rfl (by kernel_rfl) (fun _ h => h.2)) hSV ?_
    go_simp
    have hPd := hd9 hP.out.drew
    have hQd := hd9 hQ.out.drew
    have hBd := hd9 hB.out.drew
    refine wpAnyH_all (rs := [1]) (by kernel_rfl) (by decide) ?_
    intro i hi'
    obtain rfl := List.mem_singleton.1 hi'
    have hAd := hd9 (hA0.out.below hBd.out)
    refine held_call (f := 49) (args := #[.agg #[.slice A n c, .int .i64 k4, .int .i64 e, .int .i64 cd4, .int .i64 pl4], .string ⟨#[59]⟩]) rfl rfl (by go_simp) ?_
    refine (rwd_any A n c l _ e hn hm sSemi ⟨k4, pl4, cd4⟩ hAd).mono ?_
    rintro x2 wv ⟨rfl, hbv⟩
    refine ⟨_, rfl, ?_⟩
    rw [h9.out]
    have hSV : Blk wv w.heap.size 83 #[.slice A n c, .int .i64 k4, .int .i64 e, .int .i64 cd4, .int .i64 pl4] ∧ Blk wv G 74 #[.int .i64 kd, .int .i64 v4, .int .i64 0, .int .i64 0, .string ⟨#[]⟩, .string ⟨#[]⟩, .int .i64 0, .slice none 0 0] := ⟨hSV.1.below hbv hSV.1.lt, hSV.2.below hbv hSV.2.lt⟩
    have hPd := hd9 (hPd.out.below hbv hPd.out.lt)
    have hQd := hd9 (hQd.out.below hbv hQd.out.lt)
    have hBd := hd9 (hBd.out.trans (hbv.mono hBd.out.size))
    refine ⟨hSV, ?_⟩
    go_simp
    refine wpAnyH_all (rs := [3]) (by kernel_rfl) (by decide) ?_
    intro i hi'
    obtain rfl := List.mem_singleton.1 hi'
    refine held_put rfl rfl 83 _ _ rfl (w.heap.size + 1) #[.slice none 0 0, .int .i64 0, .int .i64 0, .int .i64 0, .int .i64 0] #[.slice A n c, .int .i64 k9, .int .i64 e, .int .i64 cd9, .int .i64 pl9] 83 rfl rfl hPd.out rfl (by kernel_rfl) (rd_one _ _ _ _ _ _ _) ?_
    intro wp hPp hup
    have hSV : Blk wp w.heap.size 83 #[.slice A n c, .int .i64 k4, .int .i64 e, .int .i64 cd4, .int .i64 pl4] ∧ Blk wp G 74 #[.int .i64 kd, .int .i64 v4, .int .i64 0, .int .i64 0, .string ⟨#[]⟩, .string ⟨#[]⟩, .int .i64 0, .slice none 0 0] := ⟨hup.blk hSV.1 ne1, hup.blk hSV.2 ng5⟩
    have hQd := hd9 (hup.blk hQd.out ne6)
    have hBd : Hid (Below w.heap.size w wp) := hup.to_below hBd.out (by omega) hBd.out.size
    refine ⟨hSV, ?_⟩
    go_simp
    refine wpAnyH_all (rs := [4]) (by kernel_rfl) (by decide) ?_
    intro i hi'
    obtain rfl := List.mem_singleton.1 hi'
    refine held_put rfl rfl 74 _ _ rfl (w.heap.size + 2) #[.int .i64 0, .int .i64 0, .int .i64 0, .int .i64 0, .string ⟨#[]⟩, .string ⟨#[]⟩, .int .i64 0, .slice none 0 0] #[.int .i64 kd, .int .i64 v4, .int .i64 0, .int .i64 0, .string ⟨#[]⟩, .string ⟨#[]⟩, .int .i64 0, .slice none 0 0] 74 rfl rfl hQd.out rfl (by kernel_rfl) (nd_one _ _ _ _ _ _ _ _ _ _) ?_
    intro wq hQq huq
    have hPq := huq.blk hPp ne5
    have hBq : Below w.heap.size w wq := huq.to_below hBd.out (by omega) hBd.out.size
    refine ⟨⟨huq.blk hSV.1 ne3, huq.blk hSV.2 ng6⟩, ?_⟩
    go_simp
    refine wpAnyH_done (by kernel_rfl) ?_ _
    go_wp2_with fail
    refine bodyPost_ret (results_row_row rfl _ _ (w.heap.size + 1) (w.heap.size + 2) 83 74 _ _ _ _ rfl hPq Tryz.underlying83 rfl (by kernel_rfl) rfl hQq Tryz.underlying74 rfl (by kernel_rfl)) rfl ?_
    unfold NeededD
    rw [hD2.out]
    exact ⟨hBq, .mk 0 0 [] [] 0 none 0 [], rfl, tree_leaf _ _ _ _ _ _ _ _ _, strip_leaf _ _ _ _ _ _ _⟩
 ·have b1 : (cd1 != 0) = true := by simp [hz]
  have hD1 : nd = ((0, 0, emptyR), ⟨k1, pl1, cd1⟩) := by
   have h := hD.out
   rw [if_pos (show (⟨k1, pl1, cd1⟩ : St).cd ≠ 0 from hz)] at h
   exact h.symm
  have hD1 := hd9 hD1
  clear hz
  have hRc3 : wb.cell? ⟨w.heap.size, 3, none⟩ = some (.int .i64 cd1) := hR.out.cell 3
  have hRf3 := hR.out.frozen 3
  have hRl := hR.out.lt
  go_upto_region 4 with fail
  clear hRc3 hRf3 hRl
  have hSV : Blk wb.drew w.heap.size 83 #[.slice A n c, .int .i64 k1, .int .i64 e, .int .i64 cd1, .int .i64 pl1] ∧ Blk wb.drew G 74 #[.int .i64 0, .int .i64 0, .int .i64 0, .int .i64 0, .string ⟨#[]⟩, .string ⟨#[]⟩, .int .i64 0, .slice none 0 0] := ⟨hR.out.drew, hX.out.drew⟩
  refine wp_region_held (S := fun W => Blk W w.heap.size 83 #[.slice A n c, .int .i64 k1, .int .i64 e, .int .i64 cd1, .int .i64 pl1] ∧ Blk W G 74 #[.int .i64 0, .int .i64 0, .int .i64 0, .int .i64 0, .string ⟨#[]⟩, .string ⟨#[]⟩, .int .i64 0, .slice none 0 0]) (by kernel_rfl) ?_
  refine wpAnyH_take (i := 0) rfl (by kernel_rfl) (by kernel_rfl) (by kernel_rfl) (fun _ _ _ h => h) (yields_blk rfl rfl rfl Tryz.underlying83 rfl (by kernel_rfl) (fun _ h => h.1)) hSV ?_
  go_simp
  refine wpAnyH_take (i := 1) rfl (by kernel_rfl) (by kernel_rfl) (by kernel_rfl) (fun _ _ _ h => h) (yields_blk rfl rfl rfl Tryz.underlying74 rfl (by kernel_rfl) (fun _ h => h.2)) hSV ?_
  go_simp
  have hPd := hd9 hP.out.drew
  have hQd := hd9 hQ.out.drew
  have hBd := hd9 hB.out.drew
  refine wpAnyH_all (rs := [2]) (by kernel_rfl) (by decide) ?_
  intro i hi'
  obtain rfl := List.mem_singleton.1 hi'
  refine held_put rfl rfl 83 _ _ rfl (w.heap.size + 1) #[.slice none 0 0, .int .i64 0, .int .i64 0, .int .i64 0, .int .i64 0] #[.slice A n c, .int .i64 k1, .int .i64 e, .int .i64 cd1, .int .i64 pl1] 83 rfl rfl hPd.out rfl (by kernel_rfl) (rd_one _ _ _ _ _ _ _) ?_
  intro wp hPp hup
  have hSV : Blk wp w.heap.size 83 #[.slice A n c, .int .i64 k1, .int .i64 e, .int .i64 cd1, .int .i64 pl1] ∧ Blk wp G 74 #[.int .i64 0, .int .i64 0, .int .i64 0, .int .i64 0, .string ⟨#[]⟩, .string ⟨#[]⟩, .int .i64 0, .slice none 0 0] := ⟨hup.blk hSV.1 ne1, hup.blk hSV.2 ng5⟩
  have hQd := hd9 (hup.blk hQd.out ne6)
  have hBd : Hid (Below w.heap.size w wp) := hup.to_below hBd.out (by omega) hBd.out.size
  refine ⟨hSV, ?_⟩
  go_simp
  refine wpAnyH_all (rs := [3]) (by kernel_rfl) (by decide) ?_
  intro i hi'
  obtain rfl := List.mem_singleton.1 hi'
  refine held_put rfl rfl 74 _ _ rfl (w.heap.size + 2) #[.int .i64 0, .int .i64 0, .int .i64 0, .int .i64 0, .string ⟨#[]⟩, .string ⟨#[]⟩, .int .i64 0, .slice none 0 0] #[.int .i64 0, .int .i64 0, .int .i64 0, .int .i64 0, .string ⟨#[]⟩, .string ⟨#[]⟩, .int .i64 0, .slice none 0 0] 74 rfl rfl hQd.out rfl (by kernel_rfl) (nd_one _ _ _ _ _ _ _ _ _ _) ?_
  intro wq hQq huq
  have hPq := huq.blk hPp ne5
  have hBq : Below w.heap.size w wq := huq.to_below hBd.out (by omega) hBd.out.size
  refine ⟨⟨huq.blk hSV.1 ne3, huq.blk hSV.2 ng6⟩, ?_⟩
  go_simp
  refine wpAnyH_done (by kernel_rfl) ?_ _
  go_wp2_with fail
  refine bodyPost_ret (results_row_row rfl _ _ (w.heap.size + 1) (w.heap.size + 2) 83 74 _ _ _ _ rfl hPq Tryz.underlying83 rfl (by kernel_rfl) rfl hQq Tryz.underlying74 rfl (by kernel_rfl)) rfl ?_
  unfold NeededD
  rw [hD1.out]
  exact ⟨hBq, .mk 0 0 [] [] 0 none 0 [], rfl, tree_leaf _ _ _ _ _ _ _ _ _, strip_leaf _ _ _ _ _ _ _⟩
end Go.Proofs.YtjkmhlfjheiekaaGreatDoor

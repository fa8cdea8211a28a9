import Derived.Test.YtjkmhlfjheiekaaGreatDoorY
namespace Go.Proofs.YtjkmhlfjheiekaaGreatDoor
open Go Go.RowKit Go.BigFrame Go.Maps
theorem RowsAt.get {w : World} {ok : Nat → Prop} : ∀ {A : Option Addr} {j : Nat} {L : List Tree} (_ : RowsAt w ok A j L) (k : Nat) (t : Tree), L[k]? = some t → CellsAt w ok A (j + k) t ∧ TreeAt w ok t
 | _, _, [], _, k, t, hk => by simp at hk
 | _, _, u :: L, h, 0, t, hk => by
  rw [RowsAt] at h
  simp at hk; subst hk
  exact ⟨h.1, h.2.1⟩
 | _, j, u :: L, h, k + 1, t, hk => by
  rw [RowsAt] at h
  have := RowsAt.get h.2.2 k t (by simpa using hk)
  rw [show j + 1 + k = j + (k + 1) by omega] at this
  exact this
theorem RowsAt.below {w w' : World} {ok : Nat → Prop} {A : Option Addr} {j : Nat} {L : List Tree} (h : RowsAt w ok A j L) (hb : Below w.heap.size w w') : RowsAt w' ok A j L := h.same fun _ h1 _ => hb.cell h1
theorem RowsAt.mem {w : World} {ok : Nat → Prop} {A : Option Addr} {j : Nat} {L : List Tree} (h : RowsAt w ok A j L) {t : Tree} (ht : t ∈ L) : TreeAt w ok t := by
 obtain ⟨k, hk⟩ := List.mem_iff_getElem?.1 ht
 exact (h.get k t hk).2
mutual
theorem Tree.every {Q : Tree → Prop} (h : ∀ t, (∀ u ∈ t.sub, Q u) → Q t) : ∀ t : Tree, Q t
 | .mk _ _ _ _ _ _ _ L => h _ (Tree.everyL h L)
theorem Tree.everyL {Q : Tree → Prop} (h : ∀ t, (∀ u ∈ t.sub, Q u) → Q t) : ∀ L : List Tree, ∀ u ∈ L, Q u
 | [], u, hu => by simp at hu
 | t :: L, u, hu => by
  rcases List.mem_cons.1 hu with e | hu
  ·rw [e]; exact Tree.every h t
  ·exact Tree.everyL h L u hu
end
def AsksAt (w : World) (g : Nat) (lb : Array Value) (L : List Tree) (p : Tree → Bool) : Prop :=
 ∀ (W : World) (t : Tree), t ∈ L → Below w.heap.size w W → Calls Tryz.prog g (#[.agg t.cells] ++ lb) W fun e w' => e = .returned (.bool (p t)) ∧ Below W.heap.size W w'
theorem AsksAt.later {w W : World} {g : Nat} {lb : Array Value} {L : List Tree} {p : Tree → Bool} (h : AsksAt w g lb L p) (hb : Below w.heap.size w W) : AsksAt W g lb L p :=
 fun W' t ht hb' => h W' t ht (hb.trans (hb'.mono hb.size))
theorem any_no {L : List Tree} {k : Nat} {x : Tree} {p : Tree → Bool} {r : Bool} (h : r = (L.drop k).any p) (hx : L[k]? = some x) (hp : p x = false) : r = (L.drop (k + 1)).any p := by
 obtain ⟨hk, he⟩ := List.getElem?_eq_some_iff.1 hx
 rw [h, List.drop_eq_getElem_cons hk, he, List.any_cons, hp]; rfl
theorem any_yes {L : List Tree} {k : Nat} {x : Tree} {p : Tree → Bool} {r : Bool} (h : r = (L.drop k).any p) (hx : L[k]? = some x) (hp : p x = true) : r = true := by
 obtain ⟨hk, he⟩ := List.getElem?_eq_some_iff.1 hx
 rw [h, List.drop_eq_getElem_cons hk, he, List.any_cons, hp]; rfl
theorem any_end {L : List Tree} {k : Nat} {p : Tree → Bool} {r : Bool} (h : r = (L.drop k).any p) (hk : L.length ≤ k) : r = false := by
 rw [h, List.drop_eq_nil_of_le hk]; rfl
set_option maxRecDepth 100000 in
set_option maxHeartbeats 1600000 in
theorem index_any (A : Option Addr) (n c : Nat) (L : List Tree) (ok : Nat → Prop) (g : Nat) (lb : Array Value) (eg : ∀ (args : Array Value) (w : World), (callFunc g args).run Tryz.prog w = .ok (.enter g args) w) (p : Tree → Bool) (w : World) (hn : n ≤ maxLen) (hl : Hid (L.length = n)) (hA : Hid (RowsAt w ok A 0 L)) (hf : Hid (AsksAt w g lb L p)) :
  Calls Tryz.prog 123 #[.slice A n c, .func (.func g) #[] lb] w fun e w' => ∃ i : Int, e = .returned (.int .i64 i) ∧ decide (0 ≤ i) = L.any p ∧ Below w.heap.size w w' := by
 unfold maxLen at hn
 go_enter Tryz.func123, Tryz.ntmps123
 go_wp2_with fail
 go_loopw [8] (fun i wr => ∃ k : Nat, k ≤ n ∧ i = .int .i64 k ∧ Hid (L.any p = (L.drop k).any p) ∧ Below w.heap.size w wr) (fun i _ => n - (intOf i).toNat)
 case atStart => exact ⟨0, Nat.zero_le _, rfl, rfl, Below.refl _ _⟩
 case round =>
  obtain ⟨k, hk, rfl, hsame, hB⟩ := hrel
  by_cases hlt : k < n
  ·obtain ⟨x, hx⟩ : ∃ x, L[k]? = some x := ⟨_, List.getElem?_eq_getElem (by have := hl.out; omega)⟩
   have hx' := hd9 hx
   have hm := hd9 (List.mem_of_getElem? hx)
   clear hx
   obtain ⟨hc, _⟩ := (hA.out.below hB).get k x hx'.out
   obtain ⟨pv, hpv⟩ : ∃ b, Hid (p x = b) := ⟨_, hd9 rfl⟩
   have hcall := hd9 (hf.out wr x hm.out hB)
   rw [hpv.out] at hcall
   obtain ⟨xk, xp, xf, xx, xn, xA, xc, xL⟩ := x
   obtain ⟨b, off, rfl, _, h0, h1, h2, h3, h4, h5⟩ := hc
   rw [Nat.zero_add] at h0 h1 h2 h3 h4 h5
   unfold Tree.cells at hcall
   cases pv with
   | true =>
    have hr := hd9 (any_yes hsame.out hx'.out hpv.out)
    go_wp2_with (go_at_fn g; refine hcall.out.mono ?_; rintro e w1 ⟨rfl, hb1⟩)
    go_ret
    exact ⟨_, rfl, by rw [hr.out]; simp, hB.trans (hb1.mono hB.size)⟩
   | false =>
    have hr := hd9 (any_no hsame.out hx'.out hpv.out)
    go_wp2_with (go_at_fn g; refine hcall.out.mono ?_; rintro e w1 ⟨rfl, hb1⟩)
    go_roundw
    case rel => exact ⟨k + 1, by omega, by go_num, hr, hB.trans (hb1.mono hB.size)⟩
    case measure => simp [intOf]; omega
  ·have hr := hd9 (any_end hsame.out (by have := hl.out; omega))
   go_wp2_with fail
   go_ret
   exact ⟨_, rfl, by rw [hr.out]; rfl, hB⟩
set_option maxRecDepth 100000 in
set_option maxHeartbeats 1600000 in
theorem contains_any (A : Option Addr) (n c : Nat) (L : List Tree) (ok : Nat → Prop) (g : Nat) (lb : Array Value) (eg : ∀ (args : Array Value) (w : World), (callFunc g args).run Tryz.prog w = .ok (.enter g args) w) (p : Tree → Bool) (w : World) (hn : n ≤ maxLen) (hl : Hid (L.length = n)) (hA : Hid (RowsAt w ok A 0 L)) (hf : Hid (AsksAt w g lb L p)) :
  Calls Tryz.prog 73 #[.slice A n c, .func (.func g) #[] lb] w fun e w' => e = .returned (.bool (L.any p)) ∧ Below w.heap.size w w' := by
 have hcall := hd9 (index_any A n c L ok g lb eg p w hn hl hA hf)
 obtain ⟨b, hb⟩ : ∃ b, Hid (L.any p = b) := ⟨_, hd9 rfl⟩
 rw [hb.out] at hcall ⊢
 go_enter Tryz.func73, Tryz.ntmps73
 go_wp2_with (go_at_call 123; refine hcall.out.mono ?_; rintro e w1 ⟨i, rfl, hi, hB1⟩)
 go_ret
 exact ⟨rfl, hB1⟩
theorem crowdL_any : ∀ L : List Tree, crowdL (strips L) = L.any fun t => crowdR (strip t)
 | [] => by rw [strips, crowdL]; rfl
 | t :: L => by rw [strips, crowdL, crowdL_any L]; rfl
def CrowdC (t : Tree) : Prop := ∀ (w : World) (ok : Nat → Prop), Hid (TreeAt w ok t) → Calls Tryz.prog 69 #[.agg t.cells] w fun e w' => e = .returned (.bool (crowdR (strip t))) ∧ Below w.heap.size w w'
set_option maxRecDepth 100000 in
set_option maxHeartbeats 1600000 in
theorem crowd_walk (t : Tree) (ih : ∀ u ∈ t.sub, CrowdC u) : CrowdC t := by
 intro w ok hT
 have e69 : ∀ (args : Array Value) (w : World), (callFunc 69 args).run Tryz.prog w = .ok (.enter 69 args) w := enters_of Tryz.func69 (by kernel_rfl) rfl
 obtain ⟨k, p, f, x, n, A, c, L⟩ := t
 have hT0 := hT.out
 rw [TreeAt] at hT0
 obtain ⟨hR, hlen⟩ := hT0
 have hR' := hd9 hR
 obtain ⟨m, hm⟩ : ∃ m, Hid (L.length = m) := ⟨_, hd9 rfl⟩
 rw [hm.out] at hlen
 have ih' := hd9 ih
 clear ih hT hR
 obtain ⟨b, hb⟩ : ∃ b, Hid (L.any (fun t => crowdR (strip t)) = b) := ⟨_, hd9 rfl⟩
 have hres : Hid (crowdR (strip (.mk k p f x n A c L)) = (decide (64 < m) || b)) := by
  unfold Hid; rw [strip, crowdR, crowdL_any, hb.out, strips_map, List.length_map, hm.out]
 show Calls Tryz.prog 69 #[.agg #[.int .i64 k, .int .i64 p, .string ⟨f.toArray⟩, .string ⟨x.toArray⟩, .int .i64 n, .slice A L.length c]] w _
 rw [hm.out]
 have hb0 : Hid (Below w.heap.size w (w.alloc (.cells #[.int .i64 k, .int .i64 p, .string ⟨f.toArray⟩, .string ⟨x.toArray⟩, .int .i64 n, .slice A m c] 25))) := (Below.refl _ w).alloc le9 _
 by_cases h64 : 64 < m
 ·have b1 : decide ((64 : Int) < (m : Int)) = true := by simp; omega
  go_enter Tryz.func69, Tryz.ntmps69
  go_wp2_with fail
  go_ret
  exact ⟨by rw [hres.out, decide_eq_true h64]; rfl, hb0.out⟩
 ·have b1 : decide ((64 : Int) < (m : Int)) = false := by simp; omega
  have hcall := hd9 (contains_any A m c L ok 69 #[] e69 (fun t => crowdR (strip t)) _ hlen hm (hR'.out.below hb0.out) (fun W t ht hbl => ih'.out t ht W ok (((hR'.out.below hb0.out).mem ht).below hbl)))
  go_enter Tryz.func69, Tryz.ntmps69
  go_wp2_with (go_at_call 73; refine hcall.out.mono ?_; rintro e w1 ⟨rfl, hB1⟩)
  go_ret
  exact ⟨by rw [hres.out, decide_eq_false h64, hb.out]; rfl, hb0.out.trans (hB1.mono hb0.out.size)⟩
theorem crowd_any : ∀ t : Tree, CrowdC t := Tree.every fun t ih => crowd_walk t ih
theorem depthL_le (d : Nat) : ∀ L : List Rul, depthL L ≤ d ↔ ∀ r ∈ L, depthR r + 1 ≤ d
 | [] => by simp [depthL]
 | r :: L => by
  rw [depthL]
  have := depthL_le d L
  constructor
  ·intro h r' hr'
   rcases List.mem_cons.1 hr' with rfl | hr'
   ·omega
   ·exact this.1 (by omega) r' hr'
  ·intro h
   have h1 := h r (by simp)
   have h2 := this.2 fun r' hr' => h r' (by simp [hr'])
   omega
theorem depth_sub {k p : Int} {f x : Txt} {n : Int} {A : Option Addr} {c : Nat} {L : List Tree} (d : Nat) : decide (depthR (strip (.mk k p f x n A c L)) ≤ d) = (decide (L.length = 0) || (decide (0 < d) && !L.any fun t => !decide (depthR (strip t) ≤ d - 1))) := by
 rw [Bool.eq_iff_iff]
 simp only [decide_eq_true_eq, Bool.or_eq_true, Bool.and_eq_true, Bool.not_eq_true', List.any_eq_false]
 rw [strip, depthR, depthL_le, strips_map]
 simp only [List.mem_map, forall_exists_index, and_imp, forall_apply_eq_imp_iff₂]
 cases L with
 | nil => simp
 | cons u L =>
  constructor
  ·intro h
   have := h u (by simp)
   refine .inr ⟨by omega, fun t ht => ?_⟩
   have := h t ht
   simp; omega
  ·rintro (h | ⟨h0, h⟩) t ht
   ·simp at h
   ·have := h t ht
    simp at this; omega
def WithinC (t : Tree) : Prop := ∀ (d : Nat) (w : World) (ok : Nat → Prop), d ≤ 1000 → Hid (TreeAt w ok t) → Calls Tryz.prog 68 #[.agg t.cells, .int .i64 d] w fun e w' => e = .returned (.bool (decide (depthR (strip t) ≤ d))) ∧ Below w.heap.size w w'
set_option maxRecDepth 100000 in
set_option maxHeartbeats 1600000 in
theorem within1_any (t : Tree) (ih : WithinC t) (d : Nat) (h0 : 0 < d) (hd : d ≤ 1000) (cb : Nat) (w : World) (ok : Nat → Prop) (hT : Hid (TreeAt w ok t)) (hc : w.cell? ⟨cb, 0, none⟩ = some (.int .i64 d)) :
  Calls Tryz.prog 116 (#[.agg t.cells] ++ #[.pointer (some ⟨cb, 0, none⟩)]) w fun e w' => e = .returned (.bool (!decide (depthR (strip t) ≤ d - 1))) ∧ Below w.heap.size w w' := by
 have hw : IntKind.i64.wrap ((d : Int) - 1) = ((d - 1 : Nat) : Int) := by rw [IntWalk.i64_in _ (by omega)]; omega
 have hlt : cb < w.heap.size := World.block_lt_of_cell? w _ hc
 obtain ⟨k, p, f, x, n, A, c, L⟩ := t
 obtain ⟨b, hb⟩ : ∃ b, Hid (decide (depthR (strip (.mk k p f x n A c L)) ≤ d - 1) = b) := ⟨_, hd9 rfl⟩
 have hbl : ∀ o, Below w.heap.size w (w.alloc o) := fun o => (Below.refl _ w).alloc le9 o
 have hcall : Hid (∀ o, Calls Tryz.prog 68 #[.agg (Tree.mk k p f x n A c L).cells, .int .i64 ((d - 1 : Nat) : Int)] (w.alloc o) fun e w' => e = .returned (.bool b) ∧ Below (w.alloc o).heap.size (w.alloc o) w') := fun o => by
  rw [← hb.out]
  exact ih (d - 1) (w.alloc o) ok (by omega) (hT.out.below (hbl o))
 rw [hb.out]
 have hbl' := hd9 hbl
 clear ih hT hbl
 unfold Tree.cells at hcall ⊢
 show Calls Tryz.prog 116 #[.agg #[.int .i64 k, .int .i64 p, .string ⟨f.toArray⟩, .string ⟨x.toArray⟩, .int .i64 n, .slice A L.length c], .pointer (some ⟨cb, 0, none⟩)] w _
 go_enter Tryz.func116, Tryz.ntmps116
 go_wp2_with (go_at_call 68; refine (hcall.out _).mono ?_; rintro e w1 ⟨rfl, hB1⟩)
 go_ret
 exact ⟨rfl, (hbl'.out _).trans (hB1.mono (hbl'.out _).size)⟩
set_option maxRecDepth 100000 in
set_option maxHeartbeats 1600000 in
theorem within_walk (t : Tree) (ih : ∀ u ∈ t.sub, WithinC u) : WithinC t := by
 intro d w ok hd hT
 have e116 : ∀ (args : Array Value) (w : World), (callFunc 116 args).run Tryz.prog w = .ok (.enter 116 args) w := enters_of Tryz.func116 (by kernel_rfl) rfl
 obtain ⟨k, p, f, x, n, A, c, L⟩ := t
 have hT0 := hT.out
 rw [TreeAt] at hT0
 obtain ⟨hR, hlen⟩ := hT0
 have hR' := hd9 hR
 have hres := hd9 (depth_sub (k := k) (p := p) (f := f) (x := x) (n := n) (A := A) (c := c) (L := L) d)
 obtain ⟨m, hm⟩ : ∃ m, Hid (L.length = m) := ⟨_, hd9 rfl⟩
 rw [hm.out] at hlen hres
 have ih' := hd9 ih
 clear ih hT hR
 obtain ⟨b, hb⟩ : ∃ b, Hid (L.any (fun t => !decide (depthR (strip t) ≤ d - 1)) = b) := ⟨_, hd9 rfl⟩
 rw [hb.out] at hres
 rw [hres.out]
 show Calls Tryz.prog 68 #[.agg #[.int .i64 k, .int .i64 p, .string ⟨f.toArray⟩, .string ⟨x.toArray⟩, .int .i64 n, .slice A L.length c], .int .i64 d] w _
 rw [hm.out]
 have hB0 : Hid (∀ o o', Below w.heap.size w ((w.alloc o).alloc o')) := fun o o' => ((Below.refl _ w).alloc le9 o).alloc (by simp) o'
 by_cases hm0 : m = 0
 ·subst hm0
  go_enter Tryz.func68, Tryz.ntmps68
  go_wp2_with fail
  go_ret
  exact ⟨rfl, hB0.out _ _⟩
 ·have b0 : ((m : Int) == 0) = false := by simp; omega
  by_cases hd0 : d = 0
  ·subst hd0
   go_enter Tryz.func68, Tryz.ntmps68
   go_wp2_with fail
   go_ret
   exact ⟨by simp [hm0], hB0.out _ _⟩
  ·have b1 : decide ((0 : Int) < (d : Int)) = true := by simp; omega
   have hcall : Hid (Calls Tryz.prog 73 #[.slice A m c, .func (.func 116) #[] #[.pointer (some ⟨w.heap.size + 1, 0, none⟩)]] ((w.alloc (.cells #[.int .i64 k, .int .i64 p, .string ⟨f.toArray⟩, .string ⟨x.toArray⟩, .int .i64 n, .slice A m c] 25)).alloc (.cells #[.int .i64 d] 3)) fun e w' => e = .returned (.bool b) ∧ Below ((w.alloc (.cells #[.int .i64 k, .int .i64 p, .string ⟨f.toArray⟩, .string ⟨x.toArray⟩, .int .i64 n, .slice A m c] 25)).alloc (.cells #[.int .i64 d] 3)).heap.size ((w.alloc (.cells #[.int .i64 k, .int .i64 p, .string ⟨f.toArray⟩, .string ⟨x.toArray⟩, .int .i64 n, .slice A m c] 25)).alloc (.cells #[.int .i64 d] 3)) w') := by
    rw [← hb.out]
    have hR2 := hR'.out.below (hB0.out (.cells #[.int .i64 k, .int .i64 p, .string ⟨f.toArray⟩, .string ⟨x.toArray⟩, .int .i64 n, .slice A m c] 25) (.cells #[.int .i64 d] 3))
    refine contains_any A m c L ok 116 _ e116 (fun t => !decide (depthR (strip t) ≤ d - 1)) _ hlen hm hR2 (fun W t ht hbl => ?_)
    have hc1 := (blk_second w (.cells #[.int .i64 k, .int .i64 p, .string ⟨f.toArray⟩, .string ⟨x.toArray⟩, .int .i64 n, .slice A m c] 25) 3 #[.int .i64 d])
    exact within1_any t (ih'.out t ht) d (by omega) hd _ W ok ((hR2.mem ht).below hbl) (by rw [hbl.cell hc1.lt, hc1.cell]; rfl)
   go_enter Tryz.func68, Tryz.ntmps68
   go_wp2_with (go_at_call 73; refine hcall.out.mono ?_; rintro e w1 ⟨rfl, hB1⟩)
   go_ret
   exact ⟨by simp [hm0]; omega, (hB0.out _ _).trans (hB1.mono (hB0.out _ _).size)⟩
theorem within_any : ∀ t : Tree, WithinC t := Tree.every fun t ih => within_walk t ih
end Go.Proofs.YtjkmhlfjheiekaaGreatDoor
namespace Go.Proofs.YtjkmhlfjheiekaaGreatDoor
open Go Go.RowKit Go.BigFrame Go.Maps
theorem whole_some {e : Nat} {l : List Tok} {n : Nat} {st : St} {r : Rul × St} (h : wholeS e l n st = some r) : ∃ r0 s1, ruleS e l n st = some (r0, s1) ∧ r = (r0, if s1.cd = 0 ∧ (16 < depthR r0 ∨ crowdR r0 = true) then failS s1 (placeS e l st) 7 else s1) := by
 unfold wholeS at h
 cases hr : ruleS e l n st with
 | none => rw [hr] at h; simp at h
 | some x =>
  obtain ⟨r0, s1⟩ := x
  rw [hr] at h
  simp only [Option.some.injEq] at h
  exact ⟨r0, s1, rfl, h.symm⟩
set_option maxRecDepth 100000 in
set_option maxHeartbeats 3200000 in
theorem whole_any (pb : Nat) (A : Option Addr) (c e : Nat) (l : List Tok) (h8 : Hid (8 ≤ pb)) (hok : Hid (TokOk l)) (n : Nat) (hn : n ≤ 100000) : Reads' pb A c e l 31 (wholeS e l n) := by
 intro w st r hr hp he
 have hrule : Hid (Reads' pb A c e l 67 (ruleS e l n)) := rule_any pb A c e l _ h8 (all_any pb A c e l _ h8 (one_any pb A c e l h8 hok n hn) n hn) n hn
 obtain ⟨r0, s1, h1, rfl⟩ := whole_some hr
 have hlt0 := hp.out.row.lt
 have hneR : Hid (w.heap.size ≠ pb) := by unfold Hid; omega
 have hR0 : Hid (Blk (w.alloc (.cells zeroN 25)) w.heap.size 25 zeroN) := Blk.new w 25 zeroN
 have hB0 : Hid (But pb w (w.alloc (.cells zeroN 25))) := (But.refl pb w).below ((Below.refl _ w).alloc le9 _)
 have hp0 : Hid (ParAt (w.alloc (.cells zeroN 25)) pb A c e l st) := hp.out.below ((Below.refl _ w).alloc le9 _)
 have hsz0 : Hid (w.heap.size + 1 ≤ (w.alloc (.cells zeroN 25)).heap.size) := by unfold Hid; simp
 obtain ⟨at_, hat⟩ : ∃ k, Hid (placeS e l st = k) := ⟨_, hd9 rfl⟩
 rw [hat.out]
 obtain ⟨s9, hs9⟩ : ∃ s, Hid ((if s1.cd = 0 ∧ (16 < depthR r0 ∨ crowdR r0 = true) then failS s1 at_ 7 else s1) = s) := ⟨_, hd9 rfl⟩
 rw [hs9.out]
 clear hr hlt0
 go_enter Tryz.func31, Tryz.ntmps31
 go_wp2_with fail
 change Calls Tryz.prog 33 _ (w.alloc (.cells zeroN 25)) _
 obtain ⟨wa, hwa⟩ : ∃ x, Hid (w.alloc (.cells zeroN 25) = x) := ⟨_, hd9 rfl⟩
 rw [hwa.out] at hR0 hB0 hp0 hsz0 ⊢
 clear hwa
 refine (place_any wa pb A c e l st hp0).mono ?_
 rintro x w1 ⟨rfl, hb1⟩
 rw [hat.out]
 have hp1 := hd9 (hp0.out.below hb1)
 have hB1 := hd9 (hB0.out.below hb1)
 have hR1 := hd9 (hR0.out.below hb1 hR0.out.lt)
 have hsz1 : Hid (w.heap.size + 1 ≤ w1.heap.size) := Nat.le_trans hsz0.out hb1.size
 clear hb1 hR0 hB0 hp0 hsz0
 go_wp2_with fail
 refine (hrule.out w1 st (r0, s1) h1 hp1 (he.out.but hB1.out h8.out)).mono ?_
 rintro x w2 ⟨hu2, hq2, ⟨uk, up, uf, ux, un, uA, uc, uL⟩, rfl, ht2, hs2⟩
 have hsz2 : Hid (w.heap.size + 1 ≤ w2.heap.size) := Nat.le_trans hsz1.out hu2.size
 have hs2' := hd9 hs2
 have hbl : ∀ o, Below w2.heap.size w2 (w2.alloc o) := fun o => (Below.refl _ w2).alloc le9 o
 have hN : Hid (Blk (w2.alloc (.cells #[.int .i64 uk, .int .i64 up, .string ⟨uf.toArray⟩, .string ⟨ux.toArray⟩, .int .i64 un, .slice uA uL.length uc] 25)) w2.heap.size 25 #[.int .i64 uk, .int .i64 up, .string ⟨uf.toArray⟩, .string ⟨ux.toArray⟩, .int .i64 un, .slice uA uL.length uc]) := Blk.new w2 25 _
 have hR := hd9 ((hu2.blk hR1.out hneR.out).alloc (.cells #[.int .i64 uk, .int .i64 up, .string ⟨uf.toArray⟩, .string ⟨ux.toArray⟩, .int .i64 un, .slice uA uL.length uc] 25))
 have hB := hd9 ((hB1.out.trans hu2).below (hbl (.cells #[.int .i64 uk, .int .i64 up, .string ⟨uf.toArray⟩, .string ⟨ux.toArray⟩, .int .i64 un, .slice uA uL.length uc] 25)))
 have hq := hd9 (hq2.below (hbl (.cells #[.int .i64 uk, .int .i64 up, .string ⟨uf.toArray⟩, .string ⟨ux.toArray⟩, .int .i64 un, .slice uA uL.length uc] 25)))
 have ht : Hid (TreeAt (w2.alloc (.cells #[.int .i64 uk, .int .i64 up, .string ⟨uf.toArray⟩, .string ⟨ux.toArray⟩, .int .i64 un, .slice uA uL.length uc] 25)) (fun b => w.heap.size + 1 ≤ b) (.mk uk up uf ux un uA uc uL)) := (ht2.mono (fun b _ hb => Nat.le_trans hsz1.out hb)).below (hbl _)
 have hR2w := hd9 (hu2.blk hR1.out hneR.out)
 have hB2w := hd9 (hB1.out.trans hu2)
 have hq2w := hd9 hq2
 have ht2w : Hid (TreeAt w2 (fun b => w.heap.size + 1 ≤ b) (.mk uk up uf ux un uA uc uL)) := ht2.mono (fun b _ hb => Nat.le_trans hsz1.out hb)
 have hneN : Hid (w2.heap.size ≠ pb) := by have := hq2.row.lt; unfold Hid; omega
 have hneNR : Hid (w2.heap.size ≠ w.heap.size) := by have := hsz2.out; unfold Hid; omega
 have hneRN : Hid (w.heap.size ≠ w2.heap.size) := by have := hsz2.out; unfold Hid; omega
 have ne1 := hneNR.out
 have ne2 := hneRN.out
 have d4 : w2.cell? ⟨pb, 4, none⟩ = some (.int .i64 s1.cd) := hq2.row.cell 4
 have dlt := hq2.row.lt
 clear hu2 hq2 ht2 hs2 hbl hR1 hB1 hp1 hsz1 h1
 unfold Tree.cells
 obtain ⟨cd, hcd⟩ : ∃ k, Hid (s1.cd = k) := ⟨_, hd9 rfl⟩
 rw [hcd.out] at d4
 by_cases hz : cd = 0
 ·have b1 : (cd == 0) = true := by simp [hz]
  have hz' : Hid (s1.cd = 0) := by unfold Hid; rw [hcd.out, hz]
  clear hz
  go_wp2_with fail
  obtain ⟨wb, hwb⟩ : ∃ x, Hid (w2.alloc (.cells #[.int .i64 uk, .int .i64 up, .string ⟨uf.toArray⟩, .string ⟨ux.toArray⟩, .int .i64 un, .slice uA uL.length uc] 25) = x) := ⟨_, hd9 rfl⟩
  have hszb : Hid (w.heap.size + 1 ≤ wb.heap.size) := by rw [← hwb.out]; exact Nat.le_trans hsz2.out (by simp)
  rw [hwb.out] at hN hR hB hq ht ⊢
  clear hwb d4 dlt
  have hwi : Hid (Calls Tryz.prog 68 #[.agg #[.int .i64 uk, .int .i64 up, .string ⟨uf.toArray⟩, .string ⟨ux.toArray⟩, .int .i64 un, .slice uA uL.length uc], .int .i64 16] wb fun e w' => e = .returned (.bool (decide (depthR r0 ≤ 16))) ∧ Below wb.heap.size wb w') := by
   have := within_any (.mk uk up uf ux un uA uc uL) 16 wb _ (by omega) ht
   rw [hs2'.out] at this
   exact this
  refine hwi.out.mono ?_
  rintro x w3 ⟨rfl, hb3⟩
  clear hwi
  have hszb : Hid (w.heap.size + 1 ≤ w3.heap.size) := Nat.le_trans hszb.out hb3.size
  have hN := hd9 (hN.out.below hb3 hN.out.lt)
  have hR := hd9 (hR.out.below hb3 hR.out.lt)
  have hB := hd9 (hB.out.below hb3)
  have hq := hd9 (hq.out.below hb3)
  have ht := hd9 (ht.out.below hb3)
  clear hb3
  by_cases hdp : depthR r0 ≤ 16
  ·rw [decide_eq_true hdp]
   obtain ⟨nc0, nc1, nc2, nc3, nc4, nc5⟩ := cs6 hN.out
   have nlt := hN.out.lt
   go_wp2_with fail
   have hcr : Hid (Calls Tryz.prog 69 #[.agg #[.int .i64 uk, .int .i64 up, .string ⟨uf.toArray⟩, .string ⟨ux.toArray⟩, .int .i64 un, .slice uA uL.length uc]] w3 fun e w' => e = .returned (.bool (crowdR r0)) ∧ Below w3.heap.size w3 w') := by
    have := crowd_any (.mk uk up uf ux un uA uc uL) w3 _ ht
    rw [hs2'.out] at this
    exact this
   clear nc0 nc1 nc2 nc3 nc4 nc5 nlt
   refine hcr.out.mono ?_
   rintro x w4 ⟨rfl, hb4⟩
   clear hcr
   have hszb : Hid (w.heap.size + 1 ≤ w4.heap.size) := Nat.le_trans hszb.out hb4.size
   have hN := hd9 (hN.out.below hb4 hN.out.lt)
   have hR := hd9 (hR.out.below hb4 hR.out.lt)
   have hB := hd9 (hB.out.below hb4)
   have hq := hd9 (hq.out.below hb4)
   have ht := hd9 (ht.out.below hb4)
   clear hb4
   cases hcw : crowdR r0 with
   | false =>
    have hst : Hid (s9 = s1) := by unfold Hid; rw [← hs9.out, if_neg (by rw [hcw]; simp; omega)]
    clear hcw hdp hs9
    have hq : Hid (ParAt w4 pb A c e l s9) := by rw [hst.out]; exact hq
    clear hst
    obtain ⟨nc0, nc1, nc2, nc3, nc4, nc5⟩ := cs6 hN.out
    obtain ⟨rc0, rc1, rc2, rc3, rc4, rc5, rf0, rf1, rf2, rf3, rf4, rf5⟩ := cf6 hR.out
    have rlt := hR.out.lt
    have nlt := hN.out.lt
    go_wp2_with fail
    refine bodyPost_ret (results_row rfl _ _ w.heap.size 25 _ _ rfl ((((((hR.out.set_ 0 _).set_ 1 _).set_ 2 _).set_ 3 _).set_ 4 _).set_ 5 _) Tryz.underlying25 rfl (by kernel_rfl)) rfl ?_
    have hh : ∀ b, (w.heap.size + 1 ≤ b) → b ≠ w.heap.size := fun b hb => by omega
    unfold Ruled
    refine ⟨((((((hB.out.far le9 _ _).far le9 _ _).far le9 _ _).far le9 _ _).far le9 _ _).far le9 _ _), ⟨((((((hq.out.row.far (p := ⟨w.heap.size, 0, none⟩) hneR.out.symm _).far (p := ⟨w.heap.size, 1, none⟩) hneR.out.symm _).far (p := ⟨w.heap.size, 2, none⟩) hneR.out.symm _).far (p := ⟨w.heap.size, 3, none⟩) hneR.out.symm _).far (p := ⟨w.heap.size, 4, none⟩) hneR.out.symm _).far (p := ⟨w.heap.size, 5, none⟩) hneR.out.symm _), hp.out.tok.but ((((((hB.out.far le9 _ _).far le9 _ _).far le9 _ _).far le9 _ _).far le9 _ _).far le9 _ _), hq.out.len, hq.out.pos⟩, .mk uk up uf ux un uA uc uL, rfl, ?_, hs2'.out⟩
    exact (((((((ht.out.far hh _ _).far hh _ _).far hh _ _).far hh _ _).far hh _ _).far hh _ _)).mono (fun b _ hk => by omega)
   | true =>
    have hst : Hid (s9 = failS s1 at_ 7) := by unfold Hid; rw [← hs9.out, if_pos ⟨hz'.out, .inr hcw⟩]
    clear hcw hdp hs9
    go_wp2_with fail
    refine (fail_any w4 pb A c e l s1 at_ 7 hq).mono ?_
    rintro x w5 ⟨rfl, hu5, hq5⟩
    have hN := hd9 (hu5.blk hN.out hneN.out)
    have hR := hd9 (hu5.blk hR.out hneR.out)
    have hB := hd9 (hB.out.trans hu5)
    have hq := hd9 hq5
    have ht := hd9 (ht.out.but hu5 (fun b hb => by have := hp.out.row.lt; omega))
    clear hu5 hq5
    have hq : Hid (ParAt w5 pb A c e l s9) := by rw [hst.out]; exact hq
    clear hst
    obtain ⟨nc0, nc1, nc2, nc3, nc4, nc5⟩ := cs6 hN.out
    obtain ⟨rc0, rc1, rc2, rc3, rc4, rc5, rf0, rf1, rf2, rf3, rf4, rf5⟩ := cf6 hR.out
    have rlt := hR.out.lt
    have nlt := hN.out.lt
    go_wp2_with fail
    refine bodyPost_ret (results_row rfl _ _ w.heap.size 25 _ _ rfl ((((((hR.out.set_ 0 _).set_ 1 _).set_ 2 _).set_ 3 _).set_ 4 _).set_ 5 _) Tryz.underlying25 rfl (by kernel_rfl)) rfl ?_
    have hh : ∀ b, (w.heap.size + 1 ≤ b) → b ≠ w.heap.size := fun b hb => by omega
    unfold Ruled
    refine ⟨((((((hB.out.far le9 _ _).far le9 _ _).far le9 _ _).far le9 _ _).far le9 _ _).far le9 _ _), ⟨((((((hq.out.row.far (p := ⟨w.heap.size, 0, none⟩) hneR.out.symm _).far (p := ⟨w.heap.size, 1, none⟩) hneR.out.symm _).far (p := ⟨w.heap.size, 2, none⟩) hneR.out.symm _).far (p := ⟨w.heap.size, 3, none⟩) hneR.out.symm _).far (p := ⟨w.heap.size, 4, none⟩) hneR.out.symm _).far (p := ⟨w.heap.size, 5, none⟩) hneR.out.symm _), hp.out.tok.but ((((((hB.out.far le9 _ _).far le9 _ _).far le9 _ _).far le9 _ _).far le9 _ _).far le9 _ _), hq.out.len, hq.out.pos⟩, .mk uk up uf ux un uA uc uL, rfl, ?_, hs2'.out⟩
    exact (((((((ht.out.far hh _ _).far hh _ _).far hh _ _).far hh _ _).far hh _ _).far hh _ _)).mono (fun b _ hk => by omega)
  ·rw [decide_eq_false hdp]
   have hst : Hid (s9 = failS s1 at_ 7) := by unfold Hid; rw [← hs9.out, if_pos ⟨hz'.out, .inl (by omega)⟩]
   clear hdp hs9
   go_wp2_with fail
   refine (fail_any w3 pb A c e l s1 at_ 7 hq).mono ?_
   rintro x w5 ⟨rfl, hu5, hq5⟩
   have hN := hd9 (hu5.blk hN.out hneN.out)
   have hR := hd9 (hu5.blk hR.out hneR.out)
   have hB := hd9 (hB.out.trans hu5)
   have hq := hd9 hq5
   have ht := hd9 (ht.out.but hu5 (fun b hb => by have := hp.out.row.lt; omega))
   clear hu5 hq5
   have hq : Hid (ParAt w5 pb A c e l s9) := by rw [hst.out]; exact hq
   clear hst
   obtain ⟨nc0, nc1, nc2, nc3, nc4, nc5⟩ := cs6 hN.out
   obtain ⟨rc0, rc1, rc2, rc3, rc4, rc5, rf0, rf1, rf2, rf3, rf4, rf5⟩ := cf6 hR.out
   have rlt := hR.out.lt
   have nlt := hN.out.lt
   go_wp2_with fail
   refine bodyPost_ret (results_row rfl _ _ w.heap.size 25 _ _ rfl ((((((hR.out.set_ 0 _).set_ 1 _).set_ 2 _).set_ 3 _).set_ 4 _).set_ 5 _) Tryz.underlying25 rfl (by kernel_rfl)) rfl ?_
   have hh : ∀ b, (w.heap.size + 1 ≤ b) → b ≠ w.heap.size := fun b hb => by omega
   unfold Ruled
   refine ⟨((((((hB.out.far le9 _ _).far le9 _ _).far le9 _ _).far le9 _ _).far le9 _ _).far le9 _ _), ⟨((((((hq.out.row.far (p := ⟨w.heap.size, 0, none⟩) hneR.out.symm _).far (p := ⟨w.heap.size, 1, none⟩) hneR.out.symm _).far (p := ⟨w.heap.size, 2, none⟩) hneR.out.symm _).far (p := ⟨w.heap.size, 3, none⟩) hneR.out.symm _).far (p := ⟨w.heap.size, 4, none⟩) hneR.out.symm _).far (p := ⟨w.heap.size, 5, none⟩) hneR.out.symm _), hp.out.tok.but ((((((hB.out.far le9 _ _).far le9 _ _).far le9 _ _).far le9 _ _).far le9 _ _).far le9 _ _), hq.out.len, hq.out.pos⟩, .mk uk up uf ux un uA uc uL, rfl, ?_, hs2'.out⟩
   exact (((((((ht.out.far hh _ _).far hh _ _).far hh _ _).far hh _ _).far hh _ _).far hh _ _)).mono (fun b _ hk => by omega)
 ·have b1 : (cd == 0) = false := by simp [hz]
  have hst : Hid (s9 = s1) := by unfold Hid; rw [← hs9.out, if_neg (fun h => hz (hcd.out ▸ h.1))]
  clear hz hs9
  have hR := hR2w
  have hB := hB2w
  have hq : Hid (ParAt w2 pb A c e l s9) := by rw [hst.out]; exact hq2w
  clear hst
  have ht := ht2w
  obtain ⟨rc0, rc1, rc2, rc3, rc4, rc5, rf0, rf1, rf2, rf3, rf4, rf5⟩ := cf6 hR.out
  have rlt := hR.out.lt
  go_wp2_with fail
  refine bodyPost_ret (results_row rfl _ _ w.heap.size 25 _ _ rfl (((((((hR.out.set_ 0 _).set_ 1 _).set_ 2 _).set_ 3 _).set_ 4 _).set_ 5 _).alloc _) Tryz.underlying25 rfl (by kernel_rfl)) rfl ?_
  have hh : ∀ b, (w.heap.size + 1 ≤ b) → b ≠ w.heap.size := fun b hb => by omega
  unfold Ruled
  refine ⟨((((((hB.out.far le9 _ _).far le9 _ _).far le9 _ _).far le9 _ _).far le9 _ _).far le9 _ _).below ((Below.refl _ _).alloc le9 _), ⟨((((((hq.out.row.far (p := ⟨w.heap.size, 0, none⟩) hneR.out.symm _).far (p := ⟨w.heap.size, 1, none⟩) hneR.out.symm _).far (p := ⟨w.heap.size, 2, none⟩) hneR.out.symm _).far (p := ⟨w.heap.size, 3, none⟩) hneR.out.symm _).far (p := ⟨w.heap.size, 4, none⟩) hneR.out.symm _).far (p := ⟨w.heap.size, 5, none⟩) hneR.out.symm _).alloc _, hp.out.tok.but (((((((hB.out.far le9 _ _).far le9 _ _).far le9 _ _).far le9 _ _).far le9 _ _).far le9 _ _).below ((Below.refl _ _).alloc le9 _)), hq.out.len, hq.out.pos⟩, .mk uk up uf ux un uA uc uL, rfl, ?_, hs2'.out⟩
  exact (((((((ht.out.far hh _ _).far hh _ _).far hh _ _).far hh _ _).far hh _ _).far hh _ _).below ((Below.refl _ _).alloc le9 _)).mono (fun b _ hk => by omega)
end Go.Proofs.YtjkmhlfjheiekaaGreatDoor

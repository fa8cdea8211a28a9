/- Rules in memory, asked one by one: walks of IndexFunc and ContainsFunc over rules; of crowded and within. -/
import Derived.Test.YtjkmhlfjheiekaaGreatDoorY
namespace Go.Proofs.YtjkmhlfjheiekaaGreatDoor
open Go Go.RowKit Go.BigFrame Go.Maps

theorem RowsAt.get {w : World} {ok : Nat → Prop} : ∀ {A : Option Addr} {j : Nat} {L : List Tree} (_ : RowsAt w ok A j L) (k : Nat) (t : Tree), L[k]? = some t → CellsAt w ok A (j + k) t ∧ TreeAt w ok t
  | _, _, [], _, k, t, hk => by simp at hk
  | _, _, u :: L, h, 0, t, hk => by
    rw [RowsAt] at h
    simp at hk; subst hk
    exact ⟨h.1, h.2.1⟩
  | _, j, u :: L, h, k + 1, t, hk => by
    rw [RowsAt] at h
    have := RowsAt.get h.2.2 k t (by simpa using hk)
    rw [show j + 1 + k = j + (k + 1) by omega] at this
    exact this
theorem RowsAt.below {w w' : World} {ok : Nat → Prop} {A : Option Addr} {j : Nat} {L : List Tree} (h : RowsAt w ok A j L) (hb : Below w.heap.size w w') : RowsAt w' ok A j L := h.same fun _ h1 _ => hb.cell h1
theorem RowsAt.mem {w : World} {ok : Nat → Prop} {A : Option Addr} {j : Nat} {L : List Tree} (h : RowsAt w ok A j L) {t : Tree} (ht : t ∈ L) : TreeAt w ok t := by
  obtain ⟨k, hk⟩ := List.mem_iff_getElem?.1 ht
  exact (h.get k t hk).2
mutual
theorem Tree.every {Q : Tree → Prop} (h : ∀ t, (∀ u ∈ t.sub, Q u) → Q t) : ∀ t : Tree, Q t
  | .mk _ _ _ _ _ _ _ L => h _ (Tree.everyL h L)
theorem Tree.everyL {Q : Tree → Prop} (h : ∀ t, (∀ u ∈ t.sub, Q u) → Q t) : ∀ L : List Tree, ∀ u ∈ L, Q u
  | [], u, hu => by simp at hu
  | t :: L, u, hu => by
    rcases List.mem_cons.1 hu with e | hu
    · rw [e]; exact Tree.every h t
    · exact Tree.everyL h L u hu
end
/-- What a function over rules does, asked of some. -/
def AsksAt (w : World) (g : Nat) (lb : Array Value) (L : List Tree) (p : Tree → Bool) : Prop :=
  ∀ (W : World) (t : Tree), t ∈ L → Below w.heap.size w W → Calls Tryz.prog g (#[.agg t.cells] ++ lb) W fun e w' => e = .returned (.bool (p t)) ∧ Below W.heap.size W w'
theorem AsksAt.later {w W : World} {g : Nat} {lb : Array Value} {L : List Tree} {p : Tree → Bool} (h : AsksAt w g lb L p) (hb : Below w.heap.size w W) : AsksAt W g lb L p :=
  fun W' t ht hb' => h W' t ht (hb.trans (hb'.mono hb.size))
theorem any_no {L : List Tree} {k : Nat} {x : Tree} {p : Tree → Bool} {r : Bool} (h : r = (L.drop k).any p) (hx : L[k]? = some x) (hp : p x = false) : r = (L.drop (k + 1)).any p := by
  obtain ⟨hk, he⟩ := List.getElem?_eq_some_iff.1 hx
  rw [h, List.drop_eq_getElem_cons hk, he, List.any_cons, hp]; rfl
theorem any_yes {L : List Tree} {k : Nat} {x : Tree} {p : Tree → Bool} {r : Bool} (h : r = (L.drop k).any p) (hx : L[k]? = some x) (hp : p x = true) : r = true := by
  obtain ⟨hk, he⟩ := List.getElem?_eq_some_iff.1 hx
  rw [h, List.drop_eq_getElem_cons hk, he, List.any_cons, hp]; rfl
theorem any_end {L : List Tree} {k : Nat} {p : Tree → Bool} {r : Bool} (h : r = (L.drop k).any p) (hk : L.length ≤ k) : r = false := by
  rw [h, List.drop_eq_nil_of_le hk]; rfl

set_option maxRecDepth 100000 in
set_option maxHeartbeats 1600000 in
theorem index_any (A : Option Addr) (n c : Nat) (L : List Tree) (ok : Nat → Prop) (g : Nat) (lb : Array Value) (eg : ∀ (args : Array Value) (w : World), (callFunc g args).run Tryz.prog w = .ok (.enter g args) w) (p : Tree → Bool) (w : World) (hn : n ≤ maxLen) (hl : Hid (L.length = n)) (hA : Hid (RowsAt w ok A 0 L)) (hf : Hid (AsksAt w g lb L p)) :
    Calls Tryz.prog 123 #[.slice A n c, .func (.func g) #[] lb] w fun e w' => ∃ i : Int, e = .returned (.int .i64 i) ∧ decide (0 ≤ i) = L.any p ∧ Below w.heap.size w w' := by
  unfold maxLen at hn
  go_enter Tryz.func123, Tryz.ntmps123
  go_wp2_with fail
  go_loopw [8] (fun i wr => ∃ k : Nat, k ≤ n ∧ i = .int .i64 k ∧ Hid (L.any p = (L.drop k).any p) ∧ Below w.heap.size w wr) (fun i _ => n - (intOf i).toNat)
  case atStart => exact ⟨0, Nat.zero_le _, rfl, rfl, Below.refl _ _⟩
  case round =>
    obtain ⟨k, hk, rfl, hsame, hB⟩ := hrel
    by_cases hlt : k < n
    · obtain ⟨x, hx⟩ : ∃ x, L[k]? = some x := ⟨_, List.getElem?_eq_getElem (by have := hl.out; omega)⟩
      have hx' := Lib.hid hx
      have hm := Lib.hid (List.mem_of_getElem? hx)
      clear hx
      obtain ⟨hc, _⟩ := (hA.out.below hB).get k x hx'.out
      obtain ⟨pv, hpv⟩ : ∃ b, Hid (p x = b) := ⟨_, Lib.hid rfl⟩
      have hcall := Lib.hid (hf.out wr x hm.out hB)
      rw [hpv.out] at hcall
      obtain ⟨xk, xp, xf, xx, xn, xA, xc, xL⟩ := x
      obtain ⟨b, off, rfl, _, h0, h1, h2, h3, h4, h5⟩ := hc
      rw [Nat.zero_add] at h0 h1 h2 h3 h4 h5
      unfold Tree.cells at hcall
      cases pv with
      | true =>
        have hr := Lib.hid (any_yes hsame.out hx'.out hpv.out)
        go_wp2_with (go_at_fn g; refine hcall.out.mono ?_; rintro e w1 ⟨rfl, hb1⟩)
        go_ret
        exact ⟨_, rfl, by rw [hr.out]; simp, hB.trans (hb1.mono hB.size)⟩
      | false =>
        have hr := Lib.hid (any_no hsame.out hx'.out hpv.out)
        go_wp2_with (go_at_fn g; refine hcall.out.mono ?_; rintro e w1 ⟨rfl, hb1⟩)
        go_roundw
        case rel => exact ⟨k + 1, by omega, by go_num, hr, hB.trans (hb1.mono hB.size)⟩
        case measure => simp [intOf]; omega
    · have hr := Lib.hid (any_end hsame.out (by have := hl.out; omega))
      go_wp2_with fail
      go_ret
      exact ⟨_, rfl, by rw [hr.out]; rfl, hB⟩

set_option maxRecDepth 100000 in
set_option maxHeartbeats 1600000 in
theorem contains_any (A : Option Addr) (n c : Nat) (L : List Tree) (ok : Nat → Prop) (g : Nat) (lb : Array Value) (eg : ∀ (args : Array Value) (w : World), (callFunc g args).run Tryz.prog w = .ok (.enter g args) w) (p : Tree → Bool) (w : World) (hn : n ≤ maxLen) (hl : Hid (L.length = n)) (hA : Hid (RowsAt w ok A 0 L)) (hf : Hid (AsksAt w g lb L p)) :
    Calls Tryz.prog 73 #[.slice A n c, .func (.func g) #[] lb] w fun e w' => e = .returned (.bool (L.any p)) ∧ Below w.heap.size w w' := by
  have hcall := Lib.hid (index_any A n c L ok g lb eg p w hn hl hA hf)
  obtain ⟨b, hb⟩ : ∃ b, Hid (L.any p = b) := ⟨_, Lib.hid rfl⟩
  rw [hb.out] at hcall ⊢
  go_enter Tryz.func73, Tryz.ntmps73
  go_wp2_with (go_at_call 123; refine hcall.out.mono ?_; rintro e w1 ⟨i, rfl, hi, hB1⟩)
  go_ret
  exact ⟨rfl, hB1⟩

theorem crowdL_any : ∀ L : List Tree, crowdL (strips L) = L.any fun t => crowdR (strip t)
  | [] => by rw [strips, crowdL]; rfl
  | t :: L => by rw [strips, crowdL, crowdL_any L]; rfl
def CrowdC (t : Tree) : Prop := ∀ (w : World) (ok : Nat → Prop), Hid (TreeAt w ok t) → Calls Tryz.prog 69 #[.agg t.cells] w fun e w' => e = .returned (.bool (crowdR (strip t))) ∧ Below w.heap.size w w'

set_option maxRecDepth 100000 in
set_option maxHeartbeats 1600000 in
theorem crowd_walk (t : Tree) (ih : ∀ u ∈ t.sub, CrowdC u) : CrowdC t := by
  intro w ok hT
  have e69 : ∀ (args : Array Value) (w : World), (callFunc 69 args).run Tryz.prog w = .ok (.enter 69 args) w := enters_of Tryz.func69 (by kernel_rfl) rfl
  obtain ⟨k, p, f, x, n, A, c, L⟩ := t
  have hT0 := hT.out
  rw [TreeAt] at hT0
  obtain ⟨hR, hlen⟩ := hT0
  have hR' := Lib.hid hR
  obtain ⟨m, hm⟩ : ∃ m, Hid (L.length = m) := ⟨_, Lib.hid rfl⟩
  rw [hm.out] at hlen
  have ih' := Lib.hid ih
  clear ih hT hR
  obtain ⟨b, hb⟩ : ∃ b, Hid (L.any (fun t => crowdR (strip t)) = b) := ⟨_, Lib.hid rfl⟩
  have hres : Hid (crowdR (strip (.mk k p f x n A c L)) = (decide (64 < m) || b)) := by
    unfold Hid; rw [strip, crowdR, crowdL_any, hb.out, strips_map, List.length_map, hm.out]
  show Calls Tryz.prog 69 #[.agg #[.int .i64 k, .int .i64 p, .string ⟨f.toArray⟩, .string ⟨x.toArray⟩, .int .i64 n, .slice A L.length c]] w _
  rw [hm.out]
  have hb0 : Hid (Below w.heap.size w (w.alloc (.cells #[.int .i64 k, .int .i64 p, .string ⟨f.toArray⟩, .string ⟨x.toArray⟩, .int .i64 n, .slice A m c] 25))) := (Below.refl _ w).alloc (Nat.le_refl _) _
  by_cases h64 : 64 < m
  · have b1 : decide ((64 : Int) < (m : Int)) = true := by simp; omega
    go_enter Tryz.func69, Tryz.ntmps69
    go_wp2_with fail
    go_ret
    exact ⟨by rw [hres.out, decide_eq_true h64]; rfl, hb0.out⟩
  · have b1 : decide ((64 : Int) < (m : Int)) = false := by simp; omega
    have hcall := Lib.hid (contains_any A m c L ok 69 #[] e69 (fun t => crowdR (strip t)) _ hlen hm (hR'.out.below hb0.out) (fun W t ht hbl => ih'.out t ht W ok (((hR'.out.below hb0.out).mem ht).below hbl)))
    go_enter Tryz.func69, Tryz.ntmps69
    go_wp2_with (go_at_call 73; refine hcall.out.mono ?_; rintro e w1 ⟨rfl, hB1⟩)
    go_ret
    exact ⟨by rw [hres.out, decide_eq_false h64, hb.out]; rfl, hb0.out.trans (hB1.mono hb0.out.size)⟩
theorem crowd_any : ∀ t : Tree, CrowdC t := Tree.every fun t ih => crowd_walk t ih

theorem depthL_le (d : Nat) : ∀ L : List Rul, depthL L ≤ d ↔ ∀ r ∈ L, depthR r + 1 ≤ d
  | [] => by simp [depthL]
  | r :: L => by
    rw [depthL]
    have := depthL_le d L
    constructor
    · intro h r' hr'
      rcases List.mem_cons.1 hr' with rfl | hr'
      · omega
      · exact this.1 (by omega) r' hr'
    · intro h
      have h1 := h r (by simp)
      have h2 := this.2 fun r' hr' => h r' (by simp [hr'])
      omega
theorem depth_sub {k p : Int} {f x : Txt} {n : Int} {A : Option Addr} {c : Nat} {L : List Tree} (d : Nat) : decide (depthR (strip (.mk k p f x n A c L)) ≤ d) = (decide (L.length = 0) || (decide (0 < d) && !L.any fun t => !decide (depthR (strip t) ≤ d - 1))) := by
  rw [Bool.eq_iff_iff]
  simp only [decide_eq_true_eq, Bool.or_eq_true, Bool.and_eq_true, Bool.not_eq_true', List.any_eq_false]
  rw [strip, depthR, depthL_le, strips_map]
  simp only [List.mem_map, forall_exists_index, and_imp, forall_apply_eq_imp_iff₂]
  cases L with
  | nil => simp
  | cons u L =>
    constructor
    · intro h
      have := h u (by simp)
      refine .inr ⟨by omega, fun t ht => ?_⟩
      have := h t ht
      simp; omega
    · rintro (h | ⟨h0, h⟩) t ht
      · simp at h
      · have := h t ht
        simp at this; omega
def WithinC (t : Tree) : Prop := ∀ (d : Nat) (w : World) (ok : Nat → Prop), d ≤ 1000 → Hid (TreeAt w ok t) → Calls Tryz.prog 68 #[.agg t.cells, .int .i64 d] w fun e w' => e = .returned (.bool (decide (depthR (strip t) ≤ d))) ∧ Below w.heap.size w w'
set_option maxRecDepth 100000 in
set_option maxHeartbeats 1600000 in
theorem within1_any (t : Tree) (ih : WithinC t) (d : Nat) (h0 : 0 < d) (hd : d ≤ 1000) (cb : Nat) (w : World) (ok : Nat → Prop) (hT : Hid (TreeAt w ok t)) (hc : w.cell? ⟨cb, 0, none⟩ = some (.int .i64 d)) :
    Calls Tryz.prog 116 (#[.agg t.cells] ++ #[.pointer (some ⟨cb, 0, none⟩)]) w fun e w' => e = .returned (.bool (!decide (depthR (strip t) ≤ d - 1))) ∧ Below w.heap.size w w' := by
  have hw : IntKind.i64.wrap ((d : Int) - 1) = ((d - 1 : Nat) : Int) := by rw [IntWalk.i64_in _ (by omega)]; omega
  have hlt : cb < w.heap.size := World.block_lt_of_cell? w _ hc
  obtain ⟨k, p, f, x, n, A, c, L⟩ := t
  obtain ⟨b, hb⟩ : ∃ b, Hid (decide (depthR (strip (.mk k p f x n A c L)) ≤ d - 1) = b) := ⟨_, Lib.hid rfl⟩
  have hbl : ∀ o, Below w.heap.size w (w.alloc o) := fun o => (Below.refl _ w).alloc (Nat.le_refl _) o
  have hcall : Hid (∀ o, Calls Tryz.prog 68 #[.agg (Tree.mk k p f x n A c L).cells, .int .i64 ((d - 1 : Nat) : Int)] (w.alloc o) fun e w' => e = .returned (.bool b) ∧ Below (w.alloc o).heap.size (w.alloc o) w') := fun o => by
    rw [← hb.out]
    exact ih (d - 1) (w.alloc o) ok (by omega) (hT.out.below (hbl o))
  rw [hb.out]
  have hbl' := Lib.hid hbl
  clear ih hT hbl
  unfold Tree.cells at hcall ⊢
  show Calls Tryz.prog 116 #[.agg #[.int .i64 k, .int .i64 p, .string ⟨f.toArray⟩, .string ⟨x.toArray⟩, .int .i64 n, .slice A L.length c], .pointer (some ⟨cb, 0, none⟩)] w _
  go_enter Tryz.func116, Tryz.ntmps116
  go_wp2_with (go_at_call 68; refine (hcall.out _).mono ?_; rintro e w1 ⟨rfl, hB1⟩)
  go_ret
  exact ⟨rfl, (hbl'.out _).trans (hB1.mono (hbl'.out _).size)⟩

set_option maxRecDepth 100000 in
set_option maxHeartbeats 1600000 in
theorem within_walk (t : Tree) (ih : ∀ u ∈ t.sub, WithinC u) : WithinC t := by
  intro d w ok hd hT
  have e116 : ∀ (args : Array Value) (w : World), (callFunc 116 args).run Tryz.prog w = .ok (.enter 116 args) w := enters_of Tryz.func116 (by kernel_rfl) rfl
  obtain ⟨k, p, f, x, n, A, c, L⟩ := t
  have hT0 := hT.out
  rw [TreeAt] at hT0
  obtain ⟨hR, hlen⟩ := hT0
  have hR' := Lib.hid hR
  have hres := Lib.hid (depth_sub (k := k) (p := p) (f := f) (x := x) (n := n) (A := A) (c := c) (L := L) d)
  obtain ⟨m, hm⟩ : ∃ m, Hid (L.length = m) := ⟨_, Lib.hid rfl⟩
  rw [hm.out] at hlen hres
  have ih' := Lib.hid ih
  clear ih hT hR
  obtain ⟨b, hb⟩ : ∃ b, Hid (L.any (fun t => !decide (depthR (strip t) ≤ d - 1)) = b) := ⟨_, Lib.hid rfl⟩
  rw [hb.out] at hres
  rw [hres.out]
  show Calls Tryz.prog 68 #[.agg #[.int .i64 k, .int .i64 p, .string ⟨f.toArray⟩, .string ⟨x.toArray⟩, .int .i64 n, .slice A L.length c], .int .i64 d] w _
  rw [hm.out]
  have hB0 : Hid (∀ o o', Below w.heap.size w ((w.alloc o).alloc o')) := fun o o' => ((Below.refl _ w).alloc (Nat.le_refl _) o).alloc (by simp) o'
  by_cases hm0 : m = 0
  · subst hm0
    go_enter Tryz.func68, Tryz.ntmps68
    go_wp2_with fail
    go_ret
    exact ⟨rfl, hB0.out _ _⟩
  · have b0 : ((m : Int) == 0) = false := by simp; omega
    by_cases hd0 : d = 0
    · subst hd0
      go_enter Tryz.func68, Tryz.ntmps68
      go_wp2_with fail
      go_ret
      exact ⟨by simp [hm0], hB0.out _ _⟩
    · have b1 : decide ((0 : Int) < (d : Int)) = true := by simp; omega
      have hcall : Hid (Calls Tryz.prog 73 #[.slice A m c, .func (.func 116) #[] #[.pointer (some ⟨w.heap.size + 1, 0, none⟩)]] ((w.alloc (.cells #[.int .i64 k, .int .i64 p, .string ⟨f.toArray⟩, .string ⟨x.toArray⟩, .int .i64 n, .slice A m c] 25)).alloc (.cells #[.int .i64 d] 3)) fun e w' => e = .returned (.bool b) ∧ Below ((w.alloc (.cells #[.int .i64 k, .int .i64 p, .string ⟨f.toArray⟩, .string ⟨x.toArray⟩, .int .i64 n, .slice A m c] 25)).alloc (.cells #[.int .i64 d] 3)).heap.size ((w.alloc (.cells #[.int .i64 k, .int .i64 p, .string ⟨f.toArray⟩, .string ⟨x.toArray⟩, .int .i64 n, .slice A m c] 25)).alloc (.cells #[.int .i64 d] 3)) w') := by
        rw [← hb.out]
        have hR2 := hR'.out.below (hB0.out (.cells #[.int .i64 k, .int .i64 p, .string ⟨f.toArray⟩, .string ⟨x.toArray⟩, .int .i64 n, .slice A m c] 25) (.cells #[.int .i64 d] 3))
        refine contains_any A m c L ok 116 _ e116 (fun t => !decide (depthR (strip t) ≤ d - 1)) _ hlen hm hR2 (fun W t ht hbl => ?_)
        have hc1 := (blk_second w (.cells #[.int .i64 k, .int .i64 p, .string ⟨f.toArray⟩, .string ⟨x.toArray⟩, .int .i64 n, .slice A m c] 25) 3 #[.int .i64 d])
        exact within1_any t (ih'.out t ht) d (by omega) hd _ W ok ((hR2.mem ht).below hbl) (by rw [hbl.cell hc1.lt, hc1.cell]; rfl)
      go_enter Tryz.func68, Tryz.ntmps68
      go_wp2_with (go_at_call 73; refine hcall.out.mono ?_; rintro e w1 ⟨rfl, hB1⟩)
      go_ret
      exact ⟨by simp [hm0]; omega, (hB0.out _ _).trans (hB1.mono (hB0.out _ _).size)⟩
theorem within_any : ∀ t : Tree, WithinC t := Tree.every fun t ih => within_walk t ih
end Go.Proofs.YtjkmhlfjheiekaaGreatDoor

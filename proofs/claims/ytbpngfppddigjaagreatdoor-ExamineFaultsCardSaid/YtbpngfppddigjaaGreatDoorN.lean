/- Examine where there are no papers. -/
import Derived.Test.YtbpngfppddigjaaGreatDoorL
namespace Go.Proofs.YtbpngfppddigjaaGreatDoor
open Go Go.RowKit Go.BigFrame Go.Maps

structure Crd where
  number : ByteArray
  applicant : ByteArray
  beneficiary : ByteArray
  issuer : ByteArray
  confirmer : ByteArray
  orig : ByteArray
  dest : ByteArray
  currency : ByteArray
  amount : Int
  above : Int
  below : Int
  latest : Int
  expiry : Int
  within : Int
  tenor : Int
  part : Bool
  change : Bool
abbrev Crd.cells (c : Crd) (needs : Value) : Array Value := #[.string c.number, .string c.applicant, .string c.beneficiary, .string c.issuer, .string c.confirmer, .string c.orig, .string c.dest, .string c.currency, .int .i64 c.amount, .int .i64 c.above, .int .i64 c.below, .int .i64 c.latest, .int .i64 c.expiry, .int .i64 c.within, .int .i64 c.tenor, .bool c.part, .bool c.change, needs]

structure Ned where
  kind : Int
  count : Int
  rk : Int
  rp : Int
  rf : ByteArray
  rt : ByteArray
  rn : Int
  rl : Option Addr
  rln : Nat
  rlc : Nat
def NeedsAt (w : World) (A : Option Addr) (l : List Ned) : Prop :=
  ∀ (k : Nat) (x : Ned), l[k]? = some x → (-9223372036854775808 ≤ x.kind ∧ x.kind ≤ 9223372036854775807) ∧ ∃ b off, A = some ⟨b, off, none⟩ ∧ w.cell? ⟨b, off + k * 8, none⟩ = some (.int .i64 x.kind) ∧ w.cell? ⟨b, off + k * 8 + 1, none⟩ = some (.int .i64 x.count) ∧
    w.cell? ⟨b, off + k * 8 + 2, none⟩ = some (.int .i64 x.rk) ∧ w.cell? ⟨b, off + k * 8 + 3, none⟩ = some (.int .i64 x.rp) ∧ w.cell? ⟨b, off + k * 8 + 4, none⟩ = some (.string x.rf) ∧ w.cell? ⟨b, off + k * 8 + 5, none⟩ = some (.string x.rt) ∧
    w.cell? ⟨b, off + k * 8 + 6, none⟩ = some (.int .i64 x.rn) ∧ w.cell? ⟨b, off + k * 8 + 7, none⟩ = some (.slice x.rl x.rln x.rlc)
theorem NeedsAt.below {w w' : World} {A : Option Addr} {l : List Ned} (h : NeedsAt w A l) (hb : Below w.heap.size w w') : NeedsAt w' A l := by
  intro k x hk
  obtain ⟨hr, b, off, e, h0, h1, h2, h3, h4, h5, h6, h7⟩ := h k x hk
  have hlt : b < w.heap.size := World.block_lt_of_cell? w _ h0
  have hc : ∀ o, w'.cell? ⟨b, o, none⟩ = w.cell? ⟨b, o, none⟩ := fun o => hb.cell (p := ⟨b, o, none⟩) hlt
  exact ⟨hr, b, off, e, by rw [hc]; exact h0, by rw [hc]; exact h1, by rw [hc]; exact h2, by rw [hc]; exact h3, by rw [hc]; exact h4, by rw [hc]; exact h5, by rw [hc]; exact h6, by rw [hc]; exact h7⟩

theorem int_keyed3 : Keyed Tryz.prog 3 := int_keyed Tryz.underlying3
theorem zero3 (w : World) : (zeroValue 3).run Tryz.prog w = .ok (.int .i64 0) w := by kernel_rfl

/-- What stands in memory while papers are examined. -/
structure St (w wx : World) (C X : Array Value) (v : Value) (l : List Flt) : Prop where
  credit : Blk wx w.heap.size 26 C
  tell : Tell wx w.heap.size (w.heap.size + 1 + 1 + 1) (w.heap.size + 1) (w.heap.size + 1 + 1) v l
  exam : Blk wx (w.heap.size + 1 + 1 + 1 + 1) 55 X
  below : Below w.heap.size w wx
section
variable {w wx w' : World} {C X : Array Value} {v : Value} {l : List Flt}
theorem St.belows (h : St w wx C X v l) (hb : Below wx.heap.size wx w') : St w w' C X v l :=
  ⟨h.credit.below hb h.credit.lt, h.tell.below hb, h.exam.below hb h.exam.lt, h.below.trans (hb.mono h.below.size)⟩
theorem St.alloc (h : St w wx C X v l) (o : Obj) : St w (wx.alloc o) C X v l := h.belows ((Below.refl _ _).alloc (Nat.le_refl _) o)
theorem St.put {k e : TypeId} {b n : Nat} {z : Value} {S : Value → Option Value} (h : St w wx C X v l) (hm : MapFn wx Tryz.prog k e b n z S) (hne : b ≠ w.heap.size + 1 + 1) (hB : w.heap.size ≤ b) (hg : wx.grownBy w' (some b)) : St w w' C X v l := by
  refine ⟨h.credit.kept hg (by simpa using blk_map_ne h.credit hm), ⟨h.tell.map.kept hg (by simpa using Ne.symm hne), h.tell.tc.kept hg (by simpa using blk_map_ne h.tell.tc hm), h.tell.fc.kept hg (by simpa using blk_map_ne h.tell.fc hm), h.tell.row.kept hg (.inr (own_map_ne h.tell.row hm).symm), h.tell.base⟩,
    h.exam.kept hg (by simpa using blk_map_ne h.exam hm), h.below.grown hg h.below.size (fun k hk => by simp at hk; omega)⟩
theorem tellS_no {g : Nat} {t : TypeId} {cs : Array Value} (h : St w wx C X v l) (hg : Blk wx g t cs) (ht : t ≠ 40) (ht2 : t ≠ 30) : ¬ tellS (w.heap.size + 1) (w.heap.size + 1 + 1) v g := by
  rintro (e | e | e)
  · subst e; exact blk_map_ne hg h.tell.map rfl
  · subst e
    have h1 := h.tell.fc
    rw [Blk] at h1 hg
    rw [h1] at hg
    simp at hg; exact ht2 hg.2.symm
  · exact own_blk_ne h.tell.row hg (Ne.symm ht) e
theorem tellS_map {k e : TypeId} {b n : Nat} {z : Value} {S : Value → Option Value} (h : St w wx C X v l) (hm : MapFn wx Tryz.prog k e b n z S) (hne : b ≠ w.heap.size + 1 + 1) : ¬ tellS (w.heap.size + 1) (w.heap.size + 1 + 1) v b := by
  rintro (e | e | e)
  · exact hne e
  · exact blk_map_ne h.tell.fc hm e
  · exact own_map_ne h.tell.row hm e.symm
theorem St.told {l' : List Flt} {v' : Value} (h : St w wx C X v l) (ht : Tell w' w.heap.size (w.heap.size + 1 + 1 + 1) (w.heap.size + 1) (w.heap.size + 1 + 1) v' l') (hb : ButS (tellS (w.heap.size + 1) (w.heap.size + 1 + 1) v) wx w') : St w w' C X v' l' :=
  ⟨hb.blk h.credit (tellS_no h h.credit (by decide) (by decide)), ht, hb.blk h.exam (tellS_no h h.exam (by decide) (by decide)), h.below.trans (hb.below (fun g hg => by
    rcases hg with e | e | e
    · omega
    · omega
    · have := (h.tell.row.lt g e).1; omega) h.below.size)⟩
end

noncomputable def needStep (l : List Flt) (x : Ned) : List Flt := if 0 < x.count then addF l ⟨-1, x.kind, ⟨#[]⟩, 1⟩ else l
noncomputable def needF (nds : List Ned) : List Flt := nds.foldl needStep []
theorem addF_len (l : List Flt) (f : Flt) : (addF l f).length ≤ l.length + 1 := by
  unfold addF; split <;> simp
theorem needF_len : ∀ (nds : List Ned) (l : List Flt), (nds.foldl needStep l).length ≤ l.length + nds.length
  | [], l => by simp
  | x :: r, l => by
    have := needF_len r (needStep l x)
    have h2 : (needStep l x).length ≤ l.length + 1 := by unfold needStep; split; exact addF_len _ _; omega
    simp only [List.foldl_cons, List.length_cons]; omega
theorem needF_snoc {nds : List Ned} {k : Nat} {x : Ned} (hx : nds[k]? = some x) : needF (nds.take (k + 1)) = needStep (needF (nds.take k)) x := by
  obtain ⟨hk, he⟩ := List.getElem?_eq_some_iff.1 hx
  rw [List.take_succ_eq_append_getElem hk, he]; simp [needF]
theorem fcells_get : ∀ (l : List Flt) (k : Nat) (x : Flt), l[k]? = some x → ∀ i, i < 4 → (fcells l)[k * 4 + i]? = x.cells[i]?
  | [], k, x, h, i, hi => by simp at h
  | y :: l, 0, x, h, i, hi => by
    simp at h; subst h
    show (y.cells ++ fcells l)[0 * 4 + i]? = _
    rw [Nat.zero_mul, Nat.zero_add, List.getElem?_append_left (by simp [Flt.cells]; omega)]
  | y :: l, k + 1, x, h, i, hi => by
    have ih := fcells_get l k x (by simpa using h) i hi
    show (y.cells ++ fcells l)[(k + 1) * 4 + i]? = _
    rw [List.getElem?_append_right (by simp [Flt.cells]; omega)]
    have e : (k + 1) * 4 + i - y.cells.length = k * 4 + i := by simp [Flt.cells]; omega
    rw [e]; exact ih
theorem own_faults {w : World} {base m : Nat} {v : Value} {l : List Flt} (h : w.ownsRow base 40 4 v m (fcells l)) (hl : l.length = m) : ∃ A' c', v = .slice A' m c' ∧ m ≤ c' ∧ FaultsAt w A' l := by
  rcases h.2 with ⟨rfl, rfl⟩ | ⟨g, cap, cur, rfl, _, _, hnc, _⟩
  · have : l = [] := List.eq_nil_of_length_eq_zero hl
    subst this
    exact ⟨_, _, rfl, Nat.le_refl _, by intro k x hk; simp at hk⟩
  · refine ⟨_, _, rfl, hnc, fun k x hk => ?_⟩
    have hc : ∀ i, i < 4 → ∀ u, x.cells[i]? = some u → w.cell? ⟨g, 0 + k * 4 + i, none⟩ = some u := fun i hi u hu => by
      have := h.cells (g := g) rfl (k * 4 + i) u (by rw [fcells_get l k x hk i hi]; exact hu)
      rwa [show Addr.add ⟨g, 0, none⟩ (k * 4 + i) = ⟨g, 0 + k * 4 + i, none⟩ by unfold Addr.add; split <;> simp_all] at this
    exact ⟨g, 0, rfl, hc 0 (by omega) _ rfl, hc 1 (by omega) _ rfl, hc 2 (by omega) _ rfl, hc 3 (by omega) _ rfl⟩
theorem st_new (w : World) (C X : Array Value) : St w (((((w.alloc (.cells C 26)).alloc (.cells #[.slice none 0 0] 30)).alloc (.map #[] 0)).alloc (.cells #[.map (some (w.heap.size + 1 + 1))] 51)).alloc (.cells X 55)) C X (.slice none 0 0) [] := by
  have b0 := Blk.new w 26 C
  have b1 := Blk.new (w.alloc (.cells C 26)) 30 #[.slice none 0 0]
  have b2 := MapFn.made ((w.alloc (.cells C 26)).alloc (.cells #[.slice none 0 0] 30)) Tryz.prog 40 4 (plainElem_bool Tryz.underlying4 false)
  have b3 := Blk.new (((w.alloc (.cells C 26)).alloc (.cells #[.slice none 0 0] 30)).alloc (.map #[] 0)) 51 #[.map (some (w.heap.size + 1 + 1))]
  have b4 := Blk.new ((((w.alloc (.cells C 26)).alloc (.cells #[.slice none 0 0] 30)).alloc (.map #[] 0)).alloc (.cells #[.map (some (w.heap.size + 1 + 1))] 51)) 55 X
  simp only [World.size_alloc] at b1 b2 b3 b4
  have e0 : toldF [] = fun _ => none := by funext x; simp [toldF]
  refine ⟨(((b0.alloc _).alloc _).alloc _).alloc _, ⟨?_, b3.alloc _, ((b1.alloc _).alloc _).alloc _, World.ownsRow_nil _ _ _ _, by omega⟩, b4, ?_⟩
  · rw [e0]; exact (b2.alloc _).alloc _
  · exact (((((Below.refl _ w).alloc (Nat.le_refl _) _).alloc (by simp) _).alloc (by simp; omega) _).alloc (by simp; omega) _).alloc (by simp; omega) _
def Faulted (w : World) (l : List Flt) (e : Ending) (w' : World) : Prop := ∃ A c, e = .returned (.slice A l.length c) ∧ FaultsAt w' A l ∧ Below w.heap.size w w'

set_option maxRecDepth 100000 in
set_option maxHeartbeats 3200000 in
theorem examine_none (c : Crd) (A : Option Addr) (n cap : Nat) (day : Int) (nds : List Ned) (w : World) (hd : day ≤ c.expiry) (hn : n ≤ 100) (hl : Hid (nds.length = n)) (hA : Hid (NeedsAt w A nds)) :
    Calls Tryz.prog 8 #[.agg (c.cells (.slice A n cap)), .slice none 0 0, .int .i64 day] w (Faulted w (needF nds)) := by
  have hmm := @run_makeMap Tryz.prog
  go_enter Tryz.func8, Tryz.ntmps8
  go_upto_region 6 with fail
  go_cut [10] (fun s wx => ∃ C X, Hid (C[17]? = some (.slice A n cap)) ∧ Hid (X[20]? = some (.func (Fn.func 17) #[] #[.pointer (some ⟨w.heap.size + 1 + 1 + 1, 0, none⟩), .pointer (some ⟨w.heap.size + 1, 0, none⟩)])) ∧ Hid (St w wx C X (.slice none 0 0) []) ∧ s = .map (some (w.heap.size + 1 + 1 + 1 + 1 + 1)) ∧ Hid (MapFn wx Tryz.prog 3 3 (w.heap.size + 1 + 1 + 1 + 1 + 1) 0 (.int .i64 0) (fun _ => none)))
  case first =>
    go_wp2_with fail
    go_meet
    case rel =>
      refine ⟨_, _, ?_, ?_, (st_new w _ _).alloc _, rfl, ?_⟩
      · rfl
      · rfl
      · have := MapFn.made (((((w.alloc (.cells (c.cells (.slice A n cap)) 26)).alloc (.cells #[.slice none 0 0] 30)).alloc (.map #[] 0)).alloc (.cells #[.map (some (w.heap.size + 1 + 1))] 51)).alloc (.cells (c.cells (.slice A n cap) ++ #[.slice none 0 0, .int .i64 day, .func (Fn.func 17) #[] #[.pointer (some ⟨w.heap.size + 1 + 1 + 1, 0, none⟩), .pointer (some ⟨w.heap.size + 1, 0, none⟩)]]) 55)) Tryz.prog 3 3 (plainElem_int Tryz.underlying3 (q := .i64) (a := 0) (by decide))
        simp only [World.size_alloc] at this
        exact this
  case rest =>
    obtain ⟨C, X, hC, hX, hst, rfl, hcnt⟩ := hcut
    clear hmm
    have hmm := @run_makeMap Tryz.prog
    have hnc : w.heap.size + 1 + 1 + 1 + 1 + 1 < wc.heap.size := hcnt.out.lt
    go_wp2_with fail
    go_loopg [12, 39] 0 (fun g _ i wr => g = 0 ∧ wc = wr ∧ i = .int .i64 0)
    case atStart => exact ⟨rfl, rfl, rfl⟩
    case round =>
      obtain ⟨_, rfl, rfl⟩ := hrel
      have q17 : (wc.alloc (.map #[] 0)).cell? ⟨w.heap.size, 17, none⟩ = some (.slice A n cap) := by rw [(hst.out.credit.alloc _).cell]; exact hC.out
      go_wp2_with fail
      clear q17
      have hst1 : Hid (St w (wc.alloc (.map #[] 0)) C X (.slice none 0 0) []) := hst.out.alloc _
      have hcnt1 : Hid (MapFn (wc.alloc (.map #[] 0)) Tryz.prog 3 3 (w.heap.size + 1 + 1 + 1 + 1 + 1) 0 (.int .i64 0) (fun _ => none)) := hcnt.out.alloc _
      have hask1 : Hid (MapFn (wc.alloc (.map #[] 0)) Tryz.prog 3 4 wc.heap.size 0 (.bool false) (fun _ => none)) := MapFn.made wc Tryz.prog 3 4 (plainElem_bool Tryz.underlying4 false)
      go_loopg [15, 53] n (fun g _ i wr => ∃ (k : Nat) (v : Value) (na : Nat) (S : Value → Option Value), k ≤ n ∧ g = n - k ∧ i = .int .i64 k ∧ na ≤ k ∧ Hid (St w wr C X v (needF (nds.take k))) ∧ Hid (MapFn wr Tryz.prog 3 3 (w.heap.size + 1 + 1 + 1 + 1 + 1) 0 (.int .i64 0) (fun _ => none)) ∧ Hid (MapFn wr Tryz.prog 3 4 wc.heap.size na (.bool false) S))
      case atStart => exact ⟨0, _, 0, _, Nat.zero_le _, by simp, rfl, Nat.le_refl _, hst1, hcnt1, hask1⟩
      case round =>
        obtain ⟨k, v, na, S, hk, hg, rfl, hna, hst2, hcnt2, hask2⟩ := hrel
        have hg' := Lib.hid hg
        clear hg
        obtain ⟨A9, c9, rfl⟩ := own_slice hst2.out.tell.row
        by_cases hlt : k < n
        · obtain ⟨x, hx⟩ : ∃ x, nds[k]? = some x := ⟨_, List.getElem?_eq_getElem (by have := hl.out; omega)⟩
          have hx' := Lib.hid hx
          clear hx
          obtain ⟨⟨hk1, hk2⟩, b, off, rfl, h0, h1, h2, h3, h4, h5, h6, h7⟩ := (hA.out.below hst2.out.below) k x hx'.out
          obtain ⟨kd, ct, rk, rp, rf, rt, rn, rl, rln, rlc⟩ := x
          simp only at hk1 hk2 h0 h1 h2 h3 h4 h5 h6 h7
          have hwf := Lib.hid (fits_i64 hk1 hk2)
          have hnl : Hid (na < maxLen) := by unfold Hid maxLen; omega
          have hbox : Hid (Blk (wr.alloc (.cells #[.int .i64 kd, .int .i64 ct, .int .i64 rk, .int .i64 rp, .string rf, .string rt, .int .i64 rn, .slice rl rln rlc] 38)) wr.heap.size 38 #[.int .i64 kd, .int .i64 ct, .int .i64 rk, .int .i64 rp, .string rf, .string rt, .int .i64 rn, .slice rl rln rlc]) := Blk.new wr 38 _
          have hB0 := hst2.out.below.size
          by_cases hc0 : 0 < ct
          all_goals
            go_wp2_with ((at_mapUpdate; go_must (refine wpList_put _ rfl _ _ _ 57 rfl int_keyed3 Tryz.underlying57 wc.heap.size na rfl (hask2.out.alloc _) hnl.out (.int .i64 kd) (.bool true) _ rfl rfl (keyOf_int_mk Tryz.underlying3 hwf.out) (plainElem_bool Tryz.underlying4 true) ?_); intro w2 hm2 hg2; have hst3 : Hid (St w w2 C X (.slice A9 (needF (nds.take k)).length c9) (needF (nds.take k))) := (hst2.out.alloc _).put (hask2.out.alloc _) (by omega) (by omega) hg2; have hcnt3 : Hid (MapFn w2 Tryz.prog 3 3 (w.heap.size + 1 + 1 + 1 + 1 + 1) 0 (.int .i64 0) (fun _ => none)) := (hcnt2.out.alloc _).kept hg2 (by simp; omega); have hask3 := Lib.hid hm2; have hlk := hcnt3.out.look int_keyed3 Tryz.underlying56 (zero3 _) (keyOf_int_mk Tryz.underlying3 hwf.out); have hbox2 := hbox.out.kept hg2 (by simpa using blk_map_ne hbox.out (hask2.out.alloc _)); have q0 : w2.cell? ⟨wr.heap.size, 0, none⟩ = some (.int .i64 kd) := (by rw [hbox2.cell]; rfl); have q1 : w2.cell? ⟨wr.heap.size, 1, none⟩ = some (.int .i64 ct) := (by rw [hbox2.cell]; rfl); have qx : w2.cell? ⟨w.heap.size + 1 + 1 + 1 + 1, 20, none⟩ = some (.func (Fn.func 17) #[] #[.pointer (some ⟨w.heap.size + 1 + 1 + 1, 0, none⟩), .pointer (some ⟨w.heap.size + 1, 0, none⟩)]) := (by rw [hst3.out.exam.cell]; exact hX.out); simp only [Option.getD_none] at hlk; clear hm2 hg2 hbox2))
          · have hfits : Flt.fits ⟨-1, kd, ⟨#[]⟩, 1⟩ := ⟨fits_i64 (n := -1) (by omega) (by omega), hwf.out, Nat.zero_le _, fits_i64 (n := 1) (by omega) (by omega)⟩
            have hlen : (needF (nds.take k)).length ≤ 100000 := by
              have h1 := needF_len (nds.take k) []
              have h2 : (nds.take k).length ≤ 100 := by rw [List.length_take]; omega
              unfold needF; simp only [List.length_nil] at h1; omega
            have hT : ∀ W, W = w2.drew → Tell W w.heap.size (w.heap.size + 1 + 1 + 1) (w.heap.size + 1) (w.heap.size + 1 + 1) (.slice A9 (needF (nds.take k)).length c9) (needF (nds.take k)) := fun W e => by subst e; exact (hst3.out.belows (Below.refl _ _).drew).tell
            have hsz : ∀ W, W = w2.drew → w.heap.size ≤ W.heap.size := fun W e => by subst e; exact hst3.out.below.size
            go_region_with ((go_at_call 17; (with_reducible refine (tell_any ⟨-1, kd, ⟨#[]⟩, 1⟩ hfits _ _ _ _ _ _ _ hlen (hT _ ?_) (hsz _ ?_)).mono ?_); rfl; rfl; rintro e w3 ⟨rfl, v', ht, hb⟩))
            all_goals
              go_wp2_with fail
              go_roundg (n - (k + 1))
              case measure => have := hg'.out; omega
              case rel =>
                have hst5 := hst3.out.belows ((Below.refl _ w2).drew)
                refine ⟨k + 1, v', na + 1, _, by omega, rfl, by go_num, by omega, ?_, hb.map hcnt3.out.drew (tellS_map hst5 hcnt3.out.drew (by omega)), hb.map hask3.out.drew (tellS_map hst5 hask3.out.drew (by omega))⟩
                unfold Hid
                rw [needF_snoc hx'.out, needStep, if_pos hc0]
                exact hst5.told ht hb
          · go_roundg (n - (k + 1))
            case measure => have := hg'.out; omega
            case rel =>
              refine ⟨k + 1, .slice A9 (needF (nds.take k)).length c9, na + 1, _, by omega, rfl, by go_num, by omega, ?_, hcnt3, hask3⟩
              unfold Hid
              rw [needF_snoc hx'.out, needStep, if_neg (by simpa using hc0)]
              exact hst3.out
        · obtain rfl : k = n := by omega
          rw [List.take_of_length_le (by have := hl.out; omega)] at hst2
          have hst3 : Hid (St w (wr.alloc (.map #[] 0)) C X (.slice A9 (needF nds).length c9) (needF nds)) := hst2.out.alloc _
          go_wp2_with fail
          go_loopg [17, 18, 79] 0 (fun g _ _ i wx => g = 0 ∧ (wr.alloc (.map #[] 0)) = wx ∧ i = .int .i64 0)
          case atStart => exact ⟨rfl, rfl, rfl⟩
          case round =>
            obtain ⟨_, rfl, rfl⟩ := hrel
            have qf : (wr.alloc (.map #[] 0)).cell? ⟨w.heap.size + 1, 0, none⟩ = some (.slice A9 (needF nds).length c9) := by rw [hst3.out.tell.fc.cell]; rfl
            obtain ⟨A8, c8, e8, _, hE⟩ := own_faults hst3.out.tell.row rfl
            have hE' := Lib.hid hE
            have e8' := Lib.hid e8
            clear hE e8
            go_wp2_with fail
            go_ret
            exact ⟨A8, c8, congrArg Ending.returned e8'.out, hE'.out, hst3.out.below⟩
end Go.Proofs.YtbpngfppddigjaaGreatDoor

/- The numbers of a credit. -/
import Derived.Test.YtdjmckjbibfecaaGreatDoorL
namespace Go.Proofs.YtdjmckjbibfecaaGreatDoor
open Go Go.RowKit Go.BigFrame Go.Maps

structure Crd where
  number : ByteArray
  applicant : ByteArray
  beneficiary : ByteArray
  issuer : ByteArray
  confirmer : ByteArray
  orig : ByteArray
  dest : ByteArray
  currency : ByteArray
  amount : Int
  above : Int
  below : Int
  latest : Int
  expiry : Int
  within : Int
  tenor : Int
  part : Bool
  change : Bool
abbrev Crd.cells (c : Crd) (needs : Value) : Array Value := #[.string c.number, .string c.applicant, .string c.beneficiary, .string c.issuer, .string c.confirmer, .string c.orig, .string c.dest, .string c.currency, .int .i64 c.amount, .int .i64 c.above, .int .i64 c.below, .int .i64 c.latest, .int .i64 c.expiry, .int .i64 c.within, .int .i64 c.tenor, .bool c.part, .bool c.change, needs]

structure Ned where
  kind : Int
  count : Int
  rk : Int
  rp : Int
  rf : ByteArray
  rt : ByteArray
  rn : Int
  rl : Option Addr
  rln : Nat
  rlc : Nat
def NeedsAt (w : World) (A : Option Addr) (l : List Ned) : Prop :=
  ∀ (k : Nat) (x : Ned), l[k]? = some x → (-9223372036854775808 ≤ x.kind ∧ x.kind ≤ 9223372036854775807) ∧ ∃ b off, A = some ⟨b, off, none⟩ ∧ w.cell? ⟨b, off + k * 8, none⟩ = some (.int .i64 x.kind) ∧ w.cell? ⟨b, off + k * 8 + 1, none⟩ = some (.int .i64 x.count) ∧
    w.cell? ⟨b, off + k * 8 + 2, none⟩ = some (.int .i64 x.rk) ∧ w.cell? ⟨b, off + k * 8 + 3, none⟩ = some (.int .i64 x.rp) ∧ w.cell? ⟨b, off + k * 8 + 4, none⟩ = some (.string x.rf) ∧ w.cell? ⟨b, off + k * 8 + 5, none⟩ = some (.string x.rt) ∧
    w.cell? ⟨b, off + k * 8 + 6, none⟩ = some (.int .i64 x.rn) ∧ w.cell? ⟨b, off + k * 8 + 7, none⟩ = some (.slice x.rl x.rln x.rlc)
theorem NeedsAt.below {w w' : World} {A : Option Addr} {l : List Ned} (h : NeedsAt w A l) (hb : Below w.heap.size w w') : NeedsAt w' A l := by
  intro k x hk
  obtain ⟨hr, b, off, e, h0, h1, h2, h3, h4, h5, h6, h7⟩ := h k x hk
  have hlt : b < w.heap.size := World.block_lt_of_cell? w _ h0
  have hc : ∀ o, w'.cell? ⟨b, o, none⟩ = w.cell? ⟨b, o, none⟩ := fun o => hb.cell (p := ⟨b, o, none⟩) hlt
  exact ⟨hr, b, off, e, by rw [hc]; exact h0, by rw [hc]; exact h1, by rw [hc]; exact h2, by rw [hc]; exact h3, by rw [hc]; exact h4, by rw [hc]; exact h5, by rw [hc]; exact h6, by rw [hc]; exact h7⟩

theorem int_keyed3 : Keyed Tryz.prog 3 := int_keyed Tryz.underlying3
theorem zero3 (w : World) : (zeroValue 3).run Tryz.prog w = .ok (.int .i64 0) w := by kernel_rfl

/-- What stands in memory while papers are examined. -/
structure St (w wx : World) (C X : Array Value) (v : Value) (l : List Flt) : Prop where
  credit : Blk wx w.heap.size 46 C
  tell : Tell wx w.heap.size (w.heap.size + 1 + 1 + 1) (w.heap.size + 1) (w.heap.size + 1 + 1) v l
  exam : Blk wx (w.heap.size + 1 + 1 + 1 + 1) 94 X
  below : Below w.heap.size w wx
section
variable {w wx w' : World} {C X : Array Value} {v : Value} {l : List Flt}
theorem St.belows (h : St w wx C X v l) (hb : Below wx.heap.size wx w') : St w w' C X v l :=
  ⟨h.credit.below hb h.credit.lt, h.tell.below hb, h.exam.below hb h.exam.lt, h.below.trans (hb.mono h.below.size)⟩
theorem St.alloc (h : St w wx C X v l) (o : Obj) : St w (wx.alloc o) C X v l := h.belows ((Below.refl _ _).alloc (Nat.le_refl _) o)
theorem St.put {k e : TypeId} {b n : Nat} {z : Value} {S : Value → Option Value} (h : St w wx C X v l) (hm : MapFn wx Tryz.prog k e b n z S) (hne : b ≠ w.heap.size + 1 + 1) (hB : w.heap.size ≤ b) (hg : wx.grownBy w' (some b)) : St w w' C X v l := by
  refine ⟨h.credit.kept hg (by simpa using blk_map_ne h.credit hm), ⟨h.tell.map.kept hg (by simpa using Ne.symm hne), h.tell.tc.kept hg (by simpa using blk_map_ne h.tell.tc hm), h.tell.fc.kept hg (by simpa using blk_map_ne h.tell.fc hm), h.tell.row.kept hg (.inr (own_map_ne h.tell.row hm).symm), h.tell.base⟩,
    h.exam.kept hg (by simpa using blk_map_ne h.exam hm), h.below.grown hg h.below.size (fun k hk => by simp at hk; omega)⟩
theorem tellS_no {g : Nat} {t : TypeId} {cs : Array Value} (h : St w wx C X v l) (hg : Blk wx g t cs) (ht : t ≠ 54) (ht2 : t ≠ 47) : ¬ tellS (w.heap.size + 1) (w.heap.size + 1 + 1) v g := by
  rintro (e | e | e)
  · subst e; exact blk_map_ne hg h.tell.map rfl
  · subst e
    have h1 := h.tell.fc
    rw [Blk] at h1 hg
    rw [h1] at hg
    simp at hg; exact ht2 hg.2.symm
  · exact own_blk_ne h.tell.row hg (Ne.symm ht) e
theorem St.told {l' : List Flt} {v' : Value} (h : St w wx C X v l) (ht : Tell w' w.heap.size (w.heap.size + 1 + 1 + 1) (w.heap.size + 1) (w.heap.size + 1 + 1) v' l') (hb : ButS (tellS (w.heap.size + 1) (w.heap.size + 1 + 1) v) wx w') : St w w' C X v' l' :=
  ⟨hb.blk h.credit (tellS_no h h.credit (by decide) (by decide)), ht, hb.blk h.exam (tellS_no h h.exam (by decide) (by decide)), h.below.trans (hb.below (fun g hg => by
    rcases hg with e | e | e
    · omega
    · omega
    · have := (h.tell.row.lt g e).1; omega) h.below.size)⟩
end

theorem addF_len (l : List Flt) (f : Flt) : (addF l f).length ≤ l.length + 1 := by
  unfold addF; split <;> simp
theorem fcells_get : ∀ (l : List Flt) (k : Nat) (x : Flt), l[k]? = some x → ∀ i, i < 4 → (fcells l)[k * 4 + i]? = x.cells[i]?
  | [], k, x, h, i, hi => by simp at h
  | y :: l, 0, x, h, i, hi => by
    simp at h; subst h
    show (y.cells ++ fcells l)[0 * 4 + i]? = _
    rw [Nat.zero_mul, Nat.zero_add, List.getElem?_append_left (by simp [Flt.cells]; omega)]
  | y :: l, k + 1, x, h, i, hi => by
    have ih := fcells_get l k x (by simpa using h) i hi
    show (y.cells ++ fcells l)[(k + 1) * 4 + i]? = _
    rw [List.getElem?_append_right (by simp [Flt.cells]; omega)]
    have e : (k + 1) * 4 + i - y.cells.length = k * 4 + i := by simp [Flt.cells]; omega
    rw [e]; exact ih
theorem own_faults {w : World} {base m : Nat} {v : Value} {l : List Flt} (h : w.ownsRow base 54 4 v m (fcells l)) (hl : l.length = m) : ∃ A' c', v = .slice A' m c' ∧ m ≤ c' ∧ FaultsAt w A' l := by
  rcases h.2 with ⟨rfl, rfl⟩ | ⟨g, cap, cur, rfl, _, _, hnc, _⟩
  · have : l = [] := List.eq_nil_of_length_eq_zero hl
    subst this
    exact ⟨_, _, rfl, Nat.le_refl _, by intro k x hk; simp at hk⟩
  · refine ⟨_, _, rfl, hnc, fun k x hk => ?_⟩
    have hc : ∀ i, i < 4 → ∀ u, x.cells[i]? = some u → w.cell? ⟨g, 0 + k * 4 + i, none⟩ = some u := fun i hi u hu => by
      have := h.cells (g := g) rfl (k * 4 + i) u (by rw [fcells_get l k x hk i hi]; exact hu)
      rwa [show Addr.add ⟨g, 0, none⟩ (k * 4 + i) = ⟨g, 0 + k * 4 + i, none⟩ by unfold Addr.add; split <;> simp_all] at this
    exact ⟨g, 0, rfl, hc 0 (by omega) _ rfl, hc 1 (by omega) _ rfl, hc 2 (by omega) _ rfl, hc 3 (by omega) _ rfl⟩
theorem st_new (w : World) (C X : Array Value) : St w (((((w.alloc (.cells C 46)).alloc (.cells #[.slice none 0 0] 47)).alloc (.map #[] 0)).alloc (.cells #[.map (some (w.heap.size + 1 + 1))] 90)).alloc (.cells X 94)) C X (.slice none 0 0) [] := by
  have b0 := Blk.new w 46 C
  have b1 := Blk.new (w.alloc (.cells C 46)) 47 #[.slice none 0 0]
  have b2 := MapFn.made ((w.alloc (.cells C 46)).alloc (.cells #[.slice none 0 0] 47)) Tryz.prog 54 4 (plainElem_bool Tryz.underlying4 false)
  have b3 := Blk.new (((w.alloc (.cells C 46)).alloc (.cells #[.slice none 0 0] 47)).alloc (.map #[] 0)) 90 #[.map (some (w.heap.size + 1 + 1))]
  have b4 := Blk.new ((((w.alloc (.cells C 46)).alloc (.cells #[.slice none 0 0] 47)).alloc (.map #[] 0)).alloc (.cells #[.map (some (w.heap.size + 1 + 1))] 90)) 94 X
  simp only [World.size_alloc] at b1 b2 b3 b4
  have e0 : toldF [] = fun _ => none := by funext x; simp [toldF]
  refine ⟨(((b0.alloc _).alloc _).alloc _).alloc _, ⟨?_, b3.alloc _, ((b1.alloc _).alloc _).alloc _, World.ownsRow_nil _ _ _ _, by omega⟩, b4, ?_⟩
  · rw [e0]; exact (b2.alloc _).alloc _
  · exact (((((Below.refl _ w).alloc (Nat.le_refl _) _).alloc (by simp) _).alloc (by simp; omega) _).alloc (by simp; omega) _).alloc (by simp; omega) _
end Go.Proofs.YtdjmckjbibfecaaGreatDoor
namespace Go.Proofs.YtdjmckjbibfecaaGreatDoor
open Go

/-- The numbers of a credit are of 64 bits. -/
structure Crd.okC (c : Crd) : Prop where
  amount : -9223372036854775808 ≤ c.amount ∧ c.amount ≤ 9223372036854775807
  above : -9223372036854775808 ≤ c.above ∧ c.above ≤ 9223372036854775807
  below : -9223372036854775808 ≤ c.below ∧ c.below ≤ 9223372036854775807
  latest : -9223372036854775808 ≤ c.latest ∧ c.latest ≤ 9223372036854775807
  expiry : -9223372036854775808 ≤ c.expiry ∧ c.expiry ≤ 9223372036854775807
  within : -9223372036854775808 ≤ c.within ∧ c.within ≤ 9223372036854775807
  app : c.applicant.size ≤ 140737488351232
  ben : c.beneficiary.size ≤ 140737488351232
  cur : c.currency.size ≤ 140737488351232
end Go.Proofs.YtdjmckjbibfecaaGreatDoor

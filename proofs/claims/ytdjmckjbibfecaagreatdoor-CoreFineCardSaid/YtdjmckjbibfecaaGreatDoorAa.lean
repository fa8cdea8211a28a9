/- Rows in memory, of any element; rows of fields of one's own; slices.Clone of fields. -/
import Derived.Lib.SliceRun
import Derived.Test.YtdjmckjbibfecaaGreatDoorU
namespace Go.Proofs.YtdjmckjbibfecaaGreatDoor
open Go Go.RowKit Go.BigFrame Go.Maps

structure Pap where
  kind : Int
  number : ByteArray
  issuer : ByteArray
  fA : Option Addr
  fc : Nat
  fields : List Fld
/-- A row of papers in memory. -/
def DocsAt (w : World) (A : Option Addr) (l : List Pap) : Prop :=
  ∀ (k : Nat) (x : Pap), l[k]? = some x → ∃ b off, A = some ⟨b, off, none⟩ ∧ w.cell? ⟨b, off + k * 4, none⟩ = some (.int .i64 x.kind) ∧ w.cell? ⟨b, off + k * 4 + 1, none⟩ = some (.string x.number) ∧
    w.cell? ⟨b, off + k * 4 + 2, none⟩ = some (.string x.issuer) ∧ w.cell? ⟨b, off + k * 4 + 3, none⟩ = some (.slice x.fA x.fields.length x.fc) ∧ FieldsAt w x.fA x.fields ∧ x.fields.length ≤ maxLen ∧ (-9223372036854775808 ≤ x.kind ∧ x.kind ≤ 9223372036854775807)
theorem DocsAt.below {w w' : World} {A : Option Addr} {l : List Pap} (h : DocsAt w A l) (hb : Below w.heap.size w w') : DocsAt w' A l := by
  intro k x hk
  obtain ⟨b, off, e, h0, h1, h2, h3, h4, h5⟩ := h k x hk
  have hlt : b < w.heap.size := World.block_lt_of_cell? w _ h0
  exact ⟨b, off, e, by rw [hb.cell hlt]; exact h0, by rw [hb.cell hlt]; exact h1, by rw [hb.cell hlt]; exact h2, by rw [hb.cell hlt]; exact h3, h4.below hb, h5⟩

/-- A field of the first paper of a kind. -/
def fieldD : List Pap → Int → ByteArray → Option ByteArray
  | [], _, _ => none
  | x :: l, k, s => if x.kind = k then getF x.fields s else fieldD l k s
theorem fieldD_no {l : List Pap} {k : Nat} {x : Pap} {i : Int} {s : ByteArray} {r : Option ByteArray} (hr : r = fieldD (l.drop k) i s) (hx : l[k]? = some x) (h : ¬ x.kind = i) : r = fieldD (l.drop (k + 1)) i s := by
  obtain ⟨hk, he⟩ := List.getElem?_eq_some_iff.1 hx
  rw [hr, List.drop_eq_getElem_cons hk, he, fieldD, if_neg h]
theorem fieldD_yes {l : List Pap} {k : Nat} {x : Pap} {i : Int} {s : ByteArray} {r : Option ByteArray} (hr : r = fieldD (l.drop k) i s) (hx : l[k]? = some x) (h : x.kind = i) : r = getF x.fields s := by
  obtain ⟨hk, he⟩ := List.getElem?_eq_some_iff.1 hx
  rw [hr, List.drop_eq_getElem_cons hk, he, fieldD, if_pos h]
/-- What a look-up hands back. -/
def two (r : Option ByteArray) : Value := .tuple #[.string (r.getD ⟨#[]⟩), .bool r.isSome]

set_option maxRecDepth 100000 in
set_option maxHeartbeats 800000 in
theorem field_any (A : Option Addr) (n c : Nat) (l : List Pap) (i : Int) (s : ByteArray) (w : World) (hn : n ≤ maxLen) (hl : Hid (l.length = n)) (hA : Hid (DocsAt w A l)) :
    Calls Tryz.prog 100 #[.slice A n c, .int .i64 i, .string s] w fun e w' => e = .returned (two (fieldD l i s)) ∧ Below w.heap.size w w' := by
  unfold maxLen at hn
  go_enter Tryz.func100, Tryz.ntmps100
  go_wp2_with fail
  go_loopw [12] (fun j wr => ∃ k : Nat, k ≤ n ∧ j = .int .i64 k ∧ Hid (fieldD l i s = fieldD (l.drop k) i s) ∧ Below w.heap.size w wr) (fun i _ => n - (intOf i).toNat)
  case atStart => exact ⟨0, Nat.zero_le _, rfl, rfl, Below.refl _ _⟩
  case round =>
    obtain ⟨k, hk, rfl, hsame, hB⟩ := hrel
    by_cases hlt : k < n
    · obtain ⟨x, hx⟩ : ∃ x, l[k]? = some x := ⟨_, List.getElem?_eq_getElem (by have := hl.out; omega)⟩
      have hx' := Lib.hid hx
      clear hx
      obtain ⟨b, off, rfl, h0, h1, h2, h3, h4, h5, h6⟩ := (hA.out.below hB) k x hx'.out
      obtain ⟨kd, nu, is, fA, fc, fs⟩ := x
      simp only at h0 h1 h2 h3 h4 h5 h6
      have h4' := Lib.hid h4
      have h5' := Lib.hid h5
      clear h4 h5 h6
      obtain ⟨m, hm⟩ : ∃ m, Hid (fs.length = m) := ⟨_, rfl⟩
      rw [hm.out] at h3
      by_cases heq : kd = i
      · subst heq
        go_wp2_with fail
        refine (get_any fA m fc fs s _ (by rw [← hm.out]; exact h5'.out) hm (h4'.out.below ((Below.refl _ _).alloc (Nat.le_refl _) _))).mono ?_
        rintro e w1 ⟨rfl, hb1⟩
        have hB1 : Below w.heap.size w w1 := hB.trans (((Below.refl _ wr).alloc (Nat.le_refl _) _ |>.trans (hb1.mono (by simp))).mono hB.size)
        go_wp2_with fail
        go_ret2
        exact ⟨by rw [fieldD_yes hsame.out hx'.out rfl]; rfl, hB1⟩
      · have heq' := Lib.hid heq
        go_wp2_with fail
        go_roundw
        case rel => exact ⟨k + 1, by omega, by go_num, fieldD_no hsame.out hx'.out heq'.out, hB.alloc hB.size _⟩
        case measure => simp [intOf]; omega
    · go_wp2_with fail
      go_ret2
      exact ⟨by rw [hsame.out, List.drop_eq_nil_of_le (by have := hl.out; omega)]; rfl, hB⟩

end Go.Proofs.YtdjmckjbibfecaaGreatDoor
namespace Go.Proofs.YtdjmckjbibfecaaGreatDoor
open Go Go.RowKit Go.BigFrame Go.Maps

theorem add_none (b off j : Nat) : Addr.add ⟨b, off, none⟩ j = ⟨b, off + j, none⟩ := by unfold Addr.add; split <;> simp_all
section
variable {α : Type} {enc : α → List Value} {k : Nat} {w w' : World} {A : Option Addr} {l : List α}
theorem fm_len (hk : ∀ x, (enc x).length = k) (l : List α) : (l.flatMap enc).length = l.length * k := by
  induction l with
  | nil => simp
  | cons x l ih => rw [List.flatMap_cons, List.length_append, hk, ih, List.length_cons, Nat.add_mul, Nat.one_mul, Nat.add_comm]
theorem fm_get (hk : ∀ x, (enc x).length = k) : ∀ (l : List α) (i j : Nat), j < k → (l.flatMap enc)[i * k + j]? = (l[i]?).bind fun x => (enc x)[j]?
  | [], i, j, _ => by simp
  | x :: l, 0, j, hj => by rw [List.flatMap_cons, List.getElem?_append_left (by rw [hk]; omega)]; simp
  | x :: l, i + 1, j, hj => by
    rw [List.flatMap_cons, List.getElem?_append_right (by rw [hk, Nat.succ_mul]; omega), hk, show (i + 1) * k + j - k = i * k + j by rw [Nat.succ_mul]; omega, fm_get hk l i j hj]
    simp
/-- A row of elements in memory. -/
def RowOf (enc : α → List Value) (k : Nat) (w : World) (A : Option Addr) (l : List α) : Prop :=
  ∀ (i : Nat) (x : α), l[i]? = some x → ∃ b off, A = some ⟨b, off, none⟩ ∧ ∀ (j : Nat) (u : Value), (enc x)[j]? = some u → w.cell? ⟨b, off + i * k + j, none⟩ = some u
theorem RowOf.nil : RowOf enc k w A [] := by intro i x h; simp at h
theorem RowOf.keep (h : RowOf enc k w A l) (hc : ∀ p : Addr, p.block < w.heap.size → w'.cell? p = w.cell? p) : RowOf enc k w' A l := by
  intro i x hx
  obtain ⟨b, off, e, h0⟩ := h i x hx
  exact ⟨b, off, e, fun j u hu => by rw [hc _ (World.block_lt_of_cell? w _ (h0 j u hu))]; exact h0 j u hu⟩
theorem RowOf.below (h : RowOf enc k w A l) (hb : Below w.heap.size w w') : RowOf enc k w' A l := h.keep fun _ hp => hb.cell hp
theorem RowOf.reads (hk : ∀ x, (enc x).length = k) (hk0 : 0 < k) (h : RowOf enc k w A l) : Reads w w.heap.size k A l.length (l.flatMap enc) := by
  refine ⟨fm_len hk l, fun hn => ?_⟩
  obtain ⟨x, hx⟩ : ∃ x, l[0]? = some x := ⟨_, List.getElem?_eq_getElem hn⟩
  obtain ⟨b, off, hA, hc⟩ := h 0 x hx
  obtain ⟨u0, hu0⟩ : ∃ u, (enc x)[0]? = some u := ⟨_, List.getElem?_eq_getElem (by rw [hk]; exact hk0)⟩
  have hbl : b < w.heap.size := World.block_lt_of_cell? w _ (hc 0 u0 hu0)
  refine ⟨⟨b, off, none⟩, hA, hbl, fun j u hu => ?_⟩
  rw [add_none]
  have e := fm_get hk l (j / k) (j % k) (Nat.mod_lt _ hk0)
  have ej : j / k * k + j % k = j := by rw [Nat.mul_comm]; exact Nat.div_add_mod j k
  rw [ej, hu] at e
  obtain ⟨y, hy, hyu⟩ := Option.bind_eq_some_iff.1 e.symm
  obtain ⟨b', off', hA', hc'⟩ := h _ y hy
  rw [hA] at hA'
  simp only [Option.some.injEq, Addr.mk.injEq, and_true] at hA'
  obtain ⟨rfl, rfl⟩ := hA'
  have := hc' _ u hyu
  rwa [Nat.add_assoc, ej] at this
theorem RowOf.of_own {base n : Nat} {e : TypeId} {v : Value} (hk : ∀ x, (enc x).length = k) (h : w.ownsRow base e k v n (l.flatMap enc)) (hl : l.length = n) : ∃ A c, v = .slice A n c ∧ n ≤ c ∧ RowOf enc k w A l := by
  rcases h.2 with ⟨rfl, hn⟩ | ⟨g, cap, cur, rfl, _, _, hnc, _⟩
  · have : l = [] := List.eq_nil_of_length_eq_zero (by omega)
    subst this
    subst hn
    exact ⟨_, _, rfl, Nat.le_refl _, RowOf.nil⟩
  · refine ⟨_, _, rfl, hnc, fun i x hx => ⟨g, 0, rfl, fun j u hu => ?_⟩⟩
    have hj : j < k := by have := (List.getElem?_eq_some_iff.1 hu).1; rw [hk] at this; exact this
    have := h.cells (g := g) rfl (i * k + j) u (by rw [fm_get hk l i j hj, hx]; exact hu)
    rwa [add_none, ← Nat.add_assoc] at this
theorem RowOf.drop (h : RowOf enc k w A l) {b off m : Nat} (hA : A = some ⟨b, off, none⟩) : RowOf enc k w (some ⟨b, off + m * k, none⟩) (l.drop m) := by
  intro i x hx
  rw [List.getElem?_drop] at hx
  obtain ⟨b', off', e, hc⟩ := h _ x hx
  rw [hA] at e
  simp only [Option.some.injEq, Addr.mk.injEq, and_true] at e
  obtain ⟨rfl, rfl⟩ := e
  exact ⟨b, _, rfl, fun j u hu => by have := hc j u hu; rwa [show off + (m + i) * k + j = off + m * k + i * k + j by rw [Nat.add_mul]; omega] at this⟩
theorem RowOf.take (h : RowOf enc k w A l) (m : Nat) : RowOf enc k w A (l.take m) := by
  intro i x hx
  rw [List.getElem?_take] at hx
  split at hx
  · exact h i x hx
  · cases hx
end

/-- Fields, cell by cell. -/
def encF (f : Fld) : List Value := [.string f.name, .string f.value]
def flF (l : List Fld) : List Value := l.flatMap encF
theorem encF_len (f : Fld) : (encF f).length = 2 := rfl
theorem flF_one (l : List Fld) : ∀ u ∈ flF l, u.oneCell' = true := by
  intro u hu
  obtain ⟨f, _, hf⟩ := List.mem_flatMap.1 hu
  simp [encF] at hf
  rcases hf with rfl | rfl <;> rfl
theorem FieldsAt.row {w : World} {A : Option Addr} {l : List Fld} (h : FieldsAt w A l) : RowOf encF 2 w A l := by
  intro i x hx
  obtain ⟨b, off, e, h0, h1⟩ := h i x hx
  refine ⟨b, off, e, fun j u hu => ?_⟩
  match j with
  | 0 => simp [encF] at hu; subst hu; exact h0
  | 1 => simp [encF] at hu; subst hu; exact h1
  | j + 2 => simp [encF] at hu
theorem FieldsAt.of_row {w : World} {A : Option Addr} {l : List Fld} (h : RowOf encF 2 w A l) : FieldsAt w A l := by
  intro i x hx
  obtain ⟨b, off, e, hc⟩ := h i x hx
  exact ⟨b, off, e, hc 0 _ rfl, hc 1 _ rfl⟩
theorem fields_of_own {w : World} {base n : Nat} {v : Value} {l : List Fld} (h : w.ownsRow base 108 2 v n (flF l)) (hl : l.length = n) : ∃ A c, v = .slice A n c ∧ n ≤ c ∧ FieldsAt w A l := by
  obtain ⟨A, c, e, hc, hr⟩ := RowOf.of_own encF_len h hl
  exact ⟨A, c, e, hc, FieldsAt.of_row hr⟩

theorem Tryz.info108 : (Tryz.prog.info? 108).map (fun i => (i.zero, i.size, i.bytes)) = some (some (.agg #[.string ⟨#[]⟩, .string ⟨#[]⟩]), 2, 32) := by kernel_rfl

set_option maxRecDepth 100000 in
set_option maxHeartbeats 800000 in
theorem clone_any (A : Option Addr) (n c : Nat) (l : List Fld) (w : World) (hn : n ≤ 1000000) (hl : Hid (l.length = n)) (hA : Hid (FieldsAt w A l)) :
    Calls Tryz.prog 71 #[.slice A n c] w fun e w' => ∃ v, e = .returned v ∧ w'.ownsRow w.heap.size 108 2 v n (flF l) ∧ Below w.heap.size w w' := by
  obtain ⟨i0, hi, hz0, hz1, hz2⟩ := info_parts Tryz.info108
  have q22 : ∀ (w : World) (a : Option Addr) (n c n' c' : Nat), (binOp .eql 59 (.slice a n c) (.slice none n' c')).run Tryz.prog w = .ok (.bool a.isNone) w := fun w a n c n' c' => Lib.run_eql_slice_nil w _ _ a n c n' c' Tryz.underlying59
  rcases A with _ | ad
  · have h0 : n = 0 := by
      rcases Nat.eq_zero_or_pos n with h | h
      · exact h
      · obtain ⟨x, hx⟩ : ∃ x, l[0]? = some x := ⟨_, List.getElem?_eq_getElem (by have := hl.out; omega)⟩
        obtain ⟨b, off, e, _⟩ := hA.out 0 x hx
        cases e
    subst h0
    have hl0 : l = [] := List.eq_nil_of_length_eq_zero hl.out
    subst hl0
    go_enter Tryz.func71, Tryz.ntmps71
    go_wp2_with fail
    go_ret
    exact ⟨_, rfl, World.ownsRow_nil _ _ _ _, Below.refl _ _⟩
  · have hr := Lib.hid (hA.out.row.reads encF_len (by decide))
    have hn1 : Hid (0 + n ≤ maxLen) := by unfold Hid maxLen; omega
    have hn2 : Hid ((0 + n) * 32 ≤ 140737488355328) := by unfold Hid; omega
    have ho := flF_one l
    have ho' := Lib.hid ho
    clear ho
    rw [hl.out] at hr
    go_enter Tryz.func71, Tryz.ntmps71
    go_wp2_with (at_builtin; go_must (refine wpList_append_any _ rfl (.tmp 5) (.tmp 6) 59 rfl w.heap.size 108 i0 _ 2 32 Tryz.underlying59 hi hz0 hz1 hz2 rfl (by decide) (.slice (some ⟨w.heap.size, 0, none⟩) 0 0) 0 [] rfl (own_new w 108 2) w.heap.size _ n c (flF l) rfl (hr.out.alloc (Nat.le_refl _) _) ho'.out hn1.out hn2.out (by simp) ?_); intro v w1 how hgr hvb)
    go_ret
    refine ⟨_, rfl, by simpa using how, ?_⟩
    exact ((Below.refl _ w).alloc (Nat.le_refl _) _).grown hgr (by simp) (fun k hk => by simp [Value.ownBlock] at hk; omega)

end Go.Proofs.YtdjmckjbibfecaaGreatDoor
namespace Go.Proofs.YtdjmckjbibfecaaGreatDoor
open Go Go.RowKit Go.BigFrame Go.Maps

inductive Tree where
  | mk (kind paper : Int) (field text : ByteArray) (num : Int) (A : Option Addr) (c : Nat) (L : List Tree) : Tree
def Tree.kind : Tree → Int | .mk k _ _ _ _ _ _ _ => k
def Tree.field : Tree → ByteArray | .mk _ _ f _ _ _ _ _ => f
def Tree.sub : Tree → List Tree | .mk _ _ _ _ _ _ _ L => L
def Tree.cells : Tree → Array Value | .mk k p f x n A c L => #[.int .i64 k, .int .i64 p, .string f, .string x, .int .i64 n, .slice A L.length c]

def CellsAt (w : World) (A : Option Addr) (j : Nat) : Tree → Prop
  | .mk k p f x n A' c L => ∃ b off, A = some ⟨b, off, none⟩ ∧ w.cell? ⟨b, off + j * 6, none⟩ = some (.int .i64 k) ∧ w.cell? ⟨b, off + j * 6 + 1, none⟩ = some (.int .i64 p) ∧ w.cell? ⟨b, off + j * 6 + 2, none⟩ = some (.string f) ∧
      w.cell? ⟨b, off + j * 6 + 3, none⟩ = some (.string x) ∧ w.cell? ⟨b, off + j * 6 + 4, none⟩ = some (.int .i64 n) ∧ w.cell? ⟨b, off + j * 6 + 5, none⟩ = some (.slice A' L.length c)
theorem CellsAt.below {w w' : World} {A : Option Addr} {j : Nat} {t : Tree} (h : CellsAt w A j t) (hb : Below w.heap.size w w') : CellsAt w' A j t := by
  obtain ⟨k, p, f, x, n, A', c, L⟩ := t
  obtain ⟨b, off, e, h0, h1, h2, h3, h4, h5⟩ := h
  have hlt : b < w.heap.size := World.block_lt_of_cell? w _ h0
  exact ⟨b, off, e, by rw [hb.cell hlt]; exact h0, by rw [hb.cell hlt]; exact h1, by rw [hb.cell hlt]; exact h2, by rw [hb.cell hlt]; exact h3, by rw [hb.cell hlt]; exact h4, by rw [hb.cell hlt]; exact h5⟩
mutual
def TreeAt (w : World) : Tree → Prop
  | .mk _ _ _ _ _ A _ L => RowsAt w A 0 L ∧ L.length ≤ maxLen
def RowsAt (w : World) (A : Option Addr) (j : Nat) : List Tree → Prop
  | [] => True
  | t :: L => CellsAt w A j t ∧ TreeAt w t ∧ RowsAt w A (j + 1) L
end
mutual
theorem TreeAt.below {w w' : World} (hb : Below w.heap.size w w') : ∀ {t : Tree}, TreeAt w t → TreeAt w' t
  | .mk _ _ _ _ _ A _ L, h => by
    rw [TreeAt] at h ⊢
    exact ⟨RowsAt.below hb h.1, h.2⟩
theorem RowsAt.below {w w' : World} (hb : Below w.heap.size w w') : ∀ {A : Option Addr} {j : Nat} {L : List Tree}, RowsAt w A j L → RowsAt w' A j L
  | _, _, [], _ => by rw [RowsAt]; trivial
  | _, _, t :: L, h => by
    rw [RowsAt] at h ⊢
    exact ⟨h.1.below hb, TreeAt.below hb h.2.1, RowsAt.below hb h.2.2⟩
end
theorem RowsAt.get {w : World} : ∀ {A : Option Addr} {j : Nat} {L : List Tree} (_ : RowsAt w A j L) (k : Nat) (t : Tree), L[k]? = some t → CellsAt w A (j + k) t ∧ TreeAt w t
  | _, _, [], _, k, t, hk => by simp at hk
  | _, _, u :: L, h, 0, t, hk => by
    rw [RowsAt] at h
    simp at hk; subst hk
    exact ⟨h.1, h.2.1⟩
  | _, j, u :: L, h, k + 1, t, hk => by
    rw [RowsAt] at h
    have := RowsAt.get h.2.2 k t (by simpa using hk)
    rw [show j + 1 + k = j + (k + 1) by omega] at this
    exact this

def soT (b : Bool) : Int := if b then 0 else 2
/-- How a rule over a field stands, that has a value. -/
def atomT (docs : List Pap) (k p : Int) (x : ByteArray) (n : Int) (v : ByteArray) : Int :=
  if k = 3 then soT (decide (v.toList = x.toList))
  else if k = 4 then soT (Lib.contains v.data.toList x.data.toList)
  else if k = 5 then soT (match numF v.data.toList with | some m => decide (m ≤ n) | none => false)
  else if k = 6 then soT (match numF v.data.toList with | some m => decide (n ≤ m) | none => false)
  else if k = 7 then (match fieldD docs p x with | some u => soT (decide (v.toList = u.toList)) | none => 1)
  else 2
mutual
/-- How a rule stands, asked of a paper. -/
def holdsT (docs : List Pap) (d : Pap) : Tree → Int
  | .mk k p f x n _ _ L =>
    if k = 0 then greatT docs d L 0
    else if k = 1 then leastT docs d L 2
    else if k = 2 then 2 - greatT docs d L 0
    else if 3 ≤ k ∧ k ≤ 7 then (match getF d.fields f with | some v => atomT docs k p x n v | none => 1)
    else 2
def greatT (docs : List Pap) (d : Pap) : List Tree → Int → Int
  | [], s => s
  | t :: L, s => greatT docs d L (max s (holdsT docs d t))
def leastT (docs : List Pap) (d : Pap) : List Tree → Int → Int
  | [], s => s
  | t :: L, s => leastT docs d L (min s (holdsT docs d t))
end
theorem soT_range (b : Bool) : 0 ≤ soT b ∧ soT b ≤ 2 := by unfold soT; split <;> omega
theorem atomT_range (docs : List Pap) (k p : Int) (x : ByteArray) (n : Int) (v : ByteArray) : 0 ≤ atomT docs k p x n v ∧ atomT docs k p x n v ≤ 2 := by
  unfold atomT
  repeat' split
  all_goals first | exact soT_range _ | omega
mutual
theorem holdsT_range (docs : List Pap) (d : Pap) : ∀ t : Tree, 0 ≤ holdsT docs d t ∧ holdsT docs d t ≤ 2
  | .mk k p f x n _ _ L => by
    rw [holdsT]
    have h1 := greatT_range docs d L 0 (by omega) (by omega)
    have h2 := leastT_range docs d L 2 (by omega) (by omega)
    repeat' split
    all_goals first | exact atomT_range _ _ _ _ _ _ | omega
theorem greatT_range (docs : List Pap) (d : Pap) : ∀ (L : List Tree) (s : Int), 0 ≤ s → s ≤ 2 → 0 ≤ greatT docs d L s ∧ greatT docs d L s ≤ 2
  | [], s, h0, h1 => by rw [greatT]; exact ⟨h0, h1⟩
  | t :: L, s, h0, h1 => by
    rw [greatT]
    have := holdsT_range docs d t
    exact greatT_range docs d L _ (by omega) (by omega)
theorem leastT_range (docs : List Pap) (d : Pap) : ∀ (L : List Tree) (s : Int), 0 ≤ s → s ≤ 2 → 0 ≤ leastT docs d L s ∧ leastT docs d L s ≤ 2
  | [], s, h0, h1 => by rw [leastT]; exact ⟨h0, h1⟩
  | t :: L, s, h0, h1 => by
    rw [leastT]
    have := holdsT_range docs d t
    exact leastT_range docs d L _ (by omega) (by omega)
end
/-- No field's value is too long. -/
def SmallD (docs : List Pap) : Prop := ∀ d ∈ docs, ∀ f ∈ d.fields, f.value.size ≤ 1000000
theorem getF_mem : ∀ {l : List Fld} {s v : ByteArray}, getF l s = some v → ∃ f ∈ l, f.value = v
  | [], _, _, h => by simp [getF] at h
  | x :: l, s, v, h => by
    rw [getF] at h
    split at h
    · exact ⟨x, by simp, by simpa using h⟩
    · obtain ⟨f, hf, e⟩ := getF_mem h
      exact ⟨f, by simp [hf], e⟩
end Go.Proofs.YtdjmckjbibfecaaGreatDoor

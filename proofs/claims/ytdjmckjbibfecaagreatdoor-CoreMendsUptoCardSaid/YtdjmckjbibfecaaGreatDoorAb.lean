/- field.Set (the end of t21/A). -/
import Derived.Lib.SliceRun
import Derived.Test.YtdjmckjbibfecaaGreatDoorT
namespace Go.Proofs.YtdjmckjbibfecaaGreatDoor
open Go Go.RowKit Go.BigFrame Go.Maps

theorem add_none (b off j : Nat) : Addr.add ⟨b, off, none⟩ j = ⟨b, off + j, none⟩ := by unfold Addr.add; split <;> simp_all
section
variable {α : Type} {enc : α → List Value} {k : Nat} {w w' : World} {A : Option Addr} {l : List α}
theorem fm_len (hk : ∀ x, (enc x).length = k) (l : List α) : (l.flatMap enc).length = l.length * k := by
  induction l with
  | nil => simp
  | cons x l ih => rw [List.flatMap_cons, List.length_append, hk, ih, List.length_cons, Nat.add_mul, Nat.one_mul, Nat.add_comm]
theorem fm_get (hk : ∀ x, (enc x).length = k) : ∀ (l : List α) (i j : Nat), j < k → (l.flatMap enc)[i * k + j]? = (l[i]?).bind fun x => (enc x)[j]?
  | [], i, j, _ => by simp
  | x :: l, 0, j, hj => by rw [List.flatMap_cons, List.getElem?_append_left (by rw [hk]; omega)]; simp
  | x :: l, i + 1, j, hj => by
    rw [List.flatMap_cons, List.getElem?_append_right (by rw [hk, Nat.succ_mul]; omega), hk, show (i + 1) * k + j - k = i * k + j by rw [Nat.succ_mul]; omega, fm_get hk l i j hj]
    simp
/-- A row of elements in memory. -/
def RowOf (enc : α → List Value) (k : Nat) (w : World) (A : Option Addr) (l : List α) : Prop :=
  ∀ (i : Nat) (x : α), l[i]? = some x → ∃ b off, A = some ⟨b, off, none⟩ ∧ ∀ (j : Nat) (u : Value), (enc x)[j]? = some u → w.cell? ⟨b, off + i * k + j, none⟩ = some u
theorem RowOf.nil : RowOf enc k w A [] := by intro i x h; simp at h
theorem RowOf.keep (h : RowOf enc k w A l) (hc : ∀ p : Addr, p.block < w.heap.size → w'.cell? p = w.cell? p) : RowOf enc k w' A l := by
  intro i x hx
  obtain ⟨b, off, e, h0⟩ := h i x hx
  exact ⟨b, off, e, fun j u hu => by rw [hc _ (World.block_lt_of_cell? w _ (h0 j u hu))]; exact h0 j u hu⟩
theorem RowOf.below (h : RowOf enc k w A l) (hb : Below w.heap.size w w') : RowOf enc k w' A l := h.keep fun _ hp => hb.cell hp
theorem RowOf.reads (hk : ∀ x, (enc x).length = k) (hk0 : 0 < k) (h : RowOf enc k w A l) : Reads w w.heap.size k A l.length (l.flatMap enc) := by
  refine ⟨fm_len hk l, fun hn => ?_⟩
  obtain ⟨x, hx⟩ : ∃ x, l[0]? = some x := ⟨_, List.getElem?_eq_getElem hn⟩
  obtain ⟨b, off, hA, hc⟩ := h 0 x hx
  obtain ⟨u0, hu0⟩ : ∃ u, (enc x)[0]? = some u := ⟨_, List.getElem?_eq_getElem (by rw [hk]; exact hk0)⟩
  have hbl : b < w.heap.size := World.block_lt_of_cell? w _ (hc 0 u0 hu0)
  refine ⟨⟨b, off, none⟩, hA, hbl, fun j u hu => ?_⟩
  rw [add_none]
  have e := fm_get hk l (j / k) (j % k) (Nat.mod_lt _ hk0)
  have ej : j / k * k + j % k = j := by rw [Nat.mul_comm]; exact Nat.div_add_mod j k
  rw [ej, hu] at e
  obtain ⟨y, hy, hyu⟩ := Option.bind_eq_some_iff.1 e.symm
  obtain ⟨b', off', hA', hc'⟩ := h _ y hy
  rw [hA] at hA'
  simp only [Option.some.injEq, Addr.mk.injEq, and_true] at hA'
  obtain ⟨rfl, rfl⟩ := hA'
  have := hc' _ u hyu
  rwa [Nat.add_assoc, ej] at this
theorem RowOf.of_own {base n : Nat} {e : TypeId} {v : Value} (hk : ∀ x, (enc x).length = k) (h : w.ownsRow base e k v n (l.flatMap enc)) (hl : l.length = n) : ∃ A c, v = .slice A n c ∧ n ≤ c ∧ RowOf enc k w A l := by
  rcases h.2 with ⟨rfl, hn⟩ | ⟨g, cap, cur, rfl, _, _, hnc, _⟩
  · have : l = [] := List.eq_nil_of_length_eq_zero (by omega)
    subst this
    subst hn
    exact ⟨_, _, rfl, Nat.le_refl _, RowOf.nil⟩
  · refine ⟨_, _, rfl, hnc, fun i x hx => ⟨g, 0, rfl, fun j u hu => ?_⟩⟩
    have hj : j < k := by have := (List.getElem?_eq_some_iff.1 hu).1; rw [hk] at this; exact this
    have := h.cells (g := g) rfl (i * k + j) u (by rw [fm_get hk l i j hj, hx]; exact hu)
    rwa [add_none, ← Nat.add_assoc] at this
theorem RowOf.drop (h : RowOf enc k w A l) {b off m : Nat} (hA : A = some ⟨b, off, none⟩) : RowOf enc k w (some ⟨b, off + m * k, none⟩) (l.drop m) := by
  intro i x hx
  rw [List.getElem?_drop] at hx
  obtain ⟨b', off', e, hc⟩ := h _ x hx
  rw [hA] at e
  simp only [Option.some.injEq, Addr.mk.injEq, and_true] at e
  obtain ⟨rfl, rfl⟩ := e
  exact ⟨b, _, rfl, fun j u hu => by have := hc j u hu; rwa [show off + (m + i) * k + j = off + m * k + i * k + j by rw [Nat.add_mul]; omega] at this⟩
theorem RowOf.take (h : RowOf enc k w A l) (m : Nat) : RowOf enc k w A (l.take m) := by
  intro i x hx
  rw [List.getElem?_take] at hx
  split at hx
  · exact h i x hx
  · cases hx
end

/-- Fields, cell by cell. -/
def encF (f : Fld) : List Value := [.string f.name, .string f.value]
def flF (l : List Fld) : List Value := l.flatMap encF
theorem encF_len (f : Fld) : (encF f).length = 2 := rfl
theorem flF_one (l : List Fld) : ∀ u ∈ flF l, u.oneCell' = true := by
  intro u hu
  obtain ⟨f, _, hf⟩ := List.mem_flatMap.1 hu
  simp [encF] at hf
  rcases hf with rfl | rfl <;> rfl
theorem flF_append (a b : List Fld) : flF (a ++ b) = flF a ++ flF b := List.flatMap_append
theorem FieldsAt.row {w : World} {A : Option Addr} {l : List Fld} (h : FieldsAt w A l) : RowOf encF 2 w A l := by
  intro i x hx
  obtain ⟨b, off, e, h0, h1⟩ := h i x hx
  refine ⟨b, off, e, fun j u hu => ?_⟩
  match j with
  | 0 => simp [encF] at hu; subst hu; exact h0
  | 1 => simp [encF] at hu; subst hu; exact h1
  | j + 2 => simp [encF] at hu
theorem FieldsAt.of_row {w : World} {A : Option Addr} {l : List Fld} (h : RowOf encF 2 w A l) : FieldsAt w A l := by
  intro i x hx
  obtain ⟨b, off, e, hc⟩ := h i x hx
  exact ⟨b, off, e, hc 0 _ rfl, hc 1 _ rfl⟩
theorem fields_of_own {w : World} {base n : Nat} {v : Value} {l : List Fld} (h : w.ownsRow base 108 2 v n (flF l)) (hl : l.length = n) : ∃ A c, v = .slice A n c ∧ n ≤ c ∧ FieldsAt w A l := by
  obtain ⟨A, c, e, hc, hr⟩ := RowOf.of_own encF_len h hl
  exact ⟨A, c, e, hc, FieldsAt.of_row hr⟩

/-- The fields, the first one of that name with that value. -/
def setF : List Fld → ByteArray → ByteArray → List Fld
  | [], n, v => [⟨n, v⟩]
  | x :: l, n, v => if x.name.toList = n.toList then ⟨x.name, v⟩ :: l else x :: setF l n v
theorem setF_none : ∀ {l : List Fld} {n : ByteArray} (v : ByteArray), (∀ x ∈ l, ¬ x.name.toList = n.toList) → setF l n v = l ++ [⟨n, v⟩]
  | [], _, _, _ => rfl
  | x :: l, n, v, h => by rw [setF, if_neg (h x (by simp)), setF_none v fun y hy => h y (by simp [hy])]; rfl
theorem setF_some : ∀ {l : List Fld} {n : ByteArray} (v : ByteArray) {k : Nat} {x : Fld}, l[k]? = some x → x.name.toList = n.toList → (∀ j y, j < k → l[j]? = some y → ¬ y.name.toList = n.toList) → setF l n v = l.set k ⟨x.name, v⟩
  | [], _, _, k, x, h, _, _ => by simp at h
  | y :: l, n, v, 0, x, h, h1, _ => by simp at h; subst h; rw [setF, if_pos h1]; rfl
  | y :: l, n, v, k + 1, x, h, h1, h2 => by
    rw [setF, if_neg (h2 0 y (by omega) rfl), setF_some v (by simpa using h) h1 fun j z hj hz => h2 (j + 1) z (by omega) (by simpa using hz)]
    rfl
theorem flF_set : ∀ (l : List Fld) (k : Nat) (x : Fld) (v : ByteArray), l[k]? = some x → (flF l).set (k * 2 + 1) (.string v) = flF (l.set k ⟨x.name, v⟩)
  | [], k, x, v, h => by simp at h
  | y :: l, 0, x, v, h => by simp at h; subst h; simp [flF, encF]
  | y :: l, k + 1, x, v, h => by
    have := flF_set l k x v (by simpa using h)
    rw [show (k + 1) * 2 + 1 = k * 2 + 1 + 1 + 1 by omega]
    simp only [flF, List.flatMap_cons, encF, List.cons_append, List.nil_append, List.set_cons_succ] at this ⊢
    rw [this]

theorem Tryz.info108 : (Tryz.prog.info? 108).map (fun i => (i.zero, i.size, i.bytes)) = some (some (.agg #[.string ⟨#[]⟩, .string ⟨#[]⟩]), 2, 32) := by kernel_rfl

set_option maxRecDepth 100000 in
set_option maxHeartbeats 800000 in
theorem clone_any (A : Option Addr) (n c : Nat) (l : List Fld) (w : World) (hn : n ≤ 1000000) (hl : Hid (l.length = n)) (hA : Hid (FieldsAt w A l)) :
    Calls Tryz.prog 71 #[.slice A n c] w fun e w' => ∃ v, e = .returned v ∧ w'.ownsRow w.heap.size 108 2 v n (flF l) ∧ Below w.heap.size w w' := by
  obtain ⟨i0, hi, hz0, hz1, hz2⟩ := info_parts Tryz.info108
  have q22 : ∀ (w : World) (a : Option Addr) (n c n' c' : Nat), (binOp .eql 59 (.slice a n c) (.slice none n' c')).run Tryz.prog w = .ok (.bool a.isNone) w := fun w a n c n' c' => Lib.run_eql_slice_nil w _ _ a n c n' c' Tryz.underlying59
  rcases A with _ | ad
  · have h0 : n = 0 := by
      rcases Nat.eq_zero_or_pos n with h | h
      · exact h
      · obtain ⟨x, hx⟩ : ∃ x, l[0]? = some x := ⟨_, List.getElem?_eq_getElem (by have := hl.out; omega)⟩
        obtain ⟨b, off, e, _⟩ := hA.out 0 x hx
        cases e
    subst h0
    have hl0 : l = [] := List.eq_nil_of_length_eq_zero hl.out
    subst hl0
    go_enter Tryz.func71, Tryz.ntmps71
    go_wp2_with fail
    go_ret
    exact ⟨_, rfl, World.ownsRow_nil _ _ _ _, Below.refl _ _⟩
  · have hr := Lib.hid (hA.out.row.reads encF_len (by decide))
    have hn1 : Hid (0 + n ≤ maxLen) := by unfold Hid maxLen; omega
    have hn2 : Hid ((0 + n) * 32 ≤ 140737488355328) := by unfold Hid; omega
    have ho := flF_one l
    have ho' := Lib.hid ho
    clear ho
    rw [hl.out] at hr
    go_enter Tryz.func71, Tryz.ntmps71
    go_wp2_with (at_builtin; go_must (refine wpList_append_any _ rfl (.tmp 5) (.tmp 6) 59 rfl w.heap.size 108 i0 _ 2 32 Tryz.underlying59 hi hz0 hz1 hz2 rfl (by decide) (.slice (some ⟨w.heap.size, 0, none⟩) 0 0) 0 [] rfl (own_new w 108 2) w.heap.size _ n c (flF l) rfl (hr.out.alloc (Nat.le_refl _) _) ho'.out hn1.out hn2.out (by simp) ?_); intro v w1 how hgr hvb)
    go_ret
    refine ⟨_, rfl, by simpa using how, ?_⟩
    exact ((Below.refl _ w).alloc (Nat.le_refl _) _).grown hgr (by simp) (fun k hk => by simp [Value.ownBlock] at hk; omega)

end Go.Proofs.YtdjmckjbibfecaaGreatDoor
namespace Go.Proofs.YtdjmckjbibfecaaGreatDoor
open Go Go.RowKit Go.BigFrame Go.Maps

def FoundS (l : List Fld) (s : ByteArray) (i : Int) : Prop := (i = -1 ∧ ∀ x ∈ l, ¬ x.name.toList = s.toList) ∨ ∃ (k : Nat) (x : Fld), i = (k : Int) ∧ l[k]? = some x ∧ x.name.toList = s.toList ∧ ∀ j y, j < k → l[j]? = some y → ¬ y.name.toList = s.toList
set_option maxRecDepth 100000 in
set_option maxHeartbeats 800000 in
theorem indexS_any (A : Option Addr) (n c : Nat) (l : List Fld) (s : ByteArray) (g : Nat) (w : World) (hn : n ≤ maxLen) (hl : Hid (l.length = n)) (hA : Hid (FieldsAt w A l)) (hg : w.cell? ⟨g, 0, none⟩ = some (.string s)) :
    Calls Tryz.prog 153 #[.slice A n c, .func (Fn.func 154) #[] #[.pointer (some ⟨g, 0, none⟩)]] w fun e w' => ∃ i, e = .returned (.int .i64 i) ∧ FoundS l s i ∧ Below w.heap.size w w' := by
  unfold maxLen at hn
  have hgl : g < w.heap.size := World.block_lt_of_cell? w _ hg
  have hg' := Lib.hid hg
  clear hg
  go_enter Tryz.func153, Tryz.ntmps153
  go_wp2
  go_loopw [8] (fun i wr => ∃ k : Nat, k ≤ n ∧ i = .int .i64 k ∧ Hid (∀ j y, j < k → l[j]? = some y → ¬ y.name.toList = s.toList) ∧ Below w.heap.size w wr) (fun i _ => n - (intOf i).toNat)
  case atStart => exact ⟨0, Nat.zero_le _, rfl, fun j y hj => by omega, Below.refl _ _⟩
  case round =>
    obtain ⟨k, hk, rfl, hsame, hB⟩ := hrel
    by_cases hlt : k < n
    · obtain ⟨x, hx⟩ : ∃ x, l[k]? = some x := ⟨_, List.getElem?_eq_getElem (by have := hl.out; omega)⟩
      have hx' := Lib.hid hx
      clear hx
      obtain ⟨b, off, rfl, h0, h1⟩ := (hA.out.below hB) k x hx'.out
      obtain ⟨nm, vl⟩ := x
      simp only at h0 h1
      have hgr : wr.cell? ⟨g, 0, none⟩ = some (.string s) := by rw [hB.cell hgl]; exact hg'.out
      have hgr' := Lib.hid hgr
      clear hgr
      go_wp2_with fail
      refine (place1_any nm vl g s wr hgr'.out).mono ?_
      rintro e w1 ⟨rfl, hb1⟩
      have hB1 : Below w.heap.size w w1 := hB.trans (hb1.mono hB.size)
      by_cases heq : nm.toList = s.toList
      · rw [decide_eq_true heq]
        have heq' := Lib.hid heq
        clear heq
        go_wp2_with fail
        go_ret
        exact ⟨_, rfl, .inr ⟨k, ⟨nm, vl⟩, rfl, hx'.out, heq'.out, hsame.out⟩, hB1⟩
      · rw [decide_eq_false heq]
        have heq' := Lib.hid heq
        clear heq
        go_wp2_with fail
        go_roundw
        case rel => exact ⟨k + 1, by omega, by go_num, Lib.hid (fun j y hj hy => by
          rcases Nat.lt_or_ge j k with h | h
          · exact hsame.out j y h hy
          · obtain rfl : j = k := by omega
            rw [hx'.out] at hy
            obtain rfl := Option.some.inj hy
            exact heq'.out), hB1⟩
        case measure => simp [intOf]; omega
    · go_wp2_with fail
      go_ret
      exact ⟨_, rfl, .inl ⟨rfl, fun x hx => by
        obtain ⟨j, hj⟩ := List.getElem?_of_mem hx
        exact hsame.out j x (by have := (List.getElem?_eq_some_iff.1 hj).1; have := hl.out; omega) hj⟩, hB⟩

set_option maxRecDepth 100000 in
set_option maxHeartbeats 800000 in
theorem placeS_any (A : Option Addr) (n c : Nat) (l : List Fld) (s : ByteArray) (w : World) (hn : n ≤ maxLen) (hl : Hid (l.length = n)) (hA : Hid (FieldsAt w A l)) :
    Calls Tryz.prog 97 #[.slice A n c, .string s] w fun e w' => ∃ i, e = .returned (.int .i64 i) ∧ FoundS l s i ∧ Below w.heap.size w w' := by
  go_enter Tryz.func97, Tryz.ntmps97
  have hb0 : Below w.heap.size w (w.alloc (.cells #[.string s] 9)) := (Below.refl _ w).alloc (Nat.le_refl _) _
  have hc0 : (w.alloc (.cells #[.string s] 9)).cell? ⟨w.heap.size, 0, none⟩ = some (.string s) := by rw [(Blk.new w 9 _).cell]; rfl
  go_wp2_with fail
  refine (indexS_any A n c l s w.heap.size _ hn hl (hA.out.below hb0) hc0).mono ?_
  rintro e w1 ⟨i, rfl, hF, hb1⟩
  have hF' := Lib.hid hF
  clear hF
  go_wp2_with fail
  go_ret
  exact ⟨i, rfl, hF'.out, hb0.trans (hb1.mono (by simp))⟩

set_option maxRecDepth 100000 in
set_option maxHeartbeats 800000 in
theorem set_any (A : Option Addr) (n c : Nat) (l : List Fld) (nm vl : ByteArray) (w : World) (hn : n ≤ 1000000) (hl : Hid (l.length = n)) (hA : Hid (FieldsAt w A l)) :
    Calls Tryz.prog 73 #[.slice A n c, .string nm, .string vl] w fun e w' => ∃ v, e = .returned v ∧ w'.ownsRow w.heap.size 108 2 v (setF l nm vl).length (flF (setF l nm vl)) ∧ Below w.heap.size w w' := by
  obtain ⟨i0, hi, hz0, hz1, hz2⟩ := info_parts Tryz.info108
  have hn1 : Hid (n ≤ maxLen) := by unfold Hid maxLen; omega
  have hn2 : Hid (n + 1 ≤ maxLen) := by unfold Hid maxLen; omega
  have hn3 : Hid ((n + 1) * 32 ≤ 140737488355328) := by unfold Hid; omega
  go_enter Tryz.func73, Tryz.ntmps73
  go_wp2_with fail
  refine (clone_any A n c l w hn hl hA).mono ?_
  rintro e w1 ⟨v, rfl, hown, hb1⟩
  have hown' := Lib.hid hown
  clear hown
  obtain ⟨A1, c1, rfl, hc1, hF1⟩ := fields_of_own hown'.out hl.out
  have hF1' := Lib.hid hF1
  clear hF1
  go_wp2_with fail
  refine (placeS_any A1 n c1 l nm w1 hn1.out hl hF1').mono ?_
  rintro e w2 ⟨i, rfl, hF, hb2⟩
  have hown2 := Lib.hid (own_below hown'.out hb2)
  have hB2 := Lib.hid (hb1.trans (hb2.mono hb1.size))
  clear hb1 hb2
  rcases hF with ⟨rfl, h⟩ | ⟨k, x, rfl, hx, hq, hno⟩
  · have h' := Lib.hid h
    clear h
    go_wp2_with (at_builtin; go_must (refine wpList_app3 w.heap.size rfl (.tmp 22) (.tmp 26) 59 rfl 108 i0 _ 2 32 Tryz.underlying59 hi hz0 hz1 hz2 rfl (by decide) _ n (flF l) rfl w2.heap.size 1 #[.string nm, .string vl] rfl (hown2.out.alloc _) (Blk.new w2 108 _) rfl (flF_one [⟨nm, vl⟩]) hn2.out hn3.out (Nat.le_trans hB2.out.size (by simp)) ?_); intro v5 w5 ho5 hb5 hg5)
    go_ret
    refine ⟨_, rfl, ?_, (hB2.out.alloc hB2.out.size _).trans hb5⟩
    rw [setF_none vl h'.out, flF_append, List.length_append, hl.out]
    exact ho5
  · have hk : k < n := by have := (List.getElem?_eq_some_iff.1 hx).1; have := hl.out; omega
    have e := setF_some vl hx hq hno
    have e' := Lib.hid e
    have hx' := Lib.hid hx
    clear e hx hq hno
    obtain ⟨g, cap, hv, hg0, hg1⟩ := hown2.out.form (by omega)
    simp only [Value.slice.injEq, true_and] at hv
    obtain ⟨rfl, rfl⟩ := hv
    have hst := hown2.out.stored (k * 2 + 1) (.string vl)
    rw [flF_set l k x vl hx'.out, ← e'.out] at hst
    have hst' := Lib.hid hst
    have hfr : w2.frozen? ⟨g, k * 2 + 1, none⟩ = false := hown2.out.frozenAt _
    have hce : w2.cell? ⟨g, k * 2 + 1, none⟩ = some (.string x.value) := by rw [hown2.out.cellAt (k * 2 + 1) (by omega)]; exact (fm_get encF_len l k 1 (by decide)).trans (by rw [hx'.out]; rfl)
    clear hst
    have hlen : Hid ((setF l nm vl).length = n) := by unfold Hid; rw [e'.out, List.length_set]; exact hl.out
    go_wp2_with fail
    go_ret
    exact ⟨_, rfl, by rw [hlen.out]; exact hst'.out.1, hB2.out.setCell hg0 _⟩
end Go.Proofs.YtdjmckjbibfecaaGreatDoor

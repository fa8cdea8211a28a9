/- A paper more, that is not asked for and that no rule likes: the plain law, the walk of likes, the walk of the law ExamineMore. -/
import Derived.Test.YtpnkpnocipkedaaDoorEr
namespace Go.Proofs.YtpnkpnocipkedaaDoor
open Go Go.RowKit Go.BigFrame Go.Maps

mutual
/-- Does a rule ask for papers of a kind? -/
def likesT (k0 : Int) : Tree → Bool
  | .mk k p _ _ _ _ _ L => (decide (k = 7) && decide (p = k0)) || likesL k0 L
def likesL (k0 : Int) : List Tree → Bool
  | [] => false
  | t :: L => likesT k0 t || likesL k0 L
end
theorem fieldD_app {x : Pap} {k : Int} {s : ByteArray} (h : ¬ x.kind = k) : ∀ docs : List Pap, fieldD (docs ++ [x]) k s = fieldD docs k s
  | [] => by show fieldD [x] k s = _; simp [fieldD, h]
  | d :: l => by show fieldD (d :: (l ++ [x])) k s = _; rw [fieldD, fieldD, fieldD_app h l]
theorem atom_more {docs : List Pap} {x : Pap} {k p : Int} {t : ByteArray} {n : Int} {v : ByteArray} (h : (decide (k = 7) && decide (p = x.kind)) = false) : atomT (docs ++ [x]) k p t n v = atomT docs k p t n v := by
  unfold atomT
  by_cases h7 : k = 7
  · have hp : ¬ x.kind = p := fun e => by simp [h7, e] at h
    rw [fieldD_app hp]
  · simp only [if_neg h7]
mutual
theorem holds_more (docs : List Pap) (x d : Pap) : ∀ t : Tree, likesT x.kind t = false → holdsT (docs ++ [x]) d t = holdsT docs d t
  | .mk k p f tx n A c L, h => by
    rw [likesT, Bool.or_eq_false_iff] at h
    rw [holdsT, holdsT, great_more docs x d L h.2, least_more docs x d L h.2]
    simp only [atom_more h.1]
theorem great_more (docs : List Pap) (x d : Pap) : ∀ L : List Tree, likesL x.kind L = false → ∀ s, greatT (docs ++ [x]) d L s = greatT docs d L s
  | [], _, s => by rw [greatT, greatT]
  | t :: L, h, s => by
    rw [likesL, Bool.or_eq_false_iff] at h
    rw [greatT, greatT, holds_more docs x d t h.1, great_more docs x d L h.2]
theorem least_more (docs : List Pap) (x d : Pap) : ∀ L : List Tree, likesL x.kind L = false → ∀ s, leastT (docs ++ [x]) d L s = leastT docs d L s
  | [], _, s => by rw [leastT, leastT]
  | t :: L, h, s => by
    rw [likesL, Bool.or_eq_false_iff] at h
    rw [leastT, leastT, holds_more docs x d t h.1, least_more docs x d L h.2]
end
mutual
theorem parts_likes (k0 : Int) : ∀ t : Tree, likesT k0 t = false → ∀ u ∈ partsT t, likesT k0 u = false
  | .mk k p f tx n A c L, h, u, hu => by
    rw [partsT] at hu
    split at hu
    · rw [likesT, Bool.or_eq_false_iff] at h
      exact partsL_likes k0 L h.2 u hu
    · obtain rfl := List.mem_singleton.1 hu
      exact h
theorem partsL_likes (k0 : Int) : ∀ L : List Tree, likesL k0 L = false → ∀ u ∈ partsL L, likesT k0 u = false
  | [], _, u, hu => by rw [partsL] at hu; simp at hu
  | t :: L, h, u, hu => by
    rw [likesL, Bool.or_eq_false_iff] at h
    rw [partsL, List.mem_append] at hu
    rcases hu with hu | hu
    · exact parts_likes k0 t h.1 u hu
    · exact partsL_likes k0 L h.2 u hu
end
theorem flatMap_same {α β : Type} {f g : α → List β} : ∀ {l : List α}, (∀ x ∈ l, f x = g x) → l.flatMap f = l.flatMap g
  | [], _ => rfl
  | x :: l, h => by rw [List.flatMap_cons, List.flatMap_cons, h x (by simp), flatMap_same fun y hy => h y (by simp [hy])]
theorem ruled_more {needs : List Nd} {docs : List Pap} {x d : Pap} {a : Int} (hl : ∀ n ∈ needs, likesT x.kind n.rule = false) : ruledF needs (docs ++ [x]) a d = ruledF needs docs a d := by
  unfold ruledF
  refine flatMap_same fun n hn => ?_
  unfold needR
  split
  · refine flatMap_same fun t ht => ?_
    have := holds_more docs x d t (parts_likes _ _ (hl n hn) t ht)
    unfold ruleF
    rw [this]
  · rfl
theorem askedB_no {needs : List Nd} {k : Int} (h : askedB needs k = false) {n : Nd} (hn : n ∈ needs) : ¬ n.kind = k := by
  intro e
  unfold askedB at h
  rw [List.any_eq_false] at h
  exact h n hn (by simp [e])
theorem told_more {c : Crd} {needs : List Nd} {docs : List Pap} {x : Pap} {day : Int} (ha : askedB needs x.kind = false) (hl : ∀ n ∈ needs, likesT x.kind n.rule = false) : toldE c needs (docs ++ [x]) day = toldE c needs docs day := by
  unfold toldE
  refine congrArg _ ?_
  have h1 : needs.flatMap (lackF (docs ++ [x])) = needs.flatMap (lackF docs) := flatMap_same fun n hn => by
    unfold lackF countK
    rw [List.countP_append]
    simp [show ¬ x.kind = n.kind from fun e => askedB_no ha hn e.symm]
  rw [h1]
  refine congrArg _ ?_
  rw [List.length_append, List.length_singleton, List.range_succ, List.flatMap_append]
  have h2 : [docs.length].flatMap (docAt c needs (docs ++ [x]) day) = [] := by
    rw [List.flatMap_cons, List.flatMap_nil, List.append_nil]
    unfold docAt
    rw [List.getElem?_append_right (by omega)]
    simp [docF, ha]
  rw [h2, List.append_nil]
  refine flatMap_same fun a h => ?_
  have hlt : a < docs.length := List.mem_range.1 h
  unfold docAt
  rw [List.getElem?_append_left hlt]
  cases docs[a]? with
  | none => rfl
  | some d =>
    simp only
    unfold docF paperF
    rw [ruled_more hl, List.take_append_of_le_length (by omega)]
/-- A paper more that is not asked for changes nothing. -/
theorem exam_more {c : Crd} {needs : List Nd} {docs : List Pap} {x : Pap} {day : Int} (ha : askedB needs x.kind = false) (hl : ∀ n ∈ needs, likesT x.kind n.rule = false) : examF c needs (docs ++ [x]) day = examF c needs docs day := by
  unfold examF; rw [told_more ha hl]

theorem sameB_refl : ∀ l : List Flt, sameB l l = true
  | [] => rfl
  | x :: l => by rw [sameB, eqF_iff.2 rfl, sameB_refl l]; rfl
theorem Tryd.info48 : (Tryd.prog.info? 48).map (fun i => (i.zero, i.size, i.bytes)) = some (some (.agg #[.int .i64 0, .string ⟨#[]⟩, .string ⟨#[]⟩, .slice none 0 0]), 4, 64) := by kernel_rfl
/-- A paper's cells. -/
def Pap.cells (x : Pap) : List Value := [.int .i64 x.kind, .string x.number, .string x.issuer, .slice x.fA x.fields.length x.fc]
def dcells (l : List Pap) : List Value := l.flatMap Pap.cells
theorem dcells_len (l : List Pap) : (dcells l).length = l.length * 4 := by
  induction l with
  | nil => rfl
  | cons x l ih => show (x.cells ++ dcells l).length = _; rw [List.length_append, ih, List.length_cons]; simp [Pap.cells]; omega
theorem dcells_app (l m : List Pap) : dcells (l ++ m) = dcells l ++ dcells m := by simp [dcells]
theorem dcells_get : ∀ (l : List Pap) (k : Nat) (x : Pap), l[k]? = some x → ∀ i, i < 4 → (dcells l)[k * 4 + i]? = x.cells[i]?
  | [], k, x, h, i, hi => by simp at h
  | y :: l, 0, x, h, i, hi => by
    simp at h; subst h
    show (y.cells ++ dcells l)[0 * 4 + i]? = _
    rw [Nat.zero_mul, Nat.zero_add, List.getElem?_append_left (by simp [Pap.cells]; exact hi)]
  | y :: l, k + 1, x, h, i, hi => by
    have ih := dcells_get l k x (by simpa using h) i hi
    show (y.cells ++ dcells l)[(k + 1) * 4 + i]? = _
    rw [List.getElem?_append_right (by simp [Pap.cells]; omega), show (k + 1) * 4 + i - y.cells.length = k * 4 + i by simp [Pap.cells]; omega]
    exact ih
theorem dcells_one (l : List Pap) : ∀ u ∈ dcells l, u.oneCell' = true := by
  intro u hu
  obtain ⟨x, _, hx⟩ := List.mem_flatMap.1 hu
  simp [Pap.cells] at hx
  rcases hx with rfl | rfl | rfl | rfl <;> rfl
theorem docs_cell {w : World} {A : Option Addr} {l : List Pap} (h : DocsAt w A l) {k : Nat} {x : Pap} (hk : l[k]? = some x) : ∃ b off, A = some ⟨b, off, none⟩ ∧ ∀ i u, x.cells[i]? = some u → w.cell? ⟨b, off + k * 4 + i, none⟩ = some u := by
  obtain ⟨b, off, e, h0, h1, h2, h3, _⟩ := h k x hk
  refine ⟨b, off, e, fun i u hu => ?_⟩
  match i, hu with
  | 0, hu => simp [Pap.cells] at hu; subst hu; exact h0
  | 1, hu => simp [Pap.cells] at hu; subst hu; exact h1
  | 2, hu => simp [Pap.cells] at hu; subst hu; exact h2
  | 3, hu => simp [Pap.cells] at hu; subst hu; exact h3
  | j + 4, hu => simp [Pap.cells] at hu
theorem docs_reads {w : World} {A : Option Addr} {l : List Pap} (h : DocsAt w A l) : Reads w w.heap.size 4 A l.length (dcells l) := by
  refine ⟨dcells_len l, fun hn => ?_⟩
  obtain ⟨b, off, rfl, h0⟩ := docs_cell h (List.getElem?_eq_getElem hn)
  refine ⟨_, rfl, World.block_lt_of_cell? w _ (h0 0 (.int .i64 l[0].kind) rfl), fun j u hu => ?_⟩
  have hj : j < l.length * 4 := by have := (List.getElem?_eq_some_iff.1 hu).1; rw [dcells_len] at this; exact this
  have hk : j / 4 < l.length := by omega
  obtain ⟨b', off', e, hc⟩ := docs_cell h (List.getElem?_eq_getElem hk)
  simp only [Option.some.injEq, Addr.mk.injEq, and_true] at e
  obtain ⟨rfl, rfl⟩ := e
  have hg := dcells_get l (j / 4) l[j / 4] (List.getElem?_eq_getElem hk) (j % 4) (by omega)
  rw [show j / 4 * 4 + j % 4 = j by omega, hu] at hg
  have := hc (j % 4) u hg.symm
  have hadd : Addr.add ⟨b, off, none⟩ j = ⟨b, off + j, none⟩ := by unfold Addr.add; split <;> simp_all
  rw [hadd, show off + j = off + j / 4 * 4 + j % 4 by omega]
  exact this
/-- What a paper asks of memory. -/
def PapAt (w : World) (x : Pap) : Prop := FieldsAt w x.fA x.fields ∧ x.fields.length ≤ maxLen ∧ (-9223372036854775808 ≤ x.kind ∧ x.kind ≤ 9223372036854775807)
theorem PapAt.below {w w' : World} {x : Pap} (h : PapAt w x) (hb : Below w.heap.size w w') : PapAt w' x := ⟨h.1.below hb, h.2⟩
theorem own_docs {w : World} {base m : Nat} {v : Value} {l : List Pap} (h : w.ownsRow base 48 4 v m (dcells l)) (hl : l.length = m) (hn : ∀ x ∈ l, PapAt w x) : ∃ A' c', v = .slice A' m c' ∧ DocsAt w A' l := by
  rcases h.2 with ⟨rfl, rfl⟩ | ⟨g, cap, cur, rfl, _⟩
  · have : l = [] := List.eq_nil_of_length_eq_zero hl
    subst this
    exact ⟨_, _, rfl, by intro k x hk; simp at hk⟩
  · refine ⟨_, _, rfl, fun k x hk => ?_⟩
    have hx := hn x (List.mem_of_getElem? hk)
    have hc : ∀ i, i < 4 → ∀ u, x.cells[i]? = some u → w.cell? ⟨g, 0 + k * 4 + i, none⟩ = some u := fun i hi u hu => by
      have := h.cells (g := g) rfl (k * 4 + i) u (by rw [dcells_get l k x hk i hi]; exact hu)
      rwa [show Addr.add ⟨g, 0, none⟩ (k * 4 + i) = ⟨g, 0 + k * 4 + i, none⟩ by unfold Addr.add; split <;> simp_all] at this
    exact ⟨g, 0, rfl, hc 0 (by omega) _ rfl, hc 1 (by omega) _ rfl, hc 2 (by omega) _ rfl, hc 3 (by omega) _ rfl, hx⟩

/-- What likes hands back. -/
def LikesC (t : Tree) : Prop := ∀ (k0 : Int) (w : World), Hid (TreeAt w t) → Calls Tryd.prog 23 #[.agg t.cells, .int .i64 k0] w fun e w' => e = .returned (.bool (likesT k0 t)) ∧ Below w.heap.size w w'
theorem likes_step {k0 : Int} {L : List Tree} {q : Nat} {t : Tree} (ht : L[q]? = some t) : likesL k0 (L.drop q) = (likesT k0 t || likesL k0 (L.drop (q + 1))) := by
  obtain ⟨hq, he⟩ := List.getElem?_eq_some_iff.1 ht
  rw [List.drop_eq_getElem_cons hq, he, likesL]
set_option maxRecDepth 100000 in
set_option maxHeartbeats 3200000 in
theorem likes_walk (t : Tree) (ih : Hid (∀ u ∈ t.sub, LikesC u)) : LikesC t := by
  intro k0 w hT
  obtain ⟨k, p, f, x, n, A', c', L⟩ := t
  simp only [Tree.sub] at ih
  simp only [Tree.cells]
  obtain ⟨m, hm⟩ : ∃ m, Hid (L.length = m) := ⟨_, rfl⟩
  rw [hm.out]
  have hrows := Lib.hid (rows_sub hT.out).1
  have hml : m ≤ 9223372036854775807 := by have := (rows_sub hT.out).2; rw [hm.out] at this; unfold maxLen at this; exact this
  have hb0 := Lib.hid ((Below.refl _ w).alloc (Nat.le_refl _) (.cells #[.int .i64 k, .int .i64 p, .string f, .string x, .int .i64 n, .slice A' m c'] 24))
  have hblk := Lib.hid (Blk.new w 24 #[.int .i64 k, .int .i64 p, .string f, .string x, .int .i64 n, .slice A' m c'])
  have hz : Hid (likesT k0 (.mk k p f x n A' c' L) = ((decide (k = 7) && decide (p = k0)) || likesL k0 L)) := by unfold Hid; rw [likesT]
  obtain ⟨lb, hlb⟩ : ∃ lb, Hid (likesT k0 (.mk k p f x n A' c' L) = lb) := ⟨_, rfl⟩
  rw [hlb.out]
  rw [hlb.out] at hz
  by_cases hk : k = 7 ∧ p = k0
  · obtain ⟨rfl, rfl⟩ := hk
    have hr : Hid (lb = true) := by unfold Hid; rw [hz.out]; simp
    go_enter Tryd.func23, Tryd.ntmps23
    go_wp2_with fail
    go_ret
    exact ⟨by rw [hr.out]; rfl, hb0.out⟩
  · have hq : Hid (lb = likesL k0 L) := by
      unfold Hid; rw [hz.out]
      by_cases h7 : k = 7
      · have : ¬ p = k0 := fun e => hk ⟨h7, e⟩
        simp [this]
      · simp [h7]
    have hkk : (k == 7) = false ∨ ((k == 7) = true ∧ (p == k0) = false) := by
      by_cases h7 : k = 7
      · exact .inr ⟨by simp [h7], by simp; exact fun e => hk ⟨h7, e⟩⟩
      · exact .inl (by simp [h7])
    clear hz hk
    go_enter Tryd.func23, Tryd.ntmps23
    rcases hkk with hkk | ⟨hkk, hkp⟩
    all_goals
      go_wp2_with fail
      go_loopw [5] (fun j wr => ∃ q : Nat, q ≤ m ∧ j = .int .i64 q ∧ Hid (lb = likesL k0 (L.drop q)) ∧ Hid (Below w.heap.size w wr) ∧ Hid (Blk wr w.heap.size 24 #[.int .i64 k, .int .i64 p, .string f, .string x, .int .i64 n, .slice A' m c'])) (fun j _ => m - (intOf j).toNat)
      case atStart => exact ⟨0, Nat.zero_le _, rfl, hq, hb0, hblk⟩
      case round =>
        obtain ⟨q, hq1, rfl, hs, hB, hbk⟩ := hrel
        have e5 := hbk.out.cell 5
        simp only [List.getElem?_toArray, List.getElem?_cons_zero, List.getElem?_cons_succ] at e5
        by_cases hlt : q < m
        · obtain ⟨t, ht⟩ : ∃ x, L[q]? = some x := ⟨_, List.getElem?_eq_getElem (by have := hm.out; omega)⟩
          have hmem := Lib.hid (List.mem_of_getElem? ht)
          have hst : Hid (lb = (likesT k0 t || likesL k0 (L.drop (q + 1)))) := by unfold Hid; rw [hs.out, likes_step ht]
          obtain ⟨hc, hT1⟩ := (hrows.out.below hB.out).get q t ht
          have hcl := Lib.hid (ih.out _ hmem.out k0 wr hT1)
          clear ht hT1
          obtain ⟨tb, htb⟩ : ∃ b, Hid (likesT k0 t = b) := ⟨_, rfl⟩
          rw [htb.out] at hcl hst
          obtain ⟨tk, tp, tf, tx, tn, tA, tc, tL⟩ := t
          obtain ⟨b, off, rfl, h0, h1, h2, h3, h4, h5⟩ := hc
          rw [Nat.zero_add] at h0 h1 h2 h3 h4 h5
          go_wp2_with fail
          refine hcl.out.mono ?_
          rintro e w1 ⟨rfl, hb2⟩
          have hB1 : Hid (Below w.heap.size w w1) := hB.out.trans (hb2.mono hB.out.size)
          have hbk1 := Lib.hid (hbk.out.below hb2 hbk.out.lt)
          clear hb2 e5 h0 h1 h2 h3 h4 h5
          cases tb with
          | true =>
            have hr : Hid (lb = true) := by unfold Hid; rw [hst.out]; rfl
            go_wp2_with fail
            go_ret
            exact ⟨by rw [hr.out]; rfl, hB1.out⟩
          | false =>
            have hr : Hid (lb = likesL k0 (L.drop (q + 1))) := by unfold Hid; rw [hst.out]; rfl
            go_wp2_with fail
            go_roundw
            case rel => exact ⟨q + 1, by omega, by go_num, hr, hB1, hbk1⟩
            case measure => simp [intOf]; omega
        · have hr : Hid (lb = false) := by unfold Hid; rw [hs.out, List.drop_eq_nil_of_le (by have := hm.out; omega), likesL]
          go_wp2_with fail
          go_ret
          exact ⟨by rw [hr.out]; rfl, hB.out⟩
theorem likes_any : ∀ t : Tree, LikesC t := Tree.every fun t ih => likes_walk t ih


section
variable {P : Program} {ops : Array Oper} {Q : Exit → Act → World → Prop} {S : World → Prop} {o : Oper} {a : Act} {w : World}
theorem yields_blkg {g : Nat} {C : Array Value} {ty : TypeId} {x : Operand} {d : TypeDesc} (hw : Region.wanted o (yielded ops a.tmps) = true) (ho : o.op = .load ty x) (hx : a.eval x = .pointer (some ⟨g, 0, none⟩)) (hu : P.underlying ty = some d) (hd : d.isRow = true) (hi : (P.info? ty).map (·.size) = some C.size)
    (hS : ∀ w, S w → Blk w g ty C) : YieldsIf P ops S o (.agg C) a := by
  have h := yieldsIf_load_mid (P := P) (ops := ops) (S := S) (op := o) (a := a) hw ty x ho g 0 hx C.toList d (fun w hw j v hv => by
    rw [Nat.zero_add, (hS w hw).cell]; simpa using hv) hu hd (by simpa using hi)
  simpa using h
theorem yields_ifv {v : Value} (hw : Region.wanted o (yielded ops a.tmps) = true) (h : ∀ w, S w → (execOp a.eval o).run P w = .ok (.value v) w) : YieldsIf P ops S o v a := .inl ⟨hw, h⟩
theorem held_call_if {i : Nat} {K : Act → World → Prop} {f : FuncId} {args : Array Value} (hi : ops[i]? = some o) (hw : Region.wanted o (yielded ops a.tmps) = true) (hop : (execOp a.eval o).run P w = .ok (.enter f args) w)
    (hc : Calls P f args w fun e w' => ∃ v, e = .returned v ∧ K (a.put o.dst v) w') : wpOp P ops Q i K a w := by
  unfold wpOp
  simp only [hi]
  rw [if_pos hw]
  unfold Oper.wp
  rw [hop, Oper.upon_enter]
  exact .inl (hc.mono (fun e w' ⟨v, he, h⟩ => by subst he; exact h))
end
def likesN (needs : List Nd) (k : Int) : Bool := needs.any fun n => likesT k n.rule
theorem likesN_no {needs : List Nd} {k : Int} (h : likesN needs k = false) {n : Nd} (hn : n ∈ needs) : likesT k n.rule = false := by
  unfold likesN at h
  rw [List.any_eq_false] at h
  have := h n hn
  simpa using this
theorem likesN_step {needs : List Nd} {k : Int} {q : Nat} {x : Nd} (hx : needs[q]? = some x) : likesN (needs.drop q) k = (likesT k x.rule || likesN (needs.drop (q + 1)) k) := by
  obtain ⟨hq, he⟩ := List.getElem?_eq_some_iff.1 hx
  unfold likesN
  rw [List.drop_eq_getElem_cons hq, he, List.any_cons]
theorem few_less {needs : List Nd} {docs : List Pap} {x : Pap} (h : fewB needs (docs ++ [x]) = true) : FewParts needs ∧ docs.length ≤ 11 ∧ SmallD docs ∧ SmallD (docs ++ [x]) := by
  obtain ⟨_, h1, h2, _⟩ := few_docs h
  rw [List.length_append, List.length_singleton] at h1
  exact ⟨few_parts h, by omega, fun d hd => h2 d (by simp [hd]), h2⟩

set_option maxRecDepth 100000 in
set_option maxHeartbeats 12800000 in
theorem more_law (w : World) (c : Crd) (hO : Hid c.okC) (nA : Option Addr) (nl nc : Nat) (needs : List Nd) (hnl : Hid (needs.length = nl)) (hml : nl ≤ maxLen) (hN : Hid (NdsAt w nA needs)) (A : Option Addr) (nn cc : Nat) (docs : List Pap) (hnn : Hid (docs.length = nn)) (hre : Hid (nn * 64 ≤ 140737488351232)) (hD : Hid (DocsAt w A docs)) (hLD : Hid (LongD docs))
    (dk : Int) (dn di : ByteArray) (dA : Option Addr) (dc : Nat) (df : List Fld) (hP : Hid (PapAt w ⟨dk, dn, di, dA, dc, df⟩)) (hLP : Hid (LongD [(⟨dk, dn, di, dA, dc, df⟩ : Pap)])) (day : Int) (hday : Hid (-9223372036854775808 ≤ day ∧ day ≤ 9223372036854775807)) (he : Hid (Env w)) :
    Calls Tryd.prog 6 #[.agg (c.cells (.slice nA nl nc)), .slice A nn cc, .agg #[.int .i64 dk, .string dn, .string di, .slice dA df.length dc], .int .i64 day] w fun e w' => e = .returned (.bool true) ∧ Below w.heap.size w w' := by
  obtain ⟨i0, hi, hz0, hz1, hz2⟩ := info_parts Tryd.info48
  have hml' := Lib.hid hml
  clear hml
  obtain ⟨docs', hds⟩ : ∃ l, Hid (docs ++ [(⟨dk, dn, di, dA, dc, df⟩ : Pap)] = l) := ⟨_, Lib.hid rfl⟩
  have hlen' : Hid (docs'.length = nn + 1) := by unfold Hid; rw [← hds.out, List.length_append, hnn.out]; rfl
  have hLD' : Hid (LongD docs') := by
    unfold Hid; rw [← hds.out]
    intro d hd
    rcases List.mem_append.1 hd with h | h
    · exact hLD.out d h
    · exact hLP.out d h
  have hfl : Hid (fewB needs docs' = true → FewParts needs ∧ nn ≤ 11 ∧ SmallD docs ∧ SmallD docs') := by
    intro h
    rw [← hds.out] at h ⊢
    obtain ⟨h1, h2, h3⟩ := few_less h
    exact ⟨h1, by rw [← hnn.out]; exact h2, h3⟩
  have hmo : Hid (askedB needs dk = false → likesN needs dk = false → examF c needs docs' day = examF c needs docs day) := by
    intro h1 h2
    rw [← hds.out]
    exact exam_more (x := (⟨dk, dn, di, dA, dc, df⟩ : Pap)) h1 (fun n hn => likesN_no h2 hn)
  have hex0 := Lib.hid (fun W => examine_any c hO nA nl nc needs hnl A nn cc docs day hday W)
  have hex1 := Lib.hid (fun A' c' W => examine_any c hO nA nl nc needs hnl A' (nn + 1) c' docs' day hday W)
  obtain ⟨dl, hdl⟩ : ∃ m, Hid (df.length = m) := ⟨_, rfl⟩
  rw [hdl.out]
  have hCz : Hid ((c.cells (.slice nA nl nc)).size = 18) := rfl
  have hC17 : Hid ((c.cells (.slice nA nl nc))[17]? = some (.slice nA nl nc)) := rfl
  obtain ⟨C, hC⟩ : ∃ C, Hid (c.cells (.slice nA nl nc) = C) := ⟨_, rfl⟩
  rw [hC.out] at hex0 hex1 hCz hC17 ⊢
  have hsz : Hid ((Tryd.prog.info? 32).map (·.size) = some C.size) := by unfold Hid; rw [hCz.out]; kernel_rfl
  have hn1 := Lib.hid (dcells_one docs)
  have hm1 : Hid (0 + nn ≤ maxLen) := by have := hre.out; unfold Hid maxLen; omega
  have hm2 : Hid (nn + 1 ≤ maxLen) := by have := hre.out; unfold Hid maxLen; omega
  have hm3 : Hid ((0 + nn) * 64 ≤ 140737488355328) := by have := hre.out; unfold Hid; omega
  have hm4 : Hid ((nn + 1) * 64 ≤ 140737488355328) := by have := hre.out; unfold Hid; omega
  have hoN : Hid (∀ u ∈ (#[.int .i64 dk, .string dn, .string di, .slice dA dl dc] : Array Value).toList, u.oneCell' = true) := by
    intro u hu
    simp at hu
    rcases hu with rfl | rfl | rfl | rfl <;> rfl
  have hb0 := Lib.hid (((Below.refl _ w).alloc (Nat.le_refl _) (.cells C 32)).alloc (by simp) (.cells #[.int .i64 dk, .string dn, .string di, .slice dA dl dc] 48))
  have hbk0 := Lib.hid ((Blk.new w 32 C).alloc (.cells #[.int .i64 dk, .string dn, .string di, .slice dA dl dc] 48))
  have hbd0 := Lib.hid (blk_second w (.cells C 32) 48 #[.int .i64 dk, .string dn, .string di, .slice dA dl dc])
  go_enter Tryd.func6, Tryd.ntmps6
  go_wp2_with fail
  refine (awake_any _ (he.out.below hb0.out)).mono ?_
  rintro e w1 ⟨rfl, hb1⟩
  have hB1 : Hid (Below w.heap.size w w1) := hb0.out.trans (hb1.mono (by simp; omega))
  have hbk1 := Lib.hid (hbk0.out.below hb1 hbk0.out.lt)
  have hbd1 := Lib.hid (hbd0.out.below hb1 hbd0.out.lt)
  clear hb1 hbk0 hbd0
  go_upto_region 3 with fail
  go_simp
  go_cut [26] (fun v wx => v = .bool (if fewB needs docs' = true then askedB needs dk else true) ∧ Hid (Below w.heap.size w wx) ∧ Hid (Blk wx w.heap.size 32 C) ∧ Hid (Blk wx (w.heap.size + 1) 48 #[.int .i64 dk, .string dn, .string di, .slice dA dl dc]))
  case first =>
    have hVk := Lib.hid hbk1.out.drew
    have hVd := Lib.hid hbd1.out.drew
    have hVw := Lib.hid hB1.out.drew
    refine wp_region_held (S := (fun w' => Blk w' w.heap.size 32 C ∧ Blk w' (w.heap.size + 1) 48 #[.int .i64 dk, .string dn, .string di, .slice dA dl dc])) (by kernel_rfl) ?_
    have hSV : Blk w1.drew w.heap.size 32 C ∧ Blk w1.drew (w.heap.size + 1) 48 #[.int .i64 dk, .string dn, .string di, .slice dA dl dc] := ⟨hVk.out, hVd.out⟩
    refine wpAnyH_take (i := 0) rfl (by kernel_rfl) (by kernel_rfl) (by kernel_rfl) (fun _ _ _ h => h) (yields_blk rfl rfl rfl Tryd.underlying32 rfl hsz.out (fun _ h => h.1)) hSV ?_
    go_simp
    refine wpAnyH_take (i := 2) rfl (by kernel_rfl) (by kernel_rfl) (by kernel_rfl) (fun _ _ _ h => h) (yields_of rfl (fun _ _ => rfl)) hSV ?_
    go_simp
    refine wpAnyH_take (i := 4) rfl (by kernel_rfl) (by kernel_rfl) (by kernel_rfl) (fun _ _ _ h => h) (yields_blk rfl rfl rfl Tryd.underlying48 rfl (by kernel_rfl) (fun _ h => h.2)) hSV ?_
    go_simp
    obtain ⟨V, hV⟩ : ∃ V, Hid (w1.drew = V) := ⟨_, rfl⟩
    rw [hV.out] at hVk hVd hVw hSV ⊢
    clear hV
    have hrd : Hid (Reads V V.heap.size 4 A nn (dcells docs)) := by
      have := docs_reads (hD.out.below hVw.out)
      rw [hnn.out] at this; exact this
    have hSx : Hid (∀ Wx, Below V.heap.size V Wx → Blk Wx w.heap.size 32 C ∧ Blk Wx (w.heap.size + 1) 48 #[.int .i64 dk, .string dn, .string di, .slice dA dl dc]) := fun Wx h => ⟨hVk.out.below h hVk.out.lt, hVd.out.below h hVd.out.lt⟩
    refine wpAnyH_all (rs := [1, 5]) (by kernel_rfl) (by decide) ?_
    intro i hi'
    simp only [List.mem_cons, List.not_mem_nil, or_false] at hi'
    rcases hi' with rfl | rfl
    · refine held_value (v := .slice (some ⟨(V).heap.size, 0, none⟩) 0 0) (w' := (V).alloc (.cells #[] 48)) rfl rfl (by go_simp) ?_
      have hb0 : Hid (Below V.heap.size V ((V).alloc (.cells #[] 48))) := ((Below.refl V.heap.size V)).alloc (by have := ((Below.refl V.heap.size V)).size; omega) _
      have ho0 : Hid (((V).alloc (.cells #[] 48)).ownsRow V.heap.size 48 4 (.slice (some ⟨(V).heap.size, 0, none⟩) 0 0) 0 []) := own_mono_base (own_new (V) 48 4) ((Below.refl V.heap.size V)).size
      try rw [World.size_alloc] at ho0
      refine ⟨hSx.out _ hb0.out, ?_⟩
      go_simp
      refine wpAnyH_all (rs := [3, 5]) (by kernel_rfl) (by decide) ?_
      intro i hi'
      simp only [List.mem_cons, List.not_mem_nil, or_false] at hi'
      rcases hi' with rfl | rfl
      · refine held_append rfl rfl (.tmp 13) (.tmp 14) 25 rfl V.heap.size 48 i0 _ 4 64 Tryd.underlying25 hi hz0 hz1 hz2 rfl (by decide) (.slice (some ⟨V.heap.size, 0, none⟩) 0 0) 0 [] rfl ho0.out V.heap.size A nn cc (dcells docs) rfl (hrd.out.below (hb0.out)) hn1.out hm1.out hm3.out (hb0.out).size ?_
        intro v3 w3 o3 g3 e3
        simp only [Nat.zero_add, List.nil_append] at o3
        have hb3 : Hid (Below V.heap.size V w3) := (hb0.out).grown g3 (hb0.out).size (fun j hj => (ho0.out.lt j hj).1)
        have ho3 := Lib.hid o3
        obtain ⟨A3, c3, rfl⟩ := own_slice o3
        clear o3 g3 e3
        refine ⟨hSx.out _ hb3.out, ?_⟩
        go_simp
        refine wpAnyH_all (rs := [5]) (by kernel_rfl) (by decide) ?_
        intro i hi'
        obtain rfl := List.mem_singleton.1 hi'
        refine held_value (v := .slice (some ⟨(w3).heap.size, 0, none⟩) 1 1) (w' := (w3).alloc (.cells #[.int .i64 dk, .string dn, .string di, .slice dA dl dc] 48)) rfl rfl (by go_simp) ?_
        have hb5 : Hid (Below V.heap.size V ((w3).alloc (.cells #[.int .i64 dk, .string dn, .string di, .slice dA dl dc] 48))) := (hb3.out).alloc (by have := (hb3.out).size; omega) _
        have hN5 := Lib.hid (Blk.new (w3) 48 #[.int .i64 dk, .string dn, .string di, .slice dA dl dc])
        try rw [World.size_alloc] at hN5
        refine ⟨hSx.out _ hb5.out, ?_⟩
        go_simp
        have hoX := Lib.hid (ho3.out.alloc (.cells #[.int .i64 dk, .string dn, .string di, .slice dA dl dc] 48))
        refine wpAnyH_all (rs := [6]) (by kernel_rfl) (by decide) ?_
        intro i hi'
        obtain rfl := List.mem_singleton.1 hi'
        refine held_append rfl rfl (.tmp 15) (.tmp 17) 25 rfl V.heap.size 48 i0 _ 4 64 Tryd.underlying25 hi hz0 hz1 hz2 rfl (by decide) (.slice A3 nn c3) nn (dcells docs) rfl hoX.out _ (some ⟨w3.heap.size, 0, none⟩) 1 1 _ rfl (blk_reads hN5.out 4 1 rfl) hoN.out hm2.out hm4.out (hb5.out).size ?_
        intro v6 w6 o6 g6 e6
        have hb6 : Hid (Below V.heap.size V w6) := (hb5.out).grown g6 (hb5.out).size (fun j hj => (hoX.out.lt j hj).1)
        have hB6 : Hid (Below w.heap.size w w6) := hVw.out.trans (hb6.out.mono hVw.out.size)
        have o6' : w6.ownsRow V.heap.size 48 4 v6 (nn + 1) (dcells docs') := by
          rw [← hds.out, dcells_app]
          simpa [dcells, Pap.cells, hdl.out] using o6
        obtain ⟨A6, c6, rfl, hD6⟩ := own_docs o6' hlen'.out (fun x hx => by
          rw [← hds.out] at hx
          rcases List.mem_append.1 hx with hx | hx
          · obtain ⟨j, hj⟩ := List.mem_iff_getElem?.1 hx
            obtain ⟨_, _, _, _, _, _, _, h1, h2, h3⟩ := (hD.out.below hB6.out) j x hj
            exact ⟨h1, h2, h3⟩
          · obtain rfl := List.mem_singleton.1 hx
            exact hP.out.below hB6.out)
        have hD6' := Lib.hid hD6
        clear o6 o6' g6 e6 hD6
        refine ⟨hSx.out _ hb6.out, ?_⟩
        go_simp
        refine wpAnyH_all (rs := [7]) (by kernel_rfl) (by decide) ?_
        intro i hi'
        obtain rfl := List.mem_singleton.1 hi'
        refine held_call (f := 13) (args := #[.agg C, .slice A6 (nn + 1) c6]) rfl rfl (by go_simp) ?_
        refine (few_any C nA nl nc needs A6 (nn + 1) c6 docs' w6 hCz hC17.out hnl hlen' hml'.out hm2.out (hN.out.below hB6.out) hD6' hLD').mono ?_
        rintro e w7 ⟨rfl, hb7⟩
        have hb7' : Hid (Below V.heap.size V w7) := hb6.out.trans (hb7.mono hb6.out.size)
        have hB7 : Hid (Below w.heap.size w w7) := hB6.out.trans (hb7.mono hB6.out.size)
        clear hb7
        refine ⟨_, rfl, ?_⟩
        refine ⟨hSx.out _ hb7'.out, ?_⟩
        obtain ⟨fb, hfb⟩ : ∃ fb, Hid (fewB needs docs' = fb) := ⟨_, rfl⟩
        rw [hfb.out]
        cases fb with
        | false =>
          go_simp
          refine wpAnyH_take (i := 8) rfl (by kernel_rfl) (by kernel_rfl) (by kernel_rfl) (fun _ _ _ h => h) (yields_of (v := .bool true) rfl (fun _ _ => rfl)) (hSx.out _ hb7'.out) ?_
          go_simp
          refine wpAnyH_take (i := 9) rfl (by kernel_rfl) (by kernel_rfl) (by kernel_rfl) (fun _ _ _ h => h) (yields_of rfl (fun _ _ => rfl)) (hSx.out _ hb7'.out) ?_
          go_simp
          refine wpAnyH_take (i := 10) rfl (by kernel_rfl) (by kernel_rfl) (by kernel_rfl) (fun _ _ _ h => h) (.inr ⟨rfl, rfl⟩) (hSx.out _ hb7'.out) ?_
          go_simp
          refine wpAnyH_take (i := 11) rfl (by kernel_rfl) (by kernel_rfl) (by kernel_rfl) (fun _ _ _ h => h) (.inr ⟨rfl, rfl⟩) (hSx.out _ hb7'.out) ?_
          go_simp
          refine wpAnyH_take (i := 12) rfl (by kernel_rfl) (by kernel_rfl) (by kernel_rfl) (fun _ _ _ h => h) (.inr ⟨rfl, rfl⟩) (hSx.out _ hb7'.out) ?_
          go_simp
          refine wpAnyH_take (i := 13) rfl (by kernel_rfl) (by kernel_rfl) (by kernel_rfl) (fun _ _ _ h => h) (.inr ⟨rfl, rfl⟩) (hSx.out _ hb7'.out) ?_
          go_simp
          refine wpAnyH_take (i := 14) rfl (by kernel_rfl) (by kernel_rfl) (by kernel_rfl) (fun _ _ _ h => h) (yields_of (v := .bool true) rfl (fun _ _ => rfl)) (hSx.out _ hb7'.out) ?_
          go_simp
          refine wpAnyH_done (by kernel_rfl) ?_ _
          go_wp2_with fail
          go_meet
          case rel => exact ⟨by rw [hfb.out]; rfl, hB7, (hSx.out _ hb7'.out).1, (hSx.out _ hb7'.out).2⟩
        | true =>
          go_simp
          refine wpAnyH_take (i := 8) rfl (by kernel_rfl) (by kernel_rfl) (by kernel_rfl) (fun _ _ _ h => h) (yields_of (v := .bool false) rfl (fun _ _ => rfl)) (hSx.out _ hb7'.out) ?_
          go_simp
          refine wpAnyH_take (i := 9) rfl (by kernel_rfl) (by kernel_rfl) (by kernel_rfl) (fun _ _ _ h => h) (yields_of rfl (fun _ _ => rfl)) (hSx.out _ hb7'.out) ?_
          go_simp
          refine wpAnyH_take (i := 10) rfl (by kernel_rfl) (by kernel_rfl) (by kernel_rfl) (fun _ _ _ h => h) (yields_blkg rfl rfl rfl Tryd.underlying32 rfl hsz.out (fun _ h => h.1)) (hSx.out _ hb7'.out) ?_
          go_simp
          refine wpAnyH_take (i := 11) rfl (by kernel_rfl) (by kernel_rfl) (by kernel_rfl) (fun _ _ _ h => h) (.inl ⟨rfl, fun _ _ => rfl⟩) (hSx.out _ hb7'.out) ?_
          go_simp
          refine wpAnyH_take (i := 12) rfl (by kernel_rfl) (by kernel_rfl) (by kernel_rfl) (fun _ _ _ h => h) (yields_ifv (v := .int .i64 dk) rfl (fun W hW => by
            have c0 : W.cell? ⟨w.heap.size + 1, 0, none⟩ = some (.int .i64 dk) := hW.2.cell 0
            go_simp)) (hSx.out _ hb7'.out) ?_
          go_simp
          refine wpAnyH_all (rs := [13]) (by kernel_rfl) (by decide) ?_
          intro i hi'
          obtain rfl := List.mem_singleton.1 hi'
          refine held_call_if (f := 22) (args := #[.agg C, .int .i64 dk]) rfl rfl (by go_simp) ?_
          refine (asked_any C nA nl nc needs dk w7 hC17 hnl hml'.out (hN.out.below hB7.out)).mono ?_
          rintro e w8 ⟨rfl, hb8⟩
          have hb8' : Hid (Below V.heap.size V w8) := hb7'.out.trans (hb8.mono hb7'.out.size)
          have hB8 : Hid (Below w.heap.size w w8) := hB7.out.trans (hb8.mono hB7.out.size)
          clear hb8
          refine ⟨_, rfl, ?_⟩
          refine ⟨hSx.out _ hb8'.out, ?_⟩
          obtain ⟨ab, hab⟩ : ∃ ab, Hid (askedB needs dk = ab) := ⟨_, rfl⟩
          rw [hab.out]
          go_simp
          refine wpAnyH_take (i := 14) rfl (by kernel_rfl) (by kernel_rfl) (by kernel_rfl) (fun _ _ _ h => h) (yields_of (v := .bool ab) rfl (fun _ _ => by go_simp)) (hSx.out _ hb8'.out) ?_
          go_simp
          refine wpAnyH_done (by kernel_rfl) ?_ _
          go_wp2_with fail
          go_meet
          case rel => exact ⟨by rw [hfb.out, hab.out]; rfl, hB8, (hSx.out _ hb8'.out).1, (hSx.out _ hb8'.out).2⟩
      · refine held_value (v := .slice (some ⟨(V.alloc (.cells #[] 48)).heap.size, 0, none⟩) 1 1) (w' := (V.alloc (.cells #[] 48)).alloc (.cells #[.int .i64 dk, .string dn, .string di, .slice dA dl dc] 48)) rfl rfl (by go_simp) ?_
        have hb5 : Hid (Below V.heap.size V ((V.alloc (.cells #[] 48)).alloc (.cells #[.int .i64 dk, .string dn, .string di, .slice dA dl dc] 48))) := (hb0.out).alloc (by have := (hb0.out).size; omega) _
        have hN5 := Lib.hid (Blk.new (V.alloc (.cells #[] 48)) 48 #[.int .i64 dk, .string dn, .string di, .slice dA dl dc])
        try rw [World.size_alloc] at hN5
        refine ⟨hSx.out _ hb5.out, ?_⟩
        go_simp
        refine wpAnyH_all (rs := [3]) (by kernel_rfl) (by decide) ?_
        intro i hi'
        obtain rfl := List.mem_singleton.1 hi'
        have hoY := Lib.hid (ho0.out.alloc (.cells #[.int .i64 dk, .string dn, .string di, .slice dA dl dc] 48))
        refine held_append rfl rfl (.tmp 13) (.tmp 14) 25 rfl V.heap.size 48 i0 _ 4 64 Tryd.underlying25 hi hz0 hz1 hz2 rfl (by decide) (.slice (some ⟨V.heap.size, 0, none⟩) 0 0) 0 [] rfl hoY.out V.heap.size A nn cc (dcells docs) rfl (hrd.out.below (hb5.out)) hn1.out hm1.out hm3.out (hb5.out).size ?_
        intro v3 w3 o3 g3 e3
        simp only [Nat.zero_add, List.nil_append] at o3
        have hb3 : Hid (Below V.heap.size V w3) := (hb5.out).grown g3 (hb5.out).size (fun j hj => (hoY.out.lt j hj).1)
        have ho3 := Lib.hid o3
        have hN6 := Lib.hid (hN5.out.grown g3 (by show some _ ≠ some _; simp))
        obtain ⟨A3, c3, rfl⟩ := own_slice o3
        clear o3 g3 e3
        refine ⟨hSx.out _ hb3.out, ?_⟩
        go_simp
        refine wpAnyH_all (rs := [6]) (by kernel_rfl) (by decide) ?_
        intro i hi'
        obtain rfl := List.mem_singleton.1 hi'
        refine held_append rfl rfl (.tmp 15) (.tmp 17) 25 rfl V.heap.size 48 i0 _ 4 64 Tryd.underlying25 hi hz0 hz1 hz2 rfl (by decide) (.slice A3 nn c3) nn (dcells docs) rfl ho3.out _ (some ⟨V.heap.size + 1, 0, none⟩) 1 1 _ rfl (blk_reads hN6.out 4 1 rfl) hoN.out hm2.out hm4.out (hb3.out).size ?_
        intro v6 w6 o6 g6 e6
        have hb6 : Hid (Below V.heap.size V w6) := (hb3.out).grown g6 (hb3.out).size (fun j hj => (ho3.out.lt j hj).1)
        have hB6 : Hid (Below w.heap.size w w6) := hVw.out.trans (hb6.out.mono hVw.out.size)
        have o6' : w6.ownsRow V.heap.size 48 4 v6 (nn + 1) (dcells docs') := by
          rw [← hds.out, dcells_app]
          simpa [dcells, Pap.cells, hdl.out] using o6
        obtain ⟨A6, c6, rfl, hD6⟩ := own_docs o6' hlen'.out (fun x hx => by
          rw [← hds.out] at hx
          rcases List.mem_append.1 hx with hx | hx
          · obtain ⟨j, hj⟩ := List.mem_iff_getElem?.1 hx
            obtain ⟨_, _, _, _, _, _, _, h1, h2, h3⟩ := (hD.out.below hB6.out) j x hj
            exact ⟨h1, h2, h3⟩
          · obtain rfl := List.mem_singleton.1 hx
            exact hP.out.below hB6.out)
        have hD6' := Lib.hid hD6
        clear o6 o6' g6 e6 hD6
        refine ⟨hSx.out _ hb6.out, ?_⟩
        go_simp
        refine wpAnyH_all (rs := [7]) (by kernel_rfl) (by decide) ?_
        intro i hi'
        obtain rfl := List.mem_singleton.1 hi'
        refine held_call (f := 13) (args := #[.agg C, .slice A6 (nn + 1) c6]) rfl rfl (by go_simp) ?_
        refine (few_any C nA nl nc needs A6 (nn + 1) c6 docs' w6 hCz hC17.out hnl hlen' hml'.out hm2.out (hN.out.below hB6.out) hD6' hLD').mono ?_
        rintro e w7 ⟨rfl, hb7⟩
        have hb7' : Hid (Below V.heap.size V w7) := hb6.out.trans (hb7.mono hb6.out.size)
        have hB7 : Hid (Below w.heap.size w w7) := hB6.out.trans (hb7.mono hB6.out.size)
        clear hb7
        refine ⟨_, rfl, ?_⟩
        refine ⟨hSx.out _ hb7'.out, ?_⟩
        obtain ⟨fb, hfb⟩ : ∃ fb, Hid (fewB needs docs' = fb) := ⟨_, rfl⟩
        rw [hfb.out]
        cases fb with
        | false =>
          go_simp
          refine wpAnyH_take (i := 8) rfl (by kernel_rfl) (by kernel_rfl) (by kernel_rfl) (fun _ _ _ h => h) (yields_of (v := .bool true) rfl (fun _ _ => rfl)) (hSx.out _ hb7'.out) ?_
          go_simp
          refine wpAnyH_take (i := 9) rfl (by kernel_rfl) (by kernel_rfl) (by kernel_rfl) (fun _ _ _ h => h) (yields_of rfl (fun _ _ => rfl)) (hSx.out _ hb7'.out) ?_
          go_simp
          refine wpAnyH_take (i := 10) rfl (by kernel_rfl) (by kernel_rfl) (by kernel_rfl) (fun _ _ _ h => h) (.inr ⟨rfl, rfl⟩) (hSx.out _ hb7'.out) ?_
          go_simp
          refine wpAnyH_take (i := 11) rfl (by kernel_rfl) (by kernel_rfl) (by kernel_rfl) (fun _ _ _ h => h) (.inr ⟨rfl, rfl⟩) (hSx.out _ hb7'.out) ?_
          go_simp
          refine wpAnyH_take (i := 12) rfl (by kernel_rfl) (by kernel_rfl) (by kernel_rfl) (fun _ _ _ h => h) (.inr ⟨rfl, rfl⟩) (hSx.out _ hb7'.out) ?_
          go_simp
          refine wpAnyH_take (i := 13) rfl (by kernel_rfl) (by kernel_rfl) (by kernel_rfl) (fun _ _ _ h => h) (.inr ⟨rfl, rfl⟩) (hSx.out _ hb7'.out) ?_
          go_simp
          refine wpAnyH_take (i := 14) rfl (by kernel_rfl) (by kernel_rfl) (by kernel_rfl) (fun _ _ _ h => h) (yields_of (v := .bool true) rfl (fun _ _ => rfl)) (hSx.out _ hb7'.out) ?_
          go_simp
          refine wpAnyH_done (by kernel_rfl) ?_ _
          go_wp2_with fail
          go_meet
          case rel => exact ⟨by rw [hfb.out]; rfl, hB7, (hSx.out _ hb7'.out).1, (hSx.out _ hb7'.out).2⟩
        | true =>
          go_simp
          refine wpAnyH_take (i := 8) rfl (by kernel_rfl) (by kernel_rfl) (by kernel_rfl) (fun _ _ _ h => h) (yields_of (v := .bool false) rfl (fun _ _ => rfl)) (hSx.out _ hb7'.out) ?_
          go_simp
          refine wpAnyH_take (i := 9) rfl (by kernel_rfl) (by kernel_rfl) (by kernel_rfl) (fun _ _ _ h => h) (yields_of rfl (fun _ _ => rfl)) (hSx.out _ hb7'.out) ?_
          go_simp
          refine wpAnyH_take (i := 10) rfl (by kernel_rfl) (by kernel_rfl) (by kernel_rfl) (fun _ _ _ h => h) (yields_blkg rfl rfl rfl Tryd.underlying32 rfl hsz.out (fun _ h => h.1)) (hSx.out _ hb7'.out) ?_
          go_simp
          refine wpAnyH_take (i := 11) rfl (by kernel_rfl) (by kernel_rfl) (by kernel_rfl) (fun _ _ _ h => h) (.inl ⟨rfl, fun _ _ => rfl⟩) (hSx.out _ hb7'.out) ?_
          go_simp
          refine wpAnyH_take (i := 12) rfl (by kernel_rfl) (by kernel_rfl) (by kernel_rfl) (fun _ _ _ h => h) (yields_ifv (v := .int .i64 dk) rfl (fun W hW => by
            have c0 : W.cell? ⟨w.heap.size + 1, 0, none⟩ = some (.int .i64 dk) := hW.2.cell 0
            go_simp)) (hSx.out _ hb7'.out) ?_
          go_simp
          refine wpAnyH_all (rs := [13]) (by kernel_rfl) (by decide) ?_
          intro i hi'
          obtain rfl := List.mem_singleton.1 hi'
          refine held_call_if (f := 22) (args := #[.agg C, .int .i64 dk]) rfl rfl (by go_simp) ?_
          refine (asked_any C nA nl nc needs dk w7 hC17 hnl hml'.out (hN.out.below hB7.out)).mono ?_
          rintro e w8 ⟨rfl, hb8⟩
          have hb8' : Hid (Below V.heap.size V w8) := hb7'.out.trans (hb8.mono hb7'.out.size)
          have hB8 : Hid (Below w.heap.size w w8) := hB7.out.trans (hb8.mono hB7.out.size)
          clear hb8
          refine ⟨_, rfl, ?_⟩
          refine ⟨hSx.out _ hb8'.out, ?_⟩
          obtain ⟨ab, hab⟩ : ∃ ab, Hid (askedB needs dk = ab) := ⟨_, rfl⟩
          rw [hab.out]
          go_simp
          refine wpAnyH_take (i := 14) rfl (by kernel_rfl) (by kernel_rfl) (by kernel_rfl) (fun _ _ _ h => h) (yields_of (v := .bool ab) rfl (fun _ _ => by go_simp)) (hSx.out _ hb8'.out) ?_
          go_simp
          refine wpAnyH_done (by kernel_rfl) ?_ _
          go_wp2_with fail
          go_meet
          case rel => exact ⟨by rw [hfb.out, hab.out]; rfl, hB8, (hSx.out _ hb8'.out).1, (hSx.out _ hb8'.out).2⟩
    · refine held_value (v := .slice (some ⟨(V).heap.size, 0, none⟩) 1 1) (w' := (V).alloc (.cells #[.int .i64 dk, .string dn, .string di, .slice dA dl dc] 48)) rfl rfl (by go_simp) ?_
      have hb5 : Hid (Below V.heap.size V ((V).alloc (.cells #[.int .i64 dk, .string dn, .string di, .slice dA dl dc] 48))) := ((Below.refl V.heap.size V)).alloc (by have := ((Below.refl V.heap.size V)).size; omega) _
      have hN5 := Lib.hid (Blk.new (V) 48 #[.int .i64 dk, .string dn, .string di, .slice dA dl dc])
      try rw [World.size_alloc] at hN5
      refine ⟨hSx.out _ hb5.out, ?_⟩
      go_simp
      refine wpAnyH_all (rs := [1]) (by kernel_rfl) (by decide) ?_
      intro i hi'
      obtain rfl := List.mem_singleton.1 hi'
      refine held_value (v := .slice (some ⟨(V.alloc (.cells #[.int .i64 dk, .string dn, .string di, .slice dA dl dc] 48)).heap.size, 0, none⟩) 0 0) (w' := (V.alloc (.cells #[.int .i64 dk, .string dn, .string di, .slice dA dl dc] 48)).alloc (.cells #[] 48)) rfl rfl (by go_simp) ?_
      have hb0 : Hid (Below V.heap.size V ((V.alloc (.cells #[.int .i64 dk, .string dn, .string di, .slice dA dl dc] 48)).alloc (.cells #[] 48))) := (hb5.out).alloc (by have := (hb5.out).size; omega) _
      have ho0 : Hid (((V.alloc (.cells #[.int .i64 dk, .string dn, .string di, .slice dA dl dc] 48)).alloc (.cells #[] 48)).ownsRow V.heap.size 48 4 (.slice (some ⟨(V.alloc (.cells #[.int .i64 dk, .string dn, .string di, .slice dA dl dc] 48)).heap.size, 0, none⟩) 0 0) 0 []) := own_mono_base (own_new (V.alloc (.cells #[.int .i64 dk, .string dn, .string di, .slice dA dl dc] 48)) 48 4) (hb5.out).size
      try rw [World.size_alloc] at ho0
      refine ⟨hSx.out _ hb0.out, ?_⟩
      go_simp
      refine wpAnyH_all (rs := [3]) (by kernel_rfl) (by decide) ?_
      intro i hi'
      obtain rfl := List.mem_singleton.1 hi'
      have hN5b := Lib.hid (hN5.out.alloc (.cells #[] 48))
      refine held_append rfl rfl (.tmp 13) (.tmp 14) 25 rfl V.heap.size 48 i0 _ 4 64 Tryd.underlying25 hi hz0 hz1 hz2 rfl (by decide) (.slice (some ⟨V.heap.size + 1, 0, none⟩) 0 0) 0 [] rfl ho0.out V.heap.size A nn cc (dcells docs) rfl (hrd.out.below (hb0.out)) hn1.out hm1.out hm3.out (hb0.out).size ?_
      intro v3 w3 o3 g3 e3
      simp only [Nat.zero_add, List.nil_append] at o3
      have hb3 : Hid (Below V.heap.size V w3) := (hb0.out).grown g3 (hb0.out).size (fun j hj => (ho0.out.lt j hj).1)
      have ho3 := Lib.hid o3
      have hN6 := Lib.hid (hN5b.out.grown g3 (by show some _ ≠ some _; simp))
      obtain ⟨A3, c3, rfl⟩ := own_slice o3
      clear o3 g3 e3
      refine ⟨hSx.out _ hb3.out, ?_⟩
      go_simp
      refine wpAnyH_all (rs := [6]) (by kernel_rfl) (by decide) ?_
      intro i hi'
      obtain rfl := List.mem_singleton.1 hi'
      refine held_append rfl rfl (.tmp 15) (.tmp 17) 25 rfl V.heap.size 48 i0 _ 4 64 Tryd.underlying25 hi hz0 hz1 hz2 rfl (by decide) (.slice A3 nn c3) nn (dcells docs) rfl ho3.out _ (some ⟨V.heap.size, 0, none⟩) 1 1 _ rfl (blk_reads hN6.out 4 1 rfl) hoN.out hm2.out hm4.out (hb3.out).size ?_
      intro v6 w6 o6 g6 e6
      have hb6 : Hid (Below V.heap.size V w6) := (hb3.out).grown g6 (hb3.out).size (fun j hj => (ho3.out.lt j hj).1)
      have hB6 : Hid (Below w.heap.size w w6) := hVw.out.trans (hb6.out.mono hVw.out.size)
      have o6' : w6.ownsRow V.heap.size 48 4 v6 (nn + 1) (dcells docs') := by
        rw [← hds.out, dcells_app]
        simpa [dcells, Pap.cells, hdl.out] using o6
      obtain ⟨A6, c6, rfl, hD6⟩ := own_docs o6' hlen'.out (fun x hx => by
        rw [← hds.out] at hx
        rcases List.mem_append.1 hx with hx | hx
        · obtain ⟨j, hj⟩ := List.mem_iff_getElem?.1 hx
          obtain ⟨_, _, _, _, _, _, _, h1, h2, h3⟩ := (hD.out.below hB6.out) j x hj
          exact ⟨h1, h2, h3⟩
        · obtain rfl := List.mem_singleton.1 hx
          exact hP.out.below hB6.out)
      have hD6' := Lib.hid hD6
      clear o6 o6' g6 e6 hD6
      refine ⟨hSx.out _ hb6.out, ?_⟩
      go_simp
      refine wpAnyH_all (rs := [7]) (by kernel_rfl) (by decide) ?_
      intro i hi'
      obtain rfl := List.mem_singleton.1 hi'
      refine held_call (f := 13) (args := #[.agg C, .slice A6 (nn + 1) c6]) rfl rfl (by go_simp) ?_
      refine (few_any C nA nl nc needs A6 (nn + 1) c6 docs' w6 hCz hC17.out hnl hlen' hml'.out hm2.out (hN.out.below hB6.out) hD6' hLD').mono ?_
      rintro e w7 ⟨rfl, hb7⟩
      have hb7' : Hid (Below V.heap.size V w7) := hb6.out.trans (hb7.mono hb6.out.size)
      have hB7 : Hid (Below w.heap.size w w7) := hB6.out.trans (hb7.mono hB6.out.size)
      clear hb7
      refine ⟨_, rfl, ?_⟩
      refine ⟨hSx.out _ hb7'.out, ?_⟩
      obtain ⟨fb, hfb⟩ : ∃ fb, Hid (fewB needs docs' = fb) := ⟨_, rfl⟩
      rw [hfb.out]
      cases fb with
      | false =>
        go_simp
        refine wpAnyH_take (i := 8) rfl (by kernel_rfl) (by kernel_rfl) (by kernel_rfl) (fun _ _ _ h => h) (yields_of (v := .bool true) rfl (fun _ _ => rfl)) (hSx.out _ hb7'.out) ?_
        go_simp
        refine wpAnyH_take (i := 9) rfl (by kernel_rfl) (by kernel_rfl) (by kernel_rfl) (fun _ _ _ h => h) (yields_of rfl (fun _ _ => rfl)) (hSx.out _ hb7'.out) ?_
        go_simp
        refine wpAnyH_take (i := 10) rfl (by kernel_rfl) (by kernel_rfl) (by kernel_rfl) (fun _ _ _ h => h) (.inr ⟨rfl, rfl⟩) (hSx.out _ hb7'.out) ?_
        go_simp
        refine wpAnyH_take (i := 11) rfl (by kernel_rfl) (by kernel_rfl) (by kernel_rfl) (fun _ _ _ h => h) (.inr ⟨rfl, rfl⟩) (hSx.out _ hb7'.out) ?_
        go_simp
        refine wpAnyH_take (i := 12) rfl (by kernel_rfl) (by kernel_rfl) (by kernel_rfl) (fun _ _ _ h => h) (.inr ⟨rfl, rfl⟩) (hSx.out _ hb7'.out) ?_
        go_simp
        refine wpAnyH_take (i := 13) rfl (by kernel_rfl) (by kernel_rfl) (by kernel_rfl) (fun _ _ _ h => h) (.inr ⟨rfl, rfl⟩) (hSx.out _ hb7'.out) ?_
        go_simp
        refine wpAnyH_take (i := 14) rfl (by kernel_rfl) (by kernel_rfl) (by kernel_rfl) (fun _ _ _ h => h) (yields_of (v := .bool true) rfl (fun _ _ => rfl)) (hSx.out _ hb7'.out) ?_
        go_simp
        refine wpAnyH_done (by kernel_rfl) ?_ _
        go_wp2_with fail
        go_meet
        case rel => exact ⟨by rw [hfb.out]; rfl, hB7, (hSx.out _ hb7'.out).1, (hSx.out _ hb7'.out).2⟩
      | true =>
        go_simp
        refine wpAnyH_take (i := 8) rfl (by kernel_rfl) (by kernel_rfl) (by kernel_rfl) (fun _ _ _ h => h) (yields_of (v := .bool false) rfl (fun _ _ => rfl)) (hSx.out _ hb7'.out) ?_
        go_simp
        refine wpAnyH_take (i := 9) rfl (by kernel_rfl) (by kernel_rfl) (by kernel_rfl) (fun _ _ _ h => h) (yields_of rfl (fun _ _ => rfl)) (hSx.out _ hb7'.out) ?_
        go_simp
        refine wpAnyH_take (i := 10) rfl (by kernel_rfl) (by kernel_rfl) (by kernel_rfl) (fun _ _ _ h => h) (yields_blkg rfl rfl rfl Tryd.underlying32 rfl hsz.out (fun _ h => h.1)) (hSx.out _ hb7'.out) ?_
        go_simp
        refine wpAnyH_take (i := 11) rfl (by kernel_rfl) (by kernel_rfl) (by kernel_rfl) (fun _ _ _ h => h) (.inl ⟨rfl, fun _ _ => rfl⟩) (hSx.out _ hb7'.out) ?_
        go_simp
        refine wpAnyH_take (i := 12) rfl (by kernel_rfl) (by kernel_rfl) (by kernel_rfl) (fun _ _ _ h => h) (yields_ifv (v := .int .i64 dk) rfl (fun W hW => by
          have c0 : W.cell? ⟨w.heap.size + 1, 0, none⟩ = some (.int .i64 dk) := hW.2.cell 0
          go_simp)) (hSx.out _ hb7'.out) ?_
        go_simp
        refine wpAnyH_all (rs := [13]) (by kernel_rfl) (by decide) ?_
        intro i hi'
        obtain rfl := List.mem_singleton.1 hi'
        refine held_call_if (f := 22) (args := #[.agg C, .int .i64 dk]) rfl rfl (by go_simp) ?_
        refine (asked_any C nA nl nc needs dk w7 hC17 hnl hml'.out (hN.out.below hB7.out)).mono ?_
        rintro e w8 ⟨rfl, hb8⟩
        have hb8' : Hid (Below V.heap.size V w8) := hb7'.out.trans (hb8.mono hb7'.out.size)
        have hB8 : Hid (Below w.heap.size w w8) := hB7.out.trans (hb8.mono hB7.out.size)
        clear hb8
        refine ⟨_, rfl, ?_⟩
        refine ⟨hSx.out _ hb8'.out, ?_⟩
        obtain ⟨ab, hab⟩ : ∃ ab, Hid (askedB needs dk = ab) := ⟨_, rfl⟩
        rw [hab.out]
        go_simp
        refine wpAnyH_take (i := 14) rfl (by kernel_rfl) (by kernel_rfl) (by kernel_rfl) (fun _ _ _ h => h) (yields_of (v := .bool ab) rfl (fun _ _ => by go_simp)) (hSx.out _ hb8'.out) ?_
        go_simp
        refine wpAnyH_done (by kernel_rfl) ?_ _
        go_wp2_with fail
        go_meet
        case rel => exact ⟨by rw [hfb.out, hab.out]; rfl, hB8, (hSx.out _ hb8'.out).1, (hSx.out _ hb8'.out).2⟩
  case rest =>
    obtain ⟨rfl, hB2, hbk2, hbd2⟩ := hcut
    obtain ⟨fb, hfb⟩ : ∃ fb, Hid (fewB needs docs' = fb) := ⟨_, rfl⟩
    obtain ⟨ab, hab⟩ : ∃ ab, Hid (askedB needs dk = ab) := ⟨_, rfl⟩
    rw [hfb.out, hab.out]
    rw [hab.out] at hmo
    rw [hfb.out] at hfl
    cases fb with
    | false =>
      go_wp2_with fail
      go_ret
      exact ⟨rfl, hB2.out⟩
    | true =>
      obtain ⟨hF0, hn11, hsd00, hsd1⟩ := hfl.out rfl
      have hF := Lib.hid hF0
      have hsd0 := Lib.hid hsd00
      have hsd' := Lib.hid hsd1
      clear hF0 hsd00 hsd1
      cases ab with
      | true =>
        go_wp2_with fail
        go_ret
        exact ⟨rfl, hB2.out⟩
      | false =>
        have hmo1 : Hid (likesN needs dk = false → examF c needs docs' day = examF c needs docs day) := fun h => hmo.out rfl h
        have hmlx : nl ≤ 9223372036854775807 := hml'.out
        simp only [if_true]
        go_wp2_with fail
        go_loopw [9] (fun i wr => ∃ q : Nat, q ≤ nl ∧ i = .int .i64 q ∧ Hid (likesN needs dk = likesN (needs.drop q) dk) ∧ Hid (Below w.heap.size w wr) ∧ Hid (Blk wr w.heap.size 32 C) ∧ Hid (Blk wr (w.heap.size + 1) 48 #[.int .i64 dk, .string dn, .string di, .slice dA dl dc])) (fun i _ => nl - (intOf i).toNat)
        case atStart => exact ⟨0, Nat.zero_le _, rfl, rfl, hB2, hbk2, hbd2⟩
        case round =>
          obtain ⟨q, hq, rfl, hs, hB3, hbk3, hbd3⟩ := hrel
          have c17 : wr.cell? ⟨w.heap.size, 17, none⟩ = some (.slice nA nl nc) := (hbk3.out.cell 17).trans hC17.out
          by_cases hlt : q < nl
          · obtain ⟨x, hx⟩ : ∃ x, needs[q]? = some x := ⟨_, List.getElem?_eq_getElem (by have := hnl.out; omega)⟩
            have hst : Hid (likesN needs dk = (likesT dk x.rule || likesN (needs.drop (q + 1)) dk)) := by unfold Hid; rw [hs.out, likesN_step hx]
            obtain ⟨_, hT, _, b, off, rfl, h0, _, h2⟩ := (hN.out.below hB3.out) q x hx
            clear hx
            obtain ⟨kd, ct, ⟨tk, tp, tf, tx, tn, tA, tc, tL⟩⟩ := x
            simp only at h0 h2 hT hst
            obtain ⟨g0, g1, g2, g3, g4, g5⟩ := h2
            have hT' := Lib.hid hT
            clear hT
            have hbl : b < wr.heap.size := World.block_lt_of_cell? wr _ h0
            obtain ⟨lb, hlb⟩ : ∃ lb, Hid (likesT dk (.mk tk tp tf tx tn tA tc tL) = lb) := ⟨_, rfl⟩
            rw [hlb.out] at hst
            obtain ⟨tl, htl⟩ : ∃ m, Hid (tL.length = m) := ⟨_, rfl⟩
            rw [htl.out] at g5
            have hcl : Hid (∀ y : Ext wr, Calls Tryd.prog 23 #[.agg #[.int .i64 tk, .int .i64 tp, .string tf, .string tx, .int .i64 tn, .slice tA tl tc], .int .i64 dk] y.wd fun e w' => e = .returned (.bool lb) ∧ Below y.wd.heap.size y.wd w') := fun y => by
              have := likes_any (.mk tk tp tf tx tn tA tc tL) dk y.wd (hT'.out.below y.below)
              simp only [Tree.cells, htl.out, hlb.out] at this
              exact this
            have hck : ∀ (o : Nat) (u : Value), wr.cell? ⟨b, o, none⟩ = some u → ∀ y : Ext wr, y.wd.cell? ⟨b, o, none⟩ = some u := fun o u h y => (y.cell ⟨b, o, none⟩ hbl).trans h
            have e0 := hck _ _ g0
            have e1 := hck _ _ g1
            have e2 := hck _ _ g2
            have e3 := hck _ _ g3
            have e4 := hck _ _ g4
            have e5 := hck _ _ g5
            have e17 : ∀ y : Ext wr, y.wd.cell? ⟨w.heap.size, 17, none⟩ = some (.slice (some ⟨b, off, none⟩) nl nc) := fun y => (y.cell ⟨w.heap.size, 17, none⟩ hbk3.out.lt).trans c17
            have ed : ∀ y : Ext wr, y.wd.cell? ⟨w.heap.size + 1, 0, none⟩ = some (.int .i64 dk) := fun y => (y.cell ⟨w.heap.size + 1, 0, none⟩ hbd3.out.lt).trans (hbd3.out.cell 0)
            clear hck g0 g1 g2 g3 g4 g5 h0
            have i1 : (q : Int) < (nl : Int) := by omega
            have i2 : (0 : Int) ≤ (q : Int) := by omega
            go_wp2_with fail
            refine wp_region_ext (by kernel_rfl) (by kernel_rfl) ?_
            repeat (go_big_quiet_step ((go_at_call 23; exact Calls.ext_of (hcl.out _))))
            refine wpQuiet_nil ?_
            rintro _ ⟨y, rfl⟩
            have hby := Lib.hid y.below
            obtain ⟨wz, hwz⟩ : ∃ w6, y.wd = w6 := ⟨_, rfl⟩
            rw [hwz] at hby ⊢
            clear hwz y e0 e1 e2 e3 e4 e5 e17 ed c17 hcl i1 i2
            have hB4 : Hid (Below w.heap.size w wz) := hB3.out.trans (hby.out.mono hB3.out.size)
            have hbk4 := Lib.hid (hbk3.out.below hby.out hbk3.out.lt)
            have hbd4 := Lib.hid (hbd3.out.below hby.out hbd3.out.lt)
            cases lb with
            | true =>
              go_wp2_with fail
              go_ret
              exact ⟨rfl, hB4.out⟩
            | false =>
              have hr : Hid (likesN needs dk = likesN (needs.drop (q + 1)) dk) := by unfold Hid; rw [hst.out]; rfl
              go_wp2_with fail
              go_roundw
              case rel => exact ⟨q + 1, by omega, by first | rfl | go_num, hr, hB4, hbk4, hbd4⟩
              case measure => simp [intOf]; omega
          · have hr : Hid (likesN needs dk = false) := by unfold Hid; rw [hs.out, List.drop_eq_nil_of_le (by have := hnl.out; omega)]; rfl
            obtain ⟨L, hlL⟩ : ∃ L, Hid (examF c needs docs day = L) := ⟨_, rfl⟩
            have hlL2 : Hid (examF c needs docs' day = L) := by unfold Hid; rw [hmo1.out hr.out, hlL.out]
            have hLl : L.length ≤ 20000 := by rw [← hlL.out]; exact exam_len hF.out (by have := hnn.out; omega)
            have hLl' := Lib.hid hLl
            clear hLl
            rw [hlL.out] at hex0
            rw [hlL2.out] at hex1
            go_wp2_with fail
            have hVk := Lib.hid hbk3.out.drew
            have hVd := Lib.hid hbd3.out.drew
            have hVw := Lib.hid hB3.out.drew
            refine wp_region_held (S := (fun w' => Blk w' w.heap.size 32 C ∧ Blk w' (w.heap.size + 1) 48 #[.int .i64 dk, .string dn, .string di, .slice dA dl dc])) (by kernel_rfl) ?_
            have hSV : Blk wr.drew w.heap.size 32 C ∧ Blk wr.drew (w.heap.size + 1) 48 #[.int .i64 dk, .string dn, .string di, .slice dA dl dc] := ⟨hVk.out, hVd.out⟩
            refine wpAnyH_take (i := 0) rfl (by kernel_rfl) (by kernel_rfl) (by kernel_rfl) (fun _ _ _ h => h) (yields_blk rfl rfl rfl Tryd.underlying32 rfl hsz.out (fun _ h => h.1)) hSV ?_
            go_simp
            refine wpAnyH_take (i := 2) rfl (by kernel_rfl) (by kernel_rfl) (by kernel_rfl) (fun _ _ _ h => h) (yields_of rfl (fun _ _ => rfl)) hSV ?_
            go_simp
            refine wpAnyH_take (i := 4) rfl (by kernel_rfl) (by kernel_rfl) (by kernel_rfl) (fun _ _ _ h => h) (yields_blk rfl rfl rfl Tryd.underlying48 rfl (by kernel_rfl) (fun _ h => h.2)) hSV ?_
            go_simp
            refine wpAnyH_take (i := 7) rfl (by kernel_rfl) (by kernel_rfl) (by kernel_rfl) (fun _ _ _ h => h) (yields_of rfl (fun _ _ => rfl)) hSV ?_
            go_simp
            refine wpAnyH_take (i := 9) rfl (by kernel_rfl) (by kernel_rfl) (by kernel_rfl) (fun _ _ _ h => h) (yields_blk rfl rfl rfl Tryd.underlying32 rfl hsz.out (fun _ h => h.1)) hSV ?_
            go_simp
            refine wpAnyH_take (i := 10) rfl (by kernel_rfl) (by kernel_rfl) (by kernel_rfl) (fun _ _ _ h => h) (yields_of rfl (fun _ _ => rfl)) hSV ?_
            go_simp
            refine wpAnyH_take (i := 11) rfl (by kernel_rfl) (by kernel_rfl) (by kernel_rfl) (fun _ _ _ h => h) (yields_of rfl (fun _ _ => rfl)) hSV ?_
            go_simp
            obtain ⟨V, hV⟩ : ∃ V, Hid (wr.drew = V) := ⟨_, rfl⟩
            rw [hV.out] at hVk hVd hVw hSV ⊢
            clear hV
            have hrd : Hid (Reads V V.heap.size 4 A nn (dcells docs)) := by
              have := docs_reads (hD.out.below hVw.out)
              rw [hnn.out] at this; exact this
            have hSx : Hid (∀ Wx, Below V.heap.size V Wx → Blk Wx w.heap.size 32 C ∧ Blk Wx (w.heap.size + 1) 48 #[.int .i64 dk, .string dn, .string di, .slice dA dl dc]) := fun Wx h => ⟨hVk.out.below h hVk.out.lt, hVd.out.below h hVd.out.lt⟩
            refine wpAnyH_all (rs := [1, 5]) (by kernel_rfl) (by decide) ?_
            intro i hi'
            simp only [List.mem_cons, List.not_mem_nil, or_false] at hi'
            rcases hi' with rfl | rfl
            · refine held_value (v := .slice (some ⟨(V).heap.size, 0, none⟩) 0 0) (w' := (V).alloc (.cells #[] 48)) rfl rfl (by go_simp) ?_
              have hb0 : Hid (Below V.heap.size V ((V).alloc (.cells #[] 48))) := ((Below.refl V.heap.size V)).alloc (by have := ((Below.refl V.heap.size V)).size; omega) _
              have ho0 : Hid (((V).alloc (.cells #[] 48)).ownsRow V.heap.size 48 4 (.slice (some ⟨(V).heap.size, 0, none⟩) 0 0) 0 []) := own_mono_base (own_new (V) 48 4) ((Below.refl V.heap.size V)).size
              try rw [World.size_alloc] at ho0
              refine ⟨hSx.out _ hb0.out, ?_⟩
              go_simp
              refine wpAnyH_all (rs := [3, 5]) (by kernel_rfl) (by decide) ?_
              intro i hi'
              simp only [List.mem_cons, List.not_mem_nil, or_false] at hi'
              rcases hi' with rfl | rfl
              · refine held_append rfl rfl (.tmp 44) (.tmp 45) 25 rfl V.heap.size 48 i0 _ 4 64 Tryd.underlying25 hi hz0 hz1 hz2 rfl (by decide) (.slice (some ⟨V.heap.size, 0, none⟩) 0 0) 0 [] rfl ho0.out V.heap.size A nn cc (dcells docs) rfl (hrd.out.below (hb0.out)) hn1.out hm1.out hm3.out (hb0.out).size ?_
                intro v3 w3 o3 g3 e3
                simp only [Nat.zero_add, List.nil_append] at o3
                have hb3 : Hid (Below V.heap.size V w3) := (hb0.out).grown g3 (hb0.out).size (fun j hj => (ho0.out.lt j hj).1)
                have ho3 := Lib.hid o3
                obtain ⟨A3, c3, rfl⟩ := own_slice o3
                clear o3 g3 e3
                refine ⟨hSx.out _ hb3.out, ?_⟩
                go_simp
                refine wpAnyH_all (rs := [5]) (by kernel_rfl) (by decide) ?_
                intro i hi'
                obtain rfl := List.mem_singleton.1 hi'
                refine held_value (v := .slice (some ⟨(w3).heap.size, 0, none⟩) 1 1) (w' := (w3).alloc (.cells #[.int .i64 dk, .string dn, .string di, .slice dA dl dc] 48)) rfl rfl (by go_simp) ?_
                have hb5 : Hid (Below V.heap.size V ((w3).alloc (.cells #[.int .i64 dk, .string dn, .string di, .slice dA dl dc] 48))) := (hb3.out).alloc (by have := (hb3.out).size; omega) _
                have hN5 := Lib.hid (Blk.new (w3) 48 #[.int .i64 dk, .string dn, .string di, .slice dA dl dc])
                try rw [World.size_alloc] at hN5
                refine ⟨hSx.out _ hb5.out, ?_⟩
                go_simp
                have hoX := Lib.hid (ho3.out.alloc (.cells #[.int .i64 dk, .string dn, .string di, .slice dA dl dc] 48))
                refine wpAnyH_all (rs := [6]) (by kernel_rfl) (by decide) ?_
                intro i hi'
                obtain rfl := List.mem_singleton.1 hi'
                refine held_append rfl rfl (.tmp 46) (.tmp 48) 25 rfl V.heap.size 48 i0 _ 4 64 Tryd.underlying25 hi hz0 hz1 hz2 rfl (by decide) (.slice A3 nn c3) nn (dcells docs) rfl hoX.out _ (some ⟨w3.heap.size, 0, none⟩) 1 1 _ rfl (blk_reads hN5.out 4 1 rfl) hoN.out hm2.out hm4.out (hb5.out).size ?_
                intro v6 w6 o6 g6 e6
                have hb6 : Hid (Below V.heap.size V w6) := (hb5.out).grown g6 (hb5.out).size (fun j hj => (hoX.out.lt j hj).1)
                have hB6 : Hid (Below w.heap.size w w6) := hVw.out.trans (hb6.out.mono hVw.out.size)
                have o6' : w6.ownsRow V.heap.size 48 4 v6 (nn + 1) (dcells docs') := by
                  rw [← hds.out, dcells_app]
                  simpa [dcells, Pap.cells, hdl.out] using o6
                obtain ⟨A6, c6, rfl, hD6⟩ := own_docs o6' hlen'.out (fun x hx => by
                  rw [← hds.out] at hx
                  rcases List.mem_append.1 hx with hx | hx
                  · obtain ⟨j, hj⟩ := List.mem_iff_getElem?.1 hx
                    obtain ⟨_, _, _, _, _, _, _, h1, h2, h3⟩ := (hD.out.below hB6.out) j x hj
                    exact ⟨h1, h2, h3⟩
                  · obtain rfl := List.mem_singleton.1 hx
                    exact hP.out.below hB6.out)
                have hD6' := Lib.hid hD6
                clear o6 o6' g6 e6 hD6
                refine ⟨hSx.out _ hb6.out, ?_⟩
                go_simp
                refine wpAnyH_all (rs := [8]) (by kernel_rfl) (by decide) ?_
                intro i hi'
                obtain rfl := List.mem_singleton.1 hi'
                refine held_call (f := 25) (args := #[.agg C, .slice A6 (nn + 1) c6, .int .i64 day]) rfl rfl (by go_simp) ?_
                refine (hex1.out A6 c6 w6 (hN.out.below hB6.out) hF ⟨hlen'.out, by omega, hD6'.out, he.out.below hB6.out, hsd'.out⟩ (by omega)).mono ?_
                rintro e w7 ⟨A7, c7, rfl, hF7, hb7⟩
                refine ⟨_, rfl, ?_⟩
                have hb7' : Hid (Below V.heap.size V w7) := hb6.out.trans (hb7.mono hb6.out.size)
                have hB7 : Hid (Below w.heap.size w w7) := hB6.out.trans (hb7.mono hB6.out.size)
                have hF7' := Lib.hid hF7
                clear hb7 hF7
                refine ⟨hSx.out _ hb7'.out, ?_⟩
                go_simp
                refine wpAnyH_all (rs := [12]) (by kernel_rfl) (by decide) ?_
                intro i hi'
                obtain rfl := List.mem_singleton.1 hi'
                refine held_call (f := 25) (args := #[.agg C, .slice A nn cc, .int .i64 day]) rfl rfl (by go_simp) ?_
                refine (hex0.out w7 (hN.out.below hB7.out) hF ⟨hnn.out, by omega, hD.out.below hB7.out, he.out.below hB7.out, hsd0.out⟩ (by omega)).mono ?_
                rintro e w8 ⟨A8, c8, rfl, hF8, hb8⟩
                refine ⟨_, rfl, ?_⟩
                have hb8' : Hid (Below V.heap.size V w8) := hb7'.out.trans (hb8.mono hb7'.out.size)
                have hB8 : Hid (Below w.heap.size w w8) := hB7.out.trans (hb8.mono hB7.out.size)
                have hF7'' := Lib.hid (hF7'.out.below hb8)
                have hF8' := Lib.hid hF8
                clear hb8 hF8
                refine ⟨hSx.out _ hb8'.out, ?_⟩
                go_simp
                refine wpAnyH_all (rs := [13]) (by kernel_rfl) (by decide) ?_
                intro i hi'
                obtain rfl := List.mem_singleton.1 hi'
                refine held_call (f := 24) (args := #[.slice A7 L.length c7, .slice A8 L.length c8]) rfl rfl (by go_simp) ?_
                refine (same_any A7 A8 L.length c7 L.length c8 L L w8 (by have := hLl'.out; unfold maxLen; omega) (by have := hLl'.out; unfold maxLen; omega) (Lib.hid rfl) (Lib.hid rfl) hF7'' hF8').mono ?_
                rintro e w9 ⟨rfl, hb9⟩
                refine ⟨_, rfl, ?_⟩
                have hb9' : Hid (Below V.heap.size V w9) := hb8'.out.trans (hb9.mono hb8'.out.size)
                have hB9 : Hid (Below w.heap.size w w9) := hB8.out.trans (hb9.mono hB8.out.size)
                clear hb9
                refine ⟨hSx.out _ hb9'.out, ?_⟩
                rw [sameB_refl]
                go_simp
                refine wpAnyH_take (i := 14) rfl (by kernel_rfl) (by kernel_rfl) (by kernel_rfl) (fun _ _ _ h => h) (yields_of rfl (fun _ _ => rfl)) (hSx.out _ hb9'.out) ?_
                go_simp
                refine wpAnyH_done (by kernel_rfl) ?_ _
                go_wp2_with fail
                go_ret
                exact ⟨rfl, hB9.out⟩
              · refine held_value (v := .slice (some ⟨(V.alloc (.cells #[] 48)).heap.size, 0, none⟩) 1 1) (w' := (V.alloc (.cells #[] 48)).alloc (.cells #[.int .i64 dk, .string dn, .string di, .slice dA dl dc] 48)) rfl rfl (by go_simp) ?_
                have hb5 : Hid (Below V.heap.size V ((V.alloc (.cells #[] 48)).alloc (.cells #[.int .i64 dk, .string dn, .string di, .slice dA dl dc] 48))) := (hb0.out).alloc (by have := (hb0.out).size; omega) _
                have hN5 := Lib.hid (Blk.new (V.alloc (.cells #[] 48)) 48 #[.int .i64 dk, .string dn, .string di, .slice dA dl dc])
                try rw [World.size_alloc] at hN5
                refine ⟨hSx.out _ hb5.out, ?_⟩
                go_simp
                refine wpAnyH_all (rs := [3]) (by kernel_rfl) (by decide) ?_
                intro i hi'
                obtain rfl := List.mem_singleton.1 hi'
                have hoY := Lib.hid (ho0.out.alloc (.cells #[.int .i64 dk, .string dn, .string di, .slice dA dl dc] 48))
                refine held_append rfl rfl (.tmp 44) (.tmp 45) 25 rfl V.heap.size 48 i0 _ 4 64 Tryd.underlying25 hi hz0 hz1 hz2 rfl (by decide) (.slice (some ⟨V.heap.size, 0, none⟩) 0 0) 0 [] rfl hoY.out V.heap.size A nn cc (dcells docs) rfl (hrd.out.below (hb5.out)) hn1.out hm1.out hm3.out (hb5.out).size ?_
                intro v3 w3 o3 g3 e3
                simp only [Nat.zero_add, List.nil_append] at o3
                have hb3 : Hid (Below V.heap.size V w3) := (hb5.out).grown g3 (hb5.out).size (fun j hj => (hoY.out.lt j hj).1)
                have ho3 := Lib.hid o3
                have hN6 := Lib.hid (hN5.out.grown g3 (by show some _ ≠ some _; simp))
                obtain ⟨A3, c3, rfl⟩ := own_slice o3
                clear o3 g3 e3
                refine ⟨hSx.out _ hb3.out, ?_⟩
                go_simp
                refine wpAnyH_all (rs := [6]) (by kernel_rfl) (by decide) ?_
                intro i hi'
                obtain rfl := List.mem_singleton.1 hi'
                refine held_append rfl rfl (.tmp 46) (.tmp 48) 25 rfl V.heap.size 48 i0 _ 4 64 Tryd.underlying25 hi hz0 hz1 hz2 rfl (by decide) (.slice A3 nn c3) nn (dcells docs) rfl ho3.out _ (some ⟨V.heap.size + 1, 0, none⟩) 1 1 _ rfl (blk_reads hN6.out 4 1 rfl) hoN.out hm2.out hm4.out (hb3.out).size ?_
                intro v6 w6 o6 g6 e6
                have hb6 : Hid (Below V.heap.size V w6) := (hb3.out).grown g6 (hb3.out).size (fun j hj => (ho3.out.lt j hj).1)
                have hB6 : Hid (Below w.heap.size w w6) := hVw.out.trans (hb6.out.mono hVw.out.size)
                have o6' : w6.ownsRow V.heap.size 48 4 v6 (nn + 1) (dcells docs') := by
                  rw [← hds.out, dcells_app]
                  simpa [dcells, Pap.cells, hdl.out] using o6
                obtain ⟨A6, c6, rfl, hD6⟩ := own_docs o6' hlen'.out (fun x hx => by
                  rw [← hds.out] at hx
                  rcases List.mem_append.1 hx with hx | hx
                  · obtain ⟨j, hj⟩ := List.mem_iff_getElem?.1 hx
                    obtain ⟨_, _, _, _, _, _, _, h1, h2, h3⟩ := (hD.out.below hB6.out) j x hj
                    exact ⟨h1, h2, h3⟩
                  · obtain rfl := List.mem_singleton.1 hx
                    exact hP.out.below hB6.out)
                have hD6' := Lib.hid hD6
                clear o6 o6' g6 e6 hD6
                refine ⟨hSx.out _ hb6.out, ?_⟩
                go_simp
                refine wpAnyH_all (rs := [8]) (by kernel_rfl) (by decide) ?_
                intro i hi'
                obtain rfl := List.mem_singleton.1 hi'
                refine held_call (f := 25) (args := #[.agg C, .slice A6 (nn + 1) c6, .int .i64 day]) rfl rfl (by go_simp) ?_
                refine (hex1.out A6 c6 w6 (hN.out.below hB6.out) hF ⟨hlen'.out, by omega, hD6'.out, he.out.below hB6.out, hsd'.out⟩ (by omega)).mono ?_
                rintro e w7 ⟨A7, c7, rfl, hF7, hb7⟩
                refine ⟨_, rfl, ?_⟩
                have hb7' : Hid (Below V.heap.size V w7) := hb6.out.trans (hb7.mono hb6.out.size)
                have hB7 : Hid (Below w.heap.size w w7) := hB6.out.trans (hb7.mono hB6.out.size)
                have hF7' := Lib.hid hF7
                clear hb7 hF7
                refine ⟨hSx.out _ hb7'.out, ?_⟩
                go_simp
                refine wpAnyH_all (rs := [12]) (by kernel_rfl) (by decide) ?_
                intro i hi'
                obtain rfl := List.mem_singleton.1 hi'
                refine held_call (f := 25) (args := #[.agg C, .slice A nn cc, .int .i64 day]) rfl rfl (by go_simp) ?_
                refine (hex0.out w7 (hN.out.below hB7.out) hF ⟨hnn.out, by omega, hD.out.below hB7.out, he.out.below hB7.out, hsd0.out⟩ (by omega)).mono ?_
                rintro e w8 ⟨A8, c8, rfl, hF8, hb8⟩
                refine ⟨_, rfl, ?_⟩
                have hb8' : Hid (Below V.heap.size V w8) := hb7'.out.trans (hb8.mono hb7'.out.size)
                have hB8 : Hid (Below w.heap.size w w8) := hB7.out.trans (hb8.mono hB7.out.size)
                have hF7'' := Lib.hid (hF7'.out.below hb8)
                have hF8' := Lib.hid hF8
                clear hb8 hF8
                refine ⟨hSx.out _ hb8'.out, ?_⟩
                go_simp
                refine wpAnyH_all (rs := [13]) (by kernel_rfl) (by decide) ?_
                intro i hi'
                obtain rfl := List.mem_singleton.1 hi'
                refine held_call (f := 24) (args := #[.slice A7 L.length c7, .slice A8 L.length c8]) rfl rfl (by go_simp) ?_
                refine (same_any A7 A8 L.length c7 L.length c8 L L w8 (by have := hLl'.out; unfold maxLen; omega) (by have := hLl'.out; unfold maxLen; omega) (Lib.hid rfl) (Lib.hid rfl) hF7'' hF8').mono ?_
                rintro e w9 ⟨rfl, hb9⟩
                refine ⟨_, rfl, ?_⟩
                have hb9' : Hid (Below V.heap.size V w9) := hb8'.out.trans (hb9.mono hb8'.out.size)
                have hB9 : Hid (Below w.heap.size w w9) := hB8.out.trans (hb9.mono hB8.out.size)
                clear hb9
                refine ⟨hSx.out _ hb9'.out, ?_⟩
                rw [sameB_refl]
                go_simp
                refine wpAnyH_take (i := 14) rfl (by kernel_rfl) (by kernel_rfl) (by kernel_rfl) (fun _ _ _ h => h) (yields_of rfl (fun _ _ => rfl)) (hSx.out _ hb9'.out) ?_
                go_simp
                refine wpAnyH_done (by kernel_rfl) ?_ _
                go_wp2_with fail
                go_ret
                exact ⟨rfl, hB9.out⟩
            · refine held_value (v := .slice (some ⟨(V).heap.size, 0, none⟩) 1 1) (w' := (V).alloc (.cells #[.int .i64 dk, .string dn, .string di, .slice dA dl dc] 48)) rfl rfl (by go_simp) ?_
              have hb5 : Hid (Below V.heap.size V ((V).alloc (.cells #[.int .i64 dk, .string dn, .string di, .slice dA dl dc] 48))) := ((Below.refl V.heap.size V)).alloc (by have := ((Below.refl V.heap.size V)).size; omega) _
              have hN5 := Lib.hid (Blk.new (V) 48 #[.int .i64 dk, .string dn, .string di, .slice dA dl dc])
              try rw [World.size_alloc] at hN5
              refine ⟨hSx.out _ hb5.out, ?_⟩
              go_simp
              refine wpAnyH_all (rs := [1]) (by kernel_rfl) (by decide) ?_
              intro i hi'
              obtain rfl := List.mem_singleton.1 hi'
              refine held_value (v := .slice (some ⟨(V.alloc (.cells #[.int .i64 dk, .string dn, .string di, .slice dA dl dc] 48)).heap.size, 0, none⟩) 0 0) (w' := (V.alloc (.cells #[.int .i64 dk, .string dn, .string di, .slice dA dl dc] 48)).alloc (.cells #[] 48)) rfl rfl (by go_simp) ?_
              have hb0 : Hid (Below V.heap.size V ((V.alloc (.cells #[.int .i64 dk, .string dn, .string di, .slice dA dl dc] 48)).alloc (.cells #[] 48))) := (hb5.out).alloc (by have := (hb5.out).size; omega) _
              have ho0 : Hid (((V.alloc (.cells #[.int .i64 dk, .string dn, .string di, .slice dA dl dc] 48)).alloc (.cells #[] 48)).ownsRow V.heap.size 48 4 (.slice (some ⟨(V.alloc (.cells #[.int .i64 dk, .string dn, .string di, .slice dA dl dc] 48)).heap.size, 0, none⟩) 0 0) 0 []) := own_mono_base (own_new (V.alloc (.cells #[.int .i64 dk, .string dn, .string di, .slice dA dl dc] 48)) 48 4) (hb5.out).size
              try rw [World.size_alloc] at ho0
              refine ⟨hSx.out _ hb0.out, ?_⟩
              go_simp
              refine wpAnyH_all (rs := [3]) (by kernel_rfl) (by decide) ?_
              intro i hi'
              obtain rfl := List.mem_singleton.1 hi'
              have hN5b := Lib.hid (hN5.out.alloc (.cells #[] 48))
              refine held_append rfl rfl (.tmp 44) (.tmp 45) 25 rfl V.heap.size 48 i0 _ 4 64 Tryd.underlying25 hi hz0 hz1 hz2 rfl (by decide) (.slice (some ⟨V.heap.size + 1, 0, none⟩) 0 0) 0 [] rfl ho0.out V.heap.size A nn cc (dcells docs) rfl (hrd.out.below (hb0.out)) hn1.out hm1.out hm3.out (hb0.out).size ?_
              intro v3 w3 o3 g3 e3
              simp only [Nat.zero_add, List.nil_append] at o3
              have hb3 : Hid (Below V.heap.size V w3) := (hb0.out).grown g3 (hb0.out).size (fun j hj => (ho0.out.lt j hj).1)
              have ho3 := Lib.hid o3
              have hN6 := Lib.hid (hN5b.out.grown g3 (by show some _ ≠ some _; simp))
              obtain ⟨A3, c3, rfl⟩ := own_slice o3
              clear o3 g3 e3
              refine ⟨hSx.out _ hb3.out, ?_⟩
              go_simp
              refine wpAnyH_all (rs := [6]) (by kernel_rfl) (by decide) ?_
              intro i hi'
              obtain rfl := List.mem_singleton.1 hi'
              refine held_append rfl rfl (.tmp 46) (.tmp 48) 25 rfl V.heap.size 48 i0 _ 4 64 Tryd.underlying25 hi hz0 hz1 hz2 rfl (by decide) (.slice A3 nn c3) nn (dcells docs) rfl ho3.out _ (some ⟨V.heap.size, 0, none⟩) 1 1 _ rfl (blk_reads hN6.out 4 1 rfl) hoN.out hm2.out hm4.out (hb3.out).size ?_
              intro v6 w6 o6 g6 e6
              have hb6 : Hid (Below V.heap.size V w6) := (hb3.out).grown g6 (hb3.out).size (fun j hj => (ho3.out.lt j hj).1)
              have hB6 : Hid (Below w.heap.size w w6) := hVw.out.trans (hb6.out.mono hVw.out.size)
              have o6' : w6.ownsRow V.heap.size 48 4 v6 (nn + 1) (dcells docs') := by
                rw [← hds.out, dcells_app]
                simpa [dcells, Pap.cells, hdl.out] using o6
              obtain ⟨A6, c6, rfl, hD6⟩ := own_docs o6' hlen'.out (fun x hx => by
                rw [← hds.out] at hx
                rcases List.mem_append.1 hx with hx | hx
                · obtain ⟨j, hj⟩ := List.mem_iff_getElem?.1 hx
                  obtain ⟨_, _, _, _, _, _, _, h1, h2, h3⟩ := (hD.out.below hB6.out) j x hj
                  exact ⟨h1, h2, h3⟩
                · obtain rfl := List.mem_singleton.1 hx
                  exact hP.out.below hB6.out)
              have hD6' := Lib.hid hD6
              clear o6 o6' g6 e6 hD6
              refine ⟨hSx.out _ hb6.out, ?_⟩
              go_simp
              refine wpAnyH_all (rs := [8]) (by kernel_rfl) (by decide) ?_
              intro i hi'
              obtain rfl := List.mem_singleton.1 hi'
              refine held_call (f := 25) (args := #[.agg C, .slice A6 (nn + 1) c6, .int .i64 day]) rfl rfl (by go_simp) ?_
              refine (hex1.out A6 c6 w6 (hN.out.below hB6.out) hF ⟨hlen'.out, by omega, hD6'.out, he.out.below hB6.out, hsd'.out⟩ (by omega)).mono ?_
              rintro e w7 ⟨A7, c7, rfl, hF7, hb7⟩
              refine ⟨_, rfl, ?_⟩
              have hb7' : Hid (Below V.heap.size V w7) := hb6.out.trans (hb7.mono hb6.out.size)
              have hB7 : Hid (Below w.heap.size w w7) := hB6.out.trans (hb7.mono hB6.out.size)
              have hF7' := Lib.hid hF7
              clear hb7 hF7
              refine ⟨hSx.out _ hb7'.out, ?_⟩
              go_simp
              refine wpAnyH_all (rs := [12]) (by kernel_rfl) (by decide) ?_
              intro i hi'
              obtain rfl := List.mem_singleton.1 hi'
              refine held_call (f := 25) (args := #[.agg C, .slice A nn cc, .int .i64 day]) rfl rfl (by go_simp) ?_
              refine (hex0.out w7 (hN.out.below hB7.out) hF ⟨hnn.out, by omega, hD.out.below hB7.out, he.out.below hB7.out, hsd0.out⟩ (by omega)).mono ?_
              rintro e w8 ⟨A8, c8, rfl, hF8, hb8⟩
              refine ⟨_, rfl, ?_⟩
              have hb8' : Hid (Below V.heap.size V w8) := hb7'.out.trans (hb8.mono hb7'.out.size)
              have hB8 : Hid (Below w.heap.size w w8) := hB7.out.trans (hb8.mono hB7.out.size)
              have hF7'' := Lib.hid (hF7'.out.below hb8)
              have hF8' := Lib.hid hF8
              clear hb8 hF8
              refine ⟨hSx.out _ hb8'.out, ?_⟩
              go_simp
              refine wpAnyH_all (rs := [13]) (by kernel_rfl) (by decide) ?_
              intro i hi'
              obtain rfl := List.mem_singleton.1 hi'
              refine held_call (f := 24) (args := #[.slice A7 L.length c7, .slice A8 L.length c8]) rfl rfl (by go_simp) ?_
              refine (same_any A7 A8 L.length c7 L.length c8 L L w8 (by have := hLl'.out; unfold maxLen; omega) (by have := hLl'.out; unfold maxLen; omega) (Lib.hid rfl) (Lib.hid rfl) hF7'' hF8').mono ?_
              rintro e w9 ⟨rfl, hb9⟩
              refine ⟨_, rfl, ?_⟩
              have hb9' : Hid (Below V.heap.size V w9) := hb8'.out.trans (hb9.mono hb8'.out.size)
              have hB9 : Hid (Below w.heap.size w w9) := hB8.out.trans (hb9.mono hB8.out.size)
              clear hb9
              refine ⟨hSx.out _ hb9'.out, ?_⟩
              rw [sameB_refl]
              go_simp
              refine wpAnyH_take (i := 14) rfl (by kernel_rfl) (by kernel_rfl) (by kernel_rfl) (fun _ _ _ h => h) (yields_of rfl (fun _ _ => rfl)) (hSx.out _ hb9'.out) ?_
              go_simp
              refine wpAnyH_done (by kernel_rfl) ?_ _
              go_wp2_with fail
              go_ret
              exact ⟨rfl, hB9.out⟩
end Go.Proofs.YtpnkpnocipkedaaDoor

/- A region that draws its order, whose operations are quiet in a class of worlds, all but one: a store, whenever it comes. -/
import Derived.Test.YtdgbghgcnkjjeaaDoorMem
import Derived.Deep.Quiet
import Derived.StillTail
namespace Go.Proofs.YtdgbghgcnkjjeaaDoor
open Go Go.RowKit

section
variable {P : Program} {ops : Array Oper} {md : Region.Mode} {C : Bool → World → Prop} {s : Nat}

def StoreAt (P : Program) (C : Bool → World → Prop) (o : Oper) (a : Act) : Prop := ∀ w, C false w → ∃ w', (execOp a.eval o).run P w = .ok .skip w' ∧ C true w'
def YieldsF (P : Program) (ops : Array Oper) (C : Bool → World → Prop) (s i : Nat) (o : Oper) (v : Value) (a : Act) : Prop :=
  (i = s ∧ o.guard = none ∧ StoreAt P C o a ∧ v = undef) ∨ (i ≠ s ∧ Region.wanted o (yielded ops a.tmps) = true ∧ ∀ b w, C b w → o.quietAt P a (C b) w v) ∨
  (i ≠ s ∧ Region.wanted o (yielded ops a.tmps) = false ∧ v = undef)
def fOp (P : Program) (ops : Array Oper) (C : Bool → World → Prop) (s i : Nat) (K : Act → Prop) (a : Act) : Prop :=
  match ops[i]? with
  | none => K a
  | some o => ∃ v, YieldsF P ops C s i o v a ∧ K (a.put o.dst v)

theorem fOp_mono {i : Nat} {a : Act} {K K' : Act → Prop} (h : ∀ a, K a → K' a) (hh : fOp P ops C s i K a) : fOp P ops C s i K' a := by
  unfold fOp at *
  split
  · exact h _ (by simpa [*] using hh)
  · rename_i o ho
    simp only [ho] at hh
    obtain ⟨v, h1, h2⟩ := hh
    exact ⟨v, h1, h _ h2⟩
def wpAnyF (P : Program) (md : Region.Mode) (ops : Array Oper) (C : Bool → World → Prop) (s : Nat) (Q : Act → Prop) : Nat → Array Bool → Act → Prop
  | 0, listed, a => Region.ready md ops listed = [] ∧ listed.getD s false = true ∧ Q a
  | f + 1, listed, a => Region.ready md ops listed ≠ [] ∧ ∀ i ∈ Region.ready md ops listed, fOp P ops C s i (wpAnyF P md ops C s Q f (listed.setIfInBounds i true)) a

theorem wpOp_of_fOp {i : Nat} {a : Act} {K : Act → Prop} {K' : Act → World → Prop} {Q' : Exit → Act → World → Prop} {w : World} {listed : Array Bool} (hi : i ∈ Region.ready md ops listed) (hC : C (listed.getD s false) w)
    (h : ∀ a w', C ((listed.setIfInBounds i true).getD s false) w' → K a → K' a w') (hh : fOp P ops C s i K a) : wpOp P ops Q' i K' a w := by
  obtain ⟨hun, oi, hoi, _⟩ := mem_ready.1 hi
  unfold fOp at hh
  unfold wpOp
  simp only [hoi] at hh ⊢
  have hlt : i < listed.size := by
    rcases Nat.lt_or_ge i listed.size with h | h
    · exact h
    · simp [Array.getElem?_eq_none h] at hun
  obtain ⟨v, hy, hk⟩ := hh
  rcases hy with ⟨rfl, hg, hs, rfl⟩ | ⟨hne, hw, hq⟩ | ⟨hne, hw, rfl⟩
  · have hw : Region.wanted oi (yielded ops a.tmps) = true := by simp [Region.wanted, hg]
    simp only [hw, if_true]
    refine .inl ?_
    rw [getD_both hun] at hC
    obtain ⟨w', hr, hC'⟩ := hs w hC
    unfold Oper.wp
    rw [hr]
    simp only [Oper.upon]
    refine h _ _ ?_ hk
    have : (listed.setIfInBounds i true).getD i false = true := by simp [hlt]
    rw [this]; exact hC'
  · simp only [hw, if_true]
    refine .inl (Oper.wp_of_quiet (K := K) hC (fun a' w' hw' hK => h a' w' ?_ hK) ⟨v, hq _, hk⟩)
    rw [getD_set_ne false hne]; exact hw'
  · simp only [hw]
    refine h _ _ ?_ hk
    rw [getD_set_ne false hne]; exact hC

theorem wpAny_of_fam {Q : Act → Prop} {Q' : Exit → Act → World → Prop} (hQ : ∀ a w, C true w → Q a → Q' .normal a w) : ∀ (fuel : Nat) (listed : Array Bool) (a : Act) (w : World), C (listed.getD s false) w →
    wpAnyF P md ops C s Q fuel listed a → wpAny P md ops Q' fuel listed a w
  | 0, _, _, _, hw, h => ⟨h.1, hQ _ _ (by rw [← h.2.1]; exact hw) h.2.2⟩
  | fuel + 1, _, _, _, hw, h => ⟨fun h0 => absurd h0 h.1, fun i hi => wpOp_of_fOp hi hw (fun a' w' hw' => wpAny_of_fam hQ fuel _ a' w' hw') (h.2 i hi)⟩

theorem YieldsF.of_same {i : Nat} {o : Oper} {v : Value} {a a' : Act} (hy : YieldsF P ops C s i o v a) (he : execOp a'.eval o = execOp a.eval o)
    (hw : Region.wanted o (yielded ops a'.tmps) = Region.wanted o (yielded ops a.tmps)) : YieldsF P ops C s i o v a' := by
  unfold YieldsF StoreAt Oper.quietAt at *
  rw [he, hw]
  exact hy
theorem fOp_put {i j : Nat} {oi oj : Oper} {v : Value} (hj : ops[j]? = some oj) (hap : oi.apart ops oj = true)
    (hsi : ∀ cs b, oi.op ≠ .select cs b) (hsj : ∀ cs b, oj.op ≠ .select cs b) {K : Act → Prop} {a : Act}
    (hy : YieldsF P ops C s i oi v a) (h : fOp P ops C s j K (a.put oi.dst v)) :
    fOp P ops C s j (fun a' => YieldsF P ops C s i oi v a' ∧ K (a'.put oi.dst v)) a := by
  obtain ⟨h1, h2, h3⟩ := Oper.apart_spec hap
  have keep : ∀ (a : Act), YieldsF P ops C s i oi v a → ∀ u, YieldsF P ops C s i oi v (a.put oj.dst u) := fun a hy u =>
    hy.of_same (execOp_put oi hsi a oj.dst u h3) (wanted_put oi a oj.dst u h3)
  unfold fOp at *
  simp only [hj] at *
  obtain ⟨u, hu, hn⟩ := h
  exact ⟨u, hu.of_same (execOp_put oj hsj a oi.dst v h1).symm (wanted_put oj a oi.dst v h1).symm, keep a hy u, by rw [← Act.put_comm a v u h2]; exact hn⟩

theorem wpAnyF_first {Q : Act → Prop} {i : Nat} {oi : Oper} {v : Value} (hi : ops[i]? = some oi) (hsel : ∀ (j : Nat) (o : Oper) cs b, ops[j]? = some o → o.op ≠ .select cs b) :
    ∀ (fuel : Nat) (listed : Array Bool) (a : Act),
      (∀ j oj, ops[j]? = some oj → j ≠ i → listed.getD j true = false → (∀ e ∈ oj.after, Region.binds md e = true → e.on ≠ i) → oi.apart ops oj = true) →
      i ∈ Region.ready md ops listed → YieldsF P ops C s i oi v a →
      wpAnyF P md ops C s Q fuel (listed.setIfInBounds i true) (a.put oi.dst v) → wpAnyF P md ops C s Q (fuel + 1) listed a := by
  intro fuel
  induction fuel with
  | zero =>
    intro listed a _ hr hy H
    refine ⟨fun h => (by rw [h] at hr; cases hr), fun j hj => ?_⟩
    by_cases hji : j = i
    · subst hji
      unfold fOp
      simp only [hi]
      exact ⟨v, hy, H⟩
    · have := ready_mono hj hji
      rw [H.1] at this
      cases this
  | succ fuel ih =>
    intro listed a hfree hr hy H
    refine ⟨fun h => (by rw [h] at hr; cases hr), fun j hj => ?_⟩
    by_cases hji : j = i
    · subst hji
      unfold fOp
      simp only [hi]
      exact ⟨v, hy, H⟩
    · have h1 := H.2 j (ready_mono hj hji)
      obtain ⟨hjun, oj, hoj, hall⟩ := mem_ready.1 hj
      have hnot : ∀ e ∈ oj.after, Region.binds md e = true → e.on ≠ i := fun e he hb heq => by
        have h1 := hall e he hb
        have h0 := (mem_ready.1 hr).1
        rw [heq, getD_both h0] at h1
        cases h1
      have h2 := fOp_put hoj (hfree j oj hoj hji hjun hnot) (fun cs b => hsel i oi cs b hi) (fun cs b => hsel j oj cs b hoj) hy h1
      have hfree' : ∀ k ok, ops[k]? = some ok → k ≠ i → (listed.setIfInBounds j true).getD k true = false →
          (∀ e ∈ ok.after, Region.binds md e = true → e.on ≠ i) → oi.apart ops ok = true := fun k ok hk hki hun hno => by
        refine hfree k ok hk hki ?_ hno
        by_cases hjk : j = k
        · subst hjk; exact hjun
        · rw [getD_set_ne true hjk] at hun; exact hun
      refine fOp_mono (fun a' h3 => ih (listed.setIfInBounds j true) a' hfree' (ready_mono hr (Ne.symm hji)) h3.1 ?_) h2
      rw [Array.setIfInBounds_comm _ _ hji]
      exact h3.2

/-- The walk in the order of the text, with the values that it leaves. -/
def wpF (P : Program) (ops : Array Oper) (C : Bool → World → Prop) (s : Nat) (Q : Act → Prop) : Nat → List Oper → Act → Prop
  | _, [], a => Q a
  | k, o :: rest, a => ∃ v, YieldsF P ops C s k o v a ∧ wpF P ops C s Q (k + 1) rest (a.put o.dst v)

theorem wpAnyF_lex {Q : Act → Prop} (hs : Region.noSelect ops = true) (hsz : s < ops.size) : ∀ (l : List Oper) (k : Nat) (listed : Array Bool) (a : Act), (∀ j, l[j]? = ops[k + j]?) → k + l.length = ops.size → listed.size = ops.size → (s < k → listed.getD s false = true) →
    Region.lexFrom md ops l.length k listed = true → wpF P ops C s Q k l a → wpAnyF P md ops C s Q l.length listed a
  | [], k, _, _, _, hk, _, hsk, hB, h => ⟨by simpa [Region.lexFrom] using hB, hsk (by simp at hk; omega), h⟩
  | o :: l, k, listed, a, hl, hk, hls, hsk, hB, h => by
    have h0 : ops[k]? = some o := by simpa using (hl 0).symm
    simp only [List.length_cons, Region.lexFrom, Bool.and_eq_true] at hB
    obtain ⟨⟨hr, hf⟩, hB'⟩ := hB
    obtain ⟨v, hy, hK⟩ := h
    have hkl : k < listed.size := by rw [hls]; simp at hk; omega
    refine wpAnyF_first h0 (Region.noSelect_spec hs) l.length listed a (Region.free_spec h0 hf) (by simpa using hr) hy
      (wpAnyF_lex hs hsz l (k + 1) _ _ (fun j => by have := hl (j + 1); simpa [Nat.add_assoc, Nat.add_comm 1 j] using this) (by simp at hk; omega) (by simpa using hls) (fun hlt => ?_) hB' hK)
    by_cases e : k = s
    · subst e; simp [hkl]
    · rw [getD_set_ne false e]; exact hsk (by omega)

/-- Each operation writes a slot of its own. -/
def ownDsts (n : Nat) : List Oper → Bool
  | [] => true
  | o :: rest => (match o.dst with
    | some d => decide (d < n) && rest.all (fun o' => o'.dst != some d)
    | none => false) && ownDsts n rest

theorem put_size (a : Act) (d : Option Tmp) (v : Value) : (a.put d v).tmps.size = a.tmps.size := by
  cases d <;> simp [Act.put]
theorem put_get (a : Act) (d : Tmp) (v : Value) (h : d < a.tmps.size) : (a.put (some d) v).tmps.getD d undef = v := by
  simp [Act.put, h]
theorem put_other (a : Act) (d : Option Tmp) (e : Tmp) (v : Value) (h : d ≠ some e) : (a.put d v).tmps.getD e undef = a.tmps.getD e undef := by
  cases d with
  | none => simp [Act.put]
  | some d =>
    have : d ≠ e := fun h' => h (by rw [h'])
    simp only [Act.put, Array.getD_eq_getD_getElem?]
    rw [Array.getElem?_setIfInBounds_ne this]
theorem quiet_keeps {C : World → Prop} {A : Act} {d : Tmp} : ∀ (l : List Oper) (a : Act), l.all (fun o' => o'.dst != some d) = true → wpQuiet P ops C (fun a' => a' = A) l a → A.tmps.getD d undef = a.tmps.getD d undef
  | [], a, _, h => by have : a = A := h; rw [this]
  | o :: rest, a, hd, h => by
    simp only [List.all_cons, Bool.and_eq_true] at hd
    have hne : o.dst ≠ some d := by simpa using hd.1
    rw [wpQuiet] at h
    split at h
    · obtain ⟨v, _, h2⟩ := h
      rw [quiet_keeps rest _ hd.2 h2, put_other _ _ _ _ hne]
    · rw [quiet_keeps rest _ hd.2 h, put_other _ _ _ _ hne]
theorem wpF_of_two {A : Act} {Q : Act → Prop} (n : Nat) (more : List Oper) : ∀ (l : List Oper) (k : Nat) (a : Act), ownDsts n l = true → a.tmps.size = n → (∀ j, j < l.length → k + j ≠ s) → (∀ b, wpQuiet P ops (C b) (fun a' => a' = A) l a) →
    wpF P ops C s Q (k + l.length) more A → wpF P ops C s Q k (l ++ more) a
  | [], k, a, _, _, _, h, hm => by have : a = A := h true; rw [this]; simpa using hm
  | o :: rest, k, a, hd, hn, hne, h, hm => by
    rw [ownDsts] at hd
    simp only [Bool.and_eq_true] at hd
    obtain ⟨hd1, hd2⟩ := hd
    rw [List.cons_append, wpF]
    have hks : k ≠ s := by simpa using hne 0 (by simp)
    have hm' : wpF P ops C s Q (k + 1 + rest.length) more A := by rw [show k + 1 + rest.length = k + (o :: rest).length by simp; omega]; exact hm
    have hne' : ∀ j, j < rest.length → k + 1 + j ≠ s := fun j hj => by have := hne (j + 1) (by simp; omega); omega
    cases hdst : o.dst with
    | none => rw [hdst] at hd1; cases hd1
    | some d =>
      rw [hdst] at hd1
      simp only [Bool.and_eq_true, decide_eq_true_eq] at hd1
      by_cases hw : Region.wanted o (yielded ops a.tmps) = true
      · have key : ∀ b, (∀ w, C b w → o.quietAt P a (C b) w (A.tmps.getD d undef)) ∧ wpQuiet P ops (C b) (fun a' => a' = A) rest (a.put (some d) (A.tmps.getD d undef)) := by
          intro b
          have hb := h b
          rw [wpQuiet, if_pos hw] at hb
          obtain ⟨v, h1, h2⟩ := hb
          rw [hdst] at h2
          have e := quiet_keeps (d := d) rest _ hd1.2 h2
          rw [put_get _ _ _ (by rw [hn]; exact hd1.1)] at e
          rw [e]; exact ⟨h1, h2⟩
        refine ⟨_, .inr (.inl ⟨hks, hw, fun b => (key b).1⟩), ?_⟩
        exact wpF_of_two n more rest (k + 1) _ hd2 (by rw [put_size]; exact hn) hne' (fun b => (key b).2) hm'
      · refine ⟨undef, .inr (.inr ⟨hks, by simpa using hw, rfl⟩), ?_⟩
        refine wpF_of_two n more rest (k + 1) _ hd2 (by rw [put_size]; exact hn) hne' (fun b => ?_) hm'
        have hb := h b
        rw [wpQuiet, if_neg hw, hdst] at hb
        exact hb

/-- A region that draws: all is quiet, but for one store, in whatever order. -/
theorem wp_region_store {id : Nat} {Q : Exit → Act → World → Prop} {a A1 A : Act} {w : World} {l : List Oper} (s n : Nat) (o : Oper) (C : Bool → World → Prop) (hm : P.follows .mixedOrders = true) (hB : Region.lexB .any l.toArray = true)
    (ho : l[s]? = some o) (hg : o.guard = none) (hd : o.dst = none) (hd1 : ownDsts n (l.take s) = true) (hd2 : ownDsts n (l.drop (s + 1)) = true) (hn : a.tmps.size = n) (hC : C false w.drew)
    (h1 : ∀ b, wpQuiet P l.toArray (C b) (fun a' => a' = A1) (l.take s) a)
    (hs : ∀ w, C false w → ∃ w', (execOp A1.eval o).run P w = .ok .skip w' ∧ C true w')
    (h2 : ∀ b, wpQuiet P l.toArray (C b) (fun a' => a' = A) (l.drop (s + 1)) A1) (hn1 : A1.tmps.size = n)
    (hQ : ∀ w, C true w → Q .normal A w) : (Code.region id l.toArray true).wp P Q a w := by
  simp only [Region.lexB, Bool.and_eq_true] at hB
  have hsl : s < l.length := (List.getElem?_eq_some_iff.1 ho).1
  have hlo : l = l.take s ++ o :: l.drop (s + 1) := by
    have := (List.getElem?_eq_some_iff.1 ho).2
    rw [← this, ← List.drop_eq_getElem_cons hsl, List.take_append_drop]
  have hts : (l.take s).length = s := by simp; omega
  refine wp_region_any hm (wpAny_of_fam (C := C) (s := s) (Q := fun a' => a' = A) (fun a' w' hw' e => by rw [e]; exact hQ w' hw') _ _ _ _ ?_ ?_)
  · have : (Array.replicate l.toArray.size false).getD s false = false := getD_replicate_false _ _
    rw [this]; exact hC
  · have H := wpAnyF_lex (P := P) (C := C) (md := .any) (Q := fun a' => a' = A) (s := s) hB.1 (by simpa using hsl) l 0 (Array.replicate l.toArray.size false) a (by simp) (by simp) (by simp) (fun h => by omega) (by simpa using hB.2) ?_
    · simpa using H
    · have key : wpF P l.toArray C s (fun a' => a' = A) 0 (l.take s ++ o :: l.drop (s + 1)) a := by
        refine wpF_of_two n _ (l.take s) 0 a hd1 hn (fun j hj => by rw [hts] at hj; omega) h1 ?_
        rw [Nat.zero_add, hts, wpF]
        refine ⟨undef, .inl ⟨rfl, hg, hs, rfl⟩, ?_⟩
        have e0 : A1.put o.dst undef = A1 := by rw [hd]; rfl
        rw [e0]
        have := wpF_of_two (P := P) (ops := l.toArray) (C := C) (s := s) (Q := fun a' => a' = A) (A := A) n [] (l.drop (s + 1)) (s + 1) A1 hd2 hn1 (fun j hj => by omega) h2 (by rw [wpF])
        simpa using this
      rw [← hlo] at key
      exact key
end

/-- All is as it was, but for one block. -/
structure But (z : Nat) (w w' : World) : Prop where
  os : w'.os = w.os
  tape : w'.tape = w.tape
  output : w'.output = w.output
  size : w.heap.size ≤ w'.heap.size
  block : ∀ k, k < w.heap.size → k ≠ z → w'.heap[k]? = w.heap[k]?
theorem But.refl (z : Nat) (w : World) : But z w w := ⟨rfl, rfl, rfl, Nat.le_refl _, fun _ _ _ => rfl⟩
theorem But.below {z : Nat} {w w1 w2 : World} (h : But z w w1) (hb : Below w1.heap.size w1 w2) : But z w w2 :=
  ⟨hb.os.trans h.os, hb.tape.trans h.tape, hb.output.trans h.output, Nat.le_trans h.size hb.size, fun k hk hz => (hb.block k (Nat.lt_of_lt_of_le hk h.size)).trans (h.block k hk hz)⟩
theorem But.setCell {z : Nat} {w w1 : World} (h : But z w w1) (o : Nat) (u : Value) : But z w (w1.setCell ⟨z, o, none⟩ u) :=
  ⟨h.os, h.tape, h.output, by have := h.size; simpa [World.setCell] using this, fun k hk hz => (Below.heap_setCell _ _ _ _ hz).trans (h.block k hk hz)⟩
theorem But.to_below {z B : Nat} {w0 w w' : World} (h : But z w w') (hb : Below B w0 w) (hz : B ≤ z) (hB : B ≤ w.heap.size) : Below B w0 w' :=
  ⟨h.os.trans hb.os, h.tape.trans hb.tape, h.output.trans hb.output, Nat.le_trans hb.size h.size, fun k hk => (h.block k (by omega) (by omega)).trans (hb.block k hk)⟩
theorem But.cell {z : Nat} {w w' : World} (h : But z w w') {p : Addr} (hp : p.block < w.heap.size) (hz : p.block ≠ z) : w'.cell? p = w.cell? p := by
  have e := h.block p.block hp hz
  unfold World.cell?
  rw [e]

def FamT (w : World) (z : Nat) (t : TypeId) (cs : Bool → Array Value) (b : Bool) : Type := { w' : World // But z w w' ∧ Blk w' z t (cs b) }
def FamT.wd {w : World} {z : Nat} {t : TypeId} {cs : Bool → Array Value} {b : Bool} (x : FamT w z t cs b) : World := x.1
theorem FamT.cell {w : World} {z : Nat} {t : TypeId} {cs : Bool → Array Value} {b : Bool} (x : FamT w z t cs b) (p : Addr) (hp : p.block < w.heap.size) (hz : p.block ≠ z) : x.wd.cell? p = w.cell? p := x.2.1.cell hp hz
theorem Calls.fam_of {P : Program} {f : FuncId} {args : Array Value} {w : World} {z : Nat} {t : TypeId} {cs : Bool → Array Value} {b : Bool} {x : FamT w z t cs b} {v : Value}
    (h : Calls P f args x.wd fun e w' => e = .returned v ∧ Below x.wd.heap.size x.wd w') : Calls P f args x.wd fun e w'' => e = .returned v ∧ ∃ y : FamT w z t cs b, w'' = y.wd :=
  h.mono fun _ _ ⟨he, hb⟩ => ⟨he, ⟨⟨_, x.2.1.below hb, x.2.2.below hb x.2.2.lt⟩, rfl⟩⟩
end Go.Proofs.YtdgbghgcnkjjeaaDoor

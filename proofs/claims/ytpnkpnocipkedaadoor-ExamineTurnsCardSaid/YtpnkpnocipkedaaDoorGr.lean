/- A region that draws its order and whose operations make memory, call, or yield: whatever the order, each leaves what it is said to leave, where what it waits for left what that is said to leave. -/
import Derived.Test.YtpnkpnocipkedaaDoorG
import Derived.OrdersHeld
namespace Go.Proofs.YtpnkpnocipkedaaDoor
open Go Go.RowKit Go.BigFrame Go.Maps

section
variable {P : Program} {ops : Array Oper} {o : Oper} {a : Act} {W W' : World} {K : Value → World → Prop}

/-- One operation, wanted or not: what it leaves, and in which world. -/
def Stepped (P : Program) (ops : Array Oper) (o : Oper) (a : Act) (W : World) (K : Value → World → Prop) : Prop :=
  (Region.wanted o (yielded ops a.tmps) = true ∧
    ((∃ v W', (execOp a.eval o).run P W = .ok (.value v) W' ∧ K v W') ∨
     (∃ f args W', (execOp a.eval o).run P W = .ok (.enter f args) W' ∧ Calls P f args W' fun e W'' => ∃ v, e = .returned v ∧ K v W''))) ∨
  (Region.wanted o (yielded ops a.tmps) = false ∧ K undef W)
theorem Stepped.wpOp {i : Nat} (hi : ops[i]? = some o) (h : Stepped P ops o a W K) {Q : Exit → Act → World → Prop} {K' : Act → World → Prop} (hk : ∀ v W', K v W' → K' (a.put o.dst v) W') : wpOp P ops Q i K' a W := by
  unfold Go.wpOp
  simp only [hi]
  rcases h with ⟨hw, h⟩ | ⟨hw, h⟩
  · rw [if_pos hw]
    unfold Oper.wp
    rcases h with ⟨v, W', hr, h⟩ | ⟨f, args, W', hr, h⟩
    · rw [hr, Oper.upon_value]; exact .inl (hk _ _ h)
    · rw [hr, Oper.upon_enter]
      exact .inl (h.mono (fun e W'' ⟨v, he, h⟩ => by subst he; exact hk _ _ h))
  · rw [if_neg (by rw [hw]; simp)]; exact hk _ _ h
theorem stepped_value {v : Value} (hg : o.guard = none) (hop : (execOp a.eval o).run P W = .ok (.value v) W') (h : K v W') : Stepped P ops o a W K :=
  .inl ⟨by simp [Region.wanted, hg], .inl ⟨v, W', hop, h⟩⟩
theorem stepped_call {f : FuncId} {args : Array Value} (hg : o.guard = none) (hop : (execOp a.eval o).run P W = .ok (.enter f args) W) (h : Calls P f args W fun e W'' => ∃ v, e = .returned v ∧ K v W'') : Stepped P ops o a W K :=
  .inl ⟨by simp [Region.wanted, hg], .inr ⟨f, args, W, hop, h⟩⟩
theorem wanted_of {j : Nat} {b c : Bool} {d : Tmp} {v : Value} (hg : o.guard = some (j, b)) (hd : (ops[j]?).bind (·.dst) = some d) (hn : d < a.tmps.size) (hv : a.tmps.getD d undef = v) (hvb : v = .bool c) : Region.wanted o (yielded ops a.tmps) = (c == b) := by
  subst hvb
  have : a.tmps[d]? = some (.bool c) := by
    rw [Array.getD_eq_getD_getElem?] at hv
    rw [Array.getElem?_eq_getElem hn] at hv ⊢
    simpa using hv
  simp [Region.wanted, hg, yielded, hd, this]
theorem stepped_skip (hw : Region.wanted o (yielded ops a.tmps) = false) (h : K undef W) : Stepped P ops o a W K := .inr ⟨hw, h⟩
theorem stepped_value_if {v : Value} (hw : Region.wanted o (yielded ops a.tmps) = true) (hop : (execOp a.eval o).run P W = .ok (.value v) W') (h : K v W') : Stepped P ops o a W K :=
  .inl ⟨hw, .inl ⟨v, W', hop, h⟩⟩
theorem stepped_call_if {f : FuncId} {args : Array Value} (hw : Region.wanted o (yielded ops a.tmps) = true) (hop : (execOp a.eval o).run P W = .ok (.enter f args) W) (h : Calls P f args W fun e W'' => ∃ v, e = .returned v ∧ K v W'') : Stepped P ops o a W K :=
  .inl ⟨hw, .inr ⟨f, args, W, hop, h⟩⟩

/-- All operations of a region, each with its place. -/
def allOps (F : Nat → Oper → Prop) : List Oper → Nat → Prop
  | [], _ => True
  | o :: l, k => F k o ∧ allOps F l (k + 1)
theorem allOps_nil {F : Nat → Oper → Prop} {k : Nat} : allOps F [] k := trivial
theorem allOps_cons {F : Nat → Oper → Prop} {o : Oper} {l : List Oper} {k : Nat} (h : F k o) (t : allOps F l (k + 1)) : allOps F (o :: l) k := ⟨h, t⟩
theorem allOps_get {F : Nat → Oper → Prop} : ∀ {l : List Oper} {k : Nat}, allOps F l k → ∀ (i : Nat) (o : Oper), l[i]? = some o → F (k + i) o
  | [], _, _, i, o, h => by simp at h
  | o :: l, k, h, 0, o', hi => by simp at hi; subst hi; exact h.1
  | o :: l, k, h, i + 1, o', hi => by
    have := allOps_get h.2 i o' (by simpa using hi)
    rwa [show k + 1 + i = k + (i + 1) by omega] at this

theorem own_lt {n : Nat} : ∀ {l : List Oper}, ownDsts n l = true → ∀ (i : Nat) (o : Oper), l[i]? = some o → ∃ d, o.dst = some d ∧ d < n
  | [], _, i, o, h => by simp at h
  | o :: l, h, i, o', hi => by
    rw [ownDsts, Bool.and_eq_true] at h
    cases i with
    | zero =>
      simp at hi; subst hi
      have h1 := h.1
      split at h1
      · rename_i d hd
        simp only [Bool.and_eq_true, decide_eq_true_eq] at h1
        exact ⟨d, hd, h1.1⟩
      · cases h1
    | succ i => exact own_lt h.2 i o' (by simpa using hi)
theorem own_one {n : Nat} : ∀ {l : List Oper}, ownDsts n l = true → ∀ (i j : Nat) (oi oj : Oper) (d : Tmp), l[i]? = some oi → l[j]? = some oj → oi.dst = some d → oj.dst = some d → i = j
  | [], _, i, j, oi, oj, d, h, _, _, _ => by simp at h
  | o :: l, h, i, j, oi, oj, d, hi, hj, di, dj => by
    rw [ownDsts, Bool.and_eq_true] at h
    have key : ∀ (k : Nat) (ok : Oper), l[k]? = some ok → o.dst = some d → ok.dst = some d → False := by
      intro k ok hk h0 h1
      have h2 := h.1
      rw [h0] at h2
      simp only [Bool.and_eq_true, List.all_eq_true] at h2
      have := h2.2 ok (List.mem_of_getElem? hk)
      simp [h1] at this
    cases i with
    | zero =>
      cases j with
      | zero => rfl
      | succ j =>
        simp at hi; subst hi
        exact (key j oj (by simpa using hj) di dj).elim
    | succ i =>
      cases j with
      | zero =>
        simp at hj; subst hj
        exact (key i oi (by simpa using hi) dj di).elim
      | succ j => rw [own_one h.2 i j oi oj d (by simpa using hi) (by simpa using hj) di dj]

/-- What all operations left, put down in the text's order. -/
def putAll (vs : Nat → Value) : List Oper → Nat → Act → Act
  | [], _, a => a
  | o :: l, k, a => putAll vs l (k + 1) (a.put o.dst (vs k))
theorem putAll_size (vs : Nat → Value) : ∀ (l : List Oper) (k : Nat) (a : Act), (putAll vs l k a).tmps.size = a.tmps.size
  | [], _, _ => rfl
  | o :: l, k, a => by rw [putAll, putAll_size vs l, put_size]
theorem put_defers (a : Act) (d : Option Tmp) (v : Value) : (a.put d v).defers = a.defers := by cases d <;> rfl
theorem putAll_defers (vs : Nat → Value) : ∀ (l : List Oper) (k : Nat) (a : Act), (putAll vs l k a).defers = a.defers
  | [], _, _ => rfl
  | o :: l, k, a => by rw [putAll, putAll_defers vs l, put_defers]
theorem putAll_out (vs : Nat → Value) {s : Nat} : ∀ (l : List Oper) (k : Nat) (a : Act), (∀ o ∈ l, o.dst ≠ some s) → (putAll vs l k a).tmps.getD s undef = a.tmps.getD s undef
  | [], _, _, _ => rfl
  | o :: l, k, a, h => by rw [putAll, putAll_out vs l _ _ (fun o' ho => h o' (by simp [ho])), put_other _ _ _ _ (h o (by simp))]
theorem putAll_in (vs : Nat → Value) {n : Nat} : ∀ (l : List Oper) (k : Nat) (a : Act), ownDsts n l = true → a.tmps.size = n → ∀ (i : Nat) (o : Oper) (d : Tmp), l[i]? = some o → o.dst = some d → (putAll vs l k a).tmps.getD d undef = vs (k + i)
  | [], _, _, _, _, i, o, d, hi, _ => by simp at hi
  | o :: l, k, a, hd, hn, i, o', d, hi, hdst => by
    rw [putAll]
    cases i with
    | zero =>
      simp at hi; subst hi
      have hlt : d < n := by
        obtain ⟨d', e, h⟩ := own_lt hd 0 o rfl
        rw [hdst] at e; cases e; exact h
      rw [putAll_out, hdst, put_get _ _ _ (by rw [hn]; exact hlt), Nat.add_zero]
      intro o' ho' h'
      obtain ⟨j, hj⟩ := List.mem_iff_getElem?.1 ho'
      have := own_one hd 0 (j + 1) o o' d rfl (by simpa using hj) hdst h'
      omega
    | succ i =>
      have hd2 : ownDsts n l = true := by rw [ownDsts, Bool.and_eq_true] at hd; exact hd.2
      rw [putAll_in vs l (k + 1) _ hd2 (by rw [put_size]; exact hn) i o' d (by simpa using hi) hdst]
      congr 1; omega
theorem act_ext {a b : Act} (h : a.tmps = b.tmps) (hd : a.defers = b.defers) : a = b := by
  cases a; cases b; simp at h hd; subst h hd; rfl
theorem arr_ext {a b : Array Value} (hs : a.size = b.size) (h : ∀ s, s < a.size → a.getD s undef = b.getD s undef) : a = b := by
  apply Array.ext hs
  intro i h1 h2
  have := h i h1
  simpa [Array.getD_eq_getD_getElem?, h1, h2] using this

/-- A region's state behind some of its operations. -/
structure Held (l : List Oper) (n : Nat) (a0 : Act) (G : Nat → Value → World → Prop) (listed : Array Bool) (a : Act) (W : World) : Prop where
  size : a.tmps.size = n
  defers : a.defers = a0.defers
  other : ∀ s, (∀ o ∈ l, o.dst ≠ some s) → a.tmps.getD s undef = a0.tmps.getD s undef
  done : ∀ (i : Nat) (o : Oper) (d : Tmp), l[i]? = some o → o.dst = some d → listed.getD i false = true → G i (a.tmps.getD d undef) W

/-- What an operation may lean on. -/
def Leans (l : List Oper) (n : Nat) (a0 : Act) (G : Nat → Value → World → Prop) (w : World) (o : Oper) (a : Act) (W : World) : Prop :=
  Below w.heap.size w W ∧ a.tmps.size = n ∧ (∀ s, l.all (fun o' => o'.dst != some s) = true → a.tmps.getD s undef = a0.tmps.getD s undef) ∧
  ∀ j d, (o.after.any (fun e => e.on == j && Region.binds .any e) && ((l[j]?).bind (·.dst) == some d)) = true → G j (a.tmps.getD d undef) W
theorem getD_range {arr : Array Bool} {j : Nat} (h : arr.getD j true = false) : arr.getD j false = false ∧ j < arr.size := by
  rcases Nat.lt_or_ge j arr.size with h1 | h1
  · simp [h1] at h ⊢; exact h
  · simp [Array.getElem?_eq_none h1] at h

/-- What an operation waits for stands ahead of it. -/
def backB : List Oper → Nat → Bool
  | [], _ => true
  | o :: l, k => o.after.all (fun e => decide (e.on < k)) && backB l (k + 1)
theorem back_get : ∀ {l : List Oper} {k : Nat}, backB l k = true → ∀ (i : Nat) (o : Oper), l[i]? = some o → ∀ e ∈ o.after, e.on < k + i
  | [], _, _, i, o, h => by simp at h
  | o :: l, k, h, i, o', hi => by
    rw [backB, Bool.and_eq_true] at h
    intro e he
    cases i with
    | zero =>
      simp at hi; subst hi
      have := Array.all_eq_true_iff_forall_mem.1 h.1 e he
      simpa using this
    | succ i =>
      have := back_get h.2 i o' (by simpa using hi) e he
      omega
theorem ready_end {l : List Oper} {listed : Array Bool} (hbk : backB l 0 = true) (hls : listed.size = l.length) (hr : Region.ready .any l.toArray listed = []) : ∀ i, i < l.length → listed.getD i false = true := by
  intro i
  induction i using Nat.strongRecOn with
  | ind i ih =>
    intro hi
    cases hg : listed.getD i false with
    | true => rfl
    | false =>
      exfalso
      have : i ∈ Region.ready .any l.toArray listed := by
        rw [mem_ready]
        refine ⟨?_, l[i], by simp [hi], fun e he _ => ?_⟩
        · have h1 : i < listed.size := by omega
          simp [h1] at hg ⊢; exact hg
        · have := back_get hbk i l[i] (List.getElem?_eq_getElem hi) e he
          exact ih e.on (by omega) (by omega)
      rw [hr] at this; cases this
theorem wpAny_grow {Q : Exit → Act → World → Prop} {a0 : Act} {w : World} {l : List Oper} (n : Nat) (G : Nat → Value → World → Prop) (hd : ownDsts n l = true) (hbk : backB l 0 = true) (hn : a0.tmps.size = n)
    (hmono : ∀ i v W W', G i v W → Below W.heap.size W W' → G i v W')
    (hstep : allOps (fun i o => ∀ a W, Leans l n a0 G w o a W → Stepped P l.toArray o a W fun v W' => Below W.heap.size W W' ∧ G i v W') l 0)
    (hend : ∀ (vs : Nat → Value) W, Below w.heap.size w W → (∀ i, i < l.length → G i (vs i) W) → Q .normal (putAll vs l 0 a0) W) :
    ∀ (fuel : Nat) (listed : Array Bool) (a : Act) (W : World), listed.size = l.length → (listed.toList.countP (· == false)) ≤ fuel → Below w.heap.size w W → Held l n a0 G listed a W → wpAny P .any l.toArray Q fuel listed a W := by
  have fin : ∀ (listed : Array Bool) (a : Act) (W : World), listed.size = l.length → Region.ready .any l.toArray listed = [] → (∀ i, i < l.length → listed.getD i false = true) → Below w.heap.size w W → Held l n a0 G listed a W → Q .normal a W := by
    intro listed a W hls _ hall hb hH
    let vs : Nat → Value := fun i => a.tmps.getD (((l[i]?).bind (·.dst)).getD 0) undef
    have hvs : ∀ (i : Nat) (o : Oper) (d : Tmp), l[i]? = some o → o.dst = some d → vs i = a.tmps.getD d undef := by
      intro i o d hi hdst
      show a.tmps.getD (((l[i]?).bind (·.dst)).getD 0) undef = _
      rw [hi]; simp [hdst]
    have he : a = putAll vs l 0 a0 := by
      refine act_ext (arr_ext (by rw [putAll_size, hH.size, hn]) fun s hs => ?_) (by rw [putAll_defers, hH.defers])
      by_cases hx : ∃ (i : Nat) (o : Oper), l[i]? = some o ∧ o.dst = some s
      · obtain ⟨i, o, hi, hds⟩ := hx
        rw [putAll_in vs l 0 a0 hd hn i o s hi hds, Nat.zero_add, hvs i o s hi hds]
      · rw [putAll_out, hH.other]
        · intro o ho h; obtain ⟨i, hi⟩ := List.mem_iff_getElem?.1 ho; exact hx ⟨i, o, hi, h⟩
        · intro o ho h; obtain ⟨i, hi⟩ := List.mem_iff_getElem?.1 ho; exact hx ⟨i, o, hi, h⟩
    rw [he]
    refine hend vs W hb fun i hi => ?_
    obtain ⟨d, hdst, _⟩ := own_lt hd i l[i] (List.getElem?_eq_getElem hi)
    rw [hvs i l[i] d (List.getElem?_eq_getElem hi) hdst]
    exact hH.done i _ d (List.getElem?_eq_getElem hi) hdst (hall i hi)
  have step : ∀ (listed : Array Bool) (a : Act) (W : World) (i : Nat) (K : Act → World → Prop), listed.size = l.length → i ∈ Region.ready .any l.toArray listed → Below w.heap.size w W → Held l n a0 G listed a W →
      (∀ a' W', Below w.heap.size w W' → Held l n a0 G (listed.setIfInBounds i true) a' W' → K a' W') → wpOp P l.toArray Q i K a W := by
    intro listed a W i K hls hi hb hH hK
    obtain ⟨hun, o, ho, hall⟩ := mem_ready.1 hi
    have ho' : l[i]? = some o := by simpa using ho
    have hob := allOps_get hstep i o ho'
    rw [Nat.zero_add] at hob
    obtain ⟨d, hdst, hdn⟩ := own_lt hd i o ho'
    refine (hob a W ⟨hb, hH.size, fun s hs => hH.other s (fun o' ho' h => ?_), fun j d' hj => ?_⟩).wpOp ho fun v W' ⟨hb', hG⟩ => hK _ _ (hb.trans (hb'.mono hb.size)) ?_
    · have := List.all_eq_true.1 hs o' ho'
      simp [h] at this
    · simp only [Bool.and_eq_true, beq_iff_eq, Array.any_eq_true'] at hj
      obtain ⟨⟨e, hem, he1, he2⟩, hj2⟩ := hj
      cases hlj : l[j]? with
      | none => rw [hlj] at hj2; simp at hj2
      | some oj =>
        rw [hlj] at hj2
        simp at hj2
        exact hH.done j oj d' hlj hj2 (by rw [← he1]; exact hall e hem he2)
    · refine ⟨by rw [put_size]; exact hH.size, by rw [put_defers]; exact hH.defers, fun s hs => ?_, fun j oj dj hj hdj hlj => ?_⟩
      · rw [put_other _ _ _ _ (hs o (List.mem_of_getElem? ho')), hH.other s hs]
      · by_cases hij : i = j
        · subst hij
          rw [ho'] at hj; cases hj
          rw [hdst] at hdj; cases hdj
          rw [hdst, put_get _ _ _ (by rw [hH.size]; exact hdn)]
          exact hG
        · rw [put_other _ _ _ _ (fun h => hij (own_one hd i j o oj dj ho' hj h hdj))]
          refine hmono _ _ _ _ (hH.done j oj dj hj hdj ?_) hb'
          rwa [getD_set_ne false hij] at hlj
  intro fuel
  induction fuel with
  | zero =>
    intro listed a W hls hf hb hH
    have hall : ∀ i, i < l.length → listed.getD i false = true := by
      intro i hi
      have h0 : listed.toList.countP (· == false) = 0 := by omega
      rw [List.countP_eq_zero] at h0
      have hm : listed[i]'(by omega) ∈ listed.toList := by simp
      have := h0 _ hm
      simp [show i < listed.size by omega]
      simpa using this
    have hr : Region.ready .any l.toArray listed = [] := by
      rw [List.eq_nil_iff_forall_not_mem]
      intro i hi
      obtain ⟨hun, o, ho, _⟩ := mem_ready.1 hi
      obtain ⟨h1, h2⟩ := getD_range hun
      rw [hall i (by omega)] at h1; cases h1
    exact ⟨hr, fin listed a W hls hr hall hb hH⟩
  | succ fuel ih =>
    intro listed a W hls hf hb hH
    refine ⟨fun hr => ?_, fun i hi => ?_⟩
    · exact fin listed a W hls hr (ready_end hbk hls hr) hb hH
    · refine step listed a W i _ hls hi hb hH fun a' W' hb' hH' => ih _ a' W' (by simpa using hls) ?_ hb' hH'
      obtain ⟨hun, o, ho, _⟩ := mem_ready.1 hi
      obtain ⟨h1, h2⟩ := getD_range hun
      rw [Array.toList_setIfInBounds, List.countP_set (by simpa using h2)]
      have : (listed.toList[i]'(by simpa using h2) == false) = true := by
        simp [h2] at h1 ⊢; exact h1
      rw [if_pos this, if_neg (by decide)]; omega

/-- A region that draws its order, each of whose operations leaves what it is said to leave. -/
theorem wp_region_grow {id : Nat} {Q : Exit → Act → World → Prop} {a0 : Act} {w : World} {l : List Oper} (n : Nat) (G : Nat → Value → World → Prop) (hm : P.follows .mixedOrders = true) (hd : ownDsts n l = true) (hbk : backB l 0 = true) (hn : a0.tmps.size = n)
    (hmono : ∀ i v W W', G i v W → Below W.heap.size W W' → G i v W')
    (hstep : allOps (fun i o => ∀ a W, Leans l n a0 G w o a W → Stepped P l.toArray o a W fun v W' => Below W.heap.size W W' ∧ G i v W') l 0)
    (hend : ∀ (vs : Nat → Value) W, Below w.heap.size w W → (∀ i, i < l.length → G i (vs i) W) → Q .normal (putAll vs l 0 a0) W) : (Code.region id l.toArray true).wp P Q a0 w := by
  refine wp_region_any hm (wpAny_grow n G hd hbk hn hmono hstep hend _ _ a0 _ (by simp) ?_ (Below.refl _ w).drew ⟨hn, rfl, fun _ _ => rfl, fun i o d _ _ h => ?_⟩)
  · simp [List.countP_replicate]
  · rcases Nat.lt_or_ge i l.length with h1 | h1 <;> simp [h1] at h
end
end Go.Proofs.YtpnkpnocipkedaaDoor

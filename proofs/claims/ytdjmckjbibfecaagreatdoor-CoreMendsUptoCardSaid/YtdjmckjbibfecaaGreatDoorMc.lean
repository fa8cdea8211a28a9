/- How great a cure is; what stays of papers that are mended. -/
import Derived.Lib.ItoaLen
import Derived.Test.YtdjmckjbibfecaaGreatDoorDa
import Derived.Test.YtdjmckjbibfecaaGreatDoorFb
import Derived.Test.YtdjmckjbibfecaaGreatDoorHa
import Derived.Test.YtdjmckjbibfecaaGreatDoorIc
namespace Go.Proofs.YtdjmckjbibfecaaGreatDoor
open Go Go.RowKit Go.BigFrame Go.Maps

/-- A paper, wherever its fields lie. -/
def bare (x : Pap) : Pap := ⟨x.kind, x.number, x.issuer, none, 0, x.fields⟩
theorem bare_same {x y : Pap} (h : sameP x y) : bare x = bare y := by
  obtain ⟨h1, h2, h3, h4⟩ := h
  unfold bare
  rw [h1, h2, h3, h4]
theorem same_bare {x y : Pap} (h : bare x = bare y) : sameP x y := by
  unfold bare at h
  injection h with h1 h2 h3 _ _ h4
  exact ⟨h1, h2, h3, h4⟩
theorem bares_same {l m : List Pap} (h : sameD l m) : l.map bare = m.map bare := by
  apply List.ext_getElem?
  intro i
  rw [List.getElem?_map, List.getElem?_map]
  rcases Nat.lt_or_ge i l.length with hi | hi
  · have hj : i < m.length := by rw [← h.1]; exact hi
    rw [List.getElem?_eq_getElem hi, List.getElem?_eq_getElem hj]
    exact congrArg some (bare_same (h.2 i _ _ (List.getElem?_eq_getElem hi) (List.getElem?_eq_getElem hj)))
  · rw [List.getElem?_eq_none hi, List.getElem?_eq_none (by rw [← h.1]; exact hi)]
theorem same_bares {l m : List Pap} (h : l.map bare = m.map bare) : sameD l m := by
  refine ⟨by have := congrArg List.length h; simpa using this, fun i x y hx hy => same_bare ?_⟩
  have := congrArg (fun r => r[i]?) h
  simp only [List.getElem?_map, hx, hy, Option.map_some, Option.some.injEq] at this
  exact this
theorem bare_field : ∀ (l : List Pap) (k : Int) (s : ByteArray), fieldD (l.map bare) k s = fieldD l k s
  | [], _, _ => rfl
  | x :: l, k, s => by
    rw [List.map_cons, fieldD, fieldD, bare_field l k s]
    rfl
theorem bare_atom (docs : List Pap) (k p : Int) (x : ByteArray) (n : Int) (v : ByteArray) : atomT (docs.map bare) k p x n v = atomT docs k p x n v := by
  unfold atomT
  rw [bare_field]
mutual
theorem bare_holds (docs : List Pap) (d : Pap) : ∀ t : Tree, holdsT (docs.map bare) (bare d) t = holdsT docs d t
  | .mk k p f x n A c L => by
    rw [holdsT, holdsT, bare_great docs d L 0, bare_least docs d L 2]
    simp only [bare_atom]
    rfl
theorem bare_great (docs : List Pap) (d : Pap) : ∀ (L : List Tree) (s : Int), greatT (docs.map bare) (bare d) L s = greatT docs d L s
  | [], s => by rw [greatT, greatT]
  | t :: L, s => by rw [greatT, greatT, bare_holds docs d t, bare_great docs d L]
theorem bare_least (docs : List Pap) (d : Pap) : ∀ (L : List Tree) (s : Int), leastT (docs.map bare) (bare d) L s = leastT docs d L s
  | [], s => by rw [leastT, leastT]
  | t :: L, s => by rw [leastT, leastT, bare_holds docs d t, bare_least docs d L]
end
theorem bare_ahead (needs : List Nd) : ∀ (l : List Pap) (s : ByteArray), aheadF needs (l.map bare) s = aheadF needs l s
  | [], _ => rfl
  | x :: l, s => by
    rw [List.map_cons, aheadF, aheadF, bare_ahead needs l s]
    rfl
theorem bare_doc (c : Crd) (needs : List Nd) (docs : List Pap) (day : Int) (a : Nat) (d : Pap) : docF c needs (docs.map bare) day a (bare d) = docF c needs docs day a d := by
  have h1 : ruledF needs (docs.map bare) a (bare d) = ruledF needs docs a d := by
    have h2 : ruleF (docs.map bare) a (bare d) = ruleF docs a d := by
      funext t
      unfold ruleF
      rw [bare_holds]
      rfl
    have h3 : needR (docs.map bare) a (bare d) = needR docs a d := by
      funext x
      unfold needR
      rw [h2]
      rfl
    unfold ruledF
    rw [h3]
  have h2 : othersF needs ((docs.map bare).take a) a (bare d) = othersF needs (docs.take a) a d := by
    unfold othersF
    refine congrArg (fun g => (List.range 6).flatMap g) (funext fun i => ?_)
    unfold otherF
    rw [← List.map_take, bare_ahead]
    rfl
  unfold docF paperF
  rw [h1, h2]
  rfl
theorem bare_exam (c : Crd) (needs : List Nd) (docs : List Pap) (day : Int) : examF c needs (docs.map bare) day = examF c needs docs day := by
  have h1 : docAt c needs (docs.map bare) day = docAt c needs docs day := by
    funext a
    unfold docAt
    rw [List.getElem?_map]
    cases docs[a]? with
    | none => rfl
    | some d => exact bare_doc c needs docs day a d
  have h2 : lackF (docs.map bare) = lackF docs := by
    funext x
    unfold lackF countK
    rw [List.countP_map]
    rfl
  unfold examF toldE
  rw [h1, h2, List.length_map]
theorem bare_fail (needs : List Nd) (docs : List Pap) (d : Pap) : failL needs (docs.map bare) (bare d) = failL needs docs d := by
  unfold failL failT
  simp only [bare_holds]
  rfl

/-- Is a name one of those that all papers are to have alike? -/
def knownB (s : ByteArray) : Bool := (List.range 6).any fun i => decide ((alikeB i).toList = s.toList)
def partyM (c : Crd) (d : Pap) (s : ByteArray) : Option ByteArray :=
  if d.kind = 0 then
    (if s.toList = nSeller.toList then some c.beneficiary else if s.toList = nBuyer.toList then some c.applicant else if s.toList = nCurrency.toList then some c.currency else none).bind fun r =>
      if getB d.fields s = true ∧ (getV d.fields s).toList = r.toList then none else some r
  else none
/-- The number that a field has. -/
def numV (d : Pap) (s : ByteArray) : Option Int := if getB d.fields s = true then numF (getV d.fields s).data.toList else none
def sumM (c : Crd) (d : Pap) (s : ByteArray) : Option ByteArray :=
  if d.kind = 0 ∧ s.toList = nSum.toList then
    (match numV d s with
    | none => some (mkB (Lib.itoa c.amount))
    | some n => if boundsB c = true ∧ mostC c < n then some (mkB (Lib.itoa (mostC c))) else if boundsB c = true ∧ n < leastY c then some (mkB (Lib.itoa (leastY c))) else none)
  else none
def issuedM (c : Crd) (day : Int) (d : Pap) (s : ByteArray) : Option ByteArray :=
  if d.kind = 2 ∧ s.toList = nIssued.toList then
    (match numV d s with
    | none => some (mkB (Lib.itoa (min c.latest day)))
    | some n => if n ≤ c.latest ∧ behindB day n c.within = false then none else some (mkB (Lib.itoa (min c.latest day))))
  else none
def curT (docs : List Pap) (v : ByteArray) : Tree → Option ByteArray
  | .mk k p _ x n _ _ _ => if k = 3 then some x else if k = 4 then some (v ++ x) else if k = 7 then fieldD docs p x else some (mkB (Lib.itoa n))
def partM (needs : List Nd) (docs : List Pap) (d : Pap) (s : ByteArray) : Option ByteArray :=
  ((failL needs docs d).find? fun t => isAt t.kind && decide (t.field.toList = s.toList)).bind (curT docs (getV d.fields s))
def otherM (needs : List Nd) (ahead : List Pap) (d : Pap) (s : ByteArray) : Option ByteArray :=
  if knownB s = true ∧ getB d.fields s = true then (aheadF needs ahead s).bind fun v => if v.toList = (getV d.fields s).toList then none else some v else none
/-- The cure of a fault of a paper. -/
def cureD (c : Crd) (needs : List Nd) (docs : List Pap) (day : Int) (a : Nat) (d : Pap) (s : ByteArray) : Option ByteArray :=
  (partyM c d s).or ((sumM c d s).or ((issuedM c day d s).or ((partM needs docs d s).or (otherM needs (docs.take a) d s))))
def cureM (c : Crd) (needs : List Nd) (docs : List Pap) (day : Int) (f : Flt) : Option ByteArray :=
  if 0 ≤ f.paper ∧ f.field.toList ≠ [] then (docs[f.paper.toNat]?).bind fun d => cureD c needs docs day f.paper.toNat d f.field else none
def putF (d : Pap) (s v : ByteArray) : Pap := ⟨d.kind, d.number, d.issuer, none, 0, setF d.fields s v⟩
/-- One fault mended. -/
def mendStep (c : Crd) (needs : List Nd) (day : Int) (docs : List Pap) (f : Flt) : List Pap :=
  match cureM c needs docs day f with
  | some v => docs.modify f.paper.toNat fun d => putF d f.field v
  | none => docs
def mendM (c : Crd) (needs : List Nd) (day : Int) (docs : List Pap) (l : List Flt) : List Pap := l.foldl (mendStep c needs day) (docs.map bare)
theorem bare_cure (c : Crd) (needs : List Nd) (docs : List Pap) (day : Int) (f : Flt) : cureM c needs (docs.map bare) day f = cureM c needs docs day f := by
  unfold cureM
  rw [List.getElem?_map]
  cases docs[f.paper.toNat]? with
  | none => rfl
  | some d =>
    have h1 : cureD c needs (docs.map bare) day f.paper.toNat (bare d) f.field = cureD c needs docs day f.paper.toNat d f.field := by
      have h2 : partM needs (docs.map bare) (bare d) f.field = partM needs docs d f.field := by
        unfold partM
        rw [bare_fail]
        refine congrArg _ (funext fun t => ?_)
        obtain ⟨k, p, g, x, n, A, c, L⟩ := t
        simp only [curT, bare_field]
        rfl
      have h3 : otherM needs ((docs.map bare).take f.paper.toNat) (bare d) f.field = otherM needs (docs.take f.paper.toNat) d f.field := by
        unfold otherM
        rw [← List.map_take, bare_ahead]
        rfl
      unfold cureD
      rw [h2, h3]
      rfl
    simp only [Option.map_some, Option.bind_some, h1]
end Go.Proofs.YtdjmckjbibfecaaGreatDoor
namespace Go.Proofs.YtdjmckjbibfecaaGreatDoor
open Go Go.RowKit Go.BigFrame Go.Maps

theorem flD_put3 : ∀ (l : List Pap) (k : Nat) (x : Pap) (A : Option Addr) (c : Nat) (F : List Fld), l[k]? = some x → (flD l).set (k * 4 + 3) (.slice A F.length c) = flD (l.set k ⟨x.kind, x.number, x.issuer, A, c, F⟩)
  | [], k, x, A, c, F, h => by simp at h
  | y :: l, 0, x, A, c, F, h => by simp at h; subst h; simp [flD, encD]
  | y :: l, k + 1, x, A, c, F, h => by
    have := flD_put3 l k x A c F (by simpa using h)
    rw [show (k + 1) * 4 + 3 = k * 4 + 3 + 1 + 1 + 1 + 1 by omega]
    simp only [flD, List.flatMap_cons, encD, List.cons_append, List.nil_append, List.set_cons_succ] at this ⊢
    rw [this]
/-- The copied papers. -/
structure MendG (w0 wr : World) (A : Option Addr) (nn c : Nat) (l : List Pap) : Prop where
  below : Below w0.heap.size w0 wr
  own : wr.ownsRow w0.heap.size 61 4 (.slice A nn c) nn (flD l)
  len : l.length = nn
  flds : ∀ x ∈ l, FieldsAt wr x.fA x.fields
  away : ∀ x ∈ l, x.fields ≠ [] → ∀ b off, x.fA = some ⟨b, off, none⟩ → A ≠ some ⟨b, 0, none⟩
theorem MendS.gen {w0 wr : World} {A : Option Addr} {nn c : Nat} {docs l : List Pap} (h : MendS w0 wr A nn c docs l) (hn : docs.length = nn) : MendG w0 wr A nn c l := ⟨h.below, h.own, h.same.1.trans hn, h.flds, h.away⟩
theorem MendG.on {w0 wr w' : World} {A : Option Addr} {nn c : Nat} {l : List Pap} (h : MendG w0 wr A nn c l) (hb : Below wr.heap.size wr w') : MendG w0 w' A nn c l :=
  ⟨h.below.trans (hb.mono h.below.size), own_below h.own hb, h.len, fun x hx => (h.flds x hx).below hb, h.away⟩
theorem MendG.step {w0 wr w6 : World} {g nn c k n2 c2 : Nat} {l : List Pap} {x : Pap} {A2 : Option Addr} {F : List Fld} (h : MendG w0 wr (some ⟨g, 0, none⟩) nn c l) (hx : l[k]? = some x) (hg0 : w0.heap.size ≤ g) (hg1 : g < wr.heap.size) (hb : Below wr.heap.size wr w6) (hn : F.length = n2)
    (ho : w6.ownsRow wr.heap.size 108 2 (.slice A2 n2 c2) n2 (flF F)) :
    MendG w0 (w6.setCell ⟨g, k * 4 + 3, none⟩ (.slice A2 n2 c2)) (some ⟨g, 0, none⟩) nn c (l.set k ⟨x.kind, x.number, x.issuer, A2, c2, F⟩) := by
  subst hn
  have o6 := own_below h.own hb
  have st := o6.stored (k * 4 + 3) (.slice A2 F.length c2)
  rw [flD_put3 l k x A2 c2 F hx] at st
  have hA2 : F ≠ [] → ∀ b off, A2 = some ⟨b, off, none⟩ → wr.heap.size ≤ b := fun hne b off e => by
    obtain ⟨g', c', e', h1, _⟩ := own_formS ho (List.length_pos_iff.2 hne)
    rw [e] at e'
    simp only [Value.slice.injEq, Option.some.injEq, Addr.mk.injEq, and_true, true_and] at e'
    rw [e'.1.1]; exact h1
  obtain ⟨A9, c9, e9, _, hF9⟩ := fields_of_own ho rfl
  simp only [Value.slice.injEq, true_and] at e9
  obtain ⟨rfl, rfl⟩ := e9
  refine ⟨(h.below.trans (hb.mono h.below.size)).setCell hg0 _, st.1, by rw [List.length_set]; exact h.len, fun y hy => ?_, fun y hy hne b off e => ?_⟩
  · rcases List.mem_or_eq_of_mem_set hy with hy | rfl
    · exact fields_far ((h.flds y hy).below hb) st.2 fun hne b off e hbg => by
        subst hbg
        exact h.away y hy hne b off e rfl
    · exact fields_far hF9 st.2 fun hne b off e => by have := hA2 hne b off e; omega
  · rcases List.mem_or_eq_of_mem_set hy with hy | rfl
    · exact h.away y hy hne b off e
    · intro hc
      simp only [Option.some.injEq, Addr.mk.injEq, and_true] at hc
      have := hA2 hne b off e
      omega
theorem MendG.docs {w0 wr : World} {A : Option Addr} {nn c : Nat} {l : List Pap} (h : MendG w0 wr A nn c l) (hk : ∀ x ∈ l, x.fields.length ≤ maxLen ∧ (-9223372036854775808 ≤ x.kind ∧ x.kind ≤ 9223372036854775807)) : DocsAt wr A l := by
  obtain ⟨A9, c9, e9, _, hr9⟩ := RowOf.of_own encD_len h.own h.len
  simp only [Value.slice.injEq, true_and] at e9
  obtain ⟨rfl, rfl⟩ := e9
  exact DocsAt.of_row hr9 fun x hx => ⟨h.flds x hx, (hk x hx).1, (hk x hx).2⟩

/-- The cure's cells. -/
def cuX (C : Array Value) (A : Option Addr) (nn cc : Nat) (day a : Int) (s v : ByteArray) (b : Bool) : Array Value :=
  C ++ #[.slice A nn cc, .int .i64 day, .int .i64 a, .string s, .string v, .bool b]
section
variable {C : Array Value} {A : Option Addr} {nn cc : Nat} {day a : Int} {s v : ByteArray} {b : Bool}
theorem cuX_size (hC : C.size = 18) : (cuX C A nn cc day a s v b).size = 24 := by unfold cuX; rw [Array.size_append, hC]; rfl
theorem cuX_docs (hC : C.size = 18) : (cuX C A nn cc day a s v b)[18]? = some (.slice A nn cc) := by unfold cuX; rw [Array.getElem?_append_right (by omega)]; simp [hC]
theorem cuX_day (hC : C.size = 18) : (cuX C A nn cc day a s v b)[19]? = some (.int .i64 day) := by unfold cuX; rw [Array.getElem?_append_right (by omega)]; simp [hC]
theorem cuX_at (hC : C.size = 18) : (cuX C A nn cc day a s v b)[20]? = some (.int .i64 a) := by unfold cuX; rw [Array.getElem?_append_right (by omega)]; simp [hC]
theorem cuX_name (hC : C.size = 18) : (cuX C A nn cc day a s v b)[21]? = some (.string s) := by unfold cuX; rw [Array.getElem?_append_right (by omega)]; simp [hC]
theorem cuX_value (hC : C.size = 18) : (cuX C A nn cc day a s v b)[22]? = some (.string v) := by unfold cuX; rw [Array.getElem?_append_right (by omega)]; simp [hC]
theorem cuX_there (hC : C.size = 18) : (cuX C A nn cc day a s v b)[23]? = some (.bool b) := by unfold cuX; rw [Array.getElem?_append_right (by omega)]; simp [hC]
theorem cuX_cell (hC : C.size = 18) {i : Nat} (hi : i < 18) : (cuX C A nn cc day a s v b)[i]? = C[i]? := by unfold cuX; rw [Array.getElem?_append_left (by omega)]
theorem cuX_range {w : World} {xb : Nat} {t : TypeId} (hC : C.size = 18) (h : Blk w xb t (cuX C A nn cc day a s v b)) : w.rangeAt xb 0 C.toList := by
  intro j v hv
  have hj : j < 18 := by
    have := (List.getElem?_eq_some_iff.1 hv).1
    rw [Array.length_toList] at this
    omega
  rw [Nat.zero_add, h.cell, cuX_cell hC hj]
  rw [Array.getElem?_toList] at hv
  exact hv
end
end Go.Proofs.YtdjmckjbibfecaaGreatDoor
namespace Go.Proofs.YtdjmckjbibfecaaGreatDoor
open Go Go.RowKit Go.BigFrame Go.Maps

theorem setF_vals {S : Nat} {v : ByteArray} (hv : v.size ≤ S) : ∀ {l : List Fld} {n : ByteArray}, (∀ f ∈ l, f.value.size ≤ S) → ∀ f ∈ setF l n v, f.value.size ≤ S
  | [], n, _, f, hf => by
    rw [setF, List.mem_singleton] at hf
    subst hf
    exact hv
  | x :: l, n, h, f, hf => by
    rw [setF] at hf
    split at hf
    · rcases List.mem_cons.1 hf with rfl | hf
      · exact hv
      · exact h f (by simp [hf])
    · rcases List.mem_cons.1 hf with rfl | hf
      · exact h _ (by simp)
      · exact setF_vals hv (fun g hg => h g (by simp [hg])) f hf
theorem setF_len : ∀ (l : List Fld) (n v : ByteArray), (setF l n v).length ≤ l.length + 1
  | [], n, v => by rw [setF]; simp
  | x :: l, n, v => by
    rw [setF]
    split
    · simp
    · rw [List.length_cons, List.length_cons]
      have := setF_len l n v
      omega
/-- How great the fields' values are, and how many there are of a paper. -/
structure Bnd (S N : Nat) (docs : List Pap) : Prop where
  vals : ∀ d ∈ docs, ∀ f ∈ d.fields, f.value.size ≤ S
  num : ∀ d ∈ docs, d.fields.length ≤ N
theorem bnd_bare {S N : Nat} {docs : List Pap} : Bnd S N (docs.map bare) ↔ Bnd S N docs := by
  constructor
  · intro h
    exact ⟨fun d hd => h.vals (bare d) (List.mem_map_of_mem hd), fun d hd => h.num (bare d) (List.mem_map_of_mem hd)⟩
  · intro h
    refine ⟨fun d hd => ?_, fun d hd => ?_⟩
    · obtain ⟨x, hx, rfl⟩ := List.mem_map.1 hd
      exact h.vals x hx
    · obtain ⟨x, hx, rfl⟩ := List.mem_map.1 hd
      exact h.num x hx
theorem getV_vals {S : Nat} {l : List Fld} {s : ByteArray} (h : ∀ f ∈ l, f.value.size ≤ S) : (getV l s).size ≤ S := by
  unfold getV
  cases hg : getF l s with
  | none => exact Nat.zero_le _
  | some v =>
    obtain ⟨f, hf, rfl⟩ := getF_mem hg
    exact h f hf
theorem fieldD_vals {S N : Nat} : ∀ {docs : List Pap} {k : Int} {s v : ByteArray}, Bnd S N docs → fieldD docs k s = some v → v.size ≤ S
  | [], _, _, _, _, h => by simp [fieldD] at h
  | x :: l, k, s, v, hb, h => by
    rw [fieldD] at h
    split at h
    · obtain ⟨f, hf, rfl⟩ := getF_mem h
      exact hb.vals x (by simp) f hf
    · exact fieldD_vals ⟨fun d hd => hb.vals d (by simp [hd]), fun d hd => hb.num d (by simp [hd])⟩ h
theorem ahead_vals {S N : Nat} {needs : List Nd} : ∀ {docs : List Pap} {s v : ByteArray}, Bnd S N docs → aheadF needs docs s = some v → v.size ≤ S
  | [], _, _, _, h => by simp [aheadF] at h
  | x :: l, s, v, hb, h => by
    rw [aheadF] at h
    split at h
    · rename_i u hu
      obtain rfl := Option.some.inj h
      split at hu
      · obtain ⟨f, hf, rfl⟩ := getF_mem hu
        exact hb.vals x (by simp) f hf
      · cases hu
    · exact ahead_vals ⟨fun d hd => hb.vals d (by simp [hd]), fun d hd => hb.num d (by simp [hd])⟩ h
/-- How great what a credit says is. -/
structure BndC (S : Nat) (c : Crd) (needs : List Nd) : Prop where
  ben : c.beneficiary.size ≤ S
  app : c.applicant.size ≤ S
  cur : c.currency.size ≤ S
  amount : -9223372036854775808 ≤ c.amount ∧ c.amount ≤ 9223372036854775807
  latest : -9223372036854775808 ≤ c.latest ∧ c.latest ≤ 9223372036854775807
  base : 21 ≤ S
  rule : ∀ x ∈ needs, ∀ u ∈ partsT x.rule, u.text.size ≤ 12200 ∧ (-9223372036854775808 ≤ u.num ∧ u.num ≤ 9223372036854775807)
theorem itoa_small {n : Int} {S : Nat} (hS : 21 ≤ S) (h : -9223372036854775808 ≤ n ∧ n ≤ 9223372036854775807) : (mkB (Lib.itoa n)).size ≤ S := by
  have h1 := Lib.itoa_length_le n h.1 h.2
  have h2 : (mkB (Lib.itoa n)).size = (Lib.itoa n).length := by unfold mkB; exact List.size_toArray
  omega
theorem most_range {c : Crd} (hb : boundsB c = true) : -9223372036854775808 ≤ mostC c ∧ mostC c ≤ 9223372036854775807 := by
  unfold boundsB at hb
  have h := of_decide_eq_true hb
  have h1 : 0 ≤ c.amount * (1000 + c.above) := Int.mul_nonneg (by omega) (by omega)
  have h2 : c.amount * (1000 + c.above) ≤ 1099511627776 * 2000 := Int.mul_le_mul (by omega) (by omega) (by omega) (by omega)
  unfold mostC
  omega
theorem least_range {c : Crd} (hb : boundsB c = true) : -9223372036854775808 ≤ leastY c ∧ leastY c ≤ 9223372036854775807 := by
  unfold boundsB at hb
  have h := of_decide_eq_true hb
  have h1 : 0 ≤ c.amount * (1000 - c.below) := Int.mul_nonneg (by omega) (by omega)
  have h2 : c.amount * (1000 - c.below) ≤ 1099511627776 * 1000 := Int.mul_le_mul (by omega) (by omega) (by omega) (by omega)
  unfold leastY
  omega
theorem fail_mem {needs : List Nd} {docs : List Pap} {d : Pap} {t : Tree} (h : t ∈ failL needs docs d) : ∃ x ∈ needs, t ∈ partsT x.rule := by
  unfold failL at h
  obtain ⟨x, hx, ht⟩ := List.mem_flatMap.1 h
  refine ⟨x, hx, ?_⟩
  split at ht
  · exact (List.mem_filter.1 ht).1
  · cases ht
theorem cureD_size {S N : Nat} {c : Crd} {needs : List Nd} {docs : List Pap} {day : Int} {a : Nat} {d : Pap} {s v : ByteArray} (hc : BndC S c needs) (hday : -9223372036854775808 ≤ day ∧ day ≤ 9223372036854775807) (hb : Bnd S N docs) (hd : d ∈ docs) (h : cureD c needs docs day a d s = some v) : v.size ≤ S + 12200 := by
  unfold cureD at h
  rcases Option.or_eq_some_iff.1 h with h | ⟨_, h⟩
  · unfold partyM at h
    split at h
    · obtain ⟨r, hr, h⟩ := Option.bind_eq_some_iff.1 h
      split at h
      · cases h
      · obtain rfl := Option.some.inj h
        have h1 := hc.ben
        have h2 := hc.app
        have h3 := hc.cur
        split at hr
        · obtain rfl := Option.some.inj hr; omega
        · split at hr
          · obtain rfl := Option.some.inj hr; omega
          · split at hr
            · obtain rfl := Option.some.inj hr; omega
            · cases hr
    · cases h
  rcases Option.or_eq_some_iff.1 h with h | ⟨_, h⟩
  · unfold sumM at h
    split at h
    · split at h
      · obtain rfl := Option.some.inj h
        have := itoa_small hc.base hc.amount
        omega
      · split at h
        · rename_i hm
          obtain rfl := Option.some.inj h
          have := itoa_small hc.base (most_range hm.1)
          omega
        · split at h
          · rename_i hm
            obtain rfl := Option.some.inj h
            have := itoa_small hc.base (least_range hm.1)
            omega
          · cases h
    · cases h
  rcases Option.or_eq_some_iff.1 h with h | ⟨_, h⟩
  · have hm : -9223372036854775808 ≤ min c.latest day ∧ min c.latest day ≤ 9223372036854775807 := by have := hc.latest; omega
    have := itoa_small hc.base hm
    unfold issuedM at h
    split at h
    · split at h
      · obtain rfl := Option.some.inj h
        omega
      · split at h
        · cases h
        · obtain rfl := Option.some.inj h
          omega
    · cases h
  rcases Option.or_eq_some_iff.1 h with h | ⟨_, h⟩
  · unfold partM at h
    obtain ⟨t, ht, h⟩ := Option.bind_eq_some_iff.1 h
    obtain ⟨x, hx, hu⟩ := fail_mem (List.mem_of_find?_eq_some ht)
    obtain ⟨h1, h2⟩ := hc.rule x hx t hu
    obtain ⟨k, p, f, y, n, A, cc, L⟩ := t
    simp only [Tree.text, Tree.num] at h1 h2
    simp only [curT] at h
    split at h
    · obtain rfl := Option.some.inj h; omega
    · split at h
      · obtain rfl := Option.some.inj h
        have := getV_vals (s := s) (hb.vals d hd)
        rw [ByteArray.size_append]
        omega
      · split at h
        · have := fieldD_vals hb h
          omega
        · obtain rfl := Option.some.inj h
          have := itoa_small hc.base h2
          omega
  · unfold otherM at h
    split at h
    · obtain ⟨u, hu, h⟩ := Option.bind_eq_some_iff.1 h
      split at h
      · cases h
      · obtain rfl := Option.some.inj h
        have hb' : Bnd S N (docs.take a) := ⟨fun e he => hb.vals e (List.mem_of_mem_take he), fun e he => hb.num e (List.mem_of_mem_take he)⟩
        have := ahead_vals hb' hu
        omega
    · cases h
theorem cureM_size {S N : Nat} {c : Crd} {needs : List Nd} {docs : List Pap} {day : Int} {f : Flt} {v : ByteArray} (hc : BndC S c needs) (hday : -9223372036854775808 ≤ day ∧ day ≤ 9223372036854775807) (hb : Bnd S N docs) (h : cureM c needs docs day f = some v) : v.size ≤ S + 12200 := by
  unfold cureM at h
  split at h
  · obtain ⟨d, hd, h⟩ := Option.bind_eq_some_iff.1 h
    exact cureD_size hc hday hb (List.mem_of_getElem? hd) h
  · cases h
theorem mendStep_bnd {S N : Nat} {c : Crd} {needs : List Nd} {docs : List Pap} {day : Int} {f : Flt} (hc : BndC S c needs) (hday : -9223372036854775808 ≤ day ∧ day ≤ 9223372036854775807) (hb : Bnd S N docs) : Bnd (S + 12200) (N + 1) (mendStep c needs day docs f) := by
  unfold mendStep
  split
  · rename_i v hv
    have hsz := cureM_size hc hday hb hv
    have hm : ∀ d ∈ docs.modify f.paper.toNat fun d => putF d f.field v, (d ∈ docs ∨ ∃ e ∈ docs, d = putF e f.field v) := fun d hd => by
      obtain ⟨i, hi⟩ := List.getElem?_of_mem hd
      rw [List.getElem?_modify] at hi
      obtain ⟨y, hy, e⟩ := Option.map_eq_some_iff.1 hi
      have hmem := List.mem_of_getElem? hy
      split at e
      · exact .inr ⟨y, hmem, e.symm⟩
      · exact .inl (e ▸ hmem)
    refine ⟨fun d hd g hg => ?_, fun d hd => ?_⟩
    · rcases hm d hd with h | ⟨e, he, rfl⟩
      · have := hb.vals d h g hg; omega
      · exact setF_vals hsz (fun g hg => by have := hb.vals e he g hg; omega) g hg
    · rcases hm d hd with h | ⟨e, he, rfl⟩
      · have := hb.num d h; omega
      · have h1 := setF_len e.fields f.field v
        have h2 := hb.num e he
        show (setF e.fields f.field v).length ≤ _
        omega
  · exact ⟨fun d hd g hg => by have := hb.vals d hd g hg; omega, fun d hd => by have := hb.num d hd; omega⟩
theorem BndC.more {S S' : Nat} {c : Crd} {needs : List Nd} (h : BndC S c needs) (hs : S ≤ S') : BndC S' c needs :=
  ⟨Nat.le_trans h.ben hs, Nat.le_trans h.app hs, Nat.le_trans h.cur hs, h.amount, h.latest, Nat.le_trans h.base hs, h.rule⟩
theorem mendF_bnd {c : Crd} {needs : List Nd} {day : Int} (hday : -9223372036854775808 ≤ day ∧ day ≤ 9223372036854775807) : ∀ {l : List Flt} {docs : List Pap} {S N : Nat}, BndC S c needs → Bnd S N docs → Bnd (S + 12200 * l.length) (N + l.length) (l.foldl (mendStep c needs day) docs)
  | [], docs, S, N, _, hb => by simpa using hb
  | f :: l, docs, S, N, hc, hb => by
    have h := mendF_bnd hday (l := l) (hc.more (Nat.le_add_right S 12200)) (mendStep_bnd hc hday hb (f := f))
    rw [List.foldl_cons, List.length_cons]
    rw [show S + 12200 * (l.length + 1) = S + 12200 + 12200 * l.length by omega, show N + (l.length + 1) = N + 1 + l.length by omega]
    exact h
theorem text_of_size {t : Tree} (h : sizeT t 200 ≤ 60) : ∀ u ∈ partsT t, u.text.size ≤ 12200 := by
  have e := size_wgt t 200 (by omega)
  have h1 : allT (fun t => t.text.size ≤ 12200) t := allT_mono (fun t h => by show t.text.size ≤ 12200; omega) t (wgt_all t 60 (by omega))
  exact fun u hu => allT_here (parts_all t h1 u hu)
theorem mend_len (c : Crd) (needs : List Nd) (day : Int) : ∀ (l : List Flt) (docs : List Pap), (l.foldl (mendStep c needs day) docs).length = docs.length
  | [], _ => rfl
  | f :: l, docs => by
    rw [List.foldl_cons, mend_len c needs day l]
    unfold mendStep
    split
    · rw [List.length_modify]
    · rfl
/-- Kinds, numbers and issuers stay. -/
def keptP (x y : Pap) : Prop := x.kind = y.kind ∧ x.number = y.number ∧ x.issuer = y.issuer
theorem mendStep_kept {c : Crd} {needs : List Nd} {day : Int} {docs : List Pap} {f : Flt} {i : Nat} {x : Pap} (h : (mendStep c needs day docs f)[i]? = some x) : ∃ y, docs[i]? = some y ∧ keptP x y := by
  unfold mendStep at h
  split at h
  · rw [List.getElem?_modify] at h
    obtain ⟨y, hy, e⟩ := Option.map_eq_some_iff.1 h
    refine ⟨y, hy, ?_⟩
    split at e
    · rw [← e]; exact ⟨rfl, rfl, rfl⟩
    · rw [← e]; exact ⟨rfl, rfl, rfl⟩
  · exact ⟨x, h, rfl, rfl, rfl⟩
theorem mendF_kept {c : Crd} {needs : List Nd} {day : Int} : ∀ (l : List Flt) (docs : List Pap) (i : Nat) (x : Pap), (l.foldl (mendStep c needs day) docs)[i]? = some x → ∃ y, docs[i]? = some y ∧ keptP x y
  | [], docs, i, x, h => ⟨x, h, rfl, rfl, rfl⟩
  | f :: l, docs, i, x, h => by
    rw [List.foldl_cons] at h
    obtain ⟨y, hy, k1, k2, k3⟩ := mendF_kept l _ i x h
    obtain ⟨z, hz, j1, j2, j3⟩ := mendStep_kept hy
    exact ⟨z, hz, k1.trans j1, k2.trans j2, k3.trans j3⟩
end Go.Proofs.YtdjmckjbibfecaaGreatDoor

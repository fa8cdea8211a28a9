/- What stands in memory while papers are examined: the frame, and the telling. -/
import Derived.Deep.QuietTactic
import Derived.BigQuiet
import Derived.Deep.Draws
import Derived.Deep.MidRow
import Derived.Laws.Rows
import Derived.Test.YtdjmckjbibfecaaGreatDoorCe
import Derived.Test.YtdjmckjbibfecaaGreatDoorL
import Derived.Test.YtdjmckjbibfecaaGreatDoorM
import Derived.Test.YtdjmckjbibfecaaGreatDoorOy
namespace Go.Proofs.YtdjmckjbibfecaaGreatDoor
open Go Go.RowKit Go.BigFrame Go.Maps

theorem retBl {a b : Bool} (h : a = b) : Ending.returned (.bool a) = .returned (.bool b) := by rw [h]
def eqF (x y : Flt) : Bool := x.paper == y.paper && (x.kind == y.kind && (x.field.toList == y.field.toList && x.why == y.why))
theorem Tryz.eqg54 : Tryz.prog.eqGuardType Tryz.prog.depth 54 = false := by kernel_rfl
theorem Tryz.held54 : Tryz.prog.stoodInHeld 54 = false := by kernel_rfl
theorem Tryz.fields54 : Tryz.prog.underlying 54 = some (.struct (Tryz.prog.fieldsOf 54)) := by kernel_rfl
end Go.Proofs.YtdjmckjbibfecaaGreatDoor
namespace Go.Proofs.YtdjmckjbibfecaaGreatDoor
open Go Go.RowKit Go.BigFrame Go.Maps

section
variable {P : Program} {ops : Array Oper} {o : Oper} {rest : List Oper} {a : Act} {w : World} {Q : Exit → Act → World → Prop}
theorem wpList_load_blk (hgd : o.guard = none) (ty : TypeId) (x : Operand) (ho : o.op = .load ty x) (g : Nat) (cs : Array Value) (t : TypeId) (d : TypeDesc) (hx : a.eval x = .pointer (some ⟨g, 0, none⟩))
    (hb : Blk w g t cs) (hu : P.underlying ty = some d) (hd : (match d with | .struct _ | .array _ _ => true | _ => false) = true) (hi : (P.info? ty).map (·.size) = some cs.size)
    (h : wpList P ops Q rest (a.put o.dst (.agg cs)) w) : wpList P ops Q (o :: rest) a w :=
  wpList_load_row hgd ty x ho g hx t cs (0, 0) d hb hu hd hi h
end
end Go.Proofs.YtdjmckjbibfecaaGreatDoor
namespace Go.Proofs.YtdjmckjbibfecaaGreatDoor
open Go

mutual
/-- The parts of a rule. -/
def partsT : Tree → List Tree
  | .mk k p f x n A c L => if k = 0 then partsL L else [.mk k p f x n A c L]
def partsL : List Tree → List Tree
  | [] => []
  | t :: L => partsT t ++ partsL L
end
def isAtomB (k : Int) : Bool := decide (3 ≤ k ∧ k ≤ 7)
/-- What a part of a rule tells of a paper. -/
def ruleF (docs : List Pap) (a : Int) (d : Pap) (t : Tree) : List Flt :=
  if holdsT docs d t = 0 then [] else [⟨a, d.kind, if isAtomB t.kind then t.field else ⟨#[]⟩, if t.kind = 7 ∧ holdsT docs d t = 2 then 3 else holdsT docs d t⟩]
def needR (docs : List Pap) (a : Int) (d : Pap) (x : Nd) : List Flt := if x.kind = d.kind then (partsT x.rule).flatMap (ruleF docs a d) else []
def ruledF (needs : List Nd) (docs : List Pap) (a : Int) (d : Pap) : List Flt := needs.flatMap (needR docs a d)
/-- What is asked of a field of a paper. -/
def askF (a : Int) (d : Pap) (name : ByteArray) (wrong : ByteArray → Int) : List Flt :=
  match getF d.fields name with
  | none => [⟨a, d.kind, name, 1⟩]
  | some v => if wrong v = 0 then [] else [⟨a, d.kind, name, wrong v⟩]
def isW (t v : ByteArray) : Int := if v.toList = t.toList then 0 else 3
def boundsB (c : Crd) : Bool := decide (1 ≤ c.amount ∧ c.amount ≤ 1099511627776 ∧ 0 ≤ c.above ∧ c.above ≤ 1000 ∧ 0 ≤ c.below ∧ c.below ≤ 1000 ∧ 0 ≤ c.expiry ∧ c.expiry ≤ 1048576)
def mostC (c : Crd) : Int := c.amount * (1000 + c.above) / 1000
def leastY (c : Crd) : Int := (c.amount * (1000 - c.below) + 999) / 1000
def sumW (c : Crd) (v : ByteArray) : Int :=
  match numF v.data.toList with
  | none => 2
  | some n => if boundsB c = true ∧ mostC c < n then 5 else if boundsB c = true ∧ n < leastY c then 6 else 0
def issuedW (c : Crd) (day : Int) (v : ByteArray) : Int :=
  match numF v.data.toList with
  | none => 2
  | some n => if c.latest < n ∨ n + c.within < day then 4 else 0
def nSeller : ByteArray := ⟨#[115, 101, 108, 108, 101, 114]⟩
def nBuyer : ByteArray := ⟨#[98, 117, 121, 101, 114]⟩
def nCurrency : ByteArray := ⟨#[99, 117, 114, 114, 101, 110, 99, 121]⟩
def nSum : ByteArray := ⟨#[115, 117, 109]⟩
def nIssued : ByteArray := ⟨#[105, 115, 115, 117, 101, 100]⟩
def nExpiry : ByteArray := ⟨#[101, 120, 112, 105, 114, 121]⟩
def invoiceF (c : Crd) (a : Int) (d : Pap) : List Flt := askF a d nSeller (isW c.beneficiary) ++ (askF a d nBuyer (isW c.applicant) ++ (askF a d nCurrency (isW c.currency) ++ askF a d nSum (sumW c)))
def ladingF (c : Crd) (day a : Int) (d : Pap) : List Flt := askF a d nIssued (issuedW c day)
def fixedF (c : Crd) (day a : Int) (d : Pap) : List Flt := if d.kind = 0 then invoiceF c a d else if d.kind = 2 then ladingF c day a d else []
def paperF (c : Crd) (needs : List Nd) (docs : List Pap) (day a : Int) (d : Pap) : List Flt := fixedF c day a d ++ ruledF needs docs a d
def askedB (needs : List Nd) (k : Int) : Bool := needs.any fun x => decide (x.kind = k)
/-- The value of a field of the first paper ahead that is asked for and has it. -/
def aheadF (needs : List Nd) : List Pap → ByteArray → Option ByteArray
  | [], _ => none
  | d :: l, s => match (if askedB needs d.kind then getF d.fields s else none) with
    | some v => some v
    | none => aheadF needs l s
def alikeB (i : Nat) : ByteArray := mkB (alikeL i)
def otherF (needs : List Nd) (ahead : List Pap) (a : Int) (d : Pap) (i : Nat) : List Flt :=
  match getF d.fields (alikeB i) with
  | none => []
  | some v => match aheadF needs ahead (alikeB i) with
    | none => []
    | some o => if o.toList = v.toList then [] else [⟨a, d.kind, alikeB i, 3⟩]
def othersF (needs : List Nd) (ahead : List Pap) (a : Int) (d : Pap) : List Flt := (List.range 6).flatMap (otherF needs ahead a d)
/-- What is told of a paper. -/
def docF (c : Crd) (needs : List Nd) (docs : List Pap) (day : Int) (a : Nat) (d : Pap) : List Flt :=
  if askedB needs d.kind then paperF c needs docs day a d ++ othersF needs (docs.take a) a d else []
def docAt (c : Crd) (needs : List Nd) (docs : List Pap) (day : Int) (a : Nat) : List Flt := match docs[a]? with | some d => docF c needs docs day a d | none => []
def countK (docs : List Pap) (k : Int) : Nat := docs.countP fun d => decide (d.kind = k)
def lackF (docs : List Pap) (x : Nd) : List Flt := if (countK docs x.kind : Int) < x.count then [⟨-1, x.kind, ⟨#[]⟩, 1⟩] else []
def expF (c : Crd) (day : Int) : List Flt := if c.expiry < day then [⟨-1, -1, nExpiry, 4⟩] else []
/-- All that is told, in order. -/
def toldE (c : Crd) (needs : List Nd) (docs : List Pap) (day : Int) : List Flt :=
  expF c day ++ (needs.flatMap (lackF docs) ++ (List.range docs.length).flatMap (docAt c needs docs day))
/-- Some faults more, each once. -/
noncomputable def addAll (l m : List Flt) : List Flt := m.foldl addF l
noncomputable def examF (c : Crd) (needs : List Nd) (docs : List Pap) (day : Int) : List Flt := addAll [] (toldE c needs docs day)

theorem addAll_app (l m k : List Flt) : addAll l (m ++ k) = addAll (addAll l m) k := by simp [addAll]
theorem addAll_len : ∀ (m l : List Flt), (addAll l m).length ≤ l.length + m.length
  | [], l => by simp [addAll]
  | f :: m, l => by
    have h1 := addAll_len m (addF l f)
    have h2 := addF_len l f
    show (addAll (addF l f) m).length ≤ _
    simp only [List.length_cons]; omega
theorem mem_addF {l : List Flt} {f x : Flt} : x ∈ addF l f ↔ x ∈ l ∨ x = f := by
  unfold addF
  split
  · constructor
    · exact .inl
    · rintro (h | rfl)
      · exact h
      · assumption
  · simp
theorem mem_addAll : ∀ {m l : List Flt} {x : Flt}, x ∈ addAll l m ↔ x ∈ l ∨ x ∈ m
  | [], l, x => by simp [addAll]
  | f :: m, l, x => by
    show x ∈ addAll (addF l f) m ↔ _
    rw [mem_addAll, mem_addF]; simp [or_assoc]
theorem mem_examF {c : Crd} {needs : List Nd} {docs : List Pap} {day : Int} {x : Flt} : x ∈ examF c needs docs day ↔ x ∈ toldE c needs docs day := by
  unfold examF; rw [mem_addAll]; simp
end Go.Proofs.YtdjmckjbibfecaaGreatDoor
namespace Go.Proofs.YtdjmckjbibfecaaGreatDoor
open Go

theorem isW_in (t v : ByteArray) : isW t v = 0 ∨ isW t v = 3 := by unfold isW; split <;> simp
theorem sumW_in (c : Crd) (v : ByteArray) : sumW c v = 0 ∨ sumW c v = 2 ∨ sumW c v = 5 ∨ sumW c v = 6 := by
  unfold sumW; split
  · simp
  · split
    · simp
    · split <;> simp
theorem issuedW_in (c : Crd) (day : Int) (v : ByteArray) : issuedW c day v = 0 ∨ issuedW c day v = 2 ∨ issuedW c day v = 4 := by
  unfold issuedW; split
  · simp
  · split <;> simp
end Go.Proofs.YtdjmckjbibfecaaGreatDoor
namespace Go.Proofs.YtdjmckjbibfecaaGreatDoor
open Go Go.RowKit Go.BigFrame Go.Maps

def Row40 (w : World) (g : Nat) : Prop := ∃ cs fr, w.heap[g]? = some (.cells cs 54 fr)
/-- The blocks that tellings may turn. -/
def TS (B cf bm : Nat) (w : World) (g : Nat) : Prop := B ≤ g ∧ (g = bm ∨ g = cf ∨ Row40 w g)
def Tld (B cf bm : Nat) (w w' : World) : Prop := ButS (TS B cf bm w) w w'
section
variable {B cf bm : Nat} {w w' a b c : World}
theorem Tld.refl (B cf bm : Nat) (w : World) : Tld B cf bm w w := ButS.refl _ _
theorem Tld.of_below (h : Below w.heap.size w w') : Tld B cf bm w w' := ButS.of_below h
theorem Tld.size (h : Tld B cf bm w w') : w.heap.size ≤ w'.heap.size := ButS.size h
theorem Tld.low (h : Tld B cf bm w w') (hB : B ≤ w.heap.size) : Below B w w' := ButS.below h (fun _ hg => hg.1) hB
theorem Tld.trans (h : Tld B cf bm a b) (k : Tld B cf bm b c) : Tld B cf bm a c :=
  ⟨k.os.trans h.os, k.tape.trans h.tape, k.output.trans h.output, Nat.le_trans h.size k.size, fun i hi hs => by
    have e := h.block i hi hs
    refine (k.block i (Nat.lt_of_lt_of_le hi h.size) (fun ⟨h1, h2⟩ => hs ⟨h1, ?_⟩)).trans e
    rcases h2 with h2 | h2 | ⟨cs, fr, h2⟩
    · exact .inl h2
    · exact .inr (.inl h2)
    · exact .inr (.inr ⟨cs, fr, by rw [← e]; exact h2⟩)⟩
end
/-- The examiner, and what is told so far. -/
structure ExS (w0 : World) (ct cf bm xb : Nat) (X : Array Value) (w : World) (v : Value) (l : List Flt) : Prop where
  tell : Tell w w0.heap.size ct cf bm v l
  exam : Blk w xb 94 X
  below : Below w0.heap.size w0 w
section
variable {w0 : World} {ct cf bm xb : Nat} {X : Array Value} {w w' : World} {v : Value} {l : List Flt}
theorem ExS.belows (h : ExS w0 ct cf bm xb X w v l) (hb : Below w.heap.size w w') : ExS w0 ct cf bm xb X w' v l :=
  ⟨h.tell.below hb, h.exam.below hb h.exam.lt, h.below.trans (hb.mono h.below.size)⟩
theorem ExS.alloc (h : ExS w0 ct cf bm xb X w v l) (o : Obj) : ExS w0 ct cf bm xb X (w.alloc o) v l := h.belows ((Below.refl _ _).alloc (Nat.le_refl _) o)
theorem ExS.drew (h : ExS w0 ct cf bm xb X w v l) : ExS w0 ct cf bm xb X w.drew v l := h.belows (Below.refl _ _).drew
theorem ExS.no (h : ExS w0 ct cf bm xb X w v l) {g : Nat} {t : TypeId} {cs : Array Value} (hb : Blk w g t cs) (ht : t ≠ 54) (ht2 : t ≠ 47) : ¬ TS w0.heap.size cf bm w g := by
  rintro ⟨_, e | e | ⟨cs', fr, e⟩⟩
  · subst e; exact blk_map_ne hb h.tell.map rfl
  · subst e
    have h1 := h.tell.fc
    rw [Blk] at h1 hb
    rw [h1] at hb
    simp at hb; exact ht2 hb.2.symm
  · rw [Blk, e] at hb
    simp at hb; exact ht hb.2.1.symm
theorem ExS.keep (h : ExS w0 ct cf bm xb X w v l) (ht : Tld w0.heap.size cf bm w w') {g : Nat} {t : TypeId} {cs : Array Value} (hb : Blk w g t cs) (h1 : t ≠ 54) (h2 : t ≠ 47) : Blk w' g t cs := ButS.blk ht hb (h.no hb h1 h2)
theorem ExS.keepM (h : ExS w0 ct cf bm xb X w v l) (ht : Tld w0.heap.size cf bm w w') {k e : TypeId} {b n : Nat} {z : Value} {S : Value → Option Value} (hm : MapFn w Tryz.prog k e b n z S) (hne : b ≠ bm) : MapFn w' Tryz.prog k e b n z S :=
  ButS.map ht hm (by
    rintro ⟨_, e | e | ⟨cs', fr, e⟩⟩
    · exact hne e
    · exact blk_map_ne h.tell.fc hm e
    · obtain ⟨D, zd, ⟨es, clock, hh, _⟩, _⟩ := hm
      rw [hh] at e; cases e)
end
/-- Some faults are told. -/
def Ted (w0 : World) (ct cf bm xb : Nat) (X : Array Value) (l : List Flt) (w : World) (e : Ending) (w' : World) : Prop :=
  e = .returned (.tuple #[]) ∧ ∃ v, ExS w0 ct cf bm xb X w' v l ∧ Tld w0.heap.size cf bm w w'
theorem tell_ex {w0 : World} {ct cf bm xb : Nat} {X : Array Value} {w : World} {v : Value} {l : List Flt} (f : Flt) (hf : f.fits) (hl : l.length ≤ 100000) (h : ExS w0 ct cf bm xb X w v l) :
    Calls Tryz.prog 57 #[f.agg, .pointer (some ⟨ct, 0, none⟩), .pointer (some ⟨cf, 0, none⟩)] w (Ted w0 ct cf bm xb X (addF l f) w) := by
  refine (tell_any f hf w0.heap.size ct cf bm v l w hl h.tell h.below.size).mono ?_
  rintro e w' ⟨rfl, v', ht, hb⟩
  have hT : Tld w0.heap.size cf bm w w' := ⟨hb.os, hb.tape, hb.output, hb.size, fun k hk hs => hb.block k hk (fun hts => hs (by
    rcases hts with e | e | e
    · exact ⟨by have := h.tell.base; omega, .inl e⟩
    · exact ⟨by have := h.tell.base; omega, .inr (.inl e)⟩
    · rcases h.tell.row.2 with ⟨rfl, _⟩ | ⟨g, cap, cur, rfl, hg, hh, _⟩
      · simp [Value.ownBlock] at e
      · simp [Value.ownBlock] at e
        subst e
        exact ⟨hg, .inr (.inr ⟨_, _, hh⟩)⟩))⟩
  exact ⟨rfl, v', ⟨ht, h.keep hT h.exam (by decide) (by decide), h.below.trans (hT.low h.below.size)⟩, hT⟩

/-- The examiner's cells. -/
def exX (C : Array Value) (A : Option Addr) (nn cc : Nat) (day : Int) (ct cf : Nat) : Array Value :=
  C ++ #[.slice A nn cc, .int .i64 day, .func (Fn.func 57) #[] #[.pointer (some ⟨ct, 0, none⟩), .pointer (some ⟨cf, 0, none⟩)]]
theorem exX_docs {C : Array Value} {A : Option Addr} {nn cc : Nat} {day : Int} {ct cf : Nat} (hC : C.size = 18) : (exX C A nn cc day ct cf)[18]? = some (.slice A nn cc) := by
  unfold exX; rw [Array.getElem?_append_right (by omega)]; simp [hC]
theorem exX_day {C : Array Value} {A : Option Addr} {nn cc : Nat} {day : Int} {ct cf : Nat} (hC : C.size = 18) : (exX C A nn cc day ct cf)[19]? = some (.int .i64 day) := by
  unfold exX; rw [Array.getElem?_append_right (by omega)]; simp [hC]
theorem exX_tell {C : Array Value} {A : Option Addr} {nn cc : Nat} {day : Int} {ct cf : Nat} (hC : C.size = 18) : (exX C A nn cc day ct cf)[20]? = some (.func (Fn.func 57) #[] #[.pointer (some ⟨ct, 0, none⟩), .pointer (some ⟨cf, 0, none⟩)]) := by
  unfold exX; rw [Array.getElem?_append_right (by omega)]; simp [hC]
theorem exX_cell {C : Array Value} {A : Option Addr} {nn cc : Nat} {day : Int} {ct cf : Nat} (hC : C.size = 18) {i : Nat} (hi : i < 18) : (exX C A nn cc day ct cf)[i]? = C[i]? := by
  unfold exX; rw [Array.getElem?_append_left (by omega)]
theorem exX_range {w : World} {xb : Nat} {C : Array Value} {A : Option Addr} {nn cc : Nat} {day : Int} {ct cf : Nat} (hC : C.size = 18) (h : Blk w xb 94 (exX C A nn cc day ct cf)) : w.rangeAt xb 0 C.toList := by
  intro j v hv
  have hj : j < 18 := by
    have := (List.getElem?_eq_some_iff.1 hv).1
    simp at this; omega
  rw [Nat.zero_add, h.cell, exX_cell hC hj]
  simpa using hv
set_option maxRecDepth 100000 in
set_option maxHeartbeats 800000 in
theorem exIsAtom_any (k p : Int) (f x : ByteArray) (n : Int) (A : Option Addr) (m c : Nat) (w : World) :
    Calls Tryz.prog 110 #[.agg #[.int .i64 k, .int .i64 p, .string f, .string x, .int .i64 n, .slice A m c]] w fun e w' => e = .returned (.bool (isAtomB k)) ∧ Below w.heap.size w w' := by
  have hb0 := Lib.hid ((Below.refl _ w).alloc (Nat.le_refl _) (.cells #[.int .i64 k, .int .i64 p, .string f, .string x, .int .i64 n, .slice A m c] 24))
  by_cases h : 3 ≤ k ∧ k ≤ 7
  · have ha : Hid (isAtomB k = true) := by unfold Hid isAtomB; simp [h]
    go_enter Tryz.func110, Tryz.ntmps110
    go_wp2_with fail
    all_goals try (exfalso; omega)
    all_goals (go_ret; exact ⟨by rw [ha.out]; rfl, hb0.out⟩)
  · have ha : Hid (isAtomB k = false) := by unfold Hid isAtomB; simp [h]
    go_enter Tryz.func110, Tryz.ntmps110
    go_wp2_with fail
    all_goals try (exfalso; omega)
    all_goals (go_ret; exact ⟨by rw [ha.out]; rfl, hb0.out⟩)
end Go.Proofs.YtdjmckjbibfecaaGreatDoor

/- What Examine tells: the model, in plain words. -/
import Derived.Test.YtpnkpnocipkedaaDoorZf
import Derived.Test.YtpnkpnocipkedaaDoorP
namespace Go.Proofs.YtpnkpnocipkedaaDoor
open Go

mutual
/-- The parts of a rule. -/
def partsT : Tree → List Tree
  | .mk k p f x n A c L => if k = 0 then partsL L else [.mk k p f x n A c L]
def partsL : List Tree → List Tree
  | [] => []
  | t :: L => partsT t ++ partsL L
end
def isAtomB (k : Int) : Bool := decide (3 ≤ k ∧ k ≤ 7)
/-- What a part of a rule tells of a paper. -/
def ruleF (docs : List Pap) (a : Int) (d : Pap) (t : Tree) : List Flt :=
  if holdsT docs d t = 0 then [] else [⟨a, d.kind, if isAtomB t.kind then t.field else ⟨#[]⟩, if t.kind = 7 ∧ holdsT docs d t = 2 then 3 else holdsT docs d t⟩]
def needR (docs : List Pap) (a : Int) (d : Pap) (x : Nd) : List Flt := if x.kind = d.kind then (partsT x.rule).flatMap (ruleF docs a d) else []
def ruledF (needs : List Nd) (docs : List Pap) (a : Int) (d : Pap) : List Flt := needs.flatMap (needR docs a d)
/-- What is asked of a field of a paper. -/
def askF (a : Int) (d : Pap) (name : ByteArray) (wrong : ByteArray → Int) : List Flt :=
  match getF d.fields name with
  | none => [⟨a, d.kind, name, 1⟩]
  | some v => if wrong v = 0 then [] else [⟨a, d.kind, name, wrong v⟩]
def isW (t v : ByteArray) : Int := if v.toList = t.toList then 0 else 3
def boundsB (c : Crd) : Bool := decide (1 ≤ c.amount ∧ c.amount ≤ 1099511627776 ∧ 0 ≤ c.above ∧ c.above ≤ 1000 ∧ 0 ≤ c.below ∧ c.below ≤ 1000 ∧ 0 ≤ c.expiry ∧ c.expiry ≤ 1048576)
def mostC (c : Crd) : Int := c.amount * (1000 + c.above) / 1000
def leastC (c : Crd) : Int := (c.amount * (1000 - c.below) + 999) / 1000
def sumW (c : Crd) (v : ByteArray) : Int :=
  match numF v.data.toList with
  | none => 2
  | some n => if boundsB c = true ∧ mostC c < n then 5 else if boundsB c = true ∧ n < leastC c then 6 else 0
def issuedW (c : Crd) (day : Int) (v : ByteArray) : Int :=
  match numF v.data.toList with
  | none => 2
  | some n => if c.latest < n ∨ n + c.within < day then 4 else 0
def nSeller : ByteArray := ⟨#[115, 101, 108, 108, 101, 114]⟩
def nBuyer : ByteArray := ⟨#[98, 117, 121, 101, 114]⟩
def nCurrency : ByteArray := ⟨#[99, 117, 114, 114, 101, 110, 99, 121]⟩
def nSum : ByteArray := ⟨#[115, 117, 109]⟩
def nIssued : ByteArray := ⟨#[105, 115, 115, 117, 101, 100]⟩
def nExpiry : ByteArray := ⟨#[101, 120, 112, 105, 114, 121]⟩
def invoiceF (c : Crd) (a : Int) (d : Pap) : List Flt := askF a d nSeller (isW c.beneficiary) ++ (askF a d nBuyer (isW c.applicant) ++ (askF a d nCurrency (isW c.currency) ++ askF a d nSum (sumW c)))
def ladingF (c : Crd) (day a : Int) (d : Pap) : List Flt := askF a d nIssued (issuedW c day)
def fixedF (c : Crd) (day a : Int) (d : Pap) : List Flt := if d.kind = 0 then invoiceF c a d else if d.kind = 2 then ladingF c day a d else []
def paperF (c : Crd) (needs : List Nd) (docs : List Pap) (day a : Int) (d : Pap) : List Flt := fixedF c day a d ++ ruledF needs docs a d
def askedB (needs : List Nd) (k : Int) : Bool := needs.any fun x => decide (x.kind = k)
/-- The value of a field of the first paper ahead that is asked for and has it. -/
def aheadF (needs : List Nd) : List Pap → ByteArray → Option ByteArray
  | [], _ => none
  | d :: l, s => match (if askedB needs d.kind then getF d.fields s else none) with
    | some v => some v
    | none => aheadF needs l s
def alikeB (i : Nat) : ByteArray := mkB (alikeL i)
def otherF (needs : List Nd) (ahead : List Pap) (a : Int) (d : Pap) (i : Nat) : List Flt :=
  match getF d.fields (alikeB i) with
  | none => []
  | some v => match aheadF needs ahead (alikeB i) with
    | none => []
    | some o => if o.toList = v.toList then [] else [⟨a, d.kind, alikeB i, 3⟩]
def othersF (needs : List Nd) (ahead : List Pap) (a : Int) (d : Pap) : List Flt := (List.range 6).flatMap (otherF needs ahead a d)
/-- What is told of a paper. -/
def docF (c : Crd) (needs : List Nd) (docs : List Pap) (day : Int) (a : Nat) (d : Pap) : List Flt :=
  if askedB needs d.kind then paperF c needs docs day a d ++ othersF needs (docs.take a) a d else []
def docAt (c : Crd) (needs : List Nd) (docs : List Pap) (day : Int) (a : Nat) : List Flt := match docs[a]? with | some d => docF c needs docs day a d | none => []
def countK (docs : List Pap) (k : Int) : Nat := docs.countP fun d => decide (d.kind = k)
def lackF (docs : List Pap) (x : Nd) : List Flt := if (countK docs x.kind : Int) < x.count then [⟨-1, x.kind, ⟨#[]⟩, 1⟩] else []
def expF (c : Crd) (day : Int) : List Flt := if c.expiry < day then [⟨-1, -1, nExpiry, 4⟩] else []
/-- All that is told, in order. -/
def toldE (c : Crd) (needs : List Nd) (docs : List Pap) (day : Int) : List Flt :=
  expF c day ++ (needs.flatMap (lackF docs) ++ (List.range docs.length).flatMap (docAt c needs docs day))
/-- Some faults more, each once. -/
noncomputable def addAll (l m : List Flt) : List Flt := m.foldl addF l
noncomputable def examF (c : Crd) (needs : List Nd) (docs : List Pap) (day : Int) : List Flt := addAll [] (toldE c needs docs day)

theorem addAll_nil (l : List Flt) : addAll l [] = l := rfl
theorem addAll_one (l : List Flt) (f : Flt) : addAll l [f] = addF l f := rfl
theorem addAll_app (l m k : List Flt) : addAll l (m ++ k) = addAll (addAll l m) k := by simp [addAll]
theorem addAll_len : ∀ (m l : List Flt), (addAll l m).length ≤ l.length + m.length
  | [], l => by simp [addAll]
  | f :: m, l => by
    have h1 := addAll_len m (addF l f)
    have h2 := addF_len l f
    show (addAll (addF l f) m).length ≤ _
    simp only [List.length_cons]; omega
theorem mem_addF {l : List Flt} {f x : Flt} : x ∈ addF l f ↔ x ∈ l ∨ x = f := by
  unfold addF
  split
  · constructor
    · exact .inl
    · rintro (h | rfl)
      · exact h
      · assumption
  · simp
theorem mem_addAll : ∀ {m l : List Flt} {x : Flt}, x ∈ addAll l m ↔ x ∈ l ∨ x ∈ m
  | [], l, x => by simp [addAll]
  | f :: m, l, x => by
    show x ∈ addAll (addF l f) m ↔ _
    rw [mem_addAll, mem_addF]; simp [or_assoc]
theorem mem_examF {c : Crd} {needs : List Nd} {docs : List Pap} {day : Int} {x : Flt} : x ∈ examF c needs docs day ↔ x ∈ toldE c needs docs day := by
  unfold examF; rw [mem_addAll]; simp
theorem addF_nodup {l : List Flt} (f : Flt) (h : l.Nodup) : (addF l f).Nodup := by
  unfold addF
  split
  · exact h
  · rename_i hf
    rw [List.nodup_append]
    exact ⟨h, by simp, fun a ha b hb e => hf (by simp at hb; subst hb; rw [← e]; exact ha)⟩
theorem addAll_nodup : ∀ (m : List Flt) {l : List Flt}, l.Nodup → (addAll l m).Nodup
  | [], _, h => h
  | f :: m, _, h => addAll_nodup m (addF_nodup f h)
theorem examF_nodup (c : Crd) (needs : List Nd) (docs : List Pap) (day : Int) : (examF c needs docs day).Nodup := addAll_nodup _ List.nodup_nil
end Go.Proofs.YtpnkpnocipkedaaDoor

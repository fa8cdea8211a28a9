/- A step of a town as a line: what is told of it, what is read. (Plain: no program.) -/
import Derived.Test.YtheiogafjinihaaDoorP
import Derived.Test.YtheiogafjinihaaDoorQ
namespace Go.Proofs.YtheiogafjinihaaDoor
open Go

/-- A step. -/
structure Stp where
  kind : Int
  n : Int
  party : List UInt8
  akind : Int
  an : Int
  deal : List UInt8
deriving DecidableEq
def stp0 (k : Int) : Stp := ⟨k, 0, [], 0, 0, []⟩
/-- What stands behind the first word. -/
inductive Prt where
  | party | deal | act | num | cnt
deriving DecidableEq
def wAct : List UInt8 := [97, 99, 116]
def wDeliver : List UInt8 := [100, 101, 108, 105, 118, 101, 114]
def wLose : List UInt8 := [108, 111, 115, 101]
def wDouble : List UInt8 := [100, 111, 117, 98, 108, 101]
def wDay : List UInt8 := [100, 97, 121]
def wFlush : List UInt8 := [102, 108, 117, 115, 104]
def wCrash : List UInt8 := [99, 114, 97, 115, 104]
def wSend : List UInt8 := [115, 101, 110, 100]
def actsL : List (List UInt8) := [[111, 114, 100, 101, 114], [97, 112, 112, 108, 121], [115, 104, 105, 112], [105, 110, 115, 117, 114, 101], [112, 114, 101, 115, 101, 110, 116], [115, 97, 105, 108], [108, 97, 110, 100], [100, 101, 99, 108, 97, 114, 101], [100, 117, 116, 121], [115, 117, 114, 114, 101, 110, 100, 101, 114], [108, 111, 115, 101], [114, 101, 112, 108, 97, 99, 101]]
def firstL : List (List UInt8) := [wAct, wDeliver, wLose, wDouble, wDay, wFlush, wCrash, wSend]
def partsL : List (List Prt) := [[.party, .act, .deal, .cnt], [.num], [.num], [.num], [], [.party], [.party, .num], [.party]]
/-- A word's place. -/
def placeL (l : List (List UInt8)) (w : List UInt8) : Nat → Option Nat := fun k => match l with
  | [] => none
  | x :: r => if x = w then some k else placeL r w (k + 1)
def smallC (c : UInt8) : Bool := (decide (97 ≤ c.toNat) && decide (c.toNat ≤ 122)) || (decide (48 ≤ c.toNat) && decide (c.toNat ≤ 57)) || decide (c.toNat = 45)
def nameB (s : List UInt8) : Bool := decide (1 ≤ s.length) && decide (s.length ≤ 16) && s.all smallC
def amongB (n : Int) : Bool := decide (-1048576 ≤ n) && decide (n ≤ 1048576)
def showP (x : Stp) : Prt → List UInt8 × Bool
  | .party => (x.party, nameB x.party)
  | .deal => (x.deal, nameB x.deal)
  | .act => if x.akind < 0 ∨ 12 ≤ x.akind then ([], false) else (actsL.getD x.akind.toNat [], true)
  | .num => (Lib.itoa x.n, amongB x.n)
  | .cnt => (Lib.itoa x.an, amongB x.an)
def atoiV (w : List UInt8) : Option Int := match Lib.atoiAll w with
  | .ok v => if Lib.itoa v = w ∧ amongB v = true then some v else none
  | _ => none
def readP (x : Stp) (w : List UInt8) : Prt → Option Stp
  | .party => if nameB w = true then some { x with party := w } else none
  | .deal => if nameB w = true then some { x with deal := w } else none
  | .act => (placeL actsL w 0).map fun (k : Nat) => ({ x with akind := (k : Int) } : Stp)
  | .num => (atoiV w).map fun v => { x with n := v }
  | .cnt => (atoiV w).map fun v => { x with an := v }
def readPs : List Prt → List (List UInt8) → Stp → Option Stp
  | [], [], x => some x
  | p :: ps, w :: ws, x => (readP x w p).bind (readPs ps ws)
  | _, _, _ => none
/-- The step of a line. -/
def readM (s : List UInt8) : Option Stp := match wordsL 32 s with
  | [] => none
  | w :: ws => (placeL firstL w 0).bind fun k => readPs (partsL.getD k []) ws (stp0 k)
def showPs (x : Stp) (ps : List Prt) : Option (List (List UInt8)) := if ps.all (fun p => (showP x p).2) = true then some (ps.map fun p => (showP x p).1) else none
/-- The line of a step; none: it has none. -/
def lineM (x : Stp) : Option (List UInt8) :=
  if x.kind < 0 ∨ 8 ≤ x.kind then none
  else (showPs x (partsL.getD x.kind.toNat [])).bind fun ws => if readM (joinL 32 (firstL.getD x.kind.toNat [] :: ws)) = some x then some (joinL 32 (firstL.getD x.kind.toNat [] :: ws)) else none

theorem lineM_read {x : Stp} {s : List UInt8} (h : lineM x = some s) : readM s = some x := by
  unfold lineM at h
  split at h
  · cases h
  · cases e : showPs x (partsL.getD x.kind.toNat []) with
    | none => rw [e] at h; cases h
    | some ws =>
      rw [e] at h
      simp only [Option.bind_some] at h
      split at h
      · simp only [Option.some.injEq] at h; subst h; assumption
      · cases h
theorem name_free {s : List UInt8} (h : nameB s = true) : (32 : UInt8) ∉ s ∧ (10 : UInt8) ∉ s := by
  have key : ∀ c ∈ s, smallC c = true := by
    unfold nameB at h
    simp only [Bool.and_eq_true, List.all_eq_true] at h
    exact h.2
  constructor
  · intro hm; have := key _ hm; simp [smallC] at this
  · intro hm; have := key _ hm; simp [smallC] at this
theorem atoiV_itoa {v : Int} (h : amongB v = true) : atoiV (Lib.itoa v) = some v := by
  unfold amongB at h
  simp only [Bool.and_eq_true, decide_eq_true_eq] at h
  unfold atoiV
  rw [atoi_itoa (by omega) (by omega)]
  simp only [true_and]
  rw [if_pos (by unfold amongB; simp only [Bool.and_eq_true, decide_eq_true_eq]; exact h)]
theorem atoiV_back {w : List UInt8} {v : Int} (h : atoiV w = some v) : Lib.itoa v = w ∧ amongB v = true := by
  unfold atoiV at h
  split at h
  · split at h
    · simp only [Option.some.injEq] at h
      subst h; assumption
    · cases h
  · cases h
end Go.Proofs.YtheiogafjinihaaDoor

/- The lines' forms, by their first words. -/
import Derived.Test.YtheiogafjinihaaDoorFo
import Derived.Test.YtheiogafjinihaaDoorP
import Derived.Test.YtheiogafjinihaaDoorM
namespace Go.Proofs.YtheiogafjinihaaDoor
open Go Go.RowKit Go.BigFrame Go.Maps

/-- A part in memory: two closures. -/
def partV (g1 g2 : Nat) : Prt → List Value
  | .party => [fnV 32, fnV 34]
  | .deal => [fnV 35, fnV 36]
  | .act => [fnV 37, fnV 38]
  | .num => [.func (.func 40) #[] #[pO g1], .func (.func 43) #[] #[pO g1]]
  | .cnt => [.func (.func 40) #[] #[pO g2], .func (.func 43) #[] #[pO g2]]
def rowV (g1 g2 : Nat) (k : Nat) : Array Value := ((partsL.getD k []).flatMap (partV g1 g2)).toArray
/-- A form in memory: its kind, its parts' row. -/
def formV (r : Nat → Nat) (k : Nat) : Value := .agg #[.int .i64 (k : Int), if k = 4 then .slice none 0 0 else .slice (some ⟨r k, 0, none⟩) (partsL.getD k []).length (partsL.getD k []).length]
abbrev formZ : Value := .agg #[.int .i64 0, .slice none 0 0]
def formS (r : Nat → Nat) (s : List UInt8) : Option Value := (placeL firstL s 0).map (formV r)
def FormsAt (w : World) (b : Nat) : Prop := ∃ (g1 g2 : Nat) (r : Nat → Nat),
  Blk w g1 105 #[fnV 45] ∧ Blk w g2 105 #[fnV 46] ∧
  (∀ k, k < 8 → k ≠ 4 → Blk w (r k) 81 (rowV g1 g2 k)) ∧ MapS w Tryd.prog 9 b 8 formZ (formS r)
theorem FormsAt.below {w w' : World} {b : Nat} (h : FormsAt w b) (hb : Below w.heap.size w w') : FormsAt w' b := by
  obtain ⟨g1, g2, r, h1, h2, h3, h4⟩ := h
  exact ⟨g1, g2, r, h1.below hb h1.lt, h2.below hb h2.lt, fun k hk h0 => (h3 k hk h0).below hb (h3 k hk h0).lt, h4.below hb⟩
/-- The literal's entries, one behind the other. -/
theorem formS_puts (r : Nat → Nat) : putS (putS (putS (putS (putS (putS (putS (putS (fun _ => none) wAct (formV r 0)) wDeliver (formV r 1)) wLose (formV r 2)) wDouble (formV r 3)) wDay (formV r 4)) wFlush (formV r 5)) wCrash (formV r 6)) wSend (formV r 7) = formS r := by
  funext s
  by_cases h7 : s = wSend
  · subst h7; rfl
  by_cases h6 : s = wCrash
  · subst h6; rfl
  by_cases h5 : s = wFlush
  · subst h5; rfl
  by_cases h4 : s = wDay
  · subst h4; rfl
  by_cases h3 : s = wDouble
  · subst h3; rfl
  by_cases h2 : s = wLose
  · subst h2; rfl
  by_cases h1 : s = wDeliver
  · subst h1; rfl
  by_cases h0 : s = wAct
  · subst h0; rfl
  simp only [putS, if_neg h0, if_neg h1, if_neg h2, if_neg h3, if_neg h4, if_neg h5, if_neg h6, if_neg h7]
  simp only [formS, firstL, placeL]
  rw [if_neg (Ne.symm h0), if_neg (Ne.symm h1), if_neg (Ne.symm h2), if_neg (Ne.symm h3), if_neg (Ne.symm h4), if_neg (Ne.symm h5), if_neg (Ne.symm h6), if_neg (Ne.symm h7)]
  rfl
end Go.Proofs.YtheiogafjinihaaDoor

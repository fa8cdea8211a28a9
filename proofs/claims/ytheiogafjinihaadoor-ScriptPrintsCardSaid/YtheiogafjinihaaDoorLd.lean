/- The document's line. (Plain: no program.) -/
import Derived.Test.YtheiogafjinihaaDoorJ
namespace Go.Proofs.YtheiogafjinihaaDoor
open Go

/-- The document's line of a step that may be told, as its text is put together. -/
def lineD (x : Stp) : List UInt8 :=
  if x.kind = 0 then wAct ++ [32] ++ x.party ++ [32] ++ actsL.getD x.akind.toNat [] ++ [32] ++ x.deal ++ [32] ++ Lib.itoa x.an
  else if x.kind = 1 then wDeliver ++ ([32] ++ Lib.itoa x.n)
  else if x.kind = 2 then wLose ++ ([32] ++ Lib.itoa x.n)
  else if x.kind = 3 then wDouble ++ ([32] ++ Lib.itoa x.n)
  else if x.kind = 4 then wDay
  else if x.kind = 5 then wFlush ++ [32] ++ x.party
  else if x.kind = 6 then wCrash ++ [32] ++ x.party ++ ([32] ++ Lib.itoa x.n)
  else wSend ++ [32] ++ x.party
theorem lineM_D {x : Stp} {s : List UInt8} (h : lineM x = some s) : s = lineD x := by
  have hk : ¬ (x.kind < 0 ∨ 8 ≤ x.kind) := by
    intro g
    unfold lineM at h
    rw [if_pos g] at h
    cases h
  obtain ⟨k, n, p, ak, an, d⟩ := x
  simp only at hk
  obtain ⟨m, rfl⟩ := Int.eq_ofNat_of_zero_le (by omega : 0 ≤ k)
  have hm : m < 8 := by omega
  rw [lineM_kind _ m hm rfl] at h
  split at h
  · rename_i g
    simp only [Option.some.injEq] at h
    subst h
    have g1 := g.1
    have hc : m = 0 ∨ m = 1 ∨ m = 2 ∨ m = 3 ∨ m = 4 ∨ m = 5 ∨ m = 6 ∨ m = 7 := by omega
    rcases hc with rfl | rfl | rfl | rfl | rfl | rfl | rfl | rfl
    · have hak : ¬ (ak < 0 ∨ 12 ≤ ak) := by
        simp [partsL, show_ok, okP] at g1
        omega
      simp [partsL, firstL, showP, joinL, lineD, hak]
    · simp [partsL, firstL, showP, joinL, lineD]
    · simp [partsL, firstL, showP, joinL, lineD]
    · simp [partsL, firstL, showP, joinL, lineD]
    · simp [partsL, firstL, joinL, lineD]
    · simp [partsL, firstL, showP, joinL, lineD]
    · simp [partsL, firstL, showP, joinL, lineD]
    · simp [partsL, firstL, showP, joinL, lineD]
  · cases h
theorem lineM_eq (x : Stp) : lineM x = if rightB x = true then some (lineD x) else none := by
  have h := lineM_right x
  cases e : lineM x with
  | none => rw [e] at h; rw [← h]; rfl
  | some s => rw [e] at h; rw [← h, lineM_D e]; rfl
/-- The document's text of steps. -/
theorem linesM_eq : ∀ l : List Stp, linesM l = if l.all rightB = true then some (l.flatMap fun x => lineD x ++ [10]) else none
  | [] => rfl
  | x :: r => by
    rw [linesM, lineM_eq, linesM_eq r, List.all_cons]
    cases h : rightB x <;> cases g : r.all rightB <;> simp
end Go.Proofs.YtheiogafjinihaaDoor

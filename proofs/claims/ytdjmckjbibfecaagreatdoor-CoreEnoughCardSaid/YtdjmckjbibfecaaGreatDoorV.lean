/- Rules: trees in memory; how a rule stands. -/
import Derived.Test.YtdjmckjbibfecaaGreatDoorT
import Derived.Test.YtdjmckjbibfecaaGreatDoorU
namespace Go.Proofs.YtdjmckjbibfecaaGreatDoor
open Go Go.RowKit Go.BigFrame Go.Maps

inductive Tree where
  | mk (kind paper : Int) (field text : ByteArray) (num : Int) (A : Option Addr) (c : Nat) (L : List Tree) : Tree
def Tree.kind : Tree → Int | .mk k _ _ _ _ _ _ _ => k
def Tree.field : Tree → ByteArray | .mk _ _ f _ _ _ _ _ => f
def Tree.sub : Tree → List Tree | .mk _ _ _ _ _ _ _ L => L
def Tree.cells : Tree → Array Value | .mk k p f x n A c L => #[.int .i64 k, .int .i64 p, .string f, .string x, .int .i64 n, .slice A L.length c]

def CellsAt (w : World) (A : Option Addr) (j : Nat) : Tree → Prop
  | .mk k p f x n A' c L => ∃ b off, A = some ⟨b, off, none⟩ ∧ w.cell? ⟨b, off + j * 6, none⟩ = some (.int .i64 k) ∧ w.cell? ⟨b, off + j * 6 + 1, none⟩ = some (.int .i64 p) ∧ w.cell? ⟨b, off + j * 6 + 2, none⟩ = some (.string f) ∧
      w.cell? ⟨b, off + j * 6 + 3, none⟩ = some (.string x) ∧ w.cell? ⟨b, off + j * 6 + 4, none⟩ = some (.int .i64 n) ∧ w.cell? ⟨b, off + j * 6 + 5, none⟩ = some (.slice A' L.length c)
theorem CellsAt.below {w w' : World} {A : Option Addr} {j : Nat} {t : Tree} (h : CellsAt w A j t) (hb : Below w.heap.size w w') : CellsAt w' A j t := by
  obtain ⟨k, p, f, x, n, A', c, L⟩ := t
  obtain ⟨b, off, e, h0, h1, h2, h3, h4, h5⟩ := h
  have hlt : b < w.heap.size := World.block_lt_of_cell? w _ h0
  exact ⟨b, off, e, by rw [hb.cell hlt]; exact h0, by rw [hb.cell hlt]; exact h1, by rw [hb.cell hlt]; exact h2, by rw [hb.cell hlt]; exact h3, by rw [hb.cell hlt]; exact h4, by rw [hb.cell hlt]; exact h5⟩
mutual
def TreeAt (w : World) : Tree → Prop
  | .mk _ _ _ _ _ A _ L => RowsAt w A 0 L ∧ L.length ≤ maxLen
def RowsAt (w : World) (A : Option Addr) (j : Nat) : List Tree → Prop
  | [] => True
  | t :: L => CellsAt w A j t ∧ TreeAt w t ∧ RowsAt w A (j + 1) L
end
mutual
theorem TreeAt.below {w w' : World} (hb : Below w.heap.size w w') : ∀ {t : Tree}, TreeAt w t → TreeAt w' t
  | .mk _ _ _ _ _ A _ L, h => by
    rw [TreeAt] at h ⊢
    exact ⟨RowsAt.below hb h.1, h.2⟩
theorem RowsAt.below {w w' : World} (hb : Below w.heap.size w w') : ∀ {A : Option Addr} {j : Nat} {L : List Tree}, RowsAt w A j L → RowsAt w' A j L
  | _, _, [], _ => by rw [RowsAt]; trivial
  | _, _, t :: L, h => by
    rw [RowsAt] at h ⊢
    exact ⟨h.1.below hb, TreeAt.below hb h.2.1, RowsAt.below hb h.2.2⟩
end
theorem RowsAt.get {w : World} : ∀ {A : Option Addr} {j : Nat} {L : List Tree} (_ : RowsAt w A j L) (k : Nat) (t : Tree), L[k]? = some t → CellsAt w A (j + k) t ∧ TreeAt w t
  | _, _, [], _, k, t, hk => by simp at hk
  | _, _, u :: L, h, 0, t, hk => by
    rw [RowsAt] at h
    simp at hk; subst hk
    exact ⟨h.1, h.2.1⟩
  | _, j, u :: L, h, k + 1, t, hk => by
    rw [RowsAt] at h
    have := RowsAt.get h.2.2 k t (by simpa using hk)
    rw [show j + 1 + k = j + (k + 1) by omega] at this
    exact this

def soT (b : Bool) : Int := if b then 0 else 2
/-- How a rule over a field stands, that has a value. -/
def atomT (docs : List Pap) (k p : Int) (x : ByteArray) (n : Int) (v : ByteArray) : Int :=
  if k = 3 then soT (decide (v.toList = x.toList))
  else if k = 4 then soT (Lib.contains v.data.toList x.data.toList)
  else if k = 5 then soT (match numF v.data.toList with | some m => decide (m ≤ n) | none => false)
  else if k = 6 then soT (match numF v.data.toList with | some m => decide (n ≤ m) | none => false)
  else if k = 7 then (match fieldD docs p x with | some u => soT (decide (v.toList = u.toList)) | none => 1)
  else 2
mutual
/-- How a rule stands, asked of a paper. -/
def holdsT (docs : List Pap) (d : Pap) : Tree → Int
  | .mk k p f x n _ _ L =>
    if k = 0 then greatT docs d L 0
    else if k = 1 then leastT docs d L 2
    else if k = 2 then 2 - greatT docs d L 0
    else if 3 ≤ k ∧ k ≤ 7 then (match getF d.fields f with | some v => atomT docs k p x n v | none => 1)
    else 2
def greatT (docs : List Pap) (d : Pap) : List Tree → Int → Int
  | [], s => s
  | t :: L, s => greatT docs d L (max s (holdsT docs d t))
def leastT (docs : List Pap) (d : Pap) : List Tree → Int → Int
  | [], s => s
  | t :: L, s => leastT docs d L (min s (holdsT docs d t))
end
theorem soT_range (b : Bool) : 0 ≤ soT b ∧ soT b ≤ 2 := by unfold soT; split <;> omega
theorem atomT_range (docs : List Pap) (k p : Int) (x : ByteArray) (n : Int) (v : ByteArray) : 0 ≤ atomT docs k p x n v ∧ atomT docs k p x n v ≤ 2 := by
  unfold atomT
  repeat' split
  all_goals first | exact soT_range _ | omega
mutual
theorem holdsT_range (docs : List Pap) (d : Pap) : ∀ t : Tree, 0 ≤ holdsT docs d t ∧ holdsT docs d t ≤ 2
  | .mk k p f x n _ _ L => by
    rw [holdsT]
    have h1 := greatT_range docs d L 0 (by omega) (by omega)
    have h2 := leastT_range docs d L 2 (by omega) (by omega)
    repeat' split
    all_goals first | exact atomT_range _ _ _ _ _ _ | omega
theorem greatT_range (docs : List Pap) (d : Pap) : ∀ (L : List Tree) (s : Int), 0 ≤ s → s ≤ 2 → 0 ≤ greatT docs d L s ∧ greatT docs d L s ≤ 2
  | [], s, h0, h1 => by rw [greatT]; exact ⟨h0, h1⟩
  | t :: L, s, h0, h1 => by
    rw [greatT]
    have := holdsT_range docs d t
    exact greatT_range docs d L _ (by omega) (by omega)
theorem leastT_range (docs : List Pap) (d : Pap) : ∀ (L : List Tree) (s : Int), 0 ≤ s → s ≤ 2 → 0 ≤ leastT docs d L s ∧ leastT docs d L s ≤ 2
  | [], s, h0, h1 => by rw [leastT]; exact ⟨h0, h1⟩
  | t :: L, s, h0, h1 => by
    rw [leastT]
    have := holdsT_range docs d t
    exact leastT_range docs d L _ (by omega) (by omega)
end
/-- No field's value is too long. -/
def SmallD (docs : List Pap) : Prop := ∀ d ∈ docs, ∀ f ∈ d.fields, f.value.size ≤ 1000000
theorem getF_mem : ∀ {l : List Fld} {s v : ByteArray}, getF l s = some v → ∃ f ∈ l, f.value = v
  | [], _, _, h => by simp [getF] at h
  | x :: l, s, v, h => by
    rw [getF] at h
    split at h
    · exact ⟨x, by simp, by simpa using h⟩
    · obtain ⟨f, hf, e⟩ := getF_mem h
      exact ⟨f, by simp [hf], e⟩
end Go.Proofs.YtdjmckjbibfecaaGreatDoor

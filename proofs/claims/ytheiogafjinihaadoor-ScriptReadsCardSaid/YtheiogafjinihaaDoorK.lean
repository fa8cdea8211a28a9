/- What is read of a line is told by that line. (Plain: no program.) -/
import Derived.Test.YtheiogafjinihaaDoorL
namespace Go.Proofs.YtheiogafjinihaaDoor
open Go

/-- Two steps say the same there. -/
def eqP (x z : Stp) : Prt → Prop
  | .party => x.party = z.party
  | .deal => x.deal = z.deal
  | .act => x.akind = z.akind
  | .num => x.n = z.n
  | .cnt => x.an = z.an
theorem eqP.show_ {x z : Stp} {p : Prt} (h : eqP x z p) : showP x p = showP z p := by
  cases p <;> simp only [eqP] at h <;> simp only [showP, h]
theorem eqP.put_ {x z : Stp} (y : Stp) {p : Prt} (h : eqP x z p) : putP x y p = putP z y p := by
  cases p <;> simp only [eqP] at h <;> simp only [putP, h]
theorem put_apart (u y : Stp) {p q : Prt} (h : p ≠ q) : eqP (putP u y q) y p := by
  cases p <;> cases q <;> first | exact absurd rfl h | rfl
theorem eqP.trans_ {x y z : Stp} {p : Prt} (h : eqP x y p) (g : eqP y z p) : eqP x z p := by
  cases p <;> exact h.trans g
theorem puts_apart (u : Stp) {p : Prt} : ∀ (ps : List Prt) (y : Stp), p ∉ ps → eqP (ps.foldl (fun y q => putP u y q) y) y p
  | [], y, _ => by cases p <;> rfl
  | q :: ps, y, h => by
    rw [List.foldl_cons]
    exact (puts_apart u ps _ (fun g => h (by simp [g]))).trans_ (put_apart u y (fun e => h (by simp [e])))
theorem place_at : ∀ (l : List (List UInt8)) (w : List UInt8) (k j : Nat), placeL l w k = some j → k ≤ j ∧ l[j - k]? = some w
  | [], w, k, j, h => by cases h
  | x :: r, w, k, j, h => by
    rw [placeL] at h
    split at h
    · simp only [Option.some.injEq] at h
      subst h
      rename_i e
      subst e
      exact ⟨Nat.le_refl _, by simp⟩
    · obtain ⟨h1, h2⟩ := place_at r w (k + 1) j h
      refine ⟨by omega, ?_⟩
      have e : j - k = (j - (k + 1)) + 1 := by omega
      rw [e, List.getElem?_cons_succ]
      exact h2
theorem read_back {y z : Stp} {w : List UInt8} {p : Prt} (h : readP y w p = some z) : (showP z p).1 = w ∧ (showP z p).2 = true ∧ z = putP z y p := by
  cases p with
  | party =>
    simp only [readP] at h
    split at h
    · simp only [Option.some.injEq] at h
      subst h
      rename_i g
      exact ⟨rfl, g, rfl⟩
    · cases h
  | deal =>
    simp only [readP] at h
    split at h
    · simp only [Option.some.injEq] at h
      subst h
      rename_i g
      exact ⟨rfl, g, rfl⟩
    · cases h
  | act =>
    simp only [readP] at h
    obtain ⟨k, hk, rfl⟩ := Option.map_eq_some_iff.1 h
    obtain ⟨_, h2⟩ := place_at _ _ _ _ hk
    rw [Nat.sub_zero] at h2
    have hlt : k < 12 := (List.getElem?_eq_some_iff.1 h2).1
    have hn : ¬ ((k : Int) < 0 ∨ 12 ≤ (k : Int)) := by omega
    refine ⟨?_, ?_, rfl⟩
    · simp only [showP]
      rw [if_neg hn]
      simp [h2]
    · simp only [showP]
      rw [if_neg hn]
  | num =>
    simp only [readP] at h
    obtain ⟨v, hv, rfl⟩ := Option.map_eq_some_iff.1 h
    exact ⟨(atoiV_back hv).1, (atoiV_back hv).2, rfl⟩
  | cnt =>
    simp only [readP] at h
    obtain ⟨v, hv, rfl⟩ := Option.map_eq_some_iff.1 h
    exact ⟨(atoiV_back hv).1, (atoiV_back hv).2, rfl⟩
theorem reads_back : ∀ (ps : List Prt) (ws : List (List UInt8)) (y x : Stp), ps.Nodup → readPs ps ws y = some x →
    ws = ps.map (fun p => (showP x p).1) ∧ (ps.all fun p => (showP x p).2) = true ∧ ps.foldl (fun y p => putP x y p) y = x
  | [], [], y, x, _, h => by
    simp only [readPs, Option.some.injEq] at h
    subst h
    exact ⟨rfl, rfl, rfl⟩
  | [], _ :: _, _, _, _, h => by cases h
  | _ :: _, [], _, _, _, h => by cases h
  | p :: ps, w :: ws, y, x, hn, h => by
    obtain ⟨hp, hn'⟩ := List.nodup_cons.1 hn
    rw [readPs] at h
    cases hz : readP y w p with
    | none => rw [hz] at h; cases h
    | some z =>
      rw [hz, Option.bind_some] at h
      obtain ⟨e1, e2, e3⟩ := reads_back ps ws z x hn' h
      obtain ⟨f1, f2, f3⟩ := read_back hz
      have hxz : eqP x z p := by
        have := puts_apart x ps z hp
        rwa [e3] at this
      refine ⟨?_, ?_, ?_⟩
      · rw [List.map_cons, ← e1, hxz.show_, f1]
      · rw [List.all_cons, e2, hxz.show_, f2]; rfl
      · rw [List.foldl_cons, hxz.put_, ← f3]
        exact e3
theorem parts_nodup : ∀ k : Fin 8, (partsL.getD k.val []).Nodup := by decide
/-- What is read is told. -/
theorem readM_line {s : List UInt8} {x : Stp} (h : readM s = some x) : lineM x = some s := by
  have hj := join_words 32 s.length s (Nat.le_refl _)
  unfold readM at h
  cases hw : wordsL 32 s with
  | nil => exact absurd hw (wordsL_ne 32 s)
  | cons w ws =>
    rw [hw] at h hj
    simp only at h
    cases hk : placeL firstL w 0 with
    | none => rw [hk] at h; cases h
    | some k =>
      rw [hk, Option.bind_some] at h
      obtain ⟨_, h2⟩ := place_at _ _ _ _ hk
      rw [Nat.sub_zero] at h2
      have hlt : k < 8 := (List.getElem?_eq_some_iff.1 h2).1
      obtain ⟨e1, e2, e3⟩ := reads_back _ ws _ x (parts_nodup ⟨k, hlt⟩) h
      have hkind : x.kind = k := by
        have key : ∀ (ps : List Prt) (y : Stp), (ps.foldl (fun y p => putP x y p) y).kind = y.kind := by
          intro ps
          induction ps with
          | nil => intro y; rfl
          | cons p ps ih => intro y; rw [List.foldl_cons, ih]; cases p <;> rfl
        have := key (partsL.getD k []) (stp0 k)
        rw [e3] at this
        exact this
      rw [lineM_kind x k hlt hkind, if_pos ⟨e2, e3⟩]
      congr 1
      rw [← hj, e1]
      have : firstL.getD k [] = w := by simp [h2]
      rw [this]
/-- The line of a step has no line feed. -/
theorem line_free {x : Stp} {s : List UInt8} (h : lineM x = some s) : (10 : UInt8) ∉ s := by
  have hk : ¬ (x.kind < 0 ∨ 8 ≤ x.kind) := by
    intro g
    unfold lineM at h
    rw [if_pos g] at h
    cases h
  have hlt : x.kind.toNat < 8 := by omega
  rw [lineM_kind x x.kind.toNat hlt (by omega)] at h
  split at h
  · rename_i g
    simp only [Option.some.injEq] at h
    subst h
    have key : ∀ ws : List (List UInt8), (∀ w ∈ ws, (10 : UInt8) ∉ w) → (10 : UInt8) ∉ joinL 32 ws := by
      intro ws
      induction ws with
      | nil => intro _; simp [joinL]
      | cons w ws ih =>
        intro hf
        cases ws with
        | nil => exact hf w (by simp)
        | cons v ws =>
          rw [joinL]
          have h1 := hf w (by simp)
          have h2 := ih (fun x hx => hf x (by simp [hx]))
          simp [h1, h2]
    refine key _ ?_
    intro w hw
    rcases List.mem_cons.1 hw with rfl | hw
    · exact (first_free ⟨_, hlt⟩).2
    · obtain ⟨p, hp, rfl⟩ := List.mem_map.1 hw
      exact (show_free (List.all_eq_true.1 g.1 p hp)).2
  · cases h
end Go.Proofs.YtheiogafjinihaaDoor

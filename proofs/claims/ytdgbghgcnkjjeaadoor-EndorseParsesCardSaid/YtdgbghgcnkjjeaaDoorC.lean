/- Walks over chains. -/
import Derived.Test.YtdgbghgcnkjjeaaDoorB
import Derived.Deep.QuietTactic
import Derived.BigQuiet
import Derived.Deep.Draws
namespace Go.Proofs.YtdgbghgcnkjjeaaDoor
open Go.RowKit

/-- The worlds that hold all that w holds. -/
def Ext (w : World) : Type := { w' : World // Below w.heap.size w w' }
def Ext.wd {w : World} (x : Ext w) : World := x.1
theorem Ext.below {w : World} (x : Ext w) : Below w.heap.size w x.wd := x.2
theorem Ext.cell {w : World} (x : Ext w) (a : Addr) (h : a.block < w.heap.size) : x.wd.cell? a = w.cell? a := x.2.cell h
def Ext.on {w w' : World} (x : Ext w) (h : Below x.wd.heap.size x.wd w') : Ext w := ⟨w', x.2.trans (h.mono x.2.size)⟩
theorem Ext.on_wd {w w' : World} (x : Ext w) (h : Below x.wd.heap.size x.wd w') : (x.on h).wd = w' := rfl

instance Ext.nonempty (w : World) : Nonempty (Ext w) := ⟨⟨w, Below.refl _ w⟩⟩

/-- A region that draws its order and whose operations read what was there, or call what makes memory of its own and hands back a plain value. -/
theorem wp_region_ext {P : Program} {id : Nat} {Q : Exit → Act → World → Prop} {a : Act} {w : World} {l : List Oper} (hm : P.follows .mixedOrders = true) (hB : Region.lexB .any l.toArray = true)
    (h : wpQuiet P l.toArray (fun w' => ∃ x : Ext w, w' = x.wd) (fun a' => ∀ w', (∃ x : Ext w, w' = x.wd) → Q .normal a' w') l a) : (Code.region id l.toArray true).wp P Q a w :=
  wp_region_quiet (C := fun w' => ∃ x : Ext w, w' = x.wd) hm hB ⟨⟨_, (Below.refl _ w).drew⟩, rfl⟩ (by simpa using h)

theorem Calls.ext_of {P : Program} {f : FuncId} {args : Array Value} {w : World} {x : Ext w} {v : Value}
    (h : Calls P f args x.wd fun e w' => e = .returned v ∧ Below x.wd.heap.size x.wd w') : Calls P f args x.wd fun e w'' => e = .returned v ∧ ∃ y : Ext w, w'' = y.wd :=
  h.mono fun _ _ ⟨he, hb⟩ => ⟨he, x.on hb, rfl⟩
theorem Calls.ext_of_same {P : Program} {f : FuncId} {args : Array Value} {w : World} {x : Ext w} {v : Value}
    (h : Calls P f args x.wd fun e w' => e = .returned v ∧ x.wd = w') : Calls P f args x.wd fun e w'' => e = .returned v ∧ ∃ y : Ext w, w'' = y.wd :=
  h.mono fun _ _ ⟨he, hb⟩ => ⟨he, x, hb.symm⟩

/-- A row of endorsements in memory. -/
def EndsAt (w : World) (A : Option Addr) (l : List End) : Prop :=
  ∀ (k : Nat) (x : End), l[k]? = some x → ∃ b off, A = some ⟨b, off, none⟩ ∧ w.cell? ⟨b, off + k * 4, none⟩ = some (.string x.frm) ∧ w.cell? ⟨b, off + k * 4 + 1, none⟩ = some (.string x.to) ∧
    w.cell? ⟨b, off + k * 4 + 2, none⟩ = some (.int .i64 x.kind) ∧ w.cell? ⟨b, off + k * 4 + 3, none⟩ = some (.int .i64 x.day) ∧ x.frm.size ≤ maxLen ∧ x.to.size ≤ maxLen

theorem EndsAt.below {w w' : World} {A : Option Addr} {l : List End} (h : EndsAt w A l) (hb : Below w.heap.size w w') : EndsAt w' A l := by
  intro k x hk
  obtain ⟨b, off, hA, h0, h1, h2, h3, h4, h5⟩ := h k x hk
  have hlt : b < w.heap.size := World.block_lt_of_cell? w ⟨b, off + k * 4, none⟩ h0
  exact ⟨b, off, hA, by rw [hb.cell hlt]; exact h0, by rw [hb.cell hlt]; exact h1, by rw [hb.cell hlt]; exact h2, by rw [hb.cell hlt]; exact h3, h4, h5⟩
theorem EndsAt.take {w : World} {A : Option Addr} {l : List End} (h : EndsAt w A l) (n : Nat) : EndsAt w A (l.take n) := by
  intro k x hk
  rw [List.getElem?_take] at hk
  split at hk
  · exact h k x hk
  · cases hk

def lastKind (l : List End) : Option Int := l.getLast?.map (·.kind)

set_option maxHeartbeats 400000 in
theorem closed_any (A : Option Addr) (n c : Nat) (l : List End) (w : World) (hn : n ≤ maxLen) (hl : Hid (l.length = n)) (hA : Hid (EndsAt w A l)) :
    Calls Tryd.prog 36 #[.slice A n c] w fun e w' => e = .returned (.bool (lastKind l == some 2)) ∧ w = w' := by
  unfold maxLen at hn
  rcases Nat.eq_zero_or_pos n with h0 | h0
  · subst h0
    have : l = [] := List.eq_nil_of_length_eq_zero hl
    subst this
    go_enter Tryd.func36, Tryd.ntmps36
    go_wp2
    go_ret
    exact ⟨rfl, rfl⟩
  · obtain ⟨m, rfl⟩ : ∃ m, n = m + 1 := ⟨n - 1, by omega⟩
    obtain ⟨x, hx⟩ : ∃ x, l[m]? = some x := ⟨_, List.getElem?_eq_getElem (by have := hl.out; omega)⟩
    obtain ⟨b, off, rfl, -, -, h2, -, -, -⟩ := hA.out m x hx
    have hlast : Hid ((x.kind == 2) = (lastKind l == some 2)) := by
      have : l.getLast? = some x := by rw [List.getLast?_eq_getElem?, hl.out]; exact hx
      simp [Hid, lastKind, this]
    clear hx
    go_enter Tryd.func36, Tryd.ntmps36
    go_wp2
    go_ret
    exact ⟨retB hlast.out, rfl⟩

set_option maxHeartbeats 400000 in
theorem blank_any (A : Option Addr) (n c : Nat) (l : List End) (w : World) (hn : n ≤ maxLen) (hl : Hid (l.length = n)) (hA : Hid (EndsAt w A l)) :
    Calls Tryd.prog 37 #[.slice A n c] w fun e w' => e = .returned (.bool (lastKind l == some 1)) ∧ w = w' := by
  unfold maxLen at hn
  rcases Nat.eq_zero_or_pos n with h0 | h0
  · subst h0
    have : l = [] := List.eq_nil_of_length_eq_zero hl
    subst this
    go_enter Tryd.func37, Tryd.ntmps37
    go_wp2
    go_ret
    exact ⟨rfl, rfl⟩
  · obtain ⟨m, rfl⟩ : ∃ m, n = m + 1 := ⟨n - 1, by omega⟩
    obtain ⟨x, hx⟩ : ∃ x, l[m]? = some x := ⟨_, List.getElem?_eq_getElem (by have := hl.out; omega)⟩
    obtain ⟨b, off, rfl, -, -, h2, -, -, -⟩ := hA.out m x hx
    have hlast : Hid ((x.kind == 1) = (lastKind l == some 1)) := by
      have : l.getLast? = some x := by rw [List.getLast?_eq_getElem?, hl.out]; exact hx
      simp [Hid, lastKind, this]
    clear hx
    go_enter Tryd.func37, Tryd.ntmps37
    go_wp2
    go_ret
    exact ⟨retB hlast.out, rfl⟩

def wrongE (holder : ByteArray) (ahead : List End) (e : End) : Int :=
  if e.okB = false then 2 else if (lastKind ahead == some 2) = true then 9 else
    if (lastKind ahead == some 1) = false ∧ (e.frm.toList == holder.toList) = false then 8 else
      match ahead.getLast? with
      | some y => if e.day < y.day then 6 else 0
      | none => 0
theorem retI {k : IntKind} {a b : Int} (h : a = b) : Ending.returned (.int k a) = .returned (.int k b) := by rw [h]

theorem bcell {W w1 : World} (hb : Below W.heap.size W w1) : (∀ b o, b < W.heap.size → w1.cell? ⟨b, o, none⟩ = W.cell? ⟨b, o, none⟩) := fun b o h => hb.cell (p := ⟨b, o, none⟩) h

set_option maxHeartbeats 400000 in
theorem wrong_some (h f t : ByteArray) (k d : Int) (A : Option Addr) (n c : Nat) (l : List End) (w : World) (hf : f.size ≤ maxLen) (ht : t.size ≤ maxLen) (hn : n + 1 ≤ maxLen) (hl : Hid (l.length = n + 1)) (hA : Hid (EndsAt w A l)) :
    Calls Tryd.prog 24 #[.string h, .slice A (n + 1) c, .agg #[.string f, .string t, .int .i64 k, .int .i64 d]] w
      fun e w' => e = .returned (.int .i64 (wrongE h l ⟨f, t, k, d⟩)) ∧ Below w.heap.size w w' := by
  obtain ⟨x, hx⟩ : ∃ x, l[n]? = some x := ⟨_, List.getElem?_eq_getElem (by have := hl.out; omega)⟩
  obtain ⟨b, off, rfl, -, -, -, h3, -, -⟩ := hA.out n x hx
  have hlast : Hid (l.getLast? = some x) := by unfold Hid; rw [List.getLast?_eq_getElem?, hl.out]; exact hx
  clear hx
  have hlt := World.block_lt_of_cell? w _ h3
  go_enter Tryd.func24, Tryd.ntmps24
  go_wp2_with fail
  refine (may_any _ _ _ _ _ hf ht).mono ?_
  rintro e w1 ⟨rfl, hb⟩
  have hB : Below w.heap.size w w1 := ((Below.refl _ w).alloc (Nat.le_refl _) _).trans (hb.mono (by simp))
  have hc := bcell hb
  simp only [World.size_alloc] at hc
  have hA1 : Hid (EndsAt w1 (some ⟨b, off, none⟩) l) := (hA.out.below ((Below.refl _ _).alloc (Nat.le_refl _) _)).below hb
  go_wp2_with (first | (go_at_call 36; refine (closed_any _ _ _ l _ hn hl hA1).mono ?_; rintro e w' ⟨rfl, rfl⟩) | (go_at_call 37; refine (blank_any _ _ _ l _ hn hl hA1).mono ?_; rintro e w' ⟨rfl, rfl⟩))
  all_goals (try (have hw64 : IntKind.i64.wrap (n : Int) = n := IntWalk.i64_in _ (by unfold maxLen at hn; omega)
                  go_quiet (fail)
                  clear hw64
                  go_wp2))
  all_goals (go_ret; refine ⟨retI ?_, ?_⟩)
  all_goals first
    | exact hB
    | exact below_drewN hB _
    | (have hq := hlast.out
       go_light; simp_all [wrongE]; try omega)

theorem wrong_none (h f t : ByteArray) (k d : Int) (A : Option Addr) (c : Nat) (w : World) (hf : f.size ≤ maxLen) (ht : t.size ≤ maxLen) (hA : Hid (EndsAt w A [])) :
    Calls Tryd.prog 24 #[.string h, .slice A 0 c, .agg #[.string f, .string t, .int .i64 k, .int .i64 d]] w
      fun e w' => e = .returned (.int .i64 (wrongE h [] ⟨f, t, k, d⟩)) ∧ Below w.heap.size w w' := by
  go_enter Tryd.func24, Tryd.ntmps24
  go_wp2_with fail
  refine (may_any _ _ _ _ _ hf ht).mono ?_
  rintro e w1 ⟨rfl, hb⟩
  have hB : Below w.heap.size w w1 := ((Below.refl _ w).alloc (Nat.le_refl _) _).trans (hb.mono (by simp))
  have hc := bcell hb
  simp only [World.size_alloc] at hc
  have hA1 : Hid (EndsAt w1 A []) := (hA.out.below ((Below.refl _ _).alloc (Nat.le_refl _) _)).below hb
  go_wp2_with (first | (go_at_call 36; refine (closed_any _ _ _ [] _ (Nat.zero_le _) rfl hA1).mono ?_; rintro e w' ⟨rfl, rfl⟩) | (go_at_call 37; refine (blank_any _ _ _ [] _ (Nat.zero_le _) rfl hA1).mono ?_; rintro e w' ⟨rfl, rfl⟩))
  all_goals (try (go_quiet (fail)
                  go_wp2))
  all_goals (go_ret; refine ⟨retI ?_, ?_⟩)
  all_goals first
    | exact hB
    | exact below_drewN hB _
    | (go_light; simp_all [wrongE, lastKind]; try omega)

theorem wrong_any (h : ByteArray) (x : End) (A : Option Addr) (n c : Nat) (l : List End) (w : World) (hf : x.frm.size ≤ maxLen) (ht : x.to.size ≤ maxLen) (hn : n ≤ maxLen) (hl : Hid (l.length = n)) (hA : Hid (EndsAt w A l)) :
    Calls Tryd.prog 24 #[.string h, .slice A n c, .agg #[.string x.frm, .string x.to, .int .i64 x.kind, .int .i64 x.day]] w
      fun e w' => e = .returned (.int .i64 (wrongE h l x)) ∧ Below w.heap.size w w' := by
  rcases n with _ | n
  · have : l = [] := List.eq_nil_of_length_eq_zero hl
    subst this
    exact wrong_none h x.frm x.to x.kind x.day A c w hf ht hA
  · exact wrong_some h x.frm x.to x.kind x.day A n c l w hf ht hn hl hA

end Go.Proofs.YtdgbghgcnkjjeaaDoor

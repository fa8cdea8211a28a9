/- Walks of awake, Big, Holder, both Mays. -/
import Derived.Test.YtdgbghgcnkjjeaaDoorD
namespace Go.Proofs.YtdgbghgcnkjjeaaDoor
open Go.RowKit Go.BigFrame

def bigB (l : List End) (most : Int) : Bool := decide (most < l.length) || l.any fun x => decide (100 < x.frm.size) || decide (100 < x.to.size)

theorem any_snoc {l : List End} {k : Nat} {x : End} (hx : l[k]? = some x) (p : End → Bool) : (l.take (k + 1)).any p = ((l.take k).any p || p x) := by
  obtain ⟨hk, he⟩ := List.getElem?_eq_some_iff.1 hx
  rw [List.take_succ_eq_append_getElem hk, he]; simp
theorem any_true {l : List End} {k : Nat} {x : End} (hx : l[k]? = some x) (p : End → Bool) (h : p x = true) : l.any p = true := by
  obtain ⟨hk, he⟩ := List.getElem?_eq_some_iff.1 hx
  rw [List.any_eq_true]; exact ⟨x, by rw [← he]; simp, h⟩

theorem big_yes {l : List End} {k : Nat} {x : End} {most : Int} (hx : l[k]? = some x) (h : 100 < (x.frm.size : Int) ∨ 100 < (x.to.size : Int)) : true = bigB l most := by
  rw [bigB, any_true hx _ (by simp; omega)]; simp
theorem big_step {l : List End} {k : Nat} {x : End} (ha : Hid ((l.take k).any (fun x => decide (100 < x.frm.size) || decide (100 < x.to.size)) = false)) (hx : l[k]? = some x) (h : (x.frm.size : Int) ≤ 100 ∧ (x.to.size : Int) ≤ 100) :
    Hid ((l.take (k + 1)).any (fun x => decide (100 < x.frm.size) || decide (100 < x.to.size)) = false) := by
  unfold Hid at *
  rw [any_snoc hx, ha]; simp; omega

set_option maxHeartbeats 800000 in
theorem big_any (A : Option Addr) (n c : Nat) (most : Int) (l : List End) (w : World) (hn : n ≤ maxLen) (hl : Hid (l.length = n)) (hA : Hid (EndsAt w A l)) :
    Calls Tryd.prog 6 #[.slice A n c, .int .i64 most] w fun e w' => e = .returned (.bool (bigB l most)) ∧ w = w' := by
  unfold maxLen at hn
  by_cases hm : most < (n : Int)
  · go_enter Tryd.func6, Tryd.ntmps6
    go_wp2
    go_ret
    exact ⟨retB (by simp [bigB, hl.out, hm]), rfl⟩
  · have hm' : (n : Int) ≤ most := by omega
    go_enter Tryd.func6, Tryd.ntmps6
    go_wp2
    go_loop [4, 5] (fun _ i => ∃ k : Nat, k ≤ n ∧ i = .int .i64 k ∧ Hid ((l.take k).any (fun x => decide (100 < x.frm.size) || decide (100 < x.to.size)) = false)) (fun _ i => n - (intOf i).toNat)
    case atStart => exact ⟨0, Nat.zero_le _, rfl, by simp [Hid]⟩
    case round =>
      obtain ⟨k, hk, rfl, hany⟩ := hrel
      by_cases hlt : k < n
      · obtain ⟨x, hx⟩ : ∃ x, l[k]? = some x := ⟨_, List.getElem?_eq_getElem (by have := hl.out; omega)⟩
        have hx' : Hid (l[k]? = some x) := hx
        clear hx
        obtain ⟨b, off, rfl, h0, h1, h2, h3, h4, h5⟩ := hA.out k x hx'.out
        go_wp2
        · go_ret
          exact ⟨retB (big_yes hx'.out (by go_light; omega)), rfl⟩
        · go_round
          case rel => exact ⟨k + 1, by omega, by go_num, big_step hany hx'.out (by go_light; omega)⟩
          case measure => simp [intOf]; omega
        · go_ret
          exact ⟨retB (big_yes hx'.out (by go_light; omega)), rfl⟩
      · go_wp2
        go_ret
        exact ⟨retB (by
          have := hany.out
          rw [List.take_of_length_le (by have := hl.out; omega)] at this
          simp only [bigB, hl.out, this]; simp; omega), rfl⟩

theorem ends_two (w : World) (b : Nat) (x y : End) (h : ∀ j : Nat, w.cell? ⟨b, j, none⟩ = #[Value.string x.frm, .string x.to, .int .i64 x.kind, .int .i64 x.day, .string y.frm, .string y.to, .int .i64 y.kind, .int .i64 y.day][j]?)
    (h1 : x.frm.size ≤ maxLen) (h2 : x.to.size ≤ maxLen) (h3 : y.frm.size ≤ maxLen) (h4 : y.to.size ≤ maxLen) : EndsAt w (some ⟨b, 0, none⟩) [x, y] := by
  intro k z hk
  match k, hk with
  | 0, hk => obtain rfl : x = z := by simpa using hk
             exact ⟨b, 0, rfl, by rw [h]; rfl, by rw [h]; rfl, by rw [h]; rfl, by rw [h]; rfl, h1, h2⟩
  | 1, hk => obtain rfl : y = z := by simpa using hk
             exact ⟨b, 0, rfl, by rw [h]; rfl, by rw [h]; rfl, by rw [h]; rfl, by rw [h]; rfl, h3, h4⟩
  | k + 2, hk => simp at hk

theorem cell_new (W : World) (cs : Array Value) (t : TypeId) (j b : Nat) (hb : b = W.heap.size) : (W.alloc (.cells cs t)).cell? ⟨b, j, none⟩ = cs[j]? := by
  subst hb
  have h : (W.alloc (.cells cs t)).heap[W.heap.size]? = some (.cells cs t (0, 0)) := heap_alloc_new W _
  unfold World.cell?
  rw [h]; rfl

def endX : End := ⟨⟨#[115]⟩, ⟨#[107]⟩, 0, 0⟩
def endY : End := ⟨⟨#[107]⟩, ⟨#[121]⟩, 0, 0⟩
def endZ : End := ⟨⟨#[115]⟩, ⟨#[121]⟩, 0, 0⟩
theorem awake1 : checkE ⟨#[115]⟩ [endX, endY] = (⟨#[121]⟩, 2, 0) := by decide +kernel
theorem awake2 : checkE ⟨#[115]⟩ [endX, endZ] = (⟨#[]⟩, 1, 8) := by decide +kernel

set_option maxHeartbeats 800000 in
theorem awake_any (w : World) : Calls Tryd.prog 5 #[] w fun e w' => e = .returned (.bool true) ∧ Below w.heap.size w w' := by
  go_enter Tryd.func5, Tryd.ntmps5
  go_wp2_with fail
  refine (check_any ⟨#[115]⟩ _ 2 2 [endX, endY] _ (by decide) (by decide) (by decide) rfl (ends_two _ _ endX endY (fun j => cell_new _ _ _ _ _ (by simp)) (by decide) (by decide) (by decide) (by decide))).mono ?_
  rintro e w1 ⟨rfl, hb⟩
  rw [awake1]
  unfold tri
  have hB : Below w.heap.size w w1 := (((((Below.refl _ w).alloc (Nat.le_refl _) _).alloc (by simp) _).alloc (by simp; omega) _).alloc (by simp; omega) _).trans (hb.mono (by simp; omega))
  have hc := bcell hb
  simp only [World.size_alloc] at hc
  have hz : w.heap.size + 1 + 1 + 1 < w1.heap.size := by have := hb.size; simp at this; omega
  go_wp2_with fail
  refine (check_any ⟨#[115]⟩ _ 2 2 [endX, endZ] _ (by decide) (by decide) (by decide) rfl (ends_two _ _ endX endZ (fun j => cell_new _ _ _ _ _ rfl) (by decide) (by decide) (by decide) (by decide))).mono ?_
  rintro e w2 ⟨rfl, hb2⟩
  rw [awake2]
  unfold tri
  have hB2 : Below w.heap.size w w2 := (hB.alloc hB.size _).trans (hb2.mono (by simp; have := hB.size; omega))
  go_wp2
  go_ret
  exact ⟨rfl, hB2⟩

end Go.Proofs.YtdgbghgcnkjjeaaDoor

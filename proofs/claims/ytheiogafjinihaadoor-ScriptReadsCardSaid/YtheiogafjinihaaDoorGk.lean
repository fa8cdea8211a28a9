/- What is kept: blocks by number and type; rows of deals. -/
import Derived.Test.YtheiogafjinihaaDoorGc
namespace Go.Proofs.YtheiogafjinihaaDoor
open Go Go.RowKit Go.BigFrame Go.Maps

/-- All blocks are kept but those that P tells. -/
def Keeps (P : Nat → TypeId → Prop) (w w' : World) : Prop := ∀ g t cs, Blk w g t cs → ¬ P g t → Blk w' g t cs
section
variable {P : Nat → TypeId → Prop} {w w' w'' : World}
theorem Keeps.refl (P : Nat → TypeId → Prop) (w : World) : Keeps P w w := fun _ _ _ h _ => h
theorem Keeps.trans (h : Keeps P w w') (k : Keeps P w' w'') : Keeps P w w'' := fun g t cs hb hp => k g t cs (h g t cs hb hp) hp
theorem Keeps.below (hb : Below w.heap.size w w') : Keeps P w w' := fun _ _ _ h _ => h.below hb h.lt
theorem Keeps.but {z : Nat} (hb : But z w w') (hz : ∀ t cs, Blk w z t cs → P z t) : Keeps P w w' := fun g t cs h hp => h.but hb (by rintro rfl; exact hp (hz t cs h))
theorem Keeps.grown {row : Option Nat} (hg : w.grownBy w' row) (hz : ∀ z t cs, row = some z → Blk w z t cs → P z t) : Keeps P w w' := fun g t cs h hp => h.grown hg (fun e => hp (hz g t cs e.symm h))
theorem own_keeps {B : Nat} {e : TypeId} {size n : Nat} {v : Value} {xs : List Value} (h : w.ownsRow B e size v n xs) (hk : Keeps P w w') (hp : ∀ g, ¬ P g e) : w'.ownsRow B e size v n xs := by
  refine ⟨h.1, ?_⟩
  rcases h.2 with h2 | ⟨g, cap, cur, e1, e2, hb, rest⟩
  · exact .inl h2
  · exact .inr ⟨g, cap, cur, e1, e2, hk g e cur hb (hp g), rest⟩
theorem BoxRow.keeps {B : Nat} {v : Value} {l : List SBox} (h : BoxRow w B v l) (hk : Keeps P w w') (h1 : ∀ g, ¬ P g 96) (h2 : ∀ g, ¬ P g 98) : BoxRow w' B v l := by
  obtain ⟨gs, e1, e2, e3⟩ := h
  exact ⟨gs, e1, own_keeps e2 hk h1, fun i b g hi hg => hk g _ _ (e3 i b g hi hg) (h2 g)⟩
end
theorem blk_type {w : World} {g : Nat} {t t' : TypeId} {cs cs' : Array Value} (h : Blk w g t cs) (h' : Blk w g t' cs') : t' = t := by
  unfold Blk at h h'
  rw [h] at h'
  simp at h'
  exact h'.2.symm

theorem Tryd.info54 : (Tryd.prog.info? 54).map (fun i => (i.zero, i.size, i.bytes)) = some (some (.agg #[.string ⟨#[]⟩, .string ⟨#[]⟩, .string ⟨#[]⟩, .string ⟨#[]⟩, .string ⟨#[]⟩, .string ⟨#[]⟩, .string ⟨#[]⟩, .string ⟨#[]⟩, .string ⟨#[]⟩, .string ⟨#[]⟩, .int .i64 0, .slice none 0 0, .int .i64 0, .int .i64 0, .int .i64 0, .int .i64 0, .int .i64 0]), 17, 232) := by kernel_rfl
theorem Tryd.info58 : (Tryd.prog.info? 58).map (fun i => (i.zero, i.size, i.bytes)) = some (some (.agg #[.string ⟨#[]⟩, .string ⟨#[]⟩, .int .i64 0]), 3, 40) := by kernel_rfl
def dealL : List SDeal → List Value → List Value
  | d :: l, x :: vs => (d.cells x).toList ++ dealL l vs
  | _, _ => []
theorem dealL_snoc : ∀ (l : List SDeal) (vs : List Value) (d : SDeal) (x : Value), vs.length = l.length → dealL (l ++ [d]) (vs ++ [x]) = dealL l vs ++ (d.cells x).toList
  | [], [], d, x, _ => by simp [dealL]
  | [], _ :: _, _, _, h => by cases h
  | _ :: _, [], _, _, h => by cases h
  | a :: l, y :: vs, d, x, h => by
    simp only [List.cons_append, dealL]
    rw [dealL_snoc l vs d x (by simpa using h), List.append_assoc]
theorem dealL_get : ∀ (l : List SDeal) (vs : List Value) (i j : Nat) (d : SDeal) (x v : Value), l[i]? = some d → vs[i]? = some x → (d.cells x).toList[j]? = some v → (dealL l vs)[i * 17 + j]? = some v
  | [], _, i, j, d, x, v, h, _, _ => by simp at h
  | _ :: _, [], i, j, d, x, v, _, h, _ => by simp at h
  | a :: l, y :: vs, 0, j, d, x, v, h, h', hv => by
    simp at h h'; subst h; subst h'
    rw [dealL, Nat.zero_mul, Nat.zero_add, List.getElem?_append_left (List.getElem?_eq_some_iff.1 hv).1]
    exact hv
  | a :: l, y :: vs, i + 1, j, d, x, v, h, h', hv => by
    have := dealL_get l vs i j d x v (by simpa using h) (by simpa using h') hv
    have e : ((a.cells y).toList).length = 17 := rfl
    rw [dealL, List.getElem?_append_right (by rw [e]; omega), e, show (i + 1) * 17 + j - 17 = i * 17 + j by omega]
    exact this
/-- Deals in a row of one's own. -/
def DealRow (w : World) (B : Nat) (v : Value) (l : List SDeal) : Prop := ∃ vs : List Value, vs.length = l.length ∧ w.ownsRow B 54 17 v l.length (dealL l vs) ∧ ∀ (i : Nat) (d : SDeal) (x : Value), l[i]? = some d → vs[i]? = some x → BoxRow w 0 x d.boxes
theorem DealRow.nil (w : World) (B : Nat) : DealRow w B (.slice none 0 0) [] := ⟨[], rfl, own_none _ _ _ _, fun i b g h => by simp at h⟩
theorem DealRow.keeps {P : Nat → TypeId → Prop} {w w' : World} {B : Nat} {v : Value} {l : List SDeal} (h : DealRow w B v l) (hk : Keeps P w w') (h0 : ∀ g, ¬ P g 54) (h1 : ∀ g, ¬ P g 96) (h2 : ∀ g, ¬ P g 98) : DealRow w' B v l := by
  obtain ⟨vs, e1, e2, e3⟩ := h
  exact ⟨vs, e1, own_keeps e2 hk h0, fun i d x hi hx => (e3 i d x hi hx).keeps hk h1 h2⟩
theorem DealRow.form {w : World} {B : Nat} {v : Value} {l : List SDeal} (h : DealRow w B v l) : ∃ A c, v = .slice A l.length c := by
  obtain ⟨vs, _, h2, _⟩ := h
  rcases h2.2 with ⟨e, h0⟩ | ⟨g, c, cur, e, _⟩
  · exact ⟨none, 0, by rw [e, h0]⟩
  · exact ⟨some ⟨g, 0, none⟩, c, e⟩
/-- The funds of a setup. -/
def entL (a : Int) (q : Nat) : List Value := [.string (nmL.getD (q / 2) ⟨#[]⟩), .string (if q % 2 = 0 then ⟨#[69, 85, 82]⟩ else ⟨#[85, 83, 68]⟩), .int .i64 a]
def fundsV (a : Int) (n : Nat) : List Value := (List.range n).flatMap (entL a)
theorem fundsV_succ (a : Int) (n : Nat) : fundsV a (n + 1) = fundsV a n ++ entL a n := by
  unfold fundsV; rw [List.range_succ, List.flatMap_append]; simp
/-- The days of rest. -/
def RestAt (w : World) (m : Nat) (r : Bool) (v : Value) : Prop := (r = true → ∃ g, m ≤ g ∧ v = .slice (some ⟨g, 0, none⟩) 2 2 ∧ Blk w g 3 #[.int .i64 5, .int .i64 6]) ∧ (r = false → v = .slice none 0 0)
theorem RestAt.keeps {P : Nat → TypeId → Prop} {w w' : World} {m : Nat} {r : Bool} {v : Value} (h : RestAt w m r v) (hk : Keeps P w w') (hp : ∀ g, m ≤ g → ¬ P g 3) : RestAt w' m r v :=
  ⟨fun hr => by
    obtain ⟨g, hg, e, hb⟩ := h.1 hr
    exact ⟨g, hg, e, hk g _ _ hb (hp g hg)⟩, h.2⟩
theorem RestAt.one {w : World} {m : Nat} {r : Bool} {v : Value} (h : RestAt w m r v) : v.oneCell' = true := by
  cases r with
  | true => obtain ⟨g, _, e, _⟩ := h.1 rfl; rw [e]; rfl
  | false => rw [h.2 rfl]; rfl
theorem own_one {w : World} {B : Nat} {e : TypeId} {size n : Nat} {v : Value} {xs : List Value} (h : w.ownsRow B e size v n xs) : v.oneCell' = true := by
  rcases h.2 with ⟨e1, _⟩ | ⟨g, c, cur, e1, _⟩ <;> (rw [e1]; rfl)
theorem own_form2 {w : World} {B : Nat} {e : TypeId} {size n : Nat} {v : Value} {xs : List Value} (h : w.ownsRow B e size v n xs) : ∃ A c, v = .slice A n c := by
  rcases h.2 with ⟨e1, h0⟩ | ⟨g, c, cur, e1, _⟩
  · exact ⟨none, 0, by rw [e1, h0]⟩
  · exact ⟨some ⟨g, 0, none⟩, c, e1⟩
theorem own_keepsP {P : Nat → TypeId → Prop} {w w' : World} {B : Nat} {e : TypeId} {size n : Nat} {v : Value} {xs : List Value} (h : w.ownsRow B e size v n xs) (hg : w.grownBy w' v.ownBlock) (hp : ∀ g, P g e) : Keeps P w w' :=
  Keeps.grown hg fun z t cs hz hb => by
    rcases h.2 with ⟨e1, _⟩ | ⟨g, c, cur, e1, _, hb2, _⟩
    · rw [e1] at hz; simp [Value.ownBlock] at hz
    · rw [e1] at hz
      simp [Value.ownBlock] at hz
      subst hz
      rw [blk_type hb2 hb]
      exact hp _
end Go.Proofs.YtheiogafjinihaaDoor

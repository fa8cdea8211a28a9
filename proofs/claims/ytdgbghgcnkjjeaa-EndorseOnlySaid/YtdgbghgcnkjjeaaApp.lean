/- Steps of a region that draws its order: append(append([]T{}, l...), x). -/
import Derived.Test.YtdgbghgcnkjjeaaMayPlain
import Derived.Deep.RegionLaw
namespace Go.Proofs.Ytdgbghgcnkjjeaa
open Go.RowKit

theorem blk_second (W0 : World) (o : Obj) (t : TypeId) (cs : Array Value) : Blk ((W0.alloc o).alloc (.cells cs t)) (W0.heap.size + 1) t cs := by
  have := Blk.new (W0.alloc o) t cs
  rwa [World.size_alloc] at this
theorem own_blk0 {w : World} {g B : Nat} {t : TypeId} (h : Blk w g t #[]) (hB : B ≤ g) (size : Nat) : w.ownsRow B t size (.slice (some ⟨g, 0, none⟩) 0 0) 0 [] :=
  ⟨by simp, Or.inr ⟨g, 0, #[], rfl, hB, h, Nat.le_refl _, Nat.zero_le _, by simp, by simp⟩⟩
theorem blk_reads {w : World} {g : Nat} {t : TypeId} {cs : Array Value} (h : Blk w g t cs) (size n : Nat) (hs : cs.size = n * size) : Reads w w.heap.size size (some ⟨g, 0, none⟩) n cs.toList := by
  refine ⟨by simpa using hs, fun _ => ⟨_, rfl, h.lt, fun j u hj => ?_⟩⟩
  have hadd : Addr.add ⟨g, 0, none⟩ j = ⟨g, j, none⟩ := by unfold Addr.add; split <;> simp_all
  rw [hadd, h.cell]; simpa using hj
theorem blk_apart {w : World} {g g' : Nat} {t : TypeId} {cs cs' : Array Value} (h : Blk w g t cs) (h' : Blk w g' t cs') (hne : cs ≠ cs') : g ≠ g' := by
  rintro rfl
  unfold Blk at h h'
  rw [h] at h'
  injection h' with h'
  injection h' with h'
  exact hne h'

section
variable {P : Program} {ops : Array Oper} {o : Oper} {a : Act} {W : World} {K : Act → World → Prop} {Q : Exit → Act → World → Prop} {E : Prop}
/-- append([]T{}, l...). -/
theorem step_app1 (B : Nat) (hgd : o.guard = none) (s x : Operand) (t : TypeId) (ho : o.op = .call { callee := .builtin .append, args := #[s, x], argTypes := #[t, t] })
    (e : TypeId) (i : TypeInfo) (z : Value) (size bytes : Nat) (ht : P.underlying t = some (.slice e)) (hi : P.info? e = some i) (hz : i.zero = some z)
    (hsize : i.size = size) (hby : i.bytes = bytes) (hzs : z.cells.size = size) (hsz : 0 < size)
    (g : Nat) (hs : a.eval s = .slice (some ⟨g, 0, none⟩) 0 0) (A : Option Addr) (m c : Nat) (news : List Value) (hx : a.eval x = .slice A m c)
    (hg : Blk W g e #[]) (hgB : B ≤ g) (hr : Reads W B size A m news) (h1 : ∀ u ∈ news, u.oneCell' = true) (h63 : m ≤ maxLen) (hbytes : m * bytes ≤ 140737488355328) (hB : B ≤ W.heap.size)
    (h : ∀ v' w', w'.ownsRow B e size v' m news → (∀ g' cs, Blk W g' e cs → cs ≠ #[] → Blk w' g' e cs ∧ v'.ownBlock ≠ some g') → Below B W w' → K (a.put o.dst v') w') :
    if Region.wanted o (yielded ops a.tmps) = true then Oper.wp P o a W K Q else E := by
  refine step_append_any _ hgd s x t ho B e i z size bytes ht hi hz hsize hby hzs hsz _ 0 [] hs (own_blk0 hg hgB size) B A m c news hx hr h1 (by omega) (by simpa using hbytes) hB ?_
  intro v' w' ho' hgr hvb
  simp only [Nat.zero_add, List.nil_append] at ho'
  refine h v' w' ho' (fun g' cs hb' hne => ⟨hb'.grown hgr (fun e => ?_), fun e => ?_⟩) ((Below.refl _ _).grown hgr hB (fun k hk => ?_))
  · simp [Value.ownBlock] at e
    exact blk_apart hb' hg hne e
  · rcases hvb with hvb | hvb
    · rw [hvb] at e
      simp [Value.ownBlock] at e
      exact blk_apart hb' hg hne e.symm
    · rw [hvb] at e
      have := hb'.lt
      simp at e; omega
  · simp [Value.ownBlock] at hk; omega
/-- append(.., x) behind it. -/
theorem step_app2 (B : Nat) (hgd : o.guard = none) (s x : Operand) (t : TypeId) (ho : o.op = .call { callee := .builtin .append, args := #[s, x], argTypes := #[t, t] })
    (e : TypeId) (i : TypeInfo) (z : Value) (size bytes : Nat) (ht : P.underlying t = some (.slice e)) (hi : P.info? e = some i) (hz : i.zero = some z)
    (hsize : i.size = size) (hby : i.bytes = bytes) (hzs : z.cells.size = size) (hsz : 0 < size)
    (v : Value) (m : Nat) (xs : List Value) (hs : a.eval s = v) (g c : Nat) (cs : Array Value) (hx : a.eval x = .slice (some ⟨g, 0, none⟩) 1 c)
    (hv : W.ownsRow B e size v m xs) (hg : Blk W g e cs) (hcs : cs.size = size) (h1 : ∀ u ∈ cs.toList, u.oneCell' = true) (h63 : m + 1 ≤ maxLen) (hbytes : (m + 1) * bytes ≤ 140737488355328) (hB : B ≤ W.heap.size)
    (h : ∀ v' w', w'.ownsRow B e size v' (m + 1) (xs ++ cs.toList) → Below B W w' → K (a.put o.dst v') w') :
    if Region.wanted o (yielded ops a.tmps) = true then Oper.wp P o a W K Q else E := by
  refine step_append_any _ hgd s x t ho B e i z size bytes ht hi hz hsize hby hzs hsz v m xs hs hv W.heap.size _ 1 c cs.toList hx (blk_reads hg size 1 (by omega)) h1 h63 hbytes hB ?_
  intro v' w' ho' hgr hvb
  refine h v' w' ho' ((Below.refl _ _).grown hgr hB (fun k hk => ?_))
  rcases hv.2 with ⟨rfl, _⟩ | ⟨g', cap, cur, rfl, hgb, _⟩
  · simp [Value.ownBlock] at hk
  · simp [Value.ownBlock] at hk; omega
end

end Go.Proofs.Ytdgbghgcnkjjeaa

/- The same steps where the order is fixed. -/
import Derived.Test.YtdgbghgcnkjjeaaApp
namespace Go.Proofs.Ytdgbghgcnkjjeaa
open Go.RowKit
section
variable {P : Program} {ops : Array Oper} {o : Oper} {rest : List Oper} {a : Act} {W : World} {Q : Exit → Act → World → Prop}
theorem wpList_app1 (B : Nat) (hgd : o.guard = none) (s x : Operand) (t : TypeId) (ho : o.op = .call { callee := .builtin .append, args := #[s, x], argTypes := #[t, t] })
    (e : TypeId) (i : TypeInfo) (z : Value) (size bytes : Nat) (ht : P.underlying t = some (.slice e)) (hi : P.info? e = some i) (hz : i.zero = some z)
    (hsize : i.size = size) (hby : i.bytes = bytes) (hzs : z.cells.size = size) (hsz : 0 < size)
    (g : Nat) (hs : a.eval s = .slice (some ⟨g, 0, none⟩) 0 0) (A : Option Addr) (m c : Nat) (news : List Value) (hx : a.eval x = .slice A m c)
    (hg : Blk W g e #[]) (hgB : B ≤ g) (hr : Reads W B size A m news) (h1 : ∀ u ∈ news, u.oneCell' = true) (h63 : m ≤ maxLen) (hbytes : m * bytes ≤ 140737488355328) (hB : B ≤ W.heap.size)
    (h : ∀ v' w', w'.ownsRow B e size v' m news → Below B W w' → wpList P ops Q rest (a.put o.dst v') w') : wpList P ops Q (o :: rest) a W := by
  refine wpList_append_any _ hgd s x t ho B e i z size bytes ht hi hz hsize hby hzs hsz _ 0 [] hs (own_blk0 hg hgB size) B A m c news hx hr h1 (by omega) (by simpa using hbytes) hB ?_
  intro v' w' ho' hgr hvb
  simp only [Nat.zero_add, List.nil_append] at ho'
  exact h v' w' ho' ((Below.refl _ _).grown hgr hB (fun k hk => by simp [Value.ownBlock] at hk; omega))
theorem wpList_app2 (B : Nat) (hgd : o.guard = none) (s x : Operand) (t : TypeId) (ho : o.op = .call { callee := .builtin .append, args := #[s, x], argTypes := #[t, t] })
    (e : TypeId) (i : TypeInfo) (z : Value) (size bytes : Nat) (ht : P.underlying t = some (.slice e)) (hi : P.info? e = some i) (hz : i.zero = some z)
    (hsize : i.size = size) (hby : i.bytes = bytes) (hzs : z.cells.size = size) (hsz : 0 < size)
    (v : Value) (m : Nat) (xs : List Value) (hs : a.eval s = v) (g c : Nat) (cs : Array Value) (hx : a.eval x = .slice (some ⟨g, 0, none⟩) 1 c)
    (hv : W.ownsRow B e size v m xs) (hg : Blk W g e cs) (hcs : cs.size = size) (h1 : ∀ u ∈ cs.toList, u.oneCell' = true) (h63 : m + 1 ≤ maxLen) (hbytes : (m + 1) * bytes ≤ 140737488355328) (hB : B ≤ W.heap.size)
    (h : ∀ v' w', w'.ownsRow B e size v' (m + 1) (xs ++ cs.toList) → Below B W w' → wpList P ops Q rest (a.put o.dst v') w') : wpList P ops Q (o :: rest) a W := by
  refine wpList_append_any _ hgd s x t ho B e i z size bytes ht hi hz hsize hby hzs hsz v m xs hs hv W.heap.size _ 1 c cs.toList hx (blk_reads hg size 1 (by omega)) h1 h63 hbytes hB ?_
  intro v' w' ho' hgr hvb
  refine h v' w' ho' ((Below.refl _ _).grown hgr hB (fun k hk => ?_))
  rcases hv.2 with ⟨rfl, _⟩ | ⟨g', cap, cur, rfl, hgb, _⟩
  · simp [Value.ownBlock] at hk
  · simp [Value.ownBlock] at hk; omega
end
end Go.Proofs.Ytdgbghgcnkjjeaa

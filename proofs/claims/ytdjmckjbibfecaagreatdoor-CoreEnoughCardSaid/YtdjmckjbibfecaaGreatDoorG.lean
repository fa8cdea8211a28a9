/- Words for memory and for regions that draw, which hang on no program. -/
import Derived.Test.YtdjmckjbibfecaaGreatDoorRows
import Derived.Below
import Derived.BigQuiet
import Derived.Deep.AppendLies
import Derived.Deep.DeepCutAuto
import Derived.Deep.Draws
import Derived.Deep.Light
import Derived.Deep.Quiet
import Derived.Deep.QuietTactic
import Derived.Deep.RegionWith
import Derived.Laws.OwnMore
import Derived.Laws.Rows
import Derived.Lib.Hide
import Derived.Maps.AppendAt
import Derived.OwnWalk
import Derived.RegionTactic
import Derived.StillTail
import Derived.WalkKit
import Derived.WalkLawsBesides
import Derived.WalkSmall
import Derived.WalkSpells
namespace Go.Proofs.YtdjmckjbibfecaaGreatDoor
open Go Go.RowKit


theorem block_of_add (a : Addr) (n : Nat) : (a.add n).block = a.block := by unfold Addr.add; split <;> rfl
theorem add_of_add (a : Addr) (i j : Nat) : (a.add i).add j = a.add (i + j) := by
  unfold Addr.add
  by_cases hi : i = 0 <;> by_cases hj : j = 0 <;> simp [hi, hj, Nat.add_assoc]

def Reads (w : World) (B size : Nat) (A : Option Addr) (n : Nat) (xs : List Value) : Prop :=
  xs.length = n * size ∧ (0 < n → ∃ ad, A = some ad ∧ ad.block < B ∧ ∀ j u, xs[j]? = some u → w.cell? (ad.add j) = some u)

section
variable {w w' : World} {B B' size n : Nat} {A : Option Addr} {xs : List Value}
theorem Reads.none_ : Reads w B size A 0 [] := ⟨by simp, fun h => absurd h (by omega)⟩
theorem Reads.at_ {k : Nat} (h : Reads w B 1 A n xs) (hk : k < n) : ∃ ad u, A = some ad ∧ ad.block < B ∧ xs[k]? = some u ∧ w.cell? (ad.add k) = some u := by
  obtain ⟨ad, e, hb, hc⟩ := h.2 (by omega)
  have hl : k < xs.length := by have := h.1; omega
  exact ⟨ad, xs[k], e, hb, List.getElem?_eq_getElem hl, hc k _ (List.getElem?_eq_getElem hl)⟩
theorem Reads.keep (h : Reads w B size A n xs) (hk : ∀ p : Addr, p.block < B → w'.cell? p = w.cell? p) : Reads w' B size A n xs :=
  ⟨h.1, fun hn => by
    obtain ⟨ad, e, hb, hc⟩ := h.2 hn
    exact ⟨ad, e, hb, fun j u hu => (hk _ (by rw [block_of_add]; exact hb)).trans (hc j u hu)⟩⟩
theorem Reads.more (h : Reads w B size A n xs) (hB : B ≤ B') : Reads w B' size A n xs :=
  ⟨h.1, fun hn => by
    obtain ⟨ad, e, hb, hc⟩ := h.2 hn
    exact ⟨ad, e, by omega, hc⟩⟩
theorem Reads.below (h : Reads w B size A n xs) (hb : Below B w w') : Reads w' B size A n xs := h.keep fun _ hp => hb.cell hp
theorem Reads.drew (h : Reads w B size A n xs) : Reads w.drew B size A n xs := h
theorem Reads.drewN (h : Reads w B size A n xs) (k : Nat) : Reads (w.drewN k) B size A n xs := h
theorem Reads.alloc (h : Reads w B size A n xs) (hB : B ≤ w.heap.size) (o : Obj) : Reads (w.alloc o) B size A n xs := h.keep fun p hp => World.cell?_alloc_lt w o p (by omega)
theorem Reads.setCell (h : Reads w B size A n xs) {p : Addr} (hB : B ≤ p.block) (u : Value) : Reads (w.setCell p u) B size A n xs :=
  h.keep fun q hq => World.cell?_setCell_other w p q u (fun e => by subst e; omega)
theorem Reads.grown (h : Reads w B size A n xs) {row : Option Nat} (hg : w.grownBy w' row) (hB : B ≤ w.heap.size) (hr : ∀ g, row = some g → B ≤ g) : Reads w' B size A n xs :=
  h.keep fun p hp => World.cell?_of_block (hg.block p.block (by omega) (fun e => by have := hr _ e.symm; omega))
theorem Reads.cut (h : Reads w B size A n xs) {k cap : Nat} (hk : k ≤ n) (hc : n ≤ cap) :
    Reads w B size (if cap = k then A else A.map (·.add (k * size))) (n - k) (xs.drop (k * size)) := by
  refine ⟨by rw [List.length_drop, h.1, Nat.sub_mul], fun hn => ?_⟩
  obtain ⟨ad, rfl, hb, hcell⟩ := h.2 (by omega)
  rw [if_neg (by omega)]
  refine ⟨ad.add (k * size), rfl, by rw [block_of_add]; exact hb, fun j u hu => ?_⟩
  rw [add_of_add]
  exact hcell _ u (by rw [← hu, List.getElem?_drop])
theorem Reads.of_own {base : Nat} {e : TypeId} {c : Nat} (h : w.ownsRow base e size (.slice A n c) n xs) : Reads w w.heap.size size A n xs := by
  refine ⟨h.1, fun hn => ?_⟩
  obtain ⟨g, cap, hv, _, hlt⟩ := h.form hn
  have hA : A = some ⟨g, 0, none⟩ := by injection hv
  subst hA
  exact ⟨_, rfl, hlt, h.cells (g := g) rfl⟩
end
def Blk (w : World) (g : Nat) (t : TypeId) (cs : Array Value) : Prop := w.heap[g]? = some (.cells cs t (0, 0))

section
variable {w w' : World} {g : Nat} {t : TypeId} {cs : Array Value}
theorem Blk.lt (h : Blk w g t cs) : g < w.heap.size := by
  rcases Nat.lt_or_ge g w.heap.size with hlt | hge
  · exact hlt
  · unfold Blk at h; rw [Array.getElem?_eq_none hge] at h; cases h
theorem Blk.cell (h : Blk w g t cs) (i : Nat) : w.cell? ⟨g, i, none⟩ = cs[i]? := cell_of_row w g i cs t (0, 0) h
theorem Blk.frozen (h : Blk w g t cs) (i : Nat) : w.frozen? ⟨g, i, none⟩ = false := by
  unfold Blk at h
  simp [World.frozen?, h]
theorem Blk.new (w : World) (t : TypeId) (cs : Array Value) : Blk (w.alloc (.cells cs t)) w.heap.size t cs := heap_alloc_new w _
theorem Blk.drew (h : Blk w g t cs) : Blk w.drew g t cs := h
theorem Blk.drewN (h : Blk w g t cs) (n : Nat) : Blk (w.drewN n) g t cs := h
theorem Blk.alloc (h : Blk w g t cs) (o : Obj) : Blk (w.alloc o) g t cs := (Below.heap_alloc w o g h.lt).trans h
theorem Blk.set_ (h : Blk w g t cs) (i : Nat) (u : Value) : Blk (w.setCell ⟨g, i, none⟩ u) g t (cs.setIfInBounds i u) := by
  unfold Blk at h ⊢
  simp [World.setCell, Array.getElem?_modify, h]
theorem Blk.far (h : Blk w g t cs) {p : Addr} (hp : g ≠ p.block) (u : Value) : Blk (w.setCell p u) g t cs := (Below.heap_setCell w p u g hp).trans h
theorem Blk.below {B : Nat} (h : Blk w g t cs) (hb : Below B w w') (hg : g < B) : Blk w' g t cs := (hb.block g hg).trans h
theorem Blk.grown {row : Option Nat} (h : Blk w g t cs) (hb : w.grownBy w' row) (hg : some g ≠ row) : Blk w' g t cs := (hb.block g h.lt hg).trans h
theorem Blk.ne_ {g' : Nat} {t' : TypeId} {cs' : Array Value} (h : Blk w g t cs) (h' : Blk w g' t' cs') (hne : t ≠ t') : g ≠ g' := by
  rintro rfl
  unfold Blk at h h'
  rw [h] at h'
  injection h' with h'
  injection h' with _ ht
  exact hne ht
theorem own_blk_ne {base : Nat} {e : TypeId} {size n : Nat} {v : Value} {xs : List Value} (h : w.ownsRow base e size v n xs) (hg : Blk w g t cs) (hne : e ≠ t) : v.ownBlock ≠ some g := by
  rcases h.2 with ⟨rfl, _⟩ | ⟨g', cap, cur, rfl, _, hh, _⟩
  · simp [Value.ownBlock]
  · intro he
    have : g' = g := by simpa [Value.ownBlock] using he
    subst this
    exact Blk.ne_ (t := e) hh hg hne rfl
end
section
variable {P : Program} (w : World)

theorem run_append_of_nil (base : Nat) (t ty e : TypeId) (i : TypeInfo) (size : Nat) (ht : P.underlying t = some (.slice e)) (hi : P.info? e = some i)
    (v : Value) (n : Nat) (xs : List Value) (hown : w.ownsRow base e size v n xs) (c : Nat) : (Builtin.append_ #[t, t] ty #[v, .slice none 0 c]).run P w = .ok v w := by
  rcases hown.2 with ⟨rfl, rfl⟩ | ⟨g, cap, cur, rfl, _, _, hnc, _⟩
  · simp [Builtin.append_, run_underlying ht, sizeOf, typeInfo, hi, Builtin.lenOf, Builtin.firstCells]
  · simp [Builtin.append_, run_underlying ht, sizeOf, typeInfo, hi, Builtin.lenOf, Builtin.firstCells, hnc, storeCells]

theorem run_append_any (base : Nat) (t ty e : TypeId) (i : TypeInfo) (z : Value) (size bytes : Nat) (ht : P.underlying t = some (.slice e)) (hi : P.info? e = some i) (hz : i.zero = some z)
    (hsize : i.size = size) (hby : i.bytes = bytes) (hzs : z.cells.size = size) (hsz : 0 < size)
    (v : Value) (n : Nat) (xs : List Value) (hown : w.ownsRow base e size v n xs)
    (B : Nat) (A : Option Addr) (m c : Nat) (news : List Value) (hr : Reads w B size A m news) (h1 : ∀ u ∈ news, u.oneCell' = true)
    (h63 : n + m ≤ maxLen) (hbytes : (n + m) * bytes ≤ 140737488355328) (hbase : base ≤ w.heap.size) :
    ∃ v' w', (Builtin.append_ #[t, t] ty #[v, .slice A m c]).run P w = .ok v' w' ∧ w'.ownsRow base e size v' (n + m) (xs ++ news) ∧ w.grownBy w' v.ownBlock ∧
      (v'.ownBlock = v.ownBlock ∨ v'.ownBlock = some w.heap.size) := by
  rcases A with _ | ad
  · have hm : m = 0 := by
      rcases Nat.eq_zero_or_pos m with h0 | h0
      · exact h0
      · obtain ⟨ad, h, _⟩ := hr.2 h0
        cases h
    subst hm
    have hn : news = [] := List.eq_nil_of_length_eq_zero (by simpa using hr.1)
    subst hn
    exact ⟨v, w, run_append_of_nil w base t ty e i size ht hi v n xs hown c, by simpa using hown, World.grownBy.refl w _, .inl rfl⟩
  · have hcells : ∀ j u, news[j]? = some u → w.cell? (ad.add j) = some u := by
      intro j u hu
      rcases Nat.eq_zero_or_pos m with h0 | h0
      · subst h0
        have hn : news = [] := List.eq_nil_of_length_eq_zero (by simpa using hr.1)
        subst hn
        simp at hu
      · obtain ⟨ad', h, _, hc⟩ := hr.2 h0
        injection h with h
        subst h
        exact hc j u hu
    obtain ⟨v', w', hrun, h2, h3, _, h5⟩ := run_append_own_at (P := P) w base t ty e i z size bytes ht hi hz hsize hby hzs hsz v n xs hown ad m c news hr.1 hcells h1 h63 hbytes hbase
    exact ⟨v', w', hrun, h2, h3, h5⟩

theorem wp_append_any {o : Oper} {a : Act} {K : Act → World → Prop} {Q : Exit → Act → World → Prop} (s x : Operand) (t : TypeId)
    (ho : o.op = .call { callee := .builtin .append, args := #[s, x], argTypes := #[t, t] })
    (base : Nat) (e : TypeId) (i : TypeInfo) (z : Value) (size bytes : Nat) (ht : P.underlying t = some (.slice e)) (hi : P.info? e = some i) (hz : i.zero = some z)
    (hsize : i.size = size) (hby : i.bytes = bytes) (hzs : z.cells.size = size) (hsz : 0 < size)
    (v : Value) (n : Nat) (xs : List Value) (hs : a.eval s = v) (hown : w.ownsRow base e size v n xs)
    (B : Nat) (A : Option Addr) (m c : Nat) (news : List Value) (hx : a.eval x = .slice A m c) (hr : Reads w B size A m news) (h1 : ∀ u ∈ news, u.oneCell' = true)
    (h63 : n + m ≤ maxLen) (hbytes : (n + m) * bytes ≤ 140737488355328) (hbase : base ≤ w.heap.size)
    (h : ∀ v' w', w'.ownsRow base e size v' (n + m) (xs ++ news) → w.grownBy w' v.ownBlock → (v'.ownBlock = v.ownBlock ∨ v'.ownBlock = some w.heap.size) → K (a.put o.dst v') w') : o.wp P a w K Q := by
  obtain ⟨v', w', hrun, h2, h3, h4⟩ := run_append_any (P := P) w base t o.type e i z size bytes ht hi hz hsize hby hzs hsz v n xs hown B A m c news hr h1 h63 hbytes hbase
  unfold Oper.wp execOp
  simp only [ho, resolve, invoke, builtin, Sem.run_bind, Sem.run_pure, Result.andThen_ok, List.map_toArray, List.map_cons, List.map_nil, hs, hx, hrun]
  exact h v' w' h2 h3 h4

theorem wpList_append_any {ops : Array Oper} {rest : List Oper} {o : Oper} {a : Act} {Q : Exit → Act → World → Prop} (hgd : o.guard = none) (s x : Operand) (t : TypeId)
    (ho : o.op = .call { callee := .builtin .append, args := #[s, x], argTypes := #[t, t] })
    (base : Nat) (e : TypeId) (i : TypeInfo) (z : Value) (size bytes : Nat) (ht : P.underlying t = some (.slice e)) (hi : P.info? e = some i) (hz : i.zero = some z)
    (hsize : i.size = size) (hby : i.bytes = bytes) (hzs : z.cells.size = size) (hsz : 0 < size)
    (v : Value) (n : Nat) (xs : List Value) (hs : a.eval s = v) (hown : w.ownsRow base e size v n xs)
    (B : Nat) (A : Option Addr) (m c : Nat) (news : List Value) (hx : a.eval x = .slice A m c) (hr : Reads w B size A m news) (h1 : ∀ u ∈ news, u.oneCell' = true)
    (h63 : n + m ≤ maxLen) (hbytes : (n + m) * bytes ≤ 140737488355328) (hbase : base ≤ w.heap.size)
    (h : ∀ v' w', w'.ownsRow base e size v' (n + m) (xs ++ news) → w.grownBy w' v.ownBlock → (v'.ownBlock = v.ownBlock ∨ v'.ownBlock = some w.heap.size) → wpList P ops Q rest (a.put o.dst v') w') : wpList P ops Q (o :: rest) a w :=
  wpList_plain hgd fun _ hK => wp_append_any w s x t ho base e i z size bytes ht hi hz hsize hby hzs hsz v n xs hs hown B A m c news hx hr h1 h63 hbytes hbase fun v' w' h2 h3 h4 => hK _ _ (h v' w' h2 h3 h4)

theorem step_append_any {ops : Array Oper} {o : Oper} {a : Act} {K : Act → World → Prop} {Q : Exit → Act → World → Prop} {E : Prop} (hgd : o.guard = none) (s x : Operand) (t : TypeId)
    (ho : o.op = .call { callee := .builtin .append, args := #[s, x], argTypes := #[t, t] })
    (base : Nat) (e : TypeId) (i : TypeInfo) (z : Value) (size bytes : Nat) (ht : P.underlying t = some (.slice e)) (hi : P.info? e = some i) (hz : i.zero = some z)
    (hsize : i.size = size) (hby : i.bytes = bytes) (hzs : z.cells.size = size) (hsz : 0 < size)
    (v : Value) (n : Nat) (xs : List Value) (hs : a.eval s = v) (hown : w.ownsRow base e size v n xs)
    (B : Nat) (A : Option Addr) (m c : Nat) (news : List Value) (hx : a.eval x = .slice A m c) (hr : Reads w B size A m news) (h1 : ∀ u ∈ news, u.oneCell' = true)
    (h63 : n + m ≤ maxLen) (hbytes : (n + m) * bytes ≤ 140737488355328) (hbase : base ≤ w.heap.size)
    (h : ∀ v' w', w'.ownsRow base e size v' (n + m) (xs ++ news) → w.grownBy w' v.ownBlock → (v'.ownBlock = v.ownBlock ∨ v'.ownBlock = some w.heap.size) → K (a.put o.dst v') w') :
    if Region.wanted o (yielded ops a.tmps) = true then Oper.wp P o a w K Q else E := by
  have hw : Region.wanted o (yielded ops a.tmps) = true := by simp [Region.wanted, hgd]
  rw [if_pos hw]
  exact wp_append_any w s x t ho base e i z size bytes ht hi hz hsize hby hzs hsz v n xs hs hown B A m c news hx hr h1 h63 hbytes hbase h
end


/-- The worlds that hold all that w holds. -/
def Ext (w : World) : Type := { w' : World // Below w.heap.size w w' }
def Ext.wd {w : World} (x : Ext w) : World := x.1
theorem Ext.below {w : World} (x : Ext w) : Below w.heap.size w x.wd := x.2
theorem Ext.cell {w : World} (x : Ext w) (a : Addr) (h : a.block < w.heap.size) : x.wd.cell? a = w.cell? a := x.2.cell h
def Ext.on {w w' : World} (x : Ext w) (h : Below x.wd.heap.size x.wd w') : Ext w := ⟨w', x.2.trans (h.mono x.2.size)⟩
theorem Ext.on_wd {w w' : World} (x : Ext w) (h : Below x.wd.heap.size x.wd w') : (x.on h).wd = w' := rfl

instance Ext.nonempty (w : World) : Nonempty (Ext w) := ⟨⟨w, Below.refl _ w⟩⟩

/-- A region that draws its order and whose operations read what was there, or call what makes memory of its own and hands back a plain value. -/
theorem wp_region_ext {P : Program} {id : Nat} {Q : Exit → Act → World → Prop} {a : Act} {w : World} {l : List Oper} (hm : P.follows .mixedOrders = true) (hB : Region.lexB .any l.toArray = true)
    (h : wpQuiet P l.toArray (fun w' => ∃ x : Ext w, w' = x.wd) (fun a' => ∀ w', (∃ x : Ext w, w' = x.wd) → Q .normal a' w') l a) : (Code.region id l.toArray true).wp P Q a w :=
  wp_region_quiet (C := fun w' => ∃ x : Ext w, w' = x.wd) hm hB ⟨⟨_, (Below.refl _ w).drew⟩, rfl⟩ (by simpa using h)

theorem Calls.ext_of {P : Program} {f : FuncId} {args : Array Value} {w : World} {x : Ext w} {v : Value}
    (h : Calls P f args x.wd fun e w' => e = .returned v ∧ Below x.wd.heap.size x.wd w') : Calls P f args x.wd fun e w'' => e = .returned v ∧ ∃ y : Ext w, w'' = y.wd :=
  h.mono fun _ _ ⟨he, hb⟩ => ⟨he, x.on hb, rfl⟩
theorem Calls.ext_of_same {P : Program} {f : FuncId} {args : Array Value} {w : World} {x : Ext w} {v : Value}
    (h : Calls P f args x.wd fun e w' => e = .returned v ∧ x.wd = w') : Calls P f args x.wd fun e w'' => e = .returned v ∧ ∃ y : Ext w, w'' = y.wd :=
  h.mono fun _ _ ⟨he, hb⟩ => ⟨he, x, hb.symm⟩


theorem retI {k : IntKind} {a b : Int} (h : a = b) : Ending.returned (.int k a) = .returned (.int k b) := by rw [h]

theorem bcell {W w1 : World} (hb : Below W.heap.size W w1) : (∀ b o, b < W.heap.size → w1.cell? ⟨b, o, none⟩ = W.cell? ⟨b, o, none⟩) := fun b o h => hb.cell (p := ⟨b, o, none⟩) h


theorem World.drew_size (w : World) : w.drew.heap.size = w.heap.size := rfl
theorem bfacts {W w1 : World} (hb : Below W.heap.size W w1) : (∀ b o, b < W.heap.size → w1.cell? ⟨b, o, none⟩ = W.cell? ⟨b, o, none⟩) ∧ (∀ b o, b < W.heap.size → w1.frozen? ⟨b, o, none⟩ = W.frozen? ⟨b, o, none⟩) ∧ W.heap.size ≤ w1.heap.size :=
  ⟨fun b o h => hb.cell (p := ⟨b, o, none⟩) h, fun b o h => hb.frozen (p := ⟨b, o, none⟩) h, hb.size⟩


theorem own_below {w w' : World} {B : Nat} {e : TypeId} {size n : Nat} {v : Value} {xs : List Value} (h : w.ownsRow B e size v n xs) (hb : Below w.heap.size w w') : w'.ownsRow B e size v n xs := by
  obtain ⟨h1, h0 | ⟨g, cap, cur, hv, hg, hh, r⟩⟩ := h
  · exact ⟨h1, .inl h0⟩
  · have hlt : g < w.heap.size := by
      rcases Nat.lt_or_ge g w.heap.size with h | h
      · exact h
      · rw [Array.getElem?_eq_none h] at hh; cases hh
    exact ⟨h1, .inr ⟨g, cap, cur, hv, hg, (hb.block g hlt).trans hh, r⟩⟩

theorem blk_second (W0 : World) (o : Obj) (t : TypeId) (cs : Array Value) : Blk ((W0.alloc o).alloc (.cells cs t)) (W0.heap.size + 1) t cs := by
  have := Blk.new (W0.alloc o) t cs
  rwa [World.size_alloc] at this

theorem blk_reads {w : World} {g : Nat} {t : TypeId} {cs : Array Value} (h : Blk w g t cs) (size n : Nat) (hs : cs.size = n * size) : Reads w w.heap.size size (some ⟨g, 0, none⟩) n cs.toList := by
  refine ⟨by simpa using hs, fun _ => ⟨_, rfl, h.lt, fun j u hj => ?_⟩⟩
  have hadd : Addr.add ⟨g, 0, none⟩ j = ⟨g, j, none⟩ := by unfold Addr.add; split <;> simp_all
  rw [hadd, h.cell]; simpa using hj
section
variable {P : Program} {ops : Array Oper} {o : Oper} {rest : List Oper} {a : Act} {W : World} {Q : Exit → Act → World → Prop}
theorem wpList_app2 (B : Nat) (hgd : o.guard = none) (s x : Operand) (t : TypeId) (ho : o.op = .call { callee := .builtin .append, args := #[s, x], argTypes := #[t, t] })
    (e : TypeId) (i : TypeInfo) (z : Value) (size bytes : Nat) (ht : P.underlying t = some (.slice e)) (hi : P.info? e = some i) (hz : i.zero = some z)
    (hsize : i.size = size) (hby : i.bytes = bytes) (hzs : z.cells.size = size) (hsz : 0 < size)
    (v : Value) (m : Nat) (xs : List Value) (hs : a.eval s = v) (g c : Nat) (cs : Array Value) (hx : a.eval x = .slice (some ⟨g, 0, none⟩) 1 c)
    (hv : W.ownsRow B e size v m xs) (hg : Blk W g e cs) (hcs : cs.size = size) (h1 : ∀ u ∈ cs.toList, u.oneCell' = true) (h63 : m + 1 ≤ maxLen) (hbytes : (m + 1) * bytes ≤ 140737488355328) (hB : B ≤ W.heap.size)
    (h : ∀ v' w', w'.ownsRow B e size v' (m + 1) (xs ++ cs.toList) → Below B W w' → wpList P ops Q rest (a.put o.dst v') w') : wpList P ops Q (o :: rest) a W := by
  refine wpList_append_any _ hgd s x t ho B e i z size bytes ht hi hz hsize hby hzs hsz v m xs hs hv W.heap.size _ 1 c cs.toList hx (blk_reads hg size 1 (by omega)) h1 h63 hbytes hB ?_
  intro v' w' ho' hgr hvb
  refine h v' w' ho' ((Below.refl _ _).grown hgr hB (fun k hk => ?_))
  rcases hv.2 with ⟨rfl, _⟩ | ⟨g', cap, cur, rfl, hgb, _⟩
  · simp [Value.ownBlock] at hk
  · simp [Value.ownBlock] at hk; omega
end


theorem size_list (l : List UInt8) : (⟨l.toArray⟩ : ByteArray).size = l.length := by simp [ByteArray.size]

theorem own_new (w : World) (e : TypeId) (size : Nat) : (w.alloc (.cells #[] e)).ownsRow w.heap.size e size (.slice (some ⟨w.heap.size, 0, none⟩) 0 0) 0 [] :=
  ⟨by simp, .inr ⟨_, 0, #[], rfl, Nat.le_refl _, heap_alloc_new w _, Nat.le_refl _, by simp [maxLen], by simp, by simp⟩⟩


theorem own_apart {w : World} {B B' : Nat} {e e' : TypeId} {size size' n n' : Nat} {v v' : Value} {xs xs' : List Value} (h : w.ownsRow B e size v n xs) (h' : w.ownsRow B' e' size' v' n' xs') (hne : e ≠ e') : v.ownBlock = none ∨ v.ownBlock ≠ v'.ownBlock := by
  rcases h.2 with ⟨rfl, _⟩ | ⟨g, cap, cur, rfl, _, hg, _⟩
  · exact .inl rfl
  · refine .inr fun he => ?_
    rcases h'.2 with ⟨rfl, _⟩ | ⟨g', cap', cur', rfl, _, hg', _⟩
    · simp [Value.ownBlock] at he
    · simp only [Value.ownBlock, Option.some.injEq] at he
      subst he
      rw [hg] at hg'
      simp only [Option.some.injEq, Obj.cells.injEq] at hg'
      exact hne hg'.2.1
section
variable {P : Program} {ops : Array Oper} {o : Oper} {rest : List Oper} {a : Act} {W : World} {Q : Exit → Act → World → Prop}
theorem wpList_app3 (B : Nat) (hgd : o.guard = none) (s x : Operand) (t : TypeId) (ho : o.op = .call { callee := .builtin .append, args := #[s, x], argTypes := #[t, t] })
    (e : TypeId) (i : TypeInfo) (z : Value) (size bytes : Nat) (ht : P.underlying t = some (.slice e)) (hi : P.info? e = some i) (hz : i.zero = some z)
    (hsize : i.size = size) (hby : i.bytes = bytes) (hzs : z.cells.size = size) (hsz : 0 < size)
    (v : Value) (m : Nat) (xs : List Value) (hs : a.eval s = v) (g c : Nat) (cs : Array Value) (hx : a.eval x = .slice (some ⟨g, 0, none⟩) 1 c)
    (hv : W.ownsRow B e size v m xs) (hg : Blk W g e cs) (hcs : cs.size = size) (h1 : ∀ u ∈ cs.toList, u.oneCell' = true) (h63 : m + 1 ≤ maxLen) (hbytes : (m + 1) * bytes ≤ 140737488355328) (hB : B ≤ W.heap.size)
    (h : ∀ v' w', w'.ownsRow B e size v' (m + 1) (xs ++ cs.toList) → Below B W w' → W.grownBy w' v.ownBlock → wpList P ops Q rest (a.put o.dst v') w') : wpList P ops Q (o :: rest) a W := by
  refine wpList_append_any _ hgd s x t ho B e i z size bytes ht hi hz hsize hby hzs hsz v m xs hs hv W.heap.size _ 1 c cs.toList hx (blk_reads hg size 1 (by omega)) h1 h63 hbytes hB ?_
  intro v' w' ho' hgr hvb
  refine h v' w' ho' ((Below.refl _ _).grown hgr hB (fun k hk => ?_)) hgr
  rcases hv.2 with ⟨rfl, _⟩ | ⟨g', cap, cur, rfl, hgb, _⟩
  · simp [Value.ownBlock] at hk
  · simp [Value.ownBlock] at hk; omega
end

theorem own_mono_base {w : World} {B B' : Nat} {e : TypeId} {size n : Nat} {v : Value} {xs : List Value} (h : w.ownsRow B e size v n xs) (hB : B' ≤ B) : w.ownsRow B' e size v n xs := by
  refine ⟨h.1, ?_⟩
  rcases h.2 with h | ⟨g, cap, cur, e1, e2, e3⟩
  · exact .inl h
  · exact .inr ⟨g, cap, cur, e1, Nat.le_trans hB e2, e3⟩



section
variable {P : Program} {ops : Array Oper} {md : Region.Mode} {C : Bool → World → Prop} {s : Nat}

def StoreAt (P : Program) (C : Bool → World → Prop) (o : Oper) (a : Act) : Prop := ∀ w, C false w → ∃ w', (execOp a.eval o).run P w = .ok .skip w' ∧ C true w'
def YieldsF (P : Program) (ops : Array Oper) (C : Bool → World → Prop) (s i : Nat) (o : Oper) (v : Value) (a : Act) : Prop :=
  (i = s ∧ o.guard = none ∧ StoreAt P C o a ∧ v = undef) ∨ (i ≠ s ∧ Region.wanted o (yielded ops a.tmps) = true ∧ ∀ b w, C b w → o.quietAt P a (C b) w v) ∨
  (i ≠ s ∧ Region.wanted o (yielded ops a.tmps) = false ∧ v = undef)
def fOp (P : Program) (ops : Array Oper) (C : Bool → World → Prop) (s i : Nat) (K : Act → Prop) (a : Act) : Prop :=
  match ops[i]? with
  | none => K a
  | some o => ∃ v, YieldsF P ops C s i o v a ∧ K (a.put o.dst v)

theorem fOp_mono {i : Nat} {a : Act} {K K' : Act → Prop} (h : ∀ a, K a → K' a) (hh : fOp P ops C s i K a) : fOp P ops C s i K' a := by
  unfold fOp at *
  split
  · exact h _ (by simpa [*] using hh)
  · rename_i o ho
    simp only [ho] at hh
    obtain ⟨v, h1, h2⟩ := hh
    exact ⟨v, h1, h _ h2⟩
def wpAnyF (P : Program) (md : Region.Mode) (ops : Array Oper) (C : Bool → World → Prop) (s : Nat) (Q : Act → Prop) : Nat → Array Bool → Act → Prop
  | 0, listed, a => Region.ready md ops listed = [] ∧ listed.getD s false = true ∧ Q a
  | f + 1, listed, a => Region.ready md ops listed ≠ [] ∧ ∀ i ∈ Region.ready md ops listed, fOp P ops C s i (wpAnyF P md ops C s Q f (listed.setIfInBounds i true)) a

theorem wpOp_of_fOp {i : Nat} {a : Act} {K : Act → Prop} {K' : Act → World → Prop} {Q' : Exit → Act → World → Prop} {w : World} {listed : Array Bool} (hi : i ∈ Region.ready md ops listed) (hC : C (listed.getD s false) w)
    (h : ∀ a w', C ((listed.setIfInBounds i true).getD s false) w' → K a → K' a w') (hh : fOp P ops C s i K a) : wpOp P ops Q' i K' a w := by
  obtain ⟨hun, oi, hoi, _⟩ := mem_ready.1 hi
  unfold fOp at hh
  unfold wpOp
  simp only [hoi] at hh ⊢
  have hlt : i < listed.size := by
    rcases Nat.lt_or_ge i listed.size with h | h
    · exact h
    · simp [Array.getElem?_eq_none h] at hun
  obtain ⟨v, hy, hk⟩ := hh
  rcases hy with ⟨rfl, hg, hs, rfl⟩ | ⟨hne, hw, hq⟩ | ⟨hne, hw, rfl⟩
  · have hw : Region.wanted oi (yielded ops a.tmps) = true := by simp [Region.wanted, hg]
    simp only [hw, if_true]
    refine .inl ?_
    rw [getD_both hun] at hC
    obtain ⟨w', hr, hC'⟩ := hs w hC
    unfold Oper.wp
    rw [hr]
    simp only [Oper.upon]
    refine h _ _ ?_ hk
    have : (listed.setIfInBounds i true).getD i false = true := by simp [hlt]
    rw [this]; exact hC'
  · simp only [hw, if_true]
    refine .inl (Oper.wp_of_quiet (K := K) hC (fun a' w' hw' hK => h a' w' ?_ hK) ⟨v, hq _, hk⟩)
    rw [getD_set_ne false hne]; exact hw'
  · simp only [hw]
    refine h _ _ ?_ hk
    rw [getD_set_ne false hne]; exact hC

theorem wpAny_of_fam {Q : Act → Prop} {Q' : Exit → Act → World → Prop} (hQ : ∀ a w, C true w → Q a → Q' .normal a w) : ∀ (fuel : Nat) (listed : Array Bool) (a : Act) (w : World), C (listed.getD s false) w →
    wpAnyF P md ops C s Q fuel listed a → wpAny P md ops Q' fuel listed a w
  | 0, _, _, _, hw, h => ⟨h.1, hQ _ _ (by rw [← h.2.1]; exact hw) h.2.2⟩
  | fuel + 1, _, _, _, hw, h => ⟨fun h0 => absurd h0 h.1, fun i hi => wpOp_of_fOp hi hw (fun a' w' hw' => wpAny_of_fam hQ fuel _ a' w' hw') (h.2 i hi)⟩

theorem YieldsF.of_same {i : Nat} {o : Oper} {v : Value} {a a' : Act} (hy : YieldsF P ops C s i o v a) (he : execOp a'.eval o = execOp a.eval o)
    (hw : Region.wanted o (yielded ops a'.tmps) = Region.wanted o (yielded ops a.tmps)) : YieldsF P ops C s i o v a' := by
  unfold YieldsF StoreAt Oper.quietAt at *
  rw [he, hw]
  exact hy
theorem fOp_put {i j : Nat} {oi oj : Oper} {v : Value} (hj : ops[j]? = some oj) (hap : oi.apart ops oj = true)
    (hsi : ∀ cs b, oi.op ≠ .select cs b) (hsj : ∀ cs b, oj.op ≠ .select cs b) {K : Act → Prop} {a : Act}
    (hy : YieldsF P ops C s i oi v a) (h : fOp P ops C s j K (a.put oi.dst v)) :
    fOp P ops C s j (fun a' => YieldsF P ops C s i oi v a' ∧ K (a'.put oi.dst v)) a := by
  obtain ⟨h1, h2, h3⟩ := Oper.apart_spec hap
  have keep : ∀ (a : Act), YieldsF P ops C s i oi v a → ∀ u, YieldsF P ops C s i oi v (a.put oj.dst u) := fun a hy u =>
    hy.of_same (execOp_put oi hsi a oj.dst u h3) (wanted_put oi a oj.dst u h3)
  unfold fOp at *
  simp only [hj] at *
  obtain ⟨u, hu, hn⟩ := h
  exact ⟨u, hu.of_same (execOp_put oj hsj a oi.dst v h1).symm (wanted_put oj a oi.dst v h1).symm, keep a hy u, by rw [← Act.put_comm a v u h2]; exact hn⟩

theorem wpAnyF_first {Q : Act → Prop} {i : Nat} {oi : Oper} {v : Value} (hi : ops[i]? = some oi) (hsel : ∀ (j : Nat) (o : Oper) cs b, ops[j]? = some o → o.op ≠ .select cs b) :
    ∀ (fuel : Nat) (listed : Array Bool) (a : Act),
      (∀ j oj, ops[j]? = some oj → j ≠ i → listed.getD j true = false → (∀ e ∈ oj.after, Region.binds md e = true → e.on ≠ i) → oi.apart ops oj = true) →
      i ∈ Region.ready md ops listed → YieldsF P ops C s i oi v a →
      wpAnyF P md ops C s Q fuel (listed.setIfInBounds i true) (a.put oi.dst v) → wpAnyF P md ops C s Q (fuel + 1) listed a := by
  intro fuel
  induction fuel with
  | zero =>
    intro listed a _ hr hy H
    refine ⟨fun h => (by rw [h] at hr; cases hr), fun j hj => ?_⟩
    by_cases hji : j = i
    · subst hji
      unfold fOp
      simp only [hi]
      exact ⟨v, hy, H⟩
    · have := ready_mono hj hji
      rw [H.1] at this
      cases this
  | succ fuel ih =>
    intro listed a hfree hr hy H
    refine ⟨fun h => (by rw [h] at hr; cases hr), fun j hj => ?_⟩
    by_cases hji : j = i
    · subst hji
      unfold fOp
      simp only [hi]
      exact ⟨v, hy, H⟩
    · have h1 := H.2 j (ready_mono hj hji)
      obtain ⟨hjun, oj, hoj, hall⟩ := mem_ready.1 hj
      have hnot : ∀ e ∈ oj.after, Region.binds md e = true → e.on ≠ i := fun e he hb heq => by
        have h1 := hall e he hb
        have h0 := (mem_ready.1 hr).1
        rw [heq, getD_both h0] at h1
        cases h1
      have h2 := fOp_put hoj (hfree j oj hoj hji hjun hnot) (fun cs b => hsel i oi cs b hi) (fun cs b => hsel j oj cs b hoj) hy h1
      have hfree' : ∀ k ok, ops[k]? = some ok → k ≠ i → (listed.setIfInBounds j true).getD k true = false →
          (∀ e ∈ ok.after, Region.binds md e = true → e.on ≠ i) → oi.apart ops ok = true := fun k ok hk hki hun hno => by
        refine hfree k ok hk hki ?_ hno
        by_cases hjk : j = k
        · subst hjk; exact hjun
        · rw [getD_set_ne true hjk] at hun; exact hun
      refine fOp_mono (fun a' h3 => ih (listed.setIfInBounds j true) a' hfree' (ready_mono hr (Ne.symm hji)) h3.1 ?_) h2
      rw [Array.setIfInBounds_comm _ _ hji]
      exact h3.2

/-- The walk in the order of the text, with the values that it leaves. -/
def wpF (P : Program) (ops : Array Oper) (C : Bool → World → Prop) (s : Nat) (Q : Act → Prop) : Nat → List Oper → Act → Prop
  | _, [], a => Q a
  | k, o :: rest, a => ∃ v, YieldsF P ops C s k o v a ∧ wpF P ops C s Q (k + 1) rest (a.put o.dst v)

theorem wpAnyF_lex {Q : Act → Prop} (hs : Region.noSelect ops = true) (hsz : s < ops.size) : ∀ (l : List Oper) (k : Nat) (listed : Array Bool) (a : Act), (∀ j, l[j]? = ops[k + j]?) → k + l.length = ops.size → listed.size = ops.size → (s < k → listed.getD s false = true) →
    Region.lexFrom md ops l.length k listed = true → wpF P ops C s Q k l a → wpAnyF P md ops C s Q l.length listed a
  | [], k, _, _, _, hk, _, hsk, hB, h => ⟨by simpa [Region.lexFrom] using hB, hsk (by simp at hk; omega), h⟩
  | o :: l, k, listed, a, hl, hk, hls, hsk, hB, h => by
    have h0 : ops[k]? = some o := by simpa using (hl 0).symm
    simp only [List.length_cons, Region.lexFrom, Bool.and_eq_true] at hB
    obtain ⟨⟨hr, hf⟩, hB'⟩ := hB
    obtain ⟨v, hy, hK⟩ := h
    have hkl : k < listed.size := by rw [hls]; simp at hk; omega
    refine wpAnyF_first h0 (Region.noSelect_spec hs) l.length listed a (Region.free_spec h0 hf) (by simpa using hr) hy
      (wpAnyF_lex hs hsz l (k + 1) _ _ (fun j => by have := hl (j + 1); simpa [Nat.add_assoc, Nat.add_comm 1 j] using this) (by simp at hk; omega) (by simpa using hls) (fun hlt => ?_) hB' hK)
    by_cases e : k = s
    · subst e; simp [hkl]
    · rw [getD_set_ne false e]; exact hsk (by omega)

/-- Each operation writes a slot of its own. -/
def ownDsts (n : Nat) : List Oper → Bool
  | [] => true
  | o :: rest => (match o.dst with
    | some d => decide (d < n) && rest.all (fun o' => o'.dst != some d)
    | none => false) && ownDsts n rest

theorem put_size (a : Act) (d : Option Tmp) (v : Value) : (a.put d v).tmps.size = a.tmps.size := by
  cases d <;> simp [Act.put]
theorem put_get (a : Act) (d : Tmp) (v : Value) (h : d < a.tmps.size) : (a.put (some d) v).tmps.getD d undef = v := by
  simp [Act.put, h]
theorem put_other (a : Act) (d : Option Tmp) (e : Tmp) (v : Value) (h : d ≠ some e) : (a.put d v).tmps.getD e undef = a.tmps.getD e undef := by
  cases d with
  | none => simp [Act.put]
  | some d =>
    have : d ≠ e := fun h' => h (by rw [h'])
    simp only [Act.put, Array.getD_eq_getD_getElem?]
    rw [Array.getElem?_setIfInBounds_ne this]
theorem quiet_keeps {C : World → Prop} {A : Act} {d : Tmp} : ∀ (l : List Oper) (a : Act), l.all (fun o' => o'.dst != some d) = true → wpQuiet P ops C (fun a' => a' = A) l a → A.tmps.getD d undef = a.tmps.getD d undef
  | [], a, _, h => by have : a = A := h; rw [this]
  | o :: rest, a, hd, h => by
    simp only [List.all_cons, Bool.and_eq_true] at hd
    have hne : o.dst ≠ some d := by simpa using hd.1
    rw [wpQuiet] at h
    split at h
    · obtain ⟨v, _, h2⟩ := h
      rw [quiet_keeps rest _ hd.2 h2, put_other _ _ _ _ hne]
    · rw [quiet_keeps rest _ hd.2 h, put_other _ _ _ _ hne]
theorem wpF_of_two {A : Act} {Q : Act → Prop} (n : Nat) (more : List Oper) : ∀ (l : List Oper) (k : Nat) (a : Act), ownDsts n l = true → a.tmps.size = n → (∀ j, j < l.length → k + j ≠ s) → (∀ b, wpQuiet P ops (C b) (fun a' => a' = A) l a) →
    wpF P ops C s Q (k + l.length) more A → wpF P ops C s Q k (l ++ more) a
  | [], k, a, _, _, _, h, hm => by have : a = A := h true; rw [this]; simpa using hm
  | o :: rest, k, a, hd, hn, hne, h, hm => by
    rw [ownDsts] at hd
    simp only [Bool.and_eq_true] at hd
    obtain ⟨hd1, hd2⟩ := hd
    rw [List.cons_append, wpF]
    have hks : k ≠ s := by simpa using hne 0 (by simp)
    have hm' : wpF P ops C s Q (k + 1 + rest.length) more A := by rw [show k + 1 + rest.length = k + (o :: rest).length by simp; omega]; exact hm
    have hne' : ∀ j, j < rest.length → k + 1 + j ≠ s := fun j hj => by have := hne (j + 1) (by simp; omega); omega
    cases hdst : o.dst with
    | none => rw [hdst] at hd1; cases hd1
    | some d =>
      rw [hdst] at hd1
      simp only [Bool.and_eq_true, decide_eq_true_eq] at hd1
      by_cases hw : Region.wanted o (yielded ops a.tmps) = true
      · have key : ∀ b, (∀ w, C b w → o.quietAt P a (C b) w (A.tmps.getD d undef)) ∧ wpQuiet P ops (C b) (fun a' => a' = A) rest (a.put (some d) (A.tmps.getD d undef)) := by
          intro b
          have hb := h b
          rw [wpQuiet, if_pos hw] at hb
          obtain ⟨v, h1, h2⟩ := hb
          rw [hdst] at h2
          have e := quiet_keeps (d := d) rest _ hd1.2 h2
          rw [put_get _ _ _ (by rw [hn]; exact hd1.1)] at e
          rw [e]; exact ⟨h1, h2⟩
        refine ⟨_, .inr (.inl ⟨hks, hw, fun b => (key b).1⟩), ?_⟩
        exact wpF_of_two n more rest (k + 1) _ hd2 (by rw [put_size]; exact hn) hne' (fun b => (key b).2) hm'
      · refine ⟨undef, .inr (.inr ⟨hks, by simpa using hw, rfl⟩), ?_⟩
        refine wpF_of_two n more rest (k + 1) _ hd2 (by rw [put_size]; exact hn) hne' (fun b => ?_) hm'
        have hb := h b
        rw [wpQuiet, if_neg hw, hdst] at hb
        exact hb

/-- A region that draws: all is quiet, but for one store, in whatever order. -/
theorem wp_region_store {id : Nat} {Q : Exit → Act → World → Prop} {a A1 A : Act} {w : World} {l : List Oper} (s n : Nat) (o : Oper) (C : Bool → World → Prop) (hm : P.follows .mixedOrders = true) (hB : Region.lexB .any l.toArray = true)
    (ho : l[s]? = some o) (hg : o.guard = none) (hd : o.dst = none) (hd1 : ownDsts n (l.take s) = true) (hd2 : ownDsts n (l.drop (s + 1)) = true) (hn : a.tmps.size = n) (hC : C false w.drew)
    (h1 : ∀ b, wpQuiet P l.toArray (C b) (fun a' => a' = A1) (l.take s) a)
    (hs : ∀ w, C false w → ∃ w', (execOp A1.eval o).run P w = .ok .skip w' ∧ C true w')
    (h2 : ∀ b, wpQuiet P l.toArray (C b) (fun a' => a' = A) (l.drop (s + 1)) A1) (hn1 : A1.tmps.size = n)
    (hQ : ∀ w, C true w → Q .normal A w) : (Code.region id l.toArray true).wp P Q a w := by
  simp only [Region.lexB, Bool.and_eq_true] at hB
  have hsl : s < l.length := (List.getElem?_eq_some_iff.1 ho).1
  have hlo : l = l.take s ++ o :: l.drop (s + 1) := by
    have := (List.getElem?_eq_some_iff.1 ho).2
    rw [← this, ← List.drop_eq_getElem_cons hsl, List.take_append_drop]
  have hts : (l.take s).length = s := by simp; omega
  refine wp_region_any hm (wpAny_of_fam (C := C) (s := s) (Q := fun a' => a' = A) (fun a' w' hw' e => by rw [e]; exact hQ w' hw') _ _ _ _ ?_ ?_)
  · have : (Array.replicate l.toArray.size false).getD s false = false := getD_replicate_false _ _
    rw [this]; exact hC
  · have H := wpAnyF_lex (P := P) (C := C) (md := .any) (Q := fun a' => a' = A) (s := s) hB.1 (by simpa using hsl) l 0 (Array.replicate l.toArray.size false) a (by simp) (by simp) (by simp) (fun h => by omega) (by simpa using hB.2) ?_
    · simpa using H
    · have key : wpF P l.toArray C s (fun a' => a' = A) 0 (l.take s ++ o :: l.drop (s + 1)) a := by
        refine wpF_of_two n _ (l.take s) 0 a hd1 hn (fun j hj => by rw [hts] at hj; omega) h1 ?_
        rw [Nat.zero_add, hts, wpF]
        refine ⟨undef, .inl ⟨rfl, hg, hs, rfl⟩, ?_⟩
        have e0 : A1.put o.dst undef = A1 := by rw [hd]; rfl
        rw [e0]
        have := wpF_of_two (P := P) (ops := l.toArray) (C := C) (s := s) (Q := fun a' => a' = A) (A := A) n [] (l.drop (s + 1)) (s + 1) A1 hd2 hn1 (fun j hj => by omega) h2 (by rw [wpF])
        simpa using this
      rw [← hlo] at key
      exact key
end

/-- All is as it was, but for one block. -/
structure But (z : Nat) (w w' : World) : Prop where
  os : w'.os = w.os
  tape : w'.tape = w.tape
  output : w'.output = w.output
  size : w.heap.size ≤ w'.heap.size
  block : ∀ k, k < w.heap.size → k ≠ z → w'.heap[k]? = w.heap[k]?
theorem But.refl (z : Nat) (w : World) : But z w w := ⟨rfl, rfl, rfl, Nat.le_refl _, fun _ _ _ => rfl⟩
theorem But.below {z : Nat} {w w1 w2 : World} (h : But z w w1) (hb : Below w1.heap.size w1 w2) : But z w w2 :=
  ⟨hb.os.trans h.os, hb.tape.trans h.tape, hb.output.trans h.output, Nat.le_trans h.size hb.size, fun k hk hz => (hb.block k (Nat.lt_of_lt_of_le hk h.size)).trans (h.block k hk hz)⟩
theorem But.setCell {z : Nat} {w w1 : World} (h : But z w w1) (o : Nat) (u : Value) : But z w (w1.setCell ⟨z, o, none⟩ u) :=
  ⟨h.os, h.tape, h.output, by have := h.size; simpa [World.setCell] using this, fun k hk hz => (Below.heap_setCell _ _ _ _ hz).trans (h.block k hk hz)⟩
theorem But.to_below {z B : Nat} {w0 w w' : World} (h : But z w w') (hb : Below B w0 w) (hz : B ≤ z) (hB : B ≤ w.heap.size) : Below B w0 w' :=
  ⟨h.os.trans hb.os, h.tape.trans hb.tape, h.output.trans hb.output, Nat.le_trans hb.size h.size, fun k hk => (h.block k (by omega) (by omega)).trans (hb.block k hk)⟩
theorem But.cell {z : Nat} {w w' : World} (h : But z w w') {p : Addr} (hp : p.block < w.heap.size) (hz : p.block ≠ z) : w'.cell? p = w.cell? p := by
  have e := h.block p.block hp hz
  unfold World.cell?
  rw [e]

def FamT (w : World) (z : Nat) (t : TypeId) (cs : Bool → Array Value) (b : Bool) : Type := { w' : World // But z w w' ∧ Blk w' z t (cs b) }
def FamT.wd {w : World} {z : Nat} {t : TypeId} {cs : Bool → Array Value} {b : Bool} (x : FamT w z t cs b) : World := x.1
theorem FamT.cell {w : World} {z : Nat} {t : TypeId} {cs : Bool → Array Value} {b : Bool} (x : FamT w z t cs b) (p : Addr) (hp : p.block < w.heap.size) (hz : p.block ≠ z) : x.wd.cell? p = w.cell? p := x.2.1.cell hp hz
theorem Calls.fam_of {P : Program} {f : FuncId} {args : Array Value} {w : World} {z : Nat} {t : TypeId} {cs : Bool → Array Value} {b : Bool} {x : FamT w z t cs b} {v : Value}
    (h : Calls P f args x.wd fun e w' => e = .returned v ∧ Below x.wd.heap.size x.wd w') : Calls P f args x.wd fun e w'' => e = .returned v ∧ ∃ y : FamT w z t cs b, w'' = y.wd :=
  h.mono fun _ _ ⟨he, hb⟩ => ⟨he, ⟨⟨_, x.2.1.below hb, x.2.2.below hb x.2.2.lt⟩, rfl⟩⟩

end Go.Proofs.YtdjmckjbibfecaaGreatDoor

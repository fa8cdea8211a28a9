/- core.finest: the faults of a part's first core. -/
import Derived.Deep.RegionHeld3
import Derived.Shelf.Strings.Builder1
import Derived.Shelf.Strings.BuilderF
import Derived.Shelf.Strings.BuilderK
import Derived.Test.YtdjmckjbibfecaaGreatDoorProg
import Derived.Test.YtdjmckjbibfecaaGreatDoorAa
import Derived.Test.YtdjmckjbibfecaaGreatDoorEk
import Derived.Test.YtdjmckjbibfecaaGreatDoorHa
import Derived.Test.YtdjmckjbibfecaaGreatDoorOb
import Derived.Test.YtdjmckjbibfecaaGreatDoorVa
import Derived.Test.YtdjmckjbibfecaaGreatDoorWg
import Derived.Test.YtdjmckjbibfecaaGreatDoorX
namespace Go.Proofs.YtdjmckjbibfecaaGreatDoor
open Go Go.RowKit Go.BigFrame Go.Maps

/-- Papers that say the same, wherever their fields lie. -/
def sameP (x y : Pap) : Prop := x.kind = y.kind ∧ x.number = y.number ∧ x.issuer = y.issuer ∧ x.fields = y.fields
def sameD (l m : List Pap) : Prop := l.length = m.length ∧ ∀ (i : Nat) (x y : Pap), l[i]? = some x → m[i]? = some y → sameP x y
def encD (x : Pap) : List Value := [.int .i64 x.kind, .string x.number, .string x.issuer, .slice x.fA x.fields.length x.fc]
def flD (l : List Pap) : List Value := l.flatMap encD
theorem DocsAt.row {w : World} {A : Option Addr} {l : List Pap} (h : DocsAt w A l) : RowOf encD 4 w A l := by
  intro i x hx
  obtain ⟨b, off, e, h0, h1, h2, h3, _⟩ := h i x hx
  refine ⟨b, off, e, fun j u hu => ?_⟩
  match j with
  | 0 => simp [encD] at hu; subst hu; exact h0
  | 1 => simp [encD] at hu; subst hu; exact h1
  | 2 => simp [encD] at hu; subst hu; exact h2
  | 3 => simp [encD] at hu; subst hu; exact h3
  | j + 4 => simp [encD] at hu
theorem DocsAt.of_row {w : World} {A : Option Addr} {l : List Pap} (h : RowOf encD 4 w A l) (hf : ∀ x ∈ l, FieldsAt w x.fA x.fields ∧ x.fields.length ≤ maxLen ∧ (-9223372036854775808 ≤ x.kind ∧ x.kind ≤ 9223372036854775807)) : DocsAt w A l := by
  intro i x hx
  obtain ⟨b, off, e, hc⟩ := h i x hx
  obtain ⟨f1, f2, f3⟩ := hf x (List.mem_of_getElem? hx)
  exact ⟨b, off, e, hc 0 _ rfl, hc 1 _ rfl, hc 2 _ rfl, hc 3 _ rfl, f1, f2, f3⟩
end Go.Proofs.YtdjmckjbibfecaaGreatDoor
namespace Go.Proofs
open Go.Shelf
end Go.Proofs
namespace Go.Proofs.YtdjmckjbibfecaaGreatDoor
open Go Go.RowKit Go.BigFrame Go.Maps

theorem belowG (base : Nat) : Giver base (fun a b => Below a.heap.size a b) where
  refl W := Below.refl _ W
  trans h k := h.trans (k.mono h.size)
  of h := h
  low h hb := h.mono hb
  size h := h.size
  blk h hb _ := hb.below h hb.lt
abbrev Bld (w : World) (B b : Nat) (acc : List UInt8) : Prop := Lib.IsBuilderF 115 5 B b (Lib.byteCells acc) w
theorem ownF_below {w w' : World} {B : Nat} {e : TypeId} {size n : Nat} {v : Value} {xs : List Value} (h : w.ownsRowF B e size v n xs) (hb : Below w.heap.size w w') : w'.ownsRowF B e size v n xs :=
  h.kept (row := none) ⟨hb.os, hb.tape, hb.output, hb.size, fun k hk _ => hb.block k hk⟩ (by
    rcases hv : v.ownBlock with _ | k
    · exact .inl rfl
    · exact .inr (by simp))
theorem builderAt_below {w w' : World} {T e : TypeId} {B b : Nat} {p : Value} {bs : List Value} (h : Lib.BuilderAtF T e B b p bs w) (hb : Below w.heap.size w w') : Lib.BuilderAtF T e B b p bs w' := by
  obtain ⟨hB, v, hv, ho, hne⟩ := h
  have hlt : b < w.heap.size := by
    rcases Nat.lt_or_ge b w.heap.size with h | h
    · exact h
    · rw [Array.getElem?_eq_none h] at hv; cases hv
  exact ⟨hB, v, (hb.block b hlt).trans hv, ownF_below ho hb, hne⟩
theorem Bld.below {w w' : World} {B b : Nat} {acc : List UInt8} (h : Bld w B b acc) (hb : Below w.heap.size w w') : Bld w' B b acc := by
  rcases h with h | h
  · exact .inl (builderAt_below h hb)
  · exact .inr (builderAt_below h hb)
theorem Bld.lt {w : World} {B b : Nat} {acc : List UInt8} (h : Bld w B b acc) : b < w.heap.size := by
  rcases h with ⟨_, v, hv, _⟩ | ⟨_, v, hv, _⟩ <;> exact (Array.getElem?_eq_some_iff.1 hv).1
end Go.Proofs.YtdjmckjbibfecaaGreatDoor
namespace Go.Proofs.YtdjmckjbibfecaaGreatDoor
open Go Go.RowKit Go.BigFrame Go.Maps

theorem flD_set3 : ∀ (l : List Pap) (k : Nat) (x : Pap) (A : Option Addr) (c : Nat), l[k]? = some x → (flD l).set (k * 4 + 3) (.slice A x.fields.length c) = flD (l.set k ⟨x.kind, x.number, x.issuer, A, c, x.fields⟩)
  | [], k, x, A, c, h => by simp at h
  | y :: l, 0, x, A, c, h => by simp at h; subst h; simp [flD, encD]
  | y :: l, k + 1, x, A, c, h => by
    have := flD_set3 l k x A c (by simpa using h)
    rw [show (k + 1) * 4 + 3 = k * 4 + 3 + 1 + 1 + 1 + 1 by omega]
    simp only [flD, List.flatMap_cons, encD, List.cons_append, List.nil_append, List.set_cons_succ] at this ⊢
    rw [this]
/-- The copied papers, so far. -/
structure MendS (w0 wr : World) (A : Option Addr) (nn c : Nat) (docs l : List Pap) : Prop where
  below : Below w0.heap.size w0 wr
  own : wr.ownsRow w0.heap.size 61 4 (.slice A nn c) nn (flD l)
  same : sameD l docs
  flds : ∀ x ∈ l, FieldsAt wr x.fA x.fields
  away : ∀ x ∈ l, x.fields ≠ [] → ∀ b off, x.fA = some ⟨b, off, none⟩ → A ≠ some ⟨b, 0, none⟩
theorem fields_far {w w' : World} {g : Nat} {A : Option Addr} {l : List Fld} (h : FieldsAt w A l) (hg : w.grownBy w' (some g)) (hne : l ≠ [] → ∀ b off, A = some ⟨b, off, none⟩ → b ≠ g) : FieldsAt w' A l := by
  intro k x hx
  obtain ⟨b, off, e, h0, h1⟩ := h k x hx
  have hb := hne (by rintro rfl; simp at hx) b off e
  have hk : ∀ p : Addr, p.block = b → w'.cell? p = w.cell? p := fun p hp => hg.cell_far p (by rw [hp]; exact World.block_lt_of_cell? w _ h0) (by rw [hp]; simp; exact hb)
  exact ⟨b, off, e, by rw [hk _ rfl]; exact h0, by rw [hk _ rfl]; exact h1⟩
theorem MendS.step {w0 wr w6 : World} {g nn c k c2 : Nat} {docs l : List Pap} {x : Pap} {A2 : Option Addr} (h : MendS w0 wr (some ⟨g, 0, none⟩) nn c docs l) (hx : l[k]? = some x) (hg0 : w0.heap.size ≤ g) (hg1 : g < wr.heap.size) (hb : Below wr.heap.size wr w6)
    (ho : w6.ownsRow wr.heap.size 108 2 (.slice A2 x.fields.length c2) x.fields.length (flF x.fields)) :
    MendS w0 (w6.setCell ⟨g, k * 4 + 3, none⟩ (.slice A2 x.fields.length c2)) (some ⟨g, 0, none⟩) nn c docs (l.set k ⟨x.kind, x.number, x.issuer, A2, c2, x.fields⟩) := by
  have o6 := own_below h.own hb
  have st := o6.stored (k * 4 + 3) (.slice A2 x.fields.length c2)
  rw [flD_set3 l k x A2 c2 hx] at st
  have hkl := (List.getElem?_eq_some_iff.1 hx).1
  have hA2 : x.fields ≠ [] → ∀ b off, A2 = some ⟨b, off, none⟩ → wr.heap.size ≤ b := fun hne b off e => by
    obtain ⟨g', c', e', h1, _⟩ := own_formS ho (List.length_pos_iff.2 hne)
    rw [e] at e'
    simp only [Value.slice.injEq, Option.some.injEq, Addr.mk.injEq, and_true, true_and] at e'
    rw [e'.1.1]; exact h1
  obtain ⟨A9, c9, e9, _, hF9⟩ := fields_of_own ho rfl
  simp only [Value.slice.injEq, true_and] at e9
  obtain ⟨rfl, rfl⟩ := e9
  refine ⟨(h.below.trans (hb.mono h.below.size)).setCell hg0 _, st.1, ⟨by rw [List.length_set]; exact h.same.1, fun i y z hy hz => ?_⟩, fun y hy => ?_, fun y hy hne b off e => ?_⟩
  · rw [List.getElem?_set] at hy
    split at hy
    · rename_i hi
      subst hi
      obtain rfl := Option.some.inj hy
      exact h.same.2 k x z hx hz
    · exact h.same.2 i y z hy hz
  · rcases List.mem_or_eq_of_mem_set hy with hy | rfl
    · exact fields_far ((h.flds y hy).below hb) st.2 fun hne b off e hbg => by
        subst hbg
        exact h.away y hy hne b off e rfl
    · exact fields_far hF9 st.2 fun hne b off e => by have := hA2 hne b off e; omega
  · rcases List.mem_or_eq_of_mem_set hy with hy | rfl
    · exact h.away y hy hne b off e
    · intro hc
      simp only [Option.some.injEq, Addr.mk.injEq, and_true] at hc
      have := hA2 hne b off e
      omega

end Go.Proofs.YtdjmckjbibfecaaGreatDoor
namespace Go.Proofs.YtdjmckjbibfecaaGreatDoor
open Go Go.ChangeShapes Go.WideShapes Go.ChangeAt Go.RowKit Go.Deep

section
variable {H : Type} {enc : TypeId × Value → H} {W : World} {base : Nat}
theorem fits_of {P : Program} {ts : List TypeId} {l : List (DataW H)} (hz : (DataW.weightsEach P ts l).all (· ≤ reachBytes) = true) {j : Nat} {t : TypeId} {d : DataW H} (ht : ts[j]? = some t) (hd : l[j]? = some d) : Fits P t d := fun n hn => by
  have := List.all_eq_true.1 hz n (DataW.weights_mem_each ht hd n hn)
  simpa using this
abbrev TrdV (enc : TypeId × Value → H) (W : World) (t : TypeId) (v : Value) (d : DataW H) (p : List MemPlace) : Prop := DataW.Trod enc Tryz.prog W 0 (fun _ => true) true t v d p
set_option maxRecDepth 100000 in
theorem arg_docs {v : Value} {d : DataW H} {p : List MemPlace} (hv : Value.okWide Tryz.prog W .any base 25 v) (h : TrdV enc W 25 v d p) (hf : Fits Tryz.prog 25 d) :
    ∃ (A : Option Addr) (c : Nat) (l : List Pap), v = .slice A l.length c ∧ l.length ≤ maxLen ∧ DocsAt W A l ∧ LongD l := by
  obtain ⟨A, n, c, rfl⟩ := okWide_slice Tryz.underlying25 hv
  obtain ⟨fuel, h⟩ := h
  obtain ⟨A', c', l, e, h1, h2, h3⟩ := open_docs h hf
  simp [Value.cells] at e
  obtain ⟨rfl, rfl, rfl⟩ := e
  exact ⟨A, c, l, rfl, h1, h2, h3⟩
end
end Go.Proofs.YtdjmckjbibfecaaGreatDoor
namespace Go.Proofs.YtdjmckjbibfecaaGreatDoor
open Go Go.ChangeShapes Go.WideShapes Go.ChangeAt Go.RowKit Go.Deep

theorem alike_of {W : World} {L : List (String × DataW Unit)} (hl : L.filter (fun x => x.1 == "supercargo/examine.alike") = [("supercargo/examine.alike", Rows.laid_supercargo_examine_alike)]) (h : laidMetH Tryz.prog L W) : AlikeAt W := by
  have h1 := laidMetH.filter (fun x => x.1 == "supercargo/examine.alike") h
  rw [hl, MakeChecks.laidMetH_plain _ _ _ (by kernel_rfl)] at h1
  exact strtab (t := 143) (e := 9) (n := 6) [[115, 101, 108, 108, 101, 114], [102, 114, 111, 109], [116, 111], [99, 117, 114, 114, 101, 110, 99, 121], [98, 111, 120, 101, 115], [109, 97, 114, 107, 115]] (by kernel_rfl) (by kernel_rfl) Tryz.underlying143 Tryz.underlying9 (by kernel_rfl) rfl h1
section
variable {H : Type} {enc : TypeId × Value → H} {W : World} {base : Nat}
theorem len18 {α : Type} {l : List α} (h : l.length = 18) : ∃ a b c d e f g i j k m n o p q r s t, l = [a, b, c, d, e, f, g, i, j, k, m, n, o, p, q, r, s, t] := by
  match l, h with
  | [a, b, c, d, e, f, g, i, j, k, m, n, o, p, q, r, s, t], _ => exact ⟨a, b, c, d, e, f, g, i, j, k, m, n, o, p, q, r, s, t, rfl⟩
set_option maxRecDepth 100000 in
theorem arg_credit {v : Value} {d : DataW H} {p : List MemPlace} (hv : Value.okWide Tryz.prog W .any base 46 v) (h : TrdV enc W 46 v d p) (hf : Fits Tryz.prog 46 d) :
    ∃ (c : Crd) (A : Option Addr) (cap : Nat) (l : List Nd), v = .agg (c.cells (.slice A l.length cap)) ∧ c.okC ∧ l.length ≤ maxLen ∧ NdsAt W A l := by
  obtain ⟨cs, rfl, _⟩ := okWide_struct Tryz.underlying46 hv
  obtain ⟨fuel, h⟩ := h
  simp only [Value.cells] at h
  obtain ⟨m, _, hcl, hfd⟩ := open_strct Tryz.underlying46 h hf
  rw [show Tryz.prog.cellsOf 46 = 18 by kernel_rfl] at hcl
  have c9 : Tryz.prog.cellsOf 9 = 1 := by kernel_rfl
  have c3 : Tryz.prog.cellsOf 3 = 1 := by kernel_rfl
  have c4 : Tryz.prog.cellsOf 4 = 1 := by kernel_rfl
  have c2 : Tryz.prog.cellsOf 2 = 1 := by kernel_rfl
  have c29 : Tryz.prog.cellsOf 43 = 2 := by kernel_rfl
  have c30 : Tryz.prog.cellsOf 44 = 1 := by kernel_rfl
  obtain ⟨y0, t0, f0⟩ := hfd 0 _ rfl
  obtain ⟨y1, t1, f1⟩ := hfd 1 _ rfl
  obtain ⟨y2, t2, f2⟩ := hfd 2 _ rfl
  obtain ⟨y3, t3, f3⟩ := hfd 3 _ rfl
  obtain ⟨y4, t4, f4⟩ := hfd 4 _ rfl
  obtain ⟨y5, t5, f5⟩ := hfd 5 _ rfl
  obtain ⟨y6, t6, f6⟩ := hfd 6 _ rfl
  obtain ⟨y7, t7, f7⟩ := hfd 7 _ rfl
  obtain ⟨y8, t8, f8⟩ := hfd 8 _ rfl
  obtain ⟨y9, t9, f9⟩ := hfd 9 _ rfl
  obtain ⟨y10, t10, f10⟩ := hfd 10 _ rfl
  obtain ⟨y11, t11, f11⟩ := hfd 11 _ rfl
  obtain ⟨y12, t12, f12⟩ := hfd 12 _ rfl
  obtain ⟨y13, t13, f13⟩ := hfd 13 _ rfl
  obtain ⟨y14, t14, f14⟩ := hfd 14 _ rfl
  obtain ⟨y15, t15, f15⟩ := hfd 15 _ rfl
  obtain ⟨y16, t16, f16⟩ := hfd 16 _ rfl
  obtain ⟨s0, e0, _⟩ := open_str_at Tryz.underlying9 t0 f0
  obtain ⟨s1, e1, q1⟩ := open_str_at Tryz.underlying9 t1 f1
  obtain ⟨s2, e2, q2⟩ := open_str_at Tryz.underlying9 t2 f2
  obtain ⟨s3, e3, _⟩ := open_str_at Tryz.underlying9 t3 f3
  obtain ⟨s4, e4, _⟩ := open_str_at Tryz.underlying9 t4 f4
  obtain ⟨s5, e5, _⟩ := open_str_at Tryz.underlying9 t5 f5
  obtain ⟨s6, e6, _⟩ := open_str_at Tryz.underlying9 t6 f6
  obtain ⟨m7, _, hcl7, hfd7⟩ := open_strct Tryz.underlying43 t7 f7
  obtain ⟨z0, u0, g0⟩ := hfd7 0 _ rfl
  obtain ⟨z1, u1, g1⟩ := hfd7 1 _ rfl
  obtain ⟨s7, e7, q7⟩ := open_str_at Tryz.underlying9 u0 g0
  obtain ⟨n7, e7', b7⟩ := open_int_at Tryz.underlying2 u1
  obtain ⟨n8, e8, b8⟩ := open_int_at Tryz.underlying3 t8
  obtain ⟨n9, e9, b9⟩ := open_int_at Tryz.underlying3 t9
  obtain ⟨n10, e10, b10⟩ := open_int_at Tryz.underlying3 t10
  obtain ⟨n11, e11, b11⟩ := open_int_at Tryz.underlying3 t11
  obtain ⟨n12, e12, b12⟩ := open_int_at Tryz.underlying3 t12
  obtain ⟨n13, e13, b13⟩ := open_int_at Tryz.underlying3 t13
  obtain ⟨n14, e14, _⟩ := DataW.trod_bool Tryz.underlying4 t14
  obtain ⟨n15, e15, _⟩ := DataW.trod_bool Tryz.underlying4 t15
  obtain ⟨A, cap, l, e16, hl, hN⟩ := open_nds t16 f16
  obtain ⟨a0, a1, a2, a3, a4, a5, a6, a7, a8, a9, a10, a11, a12, a13, a14, a15, a16, a17, hcs⟩ := len18 hcl
  rw [hcs] at e0 e1 e2 e3 e4 e5 e6 e7 e7' e8 e9 e10 e11 e12 e13 e14 e15 e16
  simp [c9, c3, c4, c2, c29, c30] at e0 e1 e2 e3 e4 e5 e6 e7 e7' e8 e9 e10 e11 e12 e13 e14 e15 e16
  subst e0 e1 e2 e3 e4 e5 e6 e7 e7' e8 e9 e10 e11 e12 e13 e14 e15 e16
  refine ⟨⟨s0, s1, s2, s3, s4, s5, s6, s7, n7, n8, n9, n10, n11, n12, n13, n14, n15⟩, A, cap, l, ?_, ⟨i64_of b7, i64_of b8, i64_of b9, i64_of b10, i64_of b11, i64_of b12, q1, q2, q7⟩, hl, hN⟩
  rw [show cs = cs.toList.toArray by simp, hcs]
end
end Go.Proofs.YtdjmckjbibfecaaGreatDoor
namespace Go.Proofs.YtdjmckjbibfecaaGreatDoor
open Go Go.RowKit Go.BigFrame Go.Maps

end Go.Proofs.YtdjmckjbibfecaaGreatDoor
namespace Go.Proofs.YtdjmckjbibfecaaGreatDoor
open Go Go.RowKit Go.BigFrame Go.Maps

/-- How an atom of a core is told. -/
def whyN (docs : List Pap) (d : Pap) (x : Tree) : Int := if x.kind = 7 ∧ holdsT docs d x = 2 then 3 else holdsT docs d x
def fineOf (docs : List Pap) (d : Pap) (f : Flt) (x : Tree) : Flt := ⟨f.paper, f.kind, x.field, whyN docs d x⟩
def fineM (docs : List Pap) (d : Pap) (f : Flt) (L : List Tree) (ps : List Nat) : List Flt := ps.flatMap fun q => ((L[q]?).map (fineOf docs d f)).toList
def finestM (docs : List Pap) (d : Pap) (t : Tree) (f : Flt) : List Flt :=
  match coresE docs t f.paper with
  | (p :: ps) :: _ => fineM docs d f (atomsT t) (p :: ps)
  | _ => [f]
theorem fineM_snoc {docs : List Pap} {d : Pap} {f : Flt} {L : List Tree} {ps : List Nat} {q p : Nat} {x : Tree} (hq : ps[q]? = some p) (hx : L[p]? = some x) : fineM docs d f L (ps.take (q + 1)) = fineM docs d f L (ps.take q) ++ [fineOf docs d f x] := by
  obtain ⟨hj, e⟩ := List.getElem?_eq_some_iff.1 hq
  rw [List.take_succ_eq_append_getElem hj, e]
  unfold fineM
  rw [List.flatMap_append]
  simp [hx]
theorem fineM_len {docs : List Pap} {d : Pap} {f : Flt} {L : List Tree} : ∀ {ps : List Nat}, (∀ p ∈ ps, p < L.length) → (fineM docs d f L ps).length = ps.length
  | [], _ => rfl
  | p :: ps, h => by
    have h1 := fineM_len (docs := docs) (d := d) (f := f) (ps := ps) fun q hq => h q (by simp [hq])
    unfold fineM at h1 ⊢
    rw [List.flatMap_cons, List.length_append, h1, List.getElem?_eq_getElem (h p (by simp))]
    simp; omega
theorem core_small {docs : List Pap} {d : Pap} {t : Tree} {a : Nat} (hd : docs[a]? = some d) {p : List Nat} (hp : p ∈ coresE docs t (a : Int)) : p.length ≤ 12 ∧ ∀ i ∈ p, i < (atomsT t).length := by
  rw [coresE_in hd] at hp
  split at hp
  · cases hp
  · rename_i h
    have hl : (stL docs d t).length = (atomsT t).length := by rw [stL, List.length_map]
    have hc := coresD_core (stN_lt docs d t) rfl hl (stN_at docs d t) hp
    refine ⟨?_, core_lt hc⟩
    obtain ⟨S, rfl, _⟩ := hc
    have := List.length_filter_le S (List.range (atomsT t).length)
    rw [List.length_range] at this
    omega
structure FinS (w1 W : World) (A8 : Option Addr) (c8 m : Nat) (AT : List Tree) (g7 c7 np : Nat) (ps : List Nat) (v : Value) (k : Nat) (F : List Flt) : Prop where
  below : Below w1.heap.size w1 W
  row8 : W.ownsRow w1.heap.size 24 6 (.slice A8 m c8) m (cellsL AT)
  row7 : W.ownsRow w1.heap.size 3 1 (.slice (some ⟨g7, 0, none⟩) np c7) np (natsV ps)
  out : W.ownsRow w1.heap.size 54 4 v k (fcells F)
theorem FinS.on {w1 W W' : World} {A8 : Option Addr} {c8 m : Nat} {AT : List Tree} {g7 c7 np : Nat} {ps : List Nat} {v : Value} {k : Nat} {F : List Flt} (h : FinS w1 W A8 c8 m AT g7 c7 np ps v k F) (hb : Below W.heap.size W W') : FinS w1 W' A8 c8 m AT g7 c7 np ps v k F :=
  ⟨h.below.trans (hb.mono h.below.size), own_below h.row8 hb, own_below h.row7 hb, own_below h.out hb⟩
theorem FinS.grow {w1 W W' : World} {A8 : Option Addr} {c8 m : Nat} {AT : List Tree} {g7 c7 np : Nat} {ps : List Nat} {v v' : Value} {k k' : Nat} {F F' : List Flt} (h : FinS w1 W A8 c8 m AT g7 c7 np ps v k F) (ho : W'.ownsRow w1.heap.size 54 4 v' k' (fcells F')) (hg : W.grownBy W' v.ownBlock) : FinS w1 W' A8 c8 m AT g7 c7 np ps v' k' F' :=
  ⟨h.below.grown hg h.below.size (fun j hj => (h.out.lt j hj).1), own_far h.row8 h.out hg (by decide), own_far h.row7 h.out hg (by decide), ho⟩
set_option maxRecDepth 100000 in
set_option maxHeartbeats 6400000 in
theorem finest_any (t : Tree) (A0 : Option Addr) (nn c0 : Nat) (docs : List Pap) (f : Flt) (a : Nat) (hfa : f.paper = (a : Int)) (d : Pap) (hd0 : docs[a]? = some d) (w : World) (hT : Hid (TreeAt w t)) (hR : Hid (Room w A0 nn docs)) (hAT : (atomsT t).length ≤ 60) :
    Calls Tryz.prog 66 #[.agg t.cells, .slice A0 nn c0, f.agg] w fun e w' => ∃ v, e = .returned v ∧ w'.ownsRow w.heap.size 54 4 v (finestM docs d t f).length (fcells (finestM docs d t f)) ∧ Below w.heap.size w w' := by
  obtain ⟨iF, iFi, iF0, iF1, iF2⟩ := info_parts Tryz.info54
  obtain ⟨fp, fk, ff, fw⟩ := f
  simp only at hfa
  subst hfa
  have hFM : Hid (finestM docs d t ⟨(a : Int), fk, ff, fw⟩ = match coresE docs t (a : Int) with
    | (p :: ps) :: _ => fineM docs d ⟨(a : Int), fk, ff, fw⟩ (atomsT t) (p :: ps)
    | _ => [⟨(a : Int), fk, ff, fw⟩]) := rfl
  obtain ⟨FM, hFMe⟩ : ∃ l, Hid (finestM docs d t ⟨(a : Int), fk, ff, fw⟩ = l) := ⟨_, rfl⟩
  rw [hFMe.out] at hFM ⊢
  have hcs := Lib.hid (fun p (hp : p ∈ coresE docs t (a : Int)) => core_small hd0 hp)
  obtain ⟨AT, hATe⟩ : ∃ l, Hid (atomsT t = l) := ⟨_, rfl⟩
  obtain ⟨CE, hCE⟩ : ∃ l, Hid (coresE docs t (a : Int) = l) := ⟨_, rfl⟩
  obtain ⟨m, hm⟩ : ∃ m, AT.length = m := ⟨_, rfl⟩
  have hm60 : m ≤ 60 := by rw [← hm, ← hATe.out]; exact hAT
  have hm' := Lib.hid hm
  have hcores := Lib.hid (fun W (h : TreeAt W t) (r : Room W A0 nn docs) => cores_any t A0 nn c0 docs (a : Int) W (Lib.hid h) (Lib.hid r) hAT)
  have hatoms := Lib.hid (fun W (h : TreeAt W t) => atoms_any t W (Lib.hid h) (by omega))
  have hTA : Hid (∀ u ∈ AT, TreeAt w u) := Lib.hid (fun u hu => atoms_at hT.out u (by rw [hATe.out]; exact hu))
  have hst : Hid (∀ u, standsA docs u (a : Int) = holdsT docs d u) := Lib.hid fun u => standsA_in hd0
  rw [hATe.out] at hatoms hFM hcs
  rw [hCE.out] at hcores hFM hcs
  obtain ⟨T, hTd⟩ : ∃ T, Hid (t = T) := ⟨_, rfl⟩
  obtain ⟨k, p, f, x, n, A, c, L⟩ := t
  simp only [Tree.cells] at hatoms hcores ⊢
  rw [hTd.out] at hT hatoms hcores
  clear hAT hm hd0 hCE hATe hFMe hTd
  simp only [Flt.agg]
  obtain ⟨w0, hw0⟩ : ∃ X, Hid (w.alloc (.cells #[.int .i64 k, .int .i64 p, .string f, .string x, .int .i64 n, .slice A L.length c] 24) = X) := ⟨_, rfl⟩
  have hb0 : Hid (Below w.heap.size w w0) := by rw [← hw0.out]; exact (Below.refl _ w).alloc (Nat.le_refl _) _
  have hs0 : w0.heap.size = w.heap.size + 1 := by rw [← hw0.out]; simp
  have hN0 : Hid (Blk w0 w.heap.size 24 #[.int .i64 k, .int .i64 p, .string f, .string x, .int .i64 n, .slice A L.length c]) := by rw [← hw0.out]; exact Lib.hid (Blk.new _ _ _)
  obtain ⟨w1, hw1⟩ : ∃ X, Hid (w0.alloc (.cells #[.int .i64 (a : Int), .int .i64 fk, .string ff, .int .i64 fw] 54) = X) := ⟨_, rfl⟩
  have hb1 : Hid (Below w0.heap.size w0 w1) := by rw [← hw1.out]; exact (Below.refl _ w0).alloc (Nat.le_refl _) _
  have hB1 : Hid (Below w.heap.size w w1) := hb0.out.trans (hb1.out.mono hb0.out.size)
  have hN1 := Lib.hid (hN0.out.below hb1.out hN0.out.lt)
  obtain ⟨g1, hg1⟩ : ∃ z, Hid (w0.heap.size = z) := ⟨_, rfl⟩
  have hF1 : Hid (Blk w1 g1 54 #[.int .i64 (a : Int), .int .i64 fk, .string ff, .int .i64 fw]) := by rw [← hw1.out, ← hg1.out]; exact Lib.hid (Blk.new _ _ _)
  have e1 : w.heap.size + 1 = g1 := by rw [← hs0]; exact hg1.out
  have e1' : w0.heap.size = g1 := hg1.out
  have q0 : w1.cell? ⟨w.heap.size, 0, none⟩ = some (.int .i64 k) := hN1.out.cell 0
  have q1 : w1.cell? ⟨w.heap.size, 1, none⟩ = some (.int .i64 p) := hN1.out.cell 1
  have q2 : w1.cell? ⟨w.heap.size, 2, none⟩ = some (.string f) := hN1.out.cell 2
  have q3 : w1.cell? ⟨w.heap.size, 3, none⟩ = some (.string x) := hN1.out.cell 3
  have q4 : w1.cell? ⟨w.heap.size, 4, none⟩ = some (.int .i64 n) := hN1.out.cell 4
  have q5 : w1.cell? ⟨w.heap.size, 5, none⟩ = some (.slice A L.length c) := hN1.out.cell 5
  have f0 : w1.cell? ⟨g1, 0, none⟩ = some (.int .i64 (a : Int)) := hF1.out.cell 0
  have hco1 := Lib.hid (hcores.out w1 (hT.out.below hB1.out) (hR.out.below hB1.out))
  clear hcores hs0
  go_enter Tryz.func66, Tryz.ntmps66
  go_wp2_with (first | rw [hw0.out, hw1.out] | rw [hw1.out] | rw [hw0.out])
  refine hco1.out.mono ?_
  rintro e w2 ⟨v7, rfl, ⟨vs, hvl, hvo, hve⟩, hb2⟩
  clear hco1 q0 q1 q2 q3 q4 q5 f0
  have hB2 : Hid (Below w.heap.size w w2) := hB1.out.trans (hb2.mono hB1.out.size)
  have hN2 := Lib.hid (hN1.out.below hb2 hN1.out.lt)
  have hF2 := Lib.hid (hF1.out.below hb2 hF1.out.lt)
  have hb2' := Lib.hid hb2
  have f0 : w2.cell? ⟨g1, 0, none⟩ = some (.int .i64 (a : Int)) := hF2.out.cell 0
  have f1 : w2.cell? ⟨g1, 1, none⟩ = some (.int .i64 fk) := hF2.out.cell 1
  have f2 : w2.cell? ⟨g1, 2, none⟩ = some (.string ff) := hF2.out.cell 2
  have f3 : w2.cell? ⟨g1, 3, none⟩ = some (.int .i64 fw) := hF2.out.cell 3
  have hone : Hid ((w2.alloc (.cells #[.int .i64 (a : Int), .int .i64 fk, .string ff, .int .i64 fw] 54)).ownsRow w.heap.size 54 4 (.slice (some ⟨w2.heap.size, 0, none⟩) 1 1) [(⟨(a : Int), fk, ff, fw⟩ : Flt)].length (fcells [⟨(a : Int), fk, ff, fw⟩])) :=
    Lib.hid (own_mono (own_fresh w2 54 4 1 #[.int .i64 (a : Int), .int .i64 fk, .string ff, .int .i64 fw] rfl (by decide)) hB2.out.size)
  have hBone : Hid (Below w.heap.size w (w2.alloc (.cells #[.int .i64 (a : Int), .int .i64 fk, .string ff, .int .i64 fw] 54))) := Lib.hid (hB2.out.alloc hB2.out.size _)
  have hvo' := Lib.hid hvo
  have hve' := Lib.hid hve
  clear hb2 hvo hve
  obtain ⟨A7, c7, rfl⟩ := own_form hvo'.out
  obtain _ | ⟨ps, CE'⟩ := CE
  · have hFM' : Hid (FM = [⟨(a : Int), fk, ff, fw⟩]) := hFM.out
    clear hFM hve' hvo'
    go_wp2_with fail
    go_ret
    rw [hFM'.out]
    exact ⟨_, rfl, hone.out, hBone.out⟩
  obtain ⟨nE, hnE⟩ : ∃ z, (ps :: CE').length = z := ⟨_, rfl⟩
  have hnE0 : 0 < nE := by rw [← hnE]; simp
  obtain ⟨x0, hx0⟩ : ∃ x, vs[0]? = some x := ⟨_, List.getElem?_eq_getElem (by omega)⟩
  rw [hnE] at hvo' ⊢
  obtain ⟨g7, c9, e9, hg7, hg7l⟩ := own_formS hvo'.out hnE0
  obtain rfl : A7 = some ⟨g7, 0, none⟩ := by injection e9
  have hx0c : w2.cell? ⟨g7, 0, none⟩ = some x0 := hvo'.out.cells (g := g7) rfl 0 x0 hx0
  have hx0o := Lib.hid (hve'.out 0 ps x0 rfl hx0)
  obtain ⟨A3, c3, rfl⟩ := own_form hx0o.out
  have z0 : ((nE : Int) == 0) = false := by simp; omega
  have i0 : (0 : Int) < (nE : Int) := by omega
  clear hve' hvo' hx0 e9 hvl
  obtain _ | ⟨p0, pr⟩ := ps
  · have hFM' : Hid (FM = [⟨(a : Int), fk, ff, fw⟩]) := hFM.out
    clear hFM
    go_wp2_with fail
    go_ret
    rw [hFM'.out]
    exact ⟨_, rfl, hone.out, hBone.out⟩
  have hFM' : Hid (FM = fineM docs d ⟨(a : Int), fk, ff, fw⟩ AT (p0 :: pr)) := hFM.out
  have hcs' := Lib.hid (hcs.out (p0 :: pr) (by simp))
  obtain ⟨PS, hPS⟩ : ∃ l, p0 :: pr = l := ⟨_, rfl⟩
  rw [hPS] at hFM' hcs' hx0o hx0c
  obtain ⟨np, hnp⟩ : ∃ z, PS.length = z := ⟨_, rfl⟩
  have hnp' := Lib.hid hnp
  have hnp0 : 0 < np := by rw [← hnp, ← hPS]; simp
  rw [hnp] at hx0o hx0c hcs'
  obtain ⟨g3, c9, e9, hg3, hg3l⟩ := own_formS hx0o.out hnp0
  obtain rfl : A3 = some ⟨g3, 0, none⟩ := by injection e9
  have z1 : ((np : Int) == 0) = false := by simp; omega
  have hat2 := Lib.hid (hatoms.out w2 (hT.out.below hB2.out))
  have t0 : w2.cell? ⟨w.heap.size, 0, none⟩ = some (.int .i64 k) := hN2.out.cell 0
  have t1 : w2.cell? ⟨w.heap.size, 1, none⟩ = some (.int .i64 p) := hN2.out.cell 1
  have t2 : w2.cell? ⟨w.heap.size, 2, none⟩ = some (.string f) := hN2.out.cell 2
  have t3 : w2.cell? ⟨w.heap.size, 3, none⟩ = some (.string x) := hN2.out.cell 3
  have t4 : w2.cell? ⟨w.heap.size, 4, none⟩ = some (.int .i64 n) := hN2.out.cell 4
  have t5 : w2.cell? ⟨w.heap.size, 5, none⟩ = some (.slice A L.length c) := hN2.out.cell 5
  clear hFM hcs hone hBone hatoms hnp hPS e9 hnE
  go_wp2_with fail
  refine hat2.out.mono ?_
  rintro e w3 ⟨v8, rfl, hrow8, hb3⟩
  obtain ⟨A8, c8, rfl⟩ := own_form hrow8
  rw [hm'.out] at hrow8 ⊢
  have hS3 : Hid (FinS w1 w3 A8 c8 m AT g3 c3 np PS (.slice none 0 0) 0 []) := Lib.hid ⟨hb2'.out.trans (hb3.mono hb2'.out.size), own_mono hrow8 hb2'.out.size, own_below hx0o.out hb3, own_none _ _ _ _⟩
  have hc3 : w3.cell? ⟨g7, 0, none⟩ = some (.slice (some ⟨g3, 0, none⟩) np c3) := (hb3.cell (World.block_lt_of_cell? w2 _ hx0c)).trans hx0c
  clear t0 t1 t2 t3 t4 t5 f0 f1 f2 f3 hat2 hrow8 hb3 hx0o hN2 hF2
  go_wp2_with fail
  go_loopw [9, 37] (fun v i wr => ∃ q : Nat, q ≤ np ∧ i = .int .i64 q ∧ Hid (FinS w1 wr A8 c8 m AT g3 c3 np PS v q (fineM docs d ⟨(a : Int), fk, ff, fw⟩ AT (PS.take q)))) (fun _ i _ => np - (intOf i).toNat)
  case atStart => exact ⟨0, Nat.zero_le _, rfl, by rw [List.take_zero]; exact hS3⟩
  case round =>
    obtain ⟨q, hq, rfl, hS⟩ := hrel
    by_cases hlt : q < np
    · as_aux_lemma =>
      have hnp12 : np ≤ 12 := hcs'.out.1
      obtain ⟨pp, hpp⟩ : ∃ x, PS[q]? = some x := ⟨_, List.getElem?_eq_getElem (by have := hnp'.out; omega)⟩
      have hpm : pp < m := by rw [← hm'.out]; exact hcs'.out.2 pp (List.mem_of_getElem? hpp)
      obtain ⟨u, hu⟩ : ∃ u, AT[pp]? = some u := ⟨_, List.getElem?_eq_getElem (by have := hm'.out; omega)⟩
      have hsn : Hid (fineM docs d ⟨(a : Int), fk, ff, fw⟩ AT (PS.take (q + 1)) = fineM docs d ⟨(a : Int), fk, ff, fw⟩ AT (PS.take q) ++ [fineOf docs d ⟨(a : Int), fk, ff, fw⟩ u]) := Lib.hid (fineM_snoc hpp hu)
      obtain ⟨F, hF⟩ : ∃ l, Hid (fineM docs d ⟨(a : Int), fk, ff, fw⟩ AT (PS.take q) = l) := ⟨_, rfl⟩
      rw [hF.out] at hsn hS
      obtain ⟨F', hF'⟩ : ∃ l, Hid (fineM docs d ⟨(a : Int), fk, ff, fw⟩ AT (PS.take (q + 1)) = l) := ⟨_, rfl⟩
      rw [hF'.out] at hsn
      have huT := Lib.hid (hTA.out u (List.mem_of_getElem? hu))
      obtain ⟨g8, c9, e9, hg8, hg8l⟩ := own_formS hS.out.row8 (by omega)
      obtain rfl : A8 = some ⟨g8, 0, none⟩ := by injection e9
      have hcl : ∀ j v, u.cells.toList[j]? = some v → wr.cell? ⟨g8, pp * 6 + j, none⟩ = some v := fun j v hv => by
        have := hS.out.row8.cells (g := g8) rfl _ v (cellsL_get AT pp j u v hu hv)
        have hadd : (⟨g8, 0, none⟩ : Addr).add (pp * 6 + j) = ⟨g8, pp * 6 + j, none⟩ := by unfold Addr.add; split <;> simp_all
        rw [← hadd]; exact this
      have hpc : wr.cell? ⟨g3, q, none⟩ = some (.int .i64 (pp : Int)) := by
        have := hS.out.row7.cells (g := g3) rfl q (.int .i64 (pp : Int)) (by rw [natsV, List.getElem?_map, hpp]; rfl)
        have hadd : (⟨g3, 0, none⟩ : Addr).add q = ⟨g3, q, none⟩ := by unfold Addr.add; split <;> simp_all
        rw [← hadd]; exact this
      have hho := Lib.hid (fun W (h : TreeAt W u) (r : Room W A0 nn docs) => holds_any A0 nn c0 docs (a : Int) u W h r)
      rw [hst.out] at hho
      have hwf : Hid (fineOf docs d ⟨(a : Int), fk, ff, fw⟩ u = ⟨(a : Int), fk, u.field, if u.kind = 7 ∧ holdsT docs d u = 2 then 3 else holdsT docs d u⟩) := rfl
      obtain ⟨hz9, hhz⟩ : ∃ z, holdsT docs d u = z := ⟨_, rfl⟩
      rw [hhz] at hho hwf
      obtain ⟨FO, hFO⟩ : ∃ l, Hid (fineOf docs d ⟨(a : Int), fk, ff, fw⟩ u = l) := ⟨_, rfl⟩
      rw [hFO.out] at hsn hwf
      clear hhz e9 hu hpp hF hFO
      obtain ⟨uk, up, uf, ux, un, uA, uc, uL⟩ := u
      simp only [Tree.cells] at hho hcl
      have hwf' : Hid (FO = ⟨(a : Int), fk, uf, if uk = 7 ∧ hz9 = 2 then 3 else hz9⟩) := hwf.out
      clear hwf
      have d0 : wr.cell? ⟨g8, pp * 6, none⟩ = some (.int .i64 uk) := hcl 0 _ rfl
      have d1' : wr.cell? ⟨g8, pp * 6 + 1, none⟩ = some (.int .i64 up) := hcl 1 _ rfl
      have d2' : wr.cell? ⟨g8, pp * 6 + 2, none⟩ = some (.string uf) := hcl 2 _ rfl
      have d3' : wr.cell? ⟨g8, pp * 6 + 3, none⟩ = some (.string ux) := hcl 3 _ rfl
      have d4' : wr.cell? ⟨g8, pp * 6 + 4, none⟩ = some (.int .i64 un) := hcl 4 _ rfl
      have d5' : wr.cell? ⟨g8, pp * 6 + 5, none⟩ = some (.slice uA uL.length uc) := hcl 5 _ rfl
      obtain ⟨w5, hw5⟩ : ∃ X, Hid (wr.alloc (.cells #[.int .i64 uk, .int .i64 up, .string uf, .string ux, .int .i64 un, .slice uA uL.length uc] 24) = X) := ⟨_, rfl⟩
      have hb5 : Hid (Below wr.heap.size wr w5) := by rw [← hw5.out]; exact (Below.refl _ wr).alloc (Nat.le_refl _) _
      have hN5 : Hid (Blk w5 wr.heap.size 24 #[.int .i64 uk, .int .i64 up, .string uf, .string ux, .int .i64 un, .slice uA uL.length uc]) := by rw [← hw5.out]; exact Lib.hid (Blk.new _ _ _)
      have hS5 := Lib.hid (hS.out.on hb5.out)
      have hF5 : Hid (Blk w5 g1 54 #[.int .i64 (a : Int), .int .i64 fk, .string ff, .int .i64 fw]) := Lib.hid (hF1.out.below hS5.out.below hF1.out.lt)
      have hBw5 := Lib.hid (hB1.out.trans (hS5.out.below.mono hB1.out.size))
      have hcall := Lib.hid (hho.out w5 (huT.out.below hBw5.out) (hR.out.below hBw5.out))
      have r0 : w5.cell? ⟨wr.heap.size, 0, none⟩ = some (.int .i64 uk) := hN5.out.cell 0
      have r1 : w5.cell? ⟨wr.heap.size, 1, none⟩ = some (.int .i64 up) := hN5.out.cell 1
      have r2 : w5.cell? ⟨wr.heap.size, 2, none⟩ = some (.string uf) := hN5.out.cell 2
      have r3 : w5.cell? ⟨wr.heap.size, 3, none⟩ = some (.string ux) := hN5.out.cell 3
      have r4 : w5.cell? ⟨wr.heap.size, 4, none⟩ = some (.int .i64 un) := hN5.out.cell 4
      have r5 : w5.cell? ⟨wr.heap.size, 5, none⟩ = some (.slice uA uL.length uc) := hN5.out.cell 5
      have f0 : w5.cell? ⟨g1, 0, none⟩ = some (.int .i64 (a : Int)) := hF5.out.cell 0
      have i1 : (q : Int) < (np : Int) := by omega
      have i2 : (0 : Int) ≤ (q : Int) := by omega
      have i3 : (pp : Int) < (m : Int) := by omega
      have i4 : (0 : Int) ≤ (pp : Int) := by omega
      have hkm : decide (q < np) = true := decide_eq_true hlt
      clear hho hcl
      go_wp2_with (rw [hw5.out])
      refine hcall.out.mono ?_
      rintro e w6 ⟨rfl, hb6⟩
      have hS6 := Lib.hid (hS5.out.on hb6)
      have hF6 := Lib.hid (hF5.out.below hb6 hF5.out.lt)
      have hN6 := Lib.hid (hN5.out.below hb6 hN5.out.lt)
      clear hb6 r0 r1 r2 r3 r4 r5 f0 d0 d1' d2' d3' d4' d5' hcall hpc
      have r0 : w6.cell? ⟨wr.heap.size, 0, none⟩ = some (.int .i64 uk) := hN6.out.cell 0
      have r2 : w6.cell? ⟨wr.heap.size, 2, none⟩ = some (.string uf) := hN6.out.cell 2
      have f0 : w6.cell? ⟨g1, 0, none⟩ = some (.int .i64 (a : Int)) := hF6.out.cell 0
      have f1 : w6.cell? ⟨g1, 1, none⟩ = some (.int .i64 fk) := hF6.out.cell 1
      have s1 : Hid (q + 1 ≤ maxLen) := by unfold Hid maxLen; have := hcs'.out.1; omega
      have s2 : Hid ((q + 1) * 40 ≤ 140737488355328) := by unfold Hid; have := hcs'.out.1; omega
      obtain ⟨bk, hbk⟩ : ∃ b, (uk == 7) = b := ⟨_, rfl⟩
      obtain ⟨bz, hbz⟩ : ∃ b, (hz9 == 2) = b := ⟨_, rfl⟩
      obtain ⟨wy, hwy⟩ : ∃ z, Hid ((if (bk && bz) = true then (3 : Int) else hz9) = z) := ⟨_, rfl⟩
      have hFO : Hid (FO = ⟨(a : Int), fk, uf, wy⟩) := by unfold Hid; rw [hwf'.out, ← hwy.out, ← hbk, ← hbz]; simp
      obtain ⟨w7, hw7⟩ : ∃ X, Hid (w6.alloc (.cells #[.int .i64 (a : Int), .int .i64 fk, .string uf, .int .i64 wy] 54) = X) := ⟨_, rfl⟩
      have hb7 : Hid (Below w6.heap.size w6 w7) := by rw [← hw7.out]; exact (Below.refl _ w6).alloc (Nat.le_refl _) _
      have hblk : Hid (Reads w7 w7.heap.size 4 (some ⟨w6.heap.size, 0, none⟩) 1 (#[.int .i64 (a : Int), .int .i64 fk, .string uf, .int .i64 wy] : Array Value).toList) := by rw [← hw7.out]; exact Lib.hid (blk_reads (Blk.new w6 54 #[.int .i64 (a : Int), .int .i64 fk, .string uf, .int .i64 wy]) 4 1 rfl)
      have hS7 := Lib.hid (hS6.out.on hb7.out)
      have s3 := Lib.hid hS7.out.below.size
      have s4 : Hid (∀ v ∈ (#[.int .i64 (a : Int), .int .i64 fk, .string uf, .int .i64 wy] : Array Value).toList, v.oneCell' = true) := Lib.hid (one4 ⟨(a : Int), fk, uf, wy⟩)
      rw [hFO.out] at hsn
      have hsf : Hid (fcells F ++ (#[.int .i64 (a : Int), .int .i64 fk, .string uf, .int .i64 wy] : Array Value).toList = fcells F') := by unfold Hid; rw [hsn.out, fcells_snoc1]
      clear hFO hwf' hsn hb7 hN5 hN6 hF5 hF6 hBw5 hS5
      cases bk <;> cases bz
      all_goals
        have hwy' := hwy.out
        simp only [Bool.and_self, Bool.and_false, Bool.and_true, Bool.false_eq_true, if_true, if_false] at hwy'
        subst hwy'
        clear hwy
        go_wp2_with (first | rw [hw7.out] | (at_builtin; go_must (refine wpList_append_any _ rfl _ _ 47 rfl w1.heap.size 54 iF _ 4 40 Tryz.underlying47 iFi iF0 iF1 iF2 rfl (by decide) _ q (fcells F) rfl hS7.out.out _ (some ⟨w6.heap.size, 0, none⟩) 1 1 _ rfl hblk.out s4.out s1.out s2.out s3.out ?_); intro v8 w8 ho8 hg8 hv8; rw [hsf.out] at ho8; have hS8 := Lib.hid (hS7.out.grow ho8 hg8); clear ho8 hg8 hv8))
        go_roundw
        case rel => exact ⟨q + 1, by omega, by go_num, by rw [hF'.out]; exact hS8⟩
        case measure => simp [intOf]; omega
    · have hkm : decide (q < np) = false := decide_eq_false hlt
      have hqn : np = q := by omega
      subst hqn
      go_wp2_with fail
      go_ret
      refine ⟨_, rfl, ?_, hB1.out.trans (hS.out.below.mono hB1.out.size)⟩
      have h9 := hS.out.out
      rw [List.take_of_length_le (by rw [hnp'.out]; exact Nat.le_refl _), ← hFM'.out] at h9
      have h8 : FM.length = np := by rw [hFM'.out, fineM_len (fun p hp => hcs'.out.2 p hp), hnp'.out]
      rw [h8]
      exact own_mono h9 hB1.out.size

end Go.Proofs.YtdjmckjbibfecaaGreatDoor

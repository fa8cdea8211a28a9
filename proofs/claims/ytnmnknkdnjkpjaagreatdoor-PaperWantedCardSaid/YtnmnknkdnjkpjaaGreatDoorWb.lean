/- paper.Wanted. -/
import Derived.Test.YtnmnknkdnjkpjaaGreatDoorWa
import Derived.Test.YtnmnknkdnjkpjaaGreatDoorGw
namespace Go.Proofs.YtnmnknkdnjkpjaaGreatDoor
open Go Go.RowKit Go.BigFrame Go.Maps

section
variable {P : Program} {ops : Array Oper} {o : Oper} {rest : List Oper} {a : Act} {w : World} {Q : Exit → Act → World → Prop}
theorem wpList_put_blk (hgd : o.guard = none) (ty : TypeId) (x y : Operand) (ho : o.op = .store ty x y) (g : Nat) (old cs : Array Value) (t : TypeId) (hx : a.eval x = .pointer (some ⟨g, 0, none⟩)) (hy : a.eval y = .agg cs)
    (hb : Blk w g t old) (hs : old.size = cs.size) (hi : (P.info? ty).map (·.size) = some cs.size) (h1 : cs.all (·.oneCell') = true)
    (h : ∀ w', Blk w' g t cs → But g w w' → wpList P ops Q rest (a.put o.dst undef) w') : wpList P ops Q (o :: rest) a w := by
  refine wpList_store_mid hgd ty x y ho g 0 cs hx hy (fun j hj => ?_) hi h1 (h _ ?_ (setCells_put g _ 0 w))
  · have hj' : j < old.size := by omega
    rw [Nat.zero_add]
    exact ⟨by rw [hb.cell]; simp [hj'], hb.frozen j⟩
  · have := setCells_row (g := g) (t := t) cs.toList [] old.toList w (by simpa using hs) (by simpa using hb)
    simpa using this
end
theorem But.grown {g : Nat} {w w' : World} (h : But g w w') : w.grownBy w' (some g) := ⟨h.os, h.tape, h.output, h.size, fun k hk hne => h.block k hk (fun e => hne (by rw [e]))⟩
/-- A deal's credit, but for its needs. -/
def crC (d : Dl) (v : Value) : Array Value := #[.string d.number, .string d.buyer, .string d.seller, .string d.issuer, .string ⟨#[]⟩, .string d.frm, .string d.toP, .string d.currency, .int .i64 d.amount, .int .i64 0, .int .i64 0, .int .i64 d.latest, .int .i64 d.expiry, .int .i64 21, .int .i64 d.tenor, .bool false, .bool true, v]
abbrev zeroC : Array Value := #[.string ⟨#[]⟩, .string ⟨#[]⟩, .string ⟨#[]⟩, .string ⟨#[]⟩, .string ⟨#[]⟩, .string ⟨#[]⟩, .string ⟨#[]⟩, .string ⟨#[]⟩, .int .i64 0, .int .i64 0, .int .i64 0, .int .i64 0, .int .i64 0, .int .i64 0, .int .i64 0, .bool false, .bool false, .slice none 0 0]
/-- What a deal's credit asks for. -/
def need0 (d : Dl) : List Atm := [⟨3, ⟨#[115, 101, 108, 108, 101, 114]⟩, d.seller, 0⟩, ⟨3, ⟨#[98, 117, 121, 101, 114]⟩, d.buyer, 0⟩, ⟨3, ⟨#[99, 117, 114, 114, 101, 110, 99, 121]⟩, d.currency, 0⟩, ⟨3, ⟨#[115, 117, 109]⟩, mkB (Lib.itoa d.amount), 0⟩, ⟨3, ⟨#[102, 114, 111, 109]⟩, d.frm, 0⟩, ⟨3, ⟨#[116, 111]⟩, d.toP, 0⟩]
def need1 (d : Dl) : List Atm := [⟨3, ⟨#[98, 111, 120, 101, 115]⟩, mkB (Lib.itoa d.boxes.length), 0⟩, ⟨3, ⟨#[109, 97, 114, 107, 115]⟩, mkB (marksT d.boxes), 0⟩]
def need2 (ca se fr tp MK : ByteArray) (la : Int) : List Atm := [⟨3, ⟨#[99, 97, 114, 114, 105, 101, 114]⟩, ca, 0⟩, ⟨3, ⟨#[115, 104, 105, 112, 112, 101, 114]⟩, se, 0⟩, ⟨3, ⟨#[102, 114, 111, 109]⟩, fr, 0⟩, ⟨3, ⟨#[116, 111]⟩, tp, 0⟩, ⟨3, ⟨#[109, 97, 114, 107, 115]⟩, MK, 0⟩, ⟨3, ⟨#[99, 108, 101, 97, 110]⟩, ⟨#[121, 101, 115]⟩, 0⟩, ⟨5, ⟨#[105, 115, 115, 117, 101, 100]⟩, ⟨#[]⟩, la⟩]
def need3 (fr tp cu : ByteArray) (am : Int) : List Atm := [⟨3, ⟨#[102, 114, 111, 109]⟩, fr, 0⟩, ⟨3, ⟨#[116, 111]⟩, tp, 0⟩, ⟨3, ⟨#[99, 117, 114, 114, 101, 110, 99, 121]⟩, cu, 0⟩, ⟨6, ⟨#[115, 117, 109]⟩, ⟨#[]⟩, am⟩]
def need4 (d : Dl) : List Atm := [⟨3, ⟨#[115, 101, 108, 108, 101, 114]⟩, d.seller, 0⟩, ⟨3, ⟨#[99, 111, 117, 110, 116, 114, 121]⟩, d.frm, 0⟩]
def needsM (d : Dl) : List (Int × List Atm) := [(0, need0 d), (1, need1 d), (2, need2 d.carrier d.seller d.frm d.toP (mkB (marksT d.boxes)) d.latest)] ++ (if d.insurer.toList = [] then [] else [(3, need3 d.frm d.toP d.currency d.amount)]) ++ [(4, need4 d)]
def names0 : List ByteArray := [⟨#[115, 101, 108, 108, 101, 114]⟩, ⟨#[98, 117, 121, 101, 114]⟩, ⟨#[99, 117, 114, 114, 101, 110, 99, 121]⟩, ⟨#[115, 117, 109]⟩, ⟨#[102, 114, 111, 109]⟩, ⟨#[116, 111]⟩]
def names1 : List ByteArray := [⟨#[98, 111, 120, 101, 115]⟩, ⟨#[109, 97, 114, 107, 115]⟩]
def names4 : List ByteArray := [⟨#[115, 101, 108, 108, 101, 114]⟩, ⟨#[99, 111, 117, 110, 116, 114, 121]⟩]
theorem alike0 (d : Dl) : (names0.map fun s => (⟨3, s, getV (invL d) s, 0⟩ : Atm)) = need0 d := by simp [names0, need0, invL, getV, getF, mkB, ByteArray.toList_eq]
theorem alike1 (d : Dl) : (names1.map fun s => (⟨3, s, getV (packL d) s, 0⟩ : Atm)) = need1 d := by simp [names1, need1, packL, getV, getF, mkB, ByteArray.toList_eq]
theorem alike4 (d : Dl) : (names4.map fun s => (⟨3, s, getV (originL d d.frm) s, 0⟩ : Atm)) = need4 d := by simp [names4, need4, originL, getV, getF, mkB, ByteArray.toList_eq]
/-- What a slot holds, and what stands in memory for it. -/
abbrev Ty := Value → World → Prop
def Is (c : Value) : Ty := fun v _ => v = c
def DocV (k : Int) (nu is : ByteArray) (F : List Fld) (n : Nat) : Ty := fun v W => ∃ A c, v = .agg #[.int .i64 k, .string nu, .string is, .slice A n c] ∧ FieldsAt W A F
def NamesV (l : List ByteArray) (n : Nat) : Ty := fun v W => ∃ A c, v = .slice A n c ∧ StrsAt W A l
def AtomsV (l : List Atm) (n : Nat) : Ty := fun v W => W.ownsRow 0 109 6 v n (flT l)
def NeedV (k : Int) (l : List Atm) (n : Nat) : Ty := fun v W => ∃ A c, v = .agg (ndC k (.slice A n c)) ∧ W.ownsRow 0 109 6 (.slice A n c) n (flT l)
/-- A need, its rules in a row. -/
structure Ndd where
  kind : Int
  A : Option Addr
  n : Nat
  c : Nat
  rules : List Atm
def encN (x : Ndd) : List Value := (ndC x.kind (.slice x.A x.n x.c)).toList
def Ndd.pl (x : Ndd) : Int × List Atm := (x.kind, x.rules)
def OwnN (W : World) (nds : List Ndd) : Prop := ∀ x ∈ nds, x.rules.length = x.n ∧ W.ownsRow 0 109 6 (.slice x.A x.n x.c) x.n (flT x.rules)
def NeedsV (B : Nat) (l : List (Int × List Atm)) : Ty := fun v W => ∃ nds : List Ndd, W.ownsRow B 111 8 v nds.length (nds.flatMap encN) ∧ OwnN W nds ∧ nds.map Ndd.pl = l
def MonoT (t : Ty) : Prop := ∀ v W W', t v W → Below W.heap.size W W' → t v W'
def MonoL : List Ty → Prop
  | [] => True
  | t :: l => MonoT t ∧ MonoL l
theorem mono_at : ∀ {l : List Ty}, MonoL l → ∀ (i : Nat) {v : Value} {W W' : World}, (l.getD i (fun _ _ => True)) v W → Below W.heap.size W W' → (l.getD i (fun _ _ => True)) v W'
  | [], _, _, _, _, _, h, _ => h
  | _ :: _, hm, 0, _, _, _, h, hb => hm.1 _ _ _ h hb
  | _ :: _, hm, i + 1, _, _, _, h, hb => mono_at hm.2 i h hb
theorem mono_is (c : Value) : MonoT (Is c) := fun _ _ _ h _ => h
theorem mono_DocV {k : Int} {nu is : ByteArray} {F : List Fld} {n : Nat} : MonoT (DocV k nu is F n) := fun _ _ _ ⟨A, c, e, h⟩ hb => ⟨A, c, e, h.below hb⟩
theorem mono_NamesV {l : List ByteArray} {n : Nat} : MonoT (NamesV l n) := fun _ _ _ ⟨A, c, e, h⟩ hb => ⟨A, c, e, StrsAt.below h hb⟩
theorem mono_AtomsV {l : List Atm} {n : Nat} : MonoT (AtomsV l n) := fun _ _ _ h hb => own_below h hb
theorem mono_NeedV {k : Int} {l : List Atm} {n : Nat} : MonoT (NeedV k l n) := fun _ _ _ ⟨A, c, e, h⟩ hb => ⟨A, c, e, own_below h hb⟩
theorem OwnN.below {W W' : World} {nds : List Ndd} (h : OwnN W nds) (hb : Below W.heap.size W W') : OwnN W' nds := fun x hx => ⟨(h x hx).1, own_below (h x hx).2 hb⟩
theorem mono_NeedsV {B : Nat} {l : List (Int × List Atm)} : MonoT (NeedsV B l) := fun _ _ _ ⟨nds, h, hO, e⟩ hb => ⟨nds, own_below h hb, hO.below hb, e⟩
theorem needs_one (l : List Ndd) : ∀ u ∈ l.flatMap encN, u.oneCell' = true := by
  intro u hu
  obtain ⟨f, _, hf⟩ := List.mem_flatMap.1 hu
  simp [encN] at hf
  rcases hf with rfl | rfl | rfl | rfl | rfl | rfl | rfl | rfl <;> rfl
/-- Names in a row that was just laid. -/
theorem names_lit {w : World} {g : Nat} {cs : Array Value} (l : List ByteArray) (h : Blk w g 9 cs) (e : cs.toList = l.map Value.string) : StrsAt w (some ⟨g, 0, none⟩) l := by
  intro k x hx
  refine ⟨g, 0, rfl, ?_⟩
  rw [h.cell, Nat.zero_add, ← Array.getElem?_toList, e, List.getElem?_map, hx]; rfl
/-- Rules, a row of needs that was just laid. -/
theorem atoms_lit (W : World) (l : List Atm) (n : Nat) (cs : Array Value) (e : cs.toList = flT l) (hn : n ≤ maxLen) (hs : cs.size = n * 6) : AtomsV l n (.slice (some ⟨W.heap.size, 0, none⟩) n n) (W.alloc (.cells cs 109)) := by
  have h := World.ownsRow_lit (size := 6) W (base := 0) (e := 109) cs n (Nat.zero_le _) hn hs
  rw [e] at h
  exact h
theorem needs_lit {W W' : World} (B : Nat) (nds : List Ndd) (cs : Array Value) (hB : B ≤ W.heap.size) (e : cs.toList = nds.flatMap encN) (hW : W' = W.alloc (.cells cs 111)) (n : Nat) (hl : nds.length = n) (hn : n ≤ maxLen) (hs : cs.size = n * 8) (hO : OwnN W nds) : NeedsV B (nds.map Ndd.pl) (.slice (some ⟨W.heap.size, 0, none⟩) n n) W' := by
  subst hW hl
  have h := World.ownsRow_lit (size := 8) W (base := B) (e := 111) cs nds.length hB hn hs
  rw [e] at h
  exact ⟨nds, h, hO.below ((Below.refl _ W).alloc (Nat.le_refl _) _), rfl⟩
theorem NeedsV.set_ {B : Nat} {l : List (Int × List Atm)} {v u : Value} {W : World} {g o : Nat} {cs : Array Value} (h : NeedsV B l v W) (hg : Blk W g 52 cs) : NeedsV B l v (W.setCell ⟨g, o, none⟩ u) := by
  obtain ⟨nds, ho, hO, e⟩ := h
  exact ⟨nds, own_set ho hg (by decide), fun x hx => ⟨(hO x hx).1, own_set (hO x hx).2 hg (by decide)⟩, e⟩
theorem NeedsV.but {B g : Nat} {l : List (Int × List Atm)} {v : Value} {W W' : World} {cs : Array Value} (h : NeedsV B l v W) (hu : But g W W') (hg : Blk W g 52 cs) : NeedsV B l v W' := by
  obtain ⟨nds, ho, hO, e⟩ := h
  exact ⟨nds, ho.kept hu.grown (.inr (own_blk_ne ho hg (by decide))), fun x hx => ⟨(hO x hx).1, (hO x hx).2.kept hu.grown (.inr (own_blk_ne (hO x hx).2 hg (by decide)))⟩, e⟩
theorem encN_len (x : Ndd) : (encN x).length = 8 := rfl
theorem NeedsV.slice {B : Nat} {l : List (Int × List Atm)} {v : Value} {W : World} (h : NeedsV B l v W) : ∃ A c, v = .slice A l.length c := by
  obtain ⟨nds, ho, _, e⟩ := h
  obtain ⟨A, c, e1⟩ := own_form ho
  exact ⟨A, c, by rw [e1, ← e, List.length_map]⟩
theorem Tryz.info111 : (Tryz.prog.info? 111).map (fun i => (i.zero, i.size, i.bytes)) = some (some (.agg #[.int .i64 0, .int .i64 0, .int .i64 0, .int .i64 0, .string ⟨#[]⟩, .string ⟨#[]⟩, .int .i64 0, .slice none 0 0]), 8, 96) := by kernel_rfl

section
variable {ops : Array Oper} {Q : Exit → Act → World → Prop} {o : Oper} {a : Act} {W : World} {i : Nat} {K : Act → World → Prop}
/-- Needs behind needs. -/
theorem held_needs (hi' : ops[i]? = some o) (hgd : o.guard = none) (s x : Operand) (ho : o.op = .call { callee := .builtin .append, args := #[s, x], argTypes := #[50, 50] })
    (B : Nat) (l l' : List (Int × List Atm)) (v v' : Value) (hs : a.eval s = v) (hx : a.eval x = v') (hv : NeedsV B l v W) (hv' : NeedsV B l' v' W) (hl : l.length + l'.length ≤ 1000) (hB : B ≤ W.heap.size)
    (h : ∀ v2 w2, NeedsV B (l ++ l') v2 w2 → Below B W w2 → (∀ (g : Nat) (t : TypeId) (cs : Array Value), 111 ≠ t → Blk W g t cs → Blk w2 g t cs) → K (a.put o.dst v2) w2) : wpOp Tryz.prog ops Q i K a W := by
  obtain ⟨i0, hi, hz0, hz1, hz2⟩ := info_parts Tryz.info111
  obtain ⟨nds, hown, hO, e⟩ := hv
  obtain ⟨nds', hown', hO', e'⟩ := hv'
  have el : nds.length = l.length := by rw [← e, List.length_map]
  have el' : nds'.length = l'.length := by rw [← e', List.length_map]
  obtain ⟨A, c, ev', _, hr⟩ := RowOf.of_own encN_len hown' rfl
  subst ev'
  refine held_append hi' hgd s x _ ho B 111 i0 _ 8 96 Tryz.underlying50 hi hz0 hz1 hz2 rfl (by decide) v nds.length _ hs hown W.heap.size A nds'.length c (nds'.flatMap encN) hx (hr.reads encN_len (by decide)) (needs_one nds') (by unfold maxLen; omega) (by omega) hB ?_
  intro v2 w2 ho2 hg2 hvb2
  refine h v2 w2 ⟨nds ++ nds', ?_, ?_, by rw [List.map_append, e, e']⟩ ((Below.refl _ W).grown hg2 hB (fun k hk => (hown.lt k hk).1)) (fun g t cs ht hb => hb.grown hg2 (fun e => own_blk_ne hown hb ht e.symm))
  · rw [List.length_append, List.flatMap_append]; exact ho2
  · have key : ∀ y : Ndd, W.ownsRow 0 109 6 (.slice y.A y.n y.c) y.n (flT y.rules) → w2.ownsRow 0 109 6 (.slice y.A y.n y.c) y.n (flT y.rules) := fun y h => h.kept hg2 (own_apart h hown (by decide))
    intro y hy
    rcases List.mem_append.1 hy with h1 | h1
    · exact ⟨(hO y h1).1, key y (hO y h1).2⟩
    · exact ⟨(hO' y h1).1, key y (hO' y h1).2⟩
end
def tyW2 (w : World) (D : Array Value) (n1 : ByteArray) (i1 : ByteArray) (F1 : List Fld) (n2 : ByteArray) (i2 : ByteArray) (F2 : List Fld) (NS1 : List ByteArray) (NS2 : List ByteArray) (AT1 : List Atm) (AT2 : List Atm) (se : ByteArray) (ca : ByteArray) (fr : ByteArray) (tp : ByteArray) (MK : ByteArray) (la : Int) (dA : Option Addr) (dn : Nat) (dc : Nat) : List Ty := [Is (.agg D), (DocV 0 n1 i1 F1 8), (NamesV NS1 6), (AtomsV AT1 6), (NeedV 0 AT1 6), Is (.agg D), (DocV 1 n2 i2 F2 6), (NamesV NS2 2), (AtomsV AT2 2), (NeedV 1 AT2 2), Is (.pointer (some ⟨w.heap.size, 3, none⟩)), Is (.string ca), Is (.agg #[.int .i64 3, .int .i64 0, .string ⟨#[99, 97, 114, 114, 105, 101, 114]⟩, .string ca, .int .i64 0, .slice none 0 0]), Is (.pointer (some ⟨w.heap.size, 1, none⟩)), Is (.string se), Is (.agg #[.int .i64 3, .int .i64 0, .string ⟨#[115, 104, 105, 112, 112, 101, 114]⟩, .string se, .int .i64 0, .slice none 0 0]), Is (.pointer (some ⟨w.heap.size, 7, none⟩)), Is (.string fr), Is (.agg #[.int .i64 3, .int .i64 0, .string ⟨#[102, 114, 111, 109]⟩, .string fr, .int .i64 0, .slice none 0 0]), Is (.pointer (some ⟨w.heap.size, 8, none⟩)), Is (.string tp), Is (.agg #[.int .i64 3, .int .i64 0, .string ⟨#[116, 111]⟩, .string tp, .int .i64 0, .slice none 0 0]), Is (.pointer (some ⟨w.heap.size, 11, none⟩)), Is (.slice dA dn dc), Is (.string MK), Is (.agg #[.int .i64 3, .int .i64 0, .string ⟨#[109, 97, 114, 107, 115]⟩, .string MK, .int .i64 0, .slice none 0 0]), Is (.agg #[.int .i64 3, .int .i64 0, .string ⟨#[99, 108, 101, 97, 110]⟩, .string ⟨#[121, 101, 115]⟩, .int .i64 0, .slice none 0 0]), Is (.pointer (some ⟨w.heap.size, 13, none⟩)), Is (.int .i64 la), Is (.agg #[.int .i64 5, .int .i64 0, .string ⟨#[105, 115, 115, 117, 101, 100]⟩, .string ⟨#[]⟩, .int .i64 la, .slice none 0 0]), (AtomsV [⟨3, ⟨#[99, 97, 114, 114, 105, 101, 114]⟩, ca, 0⟩, ⟨3, ⟨#[115, 104, 105, 112, 112, 101, 114]⟩, se, 0⟩, ⟨3, ⟨#[102, 114, 111, 109]⟩, fr, 0⟩, ⟨3, ⟨#[116, 111]⟩, tp, 0⟩, ⟨3, ⟨#[109, 97, 114, 107, 115]⟩, MK, 0⟩, ⟨3, ⟨#[99, 108, 101, 97, 110]⟩, ⟨#[121, 101, 115]⟩, 0⟩, ⟨5, ⟨#[105, 115, 115, 117, 101, 100]⟩, ⟨#[]⟩, la⟩] 7), (NeedV 2 [⟨3, ⟨#[99, 97, 114, 114, 105, 101, 114]⟩, ca, 0⟩, ⟨3, ⟨#[115, 104, 105, 112, 112, 101, 114]⟩, se, 0⟩, ⟨3, ⟨#[102, 114, 111, 109]⟩, fr, 0⟩, ⟨3, ⟨#[116, 111]⟩, tp, 0⟩, ⟨3, ⟨#[109, 97, 114, 107, 115]⟩, MK, 0⟩, ⟨3, ⟨#[99, 108, 101, 97, 110]⟩, ⟨#[121, 101, 115]⟩, 0⟩, ⟨5, ⟨#[105, 115, 115, 117, 101, 100]⟩, ⟨#[]⟩, la⟩] 7), (NeedsV w.heap.size [(0, AT1), (1, AT2), (2, [⟨3, ⟨#[99, 97, 114, 114, 105, 101, 114]⟩, ca, 0⟩, ⟨3, ⟨#[115, 104, 105, 112, 112, 101, 114]⟩, se, 0⟩, ⟨3, ⟨#[102, 114, 111, 109]⟩, fr, 0⟩, ⟨3, ⟨#[116, 111]⟩, tp, 0⟩, ⟨3, ⟨#[109, 97, 114, 107, 115]⟩, MK, 0⟩, ⟨3, ⟨#[99, 108, 101, 97, 110]⟩, ⟨#[121, 101, 115]⟩, 0⟩, ⟨5, ⟨#[105, 115, 115, 117, 101, 100]⟩, ⟨#[]⟩, la⟩])])]
theorem tyW2_mono (w : World) (D : Array Value) (n1 : ByteArray) (i1 : ByteArray) (F1 : List Fld) (n2 : ByteArray) (i2 : ByteArray) (F2 : List Fld) (NS1 : List ByteArray) (NS2 : List ByteArray) (AT1 : List Atm) (AT2 : List Atm) (se : ByteArray) (ca : ByteArray) (fr : ByteArray) (tp : ByteArray) (MK : ByteArray) (la : Int) (dA : Option Addr) (dn : Nat) (dc : Nat) : MonoL (tyW2 w D n1 i1 F1 n2 i2 F2 NS1 NS2 AT1 AT2 se ca fr tp MK la dA dn dc) := ⟨mono_is _, mono_DocV, mono_NamesV, mono_AtomsV, mono_NeedV, mono_is _, mono_DocV, mono_NamesV, mono_AtomsV, mono_NeedV, mono_is _, mono_is _, mono_is _, mono_is _, mono_is _, mono_is _, mono_is _, mono_is _, mono_is _, mono_is _, mono_is _, mono_is _, mono_is _, mono_is _, mono_is _, mono_is _, mono_is _, mono_is _, mono_is _, mono_is _, mono_AtomsV, mono_NeedV, mono_NeedsV, trivial⟩
def tyW4 (w : World) (w1 : World) (fr : ByteArray) (tp : ByteArray) (cu : ByteArray) (am : Int) (nA : Option Addr) (nn : Nat) (nc : Nat) : List Ty := [Is (.pointer (some ⟨w1.heap.size, 17, none⟩)), Is (.slice nA nn nc), Is (.pointer (some ⟨w.heap.size, 7, none⟩)), Is (.string fr), Is (.agg #[.int .i64 3, .int .i64 0, .string ⟨#[102, 114, 111, 109]⟩, .string fr, .int .i64 0, .slice none 0 0]), Is (.pointer (some ⟨w.heap.size, 8, none⟩)), Is (.string tp), Is (.agg #[.int .i64 3, .int .i64 0, .string ⟨#[116, 111]⟩, .string tp, .int .i64 0, .slice none 0 0]), Is (.pointer (some ⟨w.heap.size, 9, none⟩)), Is (.pointer (some ⟨w.heap.size, 9, none⟩)), Is (.string cu), Is (.agg #[.int .i64 3, .int .i64 0, .string ⟨#[99, 117, 114, 114, 101, 110, 99, 121]⟩, .string cu, .int .i64 0, .slice none 0 0]), Is (.pointer (some ⟨w.heap.size, 9, none⟩)), Is (.pointer (some ⟨w.heap.size, 10, none⟩)), Is (.int .i64 am), Is (.agg #[.int .i64 6, .int .i64 0, .string ⟨#[115, 117, 109]⟩, .string ⟨#[]⟩, .int .i64 am, .slice none 0 0]), (AtomsV [⟨3, ⟨#[102, 114, 111, 109]⟩, fr, 0⟩, ⟨3, ⟨#[116, 111]⟩, tp, 0⟩, ⟨3, ⟨#[99, 117, 114, 114, 101, 110, 99, 121]⟩, cu, 0⟩, ⟨6, ⟨#[115, 117, 109]⟩, ⟨#[]⟩, am⟩] 4), (NeedV 3 [⟨3, ⟨#[102, 114, 111, 109]⟩, fr, 0⟩, ⟨3, ⟨#[116, 111]⟩, tp, 0⟩, ⟨3, ⟨#[99, 117, 114, 114, 101, 110, 99, 121]⟩, cu, 0⟩, ⟨6, ⟨#[115, 117, 109]⟩, ⟨#[]⟩, am⟩] 4), (NeedsV w.heap.size [(3, [⟨3, ⟨#[102, 114, 111, 109]⟩, fr, 0⟩, ⟨3, ⟨#[116, 111]⟩, tp, 0⟩, ⟨3, ⟨#[99, 117, 114, 114, 101, 110, 99, 121]⟩, cu, 0⟩, ⟨6, ⟨#[115, 117, 109]⟩, ⟨#[]⟩, am⟩])])]
theorem tyW4_mono (w : World) (w1 : World) (fr : ByteArray) (tp : ByteArray) (cu : ByteArray) (am : Int) (nA : Option Addr) (nn : Nat) (nc : Nat) : MonoL (tyW4 w w1 fr tp cu am nA nn nc) := ⟨mono_is _, mono_is _, mono_is _, mono_is _, mono_is _, mono_is _, mono_is _, mono_is _, mono_is _, mono_is _, mono_is _, mono_is _, mono_is _, mono_is _, mono_is _, mono_is _, mono_AtomsV, mono_NeedV, mono_NeedsV, trivial⟩
def tyW5 (w : World) (w1 : World) (D : Array Value) (n4 : ByteArray) (i4 : ByteArray) (F4 : List Fld) (NS4 : List ByteArray) (AT4 : List Atm) (fr : ByteArray) (nA : Option Addr) (nn : Nat) (nc : Nat) : List Ty := [Is (.pointer (some ⟨w1.heap.size, 17, none⟩)), Is (.slice nA nn nc), Is (.agg D), Is (.pointer (some ⟨w.heap.size, 7, none⟩)), Is (.string fr), (DocV 4 n4 i4 F4 3), (NamesV NS4 2), (AtomsV AT4 2), (NeedV 4 AT4 2), (NeedsV w.heap.size [(4, AT4)])]
theorem tyW5_mono (w : World) (w1 : World) (D : Array Value) (n4 : ByteArray) (i4 : ByteArray) (F4 : List Fld) (NS4 : List ByteArray) (AT4 : List Atm) (fr : ByteArray) (nA : Option Addr) (nn : Nat) (nc : Nat) : MonoL (tyW5 w w1 D n4 i4 F4 NS4 AT4 fr nA nn nc) := ⟨mono_is _, mono_is _, mono_is _, mono_is _, mono_is _, mono_DocV, mono_NamesV, mono_AtomsV, mono_NeedV, mono_NeedsV, trivial⟩

set_option maxRecDepth 100000 in
set_option maxHeartbeats 12800000 in
theorem wanted_any (d : Dl) (w : World) (hok : Hid (d.ok w)) (he : Env w) : Calls Tryz.prog 26 #[.agg d.cells] w fun e w' => ∃ v, e = .returned (.agg (crC d v)) ∧ NeedsV w.heap.size (needsM d) v w' ∧ Below w.heap.size w w' := by
  have he' := Lib.hid he
  clear he
  obtain ⟨D, hD⟩ : ∃ X, Hid (d.cells = X) := ⟨_, rfl⟩
  rw [hD.out]
  have hDs : Hid (D.size = 17) := by rw [← hD.out]; exact Lib.hid rfl
  obtain ⟨w1, hw1⟩ : ∃ W, Hid ((w.alloc (.cells D 26)).alloc (.cells zeroC 52) = W) := ⟨_, rfl⟩
  have hB1 : Hid (Below w.heap.size w w1) := by rw [← hw1.out]; exact ((Below.refl _ w).alloc (Nat.le_refl _) _).alloc (by simp) _
  have hk1 : Hid (Blk w1 w.heap.size 26 D) := by rw [← hw1.out]; exact Lib.hid ((Blk.new w 26 _).alloc _)
  have hz1 : Hid (Blk w1 (w.heap.size + 1) 52 zeroC) := by rw [← hw1.out]; exact Lib.hid (blk_second w _ _ _)
  have hs1 : Hid (w1.heap.size = w.heap.size + 2) := by rw [← hw1.out]; refine Lib.hid ?_; simp
  obtain ⟨nb, hnb⟩ : ∃ x, Hid (d.number = x) := ⟨_, rfl⟩
  have hD0 : Hid (D[0]? = some (.string nb)) := by rw [← hD.out, ← hnb.out]; exact Lib.hid rfl
  obtain ⟨se, hse⟩ : ∃ x, Hid (d.seller = x) := ⟨_, rfl⟩
  have hD1 : Hid (D[1]? = some (.string se)) := by rw [← hD.out, ← hse.out]; exact Lib.hid rfl
  obtain ⟨bu, hbu⟩ : ∃ x, Hid (d.buyer = x) := ⟨_, rfl⟩
  have hD2 : Hid (D[2]? = some (.string bu)) := by rw [← hD.out, ← hbu.out]; exact Lib.hid rfl
  obtain ⟨ca, hca⟩ : ∃ x, Hid (d.carrier = x) := ⟨_, rfl⟩
  have hD3 : Hid (D[3]? = some (.string ca)) := by rw [← hD.out, ← hca.out]; exact Lib.hid rfl
  obtain ⟨is, his⟩ : ∃ x, Hid (d.issuer = x) := ⟨_, rfl⟩
  have hD4 : Hid (D[4]? = some (.string is)) := by rw [← hD.out, ← his.out]; exact Lib.hid rfl
  obtain ⟨ins, hins⟩ : ∃ x, Hid (d.insurer = x) := ⟨_, rfl⟩
  have hD6 : Hid (D[6]? = some (.string ins)) := by rw [← hD.out, ← hins.out]; exact Lib.hid rfl
  obtain ⟨fr, hfr⟩ : ∃ x, Hid (d.frm = x) := ⟨_, rfl⟩
  have hD7 : Hid (D[7]? = some (.string fr)) := by rw [← hD.out, ← hfr.out]; exact Lib.hid rfl
  obtain ⟨tp, htp⟩ : ∃ x, Hid (d.toP = x) := ⟨_, rfl⟩
  have hD8 : Hid (D[8]? = some (.string tp)) := by rw [← hD.out, ← htp.out]; exact Lib.hid rfl
  obtain ⟨cu, hcu⟩ : ∃ x, Hid (d.currency = x) := ⟨_, rfl⟩
  have hD9 : Hid (D[9]? = some (.string cu)) := by rw [← hD.out, ← hcu.out]; exact Lib.hid rfl
  obtain ⟨am, ham⟩ : ∃ x, Hid (d.amount = x) := ⟨_, rfl⟩
  have hD10 : Hid (D[10]? = some (.int .i64 am)) := by rw [← hD.out, ← ham.out]; exact Lib.hid rfl
  obtain ⟨la, hla⟩ : ∃ x, Hid (d.latest = x) := ⟨_, rfl⟩
  have hD13 : Hid (D[13]? = some (.int .i64 la)) := by rw [← hD.out, ← hla.out]; exact Lib.hid rfl
  obtain ⟨ex, hex⟩ : ∃ x, Hid (d.expiry = x) := ⟨_, rfl⟩
  have hD14 : Hid (D[14]? = some (.int .i64 ex)) := by rw [← hD.out, ← hex.out]; exact Lib.hid rfl
  obtain ⟨te, hte⟩ : ∃ x, Hid (d.tenor = x) := ⟨_, rfl⟩
  have hD15 : Hid (D[15]? = some (.int .i64 te)) := by rw [← hD.out, ← hte.out]; exact Lib.hid rfl
  obtain ⟨dA, hdA⟩ : ∃ x, Hid (d.A = x) := ⟨_, rfl⟩
  obtain ⟨dn, hdn⟩ : ∃ x, Hid (d.boxes.length = x) := ⟨_, rfl⟩
  obtain ⟨dc, hdc⟩ : ∃ x, Hid (d.c = x) := ⟨_, rfl⟩
  have hD11 : Hid (D[11]? = some (.slice dA dn dc)) := by rw [← hD.out, ← hdA.out, ← hdn.out, ← hdc.out]; exact Lib.hid rfl
  obtain ⟨MK, hMK⟩ : ∃ x, Hid (mkB (marksT d.boxes) = x) := ⟨_, rfl⟩
  have hmk : Hid (∀ W, Below w.heap.size w W → Calls Tryz.prog 37 #[.slice dA dn dc] W fun e w' => e = .returned (.string MK) ∧ Below W.heap.size W w') := by
    intro W hW
    have h := marks_any d.A d.boxes.length d.c d.boxes W hok.out.most (Lib.hid rfl) (Lib.hid (BoxesOk.below ⟨hok.out.at_, hok.out.marks⟩ hW))
    rw [hdA.out, hdn.out, hdc.out, hMK.out] at h
    exact h
  obtain ⟨n1, hn1⟩ : ∃ x, Hid (mkB [105, 118, 45] ++ d.number = x) := ⟨_, rfl⟩
  obtain ⟨i1, hi1⟩ : ∃ x, Hid (d.seller = x) := ⟨_, rfl⟩
  obtain ⟨F1, hF1⟩ : ∃ x, Hid (invL d = x) := ⟨_, rfl⟩
  have hl1 : Hid (F1.length = 8) := by rw [← hF1.out]; exact Lib.hid rfl
  have hp1 : Hid (∀ W, Below w.heap.size w W → Calls Tryz.prog 10 #[.agg D] W fun e w' => ∃ A c, e = .returned (.agg #[.int .i64 0, .string n1, .string i1, .slice A 8 c]) ∧ FieldsAt w' A F1 ∧ Below W.heap.size W w') := by
    intro W hW
    have h := invoice_any d W (Lib.hid (hok.out.below hW)) (he'.out.below hW)
    rw [hD.out, hF1.out, hn1.out, hi1.out] at h
    exact h.mono fun e w' hq => pap_fin hl1 hq
  obtain ⟨n2, hn2⟩ : ∃ x, Hid (mkB [112, 107, 45] ++ d.number = x) := ⟨_, rfl⟩
  obtain ⟨i2, hi2⟩ : ∃ x, Hid (d.seller = x) := ⟨_, rfl⟩
  obtain ⟨F2, hF2⟩ : ∃ x, Hid (packL d = x) := ⟨_, rfl⟩
  have hl2 : Hid (F2.length = 6) := by rw [← hF2.out]; exact Lib.hid rfl
  have hp2 : Hid (∀ W, Below w.heap.size w W → Calls Tryz.prog 12 #[.agg D] W fun e w' => ∃ A c, e = .returned (.agg #[.int .i64 1, .string n2, .string i2, .slice A 6 c]) ∧ FieldsAt w' A F2 ∧ Below W.heap.size W w') := by
    intro W hW
    have h := packing_any d W (Lib.hid (hok.out.below hW)) (he'.out.below hW)
    rw [hD.out, hF2.out, hn2.out, hi2.out] at h
    exact h.mono fun e w' hq => pap_fin hl2 hq
  obtain ⟨n4, hn4⟩ : ∃ x, Hid (mkB [111, 114, 45] ++ d.number = x) := ⟨_, rfl⟩
  obtain ⟨i4, hi4⟩ : ∃ x, Hid (d.seller = x) := ⟨_, rfl⟩
  obtain ⟨F4, hF4⟩ : ∃ x, Hid (originL d d.frm = x) := ⟨_, rfl⟩
  have hl4 : Hid (F4.length = 3) := by rw [← hF4.out]; exact Lib.hid rfl
  have hp4 : Hid (∀ W, Below w.heap.size w W → Calls Tryz.prog 17 #[.agg D, .string fr] W fun e w' => ∃ A c, e = .returned (.agg #[.int .i64 4, .string n4, .string i4, .slice A 3 c]) ∧ FieldsAt w' A F4 ∧ Below W.heap.size W w') := by
    intro W hW
    have h := origin_any d d.frm W (Lib.hid (hok.out.below hW)) (he'.out.below hW)
    rw [hD.out, hF4.out, hn4.out, hi4.out, hfr.out] at h
    exact h.mono fun e w' hq => pap_fin hl4 hq
  obtain ⟨NS1, hNS1⟩ : ∃ x, Hid (names0 = x) := ⟨_, rfl⟩
  have hNS1l : Hid (NS1.length = 6) := by rw [← hNS1.out]; exact Lib.hid rfl
  obtain ⟨AT1, hAT1d⟩ : ∃ x, Hid (need0 d = x) := ⟨_, rfl⟩
  have hAT1 : Hid ((NS1.map fun s => (⟨3, s, getV F1 s, 0⟩ : Atm)) = AT1) := by rw [← hAT1d.out, ← hNS1.out, ← hF1.out]; exact Lib.hid (alike0 d)
  have hAT1l : Hid (AT1.length = 6) := by rw [← hAT1d.out]; exact Lib.hid rfl
  obtain ⟨NS2, hNS2⟩ : ∃ x, Hid (names1 = x) := ⟨_, rfl⟩
  have hNS2l : Hid (NS2.length = 2) := by rw [← hNS2.out]; exact Lib.hid rfl
  obtain ⟨AT2, hAT2d⟩ : ∃ x, Hid (need1 d = x) := ⟨_, rfl⟩
  have hAT2 : Hid ((NS2.map fun s => (⟨3, s, getV F2 s, 0⟩ : Atm)) = AT2) := by rw [← hAT2d.out, ← hNS2.out, ← hF2.out]; exact Lib.hid (alike1 d)
  have hAT2l : Hid (AT2.length = 2) := by rw [← hAT2d.out]; exact Lib.hid rfl
  obtain ⟨NS4, hNS4⟩ : ∃ x, Hid (names4 = x) := ⟨_, rfl⟩
  have hNS4l : Hid (NS4.length = 2) := by rw [← hNS4.out]; exact Lib.hid rfl
  obtain ⟨AT4, hAT4d⟩ : ∃ x, Hid (need4 d = x) := ⟨_, rfl⟩
  have hAT4 : Hid ((NS4.map fun s => (⟨3, s, getV F4 s, 0⟩ : Atm)) = AT4) := by rw [← hAT4d.out, ← hNS4.out, ← hF4.out]; exact Lib.hid (alike4 d)
  have hAT4l : Hid (AT4.length = 2) := by rw [← hAT4d.out]; exact Lib.hid rfl
  obtain ⟨CR, hCR⟩ : ∃ F : Value → Array Value, Hid (crC d = F) := ⟨_, rfl⟩
  have hCRs : Hid (∀ v, (CR v).size = 18) := by rw [← hCR.out]; exact Lib.hid fun _ => rfl
  have hCR1 : Hid ((CR (.slice none 0 0)).all (·.oneCell') = true) := by rw [← hCR.out]; unfold Hid; simp [crC, Value.oneCell']
  have hCRset : Hid (∀ v u, (CR v).setIfInBounds 17 u = CR u) := by rw [← hCR.out]; exact Lib.hid fun _ _ => rfl
  have hCR17 : Hid (∀ v, (CR v)[17]? = some v) := by rw [← hCR.out]; exact Lib.hid fun _ => rfl
  go_enter Tryz.func26, Tryz.ntmps26
  go_upto_region 1 with fail
  rw [hw1.out]
  have c0 : w1.cell? ⟨w.heap.size, 0, none⟩ = some (.string nb) := (hk1.out.cell 0).trans hD0.out
  have c1 : w1.cell? ⟨w.heap.size, 1, none⟩ = some (.string se) := (hk1.out.cell 1).trans hD1.out
  have c2 : w1.cell? ⟨w.heap.size, 2, none⟩ = some (.string bu) := (hk1.out.cell 2).trans hD2.out
  have c4 : w1.cell? ⟨w.heap.size, 4, none⟩ = some (.string is) := (hk1.out.cell 4).trans hD4.out
  have c7 : w1.cell? ⟨w.heap.size, 7, none⟩ = some (.string fr) := (hk1.out.cell 7).trans hD7.out
  have c8 : w1.cell? ⟨w.heap.size, 8, none⟩ = some (.string tp) := (hk1.out.cell 8).trans hD8.out
  have c9 : w1.cell? ⟨w.heap.size, 9, none⟩ = some (.string cu) := (hk1.out.cell 9).trans hD9.out
  have c10 : w1.cell? ⟨w.heap.size, 10, none⟩ = some (.int .i64 am) := (hk1.out.cell 10).trans hD10.out
  have c13 : w1.cell? ⟨w.heap.size, 13, none⟩ = some (.int .i64 la) := (hk1.out.cell 13).trans hD13.out
  have c14 : w1.cell? ⟨w.heap.size, 14, none⟩ = some (.int .i64 ex) := (hk1.out.cell 14).trans hD14.out
  have c15 : w1.cell? ⟨w.heap.size, 15, none⟩ = some (.int .i64 te) := (hk1.out.cell 15).trans hD15.out
  have hn2 : Hid (Blk (w1.alloc (.cells zeroC 52)) w1.heap.size 52 zeroC) := Lib.hid (Blk.new _ _ _)
  go_upto_region 2 with (refine wpList_put_blk rfl 52 _ _ rfl w1.heap.size zeroC (CR (.slice none 0 0)) 52 rfl (by rw [← hnb.out, ← hbu.out, ← hse.out, ← his.out, ← hfr.out, ← htp.out, ← hcu.out, ← ham.out, ← hla.out, ← hex.out, ← hte.out, ← hCR.out]; rfl) hn2.out (by rw [hCRs.out]; rfl) (by rw [hCRs.out]; kernel_rfl) hCR1.out ?_; intro w2 hc2 hu2)
  have hg12 : Hid (w.heap.size + 1 < w1.heap.size) := by have := hs1.out; unfold Hid; omega
  have hb12 : Hid (Below w1.heap.size w1 w2) := hu2.to_below ((Below.refl _ w1).alloc (Nat.le_refl _) _) (Nat.le_refl _) (by simp)
  have hB2 : Hid (Below w.heap.size w w2) := hB1.out.trans (hb12.out.mono hB1.out.size)
  have hk2 := Lib.hid (hk1.out.below hb12.out hk1.out.lt)
  have hz2 := Lib.hid (hz1.out.below hb12.out hz1.out.lt)
  have hc2' := Lib.hid hc2
  clear hc2 hu2 hn2 hCR1 c0 c1 c2 c4 c7 c8 c9 c10 c13 c14 c15
  refine wp_region_any (by kernel_rfl) ?_
  refine wpAny_body 96 (List.range 33) [33, 34] 33 [(0, some 25), (1, some 26), (2, some 27), (3, some 28), (4, some 29), (5, some 30), (6, some 31), (7, some 32), (8, some 33), (9, some 34), (10, some 35), (11, some 36), (12, some 37), (13, some 38), (14, some 39), (15, some 40), (16, some 41), (17, some 42), (18, some 43), (19, some 44), (20, some 45), (21, some 46), (22, some 47), (23, some 48), (24, some 49), (25, some 50), (26, some 51), (27, some 52), (28, some 53), (29, some 54), (30, some 55), (31, some 56), (32, some 57)] (Array.replicate 35 false) (Array.replicate 33 true ++ Array.replicate 2 false) (fun a b => Below a.heap.size a b) (fun i => (tyW2 w D n1 i1 F1 n2 i2 F2 NS1 NS2 AT1 AT2 se ca fr tp MK la dA dn dc).getD i (fun _ _ => True)) (by kernel_rfl) rfl rfl (Below.refl _ _) (fun _ _ _ h k => h.trans (k.mono h.size)) (fun i v W W' h hb => mono_at (tyW2_mono w D n1 i1 F1 n2 i2 F2 NS1 NS2 AT1 AT2 se ca fr tp MK la dA dn dc) i h hb) ?step ?fin _ rfl
  case step =>
    refine allB_cons (i := 0) rfl (fun a W hl K hK => ?_) ?_
    · have t1 : a.tmps.getD 1 undef = .pointer (some ⟨w.heap.size, 0, none⟩) := hl.old 1 (by kernel_rfl)
      have hbD : Blk W (w.heap.size) 26 D := hk2.out.drew.below hl.world hk2.out.drew.lt
      exact held_value (v := .agg D) (w' := W) rfl rfl (run_ldb rfl t1 hbD Tryz.underlying26 rfl (by rw [hDs.out]; kernel_rfl)) (hK _ _ (Below.refl _ _) rfl)
    refine allB_cons (i := 1) rfl (fun a W hl K hK => ?_) ?_
    · have t25 : Is (.agg D) (a.tmps.getD 25 undef) W := hl.at_ 0 25 (by kernel_rfl)
      unfold Is at t25
      refine held_call (f := 10) (args := #[.agg D]) (w := W) rfl rfl (by go_simp) ?_
      refine (hp1.out W (hB2.out.drew.trans (hl.world.mono hB2.out.size))).mono ?_
      rintro e w' ⟨A, c, rfl, hF, hb⟩
      exact ⟨_, rfl, hK _ _ hb ⟨A, c, rfl, hF⟩⟩
    refine allB_cons (i := 2) rfl (fun a W hl K hK => ?_) ?_
    · exact held_value (v := .slice (some ⟨W.heap.size, 0, none⟩) 6 6) (w' := W.alloc (.cells #[.string ⟨#[115, 101, 108, 108, 101, 114]⟩, .string ⟨#[98, 117, 121, 101, 114]⟩, .string ⟨#[99, 117, 114, 114, 101, 110, 99, 121]⟩, .string ⟨#[115, 117, 109]⟩, .string ⟨#[102, 114, 111, 109]⟩, .string ⟨#[116, 111]⟩] 9)) rfl rfl (by go_simp) (hK _ _ ((Below.refl _ W).alloc (Nat.le_refl _) _) ⟨_, _, rfl, names_lit _ (Blk.new _ _ _) (by rw [← hNS1.out]; rfl)⟩)
    refine allB_cons (i := 3) rfl (fun a W hl K hK => ?_) ?_
    · have t26 : DocV 0 n1 i1 F1 8 (a.tmps.getD 26 undef) W := hl.at_ 1 26 (by kernel_rfl)
      have t27 : NamesV NS1 6 (a.tmps.getD 27 undef) W := hl.at_ 2 27 (by kernel_rfl)
      obtain ⟨A1, c1, e1, hF⟩ := t26
      obtain ⟨A2, c2, e2, hN⟩ := t27
      refine held_call (f := 61) (args := #[.agg #[.int .i64 0, .string n1, .string i1, .slice A1 8 c1], .slice A2 6 c2]) (w := W) rfl rfl (by go_simp) ?_
      refine (palike_any 0 n1 i1 A1 8 c1 F1 A2 6 c2 NS1 W hl1 (by decide) (Lib.hid hF) hNS1l (by decide) (Lib.hid hN)).mono ?_
      rintro e w' ⟨v, rfl, ho, hb⟩
      refine ⟨_, rfl, hK _ _ hb (show AtomsV AT1 6 _ _ from ?_)⟩
      unfold AtomsV
      rw [← hAT1.out]
      exact own_mono_base ho (Nat.zero_le _)
    refine allB_cons (i := 4) rfl (fun a W hl K hK => ?_) ?_
    · have t28 : AtomsV AT1 6 (a.tmps.getD 28 undef) W := hl.at_ 3 28 (by kernel_rfl)
      unfold AtomsV at t28
      obtain ⟨A, c, e1⟩ := own_form t28
      have h1 := Lib.hid t28
      clear t28
      have e2 := e1
      rw [e1] at h1
      refine held_call (f := 60) (args := #[.int .i64 0, .slice A 6 c]) (w := W) rfl rfl (by go_simp) ?_
      refine (pneed_any 0 A 6 c W).mono ?_
      rintro e w' ⟨rfl, hb⟩
      exact ⟨_, rfl, hK _ _ hb ⟨A, c, rfl, own_below h1.out hb⟩⟩
    refine allB_cons (i := 5) rfl (fun a W hl K hK => ?_) ?_
    · have t1 : a.tmps.getD 1 undef = .pointer (some ⟨w.heap.size, 0, none⟩) := hl.old 1 (by kernel_rfl)
      have hbD : Blk W (w.heap.size) 26 D := hk2.out.drew.below hl.world hk2.out.drew.lt
      exact held_value (v := .agg D) (w' := W) rfl rfl (run_ldb rfl t1 hbD Tryz.underlying26 rfl (by rw [hDs.out]; kernel_rfl)) (hK _ _ (Below.refl _ _) rfl)
    refine allB_cons (i := 6) rfl (fun a W hl K hK => ?_) ?_
    · have t30 : Is (.agg D) (a.tmps.getD 30 undef) W := hl.at_ 5 30 (by kernel_rfl)
      unfold Is at t30
      refine held_call (f := 12) (args := #[.agg D]) (w := W) rfl rfl (by go_simp) ?_
      refine (hp2.out W (hB2.out.drew.trans (hl.world.mono hB2.out.size))).mono ?_
      rintro e w' ⟨A, c, rfl, hF, hb⟩
      exact ⟨_, rfl, hK _ _ hb ⟨A, c, rfl, hF⟩⟩
    refine allB_cons (i := 7) rfl (fun a W hl K hK => ?_) ?_
    · exact held_value (v := .slice (some ⟨W.heap.size, 0, none⟩) 2 2) (w' := W.alloc (.cells #[.string ⟨#[98, 111, 120, 101, 115]⟩, .string ⟨#[109, 97, 114, 107, 115]⟩] 9)) rfl rfl (by go_simp) (hK _ _ ((Below.refl _ W).alloc (Nat.le_refl _) _) ⟨_, _, rfl, names_lit _ (Blk.new _ _ _) (by rw [← hNS2.out]; rfl)⟩)
    refine allB_cons (i := 8) rfl (fun a W hl K hK => ?_) ?_
    · have t31 : DocV 1 n2 i2 F2 6 (a.tmps.getD 31 undef) W := hl.at_ 6 31 (by kernel_rfl)
      have t32 : NamesV NS2 2 (a.tmps.getD 32 undef) W := hl.at_ 7 32 (by kernel_rfl)
      obtain ⟨A1, c1, e1, hF⟩ := t31
      obtain ⟨A2, c2, e2, hN⟩ := t32
      refine held_call (f := 61) (args := #[.agg #[.int .i64 1, .string n2, .string i2, .slice A1 6 c1], .slice A2 2 c2]) (w := W) rfl rfl (by go_simp) ?_
      refine (palike_any 1 n2 i2 A1 6 c1 F2 A2 2 c2 NS2 W hl2 (by decide) (Lib.hid hF) hNS2l (by decide) (Lib.hid hN)).mono ?_
      rintro e w' ⟨v, rfl, ho, hb⟩
      refine ⟨_, rfl, hK _ _ hb (show AtomsV AT2 2 _ _ from ?_)⟩
      unfold AtomsV
      rw [← hAT2.out]
      exact own_mono_base ho (Nat.zero_le _)
    refine allB_cons (i := 9) rfl (fun a W hl K hK => ?_) ?_
    · have t33 : AtomsV AT2 2 (a.tmps.getD 33 undef) W := hl.at_ 8 33 (by kernel_rfl)
      unfold AtomsV at t33
      obtain ⟨A, c, e1⟩ := own_form t33
      have h1 := Lib.hid t33
      clear t33
      have e2 := e1
      rw [e1] at h1
      refine held_call (f := 60) (args := #[.int .i64 1, .slice A 2 c]) (w := W) rfl rfl (by go_simp) ?_
      refine (pneed_any 1 A 2 c W).mono ?_
      rintro e w' ⟨rfl, hb⟩
      exact ⟨_, rfl, hK _ _ hb ⟨A, c, rfl, own_below h1.out hb⟩⟩
    refine allB_cons (i := 10) rfl (fun a W hl K hK => ?_) ?_
    · have t1 : a.tmps.getD 1 undef = .pointer (some ⟨w.heap.size, 0, none⟩) := hl.old 1 (by kernel_rfl)
      exact held_value (v := .pointer (some ⟨w.heap.size, 3, none⟩)) (w' := W) rfl rfl (by go_simp) (hK _ _ (Below.refl _ _) rfl)
    refine allB_cons (i := 11) rfl (fun a W hl K hK => ?_) ?_
    · have t35 : Is (.pointer (some ⟨w.heap.size, 3, none⟩)) (a.tmps.getD 35 undef) W := hl.at_ 10 35 (by kernel_rfl)
      unfold Is at t35
      have hbD : Blk W (w.heap.size) 26 D := hk2.out.drew.below hl.world hk2.out.drew.lt
      have cc : W.cell? ⟨w.heap.size, 3, none⟩ = some (.string ca) := (hbD.cell 3).trans hD3.out
      exact held_value (v := .string ca) (w' := W) rfl rfl (by go_simp) (hK _ _ (Below.refl _ _) rfl)
    refine allB_cons (i := 12) rfl (fun a W hl K hK => ?_) ?_
    · have t36 : Is (.string ca) (a.tmps.getD 36 undef) W := hl.at_ 11 36 (by kernel_rfl)
      unfold Is at t36
      refine held_call (f := 62) (args := #[.string ⟨#[99, 97, 114, 114, 105, 101, 114]⟩, .string ca]) (w := W) rfl rfl (by go_simp) ?_
      refine (pis_any ⟨#[99, 97, 114, 114, 105, 101, 114]⟩ ca W).mono ?_
      rintro e w' ⟨rfl, hb⟩
      exact ⟨_, rfl, hK _ _ hb rfl⟩
    refine allB_cons (i := 13) rfl (fun a W hl K hK => ?_) ?_
    · have t1 : a.tmps.getD 1 undef = .pointer (some ⟨w.heap.size, 0, none⟩) := hl.old 1 (by kernel_rfl)
      exact held_value (v := .pointer (some ⟨w.heap.size, 1, none⟩)) (w' := W) rfl rfl (by go_simp) (hK _ _ (Below.refl _ _) rfl)
    refine allB_cons (i := 14) rfl (fun a W hl K hK => ?_) ?_
    · have t38 : Is (.pointer (some ⟨w.heap.size, 1, none⟩)) (a.tmps.getD 38 undef) W := hl.at_ 13 38 (by kernel_rfl)
      unfold Is at t38
      have hbD : Blk W (w.heap.size) 26 D := hk2.out.drew.below hl.world hk2.out.drew.lt
      have cc : W.cell? ⟨w.heap.size, 1, none⟩ = some (.string se) := (hbD.cell 1).trans hD1.out
      exact held_value (v := .string se) (w' := W) rfl rfl (by go_simp) (hK _ _ (Below.refl _ _) rfl)
    refine allB_cons (i := 15) rfl (fun a W hl K hK => ?_) ?_
    · have t39 : Is (.string se) (a.tmps.getD 39 undef) W := hl.at_ 14 39 (by kernel_rfl)
      unfold Is at t39
      refine held_call (f := 62) (args := #[.string ⟨#[115, 104, 105, 112, 112, 101, 114]⟩, .string se]) (w := W) rfl rfl (by go_simp) ?_
      refine (pis_any ⟨#[115, 104, 105, 112, 112, 101, 114]⟩ se W).mono ?_
      rintro e w' ⟨rfl, hb⟩
      exact ⟨_, rfl, hK _ _ hb rfl⟩
    refine allB_cons (i := 16) rfl (fun a W hl K hK => ?_) ?_
    · have t1 : a.tmps.getD 1 undef = .pointer (some ⟨w.heap.size, 0, none⟩) := hl.old 1 (by kernel_rfl)
      exact held_value (v := .pointer (some ⟨w.heap.size, 7, none⟩)) (w' := W) rfl rfl (by go_simp) (hK _ _ (Below.refl _ _) rfl)
    refine allB_cons (i := 17) rfl (fun a W hl K hK => ?_) ?_
    · have t41 : Is (.pointer (some ⟨w.heap.size, 7, none⟩)) (a.tmps.getD 41 undef) W := hl.at_ 16 41 (by kernel_rfl)
      unfold Is at t41
      have hbD : Blk W (w.heap.size) 26 D := hk2.out.drew.below hl.world hk2.out.drew.lt
      have cc : W.cell? ⟨w.heap.size, 7, none⟩ = some (.string fr) := (hbD.cell 7).trans hD7.out
      exact held_value (v := .string fr) (w' := W) rfl rfl (by go_simp) (hK _ _ (Below.refl _ _) rfl)
    refine allB_cons (i := 18) rfl (fun a W hl K hK => ?_) ?_
    · have t42 : Is (.string fr) (a.tmps.getD 42 undef) W := hl.at_ 17 42 (by kernel_rfl)
      unfold Is at t42
      refine held_call (f := 62) (args := #[.string ⟨#[102, 114, 111, 109]⟩, .string fr]) (w := W) rfl rfl (by go_simp) ?_
      refine (pis_any ⟨#[102, 114, 111, 109]⟩ fr W).mono ?_
      rintro e w' ⟨rfl, hb⟩
      exact ⟨_, rfl, hK _ _ hb rfl⟩
    refine allB_cons (i := 19) rfl (fun a W hl K hK => ?_) ?_
    · have t1 : a.tmps.getD 1 undef = .pointer (some ⟨w.heap.size, 0, none⟩) := hl.old 1 (by kernel_rfl)
      exact held_value (v := .pointer (some ⟨w.heap.size, 8, none⟩)) (w' := W) rfl rfl (by go_simp) (hK _ _ (Below.refl _ _) rfl)
    refine allB_cons (i := 20) rfl (fun a W hl K hK => ?_) ?_
    · have t44 : Is (.pointer (some ⟨w.heap.size, 8, none⟩)) (a.tmps.getD 44 undef) W := hl.at_ 19 44 (by kernel_rfl)
      unfold Is at t44
      have hbD : Blk W (w.heap.size) 26 D := hk2.out.drew.below hl.world hk2.out.drew.lt
      have cc : W.cell? ⟨w.heap.size, 8, none⟩ = some (.string tp) := (hbD.cell 8).trans hD8.out
      exact held_value (v := .string tp) (w' := W) rfl rfl (by go_simp) (hK _ _ (Below.refl _ _) rfl)
    refine allB_cons (i := 21) rfl (fun a W hl K hK => ?_) ?_
    · have t45 : Is (.string tp) (a.tmps.getD 45 undef) W := hl.at_ 20 45 (by kernel_rfl)
      unfold Is at t45
      refine held_call (f := 62) (args := #[.string ⟨#[116, 111]⟩, .string tp]) (w := W) rfl rfl (by go_simp) ?_
      refine (pis_any ⟨#[116, 111]⟩ tp W).mono ?_
      rintro e w' ⟨rfl, hb⟩
      exact ⟨_, rfl, hK _ _ hb rfl⟩
    refine allB_cons (i := 22) rfl (fun a W hl K hK => ?_) ?_
    · have t1 : a.tmps.getD 1 undef = .pointer (some ⟨w.heap.size, 0, none⟩) := hl.old 1 (by kernel_rfl)
      exact held_value (v := .pointer (some ⟨w.heap.size, 11, none⟩)) (w' := W) rfl rfl (by go_simp) (hK _ _ (Below.refl _ _) rfl)
    refine allB_cons (i := 23) rfl (fun a W hl K hK => ?_) ?_
    · have t47 : Is (.pointer (some ⟨w.heap.size, 11, none⟩)) (a.tmps.getD 47 undef) W := hl.at_ 22 47 (by kernel_rfl)
      unfold Is at t47
      have hbD : Blk W (w.heap.size) 26 D := hk2.out.drew.below hl.world hk2.out.drew.lt
      have cc : W.cell? ⟨w.heap.size, 11, none⟩ = some (.slice dA dn dc) := (hbD.cell 11).trans hD11.out
      exact held_value (v := .slice dA dn dc) (w' := W) rfl rfl (by go_simp) (hK _ _ (Below.refl _ _) rfl)
    refine allB_cons (i := 24) rfl (fun a W hl K hK => ?_) ?_
    · have t48 : Is (.slice dA dn dc) (a.tmps.getD 48 undef) W := hl.at_ 23 48 (by kernel_rfl)
      unfold Is at t48
      refine held_call (f := 37) (args := #[.slice dA dn dc]) (w := W) rfl rfl (by go_simp) ?_
      refine (hmk.out W (hB2.out.drew.trans (hl.world.mono hB2.out.size))).mono ?_
      rintro e w' ⟨rfl, hb⟩
      exact ⟨_, rfl, hK _ _ hb rfl⟩
    refine allB_cons (i := 25) rfl (fun a W hl K hK => ?_) ?_
    · have t49 : Is (.string MK) (a.tmps.getD 49 undef) W := hl.at_ 24 49 (by kernel_rfl)
      unfold Is at t49
      refine held_call (f := 62) (args := #[.string ⟨#[109, 97, 114, 107, 115]⟩, .string MK]) (w := W) rfl rfl (by go_simp) ?_
      refine (pis_any ⟨#[109, 97, 114, 107, 115]⟩ MK W).mono ?_
      rintro e w' ⟨rfl, hb⟩
      exact ⟨_, rfl, hK _ _ hb rfl⟩
    refine allB_cons (i := 26) rfl (fun a W hl K hK => ?_) ?_
    · refine held_call (f := 62) (args := #[.string ⟨#[99, 108, 101, 97, 110]⟩, .string ⟨#[121, 101, 115]⟩]) (w := W) rfl rfl (by go_simp) ?_
      refine (pis_any ⟨#[99, 108, 101, 97, 110]⟩ ⟨#[121, 101, 115]⟩ W).mono ?_
      rintro e w' ⟨rfl, hb⟩
      exact ⟨_, rfl, hK _ _ hb rfl⟩
    refine allB_cons (i := 27) rfl (fun a W hl K hK => ?_) ?_
    · have t1 : a.tmps.getD 1 undef = .pointer (some ⟨w.heap.size, 0, none⟩) := hl.old 1 (by kernel_rfl)
      exact held_value (v := .pointer (some ⟨w.heap.size, 13, none⟩)) (w' := W) rfl rfl (by go_simp) (hK _ _ (Below.refl _ _) rfl)
    refine allB_cons (i := 28) rfl (fun a W hl K hK => ?_) ?_
    · have t52 : Is (.pointer (some ⟨w.heap.size, 13, none⟩)) (a.tmps.getD 52 undef) W := hl.at_ 27 52 (by kernel_rfl)
      unfold Is at t52
      have hbD : Blk W (w.heap.size) 26 D := hk2.out.drew.below hl.world hk2.out.drew.lt
      have cc : W.cell? ⟨w.heap.size, 13, none⟩ = some (.int .i64 la) := (hbD.cell 13).trans hD13.out
      exact held_value (v := .int .i64 la) (w' := W) rfl rfl (by go_simp) (hK _ _ (Below.refl _ _) rfl)
    refine allB_cons (i := 29) rfl (fun a W hl K hK => ?_) ?_
    · have t53 : Is (.int .i64 la) (a.tmps.getD 53 undef) W := hl.at_ 28 53 (by kernel_rfl)
      unfold Is at t53
      simp only [Array.getD_eq_getD_getElem?] at t53
      exact held_value (v := .agg #[.int .i64 5, .int .i64 0, .string ⟨#[105, 115, 115, 117, 101, 100]⟩, .string ⟨#[]⟩, .int .i64 la, .slice none 0 0]) (w' := W) rfl rfl (by go_simp) (hK _ _ (Below.refl _ _) rfl)
    refine allB_cons (i := 30) rfl (fun a W hl K hK => ?_) ?_
    · have t37 : Is (.agg #[.int .i64 3, .int .i64 0, .string ⟨#[99, 97, 114, 114, 105, 101, 114]⟩, .string ca, .int .i64 0, .slice none 0 0]) (a.tmps.getD 37 undef) W := hl.at_ 12 37 (by kernel_rfl)
      unfold Is at t37
      have t40 : Is (.agg #[.int .i64 3, .int .i64 0, .string ⟨#[115, 104, 105, 112, 112, 101, 114]⟩, .string se, .int .i64 0, .slice none 0 0]) (a.tmps.getD 40 undef) W := hl.at_ 15 40 (by kernel_rfl)
      unfold Is at t40
      have t43 : Is (.agg #[.int .i64 3, .int .i64 0, .string ⟨#[102, 114, 111, 109]⟩, .string fr, .int .i64 0, .slice none 0 0]) (a.tmps.getD 43 undef) W := hl.at_ 18 43 (by kernel_rfl)
      unfold Is at t43
      have t46 : Is (.agg #[.int .i64 3, .int .i64 0, .string ⟨#[116, 111]⟩, .string tp, .int .i64 0, .slice none 0 0]) (a.tmps.getD 46 undef) W := hl.at_ 21 46 (by kernel_rfl)
      unfold Is at t46
      have t50 : Is (.agg #[.int .i64 3, .int .i64 0, .string ⟨#[109, 97, 114, 107, 115]⟩, .string MK, .int .i64 0, .slice none 0 0]) (a.tmps.getD 50 undef) W := hl.at_ 25 50 (by kernel_rfl)
      unfold Is at t50
      have t51 : Is (.agg #[.int .i64 3, .int .i64 0, .string ⟨#[99, 108, 101, 97, 110]⟩, .string ⟨#[121, 101, 115]⟩, .int .i64 0, .slice none 0 0]) (a.tmps.getD 51 undef) W := hl.at_ 26 51 (by kernel_rfl)
      unfold Is at t51
      have t54 : Is (.agg #[.int .i64 5, .int .i64 0, .string ⟨#[105, 115, 115, 117, 101, 100]⟩, .string ⟨#[]⟩, .int .i64 la, .slice none 0 0]) (a.tmps.getD 54 undef) W := hl.at_ 29 54 (by kernel_rfl)
      unfold Is at t54
      simp only [Array.getD_eq_getD_getElem?] at t37 t40 t43 t46 t50 t51 t54
      exact held_value (v := .slice (some ⟨W.heap.size, 0, none⟩) 7 7) (w' := W.alloc (.cells #[.int .i64 3, .int .i64 0, .string ⟨#[99, 97, 114, 114, 105, 101, 114]⟩, .string ca, .int .i64 0, .slice none 0 0, .int .i64 3, .int .i64 0, .string ⟨#[115, 104, 105, 112, 112, 101, 114]⟩, .string se, .int .i64 0, .slice none 0 0, .int .i64 3, .int .i64 0, .string ⟨#[102, 114, 111, 109]⟩, .string fr, .int .i64 0, .slice none 0 0, .int .i64 3, .int .i64 0, .string ⟨#[116, 111]⟩, .string tp, .int .i64 0, .slice none 0 0, .int .i64 3, .int .i64 0, .string ⟨#[109, 97, 114, 107, 115]⟩, .string MK, .int .i64 0, .slice none 0 0, .int .i64 3, .int .i64 0, .string ⟨#[99, 108, 101, 97, 110]⟩, .string ⟨#[121, 101, 115]⟩, .int .i64 0, .slice none 0 0, .int .i64 5, .int .i64 0, .string ⟨#[105, 115, 115, 117, 101, 100]⟩, .string ⟨#[]⟩, .int .i64 la, .slice none 0 0] 109)) rfl rfl (by go_simp) (hK _ _ ((Below.refl _ W).alloc (Nat.le_refl _) _) (atoms_lit W [⟨3, ⟨#[99, 97, 114, 114, 105, 101, 114]⟩, ca, 0⟩, ⟨3, ⟨#[115, 104, 105, 112, 112, 101, 114]⟩, se, 0⟩, ⟨3, ⟨#[102, 114, 111, 109]⟩, fr, 0⟩, ⟨3, ⟨#[116, 111]⟩, tp, 0⟩, ⟨3, ⟨#[109, 97, 114, 107, 115]⟩, MK, 0⟩, ⟨3, ⟨#[99, 108, 101, 97, 110]⟩, ⟨#[121, 101, 115]⟩, 0⟩, ⟨5, ⟨#[105, 115, 115, 117, 101, 100]⟩, ⟨#[]⟩, la⟩] 7 _ rfl (by decide) rfl))
    refine allB_cons (i := 31) rfl (fun a W hl K hK => ?_) ?_
    · have t55 : AtomsV [⟨3, ⟨#[99, 97, 114, 114, 105, 101, 114]⟩, ca, 0⟩, ⟨3, ⟨#[115, 104, 105, 112, 112, 101, 114]⟩, se, 0⟩, ⟨3, ⟨#[102, 114, 111, 109]⟩, fr, 0⟩, ⟨3, ⟨#[116, 111]⟩, tp, 0⟩, ⟨3, ⟨#[109, 97, 114, 107, 115]⟩, MK, 0⟩, ⟨3, ⟨#[99, 108, 101, 97, 110]⟩, ⟨#[121, 101, 115]⟩, 0⟩, ⟨5, ⟨#[105, 115, 115, 117, 101, 100]⟩, ⟨#[]⟩, la⟩] 7 (a.tmps.getD 55 undef) W := hl.at_ 30 55 (by kernel_rfl)
      unfold AtomsV at t55
      obtain ⟨A, c, e1⟩ := own_form t55
      have h1 := Lib.hid t55
      clear t55
      have e2 := e1
      rw [e1] at h1
      refine held_call (f := 60) (args := #[.int .i64 2, .slice A 7 c]) (w := W) rfl rfl (by go_simp) ?_
      refine (pneed_any 2 A 7 c W).mono ?_
      rintro e w' ⟨rfl, hb⟩
      exact ⟨_, rfl, hK _ _ hb ⟨A, c, rfl, own_below h1.out hb⟩⟩
    refine allB_cons (i := 32) rfl (fun a W hl K hK => ?_) ?_
    · have t29 : NeedV 0 AT1 6 (a.tmps.getD 29 undef) W := hl.at_ 4 29 (by kernel_rfl)
      have t34 : NeedV 1 AT2 2 (a.tmps.getD 34 undef) W := hl.at_ 9 34 (by kernel_rfl)
      have t56 : NeedV 2 [⟨3, ⟨#[99, 97, 114, 114, 105, 101, 114]⟩, ca, 0⟩, ⟨3, ⟨#[115, 104, 105, 112, 112, 101, 114]⟩, se, 0⟩, ⟨3, ⟨#[102, 114, 111, 109]⟩, fr, 0⟩, ⟨3, ⟨#[116, 111]⟩, tp, 0⟩, ⟨3, ⟨#[109, 97, 114, 107, 115]⟩, MK, 0⟩, ⟨3, ⟨#[99, 108, 101, 97, 110]⟩, ⟨#[121, 101, 115]⟩, 0⟩, ⟨5, ⟨#[105, 115, 115, 117, 101, 100]⟩, ⟨#[]⟩, la⟩] 7 (a.tmps.getD 56 undef) W := hl.at_ 31 56 (by kernel_rfl)
      obtain ⟨A29, c29, e29, h29⟩ := t29
      have h29' := Lib.hid h29
      clear h29
      obtain ⟨A34, c34, e34, h34⟩ := t34
      have h34' := Lib.hid h34
      clear h34
      obtain ⟨A56, c56, e56, h56⟩ := t56
      have h56' := Lib.hid h56
      clear h56
      simp only [Array.getD_eq_getD_getElem?] at e29 e34 e56
      refine held_value (v := .slice (some ⟨W.heap.size, 0, none⟩) 3 3) (w' := W.alloc (.cells #[.int .i64 0, .int .i64 1, .int .i64 0, .int .i64 0, .string ⟨#[]⟩, .string ⟨#[]⟩, .int .i64 0, .slice A29 6 c29, .int .i64 1, .int .i64 1, .int .i64 0, .int .i64 0, .string ⟨#[]⟩, .string ⟨#[]⟩, .int .i64 0, .slice A34 2 c34, .int .i64 2, .int .i64 1, .int .i64 0, .int .i64 0, .string ⟨#[]⟩, .string ⟨#[]⟩, .int .i64 0, .slice A56 7 c56] 111)) rfl rfl (by go_simp) (hK _ _ ((Below.refl _ W).alloc (Nat.le_refl _) _) (needs_lit w.heap.size [⟨0, A29, 6, c29, AT1⟩, ⟨1, A34, 2, c34, AT2⟩, ⟨2, A56, 7, c56, [⟨3, ⟨#[99, 97, 114, 114, 105, 101, 114]⟩, ca, 0⟩, ⟨3, ⟨#[115, 104, 105, 112, 112, 101, 114]⟩, se, 0⟩, ⟨3, ⟨#[102, 114, 111, 109]⟩, fr, 0⟩, ⟨3, ⟨#[116, 111]⟩, tp, 0⟩, ⟨3, ⟨#[109, 97, 114, 107, 115]⟩, MK, 0⟩, ⟨3, ⟨#[99, 108, 101, 97, 110]⟩, ⟨#[121, 101, 115]⟩, 0⟩, ⟨5, ⟨#[105, 115, 115, 117, 101, 100]⟩, ⟨#[]⟩, la⟩]⟩] _ (Nat.le_trans hB2.out.size hl.world.size) rfl rfl 3 rfl (by decide) rfl ?_))
      intro x hx
      simp only [List.mem_cons, List.not_mem_nil, or_false] at hx
      rcases hx with rfl | rfl | rfl
      · exact ⟨hAT1l.out, h29'.out⟩
      · exact ⟨hAT2l.out, h34'.out⟩
      · exact ⟨(Lib.hid rfl).out, h56'.out⟩
    exact allB_nil
  case fin =>
    intro vs W hR hG
    have hN : NeedsV w.heap.size [(0, AT1), (1, AT2), (2, need2 ca se fr tp MK la)] (vs 32) W := hG 32 (by decide)
    obtain ⟨nA, nc, e32⟩ := hN.slice
    rw [e32] at hN
    have e32' : vs 32 = .slice nA 3 nc := e32
    have hN' := Lib.hid hN
    have hBW : Hid (Below w2.heap.size w2 W) := (Below.refl _ _).drew.trans hR
    have hkW := Lib.hid (hk2.out.below hBW.out hk2.out.lt)
    have hcW := Lib.hid (hc2'.out.below hBW.out hc2'.out.lt)
    have hzW := Lib.hid (hz2.out.below hBW.out hz2.out.lt)
    have x17 : W.cell? ⟨w1.heap.size, 17, none⟩ = some (.slice none 0 0) := (hcW.out.cell 17).trans (hCR17.out _)
    have xf := hcW.out.frozen
    have xl : w1.heap.size < W.heap.size := hcW.out.lt
    clear hG hN hR e32
    simp only [putD, Act.put, List.setIfInBounds_toArray, List.set_cons_zero, List.set_cons_succ, e32']
    refine wpAny_next 33 (by kernel_rfl) ?_
    refine held_value (v := .pointer (some ⟨w1.heap.size, 17, none⟩)) (w' := W) rfl rfl (by go_simp) ?_
    simp only [Act.put, List.getElem_toArray, List.getElem_cons_zero, List.getElem_cons_succ, List.setIfInBounds_toArray, List.set_cons_zero, List.set_cons_succ]
    refine wpAny_next 34 (by kernel_rfl) ?_
    refine held_skip (w' := W.setCell ⟨w1.heap.size, 17, none⟩ (.slice nA 3 nc)) rfl rfl (by go_simp) ?_
    refine wpAny_end (by kernel_rfl) ?_
    simp only [Act.put, List.getElem_toArray, List.getElem_cons_zero, List.getElem_cons_succ]
    have hc3 : Hid (Blk (W.setCell ⟨w1.heap.size, 17, none⟩ (.slice nA 3 nc)) w1.heap.size 52 (CR (.slice nA 3 nc))) := by rw [← hCRset.out (.slice none 0 0)]; exact hcW.out.set_ 17 (.slice nA 3 nc)
    have hne : Hid (w.heap.size ≠ w1.heap.size ∧ w.heap.size + 1 ≠ w1.heap.size) := by have := hg12.out; unfold Hid; omega
    have hk3 := Lib.hid (hkW.out.far (p := ⟨w1.heap.size, 17, none⟩) hne.out.1 (.slice nA 3 nc))
    have hz3 := Lib.hid (hzW.out.far (p := ⟨w1.heap.size, 17, none⟩) hne.out.2 (.slice nA 3 nc))
    have hN3 := Lib.hid (hN'.out.set_ hcW.out (o := 17) (u := .slice nA 3 nc))
    have hB3 : Hid (Below w.heap.size w (W.setCell ⟨w1.heap.size, 17, none⟩ (.slice nA 3 nc))) := (hB2.out.trans (hBW.out.mono hB2.out.size)).setCell (p := ⟨w1.heap.size, 17, none⟩) (by have := hg12.out; show w.heap.size ≤ w1.heap.size; omega) _
    obtain ⟨w3, hw3⟩ : ∃ X, Hid (W.setCell ⟨w1.heap.size, 17, none⟩ (.slice nA 3 nc) = X) := ⟨_, rfl⟩
    rw [hw3.out] at hc3 hk3 hz3 hN3 hB3 ⊢
    clear hw3 x17 xf xl hBW hkW hcW hzW hN' e32'
    have i6 : w3.cell? ⟨w.heap.size, 6, none⟩ = some (.string ins) := (hk3.out.cell 6).trans hD6.out
    by_cases hin : ins.toList = []
    · have hi2 : ins.toList.isEmpty = true := by rw [hin]; rfl
      have hneeds : Hid (needsM d = [(0, AT1), (1, AT2), (2, need2 ca se fr tp MK la)] ++ [(4, AT4)]) := by unfold Hid; rw [needsM, hins.out, if_pos hin, hAT1d.out, hAT2d.out, hAT4d.out, hca.out, hse.out, hfr.out, htp.out, hMK.out, hla.out]; rfl
      go_wp2_with fail
      refine wp_region_any (by kernel_rfl) ?_
      refine wpAny_body 96 (List.range 10) [10, 11, 12] 10 [(0, some 83), (1, some 84), (2, some 85), (3, some 86), (4, some 87), (5, some 88), (6, some 89), (7, some 90), (8, some 91), (9, some 92)] (Array.replicate 13 false) (Array.replicate 10 true ++ Array.replicate 3 false) (fun a b => Below a.heap.size a b) (fun i => (tyW5 w w1 D n4 i4 F4 NS4 AT4 fr nA 3 nc).getD i (fun _ _ => True)) (by kernel_rfl) rfl rfl (Below.refl _ _) (fun _ _ _ h k => h.trans (k.mono h.size)) (fun i v W W' h hb => mono_at (tyW5_mono w w1 D n4 i4 F4 NS4 AT4 fr nA 3 nc) i h hb) ?step ?fin _ rfl
      case step =>
        refine allB_cons (i := 0) rfl (fun a W hl K hK => ?_) ?_
        · have t3 : a.tmps.getD 3 undef = .pointer (some ⟨w1.heap.size, 0, none⟩) := hl.old 3 (by kernel_rfl)
          exact held_value (v := .pointer (some ⟨w1.heap.size, 17, none⟩)) (w' := W) rfl rfl (by go_simp) (hK _ _ (Below.refl _ _) rfl)
        refine allB_cons (i := 1) rfl (fun a W hl K hK => ?_) ?_
        · have t83 : Is (.pointer (some ⟨w1.heap.size, 17, none⟩)) (a.tmps.getD 83 undef) W := hl.at_ 0 83 (by kernel_rfl)
          unfold Is at t83
          have hbC : Blk W (w1.heap.size) 52 (CR (.slice nA 3 nc)) := hc3.out.drew.below hl.world hc3.out.drew.lt
          have cc : W.cell? ⟨w1.heap.size, 17, none⟩ = some (.slice nA 3 nc) := (hbC.cell 17).trans (hCR17.out _)
          exact held_value (v := .slice nA 3 nc) (w' := W) rfl rfl (by go_simp) (hK _ _ (Below.refl _ _) rfl)
        refine allB_cons (i := 2) rfl (fun a W hl K hK => ?_) ?_
        · have t1 : a.tmps.getD 1 undef = .pointer (some ⟨w.heap.size, 0, none⟩) := hl.old 1 (by kernel_rfl)
          have hbD : Blk W (w.heap.size) 26 D := hk3.out.drew.below hl.world hk3.out.drew.lt
          exact held_value (v := .agg D) (w' := W) rfl rfl (run_ldb rfl t1 hbD Tryz.underlying26 rfl (by rw [hDs.out]; kernel_rfl)) (hK _ _ (Below.refl _ _) rfl)
        refine allB_cons (i := 3) rfl (fun a W hl K hK => ?_) ?_
        · have t1 : a.tmps.getD 1 undef = .pointer (some ⟨w.heap.size, 0, none⟩) := hl.old 1 (by kernel_rfl)
          exact held_value (v := .pointer (some ⟨w.heap.size, 7, none⟩)) (w' := W) rfl rfl (by go_simp) (hK _ _ (Below.refl _ _) rfl)
        refine allB_cons (i := 4) rfl (fun a W hl K hK => ?_) ?_
        · have t86 : Is (.pointer (some ⟨w.heap.size, 7, none⟩)) (a.tmps.getD 86 undef) W := hl.at_ 3 86 (by kernel_rfl)
          unfold Is at t86
          have hbD : Blk W (w.heap.size) 26 D := hk3.out.drew.below hl.world hk3.out.drew.lt
          have cc : W.cell? ⟨w.heap.size, 7, none⟩ = some (.string fr) := (hbD.cell 7).trans hD7.out
          exact held_value (v := .string fr) (w' := W) rfl rfl (by go_simp) (hK _ _ (Below.refl _ _) rfl)
        refine allB_cons (i := 5) rfl (fun a W hl K hK => ?_) ?_
        · have t85 : Is (.agg D) (a.tmps.getD 85 undef) W := hl.at_ 2 85 (by kernel_rfl)
          unfold Is at t85
          have t87 : Is (.string fr) (a.tmps.getD 87 undef) W := hl.at_ 4 87 (by kernel_rfl)
          unfold Is at t87
          refine held_call (f := 17) (args := #[.agg D, .string fr]) (w := W) rfl rfl (by go_simp) ?_
          refine (hp4.out W (hB3.out.drew.trans (hl.world.mono hB3.out.size))).mono ?_
          rintro e w' ⟨A, c, rfl, hF, hb⟩
          exact ⟨_, rfl, hK _ _ hb ⟨A, c, rfl, hF⟩⟩
        refine allB_cons (i := 6) rfl (fun a W hl K hK => ?_) ?_
        · exact held_value (v := .slice (some ⟨W.heap.size, 0, none⟩) 2 2) (w' := W.alloc (.cells #[.string ⟨#[115, 101, 108, 108, 101, 114]⟩, .string ⟨#[99, 111, 117, 110, 116, 114, 121]⟩] 9)) rfl rfl (by go_simp) (hK _ _ ((Below.refl _ W).alloc (Nat.le_refl _) _) ⟨_, _, rfl, names_lit _ (Blk.new _ _ _) (by rw [← hNS4.out]; rfl)⟩)
        refine allB_cons (i := 7) rfl (fun a W hl K hK => ?_) ?_
        · have t88 : DocV 4 n4 i4 F4 3 (a.tmps.getD 88 undef) W := hl.at_ 5 88 (by kernel_rfl)
          have t89 : NamesV NS4 2 (a.tmps.getD 89 undef) W := hl.at_ 6 89 (by kernel_rfl)
          obtain ⟨A1, c1, e1, hF⟩ := t88
          obtain ⟨A2, c2, e2, hN⟩ := t89
          refine held_call (f := 61) (args := #[.agg #[.int .i64 4, .string n4, .string i4, .slice A1 3 c1], .slice A2 2 c2]) (w := W) rfl rfl (by go_simp) ?_
          refine (palike_any 4 n4 i4 A1 3 c1 F4 A2 2 c2 NS4 W hl4 (by decide) (Lib.hid hF) hNS4l (by decide) (Lib.hid hN)).mono ?_
          rintro e w' ⟨v, rfl, ho, hb⟩
          refine ⟨_, rfl, hK _ _ hb (show AtomsV AT4 2 _ _ from ?_)⟩
          unfold AtomsV
          rw [← hAT4.out]
          exact own_mono_base ho (Nat.zero_le _)
        refine allB_cons (i := 8) rfl (fun a W hl K hK => ?_) ?_
        · have t90 : AtomsV AT4 2 (a.tmps.getD 90 undef) W := hl.at_ 7 90 (by kernel_rfl)
          unfold AtomsV at t90
          obtain ⟨A, c, e1⟩ := own_form t90
          have h1 := Lib.hid t90
          clear t90
          have e2 := e1
          rw [e1] at h1
          refine held_call (f := 60) (args := #[.int .i64 4, .slice A 2 c]) (w := W) rfl rfl (by go_simp) ?_
          refine (pneed_any 4 A 2 c W).mono ?_
          rintro e w' ⟨rfl, hb⟩
          exact ⟨_, rfl, hK _ _ hb ⟨A, c, rfl, own_below h1.out hb⟩⟩
        refine allB_cons (i := 9) rfl (fun a W hl K hK => ?_) ?_
        · have t91 : NeedV 4 AT4 2 (a.tmps.getD 91 undef) W := hl.at_ 8 91 (by kernel_rfl)
          obtain ⟨A91, c91, e91, h91⟩ := t91
          have h91' := Lib.hid h91
          clear h91
          simp only [Array.getD_eq_getD_getElem?] at e91
          refine held_value (v := .slice (some ⟨W.heap.size, 0, none⟩) 1 1) (w' := W.alloc (.cells #[.int .i64 4, .int .i64 1, .int .i64 0, .int .i64 0, .string ⟨#[]⟩, .string ⟨#[]⟩, .int .i64 0, .slice A91 2 c91] 111)) rfl rfl (by go_simp) (hK _ _ ((Below.refl _ W).alloc (Nat.le_refl _) _) (needs_lit w.heap.size [⟨4, A91, 2, c91, AT4⟩] _ (Nat.le_trans hB3.out.size hl.world.size) rfl rfl 1 rfl (by decide) rfl ?_))
          intro x hx
          simp only [List.mem_cons, List.not_mem_nil, or_false] at hx
          subst hx
          · exact ⟨hAT4l.out, h91'.out⟩
        exact allB_nil
      case fin =>
        intro vs W hR hG
        have h1 : vs 1 = .slice nA 3 nc := hG 1 (by decide)
        have hM : NeedsV w.heap.size [(4, AT4)] (vs 9) W := hG 9 (by decide)
        obtain ⟨mA, mc, e2⟩ := hM.slice
        rw [e2] at hM
        have e2' : vs 9 = .slice mA 1 mc := e2
        have hM' := Lib.hid hM
        have hBW : Hid (Below w3.heap.size w3 W) := (Below.refl _ _).drew.trans hR
        have hkW := Lib.hid (hk3.out.below hBW.out hk3.out.lt)
        have hcW := Lib.hid (hc3.out.below hBW.out hc3.out.lt)
        have hzW := Lib.hid (hz3.out.below hBW.out hz3.out.lt)
        have hNW := Lib.hid (mono_NeedsV _ _ _ hN3.out hBW.out)
        have hBx : Hid (Below w.heap.size w W) := hB3.out.trans (hBW.out.mono hB3.out.size)
        clear hG hM hR e2
        simp only [putD, Act.put, List.setIfInBounds_toArray, List.set_cons_zero, List.set_cons_succ, h1, e2']
        refine wpAny_next 10 (by kernel_rfl) ?_
        refine held_needs rfl rfl (.tmp 84) (.tmp 92) rfl w.heap.size [(0, AT1), (1, AT2), (2, need2 ca se fr tp MK la)] [(4, AT4)] (.slice nA 3 nc) (.slice mA 1 mc) (by go_simp) (by go_simp) hNW.out hM'.out (by simp) hBx.out.size ?_
        intro v2 W2 hN2 hb2 hbk2
        obtain ⟨n8A, n8c, e3⟩ := hN2.slice
        rw [e3] at hN2 ⊢
        have hN2' := Lib.hid hN2
        have hkX := Lib.hid (hbk2 _ _ _ (by decide) hkW.out)
        have hcX := Lib.hid (hbk2 _ _ _ (by decide) hcW.out)
        have hzX := Lib.hid (hbk2 _ _ _ (by decide) hzW.out)
        have hBy : Hid (Below w.heap.size w W2) := hBx.out.trans hb2
        have x17 : W2.cell? ⟨w1.heap.size, 17, none⟩ = some (.slice nA 3 nc) := (hcX.out.cell 17).trans (hCR17.out _)
        have xf := hcX.out.frozen
        have xl : w1.heap.size < W2.heap.size := hcX.out.lt
        clear hN2 hbk2 hb2 e3 h1 e2'
        simp only [Act.put, List.getElem_toArray, List.getElem_cons_zero, List.getElem_cons_succ, List.setIfInBounds_toArray, List.set_cons_zero, List.set_cons_succ]
        refine wpAny_next 11 (by kernel_rfl) ?_
        refine held_value (v := .pointer (some ⟨w1.heap.size, 17, none⟩)) (w' := W2) rfl rfl (by go_simp) ?_
        simp only [Act.put, List.getElem_toArray, List.getElem_cons_zero, List.getElem_cons_succ, List.setIfInBounds_toArray, List.set_cons_zero, List.set_cons_succ]
        refine wpAny_next 12 (by kernel_rfl) ?_
        refine held_skip (w' := W2.setCell ⟨w1.heap.size, 17, none⟩ (.slice n8A 4 n8c)) rfl rfl (by go_simp) ?_
        refine wpAny_end (by kernel_rfl) ?_
        simp only [Act.put, List.getElem_toArray, List.getElem_cons_zero, List.getElem_cons_succ]
        have hc8 : Hid (Blk (W2.setCell ⟨w1.heap.size, 17, none⟩ (.slice n8A 4 n8c)) w1.heap.size 52 (CR (.slice n8A 4 n8c))) := by rw [← hCRset.out (.slice nA 3 nc)]; exact hcX.out.set_ 17 (.slice n8A 4 n8c)
        have hne : Hid (w.heap.size ≠ w1.heap.size ∧ w.heap.size + 1 ≠ w1.heap.size) := by have := hg12.out; unfold Hid; omega
        have hk8 := Lib.hid (hkX.out.far (p := ⟨w1.heap.size, 17, none⟩) hne.out.1 (.slice n8A 4 n8c))
        have hz8 := Lib.hid (hzX.out.far (p := ⟨w1.heap.size, 17, none⟩) hne.out.2 (.slice n8A 4 n8c))
        have hN8 := Lib.hid (hN2'.out.set_ hcX.out (o := 17) (u := .slice n8A 4 n8c))
        have hB8 : Hid (Below w.heap.size w (W2.setCell ⟨w1.heap.size, 17, none⟩ (.slice n8A 4 n8c))) := hBy.out.setCell (p := ⟨w1.heap.size, 17, none⟩) (by have := hg12.out; show w.heap.size ≤ w1.heap.size; omega) _
        obtain ⟨w8, hwx⟩ : ∃ X, Hid (W2.setCell ⟨w1.heap.size, 17, none⟩ (.slice n8A 4 n8c) = X) := ⟨_, rfl⟩
        rw [hwx.out] at hc8 hk8 hz8 hN8 hB8 ⊢
        clear hwx x17 xf xl hBW hkW hcW hzW hNW hkX hcX hzX hN2' hM' hk3 hc3 hz3 hN3 hB3
        have hCs : Hid ((CR (.slice n8A 4 n8c)).size = 18) := hCRs.out _
        have hC1 : Hid ((CR (.slice n8A 4 n8c)).all (·.oneCell') = true) := by rw [← hCR.out]; unfold Hid; simp [crC, Value.oneCell']
        go_wp2_with (first | (refine wpList_get_blk rfl 52 _ rfl w1.heap.size (CR (.slice n8A 4 n8c)) 52 _ rfl hc8.out Tryz.underlying52 rfl (by rw [hCs.out]; kernel_rfl) ?_) | (refine wpList_put_blk rfl 52 _ _ rfl (w.heap.size + 1) zeroC (CR (.slice n8A 4 n8c)) 52 rfl rfl hz8.out (by rw [hCs.out]; rfl) (by rw [hCs.out]; kernel_rfl) hC1.out ?_; intro w9 hz9 hu9))
        refine bodyPost_ret (results_row rfl _ _ (w.heap.size + 1) 52 _ _ rfl hz9 Tryz.underlying52 rfl (by rw [hCs.out]; kernel_rfl)) rfl ?_
        refine ⟨.slice n8A 4 n8c, by rw [hCR.out], ?_, hB8.out.trans (hu9.to_below (Below.refl _ _) (by omega) (by have := hB8.out.size; have := hs1.out; have := hB1.out.size; first | omega | exact Nat.le_refl _))⟩
        have hfin := hN8.out.but hu9 hz8.out
        rw [hneeds.out]
        exact hfin
    · have hi2 : ins.toList.isEmpty = false := by simpa using hin
      have hneeds : Hid (needsM d = ([(0, AT1), (1, AT2), (2, need2 ca se fr tp MK la)] ++ [(3, need3 fr tp cu am)]) ++ [(4, AT4)]) := by unfold Hid; rw [needsM, hins.out, if_neg hin, hAT1d.out, hAT2d.out, hAT4d.out, hca.out, hse.out, hfr.out, htp.out, hcu.out, ham.out, hMK.out, hla.out]
      go_wp2_with fail
      refine wp_region_any (by kernel_rfl) ?_
      refine wpAny_body 96 (List.range 19) [19, 20, 21] 19 [(0, some 62), (1, some 63), (2, some 64), (3, some 65), (4, some 66), (5, some 67), (6, some 68), (7, some 69), (8, some 70), (9, some 71), (10, some 72), (11, some 73), (12, some 74), (13, some 75), (14, some 76), (15, some 77), (16, some 78), (17, some 79), (18, some 80)] (Array.replicate 22 false) (Array.replicate 19 true ++ Array.replicate 3 false) (fun a b => Below a.heap.size a b) (fun i => (tyW4 w w1 fr tp cu am nA 3 nc).getD i (fun _ _ => True)) (by kernel_rfl) rfl rfl (Below.refl _ _) (fun _ _ _ h k => h.trans (k.mono h.size)) (fun i v W W' h hb => mono_at (tyW4_mono w w1 fr tp cu am nA 3 nc) i h hb) ?step ?fin _ rfl
      case step =>
        refine allB_cons (i := 0) rfl (fun a W hl K hK => ?_) ?_
        · have t3 : a.tmps.getD 3 undef = .pointer (some ⟨w1.heap.size, 0, none⟩) := hl.old 3 (by kernel_rfl)
          exact held_value (v := .pointer (some ⟨w1.heap.size, 17, none⟩)) (w' := W) rfl rfl (by go_simp) (hK _ _ (Below.refl _ _) rfl)
        refine allB_cons (i := 1) rfl (fun a W hl K hK => ?_) ?_
        · have t62 : Is (.pointer (some ⟨w1.heap.size, 17, none⟩)) (a.tmps.getD 62 undef) W := hl.at_ 0 62 (by kernel_rfl)
          unfold Is at t62
          have hbC : Blk W (w1.heap.size) 52 (CR (.slice nA 3 nc)) := hc3.out.drew.below hl.world hc3.out.drew.lt
          have cc : W.cell? ⟨w1.heap.size, 17, none⟩ = some (.slice nA 3 nc) := (hbC.cell 17).trans (hCR17.out _)
          exact held_value (v := .slice nA 3 nc) (w' := W) rfl rfl (by go_simp) (hK _ _ (Below.refl _ _) rfl)
        refine allB_cons (i := 2) rfl (fun a W hl K hK => ?_) ?_
        · have t1 : a.tmps.getD 1 undef = .pointer (some ⟨w.heap.size, 0, none⟩) := hl.old 1 (by kernel_rfl)
          exact held_value (v := .pointer (some ⟨w.heap.size, 7, none⟩)) (w' := W) rfl rfl (by go_simp) (hK _ _ (Below.refl _ _) rfl)
        refine allB_cons (i := 3) rfl (fun a W hl K hK => ?_) ?_
        · have t64 : Is (.pointer (some ⟨w.heap.size, 7, none⟩)) (a.tmps.getD 64 undef) W := hl.at_ 2 64 (by kernel_rfl)
          unfold Is at t64
          have hbD : Blk W (w.heap.size) 26 D := hk3.out.drew.below hl.world hk3.out.drew.lt
          have cc : W.cell? ⟨w.heap.size, 7, none⟩ = some (.string fr) := (hbD.cell 7).trans hD7.out
          exact held_value (v := .string fr) (w' := W) rfl rfl (by go_simp) (hK _ _ (Below.refl _ _) rfl)
        refine allB_cons (i := 4) rfl (fun a W hl K hK => ?_) ?_
        · have t65 : Is (.string fr) (a.tmps.getD 65 undef) W := hl.at_ 3 65 (by kernel_rfl)
          unfold Is at t65
          refine held_call (f := 62) (args := #[.string ⟨#[102, 114, 111, 109]⟩, .string fr]) (w := W) rfl rfl (by go_simp) ?_
          refine (pis_any ⟨#[102, 114, 111, 109]⟩ fr W).mono ?_
          rintro e w' ⟨rfl, hb⟩
          exact ⟨_, rfl, hK _ _ hb rfl⟩
        refine allB_cons (i := 5) rfl (fun a W hl K hK => ?_) ?_
        · have t1 : a.tmps.getD 1 undef = .pointer (some ⟨w.heap.size, 0, none⟩) := hl.old 1 (by kernel_rfl)
          exact held_value (v := .pointer (some ⟨w.heap.size, 8, none⟩)) (w' := W) rfl rfl (by go_simp) (hK _ _ (Below.refl _ _) rfl)
        refine allB_cons (i := 6) rfl (fun a W hl K hK => ?_) ?_
        · have t67 : Is (.pointer (some ⟨w.heap.size, 8, none⟩)) (a.tmps.getD 67 undef) W := hl.at_ 5 67 (by kernel_rfl)
          unfold Is at t67
          have hbD : Blk W (w.heap.size) 26 D := hk3.out.drew.below hl.world hk3.out.drew.lt
          have cc : W.cell? ⟨w.heap.size, 8, none⟩ = some (.string tp) := (hbD.cell 8).trans hD8.out
          exact held_value (v := .string tp) (w' := W) rfl rfl (by go_simp) (hK _ _ (Below.refl _ _) rfl)
        refine allB_cons (i := 7) rfl (fun a W hl K hK => ?_) ?_
        · have t68 : Is (.string tp) (a.tmps.getD 68 undef) W := hl.at_ 6 68 (by kernel_rfl)
          unfold Is at t68
          refine held_call (f := 62) (args := #[.string ⟨#[116, 111]⟩, .string tp]) (w := W) rfl rfl (by go_simp) ?_
          refine (pis_any ⟨#[116, 111]⟩ tp W).mono ?_
          rintro e w' ⟨rfl, hb⟩
          exact ⟨_, rfl, hK _ _ hb rfl⟩
        refine allB_cons (i := 8) rfl (fun a W hl K hK => ?_) ?_
        · have t1 : a.tmps.getD 1 undef = .pointer (some ⟨w.heap.size, 0, none⟩) := hl.old 1 (by kernel_rfl)
          exact held_value (v := .pointer (some ⟨w.heap.size, 9, none⟩)) (w' := W) rfl rfl (by go_simp) (hK _ _ (Below.refl _ _) rfl)
        refine allB_cons (i := 9) rfl (fun a W hl K hK => ?_) ?_
        · have t70 : Is (.pointer (some ⟨w.heap.size, 9, none⟩)) (a.tmps.getD 70 undef) W := hl.at_ 8 70 (by kernel_rfl)
          unfold Is at t70
          exact held_value (v := .pointer (some ⟨w.heap.size, 9, none⟩)) (w' := W) rfl rfl (by go_simp) (hK _ _ (Below.refl _ _) rfl)
        refine allB_cons (i := 10) rfl (fun a W hl K hK => ?_) ?_
        · have t71 : Is (.pointer (some ⟨w.heap.size, 9, none⟩)) (a.tmps.getD 71 undef) W := hl.at_ 9 71 (by kernel_rfl)
          unfold Is at t71
          have hbD : Blk W (w.heap.size) 26 D := hk3.out.drew.below hl.world hk3.out.drew.lt
          have cc : W.cell? ⟨w.heap.size, 9, none⟩ = some (.string cu) := (hbD.cell 9).trans hD9.out
          exact held_value (v := .string cu) (w' := W) rfl rfl (by go_simp) (hK _ _ (Below.refl _ _) rfl)
        refine allB_cons (i := 11) rfl (fun a W hl K hK => ?_) ?_
        · have t72 : Is (.string cu) (a.tmps.getD 72 undef) W := hl.at_ 10 72 (by kernel_rfl)
          unfold Is at t72
          refine held_call (f := 62) (args := #[.string ⟨#[99, 117, 114, 114, 101, 110, 99, 121]⟩, .string cu]) (w := W) rfl rfl (by go_simp) ?_
          refine (pis_any ⟨#[99, 117, 114, 114, 101, 110, 99, 121]⟩ cu W).mono ?_
          rintro e w' ⟨rfl, hb⟩
          exact ⟨_, rfl, hK _ _ hb rfl⟩
        refine allB_cons (i := 12) rfl (fun a W hl K hK => ?_) ?_
        · have t1 : a.tmps.getD 1 undef = .pointer (some ⟨w.heap.size, 0, none⟩) := hl.old 1 (by kernel_rfl)
          exact held_value (v := .pointer (some ⟨w.heap.size, 9, none⟩)) (w' := W) rfl rfl (by go_simp) (hK _ _ (Below.refl _ _) rfl)
        refine allB_cons (i := 13) rfl (fun a W hl K hK => ?_) ?_
        · have t74 : Is (.pointer (some ⟨w.heap.size, 9, none⟩)) (a.tmps.getD 74 undef) W := hl.at_ 12 74 (by kernel_rfl)
          unfold Is at t74
          exact held_value (v := .pointer (some ⟨w.heap.size, 10, none⟩)) (w' := W) rfl rfl (by go_simp) (hK _ _ (Below.refl _ _) rfl)
        refine allB_cons (i := 14) rfl (fun a W hl K hK => ?_) ?_
        · have t75 : Is (.pointer (some ⟨w.heap.size, 10, none⟩)) (a.tmps.getD 75 undef) W := hl.at_ 13 75 (by kernel_rfl)
          unfold Is at t75
          have hbD : Blk W (w.heap.size) 26 D := hk3.out.drew.below hl.world hk3.out.drew.lt
          have cc : W.cell? ⟨w.heap.size, 10, none⟩ = some (.int .i64 am) := (hbD.cell 10).trans hD10.out
          exact held_value (v := .int .i64 am) (w' := W) rfl rfl (by go_simp) (hK _ _ (Below.refl _ _) rfl)
        refine allB_cons (i := 15) rfl (fun a W hl K hK => ?_) ?_
        · have t76 : Is (.int .i64 am) (a.tmps.getD 76 undef) W := hl.at_ 14 76 (by kernel_rfl)
          unfold Is at t76
          simp only [Array.getD_eq_getD_getElem?] at t76
          exact held_value (v := .agg #[.int .i64 6, .int .i64 0, .string ⟨#[115, 117, 109]⟩, .string ⟨#[]⟩, .int .i64 am, .slice none 0 0]) (w' := W) rfl rfl (by go_simp) (hK _ _ (Below.refl _ _) rfl)
        refine allB_cons (i := 16) rfl (fun a W hl K hK => ?_) ?_
        · have t66 : Is (.agg #[.int .i64 3, .int .i64 0, .string ⟨#[102, 114, 111, 109]⟩, .string fr, .int .i64 0, .slice none 0 0]) (a.tmps.getD 66 undef) W := hl.at_ 4 66 (by kernel_rfl)
          unfold Is at t66
          have t69 : Is (.agg #[.int .i64 3, .int .i64 0, .string ⟨#[116, 111]⟩, .string tp, .int .i64 0, .slice none 0 0]) (a.tmps.getD 69 undef) W := hl.at_ 7 69 (by kernel_rfl)
          unfold Is at t69
          have t73 : Is (.agg #[.int .i64 3, .int .i64 0, .string ⟨#[99, 117, 114, 114, 101, 110, 99, 121]⟩, .string cu, .int .i64 0, .slice none 0 0]) (a.tmps.getD 73 undef) W := hl.at_ 11 73 (by kernel_rfl)
          unfold Is at t73
          have t77 : Is (.agg #[.int .i64 6, .int .i64 0, .string ⟨#[115, 117, 109]⟩, .string ⟨#[]⟩, .int .i64 am, .slice none 0 0]) (a.tmps.getD 77 undef) W := hl.at_ 15 77 (by kernel_rfl)
          unfold Is at t77
          simp only [Array.getD_eq_getD_getElem?] at t66 t69 t73 t77
          exact held_value (v := .slice (some ⟨W.heap.size, 0, none⟩) 4 4) (w' := W.alloc (.cells #[.int .i64 3, .int .i64 0, .string ⟨#[102, 114, 111, 109]⟩, .string fr, .int .i64 0, .slice none 0 0, .int .i64 3, .int .i64 0, .string ⟨#[116, 111]⟩, .string tp, .int .i64 0, .slice none 0 0, .int .i64 3, .int .i64 0, .string ⟨#[99, 117, 114, 114, 101, 110, 99, 121]⟩, .string cu, .int .i64 0, .slice none 0 0, .int .i64 6, .int .i64 0, .string ⟨#[115, 117, 109]⟩, .string ⟨#[]⟩, .int .i64 am, .slice none 0 0] 109)) rfl rfl (by go_simp) (hK _ _ ((Below.refl _ W).alloc (Nat.le_refl _) _) (atoms_lit W [⟨3, ⟨#[102, 114, 111, 109]⟩, fr, 0⟩, ⟨3, ⟨#[116, 111]⟩, tp, 0⟩, ⟨3, ⟨#[99, 117, 114, 114, 101, 110, 99, 121]⟩, cu, 0⟩, ⟨6, ⟨#[115, 117, 109]⟩, ⟨#[]⟩, am⟩] 4 _ rfl (by decide) rfl))
        refine allB_cons (i := 17) rfl (fun a W hl K hK => ?_) ?_
        · have t78 : AtomsV [⟨3, ⟨#[102, 114, 111, 109]⟩, fr, 0⟩, ⟨3, ⟨#[116, 111]⟩, tp, 0⟩, ⟨3, ⟨#[99, 117, 114, 114, 101, 110, 99, 121]⟩, cu, 0⟩, ⟨6, ⟨#[115, 117, 109]⟩, ⟨#[]⟩, am⟩] 4 (a.tmps.getD 78 undef) W := hl.at_ 16 78 (by kernel_rfl)
          unfold AtomsV at t78
          obtain ⟨A, c, e1⟩ := own_form t78
          have h1 := Lib.hid t78
          clear t78
          have e2 := e1
          rw [e1] at h1
          refine held_call (f := 60) (args := #[.int .i64 3, .slice A 4 c]) (w := W) rfl rfl (by go_simp) ?_
          refine (pneed_any 3 A 4 c W).mono ?_
          rintro e w' ⟨rfl, hb⟩
          exact ⟨_, rfl, hK _ _ hb ⟨A, c, rfl, own_below h1.out hb⟩⟩
        refine allB_cons (i := 18) rfl (fun a W hl K hK => ?_) ?_
        · have t79 : NeedV 3 [⟨3, ⟨#[102, 114, 111, 109]⟩, fr, 0⟩, ⟨3, ⟨#[116, 111]⟩, tp, 0⟩, ⟨3, ⟨#[99, 117, 114, 114, 101, 110, 99, 121]⟩, cu, 0⟩, ⟨6, ⟨#[115, 117, 109]⟩, ⟨#[]⟩, am⟩] 4 (a.tmps.getD 79 undef) W := hl.at_ 17 79 (by kernel_rfl)
          obtain ⟨A79, c79, e79, h79⟩ := t79
          have h79' := Lib.hid h79
          clear h79
          simp only [Array.getD_eq_getD_getElem?] at e79
          refine held_value (v := .slice (some ⟨W.heap.size, 0, none⟩) 1 1) (w' := W.alloc (.cells #[.int .i64 3, .int .i64 1, .int .i64 0, .int .i64 0, .string ⟨#[]⟩, .string ⟨#[]⟩, .int .i64 0, .slice A79 4 c79] 111)) rfl rfl (by go_simp) (hK _ _ ((Below.refl _ W).alloc (Nat.le_refl _) _) (needs_lit w.heap.size [⟨3, A79, 4, c79, [⟨3, ⟨#[102, 114, 111, 109]⟩, fr, 0⟩, ⟨3, ⟨#[116, 111]⟩, tp, 0⟩, ⟨3, ⟨#[99, 117, 114, 114, 101, 110, 99, 121]⟩, cu, 0⟩, ⟨6, ⟨#[115, 117, 109]⟩, ⟨#[]⟩, am⟩]⟩] _ (Nat.le_trans hB3.out.size hl.world.size) rfl rfl 1 rfl (by decide) rfl ?_))
          intro x hx
          simp only [List.mem_cons, List.not_mem_nil, or_false] at hx
          subst hx
          · exact ⟨(Lib.hid rfl).out, h79'.out⟩
        exact allB_nil
      case fin =>
        intro vs W hR hG
        have h1 : vs 1 = .slice nA 3 nc := hG 1 (by decide)
        have hM : NeedsV w.heap.size [(3, need3 fr tp cu am)] (vs 18) W := hG 18 (by decide)
        obtain ⟨mA, mc, e2⟩ := hM.slice
        rw [e2] at hM
        have e2' : vs 18 = .slice mA 1 mc := e2
        have hM' := Lib.hid hM
        have hBW : Hid (Below w3.heap.size w3 W) := (Below.refl _ _).drew.trans hR
        have hkW := Lib.hid (hk3.out.below hBW.out hk3.out.lt)
        have hcW := Lib.hid (hc3.out.below hBW.out hc3.out.lt)
        have hzW := Lib.hid (hz3.out.below hBW.out hz3.out.lt)
        have hNW := Lib.hid (mono_NeedsV _ _ _ hN3.out hBW.out)
        have hBx : Hid (Below w.heap.size w W) := hB3.out.trans (hBW.out.mono hB3.out.size)
        clear hG hM hR e2
        simp only [putD, Act.put, List.setIfInBounds_toArray, List.set_cons_zero, List.set_cons_succ, h1, e2']
        refine wpAny_next 19 (by kernel_rfl) ?_
        refine held_needs rfl rfl (.tmp 63) (.tmp 80) rfl w.heap.size [(0, AT1), (1, AT2), (2, need2 ca se fr tp MK la)] [(3, need3 fr tp cu am)] (.slice nA 3 nc) (.slice mA 1 mc) (by go_simp) (by go_simp) hNW.out hM'.out (by simp) hBx.out.size ?_
        intro v2 W2 hN2 hb2 hbk2
        obtain ⟨n4A, n4c, e3⟩ := hN2.slice
        rw [e3] at hN2 ⊢
        have hN2' := Lib.hid hN2
        have hkX := Lib.hid (hbk2 _ _ _ (by decide) hkW.out)
        have hcX := Lib.hid (hbk2 _ _ _ (by decide) hcW.out)
        have hzX := Lib.hid (hbk2 _ _ _ (by decide) hzW.out)
        have hBy : Hid (Below w.heap.size w W2) := hBx.out.trans hb2
        have x17 : W2.cell? ⟨w1.heap.size, 17, none⟩ = some (.slice nA 3 nc) := (hcX.out.cell 17).trans (hCR17.out _)
        have xf := hcX.out.frozen
        have xl : w1.heap.size < W2.heap.size := hcX.out.lt
        clear hN2 hbk2 hb2 e3 h1 e2'
        simp only [Act.put, List.getElem_toArray, List.getElem_cons_zero, List.getElem_cons_succ, List.setIfInBounds_toArray, List.set_cons_zero, List.set_cons_succ]
        refine wpAny_next 20 (by kernel_rfl) ?_
        refine held_value (v := .pointer (some ⟨w1.heap.size, 17, none⟩)) (w' := W2) rfl rfl (by go_simp) ?_
        simp only [Act.put, List.getElem_toArray, List.getElem_cons_zero, List.getElem_cons_succ, List.setIfInBounds_toArray, List.set_cons_zero, List.set_cons_succ]
        refine wpAny_next 21 (by kernel_rfl) ?_
        refine held_skip (w' := W2.setCell ⟨w1.heap.size, 17, none⟩ (.slice n4A 4 n4c)) rfl rfl (by go_simp) ?_
        refine wpAny_end (by kernel_rfl) ?_
        simp only [Act.put, List.getElem_toArray, List.getElem_cons_zero, List.getElem_cons_succ]
        have hc4 : Hid (Blk (W2.setCell ⟨w1.heap.size, 17, none⟩ (.slice n4A 4 n4c)) w1.heap.size 52 (CR (.slice n4A 4 n4c))) := by rw [← hCRset.out (.slice nA 3 nc)]; exact hcX.out.set_ 17 (.slice n4A 4 n4c)
        have hne : Hid (w.heap.size ≠ w1.heap.size ∧ w.heap.size + 1 ≠ w1.heap.size) := by have := hg12.out; unfold Hid; omega
        have hk4 := Lib.hid (hkX.out.far (p := ⟨w1.heap.size, 17, none⟩) hne.out.1 (.slice n4A 4 n4c))
        have hz4 := Lib.hid (hzX.out.far (p := ⟨w1.heap.size, 17, none⟩) hne.out.2 (.slice n4A 4 n4c))
        have hN4 := Lib.hid (hN2'.out.set_ hcX.out (o := 17) (u := .slice n4A 4 n4c))
        have hB4 : Hid (Below w.heap.size w (W2.setCell ⟨w1.heap.size, 17, none⟩ (.slice n4A 4 n4c))) := hBy.out.setCell (p := ⟨w1.heap.size, 17, none⟩) (by have := hg12.out; show w.heap.size ≤ w1.heap.size; omega) _
        obtain ⟨w4, hwx⟩ : ∃ X, Hid (W2.setCell ⟨w1.heap.size, 17, none⟩ (.slice n4A 4 n4c) = X) := ⟨_, rfl⟩
        rw [hwx.out] at hc4 hk4 hz4 hN4 hB4 ⊢
        clear hwx x17 xf xl hBW hkW hcW hzW hNW hkX hcX hzX hN2' hM' hk3 hc3 hz3 hN3 hB3
        go_wp2_with fail
        refine wp_region_any (by kernel_rfl) ?_
        refine wpAny_body 96 (List.range 10) [10, 11, 12] 10 [(0, some 83), (1, some 84), (2, some 85), (3, some 86), (4, some 87), (5, some 88), (6, some 89), (7, some 90), (8, some 91), (9, some 92)] (Array.replicate 13 false) (Array.replicate 10 true ++ Array.replicate 3 false) (fun a b => Below a.heap.size a b) (fun i => (tyW5 w w1 D n4 i4 F4 NS4 AT4 fr n4A 4 n4c).getD i (fun _ _ => True)) (by kernel_rfl) rfl rfl (Below.refl _ _) (fun _ _ _ h k => h.trans (k.mono h.size)) (fun i v W W' h hb => mono_at (tyW5_mono w w1 D n4 i4 F4 NS4 AT4 fr n4A 4 n4c) i h hb) ?step ?fin _ rfl
        case step =>
          refine allB_cons (i := 0) rfl (fun a W hl K hK => ?_) ?_
          · have t3 : a.tmps.getD 3 undef = .pointer (some ⟨w1.heap.size, 0, none⟩) := hl.old 3 (by kernel_rfl)
            exact held_value (v := .pointer (some ⟨w1.heap.size, 17, none⟩)) (w' := W) rfl rfl (by go_simp) (hK _ _ (Below.refl _ _) rfl)
          refine allB_cons (i := 1) rfl (fun a W hl K hK => ?_) ?_
          · have t83 : Is (.pointer (some ⟨w1.heap.size, 17, none⟩)) (a.tmps.getD 83 undef) W := hl.at_ 0 83 (by kernel_rfl)
            unfold Is at t83
            have hbC : Blk W (w1.heap.size) 52 (CR (.slice n4A 4 n4c)) := hc4.out.drew.below hl.world hc4.out.drew.lt
            have cc : W.cell? ⟨w1.heap.size, 17, none⟩ = some (.slice n4A 4 n4c) := (hbC.cell 17).trans (hCR17.out _)
            exact held_value (v := .slice n4A 4 n4c) (w' := W) rfl rfl (by go_simp) (hK _ _ (Below.refl _ _) rfl)
          refine allB_cons (i := 2) rfl (fun a W hl K hK => ?_) ?_
          · have t1 : a.tmps.getD 1 undef = .pointer (some ⟨w.heap.size, 0, none⟩) := hl.old 1 (by kernel_rfl)
            have hbD : Blk W (w.heap.size) 26 D := hk4.out.drew.below hl.world hk4.out.drew.lt
            exact held_value (v := .agg D) (w' := W) rfl rfl (run_ldb rfl t1 hbD Tryz.underlying26 rfl (by rw [hDs.out]; kernel_rfl)) (hK _ _ (Below.refl _ _) rfl)
          refine allB_cons (i := 3) rfl (fun a W hl K hK => ?_) ?_
          · have t1 : a.tmps.getD 1 undef = .pointer (some ⟨w.heap.size, 0, none⟩) := hl.old 1 (by kernel_rfl)
            exact held_value (v := .pointer (some ⟨w.heap.size, 7, none⟩)) (w' := W) rfl rfl (by go_simp) (hK _ _ (Below.refl _ _) rfl)
          refine allB_cons (i := 4) rfl (fun a W hl K hK => ?_) ?_
          · have t86 : Is (.pointer (some ⟨w.heap.size, 7, none⟩)) (a.tmps.getD 86 undef) W := hl.at_ 3 86 (by kernel_rfl)
            unfold Is at t86
            have hbD : Blk W (w.heap.size) 26 D := hk4.out.drew.below hl.world hk4.out.drew.lt
            have cc : W.cell? ⟨w.heap.size, 7, none⟩ = some (.string fr) := (hbD.cell 7).trans hD7.out
            exact held_value (v := .string fr) (w' := W) rfl rfl (by go_simp) (hK _ _ (Below.refl _ _) rfl)
          refine allB_cons (i := 5) rfl (fun a W hl K hK => ?_) ?_
          · have t85 : Is (.agg D) (a.tmps.getD 85 undef) W := hl.at_ 2 85 (by kernel_rfl)
            unfold Is at t85
            have t87 : Is (.string fr) (a.tmps.getD 87 undef) W := hl.at_ 4 87 (by kernel_rfl)
            unfold Is at t87
            refine held_call (f := 17) (args := #[.agg D, .string fr]) (w := W) rfl rfl (by go_simp) ?_
            refine (hp4.out W (hB4.out.drew.trans (hl.world.mono hB4.out.size))).mono ?_
            rintro e w' ⟨A, c, rfl, hF, hb⟩
            exact ⟨_, rfl, hK _ _ hb ⟨A, c, rfl, hF⟩⟩
          refine allB_cons (i := 6) rfl (fun a W hl K hK => ?_) ?_
          · exact held_value (v := .slice (some ⟨W.heap.size, 0, none⟩) 2 2) (w' := W.alloc (.cells #[.string ⟨#[115, 101, 108, 108, 101, 114]⟩, .string ⟨#[99, 111, 117, 110, 116, 114, 121]⟩] 9)) rfl rfl (by go_simp) (hK _ _ ((Below.refl _ W).alloc (Nat.le_refl _) _) ⟨_, _, rfl, names_lit _ (Blk.new _ _ _) (by rw [← hNS4.out]; rfl)⟩)
          refine allB_cons (i := 7) rfl (fun a W hl K hK => ?_) ?_
          · have t88 : DocV 4 n4 i4 F4 3 (a.tmps.getD 88 undef) W := hl.at_ 5 88 (by kernel_rfl)
            have t89 : NamesV NS4 2 (a.tmps.getD 89 undef) W := hl.at_ 6 89 (by kernel_rfl)
            obtain ⟨A1, c1, e1, hF⟩ := t88
            obtain ⟨A2, c2, e2, hN⟩ := t89
            refine held_call (f := 61) (args := #[.agg #[.int .i64 4, .string n4, .string i4, .slice A1 3 c1], .slice A2 2 c2]) (w := W) rfl rfl (by go_simp) ?_
            refine (palike_any 4 n4 i4 A1 3 c1 F4 A2 2 c2 NS4 W hl4 (by decide) (Lib.hid hF) hNS4l (by decide) (Lib.hid hN)).mono ?_
            rintro e w' ⟨v, rfl, ho, hb⟩
            refine ⟨_, rfl, hK _ _ hb (show AtomsV AT4 2 _ _ from ?_)⟩
            unfold AtomsV
            rw [← hAT4.out]
            exact own_mono_base ho (Nat.zero_le _)
          refine allB_cons (i := 8) rfl (fun a W hl K hK => ?_) ?_
          · have t90 : AtomsV AT4 2 (a.tmps.getD 90 undef) W := hl.at_ 7 90 (by kernel_rfl)
            unfold AtomsV at t90
            obtain ⟨A, c, e1⟩ := own_form t90
            have h1 := Lib.hid t90
            clear t90
            have e2 := e1
            rw [e1] at h1
            refine held_call (f := 60) (args := #[.int .i64 4, .slice A 2 c]) (w := W) rfl rfl (by go_simp) ?_
            refine (pneed_any 4 A 2 c W).mono ?_
            rintro e w' ⟨rfl, hb⟩
            exact ⟨_, rfl, hK _ _ hb ⟨A, c, rfl, own_below h1.out hb⟩⟩
          refine allB_cons (i := 9) rfl (fun a W hl K hK => ?_) ?_
          · have t91 : NeedV 4 AT4 2 (a.tmps.getD 91 undef) W := hl.at_ 8 91 (by kernel_rfl)
            obtain ⟨A91, c91, e91, h91⟩ := t91
            have h91' := Lib.hid h91
            clear h91
            simp only [Array.getD_eq_getD_getElem?] at e91
            refine held_value (v := .slice (some ⟨W.heap.size, 0, none⟩) 1 1) (w' := W.alloc (.cells #[.int .i64 4, .int .i64 1, .int .i64 0, .int .i64 0, .string ⟨#[]⟩, .string ⟨#[]⟩, .int .i64 0, .slice A91 2 c91] 111)) rfl rfl (by go_simp) (hK _ _ ((Below.refl _ W).alloc (Nat.le_refl _) _) (needs_lit w.heap.size [⟨4, A91, 2, c91, AT4⟩] _ (Nat.le_trans hB4.out.size hl.world.size) rfl rfl 1 rfl (by decide) rfl ?_))
            intro x hx
            simp only [List.mem_cons, List.not_mem_nil, or_false] at hx
            subst hx
            · exact ⟨hAT4l.out, h91'.out⟩
          exact allB_nil
        case fin =>
          intro vs W hR hG
          have h1 : vs 1 = .slice n4A 4 n4c := hG 1 (by decide)
          have hM : NeedsV w.heap.size [(4, AT4)] (vs 9) W := hG 9 (by decide)
          obtain ⟨mA, mc, e2⟩ := hM.slice
          rw [e2] at hM
          have e2' : vs 9 = .slice mA 1 mc := e2
          have hM' := Lib.hid hM
          have hBW : Hid (Below w4.heap.size w4 W) := (Below.refl _ _).drew.trans hR
          have hkW := Lib.hid (hk4.out.below hBW.out hk4.out.lt)
          have hcW := Lib.hid (hc4.out.below hBW.out hc4.out.lt)
          have hzW := Lib.hid (hz4.out.below hBW.out hz4.out.lt)
          have hNW := Lib.hid (mono_NeedsV _ _ _ hN4.out hBW.out)
          have hBx : Hid (Below w.heap.size w W) := hB4.out.trans (hBW.out.mono hB4.out.size)
          clear hG hM hR e2
          simp only [putD, Act.put, List.setIfInBounds_toArray, List.set_cons_zero, List.set_cons_succ, h1, e2']
          refine wpAny_next 10 (by kernel_rfl) ?_
          refine held_needs rfl rfl (.tmp 84) (.tmp 92) rfl w.heap.size ([(0, AT1), (1, AT2), (2, need2 ca se fr tp MK la)] ++ [(3, need3 fr tp cu am)]) [(4, AT4)] (.slice n4A 4 n4c) (.slice mA 1 mc) (by go_simp) (by go_simp) hNW.out hM'.out (by simp) hBx.out.size ?_
          intro v2 W2 hN2 hb2 hbk2
          obtain ⟨n8A, n8c, e3⟩ := hN2.slice
          rw [e3] at hN2 ⊢
          have hN2' := Lib.hid hN2
          have hkX := Lib.hid (hbk2 _ _ _ (by decide) hkW.out)
          have hcX := Lib.hid (hbk2 _ _ _ (by decide) hcW.out)
          have hzX := Lib.hid (hbk2 _ _ _ (by decide) hzW.out)
          have hBy : Hid (Below w.heap.size w W2) := hBx.out.trans hb2
          have x17 : W2.cell? ⟨w1.heap.size, 17, none⟩ = some (.slice n4A 4 n4c) := (hcX.out.cell 17).trans (hCR17.out _)
          have xf := hcX.out.frozen
          have xl : w1.heap.size < W2.heap.size := hcX.out.lt
          clear hN2 hbk2 hb2 e3 h1 e2'
          simp only [Act.put, List.getElem_toArray, List.getElem_cons_zero, List.getElem_cons_succ, List.setIfInBounds_toArray, List.set_cons_zero, List.set_cons_succ]
          refine wpAny_next 11 (by kernel_rfl) ?_
          refine held_value (v := .pointer (some ⟨w1.heap.size, 17, none⟩)) (w' := W2) rfl rfl (by go_simp) ?_
          simp only [Act.put, List.getElem_toArray, List.getElem_cons_zero, List.getElem_cons_succ, List.setIfInBounds_toArray, List.set_cons_zero, List.set_cons_succ]
          refine wpAny_next 12 (by kernel_rfl) ?_
          refine held_skip (w' := W2.setCell ⟨w1.heap.size, 17, none⟩ (.slice n8A 5 n8c)) rfl rfl (by go_simp) ?_
          refine wpAny_end (by kernel_rfl) ?_
          simp only [Act.put, List.getElem_toArray, List.getElem_cons_zero, List.getElem_cons_succ]
          have hc8 : Hid (Blk (W2.setCell ⟨w1.heap.size, 17, none⟩ (.slice n8A 5 n8c)) w1.heap.size 52 (CR (.slice n8A 5 n8c))) := by rw [← hCRset.out (.slice n4A 4 n4c)]; exact hcX.out.set_ 17 (.slice n8A 5 n8c)
          have hne : Hid (w.heap.size ≠ w1.heap.size ∧ w.heap.size + 1 ≠ w1.heap.size) := by have := hg12.out; unfold Hid; omega
          have hk8 := Lib.hid (hkX.out.far (p := ⟨w1.heap.size, 17, none⟩) hne.out.1 (.slice n8A 5 n8c))
          have hz8 := Lib.hid (hzX.out.far (p := ⟨w1.heap.size, 17, none⟩) hne.out.2 (.slice n8A 5 n8c))
          have hN8 := Lib.hid (hN2'.out.set_ hcX.out (o := 17) (u := .slice n8A 5 n8c))
          have hB8 : Hid (Below w.heap.size w (W2.setCell ⟨w1.heap.size, 17, none⟩ (.slice n8A 5 n8c))) := hBy.out.setCell (p := ⟨w1.heap.size, 17, none⟩) (by have := hg12.out; show w.heap.size ≤ w1.heap.size; omega) _
          obtain ⟨w8, hwx⟩ : ∃ X, Hid (W2.setCell ⟨w1.heap.size, 17, none⟩ (.slice n8A 5 n8c) = X) := ⟨_, rfl⟩
          rw [hwx.out] at hc8 hk8 hz8 hN8 hB8 ⊢
          clear hwx x17 xf xl hBW hkW hcW hzW hNW hkX hcX hzX hN2' hM' hk4 hc4 hz4 hN4 hB4
          have hCs : Hid ((CR (.slice n8A 5 n8c)).size = 18) := hCRs.out _
          have hC1 : Hid ((CR (.slice n8A 5 n8c)).all (·.oneCell') = true) := by rw [← hCR.out]; unfold Hid; simp [crC, Value.oneCell']
          go_wp2_with (first | (refine wpList_get_blk rfl 52 _ rfl w1.heap.size (CR (.slice n8A 5 n8c)) 52 _ rfl hc8.out Tryz.underlying52 rfl (by rw [hCs.out]; kernel_rfl) ?_) | (refine wpList_put_blk rfl 52 _ _ rfl (w.heap.size + 1) zeroC (CR (.slice n8A 5 n8c)) 52 rfl rfl hz8.out (by rw [hCs.out]; rfl) (by rw [hCs.out]; kernel_rfl) hC1.out ?_; intro w9 hz9 hu9))
          refine bodyPost_ret (results_row rfl _ _ (w.heap.size + 1) 52 _ _ rfl hz9 Tryz.underlying52 rfl (by rw [hCs.out]; kernel_rfl)) rfl ?_
          refine ⟨.slice n8A 5 n8c, by rw [hCR.out], ?_, hB8.out.trans (hu9.to_below (Below.refl _ _) (by omega) (by have := hB8.out.size; have := hs1.out; have := hB1.out.size; first | omega | exact Nat.le_refl _))⟩
          have hfin := hN8.out.but hu9 hz8.out
          rw [hneeds.out]
          exact hfin
end Go.Proofs.YtnmnknkdnjkpjaaGreatDoor

import Derived.Deep.MidRow
import Derived.Laws.Rows
import Derived.Deep.CutRange
import Derived.OrdersHeld
import Derived.BigQuiet
import Derived.Test.YtjkmhlfjheiekaaGreatDoorPc
set_option maxRecDepth 1000000
set_option maxHeartbeats 51200000
namespace Go.Proofs.YtjkmhlfjheiekaaGreatDoor
open Go Go.RowKit Go.BigFrame Go.Maps
section
variable {P : Program} {ops : Array Oper} {Q : Exit → Act → World → Prop} {S : World → Prop} {o : Oper} {a : Act} {w : World}
theorem held_call {i : Nat} {K : Act → World → Prop} {f : FuncId} {args : Array Value} (hi : ops[i]? = some o) (hg : o.guard = none) (hop : (execOp a.eval o).run P w = .ok (.enter f args) w)
  (hc : Calls P f args w fun e w' => ∃ v, e = .returned v ∧ K (a.put o.dst v) w') : wpOp P ops Q i K a w := by
 unfold wpOp
 simp only [hi]
 have hw : Region.wanted o (yielded ops a.tmps) = true := by simp [Region.wanted, hg]
 rw [if_pos hw]
 unfold Oper.wp
 rw [hop, Oper.upon_enter]
 first
  | exact hc.mono (fun e w' ⟨v, he, h⟩ => by subst he; exact h)
  | exact .inl (hc.mono (fun e w' ⟨v, he, h⟩ => by subst he; exact h))
theorem yields_of {v : Value} (hg : o.guard = none) (h : ∀ w, S w → (execOp a.eval o).run P w = .ok (.value v) w) : YieldsIf P ops S o v a :=
 .inl ⟨by simp [Region.wanted, hg], h⟩
end
section
variable {P : Program} {ops : Array Oper} {Q : Exit → Act → World → Prop} {o : Oper} {a : Act} {w w' : World} {i : Nat} {K : Act → World → Prop}
theorem held_value {v : Value} (hi : ops[i]? = some o) (hg : o.guard = none) (hop : (execOp a.eval o).run P w = .ok (.value v) w') (h : K (a.put o.dst v) w') : wpOp P ops Q i K a w := by
 unfold wpOp
 simp only [hi]
 rw [if_pos (by simp [Region.wanted, hg])]
 unfold Oper.wp
 rw [hop, Oper.upon_value]
 exact .inl h
theorem held_skip (hi : ops[i]? = some o) (hg : o.guard = none) (hop : (execOp a.eval o).run P w = .ok .skip w') (h : K (a.put o.dst undef) w') : wpOp P ops Q i K a w := by
 unfold wpOp
 simp only [hi]
 rw [if_pos (by simp [Region.wanted, hg])]
 unfold Oper.wp
 rw [hop, Oper.upon_skip]
 exact .inl h
theorem held_append (hi' : ops[i]? = some o) (hgd : o.guard = none) (s x : Operand) (t : TypeId)
  (ho : o.op = .call { callee := .builtin .append, args := #[s, x], argTypes := #[t, t] })
  (base : Nat) (e : TypeId) (ti : TypeInfo) (z : Value) (size bytes : Nat) (ht : P.underlying t = some (.slice e)) (hi : P.info? e = some ti) (hz : ti.zero = some z)
  (hsize : ti.size = size) (hby : ti.bytes = bytes) (hzs : z.cells.size = size) (hsz : 0 < size)
  (v : Value) (n : Nat) (xs : List Value) (hs : a.eval s = v) (hown : w.ownsRow base e size v n xs)
  (B : Nat) (A : Option Addr) (m c : Nat) (news : List Value) (hx : a.eval x = .slice A m c) (hr : Reads w B size A m news) (h1 : ∀ u ∈ news, u.oneCell' = true)
  (h63 : n + m ≤ maxLen) (hbytes : (n + m) * bytes ≤ 140737488355328) (hbase : base ≤ w.heap.size)
  (h : ∀ v' w', w'.ownsRow base e size v' (n + m) (xs ++ news) → w.grownBy w' v.ownBlock → (v'.ownBlock = v.ownBlock ∨ v'.ownBlock = some w.heap.size) → K (a.put o.dst v') w') : wpOp P ops Q i K a w := by
 unfold wpOp
 simp only [hi']
 rw [if_pos (by simp [Region.wanted, hgd])]
 exact .inl (wp_append_any w s x t ho base e ti z size bytes ht hi hz hsize hby hzs hsz v n xs hs hown B A m c news hx hr h1 h63 hbytes hbase h)
end
def ndsL (L : List Nd) : List Value := L.flatMap Nd.cells
theorem ndsL_snoc (T : List Nd) (x : Nd) : ndsL (T ++ [x]) = ndsL T ++ x.cells := by simp [ndsL]
theorem ndsL_get : ∀ (T : List Nd) (k : Nat) (x : Nd), T[k]? = some x → ∀ i, i < 8 → (ndsL T)[k * 8 + i]? = x.cells[i]?
 | [], k, x, h, i, hi => by simp at h
 | y :: T, 0, x, h, i, hi => by
  simp only [List.getElem?_cons_zero, Option.some.injEq] at h; subst h; show (y.cells ++ ndsL T)[0 * 8 + i]? = _; rw [Nat.zero_mul, Nat.zero_add, List.getElem?_append_left (by rw [Nd.cells_len]; exact hi)]
 | y :: T, k + 1, x, h, i, hi => by
  have ih := ndsL_get T k x (by simpa using h) i hi; show (y.cells ++ ndsL T)[(k + 1) * 8 + i]? = _; rw [List.getElem?_append_right (by rw [Nd.cells_len]; omega), Nd.cells_len, show (k + 1) * 8 + i - 8 = k * 8 + i by omega]; exact ih
theorem need_one (a b k p : Int) (f x : ByteArray) (n : Int) (A : Option Addr) (m c : Nat) : ∀ u ∈ (#[Iz a, Iz b, Iz k, Iz p, .string f, .string x, Iz n, .slice A m c] : Array Value).toList, u.oneCell' = true := by
 intro u hu
 simp at hu
 rcases hu with rfl | rfl | rfl | rfl | rfl | rfl | rfl | rfl <;> rfl
theorem own_nds {w : World} {B : Nat} {ok : Nat → Prop} {v : Value} {T : List Nd} (h : w.ownsRow B 74 8 v T.length (ndsL T)) (hB : ∀ b, B ≤ b → ok b) (ht : ∀ x ∈ T, TAz w ok x.rule) : ∃ A c, v = .slice A T.length c ∧ NdsAt w ok A T := by
 rcases h.2 with ⟨rfl, h0⟩ | ⟨g, cap, cur, rfl, hg, _⟩
 ·have : T = [] := List.eq_nil_of_length_eq_zero h0
  subst this; exact ⟨none, 0, rfl, fun k x hx => by simp at hx⟩
 ·refine ⟨_, _, rfl, fun k x hx => ⟨g, 0, rfl, hB _ hg, fun i u hu => ?_, ht x (List.mem_of_getElem? hx)⟩⟩
  have hi : i < 8 := by have := (List.getElem?_eq_some_iff.1 hu).1; rwa [Nd.cells_len] at this
  have := h.cells (g := g) rfl (k * 8 + i) u (by rw [ndsL_get T k x hx i hi]; exact hu)
  rwa [show Addr.add (Az g 0) (k * 8 + i) = ⟨g, 0 + k * 8 + i, none⟩ by unfold Addr.add; split <;> simp_all] at this
theorem setCells_put (g : Nat) : ∀ (vs : List Value) (o : Nat) (w : World), But g w (w.setCells g o vs)
 | [], _, _ => But.refl _ _
 | v :: vs, o, w => But.trans ((But.refl g w).setCell o v) (setCells_put g vs (o + 1) _)
theorem setCells_row {g : Nat} {t : TypeId} : ∀ (vs pre old : List Value) (w : World), old.length = vs.length → Blk w g t (pre ++ old).toArray → Blk (w.setCells g pre.length vs) g t (pre ++ vs).toArray
 | [], pre, old, w, hl, h => by
  have : old = [] := List.eq_nil_of_length_eq_zero (by simpa using hl); subst this; exact h
 | v :: vs, pre, [], w, hl, h => by simp at hl
 | v :: vs, pre, u :: old, w, hl, h => by
  have h1 := h.set_ pre.length v; have e : ((pre ++ u :: old).toArray.setIfInBounds pre.length v) = ((pre ++ [v]) ++ old).toArray := by simp
  rw [e] at h1; have := setCells_row vs (pre ++ [v]) old _ (by simpa using hl) h1; rw [World.setCells]; simpa using this
section
variable {P : Program} {ops : Array Oper} {o : Oper} {rest : List Oper} {a : Act} {w : World} {Q : Exit → Act → World → Prop}
theorem pbz (hgd : o.guard = none) (ty : TypeId) (x y : Operand) (ho : o.op = .store ty x y) (g : Nat) (old cs : Array Value) (t : TypeId) (hx : a.eval x = .pointer (some (Az g 0))) (hy : a.eval y = .agg cs)
  (hb : Blk w g t old) (hs : old.size = cs.size) (hi : (P.info? ty).map (·.size) = some cs.size) (h1 : cs.all (·.oneCell') = true)
  (h : ∀ w', Blk w' g t cs → But g w w' → wpList P ops Q rest (a.put o.dst undef) w') : wpList P ops Q (o :: rest) a w := by
 refine wpList_store_mid hgd ty x y ho g 0 cs hx hy (fun j hj => ?_) hi h1 (h _ ?_ (setCells_put g _ 0 w))
 ·have hj' : j < old.size := by omega
  rw [Nat.zero_add]; exact ⟨by rw [hb.cell]; simp [hj'], hb.frozen j⟩
 ·have := setCells_row (g := g) (t := t) cs.toList [] old.toList w (by simpa using hs) (by simpa using hb)
  simpa using this
theorem gbz (hgd : o.guard = none) (ty : TypeId) (x : Operand) (ho : o.op = .load ty x) (g : Nat) (cs : Array Value) (t : TypeId) (d : TypeDesc) (hx : a.eval x = .pointer (some (Az g 0)))
  (hb : Blk w g t cs) (hu : P.underlying ty = some d) (hd : (match d with | .struct _ | .array _ _ => true | _ => false) = true) (hi : (P.info? ty).map (·.size) = some cs.size)
  (h : wpList P ops Q rest (a.put o.dst (.agg cs)) w) : wpList P ops Q (o :: rest) a w :=
 wpList_load_row hgd ty x ho g hx t cs (0, 0) d hb hu hd hi h
end
theorem But.low {z : Nat} {w a : World} (h : But z w a) (hz : w.heap.size ≤ z) : Bz w a := h.to_below (Below.refl _ w) hz leZ
theorem own_grown {w w' : World} {B : Nat} {e : TypeId} {size n : Nat} {v : Value} {xs : List Value} (h : w.ownsRow B e size v n xs) (hg : w.grownBy w' v.ownBlock) (hB : B ≤ w.heap.size) : Below B w w' :=
 (Below.refl _ _).grown hg hB (fun k hk => by
  rcases h.2 with ⟨rfl, _⟩ | ⟨g', cap, cur, rfl, hgb, _⟩
  ·simp [Value.ownBlock] at hk
  ·simp [Value.ownBlock] at hk; omega)
theorem nds_but {w w' : World} {ok ok' : Nat → Prop} {A : Option Addr} {l : List Nd} {z : Nat} (h : NdsAt w ok A l) (hu : But z w w') (h1 : ∀ b, ok b → b ≠ z) (h2 : ∀ b, ok b → ok' b) : NdsAt w' ok' A l := fun k x hx => by
 obtain ⟨b, off, e, hk, hc, hT⟩ := h k x hx
 have hlt : b < w.heap.size := World.block_lt_of_cell? w _ (hc 0 _ rfl)
 exact ⟨b, off, e, h2 b hk, fun i u hi => (hu.cell (p := (Az b _)) hlt (h1 b hk)).trans (hc i u hi), (hT.but hu h1).mono (fun b _ hb => h2 b hb)⟩
def ndP (x : Nd) : NdP := (x.kind, x.count, stz x.rule)
def Credited (w : World) (pb : Nat) (A : Option Addr) (c e : Nat) (l : List Tok) (r : (Crd × List NdP) × St) (x : Ending) (w' : World) : Prop :=
 But pb w w' ∧ ParAt w' pb A c e l r.2 ∧ ∃ (T : List Nd) (A2 : Option Addr) (c2 : Nat), x = .returned (.agg (r.1.1.cells (.slice A2 T.length c2))) ∧ NdsAt w' (fun b => w.heap.size ≤ b) A2 T ∧ T.map ndP = r.1.2 ∧ T.length ≤ 5000
def zeroC : Array Value := (z8z 0 0 0 0 0 0 0 false false none 0 0)
theorem pd_call {w W W' : World} {pb g r : Nat} {cs ds : Array Value} (hR : Hid (Blk W r 41 ds)) (hC : Hid (Blk W g 41 cs)) (hB : Hid (But pb w W)) (hu : But pb W W') (n1 : Hid (r ≠ pb)) (n2 : Hid (g ≠ pb)) : Hid (Blk W' r 41 ds) ∧ Hid (Blk W' g 41 cs) ∧ Hid (But pb w W') :=
 ⟨hu.blk hR.out n1.out, hu.blk hC.out n2.out, hB.out.trans hu⟩
theorem pd_set {w W W' : World} {pb g r c e i : Nat} {A : Option Addr} {l : List Tok} {s : St} {cs cs' ds : Array Value} {v : Value} (hw : Hid (W.setCell (Az g i) v = W')) (hC : Hid (Blk W g 41 cs)) (hcs : cs.setIfInBounds i v = cs') (hR : Hid (Blk W r 41 ds)) (hB : Hid (But pb w W)) (hp : Hid (ParAt W pb A c e l s)) (ht : Hid (TokAt w pb A l)) (n1 : Hid (r ≠ g)) (n2 : Hid (g ≠ pb)) (hle : Hid (w.heap.size ≤ g)) :
  Hid (Blk W' g 41 cs') ∧ Hid (Blk W' r 41 ds) ∧ Hid (But pb w W') ∧ Hid (ParAt W' pb A c e l s) ∧ Hid (W.heap.size = W'.heap.size) := by
 obtain rfl := hw
 subst hcs
 have hB' : But pb w (W.setCell (Az g i) v) := hB.out.far hle.out _ _
 exact ⟨hC.out.set_ i v, hR.out.far (p := (Az g i)) n1.out _, hB', ⟨hp.out.row.far (p := (Az g i)) (Ne.symm n2.out) _, ht.out.but hB', hp.out.len, hp.out.pos⟩, by unfold Hid; simp⟩
theorem credit_any (w : World) (pb : Nat) (A : Option Addr) (c e : Nat) (l : List Tok) (st : St) (hp : Hid (ParAt w pb A c e l st)) (hok : Hid (TokOk l)) (he : Hid (Env w)) (h8 : Hid (8 ≤ pb)) :
  Cz 46 #[.pointer (some (Az pb 0))] w (Credited w pb A c e l (creditS e l st)) := by
 have e131 := enters_of Tryz.func131 (by kernel_rfl) rfl
 have e137 := enters_of Tryz.func137 (by kernel_rfl) rfl
 have e159 := enters_of Tryz.func159 (by kernel_rfl) rfl
 have ht := hdZ hp.out.tok
 have hpbs := hdZ hp.out.row.lt
 have hln0 := hp.out.len
 have ne_hR : Hid (w.heap.size ≠ pb) := by have := hpbs.out; unfold Hid; omega
 have ne_hC : Hid (w.heap.size + 1 ≠ pb) := by have := hpbs.out; unfold Hid; omega
 have ne_rn : Hid (w.heap.size ≠ w.heap.size + 1) := by unfold Hid; omega
 have ne1 := ne_rn.out
 have ne2 := ne_rn.out.symm
 have hle1 : Hid (w.heap.size ≤ w.heap.size + 1) := by unfold Hid; omega
 obtain ⟨i0, hi, hz0, hz1, hz2⟩ := info_parts (P := Tryz.prog) (e := 74) (z := .agg zeroD) (size := 8) (bytes := 96) (by kernel_rfl)
 have hR : Hid (Blk ((w.alloc (.cells zeroC 41)).alloc (.cells zeroC 41)) w.heap.size 41 zeroC) := (Blk.new w 41 zeroC).alloc _
 have hC : Hid (Blk ((w.alloc (.cells zeroC 41)).alloc (.cells zeroC 41)) (w.heap.size + 1) 41 zeroC) := by
  have h := Blk.new (w.alloc (.cells zeroC 41)) 41 zeroC; have hs : (w.alloc (.cells zeroC 41)).heap.size = w.heap.size + 1 := by simp
  rw [hs] at h; exact h
 have hb0 : Bz w ((w.alloc (.cells zeroC 41)).alloc (.cells zeroC 41)) := ((Below.refl _ w).alloc leZ _).alloc (by simp) _
 have hB := hdZ ((But.refl pb w).below hb0)
 have hp := hdZ (hp.out.below hb0)
 clear hb0
 go_enter Tryz.func46, Tryz.ntmps46
 go_wp2_with fail
 obtain ⟨wa, hwa⟩ := nmZ ((w.alloc (.cells zeroC 41)).alloc (.cells zeroC 41))
 have hwa' : ((w.alloc (.cells (z8z 0 0 0 0 0 0 0 false false none 0 0) 41)).alloc (.cells (z8z 0 0 0 0 0 0 0 false false none 0 0) 41)) = wa := hwa.out
 have hsa : Hid (w.heap.size + 1 + 1 = wa.heap.size) := by unfold Hid; rw [← hwa.out]; simp
 rw [hwa']
 rw [hwa.out] at hR hC hB hp
 try rw [hsa.out]
 obtain ⟨⟨t1, s1⟩, h1⟩ := nmZ (lineS e l wCredit st)
 refine (line_any_p wa pb A c e l st hp wCredit).mono ?_
 rintro x w1 ⟨rfl, hu, hq⟩
 rw [h1.out] at hq ⊢
 obtain ⟨hR, hC, hB⟩ := pd_call hR hC hB hu ne_hR ne_hC
 have hp := hdZ hq
 clear hu hq
 simp only at hp ⊢
 have hCc0 : w1.cell? ⟨(w.heap.size + 1), 0, none⟩ = some (S0z) := hC.out.cell 0
 have hCf0 := hC.out.frozen 0
 have hCl := hC.out.lt
 go_wp2_with fail
 obtain ⟨w2, hw⟩ := nmZ (w1.setCell ⟨(w.heap.size + 1), 0, none⟩ (Sz t1))
 obtain ⟨hC, hR, hB, hp, hsw⟩ := pd_set (cs' := #[Sz t1, S0z, S0z, S0z, S0z, S0z, S0z, S0z, Iz 0, Iz 0, Iz 0, Iz 0, Iz 0, Iz 0, Iz 0, .bool false, .bool false, .slice none 0 0]) hw hC rfl hR hB hp ht ne_rn ne_hC hle1
 rw [hw.out]
 clear hw hCc0 hCf0 hCl
 try rw [hsw.out]
 clear hsw
 obtain ⟨⟨t2, s2⟩, h2⟩ := nmZ (lineS e l wApz s1)
 refine (line_any_p w2 pb A c e l s1 hp wApz).mono ?_
 rintro x w3 ⟨rfl, hu, hq⟩
 rw [h2.out] at hq ⊢
 obtain ⟨hR, hC, hB⟩ := pd_call hR hC hB hu ne_hR ne_hC
 have hp := hdZ hq
 clear hu hq
 simp only at hp ⊢
 have hCc1 : w3.cell? ⟨(w.heap.size + 1), 1, none⟩ = some (S0z) := hC.out.cell 1
 have hCf1 := hC.out.frozen 1
 have hCl := hC.out.lt
 go_wp2_with fail
 obtain ⟨w4, hw⟩ := nmZ (w3.setCell ⟨(w.heap.size + 1), 1, none⟩ (Sz t2))
 obtain ⟨hC, hR, hB, hp, hsw⟩ := pd_set (cs' := #[Sz t1, Sz t2, S0z, S0z, S0z, S0z, S0z, S0z, Iz 0, Iz 0, Iz 0, Iz 0, Iz 0, Iz 0, Iz 0, .bool false, .bool false, .slice none 0 0]) hw hC rfl hR hB hp ht ne_rn ne_hC hle1
 rw [hw.out]
 clear hw hCc1 hCf1 hCl
 try rw [hsw.out]
 clear hsw
 obtain ⟨⟨t3, s3⟩, h3⟩ := nmZ (lineS e l wBnz s2)
 refine (line_any_p w4 pb A c e l s2 hp wBnz).mono ?_
 rintro x w5 ⟨rfl, hu, hq⟩
 rw [h3.out] at hq ⊢
 obtain ⟨hR, hC, hB⟩ := pd_call hR hC hB hu ne_hR ne_hC
 have hp := hdZ hq
 clear hu hq
 simp only at hp ⊢
 have hCc2 : w5.cell? ⟨(w.heap.size + 1), 2, none⟩ = some (S0z) := hC.out.cell 2
 have hCf2 := hC.out.frozen 2
 have hCl := hC.out.lt
 go_wp2_with fail
 obtain ⟨w6, hw⟩ := nmZ (w5.setCell ⟨(w.heap.size + 1), 2, none⟩ (Sz t3))
 obtain ⟨hC, hR, hB, hp, hsw⟩ := pd_set (cs' := #[Sz t1, Sz t2, Sz t3, S0z, S0z, S0z, S0z, S0z, Iz 0, Iz 0, Iz 0, Iz 0, Iz 0, Iz 0, Iz 0, .bool false, .bool false, .slice none 0 0]) hw hC rfl hR hB hp ht ne_rn ne_hC hle1
 rw [hw.out]
 clear hw hCc2 hCf2 hCl
 try rw [hsw.out]
 clear hsw
 obtain ⟨⟨t4, s4⟩, h4⟩ := nmZ (lineS e l wIssuer s3)
 refine (line_any_p w6 pb A c e l s3 hp wIssuer).mono ?_
 rintro x w7 ⟨rfl, hu, hq⟩
 rw [h4.out] at hq ⊢
 obtain ⟨hR, hC, hB⟩ := pd_call hR hC hB hu ne_hR ne_hC
 have hp := hdZ hq
 clear hu hq
 simp only at hp ⊢
 have hCc3 : w7.cell? ⟨(w.heap.size + 1), 3, none⟩ = some (S0z) := hC.out.cell 3
 have hCf3 := hC.out.frozen 3
 have hCl := hC.out.lt
 go_wp2_with fail
 obtain ⟨w8, hw⟩ := nmZ (w7.setCell ⟨(w.heap.size + 1), 3, none⟩ (Sz t4))
 obtain ⟨hC, hR, hB, hp, hsw⟩ := pd_set (cs' := #[Sz t1, Sz t2, Sz t3, Sz t4, S0z, S0z, S0z, S0z, Iz 0, Iz 0, Iz 0, Iz 0, Iz 0, Iz 0, Iz 0, .bool false, .bool false, .slice none 0 0]) hw hC rfl hR hB hp ht ne_rn ne_hC hle1
 rw [hw.out]
 clear hw hCc3 hCf3 hCl
 try rw [hsw.out]
 clear hsw
 refine (word_any _ _ _ _).mono ?_
 rintro x wz ⟨rfl, rfl⟩
 go_wp2_with fail
 have hR := hdZ (hR.out.below (bwz w8 wCfz) hR.out.lt)
 have hC := hdZ (hC.out.below (bwz w8 wCfz) hC.out.lt)
 have hB := hdZ (hB.out.below (bwz w8 wCfz))
 have hp := hdZ (hp.out.below (bwz w8 wCfz))
 obtain ⟨b5, h5b⟩ := nmZ (askS l s4 0 (wdz wCfz))
 refine (sees_any (wOne w8 wCfz) pb A c e l s4 131 _ e131 (wdz wCfz) hp (word_new w8 wCfz)).mono ?_
 rintro x w9 ⟨rfl, hb⟩
 rw [h5b.out]
 have hR := hdZ (hR.out.below hb hR.out.lt)
 have hC := hdZ (hC.out.below hb hC.out.lt)
 have hB := hdZ (hB.out.below hb)
 have hp := hdZ (hp.out.below hb)
 clear hb
 go_upto_if 19 with fail
 obtain ⟨⟨t5, s5⟩, h5⟩ := nmZ (confS e l s4)
 go_cut [] (fun wx => Hid (But pb w wx) ∧ Hid (ParAt wx pb A c e l s5) ∧ Hid (Blk wx w.heap.size 41 zeroC) ∧ Hid (Blk wx (w.heap.size + 1) 41 #[Sz t1, Sz t2, Sz t3, Sz t4, Sz t5, S0z, S0z, S0z, Iz 0, Iz 0, Iz 0, Iz 0, Iz 0, Iz 0, Iz 0, .bool false, .bool false, .slice none 0 0]))
 case first =>
  cases b5 with
  | false =>
   have hcf : confS e l s4 = ([], s4) := by unfold confS; rw [if_neg (by rw [h5b.out]; simp)]
   obtain ⟨rfl, rfl⟩ : [] = t5 ∧ s4 = s5 := by have := h5.out; rw [hcf] at this; exact Prod.mk.inj this
   go_wp2_with fail
   go_meet
   case rel => exact ⟨hB, hp, hR, hC⟩
  | true =>
   have hcf : confS e l s4 = lineS e l wCfz s4 := by unfold confS; rw [if_pos h5b.out]
   rw [hcf] at h5; go_wp2_with fail; refine (line_any_p w9 pb A c e l s4 hp wCfz).mono ?_; rintro x w10 ⟨rfl, hu, hq⟩; rw [h5.out] at hq ⊢; obtain ⟨hR, hC, hB⟩ := pd_call hR hC hB hu ne_hR ne_hC; have hp := hdZ hq; clear hu hq; simp only at hp ⊢; have hCc4 : w10.cell? ⟨(w.heap.size + 1), 4, none⟩ = some (S0z) := hC.out.cell 4; have hCf4 := hC.out.frozen 4; have hCl := hC.out.lt; go_wp2_with fail; obtain ⟨w11, hw⟩ := nmZ (w10.setCell ⟨(w.heap.size + 1), 4, none⟩ (Sz t5)); obtain ⟨hC, hR, hB, hp, hsw⟩ := pd_set (cs' := #[Sz t1, Sz t2, Sz t3, Sz t4, Sz t5, S0z, S0z, S0z, Iz 0, Iz 0, Iz 0, Iz 0, Iz 0, Iz 0, Iz 0, .bool false, .bool false, .slice none 0 0]) hw hC rfl hR hB hp ht ne_rn ne_hC hle1; rw [hw.out]; clear hw hCc4 hCf4 hCl; try rw [hsw.out]
   clear hsw
   go_meet
   case rel => exact ⟨hB, hp, hR, hC⟩
 case rest =>
  clear hB hp hR hC; obtain ⟨hB, hp, hR, hC⟩ := hcut; obtain ⟨w20, hw5⟩ : ∃ y, wc = y := ⟨_, rfl⟩; rw [hw5] at hB hp hR hC ⊢; clear hw5; go_wp2_with fail; obtain ⟨⟨t6, s6⟩, h6⟩ := nmZ (lineS e l wFrom s5); refine (line_any_p w20 pb A c e l s5 hp wFrom).mono ?_; rintro x w21 ⟨rfl, hu, hq⟩; rw [h6.out] at hq ⊢; obtain ⟨hR, hC, hB⟩ := pd_call hR hC hB hu ne_hR ne_hC; have hp := hdZ hq; clear hu hq; simp only at hp ⊢; have hCc5 : w21.cell? ⟨(w.heap.size + 1), 5, none⟩ = some (S0z) := hC.out.cell 5; have hCf5 := hC.out.frozen 5; have hCl := hC.out.lt; go_wp2_with fail; obtain ⟨w22, hw⟩ := nmZ (w21.setCell ⟨(w.heap.size + 1), 5, none⟩ (Sz t6)); obtain ⟨hC, hR, hB, hp, hsw⟩ := pd_set (cs' := #[Sz t1, Sz t2, Sz t3, Sz t4, Sz t5, Sz t6, S0z, S0z, Iz 0, Iz 0, Iz 0, Iz 0, Iz 0, Iz 0, Iz 0, .bool false, .bool false, .slice none 0 0]) hw hC rfl hR hB hp ht ne_rn ne_hC hle1; rw [hw.out]; clear hw hCc5 hCf5 hCl; try rw [hsw.out]
  clear hsw; obtain ⟨⟨t7, s7⟩, h7⟩ := nmZ (lineS e l wTo s6); refine (line_any_p w22 pb A c e l s6 hp wTo).mono ?_; rintro x w23 ⟨rfl, hu, hq⟩; rw [h7.out] at hq ⊢; obtain ⟨hR, hC, hB⟩ := pd_call hR hC hB hu ne_hR ne_hC; have hp := hdZ hq; clear hu hq; simp only at hp ⊢; have hCc6 : w23.cell? ⟨(w.heap.size + 1), 6, none⟩ = some (S0z) := hC.out.cell 6; have hCf6 := hC.out.frozen 6; have hCl := hC.out.lt; go_wp2_with fail; obtain ⟨w24, hw⟩ := nmZ (w23.setCell ⟨(w.heap.size + 1), 6, none⟩ (Sz t7)); obtain ⟨hC, hR, hB, hp, hsw⟩ := pd_set (cs' := #[Sz t1, Sz t2, Sz t3, Sz t4, Sz t5, Sz t6, Sz t7, S0z, Iz 0, Iz 0, Iz 0, Iz 0, Iz 0, Iz 0, Iz 0, .bool false, .bool false, .slice none 0 0]) hw hC rfl hR hB hp ht ne_rn ne_hC hle1; rw [hw.out]; clear hw hCc6 hCf6 hCl; try rw [hsw.out]
  clear hsw; obtain ⟨⟨u8, s8⟩, h8s⟩ := nmZ (sumS e l s7); refine (sum_any w w24 pb A c e l s7 (w.heap.size + 1) (Sz t1) (Sz t2) (Sz t3) (Sz t4) (Sz t5) (Sz t6) (Sz t7) (S0z) (Iz 0) (Iz 0) (Iz 0) (Iz 0) (Iz 0) (Iz 0) (Iz 0) (.bool false) (.bool false) (.slice none 0 0) w.heap.size 41 zeroC hB ht hle1 ne_hC ne_hR ne_rn hC hR hp hok).mono ?_; rintro x w25 ⟨rfl, hB8, hC8, hR8, hp8⟩; rw [h8s.out] at hC8 hp8; have hB := hdZ hB8; have hC := hdZ hC8; have hR := hdZ hR8; have hp := hdZ hp8; simp only at hC hp; clear hB8 hC8 hR8 hp8; go_wp2_with fail; obtain ⟨⟨n9, s9⟩, h9⟩ := nmZ (dayS e l wLatest s8); refine (day_any_p w25 pb A c e l s8 hp hok wLatest).mono ?_; rintro x w26 ⟨rfl, hu, hq⟩; rw [h9.out] at hq ⊢; obtain ⟨hR, hC, hB⟩ := pd_call hR hC hB hu ne_hR ne_hC; have hp := hdZ hq; clear hu hq; simp only at hp ⊢; have hCc11 : w26.cell? ⟨(w.heap.size + 1), 11, none⟩ = some (Iz 0) := hC.out.cell 11; have hCf11 := hC.out.frozen 11; have hCl := hC.out.lt; go_wp2_with fail; obtain ⟨w27, hw⟩ := nmZ (w26.setCell ⟨(w.heap.size + 1), 11, none⟩ (Iz n9)); obtain ⟨hC, hR, hB, hp, hsw⟩ := pd_set (cs' := #[Sz t1, Sz t2, Sz t3, Sz t4, Sz t5, Sz t6, Sz t7, .string ⟨u8.cur.toArray⟩, Iz u8.amount, Iz u8.above, Iz u8.below, Iz n9, Iz 0, Iz 0, Iz 0, .bool false, .bool false, .slice none 0 0]) hw hC rfl hR hB hp ht ne_rn ne_hC hle1; rw [hw.out]; clear hw hCc11 hCf11 hCl; try rw [hsw.out]
  clear hsw; obtain ⟨⟨n10, s10⟩, h10⟩ := nmZ (dayS e l wExpiry s9); refine (day_any_p w27 pb A c e l s9 hp hok wExpiry).mono ?_; rintro x w28 ⟨rfl, hu, hq⟩; rw [h10.out] at hq ⊢; obtain ⟨hR, hC, hB⟩ := pd_call hR hC hB hu ne_hR ne_hC; have hp := hdZ hq; clear hu hq; simp only at hp ⊢; have hCc12 : w28.cell? ⟨(w.heap.size + 1), 12, none⟩ = some (Iz 0) := hC.out.cell 12; have hCf12 := hC.out.frozen 12; have hCl := hC.out.lt; go_wp2_with fail; obtain ⟨w29, hw⟩ := nmZ (w28.setCell ⟨(w.heap.size + 1), 12, none⟩ (Iz n10)); obtain ⟨hC, hR, hB, hp, hsw⟩ := pd_set (cs' := #[Sz t1, Sz t2, Sz t3, Sz t4, Sz t5, Sz t6, Sz t7, .string ⟨u8.cur.toArray⟩, Iz u8.amount, Iz u8.above, Iz u8.below, Iz n9, Iz n10, Iz 0, Iz 0, .bool false, .bool false, .slice none 0 0]) hw hC rfl hR hB hp ht ne_rn ne_hC hle1; rw [hw.out]; clear hw hCc12 hCf12 hCl; try rw [hsw.out]
  clear hsw; refine (word_any _ _ _ _).mono ?_; rintro x wz ⟨rfl, rfl⟩; go_wp2_with fail; have hR := hdZ (hR.out.below (bwz w29 wWithin) hR.out.lt); have hC := hdZ (hC.out.below (bwz w29 wWithin) hC.out.lt); have hB := hdZ (hB.out.below (bwz w29 wWithin)); have hp := hdZ (hp.out.below (bwz w29 wWithin)); obtain ⟨⟨t11, s11⟩, h11⟩ := nmZ (tkz e l (wdz wWithin) s10); refine (tnz (wOne w29 wWithin) pb A c e l s10 131 _ e131 (wdz wWithin) hp (word_new w29 wWithin)).mono ?_; rintro x w30 ⟨rfl, hu, hq⟩; rw [h11.out] at hq ⊢; obtain ⟨hR, hC, hB⟩ := pd_call hR hC hB hu ne_hR ne_hC; have hp := hdZ hq; clear hu hq; simp only at hp ⊢; go_wp2_with fail; obtain ⟨⟨n12, s12⟩, h12⟩ := nmZ (numS e l 0 1048576 s11); refine (days_any w30 pb A c e l s11 hp hok 0).mono ?_; rintro x w31 ⟨rfl, hu, hq⟩; rw [h12.out] at hq ⊢; obtain ⟨hR, hC, hB⟩ := pd_call hR hC hB hu ne_hR ne_hC; have hp := hdZ hq; clear hu hq; simp only at hp ⊢; have hCc13 : w31.cell? ⟨(w.heap.size + 1), 13, none⟩ = some (Iz 0) := hC.out.cell 13; have hCf13 := hC.out.frozen 13; have hCl := hC.out.lt; go_wp2_with fail; obtain ⟨w32, hw⟩ := nmZ (w31.setCell ⟨(w.heap.size + 1), 13, none⟩ (Iz n12)); obtain ⟨hC, hR, hB, hp, hsw⟩ := pd_set (cs' := #[Sz t1, Sz t2, Sz t3, Sz t4, Sz t5, Sz t6, Sz t7, .string ⟨u8.cur.toArray⟩, Iz u8.amount, Iz u8.above, Iz u8.below, Iz n9, Iz n10, Iz n12, Iz 0, .bool false, .bool false, .slice none 0 0]) hw hC rfl hR hB hp ht ne_rn ne_hC hle1; rw [hw.out]; clear hw hCc13 hCf13 hCl; try rw [hsw.out]
  clear hsw; refine (word_any _ _ _ _).mono ?_; rintro x wz ⟨rfl, rfl⟩; go_wp2_with fail; have hR := hdZ (hR.out.below (bwz w32 wDays) hR.out.lt); have hC := hdZ (hC.out.below (bwz w32 wDays) hC.out.lt); have hB := hdZ (hB.out.below (bwz w32 wDays)); have hp := hdZ (hp.out.below (bwz w32 wDays)); obtain ⟨⟨t13, s13⟩, h13⟩ := nmZ (tkz e l (wdz wDays) s12); refine (tnz (wOne w32 wDays) pb A c e l s12 131 _ e131 (wdz wDays) hp (word_new w32 wDays)).mono ?_; rintro x w33 ⟨rfl, hu, hq⟩; rw [h13.out] at hq ⊢; obtain ⟨hR, hC, hB⟩ := pd_call hR hC hB hu ne_hR ne_hC; have hp := hdZ hq; clear hu hq; simp only at hp ⊢; go_wp2_with fail; obtain ⟨s14, h14⟩ := nmZ (endS e l s13); refine (end_any w33 pb A c e l s13 hp).mono ?_; rintro x w34 ⟨rfl, hu, hq⟩; rw [h14.out] at hq; obtain ⟨hR, hC, hB⟩ := pd_call hR hC hB hu ne_hR ne_hC; have hp := hdZ hq; clear hu hq; go_wp2_with fail; obtain ⟨⟨n15, s15⟩, h15⟩ := nmZ (tenorS e l s14); refine (tenor_any w34 pb A c e l s14 hp hok).mono ?_; rintro x w35 ⟨rfl, hu, hq⟩; rw [h15.out] at hq ⊢; obtain ⟨hR, hC, hB⟩ := pd_call hR hC hB hu ne_hR ne_hC; have hp := hdZ hq; clear hu hq; simp only at hp ⊢; have hCc14 : w35.cell? ⟨(w.heap.size + 1), 14, none⟩ = some (Iz 0) := hC.out.cell 14; have hCf14 := hC.out.frozen 14; have hCl := hC.out.lt; go_wp2_with fail; obtain ⟨w36, hw⟩ := nmZ (w35.setCell ⟨(w.heap.size + 1), 14, none⟩ (Iz n15)); obtain ⟨hC, hR, hB, hp, hsw⟩ := pd_set (cs' := #[Sz t1, Sz t2, Sz t3, Sz t4, Sz t5, Sz t6, Sz t7, .string ⟨u8.cur.toArray⟩, Iz u8.amount, Iz u8.above, Iz u8.below, Iz n9, Iz n10, Iz n12, Iz n15, .bool false, .bool false, .slice none 0 0]) hw hC rfl hR hB hp ht ne_rn ne_hC hle1; rw [hw.out]; clear hw hCc14 hCf14 hCl; try rw [hsw.out]
  clear hsw; obtain ⟨⟨b16, s16⟩, h16⟩ := nmZ (choiceS e l wPartial s15); refine (choice_any w36 pb A c e l s15 hp wPartial).mono ?_; rintro x w37 ⟨rfl, hu, hq⟩; rw [h16.out] at hq ⊢; obtain ⟨hR, hC, hB⟩ := pd_call hR hC hB hu ne_hR ne_hC; have hp := hdZ hq; clear hu hq; simp only at hp ⊢; have hCc15 : w37.cell? ⟨(w.heap.size + 1), 15, none⟩ = some (.bool false) := hC.out.cell 15; have hCf15 := hC.out.frozen 15; have hCl := hC.out.lt; go_wp2_with fail; obtain ⟨w38, hw⟩ := nmZ (w37.setCell ⟨(w.heap.size + 1), 15, none⟩ (.bool b16)); obtain ⟨hC, hR, hB, hp, hsw⟩ := pd_set (cs' := #[Sz t1, Sz t2, Sz t3, Sz t4, Sz t5, Sz t6, Sz t7, .string ⟨u8.cur.toArray⟩, Iz u8.amount, Iz u8.above, Iz u8.below, Iz n9, Iz n10, Iz n12, Iz n15, .bool b16, .bool false, .slice none 0 0]) hw hC rfl hR hB hp ht ne_rn ne_hC hle1; rw [hw.out]; clear hw hCc15 hCf15 hCl; try rw [hsw.out]
  clear hsw; obtain ⟨⟨b17, s17⟩, h17⟩ := nmZ (choiceS e l wChange s16); refine (choice_any w38 pb A c e l s16 hp wChange).mono ?_; rintro x w39 ⟨rfl, hu, hq⟩; rw [h17.out] at hq ⊢; obtain ⟨hR, hC, hB⟩ := pd_call hR hC hB hu ne_hR ne_hC; have hp := hdZ hq; clear hu hq; simp only at hp ⊢; have hCc16 : w39.cell? ⟨(w.heap.size + 1), 16, none⟩ = some (.bool false) := hC.out.cell 16; have hCf16 := hC.out.frozen 16; have hCl := hC.out.lt
  go_upto_region 20 with fail
  obtain ⟨w40, hw⟩ := nmZ (w39.setCell ⟨(w.heap.size + 1), 16, none⟩ (.bool b17)); obtain ⟨hC, hR, hB, hp, hsw⟩ := pd_set (cs' := #[Sz t1, Sz t2, Sz t3, Sz t4, Sz t5, Sz t6, Sz t7, .string ⟨u8.cur.toArray⟩, Iz u8.amount, Iz u8.above, Iz u8.below, Iz n9, Iz n10, Iz n12, Iz n15, .bool b16, .bool b17, .slice none 0 0]) hw hC rfl hR hB hp ht ne_rn ne_hC hle1; rw [hw.out]; clear hw hCc16 hCf16 hCl; try rw [hsw.out]
  clear hsw; obtain ⟨cr, hcr⟩ : ∃ x : Crd, Hid ((⟨t1, t2, t3, t4, t5, t6, t7, u8.cur, u8.amount, u8.above, u8.below, n9, n10, n12, n15, b16, b17⟩ : Crd) = x) := ⟨_, hdZ rfl⟩
  have hr : Hid (creditS e l st = ((cr, (needsS e l (l.length + 1) 0 s17).1), (needsS e l (l.length + 1) 0 s17).2)) := by
   unfold Hid creditS; simp only [h1.out, h2.out, h3.out, h4.out, h5.out, h6.out, h7.out, h8s.out, h9.out, h10.out, h11.out, h12.out, h13.out, h14.out, h15.out, h16.out, h17.out, hcr.out]
  have hC : Hid (Blk w40 (w.heap.size + 1) 41 (cr.cells (.slice none 0 0))) := by unfold Hid; rw [← hcr.out]; exact hC.out
  have hsz : Hid (w.heap.size + 2 ≤ w40.heap.size) := by have := hC.out.lt; unfold Hid; omega
  clear hcr h1 h2 h3 h4 h5 h6 h7 h8s h9 h10 h11 h12 h13 h14 h15 h16 h17; obtain ⟨crs, hcrs⟩ := nmZ (creditS e l st); rw [hcrs.out] at hr
  go_loopg [] (l.length + 1) (fun gg wr => ∃ (g0 : Nat) (T : List Nd) (s1 : St) (p : Option Addr) (cc : Nat), gg = g0 ∧ Hid (crs = ((cr, T.map ndP ++ (needsS e l g0 T.length s1).1), (needsS e l g0 T.length s1).2)) ∧ T.length + g0 = l.length + 1 ∧ (s1.cd = 0 → l.length - s1.k < g0) ∧ Hid (Blk wr (w.heap.size + 1) 41 (cr.cells (.slice p T.length cc))) ∧ Hid (wr.ownsRow (w.heap.size + 2) 74 8 (.slice p T.length cc) T.length (ndsL T)) ∧ Hid (∀ x ∈ T, TAz wr (fun b => w.heap.size + 2 ≤ b ∧ (Value.slice p T.length cc).ownBlock ≠ some b) x.rule) ∧ Hid (ParAt wr pb A c e l s1) ∧ Hid (But pb w wr) ∧ Hid (Blk wr w.heap.size 41 zeroC) ∧ Hid (w.heap.size + 2 ≤ wr.heap.size))
  case atStart => exact ⟨l.length + 1, [], s17, none, 0, rfl, hr, by simp, fun _ => by omega, hC, ⟨by simp [ndsL], .inl ⟨rfl, rfl⟩⟩, (fun x hx => by simp at hx), hp, hB, hR, hsz⟩
  case round =>
   clear hB hp hR hC hsz hr; obtain ⟨g0, T, s1, p, cc, hg0, hrr, hTg, hfuel, hC, hown, hts, hp, hB, hR, hsz⟩ := hrel; have hTg' := hdZ hTg; have hg0' := hdZ hg0; clear hg0; have hfuel' := hdZ hfuel; clear hTg hfuel; obtain ⟨k1, hk1⟩ := nmZ (s1.k); obtain ⟨cd1, hcd1⟩ := nmZ (s1.cd); have c0 : wr.cell? (Az pb 0) = some (.slice A l.length c) := hp.out.row.cell 0; have c1 : wr.cell? (Az pb 1) = some (Iz k1) := by rw [← hk1.out]; exact hp.out.row.cell 1
   have c4 : wr.cell? (Az pb 4) = some (Iz cd1) := by rw [← hcd1.out]; exact hp.out.row.cell 4
   by_cases hgo : s1.cd = 0 ∧ s1.k < l.length
   ·obtain ⟨hz, hlt⟩ := hgo
    obtain ⟨m, hm⟩ : ∃ m, g0 = m + 1 := by have := hfuel'.out hz; exact ⟨g0 - 1, by omega⟩
    subst hm; have b1 : (cd1 == 0) = true := by rw [← hcd1.out, hz]; rfl
    have b2 : decide ((k1 : Int) < (l.length : Int)) = true := by rw [← hk1.out]; simp; omega
    have b3 : k1 < l.length := by rw [← hk1.out]; exact hlt
    have hz' := hdZ hz; have hlt' := hdZ hlt; clear hz hlt; obtain ⟨sF, hsF⟩ := nmZ (fullS e l T.length s1)
    have hstep : Hid (crs = ((cr, T.map ndP ++ ((needS e l sF).1 :: (needsS e l m (T.length + 1) (needS e l sF).2).1)), (needsS e l m (T.length + 1) (needS e l sF).2).2)) := by
     have h := hrr.out; rw [needsS, if_pos ⟨hz'.out, hlt'.out⟩, hsF.out] at h; exact h
    clear hrr; go_wp2_with fail
    go_quiet (fail)
    go_upto_region 21 with fail
    obtain ⟨wq, hwq⟩ := nmZ (wr.drewN nq); have hbq : Hid (Bz wr wq) := by rw [← hwq.out]; exact bdz (Below.refl _ _) _
    rw [hwq.out]; have hp := hdZ (hp.out.below hbq.out); have hB := hdZ (hB.out.below hbq.out); have hC := hdZ (hC.out.below hbq.out hC.out.lt); have hR := hdZ (hR.out.below hbq.out hR.out.lt); have hown := hdZ (own_below hown.out hbq.out); have hts : Hid (∀ x ∈ T, TAz wq (fun b => w.heap.size + 2 ≤ b ∧ (Value.slice p T.length cc).ownBlock ≠ some b) x.rule) := fun x hx => (hts.out x hx).below hbq.out
    have hsz : Hid (w.heap.size + 2 ≤ wq.heap.size) := Nat.le_trans hsz.out hbq.out.size; clear hwq hbq c0 c1 c4 b1 b2 b3; have cc17 : wq.cell? ⟨w.heap.size + 1, 17, none⟩ = some (.slice p T.length cc) := hC.out.cell 17; obtain ⟨bw, hbw⟩ := nmZ (askS l s1 0 (wdz wWz))
    go_cut [85] from 59 to 96 (fun v wx => v = .bool (decide (64 ≤ T.length) && bw) ∧ Hid (Bz wq wx))
    case first =>
     by_cases h64 : 64 ≤ T.length
     ·have b1 : decide ((64 : Int) ≤ (T.length : Int)) = true := by simp; omega
      have e64 := hdZ (decide_eq_true h64); clear h64; go_wp2_with fail; refine (word_any _ _ _ _).mono ?_; rintro x wz ⟨rfl, rfl⟩; go_wp2_with fail; refine (sees_any (wOne wq wWz) pb A c e l s1 131 _ e131 (wdz wWz) (hdZ (hp.out.below (bwz wq wWz))) (word_new wq wWz)).mono ?_; rintro x wv ⟨rfl, hb⟩; rw [hbw.out]; go_wp2_with fail
      go_meet
      case rel => exact ⟨by rw [e64.out]; simp, (bwz wq wWz).trans (hb.mono (by rw [size_wOne]; omega))⟩
     ·have b1 : decide ((64 : Int) ≤ (T.length : Int)) = false := by simp; omega
      have e64 := hdZ (decide_eq_false h64); clear h64; go_wp2_with fail
      go_meet
      case rel => exact ⟨by rw [e64.out]; simp, Below.refl _ _⟩
    case rest =>
     obtain ⟨rfl, hbx⟩ := hcut; obtain ⟨wx, hwx⟩ := nmZ (wc); rw [hwx.out] at hbx ⊢; have hp := hdZ (hp.out.below hbx.out); have hB := hdZ (hB.out.below hbx.out); have hC := hdZ (hC.out.below hbx.out hC.out.lt); have hR := hdZ (hR.out.below hbx.out hR.out.lt); have hown := hdZ (own_below hown.out hbx.out); have hts : Hid (∀ x ∈ T, TAz wx (fun b => w.heap.size + 2 ≤ b ∧ (Value.slice p T.length cc).ownBlock ≠ some b) x.rule) := fun x hx => (hts.out x hx).below hbx.out
     have hsz : Hid (w.heap.size + 2 ≤ wx.heap.size) := Nat.le_trans hsz.out hbx.out.size; clear hwx hbx cc17; obtain ⟨bf, hbf⟩ := nmZ ((decide (64 ≤ T.length) && bw))
     have hsf : Hid ((if bf = true then failS s1 (placeS e l s1) 7 else s1) = sF) := by
      rw [← hsF.out, ← hbf.out, ← hbw.out]; unfold Hid fullS
      by_cases h1 : 64 ≤ T.length ∧ askS l s1 0 (wdz wWz) = true
      ·rw [if_pos h1, if_pos (by simp [h1.1, h1.2])]
      ·rw [if_neg h1, if_neg (by simpa using h1)]
     rw [hbf.out]
     go_upto_if 85 with fail
     go_cut [] from 59 to 96 (fun wv => Hid (ParAt wv pb A c e l sF) ∧ Hid (But pb wx wv))
     case first =>
      cases bf with
      | true =>
       rw [if_pos rfl] at hsf; go_wp2_with fail; refine (place_any wx pb A c e l s1 hp).mono ?_; rintro x wv ⟨rfl, hb⟩; go_wp2_with fail; refine (fail_any wv pb A c e l s1 _ 7 (hdZ (hp.out.below hb))).mono ?_; rintro x wu ⟨rfl, hb2, hp2⟩; rw [hsf.out] at hp2; go_wp2_with fail
       go_meet
       case rel => exact ⟨hp2, ((But.refl pb wx).below hb).trans hb2⟩
      | false =>
       rw [if_neg (by simp)] at hsf; go_wp2_with fail
       go_meet
       case rel => exact ⟨by rw [← hsf.out]; exact hp.out, But.refl _ _⟩
     case rest =>
      obtain ⟨hpF, hux⟩ := hcut; obtain ⟨wv, hwv⟩ := nmZ (wc); rw [hwv.out] at hpF hux ⊢; have hp := hpF; have hB := hdZ (hB.out.trans hux.out); have hC := hdZ (hux.out.blk hC.out ne_hC.out); have hR := hdZ (hux.out.blk hR.out ne_hR.out); have hown := hdZ (own_but hown.out hux.out (by have := hpbs.out; omega)); have hts : Hid (∀ x ∈ T, TAz wv (fun b => w.heap.size + 2 ≤ b ∧ (Value.slice p T.length cc).ownBlock ≠ some b) x.rule) := fun x hx => (hts.out x hx).but hux.out (fun b hb => by have := hb.1; have := hpbs.out; omega)
      have hsz : Hid (w.heap.size + 2 ≤ wv.heap.size) := Nat.le_trans hsz.out hux.out.size; clear hwv hux hpF hsf hbf; have hq1 : Hid (T.length + 1 ≤ maxLen) := by have := hTg'.out; unfold Hid maxLen; omega
      have hq2 : Hid ((T.length + 1) * 96 ≤ 140737488355328) := by have := hTg'.out; unfold Hid; omega
      obtain ⟨⟨⟨nk, nn, nr⟩, sN⟩, hnd⟩ := nmZ (needS e l sF); rw [hnd.out] at hstep
      have hcall : Hid (∀ W, Bz wv W → Cz 95 #[.pointer (some (Az pb 0))] W (Needed W pb A c e l ((nk, nn, nr), sN))) := fun W hW => by
       have h := need_any_p W pb A c e l sF (hdZ (hp.out.below hW)) hok (hdZ (he.out.but (hB.out.below hW) h8.out)) h8; rw [hnd.out] at h; exact h
      go_wp2_with fail; have hS0 := hdZ (show wv.drew.cell? ⟨w.heap.size + 1, 17, none⟩ = some (.slice p T.length cc) from (hC.out.below (Below.refl _ _).drew hC.out.lt).cell 17); refine wp_region_held (S := fun _ => True) (by kernel_rfl) ?_; refine wpAnyH_take (i := 0) rfl (by kernel_rfl) (by kernel_rfl) (by kernel_rfl) (fun _ _ _ h => h) (yields_of (v := .pointer (some ⟨w.heap.size + 1, 17, none⟩)) rfl (fun _ _ => by go_simp)) trivial ?_; go_simp; refine wpAnyH_take (i := 2) rfl (by kernel_rfl) (by kernel_rfl) (by kernel_rfl) (fun _ _ _ h => h) (yields_of rfl (fun _ _ => rfl)) trivial ?_; go_simp; refine wpAnyH_all (rs := [1, 3]) (by kernel_rfl) (by decide) ?_; intro i hi'; simp only [List.mem_cons, List.not_mem_nil, or_false] at hi'
      rcases hi' with rfl | rfl
      ·refine held_value (v := .slice p T.length cc) (w' := wv.drew) rfl rfl (by have := hS0.out; go_simp) ?_
       refine ⟨trivial, ?_⟩; go_simp; refine wpAnyH_all (rs := [3]) (by kernel_rfl) (by decide) ?_; intro i hi'; obtain rfl := List.mem_singleton.1 hi'; refine held_call (f := 95) (args := #[.pointer (some (Az pb 0))]) rfl rfl (by go_simp) ?_; refine (hcall.out _ (Below.refl _ _).drew).mono ?_; rintro x v1 ⟨hu1, hp1, ⟨uk, up, uf, ux, un, uA, uc, uL⟩, rfl, htr1, hst1⟩; refine ⟨_, rfl, trivial, ?_⟩; unfold needC; have hud : Hid (But pb wv v1) := ((But.refl pb wv).below (Below.refl _ _).drew).trans hu1; have hC1 := hdZ (hud.out.blk hC.out ne_hC.out); have hS1 := hdZ (show v1.cell? ⟨w.heap.size + 1, 17, none⟩ = some (.slice p T.length cc) from hC1.out.cell 17); have hC2 := hdZ (hC1.out.alloc (.cells (z4z nk nn uk up uf ux un uA uL.length uc) 74)); have hS2 := hdZ (show (v1.alloc (.cells (z4z nk nn uk up uf ux un uA uL.length uc) 74)).cell? ⟨w.heap.size + 1, 17, none⟩ = some (.slice p T.length cc) from hC2.out.cell 17); have hR2 := hdZ ((hud.out.blk hR.out ne_hR.out).alloc (.cells (z4z nk nn uk up uf ux un uA uL.length uc) 74)); have hown2 := hdZ ((own_but hown.out hud.out (by have := hpbs.out; omega)).alloc (.cells (z4z nk nn uk up uf ux un uA uL.length uc) 74)); have hsz2 : Hid (w.heap.size + 2 ≤ (v1.alloc (.cells (z4z nk nn uk up uf ux un uA uL.length uc) 74)).heap.size) := Nat.le_trans hsz.out (Nat.le_trans hud.out.size (by simp)); have hp1' := hdZ hp1; have htr1' := hdZ htr1; have hst1' := hdZ hst1; have hN5 := hdZ (Blk.new v1 74 (z4z nk nn uk up uf ux un uA uL.length uc)); clear hu1 hp1 htr1 hst1; go_simp; refine wpAnyH_all (rs := [4]) (by kernel_rfl) (by decide) ?_; intro i hi'; obtain rfl := List.mem_singleton.1 hi'; refine held_value (v := .slice (some (Az v1.heap.size 0)) 1 1) (w' := v1.alloc (.cells (z4z nk nn uk up uf ux un uA uL.length uc) 74)) rfl rfl (by go_simp) ?_; refine ⟨trivial, ?_⟩; go_simp; refine wpAnyH_all (rs := [5]) (by kernel_rfl) (by decide) ?_; intro i hi'; obtain rfl := List.mem_singleton.1 hi'; refine held_append rfl rfl (.tmp 91) (.tmp 94) 39 rfl (w.heap.size + 2) 74 i0 _ 8 96 Tryz.underlying39 hi hz0 hz1 hz2 rfl (by decide) (.slice p T.length cc) T.length (ndsL T) rfl hown2.out _ (some (Az v1.heap.size 0)) 1 1 _ rfl (blk_reads hN5.out 8 1 rfl) (need_one _ _ _ _ _ _ _ _ _ _) hq1.out hq2.out hsz2.out ?_; intro v6 w6 ho6 hg6 hv6; obtain ⟨p6, c6, rfl⟩ := osz ho6; have hWl : Hid (Below (w.heap.size + 2) (v1.alloc (.cells (z4z nk nn uk up uf ux un uA uL.length uc) 74)) w6) := own_grown hown2.out hg6 hsz2.out; have hC6 := hdZ (hC2.out.below hWl.out (by omega))
       have hR6 := hdZ (hR2.out.below hWl.out (by omega)); have ho6' := hdZ ho6; have hg6' := hdZ hg6; have hv6' := hdZ hv6; clear ho6 hg6 hv6; refine ⟨trivial, ?_⟩; go_simp; refine wpAnyH_take (i := 6) rfl (by kernel_rfl) (by kernel_rfl) (by kernel_rfl) (fun _ _ _ h => h) (yields_of (v := .pointer (some ⟨w.heap.size + 1, 17, none⟩)) rfl (fun _ _ => by go_simp)) trivial ?_; go_simp; refine wpAnyH_all (rs := [7]) (by kernel_rfl) (by decide) ?_; intro i hi'; obtain rfl := List.mem_singleton.1 hi'; have q17 : w6.cell? ⟨w.heap.size + 1, 17, none⟩ = some (.slice p T.length cc) := hC6.out.cell 17; have f17 : w6.frozen? ⟨w.heap.size + 1, 17, none⟩ = false := hC6.out.frozen 17; refine held_skip (w' := w6.setCell ⟨w.heap.size + 1, 17, none⟩ (.slice p6 (T.length + 1) c6)) rfl rfl (by go_simp) ?_; clear q17 f17; refine ⟨trivial, ?_⟩; go_simp; refine wpAnyH_done (by kernel_rfl) ?_ _; go_wp2_with fail; have hbl : Hid (Bz v1 (v1.alloc (.cells (z4z nk nn uk up uf ux un uA uL.length uc) 74))) := (Below.refl _ v1).alloc leZ _; have hB1 : Hid (But pb w v1) := hB.out.trans hud.out; have hB6 : Hid (But pb w w6) := but_low (hB1.out.below hbl.out) (hWl.out.mono (by omega)); have hB7 : Hid (But pb w (w6.setCell ⟨w.heap.size + 1, 17, none⟩ (.slice p6 (T.length + 1) c6))) := hB6.out.far hle1.out _ _; have hp7 : Hid (ParAt (w6.setCell ⟨w.heap.size + 1, 17, none⟩ (.slice p6 (T.length + 1) c6)) pb A c e l sN) := ⟨((hp1'.out.row.alloc _).below hWl.out (by have := hpbs.out; omega)).far (p := ⟨w.heap.size + 1, 17, none⟩) (Ne.symm ne_hC.out) _, ht.out.but hB7.out, hp1'.out.len, hp1'.out.pos⟩; have hR7 : Hid (Blk (w6.setCell ⟨w.heap.size + 1, 17, none⟩ (.slice p6 (T.length + 1) c6)) w.heap.size 41 zeroC) := hR6.out.far (p := ⟨w.heap.size + 1, 17, none⟩) ne1 _; have hC7 : Hid (Blk (w6.setCell ⟨w.heap.size + 1, 17, none⟩ (.slice p6 (T.length + 1) c6)) (w.heap.size + 1) 41 (cr.cells (.slice p6 (T.length + 1) c6))) := hC6.out.set_ 17 (.slice p6 (T.length + 1) c6); have hu7 : Hid (But (w.heap.size + 1) w6 (w6.setCell ⟨w.heap.size + 1, 17, none⟩ (.slice p6 (T.length + 1) c6))) := (But.refl _ w6).setCell _ _; have hown7 := hdZ (own_but ho6'.out hu7.out (by omega)); have hsz7 : Hid (w.heap.size + 2 ≤ (w6.setCell ⟨w.heap.size + 1, 17, none⟩ (.slice p6 (T.length + 1) c6)).heap.size) := Nat.le_trans (Nat.le_trans hsz2.out hWl.out.size) (by simp); have hob : Hid (∀ b, wv.heap.size ≤ b → (Value.slice p T.length cc).ownBlock ≠ some b) := own_old hown.out; obtain ⟨xN, hxN⟩ : ∃ x : Nd, Hid (⟨nk, nn, .mk uk up uf ux un uA uc uL⟩ = x) := ⟨_, hdZ rfl⟩
       have hts7 : Hid (∀ x ∈ T ++ [xN], TAz (w6.setCell ⟨w.heap.size + 1, 17, none⟩ (.slice p6 (T.length + 1) c6)) (fun b => w.heap.size + 2 ≤ b ∧ (Value.slice p6 (T.length + 1) c6).ownBlock ≠ some b) x.rule) := fun x hx => by
        have h0 : TAz v1 (fun b => w.heap.size + 2 ≤ b ∧ (Value.slice p T.length cc).ownBlock ≠ some b) x.rule := by
         rcases List.mem_append.1 hx with h | h
         ·exact (hts.out x h).but hud.out (fun b hb => by have := hb.1; have := hpbs.out; omega)
         ·rw [List.mem_singleton.1 h, ← hxN.out]
          exact htr1'.out.mono (fun b _ hk => ⟨Nat.le_trans hsz.out hk, hob.out b hk⟩)
        have h1 := (h0.below hbl.out).mono (ok' := fun b => (w.heap.size + 2 ≤ b ∧ (Value.slice p T.length cc).ownBlock ≠ some b) ∧ (Value.slice p6 (T.length + 1) c6).ownBlock ≠ some b) (fun b hb hk => ⟨hk, by
         rcases hv6'.out with h | h
         ·rw [h]; exact hk.2
         ·rw [h]; intro h'; have := Option.some.inj h'; omega⟩)
        exact ((h1.same (w' := w6) (fun q h1 h2 => grown_cell hg6'.out h1 h2.1.2)).but hu7.out (fun b hb => by have := hb.1.1; omega)).mono (fun b _ hk => ⟨hk.1.1, hk.2⟩)
       obtain ⟨T', hT'⟩ : ∃ T', Hid (T ++ [xN] = T') := ⟨_, hdZ rfl⟩; have hl' : Hid (T'.length = T.length + 1) := by unfold Hid; rw [← hT'.out]; simp
       have hcr' : Hid (crs = ((cr, T'.map ndP ++ (needsS e l m T'.length sN).1), (needsS e l m T'.length sN).2)) := by
        have h := hstep.out; unfold Hid; rw [h, hl'.out, ← hT'.out, List.map_append, List.append_assoc, ← hxN.out]; show _ = ((cr, T.map ndP ++ ((nk, nn, stz (.mk uk up uf ux un uA uc uL)) :: (needsS e l m (T.length + 1) sN).1)), _); rw [hst1'.out]
       have hfu : Hid (sN.cd = 0 → l.length - sN.k < m) := fun hz => by
        have h1 := need_more (e := e) (l := l) (st := sF) (by rw [hnd.out]; exact hz); rw [hnd.out] at h1; have h2 : sF.k = s1.k := by rw [← hsF.out]; exact full_k e l _ s1
        have h3 := hfuel'.out hz'.out; have h4 := hlt'.out; have h5 := h1.2; simp only at h5; omega
       have hNL : Hid (ndsL T' = ndsL T ++ xN.cells) := by unfold Hid; rw [← hT'.out, ndsL_snoc]
       have hxc : Hid (xN.cells = ((z4z nk nn uk up uf ux un uA uL.length uc) : Array Value).toList) := by unfold Hid; rw [← hxN.out]; rfl
       go_roundg m
       case measure => have := hg0'.out; omega
       case rel =>
        refine ⟨m, T', sN, p6, c6, rfl, hcr', by have := hTg'.out; have := hl'.out; omega, hfu.out, ?_, ?_, ?_, hp7, hB7, hR7, hsz7⟩
        ·rw [hl'.out]; exact hC7
        ·rw [hl'.out, hNL.out, hxc.out]; exact hown7
        ·rw [hl'.out, ← hT'.out]; exact hts7
      ·refine held_call (f := 95) (args := #[.pointer (some (Az pb 0))]) rfl rfl (by go_simp) ?_
       refine (hcall.out _ (Below.refl _ _).drew).mono ?_; rintro x v1 ⟨hu1, hp1, ⟨uk, up, uf, ux, un, uA, uc, uL⟩, rfl, htr1, hst1⟩; refine ⟨_, rfl, trivial, ?_⟩; unfold needC; have hud : Hid (But pb wv v1) := ((But.refl pb wv).below (Below.refl _ _).drew).trans hu1; have hC1 := hdZ (hud.out.blk hC.out ne_hC.out); have hS1 := hdZ (show v1.cell? ⟨w.heap.size + 1, 17, none⟩ = some (.slice p T.length cc) from hC1.out.cell 17); have hC2 := hdZ (hC1.out.alloc (.cells (z4z nk nn uk up uf ux un uA uL.length uc) 74)); have hS2 := hdZ (show (v1.alloc (.cells (z4z nk nn uk up uf ux un uA uL.length uc) 74)).cell? ⟨w.heap.size + 1, 17, none⟩ = some (.slice p T.length cc) from hC2.out.cell 17); have hR2 := hdZ ((hud.out.blk hR.out ne_hR.out).alloc (.cells (z4z nk nn uk up uf ux un uA uL.length uc) 74)); have hown2 := hdZ ((own_but hown.out hud.out (by have := hpbs.out; omega)).alloc (.cells (z4z nk nn uk up uf ux un uA uL.length uc) 74)); have hsz2 : Hid (w.heap.size + 2 ≤ (v1.alloc (.cells (z4z nk nn uk up uf ux un uA uL.length uc) 74)).heap.size) := Nat.le_trans hsz.out (Nat.le_trans hud.out.size (by simp)); have hp1' := hdZ hp1; have htr1' := hdZ htr1; have hst1' := hdZ hst1; have hN5 := hdZ (Blk.new v1 74 (z4z nk nn uk up uf ux un uA uL.length uc)); clear hu1 hp1 htr1 hst1; go_simp; refine wpAnyH_all (rs := [1, 4]) (by kernel_rfl) (by decide) ?_; intro i hi'; simp only [List.mem_cons, List.not_mem_nil, or_false] at hi'
       rcases hi' with rfl | rfl
       ·refine held_value (v := .slice p T.length cc) (w' := v1) rfl rfl (by have := hS1.out; go_simp) ?_
        refine ⟨trivial, ?_⟩; go_simp; refine wpAnyH_all (rs := [4]) (by kernel_rfl) (by decide) ?_; intro i hi'; obtain rfl := List.mem_singleton.1 hi'; refine held_value (v := .slice (some (Az v1.heap.size 0)) 1 1) (w' := v1.alloc (.cells (z4z nk nn uk up uf ux un uA uL.length uc) 74)) rfl rfl (by go_simp) ?_; refine ⟨trivial, ?_⟩; go_simp; refine wpAnyH_all (rs := [5]) (by kernel_rfl) (by decide) ?_; intro i hi'; obtain rfl := List.mem_singleton.1 hi'; refine held_append rfl rfl (.tmp 91) (.tmp 94) 39 rfl (w.heap.size + 2) 74 i0 _ 8 96 Tryz.underlying39 hi hz0 hz1 hz2 rfl (by decide) (.slice p T.length cc) T.length (ndsL T) rfl hown2.out _ (some (Az v1.heap.size 0)) 1 1 _ rfl (blk_reads hN5.out 8 1 rfl) (need_one _ _ _ _ _ _ _ _ _ _) hq1.out hq2.out hsz2.out ?_; intro v6 w6 ho6 hg6 hv6; obtain ⟨p6, c6, rfl⟩ := osz ho6; have hWl : Hid (Below (w.heap.size + 2) (v1.alloc (.cells (z4z nk nn uk up uf ux un uA uL.length uc) 74)) w6) := own_grown hown2.out hg6 hsz2.out; have hC6 := hdZ (hC2.out.below hWl.out (by omega)); have hR6 := hdZ (hR2.out.below hWl.out (by omega)); have ho6' := hdZ ho6; have hg6' := hdZ hg6; have hv6' := hdZ hv6; clear ho6 hg6 hv6; refine ⟨trivial, ?_⟩; go_simp; refine wpAnyH_take (i := 6) rfl (by kernel_rfl) (by kernel_rfl) (by kernel_rfl) (fun _ _ _ h => h) (yields_of (v := .pointer (some ⟨w.heap.size + 1, 17, none⟩)) rfl (fun _ _ => by go_simp)) trivial ?_; go_simp; refine wpAnyH_all (rs := [7]) (by kernel_rfl) (by decide) ?_; intro i hi'; obtain rfl := List.mem_singleton.1 hi'; have q17 : w6.cell? ⟨w.heap.size + 1, 17, none⟩ = some (.slice p T.length cc) := hC6.out.cell 17; have f17 : w6.frozen? ⟨w.heap.size + 1, 17, none⟩ = false := hC6.out.frozen 17; refine held_skip (w' := w6.setCell ⟨w.heap.size + 1, 17, none⟩ (.slice p6 (T.length + 1) c6)) rfl rfl (by go_simp) ?_; clear q17 f17; refine ⟨trivial, ?_⟩; go_simp; refine wpAnyH_done (by kernel_rfl) ?_ _; go_wp2_with fail; have hbl : Hid (Bz v1 (v1.alloc (.cells (z4z nk nn uk up uf ux un uA uL.length uc) 74))) := (Below.refl _ v1).alloc leZ _; have hB1 : Hid (But pb w v1) := hB.out.trans hud.out; have hB6 : Hid (But pb w w6) := but_low (hB1.out.below hbl.out) (hWl.out.mono (by omega)); have hB7 : Hid (But pb w (w6.setCell ⟨w.heap.size + 1, 17, none⟩ (.slice p6 (T.length + 1) c6))) := hB6.out.far hle1.out _ _; have hp7 : Hid (ParAt (w6.setCell ⟨w.heap.size + 1, 17, none⟩ (.slice p6 (T.length + 1) c6)) pb A c e l sN) := ⟨((hp1'.out.row.alloc _).below hWl.out (by have := hpbs.out; omega)).far (p := ⟨w.heap.size + 1, 17, none⟩) (Ne.symm ne_hC.out) _, ht.out.but hB7.out, hp1'.out.len, hp1'.out.pos⟩
        have hR7 : Hid (Blk (w6.setCell ⟨w.heap.size + 1, 17, none⟩ (.slice p6 (T.length + 1) c6)) w.heap.size 41 zeroC) := hR6.out.far (p := ⟨w.heap.size + 1, 17, none⟩) ne1 _; have hC7 : Hid (Blk (w6.setCell ⟨w.heap.size + 1, 17, none⟩ (.slice p6 (T.length + 1) c6)) (w.heap.size + 1) 41 (cr.cells (.slice p6 (T.length + 1) c6))) := hC6.out.set_ 17 (.slice p6 (T.length + 1) c6); have hu7 : Hid (But (w.heap.size + 1) w6 (w6.setCell ⟨w.heap.size + 1, 17, none⟩ (.slice p6 (T.length + 1) c6))) := (But.refl _ w6).setCell _ _; have hown7 := hdZ (own_but ho6'.out hu7.out (by omega)); have hsz7 : Hid (w.heap.size + 2 ≤ (w6.setCell ⟨w.heap.size + 1, 17, none⟩ (.slice p6 (T.length + 1) c6)).heap.size) := Nat.le_trans (Nat.le_trans hsz2.out hWl.out.size) (by simp); have hob : Hid (∀ b, wv.heap.size ≤ b → (Value.slice p T.length cc).ownBlock ≠ some b) := own_old hown.out; obtain ⟨xN, hxN⟩ : ∃ x : Nd, Hid (⟨nk, nn, .mk uk up uf ux un uA uc uL⟩ = x) := ⟨_, hdZ rfl⟩
        have hts7 : Hid (∀ x ∈ T ++ [xN], TAz (w6.setCell ⟨w.heap.size + 1, 17, none⟩ (.slice p6 (T.length + 1) c6)) (fun b => w.heap.size + 2 ≤ b ∧ (Value.slice p6 (T.length + 1) c6).ownBlock ≠ some b) x.rule) := fun x hx => by
         have h0 : TAz v1 (fun b => w.heap.size + 2 ≤ b ∧ (Value.slice p T.length cc).ownBlock ≠ some b) x.rule := by
          rcases List.mem_append.1 hx with h | h
          ·exact (hts.out x h).but hud.out (fun b hb => by have := hb.1; have := hpbs.out; omega)
          ·rw [List.mem_singleton.1 h, ← hxN.out]
           exact htr1'.out.mono (fun b _ hk => ⟨Nat.le_trans hsz.out hk, hob.out b hk⟩)
         have h1 := (h0.below hbl.out).mono (ok' := fun b => (w.heap.size + 2 ≤ b ∧ (Value.slice p T.length cc).ownBlock ≠ some b) ∧ (Value.slice p6 (T.length + 1) c6).ownBlock ≠ some b) (fun b hb hk => ⟨hk, by
          rcases hv6'.out with h | h
          ·rw [h]; exact hk.2
          ·rw [h]; intro h'; have := Option.some.inj h'; omega⟩)
         exact ((h1.same (w' := w6) (fun q h1 h2 => grown_cell hg6'.out h1 h2.1.2)).but hu7.out (fun b hb => by have := hb.1.1; omega)).mono (fun b _ hk => ⟨hk.1.1, hk.2⟩)
        obtain ⟨T', hT'⟩ : ∃ T', Hid (T ++ [xN] = T') := ⟨_, hdZ rfl⟩; have hl' : Hid (T'.length = T.length + 1) := by unfold Hid; rw [← hT'.out]; simp
        have hcr' : Hid (crs = ((cr, T'.map ndP ++ (needsS e l m T'.length sN).1), (needsS e l m T'.length sN).2)) := by
         have h := hstep.out; unfold Hid; rw [h, hl'.out, ← hT'.out, List.map_append, List.append_assoc, ← hxN.out]; show _ = ((cr, T.map ndP ++ ((nk, nn, stz (.mk uk up uf ux un uA uc uL)) :: (needsS e l m (T.length + 1) sN).1)), _); rw [hst1'.out]
        have hfu : Hid (sN.cd = 0 → l.length - sN.k < m) := fun hz => by
         have h1 := need_more (e := e) (l := l) (st := sF) (by rw [hnd.out]; exact hz); rw [hnd.out] at h1; have h2 : sF.k = s1.k := by rw [← hsF.out]; exact full_k e l _ s1
         have h3 := hfuel'.out hz'.out; have h4 := hlt'.out; have h5 := h1.2; simp only at h5; omega
        have hNL : Hid (ndsL T' = ndsL T ++ xN.cells) := by unfold Hid; rw [← hT'.out, ndsL_snoc]
        have hxc : Hid (xN.cells = ((z4z nk nn uk up uf ux un uA uL.length uc) : Array Value).toList) := by unfold Hid; rw [← hxN.out]; rfl
        go_roundg m
        case measure => have := hg0'.out; omega
        case rel =>
         refine ⟨m, T', sN, p6, c6, rfl, hcr', by have := hTg'.out; have := hl'.out; omega, hfu.out, ?_, ?_, ?_, hp7, hB7, hR7, hsz7⟩
         ·rw [hl'.out]; exact hC7
         ·rw [hl'.out, hNL.out, hxc.out]; exact hown7
         ·rw [hl'.out, ← hT'.out]; exact hts7
       ·refine held_value (v := .slice (some (Az v1.heap.size 0)) 1 1) (w' := v1.alloc (.cells (z4z nk nn uk up uf ux un uA uL.length uc) 74)) rfl rfl (by go_simp) ?_
        refine ⟨trivial, ?_⟩; go_simp; refine wpAnyH_all (rs := [1]) (by kernel_rfl) (by decide) ?_; intro i hi'; obtain rfl := List.mem_singleton.1 hi'; refine held_value (v := .slice p T.length cc) (w' := (v1.alloc (.cells (z4z nk nn uk up uf ux un uA uL.length uc) 74))) rfl rfl (by have := hS2.out; go_simp) ?_; refine ⟨trivial, ?_⟩; go_simp; refine wpAnyH_all (rs := [5]) (by kernel_rfl) (by decide) ?_; intro i hi'; obtain rfl := List.mem_singleton.1 hi'; refine held_append rfl rfl (.tmp 91) (.tmp 94) 39 rfl (w.heap.size + 2) 74 i0 _ 8 96 Tryz.underlying39 hi hz0 hz1 hz2 rfl (by decide) (.slice p T.length cc) T.length (ndsL T) rfl hown2.out _ (some (Az v1.heap.size 0)) 1 1 _ rfl (blk_reads hN5.out 8 1 rfl) (need_one _ _ _ _ _ _ _ _ _ _) hq1.out hq2.out hsz2.out ?_; intro v6 w6 ho6 hg6 hv6; obtain ⟨p6, c6, rfl⟩ := osz ho6; have hWl : Hid (Below (w.heap.size + 2) (v1.alloc (.cells (z4z nk nn uk up uf ux un uA uL.length uc) 74)) w6) := own_grown hown2.out hg6 hsz2.out; have hC6 := hdZ (hC2.out.below hWl.out (by omega)); have hR6 := hdZ (hR2.out.below hWl.out (by omega)); have ho6' := hdZ ho6; have hg6' := hdZ hg6; have hv6' := hdZ hv6; clear ho6 hg6 hv6; refine ⟨trivial, ?_⟩; go_simp; refine wpAnyH_take (i := 6) rfl (by kernel_rfl) (by kernel_rfl) (by kernel_rfl) (fun _ _ _ h => h) (yields_of (v := .pointer (some ⟨w.heap.size + 1, 17, none⟩)) rfl (fun _ _ => by go_simp)) trivial ?_; go_simp; refine wpAnyH_all (rs := [7]) (by kernel_rfl) (by decide) ?_; intro i hi'; obtain rfl := List.mem_singleton.1 hi'; have q17 : w6.cell? ⟨w.heap.size + 1, 17, none⟩ = some (.slice p T.length cc) := hC6.out.cell 17; have f17 : w6.frozen? ⟨w.heap.size + 1, 17, none⟩ = false := hC6.out.frozen 17; refine held_skip (w' := w6.setCell ⟨w.heap.size + 1, 17, none⟩ (.slice p6 (T.length + 1) c6)) rfl rfl (by go_simp) ?_; clear q17 f17; refine ⟨trivial, ?_⟩; go_simp; refine wpAnyH_done (by kernel_rfl) ?_ _; go_wp2_with fail; have hbl : Hid (Bz v1 (v1.alloc (.cells (z4z nk nn uk up uf ux un uA uL.length uc) 74))) := (Below.refl _ v1).alloc leZ _; have hB1 : Hid (But pb w v1) := hB.out.trans hud.out; have hB6 : Hid (But pb w w6) := but_low (hB1.out.below hbl.out) (hWl.out.mono (by omega)); have hB7 : Hid (But pb w (w6.setCell ⟨w.heap.size + 1, 17, none⟩ (.slice p6 (T.length + 1) c6))) := hB6.out.far hle1.out _ _; have hp7 : Hid (ParAt (w6.setCell ⟨w.heap.size + 1, 17, none⟩ (.slice p6 (T.length + 1) c6)) pb A c e l sN) := ⟨((hp1'.out.row.alloc _).below hWl.out (by have := hpbs.out; omega)).far (p := ⟨w.heap.size + 1, 17, none⟩) (Ne.symm ne_hC.out) _, ht.out.but hB7.out, hp1'.out.len, hp1'.out.pos⟩
        have hR7 : Hid (Blk (w6.setCell ⟨w.heap.size + 1, 17, none⟩ (.slice p6 (T.length + 1) c6)) w.heap.size 41 zeroC) := hR6.out.far (p := ⟨w.heap.size + 1, 17, none⟩) ne1 _; have hC7 : Hid (Blk (w6.setCell ⟨w.heap.size + 1, 17, none⟩ (.slice p6 (T.length + 1) c6)) (w.heap.size + 1) 41 (cr.cells (.slice p6 (T.length + 1) c6))) := hC6.out.set_ 17 (.slice p6 (T.length + 1) c6); have hu7 : Hid (But (w.heap.size + 1) w6 (w6.setCell ⟨w.heap.size + 1, 17, none⟩ (.slice p6 (T.length + 1) c6))) := (But.refl _ w6).setCell _ _; have hown7 := hdZ (own_but ho6'.out hu7.out (by omega)); have hsz7 : Hid (w.heap.size + 2 ≤ (w6.setCell ⟨w.heap.size + 1, 17, none⟩ (.slice p6 (T.length + 1) c6)).heap.size) := Nat.le_trans (Nat.le_trans hsz2.out hWl.out.size) (by simp); have hob : Hid (∀ b, wv.heap.size ≤ b → (Value.slice p T.length cc).ownBlock ≠ some b) := own_old hown.out; obtain ⟨xN, hxN⟩ : ∃ x : Nd, Hid (⟨nk, nn, .mk uk up uf ux un uA uc uL⟩ = x) := ⟨_, hdZ rfl⟩
        have hts7 : Hid (∀ x ∈ T ++ [xN], TAz (w6.setCell ⟨w.heap.size + 1, 17, none⟩ (.slice p6 (T.length + 1) c6)) (fun b => w.heap.size + 2 ≤ b ∧ (Value.slice p6 (T.length + 1) c6).ownBlock ≠ some b) x.rule) := fun x hx => by
         have h0 : TAz v1 (fun b => w.heap.size + 2 ≤ b ∧ (Value.slice p T.length cc).ownBlock ≠ some b) x.rule := by
          rcases List.mem_append.1 hx with h | h
          ·exact (hts.out x h).but hud.out (fun b hb => by have := hb.1; have := hpbs.out; omega)
          ·rw [List.mem_singleton.1 h, ← hxN.out]
           exact htr1'.out.mono (fun b _ hk => ⟨Nat.le_trans hsz.out hk, hob.out b hk⟩)
         have h1 := (h0.below hbl.out).mono (ok' := fun b => (w.heap.size + 2 ≤ b ∧ (Value.slice p T.length cc).ownBlock ≠ some b) ∧ (Value.slice p6 (T.length + 1) c6).ownBlock ≠ some b) (fun b hb hk => ⟨hk, by
          rcases hv6'.out with h | h
          ·rw [h]; exact hk.2
          ·rw [h]; intro h'; have := Option.some.inj h'; omega⟩)
         exact ((h1.same (w' := w6) (fun q h1 h2 => grown_cell hg6'.out h1 h2.1.2)).but hu7.out (fun b hb => by have := hb.1.1; omega)).mono (fun b _ hk => ⟨hk.1.1, hk.2⟩)
        obtain ⟨T', hT'⟩ : ∃ T', Hid (T ++ [xN] = T') := ⟨_, hdZ rfl⟩; have hl' : Hid (T'.length = T.length + 1) := by unfold Hid; rw [← hT'.out]; simp
        have hcr' : Hid (crs = ((cr, T'.map ndP ++ (needsS e l m T'.length sN).1), (needsS e l m T'.length sN).2)) := by
         have h := hstep.out; unfold Hid; rw [h, hl'.out, ← hT'.out, List.map_append, List.append_assoc, ← hxN.out]; show _ = ((cr, T.map ndP ++ ((nk, nn, stz (.mk uk up uf ux un uA uc uL)) :: (needsS e l m (T.length + 1) sN).1)), _); rw [hst1'.out]
        have hfu : Hid (sN.cd = 0 → l.length - sN.k < m) := fun hz => by
         have h1 := need_more (e := e) (l := l) (st := sF) (by rw [hnd.out]; exact hz); rw [hnd.out] at h1; have h2 : sF.k = s1.k := by rw [← hsF.out]; exact full_k e l _ s1
         have h3 := hfuel'.out hz'.out; have h4 := hlt'.out; have h5 := h1.2; simp only at h5; omega
        have hNL : Hid (ndsL T' = ndsL T ++ xN.cells) := by unfold Hid; rw [← hT'.out, ndsL_snoc]
        have hxc : Hid (xN.cells = ((z4z nk nn uk up uf ux un uA uL.length uc) : Array Value).toList) := by unfold Hid; rw [← hxN.out]; rfl
        go_roundg m
        case measure => have := hg0'.out; omega
        case rel =>
         refine ⟨m, T', sN, p6, c6, rfl, hcr', by have := hTg'.out; have := hl'.out; omega, hfu.out, ?_, ?_, ?_, hp7, hB7, hR7, hsz7⟩
         ·rw [hl'.out]; exact hC7
         ·rw [hl'.out, hNL.out, hxc.out]; exact hown7
         ·rw [hl'.out, ← hT'.out]; exact hts7
   ·have hno : Hid (needsS e l g0 T.length s1 = ([], s1)) := by
     unfold Hid
     cases g0 with
     | zero => rfl
     | succ g => rw [needsS, if_neg hgo]
    rw [hno.out] at hrr; obtain ⟨A2, c2, hv2, hnds⟩ := own_nds (ok := fun b => w.heap.size + 2 ≤ b) hown.out (fun b hb => hb) (fun x hx => (hts.out x hx).mono (fun _ _ hk => hk.1)); obtain ⟨rfl, _, rfl⟩ : p = A2 ∧ T.length = T.length ∧ cc = c2 := by simpa using hv2
    have hnds' := hdZ hnds; have hTl : Hid (T.length ≤ 5000) := by have := hTg'.out; unfold Hid; omega
    clear hnds hv2 hts hown hno; obtain ⟨C, hCe⟩ := nmZ (cr.cells (.slice p T.length cc)); have hCs : Hid (C.size = 18) := by rw [← hCe.out]; rfl
    have hCi : Hid ((Tryz.prog.info? 41).map (·.size) = some C.size) := by unfold Hid; rw [hCs.out]; kernel_rfl
    have hC1 : Hid (C.all (·.oneCell') = true) := by unfold Hid; rw [← hCe.out, ← Array.all_toList]; rfl
    rw [hCe.out] at hC
    by_cases hz : s1.cd = 0
    ·have b1 : (cd1 == 0) = true := by rw [← hcd1.out, hz]; rfl
     have hk3 : ¬ s1.k < l.length := fun h => hgo ⟨hz, h⟩
     have b2 : decide ((k1 : Int) < (l.length : Int)) = false := by rw [← hk1.out]; simp; omega
     have b3 : ¬ k1 < l.length := by rw [← hk1.out]; exact hk3
     clear hgo hz hk3; go_wp2_with fail
     go_quiet (fail)
     go_upto_region 24 with fail
     have hC := hdZ (hC.out.below (bdz (Below.refl _ wr) nq) hC.out.lt); have hR := hdZ (hR.out.below (bdz (Below.refl _ wr) nq) hR.out.lt); have hB := hdZ (hB.out.below (bdz (Below.refl _ wr) nq)); have hp := hdZ (hp.out.below (bdz (Below.refl _ wr) nq)); have hnds := hdZ (hnds'.out.below (bdz (Below.refl _ wr) nq))
     go_wp2_with (first | (refine gbz rfl 41 _ rfl (w.heap.size + 1) C 41 _ rfl hC.out Tryz.underlying41 rfl hCi.out ?_) | (refine pbz rfl 41 _ _ rfl w.heap.size zeroC C 41 rfl rfl hR.out hCs.out.symm hCi.out hC1.out ?_; intro w9 hR9 hu9))
     refine bodyPost_ret (rrz rfl _ _ w.heap.size 41 _ _ rfl hR9 Tryz.underlying41 rfl hCi.out) rfl ?_; have hB9 : But pb w w9 := ⟨hu9.os.trans hB.out.os, hu9.tape.trans hB.out.tape, hu9.output.trans hB.out.output, Nat.le_trans hB.out.size hu9.size, fun k hk hz => (hu9.block k (Nat.lt_of_lt_of_le hk hB.out.size) (Nat.ne_of_lt hk)).trans (hB.out.block k hk hz)⟩; unfold Credited; rw [hcrs.out, hrr.out]; refine ⟨hB9, ⟨hu9.blk hp.out.row (Ne.symm ne_hR.out), ht.out.but hB9, hp.out.len, hp.out.pos⟩, T, p, cc, ?_, ?_, by simp, hTl.out⟩
     ·show Ending.returned (.agg C) = _
      rw [← hCe.out]
     ·exact nds_but (hnds.out) hu9 (fun b hb => by omega) (fun b hb => by omega)
    ·have b1 : (cd1 == 0) = false := by rw [← hcd1.out]; simpa using hz
     clear hgo hz; go_wp2_with fail
     go_quiet (fail)
     go_upto_region 24 with fail
     have hC := hdZ (hC.out.below (bdz (Below.refl _ wr) nq) hC.out.lt); have hR := hdZ (hR.out.below (bdz (Below.refl _ wr) nq) hR.out.lt); have hB := hdZ (hB.out.below (bdz (Below.refl _ wr) nq)); have hp := hdZ (hp.out.below (bdz (Below.refl _ wr) nq)); have hnds := hdZ (hnds'.out.below (bdz (Below.refl _ wr) nq))
     go_wp2_with (first | (refine gbz rfl 41 _ rfl (w.heap.size + 1) C 41 _ rfl hC.out Tryz.underlying41 rfl hCi.out ?_) | (refine pbz rfl 41 _ _ rfl w.heap.size zeroC C 41 rfl rfl hR.out hCs.out.symm hCi.out hC1.out ?_; intro w9 hR9 hu9))
     refine bodyPost_ret (rrz rfl _ _ w.heap.size 41 _ _ rfl hR9 Tryz.underlying41 rfl hCi.out) rfl ?_; have hB9 : But pb w w9 := ⟨hu9.os.trans hB.out.os, hu9.tape.trans hB.out.tape, hu9.output.trans hB.out.output, Nat.le_trans hB.out.size hu9.size, fun k hk hz => (hu9.block k (Nat.lt_of_lt_of_le hk hB.out.size) (Nat.ne_of_lt hk)).trans (hB.out.block k hk hz)⟩; unfold Credited; rw [hcrs.out, hrr.out]; refine ⟨hB9, ⟨hu9.blk hp.out.row (Ne.symm ne_hR.out), ht.out.but hB9, hp.out.len, hp.out.pos⟩, T, p, cc, ?_, ?_, by simp, hTl.out⟩
     ·show Ending.returned (.agg C) = _
      rw [← hCe.out]
     ·exact nds_but (hnds.out) hu9 (fun b hb => by omega) (fun b hb => by omega)
end Go.Proofs.YtjkmhlfjheiekaaGreatDoor

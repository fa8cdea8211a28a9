/- core.parts, core.failing, walked: the parts of a rule that fail a paper, given one by one to whatever function. -/
import Derived.Shelf.Abstract
import Derived.Test.YtdjmckjbibfecaaGreatDoorCe
import Derived.Test.YtdjmckjbibfecaaGreatDoorEn
import Derived.Test.YtdjmckjbibfecaaGreatDoorWa
namespace Go.Proofs.YtdjmckjbibfecaaGreatDoor
open Go Go.RowKit Go.BigFrame Go.Maps

/-- The parts of a rule that fail a paper. -/
def failT (docs : List Pap) (d : Pap) (l : List Tree) : List Tree := l.filter fun u => decide (holdsT docs d u ≠ 0)
def failL (needs : List Nd) (docs : List Pap) (d : Pap) : List Tree := needs.flatMap fun x => if x.kind = d.kind then failT docs d (partsT x.rule) else []
theorem failT_app (docs : List Pap) (d : Pap) (l m : List Tree) : failT docs d (l ++ m) = failT docs d l ++ failT docs d m := List.filter_append ..
def boxT (t : TypeId) : Prop := t = 24 ∨ t = 25 ∨ t = 3 ∨ t = 46 ∨ t = 71 ∨ t = 103
/-- What the giving may turn. -/
structure Giver (base : Nat) (Fr : World → World → Prop) : Prop where
  refl : ∀ W, Fr W W
  trans : ∀ {a b c : World}, Fr a b → Fr b c → Fr a c
  of : ∀ {a b : World}, Below a.heap.size a b → Fr a b
  low : ∀ {a b : World}, Fr a b → base ≤ a.heap.size → Below base a b
  size : ∀ {a b : World}, Fr a b → a.heap.size ≤ b.heap.size
  blk : ∀ {a b : World} {g : Nat} {t : TypeId} {cs : Array Value}, Fr a b → Blk a g t cs → boxT t → Blk b g t cs
/-- What stands between two givings. -/
structure GiveS {σ : Type} (w0 : World) (base : Nat) (docs : List Pap) (d : Pap) (Fr : World → World → Prop) (Inv : σ → World → Prop) (ok : σ → Prop) (T : Tree → Prop) (step : σ → Tree → σ) (g : Nat) (caps : Array Value) : Prop where
  giver : Giver base Fr
  inv : ∀ (s : σ) (a b : World), Inv s a → Below a.heap.size a b → Inv s b
  call : ∀ (s : σ) (t : Tree) (W : World), TreeAt w0 t → T t → holdsT docs d t ≠ 0 → Below base w0 W → ok s → Inv s W → Calls Tryz.prog g (#[.agg t.cells, .int .i64 (holdsT docs d t)] ++ caps) W fun e w' => e = .returned (.tuple #[]) ∧ Inv (step s t) w' ∧ Fr W w'
  enters : ∀ (args : Array Value) (w : World), (callFunc g args).run Tryz.prog w = .ok (.enter g args) w
/-- The giving's boxes. -/
structure GBox (W : World) (p5 p6 p7 : Nat) (A : Option Addr) (nn cc a g : Nat) (caps : Array Value) : Prop where
  docs : Blk W p5 25 #[.slice A nn cc]
  at_ : Blk W p6 3 #[.int .i64 (a : Int)]
  give : Blk W p7 103 #[.func (.func g) #[] caps]
theorem GBox.fr {base : Nat} {Fr : World → World → Prop} (G : Giver base Fr) {W W' : World} {p5 p6 p7 : Nat} {A : Option Addr} {nn cc a g : Nat} {caps : Array Value} (h : GBox W p5 p6 p7 A nn cc a g caps) (hf : Fr W W') : GBox W' p5 p6 p7 A nn cc a g caps :=
  ⟨G.blk hf h.docs (.inr (.inl rfl)), G.blk hf h.at_ (.inr (.inr (.inl rfl))), G.blk hf h.give (.inr (.inr (.inr (.inr (.inr rfl)))))⟩
theorem GBox.below {W W' : World} {p5 p6 p7 : Nat} {A : Option Addr} {nn cc a g : Nat} {caps : Array Value} (h : GBox W p5 p6 p7 A nn cc a g caps) (hb : Below W.heap.size W W') : GBox W' p5 p6 p7 A nn cc a g caps :=
  ⟨h.docs.below hb h.docs.lt, h.at_.below hb h.at_.lt, h.give.below hb h.give.lt⟩
def Given {σ : Type} (Fr : World → World → Prop) (Inv : σ → World → Prop) (s : σ) (W : World) (e : Ending) (w' : World) : Prop := e = .returned (.tuple #[]) ∧ Inv s w' ∧ Fr W w'
section
variable {σ : Type} {w0 : World} {base : Nat} {docs : List Pap} {d : Pap} {Fr : World → World → Prop} {Inv : σ → World → Prop} {ok : σ → Prop} {T : Tree → Prop} {step : σ → Tree → σ} {g : Nat} {caps : Array Value}
set_option maxRecDepth 100000 in
set_option maxHeartbeats 3200000 in
theorem give1_any (H : Hid (GiveS w0 base docs d Fr Inv ok T step g caps)) (hbase : base ≤ w0.heap.size) (A : Option Addr) (nn cc a : Nat) (hd : Hid (docs[a]? = some d)) (hR : Hid (∀ W, Below base w0 W → Room W A nn docs)) (hTb : Hid (∀ W t, Below base w0 W → TreeAt w0 t → TreeAt W t)) (t : Tree) (hT : Hid (TreeAt w0 t)) (hQ : Hid (T t)) (p5 p6 p7 : Nat)
    (w : World) (s : σ) (hok : Hid (ok s)) (hI : Hid (Inv s w)) (hB : Hid (Below base w0 w)) (hX : Hid (GBox w p5 p6 p7 A nn cc a g caps)) :
    Calls Tryz.prog 117 #[.agg t.cells, .pointer (some ⟨p5, 0, none⟩), .pointer (some ⟨p6, 0, none⟩), .pointer (some ⟨p7, 0, none⟩)] w (Given Fr Inv ((failT docs d [t]).foldl step s) w) := by
  have hh := Lib.hid (fun (W : World) (h : Below base w0 W) => holds_any A nn cc docs (a : Int) t W (hTb.out W t h hT.out) (hR.out W h))
  rw [standsA_in hd.out] at hh
  have hcall := Lib.hid (fun (hne : holdsT docs d t ≠ 0) (W : World) (h : Below base w0 W) (hi : Inv s W) => H.out.call s t W hT.out hQ.out hne h hok.out hi)
  have eg := H.out.enters
  have hinv := Lib.hid H.out.inv
  have hG := Lib.hid H.out.giver
  have hft : Hid (failT docs d [t] = if holdsT docs d t = 0 then [] else [t]) := by
    unfold Hid failT
    by_cases h : holdsT docs d t = 0 <;> simp [h]
  obtain ⟨y, hy⟩ : ∃ y, holdsT docs d t = y := ⟨_, rfl⟩
  rw [hy] at hh hcall hft
  clear H hy
  obtain ⟨TT, hTT⟩ : ∃ x, Hid (t = x) := ⟨_, rfl⟩
  obtain ⟨k, p, f, x, n, A', c', L⟩ := t
  simp only [Tree.cells] at hh hcall ⊢
  rw [hTT.out] at hcall hft hT hQ ⊢
  clear hTT
  obtain ⟨w1, hw1⟩ : ∃ X, Hid (w.alloc (.cells #[.int .i64 k, .int .i64 p, .string f, .string x, .int .i64 n, .slice A' L.length c'] 24) = X) := ⟨_, rfl⟩
  have hb1 : Hid (Below w.heap.size w w1) := by rw [← hw1.out]; exact (Below.refl _ w).alloc (Nat.le_refl _) _
  have hN1 : Hid (Blk w1 w.heap.size 24 #[.int .i64 k, .int .i64 p, .string f, .string x, .int .i64 n, .slice A' L.length c']) := by rw [← hw1.out]; exact Lib.hid (Blk.new _ _ _)
  have hX1 := Lib.hid (hX.out.below hb1.out)
  have hB1 : Hid (Below base w0 w1) := hB.out.trans (hb1.out.mono (Nat.le_trans hbase hB.out.size))
  have q0 : w1.cell? ⟨w.heap.size, 0, none⟩ = some (.int .i64 k) := hN1.out.cell 0
  have q1 : w1.cell? ⟨w.heap.size, 1, none⟩ = some (.int .i64 p) := hN1.out.cell 1
  have q2 : w1.cell? ⟨w.heap.size, 2, none⟩ = some (.string f) := hN1.out.cell 2
  have q3 : w1.cell? ⟨w.heap.size, 3, none⟩ = some (.string x) := hN1.out.cell 3
  have q4 : w1.cell? ⟨w.heap.size, 4, none⟩ = some (.int .i64 n) := hN1.out.cell 4
  have q5 : w1.cell? ⟨w.heap.size, 5, none⟩ = some (.slice A' L.length c') := hN1.out.cell 5
  have r5 : w1.cell? ⟨p5, 0, none⟩ = some (.slice A nn cc) := hX1.out.docs.cell 0
  have r6 : w1.cell? ⟨p6, 0, none⟩ = some (.int .i64 (a : Int)) := hX1.out.at_.cell 0
  have hh1 := Lib.hid (hh.out w1 hB1.out)
  go_enter Tryz.func117, Tryz.ntmps117
  go_wp2_with (rw [hw1.out])
  refine hh1.out.mono ?_
  rintro e w2 ⟨rfl, hb2⟩
  have hB2 : Hid (Below base w0 w2) := hB1.out.trans (hb2.mono (Nat.le_trans hbase hB1.out.size))
  have hb12 : Hid (Below w.heap.size w w2) := hb1.out.trans (hb2.mono hb1.out.size)
  have hN2 := Lib.hid (hN1.out.below hb2 hN1.out.lt)
  have hX2 := Lib.hid (hX1.out.below hb2)
  have hI2 := Lib.hid (hinv.out s w w2 hI.out hb12.out)
  clear q0 q1 q2 q3 q4 q5 r5 r6 hb2 hh1 hh hN1 hX1
  by_cases hy0 : y = 0
  · have z1 : (y != 0) = false := by simp [hy0]
    have z2 : (y == 0) = true := by simp [hy0]
    have hft0 : Hid (failT docs d [TT] = []) := by unfold Hid; rw [hft.out, if_pos hy0]
    go_wp2_with fail
    go_end0
    exact ⟨rfl, by rw [hft0.out]; exact hI2.out, hG.out.of hb12.out⟩
  · have z1 : (y != 0) = true := by simpa using hy0
    have z2 : (y == 0) = false := by simpa using hy0
    have hft1 : Hid (failT docs d [TT] = [TT]) := by unfold Hid; rw [hft.out, if_neg hy0]
    have hcall2 := Lib.hid (hcall.out hy0 w2 hB2.out hI2.out)
    have q0 : w2.cell? ⟨w.heap.size, 0, none⟩ = some (.int .i64 k) := hN2.out.cell 0
    have q1 : w2.cell? ⟨w.heap.size, 1, none⟩ = some (.int .i64 p) := hN2.out.cell 1
    have q2 : w2.cell? ⟨w.heap.size, 2, none⟩ = some (.string f) := hN2.out.cell 2
    have q3 : w2.cell? ⟨w.heap.size, 3, none⟩ = some (.string x) := hN2.out.cell 3
    have q4 : w2.cell? ⟨w.heap.size, 4, none⟩ = some (.int .i64 n) := hN2.out.cell 4
    have q5 : w2.cell? ⟨w.heap.size, 5, none⟩ = some (.slice A' L.length c') := hN2.out.cell 5
    have r7 : w2.cell? ⟨p7, 0, none⟩ = some (.func (.func g) #[] caps) := hX2.out.give.cell 0
    clear hcall hft hI hT hQ hok
    go_wp2_with (go_at_fn g; refine hcall2.out.mono ?_; rintro e w3 ⟨rfl, hI3, hF3⟩)
    have hI3' := Lib.hid hI3
    have hF3' := Lib.hid hF3
    clear hI3 hF3 q0 q1 q2 q3 q4 q5 r7 hcall2
    go_wp2_with fail
    go_end0
    exact ⟨rfl, by rw [hft1.out]; exact hI3'.out, hG.out.trans (hG.out.of hb12.out) hF3'.out⟩
theorem ok_sub {A B C : List Tree} {s : σ} (h : ∀ i, ok (((A ++ (B ++ C)).take i).foldl step s)) : ∀ i, ok ((B.take i).foldl step (A.foldl step s)) := by
  intro i
  have h1 := h (A.length + min i B.length)
  have e : B.take (min i B.length) = B.take i := by
    rcases Nat.le_total i B.length with h2 | h2
    · rw [Nat.min_eq_left h2]
    · rw [Nat.min_eq_right h2, List.take_of_length_le (Nat.le_refl _), List.take_of_length_le h2]
  rw [List.take_length_add_append, List.take_append_of_le_length (Nat.min_le_right _ _), List.foldl_append, e] at h1
  exact h1
theorem gpartsL_app : ∀ A B : List Tree, partsL (A ++ B) = partsL A ++ partsL B
  | [], B => by rw [partsL]; rfl
  | a :: A, B => by rw [List.cons_append, partsL, partsL, gpartsL_app A B, List.append_assoc]
theorem partsL_split {L : List Tree} {q : Nat} {u : Tree} (h : L[q]? = some u) : partsL L = partsL (L.take q) ++ (partsT u ++ partsL (L.drop (q + 1))) := by
  obtain ⟨hq, e⟩ := List.getElem?_eq_some_iff.1 h
  have hs : L = L.take q ++ (u :: L.drop (q + 1)) := by rw [← e, ← List.drop_eq_getElem_cons hq, List.take_append_drop]
  have h1 := gpartsL_app (L.take q) (u :: L.drop (q + 1))
  rw [← hs, partsL] at h1
  exact h1
def PartsG (w0 : World) (docs : List Pap) (d : Pap) (Fr : World → World → Prop) (Inv : σ → World → Prop) (ok : σ → Prop) (T : Tree → Prop) (step : σ → Tree → σ) (g : Nat) (caps : Array Value) (A : Option Addr) (nn cc a p5 p6 p7 : Nat) (t : Tree) : Prop :=
  ∀ (w : World) (s : σ), Hid (TreeAt w0 t) → Hid (∀ u ∈ partsT t, T u) → Hid (∀ i, ok (((failT docs d (partsT t)).take i).foldl step s)) → Hid (Inv s w) → Hid (Below w0.heap.size w0 w) → Hid (GBox w p5 p6 p7 A nn cc a g caps) →
    Calls Tryz.prog 116 #[.agg t.cells, .func (Fn.func 117) #[] #[.pointer (some ⟨p5, 0, none⟩), .pointer (some ⟨p6, 0, none⟩), .pointer (some ⟨p7, 0, none⟩)]] w (Given Fr Inv ((failT docs d (partsT t)).foldl step s) w)
set_option maxRecDepth 100000 in
set_option maxHeartbeats 3200000 in
theorem gparts_walk (H : Hid (GiveS w0 w0.heap.size docs d Fr Inv ok T step g caps)) (A : Option Addr) (nn cc a : Nat) (hd : Hid (docs[a]? = some d)) (hR : Hid (Room w0 A nn docs)) (p5 p6 p7 : Nat) (t : Tree) (ih : Hid (∀ u ∈ t.sub, PartsG w0 docs d Fr Inv ok T step g caps A nn cc a p5 p6 p7 u)) : PartsG w0 docs d Fr Inv ok T step g caps A nn cc a p5 p6 p7 t := by
  intro w s hT hQ hok hI hB hX
  have hG := Lib.hid H.out.giver
  have hinv := Lib.hid H.out.inv
  obtain ⟨k, p, f, x, n, A', c', L⟩ := t
  simp only [Tree.sub] at ih
  have hg1 : Hid (k ≠ 0 → ∀ W, Below w0.heap.size w0 W → Inv s W → GBox W p5 p6 p7 A nn cc a g caps → Calls Tryz.prog 117 #[.agg (Tree.mk k p f x n A' c' L).cells, .pointer (some ⟨p5, 0, none⟩), .pointer (some ⟨p6, 0, none⟩), .pointer (some ⟨p7, 0, none⟩)] W (Given Fr Inv ((failT docs d [Tree.mk k p f x n A' c' L]).foldl step s) W)) := Lib.hid fun hk0 W hBW hIW hXW => by
    have hpt : partsT (.mk k p f x n A' c' L) = [.mk k p f x n A' c' L] := by rw [partsT, if_neg hk0]
    have hQ1 := hQ.out
    have hok1 := hok.out 0
    rw [hpt] at hQ1
    simp only [List.take_zero, List.foldl_nil] at hok1
    exact give1_any H (Nat.le_refl _) A nn cc a hd (Lib.hid fun W' h => hR.out.below h) (Lib.hid fun W' t h ht => ht.below h) _ hT (Lib.hid (hQ1 _ (by simp))) p5 p6 p7 W s (Lib.hid hok1) (Lib.hid hIW) (Lib.hid hBW) (Lib.hid hXW)
  simp only [Tree.cells] at hg1 ⊢
  obtain ⟨m, hm⟩ : ∃ m, Hid (L.length = m) := ⟨_, rfl⟩
  rw [hm.out] at hg1 ⊢
  obtain ⟨hrows, hml⟩ := rows_sub hT.out
  rw [hm.out] at hml
  unfold maxLen at hml
  have hrows' := Lib.hid hrows
  clear hrows
  obtain ⟨w1, hw1⟩ : ∃ X, Hid (w.alloc (.cells #[.int .i64 k, .int .i64 p, .string f, .string x, .int .i64 n, .slice A' m c'] 24) = X) := ⟨_, rfl⟩
  have hb1 : Hid (Below w.heap.size w w1) := by rw [← hw1.out]; exact (Below.refl _ w).alloc (Nat.le_refl _) _
  have hN1 : Hid (Blk w1 w.heap.size 24 #[.int .i64 k, .int .i64 p, .string f, .string x, .int .i64 n, .slice A' m c']) := by rw [← hw1.out]; exact Lib.hid (Blk.new _ _ _)
  have hX1 := Lib.hid (hX.out.below hb1.out)
  have hB1 : Hid (Below w0.heap.size w0 w1) := hB.out.trans (hb1.out.mono hB.out.size)
  have hI1 := Lib.hid (hinv.out s w w1 hI.out hb1.out)
  have q0 : w1.cell? ⟨w.heap.size, 0, none⟩ = some (.int .i64 k) := hN1.out.cell 0
  have q1 : w1.cell? ⟨w.heap.size, 1, none⟩ = some (.int .i64 p) := hN1.out.cell 1
  have q2 : w1.cell? ⟨w.heap.size, 2, none⟩ = some (.string f) := hN1.out.cell 2
  have q3 : w1.cell? ⟨w.heap.size, 3, none⟩ = some (.string x) := hN1.out.cell 3
  have q4 : w1.cell? ⟨w.heap.size, 4, none⟩ = some (.int .i64 n) := hN1.out.cell 4
  have q5 : w1.cell? ⟨w.heap.size, 5, none⟩ = some (.slice A' m c') := hN1.out.cell 5
  clear H hI hX hB
  by_cases hk0 : k = 0
  · have hpt : Hid (partsT (.mk k p f x n A' c' L) = partsL L) := by unfold Hid; rw [partsT, if_pos hk0]
    rw [hpt.out] at hQ hok ⊢
    have b0 : (k != 0) = false := by simp [hk0]
    clear hk0 hg1
    go_enter Tryz.func116, Tryz.ntmps116
    go_wp2_with (rw [hw1.out])
    go_loopw [5, 15] (fun _ i wr => ∃ (q : Nat), q ≤ m ∧ i = .int .i64 q ∧ Hid (Inv ((failT docs d (partsL (L.take q))).foldl step s) wr) ∧ Hid (Fr w wr) ∧ Hid (Below w0.heap.size w0 wr) ∧ Hid (GBox wr p5 p6 p7 A nn cc a g caps)) (fun _ i _ => m - (intOf i).toNat)
    case atStart => exact ⟨0, Nat.zero_le _, rfl, by rw [List.take_zero, partsL]; exact hI1, hG.out.of hb1.out, hB1, hX1⟩
    case round =>
      clear q0 q1 q2 q3 q4 q5 hN1 hI1 hX1 hB1 hb1 hw1
      obtain ⟨q, hq, rfl, hI2, hF2, hB2, hX2⟩ := hrel
      by_cases hlt : q < m
      · as_aux_lemma =>
        obtain ⟨u, hu⟩ : ∃ u, L[q]? = some u := ⟨_, List.getElem?_eq_getElem (by have := hm.out; omega)⟩
        obtain ⟨hc, _⟩ := (hrows'.out.below hB2.out).get q u hu
        have hT0 := Lib.hid (hrows'.out.get q u hu).2
        have hsn := Lib.hid (partsL_snoc hu)
        have hsp := partsL_split hu
        have hQ0 : Hid (∀ v ∈ partsT u, T v) := Lib.hid fun v hv => hQ.out v (by rw [hsp]; simp [hv])
        have hok0 : Hid (∀ i, ok (((failT docs d (partsT u)).take i).foldl step ((failT docs d (partsL (L.take q))).foldl step s))) := Lib.hid (ok_sub (C := failT docs d (partsL (L.drop (q + 1)))) (by rw [← failT_app, ← failT_app, ← hsp]; exact hok.out))
        have hcall := Lib.hid (fun (W : World) (hF : Below wr.heap.size wr W) => ih.out u (List.mem_of_getElem? hu) W _ hT0 hQ0 hok0 (Lib.hid (hinv.out _ _ _ hI2.out hF)) (Lib.hid (hB2.out.trans (hF.mono hB2.out.size))) (Lib.hid (hX2.out.below hF)))
        obtain ⟨S1, hS1⟩ : ∃ x, (failT docs d (partsT u)).foldl step ((failT docs d (partsL (L.take q))).foldl step s) = x := ⟨_, rfl⟩
        have hS2 : Hid ((failT docs d (partsL (L.take (q + 1)))).foldl step s = S1) := by unfold Hid; rw [hsn.out, failT_app, List.foldl_append, hS1]
        rw [hS1] at hcall
        clear hu hsn hsp hQ0 hok0 hT0 hS1
        obtain ⟨tk, tp, tf, tx, tn, tA, tc, tL⟩ := u
        simp only [Tree.cells] at hcall
        obtain ⟨b, off, rfl, h0, h1, h2, h3, h4, h5⟩ := hc
        rw [Nat.zero_add] at h0 h1 h2 h3 h4 h5
        obtain ⟨w5, hw5⟩ : ∃ X, Hid (wr.alloc (.cells #[.int .i64 tk, .int .i64 tp, .string tf, .string tx, .int .i64 tn, .slice tA tL.length tc] 24) = X) := ⟨_, rfl⟩
        have hb5 : Hid (Below wr.heap.size wr w5) := by rw [← hw5.out]; exact (Below.refl _ wr).alloc (Nat.le_refl _) _
        have hN5 : Hid (Blk w5 wr.heap.size 24 #[.int .i64 tk, .int .i64 tp, .string tf, .string tx, .int .i64 tn, .slice tA tL.length tc]) := by rw [← hw5.out]; exact Lib.hid (Blk.new _ _ _)
        have hcall5 := Lib.hid (hcall.out w5 hb5.out)
        have r0 : w5.cell? ⟨wr.heap.size, 0, none⟩ = some (.int .i64 tk) := hN5.out.cell 0
        have r1 : w5.cell? ⟨wr.heap.size, 1, none⟩ = some (.int .i64 tp) := hN5.out.cell 1
        have r2 : w5.cell? ⟨wr.heap.size, 2, none⟩ = some (.string tf) := hN5.out.cell 2
        have r3 : w5.cell? ⟨wr.heap.size, 3, none⟩ = some (.string tx) := hN5.out.cell 3
        have r4 : w5.cell? ⟨wr.heap.size, 4, none⟩ = some (.int .i64 tn) := hN5.out.cell 4
        have r5 : w5.cell? ⟨wr.heap.size, 5, none⟩ = some (.slice tA tL.length tc) := hN5.out.cell 5
        have i1 : (q : Int) < (m : Int) := by omega
        have i2 : (0 : Int) ≤ (q : Int) := by omega
        have hkm : decide (q < m) = true := decide_eq_true hlt
        clear hcall ih
        go_wp2_with (rw [hw5.out])
        refine hcall5.out.mono ?_
        rintro e w6 ⟨rfl, hI6, hF6⟩
        have hF5 := hG.out.trans (hG.out.of hb5.out) hF6
        have hI6' := Lib.hid hI6
        have hF6' : Hid (Fr w w6) := hG.out.trans hF2.out hF5
        have hB6 : Hid (Below w0.heap.size w0 w6) := hB2.out.trans (hG.out.low hF5 hB2.out.size)
        have hX6 := Lib.hid (hX2.out.fr hG.out hF5)
        clear hI6 hF6 hF5 r0 r1 r2 r3 r4 r5 hcall5 h0 h1 h2 h3 h4 h5
        go_wp2_with fail
        go_roundw
        case rel => exact ⟨q + 1, by omega, by go_num, by rw [hS2.out]; exact hI6', hF6', hB6, hX6⟩
        case measure => simp [intOf]; omega
      · have hkm : decide (q < m) = false := decide_eq_false hlt
        obtain rfl : q = m := by omega
        rw [List.take_of_length_le (by have := hm.out; omega)] at hI2
        go_wp2_with fail
        go_end0
        exact ⟨rfl, hI2.out, hF2.out⟩
  · have hpt : Hid (partsT (.mk k p f x n A' c' L) = [.mk k p f x n A' c' L]) := by unfold Hid; rw [partsT, if_neg hk0]
    have hg2 := Lib.hid (hg1.out hk0 w1 hB1.out hI1.out hX1.out)
    have b0 : (k != 0) = true := by simp [hk0]
    rw [hpt.out]
    obtain ⟨S1, hS1⟩ : ∃ S9, (failT docs d [Tree.mk k p f x n A' c' L]).foldl step s = S9 := ⟨_, rfl⟩
    rw [hS1] at hg2 ⊢
    clear hk0 hg1 hS1
    go_enter Tryz.func116, Tryz.ntmps116
    go_wp2_with (rw [hw1.out])
    refine hg2.out.mono ?_
    rintro e w2 ⟨rfl, hI2, hF2⟩
    have hI2' := Lib.hid hI2
    have hF2' := Lib.hid hF2
    clear hI2 hF2 hg2 q0 q1 q2 q3 q4 q5
    go_wp2_with fail
    go_end0
    exact ⟨rfl, hI2'.out, hG.out.trans (hG.out.of hb1.out) hF2'.out⟩
theorem gparts_any (H : Hid (GiveS w0 w0.heap.size docs d Fr Inv ok T step g caps)) (A : Option Addr) (nn cc a : Nat) (hd : Hid (docs[a]? = some d)) (hR : Hid (Room w0 A nn docs)) (p5 p6 p7 : Nat) : ∀ t : Tree, PartsG w0 docs d Fr Inv ok T step g caps A nn cc a p5 p6 p7 t :=
  Tree.every fun t ih => gparts_walk H A nn cc a hd hR p5 p6 p7 t (Lib.hid ih)
theorem failL_snoc {needs : List Nd} {docs : List Pap} {d : Pap} {q : Nat} {x : Nd} (h : needs[q]? = some x) : failL (needs.take (q + 1)) docs d = failL (needs.take q) docs d ++ (if x.kind = d.kind then failT docs d (partsT x.rule) else []) := by
  unfold failL
  rw [List.take_add_one, h, List.flatMap_append]
  simp
theorem failL_split {needs : List Nd} {docs : List Pap} {d : Pap} {q : Nat} {x : Nd} (h : needs[q]? = some x) : failL needs docs d = failL (needs.take q) docs d ++ ((if x.kind = d.kind then failT docs d (partsT x.rule) else []) ++ failL (needs.drop (q + 1)) docs d) := by
  obtain ⟨hq, e⟩ := List.getElem?_eq_some_iff.1 h
  have hs : needs = needs.take q ++ (x :: needs.drop (q + 1)) := by rw [← e, ← List.drop_eq_getElem_cons hq, List.take_append_drop]
  have h1 : failL (needs.take q ++ (x :: needs.drop (q + 1))) docs d = failL (needs.take q) docs d ++ ((if x.kind = d.kind then failT docs d (partsT x.rule) else []) ++ failL (needs.drop (q + 1)) docs d) := by
    unfold failL
    rw [List.flatMap_append, List.flatMap_cons]
  rw [← hs] at h1
  exact h1
set_option maxRecDepth 100000 in
set_option maxHeartbeats 3200000 in
theorem failing_any (H : Hid (GiveS w0 w0.heap.size docs d Fr Inv ok T step g caps)) (A : Option Addr) (nn cc a : Nat) (hd : Hid (docs[a]? = some d)) (hR : Hid (Room w0 A nn docs)) (C : Array Value) (nA : Option Addr) (nl nc : Nat) (needs : List Nd) (hnl : Hid (needs.length = nl)) (hl12 : nl ≤ 1000) (hC17 : Hid (C[17]? = some (.slice nA nl nc))) (hN : Hid (NdsAt w0 nA needs))
    (hQ : Hid (∀ x ∈ needs, x.kind = d.kind → ∀ u ∈ partsT x.rule, T u)) (w : World) (s : σ) (hok : Hid (∀ i, ok (((failL needs docs d).take i).foldl step s))) (hI : Hid (Inv s w)) (hB : Hid (Below w0.heap.size w0 w)) :
    Calls Tryz.prog 63 #[.agg C, .slice A nn cc, .int .i64 (a : Int), .func (.func g) #[] caps] w (Given Fr Inv ((failL needs docs d).foldl step s) w) := by
  have hG := Lib.hid H.out.giver
  have hinv := Lib.hid H.out.inv
  have hpa := Lib.hid (fun p5 p6 p7 t => gparts_any H A nn cc a hd hR p5 p6 p7 t)
  have hat := Lib.hid hR.out.at_
  have hlt9 : a < nn := by have := (List.getElem?_eq_some_iff.1 hd.out).1; have := hR.out.len; omega
  have hnn9 := hR.out.most
  obtain ⟨w1, hw1⟩ : ∃ X, Hid ((((w.alloc (.cells C 46)).alloc (.cells #[.slice A nn cc] 25)).alloc (.cells #[.int .i64 (a : Int)] 3)).alloc (.cells #[.func (.func g) #[] caps] 103) = X) := ⟨_, rfl⟩
  have hs1 : (w.alloc (.cells C 46)).heap.size = w.heap.size + 1 := by simp
  have hs2 : ((w.alloc (.cells C 46)).alloc (.cells #[.slice A nn cc] 25)).heap.size = w.heap.size + 2 := by simp
  have hs3 : (((w.alloc (.cells C 46)).alloc (.cells #[.slice A nn cc] 25)).alloc (.cells #[.int .i64 (a : Int)] 3)).heap.size = w.heap.size + 3 := by simp
  have hK1 : Hid (Blk w1 w.heap.size 46 C) := by rw [← hw1.out]; exact Lib.hid ((((Blk.new _ _ _).alloc _).alloc _).alloc _)
  have hX1 : Hid (GBox w1 (w.heap.size + 1) (w.heap.size + 2) (w.heap.size + 3) A nn cc a g caps) := by
    rw [← hw1.out]
    refine ⟨?_, ?_, ?_⟩
    · rw [← hs1]; exact ((Blk.new _ _ _).alloc _).alloc _
    · rw [← hs2]; exact (Blk.new _ _ _).alloc _
    · rw [← hs3]; exact Blk.new _ _ _
  have hb1 : Hid (Below w.heap.size w w1) := by
    rw [← hw1.out]
    have h1 := (Below.refl w.heap.size w).alloc (Nat.le_refl _) (.cells C 46)
    have h2 := h1.alloc h1.size (.cells #[.slice A nn cc] 25)
    have h3 := h2.alloc h2.size (.cells #[.int .i64 (a : Int)] 3)
    exact h3.alloc h3.size _
  have hB1 : Hid (Below w0.heap.size w0 w1) := hB.out.trans (hb1.out.mono hB.out.size)
  have hI1 := Lib.hid (hinv.out s w w1 hI.out hb1.out)
  have c17 : w1.cell? ⟨w.heap.size, 17, none⟩ = some (.slice nA nl nc) := (hK1.out.cell 17).trans hC17.out
  obtain ⟨g1, hg1⟩ : ∃ z, Hid (w.heap.size + 1 = z) := ⟨_, rfl⟩
  obtain ⟨g2, hg2⟩ : ∃ z, Hid (w.heap.size + 2 = z) := ⟨_, rfl⟩
  obtain ⟨g3, hg3⟩ : ∃ z, Hid (w.heap.size + 3 = z) := ⟨_, rfl⟩
  have e1 : w.heap.size + 1 = g1 := hg1.out
  have e2 : g1 + 1 = g2 := by rw [← hg1.out]; exact hg2.out
  have e3 : g2 + 1 = g3 := by rw [← hg2.out]; exact hg3.out
  rw [hg1.out, hg2.out, hg3.out] at hX1
  clear H hI hB hs1 hs2 hs3 hR
  go_enter Tryz.func63, Tryz.ntmps63
  go_wp2_with (rw [hw1.out])
  clear e1 e2 e3
  go_loopw [9, 13] (fun _ i wr => ∃ (q : Nat), q ≤ nl ∧ i = .int .i64 q ∧ Hid (Inv ((failL (needs.take q) docs d).foldl step s) wr) ∧ Hid (Fr w wr) ∧ Hid (Below w0.heap.size w0 wr) ∧ Hid (GBox wr g1 g2 g3 A nn cc a g caps)) (fun _ i _ => nl - (intOf i).toNat)
  case atStart => exact ⟨0, Nat.zero_le _, rfl, hI1, hG.out.of hb1.out, hB1, hX1⟩
  case round =>
    clear c17 hK1 hI1 hX1 hB1 hb1 hw1
    obtain ⟨q, hq, rfl, hI2, hF2, hB2, hX2⟩ := hrel
    by_cases hlt : q < nl
    · as_aux_lemma =>
      obtain ⟨x, hx⟩ : ∃ x, needs[q]? = some x := ⟨_, List.getElem?_eq_getElem (by have := hnl.out; omega)⟩
      have hTx0 := (hN.out q x hx).2.1
      obtain ⟨_, hTx, _, b, off, rfl, h0, h1, h2⟩ := (hN.out.below hB2.out) q x hx
      obtain ⟨b3, f3, rfl, d0, _⟩ := (hat.out.below hB2.out) a d hd.out
      have hsn := failL_snoc (docs := docs) (d := d) hx
      have hsp := failL_split (docs := docs) (d := d) hx
      have hmem := List.mem_of_getElem? hx
      obtain ⟨S0, hS0⟩ : ∃ z, (failL (needs.take q) docs d).foldl step s = z := ⟨_, rfl⟩
      rw [hS0] at hI2
      have i1 : (q : Int) < (nl : Int) := by omega
      have i2 : (0 : Int) ≤ (q : Int) := by omega
      have i3 : (a : Int) < (nn : Int) := by omega
      have i4 : (0 : Int) ≤ (a : Int) := by omega
      have hkm : decide (q < nl) = true := decide_eq_true hlt
      have hcall : x.kind = d.kind → ∀ W, Below wr.heap.size wr W → Calls Tryz.prog 116 #[.agg x.rule.cells, .func (Fn.func 117) #[] #[.pointer (some ⟨g1, 0, none⟩), .pointer (some ⟨g2, 0, none⟩), .pointer (some ⟨g3, 0, none⟩)]] W (Given Fr Inv ((failT docs d (partsT x.rule)).foldl step S0) W) := fun hk W hW => by
        refine hpa.out g1 g2 g3 x.rule W S0 (Lib.hid hTx0) (Lib.hid fun u hu => hQ.out x hmem hk u hu) (Lib.hid ?_) (Lib.hid (hinv.out _ _ _ hI2.out hW)) (Lib.hid (hB2.out.trans (hW.mono hB2.out.size))) (Lib.hid (hX2.out.below hW))
        have h9 := hok.out
        rw [hsp, if_pos hk] at h9
        have := ok_sub h9
        rw [hS0] at this
        exact this
      have hcall' := Lib.hid hcall
      have hS2 : Hid ((failL (needs.take (q + 1)) docs d).foldl step s = (if x.kind = d.kind then failT docs d (partsT x.rule) else []).foldl step S0) := by unfold Hid; rw [hsn, List.foldl_append, hS0]
      obtain ⟨dk, hdk⟩ : ∃ z, d.kind = z := ⟨_, rfl⟩
      rw [hdk] at hcall' hS2 d0
      clear hx hsn hsp hmem hcall hS0 hTx hTx0 hdk
      obtain ⟨xk, xc, rule⟩ := x
      obtain ⟨tk, tp, tf, tx, tn, tA, tc, tL⟩ := rule
      simp only [Tree.cells] at hcall' hS2 h0 h1 h2
      obtain ⟨h2, h3, h4, h5, h6, h7⟩ := h2
      obtain ⟨w5, hw5⟩ : ∃ X, Hid (wr.alloc (.cells #[.int .i64 xk, .int .i64 xc, .int .i64 tk, .int .i64 tp, .string tf, .string tx, .int .i64 tn, .slice tA tL.length tc] 71) = X) := ⟨_, rfl⟩
      have hb5 : Hid (Below wr.heap.size wr w5) := by rw [← hw5.out]; exact (Below.refl _ wr).alloc (Nat.le_refl _) _
      have hN5 : Hid (Blk w5 wr.heap.size 71 #[.int .i64 xk, .int .i64 xc, .int .i64 tk, .int .i64 tp, .string tf, .string tx, .int .i64 tn, .slice tA tL.length tc]) := by rw [← hw5.out]; exact Lib.hid (Blk.new _ _ _)
      have hX5 := Lib.hid (hX2.out.below hb5.out)
      have r0 : w5.cell? ⟨wr.heap.size, 0, none⟩ = some (.int .i64 xk) := hN5.out.cell 0
      have r2 : w5.cell? ⟨wr.heap.size, 2, none⟩ = some (.int .i64 tk) := hN5.out.cell 2
      have r3 : w5.cell? ⟨wr.heap.size, 3, none⟩ = some (.int .i64 tp) := hN5.out.cell 3
      have r4 : w5.cell? ⟨wr.heap.size, 4, none⟩ = some (.string tf) := hN5.out.cell 4
      have r5 : w5.cell? ⟨wr.heap.size, 5, none⟩ = some (.string tx) := hN5.out.cell 5
      have r6 : w5.cell? ⟨wr.heap.size, 6, none⟩ = some (.int .i64 tn) := hN5.out.cell 6
      have r7 : w5.cell? ⟨wr.heap.size, 7, none⟩ = some (.slice tA tL.length tc) := hN5.out.cell 7
      have p1 : w5.cell? ⟨g1, 0, none⟩ = some (.slice (some ⟨b3, f3, none⟩) nn cc) := hX5.out.docs.cell 0
      have p2 : w5.cell? ⟨g2, 0, none⟩ = some (.int .i64 (a : Int)) := hX5.out.at_.cell 0
      have p3 : w5.cell? ⟨b3, f3 + a * 4, none⟩ = some (.int .i64 dk) := (hb5.out.cell (World.block_lt_of_cell? wr _ d0)).trans d0
      by_cases hk : xk = dk
      · subst hk
        have z1 : (xk != xk) = false := by simp
        have hc5 := Lib.hid (fun n => hcall'.out rfl (w5.drewN n) (below_drewN hb5.out n))
        rw [if_pos rfl] at hS2
        clear hcall' d0
        go_wp2_with (rw [hw5.out])
        go_quiet (fail)
        go_wp2_with fail
        refine (hc5.out _).mono ?_
        rintro e w6 ⟨rfl, hI6, hF6⟩
        have hF5 := hG.out.trans (hG.out.of (below_drewN hb5.out _)) hF6
        have hI6' := Lib.hid hI6
        have hF6' : Hid (Fr w w6) := hG.out.trans hF2.out hF5
        have hB6 : Hid (Below w0.heap.size w0 w6) := hB2.out.trans (hG.out.low hF5 hB2.out.size)
        have hX6 := Lib.hid (hX2.out.fr hG.out hF5)
        clear hI6 hF6 hF5 r0 r2 r3 r4 r5 r6 r7 p1 p2 p3 h0 h1 h2 h3 h4 h5 h6 h7
        go_wp2_with fail
        go_roundw
        case rel => exact ⟨q + 1, by omega, by go_num, by rw [hS2.out]; exact hI6', hF6', hB6, hX6⟩
        case measure => simp [intOf]; omega
      · have z1 : (xk != dk) = true := by simpa using hk
        rw [if_neg hk] at hS2
        clear hcall' d0
        go_wp2_with (rw [hw5.out])
        go_quiet (fail)
        go_wp2_with fail
        go_roundw
        case rel => exact ⟨q + 1, by omega, by go_num, by rw [hS2.out]; exact hinv.out _ _ _ hI2.out (below_drewN hb5.out _), hG.out.trans hF2.out (hG.out.of (below_drewN hb5.out _)), hB2.out.trans ((below_drewN hb5.out _).mono hB2.out.size), hX2.out.below (below_drewN hb5.out _)⟩
        case measure => simp [intOf]; omega
    · have hkm : decide (q < nl) = false := decide_eq_false hlt
      obtain rfl : q = nl := by omega
      rw [List.take_of_length_le (by have := hnl.out; omega)] at hI2
      go_wp2_with fail
      go_end0
      exact ⟨rfl, hI2.out, hF2.out⟩
end
end Go.Proofs.YtdjmckjbibfecaaGreatDoor

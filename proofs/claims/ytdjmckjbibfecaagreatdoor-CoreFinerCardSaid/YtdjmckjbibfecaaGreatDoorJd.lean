/- core.Least: the finer faults. -/
import Derived.Test.YtdjmckjbibfecaaGreatDoorJc
namespace Go.Proofs.YtdjmckjbibfecaaGreatDoor
open Go Go.RowKit Go.BigFrame Go.Maps

theorem finest_len {docs : List Pap} {d : Pap} {t : Tree} {f : Flt} {a : Nat} (hfa : f.paper = (a : Int)) (hd0 : docs[a]? = some d) : (finestM docs d t f).length ≤ 12 := by
  unfold finestM
  rw [hfa]
  split
  · rename_i p ps _ he
    have hcs := core_small hd0 (show (p :: ps) ∈ coresE docs t (a : Int) by rw [he]; simp)
    rw [fineM_len hcs.2]; exact hcs.1
  · simp
theorem leastStep_len {docs : List Pap} {d : Pap} {f : Flt} {a : Nat} (hfa : f.paper = (a : Int)) (hd0 : docs[a]? = some d) (L : List Flt) (t : Tree) : (leastStep docs d f L t).length ≤ L.length + 12 := by
  unfold leastStep
  split
  · rw [List.length_append]; have := finest_len (t := t) hfa hd0; omega
  · omega
theorem leastFold_len {docs : List Pap} {d : Pap} {f : Flt} {a : Nat} (hfa : f.paper = (a : Int)) (hd0 : docs[a]? = some d) : ∀ (l : List Tree) (L : List Flt), (l.foldl (leastStep docs d f) L).length ≤ L.length + 12 * l.length
  | [], L => by simp
  | t :: l, L => by
    have h1 := leastFold_len hfa hd0 l (leastStep docs d f L t)
    have h2 := leastStep_len hfa hd0 L t
    rw [List.foldl_cons, List.length_cons]
    omega
theorem failL_len {needs : List Nd} {docs : List Pap} {d : Pap} (h : FewParts needs) : (failL needs docs d).length ≤ 720 := by
  have : ∀ l : List Nd, (∀ x ∈ l, (partsT x.rule).length ≤ 60) → (l.flatMap fun x => if x.kind = d.kind then failT docs d (partsT x.rule) else []).length ≤ 60 * l.length := by
    intro l
    induction l with
    | nil => intro _; simp
    | cons x l ih =>
      intro h
      have h1 := ih fun y hy => h y (by simp [hy])
      have h2 := h x (by simp)
      rw [List.flatMap_cons, List.length_append, List.length_cons]
      have h3 : (if x.kind = d.kind then failT docs d (partsT x.rule) else []).length ≤ 60 := by
        split
        · exact Nat.le_trans (List.length_filter_le _ _) h2
        · simp
      omega
  have h4 := this needs h.2
  have h5 := h.1
  unfold failL
  omega
/-- One fault made finer. -/
def leastAcc (needs : List Nd) (docs : List Pap) (L : List Flt) (f : Flt) : List Flt :=
  if wholeB docs.length f = true then (match docs[f.paper.toNat]? with | some d => (failL needs docs d).foldl (leastStep docs d f) L | none => L) else L ++ [f]
theorem leastAcc_len {needs : List Nd} {docs : List Pap} (h : FewParts needs) (L : List Flt) (f : Flt) : (leastAcc needs docs L f).length ≤ L.length + 8640 := by
  unfold leastAcc
  split
  · rename_i hw
    have h0 : 0 ≤ f.paper := by
      unfold wholeB at hw
      simp only [Bool.and_eq_true, decide_eq_true_eq] at hw
      exact hw.1.1
    split
    · rename_i d hd
      have := leastFold_len (f := f) (a := f.paper.toNat) (by omega) hd (failL needs docs d) L
      have := failL_len (docs := docs) (d := d) h
      omega
    · omega
  · rw [List.length_append]; simp
def leastM (needs : List Nd) (docs : List Pap) (l : List Flt) : List Flt := l.foldl (leastAcc needs docs) []
theorem leastM_len {needs : List Nd} {docs : List Pap} (h : FewParts needs) : ∀ (l L : List Flt), (l.foldl (leastAcc needs docs) L).length ≤ L.length + 8640 * l.length
  | [], L => by simp
  | f :: l, L => by
    have h1 := leastM_len (docs := docs) h l (leastAcc needs docs L f)
    have h2 := leastAcc_len (docs := docs) h L f
    rw [List.foldl_cons, List.length_cons]
    omega
theorem leastM_snoc {needs : List Nd} {docs : List Pap} {l : List Flt} {q : Nat} {f : Flt} (h : l[q]? = some f) : leastM needs docs (l.take (q + 1)) = leastAcc needs docs (leastM needs docs (l.take q)) f := by
  obtain ⟨hj, e⟩ := List.getElem?_eq_some_iff.1 h
  rw [List.take_succ_eq_append_getElem hj, e]
  unfold leastM
  rw [List.foldl_append]
  rfl
theorem give_least (w0 : World) (A0 : Option Addr) (nn c0 : Nat) (docs : List Pap) (hR : Hid (Room w0 A0 nn docs)) (f : Flt) (a : Nat) (hfa : f.paper = (a : Int)) (d : Pap) (hd0 : docs[a]? = some d) (gl gf gd : Nat) (hgl : w0.heap.size ≤ gl) (AF : Option Addr) (LF : List Flt) :
    GiveS w0 w0.heap.size docs d (LstFr w0.heap.size) (fun (L : List Flt) W => (∃ v, LstS AF LF W w0.heap.size gl gf #[.int .i64 (a : Int), .int .i64 f.kind, .string f.field, .int .i64 f.why] v L) ∧ Blk W gd 25 #[.slice A0 nn c0]) (fun L => L.length ≤ 1000000000000) (fun t => (atomsT t).length ≤ 60) (leastStep docs d f) 64 #[.pointer (some ⟨gf, 0, none⟩), .pointer (some ⟨gl, 0, none⟩), .pointer (some ⟨gd, 0, none⟩)] where
  giver := lstGiver _
  inv := fun s a b ⟨⟨v, h⟩, hd⟩ hb => ⟨⟨v, h.on hb⟩, hd.below hb hd.lt⟩
  call := fun s t W hT hTt _ hW hok ⟨⟨v, hL⟩, hD⟩ => by
    refine (least1_any t A0 nn c0 docs f a hfa d hd0 w0.heap.size w0.heap.size gl gf gd v s W (Lib.hid (hT.below hW)) (Lib.hid (hR.out.below hW)) hTt AF LF (Lib.hid hL) (Lib.hid hD) (Nat.le_refl _) hgl hW.size hok).mono ?_
    rintro e w' ⟨he, h1, h2⟩
    exact ⟨he, ⟨h1, h2.2.2 _ _ _ hD (.inr (.inl rfl))⟩, h2⟩
  enters := enters_of Tryz.func64 (by kernel_rfl) rfl
structure LeaS (w W : World) (C : Array Value) (A : Option Addr) (nn cc g1 g2 : Nat) (AF : Option Addr) (LF : List Flt) (v : Value) (M : List Flt) : Prop where
  below : Below w.heap.size w W
  cred : Blk W w.heap.size 46 C
  docs : Blk W g1 25 #[.slice A nn cc]
  box : Blk W g2 47 #[v]
  row : W.ownsRow w.heap.size 54 4 v M.length (fcells M)
  rest : FaultsAt W AF LF
  off : LF ≠ [] → ∀ b o, AF = some ⟨b, o, none⟩ → v.ownBlock ≠ some b ∧ g2 ≠ b
theorem LeaS.on {w W W' : World} {C : Array Value} {A : Option Addr} {nn cc g1 g2 : Nat} {AF : Option Addr} {LF : List Flt} {v : Value} {M : List Flt} (h : LeaS w W C A nn cc g1 g2 AF LF v M) (hb : Below W.heap.size W W') : LeaS w W' C A nn cc g1 g2 AF LF v M :=
  ⟨h.below.trans (hb.mono h.below.size), h.cred.below hb h.cred.lt, h.docs.below hb h.docs.lt, h.box.below hb h.box.lt, own_below h.row hb, h.rest.below hb, h.off⟩
theorem LeaS.lst {w W : World} {C : Array Value} {A : Option Addr} {nn cc g1 g2 gf : Nat} {AF : Option Addr} {LF : List Flt} {v : Value} {M : List Flt} {C' : Array Value} (h : LeaS w W C A nn cc g1 g2 AF LF v M) (hf : Blk W gf 54 C') (hne : v.ownBlock ≠ some gf) : LstS AF LF W w.heap.size g2 gf C' v M :=
  ⟨h.rest, h.off, h.box, h.row, hf, hne⟩
theorem LeaS.of_lst {w W W' : World} {C : Array Value} {A : Option Addr} {nn cc g1 g2 gf : Nat} {AF : Option Addr} {LF : List Flt} {v v' : Value} {M M' : List Flt} {C' : Array Value} (h : LeaS w W C A nn cc g1 g2 AF LF v M) (hl : LstS AF LF W' w.heap.size g2 gf C' v' M') (hF : LstFr w.heap.size W W') : LeaS w W' C A nn cc g1 g2 AF LF v' M' :=
  ⟨h.below.trans (hF.1 h.below.size), hF.2.2 _ _ _ h.cred (.inr (.inr (.inr (.inl rfl)))), hF.2.2 _ _ _ h.docs (.inr (.inl rfl)), hl.box, hl.row, hl.rest, hl.off⟩
set_option maxRecDepth 100000 in
set_option maxHeartbeats 6400000 in
theorem leastAll_any (w : World) (C : Array Value) (nA : Option Addr) (nl nc : Nat) (needs : List Nd) (hnl : Hid (needs.length = nl)) (hl12 : nl ≤ 1000) (hC17 : Hid (C[17]? = some (.slice nA nl nc))) (hN : Hid (NdsAt w nA needs)) (A : Option Addr) (nn cc : Nat) (docs : List Pap) (day : Int) (LF : List Flt) (hX : Hid (ExamC w C A nn cc day LF)) (hR : Hid (Room w A nn docs)) (hFP : Hid (FewParts needs))
    (hsm : Hid (∀ x ∈ needs, ∀ u ∈ partsT x.rule, (atomsT u).length ≤ 12)) :
    Calls Tryz.prog 29 #[.agg C, .slice A nn cc, .int .i64 day] w fun e w' => ∃ v, e = .returned (.tuple #[v, .bool true]) ∧ w'.ownsRow w.heap.size 54 4 v (leastM needs docs LF).length (fcells (leastM needs docs LF)) ∧ Below w.heap.size w w' := by
  obtain ⟨iF, iFi, iF0, iF1, iF2⟩ := info_parts Tryz.info54
  have hsz := Lib.hid hX.out.size
  have hnn := hR.out.most
  have hlen := Lib.hid hR.out.len
  obtain ⟨w1, hw1⟩ : ∃ X, Hid (((w.alloc (.cells C 46)).alloc (.cells #[.slice A nn cc] 25)).alloc (.cells #[.slice none 0 0] 47) = X) := ⟨_, rfl⟩
  have hs1 : (w.alloc (.cells C 46)).heap.size = w.heap.size + 1 := by simp
  have hs2 : ((w.alloc (.cells C 46)).alloc (.cells #[.slice A nn cc] 25)).heap.size = w.heap.size + 2 := by simp
  have hK1 : Hid (Blk w1 w.heap.size 46 C) := by rw [← hw1.out]; exact Lib.hid (((Blk.new _ _ _).alloc _).alloc _)
  have hD1 : Hid (Blk w1 (w.heap.size + 1) 25 #[.slice A nn cc]) := by rw [← hw1.out, ← hs1]; exact Lib.hid ((Blk.new _ _ _).alloc _)
  have hV1 : Hid (Blk w1 (w.heap.size + 2) 47 #[.slice none 0 0]) := by rw [← hw1.out, ← hs2]; exact Lib.hid (Blk.new _ _ _)
  have hb1 : Hid (Below w.heap.size w w1) := by
    rw [← hw1.out]
    have h1 := (Below.refl w.heap.size w).alloc (Nat.le_refl _) (.cells C 46)
    have h2 := h1.alloc h1.size (.cells #[.slice A nn cc] 25)
    exact h2.alloc h2.size _
  obtain ⟨g1, hg1⟩ : ∃ z, Hid (w.heap.size + 1 = z) := ⟨_, rfl⟩
  obtain ⟨g2, hg2⟩ : ∃ z, Hid (w.heap.size + 2 = z) := ⟨_, rfl⟩
  have e1 : w.heap.size + 1 = g1 := hg1.out
  have e2 : g1 + 1 = g2 := by rw [← hg1.out]; exact hg2.out
  have hgl : w.heap.size ≤ g2 := by rw [← hg2.out]; omega
  rw [hg1.out] at hD1
  rw [hg2.out] at hV1
  have hex := Lib.hid (hX.out.prog w1 hb1.out)
  have hLl := hX.out.len
  obtain ⟨K, hK⟩ : ∃ k, Hid (LF.length = k) := ⟨_, rfl⟩
  rw [hK.out] at hLl
  have p1 : w1.cell? ⟨g1, 0, none⟩ = some (.slice A nn cc) := hD1.out.cell 0
  clear hs1 hs2
  go_enter Tryz.func29, Tryz.ntmps29
  go_wp2_with (first | rw [hw1.out] | (refine wpList_load_blk rfl 46 (.tmp 3) rfl w.heap.size C 46 _ rfl hK1.out Tryz.underlying46 rfl hsz.out ?_))
  refine hex.out.mono ?_
  rintro e w2 ⟨A2, c2, rfl, _, hF2, hb2⟩
  rw [hK.out]
  have hV2 := hV1.out.below hb2 hV1.out.lt
  have hS2 : Hid (LeaS w w2 C A nn cc g1 g2 A2 LF (.slice none 0 0) (leastM needs docs (LF.take 0))) := by
    refine Lib.hid ⟨hb1.out.trans (hb2.mono hb1.out.size), hK1.out.below hb2 hK1.out.lt, hD1.out.below hb2 hD1.out.lt, hV2, by rw [List.take_zero]; exact own_none _ _ _ _, hF2, fun hne b o e => ⟨by simp [Value.ownBlock], ?_⟩⟩
    rintro rfl
    obtain ⟨x, hx⟩ : ∃ x, LF[0]? = some x := ⟨_, List.getElem?_eq_getElem (List.length_pos_iff.2 hne)⟩
    obtain ⟨b', o', e', h0, _⟩ := hF2 0 x hx
    rw [e] at e'
    simp only [Option.some.injEq, Addr.mk.injEq, and_true] at e'
    obtain ⟨rfl, rfl⟩ := e'
    have h9 := hV2.cell (o + 0 * 4)
    rw [h0] at h9
    rcases Nat.eq_zero_or_pos o with rfl | ho
    · simp at h9
    · rw [Array.getElem?_eq_none (by simp; omega)] at h9; cases h9
  clear hF2 hb2 hV2 hex p1 hK1 hD1 hV1 e1 e2
  have hsm60 : Hid (∀ x ∈ needs, ∀ u ∈ partsT x.rule, (atomsT u).length ≤ 60) := Lib.hid fun x hx u hu => Nat.le_trans (hsm.out x hx u hu) (by decide)
  go_wp2_with fail
  go_loopw [18] (fun i wr => ∃ q : Nat, q ≤ K ∧ i = .int .i64 q ∧ ∃ v, Hid (LeaS w wr C A nn cc g1 g2 A2 LF v (leastM needs docs (LF.take q)))) (fun i _ => K - (intOf i).toNat)
  case atStart => exact ⟨0, Nat.zero_le _, rfl, _, hS2⟩
  case round =>
    clear hS2
    obtain ⟨q, hq, rfl, v, hS⟩ := hrel
    by_cases hlt : q < K
    · as_aux_lemma =>
      obtain ⟨x, hx⟩ : ∃ x, LF[q]? = some x := ⟨_, List.getElem?_eq_getElem (by have := hK.out; omega)⟩
      obtain ⟨M, hM⟩ : ∃ l, Hid (leastM needs docs (LF.take q) = l) := ⟨_, rfl⟩
      have hsn := Lib.hid (leastM_snoc (needs := needs) (docs := docs) hx)
      have hMl : Hid (M.length ≤ 8640 * 20000) := by
        have := leastM_len (docs := docs) hFP.out (LF.take q) []
        rw [← hM.out]
        unfold Hid leastM
        rw [List.length_take] at this
        simp only [List.length_nil] at this
        omega
      rw [hM.out] at hsn hS
      obtain ⟨b, off, rfl, x0, x1, x2, x3⟩ := hS.out.rest q x hx
      obtain ⟨xp, xk, xf, xw⟩ := x
      simp only at x0 x1 x2 x3
      obtain ⟨w5, hw5⟩ : ∃ X, Hid (wr.alloc (.cells #[.int .i64 xp, .int .i64 xk, .string xf, .int .i64 xw] 54) = X) := ⟨_, rfl⟩
      have hb5 : Hid (Below wr.heap.size wr w5) := by rw [← hw5.out]; exact (Below.refl _ wr).alloc (Nat.le_refl _) _
      have hG5 : Hid (Blk w5 wr.heap.size 54 #[.int .i64 xp, .int .i64 xk, .string xf, .int .i64 xw]) := by rw [← hw5.out]; exact Lib.hid (Blk.new _ _ _)
      have hap : Hid (v.ownBlock ≠ some wr.heap.size) := Lib.hid fun e => by have := (hS.out.row.lt _ e).2; omega
      obtain ⟨gf, hgf⟩ : ∃ z, Hid (wr.heap.size = z) := ⟨_, rfl⟩
      rw [hgf.out] at hG5 hap
      have e3 : wr.heap.size = gf := hgf.out
      have hS5 := Lib.hid (hS.out.on hb5.out)
      have r0 : w5.cell? ⟨gf, 0, none⟩ = some (.int .i64 xp) := hG5.out.cell 0
      have r1 : w5.cell? ⟨gf, 1, none⟩ = some (.int .i64 xk) := hG5.out.cell 1
      have r2 : w5.cell? ⟨gf, 2, none⟩ = some (.string xf) := hG5.out.cell 2
      have r3 : w5.cell? ⟨gf, 3, none⟩ = some (.int .i64 xw) := hG5.out.cell 3
      have p5 : w5.cell? ⟨g1, 0, none⟩ = some (.slice A nn cc) := hS5.out.docs.cell 0
      have hwh := Lib.hid (whole_any ⟨xp, xk, xf, xw⟩ A nn cc w5)
      simp only [Flt.agg] at hwh
      obtain ⟨bw, hbw⟩ : ∃ b, Hid (wholeB nn ⟨xp, xk, xf, xw⟩ = b) := ⟨_, rfl⟩
      rw [hbw.out] at hwh
      have i1 : (q : Int) < (K : Int) := by omega
      have i2 : (0 : Int) ≤ (q : Int) := by omega
      have hkm : decide (q < K) = true := decide_eq_true hlt
      clear hx hM
      go_wp2_with (first | rw [hw5.out])
      refine hwh.out.mono ?_
      rintro e w6 ⟨rfl, hb6⟩
      have hS6 := Lib.hid (hS5.out.on hb6)
      have hG6 := Lib.hid (hG5.out.below hb6 hG5.out.lt)
      clear hb6 r0 r1 r2 r3 p5 hwh hS5 hG5 x0 x1 x2 x3 hb5 hw5 e3
      cases bw with
      | false =>
        have hacc : Hid (leastM needs docs (LF.take (q + 1)) = M ++ [⟨xp, xk, xf, xw⟩]) := by
          unfold Hid
          rw [hsn.out]
          unfold leastAcc
          rw [hlen.out, if_neg (by rw [hbw.out]; decide)]
        obtain ⟨A9, c9, rfl⟩ := own_form hS6.out.row
        have r0 : w6.cell? ⟨gf, 0, none⟩ = some (.int .i64 xp) := hG6.out.cell 0
        have r1 : w6.cell? ⟨gf, 1, none⟩ = some (.int .i64 xk) := hG6.out.cell 1
        have r2 : w6.cell? ⟨gf, 2, none⟩ = some (.string xf) := hG6.out.cell 2
        have r3 : w6.cell? ⟨gf, 3, none⟩ = some (.int .i64 xw) := hG6.out.cell 3
        have p6 : w6.cell? ⟨g2, 0, none⟩ = some (.slice A9 M.length c9) := hS6.out.box.cell 0
        obtain ⟨w7, hw7⟩ : ∃ X, Hid (w6.alloc (.cells #[.int .i64 xp, .int .i64 xk, .string xf, .int .i64 xw] 54) = X) := ⟨_, rfl⟩
        have hb7 : Hid (Below w6.heap.size w6 w7) := by rw [← hw7.out]; exact (Below.refl _ w6).alloc (Nat.le_refl _) _
        have hblk : Hid (Reads w7 w7.heap.size 4 (some ⟨w6.heap.size, 0, none⟩) 1 (#[.int .i64 xp, .int .i64 xk, .string xf, .int .i64 xw] : Array Value).toList) := by rw [← hw7.out]; exact Lib.hid (blk_reads (Blk.new w6 54 #[.int .i64 xp, .int .i64 xk, .string xf, .int .i64 xw]) 4 1 rfl)
        have hS7 := Lib.hid (hS6.out.on hb7.out)
        have hG7 := Lib.hid (hG6.out.below hb7.out hG6.out.lt)
        have s1 : Hid (M.length + 1 ≤ maxLen) := by unfold Hid maxLen; have := hMl.out; omega
        have s2 : Hid ((M.length + 1) * 40 ≤ 140737488355328) := by unfold Hid; have := hMl.out; omega
        have s3 := Lib.hid hS7.out.below.size
        have s4 : Hid (∀ v ∈ (#[.int .i64 xp, .int .i64 xk, .string xf, .int .i64 xw] : Array Value).toList, v.oneCell' = true) := Lib.hid (one4 ⟨xp, xk, xf, xw⟩)
        have hfin : Hid (∀ v8 w8 w9, w8.ownsRow w.heap.size 54 4 v8 (M.length + 1) (fcells M ++ (#[.int .i64 xp, .int .i64 xk, .string xf, .int .i64 xw] : Array Value).toList) → w7.grownBy w8 (Value.slice A9 M.length c9).ownBlock → (v8.ownBlock = (Value.slice A9 M.length c9).ownBlock ∨ v8.ownBlock = some w7.heap.size) → Blk w9 g2 47 #[v8] → But g2 w8 w9 → LeaS w w9 C A nn cc g1 g2 (some ⟨b, off, none⟩) LF v8 (M ++ [⟨xp, xk, xf, xw⟩])) :=
          Lib.hid fun v8 w8 w9 ho hg hv h9 hbut => hS7.out.of_lst ((hS7.out.lst hG7.out hap.out).put (M := [⟨xp, xk, xf, xw⟩]) hg hv (by simpa [fcells, Flt.cells] using ho) h9 hbut) (LstFr.put hS7.out.row hS7.out.box (Nat.le_refl _) hgl hg hbut)
        clear hS6 hG6 hb7 hG7 hap
        go_wp2_with (first | rw [hw7.out] | (at_builtin; go_must (refine wpList_append_any _ rfl _ _ 47 rfl w.heap.size 54 iF _ 4 40 Tryz.underlying47 iFi iF0 iF1 iF2 rfl (by decide) _ M.length (fcells M) rfl hS7.out.row _ (some ⟨w6.heap.size, 0, none⟩) 1 1 _ rfl hblk.out s4.out s1.out s2.out s3.out ?_); intro v8 w8 ho8 hg8 hv8; have hl8 := Lib.hid (Blk.kept hS7.out.box hg8 (own_blk_ne hS7.out.row hS7.out.box (by decide))); have hf8 := Lib.hid (fun w9 => hfin.out v8 w8 w9 ho8 hg8 hv8); have h18 := Lib.hid (own_one ho8); clear ho8 hg8 hv8) | (refine wpList_puto rfl 47 (.tmp 8) (.tmp 29) rfl g2 0 _ #[v8] 47 v8 rfl rfl hl8.out (by simp) rfl (by kernel_rfl) h18.out ?_; intro w9 h9 hb9 hbut9; have hS9 := Lib.hid (hf8.out w9 h9 hbut9); clear h9 hb9 hbut9))
        go_roundw
        case rel => exact ⟨q + 1, by omega, by go_num, _, by rw [hacc.out]; exact hS9⟩
        case measure => simp [intOf]; omega
      | true =>
        have hw3 : 0 ≤ xp ∧ xp < (nn : Int) := by
          have := hbw.out
          unfold wholeB at this
          simp only [Bool.and_eq_true, decide_eq_true_eq] at this
          exact this.1
        obtain ⟨a, rfl⟩ : ∃ a : Nat, xp = a := ⟨xp.toNat, by omega⟩
        obtain ⟨d, hd⟩ : ∃ d, docs[a]? = some d := ⟨_, List.getElem?_eq_getElem (by have := hlen.out; omega)⟩
        have hacc : Hid (leastM needs docs (LF.take (q + 1)) = (failL needs docs d).foldl (leastStep docs d ⟨(a : Int), xk, xf, xw⟩) M) := by
          unfold Hid
          rw [hsn.out]
          unfold leastAcc
          rw [hlen.out, if_pos hbw.out]
          simp only [Int.toNat_natCast, hd]
        have H := Lib.hid (give_least w A nn cc docs hR ⟨(a : Int), xk, xf, xw⟩ a rfl d hd g2 gf g1 hgl (some ⟨b, off, none⟩) LF)
        have hfa := Lib.hid (failing_any H A nn cc a (Lib.hid hd) hR C nA nl nc needs hnl hl12 hC17 hN (Lib.hid fun x hx _ u hu => hsm60.out x hx u hu) w6 M (Lib.hid fun i => by
          have h1 := leastFold_len (f := ⟨(a : Int), xk, xf, xw⟩) rfl hd ((failL needs docs d).take i) M
          have h2 := failL_len (docs := docs) (d := d) hFP.out
          have h3 := hMl.out
          rw [List.length_take] at h1
          omega) (Lib.hid ⟨⟨v, hS6.out.lst hG6.out hap.out⟩, hS6.out.docs⟩) (Lib.hid hS6.out.below))
        have r0 : w6.cell? ⟨gf, 0, none⟩ = some (.int .i64 (a : Int)) := hG6.out.cell 0
        have p6 : w6.cell? ⟨g1, 0, none⟩ = some (.slice A nn cc) := hS6.out.docs.cell 0
        have hc6 := Lib.hid hS6.out.cred
        clear H hd hsn hw3 hap hbw
        go_wp2_with (refine wpList_load_blk rfl 46 (.tmp 3) rfl w.heap.size C 46 _ rfl hc6.out Tryz.underlying46 rfl hsz.out ?_)
        refine hfa.out.mono ?_
        rintro e w7 ⟨rfl, ⟨⟨v', hL'⟩, _⟩, hF⟩
        have hS7 := Lib.hid (hS6.out.of_lst hL' hF)
        clear hL' hF r0 p6 hfa
        go_wp2_with fail
        go_roundw
        case rel => exact ⟨q + 1, by omega, by go_num, _, by rw [hacc.out]; exact hS7⟩
        case measure => simp [intOf]; omega
    · have hkm : decide (q < K) = false := decide_eq_false hlt
      rw [List.take_of_length_le (by rw [hK.out]; omega)] at hS
      obtain ⟨M, hM⟩ : ∃ l, Hid (leastM needs docs LF = l) := ⟨_, rfl⟩
      rw [hM.out] at hS
      obtain ⟨w3, hw3⟩ : ∃ X, Hid (wr.alloc (.cells #[.bool true] 4) = X) := ⟨_, rfl⟩
      have hb3 : Hid (Below wr.heap.size wr w3) := by rw [← hw3.out]; exact (Below.refl _ wr).alloc (Nat.le_refl _) _
      have hT3 : Hid (Blk w3 wr.heap.size 4 #[.bool true]) := by rw [← hw3.out]; exact Lib.hid (Blk.new _ _ _)
      obtain ⟨gT, hgT⟩ : ∃ z, Hid (wr.heap.size = z) := ⟨_, rfl⟩
      rw [hgT.out] at hT3
      have e3 : wr.heap.size = gT := hgT.out
      have hst : Hid (LeaS w w3 C A nn cc g1 g2 A2 LF v M ∧ Blk w3 gT 4 #[.bool true]) := Lib.hid ⟨hS.out.on hb3.out, hT3.out⟩
      have p3 : w3.cell? ⟨g1, 0, none⟩ = some (.slice A nn cc) := hst.out.1.docs.cell 0
      have eg : ∀ (args : Array Value) (w : World), (callFunc 67 args).run Tryz.prog w = .ok (.enter 67 args) w := enters_of Tryz.func67 (by kernel_rfl) rfl
      have hfa : Hid (∀ (a : Nat) (d : Pap) (W : World), docs[a]? = some d → Below w.heap.size w W → Calls Tryz.prog 63 #[.agg C, .slice A nn cc, .int .i64 (a : Int), .func (.func 67) #[] #[.pointer (some ⟨gT, 0, none⟩)]] W fun e w' => e = .returned (.tuple #[]) ∧ Below W.heap.size W w') := Lib.hid fun a d W hd hW => by
        have H : GiveS w w.heap.size docs d (fun a b => Below a.heap.size a b) (fun (_ : Unit) _ => True) (fun _ => True) (fun t => (atomsT t).length ≤ 12) (fun s _ => s) 67 #[.pointer (some ⟨gT, 0, none⟩)] :=
          ⟨belowG _, fun _ _ _ _ _ => trivial, fun s t W hTW h12 _ hBW _ _ => (least2_any t (holdsT docs d t) _ W (Lib.hid (hTW.below hBW)) (.inr h12)).mono fun e w' ⟨h1, h2⟩ => ⟨h1, trivial, h2⟩, eg⟩
        refine (failing_any (Lib.hid H) A nn cc a (Lib.hid hd) hR C nA nl nc needs hnl hl12 hC17 hN (Lib.hid fun x hx _ u hu => hsm.out x hx u hu) W () (Lib.hid fun _ => trivial) (Lib.hid trivial) (Lib.hid hW)).mono ?_
        rintro e w' ⟨he, _, hF⟩
        exact ⟨he, hF⟩
      clear hS hb3 hT3
      go_wp2_with (rw [hw3.out])
      clear p3 e3
      go_loopw [12, 39] (fun _ i wx => ∃ p : Nat, p ≤ nn ∧ i = .int .i64 p ∧ Hid (LeaS w wx C A nn cc g1 g2 A2 LF v M ∧ Blk wx gT 4 #[.bool true])) (fun _ i _ => nn - (intOf i).toNat)
      case atStart => exact ⟨0, Nat.zero_le _, rfl, hst⟩
      case round =>
        clear hst hw3
        obtain ⟨p, hp, rfl, hS⟩ := hrel
        obtain ⟨s1, s2⟩ := hS.out
        have r1 := s1.docs.cell 0
        have hk2 := Lib.hid s1.cred
        by_cases hlp : p < nn
        · obtain ⟨d, hd⟩ : ∃ d, docs[p]? = some d := ⟨_, List.getElem?_eq_getElem (by have := hlen.out; omega)⟩
          have hcall := Lib.hid (hfa.out p d _ hd s1.below)
          have i1 : (p : Int) < (nn : Int) := by omega
          have hkp : decide (p < nn) = true := decide_eq_true hlp
          clear hfa s1 s2 hd
          go_wp2_with (refine wpList_load_blk rfl 46 (.tmp 3) rfl w.heap.size C 46 _ rfl hk2.out Tryz.underlying46 rfl hsz.out ?_)
          refine hcall.out.mono ?_
          rintro e w6 ⟨rfl, hb6⟩
          have hS6 := Lib.hid (And.intro (hS.out.1.on hb6) (hS.out.2.below hb6 hS.out.2.lt))
          clear hb6 r1 hcall
          go_wp2_with fail
          go_roundw
          case rel => exact ⟨p + 1, by omega, by go_num, hS6⟩
          case measure => simp [intOf]; omega
        · have hkp : decide (p < nn) = false := decide_eq_false hlp
          have r4 := s1.box.cell 0
          have r5 := s2.cell 0
          go_wp2_with fail
          go_quiet (fail)
          go_wp2_with fail
          go_ret2
          rw [hM.out]
          exact ⟨_, rfl, own_below s1.row (below_drewN (Below.refl _ _) _), below_drewN s1.below _⟩
end Go.Proofs.YtdjmckjbibfecaaGreatDoor

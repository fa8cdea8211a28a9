import Derived.Test.YtjkmhlfjheiekaaGreatDoorPd
import Derived.Test.YtjkmhlfjheiekaaGreatDoorTf
import Derived.Test.YtjkmhlfjheiekaaGreatDoorYd
set_option maxRecDepth 1000000
set_option maxHeartbeats 51200000
namespace Go.Proofs.YtjkmhlfjheiekaaGreatDoor
open Go Go.RowKit Go.BigFrame Go.Maps
def spaced (ws : List Txt) : Txt := Lib.join ws [32]
def lineT (ws : List Txt) : Txt := spaced ws ++ [59, 10]
def textL (Ls : List (List Txt)) : Txt := Ls.flatMap lineT
theorem textL_snoc (Ls : List (List Txt)) (ws : List Txt) : textL (Ls ++ [ws]) = textL Ls ++ lineT ws := by unfold textL; simp
theorem spaced_one (a : Txt) : spaced [a] = a := by simp [spaced, Lib.join, List.intercalate]
theorem spaced_cons (a b : Txt) (ws : List Txt) : spaced (a :: b :: ws) = a ++ [32] ++ spaced (b :: ws) := by simp [spaced, Lib.join, List.intercalate, List.intersperse]
def WordsAt (w : World) (g : Nat) (ws : List Txt) : Prop := ∀ (j : Nat) (x : Txt), ws[j]? = some x → w.cell? (Az g j) = some (Sz x)
theorem WordsAt.below {w w' : World} {g : Nat} {ws : List Txt} (h : WordsAt w g ws) (hb : Bz w w') : WordsAt w' g ws := fun j x hx => by
 have h0 := h j x hx
 exact (hb.cell (by exact World.block_lt_of_cell? w _ h0)).trans h0
theorem line_any (B b : Nat) (acc : Txt) (ws : List Txt) (g n c : Nat) (W : World) (hn : Hid (ws.length = n)) (hw : Hid (WordsAt W g ws)) (hg : g < W.heap.size) (hc : n ≤ c) (hn9 : n ≤ 1000) (h : Hid (Bld W B b acc)) (hlen : acc.length + (spaced ws).length + 2 ≤ 140737488355328) (hB : B ≤ W.heap.size) :
  Cz 104 #[.slice (some (Az g 0)) n c, .pointer (some (Az b 0))] W fun e w' => e = .returned (.tuple #[]) ∧ Below B W w' ∧ Lib.OthersKept 5 (some b) W w' ∧ Bld w' B b (acc ++ lineT ws) := by
 have hj : Hid (Cz 66 #[.slice (some (Az g 0)) n c, .string ⟨#[32]⟩] W fun e w' => e = .returned (.string ⟨(spaced ws).toArray⟩) ∧ Bz W w') := by
  have e1 : (ws.map fun t : Txt => (⟨t.toArray⟩ : ByteArray)).map (·.data.toList) = ws := by rw [List.map_map]; exact List.map_id' ws
  have hh := Tryz.strings_Join g 0 c (ws.map fun t : Txt => (⟨t.toArray⟩ : ByteArray)) ⟨#[32]⟩ W (fun j x hx => by
   rw [List.getElem?_map] at hx; obtain ⟨t, ht, rfl⟩ := Option.map_eq_some_iff.1 hx; rw [Nat.zero_add]; exact hw.out j t ht) hg (by rw [List.length_map, hn.out]; omega) (by rw [List.length_map, hn.out]; exact hc) (by rw [e1]; show (spaced ws).length ≤ _; omega)
  rw [e1, List.length_map, hn.out] at hh; exact hh
 obtain ⟨sp, hsp⟩ := nmZ (spaced ws)
 have hln : Hid (lineT ws = sp ++ [59, 10]) := by unfold Hid lineT; rw [hsp.out]
 rw [hsp.out] at hj hlen
 rw [hln.out]
 have e0 : Hid (({ data := sp.toArray } : ByteArray) ++ { data := #[59, 10] } = ⟨(sp ++ [59, 10]).toArray⟩) := ByteArray.ext (by simp)
 have z1 : ¬ 9223372036854775807 < sp.length + 2 := by omega
 have hlen' := hdZ hlen
 clear hsp hln hw hn hc hn9 hlen
 go_enter Tryz.func104, Tryz.ntmps104
 go_wp2_with fail
 refine hj.out.mono ?_
 rintro e w1 ⟨rfl, hb1⟩
 have hB1 := hdZ (hb1.mono hB)
 have hK1 := hdZ (kbz (b := some b) hb1)
 have hbd1 := hdZ (h.out.below hb1)
 have hwr := hdZ (write_any B b acc (sp ++ [59, 10]) w1 hbd1 (by have := hlen'.out; simp; omega) (Nat.le_trans hB hb1.size))
 clear hb1 hj h
 go_wp2_with fail
 rw [e0.out]
 refine hwr.out.mono ?_
 rintro e w2 ⟨⟨n2, rfl⟩, hB2, hK2, hb2⟩
 have hB3 := hdZ (hB1.out.trans hB2)
 have hK3 := hdZ (hK1.out.trans hK2)
 have hb3 := hdZ hb2
 clear hB2 hK2 hb2 hwr
 go_wp2_with fail
 go_end0
 exact ⟨rfl, hB3.out, hK3.out, hb3.out⟩
theorem words_new (W : World) (ws : List Txt) : WordsAt (W.alloc (.cells (ws.map fun t => Value.string ⟨t.toArray⟩).toArray 9)) W.heap.size ws := fun j x hx => by
 rw [(Blk.new W 9 _).cell j, List.getElem?_toArray, List.getElem?_map, hx]; rfl
structure Crd.small (c : Crd) : Prop where
 number : c.number.length ≤ 16
 applicant : c.applicant.length ≤ 16
 beneficiary : c.beneficiary.length ≤ 16
 issuer : c.issuer.length ≤ 16
 confirmer : c.confirmer.length ≤ 16
 orig : c.orig.length ≤ 16
 dest : c.dest.length ≤ 16
 currency : c.currency.length ≤ 16
 amount : 0 ≤ c.amount ∧ c.amount ≤ 1099511627776
 above : 0 ≤ c.above ∧ c.above ≤ 1099511627776
 below : 0 ≤ c.below ∧ c.below ≤ 1099511627776
 latest : 0 ≤ c.latest ∧ c.latest ≤ 1099511627776
 expiry : 0 ≤ c.expiry ∧ c.expiry ≤ 1099511627776
 within : 0 ≤ c.within ∧ c.within ≤ 1099511627776
 tenor : 0 ≤ c.tenor ∧ c.tenor ≤ 1099511627776
theorem itoa_any (n : Int) (h0 : 0 ≤ n) (h1 : n ≤ 1099511627776) (W : World) (he : Hid (Env W)) : Cz 105 #[Iz n] W fun e w' => e = .returned (.string ⟨(decN 20 n.toNat).toArray⟩) ∧ Bz W w' := by
 refine (Tryz.strconv_Itoa n (by omega) (by omega) W he.out.tab).mono ?_
 rintro e w' ⟨rfl, k, os, rfl⟩
 rw [itoa_decN h0 h1]
 exact ⟨rfl, below_grows W k os⟩
def heads (c : Crd) : List (List Txt) := [[[99, 114, 101, 100, 105, 116], c.number], [[97, 112, 112, 108, 105, 99, 97, 110, 116], c.applicant], [[98, 101, 110, 101, 102, 105, 99, 105, 97, 114, 121], c.beneficiary], [[105, 115, 115, 117, 101, 114], c.issuer]]
def confL (c : Crd) : List (List Txt) := if c.confirmer = [] then [] else [[[99, 111, 110, 102, 105, 114, 109, 101, 114], c.confirmer]]
def midL (c : Crd) : List (List Txt) := [[[102, 114, 111, 109], c.orig], [[116, 111], c.dest], [[115, 117, 109], c.currency, (decN 20 c.amount.toNat), [97, 98, 111, 118, 101], (decN 20 c.above.toNat), [98, 101, 108, 111, 119], (decN 20 c.below.toNat)], [[108, 97, 116, 101, 115, 116], decN 20 c.latest.toNat], [[101, 120, 112, 105, 114, 121], decN 20 c.expiry.toNat], [[119, 105, 116, 104, 105, 110], decN 20 c.within.toNat, [100, 97, 121, 115]]]
def tenL (c : Crd) : List (List Txt) := if c.tenor = 0 then [[[116, 101, 110, 111, 114], [115, 105, 103, 104, 116]]] else [[[116, 101, 110, 111, 114], decN 20 c.tenor.toNat, [100, 97, 121, 115]]]
theorem two_len (a b : Txt) : (spaced [a, b]).length = a.length + 1 + b.length := by rw [spaced_cons, spaced_one]; simp; omega
theorem snoc_len {Ls : List (List Txt)} {ws : List Txt} {N m : Nat} (h : (textL Ls).length ≤ N) (hw : (spaced ws).length + 2 ≤ m) : (textL (Ls ++ [ws])).length ≤ N + m := by
 rw [textL_snoc, List.length_append]
 have : (lineT ws).length = (spaced ws).length + 2 := by unfold lineT; simp
 omega
def needL (x : Nd) : List Txt := [[119, 97, 110, 116, 115], paperT x.kind, [99, 111, 112, 105, 101, 115], decN 20 x.count.toNat] ++ (if alwaysR (stz x.rule) = true then [] else [[119, 105, 116, 104], showR (stz x.rule)])
def topL (c : Crd) : List (List Txt) := heads c ++ confL c ++ midL c ++ tenL c ++ [[[112, 97, 114, 116, 105, 97, 108], yesT c.part]] ++ [[[99, 104, 97, 110, 103, 101], yesT c.change]]
def creditT (c : Crd) (l : List Nd) : Txt := textL (topL c ++ l.map needL)
theorem textL_app (A B : List (List Txt)) : textL (A ++ B) = textL A ++ textL B := by unfold textL; simp
theorem nameM_len {s : Txt} (h : nameM s = true) : s.length ≤ 16 := by
 unfold nameM at h
 simp only [Bool.and_eq_true, decide_eq_true_eq] at h
 exact h.1.1.2
theorem need_parts {x : Nd} (h : needM x = true) : 0 ≤ x.kind ∧ x.kind < 6 ∧ 1 ≤ x.count ∧ x.count ≤ 9 ∧ (alwaysR (stz x.rule) = true ∨ mayR (stz x.rule) = true) := by
 unfold needM at h
 simp only [Bool.and_eq_true, Bool.or_eq_true, decide_eq_true_eq] at h
 obtain ⟨⟨⟨a, b⟩, c, d⟩, e⟩ := h
 exact ⟨a, b, c, d, e.imp id fun y => y.2⟩
theorem small_of {c : Crd} {l : List Nd} (h : creditM c l = true) : c.small ∧ l.length ≤ 64 ∧ ∀ x ∈ l, needM x = true := by
 simp only [creditM, namesM, daysM, codeM, List.all_cons, List.all_nil, Bool.and_eq_true, Bool.or_eq_true, decide_eq_true_eq, List.all_eq_true, beq_iff_eq, and_true] at h
 obtain ⟨⟨⟨⟨⟨⟨a1, a2, a3, a4, a5, a6⟩, a7, a8, a9⟩, a10, a11⟩, ⟨a12, a13⟩, a14, a15⟩, ⟨a16, a17⟩, ⟨a18, a19⟩, ⟨a20, a21⟩, a22, a23⟩, a24, a25⟩ := h
 have hc : c.confirmer.length ≤ 16 := by
  rcases a7 with h | h
  ·rw [h]; simp
  ·exact nameM_len h
 exact ⟨⟨nameM_len a1, nameM_len a2, nameM_len a3, nameM_len a4, hc, nameM_len a5, nameM_len a6, by omega, by omega, by omega, by omega, by omega, by omega, by omega, by omega⟩, a24, a25⟩
theorem need_len (x : Nd) (Z : Nat) (h : szR (stz x.rule) ≤ Z) : (spaced (needL x)).length + 2 ≤ Z + 100 := by
 have h1 := paper_len x.kind
 have h2 := dec_len19 (n := x.count.toNat)
 have h3 := show_len (stz x.rule)
 unfold needL
 split <;> simp only [List.append_nil, List.cons_append, List.nil_append, spaced_cons, spaced_one, List.length_append, List.length_cons, List.length_nil] <;> omega
theorem top_len {c : Crd} (h : c.small) : (textL (topL c)).length ≤ 700 := by
 have h1 := h.number
 have h2 := h.applicant
 have h3 := h.beneficiary
 have h4 := h.issuer
 have h5 := h.confirmer
 have h6 := h.orig
 have h7 := h.dest
 have h8 := h.currency
 have d1 := dec_len19 (n := c.amount.toNat)
 have d2 := dec_len19 (n := c.above.toNat)
 have d3 := dec_len19 (n := c.below.toNat)
 have d4 := dec_len19 (n := c.latest.toNat)
 have d5 := dec_len19 (n := c.expiry.toNat)
 have d6 := dec_len19 (n := c.within.toNat)
 have d7 := dec_len19 (n := c.tenor.toNat)
 have y1 : (yesT c.part).length ≤ 3 := by unfold yesT; split <;> simp
 have y2 : (yesT c.change).length ≤ 3 := by unfold yesT; split <;> simp
 unfold topL heads confL midL tenL
 split <;> split <;> simp only [textL, List.flatMap_append, List.flatMap_cons, List.flatMap_nil, lineT, List.append_nil, spaced_cons, spaced_one, List.length_append, List.length_cons, List.length_nil] <;> omega
theorem needs_len (l : List Nd) (Z : Nat) (h : ∀ x ∈ l, szR (stz x.rule) ≤ Z) : (textL (l.map needL)).length ≤ l.length * (Z + 100) := by
 induction l with
 | nil => simp [textL]
 | cons x l ih =>
  have h1 := need_len x Z (h x (by simp)); have h2 := ih fun y hy => h y (by simp [hy])
  rw [List.map_cons, ← List.singleton_append, textL_app, List.length_append, List.length_cons, Nat.add_mul, Nat.one_mul]; have : (textL [needL x]).length = (spaced (needL x)).length + 2 := by simp [textL, lineT]
  omega
open Go Go.RowKit
abbrev KT := List (Int × Txt)
def Ahead (l : List Tok) (k : Nat) (ks : KT) : Prop := kt (l.drop k) = ks
theorem ahead_cons {l : List Tok} {k : Nat} {a : Int} {b : Txt} {ks : KT} (h : Ahead l k ((a, b) :: ks)) : ∃ p, l[k]? = some ⟨a, p, b⟩ ∧ Ahead l (k + 1) ks := by
 unfold Ahead at h ⊢
 cases ht : l[k]? with
 | none => rw [drop_nil ht] at h; cases h
 | some t =>
  rw [drop_cons ht] at h; obtain ⟨a', p, b'⟩ := t; simp only [kt, List.map_cons, List.cons.injEq, Prod.mk.injEq] at h; obtain ⟨⟨rfl, rfl⟩, h⟩ := h; exact ⟨p, rfl, h⟩
theorem tez {e : Nat} {l : List Tok} {p : Tok → Bool} {k pl : Nat} {a : Int} {b : Txt} {ks : KT} (h : Ahead l k ((a, b) :: ks)) (hp : ∀ q, p ⟨a, q, b⟩ = true) :
  tkz e l p ⟨k, pl, 0⟩ = (b, ⟨k + 1, pl, 0⟩) ∧ Ahead l (k + 1) ks := by
 obtain ⟨q, h1, h2⟩ := ahead_cons h
 refine ⟨?_, h2⟩
 unfold tkz askS textS St.step
 simp [h1, hp]
theorem ask_ahead {l : List Tok} {p : Tok → Bool} {k pl : Nat} {a : Int} {b : Txt} {ks : KT} {v : Bool} (h : Ahead l k ((a, b) :: ks)) (hp : ∀ q, p ⟨a, q, b⟩ = v) : askS l ⟨k, pl, 0⟩ 0 p = v := by
 obtain ⟨q, h1, h2⟩ := ahead_cons h
 unfold askS
 simp [h1, hp]
def nmK (n : Int) : Int × Txt := (2, decN 20 n.toNat)
theorem num_ahead {e : Nat} {l : List Tok} {lo hi : Int} {k pl : Nat} {n : Int} {ks : KT} (h : Ahead l k (nmK n :: ks)) (h0 : 0 ≤ n) (hm : n ≤ 1099511627776) (h1 : lo ≤ n) (h2 : n ≤ hi) :
  numS e l lo hi ⟨k, pl, 0⟩ = (n, ⟨k + 1, pl, 0⟩) ∧ Ahead l (k + 1) ks := by
 obtain ⟨e1, h3⟩ := tez (e := e) (p := kdB 2) (pl := pl) h (fun _ => rfl)
 refine ⟨?_, h3⟩
 have hv : numV (decN 20 n.toNat) = n.toNat := decN_val 20 n.toNat (by omega)
 have hn : ((n.toNat : Nat) : Int) = n := Int.toNat_of_nonneg h0
 unfold numS
 rw [e1]
 simp only
 rw [if_pos trivial, hv, hn, if_neg (by omega)]
theorem word_yes (s : Txt) (q : Nat) : wdz s ⟨0, q, s⟩ = true := by simp [wdz]
theorem sign_yes (s : Txt) (q : Nat) : signB s ⟨5, q, s⟩ = true := by simp [signB]
theorem end_ahead {e : Nat} {l : List Tok} {k pl : Nat} {ks : KT} (h : Ahead l k ((5, sSemi) :: ks)) : endS e l ⟨k, pl, 0⟩ = ⟨k + 1, pl, 0⟩ ∧ Ahead l (k + 1) ks := by
 obtain ⟨e1, h1⟩ := tez (e := e) (p := signB sSemi) (pl := pl) h (sign_yes sSemi)
 exact ⟨by unfold endS; rw [e1], h1⟩
def lineK (x s : Txt) : KT := [(0, x), nmT s, (5, sSemi)]
theorem line_ahead {e : Nat} {l : List Tok} {x s : Txt} {k pl : Nat} {ks : KT} (h : Ahead l k (lineK x s ++ ks)) : lineS e l x ⟨k, pl, 0⟩ = (s, ⟨k + 3, pl, 0⟩) ∧ Ahead l (k + 3) ks := by
 obtain ⟨e1, h1⟩ := tez (e := e) (p := wdz x) (pl := pl) h (word_yes x)
 obtain ⟨e2, h2⟩ := tez (e := e) (p := nmB) (pl := pl) h1 (named_nm s)
 obtain ⟨e3, h3⟩ := end_ahead (e := e) (pl := pl) h2
 refine ⟨?_, h3⟩
 unfold lineS
 rw [e1]; simp only; rw [e2]; simp only; rw [e3]
def dayK (x : Txt) (n : Int) : KT := [(0, x), nmK n, (5, sSemi)]
theorem day_ahead {e : Nat} {l : List Tok} {x : Txt} {n : Int} {k pl : Nat} {ks : KT} (h : Ahead l k (dayK x n ++ ks)) (h0 : 0 ≤ n) (h9 : n ≤ 1048576) : dayS e l x ⟨k, pl, 0⟩ = (n, ⟨k + 3, pl, 0⟩) ∧ Ahead l (k + 3) ks := by
 obtain ⟨e1, h1⟩ := tez (e := e) (p := wdz x) (pl := pl) h (word_yes x)
 obtain ⟨e2, h2⟩ := num_ahead (e := e) (lo := 0) (hi := 1048576) (pl := pl) h1 h0 (by omega) h0 h9
 obtain ⟨e3, h3⟩ := end_ahead (e := e) (pl := pl) h2
 refine ⟨?_, h3⟩
 unfold dayS
 rw [e1]; simp only; rw [e2]; simp only; rw [e3]
def choiceK (x : Txt) (b : Bool) : KT := [(0, x), (0, yesT b), (5, sSemi)]
theorem choice_ahead {e : Nat} {l : List Tok} {x : Txt} {b : Bool} {k pl : Nat} {ks : KT} (h : Ahead l k (choiceK x b ++ ks)) : choiceS e l x ⟨k, pl, 0⟩ = (b, ⟨k + 3, pl, 0⟩) ∧ Ahead l (k + 3) ks := by
 obtain ⟨e1, h1⟩ := tez (e := e) (p := wdz x) (pl := pl) h (word_yes x)
 obtain ⟨e2, h2⟩ := tez (e := e) (p := yesB) (pl := pl) h1 (fun q => by cases b <;> rfl)
 obtain ⟨e3, h3⟩ := end_ahead (e := e) (pl := pl) h2
 refine ⟨?_, h3⟩
 unfold choiceS
 rw [e1]; simp only; rw [e2]; simp only; rw [e3]
 cases b <;> rfl
def tenK (n : Int) : KT := if n = 0 then [(0, wTenor), (0, wSight), (5, sSemi)] else [(0, wTenor), nmK n, (0, wDays), (5, sSemi)]
theorem tenor_ahead {e : Nat} {l : List Tok} {n : Int} {k pl : Nat} {ks : KT} (h : Ahead l k (tenK n ++ ks)) (h0 : 0 ≤ n) (h9 : n ≤ 1048576) : ∃ k', tenorS e l ⟨k, pl, 0⟩ = (n, ⟨k', pl, 0⟩) ∧ Ahead l k' ks := by
 unfold tenK at h
 split at h
 ·rename_i hz
  obtain ⟨e1, h1⟩ := tez (e := e) (p := wdz wTenor) (pl := pl) h (word_yes wTenor); have h2 := ask_ahead (p := wdz wSight) (pl := pl) h1 (word_yes wSight); obtain ⟨q, _, h3⟩ := ahead_cons h1; obtain ⟨e4, h4⟩ := end_ahead (e := e) (pl := pl) h3; refine ⟨_, ?_, h4⟩; unfold tenorS; rw [e1]; simp only; unfold tenS; rw [if_pos h2, hz]; unfold St.step; rw [e4]
 ·obtain ⟨e1, h1⟩ := tez (e := e) (p := wdz wTenor) (pl := pl) h (word_yes wTenor)
  have h2 := ask_ahead (p := wdz wSight) (pl := pl) (v := false) h1 (fun _ => rfl); obtain ⟨e3, h3⟩ := num_ahead (e := e) (lo := 1) (hi := 1048576) (pl := pl) h1 h0 (by omega) (by omega) h9; obtain ⟨e4, h4⟩ := tez (e := e) (p := wdz wDays) (pl := pl) h3 (word_yes wDays); obtain ⟨e5, h5⟩ := end_ahead (e := e) (pl := pl) h4; refine ⟨_, ?_, h5⟩; unfold tenorS; rw [e1]; simp only; unfold tenS; rw [if_neg (by rw [h2]; simp), e3]; simp only; rw [e4]; simp only; rw [e5]
def sumK (c : Crd) : KT := [(0, wSum), (4, c.currency), nmK c.amount, (0, wAbove), nmK c.above, (0, wBelow), nmK c.below, (5, sSemi)]
theorem sum_ahead {e : Nat} {l : List Tok} {c : Crd} {k pl : Nat} {ks : KT} (h : Ahead l k (sumK c ++ ks)) (a1 : 1 ≤ c.amount) (a2 : c.amount ≤ 1099511627776) (a3 : 0 ≤ c.above) (a4 : c.above ≤ 1000) (a5 : 0 ≤ c.below) (a6 : c.below ≤ 1000) :
  sumS e l ⟨k, pl, 0⟩ = (⟨c.currency, c.amount, c.above, c.below⟩, ⟨k + 8, pl, 0⟩) ∧ Ahead l (k + 8) ks := by
 obtain ⟨e1, h1⟩ := tez (e := e) (p := wdz wSum) (pl := pl) h (word_yes wSum)
 obtain ⟨e2, h2⟩ := tez (e := e) (p := kdB 4) (pl := pl) h1 (fun _ => rfl)
 obtain ⟨e3, h3⟩ := num_ahead (e := e) (lo := 1) (hi := 1099511627776) (pl := pl) h2 (by omega) a2 a1 a2
 obtain ⟨e4, h4⟩ := tez (e := e) (p := wdz wAbove) (pl := pl) h3 (word_yes wAbove)
 obtain ⟨e5, h5⟩ := num_ahead (e := e) (lo := 0) (hi := 1000) (pl := pl) h4 a3 (by omega) a3 a4
 obtain ⟨e6, h6⟩ := tez (e := e) (p := wdz wBelow) (pl := pl) h5 (word_yes wBelow)
 obtain ⟨e7, h7⟩ := num_ahead (e := e) (lo := 0) (hi := 1000) (pl := pl) h6 a5 (by omega) a5 a6
 obtain ⟨e8, h8⟩ := end_ahead (e := e) (pl := pl) h7
 refine ⟨?_, h8⟩
 unfold sumS
 simp only [e1, e2, e3, e4, e5, e6, e7, e8]
theorem rule_front {r : Rul} (hm : mayR r = true) {e N M : Nat} {u v : List Tok} (hu : kt u = tokR r) (hN : u.length < N) (hM : u.length < M) (hv : noAnd v) (hv2 : noOr v) : ruleOf (oneP e N) M (u ++ v) = some (.ok (r, v)) := by
 have h := one_ok r hm
 have hs : ∀ c ∈ r.sub, OneOk c ∧ ∀ d ∈ c.sub, OneOk d := by
  intro c hc; obtain ⟨k, p, f, x, n, L⟩ := r; simp only [Rul.sub] at hc
  have hl : mayL L = true := by
   have hne : 0 < L.length := List.length_pos_of_mem hc; rw [mayR] at hm
   split at hm
   ·simp only [Bool.and_eq_true] at hm; exact hm.2
   ·split at hm
    ·simp only [Bool.and_eq_true] at hm; exact hm.2
    ·exfalso
     split at hm
     ·simp only [Bool.and_eq_true, decide_eq_true_eq] at hm; omega
     ·split at hm
      ·simp only [Bool.and_eq_true, decide_eq_true_eq] at hm; omega
      ·split at hm
       ·simp only [Bool.and_eq_true, decide_eq_true_eq] at hm; omega
       ·cases hm
  exact one_okL L hl c hc
 exact rule_ok (e := e) (N := N) (M := M) hm (fun _ => h.1) h.2 (fun c hc => (hs c hc).2) hu hN hM hv hv2
def needP (x : NdP) : Bool := decide (0 ≤ x.1) && decide (x.1 < 6) && (decide (1 ≤ x.2.1) && decide (x.2.1 ≤ 9)) && (alwaysR x.2.2 || (decide (depthR x.2.2 ≤ 16) && mayR x.2.2))
theorem always_is {r : Rul} (h : alwaysR r = true) : r = emptyR := by
 obtain ⟨k, p, f, x, n, L⟩ := r
 simp only [alwaysR, Bool.and_eq_true, beq_iff_eq] at h
 obtain ⟨⟨⟨⟨⟨rfl, rfl⟩, rfl⟩, rfl⟩, rfl⟩, h⟩ := h
 rw [List.eq_nil_of_length_eq_zero h]; rfl
def withK (r : Rul) : KT := if alwaysR r = true then [] else (0, wWith) :: tokR r
def needK (x : NdP) : KT := [(0, wWz), (0, paperT x.1), (0, wCz), nmK x.2.1] ++ withK x.2.2 ++ [(5, sSemi)]
theorem paper_yes {p : Int} (h0 : 0 ≤ p) (h6 : p < 6) : paperI (paperT p) = p := by
 have := paper_back p.toNat (by omega)
 unfold paperT
 rw [this]; omega
theorem with_ahead {e : Nat} {l : List Tok} {r : Rul} {k pl : Nat} {ks : KT} (h : Ahead l k (withK r ++ (5, sSemi) :: ks)) (hr : alwaysR r = true ∨ depthR r ≤ 16 ∧ mayR r = true) :
  ∃ k' pl', withS e l ⟨k, pl, 0⟩ = (r, ⟨k', pl', 0⟩) ∧ Ahead l k' ((5, sSemi) :: ks) ∧ k ≤ k' := by
 unfold withK at h
 by_cases ha : alwaysR r = true
 ·rw [if_pos ha, List.nil_append] at h
  have h1 := ask_ahead (p := wdz wWith) (pl := pl) (v := false) h (fun _ => rfl); refine ⟨k, pl, ?_, h, Nat.le_refl _⟩; unfold withS; rw [if_neg (by rw [h1]; simp), always_is ha]
 ·rw [if_neg ha, List.cons_append] at h
  obtain ⟨hd, hm⟩ := hr.resolve_left ha; have h1 := ask_ahead (p := wdz wWith) (pl := pl) h (word_yes wWith); obtain ⟨q, hlk, h2⟩ := ahead_cons h; have hlt : k < l.length := (List.getElem?_eq_some_iff.1 hlk).1; obtain ⟨u, v, hs, hu, hv⟩ := kt_split (ts := l.drop (k + 1)) h2; have hul : u.length ≤ l.length := by have := congrArg List.length hs; simp at this; omega
  obtain ⟨p5, v', rfl, _⟩ := kt_cons hv; have hrule := rule_front (e := e) (N := 2 * l.length + 2) (M := 2 * l.length + 2) hm hu (by omega) (by omega) (v := ⟨5, p5, sSemi⟩ :: v') rfl rfl; have hag := (whole_agree e l (2 * l.length + 2) (by omega)).2 ⟨k + 1, pl, 0⟩ ⟨rfl, hlt⟩ (by simp only; omega); obtain ⟨x, y, i1, i2, i3, i4⟩ := hag
  have hw : wholeP e (2 * l.length + 2) (l.drop (k + 1)) = some (.ok (r, ⟨5, p5, sSemi⟩ :: v')) := by
   rw [wholeP, ruleP, hs, hrule]; simp only; rw [if_neg (by rw [may_crowd r hm]; simp; omega)]
  simp only at i2; rw [hw] at i2; obtain rfl := Option.some.inj i2; obtain ⟨x1, ⟨xk, xp, xc⟩⟩ := x; obtain ⟨rfl, rfl, _, hdr⟩ := i3; simp only at hdr i4; refine ⟨xk, xp, ?_, ?_, by have := i4 trivial; omega⟩
  ·unfold withS
   rw [if_pos h1]; unfold St.step wholeG; rw [i1]; rfl
  ·unfold Ahead
   rw [← hdr, hv]
theorem need_ahead {e : Nat} {l : List Tok} {x : NdP} {k pl : Nat} {ks : KT} (h : Ahead l k (needK x ++ ks)) (hx : needP x = true) :
  ∃ k' pl', needS e l ⟨k, pl, 0⟩ = (x, ⟨k', pl', 0⟩) ∧ Ahead l k' ks ∧ k < k' := by
 obtain ⟨kd, n, r⟩ := x
 unfold needP at hx
 simp only [Bool.and_eq_true, Bool.or_eq_true, decide_eq_true_eq] at hx
 obtain ⟨⟨⟨a1, a2⟩, a3, a4⟩, a5⟩ := hx
 simp only [needK, List.cons_append, List.nil_append, List.append_assoc] at h
 obtain ⟨e1, h1⟩ := tez (e := e) (p := wdz wWz) (pl := pl) h (word_yes wWz)
 obtain ⟨e2, h2⟩ := tez (e := e) (p := ppB) (pl := pl) h1 (fun q => by simp [ppB, paper_yes a1 a2, a1])
 obtain ⟨e3, h3⟩ := tez (e := e) (p := wdz wCz) (pl := pl) h2 (word_yes wCz)
 obtain ⟨e4, h4⟩ := num_ahead (e := e) (lo := 1) (hi := 9) (pl := pl) h3 (by omega) (by omega) a3 a4
 obtain ⟨k5, p5, e5, h5, hk5⟩ := with_ahead (e := e) (pl := pl) h4 a5
 obtain ⟨e6, h6⟩ := end_ahead (e := e) (pl := p5) h5
 refine ⟨_, p5, ?_, h6, by omega⟩
 unfold needS
 simp only [e1, e2, e3, e4, e5, e6, paper_yes a1 a2]
 rw [Int.max_eq_left a1]
theorem needs_ahead {e : Nat} {l : List Tok} : ∀ (T : List NdP) (n c : Nat) {k pl : Nat} {ks : KT}, (∀ x ∈ T, needP x = true) → c + T.length ≤ 64 → Ahead l k (T.flatMap needK ++ ks) →
  ∃ k' pl', needsS e l (n + T.length) c ⟨k, pl, 0⟩ = (T ++ (needsS e l n (c + T.length) ⟨k', pl', 0⟩).1, (needsS e l n (c + T.length) ⟨k', pl', 0⟩).2) ∧ Ahead l k' ks
 | [], n, c, k, pl, ks, _, _, h => ⟨k, pl, rfl, h⟩
 | x :: T, n, c, k, pl, ks, hx, hc, h => by
  rw [List.flatMap_cons, List.append_assoc] at h; rw [List.length_cons] at hc; obtain ⟨k1, p1, e1, h1, hk⟩ := need_ahead (e := e) (pl := pl) h (hx x (by simp)); obtain ⟨k2, p2, e2, h2⟩ := needs_ahead T n (c + 1) (pl := p1) (fun y hy => hx y (by simp [hy])) (by omega) h1
  have hlt : k < l.length := by
   simp only [needK, List.cons_append] at h; obtain ⟨q, hlk, _⟩ := ahead_cons h; exact (List.getElem?_eq_some_iff.1 hlk).1
  refine ⟨k2, p2, ?_, h2⟩; rw [List.length_cons, ← Nat.add_assoc, needsS, if_pos ⟨rfl, hlt⟩]; have hf : fullS e l c ⟨k, pl, 0⟩ = ⟨k, pl, 0⟩ := by unfold fullS; rw [if_neg (by omega)]
  rw [hf, e1]; simp only; rw [e2, show c + (T.length + 1) = c + 1 + T.length by omega]
  rfl
def confK (s : Txt) : KT := if s = [] then [] else lineK wCfz s
def topK (c : Crd) : KT := lineK wCredit c.number ++ (lineK wApz c.applicant ++ (lineK wBnz c.beneficiary ++ (lineK wIssuer c.issuer ++ (confK c.confirmer ++ (lineK wFrom c.orig ++ (lineK wTo c.dest ++ (sumK c ++ (dayK wLatest c.latest ++ (dayK wExpiry c.expiry ++ ([(0, wWithin), nmK c.within, (0, wDays), (5, sSemi)] ++ (tenK c.tenor ++ (choiceK wPartial c.part ++ choiceK wChange c.change))))))))))))
theorem conf_ahead {e : Nat} {l : List Tok} {s y : Txt} {k pl : Nat} {ks : KT} (h : Ahead l k (confK s ++ (lineK wFrom y ++ ks))) : ∃ k', confS e l ⟨k, pl, 0⟩ = (s, ⟨k', pl, 0⟩) ∧ Ahead l k' (lineK wFrom y ++ ks) := by
 unfold confK at h
 split at h
 ·rename_i hz
  rw [List.nil_append] at h; have h1 := ask_ahead (p := wdz wCfz) (pl := pl) (v := false) h (fun _ => rfl); refine ⟨k, ?_, h⟩; unfold confS; rw [if_neg (by rw [h1]; simp), hz]
 ·have h1 := ask_ahead (p := wdz wCfz) (pl := pl) h (word_yes wCfz)
  obtain ⟨e2, h2⟩ := line_ahead (e := e) (pl := pl) h; refine ⟨_, ?_, h2⟩; unfold confS; rw [if_pos h1, e2]
structure Crd.fits (c : Crd) : Prop where
 amount : 1 ≤ c.amount ∧ c.amount ≤ 1099511627776
 above : 0 ≤ c.above ∧ c.above ≤ 1000
 below : 0 ≤ c.below ∧ c.below ≤ 1000
 latest : 0 ≤ c.latest ∧ c.latest ≤ 1048576
 expiry : 0 ≤ c.expiry ∧ c.expiry ≤ 1048576
 within : 0 ≤ c.within ∧ c.within ≤ 1048576
 tenor : 0 ≤ c.tenor ∧ c.tenor ≤ 1048576
theorem credit_ahead {e : Nat} {l : List Tok} {c : Crd} {T : List NdP} {ks : KT} (hc : c.fits) (hT : ∀ x ∈ T, needP x = true) (h64 : T.length ≤ 64) (h : kt l = topK c ++ (T.flatMap needK ++ ks)) :
  ∃ n k pl, l.length + 1 = n + T.length ∧ 1 ≤ n ∧ Ahead l k ks ∧ creditS e l ⟨0, 0, 0⟩ = ((c, T ++ (needsS e l n T.length ⟨k, pl, 0⟩).1), (needsS e l n T.length ⟨k, pl, 0⟩).2) := by
 have h0 : Ahead l 0 (topK c ++ (T.flatMap needK ++ ks)) := h
 simp only [topK, List.append_assoc] at h0
 obtain ⟨e1, h1⟩ := line_ahead (e := e) (pl := 0) h0
 obtain ⟨e2, h2⟩ := line_ahead (e := e) (pl := 0) h1
 obtain ⟨e3, h3⟩ := line_ahead (e := e) (pl := 0) h2
 obtain ⟨e4, h4⟩ := line_ahead (e := e) (pl := 0) h3
 obtain ⟨k5, e5, h5⟩ := conf_ahead (e := e) (pl := 0) h4
 obtain ⟨e6, h6⟩ := line_ahead (e := e) (pl := 0) h5
 obtain ⟨e7, h7⟩ := line_ahead (e := e) (pl := 0) h6
 obtain ⟨e8, h8⟩ := sum_ahead (e := e) (pl := 0) h7 hc.amount.1 hc.amount.2 hc.above.1 hc.above.2 hc.below.1 hc.below.2
 obtain ⟨e9, h9⟩ := day_ahead (e := e) (pl := 0) h8 hc.latest.1 hc.latest.2
 obtain ⟨e10, h10⟩ := day_ahead (e := e) (pl := 0) h9 hc.expiry.1 hc.expiry.2
 obtain ⟨e11, h11⟩ := tez (e := e) (p := wdz wWithin) (pl := 0) h10 (word_yes wWithin)
 obtain ⟨e12, h12⟩ := num_ahead (e := e) (lo := 0) (hi := 1048576) (pl := 0) h11 hc.within.1 (by have := hc.within.2; omega) hc.within.1 hc.within.2
 obtain ⟨e13, h13⟩ := tez (e := e) (p := wdz wDays) (pl := 0) h12 (word_yes wDays)
 obtain ⟨e14, h14⟩ := end_ahead (e := e) (pl := 0) h13
 obtain ⟨k15, e15, h15⟩ := tenor_ahead (e := e) (pl := 0) h14 hc.tenor.1 hc.tenor.2
 obtain ⟨e16, h16⟩ := choice_ahead (e := e) (pl := 0) h15
 obtain ⟨e17, h17⟩ := choice_ahead (e := e) (pl := 0) h16
 have hl : T.length ≤ l.length := by
  have h2 := congrArg List.length h; rw [kt_len, List.length_append, List.length_append] at h2
  have h3 : ∀ T : List NdP, T.length ≤ (T.flatMap needK).length := by
   intro T
   induction T with
   | nil => simp
   | cons x T ih => rw [List.flatMap_cons, List.length_append, List.length_cons]; have : 1 ≤ (needK x).length := by { simp [needK] }; omega
  have := h3 T; omega
 obtain ⟨n, hn⟩ : ∃ n, l.length + 1 = n + T.length := ⟨l.length + 1 - T.length, by omega⟩
 obtain ⟨k18, p18, e18, h18⟩ := needs_ahead (e := e) T n 0 (pl := 0) hT (by omega) h17
 rw [← hn, Nat.zero_add] at e18
 refine ⟨n, k18, p18, hn, by omega, h18, ?_⟩
 unfold creditS
 simp only [e1, e2, e3, e4, e5, e6, e7, e8, e9, e10, e11, e12, e13, e14, e15, e16, e17, e18]
end Go.Proofs.YtjkmhlfjheiekaaGreatDoor

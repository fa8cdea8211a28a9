/- Lines of a credit's text: the closure that writes one (walk of write$1). -/
import Derived.Test.YtjkmhlfjheiekaaGreatDoorTf
import Derived.Test.YtjkmhlfjheiekaaGreatDoorYd
namespace Go.Proofs.YtjkmhlfjheiekaaGreatDoor
open Go Go.RowKit Go.BigFrame Go.Maps

def spaced (ws : List Txt) : Txt := Lib.join ws [32]
def lineT (ws : List Txt) : Txt := spaced ws ++ [59, 10]
def textL (Ls : List (List Txt)) : Txt := Ls.flatMap lineT
theorem textL_snoc (Ls : List (List Txt)) (ws : List Txt) : textL (Ls ++ [ws]) = textL Ls ++ lineT ws := by unfold textL; simp
theorem spaced_one (a : Txt) : spaced [a] = a := by simp [spaced, Lib.join, List.intercalate]
theorem spaced_cons (a b : Txt) (ws : List Txt) : spaced (a :: b :: ws) = a ++ [32] ++ spaced (b :: ws) := by simp [spaced, Lib.join, List.intercalate, List.intersperse]
/-- What stands in a row of words. -/
def WordsAt (w : World) (g : Nat) (ws : List Txt) : Prop := ∀ (j : Nat) (x : Txt), ws[j]? = some x → w.cell? ⟨g, j, none⟩ = some (.string ⟨x.toArray⟩)
theorem WordsAt.below {w w' : World} {g : Nat} {ws : List Txt} (h : WordsAt w g ws) (hb : Below w.heap.size w w') : WordsAt w' g ws := fun j x hx => by
  have h0 := h j x hx
  exact (hb.cell (by exact World.block_lt_of_cell? w _ h0)).trans h0
set_option maxRecDepth 100000 in
set_option maxHeartbeats 1600000 in
theorem line_any (B b : Nat) (acc : Txt) (ws : List Txt) (g n c : Nat) (W : World) (hn : Hid (ws.length = n)) (hw : Hid (WordsAt W g ws)) (hg : g < W.heap.size) (hc : n ≤ c) (hn9 : n ≤ 1000) (h : Hid (Bld W B b acc)) (hlen : acc.length + (spaced ws).length + 2 ≤ 140737488355328) (hB : B ≤ W.heap.size) :
    Calls Tryz.prog 104 #[.slice (some ⟨g, 0, none⟩) n c, .pointer (some ⟨b, 0, none⟩)] W fun e w' => e = .returned (.tuple #[]) ∧ Below B W w' ∧ Lib.OthersKept 5 (some b) W w' ∧ Bld w' B b (acc ++ lineT ws) := by
  have hj : Hid (Calls Tryz.prog 66 #[.slice (some ⟨g, 0, none⟩) n c, .string ⟨#[32]⟩] W fun e w' => e = .returned (.string ⟨(spaced ws).toArray⟩) ∧ Below W.heap.size W w') := by
    have e1 : (ws.map fun t : Txt => (⟨t.toArray⟩ : ByteArray)).map (·.data.toList) = ws := by rw [List.map_map]; exact List.map_id' ws
    have hh := Tryz.strings_Join g 0 c (ws.map fun t : Txt => (⟨t.toArray⟩ : ByteArray)) ⟨#[32]⟩ W (fun j x hx => by
      rw [List.getElem?_map] at hx
      obtain ⟨t, ht, rfl⟩ := Option.map_eq_some_iff.1 hx
      rw [Nat.zero_add]
      exact hw.out j t ht) hg (by rw [List.length_map, hn.out]; omega) (by rw [List.length_map, hn.out]; exact hc) (by rw [e1]; show (spaced ws).length ≤ _; omega)
    rw [e1, List.length_map, hn.out] at hh
    exact hh
  obtain ⟨sp, hsp⟩ : ∃ x, Hid (spaced ws = x) := ⟨_, Lib.hid rfl⟩
  have hln : Hid (lineT ws = sp ++ [59, 10]) := by unfold Hid lineT; rw [hsp.out]
  rw [hsp.out] at hj hlen
  rw [hln.out]
  have e0 : Hid (({ data := sp.toArray } : ByteArray) ++ { data := #[59, 10] } = ⟨(sp ++ [59, 10]).toArray⟩) := ByteArray.ext (by simp)
  have z1 : ¬ 9223372036854775807 < sp.length + 2 := by omega
  have hlen' := Lib.hid hlen
  clear hsp hln hw hn hc hn9 hlen
  go_enter Tryz.func104, Tryz.ntmps104
  go_wp2_with fail
  refine hj.out.mono ?_
  rintro e w1 ⟨rfl, hb1⟩
  have hB1 := Lib.hid (hb1.mono hB)
  have hK1 := Lib.hid (kept_below (b := some b) hb1)
  have hbd1 := Lib.hid (h.out.below hb1)
  have hwr := Lib.hid (write_any B b acc (sp ++ [59, 10]) w1 hbd1 (by have := hlen'.out; simp; omega) (Nat.le_trans hB hb1.size))
  clear hb1 hj h
  go_wp2_with fail
  rw [e0.out]
  refine hwr.out.mono ?_
  rintro e w2 ⟨⟨n2, rfl⟩, hB2, hK2, hb2⟩
  have hB3 := Lib.hid (hB1.out.trans hB2)
  have hK3 := Lib.hid (hK1.out.trans hK2)
  have hb3 := Lib.hid hb2
  clear hB2 hK2 hb2 hwr
  go_wp2_with fail
  go_end0
  exact ⟨rfl, hB3.out, hK3.out, hb3.out⟩
theorem words_new (W : World) (ws : List Txt) : WordsAt (W.alloc (.cells (ws.map fun t => Value.string ⟨t.toArray⟩).toArray 9)) W.heap.size ws := fun j x hx => by
  rw [(Blk.new W 9 _).cell j, List.getElem?_toArray, List.getElem?_map, hx]; rfl
/-- The names of a credit that may be are short. -/
structure Crd.small (c : Crd) : Prop where
  number : c.number.length ≤ 16
  applicant : c.applicant.length ≤ 16
  beneficiary : c.beneficiary.length ≤ 16
  issuer : c.issuer.length ≤ 16
  confirmer : c.confirmer.length ≤ 16
  orig : c.orig.length ≤ 16
  dest : c.dest.length ≤ 16
  currency : c.currency.length ≤ 16
  amount : 0 ≤ c.amount ∧ c.amount ≤ 1099511627776
  above : 0 ≤ c.above ∧ c.above ≤ 1099511627776
  below : 0 ≤ c.below ∧ c.below ≤ 1099511627776
  latest : 0 ≤ c.latest ∧ c.latest ≤ 1099511627776
  expiry : 0 ≤ c.expiry ∧ c.expiry ≤ 1099511627776
  within : 0 ≤ c.within ∧ c.within ≤ 1099511627776
  tenor : 0 ≤ c.tenor ∧ c.tenor ≤ 1099511627776
theorem itoa_any (n : Int) (h0 : 0 ≤ n) (h1 : n ≤ 1099511627776) (W : World) (he : Hid (Env W)) : Calls Tryz.prog 105 #[.int .i64 n] W fun e w' => e = .returned (.string ⟨(decN 20 n.toNat).toArray⟩) ∧ Below W.heap.size W w' := by
  refine (Tryz.strconv_Itoa n (by omega) (by omega) W he.out.tab).mono ?_
  rintro e w' ⟨rfl, k, os, rfl⟩
  rw [itoa_decN h0 h1]
  exact ⟨rfl, below_grows W k os⟩
def heads (c : Crd) : List (List Txt) := [[[99, 114, 101, 100, 105, 116], c.number], [[97, 112, 112, 108, 105, 99, 97, 110, 116], c.applicant], [[98, 101, 110, 101, 102, 105, 99, 105, 97, 114, 121], c.beneficiary], [[105, 115, 115, 117, 101, 114], c.issuer]]
def confL (c : Crd) : List (List Txt) := if c.confirmer = [] then [] else [[[99, 111, 110, 102, 105, 114, 109, 101, 114], c.confirmer]]
def midL (c : Crd) : List (List Txt) := [[[102, 114, 111, 109], c.orig], [[116, 111], c.dest], [[115, 117, 109], c.currency, (decN 20 c.amount.toNat), [97, 98, 111, 118, 101], (decN 20 c.above.toNat), [98, 101, 108, 111, 119], (decN 20 c.below.toNat)], [[108, 97, 116, 101, 115, 116], decN 20 c.latest.toNat], [[101, 120, 112, 105, 114, 121], decN 20 c.expiry.toNat], [[119, 105, 116, 104, 105, 110], decN 20 c.within.toNat, [100, 97, 121, 115]]]
def tenL (c : Crd) : List (List Txt) := if c.tenor = 0 then [[[116, 101, 110, 111, 114], [115, 105, 103, 104, 116]]] else [[[116, 101, 110, 111, 114], decN 20 c.tenor.toNat, [100, 97, 121, 115]]]
theorem two_len (a b : Txt) : (spaced [a, b]).length = a.length + 1 + b.length := by rw [spaced_cons, spaced_one]; simp; omega
theorem snoc_len {Ls : List (List Txt)} {ws : List Txt} {N m : Nat} (h : (textL Ls).length ≤ N) (hw : (spaced ws).length + 2 ≤ m) : (textL (Ls ++ [ws])).length ≤ N + m := by
  rw [textL_snoc, List.length_append]
  have : (lineT ws).length = (spaced ws).length + 2 := by unfold lineT; simp
  omega
/-- The line of a need. -/
def needL (x : Nd) : List Txt := [[119, 97, 110, 116, 115], paperT x.kind, [99, 111, 112, 105, 101, 115], decN 20 x.count.toNat] ++ (if alwaysR (strip x.rule) = true then [] else [[119, 105, 116, 104], showR (strip x.rule)])
def topL (c : Crd) : List (List Txt) := heads c ++ confL c ++ midL c ++ tenL c ++ [[[112, 97, 114, 116, 105, 97, 108], yesT c.part]] ++ [[[99, 104, 97, 110, 103, 101], yesT c.change]]
/-- A credit's text. -/
def creditT (c : Crd) (l : List Nd) : Txt := textL (topL c ++ l.map needL)
theorem textL_app (A B : List (List Txt)) : textL (A ++ B) = textL A ++ textL B := by unfold textL; simp
theorem nameM_len {s : Txt} (h : nameM s = true) : s.length ≤ 16 := by
  unfold nameM at h
  simp only [Bool.and_eq_true, decide_eq_true_eq] at h
  exact h.1.1.2
theorem need_parts {x : Nd} (h : needM x = true) : 0 ≤ x.kind ∧ x.kind < 6 ∧ 1 ≤ x.count ∧ x.count ≤ 9 ∧ (alwaysR (strip x.rule) = true ∨ mayR (strip x.rule) = true) := by
  unfold needM at h
  simp only [Bool.and_eq_true, Bool.or_eq_true, decide_eq_true_eq] at h
  obtain ⟨⟨⟨a, b⟩, c, d⟩, e⟩ := h
  exact ⟨a, b, c, d, e.imp id fun y => y.2⟩
theorem small_of {c : Crd} {l : List Nd} (h : creditM c l = true) : c.small ∧ l.length ≤ 64 ∧ ∀ x ∈ l, needM x = true := by
  simp only [creditM, namesM, daysM, codeM, List.all_cons, List.all_nil, Bool.and_eq_true, Bool.or_eq_true, decide_eq_true_eq, List.all_eq_true, beq_iff_eq, and_true] at h
  obtain ⟨⟨⟨⟨⟨⟨a1, a2, a3, a4, a5, a6⟩, a7, a8, a9⟩, a10, a11⟩, ⟨a12, a13⟩, a14, a15⟩, ⟨a16, a17⟩, ⟨a18, a19⟩, ⟨a20, a21⟩, a22, a23⟩, a24, a25⟩ := h
  have hc : c.confirmer.length ≤ 16 := by
    rcases a7 with h | h
    · rw [h]; simp
    · exact nameM_len h
  exact ⟨⟨nameM_len a1, nameM_len a2, nameM_len a3, nameM_len a4, hc, nameM_len a5, nameM_len a6, by omega, by omega, by omega, by omega, by omega, by omega, by omega, by omega⟩, a24, a25⟩
theorem need_len (x : Nd) (Z : Nat) (h : szR (strip x.rule) ≤ Z) : (spaced (needL x)).length + 2 ≤ Z + 100 := by
  have h1 := paper_len x.kind
  have h2 := dec_len19 (n := x.count.toNat)
  have h3 := show_len (strip x.rule)
  unfold needL
  split <;> simp only [List.append_nil, List.cons_append, List.nil_append, spaced_cons, spaced_one, List.length_append, List.length_cons, List.length_nil] <;> omega
theorem top_len {c : Crd} (h : c.small) : (textL (topL c)).length ≤ 700 := by
  have h1 := h.number
  have h2 := h.applicant
  have h3 := h.beneficiary
  have h4 := h.issuer
  have h5 := h.confirmer
  have h6 := h.orig
  have h7 := h.dest
  have h8 := h.currency
  have d1 := dec_len19 (n := c.amount.toNat)
  have d2 := dec_len19 (n := c.above.toNat)
  have d3 := dec_len19 (n := c.below.toNat)
  have d4 := dec_len19 (n := c.latest.toNat)
  have d5 := dec_len19 (n := c.expiry.toNat)
  have d6 := dec_len19 (n := c.within.toNat)
  have d7 := dec_len19 (n := c.tenor.toNat)
  have y1 : (yesT c.part).length ≤ 3 := by unfold yesT; split <;> simp
  have y2 : (yesT c.change).length ≤ 3 := by unfold yesT; split <;> simp
  unfold topL heads confL midL tenL
  split <;> split <;> simp only [textL, List.flatMap_append, List.flatMap_cons, List.flatMap_nil, lineT, List.append_nil, spaced_cons, spaced_one, List.length_append, List.length_cons, List.length_nil] <;> omega
theorem needs_len (l : List Nd) (Z : Nat) (h : ∀ x ∈ l, szR (strip x.rule) ≤ Z) : (textL (l.map needL)).length ≤ l.length * (Z + 100) := by
  induction l with
  | nil => simp [textL]
  | cons x l ih =>
    have h1 := need_len x Z (h x (by simp))
    have h2 := ih fun y hy => h y (by simp [hy])
    rw [List.map_cons, ← List.singleton_append, textL_app, List.length_append, List.length_cons, Nat.add_mul, Nat.one_mul]
    have : (textL [needL x]).length = (spaced (needL x)).length + 2 := by simp [textL, lineT]
    omega
end Go.Proofs.YtjkmhlfjheiekaaGreatDoor

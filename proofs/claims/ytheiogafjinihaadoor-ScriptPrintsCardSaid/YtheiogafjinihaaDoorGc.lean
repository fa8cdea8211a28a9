/- A deal out of nine bytes: script.deal. -/
import Derived.Test.YtheiogafjinihaaDoorGb
import Derived.Test.YtheiogafjinihaaDoorEq
import Derived.Test.YtheiogafjinihaaDoorGx
namespace Go.Proofs.YtheiogafjinihaaDoor
open Go Go.RowKit Go.BigFrame Go.Maps

abbrev riga : ByteArray := ⟨#[114, 105, 103, 97]⟩
abbrev oslo : ByteArray := ⟨#[111, 115, 108, 111]⟩
abbrev tea : ByteArray := ⟨#[116, 101, 97]⟩
abbrev SDeal.cells (d : SDeal) (bx : Value) : Array Value := #[.string d.number, .string d.seller, .string d.buyer, .string d.carrier, .string d.issuer, .string d.house, .string d.insurer, .string riga, .string oslo, .string d.currency, .int .i64 d.price, bx, .int .i64 d.term, .int .i64 d.latest, .int .i64 d.expiry, .int .i64 d.tenor, .int .i64 d.duty]
/-- Boxes in memory. -/
def BoxesAt (w : World) (v : Value) (l : List SBox) : Prop :=
  ∃ A c, v = .slice A l.length c ∧ ∀ (i : Nat) (b : SBox), l[i]? = some b → ∃ g off h, A = some ⟨g, off, none⟩ ∧ w.cell? ⟨g, off + i * 3, none⟩ = some (.string b.mark) ∧ w.cell? ⟨g, off + i * 3 + 1, none⟩ = some (.int .i64 b.kind) ∧
    w.cell? ⟨g, off + i * 3 + 2, none⟩ = some (.slice (some ⟨h, 0, none⟩) 1 1) ∧ w.cell? ⟨h, 0, none⟩ = some (.string tea) ∧ w.cell? ⟨h, 1, none⟩ = some (.int .i64 b.count)
theorem BoxesAt.below {w w' : World} {v : Value} {l : List SBox} (h : BoxesAt w v l) (hb : Below w.heap.size w w') : BoxesAt w' v l := by
  obtain ⟨A, c, e, h⟩ := h
  refine ⟨A, c, e, fun i b hi => ?_⟩
  obtain ⟨g, off, k, e1, h0, h1, h2, h3, h4⟩ := h i b hi
  have hg : g < w.heap.size := World.block_lt_of_cell? w _ h0
  have hk : k < w.heap.size := World.block_lt_of_cell? w _ h3
  exact ⟨g, off, k, e1, (hb.cell hg).trans h0, (hb.cell hg).trans h1, (hb.cell hg).trans h2, (hb.cell hk).trans h3, (hb.cell hk).trans h4⟩
theorem Tryd.info96 : (Tryd.prog.info? 96).map (fun i => (i.zero, i.size, i.bytes)) = some (some (.agg #[.string ⟨#[]⟩, .int .i64 0, .slice none 0 0]), 3, 48) := by kernel_rfl
def boxL : List SBox → List Nat → List Value
  | b :: l, g :: gs => .string b.mark :: .int .i64 b.kind :: .slice (some ⟨g, 0, none⟩) 1 1 :: boxL l gs
  | _, _ => []
theorem boxL_snoc : ∀ (l : List SBox) (gs : List Nat) (b : SBox) (g : Nat), gs.length = l.length → boxL (l ++ [b]) (gs ++ [g]) = boxL l gs ++ [.string b.mark, .int .i64 b.kind, .slice (some ⟨g, 0, none⟩) 1 1]
  | [], [], b, g, _ => rfl
  | [], _ :: _, _, _, h => by cases h
  | _ :: _, [], _, _, h => by cases h
  | a :: l, x :: gs, b, g, h => by
    simp only [List.cons_append, boxL]
    rw [boxL_snoc l gs b g (by simpa using h)]
theorem boxL_get : ∀ (l : List SBox) (gs : List Nat) (i : Nat) (b : SBox) (g : Nat), l[i]? = some b → gs[i]? = some g → (boxL l gs)[i * 3]? = some (.string b.mark) ∧ (boxL l gs)[i * 3 + 1]? = some (.int .i64 b.kind) ∧ (boxL l gs)[i * 3 + 2]? = some (.slice (some ⟨g, 0, none⟩) 1 1)
  | [], _, i, b, g, h, _ => by simp at h
  | _ :: _, [], i, b, g, _, h => by simp at h
  | a :: l, x :: gs, 0, b, g, h, h' => by
    simp at h h'; subst h; subst h'; exact ⟨rfl, rfl, rfl⟩
  | a :: l, x :: gs, i + 1, b, g, h, h' => by
    have := boxL_get l gs i b g (by simpa using h) (by simpa using h')
    rw [show (i + 1) * 3 = i * 3 + 1 + 1 + 1 by omega]
    exact this
/-- Boxes in a row of one's own. -/
def BoxRow (w : World) (B : Nat) (v : Value) (l : List SBox) : Prop := ∃ gs : List Nat, gs.length = l.length ∧ w.ownsRow B 96 3 v l.length (boxL l gs) ∧ ∀ (i : Nat) (b : SBox) (g : Nat), l[i]? = some b → gs[i]? = some g → Blk w g 98 #[.string tea, .int .i64 b.count]
theorem BoxRow.below {w w' : World} {B : Nat} {v : Value} {l : List SBox} (h : BoxRow w B v l) (hb : Below w.heap.size w w') : BoxRow w' B v l := by
  obtain ⟨gs, h1, h2, h3⟩ := h
  exact ⟨gs, h1, own_below h2 hb, fun i b g hi hg => (h3 i b g hi hg).below hb (h3 i b g hi hg).lt⟩
theorem BoxRow.but {w w' : World} {B z : Nat} {v : Value} {l : List SBox} (h : BoxRow w B v l) (hb : But z w w') (hz : z < B) (hd : ∃ cs, Blk w z 54 cs) : BoxRow w' B v l := by
  obtain ⟨gs, h1, h2, h3⟩ := h
  obtain ⟨cs, hd⟩ := hd
  refine ⟨gs, h1, h2.kept hb.grown (.inr fun e => ?_), fun i b g hi hg => (h3 i b g hi hg).but hb ?_⟩
  · rcases h2.2 with ⟨e9, _⟩ | ⟨g9, c9, cur9, e9, hge, _⟩
    · rw [e9] at e; simp [Value.ownBlock] at e
    · rw [e9] at e; simp [Value.ownBlock] at e; omega
  · rintro rfl
    have h4 := h3 i b _ hi hg
    unfold Blk at h4 hd
    rw [hd] at h4
    simp at h4
theorem BoxRow.at_ {w : World} {B : Nat} {v : Value} {l : List SBox} (h : BoxRow w B v l) : BoxesAt w v l := by
  obtain ⟨gs, h1, h2, h3⟩ := h
  obtain ⟨A, c, rfl⟩ : ∃ A c, v = .slice A l.length c := by
    rcases h2.2 with ⟨e, h0⟩ | ⟨g, c, cur, e, _⟩
    · exact ⟨none, 0, by rw [e, h0]⟩
    · exact ⟨some ⟨g, 0, none⟩, c, e⟩
  refine ⟨A, c, rfl, fun i b hi => ?_⟩
  have hlt : i < l.length := (List.getElem?_eq_some_iff.1 hi).1
  obtain ⟨x, hx⟩ : ∃ x, gs[i]? = some x := ⟨_, List.getElem?_eq_getElem (by omega)⟩
  obtain ⟨g, cap, hv, _, _⟩ := h2.form (by omega)
  have hA : A = some ⟨g, 0, none⟩ := by injection hv
  subst hA
  obtain ⟨ad, e, _, hc⟩ := (Reads.of_own h2).2 (by omega)
  obtain rfl : ad = ⟨g, 0, none⟩ := (Option.some.inj e).symm
  obtain ⟨q0, q1, q2⟩ := boxL_get l gs i b x hi hx
  have hl := h3 i b x hi hx
  have key : ∀ j u, (boxL l gs)[j]? = some u → w.cell? ⟨g, 0 + j, none⟩ = some u := fun j u hu => by rw [← add_zero_at]; exact hc _ _ hu
  exact ⟨g, 0, x, rfl, key _ _ q0, key _ _ q1, key _ _ q2, hl.cell 0, hl.cell 1⟩
theorem BoxRow.mono0 {w : World} {B : Nat} {v : Value} {l : List SBox} (h : BoxRow w B v l) : BoxRow w 0 v l := by
  obtain ⟨gs, h1, h2, h3⟩ := h
  exact ⟨gs, h1, own_mono_base h2 (Nat.zero_le _), h3⟩
theorem BoxRow.nil (w : World) (B : Nat) : BoxRow w B (.slice none 0 0) [] := ⟨[], rfl, own_none _ _ _ _, fun i b g h => by simp at h⟩
theorem partiesA_at : ∀ s : Fin 3, partiesA[s.val * 3]? = some (.string (nmL.getD s.val ⟨#[]⟩)) ∧ partiesA[s.val * 3 + 1]? = some (.string (bkL.getD s.val ⟨#[]⟩)) := by
  intro s
  match s with
  | 0 => exact ⟨rfl, rfl⟩
  | 1 => exact ⟨rfl, rfl⟩
  | 2 => exact ⟨rfl, rfl⟩
theorem index_cr (c : Nat) (hc : c < 2) (W : World) : (Instr.index 65 (.agg #[.string ⟨#[100, 111, 114, 97]⟩, .string ⟨#[101, 109, 105, 108]⟩]) (.int .i64 (c : Int))).run Tryd.prog W = .ok (.string (crL.getD c ⟨#[]⟩)) W := by
  have h : c = 0 ∨ c = 1 := by omega
  rcases h with rfl | rfl <;> simp [Instr.index, run_underlying Tryd.underlying65, asIntOf, Tryd.sizeOf9, part, Tryd.isAgg9, go_sem, crL]
theorem index_tenor (c : Nat) (hc : c < 3) (W : World) : (Instr.index 100 (.agg #[.int .i64 0, .int .i64 5, .int .i64 0]) (.int .i64 (c : Int))).run Tryd.prog W = .ok (.int .i64 (if c = 1 then 5 else 0)) W := by
  have h : c = 0 ∨ c = 1 ∨ c = 2 := by omega
  rcases h with rfl | rfl | rfl <;> simp [Instr.index, run_underlying Tryd.underlying100, asIntOf, Tryd.sizeOf3, part, Tryd.isAgg3, go_sem]
theorem index_duty (c : Nat) (hc : c < 3) (W : World) : (Instr.index 100 (.agg #[.int .i64 0, .int .i64 50, .int .i64 100]) (.int .i64 (c : Int))).run Tryd.prog W = .ok (.int .i64 (if c = 1 then 50 else if c = 2 then 100 else 0)) W := by
  have h : c = 0 ∨ c = 1 ∨ c = 2 := by omega
  rcases h with rfl | rfl | rfl <;> simp [Instr.index, run_underlying Tryd.underlying100, asIntOf, Tryd.sizeOf3, part, Tryd.isAgg3, go_sem]

/-- What deal answers. -/
def DealR (d : SDeal) (w : World) (e : Ending) (w' : World) : Prop := ∃ bx, e = .returned (.agg (d.cells bx)) ∧ BoxRow w' 0 bx d.boxes ∧ Below w.heap.size w w'

def tyDl (w : World) (w2 : World) (k : Nat) (s : Nat) (b : Nat) (c : Nat) (tm : Nat) (la : Nat) (te : Nat) (d4 : Nat) (du : Nat) (x2 : Nat) (x4 : Nat) (x6 : Nat) (x7 : Nat) (x8 : Nat) (pb : Nat) (nuK : ByteArray) (nmS : ByteArray) (nmB : ByteArray) (bkB : ByteArray) (crC : ByteArray) (tn : Int) (dt : Int) : List Ty := [Is (.int .i64 (k : Int)), Is (.string nuK), Is (.slice (some ⟨pb, 0, none⟩) 9 9), Is (.int .i64 (s : Int)), Is (.pointer (some ⟨pb, s * 3, none⟩)), Is (.pointer (some ⟨pb, s * 3, none⟩)), Is (.string nmS), Is (.slice (some ⟨pb, 0, none⟩) 9 9), Is (.int .i64 (b : Int)), Is (.pointer (some ⟨pb, b * 3, none⟩)), Is (.pointer (some ⟨pb, b * 3, none⟩)), Is (.string nmB), Is (.slice (some ⟨pb, 0, none⟩) 9 9), Is (.int .i64 (b : Int)), Is (.pointer (some ⟨pb, b * 3, none⟩)), Is (.pointer (some ⟨pb, b * 3 + 1, none⟩)), Is (.string bkB), Is (.agg #[.string ⟨#[100, 111, 114, 97]⟩, .string ⟨#[101, 109, 105, 108]⟩]), Is (.pointer (some ⟨w.heap.size, 2, none⟩)), Is (.int .i64 (x2 : Int)), Is (.int .i64 ((c : Int))), Is (.string crC), Is (.pointer (some ⟨w.heap.size, 4, none⟩)), Is (.int .i64 (x4 : Int)), Is (.int .i64 (100 * (x4 : Int))), Is (.int .i64 (1 + 100 * (x4 : Int))), Is (.agg #[.string ⟨#[69, 85, 82]⟩, .int .i64 (1 + 100 * (x4 : Int))]), Is (.pointer (some ⟨w.heap.size, 6, none⟩)), Is (.int .i64 (x6 : Int)), Is (.int .i64 ((tm : Int))), Is (.pointer (some ⟨w.heap.size, 7, none⟩)), Is (.int .i64 (x7 : Int)), Is (.int .i64 ((la : Int))), Is (.int .i64 (5 + (la : Int))), Is (.agg #[.int .i64 0, .int .i64 5, .int .i64 0]), Is (.pointer (some ⟨w.heap.size, 8, none⟩)), Is (.int .i64 (x8 : Int)), Is (.int .i64 ((te : Int))), Is (.int .i64 tn), Is (.agg #[.int .i64 0, .int .i64 50, .int .i64 100]), Is (.pointer (some ⟨w.heap.size, 8, none⟩)), Is (.int .i64 (x8 : Int)), Is (.int .i64 ((d4 : Int))), Is (.int .i64 ((du : Int))), Is (.int .i64 dt), Is (.agg #[.string nuK, .string nmS, .string nmB, .string crC, .string bkB, .string ⟨#[]⟩, .string ⟨#[]⟩, .string ⟨#[114, 105, 103, 97]⟩, .string ⟨#[111, 115, 108, 111]⟩, .string ⟨#[69, 85, 82]⟩, .int .i64 (1 + 100 * (x4 : Int)), .slice none 0 0, .int .i64 ((tm : Int)), .int .i64 (5 + (la : Int)), .int .i64 0, .int .i64 tn, .int .i64 dt]), (NewV w2.heap.size 54 #[.string ⟨#[]⟩, .string ⟨#[]⟩, .string ⟨#[]⟩, .string ⟨#[]⟩, .string ⟨#[]⟩, .string ⟨#[]⟩, .string ⟨#[]⟩, .string ⟨#[]⟩, .string ⟨#[]⟩, .string ⟨#[]⟩, .int .i64 0, .slice none 0 0, .int .i64 0, .int .i64 0, .int .i64 0, .int .i64 0, .int .i64 0])]
theorem tyDl_mono (w : World) (w2 : World) (k : Nat) (s : Nat) (b : Nat) (c : Nat) (tm : Nat) (la : Nat) (te : Nat) (d4 : Nat) (du : Nat) (x2 : Nat) (x4 : Nat) (x6 : Nat) (x7 : Nat) (x8 : Nat) (pb : Nat) (nuK : ByteArray) (nmS : ByteArray) (nmB : ByteArray) (bkB : ByteArray) (crC : ByteArray) (tn : Int) (dt : Int) : MonoL (tyDl w w2 k s b c tm la te d4 du x2 x4 x6 x7 x8 pb nuK nmS nmB bkB crC tn dt) := ⟨mono_is _, mono_is _, mono_is _, mono_is _, mono_is _, mono_is _, mono_is _, mono_is _, mono_is _, mono_is _, mono_is _, mono_is _, mono_is _, mono_is _, mono_is _, mono_is _, mono_is _, mono_is _, mono_is _, mono_is _, mono_is _, mono_is _, mono_is _, mono_is _, mono_is _, mono_is _, mono_is _, mono_is _, mono_is _, mono_is _, mono_is _, mono_is _, mono_is _, mono_is _, mono_is _, mono_is _, mono_is _, mono_is _, mono_is _, mono_is _, mono_is _, mono_is _, mono_is _, mono_is _, mono_is _, mono_is _, mono_NewV, trivial⟩

set_option maxRecDepth 100000 in
set_option maxHeartbeats 3200000 in
theorem deal_any (k : Nat) (hk : k < 10) (f : Nat → Nat) (hf : ∀ i, f i < 256) (pb : Nat) (w : World) (hp : Hid (Blk w pb 56 partiesA)) :
    Calls Tryd.prog 19 #[.int .i64 (k : Int), .agg #[.int .i64 (f 0 : Int), .int .i64 (f 1 : Int), .int .i64 (f 2 : Int), .int .i64 (f 3 : Int), .int .i64 (f 4 : Int), .int .i64 (f 5 : Int), .int .i64 (f 6 : Int), .int .i64 (f 7 : Int), .int .i64 (f 8 : Int)], .slice (some ⟨pb, 0, none⟩) 9 9] w (DealR (dealM numB2 mkB k f) w) := by
  obtain ⟨x0, hx0⟩ : ∃ x, f 0 = x := ⟨_, rfl⟩
  have y0 : x0 < 256 := by rw [← hx0]; exact hf 0
  obtain ⟨x1, hx1⟩ : ∃ x, f 1 = x := ⟨_, rfl⟩
  have y1 : x1 < 256 := by rw [← hx1]; exact hf 1
  obtain ⟨x2, hx2⟩ : ∃ x, f 2 = x := ⟨_, rfl⟩
  have y2 : x2 < 256 := by rw [← hx2]; exact hf 2
  obtain ⟨x3, hx3⟩ : ∃ x, f 3 = x := ⟨_, rfl⟩
  have y3 : x3 < 256 := by rw [← hx3]; exact hf 3
  obtain ⟨x4, hx4⟩ : ∃ x, f 4 = x := ⟨_, rfl⟩
  have y4 : x4 < 256 := by rw [← hx4]; exact hf 4
  obtain ⟨x5, hx5⟩ : ∃ x, f 5 = x := ⟨_, rfl⟩
  have y5 : x5 < 256 := by rw [← hx5]; exact hf 5
  obtain ⟨x6, hx6⟩ : ∃ x, f 6 = x := ⟨_, rfl⟩
  have y6 : x6 < 256 := by rw [← hx6]; exact hf 6
  obtain ⟨x7, hx7⟩ : ∃ x, f 7 = x := ⟨_, rfl⟩
  have y7 : x7 < 256 := by rw [← hx7]; exact hf 7
  obtain ⟨x8, hx8⟩ : ∃ x, f 8 = x := ⟨_, rfl⟩
  have y8 : x8 < 256 := by rw [← hx8]; exact hf 8
  have hxs := Lib.hid (And.intro hx0 (And.intro hx1 (And.intro hx2 (And.intro hx3 (And.intro hx4 (And.intro hx5 (And.intro hx6 (And.intro hx7 hx8))))))))
  rw [hx0, hx1, hx2, hx3, hx4, hx5, hx6, hx7, hx8]
  clear hx0 hx1 hx2 hx3 hx4 hx5 hx6 hx7 hx8 hf
  obtain ⟨s, hs⟩ : ∃ s, Hid (x0 % 3 = s) := ⟨_, Lib.hid rfl⟩
  obtain ⟨p1, hp1⟩ : ∃ s, Hid (x1 % 2 = s) := ⟨_, Lib.hid rfl⟩
  obtain ⟨b, hb⟩ : ∃ b, Hid ((s + 1 + p1) % 3 = b) := ⟨_, Lib.hid rfl⟩
  obtain ⟨c, hc⟩ : ∃ c, Hid (x2 % 2 = c) := ⟨_, Lib.hid rfl⟩
  obtain ⟨tm, htm⟩ : ∃ c, Hid (x6 % 8 = c) := ⟨_, Lib.hid rfl⟩
  obtain ⟨la, hla⟩ : ∃ c, Hid (x7 % 32 = c) := ⟨_, Lib.hid rfl⟩
  obtain ⟨te, hte⟩ : ∃ c, Hid (x8 % 3 = c) := ⟨_, Lib.hid rfl⟩
  obtain ⟨d4, hd4⟩ : ∃ c, Hid (x8 / 4 = c) := ⟨_, Lib.hid rfl⟩
  obtain ⟨du, hdu⟩ : ∃ c, Hid (d4 % 3 = c) := ⟨_, Lib.hid rfl⟩
  obtain ⟨ex, hex⟩ : ∃ c, Hid (x7 / 32 = c) := ⟨_, Lib.hid rfl⟩
  have hs3 : s < 3 := by have := hs.out; omega
  have hp2 : p1 < 2 := by have := hp1.out; omega
  have hb3 : b < 3 := by have := hb.out; omega
  have hc2 : c < 2 := by have := hc.out; omega
  have htm8 : tm < 8 := by have := htm.out; omega
  have hla32 : la < 32 := by have := hla.out; omega
  have hte3 : te < 3 := by have := hte.out; omega
  have hd464 : d4 < 64 := by have := hd4.out; omega
  have hdu3 : du < 3 := by have := hdu.out; omega
  have hex8 : ex < 8 := by have := hex.out; omega
  have ms : (x0 : Int).tmod 3 = (s : Int) := by rw [Int.tmod_eq_emod_of_nonneg (by omega)]; have := hs.out; omega
  have mp : (x1 : Int).tmod 2 = (p1 : Int) := by rw [Int.tmod_eq_emod_of_nonneg (by omega)]; have := hp1.out; omega
  have mb : ((s : Int) + 1 + (p1 : Int)).tmod 3 = (b : Int) := by rw [Int.tmod_eq_emod_of_nonneg (by omega)]; have := hb.out; omega
  have ms' : (x0 : Int) % 3 = (s : Int) := by have := hs.out; omega
  have mp' : (x1 : Int) % 2 = (p1 : Int) := by have := hp1.out; omega
  have mb' : ((s : Int) + 1 + (p1 : Int)) % 3 = (b : Int) := by have := hb.out; omega
  obtain ⟨w1, hw1⟩ : ∃ W, Hid (w.alloc (.cells #[.int .i64 (x0 : Int), .int .i64 (x1 : Int), .int .i64 (x2 : Int), .int .i64 (x3 : Int), .int .i64 (x4 : Int), .int .i64 (x5 : Int), .int .i64 (x6 : Int), .int .i64 (x7 : Int), .int .i64 (x8 : Int)] 66) = W) := ⟨_, rfl⟩
  have hb1 : Hid (Below w.heap.size w w1) := by rw [← hw1.out]; exact (Below.refl _ w).alloc (Nat.le_refl _) _
  have hx1 : Hid (Blk w1 w.heap.size 66 #[.int .i64 (x0 : Int), .int .i64 (x1 : Int), .int .i64 (x2 : Int), .int .i64 (x3 : Int), .int .i64 (x4 : Int), .int .i64 (x5 : Int), .int .i64 (x6 : Int), .int .i64 (x7 : Int), .int .i64 (x8 : Int)]) := by rw [← hw1.out]; exact Lib.hid (Blk.new _ _ _)
  obtain ⟨w2, hw2⟩ : ∃ W, Hid (w1.alloc (.cells #[.string ⟨#[]⟩, .string ⟨#[]⟩, .string ⟨#[]⟩, .string ⟨#[]⟩, .string ⟨#[]⟩, .string ⟨#[]⟩, .string ⟨#[]⟩, .string ⟨#[]⟩, .string ⟨#[]⟩, .string ⟨#[]⟩, .int .i64 0, .slice none 0 0, .int .i64 0, .int .i64 0, .int .i64 0, .int .i64 0, .int .i64 0] 54) = W) := ⟨_, rfl⟩
  have hb2 : Hid (Below w1.heap.size w1 w2) := by rw [← hw2.out]; exact (Below.refl _ w1).alloc (Nat.le_refl _) _
  have hr2 : Hid (Blk w2 w1.heap.size 54 #[.string ⟨#[]⟩, .string ⟨#[]⟩, .string ⟨#[]⟩, .string ⟨#[]⟩, .string ⟨#[]⟩, .string ⟨#[]⟩, .string ⟨#[]⟩, .string ⟨#[]⟩, .string ⟨#[]⟩, .string ⟨#[]⟩, .int .i64 0, .slice none 0 0, .int .i64 0, .int .i64 0, .int .i64 0, .int .i64 0, .int .i64 0]) := by rw [← hw2.out]; exact Lib.hid (Blk.new _ _ _)
  have hx2 := Lib.hid (hx1.out.below hb2.out hx1.out.lt)
  have hp2' := Lib.hid ((hp.out.below hb1.out hp.out.lt).below hb2.out (by have := hp.out.lt; have := hb1.out.size; omega))
  have a0 : w2.cell? ⟨w.heap.size, 0, none⟩ = some (.int .i64 (x0 : Int)) := hx2.out.cell 0
  have a1 : w2.cell? ⟨w.heap.size, 1, none⟩ = some (.int .i64 (x1 : Int)) := hx2.out.cell 1
  go_enter Tryd.func19, Tryd.ntmps19
  go_upto_region 3 with (first | rw [hw1.out] | rw [hw2.out])
  have hdn := Lib.hid (dealno_any k (by omega))
  have e1 := index_cr c hc2
  have e2 := index_tenor te hte3
  have e3 := index_duty du hdu3
  have mc : (x2 : Int).tmod 2 = (c : Int) := by rw [Int.tmod_eq_emod_of_nonneg (by omega)]; have := hc.out; omega
  have mt : (x6 : Int).tmod 8 = (tm : Int) := by rw [Int.tmod_eq_emod_of_nonneg (by omega)]; have := htm.out; omega
  have ml : (x7 : Int).tmod 32 = (la : Int) := by rw [Int.tmod_eq_emod_of_nonneg (by omega)]; have := hla.out; omega
  have me : (x8 : Int).tmod 3 = (te : Int) := by rw [Int.tmod_eq_emod_of_nonneg (by omega)]; have := hte.out; omega
  have m4 : (x8 : Int).tdiv 4 = (d4 : Int) := by rw [Int.tdiv_eq_ediv_of_nonneg (by omega)]; have := hd4.out; omega
  have md : (d4 : Int).tmod 3 = (du : Int) := by rw [Int.tmod_eq_emod_of_nonneg (by omega)]; have := hdu.out; omega
  have wr1 : IntKind.i64.wrap (100 * (x4 : Int)) = 100 * (x4 : Int) := IntWalk.i64_in _ (by omega)
  have wr2 : IntKind.i64.wrap (1 + 100 * (x4 : Int)) = 1 + 100 * (x4 : Int) := IntWalk.i64_in _ (by omega)
  have wr3 : IntKind.i64.wrap (5 + (la : Int)) = 5 + (la : Int) := IntWalk.i64_in _ (by omega)
  have wr4 : IntKind.i64.wrap (d4 : Int) = (d4 : Int) := IntWalk.i64_in _ (by omega)
  have r1 : (s : Int) < 9 := by omega
  have r2 : (0 : Int) ≤ (s : Int) := by omega
  have r3 : (b : Int) < 9 := by omega
  have r4 : (0 : Int) ≤ (b : Int) := by omega
  obtain ⟨nmS, hnmS⟩ : ∃ x, nmL.getD s ⟨#[]⟩ = x := ⟨_, rfl⟩
  obtain ⟨nmB, hnmB⟩ : ∃ x, nmL.getD b ⟨#[]⟩ = x := ⟨_, rfl⟩
  obtain ⟨bkB, hbkB⟩ : ∃ x, bkL.getD b ⟨#[]⟩ = x := ⟨_, rfl⟩
  obtain ⟨crC, hcrC⟩ : ∃ x, crL.getD c ⟨#[]⟩ = x := ⟨_, rfl⟩
  obtain ⟨nuK, hnuK⟩ : ∃ x, numB2 k = x := ⟨_, rfl⟩
  obtain ⟨tn, htn⟩ : ∃ x : Int, (if te = 1 then 5 else 0) = x := ⟨_, rfl⟩
  obtain ⟨dt, hdt⟩ : ∃ x : Int, (if du = 1 then 50 else if du = 2 then 100 else 0) = x := ⟨_, rfl⟩
  have hnmSq : Hid (partiesA[s * 3]? = some (.string nmS)) := by rw [← hnmS]; exact (partiesA_at ⟨s, hs3⟩).1
  have hnmBq : Hid (partiesA[b * 3]? = some (.string nmB)) := by rw [← hnmB]; exact (partiesA_at ⟨b, hb3⟩).1
  have hbkBq : Hid (partiesA[b * 3 + 1]? = some (.string bkB)) := by rw [← hbkB]; exact (partiesA_at ⟨b, hb3⟩).2
  rw [hcrC] at e1
  rw [htn] at e2
  rw [hdt] at e3
  rw [hnuK] at hdn
  have hnmS' := Lib.hid hnmS
  have hnmB' := Lib.hid hnmB
  have hbkB' := Lib.hid hbkB
  have hcrC' := Lib.hid hcrC
  have hnuK' := Lib.hid hnuK
  have htn' := Lib.hid htn
  have hdt' := Lib.hid hdt
  clear hnmS hnmB hbkB hcrC hnuK htn hdt
  have hqnmS := hnmSq
  have hqnmB := hnmBq
  have hqbkB := hbkBq
  refine wp_region_any (by kernel_rfl) ?_
  refine wpAny_bodyF 124 (List.range 47) [47] [46] 47 [(0, some 23), (1, some 24), (2, some 25), (3, some 26), (4, some 27), (5, some 28), (6, some 29), (7, some 30), (8, some 31), (9, some 32), (10, some 33), (11, some 34), (12, some 35), (13, some 36), (14, some 37), (15, some 38), (16, some 39), (17, some 40), (18, some 41), (19, some 42), (20, some 43), (21, some 44), (22, some 45), (23, some 46), (24, some 47), (25, some 48), (26, some 49), (27, some 50), (28, some 51), (29, some 52), (30, some 53), (31, some 54), (32, some 55), (33, some 56), (34, some 57), (35, some 58), (36, some 59), (37, some 60), (38, some 61), (39, some 62), (40, some 63), (41, some 64), (42, some 65), (43, some 66), (44, some 67), (45, some 68), (46, some 9)] (Array.replicate 48 false) (Array.replicate 47 true ++ Array.replicate 1 false) (fun a b => Below a.heap.size a b) (fun i => (tyDl w w2 k s b c tm la te d4 du x2 x4 x6 x7 x8 pb nuK nmS nmB bkB crC tn dt).getD i (fun _ _ => True)) (by kernel_rfl) rfl (by kernel_rfl) rfl (Below.refl _ _) (fun _ _ _ h k => h.trans (k.mono h.size)) (fun i v W W' h hb => mono_at (tyDl_mono w w2 k s b c tm la te d4 du x2 x4 x6 x7 x8 pb nuK nmS nmB bkB crC tn dt) i h hb) ?newest ?step ?fin _ rfl
  case newest =>
    intro i hi v W h
    simp only [List.mem_cons, List.not_mem_nil, or_false] at hi
    rcases hi with rfl
    all_goals (obtain ⟨g, _, e, hb⟩ := h; exact ⟨g, e, hb.lt⟩)
  case step =>
    refine allB_cons (i := 0) rfl (fun a W hl K hK => ?_) ?_
    · have hK := fun v W' h1 h2 => hK v W' h1 h2 (fun h => absurd h (by decide))
      have t0 : a.tmps.getD 0 undef = .int .i64 (k : Int) := hl.old 0 (by kernel_rfl)
      exact held_value (v := .int .i64 (k : Int)) (w' := W) rfl rfl (by go_simp) (hK _ _ (Below.refl _ _) rfl)
    refine allB_cons (i := 1) rfl (fun a W hl K hK => ?_) ?_
    · have hK := fun v W' h1 h2 => hK v W' h1 h2 (fun h => absurd h (by decide))
      have t23 : Is (.int .i64 (k : Int)) (a.tmps.getD 23 undef) W := hl.at_ 0 23 (by kernel_rfl)
      unfold Is at t23
      refine held_call (f := 30) (args := #[.int .i64 (k : Int)]) (w := W) rfl rfl (by go_simp) ?_
      refine (hdn.out W).mono ?_
      rintro e w' ⟨rfl, rfl⟩
      exact ⟨_, rfl, hK _ _ (Below.refl _ _) rfl⟩
    refine allB_cons (i := 2) rfl (fun a W hl K hK => ?_) ?_
    · have hK := fun v W' h1 h2 => hK v W' h1 h2 (fun h => absurd h (by decide))
      have t2 : a.tmps.getD 2 undef = .slice (some ⟨pb, 0, none⟩) 9 9 := hl.old 2 (by kernel_rfl)
      exact held_value (v := .slice (some ⟨pb, 0, none⟩) 9 9) (w' := W) rfl rfl (by go_simp) (hK _ _ (Below.refl _ _) rfl)
    refine allB_cons (i := 3) rfl (fun a W hl K hK => ?_) ?_
    · have hK := fun v W' h1 h2 => hK v W' h1 h2 (fun h => absurd h (by decide))
      have t7 : a.tmps.getD 7 undef = .int .i64 (s : Int) := hl.old 7 (by kernel_rfl)
      exact held_value (v := .int .i64 (s : Int)) (w' := W) rfl rfl (by go_simp) (hK _ _ (Below.refl _ _) rfl)
    refine allB_cons (i := 4) rfl (fun a W hl K hK => ?_) ?_
    · have hK := fun v W' h1 h2 => hK v W' h1 h2 (fun h => absurd h (by decide))
      have t25 : Is (.slice (some ⟨pb, 0, none⟩) 9 9) (a.tmps.getD 25 undef) W := hl.at_ 2 25 (by kernel_rfl)
      unfold Is at t25
      have t26 : Is (.int .i64 (s : Int)) (a.tmps.getD 26 undef) W := hl.at_ 3 26 (by kernel_rfl)
      unfold Is at t26
      exact held_value (v := .pointer (some ⟨pb, s * 3, none⟩)) (w' := W) rfl rfl (by go_simp) (hK _ _ (Below.refl _ _) rfl)
    refine allB_cons (i := 5) rfl (fun a W hl K hK => ?_) ?_
    · have hK := fun v W' h1 h2 => hK v W' h1 h2 (fun h => absurd h (by decide))
      have t27 : Is (.pointer (some ⟨pb, s * 3, none⟩)) (a.tmps.getD 27 undef) W := hl.at_ 4 27 (by kernel_rfl)
      unfold Is at t27
      exact held_value (v := .pointer (some ⟨pb, s * 3, none⟩)) (w' := W) rfl rfl (by go_simp) (hK _ _ (Below.refl _ _) rfl)
    refine allB_cons (i := 6) rfl (fun a W hl K hK => ?_) ?_
    · have hK := fun v W' h1 h2 => hK v W' h1 h2 (fun h => absurd h (by decide))
      have t28 : Is (.pointer (some ⟨pb, s * 3, none⟩)) (a.tmps.getD 28 undef) W := hl.at_ 5 28 (by kernel_rfl)
      unfold Is at t28
      have hbP : Blk W (pb) 56 partiesA := hp2'.out.drew.below hl.world hp2'.out.drew.lt
      have cc : W.cell? ⟨pb, s * 3, none⟩ = some (.string nmS) := (hbP.cell _).trans hqnmS.out
      exact held_value (v := .string nmS) (w' := W) rfl rfl (by go_simp) (hK _ _ (Below.refl _ _) rfl)
    refine allB_cons (i := 7) rfl (fun a W hl K hK => ?_) ?_
    · have hK := fun v W' h1 h2 => hK v W' h1 h2 (fun h => absurd h (by decide))
      have t2 : a.tmps.getD 2 undef = .slice (some ⟨pb, 0, none⟩) 9 9 := hl.old 2 (by kernel_rfl)
      exact held_value (v := .slice (some ⟨pb, 0, none⟩) 9 9) (w' := W) rfl rfl (by go_simp) (hK _ _ (Below.refl _ _) rfl)
    refine allB_cons (i := 8) rfl (fun a W hl K hK => ?_) ?_
    · have hK := fun v W' h1 h2 => hK v W' h1 h2 (fun h => absurd h (by decide))
      have t8 : a.tmps.getD 8 undef = .int .i64 (b : Int) := hl.old 8 (by kernel_rfl)
      exact held_value (v := .int .i64 (b : Int)) (w' := W) rfl rfl (by go_simp) (hK _ _ (Below.refl _ _) rfl)
    refine allB_cons (i := 9) rfl (fun a W hl K hK => ?_) ?_
    · have hK := fun v W' h1 h2 => hK v W' h1 h2 (fun h => absurd h (by decide))
      have t30 : Is (.slice (some ⟨pb, 0, none⟩) 9 9) (a.tmps.getD 30 undef) W := hl.at_ 7 30 (by kernel_rfl)
      unfold Is at t30
      have t31 : Is (.int .i64 (b : Int)) (a.tmps.getD 31 undef) W := hl.at_ 8 31 (by kernel_rfl)
      unfold Is at t31
      exact held_value (v := .pointer (some ⟨pb, b * 3, none⟩)) (w' := W) rfl rfl (by go_simp) (hK _ _ (Below.refl _ _) rfl)
    refine allB_cons (i := 10) rfl (fun a W hl K hK => ?_) ?_
    · have hK := fun v W' h1 h2 => hK v W' h1 h2 (fun h => absurd h (by decide))
      have t32 : Is (.pointer (some ⟨pb, b * 3, none⟩)) (a.tmps.getD 32 undef) W := hl.at_ 9 32 (by kernel_rfl)
      unfold Is at t32
      exact held_value (v := .pointer (some ⟨pb, b * 3, none⟩)) (w' := W) rfl rfl (by go_simp) (hK _ _ (Below.refl _ _) rfl)
    refine allB_cons (i := 11) rfl (fun a W hl K hK => ?_) ?_
    · have hK := fun v W' h1 h2 => hK v W' h1 h2 (fun h => absurd h (by decide))
      have t33 : Is (.pointer (some ⟨pb, b * 3, none⟩)) (a.tmps.getD 33 undef) W := hl.at_ 10 33 (by kernel_rfl)
      unfold Is at t33
      have hbP : Blk W (pb) 56 partiesA := hp2'.out.drew.below hl.world hp2'.out.drew.lt
      have cc : W.cell? ⟨pb, b * 3, none⟩ = some (.string nmB) := (hbP.cell _).trans hqnmB.out
      exact held_value (v := .string nmB) (w' := W) rfl rfl (by go_simp) (hK _ _ (Below.refl _ _) rfl)
    refine allB_cons (i := 12) rfl (fun a W hl K hK => ?_) ?_
    · have hK := fun v W' h1 h2 => hK v W' h1 h2 (fun h => absurd h (by decide))
      have t2 : a.tmps.getD 2 undef = .slice (some ⟨pb, 0, none⟩) 9 9 := hl.old 2 (by kernel_rfl)
      exact held_value (v := .slice (some ⟨pb, 0, none⟩) 9 9) (w' := W) rfl rfl (by go_simp) (hK _ _ (Below.refl _ _) rfl)
    refine allB_cons (i := 13) rfl (fun a W hl K hK => ?_) ?_
    · have hK := fun v W' h1 h2 => hK v W' h1 h2 (fun h => absurd h (by decide))
      have t8 : a.tmps.getD 8 undef = .int .i64 (b : Int) := hl.old 8 (by kernel_rfl)
      exact held_value (v := .int .i64 (b : Int)) (w' := W) rfl rfl (by go_simp) (hK _ _ (Below.refl _ _) rfl)
    refine allB_cons (i := 14) rfl (fun a W hl K hK => ?_) ?_
    · have hK := fun v W' h1 h2 => hK v W' h1 h2 (fun h => absurd h (by decide))
      have t35 : Is (.slice (some ⟨pb, 0, none⟩) 9 9) (a.tmps.getD 35 undef) W := hl.at_ 12 35 (by kernel_rfl)
      unfold Is at t35
      have t36 : Is (.int .i64 (b : Int)) (a.tmps.getD 36 undef) W := hl.at_ 13 36 (by kernel_rfl)
      unfold Is at t36
      exact held_value (v := .pointer (some ⟨pb, b * 3, none⟩)) (w' := W) rfl rfl (by go_simp) (hK _ _ (Below.refl _ _) rfl)
    refine allB_cons (i := 15) rfl (fun a W hl K hK => ?_) ?_
    · have hK := fun v W' h1 h2 => hK v W' h1 h2 (fun h => absurd h (by decide))
      have t37 : Is (.pointer (some ⟨pb, b * 3, none⟩)) (a.tmps.getD 37 undef) W := hl.at_ 14 37 (by kernel_rfl)
      unfold Is at t37
      exact held_value (v := .pointer (some ⟨pb, b * 3 + 1, none⟩)) (w' := W) rfl rfl (by go_simp) (hK _ _ (Below.refl _ _) rfl)
    refine allB_cons (i := 16) rfl (fun a W hl K hK => ?_) ?_
    · have hK := fun v W' h1 h2 => hK v W' h1 h2 (fun h => absurd h (by decide))
      have t38 : Is (.pointer (some ⟨pb, b * 3 + 1, none⟩)) (a.tmps.getD 38 undef) W := hl.at_ 15 38 (by kernel_rfl)
      unfold Is at t38
      have hbP : Blk W (pb) 56 partiesA := hp2'.out.drew.below hl.world hp2'.out.drew.lt
      have cc : W.cell? ⟨pb, b * 3 + 1, none⟩ = some (.string bkB) := (hbP.cell _).trans hqbkB.out
      exact held_value (v := .string bkB) (w' := W) rfl rfl (by go_simp) (hK _ _ (Below.refl _ _) rfl)
    refine allB_cons (i := 17) rfl (fun a W hl K hK => ?_) ?_
    · have hK := fun v W' h1 h2 => hK v W' h1 h2 (fun h => absurd h (by decide))
      exact held_value (v := .agg #[.string ⟨#[100, 111, 114, 97]⟩, .string ⟨#[101, 109, 105, 108]⟩]) (w' := W) rfl rfl (by go_simp) (hK _ _ (Below.refl _ _) rfl)
    refine allB_cons (i := 18) rfl (fun a W hl K hK => ?_) ?_
    · have hK := fun v W' h1 h2 => hK v W' h1 h2 (fun h => absurd h (by decide))
      have t4 : a.tmps.getD 4 undef = .pointer (some ⟨w.heap.size, 0, none⟩) := hl.old 4 (by kernel_rfl)
      exact held_value (v := .pointer (some ⟨w.heap.size, 2, none⟩)) (w' := W) rfl rfl (by go_simp) (hK _ _ (Below.refl _ _) rfl)
    refine allB_cons (i := 19) rfl (fun a W hl K hK => ?_) ?_
    · have hK := fun v W' h1 h2 => hK v W' h1 h2 (fun h => absurd h (by decide))
      have t41 : Is (.pointer (some ⟨w.heap.size, 2, none⟩)) (a.tmps.getD 41 undef) W := hl.at_ 18 41 (by kernel_rfl)
      unfold Is at t41
      have hbX : Blk W (w.heap.size) 66 #[.int .i64 (x0 : Int), .int .i64 (x1 : Int), .int .i64 (x2 : Int), .int .i64 (x3 : Int), .int .i64 (x4 : Int), .int .i64 (x5 : Int), .int .i64 (x6 : Int), .int .i64 (x7 : Int), .int .i64 (x8 : Int)] := hx2.out.drew.below hl.world hx2.out.drew.lt
      have cc : W.cell? ⟨w.heap.size, 2, none⟩ = some (.int .i64 (x2 : Int)) := (hbX.cell 2).trans rfl
      exact held_value (v := .int .i64 (x2 : Int)) (w' := W) rfl rfl (by go_simp) (hK _ _ (Below.refl _ _) rfl)
    refine allB_cons (i := 20) rfl (fun a W hl K hK => ?_) ?_
    · have hK := fun v W' h1 h2 => hK v W' h1 h2 (fun h => absurd h (by decide))
      have t42 : Is (.int .i64 (x2 : Int)) (a.tmps.getD 42 undef) W := hl.at_ 19 42 (by kernel_rfl)
      unfold Is at t42
      exact held_value (v := .int .i64 ((c : Int))) (w' := W) rfl rfl (by go_simp) (hK _ _ (Below.refl _ _) rfl)
    refine allB_cons (i := 21) rfl (fun a W hl K hK => ?_) ?_
    · have hK := fun v W' h1 h2 => hK v W' h1 h2 (fun h => absurd h (by decide))
      have t40 : Is (.agg #[.string ⟨#[100, 111, 114, 97]⟩, .string ⟨#[101, 109, 105, 108]⟩]) (a.tmps.getD 40 undef) W := hl.at_ 17 40 (by kernel_rfl)
      unfold Is at t40
      have t43 : Is (.int .i64 ((c : Int))) (a.tmps.getD 43 undef) W := hl.at_ 20 43 (by kernel_rfl)
      unfold Is at t43
      exact held_value (v := .string crC) (w' := W) rfl rfl (by go_simp) (hK _ _ (Below.refl _ _) rfl)
    refine allB_cons (i := 22) rfl (fun a W hl K hK => ?_) ?_
    · have hK := fun v W' h1 h2 => hK v W' h1 h2 (fun h => absurd h (by decide))
      have t4 : a.tmps.getD 4 undef = .pointer (some ⟨w.heap.size, 0, none⟩) := hl.old 4 (by kernel_rfl)
      exact held_value (v := .pointer (some ⟨w.heap.size, 4, none⟩)) (w' := W) rfl rfl (by go_simp) (hK _ _ (Below.refl _ _) rfl)
    refine allB_cons (i := 23) rfl (fun a W hl K hK => ?_) ?_
    · have hK := fun v W' h1 h2 => hK v W' h1 h2 (fun h => absurd h (by decide))
      have t45 : Is (.pointer (some ⟨w.heap.size, 4, none⟩)) (a.tmps.getD 45 undef) W := hl.at_ 22 45 (by kernel_rfl)
      unfold Is at t45
      have hbX : Blk W (w.heap.size) 66 #[.int .i64 (x0 : Int), .int .i64 (x1 : Int), .int .i64 (x2 : Int), .int .i64 (x3 : Int), .int .i64 (x4 : Int), .int .i64 (x5 : Int), .int .i64 (x6 : Int), .int .i64 (x7 : Int), .int .i64 (x8 : Int)] := hx2.out.drew.below hl.world hx2.out.drew.lt
      have cc : W.cell? ⟨w.heap.size, 4, none⟩ = some (.int .i64 (x4 : Int)) := (hbX.cell 4).trans rfl
      exact held_value (v := .int .i64 (x4 : Int)) (w' := W) rfl rfl (by go_simp) (hK _ _ (Below.refl _ _) rfl)
    refine allB_cons (i := 24) rfl (fun a W hl K hK => ?_) ?_
    · have hK := fun v W' h1 h2 => hK v W' h1 h2 (fun h => absurd h (by decide))
      have t46 : Is (.int .i64 (x4 : Int)) (a.tmps.getD 46 undef) W := hl.at_ 23 46 (by kernel_rfl)
      unfold Is at t46
      exact held_value (v := .int .i64 (100 * (x4 : Int))) (w' := W) rfl rfl (by go_simp) (hK _ _ (Below.refl _ _) rfl)
    refine allB_cons (i := 25) rfl (fun a W hl K hK => ?_) ?_
    · have hK := fun v W' h1 h2 => hK v W' h1 h2 (fun h => absurd h (by decide))
      have t47 : Is (.int .i64 (100 * (x4 : Int))) (a.tmps.getD 47 undef) W := hl.at_ 24 47 (by kernel_rfl)
      unfold Is at t47
      exact held_value (v := .int .i64 (1 + 100 * (x4 : Int))) (w' := W) rfl rfl (by go_simp) (hK _ _ (Below.refl _ _) rfl)
    refine allB_cons (i := 26) rfl (fun a W hl K hK => ?_) ?_
    · have hK := fun v W' h1 h2 => hK v W' h1 h2 (fun h => absurd h (by decide))
      have t48 : Is (.int .i64 (1 + 100 * (x4 : Int))) (a.tmps.getD 48 undef) W := hl.at_ 25 48 (by kernel_rfl)
      unfold Is at t48
      simp only [Array.getD_eq_getD_getElem?] at t48
      exact held_value (v := .agg #[.string ⟨#[69, 85, 82]⟩, .int .i64 (1 + 100 * (x4 : Int))]) (w' := W) rfl rfl (by go_simp) (hK _ _ (Below.refl _ _) rfl)
    refine allB_cons (i := 27) rfl (fun a W hl K hK => ?_) ?_
    · have hK := fun v W' h1 h2 => hK v W' h1 h2 (fun h => absurd h (by decide))
      have t4 : a.tmps.getD 4 undef = .pointer (some ⟨w.heap.size, 0, none⟩) := hl.old 4 (by kernel_rfl)
      exact held_value (v := .pointer (some ⟨w.heap.size, 6, none⟩)) (w' := W) rfl rfl (by go_simp) (hK _ _ (Below.refl _ _) rfl)
    refine allB_cons (i := 28) rfl (fun a W hl K hK => ?_) ?_
    · have hK := fun v W' h1 h2 => hK v W' h1 h2 (fun h => absurd h (by decide))
      have t50 : Is (.pointer (some ⟨w.heap.size, 6, none⟩)) (a.tmps.getD 50 undef) W := hl.at_ 27 50 (by kernel_rfl)
      unfold Is at t50
      have hbX : Blk W (w.heap.size) 66 #[.int .i64 (x0 : Int), .int .i64 (x1 : Int), .int .i64 (x2 : Int), .int .i64 (x3 : Int), .int .i64 (x4 : Int), .int .i64 (x5 : Int), .int .i64 (x6 : Int), .int .i64 (x7 : Int), .int .i64 (x8 : Int)] := hx2.out.drew.below hl.world hx2.out.drew.lt
      have cc : W.cell? ⟨w.heap.size, 6, none⟩ = some (.int .i64 (x6 : Int)) := (hbX.cell 6).trans rfl
      exact held_value (v := .int .i64 (x6 : Int)) (w' := W) rfl rfl (by go_simp) (hK _ _ (Below.refl _ _) rfl)
    refine allB_cons (i := 29) rfl (fun a W hl K hK => ?_) ?_
    · have hK := fun v W' h1 h2 => hK v W' h1 h2 (fun h => absurd h (by decide))
      have t51 : Is (.int .i64 (x6 : Int)) (a.tmps.getD 51 undef) W := hl.at_ 28 51 (by kernel_rfl)
      unfold Is at t51
      exact held_value (v := .int .i64 ((tm : Int))) (w' := W) rfl rfl (by go_simp) (hK _ _ (Below.refl _ _) rfl)
    refine allB_cons (i := 30) rfl (fun a W hl K hK => ?_) ?_
    · have hK := fun v W' h1 h2 => hK v W' h1 h2 (fun h => absurd h (by decide))
      have t4 : a.tmps.getD 4 undef = .pointer (some ⟨w.heap.size, 0, none⟩) := hl.old 4 (by kernel_rfl)
      exact held_value (v := .pointer (some ⟨w.heap.size, 7, none⟩)) (w' := W) rfl rfl (by go_simp) (hK _ _ (Below.refl _ _) rfl)
    refine allB_cons (i := 31) rfl (fun a W hl K hK => ?_) ?_
    · have hK := fun v W' h1 h2 => hK v W' h1 h2 (fun h => absurd h (by decide))
      have t53 : Is (.pointer (some ⟨w.heap.size, 7, none⟩)) (a.tmps.getD 53 undef) W := hl.at_ 30 53 (by kernel_rfl)
      unfold Is at t53
      have hbX : Blk W (w.heap.size) 66 #[.int .i64 (x0 : Int), .int .i64 (x1 : Int), .int .i64 (x2 : Int), .int .i64 (x3 : Int), .int .i64 (x4 : Int), .int .i64 (x5 : Int), .int .i64 (x6 : Int), .int .i64 (x7 : Int), .int .i64 (x8 : Int)] := hx2.out.drew.below hl.world hx2.out.drew.lt
      have cc : W.cell? ⟨w.heap.size, 7, none⟩ = some (.int .i64 (x7 : Int)) := (hbX.cell 7).trans rfl
      exact held_value (v := .int .i64 (x7 : Int)) (w' := W) rfl rfl (by go_simp) (hK _ _ (Below.refl _ _) rfl)
    refine allB_cons (i := 32) rfl (fun a W hl K hK => ?_) ?_
    · have hK := fun v W' h1 h2 => hK v W' h1 h2 (fun h => absurd h (by decide))
      have t54 : Is (.int .i64 (x7 : Int)) (a.tmps.getD 54 undef) W := hl.at_ 31 54 (by kernel_rfl)
      unfold Is at t54
      exact held_value (v := .int .i64 ((la : Int))) (w' := W) rfl rfl (by go_simp) (hK _ _ (Below.refl _ _) rfl)
    refine allB_cons (i := 33) rfl (fun a W hl K hK => ?_) ?_
    · have hK := fun v W' h1 h2 => hK v W' h1 h2 (fun h => absurd h (by decide))
      have t55 : Is (.int .i64 ((la : Int))) (a.tmps.getD 55 undef) W := hl.at_ 32 55 (by kernel_rfl)
      unfold Is at t55
      exact held_value (v := .int .i64 (5 + (la : Int))) (w' := W) rfl rfl (by go_simp) (hK _ _ (Below.refl _ _) rfl)
    refine allB_cons (i := 34) rfl (fun a W hl K hK => ?_) ?_
    · have hK := fun v W' h1 h2 => hK v W' h1 h2 (fun h => absurd h (by decide))
      exact held_value (v := .agg #[.int .i64 0, .int .i64 5, .int .i64 0]) (w' := W) rfl rfl (by go_simp) (hK _ _ (Below.refl _ _) rfl)
    refine allB_cons (i := 35) rfl (fun a W hl K hK => ?_) ?_
    · have hK := fun v W' h1 h2 => hK v W' h1 h2 (fun h => absurd h (by decide))
      have t4 : a.tmps.getD 4 undef = .pointer (some ⟨w.heap.size, 0, none⟩) := hl.old 4 (by kernel_rfl)
      exact held_value (v := .pointer (some ⟨w.heap.size, 8, none⟩)) (w' := W) rfl rfl (by go_simp) (hK _ _ (Below.refl _ _) rfl)
    refine allB_cons (i := 36) rfl (fun a W hl K hK => ?_) ?_
    · have hK := fun v W' h1 h2 => hK v W' h1 h2 (fun h => absurd h (by decide))
      have t58 : Is (.pointer (some ⟨w.heap.size, 8, none⟩)) (a.tmps.getD 58 undef) W := hl.at_ 35 58 (by kernel_rfl)
      unfold Is at t58
      have hbX : Blk W (w.heap.size) 66 #[.int .i64 (x0 : Int), .int .i64 (x1 : Int), .int .i64 (x2 : Int), .int .i64 (x3 : Int), .int .i64 (x4 : Int), .int .i64 (x5 : Int), .int .i64 (x6 : Int), .int .i64 (x7 : Int), .int .i64 (x8 : Int)] := hx2.out.drew.below hl.world hx2.out.drew.lt
      have cc : W.cell? ⟨w.heap.size, 8, none⟩ = some (.int .i64 (x8 : Int)) := (hbX.cell 8).trans rfl
      exact held_value (v := .int .i64 (x8 : Int)) (w' := W) rfl rfl (by go_simp) (hK _ _ (Below.refl _ _) rfl)
    refine allB_cons (i := 37) rfl (fun a W hl K hK => ?_) ?_
    · have hK := fun v W' h1 h2 => hK v W' h1 h2 (fun h => absurd h (by decide))
      have t59 : Is (.int .i64 (x8 : Int)) (a.tmps.getD 59 undef) W := hl.at_ 36 59 (by kernel_rfl)
      unfold Is at t59
      exact held_value (v := .int .i64 ((te : Int))) (w' := W) rfl rfl (by go_simp) (hK _ _ (Below.refl _ _) rfl)
    refine allB_cons (i := 38) rfl (fun a W hl K hK => ?_) ?_
    · have hK := fun v W' h1 h2 => hK v W' h1 h2 (fun h => absurd h (by decide))
      have t57 : Is (.agg #[.int .i64 0, .int .i64 5, .int .i64 0]) (a.tmps.getD 57 undef) W := hl.at_ 34 57 (by kernel_rfl)
      unfold Is at t57
      have t60 : Is (.int .i64 ((te : Int))) (a.tmps.getD 60 undef) W := hl.at_ 37 60 (by kernel_rfl)
      unfold Is at t60
      exact held_value (v := .int .i64 tn) (w' := W) rfl rfl (by go_simp) (hK _ _ (Below.refl _ _) rfl)
    refine allB_cons (i := 39) rfl (fun a W hl K hK => ?_) ?_
    · have hK := fun v W' h1 h2 => hK v W' h1 h2 (fun h => absurd h (by decide))
      exact held_value (v := .agg #[.int .i64 0, .int .i64 50, .int .i64 100]) (w' := W) rfl rfl (by go_simp) (hK _ _ (Below.refl _ _) rfl)
    refine allB_cons (i := 40) rfl (fun a W hl K hK => ?_) ?_
    · have hK := fun v W' h1 h2 => hK v W' h1 h2 (fun h => absurd h (by decide))
      have t4 : a.tmps.getD 4 undef = .pointer (some ⟨w.heap.size, 0, none⟩) := hl.old 4 (by kernel_rfl)
      exact held_value (v := .pointer (some ⟨w.heap.size, 8, none⟩)) (w' := W) rfl rfl (by go_simp) (hK _ _ (Below.refl _ _) rfl)
    refine allB_cons (i := 41) rfl (fun a W hl K hK => ?_) ?_
    · have hK := fun v W' h1 h2 => hK v W' h1 h2 (fun h => absurd h (by decide))
      have t63 : Is (.pointer (some ⟨w.heap.size, 8, none⟩)) (a.tmps.getD 63 undef) W := hl.at_ 40 63 (by kernel_rfl)
      unfold Is at t63
      have hbX : Blk W (w.heap.size) 66 #[.int .i64 (x0 : Int), .int .i64 (x1 : Int), .int .i64 (x2 : Int), .int .i64 (x3 : Int), .int .i64 (x4 : Int), .int .i64 (x5 : Int), .int .i64 (x6 : Int), .int .i64 (x7 : Int), .int .i64 (x8 : Int)] := hx2.out.drew.below hl.world hx2.out.drew.lt
      have cc : W.cell? ⟨w.heap.size, 8, none⟩ = some (.int .i64 (x8 : Int)) := (hbX.cell 8).trans rfl
      exact held_value (v := .int .i64 (x8 : Int)) (w' := W) rfl rfl (by go_simp) (hK _ _ (Below.refl _ _) rfl)
    refine allB_cons (i := 42) rfl (fun a W hl K hK => ?_) ?_
    · have hK := fun v W' h1 h2 => hK v W' h1 h2 (fun h => absurd h (by decide))
      have t64 : Is (.int .i64 (x8 : Int)) (a.tmps.getD 64 undef) W := hl.at_ 41 64 (by kernel_rfl)
      unfold Is at t64
      exact held_value (v := .int .i64 ((d4 : Int))) (w' := W) rfl rfl (by go_simp) (hK _ _ (Below.refl _ _) rfl)
    refine allB_cons (i := 43) rfl (fun a W hl K hK => ?_) ?_
    · have hK := fun v W' h1 h2 => hK v W' h1 h2 (fun h => absurd h (by decide))
      have t65 : Is (.int .i64 ((d4 : Int))) (a.tmps.getD 65 undef) W := hl.at_ 42 65 (by kernel_rfl)
      unfold Is at t65
      exact held_value (v := .int .i64 ((du : Int))) (w' := W) rfl rfl (by go_simp) (hK _ _ (Below.refl _ _) rfl)
    refine allB_cons (i := 44) rfl (fun a W hl K hK => ?_) ?_
    · have hK := fun v W' h1 h2 => hK v W' h1 h2 (fun h => absurd h (by decide))
      have t62 : Is (.agg #[.int .i64 0, .int .i64 50, .int .i64 100]) (a.tmps.getD 62 undef) W := hl.at_ 39 62 (by kernel_rfl)
      unfold Is at t62
      have t66 : Is (.int .i64 ((du : Int))) (a.tmps.getD 66 undef) W := hl.at_ 43 66 (by kernel_rfl)
      unfold Is at t66
      exact held_value (v := .int .i64 dt) (w' := W) rfl rfl (by go_simp) (hK _ _ (Below.refl _ _) rfl)
    refine allB_cons (i := 45) rfl (fun a W hl K hK => ?_) ?_
    · have hK := fun v W' h1 h2 => hK v W' h1 h2 (fun h => absurd h (by decide))
      have t24 : Is (.string nuK) (a.tmps.getD 24 undef) W := hl.at_ 1 24 (by kernel_rfl)
      unfold Is at t24
      have t29 : Is (.string nmS) (a.tmps.getD 29 undef) W := hl.at_ 6 29 (by kernel_rfl)
      unfold Is at t29
      have t34 : Is (.string nmB) (a.tmps.getD 34 undef) W := hl.at_ 11 34 (by kernel_rfl)
      unfold Is at t34
      have t39 : Is (.string bkB) (a.tmps.getD 39 undef) W := hl.at_ 16 39 (by kernel_rfl)
      unfold Is at t39
      have t44 : Is (.string crC) (a.tmps.getD 44 undef) W := hl.at_ 21 44 (by kernel_rfl)
      unfold Is at t44
      have t49 : Is (.agg #[.string ⟨#[69, 85, 82]⟩, .int .i64 (1 + 100 * (x4 : Int))]) (a.tmps.getD 49 undef) W := hl.at_ 26 49 (by kernel_rfl)
      unfold Is at t49
      have t52 : Is (.int .i64 ((tm : Int))) (a.tmps.getD 52 undef) W := hl.at_ 29 52 (by kernel_rfl)
      unfold Is at t52
      have t56 : Is (.int .i64 (5 + (la : Int))) (a.tmps.getD 56 undef) W := hl.at_ 33 56 (by kernel_rfl)
      unfold Is at t56
      have t61 : Is (.int .i64 tn) (a.tmps.getD 61 undef) W := hl.at_ 38 61 (by kernel_rfl)
      unfold Is at t61
      have t67 : Is (.int .i64 dt) (a.tmps.getD 67 undef) W := hl.at_ 44 67 (by kernel_rfl)
      unfold Is at t67
      simp only [Array.getD_eq_getD_getElem?] at t24 t29 t34 t39 t44 t49 t52 t56 t61 t67
      exact held_value (v := .agg #[.string nuK, .string nmS, .string nmB, .string crC, .string bkB, .string ⟨#[]⟩, .string ⟨#[]⟩, .string ⟨#[114, 105, 103, 97]⟩, .string ⟨#[111, 115, 108, 111]⟩, .string ⟨#[69, 85, 82]⟩, .int .i64 (1 + 100 * (x4 : Int)), .slice none 0 0, .int .i64 ((tm : Int)), .int .i64 (5 + (la : Int)), .int .i64 0, .int .i64 tn, .int .i64 dt]) (w' := W) rfl rfl (by go_simp) (hK _ _ (Below.refl _ _) rfl)
    refine allB_cons (i := 46) rfl (fun a W hl K hK => ?_) ?_
    · exact held_value (v := .pointer (some ⟨W.heap.size, 0, none⟩)) (w' := W.alloc (.cells #[.string ⟨#[]⟩, .string ⟨#[]⟩, .string ⟨#[]⟩, .string ⟨#[]⟩, .string ⟨#[]⟩, .string ⟨#[]⟩, .string ⟨#[]⟩, .string ⟨#[]⟩, .string ⟨#[]⟩, .string ⟨#[]⟩, .int .i64 0, .slice none 0 0, .int .i64 0, .int .i64 0, .int .i64 0, .int .i64 0, .int .i64 0] 54)) rfl rfl (by go_simp) (hK _ _ ((Below.refl _ W).alloc (Nat.le_refl _) _) ⟨W.heap.size, hl.world.size, rfl, Blk.new _ _ _⟩ (fun _ g e => by simp only [Value.pointer.injEq, Option.some.injEq, Addr.mk.injEq] at e; omega))
    exact allB_nil
  case fin =>
    intro vs W hR hG hDif
    obtain ⟨G3, hg3, e3v, hy3⟩ : NewV w2.heap.size 54 #[.string ⟨#[]⟩, .string ⟨#[]⟩, .string ⟨#[]⟩, .string ⟨#[]⟩, .string ⟨#[]⟩, .string ⟨#[]⟩, .string ⟨#[]⟩, .string ⟨#[]⟩, .string ⟨#[]⟩, .string ⟨#[]⟩, .int .i64 0, .slice none 0 0, .int .i64 0, .int .i64 0, .int .i64 0, .int .i64 0, .int .i64 0] (vs 46) W := hG 46 (by decide)
    have hv45 : vs 45 = .agg #[.string nuK, .string nmS, .string nmB, .string crC, .string bkB, .string ⟨#[]⟩, .string ⟨#[]⟩, .string ⟨#[114, 105, 103, 97]⟩, .string ⟨#[111, 115, 108, 111]⟩, .string ⟨#[69, 85, 82]⟩, .int .i64 (1 + 100 * (x4 : Int)), .slice none 0 0, .int .i64 ((tm : Int)), .int .i64 (5 + (la : Int)), .int .i64 0, .int .i64 tn, .int .i64 dt] := hG 45 (by decide)
    have hy3' := Lib.hid hy3
    have hg3' := Lib.hid hg3
    have hBW : Hid (Below w2.heap.size w2 W) := (Below.refl _ _).drew.trans hR
    clear hG hR hDif hy3 hg3
    simp only [putD, Act.put, List.setIfInBounds_toArray, List.set_cons_zero, List.set_cons_succ, e3v, hv45]
    refine wpAny_next 47 (by kernel_rfl) ?_
    refine held_put rfl rfl 54 (.tmp 9) (.tmp 68) rfl G3 #[.string ⟨#[]⟩, .string ⟨#[]⟩, .string ⟨#[]⟩, .string ⟨#[]⟩, .string ⟨#[]⟩, .string ⟨#[]⟩, .string ⟨#[]⟩, .string ⟨#[]⟩, .string ⟨#[]⟩, .string ⟨#[]⟩, .int .i64 0, .slice none 0 0, .int .i64 0, .int .i64 0, .int .i64 0, .int .i64 0, .int .i64 0] #[.string nuK, .string nmS, .string nmB, .string crC, .string bkB, .string ⟨#[]⟩, .string ⟨#[]⟩, .string ⟨#[114, 105, 103, 97]⟩, .string ⟨#[111, 115, 108, 111]⟩, .string ⟨#[69, 85, 82]⟩, .int .i64 (1 + 100 * (x4 : Int)), .slice none 0 0, .int .i64 ((tm : Int)), .int .i64 (5 + (la : Int)), .int .i64 0, .int .i64 tn, .int .i64 dt] 54 (by go_simp) (by go_simp) hy3'.out rfl (by kernel_rfl) (by simp [Value.oneCell']) ?_
    intro w3 hf hu
    have hD3 := Lib.hid hf
    have hB3 : Hid (Below w2.heap.size w2 w3) := hu.to_below hBW.out hg3'.out hBW.out.size
    clear hf hu
    refine wpAny_end (by kernel_rfl) ?_
    simp only [Act.put, List.getElem_toArray, List.getElem_cons_zero, List.getElem_cons_succ]
    clear e3v hv45
    have G3lt := hg3'.out
    have D13 : w3.cell? ⟨G3, 13, none⟩ = some (.int .i64 (5 + (la : Int))) := hD3.out.cell 13
    have xa7 : w3.cell? ⟨w.heap.size, 7, none⟩ = some (.int .i64 (x7 : Int)) := (hx2.out.below hB3.out hx2.out.lt).cell 7
    have mx : (x7 : Int).tdiv 32 = (ex : Int) := by rw [Int.tdiv_eq_ediv_of_nonneg (by omega)]; have := hex.out; omega
    have mx' : (x7 : Int) / 32 = (ex : Int) := by have := hex.out; omega
    go_upto_region 5 with (refine wpList_puto rfl 3 _ _ rfl G3 14 #[.string nuK, .string nmS, .string nmB, .string crC, .string bkB, .string ⟨#[]⟩, .string ⟨#[]⟩, .string riga, .string oslo, .string ⟨#[69, 85, 82]⟩, .int .i64 (1 + 100 * (x4 : Int)), (.slice none 0 0), .int .i64 (tm : Int), .int .i64 (5 + (la : Int)), .int .i64 0, .int .i64 tn, .int .i64 dt] (#[.string nuK, .string nmS, .string nmB, .string crC, .string bkB, .string ⟨#[]⟩, .string ⟨#[]⟩, .string riga, .string oslo, .string ⟨#[69, 85, 82]⟩, .int .i64 (1 + 100 * (x4 : Int)), (.slice none 0 0), .int .i64 (tm : Int), .int .i64 (5 + (la : Int)), .int .i64 (5 + (la : Int) + (ex : Int)), .int .i64 tn, .int .i64 dt]) 54 (.int .i64 (5 + (la : Int) + (ex : Int))) rfl rfl hD3.out (by simp) rfl (by kernel_rfl) rfl ?_; intro w4 hd4 hb4 _; have hDw4 := Lib.hid hd4; have hBw4 : Hid (Below w2.heap.size w2 w4) := hB3.out.trans (hb4.mono G3lt); clear hd4 hb4)
    clear D13 xa7 mx mx'
    have hro1 := Lib.hid (fun W => odd_any x3 W (by omega))
    obtain ⟨o1, ho1⟩ : ∃ o : Bool, Hid (decide (x3 % 2 = 1) = o) := ⟨_, Lib.hid rfl⟩
    rw [ho1.out] at hro1
    have xa1 : w4.cell? ⟨w.heap.size, 3, none⟩ = some (.int .i64 (x3 : Int)) := (hx2.out.below hBw4.out hx2.out.lt).cell 3
    obtain ⟨ho, hho⟩ : ∃ z : ByteArray, Hid ((if x3 % 2 = 1 then ⟨#[104, 97, 108, 108]⟩ else ⟨#[]⟩) = z) := ⟨_, Lib.hid rfl⟩
    go_upto_if 78 with (go_at_call 18; refine (hro1.out _).mono ?_; rintro e w' ⟨rfl, rfl⟩)
    go_cut [] (fun wx => Hid (Blk wx G3 54 #[.string nuK, .string nmS, .string nmB, .string crC, .string bkB, .string ho, .string ⟨#[]⟩, .string riga, .string oslo, .string ⟨#[69, 85, 82]⟩, .int .i64 (1 + 100 * (x4 : Int)), (.slice none 0 0), .int .i64 (tm : Int), .int .i64 (5 + (la : Int)), .int .i64 (5 + (la : Int) + (ex : Int)), .int .i64 tn, .int .i64 dt]) ∧ Hid (Below w2.heap.size w2 wx))
    case first =>
      cases o1 with
      | true =>
        have hvy : ho = ⟨#[104, 97, 108, 108]⟩ := by rw [← hho.out, if_pos (of_decide_eq_true ho1.out)]
        subst hvy
        go_wp2_with (refine wpList_puto rfl 9 _ _ rfl G3 5 #[.string nuK, .string nmS, .string nmB, .string crC, .string bkB, .string ⟨#[]⟩, .string ⟨#[]⟩, .string riga, .string oslo, .string ⟨#[69, 85, 82]⟩, .int .i64 (1 + 100 * (x4 : Int)), (.slice none 0 0), .int .i64 (tm : Int), .int .i64 (5 + (la : Int)), .int .i64 (5 + (la : Int) + (ex : Int)), .int .i64 tn, .int .i64 dt] #[.string nuK, .string nmS, .string nmB, .string crC, .string bkB, .string ⟨#[104, 97, 108, 108]⟩, .string ⟨#[]⟩, .string riga, .string oslo, .string ⟨#[69, 85, 82]⟩, .int .i64 (1 + 100 * (x4 : Int)), (.slice none 0 0), .int .i64 (tm : Int), .int .i64 (5 + (la : Int)), .int .i64 (5 + (la : Int) + (ex : Int)), .int .i64 tn, .int .i64 dt] 54 (.string ⟨#[104, 97, 108, 108]⟩) rfl rfl hDw4.out (by simp) rfl (by kernel_rfl) rfl ?_; intro w9 hd9 hb9 _)
        go_meet
        case rel => exact ⟨hd9, hBw4.out.trans (hb9.mono G3lt)⟩
      | false =>
        have hvy : ho = ⟨#[]⟩ := by rw [← hho.out, if_neg (of_decide_eq_false ho1.out)]
        subst hvy
        go_wp2_with fail
        go_meet
        case rel => exact ⟨hDw4.out, hBw4.out⟩
    case rest =>
    obtain ⟨hDw5, hBw5⟩ := hcut
    obtain ⟨w5, hwx⟩ : ∃ y, wc = y := ⟨_, rfl⟩
    rw [hwx] at hDw5 hBw5 ⊢
    clear hwx xa1 hro1 hDw4 hBw4
    obtain ⟨h3a, hh3a⟩ : ∃ z, Hid (x3 / 2 = z) := ⟨_, Lib.hid rfl⟩
    have hh3b : h3a < 128 := by have := hh3a.out; omega
    have mq2 : (x3 : Int).tdiv 2 = (h3a : Int) := by rw [Int.tdiv_eq_ediv_of_nonneg (by omega)]; have := hh3a.out; omega
    have mq2' : (x3 : Int) / 2 = (h3a : Int) := by have := hh3a.out; omega
    have hro2 := Lib.hid (fun W => odd_any h3a W (by omega))
    obtain ⟨o2, ho2⟩ : ∃ o : Bool, Hid (decide (h3a % 2 = 1) = o) := ⟨_, Lib.hid rfl⟩
    rw [ho2.out] at hro2
    have xa2 : w5.cell? ⟨w.heap.size, 3, none⟩ = some (.int .i64 (x3 : Int)) := (hx2.out.below hBw5.out hx2.out.lt).cell 3
    obtain ⟨ins, hins⟩ : ∃ z : ByteArray, Hid ((if h3a % 2 = 1 then ⟨#[105, 114, 105, 115]⟩ else ⟨#[]⟩) = z) := ⟨_, Lib.hid rfl⟩
    go_upto_if 83 with (go_at_call 18; refine (hro2.out _).mono ?_; rintro e w' ⟨rfl, rfl⟩)
    go_cut [] (fun wx => Hid (Blk wx G3 54 #[.string nuK, .string nmS, .string nmB, .string crC, .string bkB, .string ho, .string ins, .string riga, .string oslo, .string ⟨#[69, 85, 82]⟩, .int .i64 (1 + 100 * (x4 : Int)), (.slice none 0 0), .int .i64 (tm : Int), .int .i64 (5 + (la : Int)), .int .i64 (5 + (la : Int) + (ex : Int)), .int .i64 tn, .int .i64 dt]) ∧ Hid (Below w2.heap.size w2 wx))
    case first =>
      cases o2 with
      | true =>
        have hvy : ins = ⟨#[105, 114, 105, 115]⟩ := by rw [← hins.out, if_pos (of_decide_eq_true ho2.out)]
        subst hvy
        go_wp2_with (refine wpList_puto rfl 9 _ _ rfl G3 6 #[.string nuK, .string nmS, .string nmB, .string crC, .string bkB, .string ho, .string ⟨#[]⟩, .string riga, .string oslo, .string ⟨#[69, 85, 82]⟩, .int .i64 (1 + 100 * (x4 : Int)), (.slice none 0 0), .int .i64 (tm : Int), .int .i64 (5 + (la : Int)), .int .i64 (5 + (la : Int) + (ex : Int)), .int .i64 tn, .int .i64 dt] #[.string nuK, .string nmS, .string nmB, .string crC, .string bkB, .string ho, .string ⟨#[105, 114, 105, 115]⟩, .string riga, .string oslo, .string ⟨#[69, 85, 82]⟩, .int .i64 (1 + 100 * (x4 : Int)), (.slice none 0 0), .int .i64 (tm : Int), .int .i64 (5 + (la : Int)), .int .i64 (5 + (la : Int) + (ex : Int)), .int .i64 tn, .int .i64 dt] 54 (.string ⟨#[105, 114, 105, 115]⟩) rfl rfl hDw5.out (by simp) rfl (by kernel_rfl) rfl ?_; intro w9 hd9 hb9 _)
        go_meet
        case rel => exact ⟨hd9, hBw5.out.trans (hb9.mono G3lt)⟩
      | false =>
        have hvy : ins = ⟨#[]⟩ := by rw [← hins.out, if_neg (of_decide_eq_false ho2.out)]
        subst hvy
        go_wp2_with fail
        go_meet
        case rel => exact ⟨hDw5.out, hBw5.out⟩
    case rest =>
    obtain ⟨hDw6, hBw6⟩ := hcut
    obtain ⟨w6, hwx⟩ : ∃ y, wc = y := ⟨_, rfl⟩
    rw [hwx] at hDw6 hBw6 ⊢
    clear hwx xa2 hro2 hDw5 hBw5
    obtain ⟨h3c, hh3c⟩ : ∃ z, Hid (x3 / 4 = z) := ⟨_, Lib.hid rfl⟩
    have hh3d : h3c < 64 := by have := hh3c.out; omega
    have mq3 : (x3 : Int).tdiv 4 = (h3c : Int) := by rw [Int.tdiv_eq_ediv_of_nonneg (by omega)]; have := hh3c.out; omega
    have mq3' : (x3 : Int) / 4 = (h3c : Int) := by have := hh3c.out; omega
    have hro3 := Lib.hid (fun W => odd_any h3c W (by omega))
    obtain ⟨o3, ho3⟩ : ∃ o : Bool, Hid (decide (h3c % 2 = 1) = o) := ⟨_, Lib.hid rfl⟩
    rw [ho3.out] at hro3
    have xa3 : w6.cell? ⟨w.heap.size, 3, none⟩ = some (.int .i64 (x3 : Int)) := (hx2.out.below hBw6.out hx2.out.lt).cell 3
    obtain ⟨cu, hcu⟩ : ∃ z : ByteArray, Hid ((if h3c % 2 = 1 then ⟨#[85, 83, 68]⟩ else ⟨#[69, 85, 82]⟩) = z) := ⟨_, Lib.hid rfl⟩
    go_upto_if 88 with (go_at_call 18; refine (hro3.out _).mono ?_; rintro e w' ⟨rfl, rfl⟩)
    go_cut [] (fun wx => Hid (Blk wx G3 54 #[.string nuK, .string nmS, .string nmB, .string crC, .string bkB, .string ho, .string ins, .string riga, .string oslo, .string cu, .int .i64 (1 + 100 * (x4 : Int)), (.slice none 0 0), .int .i64 (tm : Int), .int .i64 (5 + (la : Int)), .int .i64 (5 + (la : Int) + (ex : Int)), .int .i64 tn, .int .i64 dt]) ∧ Hid (Below w2.heap.size w2 wx))
    case first =>
      cases o3 with
      | true =>
        have hvy : cu = ⟨#[85, 83, 68]⟩ := by rw [← hcu.out, if_pos (of_decide_eq_true ho3.out)]
        subst hvy
        go_wp2_with (refine wpList_puto rfl 9 _ _ rfl G3 9 #[.string nuK, .string nmS, .string nmB, .string crC, .string bkB, .string ho, .string ins, .string riga, .string oslo, .string ⟨#[69, 85, 82]⟩, .int .i64 (1 + 100 * (x4 : Int)), (.slice none 0 0), .int .i64 (tm : Int), .int .i64 (5 + (la : Int)), .int .i64 (5 + (la : Int) + (ex : Int)), .int .i64 tn, .int .i64 dt] #[.string nuK, .string nmS, .string nmB, .string crC, .string bkB, .string ho, .string ins, .string riga, .string oslo, .string ⟨#[85, 83, 68]⟩, .int .i64 (1 + 100 * (x4 : Int)), (.slice none 0 0), .int .i64 (tm : Int), .int .i64 (5 + (la : Int)), .int .i64 (5 + (la : Int) + (ex : Int)), .int .i64 tn, .int .i64 dt] 54 (.string ⟨#[85, 83, 68]⟩) rfl rfl hDw6.out (by simp) rfl (by kernel_rfl) rfl ?_; intro w9 hd9 hb9 _)
        go_meet
        case rel => exact ⟨hd9, hBw6.out.trans (hb9.mono G3lt)⟩
      | false =>
        have hvy : cu = ⟨#[69, 85, 82]⟩ := by rw [← hcu.out, if_neg (of_decide_eq_false ho3.out)]
        subst hvy
        go_wp2_with fail
        go_meet
        case rel => exact ⟨hDw6.out, hBw6.out⟩
    case rest =>
    obtain ⟨hDw7, hBw7⟩ := hcut
    obtain ⟨w7, hwx⟩ : ∃ y, wc = y := ⟨_, rfl⟩
    rw [hwx] at hDw7 hBw7 ⊢
    clear hwx xa3 hro3 hDw6 hBw6
    obtain ⟨n5, hn5⟩ : ∃ z, Hid (x5 % 3 = z) := ⟨_, Lib.hid rfl⟩
    have hn53 : n5 < 3 := by have := hn5.out; omega
    obtain ⟨d5, hd5⟩ : ∃ z, Hid (x5 / 4 = z) := ⟨_, Lib.hid rfl⟩
    have hd564 : d5 < 64 := by have := hd5.out; omega
    obtain ⟨k5, hk5⟩ : ∃ z, Hid (d5 % 2 = z) := ⟨_, Lib.hid rfl⟩
    have hk52 : k5 < 2 := by have := hk5.out; omega
    have mn5 : (x5 : Int).tmod 3 = (n5 : Int) := by rw [Int.tmod_eq_emod_of_nonneg (by omega)]; have := hn5.out; omega
    have mn5' : (x5 : Int) % 3 = (n5 : Int) := by have := hn5.out; omega
    have md5 : (x5 : Int).tdiv 4 = (d5 : Int) := by rw [Int.tdiv_eq_ediv_of_nonneg (by omega)]; have := hd5.out; omega
    have md5' : (x5 : Int) / 4 = (d5 : Int) := by have := hd5.out; omega
    have mk5 : (d5 : Int).tmod 2 = (k5 : Int) := by rw [Int.tmod_eq_emod_of_nonneg (by omega)]; have := hk5.out; omega
    have mk5' : (d5 : Int) % 2 = (k5 : Int) := by have := hk5.out; omega
    have xa5 : w7.cell? ⟨w.heap.size, 5, none⟩ = some (.int .i64 (x5 : Int)) := (hx2.out.below hBw7.out hx2.out.lt).cell 5
    obtain ⟨bs, hbs⟩ : ∃ bs, Hid (((List.range (1 + n5)).map fun i => (⟨mkB (10 * k + i), (k5 : Int), 1 + (x6 : Int)⟩ : SBox)) = bs) := ⟨_, Lib.hid rfl⟩
    have hbl : Hid (bs.length = 1 + n5) := by rw [← hbs.out]; exact Lib.hid (by simp)
    have hbg : Hid (∀ j, j < 1 + n5 → bs[j]? = some ⟨mkB (10 * k + j), (k5 : Int), 1 + (x6 : Int)⟩) := by
      intro j hj
      rw [← hbs.out]
      simp [hj]
    have hxl := hx2.out.lt
    have G3w : G3 < w7.heap.size := hDw7.out.lt
    obtain ⟨i0, hi, hz0, hz1, hz2⟩ := info_parts Tryd.info96
    go_wp2_with fail
    go_loopw [95] (fun i wr => ∃ (j : Nat) (bx : Value), j ≤ 1 + n5 ∧ i = .int .i64 (j : Int) ∧ Hid (Blk wr G3 54 (#[.string nuK, .string nmS, .string nmB, .string crC, .string bkB, .string ho, .string ins, .string riga, .string oslo, .string cu, .int .i64 (1 + 100 * (x4 : Int)), bx, .int .i64 (tm : Int), .int .i64 (5 + (la : Int)), .int .i64 (5 + (la : Int) + (ex : Int)), .int .i64 tn, .int .i64 dt])) ∧ Hid (BoxRow wr w7.heap.size bx (bs.take j)) ∧ Hid (Below w2.heap.size w2 wr) ∧ Hid (w7.heap.size ≤ wr.heap.size)) (fun i _ => 1 + n5 - (intOf i).toNat)
    case atStart => exact ⟨0, _, by omega, rfl, hDw7.out, BoxRow.nil _ _, hBw7.out, Nat.le_refl _⟩
    case round =>
      obtain ⟨j, bx, hj, rfl, hD, hrow, hB, hsz⟩ := hrel
      by_cases hlt : j < 1 + n5
      · obtain ⟨gs, hgl, hown, hlots⟩ := hrow.out
        have htl : (bs.take j).length = j := by rw [List.length_take]; have := hbl.out; omega
        rw [htl] at hown hgl
        obtain ⟨A, c', rfl⟩ : ∃ A c', bx = .slice A j c' := by
          rcases hown.2 with ⟨e, h0⟩ | ⟨g, c', cur, e, _⟩
          · exact ⟨none, 0, by rw [e, h0]⟩
          · exact ⟨some ⟨g, 0, none⟩, c', e⟩
        have hown' := Lib.hid hown
        have hgl' := Lib.hid hgl
        have hlots' := Lib.hid hlots
        have htl' := Lib.hid htl
        clear hown hgl hlots htl hrow
        have hmk := make_any (10 * k + j) (by omega)
        have emk : ((10 * k + j : Nat) : Int) = 10 * (k : Int) + (j : Int) := by omega
        rw [emk] at hmk
        have hmk' := Lib.hid hmk
        have hbj := Lib.hid (hbg.out j hlt)
        obtain ⟨mk, hmkq⟩ : ∃ mk, Hid (mkB (10 * k + j) = mk) := ⟨_, Lib.hid rfl⟩
        have hmk2 := hmk'.out
        have hbj2 := hbj.out
        rw [hmkq.out] at hmk2 hbj2
        have hmk3 := Lib.hid hmk2
        have hbj3 := Lib.hid hbj2
        clear hmk emk hmk' hbj hmk2 hbj2
        have x5r : wr.cell? ⟨w.heap.size, 5, none⟩ = some (.int .i64 (x5 : Int)) := (hx2.out.below hB.out hx2.out.lt).cell 5
        have x6r : wr.cell? ⟨w.heap.size, 6, none⟩ = some (.int .i64 (x6 : Int)) := (hx2.out.below hB.out hx2.out.lt).cell 6
        have d11 : wr.cell? ⟨G3, 11, none⟩ = some (.slice A j c') := hD.out.cell 11
        have t1 : decide ((j : Int) < 1 + (n5 : Int)) = true := by simp; omega
        have u1 : IntKind.i64.wrap (10 * (k : Int)) = 10 * (k : Int) := IntWalk.i64_in _ (by omega)
        obtain ⟨w8, hw8⟩ : ∃ W, Hid (wr.alloc (.cells #[.string tea, .int .i64 (1 + (x6 : Int))] 98) = W) := ⟨_, rfl⟩
        have hb8 : Hid (Below wr.heap.size wr w8) := by rw [← hw8.out]; exact (Below.refl _ wr).alloc (Nat.le_refl _) _
        have hL8 : Hid (Blk w8 wr.heap.size 98 #[.string tea, .int .i64 (1 + (x6 : Int))]) := by rw [← hw8.out]; exact Lib.hid (Blk.new _ _ _)
        have hown8 := Lib.hid (own_below hown'.out hb8.out)
        have hD8 := Lib.hid (hD.out.below hb8.out hD.out.lt)
        have hsz8 : Hid (w7.heap.size ≤ w8.heap.size) := Nat.le_trans hsz.out hb8.out.size
        have hB8 : Hid (Below w2.heap.size w2 w8) := hB.out.trans (hb8.out.mono hB.out.size)
        have hone : Hid (∀ u ∈ (#[.string mk, .int .i64 (k5 : Int), .slice (some ⟨wr.heap.size, 0, none⟩) 1 1] : Array Value).toList, u.oneCell' = true) := by
          intro u hu
          simp at hu
          rcases hu with rfl | rfl | rfl <;> rfl
        have hq1 : Hid (j + 1 ≤ maxLen) := by unfold Hid maxLen; omega
        have hq2 : Hid ((j + 1) * 48 ≤ 140737488355328) := by unfold Hid; omega
        go_upto_region 15 with (go_at_call 31; refine (hmk3.out _).mono ?_; rintro e w' ⟨rfl, rfl⟩)
        go_wp2_with (first | rw [hw8.out] | (at_builtin; go_must (refine wpList_app3 w7.heap.size rfl (.tmp 107) (.tmp 119) 52 rfl 96 i0 _ 3 48 Tryd.underlying52 hi hz0 hz1 hz2 rfl (by decide) (.slice A j c') j (boxL (bs.take j) gs) rfl w8.heap.size 1 #[.string mk, .int .i64 (k5 : Int), .slice (some ⟨wr.heap.size, 0, none⟩) 1 1] rfl (hown8.out.alloc _) (Blk.new w8 96 _) rfl hone.out hq1.out hq2.out (Nat.le_trans hsz8.out (by simp)) ?_); intro v9 w9 ho9 hb9 hg9; have hO9 := Lib.hid ho9; have hb9' := Lib.hid hb9; have hg9' := Lib.hid hg9; have hD9 := Lib.hid ((hD8.out.alloc (.cells #[.string mk, .int .i64 (k5 : Int), .slice (some ⟨wr.heap.size, 0, none⟩) 1 1] 96)).below hb9 G3w); clear ho9 hb9 hg9) | (refine wpList_puto rfl 52 _ _ rfl G3 11 (#[.string nuK, .string nmS, .string nmB, .string crC, .string bkB, .string ho, .string ins, .string riga, .string oslo, .string cu, .int .i64 (1 + 100 * (x4 : Int)), (.slice A j c'), .int .i64 (tm : Int), .int .i64 (5 + (la : Int)), .int .i64 (5 + (la : Int) + (ex : Int)), .int .i64 tn, .int .i64 dt]) (#[.string nuK, .string nmS, .string nmB, .string crC, .string bkB, .string ho, .string ins, .string riga, .string oslo, .string cu, .int .i64 (1 + 100 * (x4 : Int)), v9, .int .i64 (tm : Int), .int .i64 (5 + (la : Int)), .int .i64 (5 + (la : Int) + (ex : Int)), .int .i64 tn, .int .i64 dt]) 54 v9 rfl rfl hD9.out (by simp) rfl (by kernel_rfl) (by rcases hO9.out.2 with ⟨e9, _⟩ | ⟨g9, c9, cur9, e9, _⟩ <;> (rw [e9]; rfl)) ?_; intro w10 hd10 hb10 hu10; have hD10 := Lib.hid hd10; have hu10' := Lib.hid hu10; clear hd10 hb10 hu10))
        have hsnoc : Hid (bs.take (j + 1) = bs.take j ++ [⟨mk, (k5 : Int), 1 + (x6 : Int)⟩]) := by
          unfold Hid
          obtain ⟨hlt', he'⟩ := List.getElem?_eq_some_iff.1 hbj3.out
          rw [List.take_succ_eq_append_getElem hlt', he']
        have hOb : v9.ownBlock ≠ some G3 := by
          intro e
          rcases hO9.out.2 with ⟨e9, _⟩ | ⟨g9, c9, cur9, e9, hge, _⟩
          · rw [e9] at e; simp [Value.ownBlock] at e
          · rw [e9] at e; simp [Value.ownBlock] at e; omega
        have hnew : Hid (BoxRow w10 w7.heap.size v9 (bs.take (j + 1))) := by
          refine ⟨gs ++ [wr.heap.size], ?_, ?_, ?_⟩
          · rw [hsnoc.out, List.length_append, List.length_append, hgl'.out, htl'.out]; rfl
          · have h1 := hO9.out.kept hu10'.out.grown (.inr hOb)
            rw [hsnoc.out, List.length_append, htl'.out, boxL_snoc _ _ _ _ (by rw [hgl'.out, htl'.out])]
            exact h1
          · intro i b g hib hig
            rw [hsnoc.out] at hib
            by_cases hij : i < j
            · rw [List.getElem?_append_left (by rw [htl'.out]; exact hij)] at hib
              rw [List.getElem?_append_left (by rw [hgl'.out]; exact hij)] at hig
              have h1 := ((hlots'.out i b g hib hig).below hb8.out (hlots'.out i b g hib hig).lt).alloc (.cells #[.string mk, .int .i64 (k5 : Int), .slice (some ⟨wr.heap.size, 0, none⟩) 1 1] 96)
              exact (h1.grown hg9'.out (fun e => own_blk_ne (hown8.out.alloc _) h1 (by decide) e.symm)).but hu10'.out (by rintro rfl; have := hD9.out; have h2 := (h1.grown hg9'.out (fun e => own_blk_ne (hown8.out.alloc _) h1 (by decide) e.symm)); unfold Blk at this h2; rw [this] at h2; simp at h2)
            · have hij' : i = j := by
                have := (List.getElem?_eq_some_iff.1 hib).1
                rw [List.length_append, htl'.out] at this
                simp at this; omega
              subst hij'
              rw [List.getElem?_append_right (by rw [htl'.out]; exact Nat.le_refl _), htl'.out] at hib
              rw [List.getElem?_append_right (by rw [hgl'.out]; exact Nat.le_refl _), hgl'.out] at hig
              simp at hib hig
              subst hib
              subst hig
              have h1 := hL8.out.alloc (.cells #[.string mk, .int .i64 (k5 : Int), .slice (some ⟨wr.heap.size, 0, none⟩) 1 1] 96)
              exact (h1.grown hg9'.out (fun e => own_blk_ne (hown8.out.alloc _) h1 (by decide) e.symm)).but hu10'.out (by have := hsz.out; omega)
        have hB9 : Hid (Below w2.heap.size w2 w9) := (hB8.out.alloc hB8.out.size _).trans (hb9'.out.mono (by have := hBw7.out.size; omega))
        have hB10 : Hid (Below w2.heap.size w2 w10) := hu10'.out.to_below hB9.out G3lt hB9.out.size
        go_roundw
        case rel => exact ⟨j + 1, v9, by omega, by go_num, hD10.out, hnew.out, hB10.out, by have := hu10'.out.size; have := hb9'.out.size; have := hsz8.out; exact Lib.hid (by simp at *; omega)⟩
        case measure => simp [intOf]; omega
      · have hR := Lib.hid (hr2.out.below hB.out hr2.out.lt)
        have hfin : Hid (bs.take j = bs) := List.take_of_length_le (by have := hbl.out; omega)
        have hrow' := hrow.out
        rw [hfin.out] at hrow'
        have hbx := Lib.hid hrow'.at_
        have hrowB := Lib.hid hrow'
        have t1 : decide ((j : Int) < 1 + (n5 : Int)) = false := by simp; omega
        clear hrow'
        have hbe : ∃ A c', bx = .slice A bs.length c' := by
          obtain ⟨A, c', e, _⟩ := hbx.out
          exact ⟨A, c', e⟩
        obtain ⟨A, c', rfl⟩ := hbe
        go_wp2_with (first | (refine wpList_get_blk rfl 54 _ rfl G3 (#[.string nuK, .string nmS, .string nmB, .string crC, .string bkB, .string ho, .string ins, .string riga, .string oslo, .string cu, .int .i64 (1 + 100 * (x4 : Int)), (.slice A bs.length c'), .int .i64 (tm : Int), .int .i64 (5 + (la : Int)), .int .i64 (5 + (la : Int) + (ex : Int)), .int .i64 tn, .int .i64 dt]) 54 _ rfl hD.out Tryd.underlying54 rfl (by kernel_rfl) ?_) | (refine wpList_put_blk rfl 54 _ _ rfl w1.heap.size #[.string ⟨#[]⟩, .string ⟨#[]⟩, .string ⟨#[]⟩, .string ⟨#[]⟩, .string ⟨#[]⟩, .string ⟨#[]⟩, .string ⟨#[]⟩, .string ⟨#[]⟩, .string ⟨#[]⟩, .string ⟨#[]⟩, .int .i64 0, .slice none 0 0, .int .i64 0, .int .i64 0, .int .i64 0, .int .i64 0, .int .i64 0] (#[.string nuK, .string nmS, .string nmB, .string crC, .string bkB, .string ho, .string ins, .string riga, .string oslo, .string cu, .int .i64 (1 + 100 * (x4 : Int)), (.slice A bs.length c'), .int .i64 (tm : Int), .int .i64 (5 + (la : Int)), .int .i64 (5 + (la : Int) + (ex : Int)), .int .i64 tn, .int .i64 dt]) 54 rfl rfl hR.out rfl (by kernel_rfl) (by simp [Value.oneCell']) ?_; intro w11 hr11 hu11; have hR11 := Lib.hid hr11; have hU11 := Lib.hid hu11; clear hr11 hu11))
        refine bodyPost_ret (results_row rfl _ _ w1.heap.size 54 _ _ rfl hR11.out Tryd.underlying54 rfl (by kernel_rfl)) rfl ?_
        have hdm : dealM numB2 mkB k f = ⟨nuK, nmS, nmB, crC, bkB, ho, ins, cu, 1 + 100 * (x4 : Int), bs, (tm : Int), 5 + (la : Int), 5 + (la : Int) + (ex : Int), tn, dt⟩ := by
          obtain ⟨q0, q1, q2, q3, q4, q5, q6, q7, q8⟩ := hxs.out
          unfold dealM
          simp only [q0, q1, q2, q3, q4, q5, q6, q7, q8, hs.out, hp1.out, hb.out, hc.out, htm.out, hla.out, hte.out, hd4.out, hdu.out, hex.out, hh3a.out, hh3c.out, hnmS'.out, hnmB'.out, hbkB'.out, hcrC'.out, hnuK'.out, hho.out, hins.out, hcu.out, hn5.out, hd5.out, hk5.out, hbs.out, htn'.out, hdt'.out]
        rw [hdm]
        refine ⟨.slice A bs.length c', rfl, ?_, ?_⟩
        · exact (hrowB.out.but hU11.out (by have := hr2.out.lt; have := hBw7.out.size; omega) ⟨_, hR.out⟩).mono0
        · exact hU11.out.to_below (hb1.out.trans ((hb2.out.trans (hB.out.mono hb2.out.size)).mono hb1.out.size)) (by have := hb1.out.size; omega) (by have := hb1.out.size; have := hb2.out.size; have := hB.out.size; omega)

end Go.Proofs.YtheiogafjinihaaDoor

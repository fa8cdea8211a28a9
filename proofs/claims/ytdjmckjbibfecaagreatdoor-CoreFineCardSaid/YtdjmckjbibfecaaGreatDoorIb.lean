/- core.Least, core.Why, core.Mend where nothing is wrong. -/
import Derived.Shelf.Strings.Builder1
import Derived.Shelf.Strings.BuilderF
import Derived.Shelf.Strings.BuilderK
import Derived.Test.YtdjmckjbibfecaaGreatDoorProg
import Derived.Test.YtdjmckjbibfecaaGreatDoorDb
import Derived.Test.YtdjmckjbibfecaaGreatDoorHa
import Derived.Test.YtdjmckjbibfecaaGreatDoorIa
namespace Go.Proofs
open Go.Shelf
def Tryz.lays169_ren : Go.Shelf.Ren := ⟨fun | 169 => 82 | n => n, fun | 70 => 113 | 9 => 9 | 0 => 0 | 72 => 115 | 37 => 33 | 127 => 162 | 3 => 3 | 5 => 5 | n => n, fun | n => n⟩
theorem Tryz.lays169 : Go.Proofs.Lays.n169 Tryz.prog Tryz.lays169_ren := {
  mixed := by kernel_rfl
  f169 := Tryz.func82.trans (congrArg some (by kernel_rfl))
  t0 := Tryz.underlying0
  a0 := Tryz.isAgg0
  z0 := Tryz.sizeOf0
  v0 := Tryz.zeroValue0
  t3 := Tryz.underlying3
  a3 := Tryz.isAgg3
  z3 := Tryz.sizeOf3
  v3 := Tryz.zeroValue3
  t9 := Tryz.underlying9
  a9 := Tryz.isAgg9
  z9 := Tryz.sizeOf9
  v9 := Tryz.zeroValue9
  t37 := Tryz.underlying33
  a37 := Tryz.isAgg33
  z37 := Tryz.sizeOf33
  v37 := Tryz.zeroValue33
  t70 := Tryz.underlying113
  a70 := Tryz.isAgg113
  z70 := Tryz.sizeOf113
  v70 := Tryz.zeroValue113
  t72 := Tryz.underlying115
  a72 := Tryz.isAgg115
  z72 := Tryz.sizeOf115
  v72 := Tryz.zeroValue115
  t127 := Tryz.underlying162
  a127 := Tryz.isAgg162
  z127 := Tryz.sizeOf162
  v127 := Tryz.zeroValue162 }
theorem Tryz.Builder_Extra_169 : Builder.Extra Tryz.prog Tryz.lays169_ren := {
  sizeBuilder := by kernel_rfl
  liesBuilder := by kernel_rfl
  t5 := Tryz.underlying5
  a5 := Tryz.isAgg5
  z5 := Tryz.sizeOf5
  v5 := Tryz.zeroValue5
  infoByte := by kernel_rfl
  cellsByte := by kernel_rfl
  sizeByte := by kernel_rfl
  neB5 := by decide }
open Go.RowKit in
/-- (*strings.Builder).String: "String returns the accumulated string.": WHATEVER THE BUILDER HOLDS; THE FORM '_k': OVER 'Lib.IsBuilderF' (a builder that 'String()' may have read), AND WITH THE FRAME THAT REACHES ABOVE THE BUILDER: 'Lib.OthersKept': every block that is not b and is no row of uint8's stands as it stood: the iterator of a range among them. (LAID: no walk: one application.) -/
theorem Tryz.Builder_String_any_k (B b : Nat) (l : List UInt8) (w : World) (h : Lib.IsBuilderF 115 5 B b (Lib.byteCells l) w) (hBw : B ≤ w.heap.size) :
    Calls Tryz.prog 82 #[.pointer (some ⟨b, 0, none⟩)] w fun e w' => e = .returned (.string ⟨l.toArray⟩) ∧ (Lib.IsBuilderF 115 5 B b (Lib.byteCells l) w' ∧ Below B w w' ∧ Lib.OthersKept 5 (some b) w w') := Any.Builder_String_any_k Tryz.lays169 Tryz.Builder_Extra_169 B b l w h hBw

end Go.Proofs
namespace Go.Proofs.YtdjmckjbibfecaaGreatDoor
open Go Go.RowKit Go.BigFrame Go.Maps

/-- Where nothing is told no part fails a paper. -/
theorem fail_none {c : Crd} {needs : List Nd} {docs : List Pap} {day : Int} (h : examF c needs docs day = []) {a : Nat} {d : Pap} (hd : docs[a]? = some d) : failL needs docs d = [] := by
  unfold failL
  rw [List.flatMap_eq_nil_iff]
  intro x hx
  split
  · rename_i hk
    unfold failT
    rw [List.filter_eq_nil_iff]
    intro u hu h0
    rw [decide_eq_true_iff] at h0
    have hm : (⟨(a : Int), d.kind, if isAtomB u.kind then u.field else ⟨#[]⟩, if u.kind = 7 ∧ holdsT docs d u = 2 then 3 else holdsT docs d u⟩ : Flt) ∈ examF c needs docs day := by
      rw [mem_examF]
      unfold toldE
      refine List.mem_append.2 (.inr (List.mem_append.2 (.inr (List.mem_flatMap.2 ⟨a, List.mem_range.2 (List.getElem?_eq_some_iff.1 hd).1, ?_⟩))))
      unfold docAt
      rw [hd]
      show _ ∈ docF c needs docs day a d
      unfold docF
      have hask : askedB needs d.kind = true := by
        unfold askedB
        rw [List.any_eq_true]
        exact ⟨x, hx, by simp [hk]⟩
      rw [if_pos hask]
      refine List.mem_append.2 (.inl ?_)
      unfold paperF ruledF
      refine List.mem_append.2 (.inr (List.mem_flatMap.2 ⟨x, hx, ?_⟩))
      unfold needR
      rw [if_pos hk]
      refine List.mem_flatMap.2 ⟨u, hu, ?_⟩
      unfold ruleF
      rw [if_neg h0]
      simp
    rw [h] at hm
    cases hm
  · rfl
theorem belowG (base : Nat) : Giver base (fun a b => Below a.heap.size a b) where
  refl W := Below.refl _ W
  trans h k := h.trans (k.mono h.size)
  of h := h
  low h hb := h.mono hb
  size h := h.size
  blk h hb _ := hb.below h hb.lt
set_option maxRecDepth 100000 in
set_option maxHeartbeats 3200000 in
theorem least_none (w : World) (C : Array Value) (nA : Option Addr) (nl nc : Nat) (needs : List Nd) (hnl : Hid (needs.length = nl)) (hl12 : nl ≤ 1000) (hC17 : Hid (C[17]? = some (.slice nA nl nc))) (hN : Hid (NdsAt w nA needs)) (A : Option Addr) (nn cc : Nat) (docs : List Pap) (day : Int) (hX : Hid (ExamC w C A nn cc day [])) (hR : Hid (Room w A nn docs))
    (hnone : Hid (∀ (a : Nat) (d : Pap), docs[a]? = some d → failL needs docs d = [])) :
    Calls Tryz.prog 29 #[.agg C, .slice A nn cc, .int .i64 day] w fun e w' => e = .returned (.tuple #[.slice none 0 0, .bool true]) ∧ Below w.heap.size w w' := by
  have hsz := Lib.hid hX.out.size
  obtain ⟨w1, hw1⟩ : ∃ X, Hid (((w.alloc (.cells C 46)).alloc (.cells #[.slice A nn cc] 25)).alloc (.cells #[.slice none 0 0] 47) = X) := ⟨_, rfl⟩
  have hs1 : (w.alloc (.cells C 46)).heap.size = w.heap.size + 1 := by simp
  have hs2 : ((w.alloc (.cells C 46)).alloc (.cells #[.slice A nn cc] 25)).heap.size = w.heap.size + 2 := by simp
  have hK1 : Hid (Blk w1 w.heap.size 46 C) := by rw [← hw1.out]; exact Lib.hid (((Blk.new _ _ _).alloc _).alloc _)
  have hD1 : Hid (Blk w1 (w.heap.size + 1) 25 #[.slice A nn cc]) := by rw [← hw1.out, ← hs1]; exact Lib.hid ((Blk.new _ _ _).alloc _)
  have hV1 : Hid (Blk w1 (w.heap.size + 2) 47 #[.slice none 0 0]) := by rw [← hw1.out, ← hs2]; exact Lib.hid (Blk.new _ _ _)
  have hb1 : Hid (Below w.heap.size w w1) := by
    rw [← hw1.out]
    have h1 := (Below.refl w.heap.size w).alloc (Nat.le_refl _) (.cells C 46)
    have h2 := h1.alloc h1.size (.cells #[.slice A nn cc] 25)
    exact h2.alloc h2.size _
  obtain ⟨g1, hg1⟩ : ∃ z, Hid (w.heap.size + 1 = z) := ⟨_, rfl⟩
  obtain ⟨g2, hg2⟩ : ∃ z, Hid (w.heap.size + 2 = z) := ⟨_, rfl⟩
  have e1 : w.heap.size + 1 = g1 := hg1.out
  have e2 : g1 + 1 = g2 := by rw [← hg1.out]; exact hg2.out
  rw [hg1.out] at hD1
  rw [hg2.out] at hV1
  have hex := Lib.hid (hX.out.prog w1 hb1.out)
  have p1 : w1.cell? ⟨g1, 0, none⟩ = some (.slice A nn cc) := hD1.out.cell 0
  clear hs1 hs2
  go_enter Tryz.func29, Tryz.ntmps29
  go_wp2_with (first | rw [hw1.out] | (refine wpList_load_blk rfl 46 (.tmp 3) rfl w.heap.size C 46 _ rfl hK1.out Tryz.underlying46 rfl hsz.out ?_))
  refine hex.out.mono ?_
  rintro e w2 ⟨A2, c2, rfl, _, _, hb2⟩
  have hB2 : Hid (Below w.heap.size w w2) := hb1.out.trans (hb2.mono hb1.out.size)
  have hK2 := Lib.hid (hK1.out.below hb2 hK1.out.lt)
  have hD2 := Lib.hid (hD1.out.below hb2 hD1.out.lt)
  have hV2 := Lib.hid (hV1.out.below hb2 hV1.out.lt)
  obtain ⟨w3, hw3⟩ : ∃ X, Hid (w2.alloc (.cells #[.bool true] 4) = X) := ⟨_, rfl⟩
  have hb3 : Hid (Below w2.heap.size w2 w3) := by rw [← hw3.out]; exact (Below.refl _ w2).alloc (Nat.le_refl _) _
  have hT3 : Hid (Blk w3 w2.heap.size 4 #[.bool true]) := by rw [← hw3.out]; exact Lib.hid (Blk.new _ _ _)
  have hB3 : Hid (Below w.heap.size w w3) := hB2.out.trans (hb3.out.mono hB2.out.size)
  have hK3 := Lib.hid (hK2.out.below hb3.out hK2.out.lt)
  have hD3 := Lib.hid (hD2.out.below hb3.out hD2.out.lt)
  have hV3 := Lib.hid (hV2.out.below hb3.out hV2.out.lt)
  have p3 : w3.cell? ⟨g1, 0, none⟩ = some (.slice A nn cc) := hD3.out.cell 0
  have hnn := hR.out.most
  have hlen := Lib.hid hR.out.len
  have eg : ∀ (args : Array Value) (w : World), (callFunc 67 args).run Tryz.prog w = .ok (.enter 67 args) w := enters_of Tryz.func67 (by kernel_rfl) rfl
  have hfa : Hid (∀ (a : Nat) (d : Pap) (W : World), docs[a]? = some d → Below w.heap.size w W → Calls Tryz.prog 63 #[.agg C, .slice A nn cc, .int .i64 (a : Int), .func (.func 67) #[] #[.pointer (some ⟨w2.heap.size, 0, none⟩)]] W fun e w' => e = .returned (.tuple #[]) ∧ Below W.heap.size W w') := Lib.hid fun a d W hd hW => by
    have hf0 := hnone.out a d hd
    have h0 : ∀ x ∈ needs, x.kind = d.kind → ∀ u ∈ partsT x.rule, holdsT docs d u = 0 := fun x hx hk u hu => by
      refine Classical.byContradiction fun h9 => ?_
      have : u ∈ failL needs docs d := by
        unfold failL
        refine List.mem_flatMap.2 ⟨x, hx, ?_⟩
        rw [if_pos hk]
        unfold failT
        exact List.mem_filter.2 ⟨hu, by simpa using h9⟩
      rw [hf0] at this
      cases this
    have H : GiveS w w.heap.size docs d (fun a b => Below a.heap.size a b) (fun (_ : Unit) _ => True) (fun _ => True) (fun t => holdsT docs d t = 0) (fun s _ => s) 67 #[.pointer (some ⟨w2.heap.size, 0, none⟩)] :=
      ⟨belowG _, fun _ _ _ _ _ => trivial, fun s t W _ h1 h2 _ _ _ => absurd h1 h2, eg⟩
    refine (failing_any (Lib.hid H) A nn cc a (Lib.hid hd) hR C nA nl nc needs hnl hl12 hC17 hN (Lib.hid h0) W () (Lib.hid fun _ => trivial) (Lib.hid trivial) (Lib.hid hW)).mono ?_
    rintro e w' ⟨he, _, hF⟩
    exact ⟨he, hF⟩
  clear p1 hex hK1 hD1 hV1 hK2 hD2 hV2 hb2 e1 e2
  obtain ⟨gT, hgT⟩ : ∃ z, Hid (w2.heap.size = z) := ⟨_, rfl⟩
  rw [hgT.out] at hfa hT3
  have hst : Hid (Below w.heap.size w w3 ∧ Blk w3 w.heap.size 46 C ∧ Blk w3 g1 25 #[.slice A nn cc] ∧ Blk w3 g2 47 #[.slice none 0 0] ∧ Blk w3 gT 4 #[.bool true]) := Lib.hid ⟨hB3.out, hK3.out, hD3.out, hV3.out, hT3.out⟩
  have ht3 : w2.heap.size = gT := hgT.out
  clear hB3 hK3 hD3 hV3 hT3 hb3 hB2
  go_wp2_with fail
  go_loopw [18] (fun i wr => i = .int .i64 0 ∧ w2 = wr) (fun _ _ => 0)
  case atStart => exact ⟨rfl, rfl⟩
  case round =>
    obtain ⟨rfl, rfl⟩ := hrel
    go_wp2_with (rw [hw3.out])
    clear ht3 p3
    go_loopw [12, 39] (fun _ i wr => ∃ q : Nat, q ≤ nn ∧ i = .int .i64 q ∧ Hid (Below w.heap.size w wr ∧ Blk wr w.heap.size 46 C ∧ Blk wr g1 25 #[.slice A nn cc] ∧ Blk wr g2 47 #[.slice none 0 0] ∧ Blk wr gT 4 #[.bool true])) (fun _ i _ => nn - (intOf i).toNat)
    case atStart => exact ⟨0, Nat.zero_le _, rfl, hst⟩
    case round =>
      clear hst hw3
      obtain ⟨q, hq, rfl, hS⟩ := hrel
      obtain ⟨s1, s2, s3, s4, s5⟩ := hS.out
      have r1 : wr.cell? ⟨g1, 0, none⟩ = some (.slice A nn cc) := s3.cell 0
      have hk2 := Lib.hid s2
      by_cases hlt : q < nn
      · as_aux_lemma =>
        obtain ⟨d, hd⟩ : ∃ d, docs[q]? = some d := ⟨_, List.getElem?_eq_getElem (by have := hlen.out; omega)⟩
        have hcall := Lib.hid (hfa.out q d wr hd s1)
        have i1 : (q : Int) < (nn : Int) := by omega
        have hkm : decide (q < nn) = true := decide_eq_true hlt
        clear hfa s1 s2 s3 s4 s5 hd
        go_wp2_with (refine wpList_load_blk rfl 46 (.tmp 3) rfl w.heap.size C 46 _ rfl hk2.out Tryz.underlying46 rfl hsz.out ?_)
        refine hcall.out.mono ?_
        rintro e w6 ⟨rfl, hb6⟩
        have hS6 : Hid (Below w.heap.size w w6 ∧ Blk w6 w.heap.size 46 C ∧ Blk w6 g1 25 #[.slice A nn cc] ∧ Blk w6 g2 47 #[.slice none 0 0] ∧ Blk w6 gT 4 #[.bool true]) := by
          obtain ⟨s1, s2, s3, s4, s5⟩ := hS.out
          exact Lib.hid ⟨s1.trans (hb6.mono s1.size), s2.below hb6 s2.lt, s3.below hb6 s3.lt, s4.below hb6 s4.lt, s5.below hb6 s5.lt⟩
        clear hb6 r1 hcall
        go_wp2_with fail
        go_roundw
        case rel => exact ⟨q + 1, by omega, by go_num, hS6⟩
        case measure => simp [intOf]; omega
      · have hkm : decide (q < nn) = false := decide_eq_false hlt
        have r4 : wr.cell? ⟨g2, 0, none⟩ = some (.slice none 0 0) := s4.cell 0
        have r5 : wr.cell? ⟨gT, 0, none⟩ = some (.bool true) := s5.cell 0
        go_wp2_with fail
        go_quiet (fail)
        go_wp2_with fail
        go_ret2
        exact ⟨rfl, below_drewN s1 _⟩
abbrev Bld (w : World) (B b : Nat) (acc : List UInt8) : Prop := Lib.IsBuilderF 115 5 B b (Lib.byteCells acc) w
theorem ownF_below {w w' : World} {B : Nat} {e : TypeId} {size n : Nat} {v : Value} {xs : List Value} (h : w.ownsRowF B e size v n xs) (hb : Below w.heap.size w w') : w'.ownsRowF B e size v n xs :=
  h.kept (row := none) ⟨hb.os, hb.tape, hb.output, hb.size, fun k hk _ => hb.block k hk⟩ (by
    rcases hv : v.ownBlock with _ | k
    · exact .inl rfl
    · exact .inr (by simp))
theorem builderAt_below {w w' : World} {T e : TypeId} {B b : Nat} {p : Value} {bs : List Value} (h : Lib.BuilderAtF T e B b p bs w) (hb : Below w.heap.size w w') : Lib.BuilderAtF T e B b p bs w' := by
  obtain ⟨hB, v, hv, ho, hne⟩ := h
  have hlt : b < w.heap.size := by
    rcases Nat.lt_or_ge b w.heap.size with h | h
    · exact h
    · rw [Array.getElem?_eq_none h] at hv; cases hv
  exact ⟨hB, v, (hb.block b hlt).trans hv, ownF_below ho hb, hne⟩
theorem Bld.below {w w' : World} {B b : Nat} {acc : List UInt8} (h : Bld w B b acc) (hb : Below w.heap.size w w') : Bld w' B b acc := by
  rcases h with h | h
  · exact .inl (builderAt_below h hb)
  · exact .inr (builderAt_below h hb)
theorem Bld.lt {w : World} {B b : Nat} {acc : List UInt8} (h : Bld w B b acc) : b < w.heap.size := by
  rcases h with ⟨_, v, hv, _⟩ | ⟨_, v, hv, _⟩ <;> exact (Array.getElem?_eq_some_iff.1 hv).1
theorem builder_new (w : World) : Bld (w.alloc (.cells #[.pointer none, .slice none 0 0] 115)) w.heap.size w.heap.size [] :=
  Lib.IsBuilderF.of (.inl ⟨Nat.le_refl _, _, heap_alloc_new w _, ⟨rfl, .inl ⟨rfl, rfl⟩⟩, by simp [Value.ownBlock]⟩)
set_option maxRecDepth 100000 in
set_option maxHeartbeats 3200000 in
theorem why_none (w : World) (C : Array Value) (A : Option Addr) (nn cc : Nat) (day : Int) (hX : Hid (ExamC w C A nn cc day [])) :
    Calls Tryz.prog 34 #[.agg C, .slice A nn cc, .int .i64 day] w fun e w' => e = .returned (.string ⟨#[]⟩) ∧ Below w.heap.size w w' := by
  have hsz := Lib.hid hX.out.size
  obtain ⟨w0, hw0⟩ : ∃ X, Hid ((w.alloc (.cells C 46)).alloc (.cells #[.slice A nn cc] 25) = X) := ⟨_, rfl⟩
  have hs1 : (w.alloc (.cells C 46)).heap.size = w.heap.size + 1 := by simp
  have hK0 : Hid (Blk w0 w.heap.size 46 C) := by rw [← hw0.out]; exact Lib.hid ((Blk.new _ _ _).alloc _)
  have hD0 : Hid (Blk w0 (w.heap.size + 1) 25 #[.slice A nn cc]) := by rw [← hw0.out, ← hs1]; exact Lib.hid (Blk.new _ _ _)
  have hz0 : Hid (w0.heap.size = w.heap.size + 2) := by rw [← hw0.out]; unfold Hid; simp
  have hb0 : Hid (Below w.heap.size w w0) := by
    rw [← hw0.out]
    have h1 := (Below.refl w.heap.size w).alloc (Nat.le_refl _) (.cells C 46)
    exact h1.alloc h1.size _
  obtain ⟨w1, hw1⟩ : ∃ X, Hid (w0.alloc (.cells #[.pointer none, .slice none 0 0] 115) = X) := ⟨_, rfl⟩
  have hb1 : Hid (Below w0.heap.size w0 w1) := by rw [← hw1.out]; exact (Below.refl _ w0).alloc (Nat.le_refl _) _
  have hW1 : Hid (Lib.IsBuilderF 115 5 w0.heap.size w0.heap.size (Lib.byteCells []) w1) := by rw [← hw1.out]; exact builder_new w0
  have hB1 : Hid (Below w.heap.size w w1) := hb0.out.trans (hb1.out.mono hb0.out.size)
  have hK1 := Lib.hid (hK0.out.below hb1.out hK0.out.lt)
  have hD1 := Lib.hid (hD0.out.below hb1.out hD0.out.lt)
  obtain ⟨g1, hg1⟩ : ∃ z, Hid (w.heap.size + 1 = z) := ⟨_, rfl⟩
  obtain ⟨g2, hg2⟩ : ∃ z, Hid (w0.heap.size = z) := ⟨_, rfl⟩
  have e1 : w.heap.size + 1 = g1 := hg1.out
  have e2 : w0.heap.size = g2 := hg2.out
  rw [hg1.out] at hD1
  rw [hg2.out] at hW1
  have p1 : w1.cell? ⟨g1, 0, none⟩ = some (.slice A nn cc) := hD1.out.cell 0
  have hex := Lib.hid (hX.out.prog w1 hB1.out)
  clear hs1 hK0 hD0
  go_enter Tryz.func34, Tryz.ntmps34
  go_wp2_with (first | rw [hw0.out, hw1.out] | rw [hw0.out] | rw [hw1.out] | (refine wpList_load_blk rfl 46 (.tmp 3) rfl w.heap.size C 46 _ rfl hK1.out Tryz.underlying46 rfl hsz.out ?_))
  refine hex.out.mono ?_
  rintro e w2 ⟨A2, c2, rfl, _, _, hb2⟩
  have hB2 : Hid (Below w.heap.size w w2) := hB1.out.trans (hb2.mono hB1.out.size)
  have hg2w : Hid (g2 ≤ w2.heap.size) := by have h1 := hb1.out.size; have h2 := hb2.size; have := hg2.out; unfold Hid; omega
  have hgw : Hid (w.heap.size ≤ g2) := by have := hz0.out; have := hg2.out; unfold Hid; omega
  have hW2 : Hid (Lib.IsBuilderF 115 5 g2 g2 (Lib.byteCells []) w2) := Lib.hid (Bld.below hW1.out hb2)
  have hstr := Lib.hid (Tryz.Builder_String_any_k g2 g2 [] w2 hW2.out hg2w.out)
  clear e1 p1 hex hb2
  go_wp2_with fail
  go_loopw [15] (fun i wr => i = .int .i64 0 ∧ w2 = wr) (fun _ _ => 0)
  case atStart => exact ⟨rfl, rfl⟩
  case round =>
    obtain ⟨rfl, rfl⟩ := hrel
    go_wp2_with fail
    refine hstr.out.mono ?_
    rintro e w3 ⟨rfl, _, hb3, _⟩
    have hB3 : Hid (Below w.heap.size w w3) := hB2.out.trans (hb3.mono hgw.out)
    clear hb3 hstr
    go_wp2_with fail
    go_ret
    exact ⟨rfl, hB3.out⟩
end Go.Proofs.YtdjmckjbibfecaaGreatDoor

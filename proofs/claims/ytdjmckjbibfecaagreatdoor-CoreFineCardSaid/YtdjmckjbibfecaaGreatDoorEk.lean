/- What a paper has that is not as the first paper ahead has it: the walk of others. -/
import Derived.Test.YtdjmckjbibfecaaGreatDoorEj
namespace Go.Proofs.YtdjmckjbibfecaaGreatDoor
open Go Go.RowKit Go.BigFrame Go.Maps

theorem str_keyed9 : Keyed Tryz.prog 9 := string_keyed Tryz.underlying9
theorem zero9 (w : World) : (zeroValue 9).run Tryz.prog w = .ok (.string ⟨#[]⟩) w := by kernel_rfl
/-- The map of what stood ahead, at the six names: below i with the paper, from i on without it. -/
def AheadS (needs : List Nd) (ahead : List Pap) (d : Pap) (i : Nat) (S : Value → Option Value) : Prop :=
  ∀ j, j < 6 → S (.string (alikeB j)) = ((if j < i then aheadF needs (ahead ++ [d]) (alikeB j) else aheadF needs ahead (alikeB j)).map Value.string)
theorem ahead_snoc (needs : List Nd) (d : Pap) (s : ByteArray) : ∀ l : List Pap, aheadF needs (l ++ [d]) s = match aheadF needs l s with | some v => some v | none => if askedB needs d.kind then getF d.fields s else none
  | [] => by
    simp only [List.nil_append, aheadF]
    cases (if askedB needs d.kind then getF d.fields s else none) <;> rfl
  | x :: l => by
    simp only [List.cons_append, aheadF]
    cases (if askedB needs x.kind then getF x.fields s else none) with
    | some v => rfl
    | none => exact ahead_snoc needs d s l
theorem alikeB_inj {i j : Nat} (hi : i < 6) (hj : j < 6) (h : alikeB i = alikeB j) : i = j := by
  have h' : alikeL i = alikeL j := by
    have := congrArg (fun b : ByteArray => b.data.toList) h
    simpa [alikeB, mkB] using this
  revert h'
  match i, j, hi, hj with
  | 0, 0, _, _ => simp
  | 0, 1, _, _ => decide
  | 0, 2, _, _ => decide
  | 0, 3, _, _ => decide
  | 0, 4, _, _ => decide
  | 0, 5, _, _ => decide
  | 1, 0, _, _ => decide
  | 1, 1, _, _ => simp
  | 1, 2, _, _ => decide
  | 1, 3, _, _ => decide
  | 1, 4, _, _ => decide
  | 1, 5, _, _ => decide
  | 2, 0, _, _ => decide
  | 2, 1, _, _ => decide
  | 2, 2, _, _ => simp
  | 2, 3, _, _ => decide
  | 2, 4, _, _ => decide
  | 2, 5, _, _ => decide
  | 3, 0, _, _ => decide
  | 3, 1, _, _ => decide
  | 3, 2, _, _ => decide
  | 3, 3, _, _ => simp
  | 3, 4, _, _ => decide
  | 3, 5, _, _ => decide
  | 4, 0, _, _ => decide
  | 4, 1, _, _ => decide
  | 4, 2, _, _ => decide
  | 4, 3, _, _ => decide
  | 4, 4, _, _ => simp
  | 4, 5, _, _ => decide
  | 5, 0, _, _ => decide
  | 5, 1, _, _ => decide
  | 5, 2, _, _ => decide
  | 5, 3, _, _ => decide
  | 5, 4, _, _ => decide
  | 5, 5, _, _ => simp
section
variable {needs : List Nd} {ahead : List Pap} {d : Pap} {i : Nat} {S : Value → Option Value}
theorem AheadS.at_ (h : AheadS needs ahead d i S) (hi : i < 6) : S (.string (alikeB i)) = (aheadF needs ahead (alikeB i)).map Value.string := by
  have := h i hi
  rw [if_neg (by omega)] at this
  exact this
/-- Nothing is put: the paper has not the field, or another one ahead has it. -/
theorem AheadS.same (h : AheadS needs ahead d i S) (hq : aheadF needs (ahead ++ [d]) (alikeB i) = aheadF needs ahead (alikeB i)) : AheadS needs ahead d (i + 1) S := by
  intro j hj
  rw [h j hj]
  by_cases h1 : j < i
  · rw [if_pos h1, if_pos (by omega)]
  · by_cases h2 : j = i
    · subst h2; rw [if_neg (by omega), if_pos (by omega), hq]
    · rw [if_neg h1, if_neg (by omega)]
open Classical in
theorem AheadS.put (h : AheadS needs ahead d i S) (hi : i < 6) {v : ByteArray} (hq : aheadF needs (ahead ++ [d]) (alikeB i) = some v) : AheadS needs ahead d (i + 1) (fun y => if y = .string (alikeB i) then some (.string v) else S y) := by
  intro j hj
  show (if Value.string (alikeB j) = .string (alikeB i) then some (.string v) else S (.string (alikeB j))) = _
  by_cases h2 : j = i
  · subst h2
    rw [if_pos rfl, if_pos (by omega), hq]; rfl
  · rw [if_neg (fun e => h2 (alikeB_inj hj hi (by simpa using e))), h j hj]
    by_cases h1 : j < i
    · rw [if_pos h1, if_pos (by omega)]
    · rw [if_neg h1, if_neg (by omega)]
end
theorem othersF_snoc (needs : List Nd) (ahead : List Pap) (a : Int) (d : Pap) (i : Nat) : (List.range (i + 1)).flatMap (otherF needs ahead a d) = (List.range i).flatMap (otherF needs ahead a d) ++ otherF needs ahead a d i := by
  rw [List.range_succ]; simp
theorem otherF_le (needs : List Nd) (ahead : List Pap) (a : Int) (d : Pap) (i : Nat) : (otherF needs ahead a d i).length ≤ 1 := by
  unfold otherF
  split
  · simp
  · split
    · simp
    · split <;> simp
theorem others_len (needs : List Nd) (ahead : List Pap) (a : Int) (d : Pap) (i : Nat) : ((List.range i).flatMap (otherF needs ahead a d)).length ≤ i := by
  have := flat_le _ (otherF_le needs ahead a d) (List.range i)
  simpa using this
theorem alikeB_size (i : Nat) (h : i < 6) : (alikeB i).size ≤ 10 := by
  match i, h with
  | 0, _ => decide
  | 1, _ => decide
  | 2, _ => decide
  | 3, _ => decide
  | 4, _ => decide
  | 5, _ => decide
theorem keyS {s : ByteArray} (h : s.size ≤ maxLen) : ∃ kl, keyOf Tryz.prog 9 (.string s) = some kl := by
  rw [keyOf_string Tryz.underlying9]
  simp [mapKey, Tryz.underlying9, h]
/-- The frame of others: besides what tellings turn, the map of what stood ahead. -/
def TldM (B cf bm am : Nat) (w w' : World) : Prop := ButS (fun g => TS B cf bm w g ∨ g = am) w w'
section
variable {w0 : World} {B ct cf bm xb am : Nat} {X : Array Value} {a b c w w' : World} {v : Value} {l : List Flt}
theorem TldM.of (h : Tld B cf bm w w') : TldM B cf bm am w w' := ⟨h.os, h.tape, h.output, h.size, fun k hk hs => h.block k hk (fun e => hs (.inl e))⟩
theorem TldM.size (h : TldM B cf bm am w w') : w.heap.size ≤ w'.heap.size := ButS.size h
theorem TldM.put (hg : w.grownBy w' (some am)) : TldM B cf bm am w w' := ⟨hg.os, hg.tape, hg.output, hg.size, fun k hk hs => hg.block k hk (fun e => hs (.inr (by simpa using e)))⟩
theorem TldM.trans (h : TldM B cf bm am a b) (k : TldM B cf bm am b c) : TldM B cf bm am a c :=
  ⟨k.os.trans h.os, k.tape.trans h.tape, k.output.trans h.output, Nat.le_trans h.size k.size, fun i hi hs => by
    have e := h.block i hi hs
    refine (k.block i (Nat.lt_of_lt_of_le hi h.size) ?_).trans e
    rintro (⟨h1, h2⟩ | h2)
    · refine hs (.inl ⟨h1, ?_⟩)
      rcases h2 with h2 | h2 | ⟨cs, fr, h2⟩
      · exact .inl h2
      · exact .inr (.inl h2)
      · exact .inr (.inr ⟨cs, fr, by rw [← e]; exact h2⟩)
    · exact hs (.inr h2)⟩
theorem ExS.keepXM (h : ExS w0 ct cf bm xb X w v l) (ht : TldM w0.heap.size cf bm am w w') {k e : TypeId} {b n : Nat} {z : Value} {S : Value → Option Value} (hm : MapFn w Tryz.prog k e b n z S) (hne : b ≠ bm) (h3 : b ≠ am) : MapFn w' Tryz.prog k e b n z S :=
  ButS.map ht hm (by
    rintro (⟨_, e | e | ⟨cs', fr, e⟩⟩ | e)
    · exact hne e
    · exact blk_map_ne h.tell.fc hm e
    · obtain ⟨D, zd, ⟨es, clock, hh, _⟩, _⟩ := hm
      rw [hh] at e; cases e
    · exact h3 e)
theorem ExS.put {k e : TypeId} {b n : Nat} {z : Value} {S : Value → Option Value} (h : ExS w0 ct cf bm xb X w v l) (hm : MapFn w Tryz.prog k e b n z S) (hne : b ≠ bm) (hB : w0.heap.size ≤ b) (hg : w.grownBy w' (some b)) : ExS w0 ct cf bm xb X w' v l :=
  ⟨⟨h.tell.map.kept hg (by simpa using Ne.symm hne), h.tell.tc.kept hg (by simpa using blk_map_ne h.tell.tc hm), h.tell.fc.kept hg (by simpa using blk_map_ne h.tell.fc hm), h.tell.row.kept hg (.inr (own_map_ne h.tell.row hm).symm), h.tell.base⟩,
    h.exam.kept hg (by simpa using blk_map_ne h.exam hm), h.below.grown hg h.below.size (fun k hk => by simp at hk; omega)⟩
end
theorem index69 (q : Nat) (hq : q < 6) (w : World) : (Instr.index 143 (.agg #[.string (alikeB 0), .string (alikeB 1), .string (alikeB 2), .string (alikeB 3), .string (alikeB 4), .string (alikeB 5)]) (.int .i64 q)).run Tryz.prog w = .ok (.string (alikeB q)) w := by
  obtain rfl | rfl | rfl | rfl | rfl | rfl : q = 0 ∨ q = 1 ∨ q = 2 ∨ q = 3 ∨ q = 4 ∨ q = 5 := by omega
  all_goals kernel_rfl
end Go.Proofs.YtdjmckjbibfecaaGreatDoor

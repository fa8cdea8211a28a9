/- core.whole; the second closure of core.Least. -/
import Derived.Shelf.Strings.Builder1
import Derived.Shelf.Strings.BuilderF
import Derived.Shelf.Strings.BuilderK
import Derived.Test.YtdjmckjbibfecaaGreatDoorProg
import Derived.Test.YtdjmckjbibfecaaGreatDoorHa
import Derived.Test.YtdjmckjbibfecaaGreatDoorMa
import Derived.Test.YtdjmckjbibfecaaGreatDoorWg
import Derived.Test.YtdjmckjbibfecaaGreatDoorWh
namespace Go.Proofs.YtdjmckjbibfecaaGreatDoor
open Go

section
variable {t : Tree} {stn : Nat → Nat} (h3 : ∀ i, stn i < 3)
include h3
end
end Go.Proofs.YtdjmckjbibfecaaGreatDoor
namespace Go.Proofs.YtdjmckjbibfecaaGreatDoor
open Go Go.RowKit Go.BigFrame Go.Maps

theorem run_make_hint {P : Program} {t k e : TypeId} (ht : P.underlying t = some (.map k e)) (n : Int) (w : World) : (Instr.makeMap t (some (.int .i64 n))).run P w = .ok (.map (some w.heap.size)) (w.alloc (.map #[] 0)) := by
  simp [Instr.makeMap, run_underlying ht, Result.andThen, asInt, go_sem]
theorem told_any (l : List Flt) (f : Flt) : (toldF l f.agg).getD (.bool false) = .bool (anyB l f) := by
  rw [told_get]
  congr 1
  rw [Bool.eq_iff_iff, anyB_iff]
  simp
theorem toldF_nil : toldF [] = fun _ => none := by funext x; simp [toldF]
theorem take_one {l : List Flt} {q : Nat} {x : Flt} (hx : l[q]? = some x) : l.take (q + 1) = l.take q ++ [x] := by
  obtain ⟨h, e⟩ := List.getElem?_eq_some_iff.1 hx
  rw [List.take_succ_eq_append_getElem h, e]
theorem fcells_snoc1 (l : List Flt) (x : Flt) : fcells (l ++ [x]) = fcells l ++ (#[.int .i64 x.paper, .int .i64 x.kind, .string x.field, .int .i64 x.why] : Array Value).toList := by simp [fcells, Flt.cells]
theorem one4 (x : Flt) : ∀ u ∈ (#[.int .i64 x.paper, .int .i64 x.kind, .string x.field, .int .i64 x.why] : Array Value).toList, u.oneCell' = true := by
  intro u hu
  simp at hu
  rcases hu with rfl | rfl | rfl | rfl <;> rfl
theorem waive_le (l w : List Flt) : (waiveM l w).length ≤ l.length := List.length_filter_le _ _
set_option maxRecDepth 100000 in
set_option maxHeartbeats 3200000 in
theorem waive_any (A A' : Option Addr) (n c n' c' : Nat) (l m : List Flt) (w : World) (hl : Hid (l.length = n)) (hm : Hid (m.length = n')) (hn : n ≤ 100000) (hn' : n' ≤ 100000) (hA : Hid (FaultsAt w A l)) (hA' : Hid (FaultsAt w A' m)) (hfl : Hid (∀ x ∈ l, x.fits)) (hfm : Hid (∀ x ∈ m, x.fits)) :
    Calls Tryz.prog 23 #[.slice A n c, .slice A' n' c'] w fun e w' => ∃ v, e = .returned v ∧ w'.ownsRow w.heap.size 54 4 v (waiveM l m).length (fcells (waiveM l m)) ∧ Below w.heap.size w w' := by
  obtain ⟨iF, iFi, iF0, iF1, iF2⟩ := info_parts Tryz.info54
  obtain ⟨w1, hw1⟩ : ∃ X, Hid (w.alloc (.map #[] 0) = X) := ⟨_, rfl⟩
  have hb1 : Hid (Below w.heap.size w w1) := by rw [← hw1.out]; exact (Below.refl _ w).alloc (Nat.le_refl _) _
  have hM1 : Hid (MapFn w1 Tryz.prog 54 4 w.heap.size 0 (.bool false) (toldF (m.take 0))) := by
    unfold Hid
    rw [← hw1.out, List.take_zero, toldF_nil]
    exact MapFn.made w Tryz.prog 54 4 (plainElem_bool Tryz.underlying4 false)
  have hmk := run_make_hint (P := Tryz.prog) Tryz.underlying90 (n' : Int) w
  go_enter Tryz.func23, Tryz.ntmps23
  go_wp2_with (rw [hw1.out])
  clear hmk
  go_loopw [16] (fun i wr => ∃ q : Nat, q ≤ n' ∧ i = .int .i64 q ∧ Hid (MapFn wr Tryz.prog 54 4 w.heap.size q (.bool false) (toldF (m.take q))) ∧ Hid (Below w.heap.size w wr)) (fun i _ => n' - (intOf i).toNat)
  case atStart => exact ⟨0, Nat.zero_le _, rfl, hM1, hb1⟩
  case round =>
    obtain ⟨q, hq, rfl, hM, hB⟩ := hrel
    by_cases hlt : q < n'
    · as_aux_lemma =>
      obtain ⟨x, hx⟩ : ∃ x, m[q]? = some x := ⟨_, List.getElem?_eq_getElem (by have := hm.out; omega)⟩
      obtain ⟨b, off, rfl, x0, x1, x2, x3⟩ := (hA'.out.below hB.out) q x hx
      have hfx := hfm.out x (List.mem_of_getElem? hx)
      obtain ⟨kl, hkl⟩ := keyF x hfx
      have hkl' := Lib.hid hkl
      have htk := Lib.hid (take_one hx)
      have i1 : (q : Int) < (n' : Int) := by omega
      have i2 : (0 : Int) ≤ (q : Int) := by omega
      have hkm : decide (q < n') = true := decide_eq_true hlt
      obtain ⟨w5, hw5⟩ : ∃ X, Hid (wr.alloc (.cells #[.int .i64 x.paper, .int .i64 x.kind, .string x.field, .int .i64 x.why] 54) = X) := ⟨_, rfl⟩
      have hb5 : Hid (Below wr.heap.size wr w5) := by rw [← hw5.out]; exact (Below.refl _ wr).alloc (Nat.le_refl _) _
      have hN5 : Hid (Blk w5 wr.heap.size 54 #[.int .i64 x.paper, .int .i64 x.kind, .string x.field, .int .i64 x.why]) := by rw [← hw5.out]; exact Lib.hid (Blk.new _ _ _)
      have hM5 := Lib.hid (hM.out.below hb5.out hM.out.lt)
      have hB5 : Hid (Below w.heap.size w w5) := hB.out.trans (hb5.out.mono hB.out.size)
      have r0 : w5.cell? ⟨wr.heap.size, 0, none⟩ = some (.int .i64 x.paper) := hN5.out.cell 0
      have r1 : w5.cell? ⟨wr.heap.size, 1, none⟩ = some (.int .i64 x.kind) := hN5.out.cell 1
      have r2 : w5.cell? ⟨wr.heap.size, 2, none⟩ = some (.string x.field) := hN5.out.cell 2
      have r3 : w5.cell? ⟨wr.heap.size, 3, none⟩ = some (.int .i64 x.why) := hN5.out.cell 3
      have hn9 : Hid (q < maxLen) := by unfold Hid maxLen; omega
      clear hx hfx hkl
      go_wp2_with (first | rw [hw5.out] | (at_mapUpdate; go_must (refine wpList_put _ rfl _ _ _ 90 rfl keyed40 Tryz.underlying90 w.heap.size q rfl hM5.out hn9.out x.agg (.bool true) kl rfl rfl hkl'.out (plainElem_bool Tryz.underlying4 true) ?_); intro w6 hm6 hg6))
      have hM6 := Lib.hid hm6
      have hB6 : Hid (Below w.heap.size w w6) := Lib.hid (hB5.out.grown hg6 hB5.out.size (fun j hj => by cases hj; exact Nat.le_refl _))
      clear hm6 hg6
      go_roundw
      case rel => exact ⟨q + 1, by omega, by go_num, by unfold Hid; rw [htk.out, ← told_put]; exact hM6.out, hB6⟩
      case measure => simp [intOf]; omega
    · have hkm : decide (q < n') = false := decide_eq_false hlt
      have hqm : n' = q := by omega
      subst hqm
      have htm : m.take n' = m := List.take_of_length_le (by rw [hm.out]; exact Nat.le_refl _)
      rw [htm] at hM
      clear hM1 hb1 htm
      go_wp2_with fail
      go_loopw [8, 25] (fun v i wr => ∃ q : Nat, q ≤ n ∧ i = .int .i64 q ∧ Hid (wr.ownsRow w.heap.size 54 4 v (waiveM (l.take q) m).length (fcells (waiveM (l.take q) m))) ∧ Hid (MapFn wr Tryz.prog 54 4 w.heap.size n' (.bool false) (toldF m)) ∧ Hid (Below w.heap.size w wr)) (fun _ i _ => n - (intOf i).toNat)
      case atStart => exact ⟨0, Nat.zero_le _, rfl, own_none _ _ _ _, hM, hB⟩
      case round =>
        clear hM hB
        obtain ⟨q, hq, rfl, hown, hM, hB⟩ := hrel
        by_cases hlt : q < n
        · as_aux_lemma =>
          obtain ⟨x, hx⟩ : ∃ x, l[q]? = some x := ⟨_, List.getElem?_eq_getElem (by have := hl.out; omega)⟩
          obtain ⟨b, off, rfl, x0, x1, x2, x3⟩ := (hA.out.below hB.out) q x hx
          obtain ⟨kl, hkl⟩ := keyF x (hfl.out x (List.mem_of_getElem? hx))
          have hsn := waive_snoc (w := m) hx
          have hle := waive_le (l.take q) m
          have hle2 : (l.take q).length ≤ q := by rw [List.length_take]; omega
          obtain ⟨F, hF⟩ : ∃ F, waiveM (l.take q) m = F := ⟨_, rfl⟩
          rw [hF] at hown hsn hle
          obtain ⟨k, hk⟩ : ∃ k, F.length = k := ⟨_, rfl⟩
          rw [hk] at hown hle
          have hk' := Lib.hid hk
          have i1 : (q : Int) < (n : Int) := by omega
          have i2 : (0 : Int) ≤ (q : Int) := by omega
          have hkm : decide (q < n) = true := decide_eq_true hlt
          obtain ⟨w5, hw5⟩ : ∃ X, Hid (wr.alloc (.cells #[.int .i64 x.paper, .int .i64 x.kind, .string x.field, .int .i64 x.why] 54) = X) := ⟨_, rfl⟩
          have hb5 : Hid (Below wr.heap.size wr w5) := by rw [← hw5.out]; exact (Below.refl _ wr).alloc (Nat.le_refl _) _
          have hN5 : Hid (Blk w5 wr.heap.size 54 #[.int .i64 x.paper, .int .i64 x.kind, .string x.field, .int .i64 x.why]) := by rw [← hw5.out]; exact Lib.hid (Blk.new _ _ _)
          have hM5 := Lib.hid (hM.out.below hb5.out hM.out.lt)
          have hown5 := Lib.hid (own_below hown.out hb5.out)
          have hB5 : Hid (Below w.heap.size w w5) := hB.out.trans (hb5.out.mono hB.out.size)
          have r0 : w5.cell? ⟨wr.heap.size, 0, none⟩ = some (.int .i64 x.paper) := hN5.out.cell 0
          have r1 : w5.cell? ⟨wr.heap.size, 1, none⟩ = some (.int .i64 x.kind) := hN5.out.cell 1
          have r2 : w5.cell? ⟨wr.heap.size, 2, none⟩ = some (.string x.field) := hN5.out.cell 2
          have r3 : w5.cell? ⟨wr.heap.size, 3, none⟩ = some (.int .i64 x.why) := hN5.out.cell 3
          have hlk := hM5.out.look keyed40 Tryz.underlying90 (zero4 _) hkl
          rw [told_any] at hlk
          obtain ⟨B9, hB9⟩ : ∃ b, anyB m x = b := ⟨_, rfl⟩
          rw [hB9] at hlk hsn
          have hsn' := Lib.hid hsn
          clear hx hkl hsn hF hk hB9
          cases B9 with
          | true =>
            go_wp2_with (rw [hw5.out])
            go_roundw
            case rel => exact ⟨q + 1, by omega, by go_num, by unfold Hid; rw [hsn'.out, if_pos rfl, List.append_nil, hk'.out]; exact hown5.out, hM5, hB5⟩
            case measure => simp [intOf]; omega
          | false =>
            obtain ⟨w6, hw6⟩ : ∃ X, Hid (w5.alloc (.cells #[.int .i64 x.paper, .int .i64 x.kind, .string x.field, .int .i64 x.why] 54) = X) := ⟨_, rfl⟩
            have hb6 : Hid (Below w5.heap.size w5 w6) := by rw [← hw6.out]; exact (Below.refl _ w5).alloc (Nat.le_refl _) _
            have hblk : Hid (Reads w6 w6.heap.size 4 (some ⟨w5.heap.size, 0, none⟩) 1 (#[.int .i64 x.paper, .int .i64 x.kind, .string x.field, .int .i64 x.why] : Array Value).toList) := by rw [← hw6.out]; exact Lib.hid (blk_reads (Blk.new w5 54 #[.int .i64 x.paper, .int .i64 x.kind, .string x.field, .int .i64 x.why]) 4 1 rfl)
            have hown6 := Lib.hid (own_below hown5.out hb6.out)
            have hM6 := Lib.hid (hM5.out.below hb6.out hM5.out.lt)
            have hB6 : Hid (Below w.heap.size w w6) := hB5.out.trans (hb6.out.mono hB5.out.size)
            have s1 : Hid (k + 1 ≤ maxLen) := by unfold Hid maxLen; omega
            have s2 : Hid ((k + 1) * 40 ≤ 140737488355328) := by unfold Hid; omega
            have s3 := Lib.hid hB6.out.size
            have s4 := Lib.hid (one4 x)
            go_wp2_with (first | rw [hw5.out, hw6.out] | rw [hw5.out] | rw [hw6.out] | (at_builtin; go_must (refine wpList_append_any _ rfl _ _ 47 rfl w.heap.size 54 iF _ 4 40 Tryz.underlying47 iFi iF0 iF1 iF2 rfl (by decide) _ k (fcells F) rfl hown6.out _ (some ⟨w5.heap.size, 0, none⟩) 1 1 (#[.int .i64 x.paper, .int .i64 x.kind, .string x.field, .int .i64 x.why] : Array Value).toList rfl hblk.out s4.out s1.out s2.out s3.out ?_); intro v8 w8 ho8 hg8 hv8; have ho8' := Lib.hid ho8; have hM8 := Lib.hid (hM6.out.kept hg8 (own_map_ne hown6.out hM6.out)); have hB8 := Lib.hid (hB6.out.grown hg8 s3.out (fun j hj => (hown6.out.lt j hj).1)); clear ho8 hg8 hv8))
            go_roundw
            case rel => exact ⟨q + 1, by omega, by go_num, by unfold Hid; rw [hsn'.out, if_neg (by decide), List.length_append, hk'.out, fcells_snoc1]; exact ho8'.out, hM8, hB8⟩
            case measure => simp [intOf]; omega
        · have hkm : decide (q < n) = false := decide_eq_false hlt
          have hqn : n = q := by omega
          subst hqn
          rw [List.take_of_length_le (by rw [hl.out]; exact Nat.le_refl _)] at hown
          go_wp2_with fail
          go_ret
          exact ⟨_, rfl, hown.out, hB.out⟩
end Go.Proofs.YtdjmckjbibfecaaGreatDoor
namespace Go.Proofs.YtdjmckjbibfecaaGreatDoor
open Go Go.RowKit Go.BigFrame Go.Maps

/-- What the examining of papers tells, wherever it is called. -/
structure ExamC (w : World) (C : Array Value) (A : Option Addr) (nn cc : Nat) (day : Int) (L : List Flt) : Prop where
  prog : ∀ W, Below w.heap.size w W → Calls Tryz.prog 21 #[.agg C, .slice A nn cc, .int .i64 day] W (FaultedC W L)
  size : (Tryz.prog.info? 46).map (·.size) = some C.size
  len : L.length ≤ 20000
  fits : ∀ x ∈ L, x.fits
theorem ExamC.at_ {w w' : World} {C : Array Value} {A : Option Addr} {nn cc : Nat} {day : Int} {L : List Flt} (h : ExamC w C A nn cc day L) (hb : Below w.heap.size w w') : ExamC w' C A nn cc day L :=
  ⟨fun W hW => h.prog W (hb.trans (hW.mono hb.size)), h.size, h.len, h.fits⟩
/-- Few, and no day too far. -/
def fewDay (needs : List Nd) (docs : List Pap) (day : Int) : Bool := fewB needs docs && (decide (-1073741824 ≤ day) && decide (day ≤ 1073741824))
set_option maxRecDepth 100000 in
theorem few5_any (C : Array Value) (nA : Option Addr) (nl nc : Nat) (needs : List Nd) (A : Option Addr) (nn cc : Nat) (docs : List Pap) (day : Int) (w : World) (hCz : Hid (C.size = 18)) (hC17 : C[17]? = some (.slice nA nl nc)) (hnl : Hid (needs.length = nl)) (hnn : Hid (docs.length = nn)) (hml : nl ≤ maxLen) (hmn : nn ≤ maxLen) (hN : Hid (NdsAt w nA needs)) (hD : Hid (DocsAt w A docs)) (hLD : Hid (LongD docs)) :
    Calls Tryz.prog 20 #[.agg C, .slice A nn cc, .int .i64 day] w fun e w' => e = .returned (.bool (fewDay needs docs day)) ∧ Below w.heap.size w w' := by
  have hsz : Hid ((Tryz.prog.info? 46).map (·.size) = some C.size) := by unfold Hid; rw [hCz.out]; kernel_rfl
  obtain ⟨w1, hw1⟩ : ∃ X, Hid (w.alloc (.cells C 46) = X) := ⟨_, rfl⟩
  have hb1 : Hid (Below w.heap.size w w1) := by rw [← hw1.out]; exact (Below.refl _ w).alloc (Nat.le_refl _) _
  have hbk : Hid (Blk w1 w.heap.size 46 C) := by rw [← hw1.out]; exact Lib.hid (Blk.new _ _ _)
  have hfew := Lib.hid (few_any C nA nl nc needs A nn cc docs w1 hCz hC17 hnl hnn hml hmn (Lib.hid (hN.out.below hb1.out)) (Lib.hid (hD.out.below hb1.out)) hLD)
  obtain ⟨R, hR⟩ : ∃ R, Hid (fewDay needs docs day = R) := ⟨_, rfl⟩
  obtain ⟨F, hF⟩ : ∃ F, fewB needs docs = F := ⟨_, rfl⟩
  have hRe : Hid (R = (F && (decide (-1073741824 ≤ day) && decide (day ≤ 1073741824)))) := by unfold Hid; rw [← hR.out, fewDay, hF]
  rw [hF] at hfew
  rw [hR.out]
  clear hF hR
  go_enter Tryz.func20, Tryz.ntmps20
  go_wp2_with (first | rw [hw1.out] | (refine wpList_load_blk rfl 46 (.tmp 3) rfl w.heap.size C 46 _ rfl hbk.out Tryz.underlying46 rfl hsz.out ?_))
  refine hfew.out.mono ?_
  rintro e w2 ⟨rfl, hb2⟩
  have hB2 : Hid (Below w.heap.size w w2) := hb1.out.trans (hb2.mono hb1.out.size)
  clear hb2 hfew
  cases F with
  | false =>
    go_wp2_with fail
    go_ret
    exact ⟨by rw [hRe.out]; rfl, hB2.out⟩
  | true =>
    by_cases h1 : -1073741824 ≤ day
    · have d1 : decide (-1073741824 ≤ day) = true := decide_eq_true h1
      by_cases h2 : day ≤ 1073741824
      · have d2 : decide (day ≤ 1073741824) = true := decide_eq_true h2
        have hR1 : Hid (R = true) := by unfold Hid; rw [hRe.out, d1, d2]; rfl
        go_wp2_with fail
        go_ret
        exact ⟨by rw [hR1.out]; rfl, hB2.out⟩
      · have d2 : decide (day ≤ 1073741824) = false := decide_eq_false h2
        have hR1 : Hid (R = false) := by unfold Hid; rw [hRe.out, d1, d2]; rfl
        go_wp2_with fail
        go_ret
        exact ⟨by rw [hR1.out]; rfl, hB2.out⟩
    · have d1 : decide (-1073741824 ≤ day) = false := decide_eq_false h1
      have hR1 : Hid (R = false) := by unfold Hid; rw [hRe.out, d1]; rfl
      go_wp2_with fail
      go_ret
      exact ⟨by rw [hR1.out]; rfl, hB2.out⟩
end Go.Proofs.YtdjmckjbibfecaaGreatDoor
namespace Go.Proofs
open Go.Shelf
end Go.Proofs
namespace Go.Proofs.YtdjmckjbibfecaaGreatDoor
open Go Go.RowKit Go.BigFrame Go.Maps

abbrev Bld (w : World) (B b : Nat) (acc : List UInt8) : Prop := Lib.IsBuilderF 115 5 B b (Lib.byteCells acc) w
theorem ownF_below {w w' : World} {B : Nat} {e : TypeId} {size n : Nat} {v : Value} {xs : List Value} (h : w.ownsRowF B e size v n xs) (hb : Below w.heap.size w w') : w'.ownsRowF B e size v n xs :=
  h.kept (row := none) ⟨hb.os, hb.tape, hb.output, hb.size, fun k hk _ => hb.block k hk⟩ (by
    rcases hv : v.ownBlock with _ | k
    · exact .inl rfl
    · exact .inr (by simp))
theorem builderAt_below {w w' : World} {T e : TypeId} {B b : Nat} {p : Value} {bs : List Value} (h : Lib.BuilderAtF T e B b p bs w) (hb : Below w.heap.size w w') : Lib.BuilderAtF T e B b p bs w' := by
  obtain ⟨hB, v, hv, ho, hne⟩ := h
  have hlt : b < w.heap.size := by
    rcases Nat.lt_or_ge b w.heap.size with h | h
    · exact h
    · rw [Array.getElem?_eq_none h] at hv; cases hv
  exact ⟨hB, v, (hb.block b hlt).trans hv, ownF_below ho hb, hne⟩
theorem Bld.below {w w' : World} {B b : Nat} {acc : List UInt8} (h : Bld w B b acc) (hb : Below w.heap.size w w') : Bld w' B b acc := by
  rcases h with h | h
  · exact .inl (builderAt_below h hb)
  · exact .inr (builderAt_below h hb)
theorem Bld.lt {w : World} {B b : Nat} {acc : List UInt8} (h : Bld w B b acc) : b < w.heap.size := by
  rcases h with ⟨_, v, hv, _⟩ | ⟨_, v, hv, _⟩ <;> exact (Array.getElem?_eq_some_iff.1 hv).1
end Go.Proofs.YtdjmckjbibfecaaGreatDoor
namespace Go.Proofs.YtdjmckjbibfecaaGreatDoor
open Go Go.RowKit Go.BigFrame Go.Maps

/-- A row made of given elements. -/
theorem own_fresh (w : World) (e : TypeId) (size n : Nat) (cs : Array Value) (hs : cs.size = n * size) (hn : n ≤ maxLen) : (w.alloc (.cells cs e)).ownsRow w.heap.size e size (.slice (some ⟨w.heap.size, 0, none⟩) n n) n cs.toList :=
  ⟨by simpa using hs, .inr ⟨_, n, cs, rfl, Nat.le_refl _, heap_alloc_new w _, Nat.le_refl _, hn, hs, List.take_of_length_le (by simp [hs])⟩⟩
end Go.Proofs.YtdjmckjbibfecaaGreatDoor
namespace Go.Proofs.YtdjmckjbibfecaaGreatDoor
open Go Go.RowKit Go.BigFrame Go.Maps

structure FinS (w1 W : World) (A8 : Option Addr) (c8 m : Nat) (AT : List Tree) (g7 c7 np : Nat) (ps : List Nat) (v : Value) (k : Nat) (F : List Flt) : Prop where
  below : Below w1.heap.size w1 W
  row8 : W.ownsRow w1.heap.size 24 6 (.slice A8 m c8) m (cellsL AT)
  row7 : W.ownsRow w1.heap.size 3 1 (.slice (some ⟨g7, 0, none⟩) np c7) np (natsV ps)
  out : W.ownsRow w1.heap.size 54 4 v k (fcells F)
theorem FinS.on {w1 W W' : World} {A8 : Option Addr} {c8 m : Nat} {AT : List Tree} {g7 c7 np : Nat} {ps : List Nat} {v : Value} {k : Nat} {F : List Flt} (h : FinS w1 W A8 c8 m AT g7 c7 np ps v k F) (hb : Below W.heap.size W W') : FinS w1 W' A8 c8 m AT g7 c7 np ps v k F :=
  ⟨h.below.trans (hb.mono h.below.size), own_below h.row8 hb, own_below h.row7 hb, own_below h.out hb⟩
theorem FinS.grow {w1 W W' : World} {A8 : Option Addr} {c8 m : Nat} {AT : List Tree} {g7 c7 np : Nat} {ps : List Nat} {v v' : Value} {k k' : Nat} {F F' : List Flt} (h : FinS w1 W A8 c8 m AT g7 c7 np ps v k F) (ho : W'.ownsRow w1.heap.size 54 4 v' k' (fcells F')) (hg : W.grownBy W' v.ownBlock) : FinS w1 W' A8 c8 m AT g7 c7 np ps v' k' F' :=
  ⟨h.below.grown hg h.below.size (fun j hj => (h.out.lt j hj).1), own_far h.row8 h.out hg (by decide), own_far h.row7 h.out hg (by decide), ho⟩
end Go.Proofs.YtdjmckjbibfecaaGreatDoor
namespace Go.Proofs.YtdjmckjbibfecaaGreatDoor
open Go Go.RowKit Go.BigFrame Go.Maps

end Go.Proofs.YtdjmckjbibfecaaGreatDoor
namespace Go.Proofs.YtdjmckjbibfecaaGreatDoor
open Go Go.RowKit Go.BigFrame Go.Maps

end Go.Proofs.YtdjmckjbibfecaaGreatDoor
namespace Go.Proofs.YtdjmckjbibfecaaGreatDoor
open Go Go.RowKit Go.BigFrame Go.Maps

theorem nats_cells {w : World} {B n : Nat} {e : TypeId} {A : Option Addr} {c : Nat} {l : List Nat} (h : w.ownsRow B e 1 (.slice A n c) n (natsV l)) : IntsAt w A (l.map fun (x : Nat) => (x : Int)) := by
  have e1 : natsV l = intsV (l.map fun (x : Nat) => (x : Int)) := by simp [natsV, intsV]
  rw [e1] at h
  obtain ⟨A', c', e', hI⟩ := own_ints h
  obtain ⟨rfl, _⟩ : A = A' ∧ c = c' := by simpa using e'
  exact hI
end Go.Proofs.YtdjmckjbibfecaaGreatDoor

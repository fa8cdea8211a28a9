/- core.cured: the cure of a fault. -/
import Derived.Test.YtdjmckjbibfecaaGreatDoorMf
import Derived.Test.YtdjmckjbibfecaaGreatDoorMg
namespace Go.Proofs.YtdjmckjbibfecaaGreatDoor
open Go Go.RowKit Go.BigFrame Go.Maps

theorem Cured.r {r : Option ByteArray} {w : World} {e : Ending} {w' : World} (h : Cured r w e w') : CuredR r w e w' := by
  obtain ⟨rfl, h2⟩ := h
  exact curedR (by cases r <;> rfl) h2
theorem cuX_putv {C : Array Value} {A : Option Addr} {nn cc : Nat} {day a : Int} {s v v' : ByteArray} {b : Bool} (hC : C.size = 18) : (cuX C A nn cc day a s v b).setIfInBounds 22 (.string v') = cuX C A nn cc day a s v' b := by
  obtain ⟨C⟩ := C
  have hl : C.length = 18 := hC
  unfold cuX
  simp only [List.append_toArray, List.setIfInBounds_toArray]
  rw [List.set_append_right _ _ (by omega), hl]
  rfl
theorem cuX_putb {C : Array Value} {A : Option Addr} {nn cc : Nat} {day a : Int} {s v : ByteArray} {b b' : Bool} (hC : C.size = 18) : (cuX C A nn cc day a s v b).setIfInBounds 23 (.bool b') = cuX C A nn cc day a s v b' := by
  obtain ⟨C⟩ := C
  have hl : C.length = 18 := hC
  unfold cuX
  simp only [List.append_toArray, List.setIfInBounds_toArray]
  rw [List.set_append_right _ _ (by omega), hl]
  rfl
/-- The first one that is there. -/
def firstOf : List (Option ByteArray) → Option ByteArray
  | [] => none
  | r :: l => r.or (firstOf l)
theorem cureD_first (c : Crd) (needs : List Nd) (docs : List Pap) (day : Int) (a : Nat) (d : Pap) (s : ByteArray) : cureD c needs docs day a d s = firstOf [partyM c d s, sumM c d s, issuedM c day d s, partM needs docs d s, otherM needs (docs.take a) d s] := by
  unfold cureD firstOf firstOf firstOf firstOf firstOf firstOf
  rw [Option.or_none]
/-- The five ways. -/
def cureF (q : Nat) : Nat := if q = 0 then 119 else if q = 1 then 120 else if q = 2 then 121 else if q = 3 then 122 else 123
theorem cureF_enters (q : Nat) : ∀ (args : Array Value) (w : World), (callFunc (cureF q) args).run Tryz.prog w = .ok (.enter (cureF q) args) w := by
  unfold cureF
  split
  · exact enters_of Tryz.func119 (by kernel_rfl) rfl
  · split
    · exact enters_of Tryz.func120 (by kernel_rfl) rfl
    · split
      · exact enters_of Tryz.func121 (by kernel_rfl) rfl
      · split
        · exact enters_of Tryz.func122 (by kernel_rfl) rfl
        · exact enters_of Tryz.func123 (by kernel_rfl) rfl
theorem small_getV {docs : List Pap} {a : Nat} {d : Pap} {s : ByteArray} (hs : SmallD docs) (hd : docs[a]? = some d) : (getV d.fields s).size ≤ 4000000 := by
  unfold getV
  cases hg : getF d.fields s with
  | none => exact Nat.zero_le _
  | some v => exact small_get hs hd hg
theorem But.ofB {z : Nat} {a b : World} (h : Below a.heap.size a b) : But z a b := ⟨h.os, h.tape, h.output, h.size, fun k hk _ => h.block k hk⟩
theorem But.trans_ {z : Nat} {a b c : World} (h : But z a b) (k : But z b c) : But z a c :=
  ⟨k.os.trans h.os, k.tape.trans h.tape, k.output.trans h.output, Nat.le_trans h.size k.size, fun i hi hz => (k.block i (Nat.lt_of_lt_of_le hi h.size) hz).trans (h.block i hi hz)⟩
theorem len18c {α : Type} {l : List α} (h : l.length = 18) : ∃ a b c d e f g i j k m n o p q r s t, l = [a, b, c, d, e, f, g, i, j, k, m, n, o, p, q, r, s, t] := by
  match l, h with
  | [a, b, c, d, e, f, g, i, j, k, m, n, o, p, q, r, s, t], _ => exact ⟨a, b, c, d, e, f, g, i, j, k, m, n, o, p, q, r, s, t, rfl⟩
set_option maxRecDepth 100000 in
set_option maxHeartbeats 6400000 in
theorem cured_any (C : Array Value) (c : Crd) (hC : Hid (CrdAt C c)) (hO : Hid c.okC) (nA : Option Addr) (nl nc : Nat) (needs : List Nd) (hC17 : Hid (C[17]? = some (.slice nA nl nc))) (hnl : Hid (needs.length = nl)) (hl12 : nl ≤ 1000) (A : Option Addr) (nn cc : Nat) (hcap : nn ≤ cc) (docs : List Pap) (day : Int) (hday : Hid (-9223372036854775808 ≤ day ∧ day ≤ 9223372036854775807)) (f : Flt) (w : World)
    (hN : Hid (NdsAt w nA needs)) (hR : Hid (Room w A nn docs)) (hal : Hid (AlikeC w)) (hnum : Hid (∀ d, ∀ t ∈ failL needs docs d, t.text.size ≤ 4000000 ∧ (-9223372036854775808 ≤ t.num ∧ t.num ≤ 9223372036854775807))) :
    Calls Tryz.prog 72 #[.agg C, .slice A nn cc, .int .i64 day, f.agg] w (CuredR (cureM c needs docs day f) w) := by
  have hnn := hR.out.most
  have hlen := Lib.hid hR.out.len
  have hCz := Lib.hid hC.out.size
  have hsz : Hid ((Tryz.prog.info? 46).map (·.size) = some C.size) := by unfold Hid; rw [hCz.out]; kernel_rfl
  obtain ⟨fp, fk, ff, fw⟩ := f
  have hP : Hid (cureM c needs docs day ⟨fp, fk, ff, fw⟩ = if 0 ≤ fp ∧ ff.toList ≠ [] then (docs[fp.toNat]?).bind fun d => cureD c needs docs day fp.toNat d ff else none) := rfl
  obtain ⟨P, hPd⟩ : ∃ z, Hid (cureM c needs docs day ⟨fp, fk, ff, fw⟩ = z) := ⟨_, rfl⟩
  rw [hPd.out] at hP ⊢
  simp only [Flt.agg]
  clear hPd
  obtain ⟨w1, hw1⟩ : ∃ X, Hid ((w.alloc (.cells C 46)).alloc (.cells #[.int .i64 fp, .int .i64 fk, .string ff, .int .i64 fw] 54) = X) := ⟨_, rfl⟩
  have hs1 : (w.alloc (.cells C 46)).heap.size = w.heap.size + 1 := by simp
  have hb1 : Hid (Below w.heap.size w w1) := by
    rw [← hw1.out]
    have h1 := (Below.refl w.heap.size w).alloc (Nat.le_refl _) (.cells C 46)
    exact h1.alloc h1.size _
  have hK1 : Hid (Blk w1 w.heap.size 46 C) := by rw [← hw1.out]; exact Lib.hid ((Blk.new _ _ _).alloc _)
  have hF1 : Hid (Blk w1 (w.heap.size + 1) 54 #[.int .i64 fp, .int .i64 fk, .string ff, .int .i64 fw]) := by rw [← hw1.out, ← hs1]; exact Lib.hid (Blk.new _ _ _)
  obtain ⟨gf, hgf⟩ : ∃ z, Hid (w.heap.size + 1 = z) := ⟨_, rfl⟩
  rw [hgf.out] at hF1 hs1
  have e1 : w.heap.size + 1 = gf := hgf.out
  have r0 : w1.cell? ⟨gf, 0, none⟩ = some (.int .i64 fp) := hF1.out.cell 0
  have r2 : w1.cell? ⟨gf, 2, none⟩ = some (.string ff) := hF1.out.cell 2
  by_cases h0 : 0 ≤ fp
  · by_cases h1 : fp < (nn : Int)
    · by_cases h2 : ff.toList = []
      · have hp : Hid (P = none) := by unfold Hid; rw [hP.out, if_neg (fun h => h.2 h2)]
        have q2 : (ff.toList == []) = true := by rw [h2]; rfl
        have q3 : ff.toList.isEmpty = true := by rw [h2]; rfl
        clear h2
        go_enter Tryz.func72, Tryz.ntmps72
        go_wp2_with (first | rw [hw1.out] | rw [hs1])
        all_goals try (exfalso; omega)
        go_ret2
        exact curedR (by rw [hp.out]; rfl) hb1.out
      · obtain ⟨a, rfl⟩ : ∃ a : Nat, fp = a := ⟨fp.toNat, by omega⟩
        obtain ⟨d, hd⟩ : ∃ d, docs[a]? = some d := ⟨_, List.getElem?_eq_getElem (by have := hlen.out; omega)⟩
        have hd' := Lib.hid hd
        have hP2 : Hid (P = firstOf [partyM c d ff, sumM c d ff, issuedM c day d ff, partM needs docs d ff, otherM needs (docs.take a) d ff]) := by
          unfold Hid
          rw [hP.out, if_pos ⟨h0, h2⟩, Int.toNat_natCast, hd, Option.bind_some, cureD_first]
        have q2 : (ff.toList == []) = false := beq_eq_false_iff_ne.2 h2
        have q3 : ff.toList.isEmpty = false := by
          cases hh : ff.toList with
          | nil => exact absurd hh h2
          | cons x l => rfl
        have hvz := Lib.hid (small_getV (s := ff) hR.out.small hd)
        have hxw := Lib.hid hb1.out.size
        obtain ⟨xb, hxb⟩ : ∃ z, Hid (w1.heap.size = z) := ⟨_, rfl⟩
        have e2 : w1.heap.size = xb := hxb.out
        have i0 : ¬ ((a : Int) < 0) := by omega
        have i1 : decide ((a : Int) < 0) = false := decide_eq_false (by omega)
        have i2 : decide (nn ≤ a) = false := decide_eq_false (by omega)
        have i3 : (a : Int) < (nn : Int) := h1
        have i4 : (0 : Int) ≤ (a : Int) := h0
        clear hP hd h2
        go_enter Tryz.func72, Tryz.ntmps72
        go_upto_region 3 with (first | rw [hw1.out] | rw [hs1])
        go_cut [10] (fun p wx => p = .pointer (some ⟨xb, 0, none⟩) ∧ Hid (Blk wx xb 149 (cuX C A nn cc day (a : Int) ff ⟨#[]⟩ false)) ∧ Hid (Below w1.heap.size w1 wx))
        case first =>
          have hk := Lib.hid (Blk.new w1 149 (cuX C A nn cc day (a : Int) ff ⟨#[]⟩ false))
          have hb := Lib.hid ((Below.refl _ w1).alloc (Nat.le_refl _) (.cells (cuX C A nn cc day (a : Int) ff ⟨#[]⟩ false) 149))
          clear hC hC17
          obtain ⟨l, rfl⟩ : ∃ l : List Value, C = l.toArray := ⟨C.toList, by simp⟩
          obtain ⟨a0, a1, a2, a3, a4, a5, a6, a7, a8, a9, b0, b1, b2, b3, b4, b5, b6, b7, rfl⟩ := len18c (l := l) (by have := hCz.out; simpa using this)
          have hl : Hid (cuX #[a0, a1, a2, a3, a4, a5, a6, a7, a8, a9, b0, b1, b2, b3, b4, b5, b6, b7] A nn cc day (a : Int) ff ⟨#[]⟩ false = #[a0, a1, a2, a3, a4, a5, a6, a7, a8, a9, b0, b1, b2, b3, b4, b5, b6, b7, .slice A nn cc, .int .i64 day, .int .i64 (a : Int), .string ff, .string ⟨#[]⟩, .bool false]) := Lib.hid (by kernel_rfl)
          rw [hl.out] at hk hb
          go_wp2_with (refine wpList_load_blk rfl 46 (.tmp 4) rfl w.heap.size _ 46 _ rfl hK1.out Tryz.underlying46 rfl hsz.out ?_)
          go_meet
          case rel => exact ⟨rfl, by rw [hl.out, ← hxb.out]; exact hk, hb⟩
        case rest =>
          obtain ⟨rfl, hX2, hb2⟩ := hcut
          have hB2 : Hid (Below w.heap.size w wc) := hb1.out.trans (hb2.out.mono hb1.out.size)
          have hF2 := Lib.hid (hF1.out.below hb2.out hF1.out.lt)
          have hxg : Hid (gf < xb) := Lib.hid (by have := hF1.out.lt; have := hxb.out; omega)
          obtain ⟨b3, f3, hA, _, _, _, d3, dF, dl, _⟩ := (hR.out.at_.below hB2.out) a d hd'.out
          have hb3x : Hid (b3 < xb) := Lib.hid (by
            obtain ⟨b4, f4, e4, g0, _⟩ := hR.out.at_ a d hd'.out
            rw [hA] at e4
            simp only [Option.some.injEq, Addr.mk.injEq, and_true] at e4
            have h9 := World.block_lt_of_cell? w _ g0
            have h8 : b4 < w.heap.size := h9
            have := hxw.out
            have := hxb.out
            omega)
          obtain ⟨A0, hA0⟩ : ∃ z, Hid (A = z) := ⟨_, rfl⟩
          rw [hA0.out] at hX2
          subst hA
          obtain ⟨m, hm⟩ : ∃ m, Hid (d.fields.length = m) := ⟨_, rfl⟩
          obtain ⟨v, hv⟩ : ∃ z, Hid (getV d.fields ff = z) := ⟨_, rfl⟩
          obtain ⟨b, hbd⟩ : ∃ z, Hid (getB d.fields ff = z) := ⟨_, rfl⟩
          obtain ⟨fA, hfA⟩ : ∃ z, Hid (d.fA = z) := ⟨_, rfl⟩
          obtain ⟨fc, hfc⟩ : ∃ z, Hid (d.fc = z) := ⟨_, rfl⟩
          have dF' := Lib.hid dF
          have dl' := Lib.hid dl
          rw [hm.out, hfA.out, hfc.out] at d3
          rw [hfA.out] at dF'
          rw [hm.out] at dl'
          have hget := Lib.hid (fun W (hW : Below wc.heap.size wc W) => get_any fA m fc d.fields ff W dl'.out hm (Lib.hid (dF'.out.below hW)))
          rw [hv.out, hbd.out] at hget
          have hSc : Hid (Blk wc gf 54 #[.int .i64 (a : Int), .int .i64 fk, .string ff, .int .i64 fw] ∧ wc.cell? ⟨b3, f3 + a * 4 + 3, none⟩ = some (.slice fA m fc)) := Lib.hid ⟨hF2.out, d3⟩
          clear dF dl d3
          go_upto_region 4 with fail
          go_cut [] (fun wx => Hid (Blk wx xb 149 (cuX C A0 nn cc day (a : Int) ff v b)) ∧ Hid (But xb wc wx))
          case first =>
            refine wp_region_held (S := fun W => Blk W gf 54 #[.int .i64 (a : Int), .int .i64 fk, .string ff, .int .i64 fw] ∧ W.cell? ⟨b3, f3 + a * 4 + 3, none⟩ = some (.slice fA m fc)) (by kernel_rfl) ?_
            have hSV : Blk wc.drew gf 54 #[.int .i64 (a : Int), .int .i64 fk, .string ff, .int .i64 fw] ∧ wc.drew.cell? ⟨b3, f3 + a * 4 + 3, none⟩ = some (.slice fA m fc) := ⟨hSc.out.1, hSc.out.2⟩
            refine wpAnyH_take (i := 0) rfl (by kernel_rfl) (by kernel_rfl) (by kernel_rfl) (fun _ _ _ h => h) (yields_of rfl (fun _ _ => rfl)) hSV ?_
            go_simp
            refine wpAnyH_take (i := 1) rfl (by kernel_rfl) (by kernel_rfl) (by kernel_rfl) (fun _ _ _ h => h) (yields_of rfl (fun _ _ => rfl)) hSV ?_
            go_simp
            refine wpAnyH_take (i := 2) rfl (by kernel_rfl) (by kernel_rfl) (by kernel_rfl) (fun _ _ _ h => h) (yields_of rfl (fun _ _ => rfl)) hSV ?_
            go_simp
            refine wpAnyH_take (i := 3) rfl (by kernel_rfl) (by kernel_rfl) (by kernel_rfl) (fun _ _ _ h => h) (yields_of (v := .pointer (some ⟨gf, 0, none⟩)) rfl (fun W hW => by go_simp)) hSV ?_
            go_simp
            refine wpAnyH_take (i := 4) rfl (by kernel_rfl) (by kernel_rfl) (by kernel_rfl) (fun _ _ _ h => h) (yields_of (v := .int .i64 (a : Int)) rfl (fun W hW => by have g0 : W.cell? ⟨gf, 0, none⟩ = some (.int .i64 (a : Int)) := hW.1.cell 0; go_simp)) hSV ?_
            go_simp
            refine wpAnyH_take (i := 5) rfl (by kernel_rfl) (by kernel_rfl) (by kernel_rfl) (fun _ _ _ h => h) (yields_of (v := .pointer (some ⟨b3, f3 + a * 4, none⟩)) rfl (fun W hW => by go_simp)) hSV ?_
            go_simp
            refine wpAnyH_take (i := 6) rfl (by kernel_rfl) (by kernel_rfl) (by kernel_rfl) (fun _ _ _ h => h) (yields_of (v := .pointer (some ⟨b3, f3 + a * 4 + 3, none⟩)) rfl (fun W hW => by go_simp)) hSV ?_
            go_simp
            refine wpAnyH_take (i := 7) rfl (by kernel_rfl) (by kernel_rfl) (by kernel_rfl) (fun _ _ _ h => h) (yields_of (v := .slice fA m fc) rfl (fun W hW => by have g0 : W.cell? ⟨b3, f3 + a * 4 + 3, none⟩ = some (.slice fA m fc) := hW.2; go_simp)) hSV ?_
            go_simp
            refine wpAnyH_take (i := 8) rfl (by kernel_rfl) (by kernel_rfl) (by kernel_rfl) (fun _ _ _ h => h) (yields_of (v := .pointer (some ⟨gf, 2, none⟩)) rfl (fun W hW => by go_simp)) hSV ?_
            go_simp
            refine wpAnyH_take (i := 9) rfl (by kernel_rfl) (by kernel_rfl) (by kernel_rfl) (fun _ _ _ h => h) (yields_of (v := .string ff) rfl (fun W hW => by have g0 : W.cell? ⟨gf, 2, none⟩ = some (.string ff) := hW.1.cell 2; go_simp)) hSV ?_
            go_simp
            refine wpAnyH_all (rs := [10]) (by kernel_rfl) (by decide) ?_
            intro i hi'
            obtain rfl := List.mem_singleton.1 hi'
            refine held_call (f := 54) (args := #[.slice fA m fc, .string ff]) rfl rfl (by go_simp) ?_
            refine (hget.out wc.drew (below_drewN (Below.refl _ wc) 1)).mono ?_
            rintro e W2 ⟨rfl, hbW⟩
            have hbW2 : Hid (Below wc.heap.size wc W2) := (below_drewN (Below.refl _ wc) 1).trans hbW
            have hX2' := Lib.hid (hX2.out.below hbW2.out hX2.out.lt)
            have hS2 : Hid (Blk W2 gf 54 #[.int .i64 (a : Int), .int .i64 fk, .string ff, .int .i64 fw] ∧ W2.cell? ⟨b3, f3 + a * 4 + 3, none⟩ = some (.slice fA m fc)) := Lib.hid ⟨hSc.out.1.below hbW2.out hSc.out.1.lt, (hbW2.out.cell (World.block_lt_of_cell? wc _ hSc.out.2)).trans hSc.out.2⟩
            have hBt2 : Hid (But xb wc W2) := Lib.hid (But.ofB hbW2.out)
            clear hbW hSV hi' hX2 hget
            have hX2 := hX2'
            refine ⟨_, rfl, ?_⟩
            refine ⟨hS2.out, ?_⟩
            have hSV := hS2.out
            go_simp
            refine wpAnyH_take (i := 11) rfl (by kernel_rfl) (by kernel_rfl) (by kernel_rfl) (fun _ _ _ h => h) (yields_of rfl (fun _ _ => rfl)) hSV ?_
            go_simp
            refine wpAnyH_take (i := 12) rfl (by kernel_rfl) (by kernel_rfl) (by kernel_rfl) (fun _ _ _ h => h) (yields_of rfl (fun _ _ => rfl)) hSV ?_
            go_simp
            refine wpAnyH_take (i := 13) rfl (by kernel_rfl) (by kernel_rfl) (by kernel_rfl) (fun _ _ _ h => h) (yields_of rfl (fun _ _ => rfl)) hSV ?_
            go_simp
            refine wpAnyH_take (i := 14) rfl (by kernel_rfl) (by kernel_rfl) (by kernel_rfl) (fun _ _ _ h => h) (yields_of rfl (fun _ _ => rfl)) hSV ?_
            go_simp
            refine wpAnyH_take (i := 15) rfl (by kernel_rfl) (by kernel_rfl) (by kernel_rfl) (fun _ _ _ h => h) (yields_of (v := .pointer (some ⟨xb, 22, none⟩)) rfl (fun W hW => by go_simp)) hSV ?_
            go_simp
            clear hSV
            refine wpAnyH_all (rs := [16]) (by kernel_rfl) (by decide) ?_
            intro i hi'
            obtain rfl := List.mem_singleton.1 hi'
            refine held_put1 rfl rfl 9 (.tmp 54) (.tmp 51) rfl xb 22 (cuX C A0 nn cc day (a : Int) ff ⟨#[]⟩ false) (cuX C A0 nn cc day (a : Int) ff v false) 149 (.string v) (by go_simp) (by go_simp) hX2.out (by rw [cuX_size hCz.out]; omega) (cuX_putv hCz.out) (by kernel_rfl) rfl ?_
            intro W3 g3 but3
            have hX3 := Lib.hid g3
            have hS3 : Hid (Blk W3 gf 54 #[.int .i64 (a : Int), .int .i64 fk, .string ff, .int .i64 fw] ∧ W3.cell? ⟨b3, f3 + a * 4 + 3, none⟩ = some (.slice fA m fc)) := Lib.hid ⟨(hS2.out.1).but but3 (by have := hxg.out; omega), (World.cell?_of_block (w := W2) (but3.block b3 (World.block_lt_of_cell? W2 _ hS2.out.2) (by have := hb3x.out; omega))).trans hS2.out.2⟩
            have hBt3 := Lib.hid (But.trans_ hBt2.out but3)
            clear g3 but3
            refine ⟨hS3.out, ?_⟩
            go_simp
            have hSV := hS3.out
            refine wpAnyH_take (i := 17) rfl (by kernel_rfl) (by kernel_rfl) (by kernel_rfl) (fun _ _ _ h => h) (yields_of rfl (fun _ _ => rfl)) hSV ?_
            go_simp
            refine wpAnyH_take (i := 18) rfl (by kernel_rfl) (by kernel_rfl) (by kernel_rfl) (fun _ _ _ h => h) (yields_of (v := .pointer (some ⟨xb, 23, none⟩)) rfl (fun W hW => by go_simp)) hSV ?_
            go_simp
            clear hSV
            refine wpAnyH_all (rs := [19]) (by kernel_rfl) (by decide) ?_
            intro i hi'
            obtain rfl := List.mem_singleton.1 hi'
            refine held_put1 rfl rfl 4 (.tmp 56) (.tmp 52) rfl xb 23 (cuX C A0 nn cc day (a : Int) ff v false) (cuX C A0 nn cc day (a : Int) ff v b) 149 (.bool b) (by go_simp) (by go_simp) hX3.out (by rw [cuX_size hCz.out]; omega) (cuX_putb hCz.out) (by kernel_rfl) rfl ?_
            intro W4 g4 but4
            have hX4 := Lib.hid g4
            have hS4 : Hid (Blk W4 gf 54 #[.int .i64 (a : Int), .int .i64 fk, .string ff, .int .i64 fw] ∧ W4.cell? ⟨b3, f3 + a * 4 + 3, none⟩ = some (.slice fA m fc)) := Lib.hid ⟨(hS3.out.1).but but4 (by have := hxg.out; omega), (World.cell?_of_block (w := W3) (but4.block b3 (World.block_lt_of_cell? W3 _ hS3.out.2) (by have := hb3x.out; omega))).trans hS3.out.2⟩
            have hBt4 := Lib.hid (But.trans_ hBt3.out but4)
            clear g4 but4
            refine ⟨hS4.out, ?_⟩
            go_simp
            refine wpAnyH_done (by kernel_rfl) ?_ _
            go_wp2_with fail
            go_meet
            case rel => exact ⟨hX4, hBt4⟩
          case rest =>
            obtain ⟨hXn, hBt⟩ := hcut
            have hBn : Hid (Below w.heap.size w wc) := hB2.out.trans ⟨hBt.out.os, hBt.out.tape, hBt.out.output, hBt.out.size, fun k hk => hBt.out.block k (Nat.lt_of_lt_of_le hk hB2.out.size) (by have := hxw.out; have := hxb.out; omega)⟩
            have hCu : Hid (CureS wc C c (some ⟨b3, f3, none⟩) nn cc docs day a d ff v b xb) := Lib.hid ⟨hC.out, hR.out.below hBn.out, hd'.out, by rw [hA0.out]; exact hXn.out, hv.out, hbd.out⟩
            clear hXn hBt hSc hget dF' dl' hF2 hX2 hb2 hB2 hb1 hK1 hF1 hxg hb3x hA0 hfA hfc hm r0 r2 hs1 hw1 e1 e2
            rw [hv.out] at hvz
            obtain ⟨RS, hRS⟩ : ∃ z, Hid ([partyM c d ff, sumM c d ff, issuedM c day d ff, partM needs docs d ff, otherM needs (docs.take a) d ff] = z) := ⟨_, rfl⟩
            have hall : Hid (∀ q r, RS[q]? = some r → ∀ W, Below w.heap.size w W → CureS W C c (some ⟨b3, f3, none⟩) nn cc docs day a d ff v b xb → Calls Tryz.prog (cureF q) #[.pointer (some ⟨xb, 0, none⟩)] W (CuredR r W)) := Lib.hid fun q r hr W hW hS => by
              rw [← hRS.out] at hr
              match q, hr with
              | 0, hr =>
                obtain rfl := Option.some.inj hr
                exact (party_any W C c _ nn cc docs day a d ff v b xb (Lib.hid hS)).mono fun _ _ h => h.r
              | 1, hr =>
                obtain rfl := Option.some.inj hr
                exact (csum_any W C c _ nn cc docs day a d ff v b xb (Lib.hid hS) hvz hO).mono fun _ _ h => h.r
              | 2, hr =>
                obtain rfl := Option.some.inj hr
                exact (cissued_any W C c _ nn cc docs day a d ff v b xb (Lib.hid hS) hvz hO hday).mono fun _ _ h => h.r
              | 3, hr =>
                obtain rfl := Option.some.inj hr
                exact (cpart_any W C c _ nn cc docs day a d ff v b xb (Lib.hid hS) hvz nA nl nc needs hnl hl12 hC17 (Lib.hid (hN.out.below hW)) (Lib.hid (hnum.out d))).mono fun _ _ h => h.r
              | 4, hr =>
                obtain rfl := Option.some.inj hr
                exact cother_any W C c _ nn cc docs day a d ff v b xb (Lib.hid hS) nA nl nc needs hnl hl12 hC17 (Lib.hid (hN.out.below hW)) (Lib.hid (hal.out.below hW)) hcap
              | k + 5, hr => simp at hr
            have hRl : Hid (RS.length = 5) := by rw [← hRS.out]; exact Lib.hid rfl
            rw [hRS.out] at hP2
            obtain ⟨ws, hws⟩ : ∃ X, Hid (wc.alloc (.cells #[.func (.func 119) #[.pointer (some ⟨xb, 0, none⟩)] #[], .func (.func 120) #[.pointer (some ⟨xb, 0, none⟩)] #[], .func (.func 121) #[.pointer (some ⟨xb, 0, none⟩)] #[], .func (.func 122) #[.pointer (some ⟨xb, 0, none⟩)] #[], .func (.func 123) #[.pointer (some ⟨xb, 0, none⟩)] #[]] 150) = X) := ⟨_, rfl⟩
            have hbs : Hid (Below wc.heap.size wc ws) := by rw [← hws.out]; exact (Below.refl _ wc).alloc (Nat.le_refl _) _
            have hFs : Hid (Blk ws wc.heap.size 150 #[.func (.func 119) #[.pointer (some ⟨xb, 0, none⟩)] #[], .func (.func 120) #[.pointer (some ⟨xb, 0, none⟩)] #[], .func (.func 121) #[.pointer (some ⟨xb, 0, none⟩)] #[], .func (.func 122) #[.pointer (some ⟨xb, 0, none⟩)] #[], .func (.func 123) #[.pointer (some ⟨xb, 0, none⟩)] #[]]) := by rw [← hws.out]; exact Lib.hid (Blk.new _ _ _)
            obtain ⟨FC, hFC⟩ : ∃ z : Array Value, Hid ((#[.func (.func 119) #[.pointer (some ⟨xb, 0, none⟩)] #[], .func (.func 120) #[.pointer (some ⟨xb, 0, none⟩)] #[], .func (.func 121) #[.pointer (some ⟨xb, 0, none⟩)] #[], .func (.func 122) #[.pointer (some ⟨xb, 0, none⟩)] #[], .func (.func 123) #[.pointer (some ⟨xb, 0, none⟩)] #[]] : Array Value) = z) := ⟨_, rfl⟩
            have hFCg : Hid (∀ q, q < 5 → FC[q]? = some (.func (.func (cureF q)) #[.pointer (some ⟨xb, 0, none⟩)] #[])) := Lib.hid fun q hq => by
              rw [← hFC.out]
              obtain rfl | rfl | rfl | rfl | rfl : q = 0 ∨ q = 1 ∨ q = 2 ∨ q = 3 ∨ q = 4 := by omega
              all_goals rfl
            rw [hFC.out] at hFs
            have hBs : Hid (Below w.heap.size w ws) := hBn.out.trans (hbs.out.mono hBn.out.size)
            have hCs := Lib.hid (hCu.out.below hbs.out)
            obtain ⟨gs, hgs⟩ : ∃ z, Hid (wc.heap.size = z) := ⟨_, rfl⟩
            have e3 : wc.heap.size = gs := hgs.out
            rw [hgs.out] at hFs
            have hP0 : Hid (P = firstOf (RS.drop 0)) := hP2
            clear hRS hbs hCu hBn hFC hP2
            go_wp2_with (rw [hws.out])
            clear e3
            go_loopw [69] (fun i wr => ∃ q : Nat, q ≤ 5 ∧ i = .int .i64 q ∧ Hid (P = firstOf (RS.drop q)) ∧ Hid (Below w.heap.size w wr) ∧ Hid (CureS wr C c (some ⟨b3, f3, none⟩) nn cc docs day a d ff v b xb) ∧ Hid (Blk wr gs 150 FC)) (fun i _ => 5 - (intOf i).toNat)
            case atStart => exact ⟨0, by omega, rfl, hP0, hBs, hCs, hFs⟩
            case round =>
              clear hP0 hBs hCs hFs hws hgs
              obtain ⟨q, hq, rfl, hPq, hBq, hCq, hFq⟩ := hrel
              by_cases hq5 : q < 5
              · obtain ⟨r, hr⟩ : ∃ r, RS[q]? = some r := ⟨_, List.getElem?_eq_getElem (by have := hRl.out; omega)⟩
                have hst : Hid (P = r.or (firstOf (RS.drop (q + 1)))) := by
                  unfold Hid
                  obtain ⟨hj, he⟩ := List.getElem?_eq_some_iff.1 hr
                  rw [hPq.out, List.drop_eq_getElem_cons hj, he, firstOf]
                have hcall := Lib.hid (hall.out q r hr wr hBq.out hCq.out)
                have cq : wr.cell? ⟨gs, q, none⟩ = some (.func (.func (cureF q)) #[.pointer (some ⟨xb, 0, none⟩)] #[]) := (hFq.out.cell q).trans (hFCg.out q hq5)
                have eg := cureF_enters q
                obtain ⟨fq, hfq⟩ : ∃ z, cureF q = z := ⟨_, rfl⟩
                rw [hfq] at hcall cq eg
                have j1 : (q : Int) < 5 := by omega
                have j2 : (0 : Int) ≤ (q : Int) := by omega
                have hkm : decide (q < 5) = true := decide_eq_true hq5
                clear hr hfq
                go_wp2_with (go_at_fn fq; refine hcall.out.mono ?_; rintro e w6 ⟨⟨u, (_ | _), rfl, hru⟩, hb6⟩ <;> (have hru' := Lib.hid hru; have hb6' := Lib.hid hb6; clear hru hb6))
                · have hfin : Hid (P = firstOf (RS.drop (q + 1))) := by unfold Hid; rw [hst.out, hru'.out]; rfl
                  go_roundw
                  case rel => exact ⟨q + 1, by omega, by go_num, hfin, Lib.hid (hBq.out.trans (hb6'.out.mono hBq.out.size)), Lib.hid (hCq.out.below hb6'.out), Lib.hid (hFq.out.below hb6'.out hFq.out.lt)⟩
                  case measure => simp [intOf]; omega
                · have hfin : Hid (P = some u) := by unfold Hid; rw [hst.out, hru'.out]; rfl
                  go_ret2
                  exact curedR (by rw [hfin.out]; rfl) (hBq.out.trans (hb6'.out.mono hBq.out.size))
              · have hkm : decide (q < 5) = false := decide_eq_false hq5
                have hfin : Hid (P = none) := by unfold Hid; rw [hPq.out, List.drop_eq_nil_of_le (by have := hRl.out; omega)]; rfl
                go_wp2_with fail
                go_ret2
                exact curedR (by rw [hfin.out]; rfl) hBq.out
    · have hp : Hid (P = none) := by
        unfold Hid
        rw [hP.out, List.getElem?_eq_none (by have := hlen.out; omega)]
        split <;> rfl
      go_enter Tryz.func72, Tryz.ntmps72
      go_wp2_with (first | rw [hw1.out] | rw [hs1])
      all_goals try (exfalso; omega)
      go_ret2
      exact curedR (by rw [hp.out]; rfl) hb1.out
  · have hp : Hid (P = none) := by unfold Hid; rw [hP.out, if_neg (fun h => h0 h.1)]
    go_enter Tryz.func72, Tryz.ntmps72
    go_wp2_with (first | rw [hw1.out] | rw [hs1])
    all_goals try (exfalso; omega)
    go_ret2
    exact curedR (by rw [hp.out]; rfl) hb1.out
end Go.Proofs.YtdjmckjbibfecaaGreatDoor

/- The document's scanner: the token at a place (walk of one). -/
import Derived.Test.YtjkmhlfjheiekaaGreatDoorSa
import Derived.Test.YtjkmhlfjheiekaaGreatDoorZc
namespace Go.Proofs.YtjkmhlfjheiekaaGreatDoor
open Go Go.RowKit Go.BigFrame Go.Maps

theorem wordsA_lit : wordsA = #[.string ⟨#[97, 98, 111, 118, 101]⟩, .string ⟨#[97, 108, 108]⟩, .string ⟨#[97, 110, 100]⟩, .string ⟨#[97, 110, 121]⟩, .string ⟨#[97, 112, 112, 108, 105, 99, 97, 110, 116]⟩, .string ⟨#[98, 101, 108, 111, 119]⟩, .string ⟨#[98, 101, 110, 101, 102, 105, 99, 105, 97, 114, 121]⟩, .string ⟨#[99, 104, 97, 110, 103, 101]⟩, .string ⟨#[99, 111, 110, 102, 105, 114, 109, 101, 114]⟩, .string ⟨#[99, 111, 112, 105, 101, 115]⟩, .string ⟨#[99, 114, 101, 100, 105, 116]⟩, .string ⟨#[100, 97, 121, 115]⟩, .string ⟨#[100, 114, 97, 102, 116]⟩, .string ⟨#[101, 120, 112, 105, 114, 121]⟩, .string ⟨#[102, 114, 111, 109]⟩, .string ⟨#[105, 110, 115, 117, 114, 97, 110, 99, 101]⟩, .string ⟨#[105, 110, 118, 111, 105, 99, 101]⟩, .string ⟨#[105, 115, 115, 117, 101, 114]⟩, .string ⟨#[108, 97, 100, 105, 110, 103]⟩, .string ⟨#[108, 97, 116, 101, 115, 116]⟩, .string ⟨#[110, 111]⟩, .string ⟨#[110, 111, 116]⟩, .string ⟨#[111, 102]⟩, .string ⟨#[111, 114]⟩, .string ⟨#[111, 114, 105, 103, 105, 110]⟩, .string ⟨#[112, 97, 99, 107, 105, 110, 103]⟩, .string ⟨#[112, 97, 114, 116, 105, 97, 108]⟩, .string ⟨#[115, 105, 103, 104, 116]⟩, .string ⟨#[115, 117, 109]⟩, .string ⟨#[116, 101, 110, 111, 114]⟩, .string ⟨#[116, 111]⟩, .string ⟨#[119, 97, 110, 116, 115]⟩, .string ⟨#[119, 105, 116, 104]⟩, .string ⟨#[119, 105, 116, 104, 105, 110]⟩, .string ⟨#[121, 101, 115]⟩] := rfl
set_option maxRecDepth 100000 in
set_option maxHeartbeats 1600000 in
theorem rwords_any (w : World) : Calls Tryz.prog 121 #[] w fun e w' => e = .returned (.slice (some ⟨w.heap.size, 0, none⟩) 35 35) ∧ w' = w.alloc (.cells wordsA 9) := by
  rw [wordsA_lit]
  go_enter Tryz.func121, Tryz.ntmps121
  go_wp2_with fail
  go_ret
  exact ⟨rfl, rfl⟩
theorem txts_blk {w : World} {g : Nat} {t : TypeId} {l : List Txt} (h : Blk w g t (l.map fun x => Value.string ⟨x.toArray⟩).toArray) : TxtsAt w (some ⟨g, 0, none⟩) l := fun k x hx => by
  refine ⟨g, 0, rfl, ?_⟩
  rw [Nat.zero_add, h.cell, List.getElem?_toArray, List.getElem?_map, hx]; rfl
def signsA : Array Value := #[.string ⟨#[40]⟩, .string ⟨#[41]⟩, .string ⟨#[44]⟩, .string ⟨#[59]⟩, .string ⟨#[58]⟩, .string ⟨#[46]⟩, .string ⟨#[61]⟩, .string ⟨#[126]⟩]
def signsT : List Txt := [[40], [41], [44], [59], [58], [46], [61], [126]]
theorem signsA_eq : signsA = (signsT.map fun x => Value.string ⟨x.toArray⟩).toArray := rfl
set_option maxRecDepth 100000 in
theorem signs_one : ∀ c : UInt8, signsT.contains [c] = oneSigns.contains c :=
  byte_all (P := fun c => signsT.contains [c] = oneSigns.contains c) (by decide)
theorem conv_at (W : World) (g : Nat) (k : Int) (h : Blk W g 5 #[.int .u8 k]) : (convert 68 9 (.slice (some ⟨g, 0, none⟩) 1 1)).run Tryz.prog W = .ok (.string ⟨#[UInt8.ofNat k.toNat]⟩) W := by
  have := run_convert_bytes_arg (P := Tryz.prog) W 68 5 Tryz.underlying68 Tryz.underlying5 g 0 1 1 [k] rfl
  exact this (fun i hi => by obtain rfl : i = 0 := by omega
                             exact h.cell 0) 9 Tryz.underlying9
theorem conv_new (W : World) (k : Int) : (convert 68 9 (.slice (some ⟨W.heap.size, 0, none⟩) 1 1)).run Tryz.prog (W.alloc (.cells #[.int .u8 k] 5)) = .ok (.string ⟨#[UInt8.ofNat k.toNat]⟩) (W.alloc (.cells #[.int .u8 k] 5)) :=
  conv_at _ _ _ (Blk.new W 5 _)

def OneOut (w : World) (s : ByteArray) (k : Nat) (x : Ending) (w' : World) : Prop := Below w.heap.size w w' ∧
  ((∃ kd t m, oneM (s.data.toList.drop k) = .ok (kd, t, m) ∧ 0 < m ∧ k + m ≤ s.size ∧ x = .returned (.tuple #[.agg (tokC kd k ⟨t.toArray⟩), .int .i64 (k + m : Nat), .int .i64 0])) ∨
   (∃ cd, oneM (s.data.toList.drop k) = .error cd ∧ cd ≠ 0 ∧ x = .returned (.tuple #[.agg noTok, .int .i64 k, .int .i64 cd])))
theorem OneOut.ok {w w' : World} {s : ByteArray} {k m : Nat} {kd : Int} {t : Txt} {x : Ending} (hb : Below w.heap.size w w') (h : oneM (s.data.toList.drop k) = .ok (kd, t, m)) (h1 : 0 < m) (h2 : k + m ≤ s.size) (hx : x = .returned (.tuple #[.agg (tokC kd k ⟨t.toArray⟩), .int .i64 (k + m : Nat), .int .i64 0])) : OneOut w s k x w' := ⟨hb, .inl ⟨kd, t, m, h, h1, h2, hx⟩⟩
theorem OneOut.bad {w w' : World} {s : ByteArray} {k : Nat} {cd : Int} {x : Ending} (hb : Below w.heap.size w w') (h : oneM (s.data.toList.drop k) = .error cd) (h1 : cd ≠ 0) (hx : x = .returned (.tuple #[.agg noTok, .int .i64 k, .int .i64 cd])) : OneOut w s k x w' := ⟨hb, .inr ⟨cd, h, h1, hx⟩⟩


set_option maxRecDepth 100000 in
set_option maxHeartbeats 3200000 in
theorem rone_small (s : ByteArray) (k : Nat) (w : World) (hk : k < s.size) (hs : s.size ≤ maxLen) (h1 : Hid (smallB s[k] = true)) : Calls Tryz.prog 70 #[.string s, .int .i64 k] w (OneOut w s k) := by
  unfold maxLen at hs
  have hT : Hid (Blk (w.alloc (.cells #[.int .i64 0, .int .i64 0, .string ⟨#[]⟩] 89)) w.heap.size 89 #[.int .i64 0, .int .i64 0, .string ⟨#[]⟩]) := Blk.new w 89 _
  have hB : Hid (Below w.heap.size w (w.alloc (.cells #[.int .i64 0, .int .i64 0, .string ⟨#[]⟩] 89))) := (Below.refl _ w).alloc (Nat.le_refl _) _
  have i1 : (k : Int) < (s.size : Int) := by omega
  have i2 : (0 : Int) ≤ (k : Int) := by omega
  have w1 : IntKind.i64.wrap ((k : Int) + 1) = ((k + 1 : Nat) : Int) := by rw [IntWalk.i64_in _ (by omega)]; omega
  have hone := Lib.hid (one_small hk h1.out)
  go_enter Tryz.func70, Tryz.ntmps70
  go_wp2_with fail
  refine (rrun_any s[k] _).mono ?_
  rintro x w1 ⟨rfl, rfl⟩
  rw [h1.out]
  obtain ⟨wa, hwa⟩ : ∃ x, Hid (w.alloc (.cells #[.int .i64 0, .int .i64 0, .string ⟨#[]⟩] 89) = x) := ⟨_, Lib.hid rfl⟩
  rw [hwa.out] at hT hB ⊢
  clear hwa
  go_wp2_with fail
  go_loopg [8] (s.size - (k + 1)) (fun gg v wr => ∃ j : Nat, k + 1 ≤ j ∧ j ≤ s.size ∧ gg = s.size - j ∧ v = .int .i64 j ∧ Hid (endP smallB s k = endP smallB s j) ∧ wa = wr)
  case atStart => exact ⟨k + 1, Nat.le_refl _, hk, rfl, rfl, end_yes hk h1.out, rfl⟩
  case round =>
    obtain ⟨j, hkj, hj, hg, rfl, he, rfl⟩ := hrel
    have hg' := Lib.hid hg
    clear hg
    have i4 : (0 : Int) ≤ (j : Int) := by omega
    by_cases hlt : j < s.size
    · have hl1 : decide ((j : Int) < (s.size : Int)) = true := by simp; omega
      have i3 : (j : Int) < (s.size : Int) := by omega
      obtain ⟨pb, hpb⟩ : ∃ b, Hid (smallB s[j] = b) := ⟨_, Lib.hid rfl⟩
      have w2 : IntKind.i64.wrap ((j : Int) + 1) = ((j + 1 : Nat) : Int) := by rw [IntWalk.i64_in _ (by omega)]; omega
      go_wp2_with fail
      refine (rrun_any s[j] _).mono ?_
      rintro x w1 ⟨rfl, rfl⟩
      rw [hpb.out]
      cases pb with
      | true =>
        go_wp2_with fail
        go_roundg (s.size - (j + 1))
        case measure => have := hg'.out; omega
        case rel => exact ⟨j + 1, by omega, hlt, rfl, rfl, by unfold Hid; rw [he.out, end_yes hlt hpb.out], rfl⟩
      | false =>
        have hj' : Hid (endP smallB s k = j) := by unfold Hid; rw [he.out, end_no hlt hpb.out]
        have hsub : s.extract k j = s.extract k j := rfl
        go_wp2_with fail
        have hxs : (s.extract k j).size = j - k := by simp; omega
        have hall : Hid ((s.extract k j).data.toList.all smallB = true) := by unfold Hid; rw [← hj'.out, extract_run]; exact List.all_takeWhile
        rw [hj'.out] at hone
        obtain ⟨x, hx⟩ : ∃ x, Hid (s.extract k j = x) := ⟨_, Lib.hid rfl⟩
        rw [hx.out] at hall hone hxs ⊢
        have hx1 : 0 < x.size := by omega
        have hln : Hid (x.data.toList.length = x.size) := by unfold Hid; simp
        have hxL : Hid ((⟨x.data.toList.toArray⟩ : ByteArray) = x) := rfl
        clear hsub hx
        refine (rdigits_any x wa (by unfold maxLen; omega)).mono ?_
        rintro y w3 ⟨rfl, rfl⟩
        have f0 := hT.out.frozen 0
        have f1 := hT.out.frozen 1
        have f2 := hT.out.frozen 2
        have r0 : wa.cell? ⟨w.heap.size, 0, none⟩ = some (.int .i64 0) := hT.out.cell 0
        have r1 : wa.cell? ⟨w.heap.size, 1, none⟩ = some (.int .i64 0) := hT.out.cell 1
        have r2 : wa.cell? ⟨w.heap.size, 2, none⟩ = some (.string ⟨#[]⟩) := hT.out.cell 2
        have rlt := hT.out.lt
        cases hd : x.data.toList.all digitB with
        | true =>
          rw [rank_digits hd] at hone
          by_cases hz : 1 < x.size ∧ x.data.toList.head? = some 48
          · have hr : Hid (oneM (s.data.toList.drop k) = .error 2) := by unfold Hid; rw [hone.out]; unfold boundM; simp only; rw [hln.out, if_pos hz]; rfl
            obtain ⟨hz1, hz2⟩ := hz
            rw [head_byte hx1] at hz2
            have b1 : decide (1 < (x.size : Int)) = true := by simp; omega
            have b2 : ((x[0].toNat : Int) == 48) = true := by rw [Option.some.inj hz2]; rfl
            clear hz2 hd hone
            go_wp2_with fail
            refine bodyPost_ret (results_row_tmp2 rfl _ _ w.heap.size 89 _ _ rfl (((hT.out.set_ 0 _).set_ 1 _).set_ 2 _) Tryz.underlying89 rfl (by kernel_rfl)) rfl ?_
            exact .bad (((hB.out.setCell (Nat.le_refl _) _).setCell (Nat.le_refl _) _).setCell (Nat.le_refl _) _) hr.out (by decide) rfl
          · have hab := above_eq hd (by rw [hln.out]; exact hz)
            have key : Hid (1 < x.size → ((x[0].toNat : Int) == 48) = false) := fun h => by
              simp only [beq_eq_false_iff_ne, ne_eq]
              intro e
              exact hz ⟨h, by rw [head_byte hx1, show x[0] = 48 from UInt8.toNat_inj.1 (by simpa using (by omega : x[0].toNat = 48))]⟩
            have hbm : boundM x.data.toList = if mostN < numV x.data.toList then 3 else 0 := by unfold boundM; rw [hln.out, if_neg hz]
            rw [hbm] at hone
            have hcall : Hid (Calls Tryz.prog 119 #[.string x] wa fun e w' => e = .returned (.bool (decide (mostN < numV x.data.toList))) ∧ wa = w') := by
              rw [← hab]; exact rabove_any x wa (by unfold maxLen; omega)
            clear hab hbm hz hd
            by_cases h1x : 1 < x.size
            · have b1 : decide (1 < (x.size : Int)) = true := by simp; omega
              have b2 := key.out h1x
              go_wp2_with fail
              refine hcall.out.mono ?_
              rintro y w3 ⟨rfl, rfl⟩
              by_cases hm : mostN < numV x.data.toList
              · rw [decide_eq_true hm]
                rw [if_pos hm, if_neg (by decide)] at hone
                clear hm
                go_wp2_with fail
                refine bodyPost_ret (results_row_tmp2 rfl _ _ w.heap.size 89 _ _ rfl (((hT.out.set_ 0 _).set_ 1 _).set_ 2 _) Tryz.underlying89 rfl (by kernel_rfl)) rfl ?_
                exact .bad (((hB.out.setCell (Nat.le_refl _) _).setCell (Nat.le_refl _) _).setCell (Nat.le_refl _) _) hone.out (by decide) rfl
              · rw [decide_eq_false hm]
                rw [if_neg hm, if_pos rfl] at hone
                clear hm
                go_wp2_with fail
                refine bodyPost_ret (results_row_tmp2 rfl _ _ w.heap.size 89 _ _ rfl (((hT.out.set_ 0 _).set_ 1 _).set_ 2 _) Tryz.underlying89 rfl (by kernel_rfl)) rfl ?_
                exact .ok (((hB.out.setCell (Nat.le_refl _) _).setCell (Nat.le_refl _) _).setCell (Nat.le_refl _) _) hone.out (by omega) (by omega) (by rw [show k + (j - k) = j by omega]; rfl)
            · have b1 : decide (1 < (x.size : Int)) = false := by simp; omega
              go_wp2_with fail
              refine hcall.out.mono ?_
              rintro y w3 ⟨rfl, rfl⟩
              by_cases hm : mostN < numV x.data.toList
              · rw [decide_eq_true hm]
                rw [if_pos hm, if_neg (by decide)] at hone
                clear hm
                go_wp2_with fail
                refine bodyPost_ret (results_row_tmp2 rfl _ _ w.heap.size 89 _ _ rfl (((hT.out.set_ 0 _).set_ 1 _).set_ 2 _) Tryz.underlying89 rfl (by kernel_rfl)) rfl ?_
                exact .bad (((hB.out.setCell (Nat.le_refl _) _).setCell (Nat.le_refl _) _).setCell (Nat.le_refl _) _) hone.out (by decide) rfl
              · rw [decide_eq_false hm]
                rw [if_neg hm, if_pos rfl] at hone
                clear hm
                go_wp2_with fail
                refine bodyPost_ret (results_row_tmp2 rfl _ _ w.heap.size 89 _ _ rfl (((hT.out.set_ 0 _).set_ 1 _).set_ 2 _) Tryz.underlying89 rfl (by kernel_rfl)) rfl ?_
                exact .ok (((hB.out.setCell (Nat.le_refl _) _).setCell (Nat.le_refl _) _).setCell (Nat.le_refl _) _) hone.out (by omega) (by omega) (by rw [show k + (j - k) = j by omega]; rfl)
        | false =>
          clear f0 f1 f2 r0 r1 r2 rlt
          go_wp2_with fail
          refine (rwords_any wa).mono ?_
          rintro y w3 ⟨rfl, rfl⟩
          have hbl : Below wa.heap.size wa (wa.alloc (.cells wordsA 9)) := (Below.refl _ wa).alloc (Nat.le_refl _) _
          have hin := Lib.hid (rin_any (some ⟨wa.heap.size, 0, none⟩) 35 35 wordsL x.data.toList (wa.alloc (.cells wordsA 9)) (by unfold maxLen; omega) rfl (txts_blk (t := 9) (Blk.new wa 9 wordsA)))
          have hT := Lib.hid (hT.out.below hbl hT.out.lt)
          have hB := Lib.hid (hB.out.trans (hbl.mono hB.out.size))
          obtain ⟨wb, hwb⟩ : ∃ y, Hid (wa.alloc (.cells wordsA 9) = y) := ⟨_, Lib.hid rfl⟩
          rw [hwb.out] at hin hT hB ⊢
          clear hbl hwb
          go_wp2_with fail
          refine hin.out.mono ?_
          rintro y w3 ⟨rfl, rfl⟩
          have f0 := hT.out.frozen 0
          have f1 := hT.out.frozen 1
          have f2 := hT.out.frozen 2
          have r0 : wb.cell? ⟨w.heap.size, 0, none⟩ = some (.int .i64 0) := hT.out.cell 0
          have r1 : wb.cell? ⟨w.heap.size, 1, none⟩ = some (.int .i64 0) := hT.out.cell 1
          have r2 : wb.cell? ⟨w.heap.size, 2, none⟩ = some (.string ⟨#[]⟩) := hT.out.cell 2
          have rlt := hT.out.lt
          cases hwd : wordsL.contains x.data.toList with
          | true =>
            rw [rank_word hd hwd, if_pos rfl] at hone
            clear hin hd
            go_wp2_with fail
            refine bodyPost_ret (results_row_tmp2 rfl _ _ w.heap.size 89 _ _ rfl (((hT.out.set_ 0 _).set_ 1 _).set_ 2 _) Tryz.underlying89 rfl (by kernel_rfl)) rfl ?_
            exact .ok (((hB.out.setCell (Nat.le_refl _) _).setCell (Nat.le_refl _) _).setCell (Nat.le_refl _) _) hone.out (by omega) (by omega) (by rw [show k + (j - k) = j by omega]; rfl)
          | false =>
            rw [rank_name hd hwd, hln.out] at hone
            clear hin hd
            by_cases h16 : x.size ≤ 16
            · have b1 : decide ((16 : Int) < (x.size : Int)) = false := by simp; omega
              rw [if_pos h16, if_pos rfl] at hone
              go_wp2_with fail
              refine bodyPost_ret (results_row_tmp2 rfl _ _ w.heap.size 89 _ _ rfl (((hT.out.set_ 0 _).set_ 1 _).set_ 2 _) Tryz.underlying89 rfl (by kernel_rfl)) rfl ?_
              exact .ok (((hB.out.setCell (Nat.le_refl _) _).setCell (Nat.le_refl _) _).setCell (Nat.le_refl _) _) hone.out (by omega) (by omega) (by rw [show k + (j - k) = j by omega]; rfl)
            · have b1 : decide ((16 : Int) < (x.size : Int)) = true := by simp; omega
              rw [if_neg h16, if_neg (by decide)] at hone
              go_wp2_with fail
              refine bodyPost_ret (results_row_tmp2 rfl _ _ w.heap.size 89 _ _ rfl (((hT.out.set_ 0 _).set_ 1 _).set_ 2 _) Tryz.underlying89 rfl (by kernel_rfl)) rfl ?_
              exact .bad (((hB.out.setCell (Nat.le_refl _) _).setCell (Nat.le_refl _) _).setCell (Nat.le_refl _) _) hone.out (by decide) rfl
    · have hl1 : decide ((j : Int) < (s.size : Int)) = false := by simp; omega
      have hj' : Hid (endP smallB s k = j) := by unfold Hid; rw [he.out, end_end (by omega)]
      have hsub : s.extract k j = s.extract k j := rfl
      go_wp2_with fail
      have hxs : (s.extract k j).size = j - k := by simp; omega
      have hall : Hid ((s.extract k j).data.toList.all smallB = true) := by unfold Hid; rw [← hj'.out, extract_run]; exact List.all_takeWhile
      rw [hj'.out] at hone
      obtain ⟨x, hx⟩ : ∃ x, Hid (s.extract k j = x) := ⟨_, Lib.hid rfl⟩
      rw [hx.out] at hall hone hxs ⊢
      have hx1 : 0 < x.size := by omega
      have hln : Hid (x.data.toList.length = x.size) := by unfold Hid; simp
      have hxL : Hid ((⟨x.data.toList.toArray⟩ : ByteArray) = x) := rfl
      clear hsub hx
      refine (rdigits_any x wa (by unfold maxLen; omega)).mono ?_
      rintro y w3 ⟨rfl, rfl⟩
      have f0 := hT.out.frozen 0
      have f1 := hT.out.frozen 1
      have f2 := hT.out.frozen 2
      have r0 : wa.cell? ⟨w.heap.size, 0, none⟩ = some (.int .i64 0) := hT.out.cell 0
      have r1 : wa.cell? ⟨w.heap.size, 1, none⟩ = some (.int .i64 0) := hT.out.cell 1
      have r2 : wa.cell? ⟨w.heap.size, 2, none⟩ = some (.string ⟨#[]⟩) := hT.out.cell 2
      have rlt := hT.out.lt
      cases hd : x.data.toList.all digitB with
      | true =>
        rw [rank_digits hd] at hone
        by_cases hz : 1 < x.size ∧ x.data.toList.head? = some 48
        · have hr : Hid (oneM (s.data.toList.drop k) = .error 2) := by unfold Hid; rw [hone.out]; unfold boundM; simp only; rw [hln.out, if_pos hz]; rfl
          obtain ⟨hz1, hz2⟩ := hz
          rw [head_byte hx1] at hz2
          have b1 : decide (1 < (x.size : Int)) = true := by simp; omega
          have b2 : ((x[0].toNat : Int) == 48) = true := by rw [Option.some.inj hz2]; rfl
          clear hz2 hd hone
          go_wp2_with fail
          refine bodyPost_ret (results_row_tmp2 rfl _ _ w.heap.size 89 _ _ rfl (((hT.out.set_ 0 _).set_ 1 _).set_ 2 _) Tryz.underlying89 rfl (by kernel_rfl)) rfl ?_
          exact .bad (((hB.out.setCell (Nat.le_refl _) _).setCell (Nat.le_refl _) _).setCell (Nat.le_refl _) _) hr.out (by decide) rfl
        · have hab := above_eq hd (by rw [hln.out]; exact hz)
          have key : Hid (1 < x.size → ((x[0].toNat : Int) == 48) = false) := fun h => by
            simp only [beq_eq_false_iff_ne, ne_eq]
            intro e
            exact hz ⟨h, by rw [head_byte hx1, show x[0] = 48 from UInt8.toNat_inj.1 (by simpa using (by omega : x[0].toNat = 48))]⟩
          have hbm : boundM x.data.toList = if mostN < numV x.data.toList then 3 else 0 := by unfold boundM; rw [hln.out, if_neg hz]
          rw [hbm] at hone
          have hcall : Hid (Calls Tryz.prog 119 #[.string x] wa fun e w' => e = .returned (.bool (decide (mostN < numV x.data.toList))) ∧ wa = w') := by
            rw [← hab]; exact rabove_any x wa (by unfold maxLen; omega)
          clear hab hbm hz hd
          by_cases h1x : 1 < x.size
          · have b1 : decide (1 < (x.size : Int)) = true := by simp; omega
            have b2 := key.out h1x
            go_wp2_with fail
            refine hcall.out.mono ?_
            rintro y w3 ⟨rfl, rfl⟩
            by_cases hm : mostN < numV x.data.toList
            · rw [decide_eq_true hm]
              rw [if_pos hm, if_neg (by decide)] at hone
              clear hm
              go_wp2_with fail
              refine bodyPost_ret (results_row_tmp2 rfl _ _ w.heap.size 89 _ _ rfl (((hT.out.set_ 0 _).set_ 1 _).set_ 2 _) Tryz.underlying89 rfl (by kernel_rfl)) rfl ?_
              exact .bad (((hB.out.setCell (Nat.le_refl _) _).setCell (Nat.le_refl _) _).setCell (Nat.le_refl _) _) hone.out (by decide) rfl
            · rw [decide_eq_false hm]
              rw [if_neg hm, if_pos rfl] at hone
              clear hm
              go_wp2_with fail
              refine bodyPost_ret (results_row_tmp2 rfl _ _ w.heap.size 89 _ _ rfl (((hT.out.set_ 0 _).set_ 1 _).set_ 2 _) Tryz.underlying89 rfl (by kernel_rfl)) rfl ?_
              exact .ok (((hB.out.setCell (Nat.le_refl _) _).setCell (Nat.le_refl _) _).setCell (Nat.le_refl _) _) hone.out (by omega) (by omega) (by rw [show k + (j - k) = j by omega]; rfl)
          · have b1 : decide (1 < (x.size : Int)) = false := by simp; omega
            go_wp2_with fail
            refine hcall.out.mono ?_
            rintro y w3 ⟨rfl, rfl⟩
            by_cases hm : mostN < numV x.data.toList
            · rw [decide_eq_true hm]
              rw [if_pos hm, if_neg (by decide)] at hone
              clear hm
              go_wp2_with fail
              refine bodyPost_ret (results_row_tmp2 rfl _ _ w.heap.size 89 _ _ rfl (((hT.out.set_ 0 _).set_ 1 _).set_ 2 _) Tryz.underlying89 rfl (by kernel_rfl)) rfl ?_
              exact .bad (((hB.out.setCell (Nat.le_refl _) _).setCell (Nat.le_refl _) _).setCell (Nat.le_refl _) _) hone.out (by decide) rfl
            · rw [decide_eq_false hm]
              rw [if_neg hm, if_pos rfl] at hone
              clear hm
              go_wp2_with fail
              refine bodyPost_ret (results_row_tmp2 rfl _ _ w.heap.size 89 _ _ rfl (((hT.out.set_ 0 _).set_ 1 _).set_ 2 _) Tryz.underlying89 rfl (by kernel_rfl)) rfl ?_
              exact .ok (((hB.out.setCell (Nat.le_refl _) _).setCell (Nat.le_refl _) _).setCell (Nat.le_refl _) _) hone.out (by omega) (by omega) (by rw [show k + (j - k) = j by omega]; rfl)
      | false =>
        clear f0 f1 f2 r0 r1 r2 rlt
        go_wp2_with fail
        refine (rwords_any wa).mono ?_
        rintro y w3 ⟨rfl, rfl⟩
        have hbl : Below wa.heap.size wa (wa.alloc (.cells wordsA 9)) := (Below.refl _ wa).alloc (Nat.le_refl _) _
        have hin := Lib.hid (rin_any (some ⟨wa.heap.size, 0, none⟩) 35 35 wordsL x.data.toList (wa.alloc (.cells wordsA 9)) (by unfold maxLen; omega) rfl (txts_blk (t := 9) (Blk.new wa 9 wordsA)))
        have hT := Lib.hid (hT.out.below hbl hT.out.lt)
        have hB := Lib.hid (hB.out.trans (hbl.mono hB.out.size))
        obtain ⟨wb, hwb⟩ : ∃ y, Hid (wa.alloc (.cells wordsA 9) = y) := ⟨_, Lib.hid rfl⟩
        rw [hwb.out] at hin hT hB ⊢
        clear hbl hwb
        go_wp2_with fail
        refine hin.out.mono ?_
        rintro y w3 ⟨rfl, rfl⟩
        have f0 := hT.out.frozen 0
        have f1 := hT.out.frozen 1
        have f2 := hT.out.frozen 2
        have r0 : wb.cell? ⟨w.heap.size, 0, none⟩ = some (.int .i64 0) := hT.out.cell 0
        have r1 : wb.cell? ⟨w.heap.size, 1, none⟩ = some (.int .i64 0) := hT.out.cell 1
        have r2 : wb.cell? ⟨w.heap.size, 2, none⟩ = some (.string ⟨#[]⟩) := hT.out.cell 2
        have rlt := hT.out.lt
        cases hwd : wordsL.contains x.data.toList with
        | true =>
          rw [rank_word hd hwd, if_pos rfl] at hone
          clear hin hd
          go_wp2_with fail
          refine bodyPost_ret (results_row_tmp2 rfl _ _ w.heap.size 89 _ _ rfl (((hT.out.set_ 0 _).set_ 1 _).set_ 2 _) Tryz.underlying89 rfl (by kernel_rfl)) rfl ?_
          exact .ok (((hB.out.setCell (Nat.le_refl _) _).setCell (Nat.le_refl _) _).setCell (Nat.le_refl _) _) hone.out (by omega) (by omega) (by rw [show k + (j - k) = j by omega]; rfl)
        | false =>
          rw [rank_name hd hwd, hln.out] at hone
          clear hin hd
          by_cases h16 : x.size ≤ 16
          · have b1 : decide ((16 : Int) < (x.size : Int)) = false := by simp; omega
            rw [if_pos h16, if_pos rfl] at hone
            go_wp2_with fail
            refine bodyPost_ret (results_row_tmp2 rfl _ _ w.heap.size 89 _ _ rfl (((hT.out.set_ 0 _).set_ 1 _).set_ 2 _) Tryz.underlying89 rfl (by kernel_rfl)) rfl ?_
            exact .ok (((hB.out.setCell (Nat.le_refl _) _).setCell (Nat.le_refl _) _).setCell (Nat.le_refl _) _) hone.out (by omega) (by omega) (by rw [show k + (j - k) = j by omega]; rfl)
          · have b1 : decide ((16 : Int) < (x.size : Int)) = true := by simp; omega
            rw [if_neg h16, if_neg (by decide)] at hone
            go_wp2_with fail
            refine bodyPost_ret (results_row_tmp2 rfl _ _ w.heap.size 89 _ _ rfl (((hT.out.set_ 0 _).set_ 1 _).set_ 2 _) Tryz.underlying89 rfl (by kernel_rfl)) rfl ?_
            exact .bad (((hB.out.setCell (Nat.le_refl _) _).setCell (Nat.le_refl _) _).setCell (Nat.le_refl _) _) hone.out (by decide) rfl

end Go.Proofs.YtjkmhlfjheiekaaGreatDoor

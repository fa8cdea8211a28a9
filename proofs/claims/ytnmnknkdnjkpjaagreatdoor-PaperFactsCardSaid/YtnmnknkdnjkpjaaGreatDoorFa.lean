/- The law PaperFacts. -/
import Derived.Test.YtnmnknkdnjkpjaaGreatDoorFh
namespace Go.Proofs.YtnmnknkdnjkpjaaGreatDoor
open Go Go.RowKit Go.BigFrame Go.Maps

set_option maxRecDepth 100000 in
set_option maxHeartbeats 6400000 in
theorem facts_law (d : Dl) (cu : ByteArray) (am : Int) (co : ByteArray) (w : World) (hd : Hid (d.wide w)) (ham : Hid (i64 am)) (he : Env w) :
    Calls Tryz.prog 3 #[.agg d.cells, .agg #[.string cu, .int .i64 am], .string co] w fun e w' => e = .returned (.bool true) ∧ Below w.heap.size w w' := by
  have he' := Lib.hid he
  clear he
  obtain ⟨D, hD⟩ : ∃ X, Hid (d.cells = X) := ⟨_, rfl⟩
  rw [hD.out]
  have hDs : Hid (D.size = 17) := by rw [← hD.out]; exact Lib.hid rfl
  have hDc0 : Hid (D[11]? = some (.slice d.A d.boxes.length d.c)) := by rw [← hD.out]; exact Lib.hid rfl
  obtain ⟨w0, hw0⟩ : ∃ W, Hid ((w.alloc (.cells D 26)).alloc (.cells #[.string cu, .int .i64 am] 23) = W) := ⟨_, rfl⟩
  have hb0 : Hid (Below w.heap.size w w0) := by rw [← hw0.out]; exact ((Below.refl _ w).alloc (Nat.le_refl _) _).alloc (by simp) _
  have hk0 : Hid (Blk w0 w.heap.size 26 D) := by rw [← hw0.out]; exact Lib.hid ((Blk.new w 26 _).alloc _)
  have hm0 : Hid (Blk w0 (w.heap.size + 1) 23 #[.string cu, .int .i64 am]) := by rw [← hw0.out]; refine Lib.hid ?_; simpa using Blk.new (w.alloc (.cells D 26)) 23 #[.string cu, .int .i64 am]
  have hsh0 := short_any d w0 (Lib.hid (hd.out.below hb0.out))
  rw [hD.out] at hsh0
  have hsh := Lib.hid hsh0
  clear hsh0
  go_enter Tryz.func3, Tryz.ntmps3
  go_wp2_with (first | (refine wpList_get_blk rfl 26 _ rfl w.heap.size D 26 _ rfl hk0.out Tryz.underlying26 rfl (by rw [hDs.out]; kernel_rfl) ?_) | rw [hw0.out])
  refine hsh.out.mono ?_
  rintro e w1 ⟨b, rfl, hb1, hq⟩
  have hB1 : Hid (Below w.heap.size w w1) := hb0.out.trans (hb1.mono hb0.out.size)
  have hk1 := Lib.hid (hk0.out.below hb1 hk0.out.lt)
  have hm1 := Lib.hid (hm0.out.below hb1 hm0.out.lt)
  have hq' := Lib.hid hq
  clear hb1 hq hsh
  cases b with
  | false =>
    go_wp2_with fail
    refine (awake_any w1 (he'.out.below hB1.out)).mono ?_
    rintro e w2 ⟨rfl, hb2⟩
    go_wp2_with fail
    go_ret
    exact ⟨rfl, hB1.out.trans (hb2.mono hB1.out.size)⟩
  | true =>
    have hok0 := hq'.out rfl
    have hok : Hid (d.ok w) := { hok0 with at_ := hd.out.at_ }
    clear hok0 hq'
    have m0 : w1.cell? ⟨w.heap.size + 1, 0, none⟩ = some (.string cu) := hm1.out.cell 0
    by_cases g1 : (100 : Int) < (co.size : Int)
    · have g2 : decide ((100 : Int) < (co.size : Int)) = true := decide_eq_true g1
      go_wp2_with fail
      refine (awake_any w1 (he'.out.below hB1.out)).mono ?_
      rintro e w2 ⟨rfl, hb2⟩
      go_wp2_with fail
      go_ret
      exact ⟨rfl, hB1.out.trans (hb2.mono hB1.out.size)⟩
    have g2 : decide ((100 : Int) < (co.size : Int)) = false := decide_eq_false g1
    by_cases g3 : (100 : Int) < (cu.size : Int)
    · have g4 : decide ((100 : Int) < (cu.size : Int)) = true := decide_eq_true g3
      go_wp2_with fail
      refine (awake_any w1 (he'.out.below hB1.out)).mono ?_
      rintro e w2 ⟨rfl, hb2⟩
      go_wp2_with fail
      go_ret
      exact ⟨rfl, hB1.out.trans (hb2.mono hB1.out.size)⟩
    have g4 : decide ((100 : Int) < (cu.size : Int)) = false := decide_eq_false g3
    obtain ⟨dA, hdA⟩ : ∃ x, Hid (d.A = x) := ⟨_, rfl⟩
    obtain ⟨dn, hdn⟩ : ∃ x, Hid (d.boxes.length = x) := ⟨_, rfl⟩
    obtain ⟨dc, hdc⟩ : ∃ x, Hid (d.c = x) := ⟨_, rfl⟩
    obtain ⟨LT, hLT⟩ : ∃ x, Hid (mkB (listT d.boxes) = x) := ⟨_, rfl⟩
    have hDc : Hid (D[11]? = some (.slice dA dn dc)) := by rw [← hdA.out, ← hdn.out, ← hdc.out]; exact hDc0
    have hlist : Hid (∀ W, Below w.heap.size w W → Calls Tryz.prog 14 #[.slice dA dn dc] W fun e w' => e = .returned (.string LT) ∧ Below W.heap.size W w') := by
      intro W hW
      have h := list_any d.A d.boxes.length d.c d.boxes W hok.out.most (Lib.hid rfl) (Lib.hid (BoxesOk.below ⟨hok.out.at_, hok.out.marks⟩ hW)) (Lib.hid (he'.out.below hW))
      rw [hdA.out, hdn.out, hdc.out, hLT.out] at h
      exact h
    obtain ⟨n1, hn1⟩ : ∃ x, Hid (mkB [105, 118, 45] ++ d.number = x) := ⟨_, rfl⟩
    obtain ⟨i1, hi1⟩ : ∃ x, Hid (d.seller = x) := ⟨_, rfl⟩
    obtain ⟨F1, hF1⟩ : ∃ x, Hid (invL d = x) := ⟨_, rfl⟩
    have hl1 : Hid (F1.length = 8) := by rw [← hF1.out]; exact Lib.hid rfl
    have hp1 : Hid (∀ W, Below w.heap.size w W → Calls Tryz.prog 10 #[.agg D] W fun e w' => ∃ A c, e = .returned (.agg #[.int .i64 0, .string n1, .string i1, .slice A 8 c]) ∧ FieldsAt w' A F1 ∧ Below W.heap.size W w') := by
      intro W hW
      have h := invoice_any d W (Lib.hid (hok.out.below hW)) (he'.out.below hW)
      rw [hD.out, hF1.out, hn1.out, hi1.out] at h
      exact h.mono fun e w' hq => pap_fin hl1 hq
    have hr1 : Hid (∀ W, Below w.heap.size w W → Calls Tryz.prog 11 #[.agg D] W fun e w' => ∃ A c, e = .returned (.agg #[.int .i64 0, .string n1, .string i1, .slice A 8 c]) ∧ FieldsAt w' A F1 ∧ Below W.heap.size W w') := by
      intro W hW
      have h := rinvoice_any d W (Lib.hid (hok.out.below hW)) (he'.out.below hW)
      rw [hD.out, hF1.out, hn1.out, hi1.out] at h
      exact h.mono fun e w' hq => pap_fin hl1 hq
    obtain ⟨n2, hn2⟩ : ∃ x, Hid (mkB [112, 107, 45] ++ d.number = x) := ⟨_, rfl⟩
    obtain ⟨i2, hi2⟩ : ∃ x, Hid (d.seller = x) := ⟨_, rfl⟩
    obtain ⟨F2, hF2⟩ : ∃ x, Hid (packL d = x) := ⟨_, rfl⟩
    have hl2 : Hid (F2.length = 6) := by rw [← hF2.out]; exact Lib.hid rfl
    have hp2 : Hid (∀ W, Below w.heap.size w W → Calls Tryz.prog 12 #[.agg D] W fun e w' => ∃ A c, e = .returned (.agg #[.int .i64 1, .string n2, .string i2, .slice A 6 c]) ∧ FieldsAt w' A F2 ∧ Below W.heap.size W w') := by
      intro W hW
      have h := packing_any d W (Lib.hid (hok.out.below hW)) (he'.out.below hW)
      rw [hD.out, hF2.out, hn2.out, hi2.out] at h
      exact h.mono fun e w' hq => pap_fin hl2 hq
    have hr2 : Hid (∀ W, Below w.heap.size w W → Calls Tryz.prog 13 #[.agg D, .string LT] W fun e w' => ∃ A c, e = .returned (.agg #[.int .i64 1, .string n2, .string i2, .slice A 6 c]) ∧ FieldsAt w' A F2 ∧ Below W.heap.size W w') := by
      intro W hW
      have h := rpacking_any d W (Lib.hid (hok.out.below hW)) (he'.out.below hW)
      rw [hD.out, hF2.out, hn2.out, hi2.out, hLT.out] at h
      exact h.mono fun e w' hq => pap_fin hl2 hq
    obtain ⟨n3, hn3⟩ : ∃ x, Hid (mkB [105, 110, 45] ++ d.number = x) := ⟨_, rfl⟩
    obtain ⟨i3, hi3⟩ : ∃ x, Hid (d.insurer = x) := ⟨_, rfl⟩
    obtain ⟨F3, hF3⟩ : ∃ x, Hid (coverL d cu am = x) := ⟨_, rfl⟩
    have hl3 : Hid (F3.length = 5) := by rw [← hF3.out]; exact Lib.hid rfl
    have hp3 : Hid (∀ W, Below w.heap.size w W → Calls Tryz.prog 15 #[.agg D, .agg #[.string cu, .int .i64 am]] W fun e w' => ∃ A c, e = .returned (.agg #[.int .i64 3, .string n3, .string i3, .slice A 5 c]) ∧ FieldsAt w' A F3 ∧ Below W.heap.size W w') := by
      intro W hW
      have h := cover_any d cu am W (Lib.hid (hok.out.below hW)) ham (he'.out.below hW)
      rw [hD.out, hF3.out, hn3.out, hi3.out] at h
      exact h.mono fun e w' hq => pap_fin hl3 hq
    have hr3 : Hid (∀ W, Below w.heap.size w W → Calls Tryz.prog 16 #[.agg D, .agg #[.string cu, .int .i64 am]] W fun e w' => ∃ A c, e = .returned (.agg #[.int .i64 3, .string n3, .string i3, .slice A 5 c]) ∧ FieldsAt w' A F3 ∧ Below W.heap.size W w') := by
      intro W hW
      have h := rcover_any d cu am W (Lib.hid (hok.out.below hW)) ham (he'.out.below hW)
      rw [hD.out, hF3.out, hn3.out, hi3.out] at h
      exact h.mono fun e w' hq => pap_fin hl3 hq
    obtain ⟨n4, hn4⟩ : ∃ x, Hid (mkB [111, 114, 45] ++ d.number = x) := ⟨_, rfl⟩
    obtain ⟨i4, hi4⟩ : ∃ x, Hid (d.seller = x) := ⟨_, rfl⟩
    obtain ⟨F4, hF4⟩ : ∃ x, Hid (originL d co = x) := ⟨_, rfl⟩
    have hl4 : Hid (F4.length = 3) := by rw [← hF4.out]; exact Lib.hid rfl
    have hp4 : Hid (∀ W, Below w.heap.size w W → Calls Tryz.prog 17 #[.agg D, .string co] W fun e w' => ∃ A c, e = .returned (.agg #[.int .i64 4, .string n4, .string i4, .slice A 3 c]) ∧ FieldsAt w' A F4 ∧ Below W.heap.size W w') := by
      intro W hW
      have h := origin_any d co W (Lib.hid (hok.out.below hW)) (he'.out.below hW)
      rw [hD.out, hF4.out, hn4.out, hi4.out] at h
      exact h.mono fun e w' hq => pap_fin hl4 hq
    have hr4 : Hid (∀ W, Below w.heap.size w W → Calls Tryz.prog 18 #[.agg D, .string co] W fun e w' => ∃ A c, e = .returned (.agg #[.int .i64 4, .string n4, .string i4, .slice A 3 c]) ∧ FieldsAt w' A F4 ∧ Below W.heap.size W w') := by
      intro W hW
      have h := rorigin_any d co W (Lib.hid (hok.out.below hW)) (he'.out.below hW)
      rw [hD.out, hF4.out, hn4.out, hi4.out] at h
      exact h.mono fun e w' hq => pap_fin hl4 hq
    clear hDc0
    go_wp2_with fail
    obtain ⟨w3, hw3⟩ : ∃ W, W = w1 := ⟨_, rfl⟩
    subst hw3
    have hB3 := hB1
    have hk3 := hk1
    have hm3 := hm1
    clear hB1 hk1 hm1 m0
    refine wp_region_held (S := fun W => Blk W w.heap.size 26 D ∧ Blk W (w.heap.size + 1) 23 #[.string cu, .int .i64 am]) (by kernel_rfl) ?_
    have HSV : Blk w3.drew w.heap.size 26 D ∧ Blk w3.drew (w.heap.size + 1) 23 #[.string cu, .int .i64 am] := ⟨hk3.out.drew, hm3.out.drew⟩
    refine wpAnyH_take (i := 0) rfl (by kernel_rfl) (by kernel_rfl) (by kernel_rfl) (fun _ _ _ h => h) (yields_blkg (by rfl) rfl rfl Tryz.underlying26 rfl (by rw [hDs.out]; kernel_rfl) (fun _ h => h.1)) HSV ?_
    go_simp
    refine wpAnyH_take (i := 2) rfl (by kernel_rfl) (by kernel_rfl) (by kernel_rfl) (fun _ _ _ h => h) (yields_blkg (by rfl) rfl rfl Tryz.underlying26 rfl (by rw [hDs.out]; kernel_rfl) (fun _ h => h.1)) HSV ?_
    go_simp
    refine wpAnyH_all (rs := [1]) (by kernel_rfl) (by decide) ?_
    intro i hi'
    obtain rfl := List.mem_singleton.1 hi'
    refine held_callg (f := 10) (args := #[.agg D]) rfl (by rfl) (by go_simp) ?_
    refine (hp1.out _ (hB3.out.drew)).mono ?_
    rintro e w4 ⟨A1a, c1a, rfl, hFa, hb4⟩
    have hb4' : Hid (Below w3.heap.size w3 w4) := (Below.refl _ _).drew.trans hb4
    have hB4 : Hid (Below w.heap.size w w4) := hB3.out.trans (hb4'.out.mono hB3.out.size)
    have hk4 := Lib.hid (hk3.out.below hb4'.out hk3.out.lt)
    have hm4 := Lib.hid (hm3.out.below hb4'.out hm3.out.lt)
    have hFa' := Lib.hid hFa
    clear hFa
    clear hb4 HSV hi'
    refine ⟨_, rfl, ?_⟩
    refine ⟨⟨hk4.out, hm4.out⟩, ?_⟩
    have HSV : Blk w4 w.heap.size 26 D ∧ Blk w4 (w.heap.size + 1) 23 #[.string cu, .int .i64 am] := ⟨hk4.out, hm4.out⟩
    go_simp
    refine wpAnyH_all (rs := [3]) (by kernel_rfl) (by decide) ?_
    intro i hi'
    obtain rfl := List.mem_singleton.1 hi'
    refine held_callg (f := 11) (args := #[.agg D]) rfl (by rfl) (by go_simp) ?_
    refine (hr1.out _ hB4.out).mono ?_
    rintro e w5 ⟨A1b, c1b, rfl, hFb, hb5⟩
    have hb5' : Hid (Below w4.heap.size w4 w5) := hb5
    have hB5 : Hid (Below w.heap.size w w5) := hB4.out.trans (hb5'.out.mono hB4.out.size)
    have hk5 := Lib.hid (hk4.out.below hb5'.out hk4.out.lt)
    have hm5 := Lib.hid (hm4.out.below hb5'.out hm4.out.lt)
    have hFa' := Lib.hid (hFa'.out.below hb5'.out)
    have hFb' := Lib.hid hFb
    clear hFb
    clear hb5 HSV hi'
    refine ⟨_, rfl, ?_⟩
    refine ⟨⟨hk5.out, hm5.out⟩, ?_⟩
    have HSV : Blk w5 w.heap.size 26 D ∧ Blk w5 (w.heap.size + 1) 23 #[.string cu, .int .i64 am] := ⟨hk5.out, hm5.out⟩
    go_simp
    refine wpAnyH_all (rs := [4]) (by kernel_rfl) (by decide) ?_
    intro i hi'
    obtain rfl := List.mem_singleton.1 hi'
    refine held_callg (f := 9) (args := #[.agg #[.int .i64 0, .string n1, .string i1, .slice A1a 8 c1a], .agg #[.int .i64 0, .string n1, .string i1, .slice A1b 8 c1b]]) rfl (by rfl) (by go_simp) ?_
    refine (alike_any 0 n1 i1 A1a A1b 8 c1a c1b F1 _ (by decide) hl1 hFa' hFb').mono ?_
    rintro e w6 ⟨rfl, hb6⟩
    have hb6' : Hid (Below w5.heap.size w5 w6) := hb6
    have hB6 : Hid (Below w.heap.size w w6) := hB5.out.trans (hb6'.out.mono hB5.out.size)
    have hk6 := Lib.hid (hk5.out.below hb6'.out hk5.out.lt)
    have hm6 := Lib.hid (hm5.out.below hb6'.out hm5.out.lt)
    clear hFa' hFb'
    clear hb6 HSV hi'
    refine ⟨_, rfl, ?_⟩
    refine ⟨⟨hk6.out, hm6.out⟩, ?_⟩
    have HSV : Blk w6 w.heap.size 26 D ∧ Blk w6 (w.heap.size + 1) 23 #[.string cu, .int .i64 am] := ⟨hk6.out, hm6.out⟩
    go_simp
    refine wpAnyH_take (i := 5) rfl (by kernel_rfl) (by kernel_rfl) (by kernel_rfl) (fun _ _ _ h => h) (show YieldsIf _ _ _ _ (.bool true) _ from .inl ⟨by rfl, fun _ _ => by go_simp⟩) HSV ?_
    go_simp
    refine wpAnyH_take (i := 6) rfl (by kernel_rfl) (by kernel_rfl) (by kernel_rfl) (fun _ _ _ h => h) (yields_blkg (by rfl) rfl rfl Tryz.underlying26 rfl (by rw [hDs.out]; kernel_rfl) (fun _ h => h.1)) HSV ?_
    go_simp
    refine wpAnyH_take (i := 8) rfl (by kernel_rfl) (by kernel_rfl) (by kernel_rfl) (fun _ _ _ h => h) (yields_blkg (by rfl) rfl rfl Tryz.underlying26 rfl (by rw [hDs.out]; kernel_rfl) (fun _ h => h.1)) HSV ?_
    go_simp
    refine wpAnyH_take (i := 9) rfl (by kernel_rfl) (by kernel_rfl) (by kernel_rfl) (fun _ _ _ h => h) (show YieldsIf _ _ _ _ (.pointer (some ⟨w.heap.size, 11, none⟩)) _ from .inl ⟨by rfl, fun _ _ => by go_simp⟩) HSV ?_
    go_simp
    refine wpAnyH_take (i := 10) rfl (by kernel_rfl) (by kernel_rfl) (by kernel_rfl) (fun _ _ _ h => h) (show YieldsIf _ _ _ _ (.slice dA dn dc) _ from .inl ⟨by rfl, fun W hW => by have hc : W.cell? ⟨w.heap.size, 11, none⟩ = some (.slice dA dn dc) := (hW.1.cell 11).trans hDc.out; go_simp⟩) HSV ?_
    go_simp
    refine wpAnyH_all (rs := [7]) (by kernel_rfl) (by decide) ?_
    intro i hi'
    obtain rfl := List.mem_singleton.1 hi'
    refine held_callg (f := 12) (args := #[.agg D]) rfl (by rfl) (by go_simp) ?_
    refine (hp2.out _ hB6.out).mono ?_
    rintro e w7 ⟨A2a, c2a, rfl, hFa, hb7⟩
    have hb7' : Hid (Below w6.heap.size w6 w7) := hb7
    have hB7 : Hid (Below w.heap.size w w7) := hB6.out.trans (hb7'.out.mono hB6.out.size)
    have hk7 := Lib.hid (hk6.out.below hb7'.out hk6.out.lt)
    have hm7 := Lib.hid (hm6.out.below hb7'.out hm6.out.lt)
    have hFa' := Lib.hid hFa
    clear hFa
    clear hb7 HSV hi'
    refine ⟨_, rfl, ?_⟩
    refine ⟨⟨hk7.out, hm7.out⟩, ?_⟩
    have HSV : Blk w7 w.heap.size 26 D ∧ Blk w7 (w.heap.size + 1) 23 #[.string cu, .int .i64 am] := ⟨hk7.out, hm7.out⟩
    go_simp
    refine wpAnyH_all (rs := [11]) (by kernel_rfl) (by decide) ?_
    intro i hi'
    obtain rfl := List.mem_singleton.1 hi'
    refine held_callg (f := 14) (args := #[.slice dA dn dc]) rfl (by rfl) (by go_simp) ?_
    refine (hlist.out _ hB7.out).mono ?_
    rintro e w8 ⟨rfl, hb8⟩
    have hb8' : Hid (Below w7.heap.size w7 w8) := hb8
    have hB8 : Hid (Below w.heap.size w w8) := hB7.out.trans (hb8'.out.mono hB7.out.size)
    have hk8 := Lib.hid (hk7.out.below hb8'.out hk7.out.lt)
    have hm8 := Lib.hid (hm7.out.below hb8'.out hm7.out.lt)
    have hFa' := Lib.hid (hFa'.out.below hb8'.out)
    clear hb8 HSV hi'
    refine ⟨_, rfl, ?_⟩
    refine ⟨⟨hk8.out, hm8.out⟩, ?_⟩
    have HSV : Blk w8 w.heap.size 26 D ∧ Blk w8 (w.heap.size + 1) 23 #[.string cu, .int .i64 am] := ⟨hk8.out, hm8.out⟩
    go_simp
    refine wpAnyH_all (rs := [12]) (by kernel_rfl) (by decide) ?_
    intro i hi'
    obtain rfl := List.mem_singleton.1 hi'
    refine held_callg (f := 13) (args := #[.agg D, .string LT]) rfl (by rfl) (by go_simp) ?_
    refine (hr2.out _ hB8.out).mono ?_
    rintro e w9 ⟨A2b, c2b, rfl, hFb, hb9⟩
    have hb9' : Hid (Below w8.heap.size w8 w9) := hb9
    have hB9 : Hid (Below w.heap.size w w9) := hB8.out.trans (hb9'.out.mono hB8.out.size)
    have hk9 := Lib.hid (hk8.out.below hb9'.out hk8.out.lt)
    have hm9 := Lib.hid (hm8.out.below hb9'.out hm8.out.lt)
    have hFa' := Lib.hid (hFa'.out.below hb9'.out)
    have hFb' := Lib.hid hFb
    clear hFb
    clear hb9 HSV hi'
    refine ⟨_, rfl, ?_⟩
    refine ⟨⟨hk9.out, hm9.out⟩, ?_⟩
    have HSV : Blk w9 w.heap.size 26 D ∧ Blk w9 (w.heap.size + 1) 23 #[.string cu, .int .i64 am] := ⟨hk9.out, hm9.out⟩
    go_simp
    refine wpAnyH_all (rs := [13]) (by kernel_rfl) (by decide) ?_
    intro i hi'
    obtain rfl := List.mem_singleton.1 hi'
    refine held_callg (f := 9) (args := #[.agg #[.int .i64 1, .string n2, .string i2, .slice A2a 6 c2a], .agg #[.int .i64 1, .string n2, .string i2, .slice A2b 6 c2b]]) rfl (by rfl) (by go_simp) ?_
    refine (alike_any 1 n2 i2 A2a A2b 6 c2a c2b F2 _ (by decide) hl2 hFa' hFb').mono ?_
    rintro e w10 ⟨rfl, hb10⟩
    have hb10' : Hid (Below w9.heap.size w9 w10) := hb10
    have hB10 : Hid (Below w.heap.size w w10) := hB9.out.trans (hb10'.out.mono hB9.out.size)
    have hk10 := Lib.hid (hk9.out.below hb10'.out hk9.out.lt)
    have hm10 := Lib.hid (hm9.out.below hb10'.out hm9.out.lt)
    clear hFa' hFb'
    clear hb10 HSV hi'
    refine ⟨_, rfl, ?_⟩
    refine ⟨⟨hk10.out, hm10.out⟩, ?_⟩
    have HSV : Blk w10 w.heap.size 26 D ∧ Blk w10 (w.heap.size + 1) 23 #[.string cu, .int .i64 am] := ⟨hk10.out, hm10.out⟩
    go_simp
    refine wpAnyH_take (i := 14) rfl (by kernel_rfl) (by kernel_rfl) (by kernel_rfl) (fun _ _ _ h => h) (show YieldsIf _ _ _ _ (.bool true) _ from .inl ⟨by rfl, fun _ _ => by go_simp⟩) HSV ?_
    go_simp
    refine wpAnyH_take (i := 15) rfl (by kernel_rfl) (by kernel_rfl) (by kernel_rfl) (fun _ _ _ h => h) (show YieldsIf _ _ _ _ (.bool true) _ from .inl ⟨by rfl, fun _ _ => by go_simp⟩) HSV ?_
    go_simp
    refine wpAnyH_take (i := 16) rfl (by kernel_rfl) (by kernel_rfl) (by kernel_rfl) (fun _ _ _ h => h) (yields_blkg (by rfl) rfl rfl Tryz.underlying26 rfl (by rw [hDs.out]; kernel_rfl) (fun _ h => h.1)) HSV ?_
    go_simp
    refine wpAnyH_take (i := 17) rfl (by kernel_rfl) (by kernel_rfl) (by kernel_rfl) (fun _ _ _ h => h) (yields_blkg (by rfl) rfl rfl Tryz.underlying23 rfl (by kernel_rfl) (fun _ h => h.2)) HSV ?_
    go_simp
    refine wpAnyH_take (i := 19) rfl (by kernel_rfl) (by kernel_rfl) (by kernel_rfl) (fun _ _ _ h => h) (yields_blkg (by rfl) rfl rfl Tryz.underlying26 rfl (by rw [hDs.out]; kernel_rfl) (fun _ h => h.1)) HSV ?_
    go_simp
    refine wpAnyH_take (i := 20) rfl (by kernel_rfl) (by kernel_rfl) (by kernel_rfl) (fun _ _ _ h => h) (yields_blkg (by rfl) rfl rfl Tryz.underlying23 rfl (by kernel_rfl) (fun _ h => h.2)) HSV ?_
    go_simp
    refine wpAnyH_all (rs := [18]) (by kernel_rfl) (by decide) ?_
    intro i hi'
    obtain rfl := List.mem_singleton.1 hi'
    refine held_callg (f := 15) (args := #[.agg D, .agg #[.string cu, .int .i64 am]]) rfl (by rfl) (by go_simp) ?_
    refine (hp3.out _ hB10.out).mono ?_
    rintro e w11 ⟨A3a, c3a, rfl, hFa, hb11⟩
    have hb11' : Hid (Below w10.heap.size w10 w11) := hb11
    have hB11 : Hid (Below w.heap.size w w11) := hB10.out.trans (hb11'.out.mono hB10.out.size)
    have hk11 := Lib.hid (hk10.out.below hb11'.out hk10.out.lt)
    have hm11 := Lib.hid (hm10.out.below hb11'.out hm10.out.lt)
    have hFa' := Lib.hid hFa
    clear hFa
    clear hb11 HSV hi'
    refine ⟨_, rfl, ?_⟩
    refine ⟨⟨hk11.out, hm11.out⟩, ?_⟩
    have HSV : Blk w11 w.heap.size 26 D ∧ Blk w11 (w.heap.size + 1) 23 #[.string cu, .int .i64 am] := ⟨hk11.out, hm11.out⟩
    go_simp
    refine wpAnyH_all (rs := [21]) (by kernel_rfl) (by decide) ?_
    intro i hi'
    obtain rfl := List.mem_singleton.1 hi'
    refine held_callg (f := 16) (args := #[.agg D, .agg #[.string cu, .int .i64 am]]) rfl (by rfl) (by go_simp) ?_
    refine (hr3.out _ hB11.out).mono ?_
    rintro e w12 ⟨A3b, c3b, rfl, hFb, hb12⟩
    have hb12' : Hid (Below w11.heap.size w11 w12) := hb12
    have hB12 : Hid (Below w.heap.size w w12) := hB11.out.trans (hb12'.out.mono hB11.out.size)
    have hk12 := Lib.hid (hk11.out.below hb12'.out hk11.out.lt)
    have hm12 := Lib.hid (hm11.out.below hb12'.out hm11.out.lt)
    have hFa' := Lib.hid (hFa'.out.below hb12'.out)
    have hFb' := Lib.hid hFb
    clear hFb
    clear hb12 HSV hi'
    refine ⟨_, rfl, ?_⟩
    refine ⟨⟨hk12.out, hm12.out⟩, ?_⟩
    have HSV : Blk w12 w.heap.size 26 D ∧ Blk w12 (w.heap.size + 1) 23 #[.string cu, .int .i64 am] := ⟨hk12.out, hm12.out⟩
    go_simp
    refine wpAnyH_all (rs := [22]) (by kernel_rfl) (by decide) ?_
    intro i hi'
    obtain rfl := List.mem_singleton.1 hi'
    refine held_callg (f := 9) (args := #[.agg #[.int .i64 3, .string n3, .string i3, .slice A3a 5 c3a], .agg #[.int .i64 3, .string n3, .string i3, .slice A3b 5 c3b]]) rfl (by rfl) (by go_simp) ?_
    refine (alike_any 3 n3 i3 A3a A3b 5 c3a c3b F3 _ (by decide) hl3 hFa' hFb').mono ?_
    rintro e w13 ⟨rfl, hb13⟩
    have hb13' : Hid (Below w12.heap.size w12 w13) := hb13
    have hB13 : Hid (Below w.heap.size w w13) := hB12.out.trans (hb13'.out.mono hB12.out.size)
    have hk13 := Lib.hid (hk12.out.below hb13'.out hk12.out.lt)
    have hm13 := Lib.hid (hm12.out.below hb13'.out hm12.out.lt)
    clear hFa' hFb'
    clear hb13 HSV hi'
    refine ⟨_, rfl, ?_⟩
    refine ⟨⟨hk13.out, hm13.out⟩, ?_⟩
    have HSV : Blk w13 w.heap.size 26 D ∧ Blk w13 (w.heap.size + 1) 23 #[.string cu, .int .i64 am] := ⟨hk13.out, hm13.out⟩
    go_simp
    refine wpAnyH_take (i := 23) rfl (by kernel_rfl) (by kernel_rfl) (by kernel_rfl) (fun _ _ _ h => h) (show YieldsIf _ _ _ _ (.bool true) _ from .inl ⟨by rfl, fun _ _ => by go_simp⟩) HSV ?_
    go_simp
    refine wpAnyH_take (i := 24) rfl (by kernel_rfl) (by kernel_rfl) (by kernel_rfl) (fun _ _ _ h => h) (show YieldsIf _ _ _ _ (.bool true) _ from .inl ⟨by rfl, fun _ _ => by go_simp⟩) HSV ?_
    go_simp
    refine wpAnyH_take (i := 25) rfl (by kernel_rfl) (by kernel_rfl) (by kernel_rfl) (fun _ _ _ h => h) (yields_blkg (by rfl) rfl rfl Tryz.underlying26 rfl (by rw [hDs.out]; kernel_rfl) (fun _ h => h.1)) HSV ?_
    go_simp
    refine wpAnyH_take (i := 26) rfl (by kernel_rfl) (by kernel_rfl) (by kernel_rfl) (fun _ _ _ h => h) (show YieldsIf _ _ _ _ (.string co) _ from .inl ⟨by rfl, fun _ _ => by go_simp⟩) HSV ?_
    go_simp
    refine wpAnyH_take (i := 28) rfl (by kernel_rfl) (by kernel_rfl) (by kernel_rfl) (fun _ _ _ h => h) (yields_blkg (by rfl) rfl rfl Tryz.underlying26 rfl (by rw [hDs.out]; kernel_rfl) (fun _ h => h.1)) HSV ?_
    go_simp
    refine wpAnyH_take (i := 29) rfl (by kernel_rfl) (by kernel_rfl) (by kernel_rfl) (fun _ _ _ h => h) (show YieldsIf _ _ _ _ (.string co) _ from .inl ⟨by rfl, fun _ _ => by go_simp⟩) HSV ?_
    go_simp
    refine wpAnyH_all (rs := [27]) (by kernel_rfl) (by decide) ?_
    intro i hi'
    obtain rfl := List.mem_singleton.1 hi'
    refine held_callg (f := 17) (args := #[.agg D, .string co]) rfl (by rfl) (by go_simp) ?_
    refine (hp4.out _ hB13.out).mono ?_
    rintro e w14 ⟨A4a, c4a, rfl, hFa, hb14⟩
    have hb14' : Hid (Below w13.heap.size w13 w14) := hb14
    have hB14 : Hid (Below w.heap.size w w14) := hB13.out.trans (hb14'.out.mono hB13.out.size)
    have hk14 := Lib.hid (hk13.out.below hb14'.out hk13.out.lt)
    have hm14 := Lib.hid (hm13.out.below hb14'.out hm13.out.lt)
    have hFa' := Lib.hid hFa
    clear hFa
    clear hb14 HSV hi'
    refine ⟨_, rfl, ?_⟩
    refine ⟨⟨hk14.out, hm14.out⟩, ?_⟩
    have HSV : Blk w14 w.heap.size 26 D ∧ Blk w14 (w.heap.size + 1) 23 #[.string cu, .int .i64 am] := ⟨hk14.out, hm14.out⟩
    go_simp
    refine wpAnyH_all (rs := [30]) (by kernel_rfl) (by decide) ?_
    intro i hi'
    obtain rfl := List.mem_singleton.1 hi'
    refine held_callg (f := 18) (args := #[.agg D, .string co]) rfl (by rfl) (by go_simp) ?_
    refine (hr4.out _ hB14.out).mono ?_
    rintro e w15 ⟨A4b, c4b, rfl, hFb, hb15⟩
    have hb15' : Hid (Below w14.heap.size w14 w15) := hb15
    have hB15 : Hid (Below w.heap.size w w15) := hB14.out.trans (hb15'.out.mono hB14.out.size)
    have hk15 := Lib.hid (hk14.out.below hb15'.out hk14.out.lt)
    have hm15 := Lib.hid (hm14.out.below hb15'.out hm14.out.lt)
    have hFa' := Lib.hid (hFa'.out.below hb15'.out)
    have hFb' := Lib.hid hFb
    clear hFb
    clear hb15 HSV hi'
    refine ⟨_, rfl, ?_⟩
    refine ⟨⟨hk15.out, hm15.out⟩, ?_⟩
    have HSV : Blk w15 w.heap.size 26 D ∧ Blk w15 (w.heap.size + 1) 23 #[.string cu, .int .i64 am] := ⟨hk15.out, hm15.out⟩
    go_simp
    refine wpAnyH_all (rs := [31]) (by kernel_rfl) (by decide) ?_
    intro i hi'
    obtain rfl := List.mem_singleton.1 hi'
    refine held_callg (f := 9) (args := #[.agg #[.int .i64 4, .string n4, .string i4, .slice A4a 3 c4a], .agg #[.int .i64 4, .string n4, .string i4, .slice A4b 3 c4b]]) rfl (by rfl) (by go_simp) ?_
    refine (alike_any 4 n4 i4 A4a A4b 3 c4a c4b F4 _ (by decide) hl4 hFa' hFb').mono ?_
    rintro e w16 ⟨rfl, hb16⟩
    have hb16' : Hid (Below w15.heap.size w15 w16) := hb16
    have hB16 : Hid (Below w.heap.size w w16) := hB15.out.trans (hb16'.out.mono hB15.out.size)
    have hk16 := Lib.hid (hk15.out.below hb16'.out hk15.out.lt)
    have hm16 := Lib.hid (hm15.out.below hb16'.out hm15.out.lt)
    clear hFa' hFb'
    clear hb16 HSV hi'
    refine ⟨_, rfl, ?_⟩
    refine ⟨⟨hk16.out, hm16.out⟩, ?_⟩
    have HSV : Blk w16 w.heap.size 26 D ∧ Blk w16 (w.heap.size + 1) 23 #[.string cu, .int .i64 am] := ⟨hk16.out, hm16.out⟩
    go_simp
    refine wpAnyH_take (i := 32) rfl (by kernel_rfl) (by kernel_rfl) (by kernel_rfl) (fun _ _ _ h => h) (show YieldsIf _ _ _ _ (.bool true) _ from .inl ⟨by rfl, fun _ _ => by go_simp⟩) HSV ?_
    go_simp
    refine wpAnyH_take (i := 33) rfl (by kernel_rfl) (by kernel_rfl) (by kernel_rfl) (fun _ _ _ h => h) (show YieldsIf _ _ _ _ (.bool true) _ from .inl ⟨by rfl, fun _ _ => by go_simp⟩) HSV ?_
    go_simp
    refine wpAnyH_all (rs := [34]) (by kernel_rfl) (by decide) ?_
    intro i hi'
    obtain rfl := List.mem_singleton.1 hi'
    refine held_callg (f := 8) (args := #[]) rfl (by rfl) (by go_simp) ?_
    refine (awake_any _ (he'.out.below hB16.out)).mono ?_
    rintro e w17 ⟨rfl, hb17⟩
    have hb17' : Hid (Below w16.heap.size w16 w17) := hb17
    have hB17 : Hid (Below w.heap.size w w17) := hB16.out.trans (hb17'.out.mono hB16.out.size)
    have hk17 := Lib.hid (hk16.out.below hb17'.out hk16.out.lt)
    have hm17 := Lib.hid (hm16.out.below hb17'.out hm16.out.lt)
    clear hb17 HSV hi'
    refine ⟨_, rfl, ?_⟩
    refine ⟨⟨hk17.out, hm17.out⟩, ?_⟩
    have HSV : Blk w17 w.heap.size 26 D ∧ Blk w17 (w.heap.size + 1) 23 #[.string cu, .int .i64 am] := ⟨hk17.out, hm17.out⟩
    go_simp
    refine wpAnyH_take (i := 35) rfl (by kernel_rfl) (by kernel_rfl) (by kernel_rfl) (fun _ _ _ h => h) (show YieldsIf _ _ _ _ (.bool true) _ from .inl ⟨by rfl, fun _ _ => by go_simp⟩) HSV ?_
    go_simp
    refine wpAnyH_take (i := 36) rfl (by kernel_rfl) (by kernel_rfl) (by kernel_rfl) (fun _ _ _ h => h) (show YieldsIf _ _ _ _ (.bool true) _ from .inl ⟨by rfl, fun _ _ => by go_simp⟩) HSV ?_
    go_simp
    refine wpAnyH_done (by kernel_rfl) ?_ _
    go_wp2_with fail
    go_ret
    exact ⟨rfl, hB17.out⟩
end Go.Proofs.YtnmnknkdnjkpjaaGreatDoor

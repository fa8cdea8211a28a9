/- The document's scanner: the token at a place (walk of one, signs). -/
import Derived.Test.YtjkmhlfjheiekaaGreatDoorSd
namespace Go.Proofs.YtjkmhlfjheiekaaGreatDoor
open Go Go.RowKit Go.BigFrame Go.Maps

set_option maxRecDepth 100000 in
set_option maxHeartbeats 3200000 in
theorem rone_sign2 (s : ByteArray) (k : Nat) (w : World) (hk : k < s.size) (hs : s.size ≤ maxLen) (h1 : Hid (smallB s[k] = false)) (h3 : Hid (s[k] = 60 ∨ s[k] = 62)) (hk2 : k + 1 < s.size) (h4 : Hid (s[k + 1] = 61)) : Calls Tryz.prog 70 #[.string s, .int .i64 k] w (OneOut w s k) := by
  unfold maxLen at hs
  have hT : Hid (Blk (w.alloc (.cells #[.int .i64 0, .int .i64 0, .string ⟨#[]⟩] 89)) w.heap.size 89 #[.int .i64 0, .int .i64 0, .string ⟨#[]⟩]) := Blk.new w 89 _
  have hB : Hid (Below w.heap.size w (w.alloc (.cells #[.int .i64 0, .int .i64 0, .string ⟨#[]⟩] 89))) := (Below.refl _ w).alloc (Nat.le_refl _) _
  have i1 : (k : Int) < (s.size : Int) := by omega
  have i2 : (0 : Int) ≤ (k : Int) := by omega
  have w1 : IntKind.i64.wrap ((k : Int) + 1) = ((k + 1 : Nat) : Int) := by rw [IntWalk.i64_in _ (by omega)]; omega
  have hone : Hid (oneM (s.data.toList.drop k) = .ok (5, (s.extract k (k + 2)).data.toList, 2)) := by
    have h2 : largeB s[k] = false := by rcases h3.out with h | h <;> rw [h] <;> rfl
    have h5 : s[k] ≠ 34 := by rcases h3.out with h | h <;> rw [h] <;> decide
    have h6 : oneSigns.contains s[k] = false := by rcases h3.out with h | h <;> rw [h] <;> rfl
    unfold Hid
    rw [one_sign hk h1.out h2 h5, next_byte hk2, signN, if_neg (by rw [h6]; simp), if_pos ⟨h3.out, by rw [h4.out]⟩]
  have l1 : decide (65 ≤ (s[k].toNat : Int)) = false := by rcases h3.out with h | h <;> rw [h] <;> rfl
  have l2 : ((s[k].toNat : Int) == 34) = false := by rcases h3.out with h | h <;> rw [h] <;> rfl
  have l3 : (((s[k].toNat : Int) == 60) || ((s[k].toNat : Int) == 62)) = true := by rcases h3.out with h | h <;> rw [h] <;> rfl
  have l4 : ((s[k + 1].toNat : Int) == 61) = true := by rw [h4.out]; rfl
  have i3 : ((k + 1 : Nat) : Int) < (s.size : Int) := by omega
  have i4 : (0 : Int) ≤ ((k + 1 : Nat) : Int) := by omega
  have b3 : decide (((k + 1 : Nat) : Int) < (s.size : Int)) = true := by simp; omega
  have w2 : IntKind.i64.wrap (((k + 1 : Nat) : Int) + 1) = ((k + 2 : Nat) : Int) := by rw [IntWalk.i64_in _ (by omega)]; omega
  have i5 : ((k + 2 : Nat) : Int) ≤ (s.size : Int) := by omega
  have i6 : (k : Int) ≤ ((k + 2 : Nat) : Int) := by omega
  have key : ∀ b : Bool, ((s[k].toNat : Int) == 60) = b → (b = false → ((s[k].toNat : Int) == 62) = true) → Calls Tryz.prog 70 #[.string s, .int .i64 k] w (OneOut w s k) := by
    intro b hb hb2
    cases b with
    | true =>
      clear hb2 l3
      go_enter Tryz.func70, Tryz.ntmps70
      go_wp2_with fail
      refine (rrun_any s[k] _).mono ?_
      rintro x w1 ⟨rfl, rfl⟩
      rw [h1.out]
      obtain ⟨wa, hwa⟩ : ∃ x, Hid (w.alloc (.cells #[.int .i64 0, .int .i64 0, .string ⟨#[]⟩] 89) = x) := ⟨_, Lib.hid rfl⟩
      rw [hwa.out] at hT hB ⊢
      clear hwa
      have f0 := hT.out.frozen 0
      have f1 := hT.out.frozen 1
      have f2 := hT.out.frozen 2
      have r0 : wa.cell? ⟨w.heap.size, 0, none⟩ = some (.int .i64 0) := hT.out.cell 0
      have r1 : wa.cell? ⟨w.heap.size, 1, none⟩ = some (.int .i64 0) := hT.out.cell 1
      have r2 : wa.cell? ⟨w.heap.size, 2, none⟩ = some (.string ⟨#[]⟩) := hT.out.cell 2
      have rlt := hT.out.lt
      go_wp2_with fail
      refine bodyPost_ret (results_row_tmp2 rfl _ _ w.heap.size 89 _ _ rfl (((hT.out.set_ 0 _).set_ 1 _).set_ 2 _) Tryz.underlying89 rfl (by kernel_rfl)) rfl ?_
      exact .ok (((hB.out.setCell (Nat.le_refl _) _).setCell (Nat.le_refl _) _).setCell (Nat.le_refl _) _) hone.out (by omega) (by omega) rfl
    | false =>
      have hb3 := hb2 rfl
      clear hb2 l3
      go_enter Tryz.func70, Tryz.ntmps70
      go_wp2_with fail
      refine (rrun_any s[k] _).mono ?_
      rintro x w1 ⟨rfl, rfl⟩
      rw [h1.out]
      obtain ⟨wa, hwa⟩ : ∃ x, Hid (w.alloc (.cells #[.int .i64 0, .int .i64 0, .string ⟨#[]⟩] 89) = x) := ⟨_, Lib.hid rfl⟩
      rw [hwa.out] at hT hB ⊢
      clear hwa
      have f0 := hT.out.frozen 0
      have f1 := hT.out.frozen 1
      have f2 := hT.out.frozen 2
      have r0 : wa.cell? ⟨w.heap.size, 0, none⟩ = some (.int .i64 0) := hT.out.cell 0
      have r1 : wa.cell? ⟨w.heap.size, 1, none⟩ = some (.int .i64 0) := hT.out.cell 1
      have r2 : wa.cell? ⟨w.heap.size, 2, none⟩ = some (.string ⟨#[]⟩) := hT.out.cell 2
      have rlt := hT.out.lt
      go_wp2_with fail
      refine bodyPost_ret (results_row_tmp2 rfl _ _ w.heap.size 89 _ _ rfl (((hT.out.set_ 0 _).set_ 1 _).set_ 2 _) Tryz.underlying89 rfl (by kernel_rfl)) rfl ?_
      exact .ok (((hB.out.setCell (Nat.le_refl _) _).setCell (Nat.le_refl _) _).setCell (Nat.le_refl _) _) hone.out (by omega) (by omega) rfl
  exact key _ rfl (fun h => by rw [h] at l3; simpa using l3)


set_option maxRecDepth 100000 in
set_option maxHeartbeats 6400000 in
theorem rone_rest (s : ByteArray) (k : Nat) (w : World) (hk : k < s.size) (hs : s.size ≤ maxLen) (h1 : Hid (smallB s[k] = false)) (h2 : Hid (largeB s[k] = false)) (h3 : Hid (s[k] ≠ 34)) (h4 : Hid (¬ ((s[k] = 60 ∨ s[k] = 62) ∧ ∃ h : k + 1 < s.size, s[k + 1] = 61))) : Calls Tryz.prog 70 #[.string s, .int .i64 k] w (OneOut w s k) := by
  unfold maxLen at hs
  have hT : Hid (Blk (w.alloc (.cells #[.int .i64 0, .int .i64 0, .string ⟨#[]⟩] 89)) w.heap.size 89 #[.int .i64 0, .int .i64 0, .string ⟨#[]⟩]) := Blk.new w 89 _
  have hB : Hid (Below w.heap.size w (w.alloc (.cells #[.int .i64 0, .int .i64 0, .string ⟨#[]⟩] 89))) := (Below.refl _ w).alloc (Nat.le_refl _) _
  have i1 : (k : Int) < (s.size : Int) := by omega
  have i2 : (0 : Int) ≤ (k : Int) := by omega
  have w1 : IntKind.i64.wrap ((k : Int) + 1) = ((k + 1 : Nat) : Int) := by rw [IntWalk.i64_in _ (by omega)]; omega
  have hone : Hid (oneM (s.data.toList.drop k) = if oneSigns.contains s[k] = true then .ok (5, (s.extract k (k + 1)).data.toList, 1) else .error 2) := by
    unfold Hid
    rw [one_sign hk h1.out h2.out h3.out, signN]
    by_cases hc : oneSigns.contains s[k] = true
    · rw [if_pos hc, if_pos hc]
    · rw [if_neg hc, if_neg hc, if_neg]
      rintro ⟨g1, g2⟩
      refine h4.out ⟨g1, ?_⟩
      have hlt : k + 1 < s.size := by
        have := (List.getElem?_eq_some_iff.1 g2).1
        simpa using this
      refine ⟨hlt, ?_⟩
      rw [next_byte hlt] at g2
      exact Option.some.inj g2
  have hq : ((s[k].toNat : Int) == 34) = false := byte_no (n := 34) (by omega) h3.out
  have hcs : (((s[k].toNat : Int) == 60) = false ∧ ((s[k].toNat : Int) == 62) = false) ∨ ((((s[k].toNat : Int) == 60) = true ∨ ((s[k].toNat : Int) == 60) = false ∧ ((s[k].toNat : Int) == 62) = true) ∧ ((¬ k + 1 < s.size ∧ decide (((k + 1 : Nat) : Int) < (s.size : Int)) = false) ∨ ∃ h : k + 1 < s.size, decide (((k + 1 : Nat) : Int) < (s.size : Int)) = true ∧ ((k + 1 : Nat) : Int) < (s.size : Int) ∧ ((s[k + 1].toNat : Int) == 61) = false)) := by
    by_cases g1 : s[k] = 60
    · refine .inr ⟨.inl (by rw [g1]; rfl), ?_⟩
      by_cases g2 : k + 1 < s.size
      · exact .inr ⟨g2, by simp; omega, by omega, byte_no (n := 61) (by omega) (fun g3 => h4.out ⟨.inl g1, g2, g3⟩)⟩
      · exact .inl ⟨g2, by simp; omega⟩
    · by_cases g1' : s[k] = 62
      · refine .inr ⟨.inr ⟨byte_no (n := 60) (by omega) g1, by rw [g1']; rfl⟩, ?_⟩
        by_cases g2 : k + 1 < s.size
        · exact .inr ⟨g2, by simp; omega, by omega, byte_no (n := 61) (by omega) (fun g3 => h4.out ⟨.inr g1', g2, g3⟩)⟩
        · exact .inl ⟨g2, by simp; omega⟩
      · exact .inl ⟨byte_no (n := 60) (by omega) g1, byte_no (n := 62) (by omega) g1'⟩
  have hln := Lib.hid (large_not h2.out)
  have hb0 : Hid (Blk ((w.alloc (.cells #[.int .i64 0, .int .i64 0, .string ⟨#[]⟩] 89)).alloc (.cells #[.string ⟨#[40]⟩, .string ⟨#[41]⟩, .string ⟨#[44]⟩, .string ⟨#[59]⟩, .string ⟨#[58]⟩, .string ⟨#[46]⟩, .string ⟨#[61]⟩, .string ⟨#[126]⟩] 9)) (w.heap.size + 1) 9 signsA) := blk_second w _ 9 _
  have hb1 : Hid (∀ (W : World), Blk (W.alloc (.cells #[.int .u8 s[k].toNat] 5)) W.heap.size 5 #[.int .u8 s[k].toNat]) := fun W => Blk.new W 5 _
  have hcv : (convert 68 9 (.slice (some ⟨w.heap.size + 1 + 1, 0, none⟩) 1 1)).run Tryz.prog (((w.alloc (.cells #[.int .i64 0, .int .i64 0, .string ⟨#[]⟩] 89)).alloc (.cells #[.string ⟨#[40]⟩, .string ⟨#[41]⟩, .string ⟨#[44]⟩, .string ⟨#[59]⟩, .string ⟨#[58]⟩, .string ⟨#[46]⟩, .string ⟨#[61]⟩, .string ⟨#[126]⟩] 9)).alloc (.cells #[.int .u8 s[k].toNat] 5)) = .ok (.string ⟨[s[k]].toArray⟩) (((w.alloc (.cells #[.int .i64 0, .int .i64 0, .string ⟨#[]⟩] 89)).alloc (.cells #[.string ⟨#[40]⟩, .string ⟨#[41]⟩, .string ⟨#[44]⟩, .string ⟨#[59]⟩, .string ⟨#[58]⟩, .string ⟨#[46]⟩, .string ⟨#[61]⟩, .string ⟨#[126]⟩] 9)).alloc (.cells #[.int .u8 s[k].toNat] 5)) := by
    have hh := hb1.out ((w.alloc (.cells #[.int .i64 0, .int .i64 0, .string ⟨#[]⟩] 89)).alloc (.cells #[.string ⟨#[40]⟩, .string ⟨#[41]⟩, .string ⟨#[44]⟩, .string ⟨#[59]⟩, .string ⟨#[58]⟩, .string ⟨#[46]⟩, .string ⟨#[61]⟩, .string ⟨#[126]⟩] 9))
    have e0 : ((w.alloc (.cells #[.int .i64 0, .int .i64 0, .string ⟨#[]⟩] 89)).alloc (.cells #[.string ⟨#[40]⟩, .string ⟨#[41]⟩, .string ⟨#[44]⟩, .string ⟨#[59]⟩, .string ⟨#[58]⟩, .string ⟨#[46]⟩, .string ⟨#[61]⟩, .string ⟨#[126]⟩] 9)).heap.size = w.heap.size + 1 + 1 := by simp
    rw [e0] at hh
    rw [conv_at _ _ _ hh]
    simp
  have hT3 : Hid (Blk (((w.alloc (.cells #[.int .i64 0, .int .i64 0, .string ⟨#[]⟩] 89)).alloc (.cells #[.string ⟨#[40]⟩, .string ⟨#[41]⟩, .string ⟨#[44]⟩, .string ⟨#[59]⟩, .string ⟨#[58]⟩, .string ⟨#[46]⟩, .string ⟨#[61]⟩, .string ⟨#[126]⟩] 9)).alloc (.cells #[.int .u8 s[k].toNat] 5)) w.heap.size 89 #[.int .i64 0, .int .i64 0, .string ⟨#[]⟩]) := (hT.out.alloc _).alloc _
  have hB3 : Hid (Below w.heap.size w (((w.alloc (.cells #[.int .i64 0, .int .i64 0, .string ⟨#[]⟩] 89)).alloc (.cells #[.string ⟨#[40]⟩, .string ⟨#[41]⟩, .string ⟨#[44]⟩, .string ⟨#[59]⟩, .string ⟨#[58]⟩, .string ⟨#[46]⟩, .string ⟨#[61]⟩, .string ⟨#[126]⟩] 9)).alloc (.cells #[.int .u8 s[k].toNat] 5))) := (hB.out.alloc (by simp) _).alloc (by simp; omega) _
  have hin := Lib.hid (rin_any (some ⟨w.heap.size + 1, 0, none⟩) 8 8 signsT [s[k]] (((w.alloc (.cells #[.int .i64 0, .int .i64 0, .string ⟨#[]⟩] 89)).alloc (.cells #[.string ⟨#[40]⟩, .string ⟨#[41]⟩, .string ⟨#[44]⟩, .string ⟨#[59]⟩, .string ⟨#[58]⟩, .string ⟨#[46]⟩, .string ⟨#[61]⟩, .string ⟨#[126]⟩] 9)).alloc (.cells #[.int .u8 s[k].toNat] 5)) (by unfold maxLen; omega) rfl (txts_blk (hb0.out.alloc _)))
  rw [signs_one] at hin
  have i5 : ((k + 1 : Nat) : Int) ≤ (s.size : Int) := by omega
  have i6 : (k : Int) ≤ ((k + 1 : Nat) : Int) := by omega
  have i4 : (0 : Int) ≤ ((k + 1 : Nat) : Int) := by omega
  obtain ⟨sg, hsg⟩ : ∃ b, Hid (oneSigns.contains s[k] = b) := ⟨_, Lib.hid rfl⟩
  rw [hsg.out] at hin hone
  clear hT hB hb0 hb1
  have hfin : ∀ wa : World, Hid (Blk wa w.heap.size 89 #[.int .i64 0, .int .i64 0, .string ⟨#[]⟩]) → Hid (Below w.heap.size w wa) → True := fun _ _ _ => trivial
  clear hfin
  rcases hln.out with l1 | ⟨l1, l2⟩ <;> rcases hcs with ⟨q1, q2⟩ | ⟨q1 | ⟨q1, q2⟩, ⟨q3, q4⟩ | ⟨q3, b4, b5, q4⟩⟩
  all_goals
    go_enter Tryz.func70, Tryz.ntmps70
    go_wp2_with fail
    refine (rrun_any s[k] _).mono ?_
    rintro x w1 ⟨rfl, rfl⟩
    rw [h1.out]
    go_wp2_with fail
    refine hin.out.mono ?_
    rintro x w1 ⟨rfl, rfl⟩
    clear hcv hin
    obtain ⟨wa, hwa⟩ : ∃ x, Hid (((w.alloc (.cells #[.int .i64 0, .int .i64 0, .string ⟨#[]⟩] 89)).alloc (.cells #[.string ⟨#[40]⟩, .string ⟨#[41]⟩, .string ⟨#[44]⟩, .string ⟨#[59]⟩, .string ⟨#[58]⟩, .string ⟨#[46]⟩, .string ⟨#[61]⟩, .string ⟨#[126]⟩] 9)).alloc (.cells #[.int .u8 s[k].toNat] 5) = x) := ⟨_, Lib.hid rfl⟩
    rw [hwa.out] at hT3 hB3 ⊢
    clear hwa
    have hT := hT3
    have hB := hB3
    have f0 := hT.out.frozen 0
    have f1 := hT.out.frozen 1
    have f2 := hT.out.frozen 2
    have r0 : wa.cell? ⟨w.heap.size, 0, none⟩ = some (.int .i64 0) := hT.out.cell 0
    have r1 : wa.cell? ⟨w.heap.size, 1, none⟩ = some (.int .i64 0) := hT.out.cell 1
    have r2 : wa.cell? ⟨w.heap.size, 2, none⟩ = some (.string ⟨#[]⟩) := hT.out.cell 2
    have rlt := hT.out.lt
    cases sg with
    | true =>
      go_wp2_with fail
      refine bodyPost_ret (results_row_tmp2 rfl _ _ w.heap.size 89 _ _ rfl (((hT.out.set_ 0 _).set_ 1 _).set_ 2 _) Tryz.underlying89 rfl (by kernel_rfl)) rfl ?_
      exact .ok (((hB.out.setCell (Nat.le_refl _) _).setCell (Nat.le_refl _) _).setCell (Nat.le_refl _) _) hone.out (by omega) (by omega) rfl
    | false =>
      go_wp2_with fail
      refine bodyPost_ret (results_row_tmp2 rfl _ _ w.heap.size 89 _ _ rfl (((hT.out.set_ 0 _).set_ 1 _).set_ 2 _) Tryz.underlying89 rfl (by kernel_rfl)) rfl ?_
      exact .bad (((hB.out.setCell (Nat.le_refl _) _).setCell (Nat.le_refl _) _).setCell (Nat.le_refl _) _) hone.out (by decide) rfl


theorem rone_any (s : ByteArray) (k : Nat) (w : World) (hk : k < s.size) (hs : s.size ≤ maxLen) : Calls Tryz.prog 70 #[.string s, .int .i64 k] w (OneOut w s k) := by
  by_cases h1 : smallB s[k] = true
  · exact rone_small s k w hk hs (Lib.hid h1)
  · have h1' : smallB s[k] = false := by simpa using h1
    by_cases h2 : largeB s[k] = true
    · exact rone_large s k w hk hs (Lib.hid h1') (Lib.hid h2)
    · have h2' : largeB s[k] = false := by simpa using h2
      by_cases h3 : s[k] = 34
      · exact rone_quote s k w hk hs (Lib.hid h1') (Lib.hid h3)
      · by_cases h4 : (s[k] = 60 ∨ s[k] = 62) ∧ ∃ h : k + 1 < s.size, s[k + 1] = 61
        · obtain ⟨g1, g2, g3⟩ := h4
          exact rone_sign2 s k w hk hs (Lib.hid h1') (Lib.hid g1) g2 (Lib.hid g3)
        · exact rone_rest s k w hk hs (Lib.hid h1') (Lib.hid h2') (Lib.hid h3) (Lib.hid h4)
end Go.Proofs.YtjkmhlfjheiekaaGreatDoor

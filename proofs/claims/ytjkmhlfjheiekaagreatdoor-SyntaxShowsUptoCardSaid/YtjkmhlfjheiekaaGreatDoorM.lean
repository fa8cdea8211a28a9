/- The scanner: all tokens of a text (plain steps, and the walk of Scan). -/
import Derived.Test.YtjkmhlfjheiekaaGreatDoorL
namespace Go.Proofs.YtjkmhlfjheiekaaGreatDoor
open Go Go.RowKit Go.BigFrame Go.Maps

theorem dropWhile_take (p : UInt8 → Bool) : ∀ l : Txt, l.dropWhile p = l.drop (l.takeWhile p).length
  | [] => rfl
  | c :: l => by
    rw [List.dropWhile_cons, List.takeWhile_cons]
    cases h : p c with
    | true => simp [dropWhile_take p l]
    | false => simp
theorem skip_drop (s : ByteArray) (k : Nat) : (s.data.toList.drop k).dropWhile blankB = s.data.toList.drop (endP blankB s k) := by
  rw [dropWhile_take, List.drop_drop]; rfl
theorem skip_len (s : ByteArray) (k : Nat) : k + ((s.data.toList.drop k).takeWhile blankB).length = endP blankB s k := rfl
theorem scan_end {s : ByteArray} {k j n f : Nat} (hj : endP blankB s k = j) (h : s.size ≤ j) : scanM (f + 1) n k (s.data.toList.drop k) = .ok [] := by
  rw [scanM, if_pos]
  rw [skip_drop, hj]
  exact List.drop_eq_nil_of_le (by simpa using h)
theorem skip_more {s : ByteArray} {k j : Nat} (hj : endP blankB s k = j) (h : j < s.size) : ¬ (s.data.toList.drop k).dropWhile blankB = [] := by
  rw [skip_drop, hj, drop_head h]; simp
theorem scan_full {s : ByteArray} {k j n f : Nat} (hj : endP blankB s k = j) (h : j < s.size) (hn : 4096 ≤ n) : scanM (f + 1) n k (s.data.toList.drop k) = .error (j, 7) := by
  rw [scanM, if_neg (skip_more hj h), if_pos hn, skip_len, hj]
theorem scan_bad {s : ByteArray} {k j n f : Nat} {cd : Int} (hj : endP blankB s k = j) (h : j < s.size) (hn : n < 4096) (ho : oneM (s.data.toList.drop j) = .error cd) : scanM (f + 1) n k (s.data.toList.drop k) = .error (j, cd) := by
  rw [scanM, if_neg (skip_more hj h), if_neg (by omega), skip_drop, hj, ho]
  simp only [skip_len, hj]
theorem scan_good {s : ByteArray} {k j n f m : Nat} {kd : Int} {t : Txt} (hj : endP blankB s k = j) (h : j < s.size) (hn : n < 4096) (ho : oneM (s.data.toList.drop j) = .ok (kd, t, m)) :
    scanM (f + 1) n k (s.data.toList.drop k) = match scanM f (n + 1) (j + m) (s.data.toList.drop (j + m)) with | .error e => .error e | .ok l => .ok (⟨kd, j, t⟩ :: l) := by
  rw [scanM, if_neg (skip_more hj h), if_neg (by omega), skip_drop, hj, ho]
  simp only [skip_len, hj, List.drop_drop]
  rfl
def preX (l : List Tok) (r : Except (Nat × Int) (List Tok)) : Except (Nat × Int) (List Tok) := match r with
  | .error e => .error e
  | .ok m => .ok (l ++ m)
theorem preX_cons (l : List Tok) (x : Tok) (r : Except (Nat × Int) (List Tok)) : preX l (match r with | .error e => .error e | .ok l => .ok (x :: l)) = preX (l ++ [x]) r := by
  cases r with
  | error e => rfl
  | ok m => simp [preX]

def Tok.cells (t : Tok) : Array Value := tokC t.kind t.place ⟨t.text.toArray⟩
def tokL (l : List Tok) : List Value := l.flatMap fun t => t.cells.toList
theorem tokL_len (l : List Tok) : (tokL l).length = l.length * 3 := by
  induction l with
  | nil => rfl
  | cons x l ih => show (x.cells.toList ++ tokL l).length = _; rw [List.length_append, ih, List.length_cons]; simp [Tok.cells, tokC]; omega
theorem tokL_snoc (l : List Tok) (x : Tok) : tokL (l ++ [x]) = tokL l ++ x.cells.toList := by simp [tokL]
theorem tokC_one (kd : Int) (k : Int) (t : ByteArray) : ∀ u ∈ (#[.int .i64 kd, .int .i64 k, .string t] : Array Value).toList, u.oneCell' = true := by
  intro u hu
  simp at hu
  rcases hu with rfl | rfl | rfl <;> rfl
theorem own_but {w w' : World} {B z : Nat} {e : TypeId} {size n : Nat} {v : Value} {xs : List Value} (h : w.ownsRow B e size v n xs) (hb : But z w w') (hz : z < B) : w'.ownsRow B e size v n xs := by
  obtain ⟨h1, h0 | ⟨g, cap, cur, hv, hg, hh, r⟩⟩ := h
  · exact ⟨h1, .inl h0⟩
  · have hlt : g < w.heap.size := by
      rcases Nat.lt_or_ge g w.heap.size with h | h
      · exact h
      · rw [Array.getElem?_eq_none h] at hh; cases hh
    exact ⟨h1, .inr ⟨g, cap, cur, hv, hg, (hb.block g hlt (by omega)).trans hh, r⟩⟩
theorem own_slice {w : World} {B : Nat} {e : TypeId} {size n : Nat} {v : Value} {xs : List Value} (h : w.ownsRow B e size v n xs) : ∃ p c, v = .slice p n c := by
  obtain ⟨h1, ⟨rfl, rfl⟩ | ⟨g, cap, cur, hv, hg, hh, r⟩⟩ := h
  · exact ⟨_, _, rfl⟩
  · exact ⟨_, _, hv⟩
theorem own_empty {w : World} {B : Nat} {e : TypeId} {size : Nat} : w.ownsRow B e size (.slice none 0 0) 0 [] := ⟨by simp, .inl ⟨rfl, rfl⟩⟩

set_option maxRecDepth 100000 in
set_option maxHeartbeats 3200000 in
theorem scan_any (s : ByteArray) (w : World) (hs : s.size ≤ maxLen) (he : Hid (Env w)) :
    Calls Tryz.prog 28 #[.string s] w fun e w' => Below w.heap.size w w' ∧
      ((∃ l v, scanT s.data.toList = .ok l ∧ e = .returned (.tuple #[v, .int .i64 s.size, .int .i64 0]) ∧ l.length ≤ 4096 ∧ w'.ownsRow (w.heap.size + 1) 89 3 v l.length (tokL l)) ∨
       (∃ k cd, scanT s.data.toList = .error (k, cd) ∧ cd ≠ 0 ∧ e = .returned (.tuple #[.slice none 0 0, .int .i64 (k : Nat), .int .i64 cd]))) := by
  have hs' := Lib.hid hs
  unfold maxLen at hs
  have h8 := he.out.size
  obtain ⟨i0, hi, hz0, hz1, hz2⟩ := info_parts (P := Tryz.prog) (e := 89) (z := .agg #[.int .i64 0, .int .i64 0, .string ⟨#[]⟩]) (size := 3) (bytes := 32) (by kernel_rfl)
  go_enter Tryz.func28, Tryz.ntmps28
  go_wp2_with fail
  have hb0 : Hid (ScanAt (w.alloc (.cells #[.string s, .int .i64 0] 105)) w.heap.size s 0) := Blk.new w 105 #[.string s, .int .i64 0]
  have hB0 : Hid (Below w.heap.size w (w.alloc (.cells #[.string s, .int .i64 0] 105))) := (Below.refl _ w).alloc (Nat.le_refl _) _
  obtain ⟨wa, hwa⟩ : ∃ wa, Hid (w.alloc (.cells #[.string s, .int .i64 0] 105) = wa) := ⟨_, Lib.hid rfl⟩
  have hsa : Hid (wa.heap.size = w.heap.size + 1) := by unfold Hid; rw [← hwa.out]; simp
  rw [hwa.out] at hb0 hB0 ⊢
  clear hwa
  go_loopg [5, 7, 8, 9] (s.size + 1) (fun gg v _ _ _ wr => ∃ (l : List Tok) (k f : Nat), k ≤ s.size ∧ gg = s.size + 1 - k ∧ s.size - k < f ∧ l.length ≤ 4096 ∧ Hid (scanT s.data.toList = preX l (scanM f l.length k (s.data.toList.drop k))) ∧ Hid (wr.ownsRow (w.heap.size + 1) 89 3 v l.length (tokL l)) ∧ Hid (ScanAt wr w.heap.size s k) ∧ Hid (Below w.heap.size w wr) ∧ Hid (w.heap.size + 1 ≤ wr.heap.size))
  case atStart => 
    refine ⟨[], 0, s.size + 1, by omega, by omega, by omega, by simp, ?_, own_empty, hb0, hB0, by have := hsa.out; unfold Hid; omega⟩
    unfold Hid scanT
    rw [List.drop_zero, show s.data.toList.length = s.size by simp]
    show _ = preX [] (scanM (s.size + 1) 0 0 s.data.toList)
    cases scanM (s.size + 1) 0 0 s.data.toList <;> rfl
  case round =>
    obtain ⟨l, k, f, hk, hgg, hf, hl, hsc, hown, hbr, hBr, hsz⟩ := hrel
    have hgg' := Lib.hid hgg
    clear hgg
    obtain ⟨f, rfl⟩ : ∃ f', f = f' + 1 := ⟨f - 1, by omega⟩
    obtain ⟨j, hj⟩ : ∃ j, Hid (endP blankB s k = j) := ⟨_, Lib.hid rfl⟩
    have hjle : j ≤ s.size := by rw [← hj.out]; exact end_le hk
    have hjk : k ≤ j := by rw [← hj.out]; exact end_ge _ _ _
    go_wp2_with fail
    refine (run63_any s k w.heap.size wr hk hs'.out hbr).mono ?_
    rintro e w2 ⟨rfl, hu2, hb2⟩
    rw [hj.out] at hb2
    try rw [hj.out]
    have hb2' := Lib.hid hb2
    have hown2 := Lib.hid (own_but hown.out hu2 (by omega))
    have hB2 : Hid (Below w.heap.size w w2) := hu2.to_below hBr.out (Nat.le_refl _) (by have := hsz.out; omega)
    have hsz2 : Hid (w.heap.size + 1 ≤ w2.heap.size) := Nat.le_trans hsz.out hu2.size
    clear hu2 hb2 hown hbr hBr hsz
    have d1 : w2.cell? ⟨w.heap.size, 1, none⟩ = some (.int .i64 j) := hb2'.out.cell 1
    obtain ⟨p, c, rfl⟩ := own_slice hown2.out
    by_cases hlt : j < s.size
    · have b1 : decide ((s.size : Int) ≤ (j : Int)) = false := by simp; omega
      by_cases hfull : 4096 ≤ l.length
      · have b2 : decide ((4096 : Int) ≤ (l.length : Int)) = true := by simp; omega
        have hst := Lib.hid (scan_full (f := f) hj.out hlt hfull)
        go_wp2_with fail
        go_ret3
        exact ⟨hB2.out, .inr ⟨j, 7, by rw [hsc.out, hst.out]; rfl, by decide, rfl⟩⟩
      · have b2 : decide ((4096 : Int) ≤ (l.length : Int)) = false := by simp; omega
        have he2 := Lib.hid (he.out.below hB2.out)
        go_wp2_with fail
        clear d1
        refine (next_any s j w.heap.size w2 hlt hs'.out hb2' he2 (by omega)).mono ?_
        rintro e w3 ⟨hu3, hcase⟩
        have hown3 := Lib.hid (own_but hown2.out hu3 (by omega))
        have hB3 : Hid (Below w.heap.size w w3) := hu3.to_below hB2.out (Nat.le_refl _) (by have := hsz2.out; omega)
        have hsz3 : Hid (w.heap.size + 1 ≤ w3.heap.size) := Nat.le_trans hsz2.out hu3.size
        rcases hcase with ⟨kd, tx, m, hone, hm, hle, rfl, hb3⟩ | ⟨cd, a, b, t, hone, hcd, rfl⟩
        · have hst := Lib.hid (scan_good (f := f) (n := l.length) hj.out hlt (by omega) hone)
          have hb3' := Lib.hid hb3
          have hq1 : Hid (l.length + 1 ≤ maxLen) := by unfold Hid maxLen; omega
          have hq2 : Hid ((l.length + 1) * 32 ≤ 140737488355328) := by unfold Hid; omega
          clear hu3 hb3 hone hown2 hB2 he2 hb2'
          unfold tokC
          go_wp2_with (at_builtin; go_must (refine wpList_app3 (w.heap.size + 1) rfl (.tmp 42) (.tmp 44) 53 rfl 89 i0 _ 3 32 Tryz.underlying53 hi hz0 hz1 hz2 rfl (by decide) _ l.length (tokL l) rfl (w3.heap.size + 1) 1 #[.int .i64 kd, .int .i64 j, .string ⟨tx.toArray⟩] rfl ((hown3.out.alloc _).alloc _) (blk_second w3 _ 89 _) rfl (tokC_one _ _ _) hq1.out hq2.out (Nat.le_trans hsz3.out (by simp; omega)) ?_); intro v5 w5 ho5 hb5 hg5)
          have hB5 : Hid (Below w.heap.size w w5) := ((hB3.out.alloc hB3.out.size _).alloc (by have := hB3.out.size; simp; omega) _).trans (hb5.mono (Nat.le_succ _))
          have hb5' : Hid (ScanAt w5 w.heap.size s (j + m)) := ((hb3'.out.alloc _).alloc _).grown hg5 (fun h => own_blk_ne ((hown3.out.alloc (.cells #[.int .i64 kd, .int .i64 j, .string ⟨tx.toArray⟩] 89)).alloc (.cells #[.int .i64 kd, .int .i64 j, .string ⟨tx.toArray⟩] 89)) ((hb3'.out.alloc _).alloc _) (by decide) h.symm)
          have ho5' := Lib.hid ho5
          have hsz5 : Hid (w.heap.size + 1 ≤ w5.heap.size) := by
            have h1 := hsz3.out
            have h2 := hb5.size
            simp at h2
            unfold Hid; omega
          clear ho5 hg5 hb5
          go_roundg (s.size + 1 - (j + m))
          case measure => have := hgg'.out; omega
          case rel =>
            refine ⟨l ++ [⟨kd, j, tx⟩], j + m, f, hle, rfl, by omega, by simp; omega, ?_, ?_, hb5', hB5, hsz5⟩
            · rw [hsc.out, hst.out, List.length_append, List.length_singleton]
              exact preX_cons _ _ _
            · rw [tokL_snoc, List.length_append, List.length_singleton]
              exact ho5'.out
        · have hst := Lib.hid (scan_bad (f := f) (n := l.length) hj.out hlt (by omega) hone)
          have b3 : (cd != 0) = true := by simp [hcd]
          clear hu3 hone
          go_wp2_with fail
          go_ret3
          exact ⟨hB3.out.alloc hB3.out.size _, .inr ⟨j, cd, by rw [hsc.out, hst.out]; rfl, hcd, rfl⟩⟩
    · have b1 : decide ((s.size : Int) ≤ (j : Int)) = true := by simp; omega
      have hst := Lib.hid (scan_end (f := f) (n := l.length) hj.out (by omega))
      go_wp2_with fail
      go_ret3
      exact ⟨hB2.out, .inl ⟨l, _, by rw [hsc.out, hst.out]; simp [preX], rfl, hl, hown2.out⟩⟩
end Go.Proofs.YtjkmhlfjheiekaaGreatDoor

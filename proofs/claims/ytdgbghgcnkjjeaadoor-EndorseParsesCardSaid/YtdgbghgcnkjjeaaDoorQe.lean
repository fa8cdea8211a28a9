/- The walk of the law EndorseParses. -/
import Derived.Test.YtdgbghgcnkjjeaaDoorQd
namespace Go.Proofs.YtdgbghgcnkjjeaaDoor
open Go.RowKit Go.BigFrame

set_option maxRecDepth 100000 in
set_option maxHeartbeats 800000 in
theorem textE_wide (A : Option Addr) (n c : Nat) (l : List End) (w : World) (hn : n ≤ 3000) (hl : Hid (l.length = n)) (hA : Hid (EndsAt w A l)) (hS : Hid (Short l)) (he : Env w) :
    Calls Tryd.prog 7 #[.slice A n c] w fun e w' => e = .returned (.string ⟨(textL l).toArray⟩) ∧ Below w.heap.size w w' := by
  have he' := Lib.hid he
  clear he
  go_enter Tryd.func7, Tryd.ntmps7
  go_wp2
  go_loopw [2, 5, 8] (fun _ _ i wr => ∃ (k : Nat) (acc : List UInt8), k ≤ n ∧ i = .int .i64 k ∧ Hid ((l.take k).all End.okB = true ∧ acc = (l.take k).flatMap lineL) ∧ Hid (Lib.IsBuilder 40 5 w.heap.size w.heap.size (Lib.byteCells acc) wr) ∧ Below w.heap.size w wr) (fun _ _ i _ => n - (intOf i).toNat)
  case atStart => exact ⟨0, [], Nat.zero_le _, rfl, by simp [Hid], builder_new w, (Below.refl _ _).alloc (Nat.le_refl _) _⟩
  case round =>
    obtain ⟨k, acc, hk, rfl, hacc, hbld, hB⟩ := hrel
    have hal : Hid (acc.length ≤ 3150000000) := by
      have := text_len (l.take k) hacc.out.1 (fun x hx => hS.out x (List.mem_of_mem_take hx))
      rw [← hacc.out.2, List.length_take] at this
      have h2 : min k l.length ≤ 3000 := by omega
      unfold Hid; omega
    by_cases hlt : k < n
    · obtain ⟨x, hx⟩ : ∃ x, l[k]? = some x := ⟨_, List.getElem?_eq_getElem (by have := hl.out; omega)⟩
      have hx' : Hid (l[k]? = some x) := hx
      have hsx : Hid (x.frm.size ≤ 100 ∧ x.to.size ≤ 100) := hS.out x (List.mem_of_getElem? hx)
      clear hx
      obtain ⟨b, off, rfl, h0, h1, h2, h3, h4, h5⟩ := (hA.out.below hB) k x hx'.out
      go_wp2_with fail
      refine (may_any _ _ _ _ _ h4 h5).mono ?_
      rintro e w1 ⟨rfl, hb1⟩
      have hb01 : Below wr.heap.size wr w1 := ((Below.refl _ wr).alloc (Nat.le_refl _) _).trans (hb1.mono (by simp))
      have hB1 := hB.trans (hb01.mono hB.size)
      have hbld1 : Hid (Lib.IsBuilder 40 5 w.heap.size w.heap.size (Lib.byteCells acc) w1) := builder_below hbld.out hb01
      have he1 : Hid (Env w1) := he'.out.below hB1
      have hc := bcell hb1
      simp only [World.size_alloc] at hc
      have hz : wr.heap.size < w1.heap.size := by have := hb1.size; simp at this; omega
      by_cases hok : x.okB = true
      · have hll : Hid ((lineL x).length ≤ 1050000) := line_len hok hsx.out
        go_wp2_with fail
        refine (lineE_any x _ hok hsx.out he1.out).mono ?_
        rintro e w2 ⟨rfl, hb2⟩
        have hB2 := hB1.trans (hb2.mono hB1.size)
        have hbld2 : Hid (Lib.IsBuilder 40 5 w.heap.size w.heap.size (Lib.byteCells acc) w2) := builder_below hbld1.out hb2
        go_wp2_with fail
        refine (Tryd.Builder_WriteString w.heap.size w.heap.size (Lib.byteCells acc) ⟨(lineL x).toArray⟩ _ hbld2.out (by have := hal.out; have := hll.out; simp [Lib.byteCells, ByteArray.size]; omega) hB2.size).mono ?_
        rintro e w3 ⟨rfl, hbld3, hb3⟩
        rw [cells_cat] at hbld3
        have hbld3' := Lib.hid hbld3
        clear hbld3
        have hB3 := hB2.trans hb3
        go_wp2_with fail
        go_roundw
        case rel =>
          refine ⟨k + 1, acc ++ lineL x, by omega, by go_num, ?_, .inr hbld3'.out, hB3⟩
          obtain ⟨q1, q2⟩ := all_take hx'.out
          unfold Hid; rw [q1, q2, ← hacc.out.2, hacc.out.1, hok]; exact ⟨rfl, rfl⟩
        case measure => simp [intOf]; omega
      · have hok' : x.okB = false := by simpa using hok
        go_wp2_with fail
        go_ret
        exact ⟨by rw [text_no hx'.out hok']; rfl, hB1⟩
    · go_wp2_with fail
      refine (Tryd.Builder_String_any w.heap.size w.heap.size acc _ hbld.out hB.size).mono ?_
      rintro e w1 ⟨rfl, hb1⟩
      go_wp2_with fail
      go_ret
      refine ⟨retS ?_, hB.trans hb1⟩
      have ht := hacc.out
      rw [List.take_of_length_le (by have := hl.out; omega)] at ht
      rw [textL, if_pos ht.1, ht.2]



theorem mk_size (s : ByteArray) : (⟨s.data.toList.toArray⟩ : ByteArray) = s := by cases s; simp
theorem short_ok {l : List End} (h : l.all End.okB = true) : Short l := fun x hx => by
  have := okB_sizes (List.all_eq_true.1 h x hx)
  omega

set_option maxRecDepth 100000 in
set_option maxHeartbeats 1600000 in
theorem parses_law (s : ByteArray) (w : World) (hs : s.size ≤ maxLen) (he : Env w) :
    Calls Tryd.prog 4 #[.string s] w fun e w' => e = .returned (.bool true) ∧ Below w.heap.size w w' := by
  have he' := Lib.hid he
  clear he
  unfold maxLen at hs
  go_enter Tryd.func4, Tryd.ntmps4
  go_wp2_with fail
  refine (awake_any _).mono ?_
  rintro e w1 ⟨rfl, hb1⟩
  by_cases hbig : 3000 < s.size
  · go_wp2_with fail
    go_ret
    exact ⟨rfl, hb1⟩
  have hs3 : s.size ≤ 3000 := by omega
  have hlen : s.data.toList.length = s.size := by simp
  have hP : Calls Tryd.prog 9 #[.string s] w1 (Parsed (parseE s.data.toList) w1) := by
    have := parse_any s.data.toList w1 (by omega) (he'.out.below hb1)
    rwa [mk_size] at this
  have hlen' := Lib.hid hlen
  clear hlen
  go_wp2_with fail
  refine hP.mono ?_
  rintro e w2 ⟨A, c, rfl, hc, hE, hb2⟩
  have hB2 : Below w.heap.size w w2 := hb1.trans (hb2.mono hb1.size)
  obtain ⟨hcode, htext, hcnt⟩ := parseE_fair s.data.toList
  have hokE := parseE_ok s.data.toList
  have hR := parseE_R s.data.toList
  obtain ⟨r, hr⟩ : ∃ r, Hid (r = parseE s.data.toList) := ⟨_, rfl⟩
  rw [← hr.out] at hc hE hcode htext hcnt hokE hR ⊢
  obtain ⟨l, n, f⟩ := r
  simp only at hc hE hcode htext hcnt hokE ⊢
  have hE' := Lib.hid hE
  have htext' := Lib.hid htext
  have hok' := Lib.hid hokE
  have hcode' := Lib.hid hcode
  have hR' := Lib.hid hR
  clear hE htext hokE hcode hR hP
  obtain ⟨m, hm⟩ : ∃ m, Hid (l.length = m) := ⟨_, rfl⟩
  rw [hm.out] at hc hcnt ⊢
  have hm3 : m ≤ 3000 := by have := hlen'.out; omega
  have hmm : m ≤ maxLen := by unfold maxLen; omega
  clear hcnt
  go_wp2_with fail
  refine (parseR_any s _ hs3).mono ?_
  rintro e w3 ⟨A3, c3, rfl, hc3, hE3, hb3⟩
  have hB3 : Below w.heap.size w w3 := hB2.trans (hb3.mono hB2.size)
  rw [← hR'.out] at hc3 hE3 ⊢
  simp only at hc3 hE3 ⊢
  rw [hm.out] at hc3 ⊢
  have hE3' := Lib.hid hE3
  clear hE3
  have hE2 : Hid (EndsAt w3 A l) := hE'.out.below hb3
  rcases hcode'.out with hf | hf
  · subst hf
    have ht := (htext'.out rfl).2
    have ht' := Lib.hid ht
    clear ht
    have hS : Hid (Short l) := short_ok hok'.out
    go_wp2_with (first | (go_at_call 10; refine (same_any _ _ _ _ _ _ l l _ hmm hmm hm hm hE2 hE3').mono ?_; rintro e w4 ⟨rfl, hb4⟩; rw [same_refl]; have hB4 : Below w.heap.size w w4 := hB3.trans (hb4.mono hB3.size); have hE4 : Hid (EndsAt w4 A l) := hE2.out.below hb4) | (go_at_call 7; refine (textE_wide _ _ _ l _ hm3 hm hE4 hS (he'.out.below hB4)).mono ?_; rintro e w5 ⟨rfl, hb5⟩; rw [ht'.out, mk_size]; have hB5 : Below w.heap.size w w5 := hB4.trans (hb5.mono hB4.size)))
    go_ret
    exact ⟨by simp, hB5⟩
  · subst hf
    go_wp2_with ((go_at_call 10; refine (same_any _ _ _ _ _ _ l l _ hmm hmm hm hm hE2 hE3').mono ?_; rintro e w4 ⟨rfl, hb4⟩; rw [same_refl]; have hB4 : Below w.heap.size w w4 := hB3.trans (hb4.mono hB3.size)))
    go_ret
    exact ⟨by simp, hB4⟩
end Go.Proofs.YtdgbghgcnkjjeaaDoor

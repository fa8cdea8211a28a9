/- The walk of the law ExamineJoins. -/
import Derived.Test.YtpnkpnocipkedaaDoorP
import Derived.Test.YtpnkpnocipkedaaDoorI
namespace Go.Proofs.YtpnkpnocipkedaaDoor
open Go Go.RowKit Go.BigFrame Go.Maps

theorem join_app (sep : List UInt8) (m : List (List UInt8)) (hm : m ≠ []) : ∀ (l : List (List UInt8)), l ≠ [] → Lib.join (l ++ m) sep = Lib.join l sep ++ sep ++ Lib.join m sep
  | [], h => absurd rfl h
  | [x], _ => by
    cases m with
    | nil => exact absurd rfl hm
    | cons y m => simp [Lib.join, List.intercalate]
  | x :: y :: l, _ => by
    have ih := join_app sep m hm (y :: l) (by simp)
    have e1 : Lib.join (x :: y :: l ++ m) sep = x ++ sep ++ Lib.join (y :: l ++ m) sep := by simp [Lib.join, List.intercalate, List.intersperse]
    have e2 : Lib.join (x :: y :: l) sep = x ++ sep ++ Lib.join (y :: l) sep := by simp [Lib.join, List.intercalate, List.intersperse]
    rw [e1, ih, e2]; simp [List.append_assoc]
theorem textF_app {l m : List Flt} (hl : l ≠ []) (hm : m ≠ []) : textF (l ++ m) = textF l ++ [59, 32] ++ textF m := by
  unfold textF
  rw [List.map_append, join_app _ _ (by simpa using hm) _ (by simpa using hl)]
theorem oneT_ne (x : Flt) : oneT x ≠ [] := by unfold oneT; simp
theorem textF_ne : ∀ {l : List Flt}, l ≠ [] → textF l ≠ []
  | [], h => absurd rfl h
  | [x], _ => by
    have : textF [x] = oneT x := by simp [textF, Lib.join, List.intercalate]
    rw [this]; exact oneT_ne x
  | x :: y :: l, _ => by
    have : textF (x :: y :: l) = oneT x ++ [59, 32] ++ textF (y :: l) := by
      rw [show x :: y :: l = [x] ++ (y :: l) from rfl, textF_app (by simp) (by simp)]
      simp [textF, Lib.join, List.intercalate]
    rw [this]; simp
theorem textF_nil : textF [] = [] := by simp [textF, Lib.join, List.intercalate]
theorem fcells_len (l : List Flt) : (fcells l).length = l.length * 4 := by
  induction l with
  | nil => rfl
  | cons x l ih => show (x.cells ++ fcells l).length = _; rw [List.length_append, ih]; simp [Flt.cells]; omega
theorem faults_reads {w : World} {A : Option Addr} {l : List Flt} (h : FaultsAt w A l) : Reads w w.heap.size 4 A l.length (fcells l) := by
  refine ⟨fcells_len l, fun hn => ?_⟩
  obtain ⟨b, off, rfl, h0, _⟩ := h 0 l[0] (List.getElem?_eq_getElem hn)
  refine ⟨_, rfl, World.block_lt_of_cell? w _ h0, fun j u hu => ?_⟩
  have hj : j < l.length * 4 := by have := (List.getElem?_eq_some_iff.1 hu).1; rw [fcells_len] at this; exact this
  have hk : j / 4 < l.length := by omega
  obtain ⟨b', off', e, c0, c1, c2, c3⟩ := h (j / 4) l[j / 4] (List.getElem?_eq_getElem hk)
  simp only [Option.some.injEq, Addr.mk.injEq, and_true] at e
  obtain ⟨rfl, rfl⟩ := e
  have hg := fcells_get l (j / 4) l[j / 4] (List.getElem?_eq_getElem hk) (j % 4) (by omega)
  rw [show j / 4 * 4 + j % 4 = j by omega, hu] at hg
  have hadd : Addr.add ⟨b, off, none⟩ j = ⟨b, off + j, none⟩ := by unfold Addr.add; split <;> simp_all
  rw [hadd]
  have hm : j % 4 = 0 ∨ j % 4 = 1 ∨ j % 4 = 2 ∨ j % 4 = 3 := by omega
  rcases hm with hm | hm | hm | hm
  · rw [hm] at hg; simp [Flt.cells] at hg; subst hg
    rw [show off + j = off + j / 4 * 4 by omega]; exact c0
  · rw [hm] at hg; simp [Flt.cells] at hg; subst hg
    rw [show off + j = off + j / 4 * 4 + 1 by omega]; exact c1
  · rw [hm] at hg; simp [Flt.cells] at hg; subst hg
    rw [show off + j = off + j / 4 * 4 + 2 by omega]; exact c2
  · rw [hm] at hg; simp [Flt.cells] at hg; subst hg
    rw [show off + j = off + j / 4 * 4 + 3 by omega]; exact c3
theorem fcells_app (l m : List Flt) : fcells (l ++ m) = fcells l ++ fcells m := by simp [fcells]
theorem smallF_app {l m : List Flt} (hl : smallF l) (hm : smallF m) : smallF (l ++ m) := fun x hx => by
  rcases List.mem_append.1 hx with h | h
  · exact hl x h
  · exact hm x h

theorem ba_toList (s : ByteArray) : s.toList = s.data.toList := by simp [ByteArray.toList_eq]

set_option maxRecDepth 100000 in
set_option maxHeartbeats 3200000 in
theorem joins_law (A : Option Addr) (n c : Nat) (l : List Flt) (A' : Option Addr) (n' c' : Nat) (l' : List Flt) (w : World) (hn : n ≤ maxLen) (hn' : n' ≤ maxLen) (hl : Hid (l.length = n)) (hl' : Hid (l'.length = n')) (hA : Hid (FaultsAt w A l)) (hA' : Hid (FaultsAt w A' l')) (hS : Hid (smallF l)) (hS' : Hid (smallF l')) (he : Hid (Env w)) :
    Calls Tryd.prog 11 #[.slice A n c, .slice A' n' c'] w fun e w' => e = .returned (.bool true) ∧ Below w.heap.size w w' := by
  obtain ⟨i0, hi, hz0, hz1, hz2⟩ := info_parts Tryd.info40
  unfold maxLen at hn hn'
  go_enter Tryd.func11, Tryd.ntmps11
  go_wp2_with fail
  refine (awake_any _ he.out).mono ?_
  rintro e w1 ⟨rfl, hb1⟩
  have hB1 := Lib.hid hb1
  clear hb1
  by_cases h30 : n ≤ 30 ∧ n' ≤ 30
  · obtain ⟨h30, h30'⟩ := h30
    have b1 : decide (30 < (n : Int)) = false := by simp; omega
    have b2 : decide (30 < (n' : Int)) = false := by simp; omega
    go_wp2_with fail
    all_goals try (exfalso; omega)
    refine (textE_any A n c l w1 (by omega) hl (hA.out.below hB1.out) hS (he.out.below hB1.out)).mono ?_
    rintro e w2 ⟨rfl, hb2⟩
    have hB2 := Lib.hid (hB1.out.trans (hb2.mono hB1.out.size))
    clear hb2
    go_wp2_with fail
    refine (textE_any A' n' c' l' w2 (by omega) hl' (hA'.out.below hB2.out) hS' (he.out.below hB2.out)).mono ?_
    rintro e w3 ⟨rfl, hb3⟩
    have hB3 := Lib.hid (hB2.out.trans (hb3.mono hB2.out.size))
    clear hb3
    have hr1 : Hid (Reads (w3.alloc (.cells #[] 40)) w3.heap.size 4 A n (fcells l)) := by
      have := faults_reads (hA.out.below hB3.out)
      rw [hl.out] at this
      exact this.alloc (Nat.le_refl _) _
    have hr2 : Hid (Reads w3 w3.heap.size 4 A' n' (fcells l')) := by
      have := faults_reads (hA'.out.below hB3.out)
      rw [hl'.out] at this; exact this
    have ho0 : Hid ((w3.alloc (.cells #[] 40)).ownsRow w3.heap.size 40 4 (.slice (some ⟨w3.heap.size, 0, none⟩) 0 0) 0 []) := own_new w3 40 4
    have hf1 := Lib.hid (fcells_one l)
    have hf2 := Lib.hid (fcells_one l')
    have hm1 : Hid (0 + n ≤ maxLen) := by unfold Hid maxLen; omega
    have hm2 : Hid (n + n' ≤ maxLen) := by unfold Hid maxLen; omega
    have hm3 : Hid ((0 + n) * 40 ≤ 140737488355328) := by unfold Hid; omega
    have hm4 : Hid ((n + n') * 40 ≤ 140737488355328) := by unfold Hid; omega
    go_wp2_with (first | (at_builtin; (refine wpList_append_any _ rfl (.tmp 22) (.tmp 23) 38 rfl w3.heap.size 40 i0 _ 4 40 Tryd.underlying38 hi hz0 hz1 hz2 rfl (by decide) (.slice (some ⟨w3.heap.size, 0, none⟩) 0 0) 0 [] rfl ho0.out w3.heap.size A n c (fcells l) rfl hr1.out hf1.out hm1.out hm3.out (by simp) ?_); intro v4 w4 ho4 hg4 hv4; simp only [Nat.zero_add, List.nil_append] at ho4; have ho4' := Lib.hid ho4; have hbl4 : Hid (Below w3.heap.size w3 w4) := ((Below.refl _ w3).alloc (Nat.le_refl _) _).grown hg4 (by simp) (by intro k hk; simp [Value.ownBlock] at hk; omega); obtain ⟨A4, c4, rfl⟩ := own_slice ho4; clear ho4 hg4 hv4) | (at_builtin; (refine wpList_append_any _ rfl (.tmp 24) (.tmp 25) 38 rfl w3.heap.size 40 i0 _ 4 40 Tryd.underlying38 hi hz0 hz1 hz2 rfl (by decide) (.slice A4 n c4) n (fcells l) rfl ho4'.out w3.heap.size A' n' c' (fcells l') rfl (hr2.out.below hbl4.out) hf2.out hm2.out hm4.out hbl4.out.size ?_); intro v5 w5 ho5 hg5 hv5; have ho5' := Lib.hid ho5; have hbl5 : Hid (Below w3.heap.size w3 w5) := hbl4.out.grown hg5 hbl4.out.size (fun k hk => (ho4'.out.lt k hk).1); obtain ⟨A5, c5, rfl⟩ := own_slice ho5; clear ho5 hg5 hv5))
    obtain ⟨A6, c6, e6, _, hF6⟩ := own_faults (l := l ++ l') (by rw [fcells_app]; exact ho5'.out) (by rw [List.length_append, hl.out, hl'.out])
    simp only [Value.slice.injEq] at e6
    obtain ⟨rfl, _, rfl⟩ := e6
    have hB5 := Lib.hid (hB3.out.trans (hbl5.out.mono hB3.out.size))
    refine (textE_any A5 (n + n') c5 (l ++ l') w5 (by omega) (by unfold Hid; rw [List.length_append, hl.out, hl'.out]) hF6 (smallF_app hS.out hS'.out) (he.out.below hB5.out)).mono ?_
    rintro e w6 ⟨rfl, hb6⟩
    have hB6 := Lib.hid (hB5.out.trans (hb6.mono hB5.out.size))
    clear hb6 hF6
    have hla := textF_len hS.out
    have hlb := textF_len hS'.out
    rw [hl.out] at hla
    rw [hl'.out] at hlb
    have sa : (mkB (textF l)).size ≤ 40000000 := by unfold mkB; rw [size_list]; omega
    have sb : (mkB (textF l')).size ≤ 40000000 := by unfold mkB; rw [size_list]; omega
    clear hla hlb
    obtain ⟨ta, hta⟩ : ∃ t, Hid (textF l = t) := ⟨_, rfl⟩
    obtain ⟨tb, htb⟩ : ∃ t, Hid (textF l' = t) := ⟨_, rfl⟩
    obtain ⟨tc, htc⟩ : ∃ t, Hid (textF (l ++ l') = t) := ⟨_, rfl⟩
    rw [hta.out] at sa ⊢
    rw [htb.out] at sb ⊢
    rw [htc.out]
    have hmk : Hid (∀ x : List UInt8, (mkB x).toList = x) := fun x => by rw [ba_toList]; simp [mkB]
    have hnil : Hid (∀ (m : List Flt) (k : Nat), m.length = k → k = 0 → textF m = []) := fun m k h1 h2 => by
      have : m = [] := List.eq_nil_of_length_eq_zero (by omega)
      rw [this]; exact textF_nil
    have hne : Hid (∀ (m : List Flt) (k : Nat), m.length = k → k ≠ 0 → textF m ≠ []) := fun m k h1 h2 => textF_ne (fun e => by rw [e] at h1; simp at h1; omega)
    by_cases hz : n = 0
    · have ea : ta = [] := by rw [← hta.out]; exact hnil.out l n hl.out hz
      have el : l = [] := List.eq_nil_of_length_eq_zero (by rw [hl.out]; exact hz)
      have ec : tc = tb := by rw [← htc.out, ← htb.out, el]; rfl
      have f0 : ((n : Int) == 0) = true := by simp [hz]
      have f3 : ((mkB tb).toList.isEmpty == ((n' : Int) == 0)) = true := by
        rw [hmk.out]
        by_cases h : n' = 0
        · have : tb = [] := by rw [← htb.out]; exact hnil.out l' n' hl'.out h
          rw [this, h]; rfl
        · have : tb ≠ [] := by rw [← htb.out]; exact hne.out l' n' hl'.out h
          have e1 : tb.isEmpty = false := by cases tb with | nil => exact absurd rfl this | cons => rfl
          rw [e1]; simp [h]
      have f2 : (mkB ta).toList = [] := by rw [hmk.out, ea]
      have f1 : ((mkB tc).toList == (mkB ta ++ mkB tb).toList) = true := by
        rw [ba_toList (mkB ta ++ mkB tb), hmk.out, ec, ea]; simp [mkB]
      clear ea el ec hz
      go_wp2_with fail
      all_goals first
        | (go_ret; exact ⟨by first | rfl | (simp [f3]) | (rw [f3]), hB6.out⟩)
        | (exfalso; simp_all)
    · have f0 : ((n : Int) == 0) = false := by simp [hz]
      have eta : ta ≠ [] := by rw [← hta.out]; exact hne.out l n hl.out hz
      have f2 : (mkB ta).toList.isEmpty = false := by rw [hmk.out]; cases ta with | nil => exact absurd rfl eta | cons => rfl
      by_cases hz' : n' = 0
      · have eb : tb = [] := by rw [← htb.out]; exact hnil.out l' n' hl'.out hz'
        have el : l' = [] := List.eq_nil_of_length_eq_zero (by rw [hl'.out]; exact hz')
        have ec : tc = ta := by rw [← htc.out, ← hta.out, el, List.append_nil]
        have f0' : ((n' : Int) == 0) = true := by simp [hz']
        have f3 : (mkB tb).toList = [] := by rw [hmk.out, eb]
        have f1 : ((mkB tc).toList == (mkB ta ++ mkB tb).toList) = true := by
          rw [ba_toList (mkB ta ++ mkB tb), hmk.out, ec, eb]; simp [mkB]
        clear eb el ec hz hz' eta
        go_wp2_with fail
        all_goals first
          | (go_ret; exact ⟨by first | rfl | (simp [f3, f0']), hB6.out⟩)
          | (exfalso; simp_all)
      · have f0' : ((n' : Int) == 0) = false := by simp [hz']
        have ec : tc = ta ++ [59, 32] ++ tb := by
          rw [← htc.out, ← hta.out, ← htb.out]
          exact textF_app (fun e => by have := hl.out; rw [e] at this; simp at this; omega) (fun e => by have := hl'.out; rw [e] at this; simp at this; omega)
        have f1 : Hid (((mkB tc).toList == (mkB ta ++ ⟨#[59, 32]⟩ ++ mkB tb).toList) = true) := by
          unfold Hid
          rw [ba_toList (mkB ta ++ _ ++ mkB tb), hmk.out, ec]; simp [mkB]
        clear ec hz hz' eta
        go_wp2_with fail
        go_ret
        exact ⟨by first | exact congrArg (fun b => Ending.returned (Value.bool b)) f1.out | (simp [f1.out]), hB6.out⟩
  · go_wp2_with fail
    all_goals try (exfalso; omega)
    all_goals (go_ret; exact ⟨rfl, hB1.out⟩)
end Go.Proofs.YtpnkpnocipkedaaDoor

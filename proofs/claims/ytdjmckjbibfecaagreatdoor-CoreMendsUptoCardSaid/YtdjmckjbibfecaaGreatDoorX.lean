/- The walks of greatest and Holds: every rule. -/
import Derived.Test.YtdjmckjbibfecaaGreatDoorT
namespace Go.Proofs.YtdjmckjbibfecaaGreatDoor
open Go Go.RowKit Go.BigFrame Go.Maps

/-- The number of digits. -/
def numF (s : List UInt8) : Option Int := match Lib.parseIntB 64 s with
  | .ok v => if -4611686018427387904 ≤ v ∧ v ≤ 4611686018427387904 ∧ Lib.itoa v = s then some v else none
  | _ => none
def twoN (r : Option Int) : Value := .tuple #[.int .i64 (r.getD 0), .bool r.isSome]

theorem below_bytes (w : World) (t : ByteArray) : Below w.heap.size w (Lib.bytesWorld w 5 t) := by
  unfold Lib.bytesWorld
  exact Lib.below_freeze ((Below.drew (Below.refl _ w)).alloc (Nat.le_refl _) _) (p := ⟨w.heap.size, _, none⟩) (Nat.le_refl _) 1
theorem parse_i64 {s : List UInt8} {v : Int} (h : Lib.parseIntB 64 s = .ok v) : -9223372036854775808 ≤ v ∧ v ≤ 9223372036854775807 := by
  unfold Lib.parseIntB at h
  split at h
  · cases h
  · simp only at h
    split at h
    · cases h
    · cases h
    · split at h
      · cases h
      · split at h
        · cases h
        · rename_i u _ h1 h2
          simp only [Lib.NumEnd.ok.injEq] at h
          subst h
          split <;> simp_all <;> omega

set_option maxRecDepth 100000 in
set_option maxHeartbeats 800000 in
theorem format_any (n : Int) (w : World) (h0 : -9223372036854775808 ≤ n) (h1 : n ≤ 9223372036854775807) (he : Env w) :
    Calls Tryz.prog 157 #[.int .i64 n, .int .i64 10] w fun e w' => e = .returned (.string (mkB (Lib.itoa n))) ∧ Below w.heap.size w w' := by
  have he' := Lib.hid he
  clear he
  go_enter Tryz.func157, Tryz.ntmps157
  go_wp2_with fail
  refine (Tryz.internal_strconv_FormatInt_10 n h0 h1 w he'.out.tab).mono ?_
  rintro e w' ⟨rfl, k, os, rfl⟩
  go_wp2_with fail
  go_ret
  exact ⟨rfl, below_grows w k os⟩

def Parsed (s : ByteArray) (w : World) (e : Ending) (w' : World) : Prop := Below w.heap.size w w' ∧ ((∃ v, Lib.parseIntB 64 s.data.toList = .ok v ∧ e = .returned (.tuple #[.int .i64 v, .nilIface])) ∨ (∃ v t p, (∀ v, Lib.parseIntB 64 s.data.toList ≠ .ok v) ∧ e = .returned (.tuple #[.int .i64 v, .iface t p])))
theorem parseInt_any (s : ByteArray) (w : World) (hs : s.size ≤ 4000000) (he : Env w) : Calls Tryz.prog 156 #[.string s, .int .i64 10, .int .i64 64] w (Parsed s w) := by
  cases hp : Lib.parseIntB 64 s.data.toList with
  | ok v =>
    refine (Tryz.strconv_ParseInt_10_at64_ok s (by omega) v hp w).mono ?_
    rintro e w' ⟨rfl, h | ⟨t, h⟩⟩
    · subst h; exact ⟨Below.refl _ _, .inl ⟨v, hp, rfl⟩⟩
    · subst h; exact ⟨below_bytes w t, .inl ⟨v, hp, rfl⟩⟩
  | range =>
    obtain ⟨te, pe, hv⟩ := he.ran
    refine (Tryz.strconv_ParseInt_10_at64_range s (by omega) hp _ w hv (.inr ⟨te, pe, rfl⟩)).mono ?_
    rintro e w' ⟨N, rfl, _, _, hb⟩
    exact ⟨hb, .inr ⟨_, _, _, (fun v => by rw [hp]; intro h; cases h), rfl⟩⟩
  | _ =>
    obtain ⟨te, pe, hv⟩ := he.syn
    refine (Any.strconv_ParseInt_10_at64_syntax Tryz.laysC174 s (by omega) hp _ w hv (.inr ⟨te, pe, rfl⟩)).mono ?_
    rintro e w' ⟨N, rfl, _, _, hb⟩
    exact ⟨hb, .inr ⟨_, _, _, (fun v => by rw [hp]; intro h; cases h), rfl⟩⟩

set_option maxRecDepth 100000 in
set_option maxHeartbeats 1600000 in
theorem number_any (s : ByteArray) (w : World) (hs : s.size ≤ 4000000) (he : Env w) :
    Calls Tryz.prog 99 #[.string s] w fun e w' => e = .returned (twoN (numF s.data.toList)) ∧ Below w.heap.size w w' := by
  have he' := Lib.hid he
  clear he
  go_enter Tryz.func99, Tryz.ntmps99
  go_wp2_with fail
  refine (parseInt_any s w hs he'.out).mono ?_
  rintro e w1 ⟨hb1, ⟨v, hp, rfl⟩ | ⟨v, t, p, hp, rfl⟩⟩
  · have hv := parse_i64 hp
    have hp' := Lib.hid hp
    clear hp
    obtain ⟨hv0, hv1⟩ := hv
    by_cases hlo : v < -4611686018427387904
    · have h0 : Hid (numF s.data.toList = none) := by unfold numF Hid; rw [hp'.out]; simp only; rw [if_neg (by omega)]
      skip
      go_wp2_with fail
      go_ret2
      exact ⟨by rw [h0.out]; rfl, hb1⟩
    · by_cases hhi : 4611686018427387904 < v
      · have h0 : Hid (numF s.data.toList = none) := by unfold numF Hid; rw [hp'.out]; simp only; rw [if_neg (by omega)]
        skip
        go_wp2_with fail
        go_ret2
        exact ⟨by rw [h0.out]; rfl, hb1⟩
      · have hr := Lib.hid (And.intro hv0 hv1)
        clear hv0 hv1
        go_wp2_with fail
        refine (format_any v w1 hr.out.1 hr.out.2 (he'.out.below hb1)).mono ?_
        rintro e w2 ⟨rfl, hb2⟩
        have hB2 : Below w.heap.size w w2 := hb1.trans (hb2.mono hb1.size)
        by_cases hq : (mkB (Lib.itoa v)).toList = s.toList
        · have hq1 : ((mkB (Lib.itoa v)).toList == s.toList) = true := by simp [hq]
          have hq' := Lib.hid hq
          clear hq
          go_wp2_with fail
          all_goals try (exfalso; simp_all; omega)
          go_ret2
          refine ⟨?_, hB2⟩
          unfold numF
          rw [hp'.out]; simp only
          have e1 : Lib.itoa v = s.data.toList := by have := hq'.out; simpa [mkB, ByteArray.toList_eq] using this
          rw [if_pos ⟨by omega, by omega, e1⟩]
          rfl
        · have hq1 : ((mkB (Lib.itoa v)).toList == s.toList) = false := by simp [hq]
          have hq' := Lib.hid hq
          clear hq
          go_wp2_with fail
          all_goals try (exfalso; simp_all; omega)
          go_ret2
          refine ⟨?_, hB2⟩
          unfold numF
          rw [hp'.out]; simp only
          rw [if_neg]
          · rfl
          · rintro ⟨_, _, e1⟩
            apply hq'.out
            rw [e1]
            simp [mkB]
  · have h0 : Hid (numF s.data.toList = none) := by
      unfold numF Hid
      split
      · rename_i u hu; exact absurd hu (hp u)
      · rfl
    skip
    have hp' := Lib.hid hp
    clear hp
    go_wp2_with fail
    go_ret2
    exact ⟨by rw [h0.out]; rfl, hb1⟩
end Go.Proofs.YtdjmckjbibfecaaGreatDoor
namespace Go.Proofs.YtdjmckjbibfecaaGreatDoor
open Go Go.RowKit Go.BigFrame Go.Maps

inductive Tree where
  | mk (kind paper : Int) (field text : ByteArray) (num : Int) (A : Option Addr) (c : Nat) (L : List Tree) : Tree
def Tree.kind : Tree → Int | .mk k _ _ _ _ _ _ _ => k
def Tree.field : Tree → ByteArray | .mk _ _ f _ _ _ _ _ => f
def Tree.sub : Tree → List Tree | .mk _ _ _ _ _ _ _ L => L
def Tree.cells : Tree → Array Value | .mk k p f x n A c L => #[.int .i64 k, .int .i64 p, .string f, .string x, .int .i64 n, .slice A L.length c]

def CellsAt (w : World) (A : Option Addr) (j : Nat) : Tree → Prop
  | .mk k p f x n A' c L => ∃ b off, A = some ⟨b, off, none⟩ ∧ w.cell? ⟨b, off + j * 6, none⟩ = some (.int .i64 k) ∧ w.cell? ⟨b, off + j * 6 + 1, none⟩ = some (.int .i64 p) ∧ w.cell? ⟨b, off + j * 6 + 2, none⟩ = some (.string f) ∧
      w.cell? ⟨b, off + j * 6 + 3, none⟩ = some (.string x) ∧ w.cell? ⟨b, off + j * 6 + 4, none⟩ = some (.int .i64 n) ∧ w.cell? ⟨b, off + j * 6 + 5, none⟩ = some (.slice A' L.length c)
theorem CellsAt.below {w w' : World} {A : Option Addr} {j : Nat} {t : Tree} (h : CellsAt w A j t) (hb : Below w.heap.size w w') : CellsAt w' A j t := by
  obtain ⟨k, p, f, x, n, A', c, L⟩ := t
  obtain ⟨b, off, e, h0, h1, h2, h3, h4, h5⟩ := h
  have hlt : b < w.heap.size := World.block_lt_of_cell? w _ h0
  exact ⟨b, off, e, by rw [hb.cell hlt]; exact h0, by rw [hb.cell hlt]; exact h1, by rw [hb.cell hlt]; exact h2, by rw [hb.cell hlt]; exact h3, by rw [hb.cell hlt]; exact h4, by rw [hb.cell hlt]; exact h5⟩
mutual
def TreeAt (w : World) : Tree → Prop
  | .mk _ _ _ _ _ A _ L => RowsAt w A 0 L ∧ L.length ≤ maxLen
def RowsAt (w : World) (A : Option Addr) (j : Nat) : List Tree → Prop
  | [] => True
  | t :: L => CellsAt w A j t ∧ TreeAt w t ∧ RowsAt w A (j + 1) L
end
mutual
theorem TreeAt.below {w w' : World} (hb : Below w.heap.size w w') : ∀ {t : Tree}, TreeAt w t → TreeAt w' t
  | .mk _ _ _ _ _ A _ L, h => by
    rw [TreeAt] at h ⊢
    exact ⟨RowsAt.below hb h.1, h.2⟩
theorem RowsAt.below {w w' : World} (hb : Below w.heap.size w w') : ∀ {A : Option Addr} {j : Nat} {L : List Tree}, RowsAt w A j L → RowsAt w' A j L
  | _, _, [], _ => by rw [RowsAt]; trivial
  | _, _, t :: L, h => by
    rw [RowsAt] at h ⊢
    exact ⟨h.1.below hb, TreeAt.below hb h.2.1, RowsAt.below hb h.2.2⟩
end
theorem RowsAt.get {w : World} : ∀ {A : Option Addr} {j : Nat} {L : List Tree} (_ : RowsAt w A j L) (k : Nat) (t : Tree), L[k]? = some t → CellsAt w A (j + k) t ∧ TreeAt w t
  | _, _, [], _, k, t, hk => by simp at hk
  | _, _, u :: L, h, 0, t, hk => by
    rw [RowsAt] at h
    simp at hk; subst hk
    exact ⟨h.1, h.2.1⟩
  | _, j, u :: L, h, k + 1, t, hk => by
    rw [RowsAt] at h
    have := RowsAt.get h.2.2 k t (by simpa using hk)
    rw [show j + 1 + k = j + (k + 1) by omega] at this
    exact this

def soT (b : Bool) : Int := if b then 0 else 2
/-- How a rule over a field stands, that has a value. -/
def atomT (docs : List Pap) (k p : Int) (x : ByteArray) (n : Int) (v : ByteArray) : Int :=
  if k = 3 then soT (decide (v.toList = x.toList))
  else if k = 4 then soT (Lib.contains v.data.toList x.data.toList)
  else if k = 5 then soT (match numF v.data.toList with | some m => decide (m ≤ n) | none => false)
  else if k = 6 then soT (match numF v.data.toList with | some m => decide (n ≤ m) | none => false)
  else if k = 7 then (match fieldD docs p x with | some u => soT (decide (v.toList = u.toList)) | none => 1)
  else 2
mutual
/-- How a rule stands, asked of a paper. -/
def holdsT (docs : List Pap) (d : Pap) : Tree → Int
  | .mk k p f x n _ _ L =>
    if k = 0 then greatT docs d L 0
    else if k = 1 then leastT docs d L 2
    else if k = 2 then 2 - greatT docs d L 0
    else if 3 ≤ k ∧ k ≤ 7 then (match getF d.fields f with | some v => atomT docs k p x n v | none => 1)
    else 2
def greatT (docs : List Pap) (d : Pap) : List Tree → Int → Int
  | [], s => s
  | t :: L, s => greatT docs d L (max s (holdsT docs d t))
def leastT (docs : List Pap) (d : Pap) : List Tree → Int → Int
  | [], s => s
  | t :: L, s => leastT docs d L (min s (holdsT docs d t))
end
theorem soT_range (b : Bool) : 0 ≤ soT b ∧ soT b ≤ 2 := by unfold soT; split <;> omega
theorem atomT_range (docs : List Pap) (k p : Int) (x : ByteArray) (n : Int) (v : ByteArray) : 0 ≤ atomT docs k p x n v ∧ atomT docs k p x n v ≤ 2 := by
  unfold atomT
  repeat' split
  all_goals first | exact soT_range _ | omega
mutual
theorem holdsT_range (docs : List Pap) (d : Pap) : ∀ t : Tree, 0 ≤ holdsT docs d t ∧ holdsT docs d t ≤ 2
  | .mk k p f x n _ _ L => by
    rw [holdsT]
    have h1 := greatT_range docs d L 0 (by omega) (by omega)
    have h2 := leastT_range docs d L 2 (by omega) (by omega)
    repeat' split
    all_goals first | exact atomT_range _ _ _ _ _ _ | omega
theorem greatT_range (docs : List Pap) (d : Pap) : ∀ (L : List Tree) (s : Int), 0 ≤ s → s ≤ 2 → 0 ≤ greatT docs d L s ∧ greatT docs d L s ≤ 2
  | [], s, h0, h1 => by rw [greatT]; exact ⟨h0, h1⟩
  | t :: L, s, h0, h1 => by
    rw [greatT]
    have := holdsT_range docs d t
    exact greatT_range docs d L _ (by omega) (by omega)
theorem leastT_range (docs : List Pap) (d : Pap) : ∀ (L : List Tree) (s : Int), 0 ≤ s → s ≤ 2 → 0 ≤ leastT docs d L s ∧ leastT docs d L s ≤ 2
  | [], s, h0, h1 => by rw [leastT]; exact ⟨h0, h1⟩
  | t :: L, s, h0, h1 => by
    rw [leastT]
    have := holdsT_range docs d t
    exact leastT_range docs d L _ (by omega) (by omega)
end
/-- No field's value is too long. -/
def SmallD (docs : List Pap) : Prop := ∀ d ∈ docs, ∀ f ∈ d.fields, f.value.size ≤ 4000000
theorem getF_mem : ∀ {l : List Fld} {s v : ByteArray}, getF l s = some v → ∃ f ∈ l, f.value = v
  | [], _, _, h => by simp [getF] at h
  | x :: l, s, v, h => by
    rw [getF] at h
    split at h
    · exact ⟨x, by simp, by simpa using h⟩
    · obtain ⟨f, hf, e⟩ := getF_mem h
      exact ⟨f, by simp [hf], e⟩
end Go.Proofs.YtdjmckjbibfecaaGreatDoor
namespace Go.Proofs.YtdjmckjbibfecaaGreatDoor
open Go Go.RowKit Go.BigFrame Go.Maps

set_option maxRecDepth 100000 in
set_option maxHeartbeats 1600000 in
theorem atom_any (k p : Int) (f x : ByteArray) (n : Int) (A' : Option Addr) (m c' : Nat) (A : Option Addr) (nn c : Nat) (docs : List Pap) (v : ByteArray) (w : World) (hn : nn ≤ maxLen) (hl : Hid (docs.length = nn)) (hA : Hid (DocsAt w A docs)) (he : Hid (Env w)) (hv : v.size ≤ 4000000) :
    Calls Tryz.prog 55 #[.agg #[.int .i64 k, .int .i64 p, .string f, .string x, .int .i64 n, .slice A' m c'], .slice A nn c, .string v] w fun e w' => e = .returned (.int .i64 (atomT docs k p x n v)) ∧ Below w.heap.size w w' := by
  have hn' := Lib.hid hn
  clear hn
  have hv' := Lib.hid hv
  clear hv
  have hb0 : Below w.heap.size w (w.alloc (.cells #[.int .i64 k, .int .i64 p, .string f, .string x, .int .i64 n, .slice A' m c'] 24)) := (Below.refl _ w).alloc (Nat.le_refl _) _
  have hblk := Lib.hid (Blk.new w 24 #[.int .i64 k, .int .i64 p, .string f, .string x, .int .i64 n, .slice A' m c'])
  have hb0' := Lib.hid hb0
  clear hb0
  by_cases k3 : k = 3
  · subst k3
    have hat : Hid (atomT docs 3 p x n v = soT (decide (v.toList = x.toList))) := by unfold Hid atomT; rw [if_pos rfl]
    by_cases hq : v.toList = x.toList
    · have hq1 : (v.toList == x.toList) = true := by simp [hq]
      have hq' := Lib.hid hq
      clear hq
      go_enter Tryz.func55, Tryz.ntmps55
      go_wp2_with fail
      go_ret
      exact ⟨by rw [hat.out, decide_eq_true hq'.out]; rfl, hb0'.out⟩
    · have hq1 : (v.toList == x.toList) = false := by simp [hq]
      have hq' := Lib.hid hq
      clear hq
      go_enter Tryz.func55, Tryz.ntmps55
      go_wp2_with fail
      go_ret
      exact ⟨by rw [hat.out, decide_eq_false hq'.out]; rfl, hb0'.out⟩
  by_cases k4 : k = 4
  · subst k4
    have hat : Hid (atomT docs 4 p x n v = soT (Lib.contains v.data.toList x.data.toList)) := by unfold Hid atomT; rw [if_neg (by omega), if_pos rfl]
    go_enter Tryz.func55, Tryz.ntmps55
    go_wp2_with fail
    obtain ⟨mm, hm⟩ := (he.out.below hb0'.out).most
    refine (Tryz.strings_Contains v x mm _ (by have := hv'.out; omega) hm).mono ?_
    rintro e w1 ⟨rfl, rfl⟩
    generalize hcc : Lib.contains v.data.toList x.data.toList = cc at *
    cases cc
    all_goals
      go_wp2_with fail
      go_ret
      exact ⟨by rw [hat.out]; rfl, hb0'.out⟩
  by_cases k5 : k = 5
  · subst k5
    have hat : Hid (atomT docs 5 p x n v = soT (match numF v.data.toList with | some m => decide (m ≤ n) | none => false)) := by unfold Hid atomT; rw [if_neg (by omega), if_neg (by omega), if_pos rfl] <;> rfl
    go_enter Tryz.func55, Tryz.ntmps55
    go_wp2_with fail
    refine (number_any v _ hv'.out (he.out.below hb0'.out)).mono ?_
    rintro e w1 ⟨rfl, hb1⟩
    have hB1 : Hid (Below w.heap.size w w1) := hb0'.out.trans (hb1.mono (by simp))
    obtain ⟨r, hr⟩ : ∃ r, Hid (numF v.data.toList = r) := ⟨_, rfl⟩
    rw [hr.out]
    have hblk1 := hblk.out.below hb1 hblk.out.lt
    have hq : w1.cell? ⟨w.heap.size, 4, none⟩ = some (.int .i64 n) := by rw [hblk1.cell] <;> rfl
    clear hb1 hblk1
    rcases r with _ | r
    · unfold twoN
      go_wp2_with fail
      go_ret
      exact ⟨by rw [hat.out, hr.out]; rfl, hB1.out⟩
    · unfold twoN
      by_cases hrn : r ≤ n
      · have hrn' := Lib.hid hrn
        go_wp2_with fail
        all_goals try (exfalso; omega)
        go_ret
        exact ⟨by rw [hat.out, hr.out]; simp [soT, hrn'.out], hB1.out⟩
      · have hrn' := Lib.hid hrn
        go_wp2_with fail
        all_goals try (exfalso; omega)
        go_ret
        exact ⟨by rw [hat.out, hr.out]; simp [soT, hrn'.out], hB1.out⟩
  by_cases k6 : k = 6
  · subst k6
    have hat : Hid (atomT docs 6 p x n v = soT (match numF v.data.toList with | some m => decide (n ≤ m) | none => false)) := by unfold Hid atomT; rw [if_neg (by omega), if_neg (by omega), if_neg (by omega), if_pos rfl] <;> rfl
    go_enter Tryz.func55, Tryz.ntmps55
    go_wp2_with fail
    refine (number_any v _ hv'.out (he.out.below hb0'.out)).mono ?_
    rintro e w1 ⟨rfl, hb1⟩
    have hB1 : Hid (Below w.heap.size w w1) := hb0'.out.trans (hb1.mono (by simp))
    obtain ⟨r, hr⟩ : ∃ r, Hid (numF v.data.toList = r) := ⟨_, rfl⟩
    rw [hr.out]
    have hblk1 := hblk.out.below hb1 hblk.out.lt
    have hq : w1.cell? ⟨w.heap.size, 4, none⟩ = some (.int .i64 n) := by rw [hblk1.cell] <;> rfl
    clear hb1 hblk1
    rcases r with _ | r
    · unfold twoN
      go_wp2_with fail
      go_ret
      exact ⟨by rw [hat.out, hr.out]; rfl, hB1.out⟩
    · unfold twoN
      by_cases hrn : n ≤ r
      · have hrn' := Lib.hid hrn
        go_wp2_with fail
        all_goals try (exfalso; omega)
        go_ret
        exact ⟨by rw [hat.out, hr.out]; simp [soT, hrn'.out], hB1.out⟩
      · have hrn' := Lib.hid hrn
        go_wp2_with fail
        all_goals try (exfalso; omega)
        go_ret
        exact ⟨by rw [hat.out, hr.out]; simp [soT, hrn'.out], hB1.out⟩
  by_cases k7 : k = 7
  · subst k7
    have hat : Hid (atomT docs 7 p x n v = (match fieldD docs p x with | some u => soT (decide (v.toList = u.toList)) | none => 1)) := by unfold Hid atomT; rw [if_neg (by omega), if_neg (by omega), if_neg (by omega), if_neg (by omega), if_pos rfl] <;> rfl
    go_enter Tryz.func55, Tryz.ntmps55
    go_wp2_with fail
    refine (field_any A nn c docs p x _ hn'.out hl (hA.out.below hb0'.out)).mono ?_
    rintro e w1 ⟨rfl, hb1⟩
    have hB1 : Hid (Below w.heap.size w w1) := hb0'.out.trans (hb1.mono (by simp))
    obtain ⟨r, hr⟩ : ∃ r, Hid (fieldD docs p x = r) := ⟨_, rfl⟩
    rw [hr.out]
    clear hb1
    rcases r with _ | u
    · unfold two
      go_wp2_with fail
      go_ret
      exact ⟨by rw [hat.out, hr.out]; rfl, hB1.out⟩
    · unfold two
      by_cases hq : v.toList = u.toList
      · have hq1 : (v.toList == u.toList) = true := by simp [hq]
        have hq' := Lib.hid hq
        clear hq
        go_wp2_with fail
        go_ret
        exact ⟨by rw [hat.out, hr.out]; simp [soT, hq'.out], hB1.out⟩
      · have hq1 : (v.toList == u.toList) = false := by simp [hq]
        have hq' := Lib.hid hq
        clear hq
        go_wp2_with fail
        go_ret
        exact ⟨by rw [hat.out, hr.out]; simp [soT, hq'.out], hB1.out⟩
  have hat : Hid (atomT docs k p x n v = 2) := by unfold Hid atomT; rw [if_neg k3, if_neg k4, if_neg k5, if_neg k6, if_neg k7]
  go_enter Tryz.func55, Tryz.ntmps55
  go_wp2_with fail
  go_ret
  exact ⟨by rw [hat.out]; rfl, hb0'.out⟩
end Go.Proofs.YtdjmckjbibfecaaGreatDoor
namespace Go.Proofs.YtdjmckjbibfecaaGreatDoor
open Go Go.RowKit Go.BigFrame Go.Maps

/-- What the walks of rules ask of memory. -/
structure Room (w : World) (A : Option Addr) (nn : Nat) (docs : List Pap) : Prop where
  len : docs.length = nn
  most : nn ≤ 1000
  at_ : DocsAt w A docs
  env : Env w
  small : SmallD docs
theorem Room.below {w w' : World} {A : Option Addr} {nn : Nat} {docs : List Pap} (h : Room w A nn docs) (hb : Below w.heap.size w w') : Room w' A nn docs := ⟨h.len, h.most, h.at_.below hb, h.env.below hb, h.small⟩
def HoldsC (A : Option Addr) (nn c : Nat) (docs : List Pap) (a : Nat) (d : Pap) (t : Tree) : Prop :=
  ∀ w, Hid (TreeAt w t) → Hid (Room w A nn docs) → Calls Tryz.prog 17 #[.agg t.cells, .slice A nn c, .int .i64 a] w fun e w' => e = .returned (.int .i64 (holdsT docs d t)) ∧ Below w.heap.size w w'
theorem great_step {docs : List Pap} {d : Pap} {L : List Tree} {k : Nat} {t : Tree} {r s s' : Int} (h : r = greatT docs d (L.drop k) s) (ht : L[k]? = some t) (hs : s' = max s (holdsT docs d t)) : Hid (r = greatT docs d (L.drop (k + 1)) s') := by
  obtain ⟨hk, he⟩ := List.getElem?_eq_some_iff.1 ht
  unfold Hid
  rw [h, List.drop_eq_getElem_cons hk, he, greatT, hs]
theorem least_step {docs : List Pap} {d : Pap} {L : List Tree} {k : Nat} {t : Tree} {r s s' : Int} (h : r = leastT docs d (L.drop k) s) (ht : L[k]? = some t) (hs : s' = min s (holdsT docs d t)) : Hid (r = leastT docs d (L.drop (k + 1)) s') := by
  obtain ⟨hk, he⟩ := List.getElem?_eq_some_iff.1 ht
  unfold Hid
  rw [h, List.drop_eq_getElem_cons hk, he, leastT, hs]

set_option maxRecDepth 100000 in
set_option maxHeartbeats 1600000 in
theorem great_walk (A : Option Addr) (nn c : Nat) (docs : List Pap) (a : Nat) (d : Pap) (L : List Tree) (ih : Hid (∀ t ∈ L, HoldsC A nn c docs a d t)) (A' : Option Addr) (m c' : Nat) (w : World) (hm : Hid (L.length = m)) (hml : m ≤ maxLen) (hL : Hid (RowsAt w A' 0 L)) (hR : Hid (Room w A nn docs)) :
    Calls Tryz.prog 53 #[.slice A' m c', .slice A nn c, .int .i64 a] w fun e w' => e = .returned (.int .i64 (greatT docs d L 0)) ∧ Below w.heap.size w w' := by
  unfold maxLen at hml
  go_enter Tryz.func53, Tryz.ntmps53
  go_wp2_with fail
  go_loopw [12, 7] (fun j s wr => ∃ (k : Nat) (sv : Int), k ≤ m ∧ j = .int .i64 k ∧ s = .int .i64 sv ∧ (0 ≤ sv ∧ sv ≤ 2) ∧ Hid (greatT docs d L 0 = greatT docs d (L.drop k) sv) ∧ Below w.heap.size w wr) (fun j _ _ => m - (intOf j).toNat)
  case atStart => exact ⟨0, 0, Nat.zero_le _, rfl, rfl, by omega, rfl, Below.refl _ _⟩
  case round =>
    obtain ⟨k, sv, hk, rfl, rfl, ⟨hs0, hs2⟩, hsame, hB⟩ := hrel
    by_cases hlt : k < m
    · obtain ⟨t, ht⟩ : ∃ x, L[k]? = some x := ⟨_, List.getElem?_eq_getElem (by have := hm.out; omega)⟩
      have hmem := Lib.hid (List.mem_of_getElem? ht)
      have ht' := Lib.hid ht
      clear ht
      obtain ⟨hc, hT⟩ := (hL.out.below hB).get k t ht'.out
      have hT' := Lib.hid hT
      clear hT
      obtain ⟨tk, tp, tf, tx, tn, tA, tc, tL⟩ := t
      obtain ⟨b, off, rfl, h0, h1, h2, h3, h4, h5⟩ := hc
      rw [Nat.zero_add] at h0 h1 h2 h3 h4 h5
      go_wp2_with fail
      have hb1 : Below wr.heap.size wr (wr.alloc (.cells #[.int .i64 tk, .int .i64 tp, .string tf, .string tx, .int .i64 tn, .slice tA tL.length tc] 24)) := (Below.refl _ wr).alloc (Nat.le_refl _) _
      refine (ih.out _ hmem.out _ (hT'.out.below hb1) (hR.out.below (hB.trans (hb1.mono hB.size)))).mono ?_
      rintro e w1 ⟨rfl, hb2⟩
      have hB1 : Below w.heap.size w w1 := hB.trans ((hb1.trans (hb2.mono (by simp))).mono hB.size)
      have hrg := holdsT_range docs d (.mk tk tp tf tx tn tA tc tL)
      obtain ⟨r, hr⟩ : ∃ r, Hid (holdsT docs d (.mk tk tp tf tx tn tA tc tL) = r) := ⟨_, rfl⟩
      rw [hr.out] at hrg ⊢
      obtain ⟨hr0, hr2⟩ := hrg
      clear hb1 hb2
      go_wp2_with fail
      go_roundw
      case rel => exact ⟨k + 1, _, by omega, by go_num, rfl, by omega, great_step hsame.out ht'.out (by rw [hr.out]), hB1⟩
      case measure => simp [intOf]; omega
    · go_wp2_with fail
      go_ret
      exact ⟨by rw [hsame.out, List.drop_eq_nil_of_le (by have := hm.out; omega), greatT]; rfl, hB⟩
end Go.Proofs.YtdjmckjbibfecaaGreatDoor

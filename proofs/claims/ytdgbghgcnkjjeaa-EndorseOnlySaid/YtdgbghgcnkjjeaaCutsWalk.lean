/- The walk of the law EndorseCuts, and its plain law. -/
import Derived.Test.YtdgbghgcnkjjeaaH
import Derived.Deep.DeepCutAuto
namespace Go.Proofs.Ytdgbghgcnkjjeaa
open Go.RowKit Go.BigFrame

theorem chk_take_ok : ∀ (r : List End) (h : ByteArray) (ahead : List End) (j : Nat), (chk h ahead r).2.2 = 0 → j ≤ r.length →
    chk h ahead (r.take j) = (holderOf h (r.take j).getLast?, ((ahead.length + j : Nat) : Int), 0)
  | [], h, ahead, j, _, hj => by
    obtain rfl : j = 0 := by simpa using hj
    simp [chk, holderOf]
  | x :: r, h, ahead, 0, _, _ => by simp [chk, holderOf]
  | x :: r, h, ahead, j + 1, h0, hj => by
    rw [chk] at h0
    by_cases hw : wrongE h ahead x = 0
    · rw [if_pos hw] at h0
      have := chk_take_ok r x.to (ahead ++ [x]) j h0 (by simpa using hj)
      rw [List.take_succ_cons, chk, if_pos hw, this]
      rcases hr : (r.take j).getLast? with _ | y
      · have hnil : r.take j = [] := List.getLast?_eq_none_iff.1 hr
        simp [hnil, holderOf]; omega
      · have : (x :: r.take j).getLast? = some y := by rw [List.getLast?_cons, hr]; rfl
        rw [this]; simp [holderOf]; omega
    · rw [if_neg hw] at h0; exact absurd h0 hw

theorem chk_take_no : ∀ (r : List End) (h : ByteArray) (ahead : List End) (j : Nat), (chk h ahead r).2.2 ≠ 0 → j ≤ r.length →
    (((ahead.length + j : Nat) : Int) ≤ (chk h ahead r).2.1 ∧ (chk h ahead (r.take j)).2.2 = 0) ∨ ((chk h ahead r).2.1 < ((ahead.length + j : Nat) : Int) ∧ chk h ahead (r.take j) = chk h ahead r)
  | [], h, ahead, j, h0, _ => by simp [chk] at h0
  | x :: r, h, ahead, 0, h0, _ => by
    left
    refine ⟨?_, by simp [chk]⟩
    have : ∀ (r : List End) (h : ByteArray) (ahead : List End), (ahead.length : Int) ≤ (chk h ahead r).2.1 := by
      intro r
      induction r with
      | nil => intro h ahead; simp [chk]
      | cons x r ih =>
        intro h ahead
        rw [chk]
        split
        · have := ih x.to (ahead ++ [x]); simp at this; omega
        · simp
    simpa using this (x :: r) h ahead
  | x :: r, h, ahead, j + 1, h0, hj => by
    rw [List.take_succ_cons, chk] at *
    by_cases hw : wrongE h ahead x = 0
    · rw [if_pos hw] at h0
      rw [chk, if_pos hw, if_pos hw]
      have := chk_take_no r x.to (ahead ++ [x]) j h0 (by simpa using hj)
      have e : (ahead ++ [x]).length + j = ahead.length + (j + 1) := by simp; omega
      rw [e] at this
      exact this
    · rw [chk, if_neg hw, if_neg hw]
      right
      exact ⟨by simp; omega, rfl⟩

theorem cuts_ok (first : ByteArray) (l : List End) (k : Nat) (hk : k ≤ l.length) (h : (checkE first l).2.2 = 0) :
    checkE first (l.take k) = (holderOf first (l.take k).getLast?, (k : Int), 0) := by
  unfold checkE at *
  by_cases hn : nameB first.data.toList = true
  · rw [if_pos hn] at h ⊢
    have := chk_take_ok l first [] k h hk
    simpa using this
  · rw [if_neg hn] at h; simp at h
theorem cuts_no (first : ByteArray) (l : List End) (k : Nat) (hk : k ≤ l.length) (h : (checkE first l).2.2 ≠ 0) :
    ((k : Int) ≤ (checkE first l).2.1 ∧ ((checkE first (l.take k)).2.2 = 0 ∨ (checkE first (l.take k)).2.2 = 1)) ∨ ((checkE first l).2.1 < (k : Int) ∧ checkE first (l.take k) = checkE first l) := by
  unfold checkE at *
  by_cases hn : nameB first.data.toList = true
  · rw [if_pos hn] at h ⊢
    rw [if_pos hn]
    rcases chk_take_no l first [] k h hk with ⟨h1, h2⟩ | ⟨h1, h2⟩
    · exact .inl ⟨by simpa using h1, .inl h2⟩
    · exact .inr ⟨by simpa using h1, h2⟩
  · rw [if_neg hn, if_neg hn]
    by_cases h0 : k = 0
    · left; subst h0; simp
    · right; exact ⟨by simp; omega, rfl⟩

theorem big_few {l : List End} {m : Int} (h : bigB l m = false) : (l.length : Int) ≤ m := by
  simp [bigB] at h; omega

set_option maxRecDepth 100000 in
set_option maxHeartbeats 1600000 in
theorem cuts_any (first : ByteArray) (A : Option Addr) (n c : Nat) (kk : Int) (l : List End) (w : World) (hf : first.size ≤ maxLen) (hn : n ≤ maxLen) (hnc : n ≤ c) (hl : Hid (l.length = n)) (hA : Hid (EndsAt w A l)) :
    Calls Try.prog 4 #[.string first, .slice A n c, .int .i64 kk] w fun e w' => e = .returned (.bool true) ∧ Below w.heap.size w w' := by
  have hn' := hn
  unfold maxLen at hn'
  obtain ⟨m, hm⟩ : ∃ m, m = cutN kk n := ⟨_, rfl⟩
  have hmn : m ≤ n := by rw [hm, cutN]; omega
  have hmk : Hid ((n : Int) < max kk 0 ∧ m = n ∨ max kk 0 ≤ (n : Int) ∧ (m : Int) = max kk 0) := by unfold Hid; rw [hm, cutN]; omega
  have hm' := Lib.hid hm
  clear hm
  go_enter Try.func4, Try.ntmps4
  go_wp2_with fail
  refine (awake_any _).mono ?_
  rintro e w1 ⟨rfl, hb1⟩
  have hA1 : Hid (EndsAt w1 A l) := hA.out.below hb1
  go_wp2_with fail
  refine (big_any _ _ _ _ l _ hn hl hA1).mono ?_
  rintro e w' ⟨rfl, rfl⟩
  by_cases hbig : bigB l 30 = true
  · go_wp2_with fail
    go_ret
    exact ⟨rfl, hb1⟩
  have hbig' : bigB l 30 = false := by simpa using hbig
  have hn30 : n ≤ 30 := by have := big_few hbig'; rw [hl.out] at this; omega
  clear hbig
  by_cases hf100 : first.size ≤ 100
  case neg =>
    go_wp2_with fail
    · go_ret
      exact ⟨rfl, hb1⟩
    all_goals omega
  go_upto_if 27 with fail
  go_cut [7] (fun s wx => w1 = wx ∧ s = .int .i64 (max kk 0))
  case first =>
    go_wp2_with fail
    · go_meet; exact ⟨rfl, congrArg (Value.int .i64) (by omega)⟩
    · go_meet; exact ⟨rfl, congrArg (Value.int .i64) (by omega)⟩
  case rest =>
    obtain ⟨rfl, rfl⟩ := hcut
    go_upto_if 31 with fail
    go_cut [7] (fun s wx => w1 = wx ∧ s = .int .i64 (m : Int))
    case first =>
      go_wp2_with fail
      · go_meet; exact ⟨rfl, congrArg (Value.int .i64) (by have := hmk.out; omega)⟩
      · go_meet; exact ⟨rfl, congrArg (Value.int .i64) (by have := hmk.out; omega)⟩
    case rest =>
      obtain ⟨rfl, rfl⟩ := hcut
      go_wp2_with fail
      refine (cut_any _ _ _ _ l _ hn30 hnc hl hA1).mono ?_
      rintro e w2 ⟨A', c', rfl, hmc, hE, hb2⟩
      rw [← hm'.out] at hmc hE ⊢
      have hB2 : Below w.heap.size w w2 := hb1.trans (hb2.mono hb1.size)
      have hA2 : Hid (EndsAt w2 A l) := hA1.out.below hb2
      have hE2 : Hid (EndsAt w2 A' (l.take m)) := hE
      clear hE
      have hlm : Hid ((l.take m).length = m) := by have := hl.out; simp [Hid]; omega
      have hmm : m ≤ maxLen := by unfold maxLen; omega
      have i1 : (m : Int) ≤ (c : Int) := by omega
      go_wp2_with fail
      refine (same_any _ _ _ _ _ _ (l.take m) (l.take m) _ hmm hmm hlm hlm hE2 (hA2.out.take m)).mono ?_
      rintro e w3 ⟨rfl, hb3⟩
      rw [same_refl]
      have hB3 : Below w.heap.size w w3 := hB2.trans (hb3.mono hB2.size)
      have hA3 : Hid (EndsAt w3 A l) := hA2.out.below hb3
      have hE3 : Hid (EndsAt w3 A' (l.take m)) := hE2.out.below hb3
      go_wp2_with fail
      refine (check_any _ _ _ _ l _ hf hn hnc hl hA3).mono ?_
      rintro e w4 ⟨rfl, hb4⟩
      have hB4 : Below w.heap.size w w4 := hB3.trans (hb4.mono hB3.size)
      have hA4 : Hid (EndsAt w4 A l) := hA3.out.below hb4
      have hE4 : Hid (EndsAt w4 A' (l.take m)) := hE3.out.below hb4
      unfold tri
      go_wp2_with fail
      refine (check_any _ _ _ _ (l.take m) _ hf hmm hmc hlm hE4).mono ?_
      rintro e w5 ⟨rfl, hb5⟩
      have hB5 : Below w.heap.size w w5 := hB4.trans (hb5.mono hB4.size)
      have hA5 : Hid (EndsAt w5 A l) := hA4.out.below hb5
      unfold tri
      obtain ⟨r, hr⟩ : ∃ r, r = checkE first l := ⟨_, rfl⟩
      rw [← hr]
      have hr' := Lib.hid hr
      clear hr
      by_cases he : r.2.2 = 0
      · have hq := cuts_ok first l m (by have := hl.out; omega) (by rw [← hr'.out]; exact he)
        rw [hq]
        clear hq
        have he' : (r.2.2 != 0) = false := by simp [he]
        clear he
        rcases m with _ | m
        · go_wp2_with fail
          go_ret
          exact ⟨retB (by simp [holderOf]), hB5⟩
        · obtain ⟨x, hx⟩ : ∃ x, l[m]? = some x := ⟨_, List.getElem?_eq_getElem (by have := hl.out; omega)⟩
          have hlast : Hid (holderOf first (l.take (m + 1)).getLast? = x.to) := by
            unfold Hid
            rw [List.getLast?_eq_getElem?, hlm.out, List.getElem?_take]; simp [hx, holderOf]
          have hx' : Hid (l[m]? = some x) := hx
          clear hx
          obtain ⟨b, off, rfl, -, h1, -, -, -, -⟩ := hA5.out m x hx'.out
          rw [hlast.out]
          go_wp2_with fail
          go_ret
          exact ⟨retB (by simp), hB5⟩
      · have hq := cuts_no first l m (by have := hl.out; omega) (by rw [← hr'.out]; exact he)
        rw [← hr'.out] at hq
        obtain ⟨q, hqq⟩ : ∃ q, q = checkE first (l.take m) := ⟨_, rfl⟩
        rw [← hqq] at hq ⊢
        clear hqq
        have hq' := Lib.hid hq
        clear hq
        have he' : (r.2.2 != 0) = true := by simp [he]
        go_wp2_with fail
        all_goals (go_ret; refine ⟨retB ?_, hB5⟩; have hz := hq'.out; go_light; clear hq')
        all_goals first
          | rfl
          | (rcases hz with ⟨hz, hy | hy⟩ | ⟨hz, hy⟩ <;> first | omega | (exfalso; subst hy; exact absurd rfl (by assumption)) | (subst hy; simp; done) | (subst hy; simp_all; done))

end Go.Proofs.Ytdgbghgcnkjjeaa

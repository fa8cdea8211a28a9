/- The walk of the law EndorseOnly, and its plain law. -/
import Derived.Test.YtdgbghgcnkjjeaaMayWalk
import Derived.Test.YtdgbghgcnkjjeaaAppB
namespace Go.Proofs.Ytdgbghgcnkjjeaa
open Go.RowKit Go.BigFrame

def only (h tgt : ByteArray) : End := ⟨h, tgt, 2, 1048576⟩

theorem empty_iff (s : ByteArray) : s.toList.isEmpty = true ↔ s = ⟨#[]⟩ := by
  rw [ByteArray.toList_eq]
  obtain ⟨⟨l⟩⟩ := s
  cases l <;> simp

theorem only_right {first tgt : ByteArray} {l : List End} (h0 : (checkE first l).2.2 = 0) (hne : (checkE first l).1.toList.isEmpty = false) (ht : nameB tgt.data.toList = true)
    (hth : (tgt.toList == (checkE first l).1.toList) = false) (hk : (lastKind l == some 2) = false) :
    checkE first (l ++ [only (checkE first l).1 tgt]) = (tgt, ((l.length + 1 : Nat) : Int), 0) ∧ (checkE first l).2.1 = (l.length : Int) := by
  obtain ⟨hn, hc, he, hh, hall⟩ := check_ok h0
  have hlen := chk_take_ok l first [] l.length hc (Nat.le_refl _)
  rw [List.take_length] at hlen
  refine ⟨?_, by rw [he, hlen]; simp⟩
  have hname : nameB (checkE first l).1.data.toList = true ∧ (lastKind l == some 1) = false ∧ ∀ y, l.getLast? = some y → y.day ≤ 1048576 := by
    rw [hh] at hne ⊢
    rcases hl : l.getLast? with _ | y
    · exact ⟨hn, by simp [lastKind, hl], by simp⟩
    · have hy : y.okB = true := hall y (List.mem_of_getLast? hl)
      rw [hl] at hne
      by_cases h1 : y.kind = 1
      · have := (okB_to hy).1 h1
        simp [holderOf, this] at hne
      · exact ⟨(okB_to hy).2.1 h1, by simp [lastKind, hl, h1], fun z hz => by cases hz; exact (okB_to hy).2.2⟩
  have hok : (only (checkE first l).1 tgt).okB = true := by
    simp only [only, End.okB, hname.1, ht, hth]; rfl
  have hwr : wrongE (holderOf first l.getLast?) ([] ++ l) (only (checkE first l).1 tgt) = 0 := by
    rw [List.nil_append, wrongE, if_neg (by rw [hok]; simp), if_neg (by rw [hk]; simp), if_neg (by rw [hh]; simp [only])]
    rcases hl : l.getLast? with _ | y
    · rfl
    · have := hname.2.2 y hl
      show (if (1048576 : Int) < y.day then (6 : Int) else 0) = 0
      rw [if_neg (by omega)]
  generalize (checkE first l).1 = hd at *
  rw [checkE, if_pos hn, chk_snoc, if_pos hc, if_pos hwr]; simp [only]

theorem last_snoc (l : List End) (x : End) : lastKind (l ++ [x]) = some x.kind := by simp [lastKind]

theorem only_after {first : ByteArray} {l : List End} {x m : End} {h : ByteArray} {n : Int} (hc : checkE first (l ++ [x]) = (h, n, 0)) (hx : x.kind = 2) :
    ∃ g : Int, (g = 9 ∨ g = 2) ∧ checkE first (l ++ [x] ++ [m]) = (⟨#[]⟩, ((l.length + 1 : Nat) : Int), g) := by
  obtain ⟨hn, hc', _, _, _⟩ := check_ok (first := first) (l := l ++ [x]) (by rw [hc])
  rw [checkE, if_pos hn, chk_snoc, if_pos hc', List.nil_append]
  unfold wrongE
  rw [last_snoc, hx]
  cases hm : m.okB with
  | false => exact ⟨2, .inr rfl, by simp⟩
  | true => exact ⟨9, .inl rfl, by simp⟩

theorem only_may {first who : ByteArray} {l : List End} {x : End} (hx : x.kind = 2) : mayE first who (l ++ [x]) = false := by
  unfold mayE
  rw [last_snoc, hx]
  simp

theorem le_alloc1 (W : World) (o : Obj) : W.heap.size ≤ (W.alloc o).heap.size := by simp
theorem le_alloc2 (W : World) (o o' : Obj) : W.heap.size ≤ ((W.alloc o).alloc o').heap.size := by simp; omega
theorem ends_one {w : World} {g : Nat} {x : End} (h : Blk w g 30 #[.string x.frm, .string x.to, .int .i64 x.kind, .int .i64 x.day]) (hf : x.frm.size ≤ maxLen) (ht : x.to.size ≤ maxLen) : EndsAt w (some ⟨g, 0, none⟩) [x] := by
  intro k z hk
  match k, hk with
  | 0, hk => obtain rfl : x = z := by simpa using hk
             exact ⟨g, 0, rfl, h.cell 0, h.cell 1, h.cell 2, h.cell 3, hf, ht⟩
  | k + 1, hk => simp at hk

set_option maxRecDepth 100000 in
set_option maxHeartbeats 6400000 in
theorem only_law (first tgt who : ByteArray) (mf mt : ByteArray) (mk md : Int) (A : Option Addr) (n c : Nat) (l : List End) (w : World) (hf : first.size ≤ maxLen) (hto : tgt.size ≤ maxLen) (hwho : who.size ≤ maxLen) (hmf : mf.size ≤ maxLen) (hmt : mt.size ≤ maxLen)
    (hn : n ≤ maxLen) (hnc : n ≤ c) (hl : Hid (l.length = n)) (hA : Hid (EndsAt w A l)) :
    Calls Try.prog 6 #[.string first, .slice A n c, .string tgt, .agg #[.string mf, .string mt, .int .i64 mk, .int .i64 md], .string who] w fun e w' => e = .returned (.bool true) ∧ Below w.heap.size w w' := by
  have hn' := hn
  unfold maxLen at hn'
  go_enter Try.func6, Try.ntmps6
  go_wp2_with fail
  refine (awake_any _).mono ?_
  rintro e w1 ⟨rfl, hb1⟩
  have hB1 : Below w.heap.size w w1 := ((Below.refl _ w).alloc (Nat.le_refl _) _).trans (hb1.mono (by simp))
  have hX1 : Blk w1 w.heap.size 30 #[.string mf, .string mt, .int .i64 mk, .int .i64 md] := (Blk.new w 30 _).below hb1 (by simp)
  have hc0 : w1.cell? ⟨w.heap.size, 0, none⟩ = some (.string mf) := hX1.cell 0
  have hc1 : w1.cell? ⟨w.heap.size, 1, none⟩ = some (.string mt) := hX1.cell 1
  have hc2 : w1.cell? ⟨w.heap.size, 2, none⟩ = some (.int .i64 mk) := hX1.cell 2
  have hc3 : w1.cell? ⟨w.heap.size, 3, none⟩ = some (.int .i64 md) := hX1.cell 3
  have hX1' := Lib.hid hX1
  clear hX1
  have hA1 : Hid (EndsAt w1 A l) := hA.out.below hB1
  go_wp2_with fail
  refine (big_any _ _ _ _ l _ hn hl hA1).mono ?_
  rintro e w' ⟨rfl, rfl⟩
  by_cases hbig : bigB l 20 = true
  · go_wp2_with fail
    go_ret
    exact ⟨rfl, hB1⟩
  have hbig' : bigB l 20 = false := by simpa using hbig
  have hn20 : n ≤ 20 := by have := big_few hbig'; rw [hl.out] at this; omega
  clear hbig
  have hn2h : Hid ((n + 1) * 48 ≤ 140737488355328) := by unfold Hid; omega
  have hn3h : Hid (n + 1 ≤ maxLen) := by unfold Hid maxLen; omega
  have hn4h : Hid (n * 48 ≤ 140737488355328) := by unfold Hid; omega
  have hn6h : Hid ((n + 1 + 1) * 48 ≤ 140737488355328) := by unfold Hid; omega
  have hn7h : Hid (n + 1 + 1 ≤ maxLen) := by unfold Hid maxLen; omega
  go_wp2_with fail
  refine (big_any _ 1 _ _ [⟨mf, mt, mk, md⟩] _ (by decide) rfl (ends_one (Blk.new w1 30 _) hmf hmt)).mono ?_
  rintro e w' ⟨rfl, rfl⟩
  have hB1' : Below w.heap.size w (w1.alloc (.cells #[.string mf, .string mt, .int .i64 mk, .int .i64 md] 30)) := hB1.alloc hB1.size _
  by_cases hcond : bigB [⟨mf, mt, mk, md⟩] 1 = false ∧ first.size ≤ 100 ∧ tgt.size ≤ 100 ∧ who.size ≤ 100
  case neg =>
    cases hbm : bigB [⟨mf, mt, mk, md⟩] 1
    all_goals
      go_wp2_with fail
      all_goals first
        | (go_ret; exact ⟨rfl, hB1'⟩)
        | (exfalso; apply hcond; exact ⟨hbm, by omega, by omega, by omega⟩)
  obtain ⟨hbm, hf1, hf2, hf3⟩ := hcond
  go_wp2_with fail
  have hA1' : Hid (EndsAt (w1.alloc (.cells #[.string mf, .string mt, .int .i64 mk, .int .i64 md] 30)) A l) := hA.out.below hB1'
  have hX1a : Hid (Blk (w1.alloc (.cells #[.string mf, .string mt, .int .i64 mk, .int .i64 md] 30)) w.heap.size 30 #[.string mf, .string mt, .int .i64 mk, .int .i64 md]) := hX1'.out.alloc _
  refine (checkR_any _ _ _ _ l _ hf hn hl hA1').mono ?_
  rintro e w2 ⟨rfl, hb2⟩
  have hB2 : Below w.heap.size w w2 := hB1'.trans (hb2.mono hB1'.size)
  have hA2 : Hid (EndsAt w2 A l) := hA1'.out.below hb2
  have hX2 : Hid (Blk w2 w.heap.size 30 #[.string mf, .string mt, .int .i64 mk, .int .i64 md]) := hX1a.out.below hb2 hX1a.out.lt
  clear hc0 hc1 hc2 hc3 hX1' hX1a hA1 hA1' hb1 hb2
  rw [← check_eq]
  unfold tri
  obtain ⟨r, hr⟩ : ∃ r, r = checkE first l := ⟨_, rfl⟩
  rw [← hr]
  have hr' := Lib.hid hr
  clear hr
  by_cases he : r.2.2 = 0
  case neg =>
    have he' : (r.2.2 != 0) = true := by simp [he]
    go_wp2_with fail
    go_ret
    exact ⟨rfl, hB2⟩
  have he' : (r.2.2 != 0) = false := by simp [he]
  by_cases hemp : r.1.toList.isEmpty = true
  case pos =>
    go_wp2_with fail
    go_ret
    exact ⟨rfl, hB2⟩
  have hemp' : r.1.toList.isEmpty = false := by simpa using hemp
  have hempq : ¬ r.1.toList = [] := by simpa using hemp
  clear hemp
  by_cases hnt : nameB tgt.data.toList = true
  case neg =>
    have hnt' : nameB tgt.data.toList = false := by simpa using hnt
    go_wp2_with (go_at_call 17; refine (refName_any _ _ hto).mono ?_; rintro e w' ⟨rfl, rfl⟩)
    go_ret
    exact ⟨rfl, hB2⟩
  by_cases hth : (tgt.toList == r.1.toList) = true
  case pos =>
    go_wp2_with (go_at_call 17; refine (refName_any _ _ hto).mono ?_; rintro e w' ⟨rfl, rfl⟩)
    go_ret
    exact ⟨rfl, hB2⟩
  have hth' : (tgt.toList == r.1.toList) = false := by simpa using hth
  clear hth
  have hrn : r.2.1 = (n : Int) := by
    obtain ⟨_, hc, hcc, _, _⟩ := check_ok (first := first) (l := l) (by rw [← hr'.out]; exact he)
    have := chk_take_ok l first [] l.length hc (Nat.le_refl _)
    rw [List.take_length] at this
    rw [hr'.out, hcc, this, ← hl.out]; simp
  obtain ⟨hd, rn, re⟩ := r
  simp only at he hemp' hth' hrn hempq
  subst he hrn
  clear he'
  have hok : Hid (hd.size ≤ maxLen) := by
    obtain ⟨_, _, _, hh, _⟩ := check_ok (first := first) (l := l) (by rw [← hr'.out])
    rw [← hr'.out] at hh
    unfold Hid
    simp only at hh
    rw [hh]
    rcases hlst : l.getLast? with _ | y
    · exact hf
    · exact (hA.out.small y (List.mem_of_getLast? hlst)).2
  by_cases hk2 : (lastKind l == some 2) = true
  · obtain ⟨m, rfl⟩ : ∃ m, n = m + 1 := by
      rcases n with _ | m
      · have : l = [] := List.eq_nil_of_length_eq_zero hl
        subst this; simp [lastKind] at hk2
      · exact ⟨m, rfl⟩
    obtain ⟨x, hx⟩ : ∃ x, l[m]? = some x := ⟨_, List.getElem?_eq_getElem (by have := hl.out; omega)⟩
    have hlast : lastKind l = some x.kind := by unfold lastKind; rw [List.getLast?_eq_getElem?, hl.out]; simp [hx]
    rw [hlast] at hk2
    have hxk : (x.kind == 2) = true := by simpa using hk2
    obtain ⟨b, off, rfl, -, -, h2, -, -, -⟩ := hA2.out m x hx
    clear hx hlast hk2
    go_wp2_with (go_at_call 17; refine (refName_any _ _ hto).mono ?_; rintro e w' ⟨rfl, rfl⟩)
    go_ret
    exact ⟨rfl, hB2⟩
  have hk2' : (lastKind l == some 2) = false := by simpa using hk2
  clear hk2
  have hlaw := Lib.hid (only_right (first := first) (tgt := tgt) (l := l) (by rw [← hr'.out]) (by rw [← hr'.out]; exact hemp') hnt (by rw [← hr'.out]; exact hth') hk2')
  rw [← hr'.out] at hlaw
  go_upto_region 6 with fail
  go_cut [80] (fun s wx => w2 = wx ∧ s = .bool false)
  case first =>
    rcases n with _ | m
    · go_wp2_with (go_at_call 17; refine (refName_any _ _ hto).mono ?_; rintro e w' ⟨rfl, rfl⟩)
      go_meet
      exact ⟨rfl, rfl⟩
    · obtain ⟨x, hx⟩ : ∃ x, l[m]? = some x := ⟨_, List.getElem?_eq_getElem (by have := hl.out; omega)⟩
      have hlast : lastKind l = some x.kind := by unfold lastKind; rw [List.getLast?_eq_getElem?, hl.out]; simp [hx]
      rw [hlast] at hk2'
      have hxk : (x.kind == 2) = false := by simpa using hk2'
      obtain ⟨b, off, rfl, -, -, h2, -, -, -⟩ := hA2.out m x hx
      clear hx hlast hk2'
      go_wp2_with (go_at_call 17; refine (refName_any _ _ hto).mono ?_; rintro e w' ⟨rfl, rfl⟩)
      go_meet
      exact ⟨rfl, rfl⟩
  case rest =>
    obtain ⟨rfl, rfl⟩ := hcut
    obtain ⟨i0, hi, hz0, hz1, hz2⟩ := info_parts Try.info30
    have hR2 : Hid (Reads w2 w2.heap.size 4 A n (cellsOf l)) := by
      have := hA2.out.reads
      rw [hl.out] at this
      exact this
    have hsm : Hid (Small l) := hA.out.small
    have hone : ∀ u ∈ (#[Value.string hd, .string tgt, .int .i64 2, .int .i64 1048576] : Array Value).toList, u.oneCell' = true := cellsOf_one [only hd tgt]
    go_wp2_with (first
      | (at_builtin
         refine wpList_app1 w2.heap.size rfl (.tmp 81) (.tmp 82) 22 rfl 30 i0 _ 4 48 Try.underlying22 hi hz0 hz1 hz2 rfl (by decide) _ rfl A n c (cellsOf l) rfl (Blk.new w2 30 #[]) (Nat.le_refl _) (hR2.out.alloc (Nat.le_refl _) _) (cellsOf_one _) hn hn4h.out (by simp) ?_
         intro v1 w3 ho1 hb3
         have hz3 : w2.heap.size ≤ w3.heap.size := by have := hb3.size; simp at this; omega)
      | (at_builtin
         refine wpList_app2 w2.heap.size rfl (.tmp 83) (.tmp 87) 22 rfl 30 i0 _ 4 48 Try.underlying22 hi hz0 hz1 hz2 rfl (by decide) _ n (cellsOf l) rfl _ 1 #[.string hd, .string tgt, .int .i64 2, .int .i64 1048576] rfl (ho1.alloc _) (Blk.new w3 30 _) rfl hone hn3h.out hn2h.out (by simp; omega) ?_
         intro v2 w4 ho2 hb4
         obtain ⟨A4, c4, rfl, hnc4, hE4⟩ := ends_snoc (x := only hd tgt) ho2 hl.out hsm.out hok.out hto
         have hE4' := Lib.hid hE4
         clear hE4))
    have hb24 : Below w2.heap.size w2 w4 := ((((Below.refl _ w2).alloc (Nat.le_refl _) _).trans hb3).alloc hz3 _).trans hb4
    have hB4 : Below w.heap.size w w4 := hB2.trans (hb24.mono hB2.size)
    have hX4 : Hid (Blk w4 w.heap.size 30 #[.string mf, .string mt, .int .i64 mk, .int .i64 md]) := hX2.out.below hb24 hX2.out.lt
    have hl4 : Hid ((l ++ [only hd tgt]).length = n + 1) := by simp [Hid, hl.out]
    clear hb3 hb4 hb24 hz3 ho1 ho2 hR2 hone
    refine (check_any _ _ _ _ (l ++ [only hd tgt]) _ hf hn3h.out hnc4 hl4 hE4'.out).mono ?_
    rintro e w5 ⟨rfl, hb5⟩
    have hB5 : Below w.heap.size w w5 := hB4.trans (hb5.mono hB4.size)
    have hE5 : Hid (EndsAt w5 A4 (l ++ [only hd tgt])) := hE4'.out.below hb5
    have hX5 : Hid (Blk w5 w.heap.size 30 #[.string mf, .string mt, .int .i64 mk, .int .i64 md]) := hX4.out.below hb5 hX4.out.lt
    have hcast : ((n + 1 : Nat) : Int) = (n : Int) + 1 := Int.natCast_succ n
    rw [hlaw.out.1, hl.out, hcast]
    obtain ⟨g, hg, haft⟩ := only_after (m := ⟨mf, mt, mk, md⟩) (hlaw.out.1) rfl
    rw [hl.out, hcast] at haft
    simp only [List.append_assoc, List.cons_append, List.nil_append] at haft
    clear hcast
    have haft' := Lib.hid haft
    have hg' := Lib.hid hg
    clear haft hg
    unfold tri
    go_upto_region 10 with fail
    go_cut [18, 19, 20] (fun s1 s2 s3 wx => s1 = .string ⟨#[]⟩ ∧ s2 = .int .i64 ((n : Int) + 1) ∧ s3 = .int .i64 g ∧ Below w.heap.size w wx ∧ EndsAt wx A4 (l ++ [only hd tgt]))
    case first =>
      have hX0 := hX5.out
      have hc0 : w5.cell? ⟨w.heap.size, 0, none⟩ = some (.string mf) := hX0.cell 0
      have hc1 : w5.cell? ⟨w.heap.size, 1, none⟩ = some (.string mt) := hX0.cell 1
      have hc2 : w5.cell? ⟨w.heap.size, 2, none⟩ = some (.int .i64 mk) := hX0.cell 2
      have hc3 : w5.cell? ⟨w.heap.size, 3, none⟩ = some (.int .i64 md) := hX0.cell 3
      have hR1 : Reads w5 w5.heap.size 4 A4 (n + 1) (cellsOf (l ++ [only hd tgt])) := by
        have := hE5.out.reads
        rw [hl4.out] at this
        exact this
      have hsm4 : Hid (Small (l ++ [only hd tgt])) := hE5.out.small
      have hlt0 : w.heap.size < w5.heap.size := hX5.out.lt
      have hBW : w.heap.size ≤ w5.heap.size := hB5.size
      have hone : ∀ u ∈ (#[Value.string mf, .string mt, .int .i64 mk, .int .i64 md] : Array Value).toList, u.oneCell' = true := cellsOf_one [⟨mf, mt, mk, md⟩]
      clear hlaw hg' hr' hA hA2 hX2 hX4 hE4' hB1 hB1' hB2 hB4 hb5
      go_region_law (first
        | (refine step_app1 w5.heap.size rfl _ _ 22 rfl 30 i0 _ 4 48 Try.underlying22 hi hz0 hz1 hz2 rfl (by decide) _ rfl A4 (n + 1) c4 (cellsOf (l ++ [only hd tgt])) rfl
            (by first | exact Blk.new w5 30 #[] | exact (Blk.new w5 30 #[]).alloc _ | exact blk_second w5 _ 30 #[]) (by first | exact Nat.le_refl _ | exact Nat.le_succ _)
            (by first | exact hR1.alloc (Nat.le_refl _) _ | exact (hR1.alloc (Nat.le_refl _) _).alloc (by simp) _) (cellsOf_one _) hn3h.out hn2h.out (by first | exact le_alloc1 _ _ | exact le_alloc2 _ _ _) ?_
           intro v1 w6 ho1 hk1 hb6
           have hB6 : Below w5.heap.size w5 w6 := by first | exact ((Below.refl _ w5).alloc (Nat.le_refl _) _).drew.trans hb6 | exact (((Below.refl _ w5).alloc (Nat.le_refl _) _).alloc (by simp) _).drew.trans hb6
           have hz6 := hB6.size
           have hX6 := hX0.below hB6 hlt0
           have hd0 : w6.cell? ⟨w.heap.size, 0, none⟩ = some (.string mf) := hX6.cell 0
           have hd1 : w6.cell? ⟨w.heap.size, 1, none⟩ = some (.string mt) := hX6.cell 1
           have hd2 : w6.cell? ⟨w.heap.size, 2, none⟩ = some (.int .i64 mk) := hX6.cell 2
           have hd3 : w6.cell? ⟨w.heap.size, 3, none⟩ = some (.int .i64 md) := hX6.cell 3
           clear hX6)
        | (go_simp; go_at_call 9
           refine (check_any _ _ _ _ (l ++ [only hd tgt] ++ [⟨mf, mt, mk, md⟩]) _ hf hn7h.out hnc' (by simp [Hid, hl.out]) hE7).mono ?_
           rintro e w8 ⟨rfl, hb8⟩
           have hB8 : Below w5.heap.size w5 w8 := hB7.trans (hb8.mono hB7.size)
           unfold tri)
        | (refine step_app2 w5.heap.size rfl _ _ 22 rfl 30 i0 _ 4 48 Try.underlying22 hi hz0 hz1 hz2 rfl (by decide) _ (n + 1) (cellsOf (l ++ [only hd tgt])) rfl _ 1 #[.string mf, .string mt, .int .i64 mk, .int .i64 md] rfl
            (by first | exact ho1 | exact ho1.alloc _) (by first | exact Blk.new w6 30 _ | exact (hk1 _ _ (blk_second w5 _ 30 _) (by simp)).1 | exact (hk1 _ _ ((Blk.new w5 30 _).alloc _) (by simp)).1) rfl hone hn7h.out hn6h.out (by first | exact hz6 | exact Nat.le_trans hz6 (le_alloc1 _ _)) ?_
           intro v2 w7 ho2 hb7
           have hB7 : Below w5.heap.size w5 w7 := by first | exact hB6.trans hb7 | exact (hB6.alloc hz6 _).trans hb7
           obtain ⟨A', c', rfl, hnc', hE'⟩ := ends_snoc (x := ⟨mf, mt, mk, md⟩) ho2 hl4.out hsm4.out hmf hmt
           have hE7 := Lib.hid hE'
           clear hE'))
      all_goals (go_wp2_with fail; go_meet; exact ⟨by rw [haft'.out], by rw [haft'.out], by rw [haft'.out], hB5.trans (hB8.mono hBW), hE5.out.below hB8⟩)
    case rest =>
      obtain ⟨rfl, rfl, rfl, hBc, hEc⟩ := hcut
      have hEc' := Lib.hid hEc
      clear hEc
      go_wp2_with fail
      refine (mayE_any _ _ _ _ _ (l ++ [only hd tgt]) _ hf hto hn3h.out hnc4 hl4 hEc'.out).mono ?_
      rintro e w9 ⟨rfl, hb9⟩
      have hB9 : Below w.heap.size w w9 := hBc.trans (hb9.mono hBc.size)
      have hE9 : Hid (EndsAt w9 A4 (l ++ [only hd tgt])) := hEc'.out.below hb9
      rw [only_may rfl]
      go_wp2_with fail
      refine (mayE_any _ _ _ _ _ (l ++ [only hd tgt]) _ hf hwho hn3h.out hnc4 hl4 hE9.out).mono ?_
      rintro e w10 ⟨rfl, hb10⟩
      have hB10 : Below w.heap.size w w10 := hB9.trans (hb10.mono hB9.size)
      rw [only_may rfl]
      rcases hg'.out with rfl | rfl
      · go_wp2_with fail
        go_ret
        exact ⟨rfl, hB10⟩
      · go_wp2_with fail
        go_ret
        exact ⟨rfl, hB10⟩

end Go.Proofs.Ytdgbghgcnkjjeaa

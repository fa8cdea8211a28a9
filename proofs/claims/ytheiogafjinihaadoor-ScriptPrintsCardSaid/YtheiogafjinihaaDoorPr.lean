/- The steps of a text: script.Parse. -/
import Derived.Test.YtheiogafjinihaaDoorRd
import Derived.Test.YtheiogafjinihaaDoorJ
namespace Go.Proofs.YtheiogafjinihaaDoor
open Go Go.RowKit Go.BigFrame Go.Maps

theorem Tryd.info49 : (Tryd.prog.info? 49).map (fun i => (i.zero, i.size, i.bytes)) = some (some (.agg #[.int .i64 0, .int .i64 0, .string ⟨#[]⟩, .int .i64 0, .int .i64 0, .string ⟨#[]⟩]), 6, 64) := by kernel_rfl
def stL (x : Stp) : List Value := x.cells.toList
theorem info_parts {P : Program} {T : TypeId} {z : Value} {n b : Nat} (h : (P.info? T).map (fun i => (i.zero, i.size, i.bytes)) = some (some z, n, b)) : ∃ i0, P.info? T = some i0 ∧ i0.zero = some z ∧ i0.size = n ∧ i0.bytes = b := by
  cases e : P.info? T with
  | none => rw [e] at h; cases h
  | some i => rw [e] at h; simp at h; exact ⟨i, rfl, h.1, h.2.1, h.2.2⟩
theorem own_none (w : World) (B : Nat) (e : TypeId) (size : Nat) : w.ownsRow B e size (.slice none 0 0) 0 [] := ⟨by simp, .inl ⟨rfl, rfl⟩⟩
/-- What Parse answers: well, no line, too many. -/
def codeP : Nat → Int
  | 0 => 0
  | 1 => 2
  | _ => 7
def ParseR (o : List Stp × Nat × Nat) (w : World) (e : Ending) (w' : World) : Prop :=
  ∃ v, e = .returned (.tuple #[v, .int .i64 (o.2.1 : Int), .int .i64 (codeP o.2.2)]) ∧ w'.ownsRow w.heap.size 49 6 v o.1.length (o.1.flatMap stL) ∧ Below w.heap.size w w'
theorem parseW_app {l r : List UInt8} (h : (10 : UInt8) ∉ l) (acc : List Stp) (hn : acc.length ≠ 4096) : parseW (wordsL 10 (l ++ 10 :: r)) acc = match readM l with
    | none => ([], acc.length, 1)
    | some x => parseW (wordsL 10 r) (acc ++ [x]) := by
  rw [wordsL_cons h, parseW_cons (wordsL_ne _ _), if_neg hn]
  cases readM l <;> rfl
theorem parseW_full (r : List UInt8) (acc : List Stp) (h0 : r ≠ []) (hn : acc.length = 4096) : parseW (wordsL 10 r) acc = ([], acc.length, 2) := by
  rcases part_at 10 r with h1 | ⟨w, r', rfl, h2⟩
  · rw [wordsL_none h1, parseW, if_neg h0, if_pos hn]
  · rw [wordsL_cons h2, parseW_cons (wordsL_ne _ _), if_pos hn]
theorem parseW_tail {r : List UInt8} (h : (10 : UInt8) ∉ r) (acc : List Stp) (h0 : r ≠ []) (hn : acc.length ≠ 4096) : parseW (wordsL 10 r) acc = ([], acc.length, 1) := by
  rw [wordsL_none h, parseW, if_neg h0, if_neg hn]

set_option maxRecDepth 100000 in
set_option maxHeartbeats 3200000 in
theorem parse_any (s : List UInt8) (w : World) (he : Env w) (hs : s.length < 4294967281) : Calls Tryd.prog 13 #[.string ⟨s.toArray⟩] w (ParseR (parseM s) w) := by
  obtain ⟨i0, hi, hz0, hz1, hz2⟩ := info_parts Tryd.info49
  have hfm := Lib.hid (forms_any w)
  have he' := Lib.hid he
  have hs' := Lib.hid hs
  clear he hs
  go_enter Tryd.func13, Tryd.ntmps13
  go_wp2_with (go_at_call 20; refine hfm.out.mono ?_; rintro e w2 ⟨mb, rfl, hf, hb⟩; have hF2 := Lib.hid hf; have hB2 := Lib.hid hb; clear hf hb)
  have hE2 := Lib.hid (he'.out.below hB2.out)
  go_loopg [0, 6] s.length (fun gg a b wr => ∃ (r : List UInt8) (acc : List Stp), r.length ≤ s.length ∧ gg = r.length ∧ a = .string ⟨r.toArray⟩ ∧ acc.length ≤ 4096 ∧ Hid (parseM s = parseW (wordsL 10 r) acc) ∧ Hid (wr.ownsRow w2.heap.size 49 6 b acc.length (acc.flatMap stL)) ∧ Hid (Below w2.heap.size w2 wr))
  case atStart => exact ⟨s, [], Nat.le_refl _, rfl, rfl, by simp, rfl, own_none _ _ _ _, Below.refl _ _⟩
  case round =>
    obtain ⟨r, acc, hrl0, hg, rfl, hac, hp, hrow, hB⟩ := hrel
    have hrs := Lib.hid hrl0
    have hg' := Lib.hid hg
    have hac' := Lib.hid hac
    clear hrl0 hg hac
    have hEr := Lib.hid (hE2.out.below hB.out)
    have hFr := Lib.hid (hF2.out.below hB.out)
    have hBr : Hid (Below w.heap.size w wr) := hB2.out.trans (hB.out.mono hB2.out.size)
    have hown : Hid (wr.ownsRow w.heap.size 49 6 u6 acc.length (acc.flatMap stL)) := own_mono_base hrow.out hB2.out.size
    obtain ⟨n, hn⟩ : ∃ n, Hid (acc.length = n) := ⟨_, Lib.hid rfl⟩
    rw [hn.out] at hrow hown hac'
    obtain ⟨A, c, rfl⟩ : ∃ A c, u6 = .slice A n c := by
      rcases hrow.out.2 with ⟨h1, h2⟩ | ⟨g, c, cur, h1, _⟩
      · subst h2; exact ⟨none, 0, h1⟩
      · exact ⟨some ⟨g, 0, none⟩, c, h1⟩
    by_cases hr0 : r = []
    · subst hr0
      have hpe : Hid (parseM s = (acc, n, 0)) := by unfold Hid; rw [← hn.out]; exact hp.out
      go_wp2_with fail
      go_ret3
      rw [hpe.out]
      refine ⟨_, rfl, ?_, hBr.out⟩
      show World.ownsRow _ _ _ _ _ acc.length _
      rw [hn.out]
      exact hown.out
    · have b0 : (r == []) = false := by simp [hr0]
      by_cases hfull : n = 4096
      · have b1 : ((n : Int) == 4096) = true := by simp [hfull]
        have hpe : Hid (parseM s = ([], n, 2)) := by unfold Hid; rw [hp.out, parseW_full r acc hr0 (hn.out.trans hfull), hn.out]
        clear hfull hr0
        go_wp2_with fail
        go_ret3
        rw [hpe.out]
        exact ⟨_, rfl, own_none _ _ _ _, hBr.out⟩
      · have b1 : ((n : Int) == 4096) = false := by simp; omega
        have hnn : Hid (acc.length ≠ 4096) := by unfold Hid; rw [hn.out]; exact hfull
        rcases part_at 10 r with hno | ⟨l, r', hre, hno⟩
        · have hpe : Hid (parseM s = ([], n, 1)) := by unfold Hid; rw [hp.out, parseW_tail hno acc hr0 hnn.out, hn.out]
          have hcut := Lib.hid (cut_any r r [] false (cut_no hno) wr hEr.out (by have := hrs.out; have := hs'.out; omega))
          have hrl := Lib.hid (fun W hf he => read_line r W mb hf he (by have := hrs.out; have := hs'.out; omega))
          clear hfull hr0 hno
          go_wp2_with (go_at_call 27; refine hcut.out.mono ?_; rintro e w4 ⟨rfl, hb4⟩; have hB4 := Lib.hid hb4; clear hb4; have hF4 := Lib.hid (hFr.out.below hB4.out); have hE4 := Lib.hid (hEr.out.below hB4.out); have hown4 := Lib.hid (own_below hown.out hB4.out))
          have hB4' : Hid (Below w.heap.size w w4) := hBr.out.trans (hB4.out.mono hBr.out.size)
          refine (hrl.out _ hF4.out hE4.out).mono ?_
          rintro e w5 ⟨he5, hb5⟩
          have hB5 := Lib.hid hb5
          clear hb5
          have hB5' : Hid (Below w.heap.size w w5) := hB4'.out.trans (hB5.out.mono hB4'.out.size)
          obtain ⟨q, hq⟩ : ∃ q, readM r = q := ⟨_, rfl⟩
          rw [hq] at he5
          cases q with
          | none =>
            obtain rfl : e = .returned (.tuple #[.agg #[.int .i64 0, .int .i64 0, .string ⟨#[]⟩, .int .i64 0, .int .i64 0, .string ⟨#[]⟩], .bool false]) := he5
            clear hq
            obtain ⟨w6, hw6⟩ : ∃ W, Hid (w5.alloc (.cells #[.int .i64 0, .int .i64 0, .string ⟨#[]⟩, .int .i64 0, .int .i64 0, .string ⟨#[]⟩] 49) = W) := ⟨_, rfl⟩
            have hB6 : Hid (Below w.heap.size w w6) := by rw [← hw6.out]; exact hB5'.out.alloc hB5'.out.size _
            have hk6 : Hid (Blk w6 w5.heap.size 49 #[.int .i64 0, .int .i64 0, .string ⟨#[]⟩, .int .i64 0, .int .i64 0, .string ⟨#[]⟩]) := by rw [← hw6.out]; exact Lib.hid (Blk.new _ _ _)
            go_wp2_with (first | rw [hw6.out] | (refine wpList_put_blk rfl 49 _ _ rfl w5.heap.size #[.int .i64 0, .int .i64 0, .string ⟨#[]⟩, .int .i64 0, .int .i64 0, .string ⟨#[]⟩] #[.int .i64 0, .int .i64 0, .string ⟨#[]⟩, .int .i64 0, .int .i64 0, .string ⟨#[]⟩] 49 rfl rfl hk6.out rfl (by kernel_rfl) (by simp [Value.oneCell']) ?_; intro w7 _ hu7; have hB7 : Hid (Below w.heap.size w w7) := hu7.to_below hB6.out hB5'.out.size hB6.out.size; clear hu7))
            go_ret3
            rw [hpe.out]
            exact ⟨_, rfl, own_none _ _ _ _, hB7.out⟩
          | some x =>
            obtain ⟨xk, xn, xp, xa, xc, xd⟩ := x
            obtain rfl : e = .returned (.tuple #[.agg #[.int .i64 xk, .int .i64 xn, .string ⟨xp.toArray⟩, .int .i64 xa, .int .i64 xc, .string ⟨xd.toArray⟩], .bool true]) := he5
            clear hq
            obtain ⟨w6, hw6⟩ : ∃ W, Hid (w5.alloc (.cells #[.int .i64 0, .int .i64 0, .string ⟨#[]⟩, .int .i64 0, .int .i64 0, .string ⟨#[]⟩] 49) = W) := ⟨_, rfl⟩
            have hB6 : Hid (Below w.heap.size w w6) := by rw [← hw6.out]; exact hB5'.out.alloc hB5'.out.size _
            have hk6 : Hid (Blk w6 w5.heap.size 49 #[.int .i64 0, .int .i64 0, .string ⟨#[]⟩, .int .i64 0, .int .i64 0, .string ⟨#[]⟩]) := by rw [← hw6.out]; exact Lib.hid (Blk.new _ _ _)
            go_wp2_with (first | rw [hw6.out] | (refine wpList_put_blk rfl 49 _ _ rfl w5.heap.size #[.int .i64 0, .int .i64 0, .string ⟨#[]⟩, .int .i64 0, .int .i64 0, .string ⟨#[]⟩] #[.int .i64 xk, .int .i64 xn, .string ⟨xp.toArray⟩, .int .i64 xa, .int .i64 xc, .string ⟨xd.toArray⟩] 49 rfl rfl hk6.out rfl (by kernel_rfl) (by simp [Value.oneCell']) ?_; intro w7 _ hu7; have hB7 : Hid (Below w.heap.size w w7) := hu7.to_below hB6.out hB5'.out.size hB6.out.size; clear hu7))
            go_ret3
            rw [hpe.out]
            exact ⟨_, rfl, own_none _ _ _ _, hB7.out⟩
        · subst hre
          have hll : l.length ≤ s.length := by have := hrs.out; simp at this; omega
          have hcut := Lib.hid (cut_any (l ++ 10 :: r') l r' true (cut_yes hno) wr hEr.out (by have := hrs.out; have := hs'.out; omega))
          have hrl := Lib.hid (fun W hf he => read_line l W mb hf he (by have := hs'.out; omega))
          have hpp := Lib.hid (parseW_app hno acc hnn.out (r := r'))
          clear hfull hr0 hno hll
          go_wp2_with (go_at_call 27; refine hcut.out.mono ?_; rintro e w4 ⟨rfl, hb4⟩; have hB4 := Lib.hid hb4; clear hb4; have hF4 := Lib.hid (hFr.out.below hB4.out); have hE4 := Lib.hid (hEr.out.below hB4.out))
          have hB4' : Hid (Below w2.heap.size w2 w4) := hB.out.trans (hB4.out.mono hB.out.size)
          have hrow4 := Lib.hid (own_below hrow.out hB4.out)
          refine (hrl.out _ hF4.out hE4.out).mono ?_
          rintro e w5 ⟨he5, hb5⟩
          have hB5 := Lib.hid hb5
          clear hb5
          have hB5' : Hid (Below w2.heap.size w2 w5) := hB4'.out.trans (hB5.out.mono hB4'.out.size)
          have hrow5 := Lib.hid (own_below hrow4.out hB5.out)
          obtain ⟨q, hq⟩ : ∃ q, readM l = q := ⟨_, rfl⟩
          rw [hq] at he5
          cases q with
          | none =>
            have hpe : Hid (parseM s = ([], n, 1)) := by unfold Hid; rw [hp.out, hpp.out, hq, ← hn.out]
            obtain rfl : e = .returned (.tuple #[.agg #[.int .i64 0, .int .i64 0, .string ⟨#[]⟩, .int .i64 0, .int .i64 0, .string ⟨#[]⟩], .bool false]) := he5
            clear hq
            obtain ⟨w6, hw6⟩ : ∃ W, Hid (w5.alloc (.cells #[.int .i64 0, .int .i64 0, .string ⟨#[]⟩, .int .i64 0, .int .i64 0, .string ⟨#[]⟩] 49) = W) := ⟨_, rfl⟩
            have hB6 : Hid (Below w2.heap.size w2 w6) := by rw [← hw6.out]; exact hB5'.out.alloc hB5'.out.size _
            have hk6 : Hid (Blk w6 w5.heap.size 49 #[.int .i64 0, .int .i64 0, .string ⟨#[]⟩, .int .i64 0, .int .i64 0, .string ⟨#[]⟩]) := by rw [← hw6.out]; exact Lib.hid (Blk.new _ _ _)
            go_wp2_with (first | rw [hw6.out] | (refine wpList_put_blk rfl 49 _ _ rfl w5.heap.size #[.int .i64 0, .int .i64 0, .string ⟨#[]⟩, .int .i64 0, .int .i64 0, .string ⟨#[]⟩] #[.int .i64 0, .int .i64 0, .string ⟨#[]⟩, .int .i64 0, .int .i64 0, .string ⟨#[]⟩] 49 rfl rfl hk6.out rfl (by kernel_rfl) (by simp [Value.oneCell']) ?_; intro w7 _ hu7; have hB7 : Hid (Below w2.heap.size w2 w7) := hu7.to_below hB6.out hB5'.out.size hB6.out.size; clear hu7))
            go_ret3
            rw [hpe.out]
            exact ⟨_, rfl, own_none _ _ _ _, hB2.out.trans (hB7.out.mono hB2.out.size)⟩
          | some x =>
            have hpe : Hid (parseM s = parseW (wordsL 10 r') (acc ++ [x])) := by unfold Hid; rw [hp.out, hpp.out, hq]
            have hst : Hid ((acc ++ [x]).flatMap stL = acc.flatMap stL ++ stL x) := by unfold Hid; simp
            have hln : Hid ((acc ++ [x]).length = n + 1) := by unfold Hid; rw [← hn.out]; simp
            obtain ⟨xs, hxs⟩ : ∃ xs, Hid (acc ++ [x] = xs) := ⟨_, Lib.hid rfl⟩
            rw [hxs.out] at hpe hst hln
            obtain ⟨xk, xn, xp, xa, xc, xd⟩ := x
            obtain rfl : e = .returned (.tuple #[.agg #[.int .i64 xk, .int .i64 xn, .string ⟨xp.toArray⟩, .int .i64 xa, .int .i64 xc, .string ⟨xd.toArray⟩], .bool true]) := he5
            clear hq
            have hone : Hid (∀ u ∈ (#[.int .i64 xk, .int .i64 xn, .string ⟨xp.toArray⟩, .int .i64 xa, .int .i64 xc, .string ⟨xd.toArray⟩] : Array Value).toList, u.oneCell' = true) := by
              intro u hu
              simp at hu
              rcases hu with rfl | rfl | rfl | rfl | rfl | rfl <;> rfl
            have hq1 : Hid (n + 1 ≤ maxLen) := by have := hac'.out; unfold Hid maxLen; omega
            have hq2 : Hid ((n + 1) * 64 ≤ 140737488355328) := by have := hac'.out; unfold Hid; omega
            obtain ⟨w6, hw6⟩ : ∃ W, Hid (w5.alloc (.cells #[.int .i64 0, .int .i64 0, .string ⟨#[]⟩, .int .i64 0, .int .i64 0, .string ⟨#[]⟩] 49) = W) := ⟨_, rfl⟩
            have hB6 : Hid (Below w2.heap.size w2 w6) := by rw [← hw6.out]; exact hB5'.out.alloc hB5'.out.size _
            have hb56 : Hid (Below w5.heap.size w5 w6) := by rw [← hw6.out]; exact (Below.refl _ w5).alloc (Nat.le_refl _) _
            have hk6 : Hid (Blk w6 w5.heap.size 49 #[.int .i64 0, .int .i64 0, .string ⟨#[]⟩, .int .i64 0, .int .i64 0, .string ⟨#[]⟩]) := by rw [← hw6.out]; exact Lib.hid (Blk.new _ _ _)
            go_upto_region 10 with (first | rw [hw6.out] | (refine wpList_put_blk rfl 49 _ _ rfl w5.heap.size #[.int .i64 0, .int .i64 0, .string ⟨#[]⟩, .int .i64 0, .int .i64 0, .string ⟨#[]⟩] #[.int .i64 xk, .int .i64 xn, .string ⟨xp.toArray⟩, .int .i64 xa, .int .i64 xc, .string ⟨xd.toArray⟩] 49 rfl rfl hk6.out rfl (by kernel_rfl) (by simp [Value.oneCell']) ?_; intro w7 hk7 hu7; have hK7 := Lib.hid hk7; have hb57 : Hid (Below w5.heap.size w5 w7) := hu7.to_below hb56.out (Nat.le_refl _) hb56.out.size; clear hu7 hk7))
            have hB7 : Hid (Below w2.heap.size w2 w7) := hB5'.out.trans (hb57.out.mono hB5'.out.size)
            have hrow7 := Lib.hid (own_below hrow5.out hb57.out)
            go_wp2_with (first | (refine wpList_get_blk rfl 49 _ rfl w5.heap.size #[.int .i64 xk, .int .i64 xn, .string ⟨xp.toArray⟩, .int .i64 xa, .int .i64 xc, .string ⟨xd.toArray⟩] 49 _ rfl hK7.out Tryd.underlying49 rfl (by kernel_rfl) ?_) | (at_builtin; go_must (refine wpList_app3 w2.heap.size rfl (.tmp 40) (.tmp 42) 35 rfl 49 i0 _ 6 64 Tryd.underlying35 hi hz0 hz1 hz2 rfl (by decide) (.slice A n c) n (acc.flatMap stL) rfl w7.heap.size 1 #[.int .i64 xk, .int .i64 xn, .string ⟨xp.toArray⟩, .int .i64 xa, .int .i64 xc, .string ⟨xd.toArray⟩] rfl (hrow7.out.alloc _) (Blk.new w7 49 _) rfl hone.out hq1.out hq2.out (Nat.le_trans hB7.out.size (by simp)) ?_); intro v8 w8 ho8 hb8 hg8; have hO8 := Lib.hid ho8; have hB8 : Hid (Below w2.heap.size w2 w8) := (hB7.out.alloc hB7.out.size _).trans hb8; clear ho8 hb8 hg8))
            go_roundg r'.length
            case measure => have := hg'.out; simp at this; omega
            case rel => exact ⟨r', xs, by have := hrs.out; simp at this; omega, rfl, rfl, by have := hac'.out; have := hln.out; have := hn.out; have := hnn.out; omega, hpe.out, by rw [hst.out, hln.out]; exact hO8.out, hB8.out⟩

end Go.Proofs.YtheiogafjinihaaDoor

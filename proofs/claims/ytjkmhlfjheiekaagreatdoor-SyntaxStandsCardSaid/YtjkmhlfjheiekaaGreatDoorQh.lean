/- Tokens, written with a blank between each two: the walks of written and Join. -/
import Derived.OwnWalk
import Derived.Test.YtjkmhlfjheiekaaGreatDoorQb
import Derived.Test.YtjkmhlfjheiekaaGreatDoorZc
namespace Go.Proofs.YtjkmhlfjheiekaaGreatDoor
open Go Go.RowKit

/-- How a token stands in a text. -/
def writtenT (t : Tok) : Txt := if t.kind = 3 then 34 :: (t.text ++ [34]) else t.text
theorem ws_sign1 {c : UInt8} (hb : blankB c = false) (ho : ∀ r, oneM (c :: r) = .ok (5, [c], 1)) : WScan [c] [(5, [c])] := fun _ _ _ hl => scan_sign hb ho hl
theorem ws_sign2 {c : UInt8} (hc : c = 60 ∨ c = 62) : WScan [c, 61] [(5, [c, 61])] := fun _ _ _ hl => scan_sign2 hc hl
theorem ws_signs {s : Txt} (h : signsL.contains s = true) : WScan s [(5, s)] := by
  rw [List.contains_iff_mem] at h
  simp only [signsL, List.mem_cons, List.not_mem_nil, or_false] at h
  rcases h with rfl | rfl | rfl | rfl | rfl | rfl | rfl | rfl | rfl | rfl
  · exact ws_sign1 (by decide) (fun _ => rfl)
  · exact ws_sign1 (by decide) (fun _ => rfl)
  · exact ws_sign1 (by decide) (fun _ => rfl)
  · exact ws_sign1 (by decide) (fun _ => rfl)
  · exact ws_sign1 (by decide) (fun _ => rfl)
  · exact ws_sign1 (by decide) (fun _ => rfl)
  · exact ws_sign1 (by decide) (fun _ => rfl)
  · exact ws_sign1 (by decide) (fun _ => rfl)
  · exact ws_sign2 (.inl rfl)
  · exact ws_sign2 (.inr rfl)
theorem ws_tok {t : Tok} (h : GoodT t) : WScan (writtenT t) [(t.kind, t.text)] := by
  have hk := h.kind
  unfold writtenT
  by_cases h3 : t.kind = 3
  · rw [if_pos h3, h3]
    intro rest l _ hl
    have := scan_text (h.text h3) hl
    simpa using this
  · rw [if_neg h3]
    by_cases h2 : t.kind ≤ 2
    · obtain ⟨a, b⟩ := h.name h2
      have := ws_name a
      unfold nmT at this
      rwa [b] at this
    · by_cases h4 : t.kind = 4
      · obtain ⟨a, b⟩ := h.code h4
        rw [h4]
        exact ws_code (by unfold codeM; rw [b, a]; rfl)
      · have h5 : t.kind = 5 := by omega
        rw [h5]
        exact ws_signs (h.sign h5)
/-- A token alone. -/
theorem scan_alone {t : Tok} (h : GoodT t) : ∃ p, scanT (writtenT t) = .ok [⟨t.kind, p, t.text⟩] := by
  have h1 := ws_tok h [] [] brk_none (Scans.nil _ rfl)
  rw [List.append_nil, List.append_nil] at h1
  obtain ⟨ts, e1, e2⟩ := scans_ok h1 ((writtenT t).length + 1) 0 0 (by omega) (by simp)
  obtain ⟨p, v, rfl, hv⟩ := kt_cons e2
  rw [kt_nil hv] at e1
  exact ⟨p, e1⟩
def joinT (ts : List Tok) : Txt := spaced (ts.map writtenT)
theorem flat_kt : ∀ ts : List Tok, (ts.map fun t => (writtenT t, ([(t.kind, t.text)] : KT))).flatMap Prod.snd = kt ts
  | [] => rfl
  | t :: ts => by rw [List.map_cons, List.flatMap_cons, flat_kt ts]; rfl
theorem join_scans {ts : List Tok} (h : GoodL ts) (hne : ts ≠ []) : Scans (joinT ts) (kt ts) := by
  have h1 := scan_words (ts.map fun t => (writtenT t, ([(t.kind, t.text)] : KT))) (by simpa using hne) (fun p hp => by
    obtain ⟨t, ht, rfl⟩ := List.mem_map.1 hp
    exact ws_tok (h t ht)) [] [] brk_none (Scans.nil _ rfl)
  rw [List.append_nil, List.append_nil, List.map_map, flat_kt] at h1
  exact h1
theorem join_some {ts : List Tok} (h : GoodL ts) (hne : ts ≠ []) : joinT ts ≠ [] := fun hz => by
  have h1 := join_scans h hne
  rw [hz] at h1
  have := scans_len h1
  rw [kt_len] at this
  exact hne (List.eq_nil_of_length_eq_zero (by simpa using this))
/-- **Word by word**: the same tokens, put together with a blank between each two, are the same credit's. -/
theorem tokens_back {c : Crd} {l : List Nd} (h : creditM c l = true) {ts : List Tok} (hg : GoodL ts) (hk : kt ts = topK c ++ (l.map ndP).flatMap needK) (hs : (joinT ts).length ≤ 4096) : parseT (joinT ts) = .ok (c, l.map ndP) := by
  have hne : ts ≠ [] := fun hz => by
    rw [hz] at hk
    simp [kt, topK, lineK] at hk
  have hsc := join_scans hg hne
  have hlen := scans_len hsc
  obtain ⟨us, e1, e2⟩ := scans_ok hsc ((joinT ts).length + 1) 0 0 (by omega) (by omega)
  exact parse_tokens_back h hs e1 (by rw [e2, hk])
end Go.Proofs.YtjkmhlfjheiekaaGreatDoor
namespace Go.Proofs.YtjkmhlfjheiekaaGreatDoor
open Go Go.RowKit Go.BigFrame Go.Maps

theorem own_words {w : World} {base m : Nat} {v : Value} {ws : List Txt} (h : w.ownsRow base 9 1 v m (ws.map fun t => Value.string ⟨t.toArray⟩)) (hl : ws.length = m) (h1 : 1 ≤ m) : ∃ g c', v = .slice (some ⟨g, 0, none⟩) m c' ∧ m ≤ c' ∧ g < w.heap.size ∧ WordsAt w g ws := by
  rcases h.2 with ⟨rfl, rfl⟩ | ⟨g, cap, cur, rfl, _, hh, hnc, _⟩
  · omega
  · have hlt : g < w.heap.size := by
      rcases Nat.lt_or_ge g w.heap.size with h | h
      · exact h
      · rw [Array.getElem?_eq_none h] at hh; cases hh
    refine ⟨g, _, rfl, hnc, hlt, fun k t hk => ?_⟩
    have := h.cells (g := g) rfl k (.string ⟨t.toArray⟩) (by simp [hk])
    rwa [show Addr.add ⟨g, 0, none⟩ k = ⟨g, k, none⟩ by unfold Addr.add; split <;> simp_all] at this
set_option maxRecDepth 100000 in
set_option maxHeartbeats 1600000 in
theorem written_any (kd : Int) (pl : Nat) (tx : Txt) (w : World) (hs : tx.length ≤ 140737488351232) :
    Calls Tryz.prog 65 #[.agg #[.int .i64 kd, .int .i64 pl, .string ⟨tx.toArray⟩]] w fun e w' => e = .returned (.string ⟨(writtenT ⟨kd, pl, tx⟩).toArray⟩) ∧ Below w.heap.size w w' := by
  have e0 : Hid (({ data := #[34] } : ByteArray) ++ { data := tx.toArray } ++ { data := #[34] } = ⟨(34 :: (tx ++ [34])).toArray⟩) := ByteArray.ext (by simp)
  have z1 : ¬ 9223372036854775807 < 1 + tx.length := by omega
  have z2 : ¬ 9223372036854775807 < 1 + tx.length + 1 := by omega
  have z3 : ¬ 9223372036854775807 < tx.length + 1 := by omega
  have z4 : ¬ 9223372036854775807 < tx.length + 1 + 1 := by omega
  by_cases h3 : kd = 3
  · have b1 : (kd == 3) = true := by rw [h3]; rfl
    have hr : Hid (writtenT ⟨kd, pl, tx⟩ = 34 :: (tx ++ [34])) := by unfold Hid writtenT; rw [if_pos h3]
    rw [hr.out]
    clear h3 hr hs
    go_enter Tryz.func65, Tryz.ntmps65
    go_wp2_with fail
    rw [e0.out]
    go_ret
    exact ⟨rfl, (Below.refl _ w).alloc (Nat.le_refl _) _⟩
  · have b1 : (kd == 3) = false := by simpa using h3
    have hr : Hid (writtenT ⟨kd, pl, tx⟩ = tx) := by unfold Hid writtenT; rw [if_neg h3]
    rw [hr.out]
    clear h3 hr hs e0
    go_enter Tryz.func65, Tryz.ntmps65
    go_wp2_with fail
    go_ret
    exact ⟨rfl, (Below.refl _ w).alloc (Nat.le_refl _) _⟩
theorem spaced_len : ∀ ws : List Txt, (spaced ws).length ≤ (ws.map fun t => t.length + 1).sum
  | [] => by simp [spaced, Lib.join]
  | [a] => by rw [spaced_one]; simp
  | a :: b :: ws => by
    rw [spaced_cons]
    have := spaced_len (b :: ws)
    simp only [List.length_append, List.length_cons, List.length_nil, List.map_cons, List.sum_cons] at this ⊢
    omega
theorem sum_le (ws : List Txt) (M : Nat) (h : ∀ t ∈ ws, t.length ≤ M) : (ws.map fun t => t.length + 1).sum ≤ ws.length * (M + 1) := by
  induction ws with
  | nil => simp
  | cons a ws ih =>
    have h1 := h a (by simp)
    have h2 := ih fun t ht => h t (by simp [ht])
    rw [List.map_cons, List.sum_cons, List.length_cons, Nat.add_mul, Nat.one_mul]
    omega
theorem written_ge (t : Tok) : t.text.length ≤ (writtenT t).length := by unfold writtenT; split <;> simp <;> omega
set_option maxRecDepth 100000 in
set_option maxHeartbeats 6400000 in
theorem join_tok (A : Option Addr) (n c : Nat) (l : List Tok) (pb : Nat) (w : World) (hl : Hid (l.length = n)) (hn : n ≤ 4096) (h1 : 1 ≤ n) (hA : Hid (TokAt w pb A l)) (hg : Hid (GoodL l)) (hs : Hid (∀ t ∈ l, (writtenT t).length ≤ 4096)) (he : Hid (Env w)) :
    Calls Tryz.prog 29 #[.slice A n c] w fun e w' => e = .returned (.string ⟨(joinT l).toArray⟩) ∧ Below w.heap.size w w' := by
  obtain ⟨i0, hi, hz0, hz1, hz2⟩ := info_parts (P := Tryz.prog) (e := 9) (z := .string ⟨#[]⟩) (size := 1) (bytes := 16) (by kernel_rfl)
  have b0 : decide ((4096 : Int) < (n : Int)) = false := by simp; omega
  go_enter Tryz.func29, Tryz.ntmps29
  go_wp2_with ((at_make; refine wpList_make_own _ rfl _ _ 110 rfl w.heap.size 9 i0 (.string ⟨#[]⟩) 1 Tryz.underlying110 hi hz0 hz1 .i64 .i64 _ n rfl rfl rfl (by rw [hz2]; omega) (by unfold maxLen; omega) (Nat.le_refl _) ?_; intro w0 hown0 hgrow0))
  have hB0 : Below w.heap.size w w0 := (Below.refl _ _).grown hgrow0 (Nat.le_refl _) (by simp)
  have hB0' := Lib.hid hB0
  have hown0' := Lib.hid hown0
  clear hown0 hgrow0 hB0
  go_loopg [3, 5, 6, 7, 8, 9, 18] n (fun g v _ _ _ _ _ i wr => ∃ k : Nat, k ≤ n ∧ g = n - k ∧ i = .int .i64 k ∧ Hid (wr.ownsRow w.heap.size 9 1 v k (((l.take k).map writtenT).map fun t => Value.string ⟨t.toArray⟩)) ∧ Hid (Below w.heap.size w wr))
  case atStart => exact ⟨0, Nat.zero_le _, by simp, rfl, by simpa using hown0', hB0'⟩
  case round =>
    obtain ⟨k, hk, hgg, rfl, hown, hB⟩ := hrel
    have hgg' := Lib.hid hgg
    clear hgg
    by_cases hlt : k < n
    · obtain ⟨x, hx⟩ : ∃ x, l[k]? = some x := ⟨_, List.getElem?_eq_getElem (by have := hl.out; omega)⟩
      have hx' := Lib.hid hx
      have hgx := Lib.hid (hg.out x (List.mem_of_getElem? hx))
      have hsx := Lib.hid (hs.out x (List.mem_of_getElem? hx))
      clear hx
      obtain ⟨g, off, rfl, _, h0, h1', h2⟩ := (hA.out.below hB.out) k x hx'.out
      obtain ⟨kd, pl, tx⟩ := x
      simp only at h0 h1' h2
      have i1 : decide ((k : Int) < (n : Int)) = true := by simp; omega
      have i2 : (k : Int) < (n : Int) := by omega
      have i3 : (0 : Int) ≤ (k : Int) := by omega
      obtain ⟨p9, hsc⟩ := scan_alone hgx.out
      have hsc' := Lib.hid hsc
      clear hsc
      obtain ⟨wt, hwt⟩ : ∃ t, Hid (writtenT ⟨kd, pl, tx⟩ = t) := ⟨_, Lib.hid rfl⟩
      have hwl : Hid (wt.length ≤ 4096) := by rw [← hwt.out]; exact hsx.out
      rw [hwt.out] at hsc'
      have hE0 := Lib.hid (Blk.new wr 89 #[.int .i64 kd, .int .i64 pl, .string ⟨tx.toArray⟩])
      have hBa : Hid (Below w.heap.size w (wr.alloc (.cells #[.int .i64 kd, .int .i64 pl, .string ⟨tx.toArray⟩] 89))) := hB.out.alloc hB.out.size _
      have hwa : Hid (wr.heap.size < (wr.alloc (.cells #[.int .i64 kd, .int .i64 pl, .string ⟨tx.toArray⟩] 89)).heap.size) := hE0.out.lt
      have howna := Lib.hid (hown.out.alloc (.cells #[.int .i64 kd, .int .i64 pl, .string ⟨tx.toArray⟩] 89))
      have hew := Lib.hid (he.out.below hBa.out)
      have hcall := Lib.hid (written_any kd pl tx (wr.alloc (.cells #[.int .i64 kd, .int .i64 pl, .string ⟨tx.toArray⟩] 89)) (by have h1 := hsx.out; have h2 := written_ge ⟨kd, pl, tx⟩; simp only at h2; omega))
      rw [hwt.out] at hcall
      go_wp2_with fail
      obtain ⟨wa, hwae⟩ : ∃ x, Hid (wr.alloc (.cells #[.int .i64 kd, .int .i64 pl, .string ⟨tx.toArray⟩] 89) = x) := ⟨_, Lib.hid rfl⟩
      rw [hwae.out] at hE0 hBa hwa howna hew hcall ⊢
      obtain ⟨gE, hgE⟩ : ∃ x, Hid (wr.heap.size = x) := ⟨_, Lib.hid rfl⟩
      have hwg : Hid (w.heap.size ≤ gE) := by rw [← hgE.out]; exact hB.out.size
      rw [hgE.out] at hE0 hwa ⊢
      clear hwae hgE hown hB h0 h1' h2
      refine hcall.out.mono ?_
      rintro e w1 ⟨rfl, hb1⟩
      have hB1 := Lib.hid (hBa.out.trans (hb1.mono hBa.out.size))
      have hE1 := Lib.hid (hE0.out.below hb1 hwa.out)
      have hs1 : Hid (gE < w1.heap.size) := Nat.lt_of_lt_of_le hwa.out hb1.size
      have hown1 := Lib.hid (own_below howna.out hb1)
      have he1 := Lib.hid (hew.out.below hb1)
      clear hb1 hBa hE0 hwa howna hew hcall
      go_wp2_with fail
      refine (scan_any ⟨wt.toArray⟩ w1 (by show wt.toArray.size ≤ _; rw [List.size_toArray]; have := hwl.out; unfold maxLen; omega) he1).mono ?_
      rintro e w2 ⟨hb2, hcase⟩
      have hcase' : ∃ v, e = .returned (.tuple #[v, .int .i64 wt.length, .int .i64 0]) ∧ w2.ownsRow (w1.heap.size + 1) 89 3 v 1 (tokL [⟨kd, p9, tx⟩]) := by
        rw [show (ByteArray.mk wt.toArray).data.toList = wt from rfl, hsc'.out] at hcase
        rcases hcase with ⟨l2, v, h, rfl, _, ho⟩ | ⟨_, _, h, _⟩
        · simp only [Except.ok.injEq] at h
          subst h
          refine ⟨v, ?_, ho⟩
          rw [show (ByteArray.mk wt.toArray).size = wt.length by show wt.toArray.size = _; simp]
        · cases h
      obtain ⟨v2, rfl, ho2⟩ := hcase'
      obtain ⟨p2, c2, rfl⟩ := own_slice ho2
      have htk := tok_own (pb := 0) (l := [⟨kd, p9, tx⟩]) ho2 (by omega)
      obtain ⟨g2, off2, rfl, _, q0, q1, q2⟩ := htk 0 ⟨kd, p9, tx⟩ rfl
      simp only [Nat.zero_mul, Nat.add_zero] at q0 q1 q2
      have hB2 := Lib.hid (hB1.out.trans (hb2.mono hB1.out.size))
      have hE2 := Lib.hid (hE1.out.below hb2 hs1.out)
      have hown2 := Lib.hid (own_below hown1.out hb2)
      have d0 : w2.cell? ⟨gE, 0, none⟩ = some (.int .i64 kd) := hE2.out.cell 0
      have d2 : w2.cell? ⟨gE, 2, none⟩ = some (.string ⟨tx.toArray⟩) := hE2.out.cell 2
      have k1 : (kd != kd) = false := by simp
      have k2 : (tx != tx) = false := by simp
      clear ho2 htk hcase hb2 hB1 hE1 hown1
      go_upto_region 9 with fail
      go_quiet (fail)
      have hq1 : Hid (k + 1 ≤ maxLen) := by unfold Hid maxLen; omega
      have hq2 : Hid ((k + 1) * 16 ≤ 140737488355328) := by unfold Hid; omega
      clear q0 q1 q2 d0 d2
      have hownd := Lib.hid (own_below hown2.out (below_drewN (Below.refl _ w2) nq))
      have hBd := Lib.hid (below_drewN hB2.out nq)
      obtain ⟨w3, hw3⟩ : ∃ x, Hid (w2.drewN nq = x) := ⟨_, Lib.hid rfl⟩
      rw [hw3.out] at hownd hBd ⊢
      clear hw3
      have hone : Hid (∀ u ∈ (#[Value.string ⟨wt.toArray⟩] : Array Value).toList, u.oneCell' = true) := by unfold Hid; simp [Value.oneCell']
      go_wp2_with (at_builtin; go_must (refine wpList_app3 w.heap.size rfl (.tmp 55) (.tmp 57) 110 rfl 9 i0 _ 1 16 Tryz.underlying110 hi hz0 hz1 hz2 rfl (by decide) _ k (((l.take k).map writtenT).map fun t => Value.string ⟨t.toArray⟩) rfl w3.heap.size 1 #[.string ⟨wt.toArray⟩] rfl (hownd.out.alloc _) (Blk.new w3 9 _) rfl hone.out hq1.out hq2.out (Nat.le_trans hBd.out.size (by simp)) ?_); intro v5 w5 ho5 hb5 hg5)
      have hB5 : Hid (Below w.heap.size w w5) := (hBd.out.alloc hBd.out.size _).trans hb5
      have ho5' := Lib.hid ho5
      clear ho5 hg5 hb5
      go_roundg (n - (k + 1))
      case measure => have := hgg'.out; omega
      case rel =>
        refine ⟨k + 1, by omega, rfl, by go_num, ?_, hB5⟩
        unfold Hid
        have hh := ho5'.out
        obtain ⟨hkl, hke⟩ := List.getElem?_eq_some_iff.1 hx'.out
        rw [List.take_succ_eq_append_getElem hkl, hke, List.map_append, List.map_append, List.map_singleton, List.map_singleton, hwt.out]
        exact hh
    · obtain rfl : k = n := by omega
      rw [List.take_of_length_le (by have := hl.out; omega)] at hown
      have i1 : decide ((k : Int) < (k : Int)) = false := by simp
      obtain ⟨g, c', rfl, hc', hgl, hW⟩ := own_words hown.out (by rw [List.length_map]; exact hl.out) h1
      have hW' := Lib.hid hW
      have hj : Hid (Calls Tryz.prog 66 #[.slice (some ⟨g, 0, none⟩) k c', .string ⟨#[32]⟩] wr fun e w' => e = .returned (.string ⟨(joinT l).toArray⟩) ∧ Below wr.heap.size wr w') := by
        have e1 : ((l.map writtenT).map fun t : Txt => (⟨t.toArray⟩ : ByteArray)).map (·.data.toList) = l.map writtenT := by rw [List.map_map]; exact List.map_id' _
        have hlen : (joinT l).length ≤ 140737488355328 := by
          have h3 := spaced_len (l.map writtenT)
          have h4 := sum_le (l.map writtenT) 4096 (fun t ht => by
            obtain ⟨u, hu, rfl⟩ := List.mem_map.1 ht
            exact hs.out u hu)
          rw [List.length_map, hl.out] at h4
          have h5 : k * (4096 + 1) ≤ 4096 * (4096 + 1) := Nat.mul_le_mul_right _ hn
          unfold joinT; omega
        have hh := Tryz.strings_Join g 0 c' ((l.map writtenT).map fun t : Txt => (⟨t.toArray⟩ : ByteArray)) ⟨#[32]⟩ wr (fun j x hx => by
          rw [List.getElem?_map] at hx
          obtain ⟨t, ht, rfl⟩ := Option.map_eq_some_iff.1 hx
          rw [Nat.zero_add]
          exact hW j t ht) hgl (by rw [List.length_map, List.length_map, hl.out]; omega) (by rw [List.length_map, List.length_map, hl.out]; exact hc') (by rw [e1]; exact hlen)
        rw [e1, List.length_map, List.length_map, hl.out] at hh
        exact hh
      clear hW hown hgl hc'
      go_wp2_with fail
      refine hj.out.mono ?_
      rintro e w1 ⟨rfl, hb1⟩
      go_wp2_with fail
      go_ret
      exact ⟨rfl, hB.out.trans (hb1.mono hB.out.size)⟩
end Go.Proofs.YtjkmhlfjheiekaaGreatDoor

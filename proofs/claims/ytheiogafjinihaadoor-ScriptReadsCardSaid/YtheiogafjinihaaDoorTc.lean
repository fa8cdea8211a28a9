/- The law ScriptReads, walked. -/
import Derived.Test.YtheiogafjinihaaDoorTb
import Derived.Test.YtheiogafjinihaaDoorTm
import Derived.Test.YtheiogafjinihaaDoorSj
namespace Go.Proofs.YtheiogafjinihaaDoor
open Go Go.RowKit Go.BigFrame Go.Maps

/-- Bytes in memory. -/
def BytesAt (w : World) (A : Option Addr) (b : List UInt8) : Prop := ∀ i x, b[i]? = some x → ∃ g off, A = some ⟨g, off, none⟩ ∧ w.cell? ⟨g, off + i, none⟩ = some (.int .u8 (x.toNat : Int))
theorem BytesAt.below {w w' : World} {A : Option Addr} {b : List UInt8} (h : BytesAt w A b) (hb : Below w.heap.size w w') : BytesAt w' A b := by
  intro i x hx
  obtain ⟨g, off, e, hc⟩ := h i x hx
  exact ⟨g, off, e, (hb.cell (World.block_lt_of_cell? w _ hc)).trans hc⟩
def bytesV (b : List UInt8) : List Value := b.map fun x => Value.int .u8 (x.toNat : Int)
theorem bytesV_one (b : List UInt8) : ∀ u ∈ bytesV b, u.oneCell' = true := by
  intro u hu
  obtain ⟨x, _, rfl⟩ := List.mem_map.1 hu
  rfl
theorem bytesV_len (b : List UInt8) : (bytesV b).length = b.length := List.length_map ..
theorem bytesV_app (b m : List UInt8) : bytesV (b ++ m) = bytesV b ++ bytesV m := List.map_append
theorem bytesV_zero (n : Nat) : bytesV (List.replicate n 0) = List.replicate n (Value.int .u8 0) := by unfold bytesV; rw [List.map_replicate]; rfl
theorem bytes_reads {w : World} {A : Option Addr} {n : Nat} {b : List UInt8} (h : BytesAt w A b) (hn : b.length = n) : Reads w w.heap.size 1 A n (bytesV b) := by
  subst hn
  refine ⟨by rw [bytesV_len, Nat.mul_one], fun h0 => ?_⟩
  obtain ⟨x0, hx0⟩ : ∃ x, b[0]? = some x := ⟨_, List.getElem?_eq_getElem h0⟩
  obtain ⟨g, off, rfl, c0⟩ := h 0 x0 hx0
  refine ⟨_, rfl, World.block_lt_of_cell? w _ c0, fun j u hu => ?_⟩
  unfold bytesV at hu
  rw [List.getElem?_map] at hu
  obtain ⟨x, hx, rfl⟩ := Option.map_eq_some_iff.1 hu
  obtain ⟨g', off', e, hc⟩ := h j x hx
  have hadd : Addr.add ⟨g, off, none⟩ j = ⟨g, off + j, none⟩ := by unfold Addr.add; split <;> simp_all
  obtain ⟨rfl, rfl⟩ : g = g' ∧ off = off' := by injection e with e; injection e with e1 e2; exact ⟨e1, e2⟩
  rw [hadd]; exact hc
theorem BytesAt.take {w : World} {A : Option Addr} {b : List UInt8} (h : BytesAt w A b) (n : Nat) : BytesAt w A (b.take n) := by
  intro i x hx
  rw [List.getElem?_take] at hx
  split at hx
  · exact h i x hx
  · cases hx
theorem own_bytes {w : World} {B g n cap : Nat} {e : TypeId} {l : List UInt8} (h : w.ownsRow B e 1 (.slice (some ⟨g, 0, none⟩) n cap) n (bytesV l)) : BytesAt w (some ⟨g, 0, none⟩) l := by
  intro i x hx
  have := h.cells (g := g) rfl i (.int .u8 (x.toNat : Int)) (by unfold bytesV; rw [List.getElem?_map, hx]; rfl)
  refine ⟨g, 0, rfl, ?_⟩
  have hadd : (⟨g, 0, none⟩ : Addr).add i = ⟨g, 0 + i, none⟩ := by unfold Addr.add; split <;> simp_all
  rw [← hadd]; exact this
theorem setupM_small (b : List UInt8) : (setupM numB2 mkB (byteAt b)).deals.length ≤ 1000 ∧ ∀ d ∈ (setupM numB2 mkB (byteAt b)).deals, d.boxes.length ≤ 1000 := by
  constructor
  · simp [setupM]; omega
  · intro d hd
    simp only [setupM, List.mem_map] at hd
    obtain ⟨k, _, rfl⟩ := hd
    simp [dealM]; omega
section
variable {P : Program} {ops : Array Oper} {rest : List Oper} {o : Oper} {a : Act} {Q : Exit → Act → World → Prop} {W : World}
theorem wpList_appS (B : Nat) (hw : Region.wanted o (yielded ops a.tmps) = true) (s x : Operand) (t : TypeId) (ho : o.op = .call { callee := .builtin .append, args := #[s, x], argTypes := #[t, t] })
    (e : TypeId) (i : TypeInfo) (z : Value) (size bytes : Nat) (ht : P.underlying t = some (.slice e)) (hi : P.info? e = some i) (hz : i.zero = some z)
    (hsize : i.size = size) (hby : i.bytes = bytes) (hzs : z.cells.size = size) (hsz : 0 < size)
    (g0 cap0 : Nat) (m : Nat) (xs : List Value) (hs : a.eval s = .slice (some ⟨g0, 0, none⟩) m cap0) (A : Option Addr) (n c : Nat) (news : List Value) (hx : a.eval x = .slice A n c)
    (hv : W.ownsRow B e size (.slice (some ⟨g0, 0, none⟩) m cap0) m xs) (hr : Reads W W.heap.size size A n news) (h1 : ∀ u ∈ news, u.oneCell' = true) (h63 : m + n ≤ maxLen) (hbytes : (m + n) * bytes ≤ 140737488355328) (hB : B ≤ W.heap.size)
    (h : ∀ g cap w', w'.ownsRow B e size (.slice (some ⟨g, 0, none⟩) (m + n) cap) (m + n) (xs ++ news) → Below B W w' → wpList P ops Q rest (a.put o.dst (.slice (some ⟨g, 0, none⟩) (m + n) cap)) w') : wpList P ops Q (o :: rest) a W := by
  refine wpList_wanted hw ?_
  refine wpList_append_any (o := { o with guard := none }) _ rfl s x t ho B e i z size bytes ht hi hz hsize hby hzs hsz _ m xs hs hv W.heap.size A n c news hx hr h1 h63 hbytes hB ?_
  intro v' w' ho' hgr hvb
  have hbel : Below B W w' := (Below.refl _ _).grown hgr hB (fun k hk => by
    rcases hv.2 with ⟨h9, _⟩ | ⟨g', cap, cur, h9, hgb, _⟩
    · cases h9
    · rw [h9] at hk; simp [Value.ownBlock] at hk; omega)
  obtain ⟨A', c', rfl⟩ := own_form2 ho'
  rcases ho'.2 with ⟨e9, _⟩ | ⟨g, cap, cur, e9, _⟩
  · rw [e9] at hvb; simp [Value.ownBlock] at hvb
  · simp only [Value.slice.injEq] at e9
    obtain ⟨rfl, _, rfl⟩ := e9
    exact h g _ w' ho' hbel
theorem wpList_make (B : Nat) (hgd : o.guard = none) (s x : Operand) (t tx : TypeId) (ho : o.op = .call { callee := .builtin .append, args := #[s, x], argTypes := #[t, tx] })
    (e : TypeId) (i : TypeInfo) (ht : P.underlying t = some (.slice e)) (htx : P.underlying tx = some (.int .i64)) (hi : P.info? e = some i) (hz : i.zero = some (.int .u8 0)) (hsize : i.size = 1) (hby : i.bytes = 1)
    (g n cap : Nat) (xs : List Value) (hs : a.eval s = .slice (some ⟨g, 0, none⟩) n cap) (m : Nat) (hx : a.eval x = .int .i64 (m : Int)) (hv : W.ownsRow B e 1 (.slice (some ⟨g, 0, none⟩) n cap) n xs) (hm : n + m ≤ 1000000) (hB : B ≤ W.heap.size)
    (h : ∀ g' cap' w', w'.ownsRow B e 1 (.slice (some ⟨g', 0, none⟩) (n + m) cap') (n + m) (xs ++ List.replicate m (.int .u8 0)) → Below B W w' → wpList P ops Q rest (a.put o.dst (.slice (some ⟨g', 0, none⟩) (n + m) cap')) w') : wpList P ops Q (o :: rest) a W := by
  refine wpList_plain hgd fun K hK => ?_
  obtain ⟨v', w', hr, h2, h3, g', cap', rfl⟩ := run_append_make (P := P) W B t tx o.type e i ht htx hi hz hsize hby g n cap xs hv m hm hB
  unfold Oper.wp execOp
  simp only [ho, resolve, invoke, builtin, Sem.run_bind, Sem.run_pure, Result.andThen_ok, List.map_toArray, List.map_cons, List.map_nil, hs, hx, hr]
  refine hK _ _ (h g' cap' w' h2 ((Below.refl _ _).grown h3 hB (fun k hk => ?_)))
  rcases hv.2 with ⟨h9, _⟩ | ⟨g9, cap9, cur, h9, hgb, _⟩
  · cases h9
  · simp only [Value.slice.injEq, Option.some.injEq, Addr.mk.injEq] at h9
    simp at hk; omega
end
theorem Tryd.info5 : (Tryd.prog.info? 5).map (fun i => (i.zero, i.size, i.bytes)) = some (some (.int .u8 0), 1, 1) := by kernel_rfl
set_option maxRecDepth 100000 in
set_option maxHeartbeats 6400000 in
theorem reads_any (A A' : Option Addr) (n c n' c' : Nat) (b m : List UInt8) (w : World) (hbc : n ≤ c) (hcm : c ≤ maxLen) (hlb : Hid (b.length = n)) (hlm : Hid (m.length = n')) (hA : Hid (BytesAt w A b)) (hM : Hid (BytesAt w A' m)) (he : Hid (Env w)) :
    Calls Tryd.prog 3 #[.slice A n c, .slice A' n' c'] w fun e w' => e = .returned (.bool true) ∧ Below w.heap.size w w' := by
  obtain ⟨i0, hi, hz0, hz1, hz2⟩ := info_parts Tryd.info5
  have haw := Lib.hid (awake_any w he)
  go_enter Tryd.func3, Tryd.ntmps3
  go_wp2_with fail
  refine haw.out.mono ?_
  rintro e w1 ⟨rfl, hb1⟩
  have hB1 := Lib.hid hb1
  clear haw hb1
  by_cases hs : 200 < n
  · have d1 : decide ((200 : Int) < (n : Int)) = true := by simp; omega
    have d2 : decide (200 < n) = true := by simp; omega
    go_wp2_with fail
    go_ret
    exact ⟨rfl, hB1.out⟩
  have d1 : decide ((200 : Int) < (n : Int)) = false := by simp; omega
  have d2 : decide (200 < n) = false := by simp; omega
  by_cases hs' : 200 < n'
  · have d3 : decide ((200 : Int) < (n' : Int)) = true := by simp; omega
    have d4 : decide (200 < n') = true := by simp; omega
    go_wp2_with fail
    go_ret
    exact ⟨rfl, hB1.out⟩
  have d3 : decide ((200 : Int) < (n' : Int)) = false := by simp; omega
  have d4 : decide (200 < n') = false := by simp; omega
  by_cases h0 : n = 0
  · have h0H := Lib.hid h0
    have e1 : decide ((0 : Int) < (n : Int)) = false := by simp; omega
    have e2 : decide (0 < n) = false := by simp; omega
    have e5 : ((n : Int) == 0) = true := by simp; omega
    have e6 : decide (n = 0) = true := by simp; omega
    clear h0
    go_upto_region 9 with fail
    obtain ⟨w7, hw7⟩ : ∃ W, Hid (w1.alloc (.cells #[] 5) = W) := ⟨_, rfl⟩
    have hown7 : Hid (w7.ownsRow w1.heap.size 5 1 (.slice (some ⟨w1.heap.size, 0, none⟩) 0 0) 0 []) := by rw [← hw7.out]; exact Lib.hid (own_new w1 _ 1)
    have hb7 : Hid (Below w1.heap.size w1 w7) := by rw [← hw7.out]; exact (Below.refl _ w1).alloc (Nat.le_refl _) _
    have hR7 : Hid (Reads w7 w7.heap.size 1 A n (bytesV b)) := Lib.hid (bytes_reads ((hA.out.below hB1.out).below hb7.out) hlb.out)
    have h1b := Lib.hid (bytesV_one b)
    have q1 : Hid (0 + n ≤ maxLen) := by unfold Hid maxLen; omega
    have q3 : Hid ((0 + n) * 1 ≤ 140737488355328) := by unfold Hid; omega
    have q5 : Hid (n + n' ≤ 1000000) := by unfold Hid; omega
    go_wp2_with (first | rw [hw7.out] | (at_builtin; (refine wpList_appS w1.heap.size (by rfl) (.tmp 37) (.tmp 38) 22 rfl 5 i0 _ 1 1 Tryd.underlying22 hi hz0 hz1 hz2 rfl (by decide) w1.heap.size 0 0 [] rfl A n c (bytesV b) rfl hown7.out hR7.out h1b.out q1.out q3.out hb7.out.size ?_); intro g8 cap8 w8 ho8 hb8; simp only [Nat.zero_add, List.nil_append] at ho8 ⊢; have hO8 := Lib.hid ho8; have hB8 := Lib.hid (hb7.out.trans hb8); clear ho8 hb8) | (at_builtin; go_must (refine wpList_make w1.heap.size rfl (.tmp 39) (.tmp 41) 22 3 rfl 5 i0 Tryd.underlying22 Tryd.underlying3 hi hz0 hz1 hz2 g8 n cap8 (bytesV b) rfl n' rfl hO8.out q5.out hB8.out.size ?_); intro g9 cap9 w9 ho9 hb9; rw [← bytesV_zero, ← bytesV_app] at ho9; have hO9 := Lib.hid ho9; have hB9 := Lib.hid (hB1.out.trans ((hB8.out.trans hb9).mono hB1.out.size)); clear ho9 hb9))
    have hle9 : (b ++ List.replicate n' 0).length = n + n' := by have h1 := hlb.out; have h2 := hlm.out; simp; omega
    have hby9 : Hid (BytesAt w9 (some ⟨g9, 0, none⟩) (b ++ List.replicate n' 0)) := Lib.hid (own_bytes hO9.out)
    have hs9 := Lib.hid (setup_any (some ⟨g9, 0, none⟩) cap9 (b ++ List.replicate n' 0) w9 (by rw [hle9]; omega) (Lib.hid hby9.out))
    have hs9' := hs9.out
    rw [reads_noughts, hle9] at hs9'
    have hs10 := Lib.hid hs9'
    clear hs9 hs9' hby9
    go_wp2_with fail
    refine hs10.out.mono ?_
    rintro e w10 ⟨cs, rfl, hcs, hb10⟩
    have hC10 := Lib.hid hcs
    have hB10 := Lib.hid (hB9.out.trans (hb10.mono hB9.out.size))
    clear hs10 hcs hb10 hO9 hB9
    have hs11' := setup_any A c b w10 (by rw [hlb.out]; omega) (Lib.hid (hA.out.below hB10.out))
    rw [hlb.out] at hs11'
    have hs11 := Lib.hid hs11'
    clear hs11'
    go_wp2_with fail
    refine hs11.out.mono ?_
    rintro e w11 ⟨cs', rfl, hcs', hb11⟩
    have hB11 := Lib.hid (hB10.out.trans (hb11.mono hB10.out.size))
    have hst := Lib.hid (setups_any (setupM numB2 mkB (byteAt b)) cs cs' w11 (setupM_small b).2 (setupM_small b).1 (hC10.out.view.below hb11) hcs'.view)
    clear hs11 hcs' hb11 hC10 hB10
    go_wp2_with fail
    refine hst.out.mono ?_
    rintro e w12 ⟨rfl, hb12⟩
    have hB12 := Lib.hid (hB11.out.trans (hb12.mono hB11.out.size))
    clear hst hb12 hB11
    go_wp2_with fail
    go_ret
    exact ⟨rfl, hB12.out⟩
  · obtain ⟨x, hx⟩ : ∃ x, b[0]? = some x := ⟨_, List.getElem?_eq_getElem (by have := hlb.out; omega)⟩
    obtain ⟨g, off, rfl, hc0⟩ := hA.out 0 x hx
    have hbl : g < w.heap.size := World.block_lt_of_cell? w _ hc0
    have hx1 : w1.cell? ⟨g, off, none⟩ = some (.int .u8 (x.toNat : Int)) := (hB1.out.cell hbl).trans hc0
    have hx0 : Hid (byteAt b 0 = x.toNat) := by unfold Hid byteAt; rw [hx]
    clear hc0 hx
    obtain ⟨t, ht⟩ : ∃ t, Hid (x.toNat % 3 = t) := ⟨_, Lib.hid rfl⟩
    have ht3 : t < 3 := by have := ht.out; omega
    have xl : x.toNat < 256 := x.toNat_lt
    have ms : (x.toNat : Int).tmod 3 = (t : Int) := by rw [Int.tmod_eq_emod_of_nonneg (by omega)]; have := ht.out; omega
    obtain ⟨q, hq⟩ : ∃ q, 1 + 9 * (1 + t) = q := ⟨_, rfl⟩
    have hqi : (1 : Int) + 9 * (1 + (t : Int)) = (q : Int) := by omega
    have hqm : q = 1 + 9 * (1 + byteAt b 0 % 3) := by rw [hx0.out, ht.out, hq]
    have hq28 : q ≤ 28 := by omega
    have e1 : decide ((0 : Int) < (n : Int)) = true := by simp; omega
    have e2 : decide (0 < n) = true := by simp; omega
    have n1 : (0 : Int) < (n : Int) := by omega
    have nz : ¬ n = 0 := h0
    have hqmH := Lib.hid hqm
    clear hqm hq
    by_cases hnq : n < q
    · have e3 : decide ((n : Int) < (q : Int)) = true := by simp; omega
      have e4 : decide (n < q) = true := by simp; omega
      go_upto_region 9 with fail
      clear hx1 ms hqi e1 e2 e3 e4 n1 nz
      obtain ⟨w7, hw7⟩ : ∃ W, Hid (w1.alloc (.cells #[] 5) = W) := ⟨_, rfl⟩
      have hown7 : Hid (w7.ownsRow w1.heap.size 5 1 (.slice (some ⟨w1.heap.size, 0, none⟩) 0 0) 0 []) := by rw [← hw7.out]; exact Lib.hid (own_new w1 _ 1)
      have hb7 : Hid (Below w1.heap.size w1 w7) := by rw [← hw7.out]; exact (Below.refl _ w1).alloc (Nat.le_refl _) _
      have hR7 : Hid (Reads w7 w7.heap.size 1 (some ⟨g, off, none⟩) n (bytesV b)) := Lib.hid (bytes_reads ((hA.out.below hB1.out).below hb7.out) hlb.out)
      have h1b := Lib.hid (bytesV_one b)
      have q1 : Hid (0 + n ≤ maxLen) := by unfold Hid maxLen; omega
      have q3 : Hid ((0 + n) * 1 ≤ 140737488355328) := by unfold Hid; omega
      have q5 : Hid (n + n' ≤ 1000000) := by unfold Hid; omega
      go_wp2_with (first | rw [hw7.out] | (at_builtin; (refine wpList_appS w1.heap.size (by rfl) (.tmp 37) (.tmp 38) 22 rfl 5 i0 _ 1 1 Tryd.underlying22 hi hz0 hz1 hz2 rfl (by decide) w1.heap.size 0 0 [] rfl (some ⟨g, off, none⟩) n c (bytesV b) rfl hown7.out hR7.out h1b.out q1.out q3.out hb7.out.size ?_); intro g8 cap8 w8 ho8 hb8; simp only [Nat.zero_add, List.nil_append] at ho8 ⊢; have hO8 := Lib.hid ho8; have hB8 := Lib.hid (hb7.out.trans hb8); clear ho8 hb8) | (at_builtin; go_must (refine wpList_make w1.heap.size rfl (.tmp 39) (.tmp 41) 22 3 rfl 5 i0 Tryd.underlying22 Tryd.underlying3 hi hz0 hz1 hz2 g8 n cap8 (bytesV b) rfl n' rfl hO8.out q5.out hB8.out.size ?_); intro g9 cap9 w9 ho9 hb9; rw [← bytesV_zero, ← bytesV_app] at ho9; have hO9 := Lib.hid ho9; have hB9 := Lib.hid (hB1.out.trans ((hB8.out.trans hb9).mono hB1.out.size)); clear ho9 hb9))
      have hle9 : (b ++ List.replicate n' 0).length = n + n' := by have h1 := hlb.out; have h2 := hlm.out; simp; omega
      have hby9 : Hid (BytesAt w9 (some ⟨g9, 0, none⟩) (b ++ List.replicate n' 0)) := Lib.hid (own_bytes hO9.out)
      have hs9 := Lib.hid (setup_any (some ⟨g9, 0, none⟩) cap9 (b ++ List.replicate n' 0) w9 (by rw [hle9]; omega) (Lib.hid hby9.out))
      have hs9' := hs9.out
      rw [reads_noughts, hle9] at hs9'
      have hs10 := Lib.hid hs9'
      clear hs9 hs9' hby9
      go_wp2_with fail
      refine hs10.out.mono ?_
      rintro e w10 ⟨cs, rfl, hcs, hb10⟩
      have hC10 := Lib.hid hcs
      have hB10 := Lib.hid (hB9.out.trans (hb10.mono hB9.out.size))
      clear hs10 hcs hb10 hO9 hB9
      have hs11' := setup_any (some ⟨g, off, none⟩) c b w10 (by rw [hlb.out]; omega) (Lib.hid (hA.out.below hB10.out))
      rw [hlb.out] at hs11'
      have hs11 := Lib.hid hs11'
      clear hs11'
      go_wp2_with fail
      refine hs11.out.mono ?_
      rintro e w11 ⟨cs', rfl, hcs', hb11⟩
      have hB11 := Lib.hid (hB10.out.trans (hb11.mono hB10.out.size))
      have hst := Lib.hid (setups_any (setupM numB2 mkB (byteAt b)) cs cs' w11 (setupM_small b).2 (setupM_small b).1 (hC10.out.view.below hb11) hcs'.view)
      clear hs11 hcs' hb11 hC10 hB10
      go_wp2_with fail
      refine hst.out.mono ?_
      rintro e w12 ⟨rfl, hb12⟩
      have hB12 := Lib.hid (hB11.out.trans (hb12.mono hB11.out.size))
      clear hst hb12 hB11
      go_wp2_with fail
      go_ret
      exact ⟨rfl, hB12.out⟩
    · have e3 : decide ((n : Int) < (q : Int)) = false := by simp; omega
      have e4 : decide (n < q) = false := by simp; omega
      have e5 : ((n : Int) == 0) = false := by simp; omega
      go_upto_region 11 with fail
      clear hx1 ms hqi e1 e2 e3 e4 e5 n1 nz
      obtain ⟨w7, hw7⟩ : ∃ W, Hid (w1.alloc (.cells #[] 5) = W) := ⟨_, rfl⟩
      have hown7 : Hid (w7.ownsRow w1.heap.size 5 1 (.slice (some ⟨w1.heap.size, 0, none⟩) 0 0) 0 []) := by rw [← hw7.out]; exact Lib.hid (own_new w1 _ 1)
      have hb7 : Hid (Below w1.heap.size w1 w7) := by rw [← hw7.out]; exact (Below.refl _ w1).alloc (Nat.le_refl _) _
      have hR7 : Hid (Reads w7 w7.heap.size 1 (some ⟨g, off, none⟩) q (bytesV (b.take q))) := Lib.hid (bytes_reads (((hA.out.below hB1.out).below hb7.out).take q) (by rw [List.length_take, hlb.out]; omega))
      have h1b := Lib.hid (bytesV_one (b.take q))
      have h1m := Lib.hid (bytesV_one m)
      have q1 : Hid (0 + q ≤ maxLen) := by unfold Hid maxLen; omega
      have q3 : Hid ((0 + q) * 1 ≤ 140737488355328) := by unfold Hid; omega
      have q5 : Hid (q + n' ≤ maxLen) := by unfold Hid maxLen; omega
      have q6 : Hid ((q + n') * 1 ≤ 140737488355328) := by unfold Hid; omega
      have s1 : (q : Int) ≤ (c : Int) := by omega
      have s2 : (0 : Int) ≤ (q : Int) := by omega
      have s3 : (c : Int) ≤ 9223372036854775807 := by unfold maxLen at hcm; omega
      go_wp2_with (first | rw [hw7.out] | (at_builtin; (refine wpList_appS w1.heap.size (by rfl) (.tmp 48) (.tmp 51) 22 rfl 5 i0 _ 1 1 Tryd.underlying22 hi hz0 hz1 hz2 rfl (by decide) w1.heap.size 0 0 [] rfl (some ⟨g, off, none⟩) q c (bytesV (b.take q)) rfl hown7.out hR7.out h1b.out q1.out q3.out hb7.out.size ?_); intro g8 cap8 w8 ho8 hb8; simp only [Nat.zero_add, List.nil_append] at ho8 ⊢; have hO8 := Lib.hid ho8; have hB8 := Lib.hid (hb7.out.trans hb8); have hR8 := Lib.hid (bytes_reads ((hM.out.below hB1.out).below hB8.out) hlm.out); clear ho8 hb8) | (at_builtin; (refine wpList_appS w1.heap.size (by rfl) (.tmp 52) (.tmp 53) 22 rfl 5 i0 _ 1 1 Tryd.underlying22 hi hz0 hz1 hz2 rfl (by decide) g8 cap8 q (bytesV (b.take q)) rfl A' n' c' (bytesV m) rfl hO8.out hR8.out h1m.out q5.out q6.out hB8.out.size ?_); intro g9 cap9 w9 ho9 hb9; rw [← bytesV_app] at ho9; have hO9 := Lib.hid ho9; have hB9 := Lib.hid (hB1.out.trans ((hB8.out.trans hb9).mono hB1.out.size)); clear ho9 hb9))
      have hle9 : (b.take q ++ m).length = q + n' := by have h1 := hlb.out; have h2 := hlm.out; simp; omega
      have hby9 : Hid (BytesAt w9 (some ⟨g9, 0, none⟩) (b.take q ++ m)) := Lib.hid (own_bytes hO9.out)
      have hs9 := Lib.hid (setup_any (some ⟨g9, 0, none⟩) cap9 (b.take q ++ m) w9 (by rw [hle9]; omega) (Lib.hid hby9.out))
      have hs9' := hs9.out
      rw [reads_own numB2 mkB b m q hqmH.out (by rw [hlb.out]; omega), hle9] at hs9'
      have hs10 := Lib.hid hs9'
      clear hs9 hs9' hby9
      go_wp2_with fail
      refine hs10.out.mono ?_
      rintro e w10 ⟨cs, rfl, hcs, hb10⟩
      have hC10 := Lib.hid hcs
      have hB10 := Lib.hid (hB9.out.trans (hb10.mono hB9.out.size))
      clear hs10 hcs hb10 hO9 hB9
      have hs11' := setup_any (some ⟨g, off, none⟩) c b w10 (by rw [hlb.out]; omega) (Lib.hid (hA.out.below hB10.out))
      rw [hlb.out] at hs11'
      have hs11 := Lib.hid hs11'
      clear hs11'
      go_wp2_with fail
      refine hs11.out.mono ?_
      rintro e w11 ⟨cs', rfl, hcs', hb11⟩
      have hB11 := Lib.hid (hB10.out.trans (hb11.mono hB10.out.size))
      have hst := Lib.hid (setups_any (setupM numB2 mkB (byteAt b)) cs cs' w11 (setupM_small b).2 (setupM_small b).1 (hC10.out.view.below hb11) hcs'.view)
      clear hs11 hcs' hb11 hC10 hB10
      go_wp2_with fail
      refine hst.out.mono ?_
      rintro e w12 ⟨rfl, hb12⟩
      have hB12 := Lib.hid (hB11.out.trans (hb12.mono hB11.out.size))
      clear hst hb12 hB11
      go_wp2_with fail
      go_ret
      exact ⟨rfl, hB12.out⟩
end Go.Proofs.YtheiogafjinihaaDoor

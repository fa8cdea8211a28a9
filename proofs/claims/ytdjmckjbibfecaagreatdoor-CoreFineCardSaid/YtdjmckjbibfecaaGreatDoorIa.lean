/- Papers that say the same; slices.Clone of papers; the law's docs. -/
import Derived.Deep.RegionHeld3
import Derived.Test.YtdjmckjbibfecaaGreatDoorAa
import Derived.Test.YtdjmckjbibfecaaGreatDoorEj
import Derived.Test.YtdjmckjbibfecaaGreatDoorX
namespace Go.Proofs.YtdjmckjbibfecaaGreatDoor
open Go Go.RowKit Go.BigFrame Go.Maps

theorem Tryz.held108 : Tryz.prog.stoodInHeld 108 = false := by kernel_rfl
theorem Tryz.fields108 : Tryz.prog.underlying 108 = some (.struct (Tryz.prog.fieldsOf 108)) := by kernel_rfl
theorem neq_fld (a b : ByteArray) (W : World) : (binOp .neq 108 (.agg #[.string a, .string b]) (.agg #[.string a, .string b])).run Tryz.prog W = .ok (.bool false) W := by
  rw [run_neq_struct, run_equalIn_struct _ _ _ _ _ Tryz.fields108 Tryz.held108]
  unfold Program.fieldsOf
  rw [Tryz.underlying108]
  simp [go_sem]

set_option maxRecDepth 100000 in
set_option maxHeartbeats 800000 in
theorem sameF_any (A A' : Option Addr) (n c c' : Nat) (l : List Fld) (w : World) (hn : n ≤ 1000000) (hl : Hid (l.length = n)) (hA : Hid (FieldsAt w A l)) (hA' : Hid (FieldsAt w A' l)) :
    Calls Tryz.prog 127 #[.slice A n c, .slice A' n c'] w fun e w' => e = .returned (.bool true) ∧ Below w.heap.size w w' := by
  go_enter Tryz.func127, Tryz.ntmps127
  go_wp2_with fail
  go_loopw [5] (fun i wr => ∃ k : Nat, k ≤ n ∧ i = .int .i64 (k : Int) ∧ Hid (Below w.heap.size w wr)) (fun i _ => n - (intOf i).toNat)
  case atStart => exact ⟨0, Nat.zero_le _, rfl, Below.refl _ _⟩
  case round =>
    obtain ⟨k, hk, rfl, hB⟩ := hrel
    by_cases hlt : k < n
    · obtain ⟨x, hx⟩ : ∃ x, l[k]? = some x := ⟨_, List.getElem?_eq_getElem (by have := hl.out; omega)⟩
      obtain ⟨b, off, rfl, h0, h1⟩ := (hA.out.below hB.out) k x hx
      obtain ⟨b', off', rfl, g0, g1⟩ := (hA'.out.below hB.out) k x hx
      clear hx
      obtain ⟨nm, vl⟩ := x
      simp only at h0 h1 g0 g1
      have hq := neq_fld nm vl
      have z1 : Hid (∀ W, Below wr.heap.size wr W → W.cell? ⟨b, off + k * 2, none⟩ = some (.string nm) ∧ W.cell? ⟨b, off + k * 2 + 1, none⟩ = some (.string vl) ∧ W.cell? ⟨b', off' + k * 2, none⟩ = some (.string nm) ∧ W.cell? ⟨b', off' + k * 2 + 1, none⟩ = some (.string vl)) := fun W hW =>
        ⟨(hW.cell (World.block_lt_of_cell? _ _ h0)).trans h0, (hW.cell (World.block_lt_of_cell? _ _ h1)).trans h1, (hW.cell (World.block_lt_of_cell? _ _ g0)).trans g0, (hW.cell (World.block_lt_of_cell? _ _ g1)).trans g1⟩
      go_wp2_with fail
      go_region_held3 (fun W => W.cell? ⟨b, off + k * 2, none⟩ = some (.string nm) ∧ W.cell? ⟨b, off + k * 2 + 1, none⟩ = some (.string vl) ∧ W.cell? ⟨b', off' + k * 2, none⟩ = some (.string nm) ∧ W.cell? ⟨b', off' + k * 2 + 1, none⟩ = some (.string vl)) (exact z1.out _ (Below.refl _ _).drew) (fail)
      all_goals
        go_wp2_with fail
        go_roundw
        case rel => exact ⟨k + 1, by omega, by go_num, hB.out.drew⟩
        case measure => simp [intOf]; omega
    · go_wp2_with fail
      go_ret
      exact ⟨rfl, hB.out⟩

set_option maxRecDepth 100000 in
set_option maxHeartbeats 800000 in
theorem alike_any (kd : Int) (nu is : ByteArray) (A A' : Option Addr) (n c c' : Nat) (l : List Fld) (w : World) (hn : n ≤ 1000000) (hl : Hid (l.length = n)) (hA : Hid (FieldsAt w A l)) (hA' : Hid (FieldsAt w A' l)) :
    Calls Tryz.prog 76 #[.agg #[.int .i64 kd, .string nu, .string is, .slice A n c], .agg #[.int .i64 kd, .string nu, .string is, .slice A' n c']] w fun e w' => e = .returned (.bool true) ∧ Below w.heap.size w w' := by
  obtain ⟨w0, hw0⟩ : ∃ W, Hid ((w.alloc (.cells #[.int .i64 kd, .string nu, .string is, .slice A n c] 61)).alloc (.cells #[.int .i64 kd, .string nu, .string is, .slice A' n c'] 61) = W) := ⟨_, rfl⟩
  have hb0 : Hid (Below w.heap.size w w0) := by rw [← hw0.out]; exact ((Below.refl _ w).alloc (Nat.le_refl _) _).alloc (by simp) _
  have hp0 : Blk w0 w.heap.size 61 #[.int .i64 kd, .string nu, .string is, .slice A n c] := by rw [← hw0.out]; exact (Blk.new w 61 _).alloc _
  have hq0 : Blk w0 (w.heap.size + 1) 61 #[.int .i64 kd, .string nu, .string is, .slice A' n c'] := by rw [← hw0.out]; simpa using Blk.new (w.alloc (.cells #[.int .i64 kd, .string nu, .string is, .slice A n c] 61)) 61 #[.int .i64 kd, .string nu, .string is, .slice A' n c']
  have p0 : w0.cell? ⟨w.heap.size, 0, none⟩ = some (.int .i64 kd) := hp0.cell 0
  have p1 : w0.cell? ⟨w.heap.size, 1, none⟩ = some (.string nu) := hp0.cell 1
  have p2 : w0.cell? ⟨w.heap.size, 2, none⟩ = some (.string is) := hp0.cell 2
  have p3 : w0.cell? ⟨w.heap.size, 3, none⟩ = some (.slice A n c) := hp0.cell 3
  have q0 : w0.cell? ⟨w.heap.size + 1, 0, none⟩ = some (.int .i64 kd) := hq0.cell 0
  have q1 : w0.cell? ⟨w.heap.size + 1, 1, none⟩ = some (.string nu) := hq0.cell 1
  have q2 : w0.cell? ⟨w.heap.size + 1, 2, none⟩ = some (.string is) := hq0.cell 2
  have q3 : w0.cell? ⟨w.heap.size + 1, 3, none⟩ = some (.slice A' n c') := hq0.cell 3
  have hsame := Lib.hid (sameF_any A A' n c c' l w0 hn hl (Lib.hid (hA.out.below hb0.out)) (Lib.hid (hA'.out.below hb0.out)))
  clear hp0 hq0
  go_enter Tryz.func76, Tryz.ntmps76
  go_wp2_with (rw [hw0.out])
  refine hsame.out.mono ?_
  rintro e w1 ⟨rfl, hb1⟩
  have hB1 : Hid (Below w.heap.size w w1) := hb0.out.trans (hb1.mono hb0.out.size)
  clear hb1
  go_wp2_with fail
  go_ret
  exact ⟨rfl, hB1.out⟩

/-- Papers that say the same, wherever their fields lie. -/
def sameP (x y : Pap) : Prop := x.kind = y.kind ∧ x.number = y.number ∧ x.issuer = y.issuer ∧ x.fields = y.fields
def sameD (l m : List Pap) : Prop := l.length = m.length ∧ ∀ (i : Nat) (x y : Pap), l[i]? = some x → m[i]? = some y → sameP x y
def encD (x : Pap) : List Value := [.int .i64 x.kind, .string x.number, .string x.issuer, .slice x.fA x.fields.length x.fc]
def flD (l : List Pap) : List Value := l.flatMap encD
theorem encD_len (x : Pap) : (encD x).length = 4 := rfl
theorem flD_one (l : List Pap) : ∀ u ∈ flD l, u.oneCell' = true := by
  intro u hu
  obtain ⟨f, _, hf⟩ := List.mem_flatMap.1 hu
  simp [encD] at hf
  rcases hf with rfl | rfl | rfl | rfl <;> rfl
theorem DocsAt.row {w : World} {A : Option Addr} {l : List Pap} (h : DocsAt w A l) : RowOf encD 4 w A l := by
  intro i x hx
  obtain ⟨b, off, e, h0, h1, h2, h3, _⟩ := h i x hx
  refine ⟨b, off, e, fun j u hu => ?_⟩
  match j with
  | 0 => simp [encD] at hu; subst hu; exact h0
  | 1 => simp [encD] at hu; subst hu; exact h1
  | 2 => simp [encD] at hu; subst hu; exact h2
  | 3 => simp [encD] at hu; subst hu; exact h3
  | j + 4 => simp [encD] at hu
theorem DocsAt.of_row {w : World} {A : Option Addr} {l : List Pap} (h : RowOf encD 4 w A l) (hf : ∀ x ∈ l, FieldsAt w x.fA x.fields ∧ x.fields.length ≤ maxLen ∧ (-9223372036854775808 ≤ x.kind ∧ x.kind ≤ 9223372036854775807)) : DocsAt w A l := by
  intro i x hx
  obtain ⟨b, off, e, hc⟩ := h i x hx
  obtain ⟨f1, f2, f3⟩ := hf x (List.mem_of_getElem? hx)
  exact ⟨b, off, e, hc 0 _ rfl, hc 1 _ rfl, hc 2 _ rfl, hc 3 _ rfl, f1, f2, f3⟩
theorem Tryz.info61 : (Tryz.prog.info? 61).map (fun i => (i.zero, i.size, i.bytes)) = some (some (.agg #[.int .i64 0, .string ⟨#[]⟩, .string ⟨#[]⟩, .slice none 0 0]), 4, 64) := by kernel_rfl
set_option maxRecDepth 100000 in
set_option maxHeartbeats 800000 in
theorem cloneD_any (A : Option Addr) (n c : Nat) (l : List Pap) (w : World) (hn : n ≤ 1000000) (hl : Hid (l.length = n)) (hA : Hid (DocsAt w A l)) :
    Calls Tryz.prog 70 #[.slice A n c] w fun e w' => ∃ v, e = .returned v ∧ w'.ownsRow w.heap.size 61 4 v n (flD l) ∧ Below w.heap.size w w' := by
  obtain ⟨i0, hi, hz0, hz1, hz2⟩ := info_parts Tryz.info61
  have q22 : ∀ (w : World) (a : Option Addr) (n c n' c' : Nat), (binOp .eql 25 (.slice a n c) (.slice none n' c')).run Tryz.prog w = .ok (.bool a.isNone) w := fun w a n c n' c' => Lib.run_eql_slice_nil w _ _ a n c n' c' Tryz.underlying25
  rcases A with _ | ad
  · have h0 : n = 0 := by
      rcases Nat.eq_zero_or_pos n with h | h
      · exact h
      · obtain ⟨x, hx⟩ : ∃ x, l[0]? = some x := ⟨_, List.getElem?_eq_getElem (by have := hl.out; omega)⟩
        obtain ⟨b, off, e, _⟩ := hA.out 0 x hx
        cases e
    subst h0
    have hl0 : l = [] := List.eq_nil_of_length_eq_zero hl.out
    subst hl0
    go_enter Tryz.func70, Tryz.ntmps70
    go_wp2_with fail
    go_ret
    exact ⟨_, rfl, World.ownsRow_nil _ _ _ _, Below.refl _ _⟩
  · have hr := Lib.hid (hA.out.row.reads encD_len (by decide))
    have hn1 : Hid (0 + n ≤ maxLen) := by unfold Hid maxLen; omega
    have hn2 : Hid ((0 + n) * 64 ≤ 140737488355328) := by unfold Hid; omega
    have ho' := Lib.hid (flD_one l)
    rw [hl.out] at hr
    go_enter Tryz.func70, Tryz.ntmps70
    go_wp2_with (at_builtin; go_must (refine wpList_append_any _ rfl (.tmp 5) (.tmp 6) 25 rfl w.heap.size 61 i0 _ 4 64 Tryz.underlying25 hi hz0 hz1 hz2 rfl (by decide) (.slice (some ⟨w.heap.size, 0, none⟩) 0 0) 0 [] rfl (own_new w 61 4) w.heap.size _ n c (flD l) rfl (hr.out.alloc (Nat.le_refl _) _) ho'.out hn1.out hn2.out (by simp) ?_); intro v w1 how hgr hvb)
    go_ret
    refine ⟨_, rfl, by simpa [flD] using how, ?_⟩
    exact ((Below.refl _ w).alloc (Nat.le_refl _) _).grown hgr (by simp) (fun k hk => by simp [Value.ownBlock] at hk; omega)
set_option maxRecDepth 100000 in
set_option maxHeartbeats 1600000 in
theorem docs_any (A A' : Option Addr) (n c c' : Nat) (l m : List Pap) (w : World) (hn : n ≤ 1000) (hl : Hid (l.length = n)) (hm : Hid (m.length = n)) (hs : Hid (sameD l m)) (hf : Hid (∀ x ∈ l, x.fields.length ≤ 1000000)) (hA : Hid (DocsAt w A l)) (hA' : Hid (DocsAt w A' m)) :
    Calls Tryz.prog 33 #[.slice A n c, .slice A' n c'] w fun e w' => e = .returned (.bool true) ∧ Below w.heap.size w w' := by
  go_enter Tryz.func33, Tryz.ntmps33
  go_wp2_with fail
  go_loopw [5] (fun i wr => ∃ k : Nat, k ≤ n ∧ i = .int .i64 (k : Int) ∧ Hid (Below w.heap.size w wr)) (fun i _ => n - (intOf i).toNat)
  case atStart => exact ⟨0, Nat.zero_le _, rfl, Below.refl _ _⟩
  case round =>
    obtain ⟨k, hk, rfl, hB⟩ := hrel
    by_cases hlt : k < n
    · obtain ⟨x, hx⟩ : ∃ x, l[k]? = some x := ⟨_, List.getElem?_eq_getElem (by have := hl.out; omega)⟩
      obtain ⟨y, hy⟩ : ∃ y, m[k]? = some y := ⟨_, List.getElem?_eq_getElem (by have := hm.out; omega)⟩
      obtain ⟨b, off, rfl, x0, x1, x2, x3, xf, _⟩ := (hA.out.below hB.out) k x hx
      obtain ⟨b', off', rfl, y0, y1, y2, y3, yf, _⟩ := (hA'.out.below hB.out) k y hy
      obtain ⟨e1, e2, e3, e4⟩ := hs.out.2 k x y hx hy
      have hfl := hf.out x (List.mem_of_getElem? hx)
      obtain ⟨xk, xn, xi, xA, xc, xl⟩ := x
      obtain ⟨yk, yn, yi, yA, yc, yl⟩ := y
      simp only at e1 e2 e3 e4 x0 x1 x2 x3 y0 y1 y2 y3 xf yf hfl
      subst e1 e2 e3 e4
      obtain ⟨fl, hfll⟩ : ∃ z, Hid (xl.length = z) := ⟨_, rfl⟩
      rw [hfll.out] at x3 y3 hfl
      have hcall := Lib.hid (fun (W : World) (h : Below wr.heap.size wr W) => alike_any xk xn xi xA yA fl xc yc xl W hfl hfll (Lib.hid (xf.below h)) (Lib.hid (yf.below h)))
      have i1 : (k : Int) < (n : Int) := by omega
      have i2 : (0 : Int) ≤ (k : Int) := by omega
      have hkm : decide (k < n) = true := decide_eq_true hlt
      have hbx := World.block_lt_of_cell? wr _ x0
      have hby := World.block_lt_of_cell? wr _ y0
      have c0 : ∀ y : Ext wr, y.wd.cell? ⟨b, off + k * 4, none⟩ = some (.int .i64 xk) := fun y => (y.cell ⟨b, off + k * 4, none⟩ hbx).trans x0
      have c1 : ∀ y : Ext wr, y.wd.cell? ⟨b, off + k * 4 + 1, none⟩ = some (.string xn) := fun y => (y.cell ⟨b, off + k * 4 + 1, none⟩ hbx).trans x1
      have c2 : ∀ y : Ext wr, y.wd.cell? ⟨b, off + k * 4 + 2, none⟩ = some (.string xi) := fun y => (y.cell ⟨b, off + k * 4 + 2, none⟩ hbx).trans x2
      have c3 : ∀ y : Ext wr, y.wd.cell? ⟨b, off + k * 4 + 3, none⟩ = some (.slice xA fl xc) := fun y => (y.cell ⟨b, off + k * 4 + 3, none⟩ hbx).trans x3
      have d0 : ∀ y : Ext wr, y.wd.cell? ⟨b', off' + k * 4, none⟩ = some (.int .i64 xk) := fun y => (y.cell ⟨b', off' + k * 4, none⟩ hby).trans y0
      have d1 : ∀ y : Ext wr, y.wd.cell? ⟨b', off' + k * 4 + 1, none⟩ = some (.string xn) := fun y => (y.cell ⟨b', off' + k * 4 + 1, none⟩ hby).trans y1
      have d2 : ∀ y : Ext wr, y.wd.cell? ⟨b', off' + k * 4 + 2, none⟩ = some (.string xi) := fun y => (y.cell ⟨b', off' + k * 4 + 2, none⟩ hby).trans y2
      have d3 : ∀ y : Ext wr, y.wd.cell? ⟨b', off' + k * 4 + 3, none⟩ = some (.slice yA fl yc) := fun y => (y.cell ⟨b', off' + k * 4 + 3, none⟩ hby).trans y3
      have hcl : Hid (∀ y : Ext wr, Calls Tryz.prog 76 #[.agg #[.int .i64 xk, .string xn, .string xi, .slice xA fl xc], .agg #[.int .i64 xk, .string xn, .string xi, .slice yA fl yc]] y.wd fun e w' => e = .returned (.bool true) ∧ Below y.wd.heap.size y.wd w') := Lib.hid fun y => hcall.out y.wd y.below
      clear x0 x1 x2 x3 y0 y1 y2 y3 hx hy xf yf hbx hby hcall
      go_wp2_with fail
      refine wp_region_ext (by kernel_rfl) (by kernel_rfl) ?_
      repeat (go_big_quiet_step (first | (go_at_call 76; exact Calls.ext_of (hcl.out _))))
      refine wpQuiet_nil ?_
      rintro _ ⟨y, rfl⟩
      have hB1 := Lib.hid (hB.out.trans (y.below.mono hB.out.size))
      clear c0 c1 c2 c3 d0 d1 d2 d3 hcl
      obtain ⟨W, hW⟩ : ∃ W, Hid (y.wd = W) := ⟨_, rfl⟩
      rw [hW.out] at hB1 ⊢
      clear hW
      go_wp2_with fail
      go_roundw
      case rel => exact ⟨k + 1, by omega, by go_num, hB1⟩
      case measure => simp [intOf]; omega
    · have hkm : decide (k < n) = false := decide_eq_false hlt
      go_wp2_with fail
      go_ret
      exact ⟨rfl, hB.out⟩
end Go.Proofs.YtdjmckjbibfecaaGreatDoor

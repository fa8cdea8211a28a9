/- core.Mend where nothing is to be mended. -/
import Derived.Deep.RegionHeld3
import Derived.Shelf.Strings.Builder1
import Derived.Shelf.Strings.BuilderF
import Derived.Shelf.Strings.BuilderK
import Derived.Test.YtdjmckjbibfecaaGreatDoorProg
import Derived.Test.YtdjmckjbibfecaaGreatDoorAb
import Derived.Test.YtdjmckjbibfecaaGreatDoorDa
import Derived.Test.YtdjmckjbibfecaaGreatDoorEk
import Derived.Test.YtdjmckjbibfecaaGreatDoorFb
import Derived.Test.YtdjmckjbibfecaaGreatDoorFv
import Derived.Test.YtdjmckjbibfecaaGreatDoorHa
import Derived.Test.YtdjmckjbibfecaaGreatDoorVj
import Derived.Test.YtdjmckjbibfecaaGreatDoorWg
import Derived.Test.YtdjmckjbibfecaaGreatDoorWh
import Derived.Test.YtdjmckjbibfecaaGreatDoorX
namespace Go.Proofs.YtdjmckjbibfecaaGreatDoor
open Go

section
variable {t : Tree} {stn : Nat → Nat} (h3 : ∀ i, stn i < 3)
include h3
end
end Go.Proofs.YtdjmckjbibfecaaGreatDoor
namespace Go.Proofs.YtdjmckjbibfecaaGreatDoor
open Go Go.RowKit Go.BigFrame Go.Maps

/-- What the examining of papers tells, wherever it is called. -/
structure ExamC (w : World) (C : Array Value) (A : Option Addr) (nn cc : Nat) (day : Int) (L : List Flt) : Prop where
  prog : ∀ W, Below w.heap.size w W → Calls Tryz.prog 21 #[.agg C, .slice A nn cc, .int .i64 day] W (FaultedC W L)
  size : (Tryz.prog.info? 46).map (·.size) = some C.size
  len : L.length ≤ 20000
  fits : ∀ x ∈ L, x.fits
theorem ExamC.at_ {w w' : World} {C : Array Value} {A : Option Addr} {nn cc : Nat} {day : Int} {L : List Flt} (h : ExamC w C A nn cc day L) (hb : Below w.heap.size w w') : ExamC w' C A nn cc day L :=
  ⟨fun W hW => h.prog W (hb.trans (hW.mono hb.size)), h.size, h.len, h.fits⟩
/-- Few, and no day too far. -/
def fewDay (needs : List Nd) (docs : List Pap) (day : Int) : Bool := fewB needs docs && (decide (-1073741824 ≤ day) && decide (day ≤ 1073741824))
set_option maxRecDepth 100000 in
theorem few5_any (C : Array Value) (nA : Option Addr) (nl nc : Nat) (needs : List Nd) (A : Option Addr) (nn cc : Nat) (docs : List Pap) (day : Int) (w : World) (hCz : Hid (C.size = 18)) (hC17 : C[17]? = some (.slice nA nl nc)) (hnl : Hid (needs.length = nl)) (hnn : Hid (docs.length = nn)) (hml : nl ≤ maxLen) (hmn : nn ≤ maxLen) (hN : Hid (NdsAt w nA needs)) (hD : Hid (DocsAt w A docs)) (hLD : Hid (LongD docs)) :
    Calls Tryz.prog 20 #[.agg C, .slice A nn cc, .int .i64 day] w fun e w' => e = .returned (.bool (fewDay needs docs day)) ∧ Below w.heap.size w w' := by
  have hsz : Hid ((Tryz.prog.info? 46).map (·.size) = some C.size) := by unfold Hid; rw [hCz.out]; kernel_rfl
  obtain ⟨w1, hw1⟩ : ∃ X, Hid (w.alloc (.cells C 46) = X) := ⟨_, rfl⟩
  have hb1 : Hid (Below w.heap.size w w1) := by rw [← hw1.out]; exact (Below.refl _ w).alloc (Nat.le_refl _) _
  have hbk : Hid (Blk w1 w.heap.size 46 C) := by rw [← hw1.out]; exact Lib.hid (Blk.new _ _ _)
  have hfew := Lib.hid (few_any C nA nl nc needs A nn cc docs w1 hCz hC17 hnl hnn hml hmn (Lib.hid (hN.out.below hb1.out)) (Lib.hid (hD.out.below hb1.out)) hLD)
  obtain ⟨R, hR⟩ : ∃ R, Hid (fewDay needs docs day = R) := ⟨_, rfl⟩
  obtain ⟨F, hF⟩ : ∃ F, fewB needs docs = F := ⟨_, rfl⟩
  have hRe : Hid (R = (F && (decide (-1073741824 ≤ day) && decide (day ≤ 1073741824)))) := by unfold Hid; rw [← hR.out, fewDay, hF]
  rw [hF] at hfew
  rw [hR.out]
  clear hF hR
  go_enter Tryz.func20, Tryz.ntmps20
  go_wp2_with (first | rw [hw1.out] | (refine wpList_load_blk rfl 46 (.tmp 3) rfl w.heap.size C 46 _ rfl hbk.out Tryz.underlying46 rfl hsz.out ?_))
  refine hfew.out.mono ?_
  rintro e w2 ⟨rfl, hb2⟩
  have hB2 : Hid (Below w.heap.size w w2) := hb1.out.trans (hb2.mono hb1.out.size)
  clear hb2 hfew
  cases F with
  | false =>
    go_wp2_with fail
    go_ret
    exact ⟨by rw [hRe.out]; rfl, hB2.out⟩
  | true =>
    by_cases h1 : -1073741824 ≤ day
    · have d1 : decide (-1073741824 ≤ day) = true := decide_eq_true h1
      by_cases h2 : day ≤ 1073741824
      · have d2 : decide (day ≤ 1073741824) = true := decide_eq_true h2
        have hR1 : Hid (R = true) := by unfold Hid; rw [hRe.out, d1, d2]; rfl
        go_wp2_with fail
        go_ret
        exact ⟨by rw [hR1.out]; rfl, hB2.out⟩
      · have d2 : decide (day ≤ 1073741824) = false := decide_eq_false h2
        have hR1 : Hid (R = false) := by unfold Hid; rw [hRe.out, d1, d2]; rfl
        go_wp2_with fail
        go_ret
        exact ⟨by rw [hR1.out]; rfl, hB2.out⟩
    · have d1 : decide (-1073741824 ≤ day) = false := decide_eq_false h1
      have hR1 : Hid (R = false) := by unfold Hid; rw [hRe.out, d1]; rfl
      go_wp2_with fail
      go_ret
      exact ⟨by rw [hR1.out]; rfl, hB2.out⟩
end Go.Proofs.YtdjmckjbibfecaaGreatDoor
namespace Go.Proofs.YtdjmckjbibfecaaGreatDoor
open Go Go.RowKit Go.BigFrame Go.Maps

end Go.Proofs.YtdjmckjbibfecaaGreatDoor
namespace Go.Proofs.YtdjmckjbibfecaaGreatDoor
open Go Go.RowKit Go.BigFrame Go.Maps

theorem exam_len {c : Crd} {needs : List Nd} {docs : List Pap} {day : Int} (hF : FewParts needs) (hn : docs.length ≤ 13) : (examF c needs docs day).length ≤ 20000 := by
  have h1 := addAll_len (toldE c needs docs day) []
  have h2 := docs_len (c := c) (docs := docs) (day := day) hF docs.length
  have h3 := flat_le _ (lackF_le docs) needs
  have h4 : (expF c day).length ≤ 1 := by unfold expF; split <;> simp
  have h5 := hF.1
  unfold toldE at h1
  simp only [List.length_append, List.length_nil] at h1
  unfold examF toldE
  omega
end Go.Proofs.YtdjmckjbibfecaaGreatDoor
namespace Go.Proofs.YtdjmckjbibfecaaGreatDoor
open Go Go.RowKit Go.BigFrame Go.Maps

theorem Tryz.held108 : Tryz.prog.stoodInHeld 108 = false := by kernel_rfl
theorem Tryz.fields108 : Tryz.prog.underlying 108 = some (.struct (Tryz.prog.fieldsOf 108)) := by kernel_rfl
theorem neq_fld (a b : ByteArray) (W : World) : (binOp .neq 108 (.agg #[.string a, .string b]) (.agg #[.string a, .string b])).run Tryz.prog W = .ok (.bool false) W := by
  rw [run_neq_struct, run_equalIn_struct _ _ _ _ _ Tryz.fields108 Tryz.held108]
  unfold Program.fieldsOf
  rw [Tryz.underlying108]
  simp [go_sem]

set_option maxRecDepth 100000 in
set_option maxHeartbeats 800000 in
theorem sameF_any (A A' : Option Addr) (n c c' : Nat) (l : List Fld) (w : World) (hn : n ≤ 1000000) (hl : Hid (l.length = n)) (hA : Hid (FieldsAt w A l)) (hA' : Hid (FieldsAt w A' l)) :
    Calls Tryz.prog 127 #[.slice A n c, .slice A' n c'] w fun e w' => e = .returned (.bool true) ∧ Below w.heap.size w w' := by
  go_enter Tryz.func127, Tryz.ntmps127
  go_wp2_with fail
  go_loopw [5] (fun i wr => ∃ k : Nat, k ≤ n ∧ i = .int .i64 (k : Int) ∧ Hid (Below w.heap.size w wr)) (fun i _ => n - (intOf i).toNat)
  case atStart => exact ⟨0, Nat.zero_le _, rfl, Below.refl _ _⟩
  case round =>
    obtain ⟨k, hk, rfl, hB⟩ := hrel
    by_cases hlt : k < n
    · obtain ⟨x, hx⟩ : ∃ x, l[k]? = some x := ⟨_, List.getElem?_eq_getElem (by have := hl.out; omega)⟩
      obtain ⟨b, off, rfl, h0, h1⟩ := (hA.out.below hB.out) k x hx
      obtain ⟨b', off', rfl, g0, g1⟩ := (hA'.out.below hB.out) k x hx
      clear hx
      obtain ⟨nm, vl⟩ := x
      simp only at h0 h1 g0 g1
      have hq := neq_fld nm vl
      have z1 : Hid (∀ W, Below wr.heap.size wr W → W.cell? ⟨b, off + k * 2, none⟩ = some (.string nm) ∧ W.cell? ⟨b, off + k * 2 + 1, none⟩ = some (.string vl) ∧ W.cell? ⟨b', off' + k * 2, none⟩ = some (.string nm) ∧ W.cell? ⟨b', off' + k * 2 + 1, none⟩ = some (.string vl)) := fun W hW =>
        ⟨(hW.cell (World.block_lt_of_cell? _ _ h0)).trans h0, (hW.cell (World.block_lt_of_cell? _ _ h1)).trans h1, (hW.cell (World.block_lt_of_cell? _ _ g0)).trans g0, (hW.cell (World.block_lt_of_cell? _ _ g1)).trans g1⟩
      go_wp2_with fail
      go_region_held3 (fun W => W.cell? ⟨b, off + k * 2, none⟩ = some (.string nm) ∧ W.cell? ⟨b, off + k * 2 + 1, none⟩ = some (.string vl) ∧ W.cell? ⟨b', off' + k * 2, none⟩ = some (.string nm) ∧ W.cell? ⟨b', off' + k * 2 + 1, none⟩ = some (.string vl)) (exact z1.out _ (Below.refl _ _).drew) (fail)
      all_goals
        go_wp2_with fail
        go_roundw
        case rel => exact ⟨k + 1, by omega, by go_num, hB.out.drew⟩
        case measure => simp [intOf]; omega
    · go_wp2_with fail
      go_ret
      exact ⟨rfl, hB.out⟩

set_option maxRecDepth 100000 in
set_option maxHeartbeats 800000 in
theorem alike_any (kd : Int) (nu is : ByteArray) (A A' : Option Addr) (n c c' : Nat) (l : List Fld) (w : World) (hn : n ≤ 1000000) (hl : Hid (l.length = n)) (hA : Hid (FieldsAt w A l)) (hA' : Hid (FieldsAt w A' l)) :
    Calls Tryz.prog 76 #[.agg #[.int .i64 kd, .string nu, .string is, .slice A n c], .agg #[.int .i64 kd, .string nu, .string is, .slice A' n c']] w fun e w' => e = .returned (.bool true) ∧ Below w.heap.size w w' := by
  obtain ⟨w0, hw0⟩ : ∃ W, Hid ((w.alloc (.cells #[.int .i64 kd, .string nu, .string is, .slice A n c] 61)).alloc (.cells #[.int .i64 kd, .string nu, .string is, .slice A' n c'] 61) = W) := ⟨_, rfl⟩
  have hb0 : Hid (Below w.heap.size w w0) := by rw [← hw0.out]; exact ((Below.refl _ w).alloc (Nat.le_refl _) _).alloc (by simp) _
  have hp0 : Blk w0 w.heap.size 61 #[.int .i64 kd, .string nu, .string is, .slice A n c] := by rw [← hw0.out]; exact (Blk.new w 61 _).alloc _
  have hq0 : Blk w0 (w.heap.size + 1) 61 #[.int .i64 kd, .string nu, .string is, .slice A' n c'] := by rw [← hw0.out]; simpa using Blk.new (w.alloc (.cells #[.int .i64 kd, .string nu, .string is, .slice A n c] 61)) 61 #[.int .i64 kd, .string nu, .string is, .slice A' n c']
  have p0 : w0.cell? ⟨w.heap.size, 0, none⟩ = some (.int .i64 kd) := hp0.cell 0
  have p1 : w0.cell? ⟨w.heap.size, 1, none⟩ = some (.string nu) := hp0.cell 1
  have p2 : w0.cell? ⟨w.heap.size, 2, none⟩ = some (.string is) := hp0.cell 2
  have p3 : w0.cell? ⟨w.heap.size, 3, none⟩ = some (.slice A n c) := hp0.cell 3
  have q0 : w0.cell? ⟨w.heap.size + 1, 0, none⟩ = some (.int .i64 kd) := hq0.cell 0
  have q1 : w0.cell? ⟨w.heap.size + 1, 1, none⟩ = some (.string nu) := hq0.cell 1
  have q2 : w0.cell? ⟨w.heap.size + 1, 2, none⟩ = some (.string is) := hq0.cell 2
  have q3 : w0.cell? ⟨w.heap.size + 1, 3, none⟩ = some (.slice A' n c') := hq0.cell 3
  have hsame := Lib.hid (sameF_any A A' n c c' l w0 hn hl (Lib.hid (hA.out.below hb0.out)) (Lib.hid (hA'.out.below hb0.out)))
  clear hp0 hq0
  go_enter Tryz.func76, Tryz.ntmps76
  go_wp2_with (rw [hw0.out])
  refine hsame.out.mono ?_
  rintro e w1 ⟨rfl, hb1⟩
  have hB1 : Hid (Below w.heap.size w w1) := hb0.out.trans (hb1.mono hb0.out.size)
  clear hb1
  go_wp2_with fail
  go_ret
  exact ⟨rfl, hB1.out⟩

/-- Papers that say the same, wherever their fields lie. -/
def sameP (x y : Pap) : Prop := x.kind = y.kind ∧ x.number = y.number ∧ x.issuer = y.issuer ∧ x.fields = y.fields
def sameD (l m : List Pap) : Prop := l.length = m.length ∧ ∀ (i : Nat) (x y : Pap), l[i]? = some x → m[i]? = some y → sameP x y
def encD (x : Pap) : List Value := [.int .i64 x.kind, .string x.number, .string x.issuer, .slice x.fA x.fields.length x.fc]
def flD (l : List Pap) : List Value := l.flatMap encD
theorem encD_len (x : Pap) : (encD x).length = 4 := rfl
theorem flD_one (l : List Pap) : ∀ u ∈ flD l, u.oneCell' = true := by
  intro u hu
  obtain ⟨f, _, hf⟩ := List.mem_flatMap.1 hu
  simp [encD] at hf
  rcases hf with rfl | rfl | rfl | rfl <;> rfl
theorem DocsAt.row {w : World} {A : Option Addr} {l : List Pap} (h : DocsAt w A l) : RowOf encD 4 w A l := by
  intro i x hx
  obtain ⟨b, off, e, h0, h1, h2, h3, _⟩ := h i x hx
  refine ⟨b, off, e, fun j u hu => ?_⟩
  match j with
  | 0 => simp [encD] at hu; subst hu; exact h0
  | 1 => simp [encD] at hu; subst hu; exact h1
  | 2 => simp [encD] at hu; subst hu; exact h2
  | 3 => simp [encD] at hu; subst hu; exact h3
  | j + 4 => simp [encD] at hu
theorem DocsAt.of_row {w : World} {A : Option Addr} {l : List Pap} (h : RowOf encD 4 w A l) (hf : ∀ x ∈ l, FieldsAt w x.fA x.fields ∧ x.fields.length ≤ maxLen ∧ (-9223372036854775808 ≤ x.kind ∧ x.kind ≤ 9223372036854775807)) : DocsAt w A l := by
  intro i x hx
  obtain ⟨b, off, e, hc⟩ := h i x hx
  obtain ⟨f1, f2, f3⟩ := hf x (List.mem_of_getElem? hx)
  exact ⟨b, off, e, hc 0 _ rfl, hc 1 _ rfl, hc 2 _ rfl, hc 3 _ rfl, f1, f2, f3⟩
theorem Tryz.info61 : (Tryz.prog.info? 61).map (fun i => (i.zero, i.size, i.bytes)) = some (some (.agg #[.int .i64 0, .string ⟨#[]⟩, .string ⟨#[]⟩, .slice none 0 0]), 4, 64) := by kernel_rfl
set_option maxRecDepth 100000 in
set_option maxHeartbeats 800000 in
theorem cloneD_any (A : Option Addr) (n c : Nat) (l : List Pap) (w : World) (hn : n ≤ 1000000) (hl : Hid (l.length = n)) (hA : Hid (DocsAt w A l)) :
    Calls Tryz.prog 70 #[.slice A n c] w fun e w' => ∃ v, e = .returned v ∧ w'.ownsRow w.heap.size 61 4 v n (flD l) ∧ Below w.heap.size w w' := by
  obtain ⟨i0, hi, hz0, hz1, hz2⟩ := info_parts Tryz.info61
  have q22 : ∀ (w : World) (a : Option Addr) (n c n' c' : Nat), (binOp .eql 25 (.slice a n c) (.slice none n' c')).run Tryz.prog w = .ok (.bool a.isNone) w := fun w a n c n' c' => Lib.run_eql_slice_nil w _ _ a n c n' c' Tryz.underlying25
  rcases A with _ | ad
  · have h0 : n = 0 := by
      rcases Nat.eq_zero_or_pos n with h | h
      · exact h
      · obtain ⟨x, hx⟩ : ∃ x, l[0]? = some x := ⟨_, List.getElem?_eq_getElem (by have := hl.out; omega)⟩
        obtain ⟨b, off, e, _⟩ := hA.out 0 x hx
        cases e
    subst h0
    have hl0 : l = [] := List.eq_nil_of_length_eq_zero hl.out
    subst hl0
    go_enter Tryz.func70, Tryz.ntmps70
    go_wp2_with fail
    go_ret
    exact ⟨_, rfl, World.ownsRow_nil _ _ _ _, Below.refl _ _⟩
  · have hr := Lib.hid (hA.out.row.reads encD_len (by decide))
    have hn1 : Hid (0 + n ≤ maxLen) := by unfold Hid maxLen; omega
    have hn2 : Hid ((0 + n) * 64 ≤ 140737488355328) := by unfold Hid; omega
    have ho' := Lib.hid (flD_one l)
    rw [hl.out] at hr
    go_enter Tryz.func70, Tryz.ntmps70
    go_wp2_with (at_builtin; go_must (refine wpList_append_any _ rfl (.tmp 5) (.tmp 6) 25 rfl w.heap.size 61 i0 _ 4 64 Tryz.underlying25 hi hz0 hz1 hz2 rfl (by decide) (.slice (some ⟨w.heap.size, 0, none⟩) 0 0) 0 [] rfl (own_new w 61 4) w.heap.size _ n c (flD l) rfl (hr.out.alloc (Nat.le_refl _) _) ho'.out hn1.out hn2.out (by simp) ?_); intro v w1 how hgr hvb)
    go_ret
    refine ⟨_, rfl, by simpa [flD] using how, ?_⟩
    exact ((Below.refl _ w).alloc (Nat.le_refl _) _).grown hgr (by simp) (fun k hk => by simp [Value.ownBlock] at hk; omega)
set_option maxRecDepth 100000 in
set_option maxHeartbeats 1600000 in
theorem docs_any (A A' : Option Addr) (n c c' : Nat) (l m : List Pap) (w : World) (hn : n ≤ 1000) (hl : Hid (l.length = n)) (hm : Hid (m.length = n)) (hs : Hid (sameD l m)) (hf : Hid (∀ x ∈ l, x.fields.length ≤ 1000000)) (hA : Hid (DocsAt w A l)) (hA' : Hid (DocsAt w A' m)) :
    Calls Tryz.prog 33 #[.slice A n c, .slice A' n c'] w fun e w' => e = .returned (.bool true) ∧ Below w.heap.size w w' := by
  go_enter Tryz.func33, Tryz.ntmps33
  go_wp2_with fail
  go_loopw [5] (fun i wr => ∃ k : Nat, k ≤ n ∧ i = .int .i64 (k : Int) ∧ Hid (Below w.heap.size w wr)) (fun i _ => n - (intOf i).toNat)
  case atStart => exact ⟨0, Nat.zero_le _, rfl, Below.refl _ _⟩
  case round =>
    obtain ⟨k, hk, rfl, hB⟩ := hrel
    by_cases hlt : k < n
    · obtain ⟨x, hx⟩ : ∃ x, l[k]? = some x := ⟨_, List.getElem?_eq_getElem (by have := hl.out; omega)⟩
      obtain ⟨y, hy⟩ : ∃ y, m[k]? = some y := ⟨_, List.getElem?_eq_getElem (by have := hm.out; omega)⟩
      obtain ⟨b, off, rfl, x0, x1, x2, x3, xf, _⟩ := (hA.out.below hB.out) k x hx
      obtain ⟨b', off', rfl, y0, y1, y2, y3, yf, _⟩ := (hA'.out.below hB.out) k y hy
      obtain ⟨e1, e2, e3, e4⟩ := hs.out.2 k x y hx hy
      have hfl := hf.out x (List.mem_of_getElem? hx)
      obtain ⟨xk, xn, xi, xA, xc, xl⟩ := x
      obtain ⟨yk, yn, yi, yA, yc, yl⟩ := y
      simp only at e1 e2 e3 e4 x0 x1 x2 x3 y0 y1 y2 y3 xf yf hfl
      subst e1 e2 e3 e4
      obtain ⟨fl, hfll⟩ : ∃ z, Hid (xl.length = z) := ⟨_, rfl⟩
      rw [hfll.out] at x3 y3 hfl
      have hcall := Lib.hid (fun (W : World) (h : Below wr.heap.size wr W) => alike_any xk xn xi xA yA fl xc yc xl W hfl hfll (Lib.hid (xf.below h)) (Lib.hid (yf.below h)))
      have i1 : (k : Int) < (n : Int) := by omega
      have i2 : (0 : Int) ≤ (k : Int) := by omega
      have hkm : decide (k < n) = true := decide_eq_true hlt
      have hbx := World.block_lt_of_cell? wr _ x0
      have hby := World.block_lt_of_cell? wr _ y0
      have c0 : ∀ y : Ext wr, y.wd.cell? ⟨b, off + k * 4, none⟩ = some (.int .i64 xk) := fun y => (y.cell ⟨b, off + k * 4, none⟩ hbx).trans x0
      have c1 : ∀ y : Ext wr, y.wd.cell? ⟨b, off + k * 4 + 1, none⟩ = some (.string xn) := fun y => (y.cell ⟨b, off + k * 4 + 1, none⟩ hbx).trans x1
      have c2 : ∀ y : Ext wr, y.wd.cell? ⟨b, off + k * 4 + 2, none⟩ = some (.string xi) := fun y => (y.cell ⟨b, off + k * 4 + 2, none⟩ hbx).trans x2
      have c3 : ∀ y : Ext wr, y.wd.cell? ⟨b, off + k * 4 + 3, none⟩ = some (.slice xA fl xc) := fun y => (y.cell ⟨b, off + k * 4 + 3, none⟩ hbx).trans x3
      have d0 : ∀ y : Ext wr, y.wd.cell? ⟨b', off' + k * 4, none⟩ = some (.int .i64 xk) := fun y => (y.cell ⟨b', off' + k * 4, none⟩ hby).trans y0
      have d1 : ∀ y : Ext wr, y.wd.cell? ⟨b', off' + k * 4 + 1, none⟩ = some (.string xn) := fun y => (y.cell ⟨b', off' + k * 4 + 1, none⟩ hby).trans y1
      have d2 : ∀ y : Ext wr, y.wd.cell? ⟨b', off' + k * 4 + 2, none⟩ = some (.string xi) := fun y => (y.cell ⟨b', off' + k * 4 + 2, none⟩ hby).trans y2
      have d3 : ∀ y : Ext wr, y.wd.cell? ⟨b', off' + k * 4 + 3, none⟩ = some (.slice yA fl yc) := fun y => (y.cell ⟨b', off' + k * 4 + 3, none⟩ hby).trans y3
      have hcl : Hid (∀ y : Ext wr, Calls Tryz.prog 76 #[.agg #[.int .i64 xk, .string xn, .string xi, .slice xA fl xc], .agg #[.int .i64 xk, .string xn, .string xi, .slice yA fl yc]] y.wd fun e w' => e = .returned (.bool true) ∧ Below y.wd.heap.size y.wd w') := Lib.hid fun y => hcall.out y.wd y.below
      clear x0 x1 x2 x3 y0 y1 y2 y3 hx hy xf yf hbx hby hcall
      go_wp2_with fail
      refine wp_region_ext (by kernel_rfl) (by kernel_rfl) ?_
      repeat (go_big_quiet_step (first | (go_at_call 76; exact Calls.ext_of (hcl.out _))))
      refine wpQuiet_nil ?_
      rintro _ ⟨y, rfl⟩
      have hB1 := Lib.hid (hB.out.trans (y.below.mono hB.out.size))
      clear c0 c1 c2 c3 d0 d1 d2 d3 hcl
      obtain ⟨W, hW⟩ : ∃ W, Hid (y.wd = W) := ⟨_, rfl⟩
      rw [hW.out] at hB1 ⊢
      clear hW
      go_wp2_with fail
      go_roundw
      case rel => exact ⟨k + 1, by omega, by go_num, hB1⟩
      case measure => simp [intOf]; omega
    · have hkm : decide (k < n) = false := decide_eq_false hlt
      go_wp2_with fail
      go_ret
      exact ⟨rfl, hB.out⟩
end Go.Proofs.YtdjmckjbibfecaaGreatDoor
namespace Go.Proofs
open Go.Shelf
end Go.Proofs
namespace Go.Proofs.YtdjmckjbibfecaaGreatDoor
open Go Go.RowKit Go.BigFrame Go.Maps

abbrev Bld (w : World) (B b : Nat) (acc : List UInt8) : Prop := Lib.IsBuilderF 115 5 B b (Lib.byteCells acc) w
theorem ownF_below {w w' : World} {B : Nat} {e : TypeId} {size n : Nat} {v : Value} {xs : List Value} (h : w.ownsRowF B e size v n xs) (hb : Below w.heap.size w w') : w'.ownsRowF B e size v n xs :=
  h.kept (row := none) ⟨hb.os, hb.tape, hb.output, hb.size, fun k hk _ => hb.block k hk⟩ (by
    rcases hv : v.ownBlock with _ | k
    · exact .inl rfl
    · exact .inr (by simp))
theorem builderAt_below {w w' : World} {T e : TypeId} {B b : Nat} {p : Value} {bs : List Value} (h : Lib.BuilderAtF T e B b p bs w) (hb : Below w.heap.size w w') : Lib.BuilderAtF T e B b p bs w' := by
  obtain ⟨hB, v, hv, ho, hne⟩ := h
  have hlt : b < w.heap.size := by
    rcases Nat.lt_or_ge b w.heap.size with h | h
    · exact h
    · rw [Array.getElem?_eq_none h] at hv; cases hv
  exact ⟨hB, v, (hb.block b hlt).trans hv, ownF_below ho hb, hne⟩
theorem Bld.below {w w' : World} {B b : Nat} {acc : List UInt8} (h : Bld w B b acc) (hb : Below w.heap.size w w') : Bld w' B b acc := by
  rcases h with h | h
  · exact .inl (builderAt_below h hb)
  · exact .inr (builderAt_below h hb)
theorem Bld.lt {w : World} {B b : Nat} {acc : List UInt8} (h : Bld w B b acc) : b < w.heap.size := by
  rcases h with ⟨_, v, hv, _⟩ | ⟨_, v, hv, _⟩ <;> exact (Array.getElem?_eq_some_iff.1 hv).1
end Go.Proofs.YtdjmckjbibfecaaGreatDoor
namespace Go.Proofs.YtdjmckjbibfecaaGreatDoor
open Go Go.RowKit Go.BigFrame Go.Maps

theorem flD_set3 : ∀ (l : List Pap) (k : Nat) (x : Pap) (A : Option Addr) (c : Nat), l[k]? = some x → (flD l).set (k * 4 + 3) (.slice A x.fields.length c) = flD (l.set k ⟨x.kind, x.number, x.issuer, A, c, x.fields⟩)
  | [], k, x, A, c, h => by simp at h
  | y :: l, 0, x, A, c, h => by simp at h; subst h; simp [flD, encD]
  | y :: l, k + 1, x, A, c, h => by
    have := flD_set3 l k x A c (by simpa using h)
    rw [show (k + 1) * 4 + 3 = k * 4 + 3 + 1 + 1 + 1 + 1 by omega]
    simp only [flD, List.flatMap_cons, encD, List.cons_append, List.nil_append, List.set_cons_succ] at this ⊢
    rw [this]
/-- The copied papers, so far. -/
structure MendS (w0 wr : World) (A : Option Addr) (nn c : Nat) (docs l : List Pap) : Prop where
  below : Below w0.heap.size w0 wr
  own : wr.ownsRow w0.heap.size 61 4 (.slice A nn c) nn (flD l)
  same : sameD l docs
  flds : ∀ x ∈ l, FieldsAt wr x.fA x.fields
  away : ∀ x ∈ l, x.fields ≠ [] → ∀ b off, x.fA = some ⟨b, off, none⟩ → A ≠ some ⟨b, 0, none⟩
theorem fields_far {w w' : World} {g : Nat} {A : Option Addr} {l : List Fld} (h : FieldsAt w A l) (hg : w.grownBy w' (some g)) (hne : l ≠ [] → ∀ b off, A = some ⟨b, off, none⟩ → b ≠ g) : FieldsAt w' A l := by
  intro k x hx
  obtain ⟨b, off, e, h0, h1⟩ := h k x hx
  have hb := hne (by rintro rfl; simp at hx) b off e
  have hk : ∀ p : Addr, p.block = b → w'.cell? p = w.cell? p := fun p hp => hg.cell_far p (by rw [hp]; exact World.block_lt_of_cell? w _ h0) (by rw [hp]; simp; exact hb)
  exact ⟨b, off, e, by rw [hk _ rfl]; exact h0, by rw [hk _ rfl]; exact h1⟩
theorem MendS.step {w0 wr w6 : World} {g nn c k c2 : Nat} {docs l : List Pap} {x : Pap} {A2 : Option Addr} (h : MendS w0 wr (some ⟨g, 0, none⟩) nn c docs l) (hx : l[k]? = some x) (hg0 : w0.heap.size ≤ g) (hg1 : g < wr.heap.size) (hb : Below wr.heap.size wr w6)
    (ho : w6.ownsRow wr.heap.size 108 2 (.slice A2 x.fields.length c2) x.fields.length (flF x.fields)) :
    MendS w0 (w6.setCell ⟨g, k * 4 + 3, none⟩ (.slice A2 x.fields.length c2)) (some ⟨g, 0, none⟩) nn c docs (l.set k ⟨x.kind, x.number, x.issuer, A2, c2, x.fields⟩) := by
  have o6 := own_below h.own hb
  have st := o6.stored (k * 4 + 3) (.slice A2 x.fields.length c2)
  rw [flD_set3 l k x A2 c2 hx] at st
  have hkl := (List.getElem?_eq_some_iff.1 hx).1
  have hA2 : x.fields ≠ [] → ∀ b off, A2 = some ⟨b, off, none⟩ → wr.heap.size ≤ b := fun hne b off e => by
    obtain ⟨g', c', e', h1, _⟩ := own_formS ho (List.length_pos_iff.2 hne)
    rw [e] at e'
    simp only [Value.slice.injEq, Option.some.injEq, Addr.mk.injEq, and_true, true_and] at e'
    rw [e'.1.1]; exact h1
  obtain ⟨A9, c9, e9, _, hF9⟩ := fields_of_own ho rfl
  simp only [Value.slice.injEq, true_and] at e9
  obtain ⟨rfl, rfl⟩ := e9
  refine ⟨(h.below.trans (hb.mono h.below.size)).setCell hg0 _, st.1, ⟨by rw [List.length_set]; exact h.same.1, fun i y z hy hz => ?_⟩, fun y hy => ?_, fun y hy hne b off e => ?_⟩
  · rw [List.getElem?_set] at hy
    split at hy
    · rename_i hi
      subst hi
      obtain rfl := Option.some.inj hy
      exact h.same.2 k x z hx hz
    · exact h.same.2 i y z hy hz
  · rcases List.mem_or_eq_of_mem_set hy with hy | rfl
    · exact fields_far ((h.flds y hy).below hb) st.2 fun hne b off e hbg => by
        subst hbg
        exact h.away y hy hne b off e rfl
    · exact fields_far hF9 st.2 fun hne b off e => by have := hA2 hne b off e; omega
  · rcases List.mem_or_eq_of_mem_set hy with hy | rfl
    · exact h.away y hy hne b off e
    · intro hc
      simp only [Option.some.injEq, Addr.mk.injEq, and_true] at hc
      have := hA2 hne b off e
      omega

end Go.Proofs.YtdjmckjbibfecaaGreatDoor
namespace Go.Proofs.YtdjmckjbibfecaaGreatDoor
open Go Go.RowKit Go.BigFrame Go.Maps

structure FinS (w1 W : World) (A8 : Option Addr) (c8 m : Nat) (AT : List Tree) (g7 c7 np : Nat) (ps : List Nat) (v : Value) (k : Nat) (F : List Flt) : Prop where
  below : Below w1.heap.size w1 W
  row8 : W.ownsRow w1.heap.size 24 6 (.slice A8 m c8) m (cellsL AT)
  row7 : W.ownsRow w1.heap.size 3 1 (.slice (some ⟨g7, 0, none⟩) np c7) np (natsV ps)
  out : W.ownsRow w1.heap.size 54 4 v k (fcells F)
theorem FinS.on {w1 W W' : World} {A8 : Option Addr} {c8 m : Nat} {AT : List Tree} {g7 c7 np : Nat} {ps : List Nat} {v : Value} {k : Nat} {F : List Flt} (h : FinS w1 W A8 c8 m AT g7 c7 np ps v k F) (hb : Below W.heap.size W W') : FinS w1 W' A8 c8 m AT g7 c7 np ps v k F :=
  ⟨h.below.trans (hb.mono h.below.size), own_below h.row8 hb, own_below h.row7 hb, own_below h.out hb⟩
theorem FinS.grow {w1 W W' : World} {A8 : Option Addr} {c8 m : Nat} {AT : List Tree} {g7 c7 np : Nat} {ps : List Nat} {v v' : Value} {k k' : Nat} {F F' : List Flt} (h : FinS w1 W A8 c8 m AT g7 c7 np ps v k F) (ho : W'.ownsRow w1.heap.size 54 4 v' k' (fcells F')) (hg : W.grownBy W' v.ownBlock) : FinS w1 W' A8 c8 m AT g7 c7 np ps v' k' F' :=
  ⟨h.below.grown hg h.below.size (fun j hj => (h.out.lt j hj).1), own_far h.row8 h.out hg (by decide), own_far h.row7 h.out hg (by decide), ho⟩
end Go.Proofs.YtdjmckjbibfecaaGreatDoor
namespace Go.Proofs.YtdjmckjbibfecaaGreatDoor
open Go Go.RowKit Go.BigFrame Go.Maps

end Go.Proofs.YtdjmckjbibfecaaGreatDoor

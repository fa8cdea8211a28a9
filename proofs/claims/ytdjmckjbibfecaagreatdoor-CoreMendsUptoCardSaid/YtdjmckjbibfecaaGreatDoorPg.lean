/- The contract of the card, and its lifting. -/
import Derived.Lay
import Derived.LaidMore
import Derived.SevenTiedAt
import Derived.Deep.DeepHandedRow
import Derived.Test.YtdjmckjbibfecaaGreatDoorMg
import Derived.Test.YtdjmckjbibfecaaGreatDoorMj
import Derived.Test.YtdjmckjbibfecaaGreatDoorPe
namespace Go.Proofs.YtdjmckjbibfecaaGreatDoor
open Go Go.ChangeShapes Go.WideShapes Go.ChangeAt Go.RowKit Go.Deep

theorem bulk_mem {H : Type} : ∀ {D : List (DataW H)} {i : Nat} {d : DataW H}, D[i]? = some d → Rows.uptoBulk d ≤ Rows.uptoBulkAll D
  | e :: D, 0, d, h => by
    obtain rfl : e = d := by simpa using h
    rw [Rows.uptoBulkAll]; omega
  | e :: D, i + 1, d, h => by
    have := bulk_mem (D := D) (i := i) (d := d) (by simpa using h)
    rw [Rows.uptoBulkAll]; omega
theorem bulk_part {H : Type} {xs : List (DataW H × List MemPlace)} {i : Nat} {y : DataW H × List MemPlace} (h : xs[i]? = some y) : Rows.uptoBulk y.1 ≤ Rows.uptoBulk (.agg (xs.map (·.1)) : DataW H) := by
  have := bulk_mem (D := xs.map (·.1)) (i := i) (d := y.1) (by rw [List.getElem?_map, h]; rfl)
  rw [Rows.uptoBulk]; omega
section
variable {H : Type} {enc : TypeId × Value → H} {P : Program} {w : World} {base : Nat} {spare : Nat → Bool} {held : Bool}
theorem open_strct2 {t : TypeId} {fs : Array Field} {fuel : Nat} {cs : List Value} {x : DataW H × List MemPlace} (ht : P.underlying t = some (.struct fs)) (h : DataW.trod enc P w base spare held fuel t cs = some x) :
    ∃ (n : Nat) (xs : List (DataW H × List MemPlace)), n < fuel ∧ cs.length = P.cellsOf t ∧ x.1 = .agg (xs.map (·.1)) ∧ xs.length = fs.size ∧ ∀ (i : Nat) (f : Field), fs[i]? = some f → DataW.trod enc P w base spare held n f.type ((cs.drop f.offset).take (P.cellsOf f.type)) = xs[i]? := by
  obtain ⟨xs, n, rfl, rfl, hl, hlen, hf⟩ := DataW.trod_struct ht h
  exact ⟨n, xs, by omega, hl, rfl, hlen, hf⟩
theorem open_strct3 {t : TypeId} {fs : Array Field} {fuel : Nat} {cs : List Value} {x : DataW H × List MemPlace} (ht : P.underlying t = some (.struct fs)) (h : DataW.trod enc P w base spare held fuel t cs = some x) :
    ∃ n, n < fuel ∧ cs.length = P.cellsOf t ∧ ∀ (i : Nat) (f : Field), fs[i]? = some f → ∃ y : DataW H × List MemPlace, DataW.trod enc P w base spare held n f.type ((cs.drop f.offset).take (P.cellsOf f.type)) = some y ∧ Rows.uptoBulk y.1 ≤ Rows.uptoBulk x.1 := by
  obtain ⟨n, xs, hn, hl, hx, hlen, hf⟩ := open_strct2 ht h
  refine ⟨n, hn, hl, fun i f hi => ?_⟩
  have hlt : i < xs.length := by rw [hlen]; exact (Array.getElem?_eq_some_iff.1 hi).1
  have h1 := hf i f hi
  rw [List.getElem?_eq_getElem hlt] at h1
  exact ⟨_, h1, by rw [hx]; exact bulk_part (List.getElem?_eq_getElem hlt)⟩
theorem open_strb {t : TypeId} {fuel : Nat} {cs : List Value} {x : DataW H × List MemPlace} {N : Nat} (ht : P.underlying t = some .string) (h : DataW.trod enc P w base spare held fuel t cs = some x) (hN : Rows.uptoBulk x.1 ≤ N) : ∃ s : ByteArray, cs = [.string s] ∧ s.data.toList.length ≤ N := by
  obtain ⟨s, e, b, _⟩ := DataW.trod_string ht h
  refine ⟨s, e, ?_⟩
  rw [b] at hN
  simp only [Rows.uptoBulk] at hN
  omega
end
theorem calike_of {W : World} {L : List (String × DataW Unit)} (hl : L.filter (fun x => x.1 == "supercargo/core.alike") = [("supercargo/core.alike", Rows.laid_supercargo_core_alike)]) (h : laidMetH Tryz.prog L W) : AlikeC W := by
  have h1 := laidMetH.filter (fun x => x.1 == "supercargo/core.alike") h
  rw [hl, MakeChecks.laidMetH_plain _ _ _ (by kernel_rfl)] at h1
  exact strtab (t := 143) (e := 9) (n := 6) [[115, 101, 108, 108, 101, 114], [102, 114, 111, 109], [116, 111], [99, 117, 114, 114, 101, 110, 99, 121], [98, 111, 120, 101, 115], [109, 97, 114, 107, 115]] (by kernel_rfl) (by kernel_rfl) Tryz.underlying143 Tryz.underlying9 (by kernel_rfl) rfl h1
section
variable {H : Type} {enc : TypeId × Value → H} {W : World} {base : Nat}
theorem str_one {s a : ByteArray} {N : Nat} (e : [Value.string a] = [Value.string s]) (h : s.data.toList.length ≤ N) : a.size ≤ N := by
  obtain rfl : a = s := by simpa using e
  have e1 : a.data.toList.length = a.size := Array.length_toList
  omega
set_option maxRecDepth 100000 in
theorem credit_bulk {d : DataW H} {p : List MemPlace} {c : Crd} {s : Value} (h : TrdV enc W 46 (.agg (c.cells s)) d p) : c.beneficiary.size ≤ Rows.uptoBulk d ∧ c.applicant.size ≤ Rows.uptoBulk d ∧ c.currency.size ≤ Rows.uptoBulk d := by
  obtain ⟨fuel, h⟩ := h
  simp only [Value.cells] at h
  obtain ⟨m, _, _, hfd⟩ := open_strct3 Tryz.underlying46 h
  have c9 : Tryz.prog.cellsOf 9 = 1 := by kernel_rfl
  have c29 : Tryz.prog.cellsOf 43 = 2 := by kernel_rfl
  obtain ⟨y1, t1, f1⟩ := hfd 1 _ rfl
  obtain ⟨y2, t2, f2⟩ := hfd 2 _ rfl
  obtain ⟨y7, t7, f7⟩ := hfd 7 _ rfl
  obtain ⟨m7, _, _, hfd7⟩ := open_strct3 Tryz.underlying43 t7
  obtain ⟨z0, u0, g0⟩ := hfd7 0 _ rfl
  obtain ⟨s1, e1, q1⟩ := open_strb Tryz.underlying9 t1 f1
  obtain ⟨s2, e2, q2⟩ := open_strb Tryz.underlying9 t2 f2
  obtain ⟨s7, e7, q7⟩ := open_strb Tryz.underlying9 u0 (Nat.le_trans g0 f7)
  clear c9 c29
  exact ⟨str_one (show [Value.string c.beneficiary] = [Value.string s2] from e2) q2, str_one (show [Value.string c.applicant] = [Value.string s1] from e1) q1, str_one (show [Value.string c.currency] = [Value.string s7] from e7) q7⟩
end
end Go.Proofs.YtdjmckjbibfecaaGreatDoor
namespace Go.Proofs.YtdjmckjbibfecaaGreatDoor
open Go Go.RowKit Go.BigFrame Go.Maps

theorem fields_kept {w w' : World} {row : Option Nat} {A : Option Addr} {l : List Fld} (h : FieldsAt w A l) (hg : w.grownBy w' row) (hne : l ≠ [] → ∀ b off, A = some ⟨b, off, none⟩ → row ≠ some b) : FieldsAt w' A l := by
  intro k x hx
  obtain ⟨b, off, e, h0, h1⟩ := h k x hx
  have hb := hne (by rintro rfl; simp at hx) b off e
  have hk : ∀ p : Addr, p.block = b → w'.cell? p = w.cell? p := fun p hp => hg.cell_far p (by rw [hp]; exact World.block_lt_of_cell? w _ h0) (by rw [hp]; exact fun e => hb e.symm)
  exact ⟨b, off, e, by rw [hk _ rfl]; exact h0, by rw [hk _ rfl]; exact h1⟩
/-- Papers put behind each other, each with fields of its own. -/
structure OwnS (w0 wr : World) (v : Value) (l : List Pap) : Prop where
  below : Below w0.heap.size w0 wr
  own : wr.ownsRow w0.heap.size 61 4 v l.length (flD l)
  flds : ∀ x ∈ l, FieldsAt wr x.fA x.fields
  away : ∀ x ∈ l, x.fields ≠ [] → ∀ b off, x.fA = some ⟨b, off, none⟩ → v.ownBlock ≠ some b
theorem OwnS.on {w0 wr w' : World} {v : Value} {l : List Pap} (h : OwnS w0 wr v l) (hb : Below wr.heap.size wr w') : OwnS w0 w' v l :=
  ⟨h.below.trans (hb.mono h.below.size), own_below h.own hb, fun x hx => (h.flds x hx).below hb, h.away⟩
theorem OwnS.put {w0 w2 w3 : World} {v v' : Value} {l : List Pap} {x : Pap} (h : OwnS w0 w2 v l) (hg : w2.grownBy w3 v.ownBlock) (hv : v'.ownBlock = v.ownBlock ∨ v'.ownBlock = some w2.heap.size)
    (ho : w3.ownsRow w0.heap.size 61 4 v' (l.length + 1) (flD l ++ encD x)) (hF : FieldsAt w2 x.fA x.fields) (haw : x.fields ≠ [] → ∀ b off, x.fA = some ⟨b, off, none⟩ → v.ownBlock ≠ some b) : OwnS w0 w3 v' (l ++ [x]) := by
  have hlt : ∀ y : Pap, FieldsAt w2 y.fA y.fields → y.fields ≠ [] → ∀ b off, y.fA = some ⟨b, off, none⟩ → b < w2.heap.size := fun y hy hne b off e => by
    obtain ⟨f, hf⟩ : ∃ f, y.fields[0]? = some f := ⟨_, List.getElem?_eq_getElem (List.length_pos_iff.2 hne)⟩
    obtain ⟨b', off', e', h0, _⟩ := hy 0 f hf
    rw [e] at e'
    simp only [Option.some.injEq, Addr.mk.injEq, and_true] at e'
    rw [e'.1]
    exact World.block_lt_of_cell? w2 _ h0
  have hne : ∀ y : Pap, FieldsAt w2 y.fA y.fields → y.fields ≠ [] → (∀ b off, y.fA = some ⟨b, off, none⟩ → v.ownBlock ≠ some b) → ∀ b off, y.fA = some ⟨b, off, none⟩ → v'.ownBlock ≠ some b := fun y hy h1 h2 b off e => by
    rcases hv with h9 | h9
    · rw [h9]; exact h2 b off e
    · rw [h9]
      have := hlt y hy h1 b off e
      intro h8
      injection h8 with h8
      omega
  refine ⟨h.below.grown hg h.below.size (fun j hj => (h.own.lt j hj).1), by rw [List.length_append]; simpa [flD] using ho, fun y hy => ?_, fun y hy h1 => ?_⟩
  · rcases List.mem_append.1 hy with hy | hy
    · exact fields_kept (h.flds y hy) hg (h.away y hy)
    · obtain rfl := List.mem_singleton.1 hy
      exact fields_kept hF hg haw
  · rcases List.mem_append.1 hy with hy | hy
    · exact hne y (h.flds y hy) h1 (h.away y hy h1)
    · obtain rfl := List.mem_singleton.1 hy
      exact hne y hF h1 (haw h1)
theorem OwnS.docs {w0 wr : World} {v : Value} {l : List Pap} (h : OwnS w0 wr v l) (hk : ∀ x ∈ l, x.fields.length ≤ maxLen ∧ (-9223372036854775808 ≤ x.kind ∧ x.kind ≤ 9223372036854775807)) : ∃ A c, v = .slice A l.length c ∧ DocsAt wr A l := by
  obtain ⟨A9, c9, e9, _, hr9⟩ := RowOf.of_own encD_len h.own rfl
  exact ⟨A9, c9, e9, DocsAt.of_row hr9 fun x hx => ⟨h.flds x hx, (hk x hx).1, (hk x hx).2⟩⟩
theorem owns_new (w : World) : OwnS w (w.alloc (.cells #[] 61)) (.slice (some ⟨w.heap.size, 0, none⟩) 0 0) [] :=
  ⟨(Below.refl _ w).alloc (Nat.le_refl _) _, own_new w 61 4, fun x hx => (by cases hx), fun x hx => (by cases hx)⟩
set_option maxRecDepth 100000 in
set_option maxHeartbeats 12800000 in
theorem mends_law (w : World) (c : Crd) (hO : Hid c.okC) (nA : Option Addr) (nl nc : Nat) (needs : List Nd) (hnl : Hid (needs.length = nl)) (hml : nl ≤ maxLen) (hN : Hid (NdsAt w nA needs)) (A : Option Addr) (nn cc : Nat) (docs : List Pap) (hnn : Hid (docs.length = nn)) (hmn : nn ≤ maxLen) (hD : Hid (DocsAt w A docs)) (hLD : Hid (LongD docs)) (day : Int)
    (lA : Option Addr) (ln lc : Nat) (l : List Flt) (hln : Hid (l.length = ln)) (hlA : Hid (FaultsAt w lA l)) (hlf : Hid (∀ x ∈ l, x.fits)) (hstr : Hid (c.beneficiary.size ≤ 1048576 ∧ c.applicant.size ≤ 1048576 ∧ c.currency.size ≤ 1048576)) (he : Hid (Env w)) (hal : Hid (AlikeAt w)) (hac : Hid (AlikeC w)) :
    Calls Tryz.prog 7 #[.agg (c.cells (.slice nA nl nc)), .slice A nn cc, .int .i64 day, .slice lA ln lc] w fun e w' => e = .returned (.bool true) ∧ Below w.heap.size w w' := by
  obtain ⟨iD, iDi, iD0, iD1, iD2⟩ := info_parts Tryz.info61
  obtain ⟨iG, iGi, iG0, iG1, iG2⟩ := info_parts Tryz.info108
  have hCa : Hid (CrdAt (c.cells (.slice nA nl nc)) c) := c.at_ _
  have hmn' := Lib.hid hmn
  have hml' := Lib.hid hml
  clear hmn hml
  have haw := Lib.hid (fun (W : World) (h : Env W) => awake_any W (Lib.hid h))
  have hrm0 := Lib.hid (fun W h1 h2 h3 h5 h6 S h7 h8 h9 h10 h11 h12 h13 h14 => rmend_any W c hO nA nl nc needs hnl h1 h2 h3 A nn cc docs day h5 hnn h6 (Lib.hid h7) h8 S h9 h10 h11 lA ln lc l hln h12 h13 h14)
  have hex0 := Lib.hid (fun hdy W A' c' docs' => examine_any c hO nA nl nc needs hnl A' nn c' docs' day hdy W)
  have hfew0 := Lib.hid (fun (C : Array Value) (W : World) (h1 : Hid (C.size = 18)) (h2 : C[17]? = some (.slice nA nl nc)) (h3 : NdsAt W nA needs) (h4 : DocsAt W A docs) => few5_any C nA nl nc needs A nn cc docs day W h1 h2 hnl hnn hml'.out hmn'.out (Lib.hid h3) (Lib.hid h4) hLD)
  have hCz : Hid ((c.cells (.slice nA nl nc)).size = 18) := rfl
  have hC17 : Hid ((c.cells (.slice nA nl nc))[17]? = some (.slice nA nl nc)) := rfl
  obtain ⟨C, hC⟩ : ∃ C, Hid (c.cells (.slice nA nl nc) = C) := ⟨_, rfl⟩
  rw [hC.out] at hrm0 hex0 hCz hC17 hCa ⊢
  have hsz : Hid ((Tryz.prog.info? 46).map (·.size) = some C.size) := by unfold Hid; rw [hCz.out]; kernel_rfl
  obtain ⟨w0, hw0⟩ : ∃ X, Hid (w.alloc (.cells C 46) = X) := ⟨_, rfl⟩
  have hb0 : Hid (Below w.heap.size w w0) := by rw [← hw0.out]; exact (Below.refl _ w).alloc (Nat.le_refl _) _
  have hbk0 : Hid (Blk w0 w.heap.size 46 C) := by rw [← hw0.out]; exact Lib.hid (Blk.new w 46 C)
  have haw0 := Lib.hid (haw.out w0 (he.out.below hb0.out))
  obtain ⟨F, hF⟩ : ∃ F, fewDay needs docs day = F := ⟨_, rfl⟩
  have hF' := Lib.hid hF
  rw [hF] at hfew0
  clear hF
  go_enter Tryz.func7, Tryz.ntmps7
  go_wp2_with (rw [hw0.out])
  refine haw0.out.mono ?_
  rintro e w1 ⟨rfl, hb1⟩
  have hB1 : Hid (Below w.heap.size w w1) := hb0.out.trans (hb1.mono hb0.out.size)
  have hbk1 := Lib.hid (hbk0.out.below hb1 hbk0.out.lt)
  have hfew1 := Lib.hid (hfew0.out C w1 hCz hC17.out (hN.out.below hB1.out) (hD.out.below hB1.out))
  clear hb1 haw0 hbk0 hfew0
  go_wp2_with (refine wpList_load_blkg rfl 46 (.tmp 4) rfl w.heap.size C 46 _ rfl hbk1.out Tryz.underlying46 rfl hsz.out ?_)
  refine hfew1.out.mono ?_
  rintro e w2 ⟨rfl, hb2⟩
  have hB2 : Hid (Below w.heap.size w w2) := hB1.out.trans (hb2.mono hB1.out.size)
  have hbk2 := Lib.hid (hbk1.out.below hb2 hbk1.out.lt)
  clear hb2 hfew1 hbk1
  have haw2 := Lib.hid (haw.out w2 (he.out.below hB2.out))
  cases F with
  | false =>
    go_wp2_with fail
    refine haw2.out.mono ?_
    rintro e w3 ⟨rfl, hb3⟩
    have hB3 : Hid (Below w.heap.size w w3) := hB2.out.trans (hb3.mono hB2.out.size)
    clear hb3
    go_wp2_with fail
    go_ret
    exact ⟨rfl, hB3.out⟩
  | true =>
  by_cases hm12 : 12 < ln
  · have d1 : decide ((12 : Int) < (ln : Int)) = true := decide_eq_true (by omega)
    have d2 : decide (12 < ln) = true := decide_eq_true hm12
    go_wp2_with fail
    refine haw2.out.mono ?_
    rintro e w3 ⟨rfl, hb3⟩
    have hB3 : Hid (Below w.heap.size w w3) := hB2.out.trans (hb3.mono hB2.out.size)
    clear hb3
    go_wp2_with fail
    go_ret
    exact ⟨rfl, hB3.out⟩
  have d1 : decide ((12 : Int) < (ln : Int)) = false := decide_eq_false (by omega)
  have d2 : decide (12 < ln) = false := decide_eq_false hm12
  have hl12' : ln ≤ 12 := by omega
  have hparts : fewB needs docs = true ∧ -1073741824 ≤ day ∧ day ≤ 1073741824 := by
    have h := hF'.out
    unfold fewDay at h
    simp only [Bool.and_eq_true, decide_eq_true_eq] at h
    exact ⟨h.1, h.2.1, h.2.2⟩
  obtain ⟨hfb, hday0, hday1⟩ := hparts
  obtain ⟨hl12, hn12, hsd, hsx⟩ := few_docs hfb
  have hfl6 := Lib.hid (few_fields hfb)
  have hFP := Lib.hid (few_parts hfb)
  have hn12' : nn ≤ 12 := by have := hnn.out; omega
  have hl1000 : nl ≤ 1000 := by have := hnl.out; omega
  have hRm : Hid (∀ W, Below w.heap.size w W → Room W A nn docs) := Lib.hid fun W hW => ⟨hnn.out, by omega, hD.out.below hW, he.out.below hW, hsd⟩
  have hdayw : Hid (-9223372036854775808 ≤ day ∧ day ≤ 9223372036854775807) := by unfold Hid; omega
  have hany : Hid (∀ W A' c' docs', Below w.heap.size w W → DocsAt W A' docs' → docs'.length = nn → SmallD docs' → (examF c needs docs' day).length ≤ 20000 ∧ (∀ x ∈ examF c needs docs' day, x.fits) ∧ Calls Tryz.prog 21 #[.agg C, .slice A' nn c', .int .i64 day] W (FaultedC W (examF c needs docs' day))) := Lib.hid fun W A' c' docs' hW hDW hl' hs => by
    refine ⟨exam_len hFP.out (by omega), exam_fits (fun d hd => by
      obtain ⟨i, hi⟩ := List.getElem?_of_mem hd
      exact kind_of hDW hi) (fun x hx => by
      obtain ⟨i, hi⟩ := List.getElem?_of_mem hx
      exact (hN.out i x hi).1) (fun x hx => small_field (hsx x hx)) (by omega), ?_⟩
    exact hex0.out hdayw W A' c' docs' (Lib.hid (hN.out.below hW)) hFP (Lib.hid ⟨hl', by omega, hDW, he.out.below hW, hs⟩) (Lib.hid (hal.out.below hW)) hn12'
  have hBd := Lib.hid (few_bnd hfb)
  have hBC : Hid (BndC 1048576 c needs) := Lib.hid ⟨hstr.out.1, hstr.out.2.1, hstr.out.2.2, hO.out.amount, hO.out.latest, by omega, fun x hx u hu => ⟨text_of_size (hsx x hx) u hu, by
    obtain ⟨i, hi⟩ := List.getElem?_of_mem hx
    have h1 := (hN.out i x hi).2.2.1
    unfold LongT at h1
    exact (allT_here (parts_all x.rule h1 u hu)).2.2⟩⟩
  have hsmD := Lib.hid hsd
  have hSm : Hid (∀ x ∈ needs, SmallT x.rule) := fun x hx => small_of_size (hsx x hx)
  have hdayx : Hid (-1073741824 ≤ day ∧ day ≤ 1073741824) := Lib.hid ⟨hday0, hday1⟩
  have hLe : Hid (∀ docs' : List Pap, docs'.length = nn → (examF c needs docs' day).length ≤ 20000) := Lib.hid fun docs' h => exam_len hFP.out (by omega)
  obtain ⟨w3, hw3⟩ : ∃ X, Hid (w2.alloc (.cells #[] 61) = X) := ⟨_, rfl⟩
  have hO3 : Hid (OwnS w2 w3 (.slice (some ⟨w2.heap.size, 0, none⟩) 0 0) []) := by rw [← hw3.out]; exact Lib.hid (owns_new w2)
  have hst0 : Hid (([] : List Pap).map bare = (docs.take 0).map bare) := by unfold Hid; rw [List.take_zero]
  clear hex0 hfb hday0 hday1 hn12 hsx hF' hl12 hsd haw2 haw
  go_wp2_with (rw [hw3.out])
  go_loopw [9, 34] (fun v i wr => ∃ (q : Nat) (M : List Pap), q ≤ nn ∧ i = .int .i64 q ∧ M.length = q ∧ Hid (OwnS w2 wr v M) ∧ Hid (M.map bare = (docs.take q).map bare)) (fun _ i _ => nn - (intOf i).toNat)
  case atStart => exact ⟨0, [], Nat.zero_le _, rfl, rfl, hO3, hst0⟩
  case round =>
    clear hO3 hst0 hw3
    obtain ⟨q, M, hq, rfl, hMq, hS, hMb⟩ := hrel
    have hBr : Hid (Below w.heap.size w wr) := hB2.out.trans (hS.out.below.mono hB2.out.size)
    by_cases hlt : q < nn
    · as_aux_lemma =>
      obtain ⟨x, hx⟩ : ∃ x, docs[q]? = some x := ⟨_, List.getElem?_eq_getElem (by have := hnn.out; omega)⟩
      have hfx := hfl6.out x (List.mem_of_getElem? hx)
      have hnx : Hid (∀ y : Pap, bare y = bare x → (M ++ [y]).map bare = (docs.take (q + 1)).map bare) := Lib.hid fun y hy => by
        obtain ⟨hj, e⟩ := List.getElem?_eq_some_iff.1 hx
        rw [List.take_succ_eq_append_getElem hj, e, List.map_append, List.map_append, hMb.out]
        simp [hy]
      obtain ⟨b, off, rfl, x0, x1, x2, x3, xF, xl, _⟩ := (hD.out.below hBr.out) q x hx
      obtain ⟨xk, xn, xi, xA, xc, xFs⟩ := x
      simp only at x0 x1 x2 x3 xF xl hfx
      have xF' := Lib.hid xF
      obtain ⟨nf, hnf⟩ : ∃ z, Hid (xFs.length = z) := ⟨_, rfl⟩
      rw [hnf.out] at x3 xl hfx
      clear hx xF
      have i1 : (q : Int) < (nn : Int) := by omega
      have i2 : (0 : Int) ≤ (q : Int) := by omega
      have hkm : decide (q < nn) = true := decide_eq_true hlt
      obtain ⟨w5, hw5⟩ : ∃ X, Hid (wr.alloc (.cells #[.int .i64 xk, .string xn, .string xi, .slice xA nf xc] 61) = X) := ⟨_, rfl⟩
      have hb5 : Hid (Below wr.heap.size wr w5) := by rw [← hw5.out]; exact (Below.refl _ wr).alloc (Nat.le_refl _) _
      obtain ⟨gx, hgx⟩ : ∃ z, Hid (wr.heap.size = z) := ⟨_, rfl⟩
      have e5 : wr.heap.size = gx := hgx.out
      have hX5 : Hid (Blk w5 gx 61 #[.int .i64 xk, .string xn, .string xi, .slice xA nf xc]) := by rw [← hw5.out, ← hgx.out]; exact Lib.hid (Blk.new _ _ _)
      obtain ⟨w6, hw6⟩ : ∃ X, Hid (w5.alloc (.cells #[] 108) = X) := ⟨_, rfl⟩
      have hb6 : Hid (Below w5.heap.size w5 w6) := by rw [← hw6.out]; exact (Below.refl _ w5).alloc (Nat.le_refl _) _
      have ho6 : Hid (w6.ownsRow w5.heap.size 108 2 (.slice (some ⟨w5.heap.size, 0, none⟩) 0 0) 0 []) := by rw [← hw6.out]; exact Lib.hid (own_new w5 108 2)
      have hr6 := Lib.hid ((((xF'.out.below hb5.out).below hb6.out).row).reads encF_len (by decide))
      rw [hnf.out] at hr6
      have hX6 := Lib.hid (hX5.out.below hb6.out hX5.out.lt)
      have f3 : w6.cell? ⟨gx, 3, none⟩ = some (.slice xA nf xc) := hX6.out.cell 3
      have hn1 : Hid (0 + nf ≤ maxLen) := by unfold Hid maxLen; omega
      have hn2 : Hid ((0 + nf) * 32 ≤ 140737488355328) := by unfold Hid; omega
      have hone := Lib.hid (flF_one xFs)
      have hs6 := Lib.hid hb6.out.size
      go_upto_region 8 with (first | rw [hw5.out] | rw [e5] | rw [hw6.out] | (at_builtin; go_must (refine wpList_append_any _ rfl (.tmp 38) (.tmp 40) 59 rfl w5.heap.size 108 iG _ 2 32 Tryz.underlying59 iGi iG0 iG1 iG2 rfl (by decide) (.slice (some ⟨w5.heap.size, 0, none⟩) 0 0) 0 [] rfl ho6.out w6.heap.size _ nf xc (flF xFs) rfl hr6.out hone.out hn1.out hn2.out hs6.out ?_); intro v7 w7 ho7 hg7 hv7; rw [Nat.zero_add, List.nil_append] at ho7; obtain ⟨A7, c7, rfl⟩ := own_form ho7; have hb57 : Hid (Below w5.heap.size w5 w7) := Lib.hid (hb6.out.grown hg7 hb6.out.size (fun k hk => by simp [Value.ownBlock] at hk; omega)); have hX7 := Lib.hid (hX5.out.below hb57.out hX5.out.lt); have f37 : w7.cell? ⟨gx, 3, none⟩ = some (.slice xA nf xc) := hX7.out.cell 3; have hfr7 : w7.frozen? ⟨gx, 3, none⟩ = false := hX7.out.frozen 3; have ho7' := Lib.hid ho7; clear ho7 hg7 hv7))
      obtain ⟨w8, hw8⟩ : ∃ X, Hid (w7.setCell ⟨gx, 3, none⟩ (.slice A7 nf c7) = X) := ⟨_, rfl⟩
      have hbut8 : Hid (But gx w7 w8) := by rw [← hw8.out]; exact Lib.hid ((But.refl gx w7).setCell 3 _)
      have hX8 : Hid (Blk w8 gx 61 #[.int .i64 xk, .string xn, .string xi, .slice A7 nf c7]) := by rw [← hw8.out]; exact Lib.hid (hX7.out.set_ 3 _)
      have hb37 : Hid (Below wr.heap.size wr w7) := hb5.out.trans (hb57.out.mono hb5.out.size)
      have hb38 : Hid (Below wr.heap.size wr w8) := hbut8.out.to_below hb37.out (by rw [hgx.out]; exact Nat.le_refl _) hb37.out.size
      have ho8 : Hid (w8.ownsRow w5.heap.size 108 2 (.slice A7 nf c7) nf (flF xFs)) := Lib.hid (own_but ho7'.out hbut8.out hX7.out (by decide))
      rw [hw8.out]
      clear hw8 f37 hfr7 f3 x0 x1 x2 x3 ho7' hbut8
      have q0 : w8.cell? ⟨gx, 0, none⟩ = some (.int .i64 xk) := hX8.out.cell 0
      have q1 : w8.cell? ⟨gx, 1, none⟩ = some (.string xn) := hX8.out.cell 1
      have q2 : w8.cell? ⟨gx, 2, none⟩ = some (.string xi) := hX8.out.cell 2
      have q3 : w8.cell? ⟨gx, 3, none⟩ = some (.slice A7 nf c7) := hX8.out.cell 3
      obtain ⟨w9, hw9⟩ : ∃ X, Hid (w8.alloc (.cells #[.int .i64 xk, .string xn, .string xi, .slice A7 nf c7] 61) = X) := ⟨_, rfl⟩
      have hb9 : Hid (Below w8.heap.size w8 w9) := by rw [← hw9.out]; exact (Below.refl _ w8).alloc (Nat.le_refl _) _
      have hblk : Hid (Reads w9 w9.heap.size 4 (some ⟨w8.heap.size, 0, none⟩) 1 (#[.int .i64 xk, .string xn, .string xi, .slice A7 nf c7] : Array Value).toList) := by rw [← hw9.out]; exact Lib.hid (blk_reads (Blk.new w8 61 #[.int .i64 xk, .string xn, .string xi, .slice A7 nf c7]) 4 1 rfl)
      have hS9 : Hid (OwnS w2 w9 u9 M) := Lib.hid ((hS.out.on hb38.out).on hb9.out)
      have hF9 : Hid (FieldsAt w9 A7 xFs) := by
        obtain ⟨A', c', e', _, hF'⟩ := fields_of_own (own_below ho8.out hb9.out) hnf.out
        simp only [Value.slice.injEq, true_and] at e'
        rw [e'.1]
        exact Lib.hid hF'
      have haw9 : Hid (xFs ≠ [] → ∀ b off, A7 = some ⟨b, off, none⟩ → u9.ownBlock ≠ some b) := Lib.hid fun hne b off e h9 => by
        obtain ⟨g', c', e', h1, _⟩ := own_formS ho8.out (by have := List.length_pos_iff.2 hne; have := hnf.out; omega)
        rw [e] at e'
        simp only [Value.slice.injEq, Option.some.injEq, Addr.mk.injEq, and_true, true_and] at e'
        have h2 := (hS.out.own.lt b h9).2
        have h3 := hb5.out.size
        omega
      have hnx9 := Lib.hid (hnx.out ⟨xk, xn, xi, A7, c7, xFs⟩ rfl)
      have hput : Hid (∀ v10 w10, w10.ownsRow w2.heap.size 61 4 v10 (M.length + 1) (flD M ++ (#[.int .i64 xk, .string xn, .string xi, .slice A7 nf c7] : Array Value).toList) → w9.grownBy w10 u9.ownBlock → (v10.ownBlock = u9.ownBlock ∨ v10.ownBlock = some w9.heap.size) → OwnS w2 w10 v10 (M ++ [⟨xk, xn, xi, A7, c7, xFs⟩])) :=
        Lib.hid fun v10 w10 h1 h2 h3 => hS9.out.put h2 h3 (by rw [← hnf.out] at h1; exact h1) hF9.out haw9.out
      have s1 : Hid (M.length + 1 ≤ maxLen) := by unfold Hid maxLen; omega
      have s2 : Hid ((M.length + 1) * 64 ≤ 140737488355328) := by unfold Hid; omega
      have s3 := Lib.hid hS9.out.below.size
      have s4 : Hid (∀ v ∈ (#[.int .i64 xk, .string xn, .string xi, .slice A7 nf c7] : Array Value).toList, v.oneCell' = true) := Lib.hid (by simp [Value.oneCell'])
      clear hX5 hX6 hX7 hb57 hw5 hw6 e5 hr6 ho6 hone hnx hF9 haw9
      go_wp2_with (first | rw [hw9.out] | (at_builtin; go_must (refine wpList_append_any _ rfl _ _ 25 rfl w2.heap.size 61 iD _ 4 64 Tryz.underlying25 iDi iD0 iD1 iD2 rfl (by decide) _ M.length (flD M) rfl hS9.out.own _ (some ⟨w8.heap.size, 0, none⟩) 1 1 _ rfl hblk.out s4.out s1.out s2.out s3.out ?_); intro v10 w10 ho10 hg10 hv10; have hS10 := Lib.hid (hput.out v10 w10 ho10 hg10 hv10); clear ho10 hg10 hv10))
      go_roundw
      case rel => exact ⟨q + 1, M ++ [⟨xk, xn, xi, A7, c7, xFs⟩], by omega, by go_num, by rw [List.length_append, hMq]; rfl, hS10, hnx9⟩
      case measure => simp [intOf]; omega
    · have hkm : decide (q < nn) = false := decide_eq_false hlt
      rw [List.take_of_length_le (by rw [hnn.out]; omega)] at hMb
      have hqn : q = nn := by omega
      have hml9 : Hid (M.length = nn) := Lib.hid (hMq.trans hqn)
      have hBdM : Hid (Bnd 1048576 30 M) := Lib.hid (bnd_bare.1 (by rw [hMb.out]; exact bnd_bare.2 hBd.out))
      have hlfM : Hid (∀ x ∈ M, x.fields.length ≤ 1000000) := Lib.hid fun x hx => by have := hBdM.out.num x hx; omega
      have hsame : Hid (sameD M docs) := Lib.hid (same_bares hMb.out)
      obtain ⟨A9, c9, rfl, hD9⟩ := hS.out.docs fun x hx => ⟨by have := hBdM.out.num x hx; unfold maxLen; omega, by
        have h1 : bare x ∈ docs.map bare := by rw [← hMb.out]; exact List.mem_map_of_mem hx
        obtain ⟨d, hd, e⟩ := List.mem_map.1 h1
        obtain ⟨i, hi⟩ := List.getElem?_of_mem hd
        have := kind_of hD.out hi
        have h2 : (bare d).kind = (bare x).kind := congrArg Pap.kind e
        have h3 : d.kind = x.kind := h2
        rw [← h3]; exact this⟩
      rw [hml9.out]
      have hD9' := Lib.hid hD9
      have hmm : Hid (mendM c needs day M l = mendM c needs day docs l) := by unfold Hid mendM; rw [hMb.out]
      have hbk := Lib.hid (hbk2.out.below hS.out.below hbk2.out.lt)
      have hme := Lib.hid (mend_any wr C c hCa hO nA nl nc needs hC17 hnl hl1000 (Lib.hid (hN.out.below hBr.out)) A9 nn c9 M day hdayw hml9 hn12' hD9' (Lib.hid (he.out.below hBr.out)) (Lib.hid (hac.out.below hBr.out)) 1048576 hBC hBdM (by omega) lA ln lc l hln hl12' (Lib.hid (hlA.out.below hBr.out)) hlf (Lib.hid fun W A' c' docs' hW hDW hl' hs _ => hany.out W A' c' docs' (hBr.out.trans (hW.mono hBr.out.size)) hDW hl' hs))
      have hbnd := Lib.hid (mendF_bnd hdayw.out (l := l) hBC.out (bnd_bare.2 hBd.out))
      have hlens : Hid (∀ D : List Pap, D.map bare = mendM c needs day docs l → D.length = nn ∧ ∀ x ∈ D, x.fields.length ≤ 1000000) := Lib.hid fun D hd => by
        have h1 : (D.map bare).length = docs.length := by rw [hd]; unfold mendM; rw [mend_len, List.length_map]
        rw [List.length_map] at h1
        refine ⟨h1.trans hnn.out, fun x hx => ?_⟩
        have h2 : Bnd _ _ D := bnd_bare.1 (by rw [hd]; exact hbnd.out)
        have := h2.num x hx
        have := hln.out
        omega
      have hrm := Lib.hid (fun W (hW : Below wr.heap.size wr W) => hrm0.out W (Lib.hid (hN.out.below (hBr.out.trans (hW.mono hBr.out.size)))) hSm hFP hdayx hn12' 1048576 (hD.out.below (hBr.out.trans (hW.mono hBr.out.size))) (Lib.hid (he.out.below (hBr.out.trans (hW.mono hBr.out.size)))) hBC hBd (by omega) hl12' (Lib.hid (hlA.out.below (hBr.out.trans (hW.mono hBr.out.size)))) hLe)
      clear hrm0 hbnd hBC hBd hBdM hany hfl6 hRm
      go_wp2_with (refine wpList_load_blk rfl 46 (.tmp 4) rfl w.heap.size C 46 _ rfl hbk.out Tryz.underlying46 rfl hsz.out ?_)
      refine hme.out.mono ?_
      rintro e w6 ⟨hb6, hcase⟩
      have hbk6 := Lib.hid (hbk.out.below hb6 hbk.out.lt)
      have hrm6 := Lib.hid (hrm.out w6 hb6)
      have hb6' := Lib.hid hb6
      clear hme hrm hb6
      rw [hmm.out] at hcase
      rcases hcase with ⟨hlen, A6, c6, docs6, rfl, hM6, hD6⟩ | ⟨hlen, rfl⟩
      · have hlen' := Lib.hid hlen
        have hM6' := Lib.hid (hM6)
        have hD6' := Lib.hid hD6
        clear hlen hM6 hD6
        go_wp2_with (refine wpList_load_blk rfl 46 (.tmp 4) rfl w.heap.size C 46 _ rfl hbk6.out Tryz.underlying46 rfl hsz.out ?_)
        refine hrm6.out.mono ?_
        rintro e w7 ⟨hb7, hcase⟩
        have hb37 : Hid (Below wr.heap.size wr w7) := hb6'.out.trans (hb7.mono hb6'.out.size)
        rcases hcase with ⟨_, A7, c7, docs7, rfl, hM7, hD7⟩ | ⟨hlen, rfl⟩
        · obtain ⟨l6, f6⟩ := hlens.out docs6 hM6'.out
          obtain ⟨l7, _⟩ := hlens.out docs7 hM7
          have hdd := Lib.hid (docs_any A6 A7 nn c6 c7 docs6 docs7 w7 (by omega) (Lib.hid l6) (Lib.hid l7) (Lib.hid (same_bares (hM6'.out.trans hM7.symm))) (Lib.hid f6) (Lib.hid (hD6'.out.below hb7)) (Lib.hid hD7))
          clear hM7 hD7 l6 f6 l7 hb7
          go_wp2_with fail
          refine hdd.out.mono ?_
          rintro e w8 ⟨rfl, hb8⟩
          have hb38 : Hid (Below wr.heap.size wr w8) := hb37.out.trans (hb8.mono hb37.out.size)
          have hd2 := Lib.hid (docs_any A9 A nn c9 cc M docs w8 (by omega) hml9 hnn hsame hlfM (Lib.hid (hD9'.out.below hb38.out)) (Lib.hid (hD.out.below (hBr.out.trans (hb38.out.mono hBr.out.size)))))
          clear hb8 hdd
          go_wp2_with fail
          refine hd2.out.mono ?_
          rintro e w9 ⟨rfl, hb9⟩
          have hB9 : Hid (Below w.heap.size w w9) := hBr.out.trans ((hb38.out.trans (hb9.mono hb38.out.size)).mono hBr.out.size)
          clear hb9 hd2
          go_wp2_with fail
          go_ret
          exact ⟨rfl, hB9.out⟩
        · exact absurd hlen'.out hlen
      · have hlen' := Lib.hid hlen
        clear hlen
        go_wp2_with (refine wpList_load_blk rfl 46 (.tmp 4) rfl w.heap.size C 46 _ rfl hbk6.out Tryz.underlying46 rfl hsz.out ?_)
        refine hrm6.out.mono ?_
        rintro e w7 ⟨hb7, hcase⟩
        have hb37 : Hid (Below wr.heap.size wr w7) := hb6'.out.trans (hb7.mono hb6'.out.size)
        rcases hcase with ⟨hlen, _⟩ | ⟨_, rfl⟩
        · exact absurd hlen hlen'.out
        · have hdd := Lib.hid (docs_any none none 0 0 0 [] [] w7 (by omega) (Lib.hid rfl) (Lib.hid rfl) (Lib.hid (same_bares rfl)) (Lib.hid fun x hx => by cases hx) (Lib.hid fun i x hx => by simp at hx) (Lib.hid fun i x hx => by simp at hx))
          clear hb7
          go_wp2_with fail
          refine hdd.out.mono ?_
          rintro e w8 ⟨rfl, hb8⟩
          have hb38 : Hid (Below wr.heap.size wr w8) := hb37.out.trans (hb8.mono hb37.out.size)
          have hd2 := Lib.hid (docs_any A9 A nn c9 cc M docs w8 (by omega) hml9 hnn hsame hlfM (Lib.hid (hD9'.out.below hb38.out)) (Lib.hid (hD.out.below (hBr.out.trans (hb38.out.mono hBr.out.size)))))
          clear hb8 hdd
          go_wp2_with fail
          refine hd2.out.mono ?_
          rintro e w9 ⟨rfl, hb9⟩
          have hB9 : Hid (Below w.heap.size w w9) := hBr.out.trans ((hb38.out.trans (hb9.mono hb38.out.size)).mono hBr.out.size)
          clear hb9 hd2
          go_wp2_with fail
          go_ret
          exact ⟨rfl, hB9.out⟩
end Go.Proofs.YtdjmckjbibfecaaGreatDoor
namespace Go.Proofs.YtdjmckjbibfecaaGreatDoor
open Go.ChangeShapes Go.WideShapes Go.ChangeAt Go.RowKit Go.Joins
open Go.ChangeMaps (open_string shut_string)

set_option maxRecDepth 100000 in
theorem coreMends_contract (H : Type) (enc : TypeId × Value → H) (W : World) (base : Nat) (args : Array Value) (ds gs : List (DataW H)) (before : List MemPlace)
    (hval0 : ∀ (j : Nat) t v, Tryz.f7.params[j]? = some t → args[j]? = some v → Value.okWide Tryz.prog W .any base t v)
    (hW : DataW.Whole enc Tryz.prog Tryz.f7.params.toList Rows.coreMendsSpec.vars false W args.toList ds gs before)
    (hz : (DataW.weightsEach Tryz.prog (Tryz.f7.params.toList ++ (OpenSpec.ofChange Rows.coreMendsSpec).bare.plain.varTypes Tryz.prog) (ds ++ gs)).all (· ≤ reachBytes) = true)
    (hk : Rows.uptoSmall H (ds ++ gs) = true) (hL : laidMetH Tryz.prog Rows.coreMendsUptoRow.laid W) (hsh : W.ShapedOpen Tryz.prog) :
    Calls Tryz.prog 7 args W fun e W' => ∃ v, e = .returned v ∧ Rows.coreMendsSpec.post enc Tryz.prog Tryz.f7 false true false false W args v W' := by
  have hval : ∀ (j : Nat) t v, Tryz.f7.params[j]? = some t → args[j]? = some v → Value.okWide Tryz.prog W .any base t v := hval0
  have hW' := hW
  obtain ⟨p, q, hA0, hV, rfl, hfz, hnd⟩ := hW
  have hA : DataW.TrodAll enc Tryz.prog W 0 (fun _ => true) true Tryz.f7.params.toList args.toList ds p := hA0
  rw [Tryz.params7] at hA hval hz
  obtain ⟨v0, vs0, d0, ds0, p0, q0, hargs, rfl, rfl, h0, r0⟩ := trodAll_cons hA
  obtain ⟨v1, vs1, d1, ds1, p1, q1, rfl, rfl, rfl, h1, r1⟩ := trodAll_cons r0
  obtain ⟨v2, vs2, d2, ds2, p2, q2, rfl, rfl, rfl, h2, r2⟩ := trodAll_cons r1
  obtain ⟨v3, vs3, d3, ds3, p3, q3, rfl, rfl, rfl, h3, r3⟩ := trodAll_cons r2
  obtain ⟨rfl, rfl, rfl⟩ := trodAll_nil r3
  obtain rfl : args = #[v0, v1, v2, v3] := by cases args; simp_all
  obtain ⟨rfl, rfl⟩ := trodVars_none hV
  have k0 := h0
  have lt0 : ∀ x ∈ p0, x.block < W.heap.size := by obtain ⟨m, hm⟩ := k0; exact DataW.trod_lt m _ _ _ hm
  have k1 := h1
  have lt1 : ∀ x ∈ p1, x.block < W.heap.size := by obtain ⟨m, hm⟩ := k1; exact DataW.trod_lt m _ _ _ hm
  have k2 := h2
  have lt2 : ∀ x ∈ p2, x.block < W.heap.size := by obtain ⟨m, hm⟩ := k2; exact DataW.trod_lt m _ _ _ hm
  have k3 := h3
  have lt3 : ∀ x ∈ p3, x.block < W.heap.size := by obtain ⟨m, hm⟩ := k3; exact DataW.trod_lt m _ _ _ hm
  obtain ⟨C0, A0, c0, l0, rfl, hO0, hn0, hN0⟩ := arg_credit (hval 0 46 v0 rfl rfl) h0 (fits_of hz (j := 0) rfl rfl)
  obtain ⟨A1, c1, l1, rfl, hn1, hd1, hld1⟩ := arg_docs (hval 1 25 v1 rfl rfl) h1 (fits_of hz (j := 1) rfl rfl)
  obtain ⟨x2, rfl, _, _, hx2⟩ := open_int Tryz.underlying3 (hval 2 3 v2 rfl rfl) h2
  obtain ⟨A3, c3, l3, rfl, hn3, hf3, hfl3⟩ := arg_faults (hval 3 47 v3 rfl rfl) h3 (fits_of hz (j := 3) rfl rfl)
  clear hA0 hval0
  have hb : Rows.uptoBulkAll ([d0, d1, d2, d3] ++ [] : List (DataW H)) ≤ 1048576 := of_decide_eq_true hk
  simp only [List.cons_append, List.nil_append, Rows.uptoBulkAll] at hb
  have hstr : Hid (C0.beneficiary.size ≤ 1048576 ∧ C0.applicant.size ≤ 1048576 ∧ C0.currency.size ≤ 1048576) := Lib.hid (by obtain ⟨e1, e2, e3⟩ := credit_bulk k0; exact ⟨by omega, by omega, by omega⟩)
  have henv : Env W := env_of ⟨rfl, rfl, rfl⟩ hL hsh
  refine (mends_law W C0 (Lib.hid hO0) A0 l0.length c0 l0 (Lib.hid rfl) hn0 (Lib.hid hN0) A1 l1.length c1 l1 (Lib.hid rfl) hn1 (Lib.hid hd1) (Lib.hid hld1) x2 A3 l3.length c3 l3 (Lib.hid rfl) (Lib.hid hf3) (Lib.hid hfl3) hstr (Lib.hid henv) (Lib.hid (alike_of rfl hL)) (Lib.hid (calike_of rfl hL))).mono fun e W' ⟨he, bel⟩ => ?_
  subst he
  exact ⟨_, rfl, _, _, _, [], _, [], hW', trodAll_mk1 (shut_bool Tryz.underlying4 _), (trodAll_cons_mk (Below.trod laidOut (by kernel_rfl) (of_decide_eq_true (by kernel_rfl)) k0 bel lt0) (trodAll_cons_mk (Below.trod laidOut (by kernel_rfl) (of_decide_eq_true (by kernel_rfl)) k1 bel lt1) (trodAll_cons_mk (Below.trod laidOut (by kernel_rfl) (of_decide_eq_true (by kernel_rfl)) k2 bel lt2) (trodAll_cons_mk (Below.trod laidOut (by kernel_rfl) (of_decide_eq_true (by kernel_rfl)) k3 bel lt3) trodAll_mk0)))), rfl, bel.frame _, fun h => by cases h⟩

theorem coreMends_laid (os : Os) : laidMetH Tryz.prog Rows.coreMendsUptoRow.laid ((World.laidAll Tryz.prog os Rows.coreMendsUptoRow.laid).forCall (fun _ _ => 0) ⟨#[], #[.agg #[.string ⟨#[]⟩, .string ⟨#[]⟩, .string ⟨#[]⟩, .string ⟨#[]⟩, .string ⟨#[]⟩, .string ⟨#[]⟩, .string ⟨#[]⟩, .string ⟨#[]⟩, .int .i64 0, .int .i64 0, .int .i64 0, .int .i64 0, .int .i64 0, .int .i64 0, .int .i64 0, .bool false, .bool false, .slice none 0 0], .slice none 0 0, .int .i64 0, .slice none 0 0], []⟩).memory := by
  rw [MakeChecks.laidMetH_plain _ _ _ (by kernel_rfl)]; exact laidMet_laidAll _ (by kernel_rfl) (by kernel_rfl)

theorem coreMends_read (os : Os) {H : Type} (enc : TypeId × Value → H) : ∃ places, DataW.whole enc Tryz.prog ((World.laidAll Tryz.prog os Rows.coreMendsUptoRow.laid).forCall (fun _ _ => 0) ⟨#[], #[.agg #[.string ⟨#[]⟩, .string ⟨#[]⟩, .string ⟨#[]⟩, .string ⟨#[]⟩, .string ⟨#[]⟩, .string ⟨#[]⟩, .string ⟨#[]⟩, .string ⟨#[]⟩, .int .i64 0, .int .i64 0, .int .i64 0, .int .i64 0, .int .i64 0, .int .i64 0, .int .i64 0, .bool false, .bool false, .slice none 0 0], .slice none 0 0, .int .i64 0, .slice none 0 0], []⟩).memory Tryz.f7.params.toList Rows.coreMendsSpec.vars false #[.agg #[.string ⟨#[]⟩, .string ⟨#[]⟩, .string ⟨#[]⟩, .string ⟨#[]⟩, .string ⟨#[]⟩, .string ⟨#[]⟩, .string ⟨#[]⟩, .string ⟨#[]⟩, .int .i64 0, .int .i64 0, .int .i64 0, .int .i64 0, .int .i64 0, .int .i64 0, .int .i64 0, .bool false, .bool false, .slice none 0 0], .slice none 0 0, .int .i64 0, .slice none 0 0].toList 8 = some ([.agg [.lit (.string []), .lit (.string []), .lit (.string []), .lit (.string []), .lit (.string []), .lit (.string []), .lit (.string []), .agg [.lit (.string []), .lit (.int .i64 0)], .lit (.int .i64 0), .lit (.int .i64 0), .lit (.int .i64 0), .lit (.int .i64 0), .lit (.int .i64 0), .lit (.int .i64 0), .lit (.bool false), .lit (.bool false), .nil], .nil, .lit (.int .i64 0), .nil], [], places) :=
  ⟨[], by kernel_rfl⟩
set_option maxRecDepth 100000 in
theorem coreMends_lifted (os : Os) (started : os.Started) (H : Type) (enc : TypeId × Value → H) (F : Stop.Interp) :
    ReturnsInHanded {} Tryz.checked os 7 .any ((Rows.OpenSpec.upto Rows.coreMendsSpec).preRow enc Tryz.prog Tryz.f7 Rows.coreMendsUptoRow.domain false Rows.coreMendsUptoRow.laid) (((Rows.OpenSpec.upto Rows.coreMendsSpec).at F).post enc Tryz.prog Tryz.f7 false true false false) := by
  obtain ⟨places, hx⟩ := coreMends_read os enc
  have hok : Input.okWideB Tryz.prog ((World.laidAll Tryz.prog os Rows.coreMendsUptoRow.laid).forCall (fun _ _ => 0) ⟨#[], #[.agg #[.string ⟨#[]⟩, .string ⟨#[]⟩, .string ⟨#[]⟩, .string ⟨#[]⟩, .string ⟨#[]⟩, .string ⟨#[]⟩, .string ⟨#[]⟩, .string ⟨#[]⟩, .int .i64 0, .int .i64 0, .int .i64 0, .int .i64 0, .int .i64 0, .int .i64 0, .int .i64 0, .bool false, .bool false, .slice none 0 0], .slice none 0 0, .int .i64 0, .slice none 0 0], []⟩) 7 ⟨#[], #[.agg #[.string ⟨#[]⟩, .string ⟨#[]⟩, .string ⟨#[]⟩, .string ⟨#[]⟩, .string ⟨#[]⟩, .string ⟨#[]⟩, .string ⟨#[]⟩, .string ⟨#[]⟩, .int .i64 0, .int .i64 0, .int .i64 0, .int .i64 0, .int .i64 0, .int .i64 0, .int .i64 0, .bool false, .bool false, .slice none 0 0], .slice none 0 0, .int .i64 0, .slice none 0 0], []⟩ = true := by kernel_rfl
  refine returnsInHanded_of_row (C := Tryz.checked) (s := Rows.OpenSpec.upto Rows.coreMendsSpec) own started (by kernel_rfl) Tryz.func7
    ⟨World.laidAll Tryz.prog os Rows.coreMendsUptoRow.laid, fun _ _ => 0, ⟨#[], #[.agg #[.string ⟨#[]⟩, .string ⟨#[]⟩, .string ⟨#[]⟩, .string ⟨#[]⟩, .string ⟨#[]⟩, .string ⟨#[]⟩, .string ⟨#[]⟩, .string ⟨#[]⟩, .int .i64 0, .int .i64 0, .int .i64 0, .int .i64 0, .int .i64 0, .int .i64 0, .int .i64 0, .bool false, .bool false, .slice none 0 0], .slice none 0 0, .int .i64 0, .slice none 0 0], []⟩, World.laidAll_os _ _ _, World.shaped_of_ZipB (by kernel_rfl) (by kernel_rfl), (Input.okWide_of_okWideB (base := 0) hok).1, (Input.okWide_of_okWideB hok).2,
      OpenSpec.preRow_of_cond 8 hx (by kernel_rfl) (fun k hk => by cases hk; kernel_rfl) (by kernel_rfl) (coreMends_laid os), by
        simp only [Assume.holds]
        exact ⟨by simp, by simp, fun _ => Modest.zero, by simp, by simp⟩⟩ ?_
  intro W base args ds gs before hval hW _ hcond hz hL hsh _
  exact coreMends_contract H enc W base args ds gs before hval hW hz (hcond _ rfl) hL hsh

end Go.Proofs.YtdjmckjbibfecaaGreatDoor

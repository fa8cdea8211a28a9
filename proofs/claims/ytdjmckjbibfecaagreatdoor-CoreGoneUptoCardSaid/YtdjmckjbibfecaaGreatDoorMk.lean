/- The contract of the card, and its lifting. -/
import Derived.Lay
import Derived.LaidMore
import Derived.SevenTiedAt
import Derived.Deep.DeepHandedRow
import Derived.Test.YtdjmckjbibfecaaGreatDoorMb
import Derived.Test.YtdjmckjbibfecaaGreatDoorMg
import Derived.Test.YtdjmckjbibfecaaGreatDoorMj
namespace Go.Proofs.YtdjmckjbibfecaaGreatDoor
open Go Go.ChangeShapes Go.WideShapes Go.ChangeAt Go.RowKit Go.Deep

theorem bulk_mem {H : Type} : ∀ {D : List (DataW H)} {i : Nat} {d : DataW H}, D[i]? = some d → Rows.uptoBulk d ≤ Rows.uptoBulkAll D
  | e :: D, 0, d, h => by
    obtain rfl : e = d := by simpa using h
    rw [Rows.uptoBulkAll]; omega
  | e :: D, i + 1, d, h => by
    have := bulk_mem (D := D) (i := i) (d := d) (by simpa using h)
    rw [Rows.uptoBulkAll]; omega
theorem bulk_part {H : Type} {xs : List (DataW H × List MemPlace)} {i : Nat} {y : DataW H × List MemPlace} (h : xs[i]? = some y) : Rows.uptoBulk y.1 ≤ Rows.uptoBulk (.agg (xs.map (·.1)) : DataW H) := by
  have := bulk_mem (D := xs.map (·.1)) (i := i) (d := y.1) (by rw [List.getElem?_map, h]; rfl)
  rw [Rows.uptoBulk]; omega
section
variable {H : Type} {enc : TypeId × Value → H} {P : Program} {w : World} {base : Nat} {spare : Nat → Bool} {held : Bool}
theorem open_strct2 {t : TypeId} {fs : Array Field} {fuel : Nat} {cs : List Value} {x : DataW H × List MemPlace} (ht : P.underlying t = some (.struct fs)) (h : DataW.trod enc P w base spare held fuel t cs = some x) :
    ∃ (n : Nat) (xs : List (DataW H × List MemPlace)), n < fuel ∧ cs.length = P.cellsOf t ∧ x.1 = .agg (xs.map (·.1)) ∧ xs.length = fs.size ∧ ∀ (i : Nat) (f : Field), fs[i]? = some f → DataW.trod enc P w base spare held n f.type ((cs.drop f.offset).take (P.cellsOf f.type)) = xs[i]? := by
  obtain ⟨xs, n, rfl, rfl, hl, hlen, hf⟩ := DataW.trod_struct ht h
  exact ⟨n, xs, by omega, hl, rfl, hlen, hf⟩
theorem open_strct3 {t : TypeId} {fs : Array Field} {fuel : Nat} {cs : List Value} {x : DataW H × List MemPlace} (ht : P.underlying t = some (.struct fs)) (h : DataW.trod enc P w base spare held fuel t cs = some x) :
    ∃ n, n < fuel ∧ cs.length = P.cellsOf t ∧ ∀ (i : Nat) (f : Field), fs[i]? = some f → ∃ y : DataW H × List MemPlace, DataW.trod enc P w base spare held n f.type ((cs.drop f.offset).take (P.cellsOf f.type)) = some y ∧ Rows.uptoBulk y.1 ≤ Rows.uptoBulk x.1 := by
  obtain ⟨n, xs, hn, hl, hx, hlen, hf⟩ := open_strct2 ht h
  refine ⟨n, hn, hl, fun i f hi => ?_⟩
  have hlt : i < xs.length := by rw [hlen]; exact (Array.getElem?_eq_some_iff.1 hi).1
  have h1 := hf i f hi
  rw [List.getElem?_eq_getElem hlt] at h1
  exact ⟨_, h1, by rw [hx]; exact bulk_part (List.getElem?_eq_getElem hlt)⟩
theorem open_strb {t : TypeId} {fuel : Nat} {cs : List Value} {x : DataW H × List MemPlace} {N : Nat} (ht : P.underlying t = some .string) (h : DataW.trod enc P w base spare held fuel t cs = some x) (hN : Rows.uptoBulk x.1 ≤ N) : ∃ s : ByteArray, cs = [.string s] ∧ s.data.toList.length ≤ N := by
  obtain ⟨s, e, b, _⟩ := DataW.trod_string ht h
  refine ⟨s, e, ?_⟩
  rw [b] at hN
  simp only [Rows.uptoBulk] at hN
  omega
end
theorem calike_of {W : World} {L : List (String × DataW Unit)} (hl : L.filter (fun x => x.1 == "supercargo/core.alike") = [("supercargo/core.alike", Rows.laid_supercargo_core_alike)]) (h : laidMetH Tryz.prog L W) : AlikeC W := by
  have h1 := laidMetH.filter (fun x => x.1 == "supercargo/core.alike") h
  rw [hl, MakeChecks.laidMetH_plain _ _ _ (by kernel_rfl)] at h1
  exact strtab (t := 143) (e := 9) (n := 6) [[115, 101, 108, 108, 101, 114], [102, 114, 111, 109], [116, 111], [99, 117, 114, 114, 101, 110, 99, 121], [98, 111, 120, 101, 115], [109, 97, 114, 107, 115]] (by kernel_rfl) (by kernel_rfl) Tryz.underlying143 Tryz.underlying9 (by kernel_rfl) rfl h1
section
variable {H : Type} {enc : TypeId × Value → H} {W : World} {base : Nat}
theorem str_one {s a : ByteArray} {N : Nat} (e : [Value.string a] = [Value.string s]) (h : s.data.toList.length ≤ N) : a.size ≤ N := by
  obtain rfl : a = s := by simpa using e
  have e1 : a.data.toList.length = a.size := Array.length_toList
  omega
set_option maxRecDepth 100000 in
theorem credit_bulk {d : DataW H} {p : List MemPlace} {c : Crd} {s : Value} (h : TrdV enc W 46 (.agg (c.cells s)) d p) : c.beneficiary.size ≤ Rows.uptoBulk d ∧ c.applicant.size ≤ Rows.uptoBulk d ∧ c.currency.size ≤ Rows.uptoBulk d := by
  obtain ⟨fuel, h⟩ := h
  simp only [Value.cells] at h
  obtain ⟨m, _, _, hfd⟩ := open_strct3 Tryz.underlying46 h
  have c9 : Tryz.prog.cellsOf 9 = 1 := by kernel_rfl
  have c29 : Tryz.prog.cellsOf 43 = 2 := by kernel_rfl
  obtain ⟨y1, t1, f1⟩ := hfd 1 _ rfl
  obtain ⟨y2, t2, f2⟩ := hfd 2 _ rfl
  obtain ⟨y7, t7, f7⟩ := hfd 7 _ rfl
  obtain ⟨m7, _, _, hfd7⟩ := open_strct3 Tryz.underlying43 t7
  obtain ⟨z0, u0, g0⟩ := hfd7 0 _ rfl
  obtain ⟨s1, e1, q1⟩ := open_strb Tryz.underlying9 t1 f1
  obtain ⟨s2, e2, q2⟩ := open_strb Tryz.underlying9 t2 f2
  obtain ⟨s7, e7, q7⟩ := open_strb Tryz.underlying9 u0 (Nat.le_trans g0 f7)
  clear c9 c29
  exact ⟨str_one (show [Value.string c.beneficiary] = [Value.string s2] from e2) q2, str_one (show [Value.string c.applicant] = [Value.string s1] from e1) q1, str_one (show [Value.string c.currency] = [Value.string s7] from e7) q7⟩
set_option maxRecDepth 100000 in
theorem arg_u16 {v : Value} {d : DataW H} {p : List MemPlace} (hv : Value.okWide Tryz.prog W .any base 65 v) (h : TrdV enc W 65 v d p) (_hf : Fits Tryz.prog 65 d) :
    ∃ n : Nat, v = .int .u16 (n : Int) ∧ n < 65536 := by
  obtain ⟨n, e, _, _, hw⟩ := open_int Tryz.underlying65 hv h
  simp only [Lit.wf, Bool.and_eq_true, decide_eq_true_eq] at hw
  have e1 : IntKind.u16.min = 0 := by decide
  have e2 : IntKind.u16.max = 65535 := by decide
  rw [e1, e2] at hw
  exact ⟨n.toNat, by rw [Int.toNat_of_nonneg hw.1]; exact e, by omega⟩
end
end Go.Proofs.YtdjmckjbibfecaaGreatDoor
namespace Go.Proofs.YtdjmckjbibfecaaGreatDoor
open Go.ChangeShapes Go.WideShapes Go.ChangeAt Go.RowKit Go.Joins
open Go.ChangeMaps (open_string shut_string)

set_option maxRecDepth 100000 in
theorem coreGone_contract (H : Type) (enc : TypeId × Value → H) (W : World) (base : Nat) (args : Array Value) (ds gs : List (DataW H)) (before : List MemPlace)
    (hval0 : ∀ (j : Nat) t v, Tryz.f8.params[j]? = some t → args[j]? = some v → Value.okWide Tryz.prog W .any base t v)
    (hW : DataW.Whole enc Tryz.prog Tryz.f8.params.toList Rows.coreGoneSpec.vars false W args.toList ds gs before)
    (hz : (DataW.weightsEach Tryz.prog (Tryz.f8.params.toList ++ (OpenSpec.ofChange Rows.coreGoneSpec).bare.plain.varTypes Tryz.prog) (ds ++ gs)).all (· ≤ reachBytes) = true)
    (hk : Rows.uptoSmall H (ds ++ gs) = true) (hL : laidMetH Tryz.prog Rows.coreGoneUptoRow.laid W) (hsh : W.ShapedOpen Tryz.prog) :
    Calls Tryz.prog 8 args W fun e W' => ∃ v, e = .returned v ∧ Rows.coreGoneSpec.post enc Tryz.prog Tryz.f8 false true false false W args v W' := by
  have hval : ∀ (j : Nat) t v, Tryz.f8.params[j]? = some t → args[j]? = some v → Value.okWide Tryz.prog W .any base t v := hval0
  have hW' := hW
  obtain ⟨p, q, hA0, hV, rfl, hfz, hnd⟩ := hW
  have hA : DataW.TrodAll enc Tryz.prog W 0 (fun _ => true) true Tryz.f8.params.toList args.toList ds p := hA0
  rw [Tryz.params8] at hA hval hz
  obtain ⟨v0, vs0, d0, ds0, p0, q0, hargs, rfl, rfl, h0, r0⟩ := trodAll_cons hA
  obtain ⟨v1, vs1, d1, ds1, p1, q1, rfl, rfl, rfl, h1, r1⟩ := trodAll_cons r0
  obtain ⟨v2, vs2, d2, ds2, p2, q2, rfl, rfl, rfl, h2, r2⟩ := trodAll_cons r1
  obtain ⟨v3, vs3, d3, ds3, p3, q3, rfl, rfl, rfl, h3, r3⟩ := trodAll_cons r2
  obtain ⟨rfl, rfl, rfl⟩ := trodAll_nil r3
  obtain rfl : args = #[v0, v1, v2, v3] := by cases args; simp_all
  obtain ⟨rfl, rfl⟩ := trodVars_none hV
  have k0 := h0
  have lt0 : ∀ x ∈ p0, x.block < W.heap.size := by obtain ⟨m, hm⟩ := k0; exact DataW.trod_lt m _ _ _ hm
  have k1 := h1
  have lt1 : ∀ x ∈ p1, x.block < W.heap.size := by obtain ⟨m, hm⟩ := k1; exact DataW.trod_lt m _ _ _ hm
  have k2 := h2
  have lt2 : ∀ x ∈ p2, x.block < W.heap.size := by obtain ⟨m, hm⟩ := k2; exact DataW.trod_lt m _ _ _ hm
  have k3 := h3
  have lt3 : ∀ x ∈ p3, x.block < W.heap.size := by obtain ⟨m, hm⟩ := k3; exact DataW.trod_lt m _ _ _ hm
  obtain ⟨C0, A0, c0, l0, rfl, hO0, hn0, hN0⟩ := arg_credit (hval 0 46 v0 rfl rfl) h0 (fits_of hz (j := 0) rfl rfl)
  obtain ⟨A1, c1, l1, rfl, hn1, hd1, hld1⟩ := arg_docs (hval 1 25 v1 rfl rfl) h1 (fits_of hz (j := 1) rfl rfl)
  obtain ⟨x2, rfl, _, _, hx2⟩ := open_int Tryz.underlying3 (hval 2 3 v2 rfl rfl) h2
  obtain ⟨x3, rfl, hx3⟩ := arg_u16 (hval 3 65 v3 rfl rfl) h3 (fits_of hz (j := 3) rfl rfl)
  clear hA0 hval0
  have hb : Rows.uptoBulkAll ([d0, d1, d2, d3] ++ [] : List (DataW H)) ≤ 1048576 := of_decide_eq_true hk
  simp only [List.cons_append, List.nil_append, Rows.uptoBulkAll] at hb
  have hstr : Hid (C0.beneficiary.size ≤ 1048576 ∧ C0.applicant.size ≤ 1048576 ∧ C0.currency.size ≤ 1048576) := Lib.hid (by obtain ⟨e1, e2, e3⟩ := credit_bulk k0; exact ⟨by omega, by omega, by omega⟩)
  have henv : Env W := env_of ⟨rfl, rfl, rfl⟩ hL hsh
  refine (gone_law W C0 (Lib.hid hO0) A0 l0.length c0 l0 (Lib.hid rfl) hn0 (Lib.hid hN0) A1 l1.length c1 l1 (Lib.hid rfl) hn1 (Lib.hid hd1) (Lib.hid hld1) x2 x3 hx3 hstr (Lib.hid henv) (Lib.hid (alike_of rfl hL)) (Lib.hid (calike_of rfl hL))).mono fun e W' ⟨he, bel⟩ => ?_
  subst he
  exact ⟨_, rfl, _, _, _, [], _, [], hW', trodAll_mk1 (shut_bool Tryz.underlying4 _), (trodAll_cons_mk (Below.trod laidOut (by kernel_rfl) (of_decide_eq_true (by kernel_rfl)) k0 bel lt0) (trodAll_cons_mk (Below.trod laidOut (by kernel_rfl) (of_decide_eq_true (by kernel_rfl)) k1 bel lt1) (trodAll_cons_mk (Below.trod laidOut (by kernel_rfl) (of_decide_eq_true (by kernel_rfl)) k2 bel lt2) (trodAll_cons_mk (Below.trod laidOut (by kernel_rfl) (of_decide_eq_true (by kernel_rfl)) k3 bel lt3) trodAll_mk0)))), rfl, bel.frame _, fun h => by cases h⟩

theorem coreGone_laid (os : Os) : laidMetH Tryz.prog Rows.coreGoneUptoRow.laid ((World.laidAll Tryz.prog os Rows.coreGoneUptoRow.laid).forCall (fun _ _ => 0) ⟨#[], #[.agg #[.string ⟨#[]⟩, .string ⟨#[]⟩, .string ⟨#[]⟩, .string ⟨#[]⟩, .string ⟨#[]⟩, .string ⟨#[]⟩, .string ⟨#[]⟩, .string ⟨#[]⟩, .int .i64 0, .int .i64 0, .int .i64 0, .int .i64 0, .int .i64 0, .int .i64 0, .int .i64 0, .bool false, .bool false, .slice none 0 0], .slice none 0 0, .int .i64 0, .int .u16 0], []⟩).memory := by
  rw [MakeChecks.laidMetH_plain _ _ _ (by kernel_rfl)]; exact laidMet_laidAll _ (by kernel_rfl) (by kernel_rfl)

theorem coreGone_read (os : Os) {H : Type} (enc : TypeId × Value → H) : ∃ places, DataW.whole enc Tryz.prog ((World.laidAll Tryz.prog os Rows.coreGoneUptoRow.laid).forCall (fun _ _ => 0) ⟨#[], #[.agg #[.string ⟨#[]⟩, .string ⟨#[]⟩, .string ⟨#[]⟩, .string ⟨#[]⟩, .string ⟨#[]⟩, .string ⟨#[]⟩, .string ⟨#[]⟩, .string ⟨#[]⟩, .int .i64 0, .int .i64 0, .int .i64 0, .int .i64 0, .int .i64 0, .int .i64 0, .int .i64 0, .bool false, .bool false, .slice none 0 0], .slice none 0 0, .int .i64 0, .int .u16 0], []⟩).memory Tryz.f8.params.toList Rows.coreGoneSpec.vars false #[.agg #[.string ⟨#[]⟩, .string ⟨#[]⟩, .string ⟨#[]⟩, .string ⟨#[]⟩, .string ⟨#[]⟩, .string ⟨#[]⟩, .string ⟨#[]⟩, .string ⟨#[]⟩, .int .i64 0, .int .i64 0, .int .i64 0, .int .i64 0, .int .i64 0, .int .i64 0, .int .i64 0, .bool false, .bool false, .slice none 0 0], .slice none 0 0, .int .i64 0, .int .u16 0].toList 8 = some ([.agg [.lit (.string []), .lit (.string []), .lit (.string []), .lit (.string []), .lit (.string []), .lit (.string []), .lit (.string []), .agg [.lit (.string []), .lit (.int .i64 0)], .lit (.int .i64 0), .lit (.int .i64 0), .lit (.int .i64 0), .lit (.int .i64 0), .lit (.int .i64 0), .lit (.int .i64 0), .lit (.bool false), .lit (.bool false), .nil], .nil, .lit (.int .i64 0), .lit (.int .u16 0)], [], places) :=
  ⟨[], by kernel_rfl⟩
set_option maxRecDepth 100000 in
theorem coreGone_lifted (os : Os) (started : os.Started) (H : Type) (enc : TypeId × Value → H) (F : Stop.Interp) :
    ReturnsInHanded {} Tryz.checked os 8 .any ((Rows.OpenSpec.upto Rows.coreGoneSpec).preRow enc Tryz.prog Tryz.f8 Rows.coreGoneUptoRow.domain false Rows.coreGoneUptoRow.laid) (((Rows.OpenSpec.upto Rows.coreGoneSpec).at F).post enc Tryz.prog Tryz.f8 false true false false) := by
  obtain ⟨places, hx⟩ := coreGone_read os enc
  have hok : Input.okWideB Tryz.prog ((World.laidAll Tryz.prog os Rows.coreGoneUptoRow.laid).forCall (fun _ _ => 0) ⟨#[], #[.agg #[.string ⟨#[]⟩, .string ⟨#[]⟩, .string ⟨#[]⟩, .string ⟨#[]⟩, .string ⟨#[]⟩, .string ⟨#[]⟩, .string ⟨#[]⟩, .string ⟨#[]⟩, .int .i64 0, .int .i64 0, .int .i64 0, .int .i64 0, .int .i64 0, .int .i64 0, .int .i64 0, .bool false, .bool false, .slice none 0 0], .slice none 0 0, .int .i64 0, .int .u16 0], []⟩) 8 ⟨#[], #[.agg #[.string ⟨#[]⟩, .string ⟨#[]⟩, .string ⟨#[]⟩, .string ⟨#[]⟩, .string ⟨#[]⟩, .string ⟨#[]⟩, .string ⟨#[]⟩, .string ⟨#[]⟩, .int .i64 0, .int .i64 0, .int .i64 0, .int .i64 0, .int .i64 0, .int .i64 0, .int .i64 0, .bool false, .bool false, .slice none 0 0], .slice none 0 0, .int .i64 0, .int .u16 0], []⟩ = true := by kernel_rfl
  refine returnsInHanded_of_row (C := Tryz.checked) (s := Rows.OpenSpec.upto Rows.coreGoneSpec) own started (by kernel_rfl) Tryz.func8
    ⟨World.laidAll Tryz.prog os Rows.coreGoneUptoRow.laid, fun _ _ => 0, ⟨#[], #[.agg #[.string ⟨#[]⟩, .string ⟨#[]⟩, .string ⟨#[]⟩, .string ⟨#[]⟩, .string ⟨#[]⟩, .string ⟨#[]⟩, .string ⟨#[]⟩, .string ⟨#[]⟩, .int .i64 0, .int .i64 0, .int .i64 0, .int .i64 0, .int .i64 0, .int .i64 0, .int .i64 0, .bool false, .bool false, .slice none 0 0], .slice none 0 0, .int .i64 0, .int .u16 0], []⟩, World.laidAll_os _ _ _, World.shaped_of_ZipB (by kernel_rfl) (by kernel_rfl), (Input.okWide_of_okWideB (base := 0) hok).1, (Input.okWide_of_okWideB hok).2,
      OpenSpec.preRow_of_cond 8 hx (by kernel_rfl) (fun k hk => by cases hk; kernel_rfl) (by kernel_rfl) (coreGone_laid os), by
        simp only [Assume.holds]
        exact ⟨by simp, by simp, fun _ => Modest.zero, by simp, by simp⟩⟩ ?_
  intro W base args ds gs before hval hW _ hcond hz hL hsh _
  exact coreGone_contract H enc W base args ds gs before hval hW hz (hcond _ rfl) hL hsh

end Go.Proofs.YtdjmckjbibfecaaGreatDoor

/-
  For every input the law ExamineMore returns true, and its arguments read afterwards as they read before; the listed variables start as the program's text lays them (the card ties them).
-/
import Derived.Test.YtpnkpnocipkedaaDoorOd
import Derived.Test.YtpnkpnocipkedaaDoorMa
import Derived.Lay
import Derived.LaidMore
import Derived.SevenTiedAt
import Derived.Deep.DeepHandedRow
namespace Go.Proofs.YtpnkpnocipkedaaDoor
open Go.ChangeShapes Go.WideShapes Go.ChangeAt Go.RowKit Go.Joins
open Go.ChangeMaps (open_string shut_string)

section
open Go.Deep
variable {H : Type} {enc : TypeId × Value → H} {W : World} {base : Nat}
set_option maxRecDepth 100000 in
theorem arg_doc {v : Value} {d : DataW H} {p : List MemPlace} (hv : Value.okWide Tryd.prog W .any base 48 v) (h : TrdV enc W 48 v d p) (hf : Fits Tryd.prog 48 d) :
    ∃ (dk : Int) (dn di : ByteArray) (dA : Option Addr) (dc : Nat) (df : List Fld), v = .agg #[.int .i64 dk, .string dn, .string di, .slice dA df.length dc] ∧ PapAt W ⟨dk, dn, di, dA, dc, df⟩ ∧ LongD [(⟨dk, dn, di, dA, dc, df⟩ : Pap)] := by
  obtain ⟨cs, rfl, _⟩ := okWide_struct Tryd.underlying48 hv
  obtain ⟨fuel, h⟩ := h
  simp only [Value.cells] at h
  obtain ⟨m, _, hcl, hfd⟩ := open_strct Tryd.underlying48 h hf
  rw [show Tryd.prog.cellsOf 48 = 4 by kernel_rfl] at hcl
  obtain ⟨y0, t0, f0⟩ := hfd 0 _ rfl
  obtain ⟨y1, t1, f1⟩ := hfd 1 _ rfl
  obtain ⟨y2, t2, f2⟩ := hfd 2 _ rfl
  obtain ⟨y3, t3, f3⟩ := hfd 3 _ rfl
  obtain ⟨k0, e0, g0⟩ := open_int_at Tryd.underlying3 t0
  obtain ⟨s1, e1, g1⟩ := open_str_at Tryd.underlying9 t1 f1
  obtain ⟨s2, e2, g2⟩ := open_str_at Tryd.underlying9 t2 f2
  obtain ⟨fA, fc, fl, e3, g3, g4, g5⟩ := open_flds t3 f3
  obtain ⟨v0, v1, v2, v3, hcs⟩ := len4 hcl
  rw [hcs] at e0 e1 e2 e3
  simp [show Tryd.prog.cellsOf 9 = 1 by kernel_rfl, show Tryd.prog.cellsOf 3 = 1 by kernel_rfl, show Tryd.prog.cellsOf 46 = 1 by kernel_rfl] at e0 e1 e2 e3
  subst e0 e1 e2 e3
  refine ⟨k0, s1, s2, fA, fc, fl, ?_, ⟨g4, g3, i64_of g0⟩, fun d hd f hf => ?_⟩
  · rw [show cs = cs.toList.toArray by simp, hcs]
  · obtain rfl := List.mem_singleton.1 hd
    have := g5 f hf
    unfold reachF at this
    omega
set_option maxRecDepth 100000 in
theorem docs_reach {A : Option Addr} {n cap : Nat} {d : DataW H} {p : List MemPlace} (h : TrdV enc W 25 (.slice A n cap) d p) (hf : Fits Tryd.prog 25 d) : n * 64 ≤ 140737488351232 := by
  obtain ⟨fuel, h⟩ := h
  simp only [Value.cells] at h
  obtain ⟨A', len, cap', q, e, _, _, _, hb, _⟩ := open_row Tryd.underlying25 (by rw [show Tryd.prog.cellsOf 48 = 4 by kernel_rfl]; omega) h hf
  simp at e
  obtain ⟨_, rfl, _⟩ := e
  rw [show Tryd.prog.bytesOf 48 = 64 by kernel_rfl] at hb
  unfold reachBytes at hb
  exact hb
end

set_option maxRecDepth 100000 in
theorem examineMore_contract (H : Type) (enc : TypeId × Value → H) (W : World) (base : Nat) (args : Array Value) (ds gs : List (DataW H)) (before : List MemPlace)
    (hval0 : ∀ (j : Nat) t v, Tryd.f6.params[j]? = some t → args[j]? = some v → Value.okWide Tryd.prog W .any base t v)
    (hW : DataW.Whole enc Tryd.prog Tryd.f6.params.toList Rows.examineMoreSpec.vars false W args.toList ds gs before)
    (hz : (DataW.weightsEach Tryd.prog (Tryd.f6.params.toList ++ (OpenSpec.ofChange Rows.examineMoreSpec).bare.plain.varTypes Tryd.prog) (ds ++ gs)).all (· ≤ reachBytes) = true)
    (hL : laidMetH Tryd.prog Rows.examineMoreRow.laid W) (hsh : W.ShapedOpen Tryd.prog) :
    Calls Tryd.prog 6 args W fun e W' => ∃ v, e = .returned v ∧ Rows.examineMoreSpec.post enc Tryd.prog Tryd.f6 false true false false W args v W' := by
  have hval : ∀ (j : Nat) t v, Tryd.f6.params[j]? = some t → args[j]? = some v → Value.okWide Tryd.prog W .any base t v := hval0
  have hW' := hW
  obtain ⟨p, q, hA0, hV, rfl, hfz, hnd⟩ := hW
  have hA : DataW.TrodAll enc Tryd.prog W 0 (fun _ => true) true Tryd.f6.params.toList args.toList ds p := hA0
  rw [Tryd.params6] at hA hval hz
  obtain ⟨v0, vs0, d0, ds0, p0, q0, hargs, rfl, rfl, h0, r0⟩ := trodAll_cons hA
  obtain ⟨v1, vs1, d1, ds1, p1, q1, rfl, rfl, rfl, h1, r1⟩ := trodAll_cons r0
  obtain ⟨v2, vs2, d2, ds2, p2, q2, rfl, rfl, rfl, h2, r2⟩ := trodAll_cons r1
  obtain ⟨v3, vs3, d3, ds3, p3, q3, rfl, rfl, rfl, h3, r3⟩ := trodAll_cons r2
  obtain ⟨rfl, rfl, rfl⟩ := trodAll_nil r3
  obtain rfl : args = #[v0, v1, v2, v3] := by cases args; simp_all
  obtain ⟨rfl, rfl⟩ := trodVars_none hV
  have k0 := h0
  have lt0 : ∀ x ∈ p0, x.block < W.heap.size := by obtain ⟨m, hm⟩ := k0; exact DataW.trod_lt m _ _ _ hm
  have k1 := h1
  have lt1 : ∀ x ∈ p1, x.block < W.heap.size := by obtain ⟨m, hm⟩ := k1; exact DataW.trod_lt m _ _ _ hm
  have k2 := h2
  have lt2 : ∀ x ∈ p2, x.block < W.heap.size := by obtain ⟨m, hm⟩ := k2; exact DataW.trod_lt m _ _ _ hm
  have k3 := h3
  have lt3 : ∀ x ∈ p3, x.block < W.heap.size := by obtain ⟨m, hm⟩ := k3; exact DataW.trod_lt m _ _ _ hm
  obtain ⟨C0, A0, c0, l0, rfl, hO0, hn0, hN0⟩ := arg_credit (hval 0 32 v0 rfl rfl) h0 (fits_of hz (j := 0) rfl rfl)
  obtain ⟨A1, c1, l1, rfl, hn1, hd1, hld1⟩ := arg_docs (hval 1 25 v1 rfl rfl) h1 (fits_of hz (j := 1) rfl rfl)
  obtain ⟨dk2, dn2, di2, dA2, dc2, df2, rfl, hP2, hLP2⟩ := arg_doc (hval 2 48 v2 rfl rfl) h2 (fits_of hz (j := 2) rfl rfl)
  obtain ⟨x3, rfl, _, _, hx3⟩ := open_int Tryd.underlying3 (hval 3 3 v3 rfl rfl) h3
  clear hA0 hval0
  have hre := docs_reach h1 (fits_of hz (j := 1) rfl rfl)
  have henv : Env W := env_of hL hsh
  refine (more_law W C0 hO0 A0 l0.length c0 l0 rfl hn0 hN0 A1 l1.length c1 l1 rfl hre hd1 hld1 dk2 dn2 di2 dA2 dc2 df2 hP2 hLP2 x3 (i64_arg hx3) henv).mono fun e W' ⟨he, bel⟩ => ?_
  subst he
  exact ⟨_, rfl, _, _, _, [], _, [], hW', trodAll_mk1 (shut_bool Tryd.underlying4 _), (trodAll_cons_mk (Below.trod laidOut (by kernel_rfl) (of_decide_eq_true (by kernel_rfl)) k0 bel lt0) (trodAll_cons_mk (Below.trod laidOut (by kernel_rfl) (of_decide_eq_true (by kernel_rfl)) k1 bel lt1) (trodAll_cons_mk (Below.trod laidOut (by kernel_rfl) (of_decide_eq_true (by kernel_rfl)) k2 bel lt2) (trodAll_cons_mk (Below.trod laidOut (by kernel_rfl) (of_decide_eq_true (by kernel_rfl)) k3 bel lt3) trodAll_mk0)))), rfl, bel.frame _, fun h => by cases h⟩

theorem examineMore_laid (os : Os) : laidMetH Tryd.prog Rows.examineMoreRow.laid ((World.laidAll Tryd.prog os Rows.examineMoreRow.laid).forCall (fun _ _ => 0) ⟨#[], #[.agg #[.string ⟨#[]⟩, .string ⟨#[]⟩, .string ⟨#[]⟩, .string ⟨#[]⟩, .string ⟨#[]⟩, .string ⟨#[]⟩, .string ⟨#[]⟩, .string ⟨#[]⟩, .int .i64 0, .int .i64 0, .int .i64 0, .int .i64 0, .int .i64 0, .int .i64 0, .int .i64 0, .bool false, .bool false, .slice none 0 0], .slice none 0 0, .agg #[.int .i64 0, .string ⟨#[]⟩, .string ⟨#[]⟩, .slice none 0 0], .int .i64 0], []⟩).memory := by
  rw [MakeChecks.laidMetH_plain _ _ _ (by kernel_rfl)]; exact laidMet_laidAll _ (by kernel_rfl) (by kernel_rfl)

set_option maxRecDepth 100000 in
theorem examineMore_lifted (os : Os) (started : os.Started) (H : Type) (enc : TypeId × Value → H) (F : Stop.Interp) :
    ReturnsInHanded {} Tryd.checked os 6 .any ((OpenSpec.ofChange Rows.examineMoreSpec).preRow enc Tryd.prog Tryd.f6 Rows.examineMoreRow.domain false Rows.examineMoreRow.laid) (((OpenSpec.ofChange Rows.examineMoreSpec).at F).post enc Tryd.prog Tryd.f6 false true false false) := by
  refine returnsInHanded_of_row (C := Tryd.checked) (s := OpenSpec.ofChange Rows.examineMoreSpec) own started (by kernel_rfl) Tryd.func6
    (ChangeSpec.witness_shaped (enc := enc) (C := Tryd.checked) (os := os) (X := fun w _ => laidMetH Tryd.prog Rows.examineMoreRow.laid w) false (World.laidAll Tryd.prog os Rows.examineMoreRow.laid) #[.agg #[.string ⟨#[]⟩, .string ⟨#[]⟩, .string ⟨#[]⟩, .string ⟨#[]⟩, .string ⟨#[]⟩, .string ⟨#[]⟩, .string ⟨#[]⟩, .string ⟨#[]⟩, .int .i64 0, .int .i64 0, .int .i64 0, .int .i64 0, .int .i64 0, .int .i64 0, .int .i64 0, .bool false, .bool false, .slice none 0 0], .slice none 0 0, .agg #[.int .i64 0, .string ⟨#[]⟩, .string ⟨#[]⟩, .slice none 0 0], .int .i64 0] 8 (World.laidAll_os _ _ _)
      (World.shaped_of_ZipB (by kernel_rfl) (by kernel_rfl)) (by kernel_rfl) (by kernel_rfl) (by kernel_rfl) (examineMore_laid os)) ?_
  intro W base args ds gs before hval hW _ _ hz hL hsh _
  exact examineMore_contract H enc W base args ds gs before hval hW hz hL hsh

theorem examineMore_said : Rows.ExamineMoreSaid :=
  OpenClaim.holds_of_cond 6 Tryd.f6 rfl rfl rfl rfl rfl rfl rfl ⟨rfl, rfl, rfl, rfl, rfl⟩ rfl rfl rfl rfl rfl (by kernel_rfl) Tryd.func6 (by kernel_rfl)
    (of_decide_eq_true (by kernel_rfl)) (by unfold Func.isWrapper; first | (rw [if_pos (by decide +kernel)]; kernel_rfl) | (rw [if_neg (by decide +kernel)]; exact ⟨rfl, rfl⟩))
    (fun os started H enc _ F => by rw [OpenClaim.pre_eq_preRow]; exact examineMore_lifted os started H enc F)

theorem examineMore_plain (f : FuncId) (fn : Func) (hf : Tryd.pinned.checked.prog.funcNamed "supercargo/supercargolaw31.ExamineMore" = some f) (hfn : Tryd.pinned.checked.prog.funcs[f]? = some fn) :
    true = Tryd.pinned.checked.prog.looks [] ∧ ∀ (j : Nat) t, fn.params[j]? = some t → Tryd.pinned.checked.prog.wantsStandIn t = false := by
  obtain rfl : f = 6 := Option.some.inj ((show Tryd.prog.funcNamed "supercargo/supercargolaw31.ExamineMore" = some 6 by kernel_rfl).symm.trans hf) |>.symm
  obtain rfl : fn = Tryd.f6 := (Option.some.inj (Tryd.func6.symm.trans hfn)).symm
  refine ⟨by kernel_rfl, fun j t ht => ?_⟩
  rw [Tryd.params6] at ht
  have hm := Array.mem_of_getElem? ht
  simp only [List.mem_toArray, List.mem_cons, List.not_mem_nil, or_false] at hm
  rcases hm with rfl | rfl | rfl | rfl
  all_goals (show Tryd.prog.wantsStandIn _ = false; kernel_rfl)

theorem examineMore_card : Rows.ExamineMoreCardSaid :=
  Claim7.holds_tied_plain_at .later [] _ _ _ _ examineMore_said (fun _ h => by cases h) (by kernel_rfl) (fun _ h => by cases h) examineMore_row_tie rfl ⟨rfl, rfl⟩ (by kernel_rfl) rfl examineMore_plain (by kernel_rfl)
#print axioms examineMore_card

end Go.Proofs.YtpnkpnocipkedaaDoor

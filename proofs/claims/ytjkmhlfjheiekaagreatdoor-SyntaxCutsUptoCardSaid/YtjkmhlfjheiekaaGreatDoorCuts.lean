/-
 For every input the law SyntaxCuts returns true, where what it reads is of bulk at most 1048576, and its arguments read afterwards as they read before; the listed variables start as the program's text lays them (the card ties them).
-/
import Derived.Lay
import Derived.LaidMore
import Derived.SevenTiedAt
import Derived.Deep.DeepHandedRow
import Derived.Test.YtjkmhlfjheiekaaGreatDoorOr
import Derived.Test.YtjkmhlfjheiekaaGreatDoorQj
set_option maxRecDepth 1000000
set_option maxHeartbeats 51200000
namespace Go.Proofs.YtjkmhlfjheiekaaGreatDoor
open Go.ChangeShapes Go.WideShapes Go.ChangeAt Go.RowKit Go.Joins
open Go.ChangeMaps (open_string shut_string)
theorem syntaxCuts_contract (H : Type) (enc : TypeId × Value → H) (W : World) (base : Nat) (args : Array Value) (ds gs : List (DataW H)) (before : List MemPlace)
  (hval0 : ∀ (j : Nat) t v, Tryz.f9.params[j]? = some t → args[j]? = some v → Value.okWide Tryz.prog W .any base t v)
  (hW : DataW.Whole enc Tryz.prog Tryz.f9.params.toList Rows.syntaxCutsSpec.vars false W args.toList ds gs before)
  (hz : (DataW.weightsEach Tryz.prog (Tryz.f9.params.toList ++ (OpenSpec.ofChange Rows.syntaxCutsSpec).bare.plain.varTypes Tryz.prog) (ds ++ gs)).all (· ≤ reachBytes) = true)
  (hk : Rows.uptoSmall H (ds ++ gs) = true) (hL : laidMetH Tryz.prog Rows.syntaxCutsUptoRow.laid W) (hsh : W.ShapedOpen Tryz.prog) :
  Cz 9 args W fun e W' => ∃ v, e = .returned v ∧ Rows.syntaxCutsSpec.post enc Tryz.prog Tryz.f9 false true false false W args v W' := by
 have hval : ∀ (j : Nat) t v, Tryz.f9.params[j]? = some t → args[j]? = some v → Value.okWide Tryz.prog W .any base t v := hval0
 have hW' := hW
 obtain ⟨p, q, hA0, hV, rfl, hfz, hnd⟩ := hW
 have hA : DataW.TrodAll enc Tryz.prog W 0 (fun _ => true) true Tryz.f9.params.toList args.toList ds p := hA0
 rw [Tryz.params9] at hA hval hz
 obtain ⟨v0, vs0, d0, ds0, p0, q0, hargs, rfl, rfl, h0, r0⟩ := trodAll_cons hA
 obtain ⟨v1, vs1, d1, ds1, p1, q1, rfl, rfl, rfl, h1, r1⟩ := trodAll_cons r0
 obtain ⟨rfl, rfl, rfl⟩ := trodAll_nil r1
 obtain rfl : args = #[v0, v1] := by cases args; simp_all
 obtain ⟨rfl, rfl⟩ := trodVars_none hV
 have k0 := h0
 have lt0 : ∀ x ∈ p0, x.block < W.heap.size := by obtain ⟨m, hm⟩ := k0; exact DataW.trod_lt m _ _ _ hm
 have k1 := h1
 have lt1 : ∀ x ∈ p1, x.block < W.heap.size := by obtain ⟨m, hm⟩ := k1; exact DataW.trod_lt m _ _ _ hm
 obtain ⟨C0, A0, c0, l0, rfl, hn0, hN0, hsx0, hzx0⟩ := arg_creditb (hval 0 41 v0 rfl rfl) h0 (fits_of hz (j := 0) rfl rfl)
 obtain ⟨x1, rfl, _, _, hx1⟩ := open_int Tryz.underlying3 (hval 1 3 v1 rfl rfl) h1
 clear hA0 hval0
 have hb : Rows.uptoBulkAll ([d0, d1] ++ [] : List (DataW H)) ≤ 1048576 := of_decide_eq_true hk
 simp only [List.cons_append, List.nil_append, Rows.uptoBulkAll] at hb
 have hz0 : ∀ x ∈ l0, szR (stz x.rule) ≤ 100000000 := fun x hx => by have := hzx0 x hx; omega
 have hs0 : C0.short := fun x hx => by have := hsx0 x hx; omega
 have henv : Env W := env_of hL hsh
 refine (cuts_law _ C0 A0 l0.length c0 l0 anyB x1 W (hdZ henv) (hdZ rfl) (hdZ hs0) hn0 (hdZ rfl) (hdZ hN0) (hdZ hz0)).mono fun e W' ⟨he, bel⟩ => ?_
 subst he
 exact ⟨_, rfl, _, _, _, [], _, [], hW', trodAll_mk1 (shut_bool Tryz.underlying4 _), (trodAll_cons_mk (Below.trod laidOut (by kernel_rfl) (of_decide_eq_true (by kernel_rfl)) k0 bel lt0) (trodAll_cons_mk (Below.trod laidOut (by kernel_rfl) (of_decide_eq_true (by kernel_rfl)) k1 bel lt1) trodAll_mk0)), rfl, bel.frame _, fun h => by cases h⟩
theorem syntaxCuts_laid (os : Os) : laidMetH Tryz.prog Rows.syntaxCutsUptoRow.laid ((World.laidAll Tryz.prog os Rows.syntaxCutsUptoRow.laid).forCall (fun _ _ => 0) ⟨#[], #[.agg (z8z 0 0 0 0 0 0 0 false false none 0 0), .int .i64 0], []⟩).memory := by
 rw [MakeChecks.laidMetH_plain _ _ _ (by kernel_rfl)]; exact laidMet_laidAll _ (by kernel_rfl) (by kernel_rfl)
theorem syntaxCuts_read (os : Os) {H : Type} (enc : TypeId × Value → H) : ∃ places, DataW.whole enc Tryz.prog ((World.laidAll Tryz.prog os Rows.syntaxCutsUptoRow.laid).forCall (fun _ _ => 0) ⟨#[], #[.agg (z8z 0 0 0 0 0 0 0 false false none 0 0), .int .i64 0], []⟩).memory Tryz.f9.params.toList Rows.syntaxCutsSpec.vars false #[.agg (z8z 0 0 0 0 0 0 0 false false none 0 0), .int .i64 0].toList 8 = some ([.agg [.lit (.string []), .lit (.string []), .lit (.string []), .lit (.string []), .lit (.string []), .lit (.string []), .lit (.string []), .agg [.lit (.string []), .lit (.int .i64 0)], .lit (.int .i64 0), .lit (.int .i64 0), .lit (.int .i64 0), .lit (.int .i64 0), .lit (.int .i64 0), .lit (.int .i64 0), .lit (.bool false), .lit (.bool false), .nil], .lit (.int .i64 0)], [], places) :=
 ⟨[], by kernel_rfl⟩
theorem syntaxCuts_lifted (os : Os) (started : os.Started) (H : Type) (enc : TypeId × Value → H) (F : Stop.Interp) :
  ReturnsInHanded {} Tryz.checked os 9 .any ((Rows.OpenSpec.upto Rows.syntaxCutsSpec).preRow enc Tryz.prog Tryz.f9 Rows.syntaxCutsUptoRow.domain false Rows.syntaxCutsUptoRow.laid) (((Rows.OpenSpec.upto Rows.syntaxCutsSpec).at F).post enc Tryz.prog Tryz.f9 false true false false) := by
 obtain ⟨places, hx⟩ := syntaxCuts_read os enc
 have hok : Input.okWideB Tryz.prog ((World.laidAll Tryz.prog os Rows.syntaxCutsUptoRow.laid).forCall (fun _ _ => 0) ⟨#[], #[.agg (z8z 0 0 0 0 0 0 0 false false none 0 0), .int .i64 0], []⟩) 9 ⟨#[], #[.agg (z8z 0 0 0 0 0 0 0 false false none 0 0), .int .i64 0], []⟩ = true := by kernel_rfl
 refine returnsInHanded_of_row (C := Tryz.checked) (s := Rows.OpenSpec.upto Rows.syntaxCutsSpec) own started (by kernel_rfl) Tryz.func9
  ⟨World.laidAll Tryz.prog os Rows.syntaxCutsUptoRow.laid, fun _ _ => 0, ⟨#[], #[.agg (z8z 0 0 0 0 0 0 0 false false none 0 0), .int .i64 0], []⟩, World.laidAll_os _ _ _, World.shaped_of_ZipB (by kernel_rfl) (by kernel_rfl), (Input.okWide_of_okWideB (base := 0) hok).1, (Input.okWide_of_okWideB hok).2,
   OpenSpec.preRow_of_cond 8 hx (by kernel_rfl) (fun k hk => by cases hk; kernel_rfl) (by kernel_rfl) (syntaxCuts_laid os), by
    simp only [Assume.holds]; exact ⟨by simp, by simp, fun _ => Modest.zero, by simp, by simp⟩⟩ ?_
 intro W base args ds gs before hval hW _ hcond hz hL hsh _
 exact syntaxCuts_contract H enc W base args ds gs before hval hW hz (hcond _ rfl) hL hsh
theorem syntaxCuts_said : Rows.SyntaxCutsUptoSaid :=
 OpenClaim.holds_of_cond 9 Tryz.f9 rfl rfl rfl rfl rfl rfl rfl ⟨rfl, rfl, rfl, rfl, rfl⟩ rfl rfl rfl rfl rfl (by kernel_rfl) Tryz.func9 (by kernel_rfl)
  (of_decide_eq_true (by kernel_rfl)) (by unfold Func.isWrapper; first | (rw [if_pos (by decide +kernel)]; kernel_rfl) | (rw [if_neg (by decide +kernel)]; exact ⟨rfl, rfl⟩))
  (fun os started H enc _ F => by rw [OpenClaim.pre_eq_preRow]; exact syntaxCuts_lifted os started H enc F)
theorem syntaxCuts_plain (f : FuncId) (fn : Func) (hf : Tryz.pinned.checked.prog.funcNamed "supercargo/supercargolaw28.SyntaxCuts" = some f) (hfn : Tryz.pinned.checked.prog.funcs[f]? = some fn) :
  true = Tryz.pinned.checked.prog.looks [] ∧ ∀ (j : Nat) t, fn.params[j]? = some t → Tryz.pinned.checked.prog.wantsStandIn t = false := by
 obtain rfl : f = 9 := Option.some.inj ((show Tryz.prog.funcNamed "supercargo/supercargolaw28.SyntaxCuts" = some 9 by kernel_rfl).symm.trans hf) |>.symm
 obtain rfl : fn = Tryz.f9 := (Option.some.inj (Tryz.func9.symm.trans hfn)).symm
 refine ⟨by kernel_rfl, fun j t ht => ?_⟩
 rw [Tryz.params9] at ht
 have hm := Array.mem_of_getElem? ht
 simp only [List.mem_toArray, List.mem_cons, List.not_mem_nil, or_false] at hm
 rcases hm with rfl | rfl
 all_goals (show Tryz.prog.wantsStandIn _ = false; kernel_rfl)
theorem syntaxCuts_card : Rows.SyntaxCutsUptoCardSaid :=
 Claim7.holds_tied_plain_at .later [] _ _ _ _ syntaxCuts_said (fun _ h => by cases h) (by kernel_rfl) (fun _ h => by cases h) syntaxCutsUpto_row_tie rfl ⟨rfl, rfl⟩ (by kernel_rfl) rfl syntaxCuts_plain (by kernel_rfl)
#print axioms syntaxCuts_card
end Go.Proofs.YtjkmhlfjheiekaaGreatDoor

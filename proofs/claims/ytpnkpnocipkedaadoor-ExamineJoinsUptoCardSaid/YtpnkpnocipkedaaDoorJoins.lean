/-
  For every input the law ExamineJoins returns true, where what it reads is of bulk at most 1048576, and its arguments read afterwards as they read before; the listed variables start as the program's text lays them (the card ties them).
-/
import Derived.Test.YtpnkpnocipkedaaDoorOd
import Derived.Test.YtpnkpnocipkedaaDoorJa
import Derived.Lay
import Derived.LaidMore
import Derived.SevenTiedAt
import Derived.Deep.DeepHandedRow
namespace Go.Proofs.YtpnkpnocipkedaaDoor
open Go.ChangeShapes Go.WideShapes Go.ChangeAt Go.RowKit Go.Joins
open Go.ChangeMaps (open_string shut_string)

/-- What is read of a slice of faults is small where its bulk is. -/
theorem bulk_one {H : Type} (d : DataW H) : 1 ≤ Rows.uptoBulk d := by
  cases d with
  | lit l => cases l <;> simp [Rows.uptoBulk]
  | nil => simp [Rows.uptoBulk]
  | ptr d => simp [Rows.uptoBulk]
  | slice elems spare => simp [Rows.uptoBulk]
  | agg parts => simp [Rows.uptoBulk]
  | iface t d => simp [Rows.uptoBulk]
  | map entries => simp [Rows.uptoBulk]
  | held h => simp [Rows.uptoBulk]
theorem bulk_part {H : Type} {d : DataW H} {l : List (DataW H)} (h : d ∈ l) : Rows.uptoBulk d ≤ Rows.uptoBulkAll l := by
  induction l with
  | nil => cases h
  | cons x r ih =>
    simp only [Rows.uptoBulkAll]
    cases List.mem_cons.1 h with
    | inl e => subst e; omega
    | inr e => have := ih e; omega
set_option maxRecDepth 100000 in
theorem small_of {H : Type} {enc : TypeId × Value → H} {W : World} {A : Option Addr} {c : Nat} {l : List Flt} {d : DataW H} {p : List MemPlace} (h : TrdV enc W 38 (.slice A l.length c) d p) (hA : FaultsAt W A l) (hfit : ∀ x ∈ l, x.fits) (hb : Rows.uptoBulk d ≤ 1048576) : smallF l := by
  intro x hx
  obtain ⟨f1, _, _, _⟩ := hfit x hx
  have hp := i64_of f1
  refine ⟨hp.1, hp.2, ?_⟩
  obtain ⟨k, hk⟩ := List.mem_iff_getElem?.1 hx
  have hkl := (List.getElem?_eq_some_iff.1 hk).1
  obtain ⟨b, off, rfl, _, _, h2, _⟩ := hA k x hk
  obtain ⟨fuel, hf⟩ := h
  rcases open_slice_fields Tryd.underlying38 Tryd.underlying40 (by kernel_rfl) (by kernel_rfl) hf with ⟨hcs, _⟩ | ⟨a, len, cap, m, D, Pl, hcs, _, hl, _, hmm, hd, hi⟩
  · simp [Value.cells] at hcs
  · simp [Value.cells] at hcs
    obtain ⟨rfl, rfl, rfl⟩ := hcs
    simp only [if_true] at hmm
    subst hmm
    obtain ⟨ys, q, hD, _, _, hfd⟩ := hi k (by omega)
    obtain ⟨v2, y2, hc2, hy2, ht2⟩ := hfd 2 _ rfl
    obtain ⟨s2, e2, e3, _⟩ := DataW.trod_string Tryd.underlying9 ht2
    have hadd : Addr.add ⟨b, off, none⟩ (k * 4 + 2) = ⟨b, off + k * 4 + 2, none⟩ := by unfold Addr.add; split <;> simp_all [Nat.add_assoc]
    have hsz4 : (Tryd.prog.cellsOf 40) = 4 := by kernel_rfl
    have hc2' : W.cell? ⟨b, off + k * 4 + 2, none⟩ = some v2 := by rw [← hadd]; exact hc2
    rw [h2] at hc2'
    simp at e2
    subst e2
    have es : x.field = s2 := by simpa using hc2'
    have hm1 : (DataW.lit (.string s2.data.toList) : DataW H) ∈ ys.map (·.1) := List.mem_map.2 ⟨y2, List.mem_of_getElem? hy2, by rw [e3]⟩
    have hb1 := bulk_part hm1
    have hm2 : D k ∈ (List.range l.length).map D := List.mem_map.2 ⟨k, by simpa using hkl, rfl⟩
    have hb2 := bulk_part hm2
    have ed : d = _ := congrArg Prod.fst hd
    rw [ed] at hb
    rw [hD] at hb2
    simp only [Rows.uptoBulk] at hb hb1 hb2
    rw [es]
    have : s2.data.toList.length = s2.size := Array.length_toList
    omega

set_option maxRecDepth 100000 in
theorem examineJoins_contract (H : Type) (enc : TypeId × Value → H) (W : World) (base : Nat) (args : Array Value) (ds gs : List (DataW H)) (before : List MemPlace)
    (hval0 : ∀ (j : Nat) t v, Tryd.f11.params[j]? = some t → args[j]? = some v → Value.okWide Tryd.prog W .any base t v)
    (hW : DataW.Whole enc Tryd.prog Tryd.f11.params.toList Rows.examineJoinsSpec.vars false W args.toList ds gs before)
    (hz : (DataW.weightsEach Tryd.prog (Tryd.f11.params.toList ++ (OpenSpec.ofChange Rows.examineJoinsSpec).bare.plain.varTypes Tryd.prog) (ds ++ gs)).all (· ≤ reachBytes) = true)
    (hk : Rows.uptoSmall H (ds ++ gs) = true) (hL : laidMetH Tryd.prog Rows.examineJoinsUptoRow.laid W) (hsh : W.ShapedOpen Tryd.prog) :
    Calls Tryd.prog 11 args W fun e W' => ∃ v, e = .returned v ∧ Rows.examineJoinsSpec.post enc Tryd.prog Tryd.f11 false true false false W args v W' := by
  have hval : ∀ (j : Nat) t v, Tryd.f11.params[j]? = some t → args[j]? = some v → Value.okWide Tryd.prog W .any base t v := hval0
  have hW' := hW
  obtain ⟨p, q, hA0, hV, rfl, hfz, hnd⟩ := hW
  have hA : DataW.TrodAll enc Tryd.prog W 0 (fun _ => true) true Tryd.f11.params.toList args.toList ds p := hA0
  rw [Tryd.params11] at hA hval hz
  obtain ⟨v0, vs0, d0, ds0, p0, q0, hargs, rfl, rfl, h0, r0⟩ := trodAll_cons hA
  obtain ⟨v1, vs1, d1, ds1, p1, q1, rfl, rfl, rfl, h1, r1⟩ := trodAll_cons r0
  obtain ⟨rfl, rfl, rfl⟩ := trodAll_nil r1
  obtain rfl : args = #[v0, v1] := by cases args; simp_all
  obtain ⟨rfl, rfl⟩ := trodVars_none hV
  have k0 := h0
  have lt0 : ∀ x ∈ p0, x.block < W.heap.size := by obtain ⟨m, hm⟩ := k0; exact DataW.trod_lt m _ _ _ hm
  have k1 := h1
  have lt1 : ∀ x ∈ p1, x.block < W.heap.size := by obtain ⟨m, hm⟩ := k1; exact DataW.trod_lt m _ _ _ hm
  obtain ⟨A0, c0, l0, rfl, hn0, hf0, hfl0⟩ := arg_faults (hval 0 38 v0 rfl rfl) h0 (fits_of hz (j := 0) rfl rfl)
  obtain ⟨A1, c1, l1, rfl, hn1, hf1, hfl1⟩ := arg_faults (hval 1 38 v1 rfl rfl) h1 (fits_of hz (j := 1) rfl rfl)
  clear hA0 hval0
  obtain ⟨hsm0, hsm1⟩ : smallF l0 ∧ smallF l1 := by
    have hb : Rows.uptoBulkAll ([d0, d1] ++ [] : List (DataW H)) ≤ 1048576 := of_decide_eq_true hk
    simp only [List.cons_append, List.nil_append, Rows.uptoBulkAll] at hb
    exact ⟨small_of h0 hf0 hfl0 (by omega), small_of h1 hf1 hfl1 (by omega)⟩
  have henv : Env W := env_of hL hsh
  refine (joins_law A0 l0.length c0 l0 A1 l1.length c1 l1 W hn0 hn1 rfl rfl hf0 hf1 hsm0 hsm1 henv).mono fun e W' ⟨he, bel⟩ => ?_
  subst he
  exact ⟨_, rfl, _, _, _, [], _, [], hW', trodAll_mk1 (shut_bool Tryd.underlying4 _), (trodAll_cons_mk (Below.trod laidOut (by kernel_rfl) (of_decide_eq_true (by kernel_rfl)) k0 bel lt0) (trodAll_cons_mk (Below.trod laidOut (by kernel_rfl) (of_decide_eq_true (by kernel_rfl)) k1 bel lt1) trodAll_mk0)), rfl, bel.frame _, fun h => by cases h⟩

theorem examineJoins_laid (os : Os) : laidMetH Tryd.prog Rows.examineJoinsUptoRow.laid ((World.laidAll Tryd.prog os Rows.examineJoinsUptoRow.laid).forCall (fun _ _ => 0) ⟨#[], #[.slice none 0 0, .slice none 0 0], []⟩).memory := by
  rw [MakeChecks.laidMetH_plain _ _ _ (by kernel_rfl)]; exact laidMet_laidAll _ (by kernel_rfl) (by kernel_rfl)

theorem examineJoins_read (os : Os) {H : Type} (enc : TypeId × Value → H) : ∃ places, DataW.whole enc Tryd.prog ((World.laidAll Tryd.prog os Rows.examineJoinsUptoRow.laid).forCall (fun _ _ => 0) ⟨#[], #[.slice none 0 0, .slice none 0 0], []⟩).memory Tryd.f11.params.toList Rows.examineJoinsSpec.vars false #[Value.slice none 0 0, .slice none 0 0].toList 8 = some ([.nil, .nil], [], places) :=
  ⟨[], by kernel_rfl⟩
set_option maxRecDepth 100000 in
theorem examineJoins_lifted (os : Os) (started : os.Started) (H : Type) (enc : TypeId × Value → H) (F : Stop.Interp) :
    ReturnsInHanded {} Tryd.checked os 11 .any ((Rows.OpenSpec.upto Rows.examineJoinsSpec).preRow enc Tryd.prog Tryd.f11 Rows.examineJoinsUptoRow.domain false Rows.examineJoinsUptoRow.laid) (((Rows.OpenSpec.upto Rows.examineJoinsSpec).at F).post enc Tryd.prog Tryd.f11 false true false false) := by
  obtain ⟨places, hx⟩ := examineJoins_read os enc
  have hok : Input.okWideB Tryd.prog ((World.laidAll Tryd.prog os Rows.examineJoinsUptoRow.laid).forCall (fun _ _ => 0) ⟨#[], #[.slice none 0 0, .slice none 0 0], []⟩) 11 ⟨#[], #[.slice none 0 0, .slice none 0 0], []⟩ = true := by kernel_rfl
  refine returnsInHanded_of_row (C := Tryd.checked) (s := Rows.OpenSpec.upto Rows.examineJoinsSpec) own started (by kernel_rfl) Tryd.func11
    ⟨World.laidAll Tryd.prog os Rows.examineJoinsUptoRow.laid, fun _ _ => 0, ⟨#[], #[.slice none 0 0, .slice none 0 0], []⟩, World.laidAll_os _ _ _, World.shaped_of_ZipB (by kernel_rfl) (by kernel_rfl), (Input.okWide_of_okWideB (base := 0) hok).1, (Input.okWide_of_okWideB hok).2,
      OpenSpec.preRow_of_cond 8 hx (by kernel_rfl) (fun k hk => by cases hk; kernel_rfl) (by kernel_rfl) (examineJoins_laid os), by
        simp only [Assume.holds]
        exact ⟨by simp, by simp, fun _ => Modest.zero, by simp, by simp⟩⟩ ?_
  intro W base args ds gs before hval hW _ hcond hz hL hsh _
  exact examineJoins_contract H enc W base args ds gs before hval hW hz (hcond _ rfl) hL hsh

theorem examineJoins_said : Rows.ExamineJoinsUptoSaid :=
  OpenClaim.holds_of_cond 11 Tryd.f11 rfl rfl rfl rfl rfl rfl rfl ⟨rfl, rfl, rfl, rfl, rfl⟩ rfl rfl rfl rfl rfl (by kernel_rfl) Tryd.func11 (by kernel_rfl)
    (of_decide_eq_true (by kernel_rfl)) (by unfold Func.isWrapper; first | (rw [if_pos (by decide +kernel)]; kernel_rfl) | (rw [if_neg (by decide +kernel)]; exact ⟨rfl, rfl⟩))
    (fun os started H enc _ F => by rw [OpenClaim.pre_eq_preRow]; exact examineJoins_lifted os started H enc F)

theorem examineJoins_plain (f : FuncId) (fn : Func) (hf : Tryd.pinned.checked.prog.funcNamed "supercargo/supercargolaw31.ExamineJoins" = some f) (hfn : Tryd.pinned.checked.prog.funcs[f]? = some fn) :
    true = Tryd.pinned.checked.prog.looks [] ∧ ∀ (j : Nat) t, fn.params[j]? = some t → Tryd.pinned.checked.prog.wantsStandIn t = false := by
  obtain rfl : f = 11 := Option.some.inj ((show Tryd.prog.funcNamed "supercargo/supercargolaw31.ExamineJoins" = some 11 by kernel_rfl).symm.trans hf) |>.symm
  obtain rfl : fn = Tryd.f11 := (Option.some.inj (Tryd.func11.symm.trans hfn)).symm
  refine ⟨by kernel_rfl, fun j t ht => ?_⟩
  rw [Tryd.params11] at ht
  have hm := Array.mem_of_getElem? ht
  simp only [List.mem_toArray, List.mem_cons, List.not_mem_nil, or_false] at hm
  rcases hm with rfl | rfl
  all_goals (show Tryd.prog.wantsStandIn _ = false; kernel_rfl)

theorem examineJoins_card : Rows.ExamineJoinsUptoCardSaid :=
  Claim7.holds_tied_plain_at .later [] _ _ _ _ examineJoins_said (fun _ h => by cases h) (by kernel_rfl) (fun _ h => by cases h) examineJoinsUpto_row_tie rfl ⟨rfl, rfl⟩ (by kernel_rfl) rfl examineJoins_plain (by kernel_rfl)
#print axioms examineJoins_card

end Go.Proofs.YtpnkpnocipkedaaDoor

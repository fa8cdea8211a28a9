/- The law's awake, walked. -/
import Derived.Test.YtdjmckjbibfecaaGreatDoorVi
namespace Go.Proofs.YtdjmckjbibfecaaGreatDoor
open Go Go.RowKit Go.BigFrame Go.Maps

def treeA (A1 : Option Addr) : Tree := .mk 1 0 ⟨#[]⟩ ⟨#[]⟩ 0 A1 2 [.mk 3 0 ⟨#[97]⟩ ⟨#[120]⟩ 0 none 0 [], .mk 3 0 ⟨#[98]⟩ ⟨#[121]⟩ 0 none 0 []]
def treeN (A2 : Option Addr) : Tree := .mk 2 0 ⟨#[]⟩ ⟨#[]⟩ 0 A2 1 [.mk 3 0 ⟨#[97]⟩ ⟨#[122]⟩ 0 none 0 []]
theorem cores_A (b : Option Addr) (fc : Nat) (A1 : Option Addr) : coresE [papz b fc] (treeA A1) 0 = [[0, 1]] := by kernel_rfl
theorem cores_N (b : Option Addr) (fc : Nat) (A2 : Option Addr) : coresE [papz b fc] (treeN A2) 0 = [[0]] := by kernel_rfl
theorem room_z {w : World} {g : Nat} {b : Option Addr} {fc : Nat} (he : Env w) (hd : DocsAt w (some ⟨g, 0, none⟩) [papz b fc]) : Room w (some ⟨g, 0, none⟩) 1 [papz b fc] :=
  ⟨rfl, by omega, hd, he, fun d hd f hf => by
    obtain rfl := List.mem_singleton.1 hd
    obtain rfl := List.mem_singleton.1 hf
    exact Nat.le_of_lt (by decide)⟩
theorem call_A (W : World) (v : Value) (A1 : Option Addr) (he : Env W) (hT : TreeAt W (treeA A1)) (hp : PapZ v W) : Calls Tryz.prog 13 #[.agg (treeA A1).cells, v, .int .i64 0] W fun e w' => ∃ u, e = .returned u ∧ CorT [[0, 1]] u w' ∧ Below W.heap.size W w' := by
  obtain ⟨g, b, fc, rfl, hd⟩ := hp
  refine (cores_any (treeA A1) (some ⟨g, 0, none⟩) 1 1 [papz b fc] 0 W (Lib.hid hT) (Lib.hid (room_z he hd)) (by show 2 ≤ 60; omega)).mono ?_
  rintro e w' ⟨u, rfl, hc, hb⟩
  rw [cores_A] at hc
  exact ⟨u, rfl, ⟨_, hc⟩, hb⟩
theorem call_N (W : World) (v : Value) (A2 : Option Addr) (he : Env W) (hT : TreeAt W (treeN A2)) (hp : PapZ v W) : Calls Tryz.prog 13 #[.agg (treeN A2).cells, v, .int .i64 0] W fun e w' => ∃ u, e = .returned u ∧ CorT [[0]] u w' ∧ Below W.heap.size W w' := by
  obtain ⟨g, b, fc, rfl, hd⟩ := hp
  refine (cores_any (treeN A2) (some ⟨g, 0, none⟩) 1 1 [papz b fc] 0 W (Lib.hid hT) (Lib.hid (room_z he hd)) (by show 1 ≤ 60; omega)).mono ?_
  rintro e w' ⟨u, rfl, hc, hb⟩
  rw [cores_N] at hc
  exact ⟨u, rfl, ⟨_, hc⟩, hb⟩
theorem call_S (W : World) (v u : Value) (L : List (List Nat)) (hL : L.length ≤ 5000) (hp : ∀ p ∈ L, p.length ≤ 12) (h1 : CorT L v W) (h2 : CorT L u W) : Calls Tryz.prog 15 #[v, u] W fun e w' => e = .returned (.bool true) ∧ Below W.heap.size W w' := by
  obtain ⟨B, h1⟩ := h1
  obtain ⟨B', h2⟩ := h2
  exact sameR_any L v u B B' W hL (Lib.hid hp) (Lib.hid h1) (Lib.hid h2)
theorem held_valueg {P : Program} {ops : Array Oper} {Q : Exit → Act → World → Prop} {o : Oper} {a : Act} {w w' : World} {i : Nat} {K : Act → World → Prop} {v : Value} (hi : ops[i]? = some o) (hw : Region.wanted o (yielded ops a.tmps) = true) (hop : (execOp a.eval o).run P w = .ok (.value v) w') (h : K (a.put o.dst v) w') : wpOp P ops Q i K a w := by
  unfold wpOp
  simp only [hi]
  rw [if_pos hw]
  unfold Oper.wp
  rw [hop, Oper.upon_value]
  exact .inl h
theorem yield_of {ops : Array Oper} {tmps : Array Value} {j d : Nat} {o : Oper} {b : Bool} (ho : ops[j]? = some o) (hd : o.dst = some d) (h : tmps.getD d undef = .bool b) : yielded ops tmps j = some b := by
  unfold yielded
  rw [ho]
  simp only [Option.bind_some, hd]
  have : tmps[d]? = some (.bool b) := by
    rcases Nat.lt_or_ge d tmps.size with h1 | h1
    · simp [h1] at h ⊢; exact h
    · simp [Array.getElem?_eq_none h1, undef] at h
  rw [this]
theorem wanted_of {ops : Array Oper} {tmps : Array Value} {j d : Nat} {o oj : Oper} {b : Bool} (hg : o.guard = some (j, b)) (ho : ops[j]? = some oj) (hd : oj.dst = some d) (h : tmps.getD d undef = .bool b) : Region.wanted o (yielded ops tmps) = true := by
  have := yield_of ho hd h
  simp [Region.wanted, hg, this]
theorem cor_form {L : List (List Nat)} {v : Value} {W : World} (h : CorT L v W) : ∃ A n c, v = .slice A n c := by
  obtain ⟨B, vs, _, h2, _⟩ := h
  obtain ⟨A, c, e⟩ := own_form h2
  exact ⟨A, _, c, e⟩
def tyA (A1 : Option Addr) : List Ty := [Is (.agg (treeA A1).cells), (PapZ), (CorT [[0, 1]]), (RowT [0, 1]), (CorT [[0, 1]]), Is (.bool true)]
theorem tyA_mono (A1 : Option Addr) : MonoL (tyA A1) := ⟨mono_is _, mono_PapZ, mono_CorT _, mono_RowT _, mono_CorT _, mono_is _, trivial⟩
def tyB (A2 : Option Addr) : List Ty := [Is (.agg (treeN A2).cells), (PapZ), (CorT [[0]]), (RowT [0]), (CorT [[0]]), Is (.bool true)]
theorem tyB_mono (A2 : Option Addr) : MonoL (tyB A2) := ⟨mono_is _, mono_PapZ, mono_CorT _, mono_RowT _, mono_CorT _, mono_is _, trivial⟩
set_option maxRecDepth 100000 in
set_option maxHeartbeats 3200000 in
theorem awake_any (w : World) (he : Hid (Env w)) : Calls Tryz.prog 11 #[] w fun e w' => e = .returned (.bool true) ∧ Below w.heap.size w w' := by
  obtain ⟨w1, hw1⟩ : ∃ X, Hid ((((w.alloc (.cells #[.int .i64 3, .int .i64 0, .string ⟨#[97]⟩, .string ⟨#[120]⟩, .int .i64 0, .slice none 0 0, .int .i64 3, .int .i64 0, .string ⟨#[98]⟩, .string ⟨#[121]⟩, .int .i64 0, .slice none 0 0] 24)).alloc (.cells #[.int .i64 1, .int .i64 0, .string ⟨#[]⟩, .string ⟨#[]⟩, .int .i64 0, .slice (some ⟨w.heap.size, 0, none⟩) 2 2] 24)).alloc (.cells #[.int .i64 3, .int .i64 0, .string ⟨#[97]⟩, .string ⟨#[122]⟩, .int .i64 0, .slice none 0 0] 24)).alloc (.cells #[.int .i64 2, .int .i64 0, .string ⟨#[]⟩, .string ⟨#[]⟩, .int .i64 0, .slice (some ⟨w.heap.size + 2, 0, none⟩) 1 1] 24) = X) := ⟨_, rfl⟩
  have hsz1 : (w.alloc (.cells #[.int .i64 3, .int .i64 0, .string ⟨#[97]⟩, .string ⟨#[120]⟩, .int .i64 0, .slice none 0 0, .int .i64 3, .int .i64 0, .string ⟨#[98]⟩, .string ⟨#[121]⟩, .int .i64 0, .slice none 0 0] 24)).heap.size = w.heap.size + 1 := by simp
  have hsz2 : ((w.alloc (.cells #[.int .i64 3, .int .i64 0, .string ⟨#[97]⟩, .string ⟨#[120]⟩, .int .i64 0, .slice none 0 0, .int .i64 3, .int .i64 0, .string ⟨#[98]⟩, .string ⟨#[121]⟩, .int .i64 0, .slice none 0 0] 24)).alloc (.cells #[.int .i64 1, .int .i64 0, .string ⟨#[]⟩, .string ⟨#[]⟩, .int .i64 0, .slice (some ⟨w.heap.size, 0, none⟩) 2 2] 24)).heap.size = w.heap.size + 2 := by simp
  have hsz3 : (((w.alloc (.cells #[.int .i64 3, .int .i64 0, .string ⟨#[97]⟩, .string ⟨#[120]⟩, .int .i64 0, .slice none 0 0, .int .i64 3, .int .i64 0, .string ⟨#[98]⟩, .string ⟨#[121]⟩, .int .i64 0, .slice none 0 0] 24)).alloc (.cells #[.int .i64 1, .int .i64 0, .string ⟨#[]⟩, .string ⟨#[]⟩, .int .i64 0, .slice (some ⟨w.heap.size, 0, none⟩) 2 2] 24)).alloc (.cells #[.int .i64 3, .int .i64 0, .string ⟨#[97]⟩, .string ⟨#[122]⟩, .int .i64 0, .slice none 0 0] 24)).heap.size = w.heap.size + 3 := by simp
  have k0 : Hid (Blk w1 w.heap.size 24 #[.int .i64 3, .int .i64 0, .string ⟨#[97]⟩, .string ⟨#[120]⟩, .int .i64 0, .slice none 0 0, .int .i64 3, .int .i64 0, .string ⟨#[98]⟩, .string ⟨#[121]⟩, .int .i64 0, .slice none 0 0]) := by rw [← hw1.out]; exact Lib.hid ((((Blk.new _ _ _).alloc _).alloc _).alloc _)
  have k1 : Hid (Blk w1 (w.heap.size + 1) 24 (treeA (some ⟨w.heap.size, 0, none⟩)).cells) := by rw [← hw1.out, ← hsz1]; exact Lib.hid (((Blk.new _ _ _).alloc _).alloc _)
  have k2 : Hid (Blk w1 (w.heap.size + 2) 24 #[.int .i64 3, .int .i64 0, .string ⟨#[97]⟩, .string ⟨#[122]⟩, .int .i64 0, .slice none 0 0]) := by rw [← hw1.out, ← hsz2]; exact Lib.hid ((Blk.new _ _ _).alloc _)
  have k3 : Hid (Blk w1 (w.heap.size + 3) 24 (treeN (some ⟨w.heap.size + 2, 0, none⟩)).cells) := by rw [← hw1.out, ← hsz3]; exact Lib.hid (Blk.new _ _ _)
  have hB1 : Hid (Below w.heap.size w w1) := by
    rw [← hw1.out]
    have h1 := (Below.refl w.heap.size w).alloc (Nat.le_refl _) (.cells #[.int .i64 3, .int .i64 0, .string ⟨#[97]⟩, .string ⟨#[120]⟩, .int .i64 0, .slice none 0 0, .int .i64 3, .int .i64 0, .string ⟨#[98]⟩, .string ⟨#[121]⟩, .int .i64 0, .slice none 0 0] 24)
    have h2 := h1.alloc h1.size (.cells #[.int .i64 1, .int .i64 0, .string ⟨#[]⟩, .string ⟨#[]⟩, .int .i64 0, .slice (some ⟨w.heap.size, 0, none⟩) 2 2] 24)
    have h3 := h2.alloc h2.size (.cells #[.int .i64 3, .int .i64 0, .string ⟨#[97]⟩, .string ⟨#[122]⟩, .int .i64 0, .slice none 0 0] 24)
    exact h3.alloc h3.size _
  have hE1 : Hid (Env w1) := Lib.hid (he.out.below hB1.out)
  have tr1 : Hid (TreeAt w1 (treeA (some ⟨w.heap.size, 0, none⟩))) := by
    unfold Hid treeA
    rw [TreeAt]
    refine ⟨?_, by unfold maxLen; simp⟩
    rw [RowsAt, RowsAt, RowsAt]
    exact ⟨⟨w.heap.size, 0, rfl, k0.out.cell 0, k0.out.cell 1, k0.out.cell 2, k0.out.cell 3, k0.out.cell 4, k0.out.cell 5⟩, by rw [TreeAt, RowsAt]; simp, ⟨w.heap.size, 0, rfl, k0.out.cell 6, k0.out.cell 7, k0.out.cell 8, k0.out.cell 9, k0.out.cell 10, k0.out.cell 11⟩, by rw [TreeAt, RowsAt]; simp, trivial⟩
  have tr2 : Hid (TreeAt w1 (treeN (some ⟨w.heap.size + 2, 0, none⟩))) := by
    unfold Hid treeN
    rw [TreeAt]
    refine ⟨?_, by unfold maxLen; simp⟩
    rw [RowsAt, RowsAt]
    exact ⟨⟨w.heap.size + 2, 0, rfl, k2.out.cell 0, k2.out.cell 1, k2.out.cell 2, k2.out.cell 3, k2.out.cell 4, k2.out.cell 5⟩, by rw [TreeAt, RowsAt]; simp, trivial⟩
  have hdr : Below w1.heap.size w1 w1.drew := (Below.refl _ _).drew
  obtain ⟨A1, hA1⟩ : ∃ A : Option Addr, some ⟨w.heap.size, 0, none⟩ = A := ⟨_, rfl⟩
  obtain ⟨A2, hA2⟩ : ∃ A : Option Addr, some ⟨w.heap.size + 2, 0, none⟩ = A := ⟨_, rfl⟩
  rw [hA1] at k1 tr1
  rw [hA2] at k3 tr2
  have hE := Lib.hid (hE1.out.below hdr)
  have tr1' := Lib.hid (tr1.out.below hdr)
  have tr2' := Lib.hid (tr2.out.below hdr)
  have k1' := Lib.hid (k1.out.below hdr k1.out.lt)
  have k3' := Lib.hid (k3.out.below hdr k3.out.lt)
  have hBd : Hid (Below w.heap.size w w1.drew) := hB1.out.drew
  clear hsz1 hsz2 hsz3 k0 k2 k1 k3 tr1 tr2 hE1 hB1 hdr hA1 hA2
  go_enter Tryz.func11, Tryz.ntmps11
  go_wp2_with (rw [hw1.out])
  refine wp_region_any (by kernel_rfl) ?_
  show wpAny _ _ _ _ _ _ _ w1.drew
  refine wpAny_body 24 (List.range 6) [6, 7, 8, 9, 10, 11, 12, 13, 14] 6 [(0, some 10), (1, some 11), (2, some 12), (3, some 13), (4, some 14), (5, some 15)] (Array.replicate 15 false) (Array.replicate 6 true ++ Array.replicate 9 false) (fun a b => Below a.heap.size a b) (fun i => (tyA A1).getD i (fun _ _ => True)) (by kernel_rfl) rfl rfl (Below.refl _ _) (fun _ _ _ h k => h.trans (k.mono h.size)) (fun i v W W' h hb => mono_at (tyA_mono A1) i h hb) ?step ?fin _ rfl
  case step =>
    refine allB_cons (i := 0) rfl (fun a W hl K hK => ?_) ?_
    · have tp : a.tmps.getD 1 undef = .pointer (some ⟨w.heap.size + 1, 0, none⟩) := hl.old 1 (by kernel_rfl)
      have hbX : Blk W (w.heap.size + 1) 24 (treeA A1).cells := k1'.out.below hl.world k1'.out.lt
      exact held_value (v := .agg (treeA A1).cells) (w' := W) rfl rfl (run_ldb rfl tp hbX Tryz.underlying24 rfl (by kernel_rfl)) (hK _ _ (Below.refl _ _) rfl)
    refine allB_cons (i := 1) rfl (fun a W hl K hK => ?_) ?_
    · refine held_call (f := 36) (args := #[.string ⟨#[122]⟩]) (w := W) rfl rfl (by go_simp) ?_
      refine (paper_any W).mono ?_
      rintro e w' ⟨v, rfl, hp, hb⟩
      exact ⟨v, rfl, hK _ _ hb hp⟩
    refine allB_cons (i := 2) rfl (fun a W hl K hK => ?_) ?_
    · have t0 : Is (.agg (treeA A1).cells) (a.tmps.getD 10 undef) W := hl.at_ 0 10 (by kernel_rfl)
      unfold Is at t0
      obtain ⟨g, b, fc, e1, hd⟩ : PapZ (a.tmps.getD 11 undef) W := hl.at_ 1 11 (by kernel_rfl)
      refine held_call (f := 13) (args := #[.agg (treeA A1).cells, .slice (some ⟨g, 0, none⟩) 1 1, .int .i64 0]) (w := W) rfl rfl (by go_simp) ?_
      refine (call_A W _ _ (hE.out.below hl.world) (tr1'.out.below hl.world) ⟨g, b, fc, rfl, hd⟩).mono ?_
      rintro e w' ⟨v, rfl, hc9, hb⟩
      exact ⟨v, rfl, hK _ _ hb hc9⟩
    refine allB_cons (i := 3) rfl (fun a W hl K hK => ?_) ?_
    · exact held_value (v := .slice (some ⟨W.heap.size, 0, none⟩) 2 2) (w' := W.alloc (.cells #[.int .i64 0, .int .i64 1] 3)) rfl rfl (by go_simp) (hK _ _ ((Below.refl _ W).alloc (Nat.le_refl _) _) ⟨_, rfl, Blk.new _ _ _⟩)
    refine allB_cons (i := 4) rfl (fun a W hl K hK => ?_) ?_
    · obtain ⟨g, e3, hb⟩ : RowT [0, 1] (a.tmps.getD 13 undef) W := hl.at_ 3 13 (by kernel_rfl)
      simp only [List.length_cons, List.length_nil, Nat.zero_add, Array.getD_eq_getD_getElem?] at e3
      exact held_value (v := .slice (some ⟨W.heap.size, 0, none⟩) 1 1) (w' := W.alloc (.cells #[.slice (some ⟨g, 0, none⟩) 2 2] 35)) rfl rfl (by go_simp) (hK _ _ ((Below.refl _ W).alloc (Nat.le_refl _) _) (cor_one (l := [0, 1]) ⟨g, rfl, hb⟩ (by decide)))
    refine allB_cons (i := 5) rfl (fun a W hl K hK => ?_) ?_
    · have c2 : CorT [[0, 1]] (a.tmps.getD 12 undef) W := hl.at_ 2 12 (by kernel_rfl)
      have c4 : CorT [[0, 1]] (a.tmps.getD 14 undef) W := hl.at_ 4 14 (by kernel_rfl)
      obtain ⟨Aa, na, ca, ea⟩ := cor_form c2
      obtain ⟨Ab, nb, cb, eb⟩ := cor_form c4
      rw [ea] at c2
      rw [eb] at c4
      refine held_call (f := 15) (args := #[.slice Aa na ca, .slice Ab nb cb]) (w := W) rfl rfl (by go_simp) ?_
      refine (call_S W _ _ [[0, 1]] (by decide) (by decide) c2 c4).mono ?_
      rintro e w' ⟨rfl, hb⟩
      exact ⟨_, rfl, hK _ _ hb rfl⟩
    exact allB_nil
  case fin =>
    intro vs W hR hG9
    have hv0 : vs 0 = .agg (treeA A1).cells := hG9 0 (by decide)
    obtain ⟨_, _, _, hv1, _⟩ : PapZ (vs 1) W := hG9 1 (by decide)
    obtain ⟨_, _, _, hv2⟩ := cor_form (show CorT [[0, 1]] (vs 2) W from hG9 2 (by decide))
    obtain ⟨_, hv3, _⟩ : RowT [0, 1] (vs 3) W := hG9 3 (by decide)
    obtain ⟨_, _, _, hv4⟩ := cor_form (show CorT [[0, 1]] (vs 4) W from hG9 4 (by decide))
    have hv5 : vs 5 = .bool true := hG9 5 (by decide)
    have hE8 := Lib.hid (hE.out.below hR)
    have tr8 := Lib.hid (tr2'.out.below hR)
    have k8 := Lib.hid (k3'.out.below hR k3'.out.lt)
    have hB8 : Hid (Below w.heap.size w W) := hBd.out.trans (hR.mono hBd.out.size)
    clear hG9 hR hE tr1' tr2' k1' k3' hBd
    simp only [putD, Act.put, List.setIfInBounds_toArray, List.set_cons_zero, List.set_cons_succ, hv0, hv1, hv2, hv3, hv4, hv5]
    clear hv0 hv1 hv2 hv3 hv4 hv5
    refine wpAny_next 6 (by kernel_rfl) ?_
    refine held_value (v := .bool true) (w' := W) rfl rfl (by go_simp) ?_
    simp only [Act.put, List.getElem_toArray, List.getElem_cons_zero, List.getElem_cons_succ, List.setIfInBounds_toArray, List.set_cons_zero, List.set_cons_succ]
    have hE := hE8
    clear hE8
    refine wpAny_body 24 [7, 8, 9, 10, 11, 12] [13, 14] 13 [(7, some 17), (8, some 18), (9, some 19), (10, some 20), (11, some 21), (12, some 22)] (Array.replicate 7 true ++ Array.replicate 8 false) (Array.replicate 13 true ++ Array.replicate 2 false) (fun a b => Below a.heap.size a b) (fun i => (tyB A2).getD (i - 7) (fun _ _ => True)) (by kernel_rfl) rfl rfl (Below.refl _ _) (fun _ _ _ h k => h.trans (k.mono h.size)) (fun i v W W' h hb => mono_at (tyB_mono A2) (i - 7) h hb) ?step2 ?fin2 _ rfl
    case step2 =>
      refine allB_cons (i := 7) rfl (fun a W hl K hK => ?_) ?_
      · have h16 : a.tmps.getD 16 undef = .bool true := hl.old 16 (by kernel_rfl)
        have tp : a.tmps.getD 2 undef = .pointer (some ⟨w.heap.size + 3, 0, none⟩) := hl.old 2 (by kernel_rfl)
        have hbX : Blk W (w.heap.size + 3) 24 (treeN A2).cells := k8.out.below hl.world k8.out.lt
        exact held_valueg (v := .agg (treeN A2).cells) (w' := W) rfl (wanted_of (j := 6) (d := 16) (b := true) rfl rfl rfl h16) (run_ldb rfl tp hbX Tryz.underlying24 rfl (by kernel_rfl)) (hK _ _ (Below.refl _ _) rfl)
      refine allB_cons (i := 8) rfl (fun a W hl K hK => ?_) ?_
      · have h16 : a.tmps.getD 16 undef = .bool true := hl.old 16 (by kernel_rfl)
        refine held_callg (f := 36) (args := #[.string ⟨#[122]⟩]) (w := W) rfl (wanted_of (j := 6) (d := 16) (b := true) rfl rfl rfl h16) (by go_simp) ?_
        refine (paper_any W).mono ?_
        rintro e w' ⟨v, rfl, hp, hb⟩
        exact ⟨v, rfl, hK _ _ hb hp⟩
      refine allB_cons (i := 9) rfl (fun a W hl K hK => ?_) ?_
      · have h16 : a.tmps.getD 16 undef = .bool true := hl.old 16 (by kernel_rfl)
        have t0 : Is (.agg (treeN A2).cells) (a.tmps.getD 17 undef) W := hl.at_ 7 17 (by kernel_rfl)
        unfold Is at t0
        obtain ⟨g, b, fc, e1, hd⟩ : PapZ (a.tmps.getD 18 undef) W := hl.at_ 8 18 (by kernel_rfl)
        refine held_callg (f := 13) (args := #[.agg (treeN A2).cells, .slice (some ⟨g, 0, none⟩) 1 1, .int .i64 0]) (w := W) rfl (wanted_of (j := 6) (d := 16) (b := true) rfl rfl rfl h16) (by go_simp) ?_
        refine (call_N W _ _ (hE.out.below hl.world) (tr8.out.below hl.world) ⟨g, b, fc, rfl, hd⟩).mono ?_
        rintro e w' ⟨v, rfl, hc9, hb⟩
        exact ⟨v, rfl, hK _ _ hb hc9⟩
      refine allB_cons (i := 10) rfl (fun a W hl K hK => ?_) ?_
      · have h16 : a.tmps.getD 16 undef = .bool true := hl.old 16 (by kernel_rfl)
        exact held_valueg (v := .slice (some ⟨W.heap.size, 0, none⟩) 1 1) (w' := W.alloc (.cells #[.int .i64 0] 3)) rfl (wanted_of (j := 6) (d := 16) (b := true) rfl rfl rfl h16) (by go_simp) (hK _ _ ((Below.refl _ W).alloc (Nat.le_refl _) _) ⟨_, rfl, Blk.new _ _ _⟩)
      refine allB_cons (i := 11) rfl (fun a W hl K hK => ?_) ?_
      · have h16 : a.tmps.getD 16 undef = .bool true := hl.old 16 (by kernel_rfl)
        obtain ⟨g, e3, hb⟩ : RowT [0] (a.tmps.getD 20 undef) W := hl.at_ 10 20 (by kernel_rfl)
        simp only [List.length_cons, List.length_nil, Nat.zero_add, Array.getD_eq_getD_getElem?] at e3
        exact held_valueg (v := .slice (some ⟨W.heap.size, 0, none⟩) 1 1) (w' := W.alloc (.cells #[.slice (some ⟨g, 0, none⟩) 1 1] 35)) rfl (wanted_of (j := 6) (d := 16) (b := true) rfl rfl rfl h16) (by go_simp) (hK _ _ ((Below.refl _ W).alloc (Nat.le_refl _) _) (cor_one (l := [0]) ⟨g, rfl, hb⟩ (by decide)))
      refine allB_cons (i := 12) rfl (fun a W hl K hK => ?_) ?_
      · have h16 : a.tmps.getD 16 undef = .bool true := hl.old 16 (by kernel_rfl)
        have c2 : CorT [[0]] (a.tmps.getD 19 undef) W := hl.at_ 9 19 (by kernel_rfl)
        have c4 : CorT [[0]] (a.tmps.getD 21 undef) W := hl.at_ 11 21 (by kernel_rfl)
        obtain ⟨Aa, na, ca, ea⟩ := cor_form c2
        obtain ⟨Ab, nb, cb, eb⟩ := cor_form c4
        rw [ea] at c2
        rw [eb] at c4
        refine held_callg (f := 15) (args := #[.slice Aa na ca, .slice Ab nb cb]) (w := W) rfl (wanted_of (j := 6) (d := 16) (b := true) rfl rfl rfl h16) (by go_simp) ?_
        refine (call_S W _ _ [[0]] (by decide) (by decide) c2 c4).mono ?_
        rintro e w' ⟨rfl, hb⟩
        exact ⟨_, rfl, hK _ _ hb rfl⟩
      exact allB_nil
    case fin2 =>
      intro vs W9 hR hG9
      have hv5 : vs 12 = .bool true := hG9 12 (by decide)
      have hB9 : Hid (Below w.heap.size w W9) := hB8.out.trans (hR.mono hB8.out.size)
      clear hG9 hR
      simp only [putD, Act.put, List.setIfInBounds_toArray, List.set_cons_zero, List.set_cons_succ, hv5]
      clear hv5
      refine wpAny_next 13 (by kernel_rfl) ?_
      refine held_value (v := .bool true) (w' := W9) rfl rfl (by go_simp) ?_
      simp only [Act.put, List.getElem_toArray, List.getElem_cons_zero, List.getElem_cons_succ, List.setIfInBounds_toArray, List.set_cons_zero, List.set_cons_succ]
      refine wpAny_next 14 (by kernel_rfl) ?_
      refine held_value (v := .bool true) (w' := W9) rfl rfl (by go_simp) ?_
      simp only [Act.put, List.getElem_toArray, List.getElem_cons_zero, List.getElem_cons_succ, List.setIfInBounds_toArray, List.set_cons_zero]
      refine wpAny_done (by kernel_rfl) ?_ _
      go_wp2_with fail
      go_ret
      exact ⟨rfl, hB9.out⟩
end Go.Proofs.YtdjmckjbibfecaaGreatDoor

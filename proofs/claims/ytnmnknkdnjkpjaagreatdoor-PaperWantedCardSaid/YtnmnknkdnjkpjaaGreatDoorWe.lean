/- The law PaperWanted. -/
import Derived.Test.YtnmnknkdnjkpjaaGreatDoorWc
import Derived.Test.YtnmnknkdnjkpjaaGreatDoorWd
import Derived.Test.YtnmnknkdnjkpjaaGreatDoorSh
import Derived.Test.YtnmnknkdnjkpjaaGreatDoorAw
namespace Go.Proofs.YtnmnknkdnjkpjaaGreatDoor
open Go Go.RowKit Go.BigFrame Go.Maps

theorem needs_small {d : Dl} {l : List Ndd} (h : l.map Ndd.pl = needsM d) : l.length ≤ 5 ∧ ∀ x ∈ l, x.rules.length ≤ 1000 := by
  constructor
  · have h1 := congrArg List.length h
    rw [List.length_map] at h1
    rw [h1, needsM]
    split <;> simp
  · intro x hx
    have h1 : x.pl ∈ needsM d := by rw [← h]; exact List.mem_map_of_mem hx
    have h2 : ∀ p ∈ needsM d, p.2.length ≤ 1000 := by
      intro p hp
      unfold needsM at hp
      split at hp
      all_goals
        simp only [List.mem_append, List.mem_cons, List.not_mem_nil, or_false] at hp
        repeat' rcases hp with hp | hp
        all_goals try subst hp
        all_goals simp [need0, need1, need2, need3, need4]
    exact h2 _ h1

set_option maxRecDepth 100000 in
set_option maxHeartbeats 6400000 in
theorem wanted_law (d : Dl) (w : World) (hd : Hid (d.wide w)) (he : Env w) :
    Calls Tryz.prog 5 #[.agg d.cells] w fun e w' => e = .returned (.bool true) ∧ Below w.heap.size w w' := by
  have he' := Lib.hid he
  clear he
  obtain ⟨D, hD⟩ : ∃ X, Hid (d.cells = X) := ⟨_, rfl⟩
  rw [hD.out]
  have hDs : Hid (D.size = 17) := by rw [← hD.out]; exact Lib.hid rfl
  obtain ⟨w0, hw0⟩ : ∃ W, Hid (w.alloc (.cells D 26) = W) := ⟨_, rfl⟩
  have hb0 : Hid (Below w.heap.size w w0) := by rw [← hw0.out]; exact (Below.refl _ w).alloc (Nat.le_refl _) _
  have hk0 : Hid (Blk w0 w.heap.size 26 D) := by rw [← hw0.out]; exact Lib.hid (Blk.new w 26 _)
  have hsh0 := short_any d w0 (Lib.hid (hd.out.below hb0.out))
  rw [hD.out] at hsh0
  have hsh := Lib.hid hsh0
  clear hsh0
  go_enter Tryz.func5, Tryz.ntmps5
  go_wp2_with (first | (refine wpList_get_blk rfl 26 _ rfl w.heap.size D 26 _ rfl hk0.out Tryz.underlying26 rfl (by rw [hDs.out]; kernel_rfl) ?_) | rw [hw0.out])
  refine hsh.out.mono ?_
  rintro e w1 ⟨b, rfl, hb1, hq⟩
  have hB1 : Hid (Below w.heap.size w w1) := hb0.out.trans (hb1.mono hb0.out.size)
  have hk1 := Lib.hid (hk0.out.below hb1 hk0.out.lt)
  have hq' := Lib.hid hq
  clear hb1 hq hsh
  cases b with
  | false =>
    go_wp2_with fail
    refine (awake_any w1 (he'.out.below hB1.out)).mono ?_
    rintro e w2 ⟨rfl, hb2⟩
    go_wp2_with fail
    go_ret
    exact ⟨rfl, hB1.out.trans (hb2.mono hB1.out.size)⟩
  | true =>
    have hok0 := hq'.out rfl
    have hok : Hid (d.ok w) := { hok0 with at_ := hd.out.at_ }
    clear hok0 hq'
    have hw1 : Hid (∀ W, Below w.heap.size w W → Calls Tryz.prog 26 #[.agg D] W fun e w' => ∃ v, e = .returned (.agg (crC d v)) ∧ NeedsV W.heap.size (needsM d) v w' ∧ Below W.heap.size W w') := by
      intro W hW
      have h := wanted_any d W (Lib.hid (hok.out.below hW)) (he'.out.below hW)
      rwa [hD.out] at h
    have hw2 : Hid (∀ W, Below w.heap.size w W → Calls Tryz.prog 27 #[.agg D] W fun e w' => ∃ v, e = .returned (.agg (crC d v)) ∧ NeedsV W.heap.size (needsM d) v w' ∧ Below W.heap.size W w') := by
      intro W hW
      have h := rwanted_any d W (Lib.hid (hok.out.below hW)) (he'.out.below hW)
      rwa [hD.out] at h
    go_wp2_with fail
    refine wp_region_held (S := fun W => Blk W w.heap.size 26 D) (by kernel_rfl) ?_
    have HSV : Blk w1.drew w.heap.size 26 D := hk1.out.drew
    refine wpAnyH_take (i := 0) rfl (by kernel_rfl) (by kernel_rfl) (by kernel_rfl) (fun _ _ _ h => h) (yields_blkg (by rfl) rfl rfl Tryz.underlying26 rfl (by rw [hDs.out]; kernel_rfl) (fun _ h => h)) HSV ?_
    go_simp
    refine wpAnyH_take (i := 2) rfl (by kernel_rfl) (by kernel_rfl) (by kernel_rfl) (fun _ _ _ h => h) (yields_blkg (by rfl) rfl rfl Tryz.underlying26 rfl (by rw [hDs.out]; kernel_rfl) (fun _ h => h)) HSV ?_
    go_simp
    refine wpAnyH_all (rs := [1]) (by kernel_rfl) (by decide) ?_
    intro i hi'
    obtain rfl := List.mem_singleton.1 hi'
    refine held_callg (f := 26) (args := #[.agg D]) rfl (by rfl) (by go_simp) ?_
    refine (hw1.out _ hB1.out.drew).mono ?_
    rintro e w2 ⟨v1, rfl, hN1, hb2⟩
    have hb2' : Hid (Below w1.heap.size w1 w2) := (Below.refl _ _).drew.trans hb2
    have hB2 : Hid (Below w.heap.size w w2) := hB1.out.trans (hb2'.out.mono hB1.out.size)
    have hk2 := Lib.hid (hk1.out.below hb2'.out hk1.out.lt)
    have hN1' := Lib.hid hN1
    clear hb2 HSV hi' hN1
    refine ⟨_, rfl, ?_⟩
    refine ⟨hk2.out, ?_⟩
    go_simp
    refine wpAnyH_all (rs := [3]) (by kernel_rfl) (by decide) ?_
    intro i hi'
    obtain rfl := List.mem_singleton.1 hi'
    refine held_callg (f := 27) (args := #[.agg D]) rfl (by rfl) (by go_simp) ?_
    refine (hw2.out _ hB2.out).mono ?_
    rintro e w3 ⟨v2, rfl, hN2, hb3⟩
    have hB3 : Hid (Below w.heap.size w w3) := hB2.out.trans (hb3.mono hB2.out.size)
    have hk3 := Lib.hid (hk2.out.below hb3 hk2.out.lt)
    obtain ⟨l1, ho1, hO1, he1⟩ := mono_NeedsV _ _ _ hN1'.out hb3
    obtain ⟨l2, ho2, hO2, he2⟩ := hN2
    obtain ⟨A1, c1, ev1, _, hr1⟩ := RowOf.of_own encN_len ho1 rfl
    obtain ⟨A2, c2, ev2, _, hr2⟩ := RowOf.of_own encN_len ho2 rfl
    subst ev1 ev2
    have hll : Hid (l2.length = l1.length) := by
      have h1 := congrArg List.length he1
      have h2 := congrArg List.length he2
      rw [List.length_map] at h1 h2
      unfold Hid; rw [h1, h2]
    have hsml := needs_small he1
    have hcr := Lib.hid (credits_any d A1 A2 l1.length c1 c2 l1 l2 w3 (by omega) (Lib.hid rfl) (Lib.hid (he1.trans he2.symm)) (Lib.hid hsml.2) (Lib.hid hr1) (Lib.hid hr2) (Lib.hid hO1) (Lib.hid hO2))
    rw [hll.out]
    clear hb3 hi' ho1 hO1 he1 ho2 hO2 he2 hr1 hr2 hsml hN1'
    refine ⟨_, rfl, ?_⟩
    refine ⟨hk3.out, ?_⟩
    go_simp
    refine wpAnyH_all (rs := [4]) (by kernel_rfl) (by decide) ?_
    intro i hi'
    obtain rfl := List.mem_singleton.1 hi'
    refine held_callg (f := 25) (args := #[.agg (crC d (.slice A1 l1.length c1)), .agg (crC d (.slice A2 l1.length c2))]) rfl (by rfl) (by go_simp) ?_
    refine hcr.out.mono ?_
    rintro e w4 ⟨rfl, hb4⟩
    have hB4 : Hid (Below w.heap.size w w4) := hB3.out.trans (hb4.mono hB3.out.size)
    have hk4 := Lib.hid (hk3.out.below hb4 hk3.out.lt)
    clear hb4 hi'
    refine ⟨_, rfl, ?_⟩
    refine ⟨hk4.out, ?_⟩
    have HSV : Blk w4 w.heap.size 26 D := hk4.out
    go_simp
    refine wpAnyH_take (i := 5) rfl (by kernel_rfl) (by kernel_rfl) (by kernel_rfl) (fun _ _ _ h => h) (show YieldsIf _ _ _ _ (.bool true) _ from .inl ⟨by rfl, fun _ _ => by go_simp⟩) HSV ?_
    go_simp
    refine wpAnyH_all (rs := [6]) (by kernel_rfl) (by decide) ?_
    intro i hi'
    obtain rfl := List.mem_singleton.1 hi'
    refine held_callg (f := 8) (args := #[]) rfl (by rfl) (by go_simp) ?_
    refine (awake_any _ (he'.out.below hB4.out)).mono ?_
    rintro e w5 ⟨rfl, hb5⟩
    have hB5 : Hid (Below w.heap.size w w5) := hB4.out.trans (hb5.mono hB4.out.size)
    have hk5 := Lib.hid (hk4.out.below hb5 hk4.out.lt)
    clear hb5 HSV hi'
    refine ⟨_, rfl, ?_⟩
    refine ⟨hk5.out, ?_⟩
    have HSV : Blk w5 w.heap.size 26 D := hk5.out
    go_simp
    refine wpAnyH_take (i := 7) rfl (by kernel_rfl) (by kernel_rfl) (by kernel_rfl) (fun _ _ _ h => h) (show YieldsIf _ _ _ _ (.bool true) _ from .inl ⟨by rfl, fun _ _ => by go_simp⟩) HSV ?_
    go_simp
    refine wpAnyH_take (i := 8) rfl (by kernel_rfl) (by kernel_rfl) (by kernel_rfl) (fun _ _ _ h => h) (show YieldsIf _ _ _ _ (.bool true) _ from .inl ⟨by rfl, fun _ _ => by go_simp⟩) HSV ?_
    go_simp
    refine wpAnyH_done (by kernel_rfl) ?_ _
    go_wp2_with fail
    go_ret
    exact ⟨rfl, hB5.out⟩
end Go.Proofs.YtnmnknkdnjkpjaaGreatDoor

/- paper.Set: a deal's papers in a row. -/
import Derived.Test.YtnmnknkdnjkpjaaGreatDoorFh
import Derived.Test.YtnmnknkdnjkpjaaGreatDoorLa
import Derived.Test.YtnmnknkdnjkpjaaGreatDoorPp
import Derived.Test.YtnmnknkdnjkpjaaGreatDoorZ
namespace Go.Proofs.YtnmnknkdnjkpjaaGreatDoor
open Go Go.RowKit Go.BigFrame Go.Maps

theorem lading_any (b : Bl) (cl : Bool) (w : World) (hd : Hid (b.ok w)) (he : Env w) :
    Calls Tryz.prog 47 #[.agg (b.cells cl)] w fun e w' => PapOut w.heap.size 2 b.number b.carrier (ladingL b cl) e w' ∧ Below w.heap.size w w' := by
  cases cl with
  | true => exact lading_true b w hd he
  | false => exact lading_false b w hd he
theorem pap_own {W w' : World} {k : Int} {nu is : ByteArray} {fl : List Fld} {n : Nat} {e : Ending} (hl : Hid (fl.length = n)) (h : PapOut W.heap.size k nu is fl e w' ∧ Below W.heap.size W w') :
    ∃ A c, e = .returned (.agg #[.int .i64 k, .string nu, .string is, .slice A n c]) ∧ w'.ownsRow W.heap.size 79 2 (.slice A n c) n (flF fl) ∧ Below W.heap.size W w' := by
  obtain ⟨⟨v, rfl, ho⟩, hb⟩ := h
  obtain ⟨A, c, rfl, _, _⟩ := fields_of_own ho rfl
  rw [hl.out] at ho ⊢
  exact ⟨A, c, rfl, ho, hb⟩
theorem docs_snoc {B k : Nat} {w2 w5 : World} {Av : Option Addr} {cw : Nat} {ps : List Pap} {p : Pap} {cs : Array Value} (hrow : w2.ownsRow B 32 4 (.slice Av k cw) k (ps.flatMap encD)) (hO : OwnD w2 B (ps ++ [p]))
    (hg5 : (w2.alloc (.cells cs 32)).grownBy w5 (Value.slice Av k cw).ownBlock) : OwnD w5 B (ps ++ [p]) :=
  fun q hq => by
    have h0 := (hO q hq).alloc (.cells cs 32)
    exact h0.kept hg5 (own_apart h0 (hrow.alloc (.cells cs 32)) (by decide))
theorem OwnD.snoc {w : World} {B : Nat} {ps : List Pap} {p : Pap} (h : OwnD w B ps) (hp : w.ownsRow B 79 2 (.slice p.fA p.fields.length p.fc) p.fields.length (flF p.fields)) : OwnD w B (ps ++ [p]) := by
  intro q hq
  rcases List.mem_append.1 hq with h1 | h1
  · exact h q h1
  · obtain rfl := List.mem_singleton.1 h1
    exact hp
/-- The state behind each append. -/
structure Rowd (B : Nat) (w W : World) (v : Value) (ps : List Pap) : Prop where
  row : W.ownsRow B 32 4 v ps.length (ps.flatMap encD)
  fields : OwnD W B ps
  below : Below B w W
def wantS (d : Dl) (b : Bl) (cl : Bool) (cover : List Dc) : List Dc :=
  [⟨0, mkB [105, 118, 45] ++ d.number, d.seller, invL d⟩, ⟨1, mkB [112, 107, 45] ++ d.number, d.seller, packL d⟩, ⟨2, b.number, b.carrier, ladingL b cl⟩] ++ cover ++ [⟨4, mkB [111, 114, 45] ++ d.number, d.seller, originL d d.frm⟩]

set_option maxRecDepth 100000 in
set_option maxHeartbeats 6400000 in
theorem set_papers (d : Dl) (b : Bl) (cl : Bool) (A : Option Addr) (n c : Nat) (l : List Pap) (w : World) (hok : Hid (d.ok w)) (hbk : Hid (b.ok w)) (hn : n ≤ 1000) (hl : Hid (l.length = n)) (hA : Hid (DocsAt w A l)) (hsm : Hid (∀ p ∈ l, p.fields.length ≤ 1000000)) (he : Env w) :
    Calls Tryz.prog 21 #[.agg d.cells, .agg (b.cells cl), .slice A n c] w fun e w' => ∃ v ps, e = .returned v ∧ w'.ownsRow w.heap.size 32 4 v ps.length (ps.flatMap encD) ∧ OwnD w' w.heap.size ps ∧ ps.map Pap.pl = wantS d b cl (l.map Pap.pl) ∧ Below w.heap.size w w' := by
  have he' := Lib.hid he
  clear he
  obtain ⟨i0, hi, hz0, hz1, hz2⟩ := info_parts Tryz.info32
  obtain ⟨D, hD⟩ : ∃ X, Hid (d.cells = X) := ⟨_, rfl⟩
  obtain ⟨V, hV⟩ : ∃ X, Hid (b.cells cl = X) := ⟨_, rfl⟩
  obtain ⟨fr, hfr⟩ : ∃ X, Hid (d.frm = X) := ⟨_, rfl⟩
  rw [hD.out, hV.out]
  have hDs : Hid (D.size = 17) := by rw [← hD.out]; exact Lib.hid rfl
  have hVs : Hid (V.size = 9) := by rw [← hV.out]; exact Lib.hid rfl
  have hD7 : Hid (D[7]? = some (.string fr)) := by rw [← hD.out, ← hfr.out]; exact Lib.hid rfl
  obtain ⟨n1, hn1⟩ : ∃ x, Hid (mkB [105, 118, 45] ++ d.number = x) := ⟨_, rfl⟩
  obtain ⟨i1, hi1⟩ : ∃ x, Hid (d.seller = x) := ⟨_, rfl⟩
  obtain ⟨F1, hF1⟩ : ∃ x, Hid (invL d = x) := ⟨_, rfl⟩
  have hl1 : Hid (F1.length = 8) := by rw [← hF1.out]; exact Lib.hid rfl
  have hp1 : Hid (∀ W, Below w.heap.size w W → Calls Tryz.prog 10 #[.agg D] W fun e w' => ∃ A c, e = .returned (.agg #[.int .i64 0, .string n1, .string i1, .slice A 8 c]) ∧ w'.ownsRow W.heap.size 79 2 (.slice A 8 c) 8 (flF F1) ∧ Below W.heap.size W w') := by
    intro W hW
    have h := invoice_any d W (Lib.hid (hok.out.below hW)) (he'.out.below hW)
    rw [hD.out, hF1.out, hn1.out, hi1.out] at h
    exact h.mono fun e w' hq => pap_own hl1 hq
  obtain ⟨n2, hn2⟩ : ∃ x, Hid (mkB [112, 107, 45] ++ d.number = x) := ⟨_, rfl⟩
  obtain ⟨i2, hi2⟩ : ∃ x, Hid (d.seller = x) := ⟨_, rfl⟩
  obtain ⟨F2, hF2⟩ : ∃ x, Hid (packL d = x) := ⟨_, rfl⟩
  have hl2 : Hid (F2.length = 6) := by rw [← hF2.out]; exact Lib.hid rfl
  have hp2 : Hid (∀ W, Below w.heap.size w W → Calls Tryz.prog 12 #[.agg D] W fun e w' => ∃ A c, e = .returned (.agg #[.int .i64 1, .string n2, .string i2, .slice A 6 c]) ∧ w'.ownsRow W.heap.size 79 2 (.slice A 6 c) 6 (flF F2) ∧ Below W.heap.size W w') := by
    intro W hW
    have h := packing_any d W (Lib.hid (hok.out.below hW)) (he'.out.below hW)
    rw [hD.out, hF2.out, hn2.out, hi2.out] at h
    exact h.mono fun e w' hq => pap_own hl2 hq
  obtain ⟨n3, hn3⟩ : ∃ x, Hid (b.number = x) := ⟨_, rfl⟩
  obtain ⟨i3, hi3⟩ : ∃ x, Hid (b.carrier = x) := ⟨_, rfl⟩
  obtain ⟨F3, hF3⟩ : ∃ x, Hid (ladingL b cl = x) := ⟨_, rfl⟩
  have hl3 : Hid (F3.length = 9) := by rw [← hF3.out]; exact Lib.hid rfl
  have hp3 : Hid (∀ W, Below w.heap.size w W → Calls Tryz.prog 47 #[.agg V] W fun e w' => ∃ A c, e = .returned (.agg #[.int .i64 2, .string n3, .string i3, .slice A 9 c]) ∧ w'.ownsRow W.heap.size 79 2 (.slice A 9 c) 9 (flF F3) ∧ Below W.heap.size W w') := by
    intro W hW
    have h := lading_any b cl W (Lib.hid (hbk.out.below hW)) (he'.out.below hW)
    rw [hV.out, hF3.out, hn3.out, hi3.out] at h
    exact h.mono fun e w' hq => pap_own hl3 hq
  obtain ⟨n4, hn4⟩ : ∃ x, Hid (mkB [111, 114, 45] ++ d.number = x) := ⟨_, rfl⟩
  obtain ⟨i4, hi4⟩ : ∃ x, Hid (d.seller = x) := ⟨_, rfl⟩
  obtain ⟨F4, hF4⟩ : ∃ x, Hid (originL d d.frm = x) := ⟨_, rfl⟩
  have hl4 : Hid (F4.length = 3) := by rw [← hF4.out]; exact Lib.hid rfl
  have hp4 : Hid (∀ W, Below w.heap.size w W → Calls Tryz.prog 17 #[.agg D, .string fr] W fun e w' => ∃ A c, e = .returned (.agg #[.int .i64 4, .string n4, .string i4, .slice A 3 c]) ∧ w'.ownsRow W.heap.size 79 2 (.slice A 3 c) 3 (flF F4) ∧ Below W.heap.size W w') := by
    intro W hW
    have h := origin_any d d.frm W (Lib.hid (hok.out.below hW)) (he'.out.below hW)
    rw [hD.out, hF4.out, hn4.out, hi4.out, hfr.out] at h
    exact h.mono fun e w' hq => pap_own hl4 hq
  have hwant : Hid (wantS d b cl (l.map Pap.pl) = [⟨0, n1, i1, F1⟩, ⟨1, n2, i2, F2⟩, ⟨2, n3, i3, F3⟩] ++ l.map Pap.pl ++ [⟨4, n4, i4, F4⟩]) := by rw [← hn1.out, ← hn2.out, ← hn3.out, ← hn4.out, ← hi1.out, ← hi2.out, ← hi3.out, ← hi4.out, ← hF1.out, ← hF2.out, ← hF3.out, ← hF4.out]; exact Lib.hid rfl
  rw [hwant.out]
  clear hn1 hn2 hn3 hn4 hi1 hi2 hi3 hi4 hF1 hF2 hF3 hF4 hwant hD hV hfr
  obtain ⟨w1, hw1⟩ : ∃ W, Hid ((w.alloc (.cells D 26)).alloc (.cells V 40) = W) := ⟨_, rfl⟩
  have hB1 : Hid (Below w.heap.size w w1) := by rw [← hw1.out]; exact ((Below.refl _ w).alloc (Nat.le_refl _) _).alloc (by simp) _
  have hk1 : Hid (Blk w1 w.heap.size 26 D) := by rw [← hw1.out]; exact Lib.hid ((Blk.new w 26 _).alloc _)
  have hm1 : Hid (Blk w1 (w.heap.size + 1) 40 V) := by rw [← hw1.out]; refine Lib.hid ?_; simpa using Blk.new (w.alloc (.cells D 26)) 40 V
  go_enter Tryz.func21, Tryz.ntmps21
  go_wp2_with fail
  rw [hw1.out]
  refine wp_region_held (S := fun W => Blk W w.heap.size 26 D ∧ Blk W (w.heap.size + 1) 40 V) (by kernel_rfl) ?_
  have HSV : Blk w1.drew w.heap.size 26 D ∧ Blk w1.drew (w.heap.size + 1) 40 V := ⟨hk1.out.drew, hm1.out.drew⟩
  refine wpAnyH_take (i := 0) rfl (by kernel_rfl) (by kernel_rfl) (by kernel_rfl) (fun _ _ _ h => h) (yields_blkg (by rfl) rfl rfl Tryz.underlying26 rfl (by rw [hDs.out]; kernel_rfl) (fun _ h => h.1)) HSV ?_
  go_simp
  refine wpAnyH_take (i := 2) rfl (by kernel_rfl) (by kernel_rfl) (by kernel_rfl) (fun _ _ _ h => h) (yields_blkg (by rfl) rfl rfl Tryz.underlying26 rfl (by rw [hDs.out]; kernel_rfl) (fun _ h => h.1)) HSV ?_
  go_simp
  refine wpAnyH_take (i := 4) rfl (by kernel_rfl) (by kernel_rfl) (by kernel_rfl) (fun _ _ _ h => h) (yields_blkg (by rfl) rfl rfl Tryz.underlying40 rfl (by rw [hVs.out]; kernel_rfl) (fun _ h => h.2)) HSV ?_
  go_simp
  refine wpAnyH_all (rs := [1]) (by kernel_rfl) (by decide) ?_
  intro i hi'
  obtain rfl := List.mem_singleton.1 hi'
  refine held_callg (f := 10) (args := #[.agg D]) rfl (by rfl) (by go_simp) ?_
  refine (hp1.out _ (hB1.out.drew)).mono ?_
  rintro e w2 ⟨A1, c1, rfl, ho1, hb2⟩
  have hb2' : Hid (Below w1.heap.size w1 w2) := (Below.refl _ _).drew.trans hb2
  have hB2 : Hid (Below w.heap.size w w2) := hB1.out.trans (hb2'.out.mono hB1.out.size)
  have hk2 := Lib.hid (hk1.out.below hb2'.out hk1.out.lt)
  have hm2 := Lib.hid (hm1.out.below hb2'.out hm1.out.lt)
  have ho1' := Lib.hid ho1
  clear ho1
  clear hb2 HSV hi'
  refine ⟨_, rfl, ?_⟩
  refine ⟨⟨hk2.out, hm2.out⟩, ?_⟩
  have HSV : Blk w2 w.heap.size 26 D ∧ Blk w2 (w.heap.size + 1) 40 V := ⟨hk2.out, hm2.out⟩
  go_simp
  refine wpAnyH_all (rs := [3]) (by kernel_rfl) (by decide) ?_
  intro i hi'
  obtain rfl := List.mem_singleton.1 hi'
  refine held_callg (f := 12) (args := #[.agg D]) rfl (by rfl) (by go_simp) ?_
  refine (hp2.out _ hB2.out).mono ?_
  rintro e w3 ⟨A2, c2, rfl, ho2, hb3⟩
  have hb3' : Hid (Below w2.heap.size w2 w3) := hb3
  have hB3 : Hid (Below w.heap.size w w3) := hB2.out.trans (hb3'.out.mono hB2.out.size)
  have hk3 := Lib.hid (hk2.out.below hb3'.out hk2.out.lt)
  have hm3 := Lib.hid (hm2.out.below hb3'.out hm2.out.lt)
  have ho1' := Lib.hid (own_below ho1'.out hb3'.out)
  have ho2' := Lib.hid ho2
  clear ho2
  clear hb3 HSV hi'
  refine ⟨_, rfl, ?_⟩
  refine ⟨⟨hk3.out, hm3.out⟩, ?_⟩
  have HSV : Blk w3 w.heap.size 26 D ∧ Blk w3 (w.heap.size + 1) 40 V := ⟨hk3.out, hm3.out⟩
  go_simp
  refine wpAnyH_all (rs := [5]) (by kernel_rfl) (by decide) ?_
  intro i hi'
  obtain rfl := List.mem_singleton.1 hi'
  refine held_callg (f := 47) (args := #[.agg V]) rfl (by rfl) (by go_simp) ?_
  refine (hp3.out _ hB3.out).mono ?_
  rintro e w4 ⟨A3, c3, rfl, ho3, hb4⟩
  have hb4' : Hid (Below w3.heap.size w3 w4) := hb4
  have hB4 : Hid (Below w.heap.size w w4) := hB3.out.trans (hb4'.out.mono hB3.out.size)
  have hk4 := Lib.hid (hk3.out.below hb4'.out hk3.out.lt)
  have hm4 := Lib.hid (hm3.out.below hb4'.out hm3.out.lt)
  have ho1' := Lib.hid (own_below ho1'.out hb4'.out)
  have ho2' := Lib.hid (own_below ho2'.out hb4'.out)
  have ho3' := Lib.hid ho3
  clear ho3
  clear hb4 HSV hi'
  refine ⟨_, rfl, ?_⟩
  refine ⟨⟨hk4.out, hm4.out⟩, ?_⟩
  have HSV : Blk w4 w.heap.size 26 D ∧ Blk w4 (w.heap.size + 1) 40 V := ⟨hk4.out, hm4.out⟩
  go_simp
  refine wpAnyH_all (rs := [6]) (by kernel_rfl) (by decide) ?_
  intro i hi'
  obtain rfl := List.mem_singleton.1 hi'
  refine held_value (v := .slice (some ⟨w4.heap.size, 0, none⟩) 3 3) (w' := w4.alloc (.cells #[.int .i64 0, .string n1, .string i1, .slice A1 8 c1, .int .i64 1, .string n2, .string i2, .slice A2 6 c2, .int .i64 2, .string n3, .string i3, .slice A3 9 c3] 32)) rfl rfl (by go_simp) ?_
  obtain ⟨w5, hw5⟩ : ∃ W, Hid (w4.alloc (.cells #[.int .i64 0, .string n1, .string i1, .slice A1 8 c1, .int .i64 1, .string n2, .string i2, .slice A2 6 c2, .int .i64 2, .string n3, .string i3, .slice A3 9 c3] 32) = W) := ⟨_, rfl⟩
  have hb5 : Hid (Below w4.heap.size w4 w5) := by rw [← hw5.out]; exact (Below.refl _ w4).alloc (Nat.le_refl _) _
  have hlit : Hid (w5.ownsRow w4.heap.size 32 4 (.slice (some ⟨w4.heap.size, 0, none⟩) 3 3) 3 (#[.int .i64 0, .string n1, .string i1, .slice A1 8 c1, .int .i64 1, .string n2, .string i2, .slice A2 6 c2, .int .i64 2, .string n3, .string i3, .slice A3 9 c3] : Array Value).toList) := by rw [← hw5.out]; exact Lib.hid (World.ownsRow_lit (size := 4) w4 (base := w4.heap.size) (e := 32) #[.int .i64 0, .string n1, .string i1, .slice A1 8 c1, .int .i64 1, .string n2, .string i2, .slice A2 6 c2, .int .i64 2, .string n3, .string i3, .slice A3 9 c3] 3 (Nat.le_refl _) (by decide) rfl)
  have hk5 := Lib.hid (hk4.out.below hb5.out hk4.out.lt)
  have hm5 := Lib.hid (hm4.out.below hb5.out hm4.out.lt)
  have ho1' := Lib.hid (own_below ho1'.out hb5.out)
  have ho2' := Lib.hid (own_below ho2'.out hb5.out)
  have ho3' := Lib.hid (own_below ho3'.out hb5.out)
  rw [hw5.out]
  clear HSV hi' hw5
  refine ⟨⟨hk5.out, hm5.out⟩, ?_⟩
  go_simp
  have HSV : Blk w5 w.heap.size 26 D ∧ Blk w5 (w.heap.size + 1) 40 V := ⟨hk5.out, hm5.out⟩
  refine wpAnyH_take (i := 7) rfl (by kernel_rfl) (by kernel_rfl) (by kernel_rfl) (fun _ _ _ h => h) (show YieldsIf _ _ _ _ (.slice (some ⟨w4.heap.size, 0, none⟩) 3 3) _ from .inl ⟨by rfl, fun _ _ => by go_simp⟩) HSV ?_
  go_simp
  refine wpAnyH_done (by kernel_rfl) ?_ _
  have hB14 : Hid (Below w1.heap.size w1 w4) := hb2'.out.trans ((hb3'.out.mono hb2'.out.size).trans (hb4'.out.mono (Nat.le_trans hb2'.out.size hb3'.out.size)))
  have hB15 : Hid (Below w1.heap.size w1 w5) := hB14.out.trans (hb5.out.mono hB14.out.size)
  have hst : Hid (Rowd w1.heap.size w1 w5 (.slice (some ⟨w4.heap.size, 0, none⟩) 3 3) [⟨0, n1, i1, A1, c1, F1⟩, ⟨1, n2, i2, A2, c2, F2⟩, ⟨2, n3, i3, A3, c3, F3⟩]) := by
    refine ⟨own_mono_base ?_ hB14.out.size, ?_, hB15.out⟩
    · have := hlit.out
      simpa [encD, hl1.out, hl2.out, hl3.out] using this
    · intro p hp
      simp only [List.mem_cons, List.not_mem_nil, or_false] at hp
      rcases hp with rfl | rfl | rfl
      · simp only; rw [hl1.out]; exact own_mono_base ho1'.out (by simp)
      · simp only; rw [hl2.out]; exact own_mono_base ho2'.out hb2'.out.size
      · simp only; rw [hl3.out]; exact own_mono_base ho3'.out (Nat.le_trans hb2'.out.size hb3'.out.size)
  clear hlit ho1' ho2' ho3' HSV hk2 hk3 hk4 hm2 hm3 hm4 hB2 hB3 hB4 hb2' hb3' hb4' hb5 hk5 hm5
  obtain ⟨P3, hP3⟩ : ∃ x, Hid ([(⟨0, n1, i1, A1, c1, F1⟩ : Pap), ⟨1, n2, i2, A2, c2, F2⟩, ⟨2, n3, i3, A3, c3, F3⟩] = x) := ⟨_, rfl⟩
  have hP3l : Hid (P3.length = 3) := by rw [← hP3.out]; exact Lib.hid rfl
  have hP3p : Hid (P3.map Pap.pl = [⟨0, n1, i1, F1⟩, ⟨1, n2, i2, F2⟩, ⟨2, n3, i3, F3⟩]) := by rw [← hP3.out]; exact Lib.hid rfl
  rw [hP3.out] at hst
  clear hP3 hl1 hl2 hl3 hp1 hp2 hp3
  go_wp2_with fail
  go_loopw [7, 19] (fun v i wr => ∃ (k : Nat) (ps : List Pap), k ≤ n ∧ i = .int .i64 (k : Int) ∧ Hid (ps.length = 3 + k) ∧ Hid (ps.map Pap.pl = P3.map Pap.pl ++ (l.take k).map Pap.pl) ∧ Hid (Rowd w1.heap.size w1 wr v ps)) (fun _ i _ => n - (intOf i).toNat)
  case atStart => exact ⟨0, P3, Nat.zero_le _, rfl, by have := hP3l.out; unfold Hid; omega, Lib.hid (by simp), hst⟩
  case round =>
    obtain ⟨k, ps, hk, rfl, hpl, hpm, hR⟩ := hrel
    obtain ⟨Av, cw, rfl⟩ := own_form hR.out.row
    have hB0 : Hid (Below w1.heap.size w1 wr) := hR.out.below
    by_cases hlt : k < n
    · obtain ⟨x, hx⟩ : ∃ x, l[k]? = some x := ⟨_, List.getElem?_eq_getElem (by have := hl.out; omega)⟩
      obtain ⟨b', off, rfl, h0, h1, h2, h3, h4, _, _⟩ := ((hA.out.below hB1.out).below hB0.out) k x hx
      have hmx := hsm.out x (List.mem_of_getElem? hx)
      have htk : Hid ((l.take (k + 1)).map Pap.pl = (l.take k).map Pap.pl ++ [x.pl]) := by unfold Hid; rw [List.take_add_one, hx]; simp
      have h4' := Lib.hid h4
      clear hx h4
      obtain ⟨kd, nu, is, fA, fc, fs⟩ := x
      simp only at h0 h1 h2 h3 hmx h4' htk
      obtain ⟨m, hm⟩ : ∃ m, Hid (fs.length = m) := ⟨_, rfl⟩
      rw [hm.out] at h3 hmx
      obtain ⟨wa, hwa⟩ : ∃ wa, Hid (wr.alloc (.cells #[.int .i64 kd, .string nu, .string is, .slice fA m fc] 32) = wa) := ⟨_, rfl⟩
      have hbl : Hid (Below wr.heap.size wr wa) := by rw [← hwa.out]; exact (Below.refl _ wr).alloc (Nat.le_refl _) _
      have hbx : Blk wa wr.heap.size 32 #[.int .i64 kd, .string nu, .string is, .slice fA m fc] := by rw [← hwa.out]; exact Blk.new _ _ _
      have x0 : wa.cell? ⟨wr.heap.size, 0, none⟩ = some (.int .i64 kd) := hbx.cell 0
      have x1 : wa.cell? ⟨wr.heap.size, 1, none⟩ = some (.string nu) := hbx.cell 1
      have x2 : wa.cell? ⟨wr.heap.size, 2, none⟩ = some (.string is) := hbx.cell 2
      have x3 : wa.cell? ⟨wr.heap.size, 3, none⟩ = some (.slice fA m fc) := hbx.cell 3
      clear hbx
      have hcall := Lib.hid (copyDoc_any kd nu is fA m fc fs wa hmx hm (Lib.hid (h4'.out.below hbl.out)))
      go_wp2_with (rw [hwa.out])
      refine hcall.out.mono ?_
      rintro e w2 ⟨A2', c2', rfl, ho2, hb2⟩
      have hbr : Hid (Below wr.heap.size wr w2) := hbl.out.trans (hb2.mono hbl.out.size)
      have hrow2 := Lib.hid (own_below hR.out.row hbr.out)
      have hO2 : Hid (OwnD w2 w1.heap.size (ps ++ [⟨kd, nu, is, A2', c2', fs⟩])) := (hR.out.fields.below hbr.out).snoc (by
        simp only; rw [hm.out]
        exact own_mono_base ho2 (Nat.le_trans hB0.out.size hbl.out.size))
      have hB2 : Hid (Below w1.heap.size w1 w2) := hB0.out.trans (hbr.out.mono hB0.out.size)
      have hone : Hid (∀ u ∈ (#[.int .i64 kd, .string nu, .string is, .slice A2' m c2'] : Array Value).toList, u.oneCell' = true) := by intro u hu; simp at hu; rcases hu with rfl | rfl | rfl | rfl <;> rfl
      have hq1 : Hid (ps.length + 1 ≤ maxLen) := by have := hpl.out; unfold Hid maxLen; omega
      have hq2 : Hid ((ps.length + 1) * 64 ≤ 140737488355328) := by have := hpl.out; unfold Hid; omega
      have hsz : Hid (w1.heap.size ≤ (w2.alloc (.cells #[.int .i64 kd, .string nu, .string is, .slice A2' m c2'] 32)).heap.size) := Nat.le_trans hB2.out.size (by simp)
      clear ho2 hb2 h0 h1 h2 h3 x0 x1 x2 x3
      go_wp2_with (at_builtin; go_must (refine wpList_app3 w1.heap.size rfl (.tmp 23) (.tmp 26) 42 rfl 32 i0 _ 4 64 Tryz.underlying42 hi hz0 hz1 hz2 rfl (by decide) (.slice Av ps.length cw) ps.length (ps.flatMap encD) rfl w2.heap.size 1 #[.int .i64 kd, .string nu, .string is, .slice A2' m c2'] rfl (hrow2.out.alloc _) (Blk.new w2 32 _) rfl hone.out hq1.out hq2.out hsz.out ?_); intro v5 w5 ho5 hb5 hg5)
      have hR5 : Hid (Rowd w1.heap.size w1 w5 v5 (ps ++ [⟨kd, nu, is, A2', c2', fs⟩])) := by
        refine ⟨?_, docs_snoc hrow2.out hO2.out hg5, (hB2.out.alloc hB2.out.size _).trans hb5⟩
        rw [List.flatMap_append, List.length_append]
        simpa [encD, hm.out] using ho5
      clear ho5 hb5 hg5
      go_roundw
      case rel =>
        refine ⟨k + 1, _, by omega, by go_num, by have := hpl.out; unfold Hid; simp; omega, ?_, hR5⟩
        unfold Hid
        rw [List.map_append, hpm.out, htk.out]
        simp [Pap.pl]
      case measure => simp [intOf]; omega
    · have e : k = n := by omega
      have eT : l.take k = l := List.take_of_length_le (by have := hl.out; omega)
      rw [eT] at hpm
      have hkr := Lib.hid (hk1.out.below hB0.out hk1.out.lt)
      have hc7 : wr.cell? ⟨w.heap.size, 7, none⟩ = some (.string fr) := (hkr.out.cell 7).trans hD7.out
      have hcall := Lib.hid (hp4.out wr (hB1.out.trans (hB0.out.mono hB1.out.size)))
      clear eT e
      go_wp2_with (refine wpList_get_blk rfl 26 _ rfl w.heap.size D 26 _ rfl hkr.out Tryz.underlying26 rfl (by rw [hDs.out]; kernel_rfl) ?_)
      refine hcall.out.mono ?_
      rintro e w2 ⟨A2', c2', rfl, ho2, hb2⟩
      have hrow2 := Lib.hid (own_below hR.out.row hb2)
      have hO2 : Hid (OwnD w2 w1.heap.size (ps ++ [⟨4, n4, i4, A2', c2', F4⟩])) := (hR.out.fields.below hb2).snoc (by
        simp only; rw [hl4.out]
        exact own_mono_base ho2 hB0.out.size)
      have hB2 : Hid (Below w1.heap.size w1 w2) := hB0.out.trans (hb2.mono hB0.out.size)
      have hone : Hid (∀ u ∈ (#[.int .i64 4, .string n4, .string i4, .slice A2' 3 c2'] : Array Value).toList, u.oneCell' = true) := by intro u hu; simp at hu; rcases hu with rfl | rfl | rfl | rfl <;> rfl
      have hq1 : Hid (ps.length + 1 ≤ maxLen) := by have := hpl.out; unfold Hid maxLen; omega
      have hq2 : Hid ((ps.length + 1) * 64 ≤ 140737488355328) := by have := hpl.out; unfold Hid; omega
      have hsz : Hid (w1.heap.size ≤ (w2.alloc (.cells #[.int .i64 4, .string n4, .string i4, .slice A2' 3 c2'] 32)).heap.size) := Nat.le_trans hB2.out.size (by simp)
      clear ho2 hb2 hc7
      go_wp2_with (at_builtin; go_must (refine wpList_app3 w1.heap.size rfl (.tmp 29) (.tmp 34) 42 rfl 32 i0 _ 4 64 Tryz.underlying42 hi hz0 hz1 hz2 rfl (by decide) (.slice Av ps.length cw) ps.length (ps.flatMap encD) rfl w2.heap.size 1 #[.int .i64 4, .string n4, .string i4, .slice A2' 3 c2'] rfl (hrow2.out.alloc _) (Blk.new w2 32 _) rfl hone.out hq1.out hq2.out hsz.out ?_); intro v5 w5 ho5 hb5 hg5)
      have hR5 : Hid (Rowd w1.heap.size w1 w5 v5 (ps ++ [⟨4, n4, i4, A2', c2', F4⟩])) := by
        refine ⟨?_, docs_snoc hrow2.out hO2.out hg5, (hB2.out.alloc hB2.out.size _).trans hb5⟩
        rw [List.flatMap_append, List.length_append]
        simpa [encD, hl4.out] using ho5
      clear ho5 hb5 hg5
      go_ret
      refine ⟨_, rfl, _, own_mono_base hR5.out.row hB1.out.size, fun p hp => own_mono_base (hR5.out.fields p hp) hB1.out.size, ?_, hB1.out.trans (hR5.out.below.mono hB1.out.size)⟩
      rw [List.map_append, hpm.out, hP3p.out]
      rfl
end Go.Proofs.YtnmnknkdnjkpjaaGreatDoor

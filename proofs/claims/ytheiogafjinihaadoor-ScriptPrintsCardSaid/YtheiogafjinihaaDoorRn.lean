/- The document's Line, walked: all kinds. -/
import Derived.Test.YtheiogafjinihaaDoorRm
import Derived.Test.YtheiogafjinihaaDoorGx
namespace Go.Proofs.YtheiogafjinihaaDoor
open Go Go.RowKit Go.BigFrame Go.Maps

/-- The row of the acts' words. -/
def ActsV : Ty := fun v W => ∃ g, v = .slice (some ⟨g, 0, none⟩) 12 12 ∧ Blk W g 9 actsA
theorem mono_ActsV : MonoT ActsV := fun _ _ _ ⟨g, e, h⟩ hb => ⟨g, e, h.below hb h.lt⟩
def ActV (ka : Nat) : Ty := fun v W => ∃ g, v = .pointer (some ⟨g, ka, none⟩) ∧ Blk W g 9 actsA
theorem mono_ActV {ka : Nat} : MonoT (ActV ka) := fun _ _ _ ⟨g, e, h⟩ hb => ⟨g, e, h.below hb h.lt⟩
theorem cat_run (x y : ByteArray) (h : x.size + y.size ≤ 1000000) : ∃ z, Hid (x ++ y = z) ∧ z.size = x.size + y.size ∧ ∀ W, (Op.stringOp .add x y).run Tryd.prog W = .ok (.string z) W :=
  ⟨_, rfl, ByteArray.size_append, fun _ => run_string_add_sum _ x y (by omega)⟩
def tyLn (w : World) (ka : Nat) (an : Int) (pb : ByteArray) (db : ByteArray) (ab : ByteArray) (ib : ByteArray) (s14 : ByteArray) (s15 : ByteArray) (s22 : ByteArray) (s23 : ByteArray) (s27 : ByteArray) (s28 : ByteArray) (s33 : ByteArray) : List Ty := [Is (.pointer (some ⟨w.heap.size, 2, none⟩)), Is (.string pb), Is (.string s14), Is (.string s15), (ActsV), Is (.pointer (some ⟨w.heap.size, 3, none⟩)), Is (.pointer (some ⟨w.heap.size, 3, none⟩)), Is (.int .i64 (ka : Int)), (ActV ka), Is (.string ab), Is (.string s22), Is (.string s23), Is (.pointer (some ⟨w.heap.size, 3, none⟩)), Is (.pointer (some ⟨w.heap.size, 5, none⟩)), Is (.string db), Is (.string s27), Is (.string s28), Is (.pointer (some ⟨w.heap.size, 3, none⟩)), Is (.pointer (some ⟨w.heap.size, 4, none⟩)), Is (.int .i64 an), Is (.string ib), Is (.string s33)]
theorem tyLn_mono (w : World) (ka : Nat) (an : Int) (pb : ByteArray) (db : ByteArray) (ab : ByteArray) (ib : ByteArray) (s14 : ByteArray) (s15 : ByteArray) (s22 : ByteArray) (s23 : ByteArray) (s27 : ByteArray) (s28 : ByteArray) (s33 : ByteArray) : MonoL (tyLn w ka an pb db ab ib s14 s15 s22 s23 s27 s28 s33) := ⟨mono_is _, mono_is _, mono_is _, mono_is _, mono_ActsV, mono_is _, mono_is _, mono_is _, mono_ActV, mono_is _, mono_is _, mono_is _, mono_is _, mono_is _, mono_is _, mono_is _, mono_is _, mono_is _, mono_is _, mono_is _, mono_is _, mono_is _, trivial⟩
set_option maxRecDepth 100000 in
set_option maxHeartbeats 3200000 in
theorem line_act (n an : Int) (ka : Nat) (p d : List UInt8) (w : World) (hn0 : -9223372036854775808 ≤ n) (hn1 : n ≤ 9223372036854775807) (ha0 : -9223372036854775808 ≤ an) (ha1 : an ≤ 9223372036854775807) (hp : p.length ≤ 100) (hd : d.length ≤ 100) (ha : ka < 12) :
    Calls Tryd.prog 26 #[.agg #[.int .i64 0, .int .i64 n, .string ⟨p.toArray⟩, .int .i64 (ka : Int), .int .i64 an, .string ⟨d.toArray⟩]] w fun e w' => e = .returned (.string ⟨(lineD ⟨0, n, p, ka, an, d⟩).toArray⟩) ∧ Below w.heap.size w w' := by
  have hil : (Lib.itoa an).length ≤ 20 := ritoa_len ha0 ha1
  have hiln : (Lib.itoa n).length ≤ 20 := ritoa_len hn0 hn1
  have hszn : (⟨(Lib.itoa n).toArray⟩ : ByteArray).size = (Lib.itoa n).length := by simp [ByteArray.size]
  obtain ⟨ac, hac⟩ : ∃ l, actsL.getD ka [] = l := ⟨_, rfl⟩
  have hal : ac.length ≤ 100 := by
    rw [← hac]
    have : ∀ q : Fin 12, (actsL.getD q.val []).length ≤ 100 := by decide
    exact this ⟨ka, ha⟩
  have hag0 := actsA_get ka ha
  rw [hac] at hag0
  have hres : (⟨(lineD ⟨0, n, p, ka, an, d⟩).toArray⟩ : ByteArray) = (((((((⟨#[97, 99, 116, 32]⟩ ++ ⟨p.toArray⟩) ++ ⟨#[32]⟩) ++ ⟨ac.toArray⟩) ++ ⟨#[32]⟩) ++ ⟨d.toArray⟩) ++ ⟨#[32]⟩) ++ ⟨(Lib.itoa an).toArray⟩) := by
    symm
    refine bytes_eq ?_
    have hac2 : actsL[ka]?.getD [] = ac := by simpa using hac
    simp [lineD, wAct, hac2]
  obtain ⟨pb, hpb⟩ : ∃ b : ByteArray, (⟨p.toArray⟩ : ByteArray) = b := ⟨_, rfl⟩
  obtain ⟨db, hdb⟩ : ∃ b : ByteArray, (⟨d.toArray⟩ : ByteArray) = b := ⟨_, rfl⟩
  obtain ⟨ab, hab⟩ : ∃ b : ByteArray, (⟨ac.toArray⟩ : ByteArray) = b := ⟨_, rfl⟩
  obtain ⟨ib, hib⟩ : ∃ b : ByteArray, (⟨(Lib.itoa an).toArray⟩ : ByteArray) = b := ⟨_, rfl⟩
  have zp : pb.size ≤ 100 := by rw [← hpb]; simpa [ByteArray.size] using hp
  have zd : db.size ≤ 100 := by rw [← hdb]; simpa [ByteArray.size] using hd
  have za : ab.size ≤ 100 := by rw [← hab]; simpa [ByteArray.size] using hal
  have zi : ib.size ≤ 20 := by rw [← hib]; simpa [ByteArray.size] using hil
  have zc : (⟨#[97, 99, 116, 32]⟩ : ByteArray).size = 4 := rfl
  have zb : (⟨#[32]⟩ : ByteArray).size = 1 := rfl
  rw [hres, hpb, hdb, hab, hib]
  rw [hab] at hag0
  have hag : Hid (actsA[ka]? = some (.string ab)) := hag0
  have hdg2 : Hid (∀ W, Calls Tryd.prog 51 #[.int .i64 an] W fun e w' => e = .returned (.string ib) ∧ Below W.heap.size W w') := by
    intro W
    rw [← hib]
    exact dig_any an W ha0 ha1
  obtain ⟨s14, hq14, hz14, hs14⟩ := cat_run ⟨#[97, 99, 116, 32]⟩ pb (by omega)
  obtain ⟨s15, hq15, hz15, hs15⟩ := cat_run s14 ⟨#[32]⟩ (by omega)
  obtain ⟨s22, hq22, hz22, hs22⟩ := cat_run s15 ab (by omega)
  obtain ⟨s23, hq23, hz23, hs23⟩ := cat_run s22 ⟨#[32]⟩ (by omega)
  obtain ⟨s27, hq27, hz27, hs27⟩ := cat_run s23 db (by omega)
  obtain ⟨s28, hq28, hz28, hs28⟩ := cat_run s27 ⟨#[32]⟩ (by omega)
  obtain ⟨s33, hq33, hz33, hs33⟩ := cat_run s28 ib (by omega)
  rw [hq14.out, hq15.out, hq22.out, hq23.out, hq27.out, hq28.out, hq33.out]
  clear hres hpb hdb hab hib hag0 hac hal hil hz14 hz15 hz22 hz23 hz27 hz28 hz33 hq14 hq15 hq22 hq23 hq27 hq28 hq33 zc zb zi za hp hd zp zd
  obtain ⟨w1, hw1⟩ : ∃ W, Hid (w.alloc (.cells #[.int .i64 0, .int .i64 n, .string pb, .int .i64 (ka : Int), .int .i64 an, .string db] 49) = W) := ⟨_, rfl⟩
  have hb1 : Hid (Below w.heap.size w w1) := by rw [← hw1.out]; exact (Below.refl _ w).alloc (Nat.le_refl _) _
  have hx1 : Hid (Blk w1 w.heap.size 49 #[.int .i64 0, .int .i64 n, .string pb, .int .i64 (ka : Int), .int .i64 an, .string db]) := by rw [← hw1.out]; exact Lib.hid (Blk.new _ _ _)
  have c1 : w1.cell? ⟨w.heap.size, 1, none⟩ = some (.int .i64 n) := hx1.out.cell 1
  have hdg := Lib.hid (dig_any n w1 hn0 hn1)
  go_enter Tryd.func26, Tryd.ntmps26
  go_wp2_with (rw [hw1.out])
  refine hdg.out.mono ?_
  rintro e w2 ⟨rfl, hb2⟩
  have hx2 := Lib.hid (hx1.out.below hb2 hx1.out.lt)
  have hB2 : Hid (Below w.heap.size w w2) := hb1.out.trans (hb2.mono hb1.out.size)
  clear hdg hb2 c1
  have c0 : w2.cell? ⟨w.heap.size, 0, none⟩ = some (.int .i64 0) := hx2.out.cell 0
  have i1 : (0 : Int) ≤ (ka : Int) := by omega
  have i2 : (ka : Int) < 12 := by omega
  have hkeep := hs14
  go_wp2_with fail
  refine wp_region_any (by kernel_rfl) ?_
  refine wpAny_body 63 (List.range 22) [22] 22 [(0, some 12), (1, some 13), (2, some 14), (3, some 15), (4, some 16), (5, some 17), (6, some 18), (7, some 19), (8, some 20), (9, some 21), (10, some 22), (11, some 23), (12, some 24), (13, some 25), (14, some 26), (15, some 27), (16, some 28), (17, some 29), (18, some 30), (19, some 31), (20, some 32), (21, some 33)] (Array.replicate 23 false) (Array.replicate 22 true ++ Array.replicate 1 false) (fun a b => Below a.heap.size a b) (fun i => (tyLn w ka an pb db ab ib s14 s15 s22 s23 s27 s28 s33).getD i (fun _ _ => True)) (by kernel_rfl) rfl rfl (Below.refl _ _) (fun _ _ _ h k => h.trans (k.mono h.size)) (fun i v W W' h hb => mono_at (tyLn_mono w ka an pb db ab ib s14 s15 s22 s23 s27 s28 s33) i h hb) ?step ?fin _ rfl
  case step =>
    refine allB_cons (i := 0) rfl (fun a W hl K hK => ?_) ?_
    · have t1 : a.tmps.getD 1 undef = .pointer (some ⟨w.heap.size, 0, none⟩) := hl.old 1 (by kernel_rfl)
      exact held_value (v := .pointer (some ⟨w.heap.size, 2, none⟩)) (w' := W) rfl rfl (by go_simp) (hK _ _ (Below.refl _ _) rfl)
    refine allB_cons (i := 1) rfl (fun a W hl K hK => ?_) ?_
    · have t12 : Is (.pointer (some ⟨w.heap.size, 2, none⟩)) (a.tmps.getD 12 undef) W := hl.at_ 0 12 (by kernel_rfl)
      unfold Is at t12
      have hbX : Blk W (w.heap.size) 49 #[.int .i64 0, .int .i64 n, .string pb, .int .i64 (ka : Int), .int .i64 an, .string db] := hx2.out.drew.below hl.world hx2.out.drew.lt
      have cc : W.cell? ⟨w.heap.size, 2, none⟩ = some (.string pb) := (hbX.cell 2).trans rfl
      exact held_value (v := .string pb) (w' := W) rfl rfl (by go_simp) (hK _ _ (Below.refl _ _) rfl)
    refine allB_cons (i := 2) rfl (fun a W hl K hK => ?_) ?_
    · have t13 : Is (.string pb) (a.tmps.getD 13 undef) W := hl.at_ 1 13 (by kernel_rfl)
      unfold Is at t13
      have hc := hs14 W
      exact held_value (v := .string s14) (w' := W) rfl rfl (by go_simp) (hK _ _ (Below.refl _ _) rfl)
    refine allB_cons (i := 3) rfl (fun a W hl K hK => ?_) ?_
    · have t14 : Is (.string s14) (a.tmps.getD 14 undef) W := hl.at_ 2 14 (by kernel_rfl)
      unfold Is at t14
      have hc := hs15 W
      exact held_value (v := .string s15) (w' := W) rfl rfl (by go_simp) (hK _ _ (Below.refl _ _) rfl)
    refine allB_cons (i := 4) rfl (fun a W hl K hK => ?_) ?_
    · refine held_call (f := 52) (args := #[]) (w := W) rfl rfl (by go_simp) ?_
      refine (acts_any W).mono ?_
      rintro e w' ⟨rfl, hA, hb⟩
      exact ⟨_, rfl, hK _ _ hb ⟨_, rfl, hA⟩⟩
    refine allB_cons (i := 5) rfl (fun a W hl K hK => ?_) ?_
    · have t1 : a.tmps.getD 1 undef = .pointer (some ⟨w.heap.size, 0, none⟩) := hl.old 1 (by kernel_rfl)
      exact held_value (v := .pointer (some ⟨w.heap.size, 3, none⟩)) (w' := W) rfl rfl (by go_simp) (hK _ _ (Below.refl _ _) rfl)
    refine allB_cons (i := 6) rfl (fun a W hl K hK => ?_) ?_
    · have t17 : Is (.pointer (some ⟨w.heap.size, 3, none⟩)) (a.tmps.getD 17 undef) W := hl.at_ 5 17 (by kernel_rfl)
      unfold Is at t17
      exact held_value (v := .pointer (some ⟨w.heap.size, 3, none⟩)) (w' := W) rfl rfl (by go_simp) (hK _ _ (Below.refl _ _) rfl)
    refine allB_cons (i := 7) rfl (fun a W hl K hK => ?_) ?_
    · have t18 : Is (.pointer (some ⟨w.heap.size, 3, none⟩)) (a.tmps.getD 18 undef) W := hl.at_ 6 18 (by kernel_rfl)
      unfold Is at t18
      have hbX : Blk W (w.heap.size) 49 #[.int .i64 0, .int .i64 n, .string pb, .int .i64 (ka : Int), .int .i64 an, .string db] := hx2.out.drew.below hl.world hx2.out.drew.lt
      have cc : W.cell? ⟨w.heap.size, 3, none⟩ = some (.int .i64 (ka : Int)) := (hbX.cell 3).trans rfl
      exact held_value (v := .int .i64 (ka : Int)) (w' := W) rfl rfl (by go_simp) (hK _ _ (Below.refl _ _) rfl)
    refine allB_cons (i := 8) rfl (fun a W hl K hK => ?_) ?_
    · have t16 : ActsV (a.tmps.getD 16 undef) W := hl.at_ 4 16 (by kernel_rfl)
      have t19 : Is (.int .i64 (ka : Int)) (a.tmps.getD 19 undef) W := hl.at_ 7 19 (by kernel_rfl)
      unfold Is at t19
      obtain ⟨g, e1, hg⟩ := t16
      simp only [Array.getD_eq_getD_getElem?] at e1
      exact held_value (v := .pointer (some ⟨g, ka, none⟩)) (w' := W) rfl rfl (by go_simp) (hK _ _ (Below.refl _ _) ⟨g, rfl, hg⟩)
    refine allB_cons (i := 9) rfl (fun a W hl K hK => ?_) ?_
    · have t20 : ActV ka (a.tmps.getD 20 undef) W := hl.at_ 8 20 (by kernel_rfl)
      obtain ⟨g, e1, hg⟩ := t20
      simp only [Array.getD_eq_getD_getElem?] at e1
      have cc : W.cell? ⟨g, ka, none⟩ = some (.string ab) := (hg.cell ka).trans hag.out
      exact held_value (v := .string ab) (w' := W) rfl rfl (by go_simp) (hK _ _ (Below.refl _ _) rfl)
    refine allB_cons (i := 10) rfl (fun a W hl K hK => ?_) ?_
    · have t15 : Is (.string s15) (a.tmps.getD 15 undef) W := hl.at_ 3 15 (by kernel_rfl)
      unfold Is at t15
      have t21 : Is (.string ab) (a.tmps.getD 21 undef) W := hl.at_ 9 21 (by kernel_rfl)
      unfold Is at t21
      have hc := hs22 W
      exact held_value (v := .string s22) (w' := W) rfl rfl (by go_simp) (hK _ _ (Below.refl _ _) rfl)
    refine allB_cons (i := 11) rfl (fun a W hl K hK => ?_) ?_
    · have t22 : Is (.string s22) (a.tmps.getD 22 undef) W := hl.at_ 10 22 (by kernel_rfl)
      unfold Is at t22
      have hc := hs23 W
      exact held_value (v := .string s23) (w' := W) rfl rfl (by go_simp) (hK _ _ (Below.refl _ _) rfl)
    refine allB_cons (i := 12) rfl (fun a W hl K hK => ?_) ?_
    · have t1 : a.tmps.getD 1 undef = .pointer (some ⟨w.heap.size, 0, none⟩) := hl.old 1 (by kernel_rfl)
      exact held_value (v := .pointer (some ⟨w.heap.size, 3, none⟩)) (w' := W) rfl rfl (by go_simp) (hK _ _ (Below.refl _ _) rfl)
    refine allB_cons (i := 13) rfl (fun a W hl K hK => ?_) ?_
    · have t24 : Is (.pointer (some ⟨w.heap.size, 3, none⟩)) (a.tmps.getD 24 undef) W := hl.at_ 12 24 (by kernel_rfl)
      unfold Is at t24
      exact held_value (v := .pointer (some ⟨w.heap.size, 5, none⟩)) (w' := W) rfl rfl (by go_simp) (hK _ _ (Below.refl _ _) rfl)
    refine allB_cons (i := 14) rfl (fun a W hl K hK => ?_) ?_
    · have t25 : Is (.pointer (some ⟨w.heap.size, 5, none⟩)) (a.tmps.getD 25 undef) W := hl.at_ 13 25 (by kernel_rfl)
      unfold Is at t25
      have hbX : Blk W (w.heap.size) 49 #[.int .i64 0, .int .i64 n, .string pb, .int .i64 (ka : Int), .int .i64 an, .string db] := hx2.out.drew.below hl.world hx2.out.drew.lt
      have cc : W.cell? ⟨w.heap.size, 5, none⟩ = some (.string db) := (hbX.cell 5).trans rfl
      exact held_value (v := .string db) (w' := W) rfl rfl (by go_simp) (hK _ _ (Below.refl _ _) rfl)
    refine allB_cons (i := 15) rfl (fun a W hl K hK => ?_) ?_
    · have t23 : Is (.string s23) (a.tmps.getD 23 undef) W := hl.at_ 11 23 (by kernel_rfl)
      unfold Is at t23
      have t26 : Is (.string db) (a.tmps.getD 26 undef) W := hl.at_ 14 26 (by kernel_rfl)
      unfold Is at t26
      have hc := hs27 W
      exact held_value (v := .string s27) (w' := W) rfl rfl (by go_simp) (hK _ _ (Below.refl _ _) rfl)
    refine allB_cons (i := 16) rfl (fun a W hl K hK => ?_) ?_
    · have t27 : Is (.string s27) (a.tmps.getD 27 undef) W := hl.at_ 15 27 (by kernel_rfl)
      unfold Is at t27
      have hc := hs28 W
      exact held_value (v := .string s28) (w' := W) rfl rfl (by go_simp) (hK _ _ (Below.refl _ _) rfl)
    refine allB_cons (i := 17) rfl (fun a W hl K hK => ?_) ?_
    · have t1 : a.tmps.getD 1 undef = .pointer (some ⟨w.heap.size, 0, none⟩) := hl.old 1 (by kernel_rfl)
      exact held_value (v := .pointer (some ⟨w.heap.size, 3, none⟩)) (w' := W) rfl rfl (by go_simp) (hK _ _ (Below.refl _ _) rfl)
    refine allB_cons (i := 18) rfl (fun a W hl K hK => ?_) ?_
    · have t29 : Is (.pointer (some ⟨w.heap.size, 3, none⟩)) (a.tmps.getD 29 undef) W := hl.at_ 17 29 (by kernel_rfl)
      unfold Is at t29
      exact held_value (v := .pointer (some ⟨w.heap.size, 4, none⟩)) (w' := W) rfl rfl (by go_simp) (hK _ _ (Below.refl _ _) rfl)
    refine allB_cons (i := 19) rfl (fun a W hl K hK => ?_) ?_
    · have t30 : Is (.pointer (some ⟨w.heap.size, 4, none⟩)) (a.tmps.getD 30 undef) W := hl.at_ 18 30 (by kernel_rfl)
      unfold Is at t30
      have hbX : Blk W (w.heap.size) 49 #[.int .i64 0, .int .i64 n, .string pb, .int .i64 (ka : Int), .int .i64 an, .string db] := hx2.out.drew.below hl.world hx2.out.drew.lt
      have cc : W.cell? ⟨w.heap.size, 4, none⟩ = some (.int .i64 an) := (hbX.cell 4).trans rfl
      exact held_value (v := .int .i64 an) (w' := W) rfl rfl (by go_simp) (hK _ _ (Below.refl _ _) rfl)
    refine allB_cons (i := 20) rfl (fun a W hl K hK => ?_) ?_
    · have t31 : Is (.int .i64 an) (a.tmps.getD 31 undef) W := hl.at_ 19 31 (by kernel_rfl)
      unfold Is at t31
      refine held_call (f := 51) (args := #[.int .i64 an]) (w := W) rfl rfl (by go_simp) ?_
      refine (hdg2.out W).mono ?_
      rintro e w' ⟨rfl, hb⟩
      exact ⟨_, rfl, hK _ _ hb rfl⟩
    refine allB_cons (i := 21) rfl (fun a W hl K hK => ?_) ?_
    · have t28 : Is (.string s28) (a.tmps.getD 28 undef) W := hl.at_ 16 28 (by kernel_rfl)
      unfold Is at t28
      have t32 : Is (.string ib) (a.tmps.getD 32 undef) W := hl.at_ 20 32 (by kernel_rfl)
      unfold Is at t32
      have hc := hs33 W
      exact held_value (v := .string s33) (w' := W) rfl rfl (by go_simp) (hK _ _ (Below.refl _ _) rfl)
    exact allB_nil
  case fin =>
    intro vs W hR hG
    have hv : vs 21 = .string s33 := hG 21 (by decide)
    have hBW : Hid (Below w.heap.size w W) := hB2.out.trans (((Below.refl _ w2).drew.trans hR).mono hB2.out.size)
    clear hG hR
    simp only [putD, Act.put, List.setIfInBounds_toArray, List.set_cons_zero, List.set_cons_succ, hv]
    refine wpAny_next 22 (by kernel_rfl) ?_
    refine held_value (v := .string s33) (w' := W) rfl rfl (by go_simp) ?_
    refine wpAny_end (by kernel_rfl) ?_
    simp only [Act.put, List.getElem_toArray, List.getElem_cons_zero, List.getElem_cons_succ]
    go_wp2_with fail
    go_ret
    exact ⟨rfl, hBW.out⟩
theorem rightB_act {x : Stp} (hk : x.kind = 0) (h : rightB x = true) : 0 ≤ x.akind ∧ x.akind ≤ 11 := by
  unfold rightB at h
  rw [if_pos hk] at h
  simp only [Bool.and_eq_true, decide_eq_true_eq] at h
  exact h.1.2
theorem rightB_kind {x : Stp} (h : rightB x = true) : x.kind = 0 ∨ x.kind = 1 ∨ x.kind = 2 ∨ x.kind = 3 ∨ x.kind = 4 ∨ x.kind = 5 ∨ x.kind = 6 ∨ x.kind = 7 := by
  unfold rightB at h
  split at h
  · omega
  · split at h
    · omega
    · split at h
      · omega
      · split at h
        · omega
        · split at h
          · omega
          · cases h
theorem line_any (x : Stp) (w : World) (hx : Hid (Fine x)) (hs : shortS x = true) (hr : rightB x = true) :
    Calls Tryd.prog 26 #[.agg x.cells] w fun e w' => e = .returned (.string ⟨(lineD x).toArray⟩) ∧ Below w.heap.size w w' := by
  rcases rightB_kind hr with hk | hk
  · have ha := rightB_act hk hr
    obtain ⟨k, n, p, ak, an, d⟩ := x
    simp only at hk ha
    subst hk
    obtain ⟨a, rfl⟩ := Int.eq_ofNat_of_zero_le ha.1
    have hp : p.length ≤ 100 := by unfold shortS at hs; simp at hs; omega
    have hd : d.length ≤ 100 := by unfold shortS at hs; simp at hs; omega
    exact line_act n an a p d w hx.out.n0 hx.out.n1 hx.out.an0 hx.out.an1 hp hd (by omega)
  · exact line_most x w hx hs hk
end Go.Proofs.YtheiogafjinihaaDoor

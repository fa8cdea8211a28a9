/- The walk of the program's Text. -/
import Derived.Test.YtbpngfppddigjaaGreatDoorD
import Derived.Deep.RegionWith
import Derived.Deep.DeepCutAuto
namespace Go.Proofs.YtbpngfppddigjaaGreatDoor
open Go Go.RowKit Go.BigFrame

def smallF (l : List Flt) : Prop := ∀ x ∈ l, -9223372036854775808 ≤ x.paper ∧ x.paper ≤ 9223372036854775807 ∧ x.field.size ≤ 1100000
structure Words (w : World) (bf bw : Nat) (x : Flt) (a b c d : List UInt8) : Prop where
  flt : Blk w bf 40 #[.int .i64 x.paper, .int .i64 x.kind, .string x.field, .int .i64 x.why]
  wrd : Blk w bw 62 #[.string (mkB a), .string (mkB b), .string (mkB c), .string (mkB d)]
  ne : bf ≠ bw
theorem Words.below {w w' : World} {bf bw : Nat} {x : Flt} {a b c d : List UInt8} (h : Words w bf bw x a b c d) (hb : Below w.heap.size w w') : Words w' bf bw x a b c d :=
  ⟨h.flt.below hb h.flt.lt, h.wrd.below hb h.wrd.lt, h.ne⟩


theorem dec_yes {p q : Prop} [Decidable p] [Decidable q] (h : p) : decide q = decide (p ∧ q) := by simp [h]
theorem dec_no {p q : Prop} [Decidable p] [Decidable q] (h : ¬ p) : false = decide (p ∧ q) := by simp [h]
theorem grown_set (W : World) (b o : Nat) (v : Value) : W.grownBy (W.setCell ⟨b, o, none⟩ v) (some b) :=
  ⟨rfl, rfl, rfl, by simp [World.setCell], fun k _ hk => Below.heap_setCell _ _ _ _ (fun e => hk (by rw [e]))⟩
theorem own_set {W : World} {B n g o : Nat} {e t : TypeId} {size : Nat} {v u : Value} {xs : List Value} {cs : Array Value} (h : W.ownsRow B e size v n xs) (hg : Blk W g t cs) (hne : e ≠ t) : (W.setCell ⟨g, o, none⟩ u).ownsRow B e size v n xs :=
  h.kept (grown_set W g o u) (.inr (own_blk_ne h hg hne))
section
variable {w0 w : World} {bf bw B k : Nat} {x : Flt} {a b c d : List UInt8} {v : Value} {xs : List Value}
def Stage (B k : Nat) (w0 w : World) (bf bw : Nat) (x : Flt) (v : Value) (xs : List Value) (a b c d : List UInt8) : Prop :=
  Words w bf bw x a b c d ∧ w.ownsRow B 9 1 v k xs ∧ Below B w0 w
theorem Stage.below {w' : World} (h : Stage B k w0 w bf bw x v xs a b c d) (hb : Below w.heap.size w w') (hB : B ≤ w.heap.size) : Stage B k w0 w' bf bw x v xs a b c d :=
  ⟨h.1.below hb, own_below h.2.1 hb, h.2.2.trans (hb.mono hB)⟩
theorem Stage.size (h : Stage B k w0 w bf bw x v xs a b c d) : w0.heap.size ≤ w.heap.size := h.2.2.size
theorem Stage.set0 (h : Stage B k w0 w bf bw x v xs a b c d) (hB : B ≤ bw) (s : List UInt8) : Stage B k w0 (w.setCell ⟨bw, 0, none⟩ (.string (mkB s))) bf bw x v xs s b c d :=
  ⟨⟨h.1.flt.far h.1.ne _, by simpa using h.1.wrd.set_ 0 (.string (mkB s)), h.1.ne⟩, own_set h.2.1 h.1.wrd (by decide), h.2.2.setCell hB _⟩
theorem Stage.set1 (h : Stage B k w0 w bf bw x v xs a b c d) (hB : B ≤ bw) (s : List UInt8) : Stage B k w0 (w.setCell ⟨bw, 1, none⟩ (.string (mkB s))) bf bw x v xs a s c d :=
  ⟨⟨h.1.flt.far h.1.ne _, by simpa using h.1.wrd.set_ 1 (.string (mkB s)), h.1.ne⟩, own_set h.2.1 h.1.wrd (by decide), h.2.2.setCell hB _⟩
theorem Stage.set2 (h : Stage B k w0 w bf bw x v xs a b c d) (hB : B ≤ bw) (s : List UInt8) : Stage B k w0 (w.setCell ⟨bw, 2, none⟩ (.string (mkB s))) bf bw x v xs a b s d :=
  ⟨⟨h.1.flt.far h.1.ne _, by simpa using h.1.wrd.set_ 2 (.string (mkB s)), h.1.ne⟩, own_set h.2.1 h.1.wrd (by decide), h.2.2.setCell hB _⟩
theorem Stage.set3 (h : Stage B k w0 w bf bw x v xs a b c d) (hB : B ≤ bw) (s : List UInt8) : Stage B k w0 (w.setCell ⟨bw, 3, none⟩ (.string (mkB s))) bf bw x v xs a b c s :=
  ⟨⟨h.1.flt.far h.1.ne _, by simpa using h.1.wrd.set_ 3 (.string (mkB s)), h.1.ne⟩, own_set h.2.1 h.1.wrd (by decide), h.2.2.setCell hB _⟩
end
theorem dec_small (u : Nat) (h : u < 10) : Lib.decDigits u = [UInt8.ofNat (48 + u)] := by rw [Lib.decDigits, dif_pos h]
theorem dec_more (u : Nat) (h : ¬ u < 10) : Lib.decDigits u = Lib.decDigits (u / 10) ++ [UInt8.ofNat (48 + u % 10)] := by rw [Lib.decDigits, dif_neg h]
theorem dec_lenK : ∀ (k n : Nat), n < 10 ^ (k + 1) → (Lib.decDigits n).length ≤ k + 1
  | 0, n, h => by rw [dec_small n (by simpa using h)]; simp
  | k + 1, n, h => by
    by_cases h1 : n < 10
    · rw [dec_small n h1]; simp
    · rw [dec_more n h1, List.length_append]
      have := dec_lenK k (n / 10) (by rw [Nat.pow_succ] at h; omega)
      simp; omega
theorem itoa_len {n : Int} (h0 : -9223372036854775808 ≤ n) (h1 : n ≤ 9223372036854775807) : (Lib.itoa n).length ≤ 20 := by
  unfold Lib.itoa
  split
  · have := dec_lenK 18 n.natAbs (by simp; omega)
    simp; omega
  · have := dec_lenK 18 n.toNat (by simp; omega)
    omega
theorem kindL_len (n : Nat) : (kindL n).length ≤ 9 := by
  unfold kindL
  match n with
  | 0 | 1 | 2 | 3 | 4 | 5 => decide
  | n + 6 => simp
theorem whyL_len (n : Nat) : (whyL n).length ≤ 6 := by
  unfold whyL
  match n with
  | 0 | 1 | 2 | 3 | 4 | 5 | 6 => decide
  | n + 7 => simp
theorem paperT_len {x : Flt} (h0 : -9223372036854775808 ≤ x.paper) (h1 : x.paper ≤ 9223372036854775807) : (paperT x).length ≤ 20 := by
  unfold paperT
  split
  · simp [dash]
  · exact itoa_len h0 h1
theorem kindT_len (n : Int) : (kindT n).length ≤ 9 := by
  unfold kindT
  split
  · exact kindL_len _
  · simp [dash]
theorem whyT_len (n : Int) : (whyT n).length ≤ 6 := by
  unfold whyT
  split
  · exact whyL_len _
  · simp [dash]
theorem fieldT_len {s : ByteArray} (h : s.size ≤ 1100000) : (fieldT s).length ≤ 1100000 := by
  unfold fieldT
  split
  · simp [dash]
  · have : s.data.toList.length = s.size := by simp
    omega
theorem oneT_len {x : Flt} (h : -9223372036854775808 ≤ x.paper ∧ x.paper ≤ 9223372036854775807 ∧ x.field.size ≤ 1100000) : (oneT x).length ≤ 1100100 := by
  have h1 := paperT_len h.1 h.2.1
  have h2 := kindT_len x.kind
  have h3 := fieldT_len h.2.2
  have h4 := whyT_len x.why
  unfold oneT
  simp only [List.length_append, List.length_cons, List.length_nil]
  omega
theorem join_len (sep : List UInt8) (m : Nat) : ∀ (l : List (List UInt8)), (∀ x ∈ l, x.length ≤ m) → (Lib.join l sep).length ≤ l.length * (m + sep.length)
  | [], _ => by simp [Lib.join, List.intercalate]
  | [x], h => by have := h x (by simp); simp [Lib.join, List.intercalate]; omega
  | x :: y :: r, h => by
    have ih := join_len sep m (y :: r) (fun z hz => h z (by simp [hz]))
    have hx := h x (by simp)
    have e : Lib.join (x :: y :: r) sep = x ++ sep ++ Lib.join (y :: r) sep := by simp [Lib.join, List.intercalate, List.intersperse]
    rw [e]
    have e2 : (x :: y :: r).length * (m + sep.length) = (y :: r).length * (m + sep.length) + (m + sep.length) := Nat.succ_mul _ _
    rw [e2]
    simp only [List.length_append]
    omega
theorem textF_len {l : List Flt} (h : smallF l) : (textF l).length ≤ l.length * 1100102 := by
  have := join_len [59, 32] 1100100 (l.map oneT) (fun x hx => by
    obtain ⟨y, hy, rfl⟩ := List.mem_map.1 hx
    exact oneT_len (h y hy))
  simpa [textF] using this
theorem mkB_cat (a b : List UInt8) : mkB a ++ mkB b = mkB (a ++ b) := by
  apply ByteArray.ext; simp [mkB]

theorem words_cat (a b c d : List UInt8) : mkB a ++ ⟨#[32]⟩ ++ mkB b ++ ⟨#[32]⟩ ++ mkB c ++ ⟨#[32]⟩ ++ mkB d = mkB (a ++ [32] ++ b ++ [32] ++ c ++ [32] ++ d) := by
  apply ByteArray.ext; simp [mkB]
def StrsAt (w : World) (A : Option Addr) (l : List ByteArray) : Prop := ∀ k t, l[k]? = some t → ∃ b off, A = some ⟨b, off, none⟩ ∧ w.cell? ⟨b, off + k, none⟩ = some (.string t)
theorem own_strs {w : World} {base m : Nat} {v : Value} {l : List ByteArray} (h : w.ownsRow base 9 1 v m (l.map Value.string)) (hl : l.length = m) : ∃ A' c', v = .slice A' m c' ∧ m ≤ c' ∧ StrsAt w A' l := by
  rcases h.2 with ⟨rfl, rfl⟩ | ⟨g, cap, cur, rfl, _, _, hnc, _⟩
  · have : l = [] := List.eq_nil_of_length_eq_zero hl
    subst this
    exact ⟨_, _, rfl, Nat.le_refl _, by intro k x hk; simp at hk⟩
  · refine ⟨_, _, rfl, hnc, fun k t hk => ?_⟩
    refine ⟨g, 0, rfl, ?_⟩
    have := h.cells (g := g) rfl k (.string t) (by simp [hk])
    rwa [show Addr.add ⟨g, 0, none⟩ k = ⟨g, 0 + k, none⟩ by unfold Addr.add; split <;> simp_all] at this
theorem join_any (A : Option Addr) (n c : Nat) (l : List (List UInt8)) (w : World) (hl : l.length = n) (hA : StrsAt w A (l.map mkB)) (hc : n ≤ c) (hn : n ≤ 1000) (hlen : (Lib.join l [59, 32]).length ≤ 140737488355328) :
    Calls Tryz.prog 21 #[.slice A n c, .string ⟨#[59, 32]⟩] w fun e w' => e = .returned (.string (mkB (Lib.join l [59, 32]))) ∧ Below w.heap.size w w' := by
  subst hl
  have hm : (l.map mkB).map (fun x => x.data.toList) = l := by
    rw [List.map_map]
    have : ((fun (x : ByteArray) => x.data.toList) ∘ mkB) = id := by funext x; simp [mkB]
    rw [this]; simp
  match hll : l with
  | [] =>
    refine (Tryz.strings_Join_none A c ⟨#[59, 32]⟩ w).mono ?_
    rintro e w' ⟨rfl, rfl⟩
    exact ⟨rfl, Below.refl _ _⟩
  | x :: r =>
    rw [← hll]
    obtain ⟨b, off, rfl, h0⟩ := hA 0 (mkB x) (by rw [hll]; rfl)
    have := Tryz.strings_Join b off c (l.map mkB) ⟨#[59, 32]⟩ w (fun j y hj => by
      obtain ⟨b', off', e, h⟩ := hA j y hj
      simp only [Option.some.injEq, Addr.mk.injEq, and_true] at e
      obtain ⟨rfl, rfl⟩ := e
      exact h) (World.block_lt_of_cell? w _ h0) (by rw [List.length_map]; omega) (by rw [List.length_map]; exact hc) (by rw [hm]; exact hlen)
    rw [hm, List.length_map] at this
    exact this

set_option maxRecDepth 100000 in
set_option maxHeartbeats 1600000 in
theorem textE_any (A : Option Addr) (n c : Nat) (l : List Flt) (w : World) (hn : n ≤ 100) (hl : Hid (l.length = n)) (hA : Hid (FaultsAt w A l)) (hS : Hid (smallF l)) (he : Env w) :
    Calls Tryz.prog 10 #[.slice A n c] w fun e w' => e = .returned (.string (mkB (textF l))) ∧ Below w.heap.size w w' := by
  obtain ⟨i0, hi, hz0, hz1, hz2⟩ := info_parts Tryz.info9
  have he' := Lib.hid he
  clear he
  go_enter Tryz.func10, Tryz.ntmps10
  go_wp2_with ((at_make; refine wpList_make_own _ rfl _ _ 61 rfl w.heap.size 9 i0 (.string ⟨#[]⟩) 1 Tryz.underlying61 hi hz0 hz1 .i64 .i64 _ n rfl rfl rfl (by rw [hz2]; omega) (by unfold maxLen; omega) (Nat.le_refl _) ?_; intro w0 hown0 hgrow0))
  have hB0 : Below w.heap.size w w0 := (Below.refl _ _).grown hgrow0 (Nat.le_refl _) (by simp)
  have hown0' := Lib.hid hown0
  clear hown0 hgrow0
  go_loopg [3, 5, 6, 12] n (fun g v _ _ i wr => ∃ k : Nat, k ≤ n ∧ g = n - k ∧ i = .int .i64 k ∧ Hid (wr.ownsRow w.heap.size 9 1 v k (((l.take k).map fun x => mkB (oneT x)).map Value.string)) ∧ Below w.heap.size w wr)
  case atStart => exact ⟨0, Nat.zero_le _, by simp, rfl, by simpa using hown0', hB0⟩
  case round =>
    obtain ⟨k, hk, hg, rfl, hown, hB⟩ := hrel
    have hg' := Lib.hid hg
    clear hg
    by_cases hlt : k < n
    · obtain ⟨x, hx⟩ : ∃ x, l[k]? = some x := ⟨_, List.getElem?_eq_getElem (by have := hl.out; omega)⟩
      have hx' := Lib.hid hx
      clear hx
      obtain ⟨hp1, hp2, hfs⟩ := hS.out x (List.mem_of_getElem? hx'.out)
      have hfs' := Lib.hid hfs
      clear hfs
      obtain ⟨b, off, rfl, h0, h1, h2, h3⟩ := (hA.out.below hB) k x hx'.out
      obtain ⟨pp, kk, ff, ww⟩ := x
      simp only at h0 h1 h2 h3 hp1 hp2
      have hst0 : Hid (Stage w.heap.size k w ((wr.alloc (.cells #[.int .i64 pp, .int .i64 kk, .string ff, .int .i64 ww] 40)).alloc (.cells #[.string ⟨#[45]⟩, .string ⟨#[45]⟩, .string ⟨#[45]⟩, .string ⟨#[45]⟩] 62)) wr.heap.size (wr.heap.size + 1) ⟨pp, kk, ff, ww⟩ u3 (((l.take k).map fun x => mkB (oneT x)).map Value.string) (dash) (dash) (dash) (dash)) :=
        ⟨⟨(Blk.new wr 40 _).alloc _, blk_second wr _ 62 _, by omega⟩, (hown.out.alloc _).alloc _, (hB.alloc hB.size _).alloc (by simp; have := hB.size; omega) _⟩
      have hbw : w.heap.size ≤ wr.heap.size + 1 := by have := hB.size; omega
      go_upto_if 19 with fail
      clear h0 h1 h2 h3
      go_cut [] (fun wx => Hid (Stage w.heap.size k w wx wr.heap.size (wr.heap.size + 1) ⟨pp, kk, ff, ww⟩ u3 (((l.take k).map fun x => mkB (oneT x)).map Value.string) (paperT ⟨pp, kk, ff, ww⟩) (dash) (dash) (dash)))
      case first =>
        by_cases hpp : pp = -1
        · have e1 : (pp != -1) = false := by simp [hpp]
          have hpp' := Lib.hid hpp
          clear hpp
          go_wp2_with fail
          go_meet
          case rel => unfold Hid; rw [paperT, if_pos hpp'.out]; exact hst0.out
        · have e1 : (pp != -1) = true := by simp [hpp]
          have hpp' := Lib.hid hpp
          clear hpp
          go_wp2_with fail
          refine (itoa_any pp _ hp1 hp2 (he'.out.below hst0.out.2.2)).mono ?_
          rintro e w1 ⟨rfl, hb1⟩
          have hst1 := Lib.hid (hst0.out.below hb1 hst0.out.size)
          obtain ⟨⟨q0, q1, q2, q3⟩, qf⟩ := hst1.out.1.wrd.four
          go_wp2_with fail
          go_meet
          case rel => unfold Hid; rw [show paperT ⟨pp, kk, ff, ww⟩ = Lib.itoa pp by rw [paperT, if_neg hpp'.out]]; exact hst1.out.set0 hbw _
      case rest =>
        have hs1 := hcut
        clear hcut
        obtain ⟨wd, rfl⟩ : ∃ wd : World, wd = wc := ⟨_, rfl⟩
        obtain ⟨⟨q0, q1, q2, q3⟩, qf⟩ := hs1.out.1.wrd.four
        obtain ⟨⟨r0, r1, r2, r3⟩, rf⟩ := hs1.out.1.flt.four
        simp only at r0 r1 r2 r3
        go_upto_region 8 with fail
        go_cut [31] (fun s wx => wd = wx ∧ s = .bool (decide (0 ≤ kk ∧ kk < 6)))
        case first =>
          go_wp2_with fail
          all_goals
            go_meet
            case rel => exact ⟨rfl, congrArg Value.bool (by first | exact dec_yes (p := 0 ≤ kk) (by omega) | exact dec_no (p := 0 ≤ kk) (by omega))⟩
        case rest =>
          obtain ⟨rfl, hsl⟩ := hcut
          subst hsl
          go_upto_if 31 with fail
          go_cut [] (fun wx => Hid (Stage w.heap.size k w wx wr.heap.size (wr.heap.size + 1) ⟨pp, kk, ff, ww⟩ u3 (((l.take k).map fun x => mkB (oneT x)).map Value.string) (paperT ⟨pp, kk, ff, ww⟩) (kindT kk) (dash) (dash)))
          case first =>
            by_cases hpp : 0 ≤ kk ∧ kk < 6
            · have e1 : decide (0 ≤ kk ∧ kk < 6) = true := by simp [hpp]
              obtain ⟨m, rfl⟩ := Int.eq_ofNat_of_zero_le hpp.1
              have hm : m < 6 := by omega
              have hpp' := Lib.hid hpp
              have hcell := (he'.out.below hs1.out.2.2).kinds m hm
              rw [e1]
              clear hpp e1
              go_wp2_with fail
              go_meet
              case rel => unfold Hid; rw [show kindT (m : Int) = kindL m by rw [kindT, if_pos hpp'.out]; rfl]; exact hs1.out.set1 hbw _
            · have e1 : decide (0 ≤ kk ∧ kk < 6) = false := by simp [hpp]
              have hpp' := Lib.hid hpp
              rw [e1]
              clear hpp e1
              go_wp2_with fail
              go_meet
              case rel => unfold Hid; rw [kindT, if_neg hpp'.out]; exact hs1.out
          case rest =>
            have hs2 := hcut
            clear hcut
            obtain ⟨wd, rfl⟩ : ∃ wd : World, wd = wc := ⟨_, rfl⟩
            obtain ⟨⟨q0, q1, q2, q3⟩, qf⟩ := hs2.out.1.wrd.four
            obtain ⟨⟨r0, r1, r2, r3⟩, rf⟩ := hs2.out.1.flt.four
            simp only at r0 r1 r2 r3
            go_upto_if 39 with fail
            go_cut [] (fun wx => Hid (Stage w.heap.size k w wx wr.heap.size (wr.heap.size + 1) ⟨pp, kk, ff, ww⟩ u3 (((l.take k).map fun x => mkB (oneT x)).map Value.string) (paperT ⟨pp, kk, ff, ww⟩) (kindT kk) (fieldT ff) (dash)))
            case first =>
              by_cases hpp : ff.data.toList = []
              · have e1 : ff.toList = [] := by rw [ByteArray.toList_eq]; exact hpp
                have e2 : (!ff.toList.isEmpty) = false := by simp [e1]
                rw [e2]
                clear e1 e2
                have hpp' := Lib.hid hpp
                clear hpp
                go_wp2_with fail
                go_meet
                case rel => unfold Hid; rw [fieldT, if_pos hpp'.out]; exact hs2.out
              · have e1 : ¬ ff.toList = [] := by rw [ByteArray.toList_eq]; exact hpp
                have e2 : (!ff.toList.isEmpty) = true := by simp [e1]
                rw [e2]
                clear e1 e2
                have hpp' := Lib.hid hpp
                clear hpp
                go_wp2_with fail
                go_meet
                case rel =>
                  unfold Hid
                  have h3 := hs2.out.set2 hbw ff.data.toList
                  rw [show mkB ff.data.toList = ff by cases ff; simp [mkB]] at h3
                  rw [fieldT, if_neg hpp'.out]; exact h3
            case rest =>
              have hs3 := hcut
              clear hcut
              obtain ⟨wd, rfl⟩ : ∃ wd : World, wd = wc := ⟨_, rfl⟩
              obtain ⟨⟨q0, q1, q2, q3⟩, qf⟩ := hs3.out.1.wrd.four
              obtain ⟨⟨r0, r1, r2, r3⟩, rf⟩ := hs3.out.1.flt.four
              simp only at r0 r1 r2 r3
              go_upto_region 12 with fail
              go_cut [50] (fun s wx => wd = wx ∧ s = .bool (decide (0 ≤ ww ∧ ww < 7)))
              case first =>
                go_wp2_with fail
                all_goals
                  go_meet
                  case rel => exact ⟨rfl, congrArg Value.bool (by first | exact dec_yes (p := 0 ≤ ww) (by omega) | exact dec_no (p := 0 ≤ ww) (by omega))⟩
              case rest =>
                obtain ⟨rfl, hsl⟩ := hcut
                subst hsl
                go_upto_if 50 with fail
                go_cut [] (fun wx => Hid (Stage w.heap.size k w wx wr.heap.size (wr.heap.size + 1) ⟨pp, kk, ff, ww⟩ u3 (((l.take k).map fun x => mkB (oneT x)).map Value.string) (paperT ⟨pp, kk, ff, ww⟩) (kindT kk) (fieldT ff) (whyT ww)))
                case first =>
                  by_cases hpp : 0 ≤ ww ∧ ww < 7
                  · have e1 : decide (0 ≤ ww ∧ ww < 7) = true := by simp [hpp]
                    obtain ⟨m, rfl⟩ := Int.eq_ofNat_of_zero_le hpp.1
                    have hm : m < 7 := by omega
                    have hpp' := Lib.hid hpp
                    have hcell := (he'.out.below hs3.out.2.2).whys m hm
                    rw [e1]
                    clear hpp e1
                    go_wp2_with fail
                    go_meet
                    case rel => unfold Hid; rw [show whyT (m : Int) = whyL m by rw [whyT, if_pos hpp'.out]; rfl]; exact hs3.out.set3 hbw _
                  · have e1 : decide (0 ≤ ww ∧ ww < 7) = false := by simp [hpp]
                    have hpp' := Lib.hid hpp
                    rw [e1]
                    clear hpp e1
                    go_wp2_with fail
                    go_meet
                    case rel => unfold Hid; rw [whyT, if_neg hpp'.out]; exact hs3.out
                case rest =>
                  have hs4 := hcut
                  clear hcut
                  obtain ⟨wd, rfl⟩ : ∃ wd : World, wd = wc := ⟨_, rfl⟩
                  obtain ⟨⟨q0, q1, q2, q3⟩, qf⟩ := hs4.out.1.wrd.four
                  obtain ⟨⟨r0, r1, r2, r3⟩, rf⟩ := hs4.out.1.flt.four
                  simp only at r0 r1 r2 r3
                  have hlenk : Hid (k + 1 ≤ maxLen) := by unfold Hid maxLen; omega
                  have hbyt : Hid ((k + 1) * 16 ≤ 140737488355328) := by unfold Hid; omega
                  have hsz : Hid (w.heap.size ≤ wd.heap.size) := hs4.out.size
                  obtain ⟨a0, ha0⟩ : ∃ a, Hid (a = paperT ⟨pp, kk, ff, ww⟩) := ⟨_, rfl⟩
                  obtain ⟨a1, ha1⟩ : ∃ a, Hid (a = kindT kk) := ⟨_, rfl⟩
                  obtain ⟨a2, ha2⟩ : ∃ a, Hid (a = fieldT ff) := ⟨_, rfl⟩
                  obtain ⟨a3, ha3⟩ : ∃ a, Hid (a = whyT ww) := ⟨_, rfl⟩
                  rw [← ha0.out] at q0
                  rw [← ha1.out] at q1
                  rw [← ha2.out] at q2
                  rw [← ha3.out] at q3
                  have hcat : Hid (a0 ++ [32] ++ a1 ++ [32] ++ a2 ++ [32] ++ a3 = oneT ⟨pp, kk, ff, ww⟩) := by unfold Hid; rw [ha0.out, ha1.out, ha2.out, ha3.out]; rfl
                  have z0 : (mkB a0).size ≤ 20 := by rw [mkB, size_list, ha0.out]; exact paperT_len hp1 hp2
                  have z1 : (mkB a1).size ≤ 9 := by rw [mkB, size_list, ha1.out]; exact kindT_len _
                  have z2 : (mkB a2).size ≤ 1100000 := by rw [mkB, size_list, ha2.out]; exact fieldT_len hfs'.out
                  have z3 : (mkB a3).size ≤ 6 := by rw [mkB, size_list, ha3.out]; exact whyT_len _
                  have hone : Hid (∀ u ∈ (#[Value.string (mkB a0 ++ ⟨#[32]⟩ ++ mkB a1 ++ ⟨#[32]⟩ ++ mkB a2 ++ ⟨#[32]⟩ ++ mkB a3)] : Array Value).toList, u.oneCell' = true) := by unfold Hid; simp [Value.oneCell']
                  go_wp2_with (at_builtin; go_must (refine wpList_app3 w.heap.size rfl (.tmp 56) (.tmp 71) 61 rfl 9 i0 _ 1 16 Tryz.underlying61 hi hz0 hz1 hz2 rfl (by decide) _ k (((l.take k).map fun x => mkB (oneT x)).map Value.string) rfl wd.heap.size 1 _ rfl (hs4.out.2.1.alloc _) (Blk.new wd 9 _) rfl hone.out hlenk.out hbyt.out (Nat.le_trans hsz.out (by simp)) ?_); intro v5 w5 ho5 hb5 hg5)
                  have hB5 : Below w.heap.size w w5 := (hs4.out.2.2.alloc hs4.out.size _).trans hb5
                  have ho5' := Lib.hid ho5
                  clear ho5 hg5
                  go_wp2_with fail
                  go_roundg (n - (k + 1))
                  case measure => have := hg'.out; omega
                  case rel =>
                    refine ⟨k + 1, by omega, rfl, by go_num, ?_, hB5⟩
                    unfold Hid
                    have hh := ho5'.out
                    rw [words_cat, hcat.out] at hh
                    obtain ⟨hkl, hke⟩ := List.getElem?_eq_some_iff.1 hx'.out
                    rw [List.take_succ_eq_append_getElem hkl, hke]
                    simpa using hh
    · obtain rfl : k = n := by omega
      rw [List.take_of_length_le (by have := hl.out; omega)] at hown
      obtain ⟨A2, c2, rfl, hc2, hE⟩ := own_strs hown.out (by rw [List.length_map]; exact hl.out)
      have hE' := Lib.hid hE
      clear hE
      go_wp2_with fail
      refine (join_any A2 k c2 (l.map oneT) _ (by rw [List.length_map]; exact hl.out) (by rw [List.map_map]; exact hE'.out) hc2 (by omega) (by have := textF_len hS.out; rw [hl.out] at this; unfold textF at this; omega)).mono ?_
      rintro e w1 ⟨rfl, hb1⟩
      go_wp2_with fail
      go_ret
      exact ⟨rfl, hB.trans (hb1.mono hB.size)⟩
end Go.Proofs.YtbpngfppddigjaaGreatDoor

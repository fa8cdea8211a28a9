/- The walk of the document's Text. -/
import Derived.Test.YtpnkpnocipkedaaDoorH
import Derived.Deep.RegionHeld3
namespace Go.Proofs.YtpnkpnocipkedaaDoor
open Go Go.RowKit Go.BigFrame

abbrev six : Array Value := #[.string ⟨#[105, 110, 118, 111, 105, 99, 101]⟩, .string ⟨#[112, 97, 99, 107, 105, 110, 103]⟩, .string ⟨#[108, 97, 100, 105, 110, 103]⟩, .string ⟨#[105, 110, 115, 117, 114, 97, 110, 99, 101]⟩, .string ⟨#[111, 114, 105, 103, 105, 110]⟩, .string ⟨#[100, 114, 97, 102, 116]⟩]
abbrev seven : Array Value := #[.string ⟨#[102, 105, 110, 101]⟩, .string ⟨#[108, 97, 99, 107, 115]⟩, .string ⟨#[102, 97, 105, 108, 115]⟩, .string ⟨#[117, 110, 108, 105, 107, 101]⟩, .string ⟨#[108, 97, 116, 101]⟩, .string ⟨#[109, 117, 99, 104]⟩, .string ⟨#[102, 101, 119]⟩]
theorem word_six (g : Nat) (k : Int) (w : World) (h : Blk w g 9 six) : Calls Tryd.prog 36 #[.slice (some ⟨g, 0, none⟩) 6 6, .int .i64 k] w fun e w' => e = .returned (.string (mkB (kindT k))) ∧ w = w' := by
  by_cases hk : 0 ≤ k ∧ k < 6
  · obtain ⟨m, rfl⟩ := Int.eq_ofNat_of_zero_le hk.1
    have hm : m < 6 := by omega
    refine (word_in g 0 6 6 m (mkB (kindL m)) w hm (by omega) ?_).mono ?_
    · rw [Nat.zero_add, h.cell]
      match m, hm with
      | 0, _ | 1, _ | 2, _ | 3, _ | 4, _ | 5, _ => rfl
    · rintro e w' ⟨rfl, rfl⟩
      exact ⟨by rw [kindT, if_pos hk]; rfl, rfl⟩
  · refine (word_out _ 6 6 k w (by omega) (by omega)).mono ?_
    rintro e w' ⟨rfl, rfl⟩
    exact ⟨by rw [kindT, if_neg hk], rfl⟩
theorem word_seven (g : Nat) (k : Int) (w : World) (h : Blk w g 9 seven) : Calls Tryd.prog 36 #[.slice (some ⟨g, 0, none⟩) 7 7, .int .i64 k] w fun e w' => e = .returned (.string (mkB (whyT k))) ∧ w = w' := by
  by_cases hk : 0 ≤ k ∧ k < 7
  · obtain ⟨m, rfl⟩ := Int.eq_ofNat_of_zero_le hk.1
    have hm : m < 7 := by omega
    refine (word_in g 0 7 7 m (mkB (whyL m)) w hm (by omega) ?_).mono ?_
    · rw [Nat.zero_add, h.cell]
      match m, hm with
      | 0, _ | 1, _ | 2, _ | 3, _ | 4, _ | 5, _ | 6, _ => rfl
    · rintro e w' ⟨rfl, rfl⟩
      exact ⟨by rw [whyT, if_pos hk]; rfl, rfl⟩
  · refine (word_out _ 7 7 k w (by omega) (by omega)).mono ?_
    rintro e w' ⟨rfl, rfl⟩
    exact ⟨by rw [whyT, if_neg hk], rfl⟩

theorem run_cat (w : World) (x y : ByteArray) (h : x.size + y.size ≤ 9223372036854775807) : (binOp .add 9 (.string x) (.string y)).run Tryd.prog w = .ok (.string (x ++ y)) w := by
  simp [go_sem]
  exact h
theorem cat_all (p a b c d : List UInt8) : mkB p ++ mkB a ++ ⟨#[32]⟩ ++ mkB b ++ ⟨#[32]⟩ ++ mkB c ++ ⟨#[32]⟩ ++ mkB d = mkB (p ++ (a ++ [32] ++ b ++ [32] ++ c ++ [32] ++ d)) := by
  apply ByteArray.ext; simp [mkB]
def preT (l : List Flt) (k : Nat) : List UInt8 := if k = 0 then [] else textF (l.take k) ++ [59, 32]
theorem join_snoc (sep x : List UInt8) : ∀ (l : List (List UInt8)), l ≠ [] → Lib.join (l ++ [x]) sep = Lib.join l sep ++ sep ++ x
  | [], h => absurd rfl h
  | [y], _ => by simp [Lib.join, List.intercalate, List.intersperse]
  | y :: z :: r, _ => by
    have ih := join_snoc sep x (z :: r) (by simp)
    have e1 : Lib.join (y :: z :: r ++ [x]) sep = y ++ sep ++ Lib.join (z :: r ++ [x]) sep := by simp [Lib.join, List.intercalate, List.intersperse]
    have e2 : Lib.join (y :: z :: r) sep = y ++ sep ++ Lib.join (z :: r) sep := by simp [Lib.join, List.intercalate, List.intersperse]
    rw [e1, e2, ih]; simp
theorem text_snoc {l : List Flt} {k : Nat} {x : Flt} (hx : l[k]? = some x) : textF (l.take (k + 1)) = preT l k ++ oneT x := by
  obtain ⟨hk, he⟩ := List.getElem?_eq_some_iff.1 hx
  rw [List.take_succ_eq_append_getElem hk, he]
  unfold preT textF
  rw [List.map_append]
  by_cases h0 : k = 0
  · subst h0; simp [Lib.join, List.intercalate]
  · rw [if_neg h0]
    have hne : (l.take k).map oneT ≠ [] := by
      intro e
      have := congrArg List.length e
      rw [List.length_map, List.length_take, List.length_nil] at this; omega
    show Lib.join ((l.take k).map oneT ++ [oneT x]) [59, 32] = _
    rw [join_snoc _ _ _ hne]

set_option maxRecDepth 100000 in
set_option maxHeartbeats 1600000 in
theorem textR_any (A : Option Addr) (n c : Nat) (l : List Flt) (w : World) (hn : n ≤ 100) (hl : Hid (l.length = n)) (hA : Hid (FaultsAt w A l)) (hS : Hid (smallF l)) :
    Calls Tryd.prog 20 #[.slice A n c] w fun e w' => e = .returned (.string (mkB (textF l))) ∧ Below w.heap.size w w' := by
  go_enter Tryd.func20, Tryd.ntmps20
  go_wp2_with fail
  go_loopg [3, 4, 5, 6] n (fun g s i _ _ wr => ∃ k : Nat, k ≤ n ∧ g = n - k ∧ i = .int .i64 k ∧ s = .string (mkB (textF (l.take k))) ∧ Below w.heap.size w wr)
  case atStart => exact ⟨0, Nat.zero_le _, by simp, rfl, rfl, Below.refl _ _⟩
  case round =>
    obtain ⟨k, hk, hg, rfl, rfl, hB⟩ := hrel
    have hg' := Lib.hid hg
    clear hg
    have hlenT : (mkB (textF (l.take k))).size ≤ 110010200 := by
      rw [mkB, size_list]
      have h1 := textF_len (l := l.take k) (fun x hx => hS.out x (List.mem_of_mem_take hx))
      have h2 : (l.take k).length ≤ 100 := by rw [List.length_take]; omega
      have h3 : (l.take k).length * 1100102 ≤ 100 * 1100102 := Nat.mul_le_mul_right _ h2
      omega
    by_cases hlt : k < n
    · obtain ⟨x, hx⟩ : ∃ x, l[k]? = some x := ⟨_, List.getElem?_eq_getElem (by have := hl.out; omega)⟩
      have hx' := Lib.hid hx
      clear hx
      obtain ⟨hp1, hp2, hfs⟩ := hS.out x (List.mem_of_getElem? hx'.out)
      obtain ⟨b, off, rfl, h0, h1, h2, h3⟩ := (hA.out.below hB) k x hx'.out
      obtain ⟨pp, kk, ff, ww⟩ := x
      simp only at h0 h1 h2 h3 hp1 hp2 hfs
      have hblt := World.block_lt_of_cell? wr _ h0
      simp only at hblt
      go_upto_if 14 with fail
      go_cut [3] (fun s wx => wr = wx ∧ s = .string (mkB (preT l k)))
      case first =>
        by_cases h0k : k = 0
        · subst h0k
          go_wp2_with fail
          go_meet
          case rel => exact ⟨rfl, rfl⟩
        · have hkp : 0 < k := by omega
          have h0k' := Lib.hid h0k
          clear h0k
          go_wp2_with fail
          go_meet
          case rel => exact ⟨rfl, congrArg Value.string (by rw [preT, if_neg h0k'.out]; exact cat_mk _ [59, 32])⟩
      case rest =>
        obtain ⟨rfl, hs3⟩ := hcut
        subst hs3
        have hpre : (mkB (preT l k)).size ≤ 110010202 := by
          rw [mkB, size_list, preT]
          rw [mkB, size_list] at hlenT
          split
          · simp
          · simp; omega
        clear hlenT
        have hxc := fun (y : Ext wr) (o : Nat) => y.cell ⟨b, o, none⟩ hblt
        go_wp2_with fail
        refine wp_region_ext (by kernel_rfl) (by kernel_rfl) ?_
        repeat (go_big_quiet_step ((go_at_call 35; exact Calls.ext_of (digits_any pp _ hp1 hp2))))
        refine wpQuiet_nil ?_
        rintro _ ⟨y, rfl⟩
        have g0 := (hxc y _).trans h0
        have g1 := (hxc y _).trans h1
        have g2 := (hxc y _).trans h2
        have g3 := (hxc y _).trans h3
        have hBy : Below w.heap.size w y.wd := hB.trans (y.below.mono hB.size)
        obtain ⟨wy, hwy⟩ : ∃ wy, Hid (wy = y.wd) := ⟨_, rfl⟩
        rw [← hwy.out] at g0 g1 g2 g3 hBy ⊢
        clear hxc h0 h1 h2 h3
        go_upto_if 33 with fail
        go_cut [5] (fun s wx => wy = wx ∧ s = .string (mkB (paperT ⟨pp, kk, ff, ww⟩)))
        case first =>
          by_cases hpp : pp = -1
          · have e1 : (pp == -1) = true := by simp [hpp]
            have hpp' := Lib.hid hpp
            clear hpp
            go_wp2_with fail
            go_meet
            case rel => exact ⟨rfl, by rw [paperT, if_pos hpp'.out]; rfl⟩
          · have e1 : (pp == -1) = false := by simp [hpp]
            have hpp' := Lib.hid hpp
            clear hpp
            go_wp2_with fail
            go_meet
            case rel => exact ⟨rfl, by rw [paperT, if_neg hpp'.out]⟩
        case rest =>
          obtain ⟨rfl, hs5⟩ := hcut
          subst hs5
          go_upto_if 35 with fail
          go_cut [6] (fun s wx => wy = wx ∧ s = .string (mkB (fieldT ff)))
          case first =>
            by_cases hpp : ff.data.toList = []
            · have e1 : ff.toList = [] := by rw [ByteArray.toList_eq]; exact hpp
              have e2 : ff.toList.isEmpty = true := by simp [e1]
              have hpp' := Lib.hid hpp
              rw [e2]
              clear hpp e1 e2
              go_wp2_with fail
              go_meet
              case rel => exact ⟨rfl, by rw [fieldT, if_pos hpp'.out]; rfl⟩
            · have e1 : ¬ ff.toList = [] := by rw [ByteArray.toList_eq]; exact hpp
              have e2 : ff.toList.isEmpty = false := by simp [e1]
              have hpp' := Lib.hid hpp
              rw [e2]
              clear hpp e1 e2
              go_wp2_with fail
              go_meet
              case rel => exact ⟨rfl, by rw [fieldT, if_neg hpp'.out]; cases ff; simp [mkB]⟩
          case rest =>
            obtain ⟨rfl, hs6⟩ := hcut
            subst hs6
            obtain ⟨a0, ha0⟩ : ∃ a, Hid (a = paperT ⟨pp, kk, ff, ww⟩) := ⟨_, rfl⟩
            obtain ⟨a2, ha2⟩ : ∃ a, Hid (a = fieldT ff) := ⟨_, rfl⟩
            obtain ⟨ap, hap⟩ : ∃ a, Hid (a = preT l k) := ⟨_, rfl⟩
            rw [← ha0.out, ← ha2.out, ← hap.out]
            rw [← hap.out] at hpre
            have z0 : (mkB a0).size ≤ 20 := by rw [mkB, size_list, ha0.out]; exact paperT_len hp1 hp2
            have z1 : (mkB (kindT kk)).size ≤ 9 := by rw [mkB, size_list]; exact kindT_len _
            have z2 : (mkB a2).size ≤ 1100000 := by rw [mkB, size_list, ha2.out]; exact fieldT_len hfs
            have z3 : (mkB (whyT ww)).size ≤ 6 := by rw [mkB, size_list]; exact whyT_len _
            have r1 : ¬ 9223372036854775807 < (mkB ap).size + (mkB a0).size := by omega
            have r2 : ¬ 9223372036854775807 < (mkB ap).size + (mkB a0).size + 1 := by omega
            have r3 : ¬ 9223372036854775807 < (mkB ap).size + (mkB a0).size + 1 + (mkB (kindT kk)).size := by omega
            have r4 : ¬ 9223372036854775807 < (mkB ap).size + (mkB a0).size + 1 + (mkB (kindT kk)).size + 1 := by omega
            have r5 : ¬ 9223372036854775807 < (mkB ap).size + (mkB a0).size + 1 + (mkB (kindT kk)).size + 1 + (mkB a2).size := by omega
            have r6 : ¬ 9223372036854775807 < (mkB ap).size + (mkB a0).size + 1 + (mkB (kindT kk)).size + 1 + (mkB a2).size + 1 := by omega
            have r7 : ¬ 9223372036854775807 < (mkB ap).size + (mkB a0).size + 1 + (mkB (kindT kk)).size + 1 + (mkB a2).size + 1 + (mkB (whyT ww)).size := by omega
            clear z0 z1 z2 z3 hpre hp1 hp2 hfs hblt
            have w6 : ∀ (W : World) (g : Nat), Blk W g 9 six → Calls Tryd.prog 36 #[.slice (some ⟨g, 0, none⟩) 6 6, .int .i64 kk] W fun e w' => e = .returned (.string (mkB (kindT kk))) ∧ W = w' := fun W g h => word_six g kk W h
            have w7 : ∀ (W : World) (g : Nat), Blk W g 9 seven → Calls Tryd.prog 36 #[.slice (some ⟨g, 0, none⟩) 7 7, .int .i64 ww] W fun e w' => e = .returned (.string (mkB (whyT ww))) ∧ W = w' := fun W g h => word_seven g ww W h
            go_upto_region 12 with fail
            have hby : b < wy.heap.size := by have := World.block_lt_of_cell? wy _ g0; exact this
            go_region_held3 (fun w' => w'.cell? ⟨b, off + k * 4 + 1, none⟩ = some (.int .i64 kk) ∧ w'.cell? ⟨b, off + k * 4 + 3, none⟩ = some (.int .i64 ww)) (go_keep)
                (first | (go_at_call_of 36 (Value.int IntKind.i64 kk); (with_reducible refine (w6 _ _ ?_).mono ?_); (first | (with_reducible exact (Blk.new _ 9 _).drew) | (with_reducible exact ((Blk.new _ 9 _).alloc _).drew) | (with_reducible exact (blk_second _ _ 9 _).drew)); rintro e w2 ⟨rfl, rfl⟩) | (go_at_call_of 36 (Value.int IntKind.i64 ww); (with_reducible refine (w7 _ _ ?_).mono ?_); (first | (with_reducible exact (Blk.new _ 9 _).drew) | (with_reducible exact ((Blk.new _ 9 _).alloc _).drew) | (with_reducible exact (blk_second _ _ 9 _).drew)); rintro e w2 ⟨rfl, rfl⟩))
            all_goals
              go_wp2_with fail
              go_roundg (n - (k + 1))
              case measure => have := hg'.out; omega
              case rel =>
                refine ⟨k + 1, by omega, rfl, by go_num, ?_, ?_⟩
                · rw [text_snoc hx'.out, ← hap.out]
                  exact congrArg Value.string ((cat_all ap a0 (kindT kk) a2 (whyT ww)).trans (congrArg mkB (by rw [ha0.out, ha2.out]; rfl)))
                · first | exact ((hBy.alloc hBy.size _).alloc (by simp; have := hBy.size; omega) _).drew | exact (((hBy.alloc hBy.size _).drew).alloc (by show _ ≤ (wy.alloc _).heap.size; simp; have := hBy.size; omega) _)
    · go_wp2_with fail
      go_ret
      exact ⟨by rw [List.take_of_length_le (by have := hl.out; omega)]; rfl, hB⟩
end Go.Proofs.YtpnkpnocipkedaaDoor

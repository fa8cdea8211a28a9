/- Walks of both Checks. -/
import Derived.Test.YtdgbghgcnkjjeaaDoorC
namespace Go.Proofs.YtdgbghgcnkjjeaaDoor
open Go.RowKit Go.BigFrame

def chk (holder : ByteArray) (ahead : List End) : List End → ByteArray × Int × Int
  | [] => (holder, ahead.length, 0)
  | x :: r => if wrongE holder ahead x = 0 then chk x.to (ahead ++ [x]) r else (⟨#[]⟩, ahead.length, wrongE holder ahead x)
def checkE (first : ByteArray) (l : List End) : ByteArray × Int × Int := if nameB first.data.toList then chk first [] l else (⟨#[]⟩, 0, 1)
def tri (r : ByteArray × Int × Int) : Value := .tuple #[.string r.1, .int .i64 r.2.1, .int .i64 r.2.2]

theorem chk_step {l : List End} {k : Nat} {x : End} (h : ByteArray) (hx : l[k]? = some x) : chk h (l.take k) (l.drop k) =
    if wrongE h (l.take k) x = 0 then chk x.to (l.take (k + 1)) (l.drop (k + 1)) else (⟨#[]⟩, (k : Int), wrongE h (l.take k) x) := by
  obtain ⟨hk, he⟩ := List.getElem?_eq_some_iff.1 hx
  rw [List.drop_eq_getElem_cons hk, he, chk, List.take_succ_eq_append_getElem hk, he]
  simp [Nat.min_eq_left (Nat.le_of_lt hk)]
theorem chk_end (l : List End) (h : ByteArray) (k : Nat) (hk : l.length ≤ k) : chk h (l.take k) (l.drop k) = (h, (l.length : Int), 0) := by
  rw [List.take_of_length_le hk, List.drop_eq_nil_of_le hk, chk]

theorem triE {h : ByteArray} {i e : Int} {r : ByteArray × Int × Int} (hr : r = (h, i, e)) : Ending.returned (.tuple #[.string h, .int .i64 i, .int .i64 e]) = .returned (tri r) := by rw [hr]; rfl
theorem ne_no {a b : Int} (h : (a != b) = false) : a = b := by simpa using h
theorem ne_yes {a b : Int} (h : (a != b) = true) : ¬ a = b := by simpa using h
theorem chk_no {r : ByteArray × Int × Int} {l : List End} {k : Nat} {x : End} {h : ByteArray} (hr : r = chk h (l.take k) (l.drop k)) (hx : l[k]? = some x) (hw : (wrongE h (l.take k) x != 0) = true) : r = (⟨#[]⟩, (k : Int), wrongE h (l.take k) x) := by
  rw [hr, chk_step h hx, if_neg (ne_yes hw)]
theorem chk_yes {r : ByteArray × Int × Int} {l : List End} {k : Nat} {x : End} {h : ByteArray} (hr : r = chk h (l.take k) (l.drop k)) (hx : l[k]? = some x) (hw : (wrongE h (l.take k) x != 0) = false) : Hid (r = chk x.to (l.take (k + 1)) (l.drop (k + 1))) := by
  unfold Hid; rw [hr, chk_step h hx, if_pos (ne_no hw)]

set_option maxHeartbeats 800000 in
theorem check_any (first : ByteArray) (A : Option Addr) (n c : Nat) (l : List End) (w : World) (hf : first.size ≤ maxLen) (hn : n ≤ maxLen) (hnc : n ≤ c) (hl : Hid (l.length = n)) (hA : Hid (EndsAt w A l)) :
    Calls Tryd.prog 12 #[.string first, .slice A n c] w fun e w' => e = .returned (tri (checkE first l)) ∧ Below w.heap.size w w' := by
  have hn' := hn
  unfold maxLen at hn'
  by_cases hname : nameB first.data.toList = true
  · go_enter Tryd.func12, Tryd.ntmps12
    go_wp2
    go_step3
    go_wp2_with (go_at_call 23; refine (markName_any _ _ hf).mono ?_; rintro e w' ⟨rfl, rfl⟩)
    go_step3
    go_wp2
    go_loopw [4, 5, 6, 7, 14] (fun h at_ e _ i wr => ∃ (k : Nat) (hk : ByteArray), k ≤ n ∧ i = .int .i64 k ∧ h = .string hk ∧ at_ = .int .i64 0 ∧ e = .int .i64 0 ∧ Hid (checkE first l = chk hk (l.take k) (l.drop k)) ∧ Below w.heap.size w wr) (fun _ _ _ _ i _ => n - (intOf i).toNat)
    case atStart => exact ⟨0, first, Nat.zero_le _, rfl, rfl, rfl, rfl, by simp [Hid, checkE, hname], Below.refl _ _⟩
    case round =>
      obtain ⟨k, hk, hkn, rfl, rfl, rfl, rfl, hchk, hB⟩ := hrel
      by_cases hlt : k < n
      · obtain ⟨x, hx⟩ : ∃ x, l[k]? = some x := ⟨_, List.getElem?_eq_getElem (by have := hl.out; omega)⟩
        have hx' : Hid (l[k]? = some x) := hx
        clear hx
        have hAr : Hid (EndsAt wr A l) := hA.out.below hB
        obtain ⟨b, off, rfl, h0, h1, h2, h3, h4, h5⟩ := hAr.out k x hx'.out
        have hblt := World.block_lt_of_cell? wr _ h3
        have hxc := fun (y : Ext wr) (o : Nat) => y.cell ⟨b, o, none⟩ hblt
        go_wp2_with fail
        have i1 : (k : Int) ≤ (c : Int) := by omega
        have i2 : k ≤ c := by omega
        have i3 : (k : Int) < (n : Int) := by omega
        have i4 : (0 : Int) ≤ (k : Int) := by omega
        have hkm : k ≤ maxLen := by omega
        have hlk : Hid ((l.take k).length = k) := by have := hl.out; simp [Hid]; omega
        refine wp_region_ext (by kernel_rfl) (by kernel_rfl) ?_
        repeat (go_big_quiet_step ((go_at_call 24; exact Calls.ext_of (wrong_any _ x _ _ _ (l.take k) _ h4 h5 hkm hlk ((hAr.out.take k).below (Ext.below _))))))
        refine wpQuiet_nil ?_
        rintro _ ⟨y, rfl⟩
        have hB1 := hB.trans (y.below.mono hB.size)
        go_wp2
        · rw [Exit.noGoto_ret]
          go_ret3
          exact ⟨triE (chk_no hchk.out hx'.out (by assumption)), hB1⟩
        · go_roundw
          case rel => exact ⟨k + 1, x.to, by omega, by go_num, rfl, rfl, congrArg (Value.int .i64) (ne_no (by assumption)), chk_yes hchk.out hx'.out (by assumption), hB1⟩
          case measure => simp [intOf]; omega
      · go_wp2
        rw [Exit.noGoto_ret]
        go_ret3
        exact ⟨triE (by rw [hchk.out, chk_end _ _ _ (by have := hl.out; omega), hl.out]), hB⟩
  · have hno : nameB first.data.toList = false := by simpa using hname
    go_enter Tryd.func12, Tryd.ntmps12
    go_wp2
    go_step3
    go_wp2_with (go_at_call 23; refine (markName_any _ _ hf).mono ?_; rintro e w' ⟨rfl, rfl⟩)
    rw [Exit.noGoto_ret]
    go_ret3
    exact ⟨triE (by simp [checkE, hno]), Below.refl _ _⟩

end Go.Proofs.YtdgbghgcnkjjeaaDoor

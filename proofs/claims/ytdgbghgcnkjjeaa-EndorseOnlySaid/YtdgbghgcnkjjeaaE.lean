/- Walks of the document's Check. -/
import Derived.Test.YtdgbghgcnkjjeaaD
namespace Go.Proofs.Ytdgbghgcnkjjeaa
open Go.RowKit Go.BigFrame

def wrongR (first : ByteArray) (prev : Option End) (x : End) : Int :=
  if x.okB = false then 2 else
    match prev with
    | none => if (x.frm.toList == first.toList) = false then 8 else 0
    | some y => if y.kind = 2 then 9 else if y.kind = 0 ∧ (x.frm.toList == y.to.toList) = false then 8 else if x.day < y.day then 6 else 0

set_option maxHeartbeats 800000 in
theorem wrongR_zero (first : ByteArray) (A : Option Addr) (n c : Nat) (l : List End) (x : End) (w : World) (hn0 : 0 < n) (_hn : n ≤ maxLen) (hx : Hid (l[0]? = some x)) (hA : Hid (EndsAt w A l)) :
    Calls Try.prog 20 #[.string first, .slice A n c, .int .i64 0] w fun e w' => e = .returned (.int .i64 (wrongR first none x)) ∧ Below w.heap.size w w' := by
  obtain ⟨b, off, rfl, h0, h1, h2, h3, h4, h5⟩ := hA.out 0 x hx.out
  simp only [Nat.zero_mul, Nat.add_zero] at h0 h1 h2 h3
  have hlt := World.block_lt_of_cell? w _ h3
  go_enter Try.func20, Try.ntmps20
  go_wp2_with fail
  refine (right_any _ _ _ _ _ h4 h5).mono ?_
  rintro e w1 ⟨rfl, hb⟩
  have hB : Below w.heap.size w w1 := ((Below.refl _ w).alloc (Nat.le_refl _) _).trans (hb.mono (by simp))
  have hc := bcell hb
  simp only [World.size_alloc] at hc
  go_wp2
  all_goals (go_ret; refine ⟨retI ?_, hB⟩)
  all_goals (go_light; simp_all [wrongR])

set_option maxHeartbeats 800000 in
theorem wrongR_succ (first : ByteArray) (A : Option Addr) (n c k : Nat) (l : List End) (x y : End) (w : World) (hk : k + 1 < n) (hn : n ≤ maxLen) (hx : Hid (l[k + 1]? = some x)) (hy : Hid (l[k]? = some y)) (hA : Hid (EndsAt w A l)) :
    Calls Try.prog 20 #[.string first, .slice A n c, .int .i64 ((k : Int) + 1)] w fun e w' => e = .returned (.int .i64 (wrongR first (some y) x)) ∧ Below w.heap.size w w' := by
  unfold maxLen at hn
  obtain ⟨b, off, rfl, h0, h1, h2, h3, h4, h5⟩ := hA.out (k + 1) x hx.out
  obtain ⟨b', off', hh, g0, g1, g2, g3, g4, g5⟩ := hA.out k y hy.out
  obtain ⟨rfl, rfl⟩ : b = b' ∧ off = off' := by simpa using hh
  clear hh
  have hlt := World.block_lt_of_cell? w _ h3
  go_enter Try.func20, Try.ntmps20
  go_wp2_with fail
  refine (right_any _ _ _ _ _ h4 h5).mono ?_
  rintro e w1 ⟨rfl, hb⟩
  have hB : Below w.heap.size w w1 := ((Below.refl _ w).alloc (Nat.le_refl _) _).trans (hb.mono (by simp))
  have hc := bcell hb
  simp only [World.size_alloc] at hc
  have hz : w.heap.size < w1.heap.size := by have := hb.size; simp at this; omega
  go_wp2
  all_goals (go_ret; refine ⟨retI ?_, ?_⟩)
  all_goals first
    | exact hB
    | exact hB.alloc hB.size _
    | (go_light; simp_all [wrongR]; try omega)

def chkR (first : ByteArray) (prev : Option End) (k : Nat) : List End → ByteArray × Int × Int
  | [] => ((match prev with | none => first | some y => y.to), k, 0)
  | x :: r => if wrongR first prev x = 0 then chkR first (some x) (k + 1) r else (⟨#[]⟩, k, wrongR first prev x)
def checkR (first : ByteArray) (l : List End) : ByteArray × Int × Int := if nameB first.data.toList then chkR first none 0 l else (⟨#[]⟩, 0, 1)
def prevAt (l : List End) : Nat → Option End
  | 0 => none
  | k + 1 => l[k]?

theorem wrongR_any (first : ByteArray) (A : Option Addr) (n c k : Nat) (l : List End) (x : End) (w : World) (hk : k < n) (hn : n ≤ maxLen) (hx : Hid (l[k]? = some x)) (hA : Hid (EndsAt w A l)) :
    Calls Try.prog 20 #[.string first, .slice A n c, .int .i64 (k : Int)] w fun e w' => e = .returned (.int .i64 (wrongR first (prevAt l k) x)) ∧ Below w.heap.size w w' := by
  rcases k with _ | k
  · exact wrongR_zero first A n c l x w hk hn hx hA
  · obtain ⟨y, hy⟩ : ∃ y, l[k]? = some y := ⟨_, List.getElem?_eq_getElem (by have := (List.getElem?_eq_some_iff.1 hx.out).1; omega)⟩
    have := wrongR_succ first A n c k l x y w hk hn hx hy hA
    rw [prevAt, hy]; exact this

theorem chkR_no {r : ByteArray × Int × Int} {first : ByteArray} {l : List End} {k : Nat} {x : End} (hr : r = chkR first (prevAt l k) k (l.drop k)) (hx : l[k]? = some x) (hw : (wrongR first (prevAt l k) x != 0) = true) :
    r = (⟨#[]⟩, (k : Int), wrongR first (prevAt l k) x) := by
  obtain ⟨hk, he⟩ := List.getElem?_eq_some_iff.1 hx
  rw [hr, List.drop_eq_getElem_cons hk, he, chkR, if_neg (ne_yes hw)]
theorem chkR_yes {r : ByteArray × Int × Int} {first : ByteArray} {l : List End} {k : Nat} {x : End} (hr : r = chkR first (prevAt l k) k (l.drop k)) (hx : l[k]? = some x) (hw : (wrongR first (prevAt l k) x != 0) = false) :
    Hid (r = chkR first (prevAt l (k + 1)) (k + 1) (l.drop (k + 1))) := by
  obtain ⟨hk, he⟩ := List.getElem?_eq_some_iff.1 hx
  unfold Hid
  rw [hr, List.drop_eq_getElem_cons hk, he, chkR, if_pos (ne_no hw), prevAt, hx]

set_option maxHeartbeats 800000 in
theorem checkR_any (first : ByteArray) (A : Option Addr) (n c : Nat) (l : List End) (w : World) (hf : first.size ≤ maxLen) (hn : n ≤ maxLen) (hl : Hid (l.length = n)) (hA : Hid (EndsAt w A l)) :
    Calls Try.prog 10 #[.string first, .slice A n c] w fun e w' => e = .returned (tri (checkR first l)) ∧ Below w.heap.size w w' := by
  have hn' := hn
  unfold maxLen at hn'
  by_cases hname : nameB first.data.toList = true
  · go_enter Try.func10, Try.ntmps10
    go_wp2_with (go_at_call 17; refine (refName_any _ _ hf).mono ?_; rintro e w' ⟨rfl, rfl⟩)
    go_loopw [7, 8] (fun i _ wr => ∃ k : Nat, k ≤ n ∧ i = .int .i64 k ∧ Hid (checkR first l = chkR first (prevAt l k) k (l.drop k)) ∧ Below w.heap.size w wr) (fun i _ _ => n - (intOf i).toNat)
    case atStart => exact ⟨0, Nat.zero_le _, rfl, by simp [Hid, checkR, hname, prevAt], Below.refl _ _⟩
    case round =>
      obtain ⟨k, hkn, rfl, hchk, hB⟩ := hrel
      by_cases hlt : k < n
      · obtain ⟨x, hx⟩ : ∃ x, l[k]? = some x := ⟨_, List.getElem?_eq_getElem (by have := hl.out; omega)⟩
        have hx' : Hid (l[k]? = some x) := hx
        clear hx
        have hAr : Hid (EndsAt wr A l) := hA.out.below hB
        go_wp2_with (go_at_call 20; refine (wrongR_any _ _ _ _ _ l x _ hlt hn hx' hAr).mono ?_; rintro e w1 ⟨rfl, hb⟩)
        · go_ret3
          exact ⟨triE (chkR_no hchk.out hx'.out (by assumption)), hB.trans (hb.mono hB.size)⟩
        · go_roundw
          case rel => exact ⟨k + 1, by omega, by go_num, chkR_yes hchk.out hx'.out (by assumption), hB.trans (hb.mono hB.size)⟩
          case measure => simp [intOf]; omega
      · obtain rfl : k = n := by omega
        have hd : Hid (chkR first (prevAt l k) k (l.drop k) = ((match prevAt l k with | none => first | some y => y.to), (k : Int), 0)) := by
          unfold Hid; rw [List.drop_eq_nil_of_le (by have := hl.out; omega)]; rfl
        by_cases h0 : k = 0
        · subst h0
          go_wp2
          go_ret3
          exact ⟨triE (by rw [hchk.out, hd.out]; rfl), hB⟩
        · obtain ⟨m, rfl⟩ : ∃ m, k = m + 1 := ⟨k - 1, by omega⟩
          obtain ⟨x, hx⟩ : ∃ x, l[m]? = some x := ⟨_, List.getElem?_eq_getElem (by have := hl.out; omega)⟩
          have hx' : Hid (l[m]? = some x) := hx
          clear hx
          obtain ⟨b, off, rfl, -, h1, -, -, -, -⟩ := (hA.out.below hB) m x hx'.out
          go_wp2
          go_ret3
          exact ⟨triE (by rw [hchk.out, hd.out]; simp [prevAt, hx'.out]), hB⟩
  · have hno : nameB first.data.toList = false := by simpa using hname
    go_enter Try.func10, Try.ntmps10
    go_wp2_with (go_at_call 17; refine (refName_any _ _ hf).mono ?_; rintro e w' ⟨rfl, rfl⟩)
    go_ret3
    exact ⟨triE (by simp [checkR, hno]), Below.refl _ _⟩

end Go.Proofs.Ytdgbghgcnkjjeaa

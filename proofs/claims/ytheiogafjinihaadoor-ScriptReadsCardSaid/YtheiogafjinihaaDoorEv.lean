/- Steps in memory; what the library's and the program's own variables hold; small contracts. -/
import Derived.Test.YtheiogafjinihaaDoorVn
import Derived.Test.YtheiogafjinihaaDoorM
import Derived.Test.YtheiogafjinihaaDoorShelf
namespace Go.Proofs.YtheiogafjinihaaDoor
open Go Go.RowKit Go.BigFrame Go.Maps

abbrev Stp.cells (x : Stp) : Array Value := #[.int .i64 x.kind, .int .i64 x.n, .string ⟨x.party.toArray⟩, .int .i64 x.akind, .int .i64 x.an, .string ⟨x.deal.toArray⟩]
/-- The acts' words as they lie. -/
def actsA : Array Value := (actsL.map fun s => Value.string ⟨s.toArray⟩).toArray
theorem actsA_get (k : Nat) (hk : k < 12) : actsA[k]? = some (.string ⟨(actsL.getD k []).toArray⟩) := by
  have hc : k = 0 ∨ k = 1 ∨ k = 2 ∨ k = 3 ∨ k = 4 ∨ k = 5 ∨ k = 6 ∨ k = 7 ∨ k = 8 ∨ k = 9 ∨ k = 10 ∨ k = 11 := by omega
  rcases hc with rfl | rfl | rfl | rfl | rfl | rfl | rfl | rfl | rfl | rfl | rfl | rfl <;> rfl
theorem below_grows (w : World) (k : Nat) (os : Array Obj) : Below w.heap.size w (Go.Sort.grow (w.drewN k) os) := by
  refine ⟨rfl, rfl, rfl, by simp [Go.Sort.grow], fun j hj => ?_⟩
  show (w.heap ++ os)[j]? = w.heap[j]?
  rw [Array.getElem?_append_left hj]
/-- What the program's and the library's own variables hold. -/
structure Env (w : World) : Prop where
  tab : Lib.TabIs Tryd.prog w "internal/strconv.uint64pow10" .u64 Lib.pow10Tab
  most : ∃ m, w.cell? ⟨1, 0, none⟩ = some (.int .i64 m)
  acts : Blk w 0 104 actsA
  syn : ∃ te pe, w.cell? ⟨2, 0, none⟩ = some (.iface te pe)
  ran : ∃ te pe, w.cell? ⟨3, 0, none⟩ = some (.iface te pe)
  size : 9 ≤ w.heap.size
theorem Env.belowB {w w' : World} {B : Nat} (h : Env w) (hb : Below B w w') (hB : 9 ≤ B) : Env w' := by
  have hs := h.size
  have hc : ∀ b n, b < 9 → w'.cell? ⟨b, n, none⟩ = w.cell? ⟨b, n, none⟩ := fun b n hn => hb.cell (by show b < B; omega)
  refine ⟨var?_below hb (g := 4) (by kernel_rfl) (by omega) h.tab, ?_, h.acts.below hb (by omega), ?_, ?_, Nat.le_trans hs hb.size⟩
  · obtain ⟨m, hm⟩ := h.most
    exact ⟨m, by rw [hc _ _ (by omega)]; exact hm⟩
  · obtain ⟨t, p, hm⟩ := h.syn
    exact ⟨t, p, by rw [hc _ _ (by omega)]; exact hm⟩
  · obtain ⟨t, p, hm⟩ := h.ran
    exact ⟨t, p, by rw [hc _ _ (by omega)]; exact hm⟩
theorem Env.below {w w' : World} (h : Env w) (hb : Below w.heap.size w w') : Env w' := h.belowB hb h.size
theorem Env.but {w w' : World} {b : Nat} (h : Env w) (hb : But b w w') (h9 : 9 ≤ b) : Env w' :=
  h.belowB (B := 9) ⟨hb.os, hb.tape, hb.output, hb.size, fun k hk => hb.block k (Nat.lt_of_lt_of_le hk h.size) (by omega)⟩ (Nat.le_refl _)

theorem itoa_any (n : Int) (w : World) (h0 : -9223372036854775808 ≤ n) (h1 : n ≤ 9223372036854775807) (he : Env w) :
    Calls Tryd.prog 41 #[.int .i64 n] w fun e w' => e = .returned (.string ⟨(Lib.itoa n).toArray⟩) ∧ Below w.heap.size w w' := by
  refine (Tryd.strconv_Itoa n h0 h1 w he.tab).mono ?_
  rintro e w' ⟨rfl, k, os, rfl⟩
  exact ⟨rfl, below_grows w k os⟩
theorem below_bytes {w w' : World} {ty : TypeId} (h : w' = w ∨ ∃ t, w' = Lib.bytesWorld w ty t) : Below w.heap.size w w' := by
  rcases h with rfl | ⟨t, rfl⟩
  · exact Below.refl _ _
  · exact Lib.bytesWorld_below _ _ _
theorem atoi_ok (s : ByteArray) (w : World) (hs : s.size ≤ 281474976710656) (v : Int) (h : Lib.atoiAll s.data.toList = .ok v) :
    Calls Tryd.prog 44 #[.string s] w fun e w' => e = .returned (.tuple #[.int .i64 v, .nilIface]) ∧ Below w.heap.size w w' :=
  (Tryd.strconv_Atoi_ok s (by omega) v h w).mono fun _ _ ⟨he, hw⟩ => ⟨he, below_bytes hw⟩
theorem atoi_no (s : ByteArray) (w : World) (hs : s.size ≤ 281474976710656) (he : Env w) (h : ∀ v, Lib.atoiAll s.data.toList ≠ .ok v) :
    Calls Tryd.prog 44 #[.string s] w fun e w' => (∃ v t p, e = .returned (.tuple #[.int .i64 v, .iface t p])) ∧ Below w.heap.size w w' := by
  cases e : Lib.atoiAll s.data.toList with
  | ok v => exact absurd e (h v)
  | «syntax» =>
    obtain ⟨t, p, hm⟩ := he.syn
    refine (Tryd.strconv_Atoi_syntax s hs e _ w hm (.inr ⟨_, _, rfl⟩)).mono ?_
    rintro e w' ⟨N, rfl, _, _, hb⟩
    exact ⟨⟨_, _, _, rfl⟩, hb⟩
  | range =>
    obtain ⟨t, p, hm⟩ := he.ran
    refine (Tryd.strconv_Atoi_range s hs e _ w hm (.inr ⟨_, _, rfl⟩)).mono ?_
    rintro e w' ⟨N, rfl, _, _, hb⟩
    exact ⟨⟨_, _, _, rfl⟩, hb⟩
theorem smallB_C (c : UInt8) : smallB c = smallC c := by
  unfold smallB smallC letterB numB
  have key : ∀ n : Nat, n < 256 → ((decide (97 ≤ (n : Int)) && decide ((n : Int) ≤ 122)) || (decide (48 ≤ (n : Int)) && decide ((n : Int) ≤ 57)) || !((n : Int) != 45)) = ((decide (97 ≤ n) && decide (n ≤ 122)) || (decide (48 ≤ n) && decide (n ≤ 57)) || decide (n = 45)) := by
    intro n _
    rw [Bool.eq_iff_iff]
    simp
    omega
  exact key c.toNat c.toNat_lt
theorem markB_name (s : List UInt8) : markB s = nameB s := by
  unfold markB nameB
  rw [show smallB = smallC from funext smallB_C]
theorem name_any (s : List UInt8) (w : World) (hs : s.length ≤ maxLen) : Calls Tryd.prog 33 #[.string ⟨s.toArray⟩] w fun e w' => e = .returned (.bool (nameB s)) ∧ w = w' := by
  have h := markName_any ⟨s.toArray⟩ w (by simpa [ByteArray.size] using hs)
  rw [show (⟨s.toArray⟩ : ByteArray).data.toList = s from by simp, markB_name] at h
  exact h
theorem among_any (n : Int) (w : World) : Calls Tryd.prog 42 #[.int .i64 n] w fun e w' => e = .returned (.bool (amongB n)) ∧ w = w' := by
  by_cases h1 : -1048576 ≤ n
  · by_cases h2 : n ≤ 1048576
    · have hr : Hid (amongB n = true) := by unfold Hid amongB; simp; omega
      have b1 : decide (-1048576 ≤ n) = true := by simp; omega
      have b2 : decide (n ≤ 1048576) = true := by simp; omega
      go_enter Tryd.func42, Tryd.ntmps42
      go_wp2_with fail
      go_ret
      exact ⟨by rw [hr.out]; rfl, rfl⟩
    · have hr : Hid (amongB n = false) := by unfold Hid amongB; simp; omega
      have b1 : decide (-1048576 ≤ n) = true := by simp; omega
      have b2 : decide (n ≤ 1048576) = false := by simp; omega
      go_enter Tryd.func42, Tryd.ntmps42
      go_wp2_with fail
      go_ret
      exact ⟨by rw [hr.out]; rfl, rfl⟩
  · have hr : Hid (amongB n = false) := by unfold Hid amongB; simp; omega
    have b1 : decide (-1048576 ≤ n) = false := by simp; omega
    go_enter Tryd.func42, Tryd.ntmps42
    go_wp2_with fail
    go_ret
    exact ⟨by rw [hr.out]; rfl, rfl⟩
end Go.Proofs.YtheiogafjinihaaDoor

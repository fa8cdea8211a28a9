/- Walks of the document's Digits and Line. -/
import Derived.Test.YtdgbghgcnkjjeaaDoorH2
import Derived.Test.YtdgbghgcnkjjeaaDoorShelf
namespace Go.Proofs.YtdgbghgcnkjjeaaDoor
open Go.RowKit Go.BigFrame

theorem retS {a b : List UInt8} (h : a = b) : Ending.returned (.string ⟨a.toArray⟩) = .returned (.string ⟨b.toArray⟩) := by rw [h]

theorem dec_small (u : Nat) (h : u < 10) : Lib.decDigits u = [UInt8.ofNat (48 + u)] := by rw [Lib.decDigits, dif_pos h]
theorem dec_more (u : Nat) (h : ¬ u < 10) : Lib.decDigits u = Lib.decDigits (u / 10) ++ [UInt8.ofNat (48 + u % 10)] := by rw [Lib.decDigits, dif_neg h]

theorem conv_one (W : World) (k : Int) (_h : 0 ≤ k ∧ k ≤ 255) : (convert 38 9 (.slice (some ⟨W.heap.size, 0, none⟩) 1 1)).run Tryd.prog (W.alloc (.cells #[.int .u8 k] 5)) = .ok (.string ⟨#[UInt8.ofNat k.toNat]⟩) (W.alloc (.cells #[.int .u8 k] 5)) := by
  have := run_convert_bytes_arg (P := Tryd.prog) (W.alloc (.cells #[.int .u8 k] 5)) 38 5 Tryd.underlying38 Tryd.underlying5 W.heap.size 0 1 1 [k] rfl
  exact this (fun i hi => by obtain rfl : i = 0 := by omega
                             exact cell_new W _ 5 0 _ rfl) 9 Tryd.underlying9

theorem cat_mk (a b : List UInt8) : (⟨a.toArray⟩ : ByteArray) ++ ⟨b.toArray⟩ = ⟨(a ++ b).toArray⟩ := by
  apply ByteArray.ext
  simp
theorem of48 (k : Nat) : 48 + UInt8.ofNat k = UInt8.ofNat (48 + k) := by simp
theorem dec_len : ∀ n : Nat, (Lib.decDigits n).length ≤ n + 1 := by
  intro n
  induction n using Nat.strongRecOn with
  | ind n ih =>
    by_cases h : n < 10
    · rw [dec_small n h]; simp
    · rw [dec_more n h, List.length_append]
      have := ih (n / 10) (by omega)
      simp; omega
theorem dec_acc {n m : Nat} {acc : List UInt8} (h : Lib.decDigits n = Lib.decDigits m ++ acc) : acc.length ≤ n + 1 := by
  have := dec_len n
  rw [h, List.length_append] at this
  omega

set_option maxRecDepth 100000 in
set_option maxHeartbeats 800000 in
theorem digits_any (n : Nat) (w : World) (hn : n ≤ 1048576) :
    Calls Tryd.prog 29 #[.int .i64 (n : Int)] w fun e w' => e = .returned (.string ⟨(Lib.decDigits n).toArray⟩) ∧ Below w.heap.size w w' := by
  go_enter Tryd.func29, Tryd.ntmps29
  go_wp2
  go_loopw [0, 3] (fun i s wr => ∃ (m : Nat) (acc : List UInt8), m ≤ 1048576 ∧ i = .int .i64 m ∧ s = .string ⟨acc.toArray⟩ ∧ Hid (Lib.decDigits n = Lib.decDigits m ++ acc) ∧ Below w.heap.size w wr) (fun i _ _ => (intOf i).toNat)
  case atStart => exact ⟨n, [], hn, rfl, rfl, by simp [Hid], Below.refl _ _⟩
  case round =>
    obtain ⟨m, acc, hm, rfl, rfl, hacc, hB⟩ := hrel
    have hal : acc.length ≤ 1048577 := by have := dec_acc hacc.out; omega
    by_cases hlt : 9 < m
    · have hcv := conv_one wr (48 + (m : Int) % 10) (by omega)
      go_wp2
      clear hcv
      go_roundw
      case rel =>
        refine ⟨m / 10, UInt8.ofNat (48 + m % 10) :: acc, by omega, by go_num, ?_, ?_, hB.alloc hB.size _⟩
        · rw [of48]; exact congrArg Value.string (cat_mk [_] acc)
        · unfold Hid; rw [hacc.out, dec_more m (by omega)]; simp
      case measure => simp [intOf]; omega
    · have hcv := conv_one wr (48 + (m : Int)) (by omega)
      go_wp2
      go_ret
      refine ⟨?_, hB.alloc hB.size _⟩
      rw [hacc.out, dec_small m (by omega), ← of48]
      exact congrArg (fun s => Ending.returned (Value.string s)) (cat_mk [_] acc)

end Go.Proofs.YtdgbghgcnkjjeaaDoor

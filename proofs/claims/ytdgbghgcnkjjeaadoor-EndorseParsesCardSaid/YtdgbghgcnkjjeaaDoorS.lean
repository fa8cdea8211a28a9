/- The walk of read, whatever the words. -/
import Derived.Test.YtdgbghgcnkjjeaaDoorR
namespace Go.Proofs.YtdgbghgcnkjjeaaDoor
open Go.RowKit Go.BigFrame

theorem readW_other {ws : List ByteArray} (h3 : ws.length ≠ 3) (h4 : ws.length ≠ 4) : readW ws = (endNone, false) := by
  match ws, h3, h4 with
  | [], _, _ => rfl
  | [_], _, _ => rfl
  | [_, _], _, _ => rfl
  | [_, _, _], h, _ => exact absurd rfl h
  | [_, _, _, _], _, h => exact absurd rfl h
  | _ :: _ :: _ :: _ :: _ :: _, _, _ => rfl

set_option maxRecDepth 100000 in
set_option maxHeartbeats 1600000 in
theorem read_other (s : ByteArray) (ws : List ByteArray) (w : World) (hs : s.size ≤ 3000) (he : Env w)
    (hsp : Hid (Lib.splitB ⟨#[32]⟩ 0 (Lib.countB s ⟨#[32]⟩) s = ws)) (hcn : Hid (Lib.countB s ⟨#[32]⟩ + 1 = ws.length)) (h3 : ws.length ≠ 3) (h4 : ws.length ≠ 4) :
    Calls Tryd.prog 20 #[.string s] w fun e w' => e = .returned (endV (readW ws)) ∧ Below w.heap.size w w' := by
  have he' := Lib.hid he
  clear he
  have hrw := Lib.hid (readW_other h3 h4)
  have g4 : ((ws.length : Int) == 4) = false := by rw [beq_eq_false_iff_ne]; omega
  have g3 : ((ws.length : Int) == 3) = false := by rw [beq_eq_false_iff_ne]; omega
  obtain ⟨n, hn⟩ : ∃ n, n = ws.length := ⟨_, rfl⟩
  rw [← hn] at g3 g4
  clear h3 h4
  go_enter Tryd.func20, Tryd.ntmps20
  go_wp2_with fail
  obtain ⟨m, hm⟩ := (he'.out.below ((Below.refl _ w).alloc (Nat.le_refl _) (.cells #[.string ⟨#[]⟩, .string ⟨#[]⟩, .int .i64 0, .int .i64 0] 34))).most
  refine (Tryd.strings_Split s ⟨#[32]⟩ m _ (by omega) hm (by decide)).mono ?_
  rintro e w1 ⟨rfl, rfl⟩
  rw [hsp.out, hcn.out, ← hn]
  clear hm
  have hn' := Lib.hid hn
  clear hn
  generalize (ws.map Value.string).toArray = cs
  go_wp2_with fail
  refine bodyPost_ret (v := .tuple #[.agg #[.string ⟨#[]⟩, .string ⟨#[]⟩, .int .i64 0, .int .i64 0], .bool false]) (by simp [results, Tryd.results20, go_sem]) rfl ⟨?_, ?_⟩
  · rw [hrw.out]; rfl
  · exact (((Below.refl _ w).alloc (Nat.le_refl _) _).alloc (by simp) _).alloc (by simp; omega) _

def words (s : ByteArray) : List ByteArray := Lib.splitB ⟨#[32]⟩ 0 (Lib.countB s ⟨#[32]⟩) s

theorem split_le (sep : ByteArray) : ∀ (k : Nat) (s x : ByteArray), x ∈ Lib.splitB sep 0 k s → x.size ≤ s.size
  | 0, s, x, h => by
    rw [Lib.splitB_zero] at h
    obtain rfl : x = s := by simpa using h
    exact Nat.le_refl _
  | k + 1, s, x, h => by
    rw [Lib.splitB] at h
    split at h
    · obtain rfl : x = s := by simpa using h
      exact Nat.le_refl _
    · rcases List.mem_cons.1 h with rfl | h
      · simp [ByteArray.size_extract]; omega
      · have := split_le sep k _ x h
        simp [ByteArray.size_extract] at this; omega

theorem read_any (s : ByteArray) (w : World) (hs : s.size ≤ 3000) (he : Env w) :
    Calls Tryd.prog 20 #[.string s] w fun e w' => e = .returned (endV (readW (words s))) ∧ Below w.heap.size w w' := by
  have hlen : (words s).length = Lib.countB s ⟨#[32]⟩ + 1 := Lib.splitB_all ⟨#[32]⟩ (by decide) 0 _ s rfl
  have hle : ∀ x ∈ words s, x.size ≤ 3000 := fun x hx => Nat.le_trans (split_le _ _ _ _ hx) hs
  obtain ⟨ws, hws⟩ : ∃ ws, ws = words s := ⟨_, rfl⟩
  rw [← hws] at hlen hle ⊢
  match ws, hlen, hle, hws with
  | [a, b, c, d], hlen, hle, hws => exact read_four s a b c d w hs (hle b (by simp)) (hle c (by simp)) (hle d (by simp)) he hws.symm (by unfold Hid; simp at hlen; omega)
  | [a, b, c], hlen, hle, hws => exact read_three s a b c w hs (hle b (by simp)) (hle c (by simp)) he hws.symm (by unfold Hid; simp at hlen; omega)
  | [], hlen, _, hws => simp at hlen
  | [a], hlen, _, hws => exact read_other s _ w hs he hws.symm hlen.symm (by simp) (by simp)
  | [a, b], hlen, _, hws => exact read_other s _ w hs he hws.symm hlen.symm (by simp) (by simp)
  | a :: b :: c :: d :: e :: r, hlen, _, hws => exact read_other s _ w hs he hws.symm hlen.symm (by simp) (by simp)

end Go.Proofs.YtdgbghgcnkjjeaaDoor

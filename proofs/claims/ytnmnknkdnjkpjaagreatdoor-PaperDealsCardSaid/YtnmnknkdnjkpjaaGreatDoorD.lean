/- The library's tables; digits and joined texts by the library. -/
import Derived.Test.YtnmnknkdnjkpjaaGreatDoorDa
import Derived.Test.YtnmnknkdnjkpjaaGreatDoorShelf
namespace Go.Proofs.YtnmnknkdnjkpjaaGreatDoor
open Go Go.RowKit Go.BigFrame

/-- What the library's own variables hold. -/
structure Env (w : World) : Prop where
  tab : Lib.TabIs Tryz.prog w "internal/strconv.uint64pow10" .u64 Lib.pow10Tab
  most : ∃ m, w.cell? ⟨3, 0, none⟩ = some (.int .i64 m)
  syn : ∃ te pe, w.cell? ⟨1, 0, none⟩ = some (.iface te pe)
  ran : ∃ te pe, w.cell? ⟨2, 0, none⟩ = some (.iface te pe)
  size : 6 ≤ w.heap.size
theorem Env.low {w w' : World} (h : Env w) (hb : Below 6 w w') : Env w' := by
  have hs := h.size
  have hc : ∀ b n, b < 6 → w'.cell? ⟨b, n, none⟩ = w.cell? ⟨b, n, none⟩ := fun b n hn => hb.cell (by show b < 6; omega)
  refine ⟨var?_below hb (g := 0) (by kernel_rfl) (by omega) h.tab, ?_, ?_, ?_, Nat.le_trans hs hb.size⟩
  · obtain ⟨m, hm⟩ := h.most
    exact ⟨m, by rw [hc _ _ (by omega)]; exact hm⟩
  · obtain ⟨t, p, hm⟩ := h.syn
    exact ⟨t, p, by rw [hc _ _ (by omega)]; exact hm⟩
  · obtain ⟨t, p, hm⟩ := h.ran
    exact ⟨t, p, by rw [hc _ _ (by omega)]; exact hm⟩

theorem Env.below {w w' : World} (h : Env w) (hb : Below w.heap.size w w') : Env w' := h.low (hb.mono h.size)
theorem itoa_any (n : Int) (w : World) (h0 : -9223372036854775808 ≤ n) (h1 : n ≤ 9223372036854775807) (he : Env w) :
    Calls Tryz.prog 42 #[.int .i64 n] w fun e w' => e = .returned (.string (mkB (Lib.itoa n))) ∧ Below w.heap.size w w' := by
  refine (Tryz.strconv_Itoa n h0 h1 w he.tab).mono ?_
  rintro e w' ⟨rfl, k, os, rfl⟩
  exact ⟨rfl, below_grows w k os⟩

theorem join_any (A : Option Addr) (n c : Nat) (l : List (List UInt8)) (w : World) (hl : l.length = n) (hA : StrsAt w A (l.map mkB)) (hc : n ≤ c) (hn : n ≤ 1000) (hlen : (Lib.join l [44]).length ≤ 140737488355328) :
    Calls Tryz.prog 70 #[.slice A n c, .string ⟨#[44]⟩] w fun e w' => e = .returned (.string (mkB (Lib.join l [44]))) ∧ Below w.heap.size w w' := by
  subst hl
  have hm : (l.map mkB).map (fun x => x.data.toList) = l := by
    rw [List.map_map]
    have : ((fun (x : ByteArray) => x.data.toList) ∘ mkB) = id := by funext x; simp [mkB]
    rw [this]; simp
  match hll : l with
  | [] =>
    refine (Tryz.strings_Join_none A c ⟨#[44]⟩ w).mono ?_
    rintro e w' ⟨rfl, rfl⟩
    exact ⟨rfl, Below.refl _ _⟩
  | x :: r =>
    rw [← hll]
    obtain ⟨b, off, rfl, h0⟩ := hA 0 (mkB x) (by rw [hll]; rfl)
    have := Tryz.strings_Join b off c (l.map mkB) ⟨#[44]⟩ w (fun j y hj => by
      obtain ⟨b', off', e, h⟩ := hA j y hj
      simp only [Option.some.injEq, Addr.mk.injEq, and_true] at e
      obtain ⟨rfl, rfl⟩ := e
      exact h) (World.block_lt_of_cell? w _ h0) (by rw [List.length_map]; omega) (by rw [List.length_map]; exact hc) (by rw [hm]; exact hlen)
    rw [hm, List.length_map] at this
    exact this

end Go.Proofs.YtnmnknkdnjkpjaaGreatDoor

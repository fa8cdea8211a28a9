/- The document's Papers: two rows of papers that say the same. -/
import Derived.Test.YtnmnknkdnjkpjaaGreatDoorAl
import Derived.Test.YtnmnknkdnjkpjaaGreatDoorX
namespace Go.Proofs.YtnmnknkdnjkpjaaGreatDoor
open Go Go.RowKit Go.BigFrame Go.Maps

set_option maxRecDepth 100000 in
set_option maxHeartbeats 1600000 in
theorem papers_any (A A' : Option Addr) (n c c' : Nat) (l l' : List Pap) (w : World) (hn : n ≤ 1000000) (hl : Hid (l.length = n)) (hA : Hid (DocsAt w A l)) (hA' : Hid (DocsAt w A' l')) (he : Hid (l.map Pap.pl = l'.map Pap.pl)) (hsm : Hid (∀ p ∈ l, p.fields.length ≤ 1000000)) :
    Calls Tryz.prog 22 #[.slice A n c, .slice A' n c'] w fun e w' => e = .returned (.bool true) ∧ Below w.heap.size w w' := by
  go_enter Tryz.func22, Tryz.ntmps22
  go_wp2_with fail
  go_loopw [5] (fun i wr => ∃ k : Nat, k ≤ n ∧ i = .int .i64 (k : Int) ∧ Hid (Below w.heap.size w wr)) (fun i _ => n - (intOf i).toNat)
  case atStart => exact ⟨0, Nat.zero_le _, rfl, Below.refl _ _⟩
  case round =>
    obtain ⟨k, hk, rfl, hB⟩ := hrel
    by_cases hlt : k < n
    · obtain ⟨x, hx⟩ : ∃ x, l[k]? = some x := ⟨_, List.getElem?_eq_getElem (by have := hl.out; omega)⟩
      obtain ⟨y, hy, hxy⟩ : ∃ y, l'[k]? = some y ∧ y.pl = x.pl := by
        have h1 : (l.map Pap.pl)[k]? = some x.pl := by rw [List.getElem?_map, hx]; rfl
        rw [he.out, List.getElem?_map] at h1
        cases h2 : l'[k]? with
        | none => rw [h2] at h1; simp at h1
        | some y => rw [h2] at h1; exact ⟨y, rfl, by simpa using h1⟩
      obtain ⟨b, off, rfl, h0, h1, h2, h3, h4, _, _⟩ := (hA.out.below hB.out) k x hx
      obtain ⟨b', off', rfl, g0, g1, g2, g3, g4, _, _⟩ := (hA'.out.below hB.out) k y hy
      have hsx := hsm.out x (List.mem_of_getElem? hx)
      clear hx hy
      obtain ⟨kd, nu, is, fA, fc, fs⟩ := x
      obtain ⟨kd', nu', is', fA', fc', fs'⟩ := y
      simp only [Pap.pl, Dc.mk.injEq] at hxy
      obtain ⟨rfl, rfl, rfl, rfl⟩ := hxy
      simp only at h0 h1 h2 h3 h4 g0 g1 g2 g3 g4 hsx
      obtain ⟨m, hm⟩ : ∃ m, Hid (fs'.length = m) := ⟨_, rfl⟩
      rw [hm.out] at h3 g3 hsx
      have h4' := Lib.hid h4
      have g4' := Lib.hid g4
      clear h4 g4
      have z1 : Hid (∀ W, Below wr.heap.size wr W → W.cell? ⟨b, off + k * 4, none⟩ = some (.int .i64 kd') ∧ W.cell? ⟨b, off + k * 4 + 1, none⟩ = some (.string nu') ∧ W.cell? ⟨b, off + k * 4 + 2, none⟩ = some (.string is') ∧ W.cell? ⟨b, off + k * 4 + 3, none⟩ = some (.slice fA m fc) ∧
        W.cell? ⟨b', off' + k * 4, none⟩ = some (.int .i64 kd') ∧ W.cell? ⟨b', off' + k * 4 + 1, none⟩ = some (.string nu') ∧ W.cell? ⟨b', off' + k * 4 + 2, none⟩ = some (.string is') ∧ W.cell? ⟨b', off' + k * 4 + 3, none⟩ = some (.slice fA' m fc')) := fun W hW =>
        ⟨(hW.cell (World.block_lt_of_cell? _ _ h0)).trans h0, (hW.cell (World.block_lt_of_cell? _ _ h1)).trans h1, (hW.cell (World.block_lt_of_cell? _ _ h2)).trans h2, (hW.cell (World.block_lt_of_cell? _ _ h3)).trans h3,
          (hW.cell (World.block_lt_of_cell? _ _ g0)).trans g0, (hW.cell (World.block_lt_of_cell? _ _ g1)).trans g1, (hW.cell (World.block_lt_of_cell? _ _ g2)).trans g2, (hW.cell (World.block_lt_of_cell? _ _ g3)).trans g3⟩
      have hcall : Hid (∀ W, Below wr.heap.size wr W → Calls Tryz.prog 9 #[.agg #[.int .i64 kd', .string nu', .string is', .slice fA m fc], .agg #[.int .i64 kd', .string nu', .string is', .slice fA' m fc']] W fun e w' => e = .returned (.bool true) ∧ Below W.heap.size W w') :=
        fun W hW => alike_any kd' nu' is' fA fA' m fc fc' fs' W hsx hm (Lib.hid (h4'.out.below hW)) (Lib.hid (g4'.out.below hW))
      clear h0 h1 h2 h3 g0 g1 g2 g3
      go_wp2_with fail
      go_region_held3 (fun W => W.cell? ⟨b, off + k * 4, none⟩ = some (.int .i64 kd') ∧ W.cell? ⟨b, off + k * 4 + 1, none⟩ = some (.string nu') ∧ W.cell? ⟨b, off + k * 4 + 2, none⟩ = some (.string is') ∧ W.cell? ⟨b, off + k * 4 + 3, none⟩ = some (.slice fA m fc) ∧
        W.cell? ⟨b', off' + k * 4, none⟩ = some (.int .i64 kd') ∧ W.cell? ⟨b', off' + k * 4 + 1, none⟩ = some (.string nu') ∧ W.cell? ⟨b', off' + k * 4 + 2, none⟩ = some (.string is') ∧ W.cell? ⟨b', off' + k * 4 + 3, none⟩ = some (.slice fA' m fc')) (first | exact z1.out _ (Below.refl _ _).drew | exact z1.out _ hb1') (first
        | (go_at_call 9; (with_reducible refine (hcall.out _ (Below.refl _ _).drew).mono ?_); rintro e w1 ⟨rfl, hb1⟩; have hb1' : Below wr.heap.size wr w1 := (Below.refl _ _).drew.trans hb1))
      all_goals
        have hB1 : Hid (Below w.heap.size w w1) := hB.out.trans (hb1'.mono hB.out.size)
        clear hb1 hb1'
        go_wp2_with fail
        go_roundw
        case rel => exact ⟨k + 1, by omega, by go_num, hB1⟩
        case measure => simp [intOf]; omega
    · go_wp2_with fail
      go_ret
      exact ⟨rfl, hB.out⟩
end Go.Proofs.YtnmnknkdnjkpjaaGreatDoor

/- Faults waived: the plain laws; what is told may be a map's key. (Plain: no program.) -/
import Derived.Deep.RegionHeld3
import Derived.Test.YtdjmckjbibfecaaGreatDoorEc
import Derived.Test.YtdjmckjbibfecaaGreatDoorEf
import Derived.Test.YtdjmckjbibfecaaGreatDoorEn
import Derived.Test.YtdjmckjbibfecaaGreatDoorWa
namespace Go.Proofs.YtdjmckjbibfecaaGreatDoor
open Go Go.RowKit

theorem ba_inj {a b : ByteArray} (h : a.toList = b.toList) : a = b := by
  rw [ba_list, ba_list] at h
  exact ByteArray.ext (Array.toList_inj.1 h)
theorem eqF_iff {x y : Flt} : eqF x y = true ↔ x = y := by
  obtain ⟨a, b, c, d⟩ := x
  obtain ⟨a', b', c', d'⟩ := y
  unfold eqF
  simp only [Bool.and_eq_true, beq_iff_eq, Flt.mk.injEq]
  constructor
  · rintro ⟨h1, h2, h3, h4⟩; exact ⟨h1, h2, ba_inj h3, h4⟩
  · rintro ⟨h1, h2, h3, h4⟩; exact ⟨h1, h2, by rw [h3], h4⟩
/-- Is a fault among faults? -/
def anyB (l : List Flt) (f : Flt) : Bool := l.any fun x => eqF x f
theorem anyB_iff {l : List Flt} {f : Flt} : anyB l f = true ↔ f ∈ l := by
  unfold anyB
  rw [List.any_eq_true]
  constructor
  · rintro ⟨x, hx, h⟩; rw [← eqF_iff.1 h]; exact hx
  · intro h; exact ⟨f, h, eqF_iff.2 rfl⟩
end Go.Proofs.YtdjmckjbibfecaaGreatDoor
namespace Go.Proofs.YtdjmckjbibfecaaGreatDoor
open Go Go.RowKit Go.BigFrame Go.Maps

theorem Tree.cells_len (t : Tree) : t.cells.toList.length = 6 := by obtain ⟨a, b, d, e, f, g, h, i⟩ := t; simp [Tree.cells]
end Go.Proofs.YtdjmckjbibfecaaGreatDoor
namespace Go.Proofs.YtdjmckjbibfecaaGreatDoor
open Go Go.RowKit Go.BigFrame Go.Maps

end Go.Proofs.YtdjmckjbibfecaaGreatDoor
namespace Go.Proofs.YtdjmckjbibfecaaGreatDoor
open Go Go.RowKit Go.BigFrame Go.Maps

mutual
theorem parts_all {Q : Tree → Prop} : ∀ t : Tree, allT Q t → ∀ u ∈ partsT t, allT Q u
  | .mk k p f x n A c L, h, u, hu => by
    rw [partsT] at hu
    split at hu
    · rw [allT] at h
      exact partsL_all L h.2 u hu
    · obtain rfl := List.mem_singleton.1 hu
      exact h
theorem partsL_all {Q : Tree → Prop} : ∀ L : List Tree, allL Q L → ∀ u ∈ partsL L, allT Q u
  | [], _, u, hu => by rw [partsL] at hu; simp at hu
  | t :: L, h, u, hu => by
    rw [allL] at h
    rw [partsL, List.mem_append] at hu
    rcases hu with hu | hu
    · exact parts_all t h.1 u hu
    · exact partsL_all L h.2 u hu
end
end Go.Proofs.YtdjmckjbibfecaaGreatDoor
namespace Go.Proofs.YtdjmckjbibfecaaGreatDoor
open Go

/-- The faults that aren't waived. -/
def waiveM (l w : List Flt) : List Flt := l.filter fun x => !anyB w x
/-- Are these just the faults, each once? -/
def neededM (L l : List Flt) : Bool := decide (l.length = L.length) && decide ((waiveM L l).length = 0)
theorem waive_snoc {l w : List Flt} {k : Nat} {x : Flt} (hk : l[k]? = some x) : waiveM (l.take (k + 1)) w = waiveM (l.take k) w ++ (if anyB w x then [] else [x]) := by
  obtain ⟨hl, e⟩ := List.getElem?_eq_some_iff.1 hk
  unfold waiveM
  rw [List.take_succ_eq_append_getElem hl, e, List.filter_append]
  congr 1
  cases h : anyB w x <;> simp [h]

theorem fits_of_nums {p k y : Int} {f : ByteArray} (hp : -9223372036854775808 ≤ p ∧ p ≤ 9223372036854775807) (hk : -9223372036854775808 ≤ k ∧ k ≤ 9223372036854775807) (hf : f.size ≤ 1000000) (hy : 0 ≤ y ∧ y ≤ 6) : Flt.fits ⟨p, k, f, y⟩ :=
  ⟨fits_i64 hp.1 hp.2, fits_i64 hk.1 hk.2, by show f.size ≤ maxLen; unfold maxLen; omega, fits_i64 (n := y) (by omega) (by omega)⟩
theorem ask_fits {a : Int} {d : Pap} {name : ByteArray} {wrong : ByteArray → Int} (ha : -9223372036854775808 ≤ a ∧ a ≤ 9223372036854775807) (hk : -9223372036854775808 ≤ d.kind ∧ d.kind ≤ 9223372036854775807) (hs : name.size ≤ 1000000) (hw : ∀ v, 0 ≤ wrong v ∧ wrong v ≤ 6) : ∀ x ∈ askF a d name wrong, x.fits := by
  intro x hx
  unfold askF at hx
  split at hx
  · obtain rfl := List.mem_singleton.1 hx
    exact fits_of_nums ha hk hs (by omega)
  · split at hx
    · cases hx
    · obtain rfl := List.mem_singleton.1 hx
      exact fits_of_nums ha hk hs (hw _)
theorem isW_range (t v : ByteArray) : 0 ≤ isW t v ∧ isW t v ≤ 6 := by unfold isW; split <;> omega
theorem sumW_range (c : Crd) (v : ByteArray) : 0 ≤ sumW c v ∧ sumW c v ≤ 6 := by
  unfold sumW
  split
  · omega
  · split
    · omega
    · split <;> omega
theorem issuedW_range (c : Crd) (day : Int) (v : ByteArray) : 0 ≤ issuedW c day v ∧ issuedW c day v ≤ 6 := by
  unfold issuedW
  split
  · omega
  · split <;> omega
theorem alikeB_small : ∀ i, i < 6 → (alikeB i).size ≤ 1000000 := by
  intro i hi
  have : i = 0 ∨ i = 1 ∨ i = 2 ∨ i = 3 ∨ i = 4 ∨ i = 5 := by omega
  rcases this with rfl | rfl | rfl | rfl | rfl | rfl <;> decide
theorem exam_fits {c : Crd} {needs : List Nd} {docs : List Pap} {day : Int} (hd : ∀ d ∈ docs, -9223372036854775808 ≤ d.kind ∧ d.kind ≤ 9223372036854775807) (hn : ∀ x ∈ needs, -9223372036854775808 ≤ x.kind ∧ x.kind ≤ 9223372036854775807)
    (hf : ∀ x ∈ needs, allT (fun t => t.field.size ≤ 1000000) x.rule) (h12 : docs.length ≤ 1000) : ∀ x ∈ examF c needs docs day, x.fits := by
  intro x hx
  rw [mem_examF] at hx
  unfold toldE at hx
  rcases List.mem_append.1 hx with hx | hx
  · unfold expF at hx
    split at hx
    · obtain rfl := List.mem_singleton.1 hx
      exact fits_of_nums (by omega) (by omega) (by decide) (by omega)
    · cases hx
  rcases List.mem_append.1 hx with hx | hx
  · obtain ⟨y, hy, hx⟩ := List.mem_flatMap.1 hx
    unfold lackF at hx
    split at hx
    · obtain rfl := List.mem_singleton.1 hx
      exact fits_of_nums (by omega) (hn y hy) (by decide) (by omega)
    · cases hx
  obtain ⟨a, ha, hx⟩ := List.mem_flatMap.1 hx
  rw [List.mem_range] at ha
  unfold docAt at hx
  split at hx
  · rename_i d hda
    have hk := hd d (List.mem_of_getElem? hda)
    have haI : -9223372036854775808 ≤ (a : Int) ∧ (a : Int) ≤ 9223372036854775807 := by omega
    unfold docF at hx
    split at hx
    · rcases List.mem_append.1 hx with hx | hx
      · unfold paperF at hx
        rcases List.mem_append.1 hx with hx | hx
        · unfold fixedF at hx
          split at hx
          · unfold invoiceF at hx
            rcases List.mem_append.1 hx with hx | hx
            · exact ask_fits haI hk (by decide) (isW_range _) x hx
            rcases List.mem_append.1 hx with hx | hx
            · exact ask_fits haI hk (by decide) (isW_range _) x hx
            rcases List.mem_append.1 hx with hx | hx
            · exact ask_fits haI hk (by decide) (isW_range _) x hx
            · exact ask_fits haI hk (by decide) (sumW_range _) x hx
          · split at hx
            · exact ask_fits haI hk (by decide) (issuedW_range _ _) x hx
            · cases hx
        · unfold ruledF at hx
          obtain ⟨y, hy, hx⟩ := List.mem_flatMap.1 hx
          unfold needR at hx
          split at hx
          · obtain ⟨u, hu, hx⟩ := List.mem_flatMap.1 hx
            have hfu : u.field.size ≤ 1000000 := allT_here (parts_all y.rule (hf y hy) u hu)
            unfold ruleF at hx
            split at hx
            · cases hx
            · obtain rfl := List.mem_singleton.1 hx
              refine fits_of_nums haI hk ?_ ?_
              · split
                · exact hfu
                · decide
              · have := holdsT_range docs d u
                split <;> omega
          · cases hx
      · unfold othersF at hx
        obtain ⟨i, hi, hx⟩ := List.mem_flatMap.1 hx
        rw [List.mem_range] at hi
        unfold otherF at hx
        split at hx
        · cases hx
        · split at hx
          · cases hx
          · split at hx
            · cases hx
            · obtain rfl := List.mem_singleton.1 hx
              exact fits_of_nums haI hk (alikeB_small i hi) (by omega)
    · cases hx
  · cases hx
/-- The rules' fields are short where few is asked. -/
theorem small_field {t : Tree} (h : sizeT t 200 ≤ 60) : allT (fun t => t.field.size ≤ 1000000) t := by
  have e := size_wgt t 200 (by omega)
  refine allT_mono (fun t h => ?_) t (wgt_all t 60 (by omega))
  show t.field.size ≤ 1000000
  omega
end Go.Proofs.YtdjmckjbibfecaaGreatDoor
namespace Go.Proofs.YtdjmckjbibfecaaGreatDoor
open Go Go.RowKit Go.BigFrame Go.Maps

end Go.Proofs.YtdjmckjbibfecaaGreatDoor
namespace Go.Proofs.YtdjmckjbibfecaaGreatDoor
open Go Go.RowKit Go.BigFrame Go.Maps

section
variable {P : Program} {ops : Array Oper} {o : Oper} {a : Act} {W : World} {Q : Exit → Act → World → Prop} {K : Act → World → Prop} {E : Prop}
theorem wpList_load_blkg {rest : List Oper} {w : World} (hw : Region.wanted o (yielded ops a.tmps) = true) (ty : TypeId) (x : Operand) (ho : o.op = .load ty x) (g : Nat) (cs : Array Value) (t : TypeId) (d : TypeDesc) (hx : a.eval x = .pointer (some ⟨g, 0, none⟩))
    (hb : Blk w g t cs) (hu : P.underlying ty = some d) (hd : (match d with | .struct _ | .array _ _ => true | _ => false) = true) (hi : (P.info? ty).map (·.size) = some cs.size)
    (h : wpList P ops Q rest (a.put o.dst (.agg cs)) w) : wpList P ops Q (o :: rest) a w := by
  rw [wpList, if_pos hw]
  exact .inl (wp_load_row ty x ho g hx t cs (0, 0) d hb hu hd hi h)
end
end Go.Proofs.YtdjmckjbibfecaaGreatDoor

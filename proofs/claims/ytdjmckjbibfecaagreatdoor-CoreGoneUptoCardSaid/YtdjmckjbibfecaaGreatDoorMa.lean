/- What a field of a paper would have to say, and the papers so mended: the model, in plain words. -/
import Derived.Deep.RegionHeld3
import Derived.Test.YtdjmckjbibfecaaGreatDoorAb
import Derived.Test.YtdjmckjbibfecaaGreatDoorEc
import Derived.Test.YtdjmckjbibfecaaGreatDoorEf
import Derived.Test.YtdjmckjbibfecaaGreatDoorEk
import Derived.Test.YtdjmckjbibfecaaGreatDoorEn
import Derived.Test.YtdjmckjbibfecaaGreatDoorHa
import Derived.Test.YtdjmckjbibfecaaGreatDoorWa
import Derived.Test.YtdjmckjbibfecaaGreatDoorX
namespace Go.Proofs.YtdjmckjbibfecaaGreatDoor
open Go Go.RowKit

theorem eq_flt (x y : Flt) (W : World) : (binOp .eql 54 (.agg #[.int .i64 x.paper, .int .i64 x.kind, .string x.field, .int .i64 x.why]) (.agg #[.int .i64 y.paper, .int .i64 y.kind, .string y.field, .int .i64 y.why])).run Tryz.prog W = .ok (.bool (eqF x y)) W := by
  rw [run_eql_struct, run_equalIn_struct _ _ _ _ _ Tryz.fields54 Tryz.held54]
  unfold Program.fieldsOf
  rw [Tryz.underlying54]
  unfold eqF
  by_cases h1 : x.paper = y.paper <;> by_cases h2 : x.kind = y.kind <;> by_cases h3 : x.field.toList = y.field.toList <;> by_cases h4 : x.why = y.why <;> simp [go_sem, h1, h2, h3, h4]
theorem ba_inj {a b : ByteArray} (h : a.toList = b.toList) : a = b := by
  rw [ba_list, ba_list] at h
  exact ByteArray.ext (Array.toList_inj.1 h)
theorem eqF_iff {x y : Flt} : eqF x y = true ↔ x = y := by
  obtain ⟨a, b, c, d⟩ := x
  obtain ⟨a', b', c', d'⟩ := y
  unfold eqF
  simp only [Bool.and_eq_true, beq_iff_eq, Flt.mk.injEq]
  constructor
  · rintro ⟨h1, h2, h3, h4⟩; exact ⟨h1, h2, ba_inj h3, h4⟩
  · rintro ⟨h1, h2, h3, h4⟩; exact ⟨h1, h2, by rw [h3], h4⟩
/-- Is a fault among faults? -/
def anyB (l : List Flt) (f : Flt) : Bool := l.any fun x => eqF x f
theorem anyB_iff {l : List Flt} {f : Flt} : anyB l f = true ↔ f ∈ l := by
  unfold anyB
  rw [List.any_eq_true]
  constructor
  · rintro ⟨x, hx, h⟩; rw [← eqF_iff.1 h]; exact hx
  · intro h; exact ⟨f, h, eqF_iff.2 rfl⟩
end Go.Proofs.YtdjmckjbibfecaaGreatDoor
namespace Go.Proofs.YtdjmckjbibfecaaGreatDoor
open Go Go.RowKit Go.BigFrame Go.Maps

def tcells (l : List Tree) : List Value := l.flatMap fun t => t.cells.toList
theorem Tree.cells_len (t : Tree) : t.cells.toList.length = 6 := by obtain ⟨a, b, d, e, f, g, h, i⟩ := t; simp [Tree.cells]
end Go.Proofs.YtdjmckjbibfecaaGreatDoor
namespace Go.Proofs.YtdjmckjbibfecaaGreatDoor
open Go Go.RowKit Go.BigFrame Go.Maps

end Go.Proofs.YtdjmckjbibfecaaGreatDoor
namespace Go.Proofs.YtdjmckjbibfecaaGreatDoor
open Go Go.RowKit Go.BigFrame Go.Maps

mutual
theorem parts_all {Q : Tree → Prop} : ∀ t : Tree, allT Q t → ∀ u ∈ partsT t, allT Q u
  | .mk k p f x n A c L, h, u, hu => by
    rw [partsT] at hu
    split at hu
    · rw [allT] at h
      exact partsL_all L h.2 u hu
    · obtain rfl := List.mem_singleton.1 hu
      exact h
theorem partsL_all {Q : Tree → Prop} : ∀ L : List Tree, allL Q L → ∀ u ∈ partsL L, allT Q u
  | [], _, u, hu => by rw [partsL] at hu; simp at hu
  | t :: L, h, u, hu => by
    rw [allL] at h
    rw [partsL, List.mem_append] at hu
    rcases hu with hu | hu
    · exact parts_all t h.1 u hu
    · exact partsL_all L h.2 u hu
end
end Go.Proofs.YtdjmckjbibfecaaGreatDoor
namespace Go.Proofs.YtdjmckjbibfecaaGreatDoor
open Go

/-- The faults that aren't waived. -/
def waiveM (l w : List Flt) : List Flt := l.filter fun x => !anyB w x
theorem any_no {l : List Flt} {f : Flt} : anyB l f = false ↔ f ∉ l := by rw [← Bool.not_eq_true, anyB_iff]
theorem waive_snoc {l w : List Flt} {k : Nat} {x : Flt} (hk : l[k]? = some x) : waiveM (l.take (k + 1)) w = waiveM (l.take k) w ++ (if anyB w x then [] else [x]) := by
  obtain ⟨hl, e⟩ := List.getElem?_eq_some_iff.1 hk
  unfold waiveM
  rw [List.take_succ_eq_append_getElem hl, e, List.filter_append]
  congr 1
  cases h : anyB w x <;> simp [h]

theorem fits_of_nums {p k y : Int} {f : ByteArray} (hp : -9223372036854775808 ≤ p ∧ p ≤ 9223372036854775807) (hk : -9223372036854775808 ≤ k ∧ k ≤ 9223372036854775807) (hf : f.size ≤ 1000000) (hy : 0 ≤ y ∧ y ≤ 6) : Flt.fits ⟨p, k, f, y⟩ :=
  ⟨fits_i64 hp.1 hp.2, fits_i64 hk.1 hk.2, by show f.size ≤ maxLen; unfold maxLen; omega, fits_i64 (n := y) (by omega) (by omega)⟩
theorem ask_fits {a : Int} {d : Pap} {name : ByteArray} {wrong : ByteArray → Int} (ha : -9223372036854775808 ≤ a ∧ a ≤ 9223372036854775807) (hk : -9223372036854775808 ≤ d.kind ∧ d.kind ≤ 9223372036854775807) (hs : name.size ≤ 1000000) (hw : ∀ v, 0 ≤ wrong v ∧ wrong v ≤ 6) : ∀ x ∈ askF a d name wrong, x.fits := by
  intro x hx
  unfold askF at hx
  split at hx
  · obtain rfl := List.mem_singleton.1 hx
    exact fits_of_nums ha hk hs (by omega)
  · split at hx
    · cases hx
    · obtain rfl := List.mem_singleton.1 hx
      exact fits_of_nums ha hk hs (hw _)
theorem isW_range (t v : ByteArray) : 0 ≤ isW t v ∧ isW t v ≤ 6 := by unfold isW; split <;> omega
theorem sumW_range (c : Crd) (v : ByteArray) : 0 ≤ sumW c v ∧ sumW c v ≤ 6 := by
  unfold sumW
  split
  · omega
  · split
    · omega
    · split <;> omega
theorem issuedW_range (c : Crd) (day : Int) (v : ByteArray) : 0 ≤ issuedW c day v ∧ issuedW c day v ≤ 6 := by
  unfold issuedW
  split
  · omega
  · split <;> omega
theorem alikeB_small : ∀ i, i < 6 → (alikeB i).size ≤ 1000000 := by
  intro i hi
  have : i = 0 ∨ i = 1 ∨ i = 2 ∨ i = 3 ∨ i = 4 ∨ i = 5 := by omega
  rcases this with rfl | rfl | rfl | rfl | rfl | rfl <;> decide
theorem exam_fits {c : Crd} {needs : List Nd} {docs : List Pap} {day : Int} (hd : ∀ d ∈ docs, -9223372036854775808 ≤ d.kind ∧ d.kind ≤ 9223372036854775807) (hn : ∀ x ∈ needs, -9223372036854775808 ≤ x.kind ∧ x.kind ≤ 9223372036854775807)
    (hf : ∀ x ∈ needs, allT (fun t => t.field.size ≤ 1000000) x.rule) (h12 : docs.length ≤ 1000) : ∀ x ∈ examF c needs docs day, x.fits := by
  intro x hx
  rw [mem_examF] at hx
  unfold toldE at hx
  rcases List.mem_append.1 hx with hx | hx
  · unfold expF at hx
    split at hx
    · obtain rfl := List.mem_singleton.1 hx
      exact fits_of_nums (by omega) (by omega) (by decide) (by omega)
    · cases hx
  rcases List.mem_append.1 hx with hx | hx
  · obtain ⟨y, hy, hx⟩ := List.mem_flatMap.1 hx
    unfold lackF at hx
    split at hx
    · obtain rfl := List.mem_singleton.1 hx
      exact fits_of_nums (by omega) (hn y hy) (by decide) (by omega)
    · cases hx
  obtain ⟨a, ha, hx⟩ := List.mem_flatMap.1 hx
  rw [List.mem_range] at ha
  unfold docAt at hx
  split at hx
  · rename_i d hda
    have hk := hd d (List.mem_of_getElem? hda)
    have haI : -9223372036854775808 ≤ (a : Int) ∧ (a : Int) ≤ 9223372036854775807 := by omega
    unfold docF at hx
    split at hx
    · rcases List.mem_append.1 hx with hx | hx
      · unfold paperF at hx
        rcases List.mem_append.1 hx with hx | hx
        · unfold fixedF at hx
          split at hx
          · unfold invoiceF at hx
            rcases List.mem_append.1 hx with hx | hx
            · exact ask_fits haI hk (by decide) (isW_range _) x hx
            rcases List.mem_append.1 hx with hx | hx
            · exact ask_fits haI hk (by decide) (isW_range _) x hx
            rcases List.mem_append.1 hx with hx | hx
            · exact ask_fits haI hk (by decide) (isW_range _) x hx
            · exact ask_fits haI hk (by decide) (sumW_range _) x hx
          · split at hx
            · exact ask_fits haI hk (by decide) (issuedW_range _ _) x hx
            · cases hx
        · unfold ruledF at hx
          obtain ⟨y, hy, hx⟩ := List.mem_flatMap.1 hx
          unfold needR at hx
          split at hx
          · obtain ⟨u, hu, hx⟩ := List.mem_flatMap.1 hx
            have hfu : u.field.size ≤ 1000000 := allT_here (parts_all y.rule (hf y hy) u hu)
            unfold ruleF at hx
            split at hx
            · cases hx
            · obtain rfl := List.mem_singleton.1 hx
              refine fits_of_nums haI hk ?_ ?_
              · split
                · exact hfu
                · decide
              · have := holdsT_range docs d u
                split <;> omega
          · cases hx
      · unfold othersF at hx
        obtain ⟨i, hi, hx⟩ := List.mem_flatMap.1 hx
        rw [List.mem_range] at hi
        unfold otherF at hx
        split at hx
        · cases hx
        · split at hx
          · cases hx
          · split at hx
            · cases hx
            · obtain rfl := List.mem_singleton.1 hx
              exact fits_of_nums haI hk (alikeB_small i hi) (by omega)
    · cases hx
  · cases hx
/-- The rules' fields are short where few is asked. -/
theorem small_field {t : Tree} (h : sizeT t 200 ≤ 60) : allT (fun t => t.field.size ≤ 1000000) t := by
  have e := size_wgt t 200 (by omega)
  refine allT_mono (fun t h => ?_) t (wgt_all t 60 (by omega))
  show t.field.size ≤ 1000000
  omega
end Go.Proofs.YtdjmckjbibfecaaGreatDoor
namespace Go.Proofs.YtdjmckjbibfecaaGreatDoor
open Go Go.RowKit Go.BigFrame Go.Maps

end Go.Proofs.YtdjmckjbibfecaaGreatDoor
namespace Go.Proofs.YtdjmckjbibfecaaGreatDoor
open Go Go.RowKit Go.BigFrame Go.Maps

/-- Papers that say the same, wherever their fields lie. -/
def sameP (x y : Pap) : Prop := x.kind = y.kind ∧ x.number = y.number ∧ x.issuer = y.issuer ∧ x.fields = y.fields
def sameD (l m : List Pap) : Prop := l.length = m.length ∧ ∀ (i : Nat) (x y : Pap), l[i]? = some x → m[i]? = some y → sameP x y
def encD (x : Pap) : List Value := [.int .i64 x.kind, .string x.number, .string x.issuer, .slice x.fA x.fields.length x.fc]
def flD (l : List Pap) : List Value := l.flatMap encD
theorem encD_len (x : Pap) : (encD x).length = 4 := rfl
theorem flD_one (l : List Pap) : ∀ u ∈ flD l, u.oneCell' = true := by
  intro u hu
  obtain ⟨f, _, hf⟩ := List.mem_flatMap.1 hu
  simp [encD] at hf
  rcases hf with rfl | rfl | rfl | rfl <;> rfl
theorem DocsAt.row {w : World} {A : Option Addr} {l : List Pap} (h : DocsAt w A l) : RowOf encD 4 w A l := by
  intro i x hx
  obtain ⟨b, off, e, h0, h1, h2, h3, _⟩ := h i x hx
  refine ⟨b, off, e, fun j u hu => ?_⟩
  match j with
  | 0 => simp [encD] at hu; subst hu; exact h0
  | 1 => simp [encD] at hu; subst hu; exact h1
  | 2 => simp [encD] at hu; subst hu; exact h2
  | 3 => simp [encD] at hu; subst hu; exact h3
  | j + 4 => simp [encD] at hu
theorem DocsAt.of_row {w : World} {A : Option Addr} {l : List Pap} (h : RowOf encD 4 w A l) (hf : ∀ x ∈ l, FieldsAt w x.fA x.fields ∧ x.fields.length ≤ maxLen ∧ (-9223372036854775808 ≤ x.kind ∧ x.kind ≤ 9223372036854775807)) : DocsAt w A l := by
  intro i x hx
  obtain ⟨b, off, e, hc⟩ := h i x hx
  obtain ⟨f1, f2, f3⟩ := hf x (List.mem_of_getElem? hx)
  exact ⟨b, off, e, hc 0 _ rfl, hc 1 _ rfl, hc 2 _ rfl, hc 3 _ rfl, f1, f2, f3⟩
theorem Tryz.info61 : (Tryz.prog.info? 61).map (fun i => (i.zero, i.size, i.bytes)) = some (some (.agg #[.int .i64 0, .string ⟨#[]⟩, .string ⟨#[]⟩, .slice none 0 0]), 4, 64) := by kernel_rfl
set_option maxRecDepth 100000 in
set_option maxHeartbeats 800000 in
theorem cloneD_any (A : Option Addr) (n c : Nat) (l : List Pap) (w : World) (hn : n ≤ 1000000) (hl : Hid (l.length = n)) (hA : Hid (DocsAt w A l)) :
    Calls Tryz.prog 70 #[.slice A n c] w fun e w' => ∃ v, e = .returned v ∧ w'.ownsRow w.heap.size 61 4 v n (flD l) ∧ Below w.heap.size w w' := by
  obtain ⟨i0, hi, hz0, hz1, hz2⟩ := info_parts Tryz.info61
  have q22 : ∀ (w : World) (a : Option Addr) (n c n' c' : Nat), (binOp .eql 25 (.slice a n c) (.slice none n' c')).run Tryz.prog w = .ok (.bool a.isNone) w := fun w a n c n' c' => Lib.run_eql_slice_nil w _ _ a n c n' c' Tryz.underlying25
  rcases A with _ | ad
  · have h0 : n = 0 := by
      rcases Nat.eq_zero_or_pos n with h | h
      · exact h
      · obtain ⟨x, hx⟩ : ∃ x, l[0]? = some x := ⟨_, List.getElem?_eq_getElem (by have := hl.out; omega)⟩
        obtain ⟨b, off, e, _⟩ := hA.out 0 x hx
        cases e
    subst h0
    have hl0 : l = [] := List.eq_nil_of_length_eq_zero hl.out
    subst hl0
    go_enter Tryz.func70, Tryz.ntmps70
    go_wp2_with fail
    go_ret
    exact ⟨_, rfl, World.ownsRow_nil _ _ _ _, Below.refl _ _⟩
  · have hr := Lib.hid (hA.out.row.reads encD_len (by decide))
    have hn1 : Hid (0 + n ≤ maxLen) := by unfold Hid maxLen; omega
    have hn2 : Hid ((0 + n) * 64 ≤ 140737488355328) := by unfold Hid; omega
    have ho' := Lib.hid (flD_one l)
    rw [hl.out] at hr
    go_enter Tryz.func70, Tryz.ntmps70
    go_wp2_with (at_builtin; go_must (refine wpList_append_any _ rfl (.tmp 5) (.tmp 6) 25 rfl w.heap.size 61 i0 _ 4 64 Tryz.underlying25 hi hz0 hz1 hz2 rfl (by decide) (.slice (some ⟨w.heap.size, 0, none⟩) 0 0) 0 [] rfl (own_new w 61 4) w.heap.size _ n c (flD l) rfl (hr.out.alloc (Nat.le_refl _) _) ho'.out hn1.out hn2.out (by simp) ?_); intro v w1 how hgr hvb)
    go_ret
    refine ⟨_, rfl, by simpa [flD] using how, ?_⟩
    exact ((Below.refl _ w).alloc (Nat.le_refl _) _).grown hgr (by simp) (fun k hk => by simp [Value.ownBlock] at hk; omega)
end Go.Proofs.YtdjmckjbibfecaaGreatDoor
namespace Go.Proofs.YtdjmckjbibfecaaGreatDoor
open Go Go.RowKit Go.BigFrame Go.Maps

/-- A paper, wherever its fields lie. -/
def bare (x : Pap) : Pap := ⟨x.kind, x.number, x.issuer, none, 0, x.fields⟩
theorem bare_same {x y : Pap} (h : sameP x y) : bare x = bare y := by
  obtain ⟨h1, h2, h3, h4⟩ := h
  unfold bare
  rw [h1, h2, h3, h4]
theorem bares_same {l m : List Pap} (h : sameD l m) : l.map bare = m.map bare := by
  apply List.ext_getElem?
  intro i
  rw [List.getElem?_map, List.getElem?_map]
  rcases Nat.lt_or_ge i l.length with hi | hi
  · have hj : i < m.length := by rw [← h.1]; exact hi
    rw [List.getElem?_eq_getElem hi, List.getElem?_eq_getElem hj]
    exact congrArg some (bare_same (h.2 i _ _ (List.getElem?_eq_getElem hi) (List.getElem?_eq_getElem hj)))
  · rw [List.getElem?_eq_none hi, List.getElem?_eq_none (by rw [← h.1]; exact hi)]
theorem bare_field : ∀ (l : List Pap) (k : Int) (s : ByteArray), fieldD (l.map bare) k s = fieldD l k s
  | [], _, _ => rfl
  | x :: l, k, s => by
    rw [List.map_cons, fieldD, fieldD, bare_field l k s]
    rfl
theorem bare_atom (docs : List Pap) (k p : Int) (x : ByteArray) (n : Int) (v : ByteArray) : atomT (docs.map bare) k p x n v = atomT docs k p x n v := by
  unfold atomT
  rw [bare_field]
mutual
theorem bare_holds (docs : List Pap) (d : Pap) : ∀ t : Tree, holdsT (docs.map bare) (bare d) t = holdsT docs d t
  | .mk k p f x n A c L => by
    rw [holdsT, holdsT, bare_great docs d L 0, bare_least docs d L 2]
    simp only [bare_atom]
    rfl
theorem bare_great (docs : List Pap) (d : Pap) : ∀ (L : List Tree) (s : Int), greatT (docs.map bare) (bare d) L s = greatT docs d L s
  | [], s => by rw [greatT, greatT]
  | t :: L, s => by rw [greatT, greatT, bare_holds docs d t, bare_great docs d L]
theorem bare_least (docs : List Pap) (d : Pap) : ∀ (L : List Tree) (s : Int), leastT (docs.map bare) (bare d) L s = leastT docs d L s
  | [], s => by rw [leastT, leastT]
  | t :: L, s => by rw [leastT, leastT, bare_holds docs d t, bare_least docs d L]
end
theorem bare_ahead (needs : List Nd) : ∀ (l : List Pap) (s : ByteArray), aheadF needs (l.map bare) s = aheadF needs l s
  | [], _ => rfl
  | x :: l, s => by
    rw [List.map_cons, aheadF, aheadF, bare_ahead needs l s]
    rfl
theorem bare_doc (c : Crd) (needs : List Nd) (docs : List Pap) (day : Int) (a : Nat) (d : Pap) : docF c needs (docs.map bare) day a (bare d) = docF c needs docs day a d := by
  have h1 : ruledF needs (docs.map bare) a (bare d) = ruledF needs docs a d := by
    have h2 : ruleF (docs.map bare) a (bare d) = ruleF docs a d := by
      funext t
      unfold ruleF
      rw [bare_holds]
      rfl
    have h3 : needR (docs.map bare) a (bare d) = needR docs a d := by
      funext x
      unfold needR
      rw [h2]
      rfl
    unfold ruledF
    rw [h3]
  have h2 : othersF needs ((docs.map bare).take a) a (bare d) = othersF needs (docs.take a) a d := by
    unfold othersF
    refine congrArg (fun g => (List.range 6).flatMap g) (funext fun i => ?_)
    unfold otherF
    rw [← List.map_take, bare_ahead]
    rfl
  unfold docF paperF
  rw [h1, h2]
  rfl
theorem bare_exam (c : Crd) (needs : List Nd) (docs : List Pap) (day : Int) : examF c needs (docs.map bare) day = examF c needs docs day := by
  have h1 : docAt c needs (docs.map bare) day = docAt c needs docs day := by
    funext a
    unfold docAt
    rw [List.getElem?_map]
    cases docs[a]? with
    | none => rfl
    | some d => exact bare_doc c needs docs day a d
  have h2 : lackF (docs.map bare) = lackF docs := by
    funext x
    unfold lackF countK
    rw [List.countP_map]
    rfl
  unfold examF toldE
  rw [h1, h2, List.length_map]
theorem bare_fail (needs : List Nd) (docs : List Pap) (d : Pap) : failL needs (docs.map bare) (bare d) = failL needs docs d := by
  unfold failL failT
  simp only [bare_holds]
  rfl

/-- Is a name one of those that all papers are to have alike? -/
def knownB (s : ByteArray) : Bool := (List.range 6).any fun i => decide ((alikeB i).toList = s.toList)
def partyM (c : Crd) (d : Pap) (s : ByteArray) : Option ByteArray :=
  if d.kind = 0 then
    (if s.toList = nSeller.toList then some c.beneficiary else if s.toList = nBuyer.toList then some c.applicant else if s.toList = nCurrency.toList then some c.currency else none).bind fun r =>
      if getB d.fields s = true ∧ (getV d.fields s).toList = r.toList then none else some r
  else none
/-- The number that a field has. -/
def numV (d : Pap) (s : ByteArray) : Option Int := if getB d.fields s = true then numF (getV d.fields s).data.toList else none
def sumM (c : Crd) (d : Pap) (s : ByteArray) : Option ByteArray :=
  if d.kind = 0 ∧ s.toList = nSum.toList then
    (match numV d s with
    | none => some (mkB (Lib.itoa c.amount))
    | some n => if boundsB c = true ∧ mostC c < n then some (mkB (Lib.itoa (mostC c))) else if boundsB c = true ∧ n < leastY c then some (mkB (Lib.itoa (leastY c))) else none)
  else none
def issuedM (c : Crd) (day : Int) (d : Pap) (s : ByteArray) : Option ByteArray :=
  if d.kind = 2 ∧ s.toList = nIssued.toList then
    (match numV d s with
    | none => some (mkB (Lib.itoa (min c.latest day)))
    | some n => if n ≤ c.latest ∧ behindB day n c.within = false then none else some (mkB (Lib.itoa (min c.latest day))))
  else none
def curT (docs : List Pap) (v : ByteArray) : Tree → Option ByteArray
  | .mk k p _ x n _ _ _ => if k = 3 then some x else if k = 4 then some (v ++ x) else if k = 7 then fieldD docs p x else some (mkB (Lib.itoa n))
def partM (needs : List Nd) (docs : List Pap) (d : Pap) (s : ByteArray) : Option ByteArray :=
  ((failL needs docs d).find? fun t => isAt t.kind && decide (t.field.toList = s.toList)).bind (curT docs (getV d.fields s))
def otherM (needs : List Nd) (ahead : List Pap) (d : Pap) (s : ByteArray) : Option ByteArray :=
  if knownB s = true ∧ getB d.fields s = true then (aheadF needs ahead s).bind fun v => if v.toList = (getV d.fields s).toList then none else some v else none
/-- The cure of a fault of a paper. -/
def cureD (c : Crd) (needs : List Nd) (docs : List Pap) (day : Int) (a : Nat) (d : Pap) (s : ByteArray) : Option ByteArray :=
  (partyM c d s).or ((sumM c d s).or ((issuedM c day d s).or ((partM needs docs d s).or (otherM needs (docs.take a) d s))))
def cureM (c : Crd) (needs : List Nd) (docs : List Pap) (day : Int) (f : Flt) : Option ByteArray :=
  if 0 ≤ f.paper ∧ f.field.toList ≠ [] then (docs[f.paper.toNat]?).bind fun d => cureD c needs docs day f.paper.toNat d f.field else none
def putF (d : Pap) (s v : ByteArray) : Pap := ⟨d.kind, d.number, d.issuer, none, 0, setF d.fields s v⟩
/-- One fault mended. -/
def mendStep (c : Crd) (needs : List Nd) (day : Int) (docs : List Pap) (f : Flt) : List Pap :=
  match cureM c needs docs day f with
  | some v => docs.modify f.paper.toNat fun d => putF d f.field v
  | none => docs
def mendM (c : Crd) (needs : List Nd) (day : Int) (docs : List Pap) (l : List Flt) : List Pap := l.foldl (mendStep c needs day) (docs.map bare)
theorem bare_cure (c : Crd) (needs : List Nd) (docs : List Pap) (day : Int) (f : Flt) : cureM c needs (docs.map bare) day f = cureM c needs docs day f := by
  unfold cureM
  rw [List.getElem?_map]
  cases docs[f.paper.toNat]? with
  | none => rfl
  | some d =>
    have h1 : cureD c needs (docs.map bare) day f.paper.toNat (bare d) f.field = cureD c needs docs day f.paper.toNat d f.field := by
      have h2 : partM needs (docs.map bare) (bare d) f.field = partM needs docs d f.field := by
        unfold partM
        rw [bare_fail]
        refine congrArg _ (funext fun t => ?_)
        obtain ⟨k, p, g, x, n, A, c, L⟩ := t
        simp only [curT, bare_field]
        rfl
      have h3 : otherM needs ((docs.map bare).take f.paper.toNat) (bare d) f.field = otherM needs (docs.take f.paper.toNat) d f.field := by
        unfold otherM
        rw [← List.map_take, bare_ahead]
        rfl
      unfold cureD
      rw [h2, h3]
      rfl
    simp only [Option.map_some, Option.bind_some, h1]
end Go.Proofs.YtdjmckjbibfecaaGreatDoor
namespace Go.Proofs.YtdjmckjbibfecaaGreatDoor
open Go Go.RowKit Go.BigFrame Go.Maps

section
variable {P : Program} {ops : Array Oper} {o : Oper} {a : Act} {W : World} {Q : Exit → Act → World → Prop} {K : Act → World → Prop} {E : Prop}
theorem wpList_load_blkg {rest : List Oper} {w : World} (hw : Region.wanted o (yielded ops a.tmps) = true) (ty : TypeId) (x : Operand) (ho : o.op = .load ty x) (g : Nat) (cs : Array Value) (t : TypeId) (d : TypeDesc) (hx : a.eval x = .pointer (some ⟨g, 0, none⟩))
    (hb : Blk w g t cs) (hu : P.underlying ty = some d) (hd : (match d with | .struct _ | .array _ _ => true | _ => false) = true) (hi : (P.info? ty).map (·.size) = some cs.size)
    (h : wpList P ops Q rest (a.put o.dst (.agg cs)) w) : wpList P ops Q (o :: rest) a w := by
  rw [wpList, if_pos hw]
  exact .inl (wp_load_row ty x ho g hx t cs (0, 0) d hb hu hd hi h)
end
end Go.Proofs.YtdjmckjbibfecaaGreatDoor

import Derived.Test.YtjkmhlfjheiekaaGreatDoorYa
set_option maxRecDepth 1000000
set_option maxHeartbeats 51200000
namespace Go.Proofs.YtjkmhlfjheiekaaGreatDoor
open Go Go.RowKit Go.BigFrame Go.Maps
theorem anyN_no {l : List Nd} {k : Nat} {x : Nd} {p : Nd → Bool} {r : Bool} (h : r = (l.drop k).any p) (hx : l[k]? = some x) (hp : p x = false) : r = (l.drop (k + 1)).any p := by
 obtain ⟨hk, he⟩ := List.getElem?_eq_some_iff.1 hx
 rw [h, List.drop_eq_getElem_cons hk, he, List.any_cons, hp]; rfl
theorem anyN_yes {l : List Nd} {k : Nat} {x : Nd} {p : Nd → Bool} {r : Bool} (h : r = (l.drop k).any p) (hx : l[k]? = some x) (hp : p x = true) : r = true := by
 obtain ⟨hk, he⟩ := List.getElem?_eq_some_iff.1 hx
 rw [h, List.drop_eq_getElem_cons hk, he, List.any_cons, hp]; rfl
theorem anyN_end {l : List Nd} {k : Nat} {p : Nd → Bool} {r : Bool} (h : r = (l.drop k).any p) (hk : l.length ≤ k) : r = false := by
 rw [h, List.drop_eq_nil_of_le hk]; rfl
theorem indexN_any (A : Option Addr) (n c : Nat) (l : List Nd) (ok : Nat → Prop) (g : Nat) (lb : Array Value) (eg : ∀ (args : Array Value) (w : World), (callFunc g args).run Tryz.prog w = .ok (.enter g args) w) (p : Nd → Bool) (w : World) (hn : n ≤ maxLen) (hl : Hid (l.length = n)) (hA : Hid (NdsAt w ok A l))
  (hf : Hid (∀ (W : World) (x : Nd), x ∈ l → Bz w W → Cz g (#[.agg x.cells.toArray] ++ lb) W fun e w' => e = .returned (.bool (p x)) ∧ Bz W w')) :
  Cz 138 #[.slice A n c, .func (.func g) #[] lb] w fun e w' => ∃ i : Int, e = .returned (Iz i) ∧ decide (0 ≤ i) = l.any p ∧ Bz w w' := by
 unfold maxLen at hn
 go_enter Tryz.func138, Tryz.ntmps138
 go_wp2_with fail
 go_loopg [8] n (fun gg i wr => ∃ k : Nat, k ≤ n ∧ gg = n - k ∧ i = Iz k ∧ Hid (l.any p = (l.drop k).any p) ∧ Hid (Bz w wr))
 case atStart => exact ⟨0, Nat.zero_le _, rfl, rfl, rfl, Below.refl _ _⟩
 case round =>
  obtain ⟨k, hk, hg, rfl, hsame, hB⟩ := hrel; have hg' := hdZ hg; clear hg
  by_cases hlt : k < n
  ·have i1 : decide ((k : Int) < (n : Int)) = true := by simp; omega
   have i2 : (k : Int) < (n : Int) := by omega
   have i3 : (0 : Int) ≤ (k : Int) := by omega
   obtain ⟨x, hx⟩ : ∃ x, l[k]? = some x := ⟨_, List.getElem?_eq_getElem (by have := hl.out; omega)⟩; have hx' := hdZ hx; obtain ⟨bb, off, rfl, _, hc, _⟩ := (hA.out.below hB.out) k x hx; obtain ⟨pv, hpv⟩ := nmZ (p x); have hcall := hdZ (hf.out wr x (List.mem_of_getElem? hx) hB.out); rw [hpv.out] at hcall; clear hx; have hyes : pv = true → Hid (l.any p = true) := fun h => anyN_yes hsame.out hx'.out (by rw [hpv.out]; exact h)
   have hno : pv = false → Hid (l.any p = (l.drop (k + 1)).any p) := fun h => anyN_no hsame.out hx'.out (by rw [hpv.out]; exact h)
   clear hx' hpv hsame; obtain ⟨xk, xn, ⟨tk, tp, tf, tx, tn, tA, tc, tL⟩⟩ := x; have g0 : wr.cell? ⟨bb, off + k * 8, none⟩ = some (Iz xk) := hc 0 _ rfl; have g1 : wr.cell? ⟨bb, off + k * 8 + 1, none⟩ = some (Iz xn) := hc 1 _ rfl; have g2 : wr.cell? ⟨bb, off + k * 8 + 2, none⟩ = some (Iz tk) := hc 2 _ rfl; have g3 : wr.cell? ⟨bb, off + k * 8 + 3, none⟩ = some (Iz tp) := hc 3 _ rfl; have g4 : wr.cell? ⟨bb, off + k * 8 + 4, none⟩ = some (Sz tf) := hc 4 _ rfl; have g5 : wr.cell? ⟨bb, off + k * 8 + 5, none⟩ = some (Sz tx) := hc 5 _ rfl; have g6 : wr.cell? ⟨bb, off + k * 8 + 6, none⟩ = some (Iz tn) := hc 6 _ rfl; have g7 : wr.cell? ⟨bb, off + k * 8 + 7, none⟩ = some (.slice tA tL.length tc) := hc 7 _ rfl; clear hc; simp only [Nd.cells, Tree.cells] at hcall
   cases pv with
   | true =>
    have hr := hyes rfl
    go_wp2_with (go_at_fn g; refine hcall.out.mono ?_; rintro e w1 ⟨rfl, hb1⟩)
    go_ret; exact ⟨_, rfl, by rw [hr.out]; simp, hB.out.trans (hb1.mono hB.out.size)⟩
   | false =>
    have hr := hno rfl
    go_wp2_with (go_at_fn g; refine hcall.out.mono ?_; rintro e w1 ⟨rfl, hb1⟩)
    have hBn : Hid (Bz w w1) := hB.out.trans (hb1.mono hB.out.size)
    go_roundg (n - (k + 1))
    case measure => have := hg'.out; omega
    case rel => exact ⟨k + 1, by omega, rfl, by go_num, hr, hBn⟩
  ·have i1 : decide ((k : Int) < (n : Int)) = false := by simp; omega
   have hr := hdZ (anyN_end hsame.out (by have := hl.out; omega)); go_wp2_with fail; go_ret; exact ⟨_, rfl, by rw [hr.out]; rfl, hB.out⟩
theorem mayNeed_any (x : Nd) (w : World) (ok : Nat → Prop) (he : Hid (Env w)) (hT : Hid (TAz w ok x.rule)) (hz : Hid (szR (stz x.rule) ≤ mostZ)) : Cz 102 #[.agg x.cells.toArray] w fun e w' => e = .returned (.bool (!needM x)) ∧ Bz w w' := by
 have hc1 : Hid (∀ W, Bz w W → Cz 103 #[.agg x.cells.toArray] W fun e w' => e = .returned (.bool (needM x)) ∧ Bz W w') := fun W hW => needMay_any x W ok (he.out.below hW) (hT.out.below hW) hz
 obtain ⟨b, hb⟩ := nmZ (needM x)
 rw [hb.out] at hc1 ⊢
 clear hb hT hz
 obtain ⟨xk, xn, ⟨tk, tp, tf, tx, tn, tA, tc, tL⟩⟩ := x
 simp only [Nd.cells, Tree.cells] at hc1 ⊢
 have hb0 : Hid (Bz w (w.alloc (.cells (z4z xk xn tk tp tf tx tn tA tL.length tc) 74))) := (Below.refl _ w).alloc leZ _
 have hc2 := hdZ (hc1.out _ hb0.out)
 go_enter Tryz.func102, Tryz.ntmps102
 go_wp2_with fail
 refine hc2.out.mono ?_
 rintro e w1 ⟨rfl, hb1⟩
 go_wp2_with fail
 go_ret
 exact ⟨rfl, hb0.out.trans (hb1.mono hb0.out.size)⟩
theorem containsN_any (A : Option Addr) (n c : Nat) (l : List Nd) (ok : Nat → Prop) (w : World) (he : Hid (Env w)) (hn : n ≤ maxLen) (hl : Hid (l.length = n)) (hA : Hid (NdsAt w ok A l)) (hz : Hid (∀ x ∈ l, szR (stz x.rule) ≤ mostZ)) :
  Cz 101 #[.slice A n c, .func (.func 102) #[] #[]] w fun e w' => e = .returned (.bool (!l.all needM)) ∧ Bz w w' := by
 have e102 := enters_of Tryz.func102 (by kernel_rfl) rfl
 have hcall := hdZ (indexN_any A n c l ok 102 #[] e102 (fun x => !needM x) w hn hl hA (fun W x hx hW => by
  obtain ⟨k, hk⟩ := List.mem_iff_getElem?.1 hx; obtain ⟨_, _, _, _, _, hT⟩ := hA.out k x hk; exact mayNeed_any x W ok (he.out.below hW) (hT.below hW) (hz.out x hx)))
 have hb : (l.any fun x => !needM x) = !l.all needM := by rw [List.all_eq_not_any_not]; simp
 rw [hb] at hcall
 obtain ⟨b, hb⟩ := nmZ ((!l.all needM))
 rw [hb.out] at hcall ⊢
 go_enter Tryz.func101, Tryz.ntmps101
 go_wp2_with (go_at_call 138; refine hcall.out.mono ?_; rintro e w1 ⟨i, rfl, hi, hB1⟩)
 go_ret
 exact ⟨by simp, hB1⟩
def codeM (s : Txt) : Bool := decide (s.length = 3) && s.all lgB
theorem large_not_blank : ∀ c : UInt8, lgB c = true → bkB c = false ∧ smB c = false :=
 byte_all (P := fun c => lgB c = true → bkB c = false ∧ smB c = false) (by decide)
theorem code_scan {s : Txt} (h : codeM s = true) : scanT s = .ok [⟨4, 0, s⟩] := by
 unfold codeM at h
 rw [Bool.and_eq_true, decide_eq_true_eq] at h
 obtain ⟨h3, ha⟩ := h
 match s, h3, ha with
 | [a, b, c], _, ha =>
  simp only [List.all_cons, List.all_nil, Bool.and_true, Bool.and_eq_true] at ha; obtain ⟨ha, hb, hc⟩ := ha; have hba := large_not_blank a ha
  have ho : oneM [a, b, c] = .ok (4, [a, b, c], 3) := by
   rw [oneM, if_neg (by rw [hba.2]; simp), if_pos ha]; simp [List.takeWhile, ha, hb, hc]
  unfold scanT; rw [scanM]; simp [List.dropWhile, List.takeWhile, hba.1, ho, scanM]
theorem mem_tw {p : UInt8 → Bool} : ∀ {l : Txt} {x : UInt8}, x ∈ l.takeWhile p → p x = true
 | [], _, h => by simp at h
 | a :: l, x, h => by
  rw [List.takeWhile_cons] at h
  split at h
  ·rcases List.mem_cons.1 h with rfl | h
   ·assumption
   ·exact mem_tw h
  ·simp at h
theorem scan_code {s : Txt} {t : Tok} (h : scanT s = .ok [t]) (hk : t.kind = 4) (ht : t.text = s) : codeM s = true := by
 unfold scanT at h
 rw [scanM] at h
 split at h
 ·cases h
 ·rw [if_neg (by decide)] at h
  split at h
  ·cases h
  ·rename_i kd tx m ho
   split at h
   ·cases h
   ·rename_i l hl
    simp only [Except.ok.injEq, List.cons.injEq] at h; obtain ⟨rfl, _⟩ := h; simp only at hk ht; subst hk ht; unfold codeM
    cases hd : List.dropWhile bkB tx with
    | nil => rw [hd] at ho; cases ho
    | cons c r =>
     rw [hd, oneM] at ho
     split at ho
     ·split at ho
      ·simp only [Except.ok.injEq, Prod.mk.injEq] at ho
       exact absurd ho.1 (by unfold rankM; repeat' split <;> simp_all)
      ·cases ho
     ·split at ho
      ·split at ho
       ·rename_i h3
        simp only [Except.ok.injEq, Prod.mk.injEq] at ho; obtain ⟨_, ht, _⟩ := ho; rw [← ht]; rw [Bool.and_eq_true, decide_eq_true_eq]; exact ⟨h3, by rw [List.all_eq_true]; exact fun x hx => mem_tw hx⟩
       ·cases ho
      ·split at ho
       ·split at ho <;> simp at ho
       ·split at ho
        ·split at ho <;> simp at ho
        ·split at ho <;> simp at ho
theorem isCode_any (s : Txt) (w : World) (hs : s.length ≤ maxLen) (he : Hid (Env w)) : Cz 99 #[Sz s] w fun e w' => e = .returned (.bool (codeM s)) ∧ Bz w w' := by
 have hsz : (⟨s.toArray⟩ : ByteArray).size = s.length := by simp [ByteArray.size]
 have hsc : Hid (Cz 28 #[Sz s] w fun e w' => Bz w w' ∧
   ((∃ l v, scanT s = .ok l ∧ e = .returned (.tuple #[v, Iz (s.length : Nat), Iz 0]) ∧ l.length ≤ 4096 ∧ w'.ownsRow (w.heap.size + 1) 89 3 v l.length (tokL l)) ∨
    (∃ k cd, scanT s = .error (k, cd) ∧ cd ≠ 0 ∧ e = .returned (.tuple #[.slice none 0 0, Iz (k : Nat), Iz cd])))) := by
  have h := scan_any ⟨s.toArray⟩ w (by rw [hsz]; exact hs) he; rw [hsz] at h; exact h
 have ets := txz s
 go_enter Tryz.func99, Tryz.ntmps99
 go_wp2_with fail
 refine hsc.out.mono ?_
 rintro e w1 ⟨hb1, hcase⟩
 have hB1 := hdZ hb1
 clear hb1
 rcases hcase with ⟨l, v, hl, rfl, hl4, hown⟩ | ⟨k, cd, hl, hcd, rfl⟩
 ·obtain ⟨A, c, rfl⟩ := osz hown
  by_cases h1 : l.length = 1
  ·obtain ⟨t, rfl⟩ := List.length_eq_one_iff.1 h1
   have htk := tok_own (pb := 0) hown (by omega); obtain ⟨g, off, rfl, _, g0, g1, g2⟩ := htk 0 t rfl; rw [Nat.zero_mul, Nat.add_zero] at g0 g1 g2; have et := txz t.text; have hl' := hdZ hl; clear htk hown hl hl4
   by_cases h4 : t.kind = 4
   ·have b4 : (t.kind == 4) = true := by simp [h4]
    by_cases hts : t.text = s
    ·have hr : Hid (codeM s = true) := scan_code hl'.out h4 hts
     have b5 : (t.text == s) = true := by simp [hts]
     go_wp2_with fail; go_ret; exact ⟨by rw [hr.out]; first | rfl | simp, hB1.out⟩
    ·have hr : Hid (codeM s = false) := by
      unfold Hid
      cases hc : codeM s with
      | false => rfl
      | true =>
       have h := code_scan hc; rw [hl'.out] at h; simp only [Except.ok.injEq, List.cons.injEq, and_true] at h; exact absurd (by rw [h]) hts
     have b5 : (t.text == s) = false := by simp [hts]
     go_wp2_with fail; go_ret; exact ⟨by rw [hr.out]; first | rfl | simp, hB1.out⟩
   ·have hr : Hid (codeM s = false) := by
     unfold Hid
     cases hc : codeM s with
     | false => rfl
     | true =>
      have h := code_scan hc; rw [hl'.out] at h; simp only [Except.ok.injEq, List.cons.injEq, and_true] at h; exact absurd (by rw [h]) h4
    have b4 : (t.kind == 4) = false := by simp [h4]
    go_wp2_with fail; go_ret; exact ⟨by rw [hr.out]; first | rfl | simp, hB1.out⟩
  ·have hr : Hid (codeM s = false) := by
    unfold Hid
    cases hc : codeM s with
    | false => rfl
    | true =>
     have h := code_scan hc; rw [hl] at h; simp only [Except.ok.injEq] at h; rw [h] at h1; exact absurd rfl h1
   have b1 : ((l.length : Int) == 1) = false := by simp; omega
   clear hown hl hl4; go_wp2_with fail; go_ret; exact ⟨by rw [hr.out]; first | rfl | simp, hB1.out⟩
 ·have hr : Hid (codeM s = false) := by
   unfold Hid
   cases hc : codeM s with
   | false => rfl
   | true => have h := code_scan hc; rw [hl] at h; cases h
  have b1 : (cd == 0) = false := by simp [hcd]
  clear hl hcd; go_wp2_with fail; go_ret; exact ⟨by rw [hr.out]; first | rfl | simp, hB1.out⟩
def namesM (c : Crd) : Bool := [c.number, c.applicant, c.beneficiary, c.issuer, c.orig, c.dest].all nameM
def daysM (c : Crd) : Bool := [c.latest, c.expiry, c.within, c.tenor].all fun n => decide (0 ≤ n) && decide (n ≤ 1048576)
def creditM (c : Crd) (l : List Nd) : Bool := namesM c && ((c.confirmer == [] || nameM c.confirmer) && codeM c.currency) && (decide (1 ≤ c.amount) && decide (c.amount ≤ 1099511627776)) && ((decide (0 ≤ c.above) && decide (c.above ≤ 1000)) && (decide (0 ≤ c.below) && decide (c.below ≤ 1000))) && daysM c && (decide (l.length ≤ 64) && l.all needM)
def Crd.short (c : Crd) : Prop := ∀ x ∈ [c.number, c.applicant, c.beneficiary, c.issuer, c.confirmer, c.orig, c.dest, c.currency], x.length ≤ 140737488351232
theorem allX_step {α : Type} {l : List α} {q : Nat} {x : α} {r : Bool} {p : α → Bool} (h : r = (l.drop q).all p) (hx : l[q]? = some x) : r = (p x && (l.drop (q + 1)).all p) := by
 obtain ⟨hq, he⟩ := List.getElem?_eq_some_iff.1 hx
 rw [h, List.drop_eq_getElem_cons hq, he, List.all_cons]
theorem allX_end {α : Type} {l : List α} {q : Nat} {r : Bool} {p : α → Bool} (h : r = (l.drop q).all p) (h1 : l.length ≤ q) : r = true := by
 rw [h, List.drop_eq_nil_of_le h1, List.all_nil]
theorem isName_tx (s : Txt) (w : World) (hs : s.length ≤ 140737488351232) (he : Hid (Env w)) : Cz 75 #[Sz s] w fun e w' => e = .returned (.bool (nameM s)) ∧ Bz w w' :=
 isName_any ⟨s.toArray⟩ w (by unfold maxLen; simp [ByteArray.size]; omega) he
theorem creditMay_any (C : Array Value) (c : Crd) (A : Option Addr) (n cc : Nat) (l : List Nd) (w : World) (ok : Nat → Prop) (he : Hid (Env w)) (hC : Hid (C = c.cells (.slice A n cc))) (hs : Hid c.short) (hn : n ≤ maxLen) (hl : Hid (l.length = n)) (hN : Hid (NdsAt w ok A l)) (hz : Hid (∀ x ∈ l, szR (stz x.rule) ≤ mostZ)) :
  Cz 55 #[.agg C] w fun e w' => e = .returned (.bool (creditM c l)) ∧ Bz w w' := by
 have hk : Hid (∀ i, i < 18 → C[i]? = (c.cells (.slice A n cc))[i]?) := fun i _ => by rw [hC.out]
 have hb0 : Hid (Bz w (w.alloc (.cells C 41))) := (Below.refl _ w).alloc leZ _
 have hx0 := hdZ (Blk.new w 41 C)
 have hs8 := hs.out
 have p1 : Hid (∀ x ∈ [c.number, c.applicant, c.beneficiary, c.issuer, c.orig, c.dest], ∀ W, Bz w W → Cz 75 #[Sz x] W fun e w' => e = .returned (.bool (nameM x)) ∧ Bz W w') := fun x hx W hW => isName_tx x W (hs8 x (by simp at hx ⊢; rcases hx with h | h | h | h | h | h <;> simp [h])) (he.out.below hW)
 have p2 : Hid (∀ W, Bz w W → Cz 75 #[.string ⟨c.confirmer.toArray⟩] W fun e w' => e = .returned (.bool (nameM c.confirmer)) ∧ Bz W w') := fun W hW => isName_tx _ W (hs8 _ (by simp)) (he.out.below hW)
 have p3 : Hid (∀ W, Bz w W → Cz 99 #[.string ⟨c.currency.toArray⟩] W fun e w' => e = .returned (.bool (codeM c.currency)) ∧ Bz W w') := fun W hW => isCode_any _ W (by have := hs8 c.currency (by simp); unfold maxLen; omega) (he.out.below hW)
 have p4 : Hid (∀ W, Bz w W → Cz 101 #[.slice A n cc, .func (.func 102) #[] #[]] W fun e w' => e = .returned (.bool (!l.all needM)) ∧ Bz W w') := fun W hW => containsN_any A n cc l ok W (he.out.below hW) hn hl (hN.out.below hW) hz
 have hres : Hid (creditM c l = (namesM c && ((c.confirmer == [] || nameM c.confirmer) && codeM c.currency) && (decide (1 ≤ c.amount) && decide (c.amount ≤ 1099511627776)) && ((decide (0 ≤ c.above) && decide (c.above ≤ 1000)) && (decide (0 ≤ c.below) && decide (c.below ≤ 1000))) && daysM c && (decide (n ≤ 64) && l.all needM))) := by unfold Hid creditM; rw [hl.out]
 obtain ⟨q1, hq1⟩ := nmZ (nameM c.confirmer)
 obtain ⟨q2, hq2⟩ := nmZ (codeM c.currency)
 obtain ⟨q3, hq3⟩ := nmZ (l.all needM)
 obtain ⟨q4, hq4⟩ := nmZ ((decide (0 ≤ c.above) && decide (c.above ≤ 1000)))
 obtain ⟨q5, hq5⟩ := nmZ ((decide (0 ≤ c.below) && decide (c.below ≤ 1000)))
 obtain ⟨qn, hqn⟩ := nmZ (namesM c)
 obtain ⟨qd, hqd⟩ := nmZ (daysM c)
 rw [hq1.out, hq2.out, hq3.out, hq4.out, hq5.out, hqn.out, hqd.out] at hres
 rw [hq1.out] at p2
 rw [hq2.out] at p3
 rw [hq3.out] at p4
 have p5 : Hid (∀ W, Cz 100 #[Iz c.above, Iz 0, Iz 1000] W fun e w' => e = .returned (.bool q4) ∧ W = w') := fun W => by
  have h := between_any c.above 0 1000 W; rw [hq4.out] at h; exact h
 have p6 : Hid (∀ W, Cz 100 #[Iz c.below, Iz 0, Iz 1000] W fun e w' => e = .returned (.bool q5) ∧ W = w') := fun W => by
  have h := between_any c.below 0 1000 W; rw [hq5.out] at h; exact h
 have p7 : Hid (∀ (m : Int) W, Cz 100 #[Iz m, Iz 0, Iz 1048576] W fun e w' => e = .returned (.bool (decide (0 ≤ m) && decide (m ≤ 1048576))) ∧ W = w') := fun m W => between_any m 0 1048576 W
 rw [hres.out]
 clear hres hq1 hq2 hq3 hq4 hq5 hC hs hs8 hN hz hl he
 have hbl : Below (w.alloc (.cells C 41)).heap.size (w.alloc (.cells C 41)) ((w.alloc (.cells C 41)).alloc (.cells #[.string ⟨c.number.toArray⟩, .string ⟨c.applicant.toArray⟩, .string ⟨c.beneficiary.toArray⟩, .string ⟨c.issuer.toArray⟩, .string ⟨c.orig.toArray⟩, .string ⟨c.dest.toArray⟩] 9)) := (Below.refl _ _).alloc leZ _
 have hsz : (w.alloc (.cells C 41)).heap.size = w.heap.size + 1 := by simp
 have hR0 : Hid (Blk ((w.alloc (.cells C 41)).alloc (.cells #[.string ⟨c.number.toArray⟩, .string ⟨c.applicant.toArray⟩, .string ⟨c.beneficiary.toArray⟩, .string ⟨c.issuer.toArray⟩, .string ⟨c.orig.toArray⟩, .string ⟨c.dest.toArray⟩] 9)) (w.heap.size + 1) 9 #[.string ⟨c.number.toArray⟩, .string ⟨c.applicant.toArray⟩, .string ⟨c.beneficiary.toArray⟩, .string ⟨c.issuer.toArray⟩, .string ⟨c.orig.toArray⟩, .string ⟨c.dest.toArray⟩]) := by
  have h := Blk.new (w.alloc (.cells C 41)) 9 #[.string ⟨c.number.toArray⟩, .string ⟨c.applicant.toArray⟩, .string ⟨c.beneficiary.toArray⟩, .string ⟨c.issuer.toArray⟩, .string ⟨c.orig.toArray⟩, .string ⟨c.dest.toArray⟩]; rw [hsz] at h; exact h
 have hx1 := hdZ (hx0.out.below hbl hx0.out.lt)
 have hb1 : Hid (Bz w ((w.alloc (.cells C 41)).alloc (.cells #[.string ⟨c.number.toArray⟩, .string ⟨c.applicant.toArray⟩, .string ⟨c.beneficiary.toArray⟩, .string ⟨c.issuer.toArray⟩, .string ⟨c.orig.toArray⟩, .string ⟨c.dest.toArray⟩] 9))) := hb0.out.trans (hbl.mono hb0.out.size)
 have m0 : (w.alloc (.cells C 41)).cell? (Az w.heap.size 0) = some (.string ⟨c.number.toArray⟩) := (hx0.out.cell 0).trans (hk.out 0 (by decide))
 have m1 : (w.alloc (.cells C 41)).cell? (Az w.heap.size 1) = some (.string ⟨c.applicant.toArray⟩) := (hx0.out.cell 1).trans (hk.out 1 (by decide))
 have m2 : (w.alloc (.cells C 41)).cell? (Az w.heap.size 2) = some (.string ⟨c.beneficiary.toArray⟩) := (hx0.out.cell 2).trans (hk.out 2 (by decide))
 have m3 : (w.alloc (.cells C 41)).cell? (Az w.heap.size 3) = some (.string ⟨c.issuer.toArray⟩) := (hx0.out.cell 3).trans (hk.out 3 (by decide))
 have m5 : (w.alloc (.cells C 41)).cell? (Az w.heap.size 5) = some (.string ⟨c.orig.toArray⟩) := (hx0.out.cell 5).trans (hk.out 5 (by decide))
 have m6 : (w.alloc (.cells C 41)).cell? (Az w.heap.size 6) = some (.string ⟨c.dest.toArray⟩) := (hx0.out.cell 6).trans (hk.out 6 (by decide))
 obtain ⟨wa, hwa⟩ := nmZ ((w.alloc (.cells C 41)).alloc (.cells #[.string ⟨c.number.toArray⟩, .string ⟨c.applicant.toArray⟩, .string ⟨c.beneficiary.toArray⟩, .string ⟨c.issuer.toArray⟩, .string ⟨c.orig.toArray⟩, .string ⟨c.dest.toArray⟩] 9))
 clear hbl
 go_enter Tryz.func55, Tryz.ntmps55
 go_wp2_with fail
 rw [hwa.out] at hR0 hx1 hb1 ⊢
 clear hwa hx0 hb0 m0 m1 m2 m3 m5 m6
 go_loopg [21] 6 (fun gg a wr => ∃ q : Nat, q ≤ 6 ∧ gg = 6 - q ∧ a = Iz q ∧ Hid (qn = ([c.number, c.applicant, c.beneficiary, c.issuer, c.orig, c.dest].drop q).all nameM) ∧ Hid (Bz w wr) ∧ Hid (Blk wr w.heap.size 41 C) ∧ Hid (Blk wr (w.heap.size + 1) 9 #[.string ⟨c.number.toArray⟩, .string ⟨c.applicant.toArray⟩, .string ⟨c.beneficiary.toArray⟩, .string ⟨c.issuer.toArray⟩, .string ⟨c.orig.toArray⟩, .string ⟨c.dest.toArray⟩]))
 case atStart => exact ⟨0, Nat.zero_le _, rfl, rfl, hqn.out.symm, hb1, hx1, hR0⟩
 case round =>
  clear hb1 hx1 hR0 hqn; obtain ⟨q, hq, hg, rfl, hall, hB, hx, hR⟩ := hrel; have hg' := hdZ hg; clear hg
  by_cases hlt : q < 6
  ·have i1 : decide ((q : Int) < 6) = true := by simp; omega
   have i2 : (q : Int) < 6 := by omega
   have i3 : (0 : Int) ≤ (q : Int) := by omega
   obtain ⟨x, hxq⟩ : ∃ x, [c.number, c.applicant, c.beneficiary, c.issuer, c.orig, c.dest][q]? = some x := ⟨_, List.getElem?_eq_getElem (by simp; omega)⟩
   have hcell : wr.cell? ⟨w.heap.size + 1, q, none⟩ = some (Sz x) := by
    rw [hR.out.cell q]; have h := congrArg (Option.map fun y : Txt => Value.string ⟨y.toArray⟩) hxq; rw [← List.getElem?_map] at h; simpa using h
   have hst := hdZ (allX_step hall.out hxq); have hcall := hdZ (p1.out x (List.mem_of_getElem? hxq) wr hB.out); have hlt1 := hR.out.lt; obtain ⟨b, hb⟩ := nmZ (nameM x); rw [hb.out] at hst hcall; clear hxq hall hb; go_wp2_with fail; refine hcall.out.mono ?_; rintro e w2 ⟨rfl, hb2⟩; have hBn := hdZ (hB.out.trans (hb2.mono hB.out.size)); have hxn := hdZ (hx.out.below hb2 hx.out.lt); have hRn := hdZ (hR.out.below hb2 hR.out.lt); clear hb2 hcall hcell hlt1
   cases b with
   | true =>
    go_wp2_with fail
    go_roundg (6 - (q + 1))
    case measure => have := hg'.out; omega
    case rel => exact ⟨q + 1, by omega, rfl, by go_num, hst.out.trans (Bool.true_and _), hBn, hxn, hRn⟩
   | false =>
    go_wp2_with fail; go_ret; exact ⟨by rw [hst.out]; simp, hBn.out⟩
  ·have i1 : decide ((q : Int) < 6) = false := by simp; omega
   obtain rfl : qn = true := allX_end hall.out (by simp; omega); clear hall hR p1; have hcl := hdZ (fun W hW => p3.out W (hB.out.trans hW)); have hB' := hdZ hB; have m4 : wr.cell? (Az w.heap.size 4) = some (.string ⟨c.confirmer.toArray⟩) := (hx.out.cell 4).trans (hk.out 4 (by decide)); have m7 : wr.cell? (Az w.heap.size 7) = some (.string ⟨c.currency.toArray⟩) := (hx.out.cell 7).trans (hk.out 7 (by decide)); have mlt := hx.out.lt; have etc := txz c.confirmer
   by_cases hc0 : c.confirmer = []
   ·have bc : (c.confirmer == []) = true := by simp [hc0]
    have hc3 := hdZ (p3.out wr hB.out); go_wp2_with fail; refine hc3.out.mono ?_; rintro e w3 ⟨rfl, hb3⟩; have hB3 := hdZ (hB.out.trans (hb3.mono hB.out.size)); have hx3 := hdZ (hx.out.below hb3 hx.out.lt); clear hb3 hc3 m4 m7 mlt hB hB' hx hcl
    cases q2 with
    | false =>
     go_wp2_with fail; go_ret; exact ⟨by simp, hB3.out⟩
    | true =>
     have hlt3 := hx3.out.lt; have m8 : w3.cell? (Az w.heap.size 8) = some (Iz c.amount) := (hx3.out.cell 8).trans (hk.out 8 (by decide)); have m9 : w3.cell? (Az w.heap.size 9) = some (Iz c.above) := (hx3.out.cell 9).trans (hk.out 9 (by decide)); have m10 : w3.cell? (Az w.heap.size 10) = some (Iz c.below) := (hx3.out.cell 10).trans (hk.out 10 (by decide)); have m11 : w3.cell? (Az w.heap.size 11) = some (Iz c.latest) := (hx3.out.cell 11).trans (hk.out 11 (by decide)); have m12 : w3.cell? (Az w.heap.size 12) = some (Iz c.expiry) := (hx3.out.cell 12).trans (hk.out 12 (by decide)); have m13 : w3.cell? (Az w.heap.size 13) = some (Iz c.within) := (hx3.out.cell 13).trans (hk.out 13 (by decide)); have m14 : w3.cell? (Az w.heap.size 14) = some (Iz c.tenor) := (hx3.out.cell 14).trans (hk.out 14 (by decide)); have m17 : w3.cell? (Az w.heap.size 17) = some (.slice A n cc) := (hx3.out.cell 17).trans (hk.out 17 (by decide))
     by_cases ha1 : 1 ≤ c.amount
     ·have ba1 : decide (c.amount < 1) = false := by simp; omega
      have ba1' : decide (1 ≤ c.amount) = true := by simpa using ha1
      by_cases ha2 : c.amount ≤ 1099511627776
      ·have ba2 : decide (1099511627776 < c.amount) = false := by simp; omega
       have ba2' : decide (c.amount ≤ 1099511627776) = true := by simpa using ha2
       have na1 : ¬ c.amount < 1 := by omega
       have na2 : ¬ 1099511627776 < c.amount := by omega
       clear ha1 ha2; go_wp2_with fail; refine (p5.out w3).mono ?_; rintro e w4 ⟨rfl, rfl⟩
       cases q4 with
       | false =>
        go_wp2_with fail; go_ret; exact ⟨by simp, hB3.out⟩
       | true =>
        go_wp2_with fail; refine (p6.out w3).mono ?_; rintro e w4 ⟨rfl, rfl⟩
        cases q5 with
        | false =>
         go_wp2_with fail; go_ret; exact ⟨by simp, hB3.out⟩
        | true =>
         have hD0 := hdZ (Blk.new w3 3 #[Iz c.latest, Iz c.expiry, Iz c.within, Iz c.tenor]); have hbl : Bz w3 (w3.alloc (.cells #[Iz c.latest, Iz c.expiry, Iz c.within, Iz c.tenor] 3)) := (Below.refl _ _).alloc leZ _; have hBd := hdZ (hB3.out.trans (hbl.mono hB3.out.size)); have hxd := hdZ (hx3.out.below hbl hx3.out.lt); obtain ⟨wd, hwd⟩ := nmZ (w3.alloc (.cells #[Iz c.latest, Iz c.expiry, Iz c.within, Iz c.tenor] 3)); go_wp2_with fail; rw [hwd.out] at hD0 hBd hxd ⊢; clear hwd hbl; clear m8 m9 m10 m11 m12 m13 m14 m17; have hqd' : Hid (qd = ([c.latest, c.expiry, c.within, c.tenor].drop 0).all fun n => decide (0 ≤ n) && decide (n ≤ 1048576)) := hqd.out.symm
         go_loopg [75] 4 (fun gg a wr => ∃ q : Nat, q ≤ 4 ∧ gg = 4 - q ∧ a = Iz q ∧ Hid (qd = ([c.latest, c.expiry, c.within, c.tenor].drop q).all fun n => decide (0 ≤ n) && decide (n ≤ 1048576)) ∧ wr = wd)
         case atStart => exact ⟨0, Nat.zero_le _, rfl, rfl, hqd', rfl⟩
         case round =>
          clear hqd'; obtain ⟨q, hq, hg, rfl, hall, rfl⟩ := hrel; have hg' := hdZ hg; clear hg
          by_cases hlt : q < 4
          ·have i1 : decide ((q : Int) < 4) = true := by simp; omega
           have i2 : (q : Int) < 4 := by omega
           have i3 : (0 : Int) ≤ (q : Int) := by omega
           obtain ⟨x, hxq⟩ : ∃ x, [c.latest, c.expiry, c.within, c.tenor][q]? = some x := ⟨_, List.getElem?_eq_getElem (by simp; omega)⟩
           have hcell : wr.cell? (Az w3.heap.size q) = some (Iz x) := by
            rw [hD0.out.cell q]; have h := congrArg (Option.map fun y : Int => Value.int .i64 y) hxq; rw [← List.getElem?_map] at h; simpa using h
           have hst := hdZ (allX_step hall.out hxq); have hlt1 := hD0.out.lt; obtain ⟨b, hb⟩ := nmZ ((decide (0 ≤ x) && decide (x ≤ 1048576))); have hcall := hdZ (p7.out x wr); rw [hb.out] at hst hcall; clear hxq hall hb; go_wp2_with fail; refine hcall.out.mono ?_; rintro e w5 ⟨rfl, rfl⟩
           cases b with
           | true =>
            go_wp2_with fail
            go_roundg (4 - (q + 1))
            case measure => have := hg'.out; omega
            case rel => exact ⟨q + 1, by omega, rfl, by go_num, hst.out.trans (Bool.true_and _), rfl⟩
           | false =>
            go_wp2_with fail; go_ret; exact ⟨by rw [hst.out]; simp, hBd.out⟩
          ·have i1 : decide ((q : Int) < 4) = false := by simp; omega
           obtain rfl : qd = true := allX_end hall.out (by simp; omega); clear hall hqd; have f17 : wr.cell? (Az w.heap.size 17) = some (.slice A n cc) := (hxd.out.cell 17).trans (hk.out 17 (by decide)); have flt := hxd.out.lt
           by_cases hn64 : n ≤ 64
           ·have bn : decide ((n : Int) ≤ 64) = true := by simp; omega
            have bn2 : decide (n ≤ 64) = true := by simpa using hn64
            have hc4 := hdZ (p4.out wr hBd.out); go_wp2_with fail; refine hc4.out.mono ?_; rintro e w6 ⟨rfl, hb6⟩; go_wp2_with fail; go_ret; exact ⟨by rw [bc, ba1', ba2', bn2]; simp, hBd.out.trans (hb6.mono hBd.out.size)⟩
           ·have bn : decide ((n : Int) ≤ 64) = false := by simp; omega
            have bn2 : decide (n ≤ 64) = false := by simpa using hn64
            go_wp2_with fail; go_ret; exact ⟨by rw [bn2]; simp, hBd.out⟩
      ·have ba1'' : ¬ c.amount < 1 := by omega
       have ba2 : decide (1099511627776 < c.amount) = true := by simp; omega
       have ba2' : decide (c.amount ≤ 1099511627776) = false := by simpa using ha2
       go_wp2_with fail; go_ret; exact ⟨by rw [ba2']; simp, hB3.out⟩
     ·have ba1 : decide (c.amount < 1) = true := by simp; omega
      have ba1' : decide (1 ≤ c.amount) = false := by simpa using ha1
      go_wp2_with fail; go_ret; exact ⟨by rw [ba1']; simp, hB3.out⟩
   ·have bc : (c.confirmer == []) = false := by simp [hc0]
    have hc2 := hdZ (p2.out wr hB.out); go_wp2_with fail; refine hc2.out.mono ?_; rintro e w2 ⟨rfl, hb2⟩; have hB2 := hdZ (hB.out.trans (hb2.mono hB.out.size)); have hx2 := hdZ (hx.out.below hb2 hx.out.lt); clear hb2 hc2 m4 m7 mlt hB hB' hx hcl
    cases q1 with
    | false =>
     go_wp2_with fail; go_ret; exact ⟨by rw [bc]; simp, hB2.out⟩
    | true =>
     have m7 : w2.cell? (Az w.heap.size 7) = some (.string ⟨c.currency.toArray⟩) := (hx2.out.cell 7).trans (hk.out 7 (by decide)); have mlt := hx2.out.lt; have hc3 := hdZ (p3.out w2 hB2.out); go_wp2_with fail; refine hc3.out.mono ?_; rintro e w3 ⟨rfl, hb3⟩; have hB3 := hdZ (hB2.out.trans (hb3.mono hB2.out.size)); have hx3 := hdZ (hx2.out.below hb3 hx2.out.lt); clear hb3 hc3 m7 mlt hB2 hx2
     cases q2 with
     | false =>
      go_wp2_with fail; go_ret; exact ⟨by simp, hB3.out⟩
     | true =>
      have hlt3 := hx3.out.lt; have m8 : w3.cell? (Az w.heap.size 8) = some (Iz c.amount) := (hx3.out.cell 8).trans (hk.out 8 (by decide)); have m9 : w3.cell? (Az w.heap.size 9) = some (Iz c.above) := (hx3.out.cell 9).trans (hk.out 9 (by decide)); have m10 : w3.cell? (Az w.heap.size 10) = some (Iz c.below) := (hx3.out.cell 10).trans (hk.out 10 (by decide)); have m11 : w3.cell? (Az w.heap.size 11) = some (Iz c.latest) := (hx3.out.cell 11).trans (hk.out 11 (by decide)); have m12 : w3.cell? (Az w.heap.size 12) = some (Iz c.expiry) := (hx3.out.cell 12).trans (hk.out 12 (by decide)); have m13 : w3.cell? (Az w.heap.size 13) = some (Iz c.within) := (hx3.out.cell 13).trans (hk.out 13 (by decide)); have m14 : w3.cell? (Az w.heap.size 14) = some (Iz c.tenor) := (hx3.out.cell 14).trans (hk.out 14 (by decide)); have m17 : w3.cell? (Az w.heap.size 17) = some (.slice A n cc) := (hx3.out.cell 17).trans (hk.out 17 (by decide))
      by_cases ha1 : 1 ≤ c.amount
      ·have ba1 : decide (c.amount < 1) = false := by simp; omega
       have ba1' : decide (1 ≤ c.amount) = true := by simpa using ha1
       by_cases ha2 : c.amount ≤ 1099511627776
       ·have ba2 : decide (1099511627776 < c.amount) = false := by simp; omega
        have ba2' : decide (c.amount ≤ 1099511627776) = true := by simpa using ha2
        have na1 : ¬ c.amount < 1 := by omega
        have na2 : ¬ 1099511627776 < c.amount := by omega
        clear ha1 ha2; go_wp2_with fail; refine (p5.out w3).mono ?_; rintro e w4 ⟨rfl, rfl⟩
        cases q4 with
        | false =>
         go_wp2_with fail; go_ret; exact ⟨by simp, hB3.out⟩
        | true =>
         go_wp2_with fail; refine (p6.out w3).mono ?_; rintro e w4 ⟨rfl, rfl⟩
         cases q5 with
         | false =>
          go_wp2_with fail; go_ret; exact ⟨by simp, hB3.out⟩
         | true =>
          have hD0 := hdZ (Blk.new w3 3 #[Iz c.latest, Iz c.expiry, Iz c.within, Iz c.tenor]); have hbl : Bz w3 (w3.alloc (.cells #[Iz c.latest, Iz c.expiry, Iz c.within, Iz c.tenor] 3)) := (Below.refl _ _).alloc leZ _; have hBd := hdZ (hB3.out.trans (hbl.mono hB3.out.size)); have hxd := hdZ (hx3.out.below hbl hx3.out.lt); obtain ⟨wd, hwd⟩ := nmZ (w3.alloc (.cells #[Iz c.latest, Iz c.expiry, Iz c.within, Iz c.tenor] 3)); go_wp2_with fail; rw [hwd.out] at hD0 hBd hxd ⊢; clear hwd hbl; clear m8 m9 m10 m11 m12 m13 m14 m17; have hqd' : Hid (qd = ([c.latest, c.expiry, c.within, c.tenor].drop 0).all fun n => decide (0 ≤ n) && decide (n ≤ 1048576)) := hqd.out.symm
          go_loopg [75] 4 (fun gg a wr => ∃ q : Nat, q ≤ 4 ∧ gg = 4 - q ∧ a = Iz q ∧ Hid (qd = ([c.latest, c.expiry, c.within, c.tenor].drop q).all fun n => decide (0 ≤ n) && decide (n ≤ 1048576)) ∧ wr = wd)
          case atStart => exact ⟨0, Nat.zero_le _, rfl, rfl, hqd', rfl⟩
          case round =>
           clear hqd'; obtain ⟨q, hq, hg, rfl, hall, rfl⟩ := hrel; have hg' := hdZ hg; clear hg
           by_cases hlt : q < 4
           ·have i1 : decide ((q : Int) < 4) = true := by simp; omega
            have i2 : (q : Int) < 4 := by omega
            have i3 : (0 : Int) ≤ (q : Int) := by omega
            obtain ⟨x, hxq⟩ : ∃ x, [c.latest, c.expiry, c.within, c.tenor][q]? = some x := ⟨_, List.getElem?_eq_getElem (by simp; omega)⟩
            have hcell : wr.cell? (Az w3.heap.size q) = some (Iz x) := by
             rw [hD0.out.cell q]; have h := congrArg (Option.map fun y : Int => Value.int .i64 y) hxq; rw [← List.getElem?_map] at h; simpa using h
            have hst := hdZ (allX_step hall.out hxq); have hlt1 := hD0.out.lt; obtain ⟨b, hb⟩ := nmZ ((decide (0 ≤ x) && decide (x ≤ 1048576))); have hcall := hdZ (p7.out x wr); rw [hb.out] at hst hcall; clear hxq hall hb; go_wp2_with fail; refine hcall.out.mono ?_; rintro e w5 ⟨rfl, rfl⟩
            cases b with
            | true =>
             go_wp2_with fail
             go_roundg (4 - (q + 1))
             case measure => have := hg'.out; omega
             case rel => exact ⟨q + 1, by omega, rfl, by go_num, hst.out.trans (Bool.true_and _), rfl⟩
            | false =>
             go_wp2_with fail; go_ret; exact ⟨by rw [hst.out]; simp, hBd.out⟩
           ·have i1 : decide ((q : Int) < 4) = false := by simp; omega
            obtain rfl : qd = true := allX_end hall.out (by simp; omega); clear hall hqd; have f17 : wr.cell? (Az w.heap.size 17) = some (.slice A n cc) := (hxd.out.cell 17).trans (hk.out 17 (by decide)); have flt := hxd.out.lt
            by_cases hn64 : n ≤ 64
            ·have bn : decide ((n : Int) ≤ 64) = true := by simp; omega
             have bn2 : decide (n ≤ 64) = true := by simpa using hn64
             have hc4 := hdZ (p4.out wr hBd.out); go_wp2_with fail; refine hc4.out.mono ?_; rintro e w6 ⟨rfl, hb6⟩; go_wp2_with fail; go_ret; exact ⟨by rw [bc, ba1', ba2', bn2]; simp, hBd.out.trans (hb6.mono hBd.out.size)⟩
            ·have bn : decide ((n : Int) ≤ 64) = false := by simp; omega
             have bn2 : decide (n ≤ 64) = false := by simpa using hn64
             go_wp2_with fail; go_ret; exact ⟨by rw [bn2]; simp, hBd.out⟩
       ·have ba1'' : ¬ c.amount < 1 := by omega
        have ba2 : decide (1099511627776 < c.amount) = true := by simp; omega
        have ba2' : decide (c.amount ≤ 1099511627776) = false := by simpa using ha2
        go_wp2_with fail; go_ret; exact ⟨by rw [ba2']; simp, hB3.out⟩
      ·have ba1 : decide (c.amount < 1) = true := by simp; omega
       have ba1' : decide (1 ≤ c.amount) = false := by simpa using ha1
       go_wp2_with fail; go_ret; exact ⟨by rw [ba1']; simp, hB3.out⟩
end Go.Proofs.YtjkmhlfjheiekaaGreatDoor

import Derived.Shelf.Abstract
import Derived.Deep.RegionWith
import Derived.Test.YtjkmhlfjheiekaaGreatDoorM
set_option maxRecDepth 1000000
set_option maxHeartbeats 51200000
namespace Go.Proofs.YtjkmhlfjheiekaaGreatDoor
open Go Go.RowKit Go.BigFrame Go.Maps
structure St where
 k : Nat
 pl : Nat
 cd : Int
def askS (l : List Tok) (st : St) (b : Nat) (p : Tok → Bool) : Bool := st.cd == 0 && (match l[st.k + b]? with | some t => p t | none => false)
def placeS (e : Nat) (l : List Tok) (st : St) : Nat := match l[st.k]? with | some t => t.place | none => e
def failS (st : St) (pl : Nat) (cd : Int) : St := if st.cd = 0 then ⟨st.k, pl, cd⟩ else st
def textS (l : List Tok) (st : St) : Txt := match l[st.k]? with | some t => t.text | none => []
def St.step (st : St) : St := ⟨st.k + 1, st.pl, st.cd⟩
def tkz (e : Nat) (l : List Tok) (p : Tok → Bool) (st : St) : Txt × St := if askS l st 0 p = true then (textS l st, st.step) else ([], failS st (placeS e l st) 2)
def TokAt (w : World) (pb : Nat) (A : Option Addr) (l : List Tok) : Prop :=
 ∀ i t, l[i]? = some t → ∃ g off, A = some (Az g off) ∧ g ≠ pb ∧ w.cell? ⟨g, off + i * 3, none⟩ = some (Iz t.kind) ∧ w.cell? ⟨g, off + i * 3 + 1, none⟩ = some (Iz t.place) ∧ w.cell? ⟨g, off + i * 3 + 2, none⟩ = some (.string ⟨t.text.toArray⟩)
theorem TokAt.below {w w' : World} {pb : Nat} {A : Option Addr} {l : List Tok} (h : TokAt w pb A l) (hb : Bz w w') : TokAt w' pb A l := fun i t ht => by
 obtain ⟨g, off, hA, hg, h0, h1, h2⟩ := h i t ht
 exact ⟨g, off, hA, hg, (hb.cell (World.block_lt_of_cell? w _ h0)).trans h0, (hb.cell (World.block_lt_of_cell? w _ h1)).trans h1, (hb.cell (World.block_lt_of_cell? w _ h2)).trans h2⟩
theorem TokAt.but {w w' : World} {pb : Nat} {A : Option Addr} {l : List Tok} (h : TokAt w pb A l) (hb : But pb w w') : TokAt w' pb A l := fun i t ht => by
 obtain ⟨g, off, hA, hg, h0, h1, h2⟩ := h i t ht
 exact ⟨g, off, hA, hg, (hb.cell (World.block_lt_of_cell? w _ h0) hg).trans h0, (hb.cell (World.block_lt_of_cell? w _ h1) hg).trans h1, (hb.cell (World.block_lt_of_cell? w _ h2) hg).trans h2⟩
def parC (A : Option Addr) (c e : Nat) (l : List Tok) (st : St) : Array Value := (z0z A l.length c st.k e st.pl st.cd)
structure ParAt (w : World) (pb : Nat) (A : Option Addr) (c e : Nat) (l : List Tok) (st : St) : Prop where
 row : Blk w pb 60 (parC A c e l st)
 tok : TokAt w pb A l
 len : l.length ≤ 4096
 pos : st.k ≤ l.length
theorem ParAt.below {w w' : World} {pb : Nat} {A : Option Addr} {c e : Nat} {l : List Tok} {st : St} (h : ParAt w pb A c e l st) (hb : Bz w w') : ParAt w' pb A c e l st :=
 ⟨h.row.below hb h.row.lt, h.tok.below hb, h.len, h.pos⟩
def FitsAt (w : World) (g : Nat) (lb : Array Value) (p : Tok → Bool) : Prop :=
 ∀ (W : World) (t : Tok), Bz w W → Cz g (#[.agg #[Iz t.kind, Iz t.place, .string ⟨t.text.toArray⟩]] ++ lb) W fun e w' => e = .returned (.bool (p t)) ∧ Bz W w'
theorem FitsAt.later {w W : World} {g : Nat} {lb : Array Value} {p : Tok → Bool} (h : FitsAt w g lb p) (hb : Bz w W) : FitsAt W g lb p :=
 fun W' t hb' => h W' t (hb.trans (hb'.mono hb.size))
section
variable (w : World) (pb : Nat) (A : Option Addr) (c e : Nat) (l : List Tok) (st : St)
theorem place_any (hp : Hid (ParAt w pb A c e l st)) : Cz 33 #[.pointer (some (Az pb 0))] w fun x w' => x = .returned (Iz (placeS e l st : Nat)) ∧ Bz w w' := by
 have c0 : w.cell? (Az pb 0) = some (.slice A l.length c) := hp.out.row.cell 0
 have c1 : w.cell? (Az pb 1) = some (Iz st.k) := hp.out.row.cell 1
 have c2 : w.cell? (Az pb 2) = some (Iz e) := hp.out.row.cell 2
 obtain ⟨k, hk⟩ := nmZ (st.k)
 rw [hk.out] at c1
 by_cases hlt : k < l.length
 ·have b1 : decide ((k : Int) < (l.length : Int)) = true := by simp; omega
  have i1 : (k : Int) < (l.length : Int) := by omega
  have i2 : (0 : Int) ≤ (k : Int) := by omega
  obtain ⟨t, ht⟩ : ∃ t, l[k]? = some t := ⟨l[k], List.getElem?_eq_getElem hlt⟩; have hpl : Hid (placeS e l st = t.place) := by unfold Hid placeS; rw [hk.out, ht]
  obtain ⟨g, off, rfl, hg, h0, h1, h2⟩ := hp.out.tok k t ht
  go_enter Tryz.func33, Tryz.ntmps33
  go_wp2_with fail
  go_quiet (fail)
  go_wp2_with fail
  go_quiet (fail)
  go_wp2_with fail; go_ret; exact ⟨by rw [hpl.out]; rfl, bdz (bdz (Below.refl _ _) _) _⟩
 ·have b1 : decide ((k : Int) < (l.length : Int)) = false := by simp; omega
  have hpl : Hid (placeS e l st = e) := by unfold Hid placeS; rw [hk.out, List.getElem?_eq_none (by omega)]
  go_enter Tryz.func33, Tryz.ntmps33
  go_wp2_with fail
  go_quiet (fail)
  go_wp2_with fail; go_ret; exact ⟨by rw [hpl.out]; rfl, bdz (Below.refl _ _) _⟩
theorem fail_any (at_ : Nat) (cd : Int) (hp : Hid (ParAt w pb A c e l st)) : Cz 32 #[.pointer (some (Az pb 0)), Iz at_, Iz cd] w fun x w' => x = .returned (.tuple #[]) ∧ But pb w w' ∧ ParAt w' pb A c e l (failS st at_ cd) := by
 have c4 : w.cell? (Az pb 4) = some (Iz st.cd) := hp.out.row.cell 4
 have c3 : w.cell? (Az pb 3) = some (Iz st.pl) := hp.out.row.cell 3
 have y3 := hp.out.row.frozen 3
 have y4 := hp.out.row.frozen 4
 by_cases hz : st.cd = 0
 ·have b1 : (st.cd == 0) = true := by simp [hz]
  have hf : Hid (failS st at_ cd = ⟨st.k, at_, cd⟩) := by unfold Hid failS; rw [if_pos hz]
  clear hz
  go_enter Tryz.func32, Tryz.ntmps32
  go_wp2_with fail; go_end0; refine ⟨rfl, ((But.refl pb w).setCell _ _).setCell _ _, ?_⟩; rw [hf.out]; exact ⟨(hp.out.row.set_ 3 (Iz at_)).set_ 4 (Iz cd), hp.out.tok.but (((But.refl pb w).setCell _ _).setCell _ _), hp.out.len, hp.out.pos⟩
 ·have b1 : (st.cd == 0) = false := by simp [hz]
  have hf : Hid (failS st at_ cd = st) := by unfold Hid failS; rw [if_neg hz]
  clear hz
  go_enter Tryz.func32, Tryz.ntmps32
  go_wp2_with fail; go_end0; rw [hf.out]; exact ⟨rfl, But.refl pb w, hp.out⟩
theorem ask_any (b : Nat) (hb : b ≤ 1) (g : Nat) (lb : Array Value) (eg : ∀ (args : Array Value) (w : World), (callFunc g args).run Tryz.prog w = .ok (.enter g args) w) (p : Tok → Bool) (hp : Hid (ParAt w pb A c e l st)) (hf : Hid (FitsAt w g lb p)) :
  Cz 130 #[.pointer (some (Az pb 0)), Iz b, .func (.func g) #[] lb] w fun x w' => x = .returned (.bool (askS l st b p)) ∧ Bz w w' := by
 have c0 : w.cell? (Az pb 0) = some (.slice A l.length c) := hp.out.row.cell 0
 have c1 : w.cell? (Az pb 1) = some (Iz st.k) := hp.out.row.cell 1
 have c4 : w.cell? (Az pb 4) = some (Iz st.cd) := hp.out.row.cell 4
 have hln := hp.out.len
 have hps := hp.out.pos
 obtain ⟨k, hk⟩ := nmZ (st.k)
 obtain ⟨cd, hcd⟩ := nmZ (st.cd)
 rw [hk.out] at c1 hps
 rw [hcd.out] at c4
 have w1 : IntKind.i64.wrap ((k : Int) + (b : Int)) = (k : Int) + (b : Int) := IntWalk.i64_in _ (by omega)
 by_cases hz : cd = 0
 ·have b1 : (cd == 0) = true := by simp [hz]
  by_cases hlt : k + b < l.length
  ·have b2 : decide ((k : Int) + (b : Int) < (l.length : Int)) = true := by simp; omega
   have i1 : (k : Int) + (b : Int) < (l.length : Int) := by omega
   have i2 : (0 : Int) ≤ (k : Int) + (b : Int) := by omega
   obtain ⟨t, ht⟩ : ∃ t, l[k + b]? = some t := ⟨l[k + b], List.getElem?_eq_getElem hlt⟩; have hpl : Hid (askS l st b p = p t) := by unfold Hid askS; rw [hk.out, ht, hcd.out, b1]; rfl
   obtain ⟨g', off, rfl, hg, h0, h1, h2⟩ := hp.out.tok (k + b) t ht; have hcall := hdZ (hf.out w t (Below.refl _ _)); clear hz
   go_enter Tryz.func130, Tryz.ntmps130
   go_wp2_with (go_at_fn g; refine hcall.out.mono ?_; rintro e w1 ⟨rfl, hB1⟩)
   go_ret; exact ⟨by rw [hpl.out]; rfl, hB1⟩
  ·have b2 : decide ((k : Int) + (b : Int) < (l.length : Int)) = false := by simp; omega
   have hpl : Hid (askS l st b p = false) := by unfold Hid askS; rw [hk.out, List.getElem?_eq_none (by omega)]; simp
   clear hz
   go_enter Tryz.func130, Tryz.ntmps130
   go_wp2_with fail; go_ret; exact ⟨by rw [hpl.out]; rfl, Below.refl _ _⟩
 ·have b1 : (cd == 0) = false := by simp [hz]
  have hpl : Hid (askS l st b p = false) := by unfold Hid askS; rw [hcd.out, b1]; rfl
  clear hz
  go_enter Tryz.func130, Tryz.ntmps130
  go_wp2_with fail; go_ret; exact ⟨by rw [hpl.out]; rfl, Below.refl _ _⟩
theorem sees_any (g : Nat) (lb : Array Value) (eg : ∀ (args : Array Value) (w : World), (callFunc g args).run Tryz.prog w = .ok (.enter g args) w) (p : Tok → Bool) (hp : Hid (ParAt w pb A c e l st)) (hf : Hid (FitsAt w g lb p)) :
  Cz 86 #[.pointer (some (Az pb 0)), .func (.func g) #[] lb] w fun x w' => x = .returned (.bool (askS l st 0 p)) ∧ Bz w w' := by
 have hcall := hdZ (ask_any w pb A c e l st 0 (by omega) g lb eg p hp hf)
 go_enter Tryz.func86, Tryz.ntmps86
 go_wp2_with (go_at_call 130; refine hcall.out.mono ?_; rintro e w1 ⟨rfl, hB1⟩)
 go_ret
 exact ⟨rfl, hB1⟩
theorem ask_step {l : List Tok} {st : St} {p : Tok → Bool} (h : askS l st 0 p = true) : st.cd = 0 ∧ ∃ t, l[st.k]? = some t ∧ p t = true ∧ textS l st = t.text := by
 unfold askS at h
 rw [Nat.add_zero] at h
 cases ht : l[st.k]? with
 | none => rw [ht] at h; simp at h
 | some t =>
  rw [ht] at h; simp at h; exact ⟨h.1, t, rfl, h.2, by unfold textS; rw [ht]⟩
theorem tnz (g : Nat) (lb : Array Value) (eg : ∀ (args : Array Value) (w : World), (callFunc g args).run Tryz.prog w = .ok (.enter g args) w) (p : Tok → Bool) (hp : Hid (ParAt w pb A c e l st)) (hf : Hid (FitsAt w g lb p)) :
  Cz 90 #[.pointer (some (Az pb 0)), .func (.func g) #[] lb] w fun x w' => x = .returned (.string ⟨(tkz e l p st).1.toArray⟩) ∧ But pb w w' ∧ ParAt w' pb A c e l (tkz e l p st).2 := by
 have hcall := hdZ (sees_any w pb A c e l st g lb eg p hp hf)
 obtain ⟨b, hb⟩ := nmZ (askS l st 0 p)
 rw [hb.out] at hcall
 cases b with
 | false =>
  have ht : Hid (tkz e l p st = ([], failS st (placeS e l st) 2)) := by unfold Hid tkz; rw [if_neg (by rw [hb.out]; simp)]
  go_enter Tryz.func90, Tryz.ntmps90
  go_wp2_with (go_at_call 86; refine hcall.out.mono ?_; rintro e w1 ⟨rfl, hB1⟩)
  have hp1 := hdZ (hp.out.below hB1)
  go_wp2_with (go_at_call 33; refine (place_any w1 pb A c e l st hp1).mono ?_; rintro e w2 ⟨rfl, hB2⟩)
  have hp2 := hdZ (hp1.out.below hB2)
  go_wp2_with (go_at_call 32; refine (fail_any w2 pb A c e l st _ 2 hp2).mono ?_; rintro e w3 ⟨rfl, hB3, hp3⟩)
  go_ret; rw [ht.out]; exact ⟨rfl, (((But.refl pb w).below hB1).below hB2).trans hB3, hp3⟩
 | true =>
  obtain ⟨hcd, t, hlk, hpt, htx⟩ := ask_step hb.out; have ht : Hid (tkz e l p st = (t.text, st.step)) := by unfold Hid tkz; rw [if_pos hb.out, htx]
  have hlt : st.k < l.length := (List.getElem?_eq_some_iff.1 hlk).1; obtain ⟨k, hk⟩ := nmZ (st.k); have hst : Hid (st.step = ⟨k + 1, st.pl, st.cd⟩) := by unfold Hid St.step; rw [hk.out]
  rw [hk.out] at hlk hlt; have hln := hp.out.len
  go_enter Tryz.func90, Tryz.ntmps90
  go_wp2_with (go_at_call 86; refine hcall.out.mono ?_; rintro e w1 ⟨rfl, hB1⟩)
  have hp1 := hdZ (hp.out.below hB1); have c0 : w1.cell? (Az pb 0) = some (.slice A l.length c) := hp1.out.row.cell 0; have c1 : w1.cell? (Az pb 1) = some (Iz k) := by rw [← hk.out]; exact hp1.out.row.cell 1
  have y1 := hp1.out.row.frozen 1; have w1' : IntKind.i64.wrap ((k : Int) + 1) = (k : Int) + 1 := IntWalk.i64_in _ (by omega); have i1 : (k : Int) < (l.length : Int) := by omega
  have i2 : (0 : Int) ≤ (k : Int) := by omega
  obtain ⟨g', off, rfl, hg, h0, h1, h2⟩ := hp1.out.tok k t hlk; have hlt1 := hp1.out.row.lt
  go_quiet (fail)
  go_wp2_with fail; go_ret; rw [ht.out, hst.out]; have hB2 : Hid (But pb w ((w1.drewN nq).setCell (Az pb 1) (Iz ((k : Int) + 1)))) := (((But.refl pb w).below hB1).below (bdz (Below.refl _ _) _)).setCell _ _; have hB3 : Hid (But pb w1 ((w1.drewN nq).setCell (Az pb 1) (Iz ((k : Int) + 1)))) := ((But.refl pb w1).below (bdz (Below.refl _ _) _)).setCell _ _; refine ⟨rfl, hB2.out, ?_, hp1.out.tok.but hB3.out, hln, by show k + 1 ≤ l.length; omega⟩; exact (hp1.out.row.below (bdz (Below.refl _ _) _) hlt1).set_ 1 (Iz ((k : Int) + 1))
end
open Go Go.RowKit Go.BigFrame Go.Maps
theorem FitsAt.congr {w : World} {g : Nat} {lb : Array Value} {p q : Tok → Bool} (h : FitsAt w g lb p) (he : p = q) : FitsAt w g lb q := he ▸ h
def mkT (t : Txt) : ByteArray := ⟨t.toArray⟩
theorem mkT_inj {a b : Txt} : mkT a = mkT b ↔ a = b := by
 unfold mkT
 constructor
 ·intro h
  have := congrArg (fun x : ByteArray => x.data.toList) h; simpa using this
 ·rintro rfl; rfl
theorem contains_map (ws : List Txt) (t : Txt) : Lib.containsS ((ws.map mkT).take ws.length) (mkT t) = ws.contains t := by
 rw [List.take_of_length_le (by simp), Bool.eq_iff_iff, Lib.containsS_iff]
 simp only [List.mem_map, List.contains_iff_mem, mkT_inj, exists_eq_right]
theorem word_fits {w : World} {cb g off c : Nat} {ws : List Txt} (h0 : w.cell? (Az cb 0) = some (.slice (some (Az g off)) ws.length c)) (hws : ∀ j x, ws[j]? = some x → w.cell? ⟨g, off + j, none⟩ = some (.string (mkT x))) (hbig : ws.length ≤ 9223372036854775807) :
  FitsAt w 131 #[.pointer (some (Az cb 0))] (fun t => t.kind == 0 && ws.contains t.text) := by
 intro W t hb
 have d0 : W.cell? (Az cb 0) = some (.slice (some (Az g off)) ws.length c) := (hb.cell (World.block_lt_of_cell? w _ h0)).trans h0
 have z0 : cb < W.heap.size := Nat.lt_of_lt_of_le (World.block_lt_of_cell? w _ h0) hb.size
 obtain ⟨tk, tp, tx⟩ := t
 obtain ⟨b, hbk⟩ := nmZ ((tk == 0))
 have hq := hbk.out
 have hW1 : Hid (∀ o, Bz w (W.alloc o)) := fun o => hb.alloc hb.size o
 have hcon : Hid (∀ o, Cz 132 #[.slice (some (Az g off)) ws.length c, Sz tx] (W.alloc o) fun e w' => e = .returned (.bool (ws.contains tx)) ∧ w' = W.alloc o) := fun o => by
  have := Tryz.slices_Contains_string g off ws.length c (ws.map mkT) (mkT tx) (W.alloc o) (by simp) hbig (fun j hj => by
   have hj' : j < ws.length := by simpa using hj
   rw [((hW1.out o).cell (World.block_lt_of_cell? w _ (hws j ws[j] (List.getElem?_eq_getElem hj')))), hws j ws[j] (List.getElem?_eq_getElem hj')]; simp [List.getD_eq_getElem?_getD, hj'])
  rw [contains_map] at this; exact this
 obtain ⟨cn, hcn⟩ := nmZ (ws.contains tx)
 rw [hcn.out] at hcon
 show Cz 131 #[.agg #[Iz tk, Iz tp, Sz tx], .pointer (some (Az cb 0))] W _
 cases b with
 | true =>
  go_enter Tryz.func131, Tryz.ntmps131
  go_wp2_with (go_at_call 132; refine (hcon.out _).mono ?_; rintro e w1 ⟨rfl, rfl⟩)
  go_ret; exact ⟨by simp only [hbk.out, hcn.out]; rfl, (Below.refl _ W).alloc leZ _⟩
 | false =>
  go_enter Tryz.func131, Tryz.ntmps131
  go_wp2_with fail; go_ret; exact ⟨by simp only [hbk.out, hcn.out]; rfl, (Below.refl _ W).alloc leZ _⟩
theorem sign_fits {w : World} {cb g off c : Nat} {ws : List Txt} (h0 : w.cell? (Az cb 0) = some (.slice (some (Az g off)) ws.length c)) (hws : ∀ j x, ws[j]? = some x → w.cell? ⟨g, off + j, none⟩ = some (.string (mkT x))) (hbig : ws.length ≤ 9223372036854775807) :
  FitsAt w 161 #[.pointer (some (Az cb 0))] (fun t => t.kind == 5 && ws.contains t.text) := by
 intro W t hb
 have d0 : W.cell? (Az cb 0) = some (.slice (some (Az g off)) ws.length c) := (hb.cell (World.block_lt_of_cell? w _ h0)).trans h0
 have z0 : cb < W.heap.size := Nat.lt_of_lt_of_le (World.block_lt_of_cell? w _ h0) hb.size
 obtain ⟨tk, tp, tx⟩ := t
 obtain ⟨b, hbk⟩ := nmZ ((tk == 5))
 have hq := hbk.out
 have hW1 : Hid (∀ o, Bz w (W.alloc o)) := fun o => hb.alloc hb.size o
 have hcon : Hid (∀ o, Cz 132 #[.slice (some (Az g off)) ws.length c, Sz tx] (W.alloc o) fun e w' => e = .returned (.bool (ws.contains tx)) ∧ w' = W.alloc o) := fun o => by
  have := Tryz.slices_Contains_string g off ws.length c (ws.map mkT) (mkT tx) (W.alloc o) (by simp) hbig (fun j hj => by
   have hj' : j < ws.length := by simpa using hj
   rw [((hW1.out o).cell (World.block_lt_of_cell? w _ (hws j ws[j] (List.getElem?_eq_getElem hj')))), hws j ws[j] (List.getElem?_eq_getElem hj')]; simp [List.getD_eq_getElem?_getD, hj'])
  rw [contains_map] at this; exact this
 obtain ⟨cn, hcn⟩ := nmZ (ws.contains tx)
 rw [hcn.out] at hcon
 show Cz 161 #[.agg #[Iz tk, Iz tp, Sz tx], .pointer (some (Az cb 0))] W _
 cases b with
 | true =>
  go_enter Tryz.func161, Tryz.ntmps161
  go_wp2_with (go_at_call 132; refine (hcon.out _).mono ?_; rintro e w1 ⟨rfl, rfl⟩)
  go_ret; exact ⟨by simp only [hbk.out, hcn.out]; rfl, (Below.refl _ W).alloc leZ _⟩
 | false =>
  go_enter Tryz.func161, Tryz.ntmps161
  go_wp2_with fail; go_ret; exact ⟨by simp only [hbk.out, hcn.out]; rfl, (Below.refl _ W).alloc leZ _⟩
theorem kind_fits {w : World} {cb : Nat} {k : Int} (h0 : w.cell? (Az cb 0) = some (Iz k)) : FitsAt w 159 #[.pointer (some (Az cb 0))] (kdB k) := by
 intro W t hb
 have d0 : W.cell? (Az cb 0) = some (Iz k) := (hb.cell (World.block_lt_of_cell? w _ h0)).trans h0
 have z0 : cb < W.heap.size := Nat.lt_of_lt_of_le (World.block_lt_of_cell? w _ h0) hb.size
 obtain ⟨tk, tp, tx⟩ := t
 show Cz 159 #[.agg #[Iz tk, Iz tp, Sz tx], .pointer (some (Az cb 0))] W _
 go_enter Tryz.func159, Tryz.ntmps159
 go_wp2_with fail
 go_ret
 exact ⟨rfl, (Below.refl _ W).alloc leZ _⟩
theorem named_fits (w : World) : FitsAt w 125 #[] nmB := by
 intro W t hb
 obtain ⟨tk, tp, tx⟩ := t
 show Cz 125 #[.agg #[Iz tk, Iz tp, Sz tx]] W _
 obtain ⟨b0, hb0⟩ := nmZ ((tk == 0))
 obtain ⟨b1, hb1⟩ := nmZ ((tk == 1))
 obtain ⟨b2, hb2⟩ := nmZ ((tk == 2))
 have q0 := hb0.out
 have q1 := hb1.out
 have q2 := hb2.out
 have hn : Hid (nmB ⟨tk, tp, tx⟩ = (b0 || b1 || b2)) := by unfold Hid nmB; simp only [q0, q1, q2]
 cases b0 <;> cases b1
 all_goals
  go_enter Tryz.func125, Tryz.ntmps125
  go_wp2_with fail; go_ret; exact ⟨by rw [hn.out]; first | rfl | (cases b2 <;> rfl), (Below.refl _ W).alloc leZ _⟩
section
variable (w : World)
theorem word_any (p : Option Addr) (n c : Nat) : Cz 87 #[.slice p n c] w fun e w' => e = .returned (.func (.func 131) #[] #[.pointer (some (Az w.heap.size 0))]) ∧ w' = w.alloc (.cells #[.slice p n c] 110) := by
 go_enter Tryz.func87, Tryz.ntmps87
 go_wp2_with fail
 go_ret
 exact ⟨rfl, rfl⟩
theorem sgn_any (p : Option Addr) (n c : Nat) : Cz 135 #[.slice p n c] w fun e w' => e = .returned (.func (.func 161) #[] #[.pointer (some (Az w.heap.size 0))]) ∧ w' = w.alloc (.cells #[.slice p n c] 110) := by
 go_enter Tryz.func135, Tryz.ntmps135
 go_wp2_with fail
 go_ret
 exact ⟨rfl, rfl⟩
theorem kind_any (k : Int) : Cz 133 #[Iz k] w fun e w' => e = .returned (.func (.func 159) #[] #[.pointer (some (Az w.heap.size 0))]) ∧ w' = w.alloc (.cells #[Iz k] 3) := by
 go_enter Tryz.func133, Tryz.ntmps133
 go_wp2_with fail
 go_ret
 exact ⟨rfl, rfl⟩
end
theorem kind_new (w : World) (k : Int) : FitsAt (w.alloc (.cells #[Iz k] 3)) 159 #[.pointer (some (Az w.heap.size 0))] (kdB k) :=
 kind_fits ((Blk.new w 3 #[Iz k]).cell 0)
def wOne (w : World) (x : Txt) : World := (w.alloc (.cells #[.string (mkT x)] 9)).alloc (.cells #[.slice (some (Az w.heap.size 0)) 1 1] 110)
theorem wOne_box (w : World) (x : Txt) : (wOne w x).cell? ⟨w.heap.size + 1, 0, none⟩ = some (.slice (some (Az w.heap.size 0)) 1 1) := by
 exact (blk_second w (.cells #[.string (mkT x)] 9) 110 #[.slice (some (Az w.heap.size 0)) 1 1]).cell 0
theorem wOne_word (w : World) (x : Txt) : (wOne w x).cell? (Az w.heap.size 0) = some (.string (mkT x)) := by
 exact ((Blk.new w 9 #[.string (mkT x)]).alloc (.cells #[.slice (some (Az w.heap.size 0)) 1 1] 110)).cell 0
theorem one_word (w : World) (x : Txt) : ∀ j y, [x][j]? = some y → (wOne w x).cell? ⟨w.heap.size, 0 + j, none⟩ = some (.string (mkT y)) := by
 intro j y h
 cases j with
 | zero => obtain rfl : x = y := by simpa using h
           exact wOne_word w x
 | succ j => simp at h
theorem word_new (w : World) (x : Txt) : FitsAt (wOne w x) 131 #[.pointer (some ⟨w.heap.size + 1, 0, none⟩)] (wdz x) :=
 (word_fits (ws := [x]) (wOne_box w x) (one_word w x) (by simp)).congr (by funext t; unfold wdz; rw [List.contains_cons, List.contains_nil, Bool.or_false])
theorem sign_new (w : World) (x : Txt) : FitsAt (wOne w x) 161 #[.pointer (some ⟨w.heap.size + 1, 0, none⟩)] (signB x) :=
 (sign_fits (ws := [x]) (wOne_box w x) (one_word w x) (by simp)).congr (by funext t; unfold signB; rw [List.contains_cons, List.contains_nil, Bool.or_false])
theorem bwz (w : World) (x : Txt) : Bz w (wOne w x) := ((Below.refl _ w).alloc leZ _).alloc (by simp) _
theorem size_wOne (w : World) (x : Txt) : (wOne w x).heap.size = w.heap.size + 2 := by unfold wOne; simp
open Go Go.RowKit Go.BigFrame Go.Maps
def paperD : List Txt → Nat → Txt → Int
 | [], _, _ => -1
 | x :: r, k, t => if x = t then (k : Int) else paperD r (k + 1) t
theorem paperD_idx (t : Txt) : ∀ (l : List Txt) (k : Nat), paperD l k t = if l.idxOf t < l.length then ((k + l.idxOf t : Nat) : Int) else -1
 | [], k => by simp [paperD]
 | x :: r, k => by
  rw [paperD, List.idxOf_cons]
  by_cases h : x = t
  ·rw [if_pos h]; simp [h]
  ·rw [if_neg h, paperD_idx t r (k + 1)]
   have : (x == t) = false := by simp [h]
   rw [this]; simp only [cond_false, List.length_cons]
   by_cases h2 : r.idxOf t < r.length
   ·rw [if_pos h2, if_pos (by omega)]; congr 1; omega
   ·rw [if_neg h2, if_neg (by omega)]
theorem paperI_D (t : Txt) : paperI t = paperD ppL 0 t := by
 rw [paperD_idx]
 unfold paperI
 simp only [show ppL.length = 6 from rfl, Nat.zero_add]
theorem index125 (k : Nat) (hk : k < 6) (w : World) : (Instr.index 125 (.agg papersA) (Iz k)).run Tryz.prog w = .ok (.string ⟨(ppL.getD k []).toArray⟩) w := by
 obtain rfl | rfl | rfl | rfl | rfl | rfl : k = 0 ∨ k = 1 ∨ k = 2 ∨ k = 3 ∨ k = 4 ∨ k = 5 := by omega
 all_goals kernel_rfl
theorem paperD_yes {k : Nat} {x t : Txt} (h : ppL[k]? = some x) (hx : x = t) : paperD (ppL.drop k) k t = k := by
 obtain ⟨hk, he⟩ := List.getElem?_eq_some_iff.1 h
 rw [List.drop_eq_getElem_cons hk, he, paperD, if_pos hx]
theorem paperD_no {k : Nat} {x t : Txt} (h : ppL[k]? = some x) (hx : ¬ x = t) : paperD (ppL.drop k) k t = paperD (ppL.drop (k + 1)) (k + 1) t := by
 obtain ⟨hk, he⟩ := List.getElem?_eq_some_iff.1 h
 rw [List.drop_eq_getElem_cons hk, he, paperD, if_neg hx]
theorem paperOf_any (s : ByteArray) (w : World) (he : Hid (Env w)) :
  Cz 136 #[.string s] w fun e w' => e = .returned (Iz (paperI s.data.toList)) ∧ w = w' := by
 have hW := fun n hn => he.out.papers n hn
 have hsz : Hid (papersA.size = 6) := rfl
 have hget : Hid (∀ (k : Nat) (x : Txt) (W : World), ppL[k]? = some x → (Instr.index 125 (.agg papersA) (Iz k)).run Tryz.prog W = .ok (Sz x) W) := fun k x W h => by
  have hk : k < 6 := (List.getElem?_eq_some_iff.1 h).1; rw [index125 k hk, List.getD_eq_getElem?_getD, h]; rfl
 obtain ⟨WA, hWA⟩ := nmZ (papersA)
 rw [hWA.out] at hW hsz hget
 have hrg : Hid (w.rangeAt 0 0 WA.toList) := fun j v hv => by
  have hj : j < 6 := by
   have := (List.getElem?_eq_some_iff.1 hv).1; rw [Array.length_toList, hsz.out] at this; exact this
  rw [Nat.zero_add, hW j hj]; simpa using hv
 have hin : Hid ((Tryz.prog.info? 125).map (·.size) = some WA.toList.length) := by unfold Hid; rw [Array.length_toList, hsz.out]; kernel_rfl
 clear hW hWA
 go_enter Tryz.func136, Tryz.ntmps136
 go_wp2_with (refine wpList_load_mid rfl 125 (.global 0) rfl 0 0 rfl WA.toList _ hrg.out Tryz.underlying125 rfl hin.out ?_)
 rw [Array.toArray_toList]
 go_loopg [3, 4, 6] 6 (fun gg _ _ i wr => ∃ k : Nat, k ≤ 6 ∧ gg = 6 - k ∧ i = Iz k ∧ w = wr ∧ Hid (paperI s.data.toList = paperD (ppL.drop k) k s.data.toList))
 case atStart => exact ⟨0, by omega, rfl, rfl, rfl, paperI_D _⟩
 case round =>
  obtain ⟨k, hk, hg, rfl, rfl, hs⟩ := hrel; have hg' := hdZ hg; clear hg
  by_cases hlt : k < 6
  ·obtain ⟨x, hx⟩ : ∃ x, ppL[k]? = some x := ⟨_, List.getElem?_eq_getElem (show k < ppL.length from hlt)⟩
   have hgk := hget.out k x w hx; have i1 : (k : Int) < 6 := by omega
   have i2 : (0 : Int) ≤ (k : Int) := by omega
   have hst0 : s.toList = s.data.toList := by simp [ByteArray.toList_eq]
   by_cases heq : x = s.data.toList
   ·have hq : (x == s.toList) = true := by rw [hst0]; simp [heq]
    have hr : Hid (paperI s.data.toList = k) := by unfold Hid; rw [hs.out, paperD_yes hx heq]
    clear heq hst0 hx; go_wp2_with fail; go_ret; exact ⟨by rw [hr.out]; first | done | rfl, rfl⟩
   ·have hq : (x == s.toList) = false := by rw [hst0]; simp [heq]
    have hr : Hid (paperI s.data.toList = paperD (ppL.drop (k + 1)) (k + 1) s.data.toList) := by unfold Hid; rw [hs.out, paperD_no hx heq]
    clear heq hst0 hx; go_wp2_with fail
    go_roundg (6 - (k + 1))
    case measure => have := hg'.out; omega
    case rel => exact ⟨k + 1, by omega, rfl, by go_num, rfl, hr⟩
  ·have hr : Hid (paperI s.data.toList = -1) := by unfold Hid; rw [hs.out, List.drop_eq_nil_of_le (by show 6 ≤ k; omega)]; rfl
   go_wp2_with fail; go_ret; exact ⟨by rw [hr.out]; first | done | rfl, rfl⟩
theorem paper_fits {w : World} (he : Hid (Env w)) : FitsAt w 137 #[] ppB := by
 intro W t hb
 obtain ⟨tk, tp, tx⟩ := t
 show Cz 137 #[.agg #[Iz tk, Iz tp, Sz tx]] W _
 obtain ⟨b0, hb0⟩ := nmZ ((tk == 0))
 have q0 := hb0.out
 have heW := hdZ (he.out.below hb)
 have hpo : Hid (∀ o, Cz 136 #[Sz tx] (W.alloc o) fun e w' => e = .returned (Iz (paperI tx)) ∧ W.alloc o = w') := fun o => by
  have := paperOf_any ⟨tx.toArray⟩ (W.alloc o) (heW.out.below ((Below.refl _ W).alloc leZ o)); simpa using this
 obtain ⟨pi, hpi⟩ := nmZ (paperI tx)
 rw [hpi.out] at hpo
 obtain ⟨b1, hb1⟩ := nmZ (decide (0 ≤ pi))
 have q1 := hb1.out
 have hn : Hid (ppB ⟨tk, tp, tx⟩ = (b0 && b1)) := by unfold Hid ppB; simp only [q0, hpi.out, q1]
 cases b0
 all_goals
  go_enter Tryz.func137, Tryz.ntmps137
  go_wp2_with (go_at_call 136; refine (hpo.out _).mono ?_; rintro e w1 ⟨rfl, rfl⟩)
  go_ret; exact ⟨by rw [hn.out]; first | rfl | (cases b1 <;> rfl), (Below.refl _ W).alloc leZ _⟩
def compL : List Txt := [sEq, sTilde, sLe, sGe]
theorem comp_eq : compB = fun t => t.kind == 5 && compL.contains t.text := by
 funext t
 unfold compB compL
 simp only [List.contains_cons, List.contains_nil, Bool.or_false, Bool.or_assoc]
theorem comp_fit {W : World} {g cb : Nat} (hg : Blk W g 9 #[.string (mkT sEq), .string (mkT sTilde), .string (mkT sLe), .string (mkT sGe)]) (hc : Blk W cb 110 #[.slice (some (Az g 0)) 4 4]) : FitsAt W 161 #[.pointer (some (Az cb 0))] compB := by
 refine (sign_fits (ws := compL) (hc.cell 0) ?_ (by decide)).congr comp_eq.symm
 intro j x hx
 have hj : j < 4 := (List.getElem?_eq_some_iff.1 hx).1
 rw [Nat.zero_add, hg.cell]
 obtain rfl | rfl | rfl | rfl : j = 0 ∨ j = 1 ∨ j = 2 ∨ j = 3 := by omega
 all_goals
  obtain rfl := Option.some.inj hx
  rfl
theorem comp_fits (w : World) : FitsAt w 164 #[] compB := by
 intro W t hb
 obtain ⟨b, hbt⟩ := nmZ (compB t)
 rw [hbt.out]
 obtain ⟨tk, tp, tx⟩ := t
 have hX : Hid (∀ o, Cz 161 #[.agg #[Iz tk, Iz tp, Sz tx], .pointer (some ⟨W.heap.size + 1 + 1, 0, none⟩)]
   (((W.alloc o).alloc (.cells #[.string ⟨#[61]⟩, .string ⟨#[126]⟩, .string ⟨#[60, 61]⟩, .string ⟨#[62, 61]⟩] 9)).alloc (.cells #[.slice (some ⟨W.heap.size + 1, 0, none⟩) 4 4] 110)).drew
   fun e w' => e = .returned (.bool b) ∧ Bz W w') := fun o => by
  have h1 := blk_second W o 9 #[.string ⟨#[61]⟩, .string ⟨#[126]⟩, .string ⟨#[60, 61]⟩, .string ⟨#[62, 61]⟩]; have h2 := blk_second (W.alloc o) (.cells #[.string ⟨#[61]⟩, .string ⟨#[126]⟩, .string ⟨#[60, 61]⟩, .string ⟨#[62, 61]⟩] 9) 110 #[.slice (some ⟨W.heap.size + 1, 0, none⟩) 4 4]; rw [World.size_alloc] at h2; have h3 := comp_fit (g := W.heap.size + 1) (h1.alloc (.cells #[.slice (some ⟨W.heap.size + 1, 0, none⟩) 4 4] 110)).drew h2.drew; have h4 := h3 _ ⟨tk, tp, tx⟩ (Below.refl _ _); rw [hbt.out] at h4; refine h4.mono ?_; rintro e w' ⟨rfl, hB⟩; refine ⟨rfl, Below.trans (((((Below.refl _ W).alloc leZ o).alloc (by simp) _).alloc (by simp; omega) _).drew) (hB.mono (by simp; omega))⟩
 show Cz 164 #[.agg #[Iz tk, Iz tp, Sz tx]] W _
 go_enter Tryz.func164, Tryz.ntmps164
 go_wp2_with fail
 go_region_with (first | (go_at_call 135; refine (sgn_any _ _ _ _).mono ?_; rintro e w1 ⟨rfl, rfl⟩) | (go_at_call 161; refine (hX.out _).mono ?_; rintro e w2 ⟨rfl, hB2⟩))
 all_goals
  go_wp2_with fail; go_ret; exact ⟨rfl, hB2⟩
end Go.Proofs.YtjkmhlfjheiekaaGreatDoor

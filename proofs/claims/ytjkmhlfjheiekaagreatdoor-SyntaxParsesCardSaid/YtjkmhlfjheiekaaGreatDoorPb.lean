import Derived.Test.YtjkmhlfjheiekaaGreatDoorPa
namespace Go.Proofs.YtjkmhlfjheiekaaGreatDoor
open Go Go.RowKit Go.BigFrame Go.Maps
theorem step_par {w : World} {pb : Nat} {A : Option Addr} {c e : Nat} {l : List Tok} {st : St} (h : ParAt w pb A c e l st) (hlt : st.k < l.length) (k : Nat) (hk : st.k = k) : ParAt (w.setCell ⟨pb, 1, none⟩ (.int .i64 ((k : Int) + 1))) pb A c e l st.step := by
 subst hk
 exact ⟨h.row.set_ 1 (.int .i64 ((st.k : Int) + 1)), h.tok.but ((But.refl pb w).setCell _ _), h.len, by show st.k + 1 ≤ l.length; omega⟩
def wTwo (w : World) : World := (w.alloc (.cells #[.string (mkT wYes), .string (mkT wNo)] 9)).alloc (.cells #[.slice (some ⟨w.heap.size, 0, none⟩) 2 2] 110)
theorem below_wTwo (w : World) : Below w.heap.size w (wTwo w) := ((Below.refl _ w).alloc le9 _).alloc (by simp) _
theorem yes_new (w : World) : FitsAt (wTwo w) 131 #[.pointer (some ⟨w.heap.size + 1, 0, none⟩)] yesB := by
 refine word_fits (ws := [wYes, wNo]) (g := w.heap.size) (off := 0) (c := 2) ((blk_second w (.cells #[.string (mkT wYes), .string (mkT wNo)] 9) 110 #[.slice (some ⟨w.heap.size, 0, none⟩) 2 2]).cell 0) ?_ (by decide)
 intro j x hx
 have hj : j < 2 := (List.getElem?_eq_some_iff.1 hx).1
 have hb := ((Blk.new w 9 #[.string (mkT wYes), .string (mkT wNo)]).alloc (.cells #[.slice (some ⟨w.heap.size, 0, none⟩) 2 2] 110))
 rw [Nat.zero_add]
 refine (hb.cell j).trans ?_
 obtain rfl | rfl : j = 0 ∨ j = 1 := by omega
 all_goals
  obtain rfl := Option.some.inj hx
  rfl
section
variable (w : World) (pb : Nat) (A : Option Addr) (c e : Nat) (l : List Tok) (st : St)
set_option maxRecDepth 100000 in
set_option maxHeartbeats 3200000 in
theorem end_any (hp : Hid (ParAt w pb A c e l st)) :
  Calls Tryz.prog 92 #[.pointer (some ⟨pb, 0, none⟩)] w fun x w' => x = .returned (.tuple #[]) ∧ But pb w w' ∧ ParAt w' pb A c e l (endS e l st) := by
 have e161 : ∀ (args : Array Value) (w : World), (callFunc 161 args).run Tryz.prog w = .ok (.enter 161 args) w := enters_of Tryz.func161 (by kernel_rfl) rfl
 have hB := hd9 (But.refl pb w)
 go_enter Tryz.func92, Tryz.ntmps92
 go_wp2_with fail
 refine (sgn_any _ _ _ _).mono ?_
 rintro x wz ⟨rfl, rfl⟩
 go_wp2_with fail
 have hB := hd9 (hB.out.below (below_wOne w sSemi))
 have hp := hd9 (hp.out.below (below_wOne w sSemi))
 obtain ⟨⟨t1, s1⟩, h1⟩ : ∃ r, Hid (takeS e l (signB sSemi) st = r) := ⟨_, hd9 rfl⟩
 refine (take_any (wOne w sSemi) pb A c e l st 161 _ e161 (signB sSemi) hp (sign_new w sSemi)).mono ?_
 rintro x w1 ⟨rfl, hu, hq⟩
 rw [h1.out] at hq ⊢
 have hB := hd9 (hB.out.trans hu)
 have hp := hd9 hq
 clear hu hq
 simp only at hp ⊢
 go_wp2_with fail
 go_end0
 have hr : Hid (endS e l st = s1) := by unfold Hid endS; rw [h1.out]
 exact ⟨rfl, hB.out, by rw [hr.out]; exact hp.out⟩
set_option maxRecDepth 100000 in
set_option maxHeartbeats 3200000 in
theorem days_any (hp : Hid (ParAt w pb A c e l st)) (hok : Hid (TokOk l)) (lo : Int) :
  Calls Tryz.prog 91 #[.pointer (some ⟨pb, 0, none⟩), .int .i64 lo] w fun x w' => x = .returned (.int .i64 (numS e l lo 1048576 st).1) ∧ But pb w w' ∧ ParAt w' pb A c e l (numS e l lo 1048576 st).2 := by
 have hB := hd9 (But.refl pb w)
 go_enter Tryz.func91, Tryz.ntmps91
 go_wp2_with fail
 obtain ⟨⟨n1, s1⟩, h1⟩ : ∃ r, Hid (numS e l lo 1048576 st = r) := ⟨_, hd9 rfl⟩
 refine (number_any w pb A c e l st lo 1048576 hp hok).mono ?_
 rintro x w1 ⟨rfl, hu, hq⟩
 rw [h1.out] at hq ⊢
 have hB := hd9 (hB.out.trans hu)
 have hp := hd9 hq
 clear hu hq
 simp only at hp ⊢
 go_wp2_with fail
 go_ret
 rw [h1.out]
 exact ⟨rfl, hB.out, hp.out⟩
set_option maxRecDepth 100000 in
set_option maxHeartbeats 3200000 in
theorem line_any_p (hp : Hid (ParAt w pb A c e l st)) (x : Txt) :
  Calls Tryz.prog 85 #[.pointer (some ⟨pb, 0, none⟩), .string (mkT x)] w fun x' w' => x' = .returned (.string ⟨(lineS e l x st).1.toArray⟩) ∧ But pb w w' ∧ ParAt w' pb A c e l (lineS e l x st).2 := by
 have e131 : ∀ (args : Array Value) (w : World), (callFunc 131 args).run Tryz.prog w = .ok (.enter 131 args) w := enters_of Tryz.func131 (by kernel_rfl) rfl
 have e125 : ∀ (args : Array Value) (w : World), (callFunc 125 args).run Tryz.prog w = .ok (.enter 125 args) w := enters_of Tryz.func125 (by kernel_rfl) rfl
 have hB := hd9 (But.refl pb w)
 go_enter Tryz.func85, Tryz.ntmps85
 go_wp2_with fail
 refine (word_any _ _ _ _).mono ?_
 rintro x wz ⟨rfl, rfl⟩
 go_wp2_with fail
 have hB := hd9 (hB.out.below (below_wOne w x))
 have hp := hd9 (hp.out.below (below_wOne w x))
 obtain ⟨⟨t1, s1⟩, h1⟩ : ∃ r, Hid (takeS e l (wordB x) st = r) := ⟨_, hd9 rfl⟩
 refine (take_any (wOne w x) pb A c e l st 131 _ e131 (wordB x) hp (word_new w x)).mono ?_
 rintro x w1 ⟨rfl, hu, hq⟩
 rw [h1.out] at hq ⊢
 have hB := hd9 (hB.out.trans hu)
 have hp := hd9 hq
 clear hu hq
 simp only at hp ⊢
 go_wp2_with fail
 obtain ⟨⟨t2, s2⟩, h2⟩ : ∃ r, Hid (takeS e l namedB s1 = r) := ⟨_, hd9 rfl⟩
 refine (take_any w1 pb A c e l s1 125 #[] e125 namedB hp (named_fits _)).mono ?_
 rintro x w2 ⟨rfl, hu, hq⟩
 rw [h2.out] at hq ⊢
 have hB := hd9 (hB.out.trans hu)
 have hp := hd9 hq
 clear hu hq
 simp only at hp ⊢
 go_wp2_with fail
 refine (end_any w2 pb A c e l s2 hp).mono ?_
 rintro x w3 ⟨rfl, hu, hq⟩
 have hB := hd9 (hB.out.trans hu)
 have hp := hd9 hq
 clear hu hq
 go_wp2_with fail
 go_ret
 have hr : Hid (lineS e l x st = (t2, endS e l s2)) := by unfold Hid lineS; rw [h1.out]; simp only; rw [h2.out]
 rw [hr.out]
 exact ⟨rfl, hB.out, hp.out⟩
set_option maxRecDepth 100000 in
set_option maxHeartbeats 3200000 in
theorem day_any_p (hp : Hid (ParAt w pb A c e l st)) (hok : Hid (TokOk l)) (x : Txt) :
  Calls Tryz.prog 89 #[.pointer (some ⟨pb, 0, none⟩), .string (mkT x)] w fun x' w' => x' = .returned (.int .i64 (dayS e l x st).1) ∧ But pb w w' ∧ ParAt w' pb A c e l (dayS e l x st).2 := by
 have e131 : ∀ (args : Array Value) (w : World), (callFunc 131 args).run Tryz.prog w = .ok (.enter 131 args) w := enters_of Tryz.func131 (by kernel_rfl) rfl
 have hB := hd9 (But.refl pb w)
 go_enter Tryz.func89, Tryz.ntmps89
 go_wp2_with fail
 refine (word_any _ _ _ _).mono ?_
 rintro x wz ⟨rfl, rfl⟩
 go_wp2_with fail
 have hB := hd9 (hB.out.below (below_wOne w x))
 have hp := hd9 (hp.out.below (below_wOne w x))
 obtain ⟨⟨t1, s1⟩, h1⟩ : ∃ r, Hid (takeS e l (wordB x) st = r) := ⟨_, hd9 rfl⟩
 refine (take_any (wOne w x) pb A c e l st 131 _ e131 (wordB x) hp (word_new w x)).mono ?_
 rintro x w1 ⟨rfl, hu, hq⟩
 rw [h1.out] at hq ⊢
 have hB := hd9 (hB.out.trans hu)
 have hp := hd9 hq
 clear hu hq
 simp only at hp ⊢
 go_wp2_with fail
 obtain ⟨⟨n2, s2⟩, h2⟩ : ∃ r, Hid (numS e l 0 1048576 s1 = r) := ⟨_, hd9 rfl⟩
 refine (days_any w1 pb A c e l s1 hp hok 0).mono ?_
 rintro x w2 ⟨rfl, hu, hq⟩
 rw [h2.out] at hq ⊢
 have hB := hd9 (hB.out.trans hu)
 have hp := hd9 hq
 clear hu hq
 simp only at hp ⊢
 go_wp2_with fail
 refine (end_any w2 pb A c e l s2 hp).mono ?_
 rintro x w3 ⟨rfl, hu, hq⟩
 have hB := hd9 (hB.out.trans hu)
 have hp := hd9 hq
 clear hu hq
 go_wp2_with fail
 go_ret
 have hr : Hid (dayS e l x st = (n2, endS e l s2)) := by unfold Hid dayS; rw [h1.out]; simp only; rw [h2.out]
 rw [hr.out]
 exact ⟨rfl, hB.out, hp.out⟩
set_option maxRecDepth 100000 in
set_option maxHeartbeats 3200000 in
theorem choice_any (hp : Hid (ParAt w pb A c e l st)) (x : Txt) :
  Calls Tryz.prog 94 #[.pointer (some ⟨pb, 0, none⟩), .string (mkT x)] w fun x' w' => x' = .returned (.bool (choiceS e l x st).1) ∧ But pb w w' ∧ ParAt w' pb A c e l (choiceS e l x st).2 := by
 have e131 : ∀ (args : Array Value) (w : World), (callFunc 131 args).run Tryz.prog w = .ok (.enter 131 args) w := enters_of Tryz.func131 (by kernel_rfl) rfl
 have hB := hd9 (But.refl pb w)
 go_enter Tryz.func94, Tryz.ntmps94
 go_wp2_with fail
 refine (word_any _ _ _ _).mono ?_
 rintro x wz ⟨rfl, rfl⟩
 go_wp2_with fail
 have hB := hd9 (hB.out.below (below_wOne w x))
 have hp := hd9 (hp.out.below (below_wOne w x))
 obtain ⟨⟨t1, s1⟩, h1⟩ : ∃ r, Hid (takeS e l (wordB x) st = r) := ⟨_, hd9 rfl⟩
 refine (take_any (wOne w x) pb A c e l st 131 _ e131 (wordB x) hp (word_new w x)).mono ?_
 rintro x w1 ⟨rfl, hu, hq⟩
 rw [h1.out] at hq ⊢
 have hB := hd9 (hB.out.trans hu)
 have hp := hd9 hq
 clear hu hq
 simp only at hp ⊢
 go_wp2_with fail
 refine (word_any _ _ _ _).mono ?_
 rintro x wz ⟨rfl, rfl⟩
 go_wp2_with fail
 have hB := hd9 (hB.out.below (below_wTwo w1))
 have hp := hd9 (hp.out.below (below_wTwo w1))
 obtain ⟨⟨t2, s2⟩, h2⟩ : ∃ r, Hid (takeS e l yesB s1 = r) := ⟨_, hd9 rfl⟩
 refine (take_any (wTwo w1) pb A c e l s1 131 _ e131 yesB hp (yes_new w1)).mono ?_
 rintro x w2 ⟨rfl, hu, hq⟩
 rw [h2.out] at hq ⊢
 have hB := hd9 (hB.out.trans hu)
 have hp := hd9 hq
 clear hu hq
 simp only at hp ⊢
 go_wp2_with fail
 refine (end_any w2 pb A c e l s2 hp).mono ?_
 rintro x w3 ⟨rfl, hu, hq⟩
 have hB := hd9 (hB.out.trans hu)
 have hp := hd9 hq
 clear hu hq
 go_wp2_with fail
 go_ret
 have hr : Hid (choiceS e l x st = (t2 == wYes, endS e l s2)) := by unfold Hid choiceS; rw [h1.out]; simp only; rw [h2.out]
 rw [hr.out]
 exact ⟨rfl, hB.out, hp.out⟩
set_option maxRecDepth 100000 in
set_option maxHeartbeats 3200000 in
theorem tenor_any (hp : Hid (ParAt w pb A c e l st)) (hok : Hid (TokOk l)) :
  Calls Tryz.prog 93 #[.pointer (some ⟨pb, 0, none⟩)] w fun x w' => x = .returned (.int .i64 (tenorS e l st).1) ∧ But pb w w' ∧ ParAt w' pb A c e l (tenorS e l st).2 := by
 have e131 : ∀ (args : Array Value) (w : World), (callFunc 131 args).run Tryz.prog w = .ok (.enter 131 args) w := enters_of Tryz.func131 (by kernel_rfl) rfl
 have hB := hd9 (But.refl pb w)
 go_enter Tryz.func93, Tryz.ntmps93
 go_wp2_with fail
 refine (word_any _ _ _ _).mono ?_
 rintro x wz ⟨rfl, rfl⟩
 go_wp2_with fail
 have hB := hd9 (hB.out.below (below_wOne w wTenor))
 have hp := hd9 (hp.out.below (below_wOne w wTenor))
 obtain ⟨⟨t1, s1⟩, h1⟩ : ∃ r, Hid (takeS e l (wordB wTenor) st = r) := ⟨_, hd9 rfl⟩
 refine (take_any (wOne w wTenor) pb A c e l st 131 _ e131 (wordB wTenor) hp (word_new w wTenor)).mono ?_
 rintro x w1 ⟨rfl, hu, hq⟩
 rw [h1.out] at hq ⊢
 have hB := hd9 (hB.out.trans hu)
 have hp := hd9 hq
 clear hu hq
 simp only at hp ⊢
 have hr : Hid (tenorS e l st = tenS e l s1) := by unfold Hid tenorS; rw [h1.out]
 go_wp2_with fail
 refine (word_any _ _ _ _).mono ?_
 rintro x wz ⟨rfl, rfl⟩
 go_wp2_with fail
 have hB := hd9 (hB.out.below (below_wOne w1 wSight))
 have hp := hd9 (hp.out.below (below_wOne w1 wSight))
 obtain ⟨b2, h2⟩ : ∃ b, Hid (askS l s1 0 (wordB wSight) = b) := ⟨_, hd9 rfl⟩
 refine (sees_any (wOne w1 wSight) pb A c e l s1 131 _ e131 (wordB wSight) hp (word_new w1 wSight)).mono ?_
 rintro x w2 ⟨rfl, hb⟩
 rw [h2.out]
 have hB := hd9 (hB.out.below hb)
 have hp := hd9 (hp.out.below hb)
 clear hb
 cases b2 with
 | true =>
  obtain ⟨hcd, tk0, hlk, _, _⟩ := ask_step h2.out
  have hlt : s1.k < l.length := (List.getElem?_eq_some_iff.1 hlk).1
  obtain ⟨k1, hk1⟩ : ∃ k, Hid (s1.k = k) := ⟨_, hd9 rfl⟩
  have hpar := hd9 (step_par hp.out hlt k1 hk1.out)
  have hu : Hid (But pb w2 (w2.setCell ⟨pb, 1, none⟩ (.int .i64 ((k1 : Int) + 1)))) := (But.refl pb _).setCell _ _
  have c1 : w2.cell? ⟨pb, 1, none⟩ = some (.int .i64 k1) := by rw [← hk1.out]; exact hp.out.row.cell 1
  have y1 := hp.out.row.frozen 1
  have hln := hp.out.len
  have hlt1 := hp.out.row.lt
  rw [hk1.out] at hlt
  have w1' : IntKind.i64.wrap ((k1 : Int) + 1) = (k1 : Int) + 1 := IntWalk.i64_in _ (by omega)
  clear hlk
  go_wp2_with fail
  obtain ⟨wy, hwy⟩ : ∃ x, Hid (w2.setCell ⟨pb, 1, none⟩ (.int .i64 ((k1 : Int) + 1)) = x) := ⟨_, hd9 rfl⟩
  have hB := hd9 (hB.out.trans hu.out)
  rw [hwy.out] at hpar hB ⊢
  have hp := hpar
  clear hwy hu hpar c1 y1
  refine (end_any wy pb A c e l s1.step hp).mono ?_
  rintro x w3 ⟨rfl, hu, hq⟩
  have hB := hd9 (hB.out.trans hu)
  have hp := hd9 hq
  clear hu hq
  go_wp2_with fail
  go_ret
  have hr2 : Hid (tenS e l s1 = (0, endS e l s1.step)) := by unfold Hid tenS; rw [if_pos h2.out]
  rw [hr.out, hr2.out]
  exact ⟨rfl, hB.out, hp.out⟩
 | false =>
  go_wp2_with fail
  obtain ⟨⟨n3, s3⟩, h3⟩ : ∃ r, Hid (numS e l 1 1048576 s1 = r) := ⟨_, hd9 rfl⟩
  refine (days_any w2 pb A c e l s1 hp hok 1).mono ?_
  rintro x w4 ⟨rfl, hu, hq⟩
  rw [h3.out] at hq ⊢
  have hB := hd9 (hB.out.trans hu)
  have hp := hd9 hq
  clear hu hq
  simp only at hp ⊢
  go_wp2_with fail
  refine (word_any _ _ _ _).mono ?_
  rintro x wz ⟨rfl, rfl⟩
  go_wp2_with fail
  have hB := hd9 (hB.out.below (below_wOne w4 wDays))
  have hp := hd9 (hp.out.below (below_wOne w4 wDays))
  obtain ⟨⟨t4, s4⟩, h4⟩ : ∃ r, Hid (takeS e l (wordB wDays) s3 = r) := ⟨_, hd9 rfl⟩
  refine (take_any (wOne w4 wDays) pb A c e l s3 131 _ e131 (wordB wDays) hp (word_new w4 wDays)).mono ?_
  rintro x w5 ⟨rfl, hu, hq⟩
  rw [h4.out] at hq ⊢
  have hB := hd9 (hB.out.trans hu)
  have hp := hd9 hq
  clear hu hq
  simp only at hp ⊢
  go_wp2_with fail
  refine (end_any w5 pb A c e l s4 hp).mono ?_
  rintro x w6 ⟨rfl, hu, hq⟩
  have hB := hd9 (hB.out.trans hu)
  have hp := hd9 hq
  clear hu hq
  go_wp2_with fail
  go_ret
  have hr2 : Hid (tenS e l s1 = (n3, endS e l s4)) := by unfold Hid tenS; rw [if_neg (by rw [h2.out]; simp), h3.out]; simp only; rw [h4.out]
  rw [hr.out, hr2.out]
  exact ⟨rfl, hB.out, hp.out⟩
end
end Go.Proofs.YtjkmhlfjheiekaaGreatDoor

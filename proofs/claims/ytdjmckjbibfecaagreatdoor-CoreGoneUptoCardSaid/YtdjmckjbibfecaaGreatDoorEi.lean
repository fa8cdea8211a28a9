/- What is wrong with an invoice, with a bill of lading: the walks. -/
import Derived.Test.YtdjmckjbibfecaaGreatDoorEh
namespace Go.Proofs.YtdjmckjbibfecaaGreatDoor
open Go Go.RowKit Go.BigFrame Go.Maps

theorem askF_le (a : Int) (d : Pap) (name : ByteArray) (wrong : ByteArray → Int) : (askF a d name wrong).length ≤ 1 := by
  unfold askF; split
  · simp
  · split <;> simp
theorem wrong_is {t : ByteArray} {W : World} {cb : Nat} (hb : Blk W cb 9 #[.string t]) (d : Pap) (name : ByteArray) : WrongC 159 cb W d name (isW t) := fun w' v hb' _ =>
  ⟨by have := isW_in t v; omega, is_any t v cb w' ((hb.below hb' hb.lt).cell 0)⟩
theorem small_get {docs : List Pap} {a : Nat} {d : Pap} {name v : ByteArray} (hs : SmallD docs) (hd : docs[a]? = some d) (hv : getF d.fields name = some v) : v.size ≤ 4000000 := by
  obtain ⟨f, hf, rfl⟩ := getF_mem hv
  exact hs d (List.mem_of_getElem? hd) f hf
theorem wrong_sum {w0 : World} {ct cf bm xb : Nat} {C : Array Value} {c : Crd} (hC : CrdAt C c) {A : Option Addr} {nn cc : Nat} {docs : List Pap} {day : Int} {a : Nat} {d : Pap} (hd : docs[a]? = some d) (hR : Room w0 A nn docs) {W : World} {v : Value} {l : List Flt} (hx : ExS w0 ct cf bm xb (exX C A nn cc day ct cf) W v l) {pb : Nat} (hp : Blk W pb 91 #[.pointer (some ⟨xb, 0, none⟩)]) (name : ByteArray) :
    WrongC 161 pb W d name (sumW c) := fun w' v hb' hv =>
  ⟨by have := sumW_in c v; omega, sum_any C c hC A nn cc day ct cf xb pb v (small_get hR.small hd hv) w' (hx.exam.below hb' hx.exam.lt) (hp.below hb' hp.lt) (hR.env.below (hx.below.trans (hb'.mono hx.below.size)))⟩
theorem wrong_issued {w0 : World} {ct cf bm xb : Nat} {C : Array Value} {c : Crd} (hC : CrdAt C c) (hO : c.okC) {A : Option Addr} {nn cc : Nat} {docs : List Pap} {day : Int} (hday : -9223372036854775808 ≤ day ∧ day ≤ 9223372036854775807) {a : Nat} {d : Pap} (hd : docs[a]? = some d) (hR : Room w0 A nn docs) {W : World} {v : Value} {l : List Flt} (hx : ExS w0 ct cf bm xb (exX C A nn cc day ct cf) W v l) {pb : Nat} (hp : Blk W pb 91 #[.pointer (some ⟨xb, 0, none⟩)]) (name : ByteArray) :
    WrongC 164 pb W d name (issuedW c day) := fun w' v hb' hv =>
  ⟨by have := issuedW_in c day v; omega, issued_any C c hC hO A nn cc day hday ct cf xb pb v (small_get hR.small hd hv) w' (hx.exam.below hb' hx.exam.lt) (hp.below hb' hp.lt) (hR.env.below (hx.below.trans (hb'.mono hx.below.size)))⟩

set_option maxRecDepth 100000 in
set_option maxHeartbeats 3200000 in
theorem lading_any (w0 : World) (ct cf bm xb : Nat) (C : Array Value) (c : Crd) (hC : Hid (CrdAt C c)) (hO : Hid c.okC) (A : Option Addr) (nn cc : Nat) (docs : List Pap) (day : Int) (hday : Hid (-9223372036854775808 ≤ day ∧ day ≤ 9223372036854775807)) (a : Nat) (d : Pap) (hd : Hid (docs[a]? = some d)) (hR : Hid (Room w0 A nn docs))
    (w : World) (v : Value) (l : List Flt) (hl : l.length < 100000) (hx : Hid (ExS w0 ct cf bm xb (exX C A nn cc day ct cf) w v l)) :
    Calls Tryz.prog 107 #[.pointer (some ⟨xb, 0, none⟩), .int .i64 a] w (Ted w0 ct cf bm xb (exX C A nn cc day ct cf) (addAll l (ladingF c day a d)) w) := by
  have hbA := Lib.hid ((Below.refl _ w).alloc (Nat.le_refl _) (.cells #[.pointer (some ⟨xb, 0, none⟩)] 91))
  have hpb := Lib.hid (Blk.new w 91 #[.pointer (some ⟨xb, 0, none⟩)])
  have hxA := Lib.hid (hx.out.belows hbA.out)
  have hCs := Lib.hid hC.out.size
  go_enter Tryz.func107, Tryz.ntmps107
  go_wp2_with fail
  refine (ask_any w0 ct cf bm xb C hCs A nn cc docs day a d hd hR nIssued (by unfold Hid; decide) 164 (Lib.hid (.inr (.inr rfl))) w.heap.size (issuedW c day) _ (wrong_issued hC.out hO.out hday.out hd.out hR.out hxA.out hpb.out nIssued) v l hl hxA).mono ?_
  rintro e w1 ⟨rfl, v1, h1, h2⟩
  have h1' := Lib.hid h1
  have h2' := Lib.hid h2
  clear h1 h2
  go_wp2_with fail
  go_end0
  exact ⟨rfl, v1, h1'.out, (Tld.of_below hbA.out).trans h2'.out⟩

set_option maxRecDepth 100000 in
set_option maxHeartbeats 3200000 in
theorem invoice_any (w0 : World) (ct cf bm xb : Nat) (C : Array Value) (c : Crd) (hC : Hid (CrdAt C c)) (A : Option Addr) (nn cc : Nat) (docs : List Pap) (day : Int) (a : Nat) (d : Pap) (hd : Hid (docs[a]? = some d)) (hR : Hid (Room w0 A nn docs))
    (w : World) (v : Value) (l : List Flt) (hl : l.length + 4 ≤ 100000) (hx : Hid (ExS w0 ct cf bm xb (exX C A nn cc day ct cf) w v l)) :
    Calls Tryz.prog 106 #[.pointer (some ⟨xb, 0, none⟩), .int .i64 a] w (Ted w0 ct cf bm xb (exX C A nn cc day ct cf) (addAll l (invoiceF c a d)) w) := by
  have hbA := Lib.hid ((Below.refl _ w).alloc (Nat.le_refl _) (.cells #[.pointer (some ⟨xb, 0, none⟩)] 91))
  have hpb0 := Lib.hid (Blk.new w 91 #[.pointer (some ⟨xb, 0, none⟩)])
  have hx0 := Lib.hid (hx.out.belows hbA.out)
  have hB0 : Hid (Tld w0.heap.size cf bm w (w.alloc (.cells #[.pointer (some ⟨xb, 0, none⟩)] 91))) := Tld.of_below hbA.out
  have hCs := Lib.hid hC.out.size
  have hasks := Lib.hid (fun nm (hn : Hid (nm.size ≤ 100)) g (hg : Hid (g = 159 ∨ g = 161 ∨ g = 164)) cb wr W => ask_any w0 ct cf bm xb C hCs A nn cc docs day a d hd hR nm hn g hg cb wr W)
  obtain ⟨g0, hg0⟩ : ∃ g0, Hid (w.heap.size = g0) := ⟨_, rfl⟩
  rw [hg0.out] at hpb0
  have hl0 := Lib.hid hl
  clear hl
  go_enter Tryz.func106, Tryz.ntmps106
  go_upto_region 2 with fail
  rw [hg0.out]

  obtain ⟨W0, hW0⟩ : ∃ W, Hid ((w.alloc (.cells #[.pointer (some ⟨xb, 0, none⟩)] 91)) = W) := ⟨_, rfl⟩
  rw [hW0.out] at hpb0 hx0 hB0 ⊢
  go_cut [14] (fun _ wx => ∃ v' : Value, Hid (ExS w0 ct cf bm xb (exX C A nn cc day ct cf) wx v' (addAll l (askF a d nSeller (isW c.beneficiary)))) ∧ Hid (Tld w0.heap.size cf bm w wx) ∧ Hid (Blk wx g0 91 #[.pointer (some ⟨xb, 0, none⟩)]))
  case first =>
    have cp : W0.cell? ⟨g0, 0, none⟩ = some (.pointer (some ⟨xb, 0, none⟩)) := hpb0.out.cell 0
    have cx : W0.cell? ⟨xb, 2, none⟩ = some (.string c.beneficiary) := (hx0.out.exam.cell 2).trans ((exX_cell hCs.out (by omega)).trans hC.out.beneficiary)
    have z1 := hpb0.out.lt
    have z2 := hx0.out.exam.lt
    have hc : ∀ W cb, W = W0.drew.alloc (.cells #[.string c.beneficiary] 9) → cb = W0.heap.size → Calls Tryz.prog 160 #[.pointer (some ⟨xb, 0, none⟩), .int .i64 a, .string nSeller, .func (Fn.func 159) #[] #[.pointer (some ⟨cb, 0, none⟩)]] W (Ted w0 ct cf bm xb (exX C A nn cc day ct cf) (addAll l (askF a d nSeller (isW c.beneficiary))) W0) := fun W cb e e2 => by
      subst e e2
      have hbW : Below W0.heap.size W0 (W0.drew.alloc (.cells #[.string c.beneficiary] 9)) := (Below.refl _ W0).drew.alloc (Nat.le_refl _) _
      refine (hasks.out nSeller (by unfold Hid; decide) 159 (Lib.hid (.inl rfl)) W0.heap.size (isW c.beneficiary) _ (wrong_is (Blk.new W0.drew 9 #[.string c.beneficiary]) d nSeller) v l (by have := hl0.out; omega) (hx0.out.belows hbW)).mono ?_
      rintro e w' ⟨rfl, v', h1, h2⟩
      exact ⟨rfl, v', h1, (Tld.of_below hbW).trans h2⟩
    have hc' := Lib.hid hc
    clear hc
    unfold nSeller at hc'
    go_region_with (first | (go_at_call 158; refine (mkIs_any _ _).mono ?_; rintro e w1 ⟨rfl, rfl⟩) | (go_at_call 160; (with_reducible refine (hc'.out _ _ ?_ ?_).mono ?_); rfl; rfl; rintro e w3 ⟨rfl, v', h1, h2⟩; have h1' := Lib.hid h1; have h2' := Lib.hid h2; clear h1 h2))
    all_goals
      go_wp2_with fail
      go_meet
      case rel => exact ⟨v', h1'.out, hB0.out.trans h2'.out, hx0.out.keep h2'.out hpb0.out (by decide) (by decide)⟩
  case rest =>
    obtain ⟨v1, hx1, hB1, hpb1⟩ := hcut
    obtain ⟨V1, hV1⟩ : ∃ V, Hid (V = wc) := ⟨_, rfl⟩
    rw [← hV1.out] at hx1 hB1 hpb1 ⊢
    clear hV1
    go_upto_region 3 with fail
    obtain ⟨W1, hW1⟩ : ∃ W, Hid (V1 = W) := ⟨_, rfl⟩
    rw [hW1.out] at hpb1 hx1 hB1 ⊢
    go_cut [24] (fun _ wx => ∃ v' : Value, Hid (ExS w0 ct cf bm xb (exX C A nn cc day ct cf) wx v' (addAll (addAll l (askF a d nSeller (isW c.beneficiary))) (askF a d nBuyer (isW c.applicant)))) ∧ Hid (Tld w0.heap.size cf bm w wx) ∧ Hid (Blk wx g0 91 #[.pointer (some ⟨xb, 0, none⟩)]))
    case first =>
      have cp : W1.cell? ⟨g0, 0, none⟩ = some (.pointer (some ⟨xb, 0, none⟩)) := hpb1.out.cell 0
      have cx : W1.cell? ⟨xb, 1, none⟩ = some (.string c.applicant) := (hx1.out.exam.cell 1).trans ((exX_cell hCs.out (by omega)).trans hC.out.applicant)
      have z1 := hpb1.out.lt
      have z2 := hx1.out.exam.lt
      have hc : ∀ W cb, W = W1.drew.alloc (.cells #[.string c.applicant] 9) → cb = W1.heap.size → Calls Tryz.prog 160 #[.pointer (some ⟨xb, 0, none⟩), .int .i64 a, .string nBuyer, .func (Fn.func 159) #[] #[.pointer (some ⟨cb, 0, none⟩)]] W (Ted w0 ct cf bm xb (exX C A nn cc day ct cf) (addAll (addAll l (askF a d nSeller (isW c.beneficiary))) (askF a d nBuyer (isW c.applicant))) W1) := fun W cb e e2 => by
        subst e e2
        have hbW : Below W1.heap.size W1 (W1.drew.alloc (.cells #[.string c.applicant] 9)) := (Below.refl _ W1).drew.alloc (Nat.le_refl _) _
        refine (hasks.out nBuyer (by unfold Hid; decide) 159 (Lib.hid (.inl rfl)) W1.heap.size (isW c.applicant) _ (wrong_is (Blk.new W1.drew 9 #[.string c.applicant]) d nBuyer) v1 (addAll l (askF a d nSeller (isW c.beneficiary))) (by have := addAll_len (askF a d nSeller (isW c.beneficiary)) l; have := askF_le a d nSeller (isW c.beneficiary); have := hl0.out; omega) (hx1.out.belows hbW)).mono ?_
        rintro e w' ⟨rfl, v', h1, h2⟩
        exact ⟨rfl, v', h1, (Tld.of_below hbW).trans h2⟩
      have hc' := Lib.hid hc
      clear hc
      unfold nBuyer at hc'
      go_region_with (first | (go_at_call 158; refine (mkIs_any _ _).mono ?_; rintro e w1 ⟨rfl, rfl⟩) | (go_at_call 160; (with_reducible refine (hc'.out _ _ ?_ ?_).mono ?_); rfl; rfl; rintro e w3 ⟨rfl, v', h1, h2⟩; have h1' := Lib.hid h1; have h2' := Lib.hid h2; clear h1 h2))
      all_goals
        go_wp2_with fail
        go_meet
        case rel => exact ⟨v', h1'.out, hB1.out.trans h2'.out, hx1.out.keep h2'.out hpb1.out (by decide) (by decide)⟩
    case rest =>
      obtain ⟨v2, hx2, hB2, hpb2⟩ := hcut
      obtain ⟨V2, hV2⟩ : ∃ V, Hid (V = wc) := ⟨_, rfl⟩
      rw [← hV2.out] at hx2 hB2 hpb2 ⊢
      clear hV2
      go_upto_region 4 with fail
      obtain ⟨W2, hW2⟩ : ∃ W, Hid (V2 = W) := ⟨_, rfl⟩
      rw [hW2.out] at hpb2 hx2 hB2 ⊢
      go_cut [35] (fun _ wx => ∃ v' : Value, Hid (ExS w0 ct cf bm xb (exX C A nn cc day ct cf) wx v' (addAll (addAll (addAll l (askF a d nSeller (isW c.beneficiary))) (askF a d nBuyer (isW c.applicant))) (askF a d nCurrency (isW c.currency)))) ∧ Hid (Tld w0.heap.size cf bm w wx) ∧ Hid (Blk wx g0 91 #[.pointer (some ⟨xb, 0, none⟩)]))
      case first =>
        have cp : W2.cell? ⟨g0, 0, none⟩ = some (.pointer (some ⟨xb, 0, none⟩)) := hpb2.out.cell 0
        have cx : W2.cell? ⟨xb, 7, none⟩ = some (.string c.currency) := (hx2.out.exam.cell 7).trans ((exX_cell hCs.out (by omega)).trans hC.out.currency)
        have z1 := hpb2.out.lt
        have z2 := hx2.out.exam.lt
        have hc : ∀ W cb, W = W2.drew.alloc (.cells #[.string c.currency] 9) → cb = W2.heap.size → Calls Tryz.prog 160 #[.pointer (some ⟨xb, 0, none⟩), .int .i64 a, .string nCurrency, .func (Fn.func 159) #[] #[.pointer (some ⟨cb, 0, none⟩)]] W (Ted w0 ct cf bm xb (exX C A nn cc day ct cf) (addAll (addAll (addAll l (askF a d nSeller (isW c.beneficiary))) (askF a d nBuyer (isW c.applicant))) (askF a d nCurrency (isW c.currency))) W2) := fun W cb e e2 => by
          subst e e2
          have hbW : Below W2.heap.size W2 (W2.drew.alloc (.cells #[.string c.currency] 9)) := (Below.refl _ W2).drew.alloc (Nat.le_refl _) _
          refine (hasks.out nCurrency (by unfold Hid; decide) 159 (Lib.hid (.inl rfl)) W2.heap.size (isW c.currency) _ (wrong_is (Blk.new W2.drew 9 #[.string c.currency]) d nCurrency) v2 (addAll (addAll l (askF a d nSeller (isW c.beneficiary))) (askF a d nBuyer (isW c.applicant))) (by have := addAll_len (askF a d nSeller (isW c.beneficiary)) l; have := askF_le a d nSeller (isW c.beneficiary); have := addAll_len (askF a d nBuyer (isW c.applicant)) (addAll l (askF a d nSeller (isW c.beneficiary))); have := askF_le a d nBuyer (isW c.applicant); have := hl0.out; omega) (hx2.out.belows hbW)).mono ?_
          rintro e w' ⟨rfl, v', h1, h2⟩
          exact ⟨rfl, v', h1, (Tld.of_below hbW).trans h2⟩
        have hc' := Lib.hid hc
        clear hc
        unfold nCurrency at hc'
        go_region_with (first | (go_at_call 158; refine (mkIs_any _ _).mono ?_; rintro e w1 ⟨rfl, rfl⟩) | (go_at_call 160; (with_reducible refine (hc'.out _ _ ?_ ?_).mono ?_); rfl; rfl; rintro e w3 ⟨rfl, v', h1, h2⟩; have h1' := Lib.hid h1; have h2' := Lib.hid h2; clear h1 h2))
        all_goals
          go_wp2_with fail
          go_meet
          case rel => exact ⟨v', h1'.out, hB2.out.trans h2'.out, hx2.out.keep h2'.out hpb2.out (by decide) (by decide)⟩
      case rest =>
        obtain ⟨v3, hx3, hB3, hpb3⟩ := hcut
        obtain ⟨V3, hV3⟩ : ∃ V, Hid (V = wc) := ⟨_, rfl⟩
        rw [← hV3.out] at hx3 hB3 hpb3 ⊢
        clear hV3
        have cp : V3.cell? ⟨g0, 0, none⟩ = some (.pointer (some ⟨xb, 0, none⟩)) := hpb3.out.cell 0
        go_wp2_with fail
        refine (hasks.out nSum (by unfold Hid; decide) 161 (Lib.hid (.inr (.inl rfl))) g0 (sumW c) _ (wrong_sum hC.out hd.out hR.out hx3.out hpb3.out nSum) v3 _ (by have := addAll_len (askF a d nSeller (isW c.beneficiary)) l; have := askF_le a d nSeller (isW c.beneficiary); have := addAll_len (askF a d nBuyer (isW c.applicant)) (addAll l (askF a d nSeller (isW c.beneficiary))); have := askF_le a d nBuyer (isW c.applicant); have := addAll_len (askF a d nCurrency (isW c.currency)) (addAll (addAll l (askF a d nSeller (isW c.beneficiary))) (askF a d nBuyer (isW c.applicant))); have := askF_le a d nCurrency (isW c.currency); have := hl0.out; omega) hx3).mono ?_
        rintro e w1 ⟨rfl, v4, h1, h2⟩
        have h1' := Lib.hid h1
        have h2' := Lib.hid h2
        clear h1 h2
        go_wp2_with fail
        go_end0
        refine ⟨rfl, v4, ?_, hB3.out.trans h2'.out⟩
        unfold invoiceF
        rw [addAll_app, addAll_app, addAll_app]
        exact h1'.out
end Go.Proofs.YtdjmckjbibfecaaGreatDoor

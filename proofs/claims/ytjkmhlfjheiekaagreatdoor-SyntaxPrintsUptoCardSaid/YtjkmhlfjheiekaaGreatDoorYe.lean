/- May a credit be: the walk of the document's fits. -/
import Derived.Test.YtjkmhlfjheiekaaGreatDoorYd
import Derived.Test.YtjkmhlfjheiekaaGreatDoorVc
namespace Go.Proofs.YtjkmhlfjheiekaaGreatDoor
open Go Go.RowKit Go.BigFrame Go.Maps

def okNames (c : Crd) : Bool := nameM c.number && nameM c.applicant && nameM c.beneficiary && nameM c.issuer && (c.confirmer == [] || nameM c.confirmer) && nameM c.orig && nameM c.dest
def okSum (c : Crd) : Bool := decide (c.currency.length = 3) && decide (1 ≤ c.amount) && decide (c.amount ≤ 1099511627776) && c.currency.all largeB
def okBounds (c : Crd) (n : Nat) : Bool := decide (0 ≤ c.above) && decide (c.above ≤ 1000) && decide (0 ≤ c.below) && decide (c.below ≤ 1000) && decide (0 ≤ c.latest) && decide (c.latest ≤ 1048576) && decide (0 ≤ c.expiry) && decide (c.expiry ≤ 1048576) && decide (0 ≤ c.within) && decide (c.within ≤ 1048576) && decide (0 ≤ c.tenor) && decide (c.tenor ≤ 1048576) && decide (n ≤ 64)
theorem creditM_parts (c : Crd) (l : List Nd) : creditM c l = (okNames c && okSum c && okBounds c l.length && l.all needM) := by
  rw [Bool.eq_iff_iff]
  simp only [creditM, okNames, okSum, okBounds, namesM, daysM, codeM, List.all_cons, List.all_nil, Bool.and_eq_true, and_true]
  constructor
  · rintro ⟨⟨⟨⟨⟨⟨a1, a2, a3, a4, a5, a6⟩, a7, a8, a9⟩, a10, a11⟩, ⟨a12, a13⟩, a14, a15⟩, ⟨a16, a17⟩, ⟨a18, a19⟩, ⟨a20, a21⟩, a22, a23⟩, a24, a25⟩
    exact ⟨⟨⟨⟨⟨⟨⟨⟨⟨a1, a2⟩, a3⟩, a4⟩, a7⟩, a5⟩, a6⟩, ⟨⟨a8, a10⟩, a11⟩, a9⟩, ⟨⟨⟨⟨⟨⟨⟨⟨⟨⟨⟨⟨a12, a13⟩, a14⟩, a15⟩, a16⟩, a17⟩, a18⟩, a19⟩, a20⟩, a21⟩, a22⟩, a23⟩, a24⟩⟩, a25⟩
  · rintro ⟨⟨⟨⟨⟨⟨⟨⟨⟨a1, a2⟩, a3⟩, a4⟩, a7⟩, a5⟩, a6⟩, ⟨⟨a8, a10⟩, a11⟩, a9⟩, ⟨⟨⟨⟨⟨⟨⟨⟨⟨⟨⟨⟨a12, a13⟩, a14⟩, a15⟩, a16⟩, a17⟩, a18⟩, a19⟩, a20⟩, a21⟩, a22⟩, a23⟩, a24⟩⟩, a25⟩
    exact ⟨⟨⟨⟨⟨⟨a1, a2, a3, a4, a5, a6⟩, a7, a8, a9⟩, a10, a11⟩, ⟨a12, a13⟩, a14, a15⟩, ⟨a16, a17⟩, ⟨a18, a19⟩, ⟨a20, a21⟩, a22, a23⟩, a24, a25⟩
set_option maxRecDepth 100000 in
theorem large_nat : ∀ c : UInt8, largeB c = (!decide ((c.toNat : Int) < 65) && !decide (90 < (c.toNat : Int))) :=
  byte_all (P := fun c => largeB c = (!decide ((c.toNat : Int) < 65) && !decide (90 < (c.toNat : Int)))) (by decide)
theorem rname_tx (s : Txt) (w : World) (hs : s.length ≤ 140737488351232) (hp : 0 < w.heap.size) : Calls Tryz.prog 82 #[.string ⟨s.toArray⟩] w fun e w' => e = .returned (.bool (nameM s)) ∧ Below w.heap.size w w' :=
  rnameL_any ⟨s.toArray⟩ w (by unfold maxLen; simp [ByteArray.size]; omega) hp
set_option maxRecDepth 100000 in
set_option maxHeartbeats 6400000 in
theorem fits_any (C : Array Value) (c : Crd) (A : Option Addr) (n cc : Nat) (l : List Nd) (w : World) (ok : Nat → Prop) (hC : Hid (C = c.cells (.slice A n cc))) (hs : Hid c.short) (hn : n ≤ maxLen) (hl : Hid (l.length = n)) (hN : Hid (NdsAt w ok A l)) (hz : Hid (∀ x ∈ l, szR (strip x.rule) ≤ mostZ ∧ depthR (strip x.rule) ≤ 1000000)) :
    Calls Tryz.prog 57 #[.agg C] w fun e w' => e = .returned (.bool (creditM c l)) ∧ Below w.heap.size w w' := by
  unfold maxLen at hn
  have hk : Hid (∀ i, i < 18 → C[i]? = (c.cells (.slice A n cc))[i]?) := fun i _ => by rw [hC.out]
  have hb0 : Hid (Below w.heap.size w (w.alloc (.cells C 41))) := (Below.refl _ w).alloc (Nat.le_refl _) _
  have hx0 := Lib.hid (Blk.new w 41 C)
  have hs8 := hs.out
  have p1 : Hid (∀ x ∈ [c.number, c.applicant, c.beneficiary, c.issuer, c.confirmer, c.orig, c.dest], ∀ W, 0 < W.heap.size → Calls Tryz.prog 82 #[.string ⟨x.toArray⟩] W fun e w' => e = .returned (.bool (nameM x)) ∧ Below W.heap.size W w') := fun x hx W hW => rname_tx x W (hs8 x (by simp at hx ⊢; rcases hx with h | h | h | h | h | h | h <;> simp [h])) hW
  have hres : Hid (creditM c l = (okNames c && okSum c && okBounds c n && l.all needM)) := by unfold Hid; rw [creditM_parts, hl.out]
  obtain ⟨R, hR⟩ : ∃ b, Hid (creditM c l = b) := ⟨_, Lib.hid rfl⟩
  rw [hR.out] at hres ⊢
  have hc7 : Hid (c.currency.length ≤ 140737488351232) := hs8 c.currency (by simp)
  clear hR hC hs hs8
  obtain ⟨wa, hwa⟩ : ∃ y, Hid (w.alloc (.cells C 41) = y) := ⟨_, Lib.hid rfl⟩
  go_enter Tryz.func57, Tryz.ntmps57
  go_upto_region 1 with fail
  rw [hwa.out] at hb0 hx0 ⊢
  clear hwa
  go_cut [50] (fun v wx => ∃ b, v = .bool (!b) ∧ Hid (okNames c = b) ∧ Hid (Below w.heap.size w wx) ∧ Hid (Blk wx w.heap.size 41 C))
  case first =>
    have etc := tx_list c.confirmer
    have m0 : wa.cell? ⟨w.heap.size, 0, none⟩ = some (.string ⟨c.number.toArray⟩) := (hx0.out.cell 0).trans (hk.out 0 (by decide))
    have mlt := hx0.out.lt
    obtain ⟨b0, hnb0⟩ : ∃ b, Hid (nameM c.number = b) := ⟨_, Lib.hid rfl⟩
    have hcl0 := Lib.hid (p1.out c.number (by simp) wa (by omega))
    rw [hnb0.out] at hcl0
    go_wp2_with fail
    refine hcl0.out.mono ?_
    rintro e w1 ⟨rfl, hbb⟩
    have hB1 := Lib.hid (hb0.out.trans (hbb.mono hb0.out.size))
    have hX1 := Lib.hid (hx0.out.below hbb hx0.out.lt)
    clear hbb hb0 hx0 hcl0 m0 mlt
    cases b0 with
    | false =>
      go_wp2_with fail
      go_meet
      case rel => exact ⟨false, rfl, by unfold Hid okNames; rw [hnb0.out]; simp, hB1, hX1⟩
    | true =>
      have m1 : w1.cell? ⟨w.heap.size, 1, none⟩ = some (.string ⟨c.applicant.toArray⟩) := (hX1.out.cell 1).trans (hk.out 1 (by decide))
      have mlt := hX1.out.lt
      obtain ⟨b1, hnb1⟩ : ∃ b, Hid (nameM c.applicant = b) := ⟨_, Lib.hid rfl⟩
      have hcl1 := Lib.hid (p1.out c.applicant (by simp) w1 (by omega))
      rw [hnb1.out] at hcl1
      go_wp2_with fail
      refine hcl1.out.mono ?_
      rintro e w2 ⟨rfl, hbb⟩
      have hB2 := Lib.hid (hB1.out.trans (hbb.mono hB1.out.size))
      have hX2 := Lib.hid (hX1.out.below hbb hX1.out.lt)
      clear hbb hB1 hX1 hcl1 m1 mlt
      cases b1 with
      | false =>
        go_wp2_with fail
        go_meet
        case rel => exact ⟨false, rfl, by unfold Hid okNames; rw [hnb1.out]; simp, hB2, hX2⟩
      | true =>
        have m2 : w2.cell? ⟨w.heap.size, 2, none⟩ = some (.string ⟨c.beneficiary.toArray⟩) := (hX2.out.cell 2).trans (hk.out 2 (by decide))
        have mlt := hX2.out.lt
        obtain ⟨b2, hnb2⟩ : ∃ b, Hid (nameM c.beneficiary = b) := ⟨_, Lib.hid rfl⟩
        have hcl2 := Lib.hid (p1.out c.beneficiary (by simp) w2 (by omega))
        rw [hnb2.out] at hcl2
        go_wp2_with fail
        refine hcl2.out.mono ?_
        rintro e w3 ⟨rfl, hbb⟩
        have hB3 := Lib.hid (hB2.out.trans (hbb.mono hB2.out.size))
        have hX3 := Lib.hid (hX2.out.below hbb hX2.out.lt)
        clear hbb hB2 hX2 hcl2 m2 mlt
        cases b2 with
        | false =>
          go_wp2_with fail
          go_meet
          case rel => exact ⟨false, rfl, by unfold Hid okNames; rw [hnb2.out]; simp, hB3, hX3⟩
        | true =>
          have m3 : w3.cell? ⟨w.heap.size, 3, none⟩ = some (.string ⟨c.issuer.toArray⟩) := (hX3.out.cell 3).trans (hk.out 3 (by decide))
          have mlt := hX3.out.lt
          obtain ⟨b3, hnb3⟩ : ∃ b, Hid (nameM c.issuer = b) := ⟨_, Lib.hid rfl⟩
          have hcl3 := Lib.hid (p1.out c.issuer (by simp) w3 (by omega))
          rw [hnb3.out] at hcl3
          go_wp2_with fail
          refine hcl3.out.mono ?_
          rintro e w4 ⟨rfl, hbb⟩
          have hB4 := Lib.hid (hB3.out.trans (hbb.mono hB3.out.size))
          have hX4 := Lib.hid (hX3.out.below hbb hX3.out.lt)
          clear hbb hB3 hX3 hcl3 m3 mlt
          cases b3 with
          | false =>
            go_wp2_with fail
            go_meet
            case rel => exact ⟨false, rfl, by unfold Hid okNames; rw [hnb3.out]; simp, hB4, hX4⟩
          | true =>
            have m4 : w4.cell? ⟨w.heap.size, 4, none⟩ = some (.string ⟨c.confirmer.toArray⟩) := (hX4.out.cell 4).trans (hk.out 4 (by decide))
            have mlt := hX4.out.lt
            by_cases hc0 : c.confirmer = []
            · have bc : (c.confirmer == []) = true := by simp [hc0]
              have m5 : w4.cell? ⟨w.heap.size, 5, none⟩ = some (.string ⟨c.orig.toArray⟩) := (hX4.out.cell 5).trans (hk.out 5 (by decide))
              have mlt := hX4.out.lt
              obtain ⟨b5, hnb5⟩ : ∃ b, Hid (nameM c.orig = b) := ⟨_, Lib.hid rfl⟩
              have hcl5 := Lib.hid (p1.out c.orig (by simp) w4 (by omega))
              rw [hnb5.out] at hcl5
              go_wp2_with fail
              refine hcl5.out.mono ?_
              rintro e w5 ⟨rfl, hbb⟩
              have hB5 := Lib.hid (hB4.out.trans (hbb.mono hB4.out.size))
              have hX5 := Lib.hid (hX4.out.below hbb hX4.out.lt)
              clear hbb hB4 hX4 hcl5 m5 mlt
              cases b5 with
              | false =>
                go_wp2_with fail
                go_meet
                case rel => exact ⟨false, rfl, by unfold Hid okNames; rw [hnb5.out]; simp, hB5, hX5⟩
              | true =>
                have m6 : w5.cell? ⟨w.heap.size, 6, none⟩ = some (.string ⟨c.dest.toArray⟩) := (hX5.out.cell 6).trans (hk.out 6 (by decide))
                have mlt := hX5.out.lt
                obtain ⟨b6, hnb6⟩ : ∃ b, Hid (nameM c.dest = b) := ⟨_, Lib.hid rfl⟩
                have hcl6 := Lib.hid (p1.out c.dest (by simp) w5 (by omega))
                rw [hnb6.out] at hcl6
                go_wp2_with fail
                refine hcl6.out.mono ?_
                rintro e w6 ⟨rfl, hbb⟩
                have hB6 := Lib.hid (hB5.out.trans (hbb.mono hB5.out.size))
                have hX6 := Lib.hid (hX5.out.below hbb hX5.out.lt)
                clear hbb hB5 hX5 hcl6 m6 mlt
                cases b6 with
                | false =>
                  go_wp2_with fail
                  go_meet
                  case rel => exact ⟨false, rfl, by unfold Hid okNames; rw [hnb6.out]; simp, hB6, hX6⟩
                | true =>
                  go_wp2_with fail
                  go_meet
                  case rel => exact ⟨true, rfl, by unfold Hid okNames; rw [hnb0.out, hnb1.out, hnb2.out, hnb3.out, bc, hnb5.out, hnb6.out]; rfl, hB6, hX6⟩
            · have bc : (c.confirmer == []) = false := by simp [hc0]
              obtain ⟨b4, hnb4⟩ : ∃ b, Hid (nameM c.confirmer = b) := ⟨_, Lib.hid rfl⟩
              have hcl4 := Lib.hid (p1.out c.confirmer (by simp) w4 (by omega))
              rw [hnb4.out] at hcl4
              go_wp2_with fail
              refine hcl4.out.mono ?_
              rintro e w5 ⟨rfl, hbb⟩
              have hB5 := Lib.hid (hB4.out.trans (hbb.mono hB4.out.size))
              have hX5 := Lib.hid (hX4.out.below hbb hX4.out.lt)
              clear hbb hB4 hX4 hcl4 m4 mlt
              cases b4 with
              | false =>
                go_wp2_with fail
                go_meet
                case rel => exact ⟨false, rfl, by unfold Hid okNames; rw [hnb4.out]; simp [bc], hB5, hX5⟩
              | true =>
                have m5 : w5.cell? ⟨w.heap.size, 5, none⟩ = some (.string ⟨c.orig.toArray⟩) := (hX5.out.cell 5).trans (hk.out 5 (by decide))
                have mlt := hX5.out.lt
                obtain ⟨b5, hnb5⟩ : ∃ b, Hid (nameM c.orig = b) := ⟨_, Lib.hid rfl⟩
                have hcl5 := Lib.hid (p1.out c.orig (by simp) w5 (by omega))
                rw [hnb5.out] at hcl5
                go_wp2_with fail
                refine hcl5.out.mono ?_
                rintro e w6 ⟨rfl, hbb⟩
                have hB6 := Lib.hid (hB5.out.trans (hbb.mono hB5.out.size))
                have hX6 := Lib.hid (hX5.out.below hbb hX5.out.lt)
                clear hbb hB5 hX5 hcl5 m5 mlt
                cases b5 with
                | false =>
                  go_wp2_with fail
                  go_meet
                  case rel => exact ⟨false, rfl, by unfold Hid okNames; rw [hnb5.out]; simp, hB6, hX6⟩
                | true =>
                  have m6 : w6.cell? ⟨w.heap.size, 6, none⟩ = some (.string ⟨c.dest.toArray⟩) := (hX6.out.cell 6).trans (hk.out 6 (by decide))
                  have mlt := hX6.out.lt
                  obtain ⟨b6, hnb6⟩ : ∃ b, Hid (nameM c.dest = b) := ⟨_, Lib.hid rfl⟩
                  have hcl6 := Lib.hid (p1.out c.dest (by simp) w6 (by omega))
                  rw [hnb6.out] at hcl6
                  go_wp2_with fail
                  refine hcl6.out.mono ?_
                  rintro e w7 ⟨rfl, hbb⟩
                  have hB7 := Lib.hid (hB6.out.trans (hbb.mono hB6.out.size))
                  have hX7 := Lib.hid (hX6.out.below hbb hX6.out.lt)
                  clear hbb hB6 hX6 hcl6 m6 mlt
                  cases b6 with
                  | false =>
                    go_wp2_with fail
                    go_meet
                    case rel => exact ⟨false, rfl, by unfold Hid okNames; rw [hnb6.out]; simp, hB7, hX7⟩
                  | true =>
                    go_wp2_with fail
                    go_meet
                    case rel => exact ⟨true, rfl, by unfold Hid okNames; rw [hnb0.out, hnb1.out, hnb2.out, hnb3.out, hnb4.out, bc, hnb5.out, hnb6.out]; rfl, hB7, hX7⟩
  case rest =>
    obtain ⟨b, rfl, hnm, hB, hx⟩ := hcut
    rw [hnm.out] at hres
    clear hb0 hx0 p1 hnm
    cases b with
    | false =>
      go_wp2_with fail
      go_ret
      exact ⟨by rw [hres.out]; rfl, hB.out⟩
    | true =>
    have hS : Hid (okSum c = (decide (c.currency.length = 3) && decide (1 ≤ c.amount) && decide (c.amount ≤ 1099511627776) && c.currency.all largeB)) := rfl
    have hW : Hid (okBounds c n = (decide (0 ≤ c.above) && decide (c.above ≤ 1000) && decide (0 ≤ c.below) && decide (c.below ≤ 1000) && decide (0 ≤ c.latest) && decide (c.latest ≤ 1048576) && decide (0 ≤ c.expiry) && decide (c.expiry ≤ 1048576) && decide (0 ≤ c.within) && decide (c.within ≤ 1048576) && decide (0 ≤ c.tenor) && decide (c.tenor ≤ 1048576) && decide (n ≤ 64))) := by unfold Hid okBounds; ac_rfl
    rw [hS.out, hW.out] at hres
    clear hS hW
    obtain ⟨s, hsx⟩ : ∃ s, Hid (c.currency = s) := ⟨_, Lib.hid rfl⟩
    have hcu : wc.cell? ⟨w.heap.size, 7, none⟩ = some (.string ⟨s.toArray⟩) := by rw [← hsx.out]; exact (hx.out.cell 7).trans (hk.out 7 (by decide))
    rw [hsx.out] at hres hc7
    obtain ⟨z, hzx⟩ : ∃ z, Hid ((⟨s.toArray⟩ : ByteArray) = z) := ⟨_, Lib.hid rfl⟩
    have hzs : z.size = s.length := by rw [← hzx.out]; simp [ByteArray.size]
    have hzl : Hid (z.data.toList = s) := by unfold Hid; rw [← hzx.out]
    rw [hzx.out] at hcu
    rw [← hzl.out] at hres
    have hlz : z.data.toList.length = z.size := by simp
    rw [hlz] at hres
    have m8 : wc.cell? ⟨w.heap.size, 8, none⟩ = some (.int .i64 c.amount) := (hx.out.cell 8).trans (hk.out 8 (by decide))
    have mlt := hx.out.lt
    by_cases h3 : z.size = 3
    · by_cases ha1 : 1 ≤ c.amount
      · by_cases ha2 : c.amount ≤ 1099511627776
        · have b3 : ((z.size : Int) != 3) = false := by simp [h3]
          have b4 : decide (c.amount < 1) = false := by simp; omega
          have b5 : decide (1099511627776 < c.amount) = false := by simp; omega
          have d1 : decide (z.size = 3) = true := by simp [h3]
          have d2 : decide (1 ≤ c.amount) = true := by simpa using ha1
          have d3 : decide (c.amount ≤ 1099511627776) = true := by simpa using ha2
          rw [d1, d2, d3] at hres
          have n4 : ¬ c.amount < 1 := by omega
          have n5 : ¬ 1099511627776 < c.amount := by omega
          clear d1 d2 d3 ha1 ha2
          go_wp2_with fail
          go_loopg [3] 3 (fun gg a wr => ∃ q : Nat, q ≤ 3 ∧ gg = 3 - q ∧ a = .int .i64 q ∧ wr = wc ∧ Hid (z.data.toList.all largeB = (z.data.toList.drop q).all largeB))
          case atStart => exact ⟨0, Nat.zero_le _, rfl, rfl, rfl, rfl⟩
          case round =>
            obtain ⟨q, hq, hg, rfl, rfl, hall⟩ := hrel
            have hg' := Lib.hid hg
            clear hg
            by_cases hlt : q < 3
            · have i1 : decide ((q : Int) < 3) = true := by simp; omega
              have i2 : (q : Int) < 3 := by omega
              have i3 : (0 : Int) ≤ (q : Int) := by omega
              have i4 : (q : Int) < (z.size : Int) := by omega
              have hst := Lib.hid (run_all (by omega : q < z.size) hall.out)
              rw [large_nat] at hst
              cases e1 : decide ((z[q].toNat : Int) < 65) <;> cases e2 : decide (90 < (z[q].toNat : Int))
              all_goals
                rw [e1, e2] at hst
                go_wp2_with fail
                first
                  | (go_roundg (3 - (q + 1))
                     case measure => have := hg'.out; omega
                     case rel => exact ⟨q + 1, by omega, rfl, by go_num, rfl, by rw [hst.out]; first | rfl | simp⟩)
                  | (go_ret
                     exact ⟨by rw [hres.out, hst.out]; simp, hB.out⟩)
            · have i1 : decide ((q : Int) < 3) = false := by simp; omega
              have hcl : z.data.toList.all largeB = true := by rw [hall.out, List.drop_eq_nil_of_le (by simp; omega)]; rfl
              rw [hcl] at hres
              clear hall hcl hcu m8
              have m9 : wr.cell? ⟨w.heap.size, 9, none⟩ = some (.int .i64 c.above) := (hx.out.cell 9).trans (hk.out 9 (by decide))
              have m10 : wr.cell? ⟨w.heap.size, 10, none⟩ = some (.int .i64 c.below) := (hx.out.cell 10).trans (hk.out 10 (by decide))
              have m11 : wr.cell? ⟨w.heap.size, 11, none⟩ = some (.int .i64 c.latest) := (hx.out.cell 11).trans (hk.out 11 (by decide))
              have m12 : wr.cell? ⟨w.heap.size, 12, none⟩ = some (.int .i64 c.expiry) := (hx.out.cell 12).trans (hk.out 12 (by decide))
              have m13 : wr.cell? ⟨w.heap.size, 13, none⟩ = some (.int .i64 c.within) := (hx.out.cell 13).trans (hk.out 13 (by decide))
              have m14 : wr.cell? ⟨w.heap.size, 14, none⟩ = some (.int .i64 c.tenor) := (hx.out.cell 14).trans (hk.out 14 (by decide))
              have m17 : wr.cell? ⟨w.heap.size, 17, none⟩ = some (.slice A n cc) := (hx.out.cell 17).trans (hk.out 17 (by decide))
              have mlt := hx.out.lt
              by_cases y0 : ¬ (0 ≤ c.above)
              · have x0 : decide (c.above < 0) = true := by simp; omega
                have v0 : decide (0 ≤ c.above) = false := by simpa using y0
                have u0' : c.above < 0 := by omega
                go_wp2_with fail
                go_ret
                exact ⟨by rw [hres.out, v0]; simp, hB.out⟩
              have x0 : decide (c.above < 0) = false := by simp; omega
              have v0 : decide (0 ≤ c.above) = true := by simpa using Classical.not_not.1 y0
              have n0' : ¬ (c.above < 0) := by omega
              rw [v0] at hres
              clear v0 y0
              by_cases y1 : ¬ (c.above ≤ 1000)
              · have x1 : decide (1000 < c.above) = true := by simp; omega
                have v1 : decide (c.above ≤ 1000) = false := by simpa using y1
                have u1' : 1000 < c.above := by omega
                go_wp2_with fail
                go_ret
                exact ⟨by rw [hres.out, v1]; simp, hB.out⟩
              have x1 : decide (1000 < c.above) = false := by simp; omega
              have v1 : decide (c.above ≤ 1000) = true := by simpa using Classical.not_not.1 y1
              have n1' : ¬ (1000 < c.above) := by omega
              rw [v1] at hres
              clear v1 y1
              by_cases y2 : ¬ (0 ≤ c.below)
              · have x2 : decide (c.below < 0) = true := by simp; omega
                have v2 : decide (0 ≤ c.below) = false := by simpa using y2
                have u2' : c.below < 0 := by omega
                go_wp2_with fail
                go_ret
                exact ⟨by rw [hres.out, v2]; simp, hB.out⟩
              have x2 : decide (c.below < 0) = false := by simp; omega
              have v2 : decide (0 ≤ c.below) = true := by simpa using Classical.not_not.1 y2
              have n2' : ¬ (c.below < 0) := by omega
              rw [v2] at hres
              clear v2 y2
              by_cases y3 : ¬ (c.below ≤ 1000)
              · have x3 : decide (1000 < c.below) = true := by simp; omega
                have v3 : decide (c.below ≤ 1000) = false := by simpa using y3
                have u3' : 1000 < c.below := by omega
                go_wp2_with fail
                go_ret
                exact ⟨by rw [hres.out, v3]; simp, hB.out⟩
              have x3 : decide (1000 < c.below) = false := by simp; omega
              have v3 : decide (c.below ≤ 1000) = true := by simpa using Classical.not_not.1 y3
              have n3' : ¬ (1000 < c.below) := by omega
              rw [v3] at hres
              clear v3 y3
              by_cases y4 : ¬ (0 ≤ c.latest)
              · have x4 : decide (c.latest < 0) = true := by simp; omega
                have v4 : decide (0 ≤ c.latest) = false := by simpa using y4
                have u4' : c.latest < 0 := by omega
                go_wp2_with fail
                go_ret
                exact ⟨by rw [hres.out, v4]; simp, hB.out⟩
              have x4 : decide (c.latest < 0) = false := by simp; omega
              have v4 : decide (0 ≤ c.latest) = true := by simpa using Classical.not_not.1 y4
              have n4' : ¬ (c.latest < 0) := by omega
              rw [v4] at hres
              clear v4 y4
              by_cases y5 : ¬ (c.latest ≤ 1048576)
              · have x5 : decide (1048576 < c.latest) = true := by simp; omega
                have v5 : decide (c.latest ≤ 1048576) = false := by simpa using y5
                have u5' : 1048576 < c.latest := by omega
                go_wp2_with fail
                go_ret
                exact ⟨by rw [hres.out, v5]; simp, hB.out⟩
              have x5 : decide (1048576 < c.latest) = false := by simp; omega
              have v5 : decide (c.latest ≤ 1048576) = true := by simpa using Classical.not_not.1 y5
              have n5' : ¬ (1048576 < c.latest) := by omega
              rw [v5] at hres
              clear v5 y5
              by_cases y6 : ¬ (0 ≤ c.expiry)
              · have x6 : decide (c.expiry < 0) = true := by simp; omega
                have v6 : decide (0 ≤ c.expiry) = false := by simpa using y6
                have u6' : c.expiry < 0 := by omega
                go_wp2_with fail
                go_ret
                exact ⟨by rw [hres.out, v6]; simp, hB.out⟩
              have x6 : decide (c.expiry < 0) = false := by simp; omega
              have v6 : decide (0 ≤ c.expiry) = true := by simpa using Classical.not_not.1 y6
              have n6' : ¬ (c.expiry < 0) := by omega
              rw [v6] at hres
              clear v6 y6
              by_cases y7 : ¬ (c.expiry ≤ 1048576)
              · have x7 : decide (1048576 < c.expiry) = true := by simp; omega
                have v7 : decide (c.expiry ≤ 1048576) = false := by simpa using y7
                have u7' : 1048576 < c.expiry := by omega
                go_wp2_with fail
                go_ret
                exact ⟨by rw [hres.out, v7]; simp, hB.out⟩
              have x7 : decide (1048576 < c.expiry) = false := by simp; omega
              have v7 : decide (c.expiry ≤ 1048576) = true := by simpa using Classical.not_not.1 y7
              have n7' : ¬ (1048576 < c.expiry) := by omega
              rw [v7] at hres
              clear v7 y7
              by_cases y8 : ¬ (0 ≤ c.within)
              · have x8 : decide (c.within < 0) = true := by simp; omega
                have v8 : decide (0 ≤ c.within) = false := by simpa using y8
                have u8' : c.within < 0 := by omega
                go_wp2_with fail
                go_ret
                exact ⟨by rw [hres.out, v8]; simp, hB.out⟩
              have x8 : decide (c.within < 0) = false := by simp; omega
              have v8 : decide (0 ≤ c.within) = true := by simpa using Classical.not_not.1 y8
              have n8' : ¬ (c.within < 0) := by omega
              rw [v8] at hres
              clear v8 y8
              by_cases y9 : ¬ (c.within ≤ 1048576)
              · have x9 : decide (1048576 < c.within) = true := by simp; omega
                have v9 : decide (c.within ≤ 1048576) = false := by simpa using y9
                have u9' : 1048576 < c.within := by omega
                go_wp2_with fail
                go_ret
                exact ⟨by rw [hres.out, v9]; simp, hB.out⟩
              have x9 : decide (1048576 < c.within) = false := by simp; omega
              have v9 : decide (c.within ≤ 1048576) = true := by simpa using Classical.not_not.1 y9
              have n9' : ¬ (1048576 < c.within) := by omega
              rw [v9] at hres
              clear v9 y9
              by_cases y10 : ¬ (0 ≤ c.tenor)
              · have x10 : decide (c.tenor < 0) = true := by simp; omega
                have v10 : decide (0 ≤ c.tenor) = false := by simpa using y10
                have u10' : c.tenor < 0 := by omega
                go_wp2_with fail
                go_ret
                exact ⟨by rw [hres.out, v10]; simp, hB.out⟩
              have x10 : decide (c.tenor < 0) = false := by simp; omega
              have v10 : decide (0 ≤ c.tenor) = true := by simpa using Classical.not_not.1 y10
              have n10' : ¬ (c.tenor < 0) := by omega
              rw [v10] at hres
              clear v10 y10
              by_cases y11 : ¬ (c.tenor ≤ 1048576)
              · have x11 : decide (1048576 < c.tenor) = true := by simp; omega
                have v11 : decide (c.tenor ≤ 1048576) = false := by simpa using y11
                have u11' : 1048576 < c.tenor := by omega
                go_wp2_with fail
                go_ret
                exact ⟨by rw [hres.out, v11]; simp, hB.out⟩
              have x11 : decide (1048576 < c.tenor) = false := by simp; omega
              have v11 : decide (c.tenor ≤ 1048576) = true := by simpa using Classical.not_not.1 y11
              have n11' : ¬ (1048576 < c.tenor) := by omega
              rw [v11] at hres
              clear v11 y11
              by_cases yn : ¬ (n ≤ 64)
              · have xn : decide ((64 : Int) < (n : Int)) = true := by simp; omega
                have vn : decide (n ≤ 64) = false := by simpa using yn
                have un' : 64 < n := by omega
                go_wp2_with fail
                go_ret
                exact ⟨by rw [hres.out, vn]; simp, hB.out⟩
              have xn : decide ((64 : Int) < (n : Int)) = false := by simp; omega
              have vn : decide (n ≤ 64) = true := by simpa using Classical.not_not.1 yn
              have nn' : ¬ 64 < n := by omega
              rw [vn] at hres
              have hres2 : Hid (R = l.all needM) := by unfold Hid; rw [hres.out]; simp
              go_wp2_with fail
              go_loopg [4] n (fun gg a wr2 => ∃ q : Nat, q ≤ n ∧ gg = n - q ∧ a = .int .i64 q ∧ Hid (R = (l.drop q).all needM) ∧ Hid (Below w.heap.size w wr2) ∧ Hid (Blk wr2 w.heap.size 41 C))
              case atStart => exact ⟨0, Nat.zero_le _, rfl, rfl, hres2, hB, hx⟩
              case round =>
                clear hres x0 x1 x2 x3 x4 x5 x6 x7 x8 x9 x10 x11 xn n0' n1' n2' n3' n4' n5' n6' n7' n8' n9' n10' n11' nn' m9 m10 m11 m12 m13 m14 m17 mlt hB hx hres2
                obtain ⟨q, hq, hg, rfl, hall, hB, hx⟩ := hrel
                have hg' := Lib.hid hg
                clear hg
                have e17 : wr.cell? ⟨w.heap.size, 17, none⟩ = some (.slice A n cc) := (hx.out.cell 17).trans (hk.out 17 (by decide))
                have elt := hx.out.lt
                by_cases hlt : q < n
                · have i1 : decide ((q : Int) < (n : Int)) = true := by simp; omega
                  have i2 : (q : Int) < (n : Int) := by omega
                  have i3 : (0 : Int) ≤ (q : Int) := by omega
                  obtain ⟨x, hxq⟩ : ∃ x, l[q]? = some x := ⟨_, List.getElem?_eq_getElem (by have := hl.out; omega)⟩
                  have hst := Lib.hid (allX_step hall.out hxq)
                  obtain ⟨bb, off, rfl, _, hc, hTt⟩ := (hN.out.below hB.out) q x hxq
                  have hzx := hz.out x (List.mem_of_getElem? hxq)
                  obtain ⟨al, hal⟩ : ∃ b, Hid (alwaysR (strip x.rule) = b) := ⟨_, Lib.hid rfl⟩
                  obtain ⟨dd, hdd⟩ : ∃ b, Hid (depthR (strip x.rule) = b) := ⟨_, Lib.hid rfl⟩
                  obtain ⟨my, hmy⟩ : ∃ b, Hid (mayR (strip x.rule) = b) := ⟨_, Lib.hid rfl⟩
                  have c1 : Hid (∀ W, Calls Tryz.prog 61 #[.agg x.rule.cells] W fun e w' => e = .returned (.bool al) ∧ Below W.heap.size W w') := fun W => by
                    have h := ralways_any x.rule W
                    rw [hal.out] at h
                    exact h
                  have c2 : Hid (∀ W, Below wr.heap.size wr W → Calls Tryz.prog 40 #[.agg x.rule.cells] W fun e w' => e = .returned (.bool my) ∧ Below W.heap.size W w') := fun W hW => by
                    have h := right_any x.rule W ok (by have := hW.size; omega) (hTt.below hW) hzx.1
                    rw [hmy.out] at h
                    exact h
                  have c3 : Hid (∀ W, Below wr.heap.size wr W → Calls Tryz.prog 19 #[.agg x.rule.cells] W fun e w' => e = .returned (.int .i64 (dd : Nat)) ∧ Below W.heap.size W w') := fun W hW => by
                    have h := depth_any x.rule W ok (hTt.below hW) hzx.2
                    rw [hdd.out] at h
                    exact h
                  have hnd : Hid (needM x = (decide (0 ≤ x.kind) && decide (x.kind < 6) && (decide (1 ≤ x.count) && decide (x.count ≤ 9)) && (al || (decide (dd ≤ 16) && my)))) := by unfold Hid needM; rw [hal.out, hdd.out, hmy.out]
                  rw [hnd.out] at hst
                  clear hxq hTt hzx hall hal hdd hmy hnd
                  obtain ⟨xk, xn, ⟨tk, tp, tf, tx, tn, tA, tc, tL⟩⟩ := x
                  have g0 : wr.cell? ⟨bb, off + q * 8, none⟩ = some (.int .i64 xk) := hc 0 _ rfl
                  have g1 : wr.cell? ⟨bb, off + q * 8 + 1, none⟩ = some (.int .i64 xn) := hc 1 _ rfl
                  have g2 : wr.cell? ⟨bb, off + q * 8 + 2, none⟩ = some (.int .i64 tk) := hc 2 _ rfl
                  have g3 : wr.cell? ⟨bb, off + q * 8 + 3, none⟩ = some (.int .i64 tp) := hc 3 _ rfl
                  have g4 : wr.cell? ⟨bb, off + q * 8 + 4, none⟩ = some (.string ⟨tf.toArray⟩) := hc 4 _ rfl
                  have g5 : wr.cell? ⟨bb, off + q * 8 + 5, none⟩ = some (.string ⟨tx.toArray⟩) := hc 5 _ rfl
                  have g6 : wr.cell? ⟨bb, off + q * 8 + 6, none⟩ = some (.int .i64 tn) := hc 6 _ rfl
                  have g7 : wr.cell? ⟨bb, off + q * 8 + 7, none⟩ = some (.slice tA tL.length tc) := hc 7 _ rfl
                  clear hc
                  simp only [Tree.cells] at c1 c2 c3 hst
                  have hbl : Below wr.heap.size wr (wr.alloc (.cells #[.int .i64 xk, .int .i64 xn, .int .i64 tk, .int .i64 tp, .string ⟨tf.toArray⟩, .string ⟨tx.toArray⟩, .int .i64 tn, .slice tA tL.length tc] 74)) := (Below.refl _ _).alloc (Nat.le_refl _) _
                  have hM := Lib.hid (Blk.new wr 74 #[.int .i64 xk, .int .i64 xn, .int .i64 tk, .int .i64 tp, .string ⟨tf.toArray⟩, .string ⟨tx.toArray⟩, .int .i64 tn, .slice tA tL.length tc])
                  have hBn := Lib.hid (hB.out.trans (hbl.mono hB.out.size))
                  have hxn := Lib.hid (hx.out.below hbl hx.out.lt)
                  have hbl' := Lib.hid hbl
                  obtain ⟨wb, hwb⟩ : ∃ y, Hid (wr.alloc (.cells #[.int .i64 xk, .int .i64 xn, .int .i64 tk, .int .i64 tp, .string ⟨tf.toArray⟩, .string ⟨tx.toArray⟩, .int .i64 tn, .slice tA tL.length tc] 74) = y) := ⟨_, Lib.hid rfl⟩
                  clear hbl
                  go_upto_region 16 with fail
                  rw [hwb.out] at hM hBn hxn hbl' ⊢
                  obtain ⟨G, hG⟩ : ∃ y, Hid (wr.heap.size = y) := ⟨_, Lib.hid rfl⟩
                  rw [hG.out] at hM ⊢
                  clear hwb g0 g1 g2 g3 g4 g5 g6 g7 e17 elt
                  have m0 : wb.cell? ⟨G, 0, none⟩ = some (.int .i64 xk) := hM.out.cell 0
                  have m1 : wb.cell? ⟨G, 1, none⟩ = some (.int .i64 xn) := hM.out.cell 1
                  have m2 : wb.cell? ⟨G, 2, none⟩ = some (.int .i64 tk) := hM.out.cell 2
                  have m3 : wb.cell? ⟨G, 2 + 1, none⟩ = some (.int .i64 tp) := hM.out.cell 3
                  have m4 : wb.cell? ⟨G, 2 + 2, none⟩ = some (.string ⟨tf.toArray⟩) := hM.out.cell 4
                  have m5 : wb.cell? ⟨G, 2 + 3, none⟩ = some (.string ⟨tx.toArray⟩) := hM.out.cell 5
                  have m6 : wb.cell? ⟨G, 2 + 4, none⟩ = some (.int .i64 tn) := hM.out.cell 6
                  have m7 : wb.cell? ⟨G, 2 + 5, none⟩ = some (.slice tA tL.length tc) := hM.out.cell 7
                  have mlt := hM.out.lt
                  by_cases y0 : ¬ (0 ≤ xk)
                  · have z0 : decide (xk < 0) = true := by simp; omega
                    have v0 : decide (0 ≤ xk) = false := by simpa using y0
                    go_wp2_with fail
                    go_ret
                    exact ⟨by rw [hst.out, v0]; simp, hBn.out⟩
                  have z0 : decide (xk < 0) = false := by simp; omega
                  have v0 : decide (0 ≤ xk) = true := by simpa using Classical.not_not.1 y0
                  have n0' : ¬ (xk < 0) := by omega
                  rw [v0] at hst
                  clear v0 y0
                  by_cases y1 : ¬ (xk < 6)
                  · have z1 : decide (5 < xk) = true := by simp; omega
                    have v1 : decide (xk < 6) = false := by simpa using y1
                    go_wp2_with fail
                    go_ret
                    exact ⟨by rw [hst.out, v1]; simp, hBn.out⟩
                  have z1 : decide (5 < xk) = false := by simp; omega
                  have v1 : decide (xk < 6) = true := by simpa using Classical.not_not.1 y1
                  have n1' : ¬ (5 < xk) := by omega
                  rw [v1] at hst
                  clear v1 y1
                  by_cases y2 : ¬ (1 ≤ xn)
                  · have z2 : decide (xn < 1) = true := by simp; omega
                    have v2 : decide (1 ≤ xn) = false := by simpa using y2
                    go_wp2_with fail
                    go_ret
                    exact ⟨by rw [hst.out, v2]; simp, hBn.out⟩
                  have z2 : decide (xn < 1) = false := by simp; omega
                  have v2 : decide (1 ≤ xn) = true := by simpa using Classical.not_not.1 y2
                  have n2' : ¬ (xn < 1) := by omega
                  rw [v2] at hst
                  clear v2 y2
                  by_cases y3 : ¬ (xn ≤ 9)
                  · have z3 : decide (9 < xn) = true := by simp; omega
                    have v3 : decide (xn ≤ 9) = false := by simpa using y3
                    go_wp2_with fail
                    go_ret
                    exact ⟨by rw [hst.out, v3]; simp, hBn.out⟩
                  have z3 : decide (9 < xn) = false := by simp; omega
                  have v3 : decide (xn ≤ 9) = true := by simpa using Classical.not_not.1 y3
                  have n3' : ¬ (9 < xn) := by omega
                  rw [v3] at hst
                  clear v3 y3
                  go_wp2_with fail
                  refine (c1.out wb).mono ?_
                  rintro e w2 ⟨rfl, hb2⟩
                  have hB2 := Lib.hid (hBn.out.trans (hb2.mono hBn.out.size))
                  have hx2 := Lib.hid (hxn.out.below hb2 hxn.out.lt)
                  have hM2 := Lib.hid (hM.out.below hb2 hM.out.lt)
                  have hl2 := Lib.hid (hbl'.out.trans (hb2.mono hbl'.out.size))
                  clear hb2 hBn hxn hM m0 m1 m2 m3 m4 m5 m6 m7 mlt hbl'
                  cases al with
                  | true =>
                    have hst2 : Hid (R = (l.drop (q + 1)).all needM) := by unfold Hid; rw [hst.out]; simp
                    go_wp2_with fail
                    go_roundg (n - (q + 1))
                    case measure => have := hg'.out; omega
                    case rel => exact ⟨q + 1, by omega, rfl, by go_num, hst2, hB2, hx2⟩
                  | false =>
                    have m0 : w2.cell? ⟨G, 0, none⟩ = some (.int .i64 xk) := hM2.out.cell 0
                    have m1 : w2.cell? ⟨G, 1, none⟩ = some (.int .i64 xn) := hM2.out.cell 1
                    have m2 : w2.cell? ⟨G, 2, none⟩ = some (.int .i64 tk) := hM2.out.cell 2
                    have m3 : w2.cell? ⟨G, 2 + 1, none⟩ = some (.int .i64 tp) := hM2.out.cell 3
                    have m4 : w2.cell? ⟨G, 2 + 2, none⟩ = some (.string ⟨tf.toArray⟩) := hM2.out.cell 4
                    have m5 : w2.cell? ⟨G, 2 + 3, none⟩ = some (.string ⟨tx.toArray⟩) := hM2.out.cell 5
                    have m6 : w2.cell? ⟨G, 2 + 4, none⟩ = some (.int .i64 tn) := hM2.out.cell 6
                    have m7 : w2.cell? ⟨G, 2 + 5, none⟩ = some (.slice tA tL.length tc) := hM2.out.cell 7
                    have mlt := hM2.out.lt
                    go_wp2_with fail
                    refine (c2.out w2 hl2.out).mono ?_
                    rintro e w3 ⟨rfl, hb3⟩
                    have hB3 := Lib.hid (hB2.out.trans (hb3.mono hB2.out.size))
                    have hx3 := Lib.hid (hx2.out.below hb3 hx2.out.lt)
                    have hM3 := Lib.hid (hM2.out.below hb3 hM2.out.lt)
                    have hl3 := Lib.hid (hl2.out.trans (hb3.mono hl2.out.size))
                    clear hb3 hB2 hx2 hM2 m0 m1 m2 m3 m4 m5 m6 m7 mlt hl2
                    cases my with
                    | false =>
                      go_wp2_with fail
                      go_ret
                      exact ⟨by rw [hst.out]; simp, hB3.out⟩
                    | true =>
                      have m0 : w3.cell? ⟨G, 0, none⟩ = some (.int .i64 xk) := hM3.out.cell 0
                      have m1 : w3.cell? ⟨G, 1, none⟩ = some (.int .i64 xn) := hM3.out.cell 1
                      have m2 : w3.cell? ⟨G, 2, none⟩ = some (.int .i64 tk) := hM3.out.cell 2
                      have m3 : w3.cell? ⟨G, 2 + 1, none⟩ = some (.int .i64 tp) := hM3.out.cell 3
                      have m4 : w3.cell? ⟨G, 2 + 2, none⟩ = some (.string ⟨tf.toArray⟩) := hM3.out.cell 4
                      have m5 : w3.cell? ⟨G, 2 + 3, none⟩ = some (.string ⟨tx.toArray⟩) := hM3.out.cell 5
                      have m6 : w3.cell? ⟨G, 2 + 4, none⟩ = some (.int .i64 tn) := hM3.out.cell 6
                      have m7 : w3.cell? ⟨G, 2 + 5, none⟩ = some (.slice tA tL.length tc) := hM3.out.cell 7
                      have mlt := hM3.out.lt
                      go_wp2_with fail
                      refine (c3.out w3 hl3.out).mono ?_
                      rintro e w4 ⟨rfl, hb4⟩
                      have hB4 := Lib.hid (hB3.out.trans (hb4.mono hB3.out.size))
                      have hx4 := Lib.hid (hx3.out.below hb4 hx3.out.lt)
                      clear hb4 hB3 hx3 hM3 m0 m1 m2 m3 m4 m5 m6 m7 mlt hl3
                      by_cases h16 : dd ≤ 16
                      · have b1 : decide ((16 : Int) < (dd : Int)) = false := by simp; omega
                        have b2 : decide (16 < dd) = false := by simp; omega
                        have b3' : ¬ 16 < dd := by omega
                        have hst2 : Hid (R = (l.drop (q + 1)).all needM) := by unfold Hid; rw [hst.out]; simp [h16]
                        go_wp2_with fail
                        go_roundg (n - (q + 1))
                        case measure => have := hg'.out; omega
                        case rel => exact ⟨q + 1, by omega, rfl, by go_num, hst2, hB4, hx4⟩
                      · have b1 : decide ((16 : Int) < (dd : Int)) = true := by simp; omega
                        have b2 : decide (16 < dd) = true := by simp; omega
                        have b3' : 16 < dd := by omega
                        go_wp2_with fail
                        go_ret
                        exact ⟨by rw [hst.out]; simp [h16], hB4.out⟩
                · have i1 : decide ((q : Int) < (n : Int)) = false := by simp; omega
                  have hfin := Lib.hid (allX_end hall.out (by have := hl.out; omega))
                  go_wp2_with fail
                  go_ret
                  exact ⟨by rw [hfin.out]; first | done | rfl, hB.out⟩
        · have b3 : ((z.size : Int) != 3) = false := by simp [h3]
          have b4 : decide (c.amount < 1) = false := by simp; omega
          have b5 : decide (1099511627776 < c.amount) = true := by simp; omega
          have d3 : decide (c.amount ≤ 1099511627776) = false := by simpa using ha2
          go_wp2_with fail
          go_ret
          exact ⟨by rw [hres.out, d3]; simp, hB.out⟩
      · have b3 : ((z.size : Int) != 3) = false := by simp [h3]
        have b4 : decide (c.amount < 1) = true := by simp; omega
        have d2 : decide (1 ≤ c.amount) = false := by simpa using ha1
        go_wp2_with fail
        go_ret
        exact ⟨by rw [hres.out, d2]; simp, hB.out⟩
    · have b3 : ((z.size : Int) != 3) = true := by simp; omega
      have d1 : decide (z.size = 3) = false := by simpa using h3
      go_wp2_with fail
      go_ret
      exact ⟨by rw [hres.out, d1]; simp, hB.out⟩

end Go.Proofs.YtjkmhlfjheiekaaGreatDoor

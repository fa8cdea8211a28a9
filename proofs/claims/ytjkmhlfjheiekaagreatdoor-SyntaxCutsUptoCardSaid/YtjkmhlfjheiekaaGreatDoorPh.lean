import Derived.Test.YtjkmhlfjheiekaaGreatDoorPhb
set_option maxRecDepth 1000000
set_option maxHeartbeats 51200000
namespace Go.Proofs.YtjkmhlfjheiekaaGreatDoor
open Go Go.RowKit Go.BigFrame Go.Maps
noncomputable def codeA : Code := (Tryz.f24.body.bind (fromR 14)).getD .skip
theorem phA (s : ByteArray) (w : World) {i0 : TypeInfo} (hi : Tryz.prog.info? 74 = some i0) (hz0 : i0.zero = some (.agg zeroD)) (hz1 : i0.size = 8) (hz2 : i0.bytes = 96) {w1 : World} {l : List Tok} {A : Option Addr} {c n N e gC gR : Nat}
  (hP1 : Hid (Blk w1 w.heap.size 41 zeroC)) (hB1 : Hid (Bz w w1)) (hok : Hid (TokOk l)) (hgd : Hid (GoodL l)) (hn : Hid (l.length = n)) (hm : n ≤ 4096) (hN : Hid (2 * l.length + 2 = N)) (hpD : Hid (pDz s.data.toList = endC (creditD e l ⟨0, 0, 0⟩))) (hgC : Hid (w1.heap.size = gC)) (hgR : Hid (gC < gR)) (hgP : Hid (w.heap.size + 1 ≤ gC)) (ncr : gC ≠ gR) (nrc : gR ≠ gC) (hgl : Hid (gC ≤ gR)) (hA0f : Hid (∀ W, Below gC w1 W → TokAt W 0 A l))
  {t1 t2 t3 t4 t5 : Txt} {k1 p1 k2 p2 k3 p3 k4 p4 k5 p5 : Nat} {c1 c2 c3 c4 c5 : Int}
  (h1 : Hid (lineD e l wCredit ⟨0, 0, 0⟩ = (t1, ⟨k1, p1, c1⟩))) (h2 : Hid (lineD e l wApz ⟨k1, p1, c1⟩ = (t2, ⟨k2, p2, c2⟩))) (h3 : Hid (lineD e l wBnz ⟨k2, p2, c2⟩ = (t3, ⟨k3, p3, c3⟩))) (h4 : Hid (lineD e l wIssuer ⟨k3, p3, c3⟩ = (t4, ⟨k4, p4, c4⟩))) (h5 : Hid (confD e l ⟨k4, p4, c4⟩ = (t5, ⟨k5, p5, c5⟩)))
  {u10 u11 u12 u13 u14 u15 u16 u17 u18 u19 u20 u21 u22 u23 u24 u25 u26 u27 u28 u29 u30 u31 u32 u33 u34 u35 u36 u37 u38 u39 u40 u41 u42 u43 u44 u45 u46 u47 u48 u49 u50 u51 u52 u53 u54 u55 u56 u57 u58 u59 u60 u61 u62 u63 u64 u65 u66 u67 u68 u69 u70 u71 u72 u73 u74 u75 u76 u77 u78 u79 u80 u81 u82 u83 u84 u85 u86 u87 u88 u89 u90 u91 u92 u93 u94 u95 u96 u97 u98 u99 u100 u101 u102 u103 u104 u105 u106 u107 u108 u109 u110 u111 u112 u113 u114 u115 u116 u117 u118 u119 u120 u121 u122 u123 u124 u125 u126 u127 u128 u129 u130 u131 u132 u133 u134 u135 u136 u137 u138 u139 u140 u141 u142 u143 u144 u145 u146 u147 u148 u149 u150 u151 u152 u153 u154 u155 u156 u157 u158 u159 u160 u161 u162 u163 u164 u165 u166 u167 u168 u169 u170 u171 u172 u173 u174 u175 u176 u177 u178 u179 u180 u181 u182 u183 u184 u185 u186 u187 u188 u189 u190 u191 u192 u193 u194 u195 u196 u197 u198 u199 u200 u201 u202 u203 u204 u205 u206 u207 u208 u209 u210 u211 u212 u213 u214 u215 u216 u217 u218 u219 u220 u221 u222 u223 u224 u225 u226 u227 u228 u229 u230 u231 u232 u233 u234 u235 u236 u237 u238 u239 u240 u241 u242 u243 u244 u245 u246 u247 u248 u249 u250 u251 u252 : Value} {wc : World} (hcut : Hid (Below gC w1 wc) ∧ Hid (Blk wc gR 83 (z0z A n c k5 e c5 p5)) ∧ Hid (Blk wc gC 41 #[Sz t1, Sz t2, Sz t3, Sz t4, Sz t5, S0z, S0z, S0z, Iz 0, Iz 0, Iz 0, Iz 0, Iz 0, Iz 0, Iz 0, .bool false, .bool false, .slice none 0 0])) :
  Code.wp Tryz.prog codeA (bodyPost Tryz.prog Tryz.f24 (Parsed w (pDz s.data.toList))) ⟨#[.string s, undef, .pointer (some (Az w.heap.size 0)), Iz 0, Iz 0, .slice A n c, Iz e, Iz 0, .pointer (some (Az gC 0)), .pointer (some (Az gR 0)), u10, u11, u12, u13, u14, u15, u16, u17, u18, u19, u20, u21, u22, u23, u24, u25, u26, u27, u28, u29, u30, u31, u32, u33, u34, u35, u36, u37, u38, u39, u40, u41, u42, u43, u44, u45, u46, u47, u48, u49, u50, u51, u52, u53, u54, u55, u56, u57, u58, u59, u60, u61, u62, u63, u64, u65, u66, u67, u68, u69, u70, u71, u72, u73, u74, u75, u76, u77, u78, u79, u80, u81, u82, u83, u84, u85, u86, u87, u88, u89, u90, u91, u92, u93, u94, u95, u96, u97, u98, u99, u100, u101, u102, u103, u104, u105, u106, u107, u108, u109, u110, u111, u112, u113, u114, u115, u116, u117, u118, u119, u120, u121, u122, u123, u124, u125, u126, u127, u128, u129, u130, u131, u132, u133, u134, u135, u136, u137, u138, u139, u140, u141, u142, u143, u144, u145, u146, u147, u148, u149, u150, u151, u152, u153, u154, u155, u156, u157, u158, u159, u160, u161, u162, u163, u164, u165, u166, u167, u168, u169, u170, u171, u172, u173, u174, u175, u176, u177, u178, u179, u180, u181, u182, u183, u184, u185, u186, u187, u188, u189, u190, u191, u192, u193, u194, u195, u196, u197, u198, u199, u200, u201, u202, u203, u204, u205, u206, u207, u208, u209, u210, u211, u212, u213, u214, u215, u216, u217, u218, u219, u220, u221, u222, u223, u224, u225, u226, u227, u228, u229, u230, u231, u232, u233, u234, u235, u236, u237, u238, u239, u240, u241, u242, u243, u244, u245, u246, u247, u248, u249, u250, u251, u252], []⟩ wc := by
 conv => arg 2; whnf
 obtain ⟨hS, hR, hC⟩ := hcut
 obtain ⟨w35, hw5⟩ : ∃ y, wc = y := ⟨_, rfl⟩
 rw [hw5] at hS hR hC ⊢
 clear hw5
 replace hA := hdZ (hA0f.out _ hS.out)
 go_upto_region 14 with fail
 obtain ⟨⟨t6, ⟨k6, p6, c6⟩⟩, h6⟩ := nmZ (lineD e l wFrom ⟨k5, p5, c5⟩)
 go_upto_region 15 with (first | (go_at_call 47; refine (rnamed_any A n c l w35 e hn hm hok wFrom ⟨k5, p5, c5⟩ hA).mono ?_; rintro x2 w36 ⟨rfl, hbc⟩; rw [h6.out]; (try dsimp only); obtain ⟨hC, hR, hS, hA⟩ := ph_call hbc hgC hC hR hS hA) | (refine gbz rfl 83 _ rfl gR (z0z A n c k5 e c5 p5) 83 _ rfl hR.out Tryz.underlying83 rfl i83 ?_) | (refine pbz rfl 83 _ _ rfl gR (z0z A n c k5 e c5 p5) (z0z A n c k6 e c6 p6) 83 rfl rfl hR.out rfl i83 (rdz _ _ _ _ _ _ _) ?_; intro w37 hR9 hu8; have hC9 := hdZ (hu8.blk hC.out ncr); have hCc : w37.cell? (Az gC 5) = some (S0z) := hC9.out.cell 5; have hCf := hC9.out.frozen 5; have hCl := hC9.out.lt))
 obtain ⟨w38, hw⟩ := nmZ (w37.setCell (Az gC 5) (Sz t6))
 obtain ⟨hR, hC, hS, hA⟩ := ph_set (cs' := #[Sz t1, Sz t2, Sz t3, Sz t4, Sz t5, Sz t6, S0z, S0z, Iz 0, Iz 0, Iz 0, Iz 0, Iz 0, Iz 0, Iz 0, .bool false, .bool false, .slice none 0 0]) hw hR9 hC9 rfl hu8 hS nrc hgl hgC hA0f
 rw [hw.out]
 clear hw hR9 hu8 hC9 hCc hCf hCl
 obtain ⟨⟨t7, ⟨k7, p7, c7⟩⟩, h7⟩ := nmZ (lineD e l wTo ⟨k6, p6, c6⟩)
 go_upto_region 16 with (first | (go_at_call 47; refine (rnamed_any A n c l w38 e hn hm hok wTo ⟨k6, p6, c6⟩ hA).mono ?_; rintro x2 w39 ⟨rfl, hbc⟩; rw [h7.out]; (try dsimp only); obtain ⟨hC, hR, hS, hA⟩ := ph_call hbc hgC hC hR hS hA) | (refine gbz rfl 83 _ rfl gR (z0z A n c k6 e c6 p6) 83 _ rfl hR.out Tryz.underlying83 rfl i83 ?_) | (refine pbz rfl 83 _ _ rfl gR (z0z A n c k6 e c6 p6) (z0z A n c k7 e c7 p7) 83 rfl rfl hR.out rfl i83 (rdz _ _ _ _ _ _ _) ?_; intro w40 hR9 hu8; have hC9 := hdZ (hu8.blk hC.out ncr); have hCc : w40.cell? (Az gC 6) = some (S0z) := hC9.out.cell 6; have hCf := hC9.out.frozen 6; have hCl := hC9.out.lt))
 obtain ⟨w41, hw⟩ := nmZ (w40.setCell (Az gC 6) (Sz t7))
 obtain ⟨hR, hC, hS, hA⟩ := ph_set (cs' := #[Sz t1, Sz t2, Sz t3, Sz t4, Sz t5, Sz t6, Sz t7, S0z, Iz 0, Iz 0, Iz 0, Iz 0, Iz 0, Iz 0, Iz 0, .bool false, .bool false, .slice none 0 0]) hw hR9 hC9 rfl hu8 hS nrc hgl hgC hA0f
 rw [hw.out]
 clear hw hR9 hu8 hC9 hCc hCf hCl
 obtain ⟨⟨k8, p8, c8⟩, h8⟩ := nmZ ((tkz e l (isT wSum) ⟨k7, p7, c7⟩).2)
 go_upto_region 17 with (first | (go_at_call 49; refine (rwd_any A n c l w41 e hn hm wSum ⟨k7, p7, c7⟩ hA).mono ?_; rintro x2 w42 ⟨rfl, hbc⟩; rw [h8.out]; obtain ⟨hC, hR, hS, hA⟩ := ph_call hbc hgC hC hR hS hA) | (refine gbz rfl 83 _ rfl gR (z0z A n c k7 e c7 p7) 83 _ rfl hR.out Tryz.underlying83 rfl i83 ?_) | (refine pbz rfl 83 _ _ rfl gR (z0z A n c k7 e c7 p7) (z0z A n c k8 e c8 p8) 83 rfl rfl hR.out rfl i83 (rdz _ _ _ _ _ _ _) ?_; intro w43 hR9 hu8))
 replace hR := hdZ hR9
 replace hC := hdZ (hu8.blk hC.out ncr)
 replace hS : Hid (Below gC w1 w43) := hu8.to_below hS.out hgl.out (Nat.le_trans (Nat.le_of_eq hgC.out.symm) hS.out.size)
 clear hR9 hu8 hA
 replace hA := hdZ (hA0f.out _ hS.out)
 obtain ⟨⟨t9, ⟨k9, p9, c9⟩⟩, h9⟩ := nmZ (tkz e l (kdB 4) ⟨k8, p8, c8⟩)
 obtain ⟨b4, hb4⟩ := nmZ (atI (kdB 4) l k8)
 go_simp
 go_cut [106] (fun v wx => v = .bool ((c8 == 0) && !b4) ∧ Hid (w43 = wx))
 case first => as_aux_lemma =>
  have hRc0 : w43.cell? (Az gR 0) = some (.slice A n c) := hR.out.cell 0; have hRf0 := hR.out.frozen 0; have hRc1 : w43.cell? (Az gR 1) = some (Iz k8) := hR.out.cell 1; have hRf1 := hR.out.frozen 1; have hRc3 : w43.cell? (Az gR 3) = some (Iz c8) := hR.out.cell 3; have hRf3 := hR.out.frozen 3; have hRl := hR.out.lt
  by_cases hz : c8 = 0
  ·have b1 : (c8 == 0) = true := by simp [hz]
   have e1 := hdZ b1; clear hz
   by_cases hkl : k8 < n
   ·obtain ⟨t, ht⟩ : ∃ t, l[k8]? = some t := ⟨_, List.getElem?_eq_getElem (by rw [hn.out]; exact hkl)⟩
    have hkd : Hid ((t.kind != 4) = !b4) := by unfold Hid; rw [← hb4.out, atI_some ht]; rfl
    obtain ⟨tk, htk⟩ := nmZ (t.kind); obtain ⟨g, off, rfl, hg, g0, g1, g2⟩ := hA.out k8 t ht; rw [htk.out] at hkd g0; obtain ⟨nb, hnb⟩ := nmZ ((tk != 4)); have hnb2 := hnb.out; have i1 : (k8 : Int) < (n : Int) := by omega
    have i2 : (0 : Int) ≤ (k8 : Int) := by omega
    have b2 : decide ((n : Int) ≤ (k8 : Int)) = false := by simp; omega
    have b3 : ¬ n ≤ k8 := by omega
    clear ht g1 g2; go_wp2_with fail
    go_meet
    case rel => exact ⟨by rw [e1.out, ← hkd.out, hnb.out]; rfl, rfl⟩
   ·have hkb : Hid (b4 = false) := by rw [← hb4.out, atI_none (by rw [hn.out]; omega)]; exact hdZ rfl
    have b2 : decide ((n : Int) ≤ (k8 : Int)) = true := by simp; omega
    have b3 : n ≤ k8 := by omega
    go_wp2_with fail
    go_meet
    case rel => exact ⟨by rw [e1.out, hkb.out]; rfl, rfl⟩
  ·have b1 : (c8 == 0) = false := by simp [hz]
   have e1 := hdZ b1; clear hz; go_wp2_with fail
   go_meet
   case rel => exact ⟨by rw [e1.out]; rfl, rfl⟩
 case rest =>
  obtain ⟨rfl, hwx⟩ := hcut; rw [← hwx.out]; clear hwx; obtain ⟨⟨ka, pa, ca⟩, ha⟩ : ∃ s : St, Hid ((if ((c8 == 0) && !b4) = true then ⟨k8, plz e l k8, 2⟩ else ⟨k8, p8, c8⟩ : St) = s) := ⟨_, hdZ rfl⟩; obtain ⟨bb, hbb⟩ := nmZ (((c8 == 0) && !b4)); rw [hbb.out] at ha ⊢
  go_upto_if 106 with fail
  go_cut [] from 14 to 251 (fun wx => Hid (Below gC w1 wx) ∧ Hid (Blk wx gR 83 (z0z A n c ka e ca pa)) ∧ Hid (Blk wx gC 41 #[Sz t1, Sz t2, Sz t3, Sz t4, Sz t5, Sz t6, Sz t7, S0z, Iz 0, Iz 0, Iz 0, Iz 0, Iz 0, Iz 0, Iz 0, .bool false, .bool false, .slice none 0 0]))
  case first => as_aux_lemma =>
   cases bb with
   | false =>
    obtain ⟨rfl, rfl, rfl⟩ : k8 = ka ∧ p8 = pa ∧ c8 = ca := by have h := ha.out; rw [if_neg (by simp)] at h; simpa using h
    go_wp2_with fail
    go_meet
    case rel => exact ⟨hS, hR, hC⟩
   | true =>
    obtain ⟨rfl, rfl, rfl⟩ : k8 = ka ∧ plz e l k8 = pa ∧ 2 = ca := by have h := ha.out; rw [if_pos rfl] at h; simpa using h
    have hc8 : c8 = 0 := by have h := hbb.out; simp at h; exact h.1
    have hst : Hid (failS ⟨k8, p8, c8⟩ (plz e l k8) 2 = ⟨k8, plz e l k8, 2⟩) := by unfold Hid failS; rw [if_pos hc8]
    clear hc8; have hRc1 : w43.cell? (Az gR 1) = some (Iz k8) := hR.out.cell 1; have hRf1 := hR.out.frozen 1; have hRl := hR.out.lt
    go_wp2_with (first | (go_at_call 50; refine (stop_any A n c l w43 e hn ⟨k8, p8, c8⟩ k8 2 hA).mono ?_; rintro x2 w44 ⟨rfl, hbs⟩; rw [hst.out]; obtain ⟨hC, hR, hS, hA⟩ := ph_call hbs hgC hC hR hS hA) | (refine gbz rfl 83 _ rfl gR (z0z A n c k8 e c8 p8) 83 _ rfl hR.out Tryz.underlying83 rfl i83 ?_) | (refine pbz rfl 83 _ _ rfl gR (z0z A n c k8 e c8 p8) (z0z A n c k8 e 2 (plz e l k8 : Nat)) 83 rfl rfl hR.out rfl i83 (rdz _ _ _ _ _ _ _) ?_; intro w45 hR9 hu8))
    go_meet
    case rel => exact ⟨hu8.to_below hS.out hgl.out (Nat.le_trans (Nat.le_of_eq hgC.out.symm) hS.out.size), hR9, hu8.blk hC.out ncr⟩
  case rest =>
   obtain ⟨hS, hR, hC⟩ := hcut; obtain ⟨w46, hw5⟩ : ∃ y, wc = y := ⟨_, rfl⟩; rw [hw5] at hS hR hC ⊢; clear hw5; replace hA := hdZ (hA0f.out _ hS.out); have hRc3 : w46.cell? (Az gR 3) = some (Iz ca) := hR.out.cell 3; have hRf3 := hR.out.frozen 3; have hRl := hR.out.lt
   go_upto_if 113 with fail
   clear hRc3 hRf3 hRl
   go_cut [] from 14 to 251 (fun wx => Hid (Below gC w1 wx) ∧ Hid (Blk wx gR 83 (z0z A n c k9 e c9 p9)) ∧ Hid (Blk wx gC 41 (z7z t1 t2 t3 t4 t5 t6 t7 t9 0 0 0 0 0 0 0 false false none 0 0)))
   case first => as_aux_lemma =>
    by_cases hz : ca = 0
    ·have b1 : (ca == 0) = true := by simp [hz]
     have hgood : bb = false ∧ k8 = ka ∧ p8 = pa ∧ c8 = 0 := by
      have h := ha.out
      cases bb with
      | true => rw [if_pos rfl] at h; have := congrArg St.cd h; simp only at this; omega
      | false => rw [if_neg (by simp)] at h; simp only [St.mk.injEq] at h; exact ⟨rfl, h.1, h.2.1, by rw [h.2.2]; exact hz⟩
     obtain ⟨hbf, rfl, rfl, hc8⟩ := hgood; have hb4t : b4 = true := by have h := hbb.out; rw [hbf, hc8] at h; simpa using h
     have hkl : k8 < n := by
      rcases Nat.lt_or_ge k8 n with h | h
      ·exact h
      ·exact absurd (hb4.out.trans hb4t) (by rw [atI_none (by rw [hn.out]; exact h)]; simp)
     obtain ⟨t, ht⟩ : ∃ t, l[k8]? = some t := ⟨_, List.getElem?_eq_getElem (by rw [hn.out]; exact hkl)⟩; have htk := take_full (e := e) (pl := p8) (hb4.out.trans hb4t); rw [if_pos rfl, ht] at htk; have h9o := h9.out; rw [hc8, htk] at h9o; obtain ⟨rfl, rfl, rfl, rfl⟩ : t.text = t9 ∧ k8 + 1 = k9 ∧ p8 = p9 ∧ 0 = c9 := by simpa using h9o
     subst hz; obtain ⟨g, off, rfl, hg, g0, g1, g2⟩ := hA.out k8 t ht; have i1 : (k8 : Int) < (n : Int) := by omega
     have i2 : (0 : Int) ≤ (k8 : Int) := by omega
     have w1' : IntKind.i64.wrap ((k8 : Int) + 1) = (k8 : Int) + 1 := IntWalk.i64_in _ (by omega); clear ht htk h9o hbf hc8 hb4t hkl; have hRc0 : w46.cell? (Az gR 0) = some (.slice (some (Az g off)) n c) := hR.out.cell 0; have hRf0 := hR.out.frozen 0; have hRc1 : w46.cell? (Az gR 1) = some (Iz k8) := hR.out.cell 1; have hRf1 := hR.out.frozen 1; have hRc3 : w46.cell? (Az gR 3) = some (Iz 0) := hR.out.cell 3; have hRf3 := hR.out.frozen 3; have hRl := hR.out.lt; have hCc : w46.cell? (Az gC 7) = some (S0z) := hC.out.cell 7; have hCf := hC.out.frozen 7; have hCl := hC.out.lt
     go_upto_region 21 with fail
     clear g0 g1 g2 hRc0 hRf0 hRc1 hRf1 hRc3 hRf3 hRl hCc hCf hCl; replace hR : Hid (Blk (w46.setCell (Az gC 7) (.string ⟨t.text.toArray⟩)) gR 83 (z0z (some (Az g off)) n c k8 e 0 p8)) := hR.out.far (p := (Az gC 7)) nrc _; replace hC : Hid (Blk (w46.setCell (Az gC 7) (.string ⟨t.text.toArray⟩)) gC 41 #[Sz t1, Sz t2, Sz t3, Sz t4, Sz t5, Sz t6, Sz t7, .string ⟨t.text.toArray⟩, Iz 0, Iz 0, Iz 0, Iz 0, Iz 0, Iz 0, Iz 0, .bool false, .bool false, .slice none 0 0]) := hC.out.set_ 7 (.string ⟨t.text.toArray⟩); replace hS : Hid (Below gC w1 (w46.setCell (Az gC 7) (.string ⟨t.text.toArray⟩))) := hS.out.setCell leZ _; obtain ⟨w47, hw⟩ := nmZ ((w46.setCell (Az gC 7) (.string ⟨t.text.toArray⟩))); rw [hw.out] at hR hC hS ⊢; clear hw hA; replace hA := hdZ (hA0f.out _ hS.out); have hRc0 : w47.cell? (Az gR 0) = some (.slice (some (Az g off)) n c) := hR.out.cell 0; have hRf0 := hR.out.frozen 0; have hRc1 : w47.cell? (Az gR 1) = some (Iz k8) := hR.out.cell 1; have hRf1 := hR.out.frozen 1; have hRc3 : w47.cell? (Az gR 3) = some (Iz 0) := hR.out.cell 3; have hRf3 := hR.out.frozen 3; have hRl := hR.out.lt; go_wp2_with fail
     go_meet
     case rel => exact ⟨hS.out.setCell hgl.out _, hR.out.set_ 1 (Iz ((k8 : Int) + 1)), hC.out.far (p := (Az gR 1)) ncr _⟩
    ·have b1 : (ca == 0) = false := by simp [hz]
     have hs9 : tkz e l (kdB 4) ⟨k8, p8, c8⟩ = ([], ⟨ka, pa, ca⟩) := by
      have h := ha.out
      cases bb with
      | false =>
       rw [if_neg (by simp)] at h; simp only [St.mk.injEq] at h; rw [h.1, h.2.1, h.2.2]; exact tbz hz
      | true =>
       rw [if_pos rfl] at h; have hq := hbb.out; simp only [Bool.and_eq_true, beq_iff_eq, Bool.not_eq_true'] at hq; rw [← h, hq.1]; have htk := take_full (e := e) (pl := p8) (hb4.out.trans hq.2); rw [if_neg (by simp)] at htk; exact htk
     obtain ⟨rfl, rfl, rfl, rfl⟩ : [] = t9 ∧ ka = k9 ∧ pa = p9 ∧ ca = c9 := by have h := h9.out; rw [hs9] at h; simpa using h
     clear hz hs9; go_wp2_with fail
     go_meet
     case rel => exact ⟨hS, hR, hC⟩
   case rest =>
    refine (‹∀ (a : Act) (w_1 : World), Code.wp Tryz.prog _ (bodyPost Tryz.prog _ _) a w_1 → _› : ∀ (a : Act) (w_1 : World), Code.wp Tryz.prog _ (bodyPost Tryz.prog _ _) a w_1 → _) _ _ ?_; exact phB s w hi hz0 hz1 hz2 hP1 hB1 hok hgd hn hm hN hpD hgC hgR hgP ncr nrc hgl hA0f h1 h2 h3 h4 h5 h6 h7 h8 h9 hcut
theorem rparse_any (s : ByteArray) (w : World) (hs : s.size ≤ maxLen) : Calls Tryz.prog 24 #[.string s] w (Parsed w (pDz s.data.toList)) := by
 have hln : Hid (s.data.toList.length = s.size) := by unfold Hid; simp
 have hR0 : Hid (Blk (w.alloc (.cells zeroC 41)) w.heap.size 41 zeroC) := Blk.new w 41 zeroC
 have hB0 : Hid (Below w.heap.size w (w.alloc (.cells zeroC 41))) := (Below.refl _ w).alloc leZ _
 have hsz0 : Hid ((w.alloc (.cells zeroC 41)).heap.size = w.heap.size + 1) := by unfold Hid; simp
 have hsc := hdZ (fun W => rscan_any s W hs)
 obtain ⟨i0, hi, hz0, hz1, hz2⟩ := info_parts (P := Tryz.prog) (e := 74) (z := .agg zeroD) (size := 8) (bytes := 96) (by kernel_rfl)
 unfold maxLen at hs
 have hs' := hdZ hs
 clear hs
 by_cases hbig : 4096 < s.size
 ·have b1 : decide ((4096 : Int) < (s.size : Int)) = true := by simp; omega
  have hres : Hid (pDz s.data.toList = .error (0, 7)) := by unfold Hid; rw [pDz, if_pos (by rw [hln.out]; exact hbig)]
  go_enter Tryz.func24, Tryz.ntmps24
  go_wp2_with (refine pbz rfl 41 _ _ rfl w.heap.size zeroC zeroC 41 rfl rfl hR0.out rfl i41 zc_one ?_; intro w9 hP9 hu9)
  refine bodyPost_ret (rr2z rfl _ _ w.heap.size 41 _ _ rfl hP9 Tryz.underlying41 rfl i41) rfl ?_; unfold Parsed; rw [hres.out]; exact ⟨hu9.to_below hB0.out leZ hB0.out.size, rfl, by decide⟩
 have b1 : decide ((4096 : Int) < (s.size : Int)) = false := by simp; omega
 go_enter Tryz.func24, Tryz.ntmps24
 go_wp2_with fail
 change Calls Tryz.prog 34 _ (w.alloc (.cells zeroC 41)) _
 obtain ⟨wa, hwa⟩ := nmZ (w.alloc (.cells zeroC 41))
 rw [hwa.out] at hR0 hB0 hsz0 ⊢
 clear hwa
 refine (hsc.out wa).mono ?_
 rintro x w1 ⟨hb1, hcase⟩
 have hP1 := hdZ (hR0.out.below hb1 hR0.out.lt)
 have hB1 : Hid (Below w.heap.size w w1) := hB0.out.trans (hb1.mono hB0.out.size)
 have hsz1 : Hid (w.heap.size + 1 ≤ w1.heap.size) := by have := hb1.size; have := hsz0.out; unfold Hid; omega
 have hle : Hid (w.heap.size + 1 ≤ wa.heap.size) := by have := hsz0.out; unfold Hid; omega
 clear hb1 hR0 hB0 hsc
 rcases hcase with ⟨l, v, hsc, rfl, hl, hown⟩ | ⟨k, cd, hsc, hcd, rfl⟩
 ·obtain ⟨A, c, rfl⟩ := osz hown
  have hpD : Hid (pDz s.data.toList = endC (creditD s.size l ⟨0, 0, 0⟩)) := by unfold Hid pDz; rw [if_neg (by rw [hln.out]; exact hbig), hsc, hln.out]
  have hok : Hid (TokOk l) := tokens_ok hsc (by rw [hln.out]; omega); have hgd := hdZ (scan_goodL hsc); have hA0 : Hid (TokAt w1 0 A l) := tok_own hown (by have := hle.out; omega); obtain ⟨n, hn⟩ := nmZ (l.length); have hm : n ≤ 4096 := by rw [← hn.out]; exact hl
  obtain ⟨N, hN⟩ := nmZ (2 * l.length + 2); obtain ⟨e, he⟩ := nmZ (s.size); rw [he.out] at hpD; clear hown hsc hl; rw [hn.out]; have hC0 : Hid (Blk (w1.alloc (.cells zeroC 41)) w1.heap.size 41 zeroC) := Blk.new w1 41 zeroC
  go_upto_region 7 with (refine pbz rfl 41 _ _ rfl w1.heap.size zeroC zeroC 41 rfl rfl hC0.out rfl i41 zc_one ?_; intro w2 hC2 hu2)
  have hs2 : Hid (w1.heap.size < w2.heap.size) := by have h := hu2.size; unfold Hid; simp at h; omega
  have hS2 : Hid (Below w1.heap.size w1 w2) := hu2.to_below ((Below.refl _ w1).alloc leZ _) leZ (by simp); have hC := hdZ (hC2.alloc (.cells #[.slice A n c, Iz 0, Iz s.size, Iz 0, Iz 0] 83)); have hR : Hid (Blk (w2.alloc (.cells #[.slice A n c, Iz 0, Iz s.size, Iz 0, Iz 0] 83)) w2.heap.size 83 #[.slice A n c, Iz 0, Iz s.size, Iz 0, Iz 0]) := Blk.new w2 83 _; have hS : Hid (Below w1.heap.size w1 (w2.alloc (.cells #[.slice A n c, Iz 0, Iz s.size, Iz 0, Iz 0] 83))) := hS2.out.alloc hS2.out.size _; clear hC2 hu2 hS2 hC0
  go_upto_region 8 with fail
  obtain ⟨wb, hwb⟩ := nmZ (w2.alloc (.cells #[.slice A n c, Iz 0, Iz s.size, Iz 0, Iz 0] 83)); rw [hwb.out] at hC hR hS ⊢; rw [he.out] at hR ⊢; clear hwb; obtain ⟨gC, hgC⟩ := nmZ (w1.heap.size); obtain ⟨gR, hgR0⟩ := nmZ (w2.heap.size); rw [hgC.out] at hC hS hs2 hsz1 ⊢; rw [hgR0.out] at hR hs2 ⊢; have hgR := hs2; have hgP := hsz1; have ncr : gC ≠ gR := by have := hgR.out; omega
  have nrc : gR ≠ gC := by have := hgR.out; omega
  have hgl : Hid (gC ≤ gR) := by have := hgR.out; unfold Hid; omega
  have hA0f : Hid (∀ W, Below gC w1 W → TokAt W 0 A l) := fun W h => hA0.out.below (by show Below w1.heap.size w1 W; rw [hgC.out]; exact h)
  have hA := hdZ (hA0f.out _ hS.out); obtain ⟨⟨t1, ⟨k1, p1, c1⟩⟩, h1⟩ := nmZ (lineD e l wCredit ⟨0, 0, 0⟩)
  go_upto_region 9 with (first | (go_at_call 47; refine (rnamed_any A n c l wb e hn hm hok wCredit ⟨0, 0, 0⟩ hA).mono ?_; rintro x2 w21 ⟨rfl, hbc⟩; rw [h1.out]; (try dsimp only); obtain ⟨hC, hR, hS, hA⟩ := ph_call hbc hgC hC hR hS hA) | (refine gbz rfl 83 _ rfl gR #[.slice A n c, Iz 0, Iz e, Iz 0, Iz 0] 83 _ rfl hR.out Tryz.underlying83 rfl i83 ?_) | (refine pbz rfl 83 _ _ rfl gR #[.slice A n c, Iz 0, Iz e, Iz 0, Iz 0] #[.slice A n c, Iz k1, Iz e, Iz c1, Iz p1] 83 rfl rfl hR.out rfl i83 (rdz _ _ _ _ _ _ _) ?_; intro w22 hR9 hu8; have hC9 := hdZ (hu8.blk hC.out ncr); have hCc : w22.cell? (Az gC 0) = some (S0z) := hC9.out.cell 0; have hCf := hC9.out.frozen 0; have hCl := hC9.out.lt))
  obtain ⟨w23, hw⟩ := nmZ (w22.setCell (Az gC 0) (Sz t1)); obtain ⟨hR, hC, hS, hA⟩ := ph_set (cs' := #[Sz t1, S0z, S0z, S0z, S0z, S0z, S0z, S0z, Iz 0, Iz 0, Iz 0, Iz 0, Iz 0, Iz 0, Iz 0, .bool false, .bool false, .slice none 0 0]) hw hR9 hC9 rfl hu8 hS nrc hgl hgC hA0f; rw [hw.out]; clear hw hR9 hu8 hC9 hCc hCf hCl; obtain ⟨⟨t2, ⟨k2, p2, c2⟩⟩, h2⟩ := nmZ (lineD e l wApz ⟨k1, p1, c1⟩)
  go_upto_region 10 with (first | (go_at_call 47; refine (rnamed_any A n c l w23 e hn hm hok wApz ⟨k1, p1, c1⟩ hA).mono ?_; rintro x2 w24 ⟨rfl, hbc⟩; rw [h2.out]; (try dsimp only); obtain ⟨hC, hR, hS, hA⟩ := ph_call hbc hgC hC hR hS hA) | (refine gbz rfl 83 _ rfl gR #[.slice A n c, Iz k1, Iz e, Iz c1, Iz p1] 83 _ rfl hR.out Tryz.underlying83 rfl i83 ?_) | (refine pbz rfl 83 _ _ rfl gR #[.slice A n c, Iz k1, Iz e, Iz c1, Iz p1] #[.slice A n c, Iz k2, Iz e, Iz c2, Iz p2] 83 rfl rfl hR.out rfl i83 (rdz _ _ _ _ _ _ _) ?_; intro w25 hR9 hu8; have hC9 := hdZ (hu8.blk hC.out ncr); have hCc : w25.cell? (Az gC 1) = some (S0z) := hC9.out.cell 1; have hCf := hC9.out.frozen 1; have hCl := hC9.out.lt))
  obtain ⟨w26, hw⟩ := nmZ (w25.setCell (Az gC 1) (Sz t2)); obtain ⟨hR, hC, hS, hA⟩ := ph_set (cs' := #[Sz t1, Sz t2, S0z, S0z, S0z, S0z, S0z, S0z, Iz 0, Iz 0, Iz 0, Iz 0, Iz 0, Iz 0, Iz 0, .bool false, .bool false, .slice none 0 0]) hw hR9 hC9 rfl hu8 hS nrc hgl hgC hA0f; rw [hw.out]; clear hw hR9 hu8 hC9 hCc hCf hCl; obtain ⟨⟨t3, ⟨k3, p3, c3⟩⟩, h3⟩ := nmZ (lineD e l wBnz ⟨k2, p2, c2⟩)
  go_upto_region 11 with (first | (go_at_call 47; refine (rnamed_any A n c l w26 e hn hm hok wBnz ⟨k2, p2, c2⟩ hA).mono ?_; rintro x2 w27 ⟨rfl, hbc⟩; rw [h3.out]; (try dsimp only); obtain ⟨hC, hR, hS, hA⟩ := ph_call hbc hgC hC hR hS hA) | (refine gbz rfl 83 _ rfl gR #[.slice A n c, Iz k2, Iz e, Iz c2, Iz p2] 83 _ rfl hR.out Tryz.underlying83 rfl i83 ?_) | (refine pbz rfl 83 _ _ rfl gR #[.slice A n c, Iz k2, Iz e, Iz c2, Iz p2] #[.slice A n c, Iz k3, Iz e, Iz c3, Iz p3] 83 rfl rfl hR.out rfl i83 (rdz _ _ _ _ _ _ _) ?_; intro w28 hR9 hu8; have hC9 := hdZ (hu8.blk hC.out ncr); have hCc : w28.cell? (Az gC 2) = some (S0z) := hC9.out.cell 2; have hCf := hC9.out.frozen 2; have hCl := hC9.out.lt))
  obtain ⟨w29, hw⟩ := nmZ (w28.setCell (Az gC 2) (Sz t3)); obtain ⟨hR, hC, hS, hA⟩ := ph_set (cs' := #[Sz t1, Sz t2, Sz t3, S0z, S0z, S0z, S0z, S0z, Iz 0, Iz 0, Iz 0, Iz 0, Iz 0, Iz 0, Iz 0, .bool false, .bool false, .slice none 0 0]) hw hR9 hC9 rfl hu8 hS nrc hgl hgC hA0f; rw [hw.out]; clear hw hR9 hu8 hC9 hCc hCf hCl; obtain ⟨⟨t4, ⟨k4, p4, c4⟩⟩, h4⟩ := nmZ (lineD e l wIssuer ⟨k3, p3, c3⟩)
  go_upto_region 12 with (first | (go_at_call 47; refine (rnamed_any A n c l w29 e hn hm hok wIssuer ⟨k3, p3, c3⟩ hA).mono ?_; rintro x2 w30 ⟨rfl, hbc⟩; rw [h4.out]; (try dsimp only); obtain ⟨hC, hR, hS, hA⟩ := ph_call hbc hgC hC hR hS hA) | (refine gbz rfl 83 _ rfl gR #[.slice A n c, Iz k3, Iz e, Iz c3, Iz p3] 83 _ rfl hR.out Tryz.underlying83 rfl i83 ?_) | (refine pbz rfl 83 _ _ rfl gR #[.slice A n c, Iz k3, Iz e, Iz c3, Iz p3] #[.slice A n c, Iz k4, Iz e, Iz c4, Iz p4] 83 rfl rfl hR.out rfl i83 (rdz _ _ _ _ _ _ _) ?_; intro w31 hR9 hu8; have hC9 := hdZ (hu8.blk hC.out ncr); have hCc : w31.cell? (Az gC 3) = some (S0z) := hC9.out.cell 3; have hCf := hC9.out.frozen 3; have hCl := hC9.out.lt))
  obtain ⟨w32, hw⟩ := nmZ (w31.setCell (Az gC 3) (Sz t4)); obtain ⟨hR, hC, hS, hA⟩ := ph_set (cs' := #[Sz t1, Sz t2, Sz t3, Sz t4, S0z, S0z, S0z, S0z, Iz 0, Iz 0, Iz 0, Iz 0, Iz 0, Iz 0, Iz 0, .bool false, .bool false, .slice none 0 0]) hw hR9 hC9 rfl hu8 hS nrc hgl hgC hA0f; rw [hw.out]; clear hw hR9 hu8 hC9 hCc hCf hCl; obtain ⟨⟨t5, ⟨k5, p5, c5⟩⟩, h5⟩ := nmZ (confD e l ⟨k4, p4, c4⟩); obtain ⟨bc, hbc⟩ := nmZ (isAtD l wCfz ⟨k4, p4, c4⟩)
  go_cut [67] (fun v wx => v = .bool bc ∧ Hid (w32 = wx))
  case first =>
   have hRc0 : w32.cell? (Az gR 0) = some (.slice A n c) := hR.out.cell 0; have hRf0 := hR.out.frozen 0; have hRc1 : w32.cell? (Az gR 1) = some (Iz k4) := hR.out.cell 1; have hRf1 := hR.out.frozen 1; have hRc3 : w32.cell? (Az gR 3) = some (Iz c4) := hR.out.cell 3; have hRf3 := hR.out.frozen 3; have hRl := hR.out.lt
   by_cases hz : c4 = 0
   ·have b1 : (c4 == 0) = true := by simp [hz]
    have hbe : Hid (atI (isT wCfz) l k4 = bc) := by unfold Hid; rw [← hbc.out]; unfold isAtD; simp [hz]
    clear hz
    go_wp2_with (go_at_call 48; refine (rsz A n c l w32 k4 wCfz hn hA).mono ?_; rintro x1 wx ⟨rfl, rfl⟩; rw [hbe.out])
    go_meet
    case rel => exact ⟨rfl, rfl⟩
   ·have b1 : (c4 == 0) = false := by simp [hz]
    have hbe : Hid (false = bc) := by unfold Hid; rw [← hbc.out]; unfold isAtD; simp [hz]
    clear hz; go_wp2_with fail
    go_meet
    case rel => exact ⟨by rw [hbe.out], rfl⟩
  case rest =>
   obtain ⟨rfl, hwx⟩ := hcut; rw [← hwx.out]; clear hwx
   go_upto_if 67 with fail
   go_cut [] from 14 to 251 (fun wx => Hid (Below gC w1 wx) ∧ Hid (Blk wx gR 83 #[.slice A n c, Iz k5, Iz e, Iz c5, Iz p5]) ∧ Hid (Blk wx gC 41 #[Sz t1, Sz t2, Sz t3, Sz t4, Sz t5, S0z, S0z, S0z, Iz 0, Iz 0, Iz 0, Iz 0, Iz 0, Iz 0, Iz 0, .bool false, .bool false, .slice none 0 0]))
   case first =>
    cases bc with
    | false =>
     have hcf : confD e l ⟨k4, p4, c4⟩ = ([], ⟨k4, p4, c4⟩) := by unfold confD; rw [if_neg (by rw [hbc.out]; simp)]
     obtain ⟨rfl, rfl, rfl, rfl⟩ : [] = t5 ∧ k4 = k5 ∧ p4 = p5 ∧ c4 = c5 := by have h := h5.out; rw [hcf] at h; simpa using h
     go_wp2_with fail
     go_meet
     case rel => exact ⟨hS, hR, hC⟩
    | true =>
     have hcf : confD e l ⟨k4, p4, c4⟩ = lineD e l wCfz ⟨k4, p4, c4⟩ := by unfold confD; rw [if_pos hbc.out]
     rw [hcf] at h5
     go_wp2_with (first | (go_at_call 47; refine (rnamed_any A n c l w32 e hn hm hok wCfz ⟨k4, p4, c4⟩ hA).mono ?_; rintro x2 w33 ⟨rfl, hbcx⟩; rw [h5.out]; (try dsimp only); obtain ⟨hC, hR, hS, hA⟩ := ph_call hbcx hgC hC hR hS hA) | (refine gbz rfl 83 _ rfl gR #[.slice A n c, Iz k4, Iz e, Iz c4, Iz p4] 83 _ rfl hR.out Tryz.underlying83 rfl i83 ?_) | (refine pbz rfl 83 _ _ rfl gR #[.slice A n c, Iz k4, Iz e, Iz c4, Iz p4] #[.slice A n c, Iz k5, Iz e, Iz c5, Iz p5] 83 rfl rfl hR.out rfl i83 (rdz _ _ _ _ _ _ _) ?_; intro w34 hR9 hu8; have hC9 := hdZ (hu8.blk hC.out ncr); have hCc : w34.cell? (Az gC 4) = some (S0z) := hC9.out.cell 4; have hCf := hC9.out.frozen 4; have hCl := hC9.out.lt))
     go_meet
     case rel => exact ⟨(hu8.to_below hS.out hgl.out (Nat.le_trans (Nat.le_of_eq hgC.out.symm) hS.out.size)).setCell leZ _, hR9.far (p := (Az gC 4)) nrc _, hC9.out.set_ 4 (Sz t5)⟩
   case rest =>
    refine (‹∀ (a : Act) (w_1 : World), Code.wp Tryz.prog _ (bodyPost Tryz.prog _ _) a w_1 → _› : ∀ (a : Act) (w_1 : World), Code.wp Tryz.prog _ (bodyPost Tryz.prog _ _) a w_1 → _) _ _ ?_; exact phA s w hi hz0 hz1 hz2 hP1 hB1 hok hgd hn hm hN hpD hgC hgR hgP ncr nrc hgl hA0f h1 h2 h3 h4 h5 hcut
 ·have hres : Hid (pDz s.data.toList = .error (k, cd)) := by unfold Hid pDz; rw [if_neg (by rw [hln.out]; exact hbig), hsc]
  have hcd' := hdZ hcd; have b2 : (cd != 0) = true := by simp [hcd]
  clear hcd
  go_wp2_with (refine pbz rfl 41 _ _ rfl w.heap.size zeroC zeroC 41 rfl rfl hP1.out rfl i41 zc_one ?_; intro w9 hP9 hu9)
  refine bodyPost_ret (rr2z rfl _ _ w.heap.size 41 _ _ rfl hP9 Tryz.underlying41 rfl i41) rfl ?_; unfold Parsed; rw [hres.out]; exact ⟨hu9.to_below hB1.out leZ hB1.out.size, rfl, hcd'.out⟩
end Go.Proofs.YtjkmhlfjheiekaaGreatDoor

import Derived.Test.YtjkmhlfjheiekaaGreatDoorPhb
namespace Go.Proofs.YtjkmhlfjheiekaaGreatDoor
open Go Go.RowKit Go.BigFrame Go.Maps
noncomputable def codeA : Code := (Tryz.f24.body.bind (fromR 14)).getD .skip
set_option maxRecDepth 1000000 in
set_option maxHeartbeats 51200000 in
theorem phA (s : ByteArray) (w : World) {i0 : TypeInfo} (hi : Tryz.prog.info? 74 = some i0) (hz0 : i0.zero = some (.agg zeroD)) (hz1 : i0.size = 8) (hz2 : i0.bytes = 96) {w1 : World} {l : List Tok} {A : Option Addr} {c n N e gC gR : Nat}
  (hP1 : Hid (Blk w1 w.heap.size 41 zeroC)) (hB1 : Hid (Below w.heap.size w w1)) (hok : Hid (TokOk l)) (hgd : Hid (GoodL l)) (hn : Hid (l.length = n)) (hm : n ≤ 4096) (hN : Hid (2 * l.length + 2 = N)) (hpD : Hid (parseT_D s.data.toList = endC (creditD e l ⟨0, 0, 0⟩))) (hgC : Hid (w1.heap.size = gC)) (hgR : Hid (gC < gR)) (hgP : Hid (w.heap.size + 1 ≤ gC)) (ncr : gC ≠ gR) (nrc : gR ≠ gC) (hgl : Hid (gC ≤ gR)) (hA0f : Hid (∀ W, Below gC w1 W → TokAt W 0 A l))
  {t1 t2 t3 t4 t5 : Txt} {k1 p1 k2 p2 k3 p3 k4 p4 k5 p5 : Nat} {c1 c2 c3 c4 c5 : Int}
  (h1 : Hid (lineD e l wCredit ⟨0, 0, 0⟩ = (t1, ⟨k1, p1, c1⟩))) (h2 : Hid (lineD e l wApplicant ⟨k1, p1, c1⟩ = (t2, ⟨k2, p2, c2⟩))) (h3 : Hid (lineD e l wBeneficiary ⟨k2, p2, c2⟩ = (t3, ⟨k3, p3, c3⟩))) (h4 : Hid (lineD e l wIssuer ⟨k3, p3, c3⟩ = (t4, ⟨k4, p4, c4⟩))) (h5 : Hid (confD e l ⟨k4, p4, c4⟩ = (t5, ⟨k5, p5, c5⟩)))
  {u10 u11 u12 u13 u14 u15 u16 u17 u18 u19 u20 u21 u22 u23 u24 u25 u26 u27 u28 u29 u30 u31 u32 u33 u34 u35 u36 u37 u38 u39 u40 u41 u42 u43 u44 u45 u46 u47 u48 u49 u50 u51 u52 u53 u54 u55 u56 u57 u58 u59 u60 u61 u62 u63 u64 u65 u66 u67 u68 u69 u70 u71 u72 u73 u74 u75 u76 u77 u78 u79 u80 u81 u82 u83 u84 u85 u86 u87 u88 u89 u90 u91 u92 u93 u94 u95 u96 u97 u98 u99 u100 u101 u102 u103 u104 u105 u106 u107 u108 u109 u110 u111 u112 u113 u114 u115 u116 u117 u118 u119 u120 u121 u122 u123 u124 u125 u126 u127 u128 u129 u130 u131 u132 u133 u134 u135 u136 u137 u138 u139 u140 u141 u142 u143 u144 u145 u146 u147 u148 u149 u150 u151 u152 u153 u154 u155 u156 u157 u158 u159 u160 u161 u162 u163 u164 u165 u166 u167 u168 u169 u170 u171 u172 u173 u174 u175 u176 u177 u178 u179 u180 u181 u182 u183 u184 u185 u186 u187 u188 u189 u190 u191 u192 u193 u194 u195 u196 u197 u198 u199 u200 u201 u202 u203 u204 u205 u206 u207 u208 u209 u210 u211 u212 u213 u214 u215 u216 u217 u218 u219 u220 u221 u222 u223 u224 u225 u226 u227 u228 u229 u230 u231 u232 u233 u234 u235 u236 u237 u238 u239 u240 u241 u242 u243 u244 u245 u246 u247 u248 u249 u250 u251 u252 : Value} {wc : World} (hcut : Hid (Below gC w1 wc) ∧ Hid (Blk wc gR 83 #[.slice A n c, .int .i64 k5, .int .i64 e, .int .i64 c5, .int .i64 p5]) ∧ Hid (Blk wc gC 41 #[.string ⟨t1.toArray⟩, .string ⟨t2.toArray⟩, .string ⟨t3.toArray⟩, .string ⟨t4.toArray⟩, .string ⟨t5.toArray⟩, .string ⟨#[]⟩, .string ⟨#[]⟩, .string ⟨#[]⟩, .int .i64 0, .int .i64 0, .int .i64 0, .int .i64 0, .int .i64 0, .int .i64 0, .int .i64 0, .bool false, .bool false, .slice none 0 0])) :
  Code.wp Tryz.prog codeA (bodyPost Tryz.prog Tryz.f24 (Parsed w (parseT_D s.data.toList))) ⟨#[.string s, undef, .pointer (some ⟨w.heap.size, 0, none⟩), .int .i64 0, .int .i64 0, .slice A n c, .int .i64 e, .int .i64 0, .pointer (some ⟨gC, 0, none⟩), .pointer (some ⟨gR, 0, none⟩), u10, u11, u12, u13, u14, u15, u16, u17, u18, u19, u20, u21, u22, u23, u24, u25, u26, u27, u28, u29, u30, u31, u32, u33, u34, u35, u36, u37, u38, u39, u40, u41, u42, u43, u44, u45, u46, u47, u48, u49, u50, u51, u52, u53, u54, u55, u56, u57, u58, u59, u60, u61, u62, u63, u64, u65, u66, u67, u68, u69, u70, u71, u72, u73, u74, u75, u76, u77, u78, u79, u80, u81, u82, u83, u84, u85, u86, u87, u88, u89, u90, u91, u92, u93, u94, u95, u96, u97, u98, u99, u100, u101, u102, u103, u104, u105, u106, u107, u108, u109, u110, u111, u112, u113, u114, u115, u116, u117, u118, u119, u120, u121, u122, u123, u124, u125, u126, u127, u128, u129, u130, u131, u132, u133, u134, u135, u136, u137, u138, u139, u140, u141, u142, u143, u144, u145, u146, u147, u148, u149, u150, u151, u152, u153, u154, u155, u156, u157, u158, u159, u160, u161, u162, u163, u164, u165, u166, u167, u168, u169, u170, u171, u172, u173, u174, u175, u176, u177, u178, u179, u180, u181, u182, u183, u184, u185, u186, u187, u188, u189, u190, u191, u192, u193, u194, u195, u196, u197, u198, u199, u200, u201, u202, u203, u204, u205, u206, u207, u208, u209, u210, u211, u212, u213, u214, u215, u216, u217, u218, u219, u220, u221, u222, u223, u224, u225, u226, u227, u228, u229, u230, u231, u232, u233, u234, u235, u236, u237, u238, u239, u240, u241, u242, u243, u244, u245, u246, u247, u248, u249, u250, u251, u252], []⟩ wc := by
 conv => arg 2; whnf
 obtain ⟨hS, hR, hC⟩ := hcut
 obtain ⟨w35, hw5⟩ : ∃ y, wc = y := ⟨_, rfl⟩
 rw [hw5] at hS hR hC ⊢
 clear hw5
 replace hA := hd9 (hA0f.out _ hS.out)
 go_upto_region 14 with fail
 obtain ⟨⟨t6, ⟨k6, p6, c6⟩⟩, h6⟩ : ∃ r, Hid (lineD e l wFrom ⟨k5, p5, c5⟩ = r) := ⟨_, hd9 rfl⟩
 go_upto_region 15 with (first | (go_at_call 47; refine (rnamed_any A n c l w35 e hn hm hok wFrom ⟨k5, p5, c5⟩ hA).mono ?_; rintro x2 w36 ⟨rfl, hbc⟩; rw [h6.out]; (try dsimp only); replace hC := hd9 (hC.out.below hbc hC.out.lt); replace hR := hd9 (hR.out.below hbc hR.out.lt); replace hS := hd9 (hS.out.trans (hbc.mono (Nat.le_trans (Nat.le_of_eq hgC.out.symm) hS.out.size))); replace hA := hd9 (hA.out.below hbc)) | (refine wpList_get_blk rfl 83 _ rfl gR #[.slice A n c, .int .i64 k5, .int .i64 e, .int .i64 c5, .int .i64 p5] 83 _ rfl hR.out Tryz.underlying83 rfl i83 ?_) | (refine wpList_put_blk rfl 83 _ _ rfl gR #[.slice A n c, .int .i64 k5, .int .i64 e, .int .i64 c5, .int .i64 p5] #[.slice A n c, .int .i64 k6, .int .i64 e, .int .i64 c6, .int .i64 p6] 83 rfl rfl hR.out rfl i83 (rd_one _ _ _ _ _ _ _) ?_; intro w37 hR9 hu8; have hC9 := hd9 (hu8.blk hC.out ncr); have hCc : w37.cell? ⟨gC, 5, none⟩ = some (.string ⟨#[]⟩) := hC9.out.cell 5; have hCf := hC9.out.frozen 5; have hCl := hC9.out.lt))
 replace hR : Hid (Blk (w37.setCell ⟨gC, 5, none⟩ (.string ⟨t6.toArray⟩)) gR 83 #[.slice A n c, .int .i64 k6, .int .i64 e, .int .i64 c6, .int .i64 p6]) := hR9.far (p := ⟨gC, 5, none⟩) nrc _
 replace hC : Hid (Blk (w37.setCell ⟨gC, 5, none⟩ (.string ⟨t6.toArray⟩)) gC 41 #[.string ⟨t1.toArray⟩, .string ⟨t2.toArray⟩, .string ⟨t3.toArray⟩, .string ⟨t4.toArray⟩, .string ⟨t5.toArray⟩, .string ⟨t6.toArray⟩, .string ⟨#[]⟩, .string ⟨#[]⟩, .int .i64 0, .int .i64 0, .int .i64 0, .int .i64 0, .int .i64 0, .int .i64 0, .int .i64 0, .bool false, .bool false, .slice none 0 0]) := hC9.out.set_ 5 (.string ⟨t6.toArray⟩)
 replace hS : Hid (Below gC w1 (w37.setCell ⟨gC, 5, none⟩ (.string ⟨t6.toArray⟩))) := (hu8.to_below hS.out hgl.out (Nat.le_trans (Nat.le_of_eq hgC.out.symm) hS.out.size)).setCell le9 _
 obtain ⟨w38, hw⟩ : ∃ x, Hid ((w37.setCell ⟨gC, 5, none⟩ (.string ⟨t6.toArray⟩)) = x) := ⟨_, hd9 rfl⟩
 rw [hw.out] at hR hC hS ⊢
 clear hw hA hR9 hu8 hC9 hCc hCf hCl
 replace hA := hd9 (hA0f.out _ hS.out)
 obtain ⟨⟨t7, ⟨k7, p7, c7⟩⟩, h7⟩ : ∃ r, Hid (lineD e l wTo ⟨k6, p6, c6⟩ = r) := ⟨_, hd9 rfl⟩
 go_upto_region 16 with (first | (go_at_call 47; refine (rnamed_any A n c l w38 e hn hm hok wTo ⟨k6, p6, c6⟩ hA).mono ?_; rintro x2 w39 ⟨rfl, hbc⟩; rw [h7.out]; (try dsimp only); replace hC := hd9 (hC.out.below hbc hC.out.lt); replace hR := hd9 (hR.out.below hbc hR.out.lt); replace hS := hd9 (hS.out.trans (hbc.mono (Nat.le_trans (Nat.le_of_eq hgC.out.symm) hS.out.size))); replace hA := hd9 (hA.out.below hbc)) | (refine wpList_get_blk rfl 83 _ rfl gR #[.slice A n c, .int .i64 k6, .int .i64 e, .int .i64 c6, .int .i64 p6] 83 _ rfl hR.out Tryz.underlying83 rfl i83 ?_) | (refine wpList_put_blk rfl 83 _ _ rfl gR #[.slice A n c, .int .i64 k6, .int .i64 e, .int .i64 c6, .int .i64 p6] #[.slice A n c, .int .i64 k7, .int .i64 e, .int .i64 c7, .int .i64 p7] 83 rfl rfl hR.out rfl i83 (rd_one _ _ _ _ _ _ _) ?_; intro w40 hR9 hu8; have hC9 := hd9 (hu8.blk hC.out ncr); have hCc : w40.cell? ⟨gC, 6, none⟩ = some (.string ⟨#[]⟩) := hC9.out.cell 6; have hCf := hC9.out.frozen 6; have hCl := hC9.out.lt))
 replace hR : Hid (Blk (w40.setCell ⟨gC, 6, none⟩ (.string ⟨t7.toArray⟩)) gR 83 #[.slice A n c, .int .i64 k7, .int .i64 e, .int .i64 c7, .int .i64 p7]) := hR9.far (p := ⟨gC, 6, none⟩) nrc _
 replace hC : Hid (Blk (w40.setCell ⟨gC, 6, none⟩ (.string ⟨t7.toArray⟩)) gC 41 #[.string ⟨t1.toArray⟩, .string ⟨t2.toArray⟩, .string ⟨t3.toArray⟩, .string ⟨t4.toArray⟩, .string ⟨t5.toArray⟩, .string ⟨t6.toArray⟩, .string ⟨t7.toArray⟩, .string ⟨#[]⟩, .int .i64 0, .int .i64 0, .int .i64 0, .int .i64 0, .int .i64 0, .int .i64 0, .int .i64 0, .bool false, .bool false, .slice none 0 0]) := hC9.out.set_ 6 (.string ⟨t7.toArray⟩)
 replace hS : Hid (Below gC w1 (w40.setCell ⟨gC, 6, none⟩ (.string ⟨t7.toArray⟩))) := (hu8.to_below hS.out hgl.out (Nat.le_trans (Nat.le_of_eq hgC.out.symm) hS.out.size)).setCell le9 _
 obtain ⟨w41, hw⟩ : ∃ x, Hid ((w40.setCell ⟨gC, 6, none⟩ (.string ⟨t7.toArray⟩)) = x) := ⟨_, hd9 rfl⟩
 rw [hw.out] at hR hC hS ⊢
 clear hw hA hR9 hu8 hC9 hCc hCf hCl
 replace hA := hd9 (hA0f.out _ hS.out)
 obtain ⟨⟨k8, p8, c8⟩, h8⟩ : ∃ r, Hid ((takeS e l (isT wSum) ⟨k7, p7, c7⟩).2 = r) := ⟨_, hd9 rfl⟩
 go_upto_region 17 with (first | (go_at_call 49; refine (rwd_any A n c l w41 e hn hm wSum ⟨k7, p7, c7⟩ hA).mono ?_; rintro x2 w42 ⟨rfl, hbc⟩; rw [h8.out]; replace hC := hd9 (hC.out.below hbc hC.out.lt); replace hR := hd9 (hR.out.below hbc hR.out.lt); replace hS := hd9 (hS.out.trans (hbc.mono (Nat.le_trans (Nat.le_of_eq hgC.out.symm) hS.out.size))); replace hA := hd9 (hA.out.below hbc)) | (refine wpList_get_blk rfl 83 _ rfl gR #[.slice A n c, .int .i64 k7, .int .i64 e, .int .i64 c7, .int .i64 p7] 83 _ rfl hR.out Tryz.underlying83 rfl i83 ?_) | (refine wpList_put_blk rfl 83 _ _ rfl gR #[.slice A n c, .int .i64 k7, .int .i64 e, .int .i64 c7, .int .i64 p7] #[.slice A n c, .int .i64 k8, .int .i64 e, .int .i64 c8, .int .i64 p8] 83 rfl rfl hR.out rfl i83 (rd_one _ _ _ _ _ _ _) ?_; intro w43 hR9 hu8))
 replace hR := hd9 hR9
 replace hC := hd9 (hu8.blk hC.out ncr)
 replace hS : Hid (Below gC w1 w43) := hu8.to_below hS.out hgl.out (Nat.le_trans (Nat.le_of_eq hgC.out.symm) hS.out.size)
 clear hR9 hu8 hA
 replace hA := hd9 (hA0f.out _ hS.out)
 obtain ⟨⟨t9, ⟨k9, p9, c9⟩⟩, h9⟩ : ∃ r, Hid (takeS e l (kindB 4) ⟨k8, p8, c8⟩ = r) := ⟨_, hd9 rfl⟩
 obtain ⟨b4, hb4⟩ : ∃ b, Hid (atI (kindB 4) l k8 = b) := ⟨_, hd9 rfl⟩
 go_simp
 go_cut [106] (fun v wx => v = .bool ((c8 == 0) && !b4) ∧ Hid (w43 = wx))
 case first => as_aux_lemma =>
  have hRc0 : w43.cell? ⟨gR, 0, none⟩ = some (.slice A n c) := hR.out.cell 0
  have hRf0 := hR.out.frozen 0
  have hRc1 : w43.cell? ⟨gR, 1, none⟩ = some (.int .i64 k8) := hR.out.cell 1
  have hRf1 := hR.out.frozen 1
  have hRc3 : w43.cell? ⟨gR, 3, none⟩ = some (.int .i64 c8) := hR.out.cell 3
  have hRf3 := hR.out.frozen 3
  have hRl := hR.out.lt
  by_cases hz : c8 = 0
  ·have b1 : (c8 == 0) = true := by simp [hz]
   have e1 := hd9 b1
   clear hz
   by_cases hkl : k8 < n
   ·obtain ⟨t, ht⟩ : ∃ t, l[k8]? = some t := ⟨_, List.getElem?_eq_getElem (by rw [hn.out]; exact hkl)⟩
    have hkd : Hid ((t.kind != 4) = !b4) := by unfold Hid; rw [← hb4.out, atI_some ht]; rfl
    obtain ⟨tk, htk⟩ : ∃ q, Hid (t.kind = q) := ⟨_, hd9 rfl⟩
    obtain ⟨g, off, rfl, hg, g0, g1, g2⟩ := hA.out k8 t ht
    rw [htk.out] at hkd g0
    obtain ⟨nb, hnb⟩ : ∃ q, Hid ((tk != 4) = q) := ⟨_, hd9 rfl⟩
    have hnb2 := hnb.out
    have i1 : (k8 : Int) < (n : Int) := by omega
    have i2 : (0 : Int) ≤ (k8 : Int) := by omega
    have b2 : decide ((n : Int) ≤ (k8 : Int)) = false := by simp; omega
    have b3 : ¬ n ≤ k8 := by omega
    clear ht g1 g2
    go_wp2_with fail
    go_meet
    case rel => exact ⟨by rw [e1.out, ← hkd.out, hnb.out]; rfl, rfl⟩
   ·have hkb : Hid (b4 = false) := by rw [← hb4.out, atI_none (by rw [hn.out]; omega)]; exact hd9 rfl
    have b2 : decide ((n : Int) ≤ (k8 : Int)) = true := by simp; omega
    have b3 : n ≤ k8 := by omega
    go_wp2_with fail
    go_meet
    case rel => exact ⟨by rw [e1.out, hkb.out]; rfl, rfl⟩
  ·have b1 : (c8 == 0) = false := by simp [hz]
   have e1 := hd9 b1
   clear hz
   go_wp2_with fail
   go_meet
   case rel => exact ⟨by rw [e1.out]; rfl, rfl⟩
 case rest =>
  obtain ⟨rfl, hwx⟩ := hcut
  rw [← hwx.out]
  clear hwx
  obtain ⟨⟨ka, pa, ca⟩, ha⟩ : ∃ s : St, Hid ((if ((c8 == 0) && !b4) = true then ⟨k8, placeI e l k8, 2⟩ else ⟨k8, p8, c8⟩ : St) = s) := ⟨_, hd9 rfl⟩
  obtain ⟨bb, hbb⟩ : ∃ b, Hid (((c8 == 0) && !b4) = b) := ⟨_, hd9 rfl⟩
  rw [hbb.out] at ha ⊢
  go_upto_if 106 with fail
  go_cut [] from 14 to 251 (fun wx => Hid (Below gC w1 wx) ∧ Hid (Blk wx gR 83 #[.slice A n c, .int .i64 ka, .int .i64 e, .int .i64 ca, .int .i64 pa]) ∧ Hid (Blk wx gC 41 #[.string ⟨t1.toArray⟩, .string ⟨t2.toArray⟩, .string ⟨t3.toArray⟩, .string ⟨t4.toArray⟩, .string ⟨t5.toArray⟩, .string ⟨t6.toArray⟩, .string ⟨t7.toArray⟩, .string ⟨#[]⟩, .int .i64 0, .int .i64 0, .int .i64 0, .int .i64 0, .int .i64 0, .int .i64 0, .int .i64 0, .bool false, .bool false, .slice none 0 0]))
  case first => as_aux_lemma =>
   cases bb with
   | false =>
    obtain ⟨rfl, rfl, rfl⟩ : k8 = ka ∧ p8 = pa ∧ c8 = ca := by have h := ha.out; rw [if_neg (by simp)] at h; simpa using h
    go_wp2_with fail
    go_meet
    case rel => exact ⟨hS, hR, hC⟩
   | true =>
    obtain ⟨rfl, rfl, rfl⟩ : k8 = ka ∧ placeI e l k8 = pa ∧ 2 = ca := by have h := ha.out; rw [if_pos rfl] at h; simpa using h
    have hc8 : c8 = 0 := by have h := hbb.out; simp at h; exact h.1
    have hst : Hid (failS ⟨k8, p8, c8⟩ (placeI e l k8) 2 = ⟨k8, placeI e l k8, 2⟩) := by unfold Hid failS; rw [if_pos hc8]
    clear hc8
    have hRc1 : w43.cell? ⟨gR, 1, none⟩ = some (.int .i64 k8) := hR.out.cell 1
    have hRf1 := hR.out.frozen 1
    have hRl := hR.out.lt
    go_wp2_with (first | (go_at_call 50; refine (stop_any A n c l w43 e hn ⟨k8, p8, c8⟩ k8 2 hA).mono ?_; rintro x2 w44 ⟨rfl, hbs⟩; rw [hst.out]; replace hC := hd9 (hC.out.below hbs hC.out.lt); replace hR := hd9 (hR.out.below hbs hR.out.lt); replace hS := hd9 (hS.out.trans (hbs.mono (Nat.le_trans (Nat.le_of_eq hgC.out.symm) hS.out.size))); replace hA := hd9 (hA.out.below hbs)) | (refine wpList_get_blk rfl 83 _ rfl gR #[.slice A n c, .int .i64 k8, .int .i64 e, .int .i64 c8, .int .i64 p8] 83 _ rfl hR.out Tryz.underlying83 rfl i83 ?_) | (refine wpList_put_blk rfl 83 _ _ rfl gR #[.slice A n c, .int .i64 k8, .int .i64 e, .int .i64 c8, .int .i64 p8] #[.slice A n c, .int .i64 k8, .int .i64 e, .int .i64 2, .int .i64 (placeI e l k8 : Nat)] 83 rfl rfl hR.out rfl i83 (rd_one _ _ _ _ _ _ _) ?_; intro w45 hR9 hu8))
    go_meet
    case rel => exact ⟨hu8.to_below hS.out hgl.out (Nat.le_trans (Nat.le_of_eq hgC.out.symm) hS.out.size), hR9, hu8.blk hC.out ncr⟩
  case rest =>
   obtain ⟨hS, hR, hC⟩ := hcut
   obtain ⟨w46, hw5⟩ : ∃ y, wc = y := ⟨_, rfl⟩
   rw [hw5] at hS hR hC ⊢
   clear hw5
   replace hA := hd9 (hA0f.out _ hS.out)
   have hRc3 : w46.cell? ⟨gR, 3, none⟩ = some (.int .i64 ca) := hR.out.cell 3
   have hRf3 := hR.out.frozen 3
   have hRl := hR.out.lt
   go_upto_if 113 with fail
   clear hRc3 hRf3 hRl
   go_cut [] from 14 to 251 (fun wx => Hid (Below gC w1 wx) ∧ Hid (Blk wx gR 83 #[.slice A n c, .int .i64 k9, .int .i64 e, .int .i64 c9, .int .i64 p9]) ∧ Hid (Blk wx gC 41 #[.string ⟨t1.toArray⟩, .string ⟨t2.toArray⟩, .string ⟨t3.toArray⟩, .string ⟨t4.toArray⟩, .string ⟨t5.toArray⟩, .string ⟨t6.toArray⟩, .string ⟨t7.toArray⟩, .string ⟨t9.toArray⟩, .int .i64 0, .int .i64 0, .int .i64 0, .int .i64 0, .int .i64 0, .int .i64 0, .int .i64 0, .bool false, .bool false, .slice none 0 0]))
   case first => as_aux_lemma =>
    by_cases hz : ca = 0
    ·have b1 : (ca == 0) = true := by simp [hz]
     have hgood : bb = false ∧ k8 = ka ∧ p8 = pa ∧ c8 = 0 := by
      have h := ha.out
      cases bb with
      | true => rw [if_pos rfl] at h; have := congrArg St.cd h; simp only at this; omega
      | false => rw [if_neg (by simp)] at h; simp only [St.mk.injEq] at h; exact ⟨rfl, h.1, h.2.1, by rw [h.2.2]; exact hz⟩
     obtain ⟨hbf, rfl, rfl, hc8⟩ := hgood
     have hb4t : b4 = true := by have h := hbb.out; rw [hbf, hc8] at h; simpa using h
     have hkl : k8 < n := by
      rcases Nat.lt_or_ge k8 n with h | h
      ·exact h
      ·exact absurd (hb4.out.trans hb4t) (by rw [atI_none (by rw [hn.out]; exact h)]; simp)
     obtain ⟨t, ht⟩ : ∃ t, l[k8]? = some t := ⟨_, List.getElem?_eq_getElem (by rw [hn.out]; exact hkl)⟩
     have htk := take_full (e := e) (pl := p8) (hb4.out.trans hb4t)
     rw [if_pos rfl, ht] at htk
     have h9o := h9.out
     rw [hc8, htk] at h9o
     obtain ⟨rfl, rfl, rfl, rfl⟩ : t.text = t9 ∧ k8 + 1 = k9 ∧ p8 = p9 ∧ 0 = c9 := by simpa using h9o
     subst hz
     obtain ⟨g, off, rfl, hg, g0, g1, g2⟩ := hA.out k8 t ht
     have i1 : (k8 : Int) < (n : Int) := by omega
     have i2 : (0 : Int) ≤ (k8 : Int) := by omega
     have w1' : IntKind.i64.wrap ((k8 : Int) + 1) = (k8 : Int) + 1 := IntWalk.i64_in _ (by omega)
     clear ht htk h9o hbf hc8 hb4t hkl
     have hRc0 : w46.cell? ⟨gR, 0, none⟩ = some (.slice (some ⟨g, off, none⟩) n c) := hR.out.cell 0
     have hRf0 := hR.out.frozen 0
     have hRc1 : w46.cell? ⟨gR, 1, none⟩ = some (.int .i64 k8) := hR.out.cell 1
     have hRf1 := hR.out.frozen 1
     have hRc3 : w46.cell? ⟨gR, 3, none⟩ = some (.int .i64 0) := hR.out.cell 3
     have hRf3 := hR.out.frozen 3
     have hRl := hR.out.lt
     have hCc : w46.cell? ⟨gC, 7, none⟩ = some (.string ⟨#[]⟩) := hC.out.cell 7
     have hCf := hC.out.frozen 7
     have hCl := hC.out.lt
     go_upto_region 21 with fail
     clear g0 g1 g2 hRc0 hRf0 hRc1 hRf1 hRc3 hRf3 hRl hCc hCf hCl
     replace hR : Hid (Blk (w46.setCell ⟨gC, 7, none⟩ (.string ⟨t.text.toArray⟩)) gR 83 #[.slice (some ⟨g, off, none⟩) n c, .int .i64 k8, .int .i64 e, .int .i64 0, .int .i64 p8]) := hR.out.far (p := ⟨gC, 7, none⟩) nrc _
     replace hC : Hid (Blk (w46.setCell ⟨gC, 7, none⟩ (.string ⟨t.text.toArray⟩)) gC 41 #[.string ⟨t1.toArray⟩, .string ⟨t2.toArray⟩, .string ⟨t3.toArray⟩, .string ⟨t4.toArray⟩, .string ⟨t5.toArray⟩, .string ⟨t6.toArray⟩, .string ⟨t7.toArray⟩, .string ⟨t.text.toArray⟩, .int .i64 0, .int .i64 0, .int .i64 0, .int .i64 0, .int .i64 0, .int .i64 0, .int .i64 0, .bool false, .bool false, .slice none 0 0]) := hC.out.set_ 7 (.string ⟨t.text.toArray⟩)
     replace hS : Hid (Below gC w1 (w46.setCell ⟨gC, 7, none⟩ (.string ⟨t.text.toArray⟩))) := hS.out.setCell le9 _
     obtain ⟨w47, hw⟩ : ∃ x, Hid ((w46.setCell ⟨gC, 7, none⟩ (.string ⟨t.text.toArray⟩)) = x) := ⟨_, hd9 rfl⟩
     rw [hw.out] at hR hC hS ⊢
     clear hw hA
     replace hA := hd9 (hA0f.out _ hS.out)
     have hRc0 : w47.cell? ⟨gR, 0, none⟩ = some (.slice (some ⟨g, off, none⟩) n c) := hR.out.cell 0
     have hRf0 := hR.out.frozen 0
     have hRc1 : w47.cell? ⟨gR, 1, none⟩ = some (.int .i64 k8) := hR.out.cell 1
     have hRf1 := hR.out.frozen 1
     have hRc3 : w47.cell? ⟨gR, 3, none⟩ = some (.int .i64 0) := hR.out.cell 3
     have hRf3 := hR.out.frozen 3
     have hRl := hR.out.lt
     go_wp2_with fail
     go_meet
     case rel => exact ⟨hS.out.setCell hgl.out _, hR.out.set_ 1 (.int .i64 ((k8 : Int) + 1)), hC.out.far (p := ⟨gR, 1, none⟩) ncr _⟩
    ·have b1 : (ca == 0) = false := by simp [hz]
     have hs9 : takeS e l (kindB 4) ⟨k8, p8, c8⟩ = ([], ⟨ka, pa, ca⟩) := by
      have h := ha.out
      cases bb with
      | false =>
       rw [if_neg (by simp)] at h
       simp only [St.mk.injEq] at h
       rw [h.1, h.2.1, h.2.2]
       exact take_bad hz
      | true =>
       rw [if_pos rfl] at h
       have hq := hbb.out
       simp only [Bool.and_eq_true, beq_iff_eq, Bool.not_eq_true'] at hq
       rw [← h, hq.1]
       have htk := take_full (e := e) (pl := p8) (hb4.out.trans hq.2)
       rw [if_neg (by simp)] at htk
       exact htk
     obtain ⟨rfl, rfl, rfl, rfl⟩ : [] = t9 ∧ ka = k9 ∧ pa = p9 ∧ ca = c9 := by have h := h9.out; rw [hs9] at h; simpa using h
     clear hz hs9
     go_wp2_with fail
     go_meet
     case rel => exact ⟨hS, hR, hC⟩
   case rest =>
    refine (‹∀ (a : Act) (w_1 : World), Code.wp Tryz.prog _ (bodyPost Tryz.prog _ _) a w_1 → _› : ∀ (a : Act) (w_1 : World), Code.wp Tryz.prog _ (bodyPost Tryz.prog _ _) a w_1 → _) _ _ ?_
    exact phB s w hi hz0 hz1 hz2 hP1 hB1 hok hgd hn hm hN hpD hgC hgR hgP ncr nrc hgl hA0f h1 h2 h3 h4 h5 h6 h7 h8 h9 hcut
end Go.Proofs.YtjkmhlfjheiekaaGreatDoor

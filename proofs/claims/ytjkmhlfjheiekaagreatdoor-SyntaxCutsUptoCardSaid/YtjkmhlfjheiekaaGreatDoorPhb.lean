import Derived.Test.YtjkmhlfjheiekaaGreatDoorPhc
set_option maxRecDepth 1000000
set_option maxHeartbeats 51200000
namespace Go.Proofs.YtjkmhlfjheiekaaGreatDoor
open Go Go.RowKit Go.BigFrame Go.Maps
noncomputable def codeB : Code := (Tryz.f24.body.bind (fromR 22)).getD .skip
theorem phB (s : ByteArray) (w : World) {i0 : TypeInfo} (hi : Tryz.prog.info? 74 = some i0) (hz0 : i0.zero = some (.agg zeroD)) (hz1 : i0.size = 8) (hz2 : i0.bytes = 96) {w1 : World} {l : List Tok} {A : Option Addr} {c n N e gC gR : Nat}
  (hP1 : Hid (Blk w1 w.heap.size 41 zeroC)) (hB1 : Hid (Bz w w1)) (hok : Hid (TokOk l)) (hgd : Hid (GoodL l)) (hn : Hid (l.length = n)) (hm : n ≤ 4096) (hN : Hid (2 * l.length + 2 = N)) (hpD : Hid (pDz s.data.toList = endC (creditD e l ⟨0, 0, 0⟩))) (hgC : Hid (w1.heap.size = gC)) (hgR : Hid (gC < gR)) (hgP : Hid (w.heap.size + 1 ≤ gC)) (ncr : gC ≠ gR) (nrc : gR ≠ gC) (hgl : Hid (gC ≤ gR)) (hA0f : Hid (∀ W, Below gC w1 W → TokAt W 0 A l))
  {t1 t2 t3 t4 t5 t6 t7 t9 : Txt} {k1 p1 k2 p2 k3 p3 k4 p4 k5 p5 k6 p6 k7 p7 k8 p8 k9 p9 : Nat} {c1 c2 c3 c4 c5 c6 c7 c8 c9 : Int}
  (h1 : Hid (lineD e l wCredit ⟨0, 0, 0⟩ = (t1, ⟨k1, p1, c1⟩))) (h2 : Hid (lineD e l wApz ⟨k1, p1, c1⟩ = (t2, ⟨k2, p2, c2⟩))) (h3 : Hid (lineD e l wBnz ⟨k2, p2, c2⟩ = (t3, ⟨k3, p3, c3⟩))) (h4 : Hid (lineD e l wIssuer ⟨k3, p3, c3⟩ = (t4, ⟨k4, p4, c4⟩))) (h5 : Hid (confD e l ⟨k4, p4, c4⟩ = (t5, ⟨k5, p5, c5⟩))) (h6 : Hid (lineD e l wFrom ⟨k5, p5, c5⟩ = (t6, ⟨k6, p6, c6⟩))) (h7 : Hid (lineD e l wTo ⟨k6, p6, c6⟩ = (t7, ⟨k7, p7, c7⟩))) (h8 : Hid ((tkz e l (isT wSum) ⟨k7, p7, c7⟩).2 = ⟨k8, p8, c8⟩)) (h9 : Hid (tkz e l (kdB 4) ⟨k8, p8, c8⟩ = (t9, ⟨k9, p9, c9⟩)))
  {u10 u11 u12 u13 u14 u15 u16 u17 u18 u19 u20 u21 u22 u23 u24 u25 u26 u27 u28 u29 u30 u31 u32 u33 u34 u35 u36 u37 u38 u39 u40 u41 u42 u43 u44 u45 u46 u47 u48 u49 u50 u51 u52 u53 u54 u55 u56 u57 u58 u59 u60 u61 u62 u63 u64 u65 u66 u67 u68 u69 u70 u71 u72 u73 u74 u75 u76 u77 u78 u79 u80 u81 u82 u83 u84 u85 u86 u87 u88 u89 u90 u91 u92 u93 u94 u95 u96 u97 u98 u99 u100 u101 u102 u103 u104 u105 u106 u107 u108 u109 u110 u111 u112 u113 u114 u115 u116 u117 u118 u119 u120 u121 u122 u123 u124 u125 u126 u127 u128 u129 u130 u131 u132 u133 u134 u135 u136 u137 u138 u139 u140 u141 u142 u143 u144 u145 u146 u147 u148 u149 u150 u151 u152 u153 u154 u155 u156 u157 u158 u159 u160 u161 u162 u163 u164 u165 u166 u167 u168 u169 u170 u171 u172 u173 u174 u175 u176 u177 u178 u179 u180 u181 u182 u183 u184 u185 u186 u187 u188 u189 u190 u191 u192 u193 u194 u195 u196 u197 u198 u199 u200 u201 u202 u203 u204 u205 u206 u207 u208 u209 u210 u211 u212 u213 u214 u215 u216 u217 u218 u219 u220 u221 u222 u223 u224 u225 u226 u227 u228 u229 u230 u231 u232 u233 u234 u235 u236 u237 u238 u239 u240 u241 u242 u243 u244 u245 u246 u247 u248 u249 u250 u251 u252 : Value} {wc : World} (hcut : Hid (Below gC w1 wc) ∧ Hid (Blk wc gR 83 #[.slice A n c, Iz k9, Iz e, Iz c9, Iz p9]) ∧ Hid (Blk wc gC 41 #[Sz t1, Sz t2, Sz t3, Sz t4, Sz t5, Sz t6, Sz t7, Sz t9, Iz 0, Iz 0, Iz 0, Iz 0, Iz 0, Iz 0, Iz 0, .bool false, .bool false, .slice none 0 0])) :
  Code.wp Tryz.prog codeB (bodyPost Tryz.prog Tryz.f24 (Parsed w (pDz s.data.toList))) ⟨#[.string s, undef, .pointer (some (Az w.heap.size 0)), Iz 0, Iz 0, .slice A n c, Iz e, Iz 0, .pointer (some (Az gC 0)), .pointer (some (Az gR 0)), u10, u11, u12, u13, u14, u15, u16, u17, u18, u19, u20, u21, u22, u23, u24, u25, u26, u27, u28, u29, u30, u31, u32, u33, u34, u35, u36, u37, u38, u39, u40, u41, u42, u43, u44, u45, u46, u47, u48, u49, u50, u51, u52, u53, u54, u55, u56, u57, u58, u59, u60, u61, u62, u63, u64, u65, u66, u67, u68, u69, u70, u71, u72, u73, u74, u75, u76, u77, u78, u79, u80, u81, u82, u83, u84, u85, u86, u87, u88, u89, u90, u91, u92, u93, u94, u95, u96, u97, u98, u99, u100, u101, u102, u103, u104, u105, u106, u107, u108, u109, u110, u111, u112, u113, u114, u115, u116, u117, u118, u119, u120, u121, u122, u123, u124, u125, u126, u127, u128, u129, u130, u131, u132, u133, u134, u135, u136, u137, u138, u139, u140, u141, u142, u143, u144, u145, u146, u147, u148, u149, u150, u151, u152, u153, u154, u155, u156, u157, u158, u159, u160, u161, u162, u163, u164, u165, u166, u167, u168, u169, u170, u171, u172, u173, u174, u175, u176, u177, u178, u179, u180, u181, u182, u183, u184, u185, u186, u187, u188, u189, u190, u191, u192, u193, u194, u195, u196, u197, u198, u199, u200, u201, u202, u203, u204, u205, u206, u207, u208, u209, u210, u211, u212, u213, u214, u215, u216, u217, u218, u219, u220, u221, u222, u223, u224, u225, u226, u227, u228, u229, u230, u231, u232, u233, u234, u235, u236, u237, u238, u239, u240, u241, u242, u243, u244, u245, u246, u247, u248, u249, u250, u251, u252], []⟩ wc := by
 conv => arg 2; whnf
 obtain ⟨hS, hR, hC⟩ := hcut
 obtain ⟨w48, hw5⟩ : ∃ y, wc = y := ⟨_, rfl⟩
 rw [hw5] at hS hR hC ⊢
 clear hw5
 replace hA := hdZ (hA0f.out _ hS.out)
 go_upto_region 22 with fail
 obtain ⟨⟨v10, ⟨k10, p10, c10⟩⟩, h10⟩ := nmZ (numD e l 1 1099511627776 ⟨k9, p9, c9⟩)
 go_upto_region 23 with (first | (go_at_call 51; refine (ramount_any A n c l w48 e hn hm hok 1 1099511627776 ⟨k9, p9, c9⟩ hA).mono ?_; rintro x2 w49 ⟨rfl, hbc⟩; rw [h10.out]; (try dsimp only); obtain ⟨hC, hR, hS, hA⟩ := ph_call hbc hgC hC hR hS hA) | (refine gbz rfl 83 _ rfl gR #[.slice A n c, Iz k9, Iz e, Iz c9, Iz p9] 83 _ rfl hR.out Tryz.underlying83 rfl i83 ?_) | (refine pbz rfl 83 _ _ rfl gR #[.slice A n c, Iz k9, Iz e, Iz c9, Iz p9] #[.slice A n c, Iz k10, Iz e, Iz c10, Iz p10] 83 rfl rfl hR.out rfl i83 (rdz _ _ _ _ _ _ _) ?_; intro w50 hR9 hu8; have hC9 := hdZ (hu8.blk hC.out ncr); have hCc : w50.cell? (Az gC 8) = some (Iz 0) := hC9.out.cell 8; have hCf := hC9.out.frozen 8; have hCl := hC9.out.lt))
 obtain ⟨w51, hw⟩ := nmZ (w50.setCell (Az gC 8) (Iz v10))
 obtain ⟨hR, hC, hS, hA⟩ := ph_set (cs' := #[Sz t1, Sz t2, Sz t3, Sz t4, Sz t5, Sz t6, Sz t7, Sz t9, Iz v10, Iz 0, Iz 0, Iz 0, Iz 0, Iz 0, Iz 0, .bool false, .bool false, .slice none 0 0]) hw hR9 hC9 rfl hu8 hS nrc hgl hgC hA0f
 rw [hw.out]
 clear hw hR9 hu8 hC9 hCc hCf hCl
 obtain ⟨⟨k30, p30, c30⟩, h30⟩ := nmZ ((tkz e l (isT wAbove) ⟨k10, p10, c10⟩).2)
 obtain ⟨⟨v11, ⟨k11, p11, c11⟩⟩, h11⟩ := nmZ (numD e l 0 1000 ⟨k30, p30, c30⟩)
 go_upto_region 24 with (first | (go_at_call 49; refine (rwd_any A n c l w51 e hn hm wAbove ⟨k10, p10, c10⟩ hA).mono ?_; rintro x2 w52 ⟨rfl, hbc⟩; rw [h30.out]; obtain ⟨hC, hR, hS, hA⟩ := ph_call hbc hgC hC hR hS hA) | (go_at_call 51; refine (ramount_any A n c l w52 e hn hm hok 0 1000 ⟨k30, p30, c30⟩ hA).mono ?_; rintro x2 w53 ⟨rfl, hbd⟩; rw [h11.out]; (try dsimp only); obtain ⟨hC, hR, hS, hA⟩ := ph_call hbd hgC hC hR hS hA) | (refine gbz rfl 83 _ rfl gR #[.slice A n c, Iz k10, Iz e, Iz c10, Iz p10] 83 _ rfl hR.out Tryz.underlying83 rfl i83 ?_) | (refine pbz rfl 83 _ _ rfl gR #[.slice A n c, Iz k10, Iz e, Iz c10, Iz p10] #[.slice A n c, Iz k11, Iz e, Iz c11, Iz p11] 83 rfl rfl hR.out rfl i83 (rdz _ _ _ _ _ _ _) ?_; intro w54 hR9 hu8))
 replace hR := hdZ hR9
 replace hC := hdZ (hu8.blk hC.out ncr)
 replace hS : Hid (Below gC w1 w54) := hu8.to_below hS.out hgl.out (Nat.le_trans (Nat.le_of_eq hgC.out.symm) hS.out.size)
 clear hR9 hu8 hA
 replace hA := hdZ (hA0f.out _ hS.out)
 obtain ⟨⟨k31, p31, c31⟩, h31⟩ := nmZ ((tkz e l (isT wBelow) ⟨k11, p11, c11⟩).2)
 obtain ⟨⟨v12, ⟨k12, p12, c12⟩⟩, h12⟩ := nmZ (numD e l 0 1000 ⟨k31, p31, c31⟩)
 go_upto_region 25 with (first | (go_at_call 49; refine (rwd_any A n c l w54 e hn hm wBelow ⟨k11, p11, c11⟩ hA).mono ?_; rintro x2 w55 ⟨rfl, hbc⟩; rw [h31.out]; obtain ⟨hC, hR, hS, hA⟩ := ph_call hbc hgC hC hR hS hA) | (go_at_call 51; refine (ramount_any A n c l w55 e hn hm hok 0 1000 ⟨k31, p31, c31⟩ hA).mono ?_; rintro x2 w56 ⟨rfl, hbd⟩; rw [h12.out]; (try dsimp only); obtain ⟨hC, hR, hS, hA⟩ := ph_call hbd hgC hC hR hS hA) | (refine gbz rfl 83 _ rfl gR #[.slice A n c, Iz k11, Iz e, Iz c11, Iz p11] 83 _ rfl hR.out Tryz.underlying83 rfl i83 ?_) | (refine pbz rfl 83 _ _ rfl gR #[.slice A n c, Iz k11, Iz e, Iz c11, Iz p11] #[.slice A n c, Iz k12, Iz e, Iz c12, Iz p12] 83 rfl rfl hR.out rfl i83 (rdz _ _ _ _ _ _ _) ?_; intro w57 hR9 hu8))
 replace hR := hdZ hR9
 replace hC := hdZ (hu8.blk hC.out ncr)
 replace hS : Hid (Below gC w1 w57) := hu8.to_below hS.out hgl.out (Nat.le_trans (Nat.le_of_eq hgC.out.symm) hS.out.size)
 clear hR9 hu8 hA
 replace hA := hdZ (hA0f.out _ hS.out)
 have hCc : w57.cell? (Az gC 9) = some (Iz 0) := hC.out.cell 9
 have hCf := hC.out.frozen 9
 have hCl := hC.out.lt
 go_upto_region 26 with fail
 clear hCc hCf hCl
 replace hR : Hid (Blk (w57.setCell (Az gC 9) (Iz v11)) gR 83 #[.slice A n c, Iz k12, Iz e, Iz c12, Iz p12]) := hR.out.far (p := (Az gC 9)) nrc _
 replace hC : Hid (Blk (w57.setCell (Az gC 9) (Iz v11)) gC 41 #[Sz t1, Sz t2, Sz t3, Sz t4, Sz t5, Sz t6, Sz t7, Sz t9, Iz v10, Iz v11, Iz 0, Iz 0, Iz 0, Iz 0, Iz 0, .bool false, .bool false, .slice none 0 0]) := hC.out.set_ 9 (Iz v11)
 replace hS : Hid (Below gC w1 (w57.setCell (Az gC 9) (Iz v11))) := hS.out.setCell leZ _
 obtain ⟨w58, hw⟩ := nmZ ((w57.setCell (Az gC 9) (Iz v11)))
 rw [hw.out] at hR hC hS ⊢
 clear hw hA
 replace hA := hdZ (hA0f.out _ hS.out)
 have hCc : w58.cell? (Az gC 10) = some (Iz 0) := hC.out.cell 10
 have hCf := hC.out.frozen 10
 have hCl := hC.out.lt
 go_upto_region 27 with fail
 clear hCc hCf hCl
 replace hR : Hid (Blk (w58.setCell (Az gC 10) (Iz v12)) gR 83 #[.slice A n c, Iz k12, Iz e, Iz c12, Iz p12]) := hR.out.far (p := (Az gC 10)) nrc _
 replace hC : Hid (Blk (w58.setCell (Az gC 10) (Iz v12)) gC 41 #[Sz t1, Sz t2, Sz t3, Sz t4, Sz t5, Sz t6, Sz t7, Sz t9, Iz v10, Iz v11, Iz v12, Iz 0, Iz 0, Iz 0, Iz 0, .bool false, .bool false, .slice none 0 0]) := hC.out.set_ 10 (Iz v12)
 replace hS : Hid (Below gC w1 (w58.setCell (Az gC 10) (Iz v12))) := hS.out.setCell leZ _
 obtain ⟨w59, hw⟩ := nmZ ((w58.setCell (Az gC 10) (Iz v12)))
 rw [hw.out] at hR hC hS ⊢
 clear hw hA
 replace hA := hdZ (hA0f.out _ hS.out)
 obtain ⟨⟨k13, p13, c13⟩, h13⟩ := nmZ ((tkz e l (isT sSemi) ⟨k12, p12, c12⟩).2)
 go_upto_region 28 with (first | (go_at_call 49; refine (rwd_any A n c l w59 e hn hm sSemi ⟨k12, p12, c12⟩ hA).mono ?_; rintro x2 w60 ⟨rfl, hbc⟩; rw [h13.out]; obtain ⟨hC, hR, hS, hA⟩ := ph_call hbc hgC hC hR hS hA) | (refine gbz rfl 83 _ rfl gR #[.slice A n c, Iz k12, Iz e, Iz c12, Iz p12] 83 _ rfl hR.out Tryz.underlying83 rfl i83 ?_) | (refine pbz rfl 83 _ _ rfl gR #[.slice A n c, Iz k12, Iz e, Iz c12, Iz p12] #[.slice A n c, Iz k13, Iz e, Iz c13, Iz p13] 83 rfl rfl hR.out rfl i83 (rdz _ _ _ _ _ _ _) ?_; intro w61 hR9 hu8))
 replace hR := hdZ hR9
 replace hC := hdZ (hu8.blk hC.out ncr)
 replace hS : Hid (Below gC w1 w61) := hu8.to_below hS.out hgl.out (Nat.le_trans (Nat.le_of_eq hgC.out.symm) hS.out.size)
 clear hR9 hu8 hA
 replace hA := hdZ (hA0f.out _ hS.out)
 obtain ⟨⟨v14, ⟨k14, p14, c14⟩⟩, h14⟩ := nmZ (toldD e l wLatest ⟨k13, p13, c13⟩)
 go_upto_region 29 with (first | (go_at_call 52; refine (rtold_any A n c l w61 e hn hm hok wLatest ⟨k13, p13, c13⟩ hA).mono ?_; rintro x2 w62 ⟨rfl, hbc⟩; rw [h14.out]; (try dsimp only); obtain ⟨hC, hR, hS, hA⟩ := ph_call hbc hgC hC hR hS hA) | (refine gbz rfl 83 _ rfl gR #[.slice A n c, Iz k13, Iz e, Iz c13, Iz p13] 83 _ rfl hR.out Tryz.underlying83 rfl i83 ?_) | (refine pbz rfl 83 _ _ rfl gR #[.slice A n c, Iz k13, Iz e, Iz c13, Iz p13] #[.slice A n c, Iz k14, Iz e, Iz c14, Iz p14] 83 rfl rfl hR.out rfl i83 (rdz _ _ _ _ _ _ _) ?_; intro w63 hR9 hu8; have hC9 := hdZ (hu8.blk hC.out ncr); have hCc : w63.cell? (Az gC 11) = some (Iz 0) := hC9.out.cell 11; have hCf := hC9.out.frozen 11; have hCl := hC9.out.lt))
 obtain ⟨w64, hw⟩ := nmZ (w63.setCell (Az gC 11) (Iz v14))
 obtain ⟨hR, hC, hS, hA⟩ := ph_set (cs' := #[Sz t1, Sz t2, Sz t3, Sz t4, Sz t5, Sz t6, Sz t7, Sz t9, Iz v10, Iz v11, Iz v12, Iz v14, Iz 0, Iz 0, Iz 0, .bool false, .bool false, .slice none 0 0]) hw hR9 hC9 rfl hu8 hS nrc hgl hgC hA0f
 rw [hw.out]
 clear hw hR9 hu8 hC9 hCc hCf hCl
 obtain ⟨⟨v15, ⟨k15, p15, c15⟩⟩, h15⟩ := nmZ (toldD e l wExpiry ⟨k14, p14, c14⟩)
 go_upto_region 30 with (first | (go_at_call 52; refine (rtold_any A n c l w64 e hn hm hok wExpiry ⟨k14, p14, c14⟩ hA).mono ?_; rintro x2 w65 ⟨rfl, hbc⟩; rw [h15.out]; (try dsimp only); obtain ⟨hC, hR, hS, hA⟩ := ph_call hbc hgC hC hR hS hA) | (refine gbz rfl 83 _ rfl gR #[.slice A n c, Iz k14, Iz e, Iz c14, Iz p14] 83 _ rfl hR.out Tryz.underlying83 rfl i83 ?_) | (refine pbz rfl 83 _ _ rfl gR #[.slice A n c, Iz k14, Iz e, Iz c14, Iz p14] #[.slice A n c, Iz k15, Iz e, Iz c15, Iz p15] 83 rfl rfl hR.out rfl i83 (rdz _ _ _ _ _ _ _) ?_; intro w66 hR9 hu8; have hC9 := hdZ (hu8.blk hC.out ncr); have hCc : w66.cell? (Az gC 12) = some (Iz 0) := hC9.out.cell 12; have hCf := hC9.out.frozen 12; have hCl := hC9.out.lt))
 obtain ⟨w67, hw⟩ := nmZ (w66.setCell (Az gC 12) (Iz v15))
 obtain ⟨hR, hC, hS, hA⟩ := ph_set (cs' := #[Sz t1, Sz t2, Sz t3, Sz t4, Sz t5, Sz t6, Sz t7, Sz t9, Iz v10, Iz v11, Iz v12, Iz v14, Iz v15, Iz 0, Iz 0, .bool false, .bool false, .slice none 0 0]) hw hR9 hC9 rfl hu8 hS nrc hgl hgC hA0f
 rw [hw.out]
 clear hw hR9 hu8 hC9 hCc hCf hCl
 obtain ⟨⟨v16, ⟨k16, p16, c16⟩⟩, h16⟩ := nmZ (withinD e l wWithin ⟨k15, p15, c15⟩)
 go_upto_region 31 with (first | (go_at_call 52; refine (rwithin_any A n c l w67 e hn hm hok wWithin ⟨k15, p15, c15⟩ hA).mono ?_; rintro x2 w68 ⟨rfl, hbc⟩; rw [h16.out]; (try dsimp only); obtain ⟨hC, hR, hS, hA⟩ := ph_call hbc hgC hC hR hS hA) | (refine gbz rfl 83 _ rfl gR #[.slice A n c, Iz k15, Iz e, Iz c15, Iz p15] 83 _ rfl hR.out Tryz.underlying83 rfl i83 ?_) | (refine pbz rfl 83 _ _ rfl gR #[.slice A n c, Iz k15, Iz e, Iz c15, Iz p15] #[.slice A n c, Iz k16, Iz e, Iz c16, Iz p16] 83 rfl rfl hR.out rfl i83 (rdz _ _ _ _ _ _ _) ?_; intro w69 hR9 hu8; have hC9 := hdZ (hu8.blk hC.out ncr); have hCc : w69.cell? (Az gC 13) = some (Iz 0) := hC9.out.cell 13; have hCf := hC9.out.frozen 13; have hCl := hC9.out.lt))
 obtain ⟨w70, hw⟩ := nmZ (w69.setCell (Az gC 13) (Iz v16))
 obtain ⟨hR, hC, hS, hA⟩ := ph_set (cs' := #[Sz t1, Sz t2, Sz t3, Sz t4, Sz t5, Sz t6, Sz t7, Sz t9, Iz v10, Iz v11, Iz v12, Iz v14, Iz v15, Iz v16, Iz 0, .bool false, .bool false, .slice none 0 0]) hw hR9 hC9 rfl hu8 hS nrc hgl hgC hA0f
 rw [hw.out]
 clear hw hR9 hu8 hC9 hCc hCf hCl
 obtain ⟨⟨k17, p17, c17⟩, h17⟩ := nmZ ((tkz e l (isT wTenor) ⟨k16, p16, c16⟩).2)
 go_upto_region 32 with (first | (go_at_call 49; refine (rwd_any A n c l w70 e hn hm wTenor ⟨k16, p16, c16⟩ hA).mono ?_; rintro x2 w71 ⟨rfl, hbc⟩; rw [h17.out]; obtain ⟨hC, hR, hS, hA⟩ := ph_call hbc hgC hC hR hS hA) | (refine gbz rfl 83 _ rfl gR #[.slice A n c, Iz k16, Iz e, Iz c16, Iz p16] 83 _ rfl hR.out Tryz.underlying83 rfl i83 ?_) | (refine pbz rfl 83 _ _ rfl gR #[.slice A n c, Iz k16, Iz e, Iz c16, Iz p16] #[.slice A n c, Iz k17, Iz e, Iz c17, Iz p17] 83 rfl rfl hR.out rfl i83 (rdz _ _ _ _ _ _ _) ?_; intro w72 hR9 hu8))
 replace hR := hdZ hR9
 replace hC := hdZ (hu8.blk hC.out ncr)
 replace hS : Hid (Below gC w1 w72) := hu8.to_below hS.out hgl.out (Nat.le_trans (Nat.le_of_eq hgC.out.symm) hS.out.size)
 clear hR9 hu8 hA
 replace hA := hdZ (hA0f.out _ hS.out)
 obtain ⟨⟨v18, ⟨k18, p18, c18⟩⟩, h18⟩ := nmZ (tenD e l ⟨k17, p17, c17⟩)
 obtain ⟨bt, hbt⟩ := nmZ (isAtD l wSight ⟨k17, p17, c17⟩)
 go_simp
 go_cut [180] (fun v wx => v = .bool bt ∧ Hid (w72 = wx))
 case first =>
  have hRc0 : w72.cell? (Az gR 0) = some (.slice A n c) := hR.out.cell 0; have hRf0 := hR.out.frozen 0; have hRc1 : w72.cell? (Az gR 1) = some (Iz k17) := hR.out.cell 1; have hRf1 := hR.out.frozen 1; have hRc3 : w72.cell? (Az gR 3) = some (Iz c17) := hR.out.cell 3; have hRf3 := hR.out.frozen 3; have hRl := hR.out.lt
  by_cases hz : c17 = 0
  ·have b1 : (c17 == 0) = true := by simp [hz]
   have hbe : Hid (atI (isT wSight) l k17 = bt) := by unfold Hid; rw [← hbt.out]; unfold isAtD; simp [hz]
   clear hz
   go_wp2_with (go_at_call 48; refine (rsz A n c l w72 k17 wSight hn hA).mono ?_; rintro x1 wx ⟨rfl, rfl⟩; rw [hbe.out])
   go_meet
   case rel => exact ⟨rfl, rfl⟩
  ·have b1 : (c17 == 0) = false := by simp [hz]
   have hbe : Hid (false = bt) := by unfold Hid; rw [← hbt.out]; unfold isAtD; simp [hz]
   clear hz; go_wp2_with fail
   go_meet
   case rel => exact ⟨by rw [hbe.out], rfl⟩
 case rest =>
  obtain ⟨rfl, hwx⟩ := hcut; rw [← hwx.out]; clear hwx
  go_upto_if 180 with fail
  go_cut [] from 14 to 251 (fun wx => Hid (Below gC w1 wx) ∧ Hid (Blk wx gR 83 #[.slice A n c, Iz k18, Iz e, Iz c18, Iz p18]) ∧ Hid (Blk wx gC 41 #[Sz t1, Sz t2, Sz t3, Sz t4, Sz t5, Sz t6, Sz t7, Sz t9, Iz v10, Iz v11, Iz v12, Iz v14, Iz v15, Iz v16, Iz v18, .bool false, .bool false, .slice none 0 0]))
  case first =>
   cases bt with
   | true =>
    have hcf : tenD e l ⟨k17, p17, c17⟩ = (0, ⟨k17 + 1, p17, c17⟩) := by unfold tenD; rw [if_pos hbt.out]; rfl
    obtain ⟨rfl, rfl, rfl, rfl⟩ : 0 = v18 ∧ k17 + 1 = k18 ∧ p17 = p18 ∧ c17 = c18 := by have h := h18.out; rw [hcf] at h; simpa using h
    have hkl : k17 < n := by
     rcases Nat.lt_or_ge k17 n with h | h
     ·exact h
     ·have h2 := hbt.out; unfold isAtD at h2; rw [atI_none (by rw [hn.out]; exact h)] at h2; simp at h2
    have w1' : IntKind.i64.wrap ((k17 : Int) + 1) = (k17 : Int) + 1 := IntWalk.i64_in _ (by omega); clear hcf; have hRc1 : w72.cell? (Az gR 1) = some (Iz k17) := hR.out.cell 1; have hRf1 := hR.out.frozen 1; have hRl := hR.out.lt; go_wp2_with fail
    go_meet
    case rel => exact ⟨hS.out.setCell hgl.out _, hR.out.set_ 1 (Iz ((k17 : Int) + 1)), hC.out.far (p := (Az gR 1)) ncr _⟩
   | false =>
    obtain ⟨⟨v40, ⟨k40, p40, c40⟩⟩, h40⟩ := nmZ (numD e l 1 1048576 ⟨k17, p17, c17⟩); have hcf : tenD e l ⟨k17, p17, c17⟩ = (v40, (tkz e l (isT wDays) ⟨k40, p40, c40⟩).2) := by unfold tenD; rw [if_neg (by rw [hbt.out]; simp), h40.out]
    obtain ⟨rfl, h18b⟩ : v40 = v18 ∧ (tkz e l (isT wDays) ⟨k40, p40, c40⟩).2 = ⟨k18, p18, c18⟩ := by have h := h18.out; rw [hcf] at h; simpa using h
    have h18c := hdZ h18b; clear hcf h18b
    go_upto_region 36 with (first | (go_at_call 51; refine (ramount_any A n c l w72 e hn hm hok 1 1048576 ⟨k17, p17, c17⟩ hA).mono ?_; rintro x2 w73 ⟨rfl, hbc2⟩; rw [h40.out]; (try dsimp only); obtain ⟨hC, hR, hS, hA⟩ := ph_call hbc2 hgC hC hR hS hA) | (refine gbz rfl 83 _ rfl gR #[.slice A n c, Iz k17, Iz e, Iz c17, Iz p17] 83 _ rfl hR.out Tryz.underlying83 rfl i83 ?_) | (refine pbz rfl 83 _ _ rfl gR #[.slice A n c, Iz k17, Iz e, Iz c17, Iz p17] #[.slice A n c, Iz k40, Iz e, Iz c40, Iz p40] 83 rfl rfl hR.out rfl i83 (rdz _ _ _ _ _ _ _) ?_; intro w74 hR9 hu8))
    replace hR := hdZ hR9; replace hC := hdZ (hu8.blk hC.out ncr); replace hS : Hid (Below gC w1 w74) := hu8.to_below hS.out hgl.out (Nat.le_trans (Nat.le_of_eq hgC.out.symm) hS.out.size); clear hR9 hu8 hA; replace hA := hdZ (hA0f.out _ hS.out); have hCc : w74.cell? (Az gC 14) = some (Iz 0) := hC.out.cell 14; have hCf := hC.out.frozen 14; have hCl := hC.out.lt
    go_upto_region 37 with fail
    clear hCc hCf hCl; replace hR : Hid (Blk (w74.setCell (Az gC 14) (Iz v40)) gR 83 #[.slice A n c, Iz k40, Iz e, Iz c40, Iz p40]) := hR.out.far (p := (Az gC 14)) nrc _; replace hC : Hid (Blk (w74.setCell (Az gC 14) (Iz v40)) gC 41 #[Sz t1, Sz t2, Sz t3, Sz t4, Sz t5, Sz t6, Sz t7, Sz t9, Iz v10, Iz v11, Iz v12, Iz v14, Iz v15, Iz v16, Iz v40, .bool false, .bool false, .slice none 0 0]) := hC.out.set_ 14 (Iz v40); replace hS : Hid (Below gC w1 (w74.setCell (Az gC 14) (Iz v40))) := hS.out.setCell leZ _; obtain ⟨w75, hw⟩ := nmZ ((w74.setCell (Az gC 14) (Iz v40))); rw [hw.out] at hR hC hS ⊢; clear hw hA; replace hA := hdZ (hA0f.out _ hS.out)
    go_wp2_with (first | (go_at_call 49; refine (rwd_any A n c l w75 e hn hm wDays ⟨k40, p40, c40⟩ hA).mono ?_; rintro x2 w76 ⟨rfl, hbc2⟩; rw [h18c.out]; obtain ⟨hC, hR, hS, hA⟩ := ph_call hbc2 hgC hC hR hS hA) | (refine gbz rfl 83 _ rfl gR #[.slice A n c, Iz k40, Iz e, Iz c40, Iz p40] 83 _ rfl hR.out Tryz.underlying83 rfl i83 ?_) | (refine pbz rfl 83 _ _ rfl gR #[.slice A n c, Iz k40, Iz e, Iz c40, Iz p40] #[.slice A n c, Iz k18, Iz e, Iz c18, Iz p18] 83 rfl rfl hR.out rfl i83 (rdz _ _ _ _ _ _ _) ?_; intro w77 hR9 hu8))
    go_meet
    case rel => exact ⟨hu8.to_below hS.out hgl.out (Nat.le_trans (Nat.le_of_eq hgC.out.symm) hS.out.size), hR9, hu8.blk hC.out ncr⟩
  case rest =>
   refine (‹∀ (a : Act) (w_1 : World), Code.wp Tryz.prog _ (bodyPost Tryz.prog _ _) a w_1 → _› : ∀ (a : Act) (w_1 : World), Code.wp Tryz.prog _ (bodyPost Tryz.prog _ _) a w_1 → _) _ _ ?_; exact phC s w hi hz0 hz1 hz2 hP1 hB1 hok hgd hn hm hN hpD hgC hgR hgP ncr nrc hgl hA0f h1 h2 h3 h4 h5 h6 h7 h8 h9 h10 h30 h11 h31 h12 h13 h14 h15 h16 h17 h18 hcut
end Go.Proofs.YtjkmhlfjheiekaaGreatDoor

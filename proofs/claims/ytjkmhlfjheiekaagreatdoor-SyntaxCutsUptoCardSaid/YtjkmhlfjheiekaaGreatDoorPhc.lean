import Derived.Deep.CutRange
import Derived.Test.YtjkmhlfjheiekaaGreatDoorPi
set_option maxRecDepth 1000000
set_option maxHeartbeats 51200000
namespace Go.Proofs.YtjkmhlfjheiekaaGreatDoor
open Go Go.RowKit Go.BigFrame Go.Maps
theorem own_skip {w w' : World} {B : Nat} {e : TypeId} {size n : Nat} {v : Value} {xs : List Value} {z : Nat} (h : w.ownsRow B e size v n xs) (hu : But z w w') (hz : v.ownBlock ≠ some z) : w'.ownsRow B e size v n xs := by
 refine ⟨h.1, ?_⟩
 rcases h.2 with ⟨rfl, h0⟩ | ⟨g, cap, cur, rfl, hg, hb, hrest⟩
 ·exact .inl ⟨rfl, h0⟩
 ·have hne : g ≠ z := fun he => hz (by simp [Value.ownBlock, he])
  exact .inr ⟨g, cap, cur, rfl, hg, hu.blk hb hne, hrest⟩
theorem ph_call {w1 W W' : World} {gC gR : Nat} {A : Option Addr} {l : List Tok} {cs ds : Array Value} (hb : Bz W W') (hgC : Hid (w1.heap.size = gC)) (hC : Hid (Blk W gC 41 cs)) (hR : Hid (Blk W gR 83 ds)) (hS : Hid (Below gC w1 W)) (hA : Hid (TokAt W 0 A l)) : Hid (Blk W' gC 41 cs) ∧ Hid (Blk W' gR 83 ds) ∧ Hid (Below gC w1 W') ∧ Hid (TokAt W' 0 A l) :=
 ⟨hC.out.below hb hC.out.lt, hR.out.below hb hR.out.lt, hS.out.trans (hb.mono (Nat.le_trans (Nat.le_of_eq hgC.out.symm) hS.out.size)), hA.out.below hb⟩
theorem ph_set {w1 W0 W W' : World} {gC gR i : Nat} {A : Option Addr} {l : List Tok} {cs cs' ds : Array Value} {v : Value} (hw : Hid (W.setCell (Az gC i) v = W')) (hR : Blk W gR 83 ds) (hC : Hid (Blk W gC 41 cs)) (hcs : cs.setIfInBounds i v = cs') (hu : But gR W0 W) (hS : Hid (Below gC w1 W0)) (n1 : gR ≠ gC) (hgl : Hid (gC ≤ gR)) (hgC : Hid (w1.heap.size = gC)) (hA : Hid (∀ W, Below gC w1 W → TokAt W 0 A l)) :
  Hid (Blk W' gR 83 ds) ∧ Hid (Blk W' gC 41 cs') ∧ Hid (Below gC w1 W') ∧ Hid (TokAt W' 0 A l) := by
 obtain rfl := hw
 subst hcs
 have hS' : Below gC w1 (W.setCell (Az gC i) v) := (hu.to_below hS.out hgl.out (Nat.le_trans (Nat.le_of_eq hgC.out.symm) hS.out.size)).setCell leZ _
 exact ⟨hR.far (p := (Az gC i)) n1 _, hC.out.set_ i v, hS', hA.out _ hS'⟩
def starts (r : Nat) : Code → Bool
 | .region k _ _ => k == r
 | .seq a _ => starts r a
 | _ => false
def fromR (r : Nat) : Code → Option Code
 | .seq a b => if starts r a = true then some (.seq a b) else fromR r b
 | _ => none
noncomputable def codeC : Code := (Tryz.f24.body.bind (fromR 38)).getD .skip
theorem phC (s : ByteArray) (w : World) {i0 : TypeInfo} (hi : Tryz.prog.info? 74 = some i0) (hz0 : i0.zero = some (.agg zeroD)) (hz1 : i0.size = 8) (hz2 : i0.bytes = 96) {w1 : World} {l : List Tok} {A : Option Addr} {c n N e gC gR : Nat}
  (hP1 : Hid (Blk w1 w.heap.size 41 zeroC)) (hB1 : Hid (Bz w w1)) (hok : Hid (TokOk l)) (hgd : Hid (GoodL l)) (hn : Hid (l.length = n)) (hm : n ≤ 4096) (hN : Hid (2 * l.length + 2 = N)) (hpD : Hid (pDz s.data.toList = endC (creditD e l ⟨0, 0, 0⟩))) (hgC : Hid (w1.heap.size = gC)) (hgR : Hid (gC < gR)) (hgP : Hid (w.heap.size + 1 ≤ gC)) (ncr : gC ≠ gR) (nrc : gR ≠ gC) (hgl : Hid (gC ≤ gR)) (hA0f : Hid (∀ W, Below gC w1 W → TokAt W 0 A l))
  {t1 t2 t3 t4 t5 t6 t7 t9 : Txt} {k1 p1 k2 p2 k3 p3 k4 p4 k5 p5 k6 p6 k7 p7 k8 p8 k9 p9 k10 p10 k30 p30 k11 p11 k31 p31 k12 p12 k13 p13 k14 p14 k15 p15 k16 p16 k17 p17 k18 p18 : Nat} {c1 c2 c3 c4 c5 c6 c7 c8 c9 v10 c10 c30 v11 c11 c31 v12 c12 c13 v14 c14 v15 c15 v16 c16 c17 v18 c18 : Int}
  (h1 : Hid (lineD e l wCredit ⟨0, 0, 0⟩ = (t1, ⟨k1, p1, c1⟩))) (h2 : Hid (lineD e l wApz ⟨k1, p1, c1⟩ = (t2, ⟨k2, p2, c2⟩))) (h3 : Hid (lineD e l wBnz ⟨k2, p2, c2⟩ = (t3, ⟨k3, p3, c3⟩))) (h4 : Hid (lineD e l wIssuer ⟨k3, p3, c3⟩ = (t4, ⟨k4, p4, c4⟩))) (h5 : Hid (confD e l ⟨k4, p4, c4⟩ = (t5, ⟨k5, p5, c5⟩))) (h6 : Hid (lineD e l wFrom ⟨k5, p5, c5⟩ = (t6, ⟨k6, p6, c6⟩))) (h7 : Hid (lineD e l wTo ⟨k6, p6, c6⟩ = (t7, ⟨k7, p7, c7⟩))) (h8 : Hid ((tkz e l (isT wSum) ⟨k7, p7, c7⟩).2 = ⟨k8, p8, c8⟩)) (h9 : Hid (tkz e l (kdB 4) ⟨k8, p8, c8⟩ = (t9, ⟨k9, p9, c9⟩))) (h10 : Hid (numD e l 1 1099511627776 ⟨k9, p9, c9⟩ = (v10, ⟨k10, p10, c10⟩))) (h30 : Hid ((tkz e l (isT wAbove) ⟨k10, p10, c10⟩).2 = ⟨k30, p30, c30⟩)) (h11 : Hid (numD e l 0 1000 ⟨k30, p30, c30⟩ = (v11, ⟨k11, p11, c11⟩))) (h31 : Hid ((tkz e l (isT wBelow) ⟨k11, p11, c11⟩).2 = ⟨k31, p31, c31⟩)) (h12 : Hid (numD e l 0 1000 ⟨k31, p31, c31⟩ = (v12, ⟨k12, p12, c12⟩))) (h13 : Hid ((tkz e l (isT sSemi) ⟨k12, p12, c12⟩).2 = ⟨k13, p13, c13⟩)) (h14 : Hid (toldD e l wLatest ⟨k13, p13, c13⟩ = (v14, ⟨k14, p14, c14⟩))) (h15 : Hid (toldD e l wExpiry ⟨k14, p14, c14⟩ = (v15, ⟨k15, p15, c15⟩))) (h16 : Hid (withinD e l wWithin ⟨k15, p15, c15⟩ = (v16, ⟨k16, p16, c16⟩))) (h17 : Hid ((tkz e l (isT wTenor) ⟨k16, p16, c16⟩).2 = ⟨k17, p17, c17⟩)) (h18 : Hid (tenD e l ⟨k17, p17, c17⟩ = (v18, ⟨k18, p18, c18⟩)))
  {u10 u11 u12 u13 u14 u15 u16 u17 u18 u19 u20 u21 u22 u23 u24 u25 u26 u27 u28 u29 u30 u31 u32 u33 u34 u35 u36 u37 u38 u39 u40 u41 u42 u43 u44 u45 u46 u47 u48 u49 u50 u51 u52 u53 u54 u55 u56 u57 u58 u59 u60 u61 u62 u63 u64 u65 u66 u67 u68 u69 u70 u71 u72 u73 u74 u75 u76 u77 u78 u79 u80 u81 u82 u83 u84 u85 u86 u87 u88 u89 u90 u91 u92 u93 u94 u95 u96 u97 u98 u99 u100 u101 u102 u103 u104 u105 u106 u107 u108 u109 u110 u111 u112 u113 u114 u115 u116 u117 u118 u119 u120 u121 u122 u123 u124 u125 u126 u127 u128 u129 u130 u131 u132 u133 u134 u135 u136 u137 u138 u139 u140 u141 u142 u143 u144 u145 u146 u147 u148 u149 u150 u151 u152 u153 u154 u155 u156 u157 u158 u159 u160 u161 u162 u163 u164 u165 u166 u167 u168 u169 u170 u171 u172 u173 u174 u175 u176 u177 u178 u179 u180 u181 u182 u183 u184 u185 u186 u187 u188 u189 u190 u191 u192 u193 u194 u195 u196 u197 u198 u199 u200 u201 u202 u203 u204 u205 u206 u207 u208 u209 u210 u211 u212 u213 u214 u215 u216 u217 u218 u219 u220 u221 u222 u223 u224 u225 u226 u227 u228 u229 u230 u231 u232 u233 u234 u235 u236 u237 u238 u239 u240 u241 u242 u243 u244 u245 u246 u247 u248 u249 u250 u251 u252 : Value} {wc : World} (hcut : Hid (Below gC w1 wc) ∧ Hid (Blk wc gR 83 #[.slice A n c, Iz k18, Iz e, Iz c18, Iz p18]) ∧ Hid (Blk wc gC 41 #[Sz t1, Sz t2, Sz t3, Sz t4, Sz t5, Sz t6, Sz t7, Sz t9, Iz v10, Iz v11, Iz v12, Iz v14, Iz v15, Iz v16, Iz v18, .bool false, .bool false, .slice none 0 0])) :
  Code.wp Tryz.prog codeC (bodyPost Tryz.prog Tryz.f24 (Parsed w (pDz s.data.toList))) ⟨#[.string s, undef, .pointer (some (Az w.heap.size 0)), Iz 0, Iz 0, .slice A n c, Iz e, Iz 0, .pointer (some (Az gC 0)), .pointer (some (Az gR 0)), u10, u11, u12, u13, u14, u15, u16, u17, u18, u19, u20, u21, u22, u23, u24, u25, u26, u27, u28, u29, u30, u31, u32, u33, u34, u35, u36, u37, u38, u39, u40, u41, u42, u43, u44, u45, u46, u47, u48, u49, u50, u51, u52, u53, u54, u55, u56, u57, u58, u59, u60, u61, u62, u63, u64, u65, u66, u67, u68, u69, u70, u71, u72, u73, u74, u75, u76, u77, u78, u79, u80, u81, u82, u83, u84, u85, u86, u87, u88, u89, u90, u91, u92, u93, u94, u95, u96, u97, u98, u99, u100, u101, u102, u103, u104, u105, u106, u107, u108, u109, u110, u111, u112, u113, u114, u115, u116, u117, u118, u119, u120, u121, u122, u123, u124, u125, u126, u127, u128, u129, u130, u131, u132, u133, u134, u135, u136, u137, u138, u139, u140, u141, u142, u143, u144, u145, u146, u147, u148, u149, u150, u151, u152, u153, u154, u155, u156, u157, u158, u159, u160, u161, u162, u163, u164, u165, u166, u167, u168, u169, u170, u171, u172, u173, u174, u175, u176, u177, u178, u179, u180, u181, u182, u183, u184, u185, u186, u187, u188, u189, u190, u191, u192, u193, u194, u195, u196, u197, u198, u199, u200, u201, u202, u203, u204, u205, u206, u207, u208, u209, u210, u211, u212, u213, u214, u215, u216, u217, u218, u219, u220, u221, u222, u223, u224, u225, u226, u227, u228, u229, u230, u231, u232, u233, u234, u235, u236, u237, u238, u239, u240, u241, u242, u243, u244, u245, u246, u247, u248, u249, u250, u251, u252], []⟩ wc := by
 conv => arg 2; whnf
 obtain ⟨hS, hR, hC⟩ := hcut
 obtain ⟨w78, hw5⟩ : ∃ y, wc = y := ⟨_, rfl⟩
 rw [hw5] at hS hR hC ⊢
 clear hw5
 replace hA := hdZ (hA0f.out _ hS.out)
 go_upto_region 38 with fail
 obtain ⟨⟨k19, p19, c19⟩, h19⟩ := nmZ ((tkz e l (isT sSemi) ⟨k18, p18, c18⟩).2)
 go_upto_region 39 with (first | (go_at_call 49; refine (rwd_any A n c l w78 e hn hm sSemi ⟨k18, p18, c18⟩ hA).mono ?_; rintro x2 w79 ⟨rfl, hbc⟩; rw [h19.out]; obtain ⟨hC, hR, hS, hA⟩ := ph_call hbc hgC hC hR hS hA) | (refine gbz rfl 83 _ rfl gR #[.slice A n c, Iz k18, Iz e, Iz c18, Iz p18] 83 _ rfl hR.out Tryz.underlying83 rfl i83 ?_) | (refine pbz rfl 83 _ _ rfl gR #[.slice A n c, Iz k18, Iz e, Iz c18, Iz p18] #[.slice A n c, Iz k19, Iz e, Iz c19, Iz p19] 83 rfl rfl hR.out rfl i83 (rdz _ _ _ _ _ _ _) ?_; intro w80 hR9 hu8))
 replace hR := hdZ hR9
 replace hC := hdZ (hu8.blk hC.out ncr)
 replace hS : Hid (Below gC w1 w80) := hu8.to_below hS.out hgl.out (Nat.le_trans (Nat.le_of_eq hgC.out.symm) hS.out.size)
 clear hR9 hu8 hA
 replace hA := hdZ (hA0f.out _ hS.out)
 obtain ⟨⟨b20, ⟨k20, p20, c20⟩⟩, h20⟩ := nmZ (eitherD e l wPartial ⟨k19, p19, c19⟩)
 go_upto_region 40 with (first | (go_at_call 53; refine (reither_any A n c l w80 e hn hm wPartial ⟨k19, p19, c19⟩ hA).mono ?_; rintro x2 w81 ⟨rfl, hbc⟩; rw [h20.out]; (try dsimp only); obtain ⟨hC, hR, hS, hA⟩ := ph_call hbc hgC hC hR hS hA) | (refine gbz rfl 83 _ rfl gR #[.slice A n c, Iz k19, Iz e, Iz c19, Iz p19] 83 _ rfl hR.out Tryz.underlying83 rfl i83 ?_) | (refine pbz rfl 83 _ _ rfl gR #[.slice A n c, Iz k19, Iz e, Iz c19, Iz p19] #[.slice A n c, Iz k20, Iz e, Iz c20, Iz p20] 83 rfl rfl hR.out rfl i83 (rdz _ _ _ _ _ _ _) ?_; intro w82 hR9 hu8; have hC9 := hdZ (hu8.blk hC.out ncr); have hCc : w82.cell? (Az gC 15) = some (.bool false) := hC9.out.cell 15; have hCf := hC9.out.frozen 15; have hCl := hC9.out.lt))
 obtain ⟨w83, hw⟩ := nmZ (w82.setCell (Az gC 15) (.bool b20))
 obtain ⟨hR, hC, hS, hA⟩ := ph_set (cs' := #[Sz t1, Sz t2, Sz t3, Sz t4, Sz t5, Sz t6, Sz t7, Sz t9, Iz v10, Iz v11, Iz v12, Iz v14, Iz v15, Iz v16, Iz v18, .bool b20, .bool false, .slice none 0 0]) hw hR9 hC9 rfl hu8 hS nrc hgl hgC hA0f
 rw [hw.out]
 clear hw hR9 hu8 hC9 hCc hCf hCl
 obtain ⟨⟨b21, ⟨k21, p21, c21⟩⟩, h21⟩ := nmZ (eitherD e l wChange ⟨k20, p20, c20⟩)
 go_wp2_with (first | (go_at_call 53; refine (reither_any A n c l w83 e hn hm wChange ⟨k20, p20, c20⟩ hA).mono ?_; rintro x2 w84 ⟨rfl, hbc⟩; rw [h21.out]; (try dsimp only); obtain ⟨hC, hR, hS, hA⟩ := ph_call hbc hgC hC hR hS hA) | (refine gbz rfl 83 _ rfl gR #[.slice A n c, Iz k20, Iz e, Iz c20, Iz p20] 83 _ rfl hR.out Tryz.underlying83 rfl i83 ?_) | (refine pbz rfl 83 _ _ rfl gR #[.slice A n c, Iz k20, Iz e, Iz c20, Iz p20] #[.slice A n c, Iz k21, Iz e, Iz c21, Iz p21] 83 rfl rfl hR.out rfl i83 (rdz _ _ _ _ _ _ _) ?_; intro w85 hR9 hu8; have hC9 := hdZ (hu8.blk hC.out ncr); have hCc : w85.cell? (Az gC 16) = some (.bool false) := hC9.out.cell 16; have hCf := hC9.out.frozen 16; have hCl := hC9.out.lt))
 obtain ⟨w86, hw⟩ := nmZ (w85.setCell (Az gC 16) (.bool b21))
 obtain ⟨hR, hC, hS, hA⟩ := ph_set (cs' := #[Sz t1, Sz t2, Sz t3, Sz t4, Sz t5, Sz t6, Sz t7, Sz t9, Iz v10, Iz v11, Iz v12, Iz v14, Iz v15, Iz v16, Iz v18, .bool b20, .bool b21, .slice none 0 0]) hw hR9 hC9 rfl hu8 hS nrc hgl hgC hA0f
 rw [hw.out]
 clear hw hR9 hu8 hC9 hCc hCf hCl
 obtain ⟨cr, hcr⟩ : ∃ x : Crd, Hid ((⟨t1, t2, t3, t4, t5, t6, t7, t9, v10, v11, v12, v14, v15, v16, v18, b20, b21⟩ : Crd) = x) := ⟨_, hdZ rfl⟩
 have hr : Hid (creditD e l ⟨0, 0, 0⟩ = ((cr, (needsD e l N (l.length + 1) 0 ⟨k21, p21, c21⟩).1), (needsD e l N (l.length + 1) 0 ⟨k21, p21, c21⟩).2)) := by
  unfold Hid creditD; simp only [h1.out, h2.out, h3.out, h4.out, h5.out, h6.out, h7.out, h8.out, h9.out, h10.out, h30.out, h11.out, h31.out, h12.out, h13.out, h14.out, h15.out, h16.out, h17.out, h18.out, h19.out, h20.out, h21.out, hcr.out, hN.out]
 replace hC : Hid (Blk w86 gC 41 (cr.cells (.slice none 0 0))) := by unfold Hid; rw [← hcr.out]; exact hC.out
 have hsz : Hid (gR + 1 ≤ w86.heap.size) := by have := hR.out.lt; have := hgR.out; unfold Hid; omega
 clear hcr h1 h2 h3 h4 h5 h6 h7 h8 h9 h10 h30 h11 h31 h12 h13 h14 h15 h16 h17 h18 h19 h20 h21
 obtain ⟨crs, hcrs⟩ := nmZ (creditD e l ⟨0, 0, 0⟩)
 rw [hcrs.out] at hr
 go_loopg [] (l.length + 1) (fun gg wr => ∃ (g0 : Nat) (T : List Nd) (k p : Nat) (cd : Int) (q : Option Addr) (cc : Nat), gg = g0 ∧ Hid (crs = ((cr, T.map ndP ++ (needsD e l N g0 T.length ⟨k, p, cd⟩).1), (needsD e l N g0 T.length ⟨k, p, cd⟩).2)) ∧ T.length + g0 ≤ l.length + 1 ∧ (cd = 0 → l.length - k < g0) ∧ Hid (Blk wr gC 41 (cr.cells (.slice q T.length cc))) ∧ Hid (wr.ownsRow (gR + 1) 74 8 (.slice q T.length cc) T.length (ndsL T)) ∧ Hid (∀ x ∈ T, TAz wr (fun b => gR + 1 ≤ b ∧ (Value.slice q T.length cc).ownBlock ≠ some b) x.rule) ∧ Hid (Blk wr gR 83 #[.slice A n c, Iz k, Iz e, Iz cd, Iz p]) ∧ Hid (Below gC w1 wr) ∧ Hid (gR + 1 ≤ wr.heap.size))
 case atStart => exact ⟨l.length + 1, [], k21, p21, c21, none, 0, rfl, hr, by simp, fun _ => by omega, hC, ⟨by simp [ndsL], .inl ⟨rfl, rfl⟩⟩, (fun x hx => by simp at hx), hR, hS, hsz⟩
 case round =>
  clear hS hR hC hA hsz hr; obtain ⟨g0, T, k, pp, cd, q, cc, hg0, hrr, hTg, hfuel, hC, hown, hts, hR, hS, hsz⟩ := hrel; replace hA := hdZ (hA0f.out _ hS.out); have hTg' := hdZ hTg; have hfuel' := hdZ hfuel; have hg0' := hdZ hg0; clear hTg hfuel hg0; have hRc1 : wr.cell? (Az gR 1) = some (Iz k) := hR.out.cell 1; have hRf1 := hR.out.frozen 1; have hRc3 : wr.cell? (Az gR 3) = some (Iz cd) := hR.out.cell 3; have hRf3 := hR.out.frozen 3; have hRl := hR.out.lt
  by_cases hgo : cd = 0 ∧ k < n
  ·obtain ⟨hz, hlt⟩ := hgo
   have hlt' := hdZ hlt; obtain ⟨m, hm'⟩ : ∃ m, g0 = m + 1 := by have := hfuel'.out hz; exact ⟨g0 - 1, by omega⟩
   subst hm'; subst hz; have b2 : decide ((k : Int) < (n : Int)) = true := by simp; omega
   have b3 : k < n := hlt; clear hlt; obtain ⟨bw, hbw⟩ := nmZ (atI (isT wWz) l k)
   have hstep : Hid (crs = ((cr, T.map ndP ++ (if bw = true ∧ T.length = 64 then ([], ⟨k, plz e l k, 7⟩) else ((needD e l N ⟨k, pp, 0⟩).1 :: (needsD e l N m (T.length + 1) (needD e l N ⟨k, pp, 0⟩).2).1, (needsD e l N m (T.length + 1) (needD e l N ⟨k, pp, 0⟩).2).2) : List NdP × St).1), (if bw = true ∧ T.length = 64 then ([], ⟨k, plz e l k, 7⟩) else ((needD e l N ⟨k, pp, 0⟩).1 :: (needsD e l N m (T.length + 1) (needD e l N ⟨k, pp, 0⟩).2).1, (needsD e l N m (T.length + 1) (needD e l N ⟨k, pp, 0⟩).2).2) : List NdP × St).2)) := by
    have h := hrr.out; rw [needsD, if_pos ⟨rfl, by rw [hn.out]; exact hlt'.out⟩] at h; simp only [hbw.out] at h; exact h
   clear hrr
   go_upto_region 42 with fail
   clear b2 b3; have hCc : wr.cell? (Az gC 17) = some (.slice q T.length cc) := hC.out.cell 17
   go_cut [227] from 208 to 243 (fun v wx => v = .bool (bw && decide (T.length = 64)) ∧ Hid (wr = wx))
   case first =>
    have hRc0 : wr.cell? (Az gR 0) = some (.slice A n c) := hR.out.cell 0
    cases bw with
    | false =>
     go_wp2_with (go_at_call 48; refine (rsz A n c l wr k wWz hn hA).mono ?_; rintro x1 wx ⟨rfl, rfl⟩; rw [hbw.out])
     go_meet
     case rel => exact ⟨rfl, rfl⟩
    | true =>
     by_cases h64 : T.length = 64
     ·have b4 : ((T.length : Int) == 64) = true := by rw [h64]; rfl
      have e4 := hdZ h64; clear h64
      go_wp2_with (go_at_call 48; refine (rsz A n c l wr k wWz hn hA).mono ?_; rintro x1 wx ⟨rfl, rfl⟩; rw [hbw.out])
      go_meet
      case rel => exact ⟨by simp [e4.out], rfl⟩
     ·have b4 : ((T.length : Int) == 64) = false := by simp only [beq_eq_false_iff_ne, ne_eq]; omega
      have e4 := hdZ h64; clear h64
      go_wp2_with (go_at_call 48; refine (rsz A n c l wr k wWz hn hA).mono ?_; rintro x1 wx ⟨rfl, rfl⟩; rw [hbw.out])
      go_meet
      case rel => exact ⟨by simp [e4.out], rfl⟩
   case rest =>
    obtain ⟨rfl, hwx⟩ := hcut; rw [← hwx.out]; clear hwx
    by_cases hfull : bw = true ∧ T.length = 64
    ·have bfull : (bw && decide (T.length = 64)) = true := by simp [hfull.1, hfull.2]
     have hcr1 : Hid (crs = ((cr, T.map ndP ++ []), ⟨k, plz e l k, 7⟩)) := by have h := hstep.out; rw [if_pos hfull] at h; exact h
     rw [bfull]; have hst : Hid (failS ⟨k, pp, 0⟩ (plz e l k) 7 = ⟨k, plz e l k, 7⟩) := rfl; clear hfull bfull hstep
     go_wp2_with (first | (go_at_call 50; refine (stop_any A n c l wr e hn ⟨k, pp, 0⟩ k 7 hA).mono ?_; rintro x2 ws ⟨rfl, hbs⟩; rw [hst.out]; obtain ⟨hC, hR, hS, hA⟩ := ph_call hbs hgC hC hR hS hA) | (refine gbz rfl 83 _ rfl gR #[.slice A n c, Iz k, Iz e, Iz 0, Iz pp] 83 _ rfl hR.out Tryz.underlying83 rfl i83 ?_) | (refine pbz rfl 83 _ _ rfl gR #[.slice A n c, Iz k, Iz e, Iz 0, Iz pp] #[.slice A n c, Iz k, Iz e, Iz 7, Iz (plz e l k : Nat)] 83 rfl rfl hR.out rfl i83 (rdz _ _ _ _ _ _ _) ?_; intro wp hR9 hu8))
     go_roundg m
     case measure => have := hg0'.out; omega
     case rel =>
      refine ⟨m, T, k, plz e l k, 7, q, cc, rfl, ?_, by have := hTg'.out; omega, fun h => absurd h (by decide), hu8.blk hC.out ncr, own_but (own_below hown.out hbs) hu8 (by have := hgR.out; omega), fun x hx => ((hts.out x hx).below hbs).but hu8 (fun b hb => by have := hb.1; have := hgR.out; omega), hR9, hu8.to_below hS.out hgl.out (Nat.le_trans (Nat.le_of_eq hgC.out.symm) hS.out.size), Nat.le_trans hsz.out (Nat.le_trans hbs.size hu8.size)⟩; have h7 : (⟨k, plz e l k, 7⟩ : St).cd ≠ 0 := by show (7 : Int) ≠ 0; decide
      rw [needsD_bad h7]; exact hcr1
    ·have bfull : (bw && decide (T.length = 64)) = false := by
      cases bw with
      | false => rfl
      | true => simpa using hfull
     rw [bfull]; obtain ⟨⟨⟨nk, nn, nr⟩, ⟨kN, pN, cN⟩⟩, hnd⟩ := nmZ (needD e l N ⟨k, pp, 0⟩)
     have hstep2 : Hid (crs = ((cr, T.map ndP ++ ((nk, nn, nr) :: (needsD e l N m (T.length + 1) ⟨kN, pN, cN⟩).1)), (needsD e l N m (T.length + 1) ⟨kN, pN, cN⟩).2)) := by
      have h := hstep.out; rw [if_neg hfull, hnd.out] at h; exact h
     clear hfull bfull hstep; have hbx : Hid (Bz wr (wr.alloc (.cells #[Iz 0, Iz 0, Iz 0, Iz 0, S0z, S0z, Iz 0, .slice none 0 0] 74))) := (Below.refl _ wr).alloc leZ _; have hX : Hid (Blk (wr.alloc (.cells #[Iz 0, Iz 0, Iz 0, Iz 0, S0z, S0z, Iz 0, .slice none 0 0] 74)) wr.heap.size 74 #[Iz 0, Iz 0, Iz 0, Iz 0, S0z, S0z, Iz 0, .slice none 0 0]) := Blk.new wr 74 _; have htsR : Hid (∀ x ∈ T, TAz (wr.alloc (.cells #[Iz 0, Iz 0, Iz 0, Iz 0, S0z, S0z, Iz 0, .slice none 0 0] 74)) (fun b => (gR + 1 ≤ b ∧ (Value.slice q T.length cc).ownBlock ≠ some b) ∧ b ≠ wr.heap.size) x.rule) := fun x hx => ((hts.out x hx).mono (fun b hb hk => ⟨hk, by omega⟩)).below hbx.out
     have own_old0 : Hid (∀ b, wr.heap.size ≤ b → (Value.slice q T.length cc).ownBlock ≠ some b) := own_old hown.out; have hszr := hsz; replace hC := hdZ (hC.out.below hbx.out hC.out.lt); replace hR := hdZ (hR.out.below hbx.out hR.out.lt); replace hS := hdZ (hS.out.trans (hbx.out.mono (by have := hsz.out; have := hgR.out; omega))); have hown := hdZ (own_below hown.out hbx.out); have hts : Hid (∀ x ∈ T, TAz (wr.alloc (.cells #[Iz 0, Iz 0, Iz 0, Iz 0, S0z, S0z, Iz 0, .slice none 0 0] 74)) (fun b => gR + 1 ≤ b ∧ (Value.slice q T.length cc).ownBlock ≠ some b) x.rule) := fun x hx => (hts.out x hx).below hbx.out
     clear hCc
     go_upto_region 45 with fail
     obtain ⟨wx, hwx⟩ := nmZ ((wr.alloc (.cells #[Iz 0, Iz 0, Iz 0, Iz 0, S0z, S0z, Iz 0, .slice none 0 0] 74))); have hXlt : Hid (wr.heap.size + 1 = wx.heap.size) := by unfold Hid; rw [← hwx.out]; simp
     rw [hwx.out] at hX hC hR hS hown hts htsR ⊢; obtain ⟨gX, hgX⟩ := nmZ (wr.heap.size); rw [hgX.out] at hX hszr hXlt htsR ⊢; clear hwx hbx hA; replace hA := hdZ (hA0f.out _ hS.out); have hob : Hid (∀ b, gX ≤ b → (Value.slice q T.length cc).ownBlock ≠ some b) := fun b hb => own_old0.out b (by rw [hgX.out]; exact hb)
     have nxc : gX ≠ gC := by have := hszr.out; have := hgR.out; omega
     have ncx : gC ≠ gX := by have := hszr.out; have := hgR.out; omega
     have nxr : gX ≠ gR := by have := hszr.out; have := hgR.out; omega
     have nrx : gR ≠ gX := by have := hszr.out; have := hgR.out; omega
     have htsX : Hid (∀ x ∈ T, TAz wx (fun b => (gR + 1 ≤ b ∧ (Value.slice q T.length cc).ownBlock ≠ some b) ∧ b ≠ gX) x.rule) := fun x hx => htsR.out x hx
     have hcallN := hdZ (rneed_any A n c l wx e hn hm hok hgd.out ⟨k, pp, 0⟩ hA); rw [hN.out, hnd.out] at hcallN
     go_upto_region 46 with (first | (go_at_call 54; refine hcallN.out.mono ?_; rintro x2 wn ⟨hbn, ⟨uk, up, uf, ux, un, uA, uc, uL⟩, rfl, htr, hst6⟩; have htr := hdZ htr; have hst6 := hdZ hst6; (try dsimp only [needC]); obtain ⟨hC, hR, hS, hA⟩ := ph_call hbn hgC hC hR hS hA; have hX := hdZ (hX.out.below hbn hX.out.lt); have hown := hdZ (own_below hown.out hbn); have hts : Hid (∀ x ∈ T, TAz wn (fun b => gR + 1 ≤ b ∧ (Value.slice q T.length cc).ownBlock ≠ some b) x.rule) := (fun x hx => (hts.out x hx).below hbn)) | (refine gbz rfl 83 _ rfl gR #[.slice A n c, Iz k, Iz e, Iz 0, Iz pp] 83 _ rfl hR.out Tryz.underlying83 rfl i83 ?_) | (refine pbz rfl 83 _ _ rfl gR #[.slice A n c, Iz k, Iz e, Iz 0, Iz pp] #[.slice A n c, Iz kN, Iz e, Iz cN, Iz pN] 83 rfl rfl hR.out rfl i83 (rdz _ _ _ _ _ _ _) ?_; intro wp hR9 hu8; have hX := hdZ (hu8.blk hX.out nxr); replace hC := hdZ (hu8.blk hC.out ncr)) | (refine pbz rfl 74 _ _ rfl gX #[Iz 0, Iz 0, Iz 0, Iz 0, S0z, S0z, Iz 0, .slice none 0 0] #[Iz nk, Iz nn, Iz uk, Iz up, Sz uf, Sz ux, Iz un, .slice uA uL.length uc] 74 rfl rfl hX.out rfl i74 (nd_one _ _ _ _ _ _ _ _ _ _) ?_; intro wz hX9 hu9))
     replace hC : Hid (Blk wz gC 41 (cr.cells (.slice q T.length cc))) := hu9.blk hC.out ncx; replace hR : Hid (Blk wz gR 83 #[.slice A n c, Iz kN, Iz e, Iz cN, Iz pN]) := hu9.blk hR9 nrx; have hxl : Hid (gX < wn.heap.size) := by have := hbn.size; have := hXlt.out; unfold Hid; omega
     have hSp : Hid (Below gC w1 wp) := hu8.to_below hS.out hgl.out (Nat.le_trans (Nat.le_of_eq hgC.out.symm) hS.out.size); replace hS : Hid (Below gC w1 wz) := hu9.to_below hSp.out (by have := hszr.out; have := hgR.out; omega) (Nat.le_trans (Nat.le_of_eq hgC.out.symm) hSp.out.size); have hownp := hdZ (own_but hown.out hu8 (by have := hgR.out; omega)); have hownz : Hid (wz.ownsRow (gR + 1) 74 8 (.slice q T.length cc) T.length (ndsL T)) := own_skip hownp.out hu9 (hob.out gX leZ)
     have htsz : Hid (∀ x ∈ T, TAz wz (fun b => (gR + 1 ≤ b ∧ (Value.slice q T.length cc).ownBlock ≠ some b) ∧ b ≠ gX) x.rule) := fun x hx => by
      have h1 := ((htsX.out x hx).below hbn).but hu8 (fun b hb => by have := hb.1.1; have := hgR.out; omega); exact h1.but hu9 (fun b hb => hb.2)
     have htrz : Hid (TAz wz (fun b => gX < b) (.mk uk up uf ux un uA uc uL)) := by
      have h1 : TAz wn (fun b => gX < b) (.mk uk up uf ux un uA uc uL) := htr.out.mono (fun b _ hb => by have := hXlt.out; omega); exact (h1.but hu8 (fun b hb => by have := hszr.out; have := hgR.out; omega)).but hu9 (fun b hb => by omega)
     have hXz := hdZ hX9; have hszz : Hid (gX + 1 ≤ wz.heap.size) := by have := hu8.size; have := hu9.size; have := hxl.out; unfold Hid; omega
     clear hu8 hu9 hX9 hR9 hbn hownp hSp htr; have hq1 : Hid (T.length + 1 ≤ maxLen) := by have := hTg'.out; unfold Hid maxLen; have := hn.out; omega
     have hq2 : Hid ((T.length + 1) * 96 ≤ 140737488355328) := by have := hTg'.out; have := hn.out; unfold Hid; omega
     have hCc : wz.cell? (Az gC 17) = some (.slice q T.length cc) := hC.out.cell 17; have hCf := hC.out.frozen 17; have hCl := hC.out.lt; have hbl : Hid (Bz wz (wz.alloc (.cells #[Iz nk, Iz nn, Iz uk, Iz up, Sz uf, Sz ux, Iz un, .slice uA uL.length uc] 74))) := (Below.refl _ wz).alloc leZ _; have hown2 := hdZ (own_below hownz.out hbl.out); have hsz2 : Hid (gR + 1 ≤ (wz.alloc (.cells #[Iz nk, Iz nn, Iz uk, Iz up, Sz uf, Sz ux, Iz un, .slice uA uL.length uc] 74)).heap.size) := by have h := hbl.out.size; have := hszr.out; have := hszz.out; unfold Hid; omega
     go_wp2_with (first | (refine gbz rfl 74 _ rfl gX #[Iz nk, Iz nn, Iz uk, Iz up, Sz uf, Sz ux, Iz un, .slice uA uL.length uc] 74 _ rfl hXz.out Tryz.underlying74 rfl i74 ?_) | (at_builtin; go_must (refine wpList_app4 (gR + 1) rfl (.tmp 239) (.tmp 241) 39 rfl 74 i0 _ 8 96 Tryz.underlying39 hi hz0 hz1 hz2 rfl (by decide) (.slice q T.length cc) T.length (ndsL T) rfl wz.heap.size 1 #[Iz nk, Iz nn, Iz uk, Iz up, Sz uf, Sz ux, Iz un, .slice uA uL.length uc] rfl hown2.out (Blk.new wz 74 _) rfl (need_one _ _ _ _ _ _ _ _ _ _) hq1.out hq2.out hsz2.out ?_); intro v6 w6 ho6 hg6 hv6; obtain ⟨p6, c6, rfl⟩ := osz ho6; have hWl : Hid (Below (gR + 1) (wz.alloc (.cells #[Iz nk, Iz nn, Iz uk, Iz up, Sz uf, Sz ux, Iz un, .slice uA uL.length uc] 74)) w6) := own_grown hown2.out hg6 hsz2.out; have hC6 := hdZ ((hC.out.below hbl.out hC.out.lt).below hWl.out (by have := hgR.out; omega)); have hCc6 : w6.cell? (Az gC 17) = some (.slice q T.length cc) := hC6.out.cell 17; have hCf6 := hC6.out.frozen 17; have hCl6 := hC6.out.lt; have ho6' := hdZ ho6; have hg6' := hdZ hg6; have hv6' := hdZ hv6; clear ho6 hg6 hv6))
     have hS6 : Hid (Below gC w1 w6) := (hS.out.trans (hbl.out.mono (Nat.le_trans (Nat.le_of_eq hgC.out.symm) hS.out.size))).trans (hWl.out.mono (by have := hgR.out; omega)); have hS7 : Hid (Below gC w1 (w6.setCell (Az gC 17) (.slice p6 (T.length + 1) c6))) := hS6.out.setCell leZ _; have hR7 : Hid (Blk (w6.setCell (Az gC 17) (.slice p6 (T.length + 1) c6)) gR 83 #[.slice A n c, Iz kN, Iz e, Iz cN, Iz pN]) := ((hR.out.below hbl.out hR.out.lt).below hWl.out (by have := hgR.out; omega)).far (p := (Az gC 17)) nrc _; have hC7 : Hid (Blk (w6.setCell (Az gC 17) (.slice p6 (T.length + 1) c6)) gC 41 (cr.cells (.slice p6 (T.length + 1) c6))) := hC6.out.set_ 17 (.slice p6 (T.length + 1) c6); have hu7 : Hid (But gC w6 (w6.setCell (Az gC 17) (.slice p6 (T.length + 1) c6))) := (But.refl _ w6).setCell _ _; have hown7 := hdZ (own_but ho6'.out hu7.out (by have := hgR.out; omega)); have hsz7 : Hid (gR + 1 ≤ (w6.setCell (Az gC 17) (.slice p6 (T.length + 1) c6)).heap.size) := Nat.le_trans (Nat.le_trans hsz2.out hWl.out.size) (by simp); obtain ⟨xN, hxN⟩ : ∃ x : Nd, Hid (⟨nk, nn, .mk uk up uf ux un uA uc uL⟩ = x) := ⟨_, hdZ rfl⟩
     have hts7 : Hid (∀ x ∈ T ++ [xN], TAz (w6.setCell (Az gC 17) (.slice p6 (T.length + 1) c6)) (fun b => gR + 1 ≤ b ∧ (Value.slice p6 (T.length + 1) c6).ownBlock ≠ some b) x.rule) := fun x hx => by
      have h0 : TAz wz (fun b => gR + 1 ≤ b ∧ (Value.slice q T.length cc).ownBlock ≠ some b) x.rule := by
       rcases List.mem_append.1 hx with h | h
       ·exact (htsz.out x h).mono (fun b _ hb => hb.1)
       ·rw [List.mem_singleton.1 h, ← hxN.out]
        exact htrz.out.mono (fun b _ hk => ⟨by have := hszr.out; omega, hob.out b (by omega)⟩)
      have h1 := (h0.below hbl.out).mono (ok' := fun b => (gR + 1 ≤ b ∧ (Value.slice q T.length cc).ownBlock ≠ some b) ∧ (Value.slice p6 (T.length + 1) c6).ownBlock ≠ some b) (fun b hb hk => ⟨hk, by
       rcases hv6'.out with h | h
       ·rw [h]; exact hk.2
       ·rw [h]; intro h'; have := Option.some.inj h'; omega⟩)
      exact ((h1.same (w' := w6) (fun q h1 h2 => grown_cell hg6'.out h1 h2.1.2)).but hu7.out (fun b hb => by have := hb.1.1; have := hgR.out; omega)).mono (fun b _ hk => ⟨hk.1.1, hk.2⟩)
     obtain ⟨T', hT'⟩ : ∃ T', Hid (T ++ [xN] = T') := ⟨_, hdZ rfl⟩; have hl' : Hid (T'.length = T.length + 1) := by unfold Hid; rw [← hT'.out]; simp
     have hcr' : Hid (crs = ((cr, T'.map ndP ++ (needsD e l N m T'.length ⟨kN, pN, cN⟩).1), (needsD e l N m T'.length ⟨kN, pN, cN⟩).2)) := by
      have h := hstep2.out; unfold Hid; rw [h, hl'.out, ← hT'.out, List.map_append, List.append_assoc, ← hxN.out]; show _ = ((cr, T.map ndP ++ ((nk, nn, stz (.mk uk up uf ux un uA uc uL)) :: (needsD e l N m (T.length + 1) ⟨kN, pN, cN⟩).1)), _); rw [hst6.out]
     have hfu : Hid (cN = 0 → l.length - kN < m) := fun hz => by
      have h1 := needD_more (e := e) (l := l) (N := N) (st := ⟨k, pp, 0⟩) hN.out.symm (by rw [hnd.out]; exact hz); rw [hnd.out] at h1; have h3 := hfuel'.out (by first | exact rfl | trivial); have h4 := hlt'.out; have h5 := h1.2; have h6 := hn.out; simp only at h5; omega
     have hNL : Hid (ndsL T' = ndsL T ++ xN.cells) := by unfold Hid; rw [← hT'.out, ndsL_snoc]
     have hxc : Hid (xN.cells = (#[Iz nk, Iz nn, Iz uk, Iz up, Sz uf, Sz ux, Iz un, .slice uA uL.length uc] : Array Value).toList) := by unfold Hid; rw [← hxN.out]; rfl
     go_roundg m
     case measure => have := hg0'.out; omega
     case rel =>
      refine ⟨m, T', kN, pN, cN, p6, c6, rfl, hcr', by have := hTg'.out; have := hl'.out; omega, hfu.out, ?_, ?_, ?_, hR7, hS7, hsz7⟩
      ·rw [hl'.out]; exact hC7
      ·rw [hl'.out, hNL.out, hxc.out]; exact hown7
      ·rw [hl'.out, ← hT'.out]; exact hts7
  ·have hno : Hid (needsD e l N g0 T.length ⟨k, pp, cd⟩ = ([], ⟨k, pp, cd⟩)) := by
    unfold Hid
    cases g0 with
    | zero => rfl
    | succ g => rw [needsD, if_neg (by rw [hn.out]; exact hgo)]
   rw [hno.out] at hrr; obtain ⟨A2, c2, hv2, hnds⟩ := own_nds (ok := fun b => gR + 1 ≤ b) hown.out (fun b hb => hb) (fun x hx => (hts.out x hx).mono (fun _ _ hk => hk.1)); obtain ⟨rfl, _, rfl⟩ : q = A2 ∧ T.length = T.length ∧ cc = c2 := by simpa using hv2
   have hnds' := hdZ hnds; have hTl : Hid (T.length ≤ 5000) := by have := hTg'.out; have := hn.out; unfold Hid; omega
   clear hnds hv2 hts hown hno; obtain ⟨C, hCe⟩ := nmZ (cr.cells (.slice q T.length cc)); have hCs : Hid (C.size = 18) := by rw [← hCe.out]; rfl
   have hCi : Hid ((Tryz.prog.info? 41).map (·.size) = some C.size) := by unfold Hid; rw [hCs.out]; exact i41
   have hC1 : Hid (C.all (·.oneCell') = true) := by unfold Hid; rw [← hCe.out, ← Array.all_toList]; rfl
   rw [hCe.out] at hC; have hP := hdZ (hP1.out.below hS.out (by have := hgP.out; omega)); have hB : Hid (Bz w wr) := hB1.out.trans (hS.out.mono (by have := hgP.out; omega)); have hres : Hid (pDz s.data.toList = endC ((cr, T.map ndP), ⟨k, pp, cd⟩)) := by have h := hpD.out; rw [hcrs.out, hrr.out, List.append_nil] at h; exact h
   by_cases hz : cd = 0
   ·have b1 : (cd == 0) = true := by rw [hz]; rfl
    have hk3 : ¬ k < n := fun h => hgo ⟨hz, h⟩
    have b2 : decide ((k : Int) < (n : Int)) = false := by simp; omega
    have b3 : ¬ k < n := hk3; have b4 : (cd != 0) = false := by rw [hz]; rfl
    have hres2 : Hid (pDz s.data.toList = .ok (cr, T.map ndP)) := by unfold Hid; rw [hres.out]; unfold endC; rw [if_pos hz]
    clear hgo hz hk3
    go_wp2_with (first | (refine gbz rfl 41 _ rfl gC C 41 _ rfl hC.out Tryz.underlying41 rfl hCi.out ?_) | (refine pbz rfl 41 _ _ rfl w.heap.size zeroC C 41 rfl rfl hP.out hCs.out.symm hCi.out hC1.out ?_; intro w9 hP9 hu9))
    refine bodyPost_ret (rr2z rfl _ _ w.heap.size 41 _ _ rfl hP9 Tryz.underlying41 rfl hCi.out) rfl ?_; unfold Parsed; rw [hres2.out]; refine ⟨hu9.to_below hB.out leZ hB.out.size, T, q, cc, ?_, nds_but hnds'.out hu9 (fun b hb => by have := hgP.out; have := hgR.out; omega) (fun b hb => by have := hgP.out; have := hgR.out; omega), rfl, hTl.out⟩; rw [← hCe.out]; rfl
   ·have b1 : (cd == 0) = false := by simpa using hz
    have b4 : (cd != 0) = true := by simpa using hz
    have hz' := hdZ hz; have hres2 : Hid (pDz s.data.toList = .error (pp, cd)) := by unfold Hid; rw [hres.out]; unfold endC; rw [if_neg hz]
    clear hgo hz; have npr : w.heap.size ≠ gR := by have := hgP.out; have := hgR.out; omega
    have nrp : gR ≠ w.heap.size := by have := hgP.out; have := hgR.out; omega
    go_wp2_with fail; refine wp_region_held (S := fun W => Blk W gR 83 #[.slice A n c, Iz k, Iz e, Iz cd, Iz pp]) (by kernel_rfl) ?_; have hSV : Blk wr.drew gR 83 #[.slice A n c, Iz k, Iz e, Iz cd, Iz pp] := hR.out.drew; refine wpAnyH_take (i := 0) rfl (by kernel_rfl) (by kernel_rfl) (by kernel_rfl) (fun _ _ _ h => h) (yields_of (v := .agg #[S0z, S0z, S0z, S0z, S0z, S0z, S0z, S0z, Iz 0, Iz 0, Iz 0, Iz 0, Iz 0, Iz 0, Iz 0, .bool false, .bool false, .slice none 0 0]) rfl (fun _ _ => by go_simp)) hSV ?_; go_simp; refine wpAnyH_take (i := 1) rfl (by kernel_rfl) (by kernel_rfl) (by kernel_rfl) (fun _ _ _ h => h) (yields_of (v := .pointer (some (Az gR 4))) rfl (fun _ _ => by go_simp)) hSV ?_; go_simp; refine wpAnyH_take (i := 2) rfl (by kernel_rfl) (by kernel_rfl) (by kernel_rfl) (fun _ _ _ h => h) (yields_of (v := Iz pp) rfl (fun W hW => by have r1 : W.cell? (Az gR 4) = some (Iz pp) := hW.cell 4; go_simp)) hSV ?_; go_simp; refine wpAnyH_take (i := 3) rfl (by kernel_rfl) (by kernel_rfl) (by kernel_rfl) (fun _ _ _ h => h) (yields_of (v := .pointer (some (Az gR 3))) rfl (fun _ _ => by go_simp)) hSV ?_; go_simp; refine wpAnyH_take (i := 4) rfl (by kernel_rfl) (by kernel_rfl) (by kernel_rfl) (fun _ _ _ h => h) (yields_of (v := Iz cd) rfl (fun W hW => by have r1 : W.cell? (Az gR 3) = some (Iz cd) := hW.cell 3; go_simp)) hSV ?_; go_simp; have hPd := hdZ hP.out.drew; have hBd := hdZ hB.out.drew; refine wpAnyH_all (rs := [5]) (by kernel_rfl) (by decide) ?_; intro i hi'; obtain rfl := List.mem_singleton.1 hi'; refine held_put rfl rfl 41 _ _ rfl w.heap.size zeroC zeroC 41 rfl rfl hPd.out rfl i41 zc_one ?_; intro w9 hP9 hu9; have hSV := hu9.blk hSV nrp; refine ⟨hSV, ?_⟩; go_simp; refine wpAnyH_take (i := 6) rfl (by kernel_rfl) (by kernel_rfl) (by kernel_rfl) (fun _ _ _ h => h) (yields_of rfl (fun _ _ => rfl)) hSV ?_; go_simp; refine wpAnyH_take (i := 7) rfl (by kernel_rfl) (by kernel_rfl) (by kernel_rfl) (fun _ _ _ h => h) (yields_of rfl (fun _ _ => rfl)) hSV ?_; go_simp; refine wpAnyH_done (by kernel_rfl) ?_ _; go_wp2_with fail; refine bodyPost_ret (rr2z rfl _ _ w.heap.size 41 _ _ rfl hP9 Tryz.underlying41 rfl i41) rfl ?_; unfold Parsed; rw [hres2.out]; exact ⟨hu9.to_below hBd.out leZ hBd.out.size, rfl, hz'.out⟩
end Go.Proofs.YtjkmhlfjheiekaaGreatDoor

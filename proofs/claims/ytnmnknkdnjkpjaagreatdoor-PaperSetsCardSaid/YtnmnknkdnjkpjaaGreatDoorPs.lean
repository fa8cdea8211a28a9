/- The law PaperSets. -/
import Derived.Test.YtnmnknkdnjkpjaaGreatDoorSe
import Derived.Test.YtnmnknkdnjkpjaaGreatDoorRt
import Derived.Test.YtnmnknkdnjkpjaaGreatDoorLr
import Derived.Test.YtnmnknkdnjkpjaaGreatDoorBj
import Derived.Test.YtnmnknkdnjkpjaaGreatDoorPp
namespace Go.Proofs.YtnmnknkdnjkpjaaGreatDoor
open Go Go.RowKit Go.BigFrame Go.Maps

section
variable {P : Program} {ops : Array Oper} {o : Oper} {rest : List Oper} {a : Act} {w : World} {Q : Exit → Act → World → Prop}
theorem wpList_get_blkg (hw : Region.wanted o (yielded ops a.tmps) = true) (ty : TypeId) (x : Operand) (ho : o.op = .load ty x) (g : Nat) (cs : Array Value) (t : TypeId) (d : TypeDesc) (hx : a.eval x = .pointer (some ⟨g, 0, none⟩))
    (hb : Blk w g t cs) (hu : P.underlying ty = some d) (hd : (match d with | .struct _ | .array _ _ => true | _ => false) = true) (hi : (P.info? ty).map (·.size) = some cs.size)
    (h : wpList P ops Q rest (a.put o.dst (.agg cs)) w) : wpList P ops Q (o :: rest) a w := by
  rw [wpList, if_pos hw]
  exact .inl (wp_load_row ty x ho g hx t cs (0, 0) d hb hu hd hi h)
end
theorem sum_inv (d : Dl) : getV (invL d) ⟨#[115, 117, 109]⟩ = mkB (Lib.itoa d.amount) := by simp [invL, getV, getF, mkB, ByteArray.toList_eq]
theorem sum_pack (d : Dl) : getV (packL d) ⟨#[115, 117, 109]⟩ = ⟨#[]⟩ := by simp [packL, getV, getF, mkB, ByteArray.toList_eq]
theorem sum_lad (b : Bl) (cl : Bool) : getV (ladingL b cl) ⟨#[115, 117, 109]⟩ = ⟨#[]⟩ := by simp [ladingL, getV, getF, mkB, ByteArray.toList_eq]
theorem sum_orig (d : Dl) (co : ByteArray) : getV (originL d co) ⟨#[115, 117, 109]⟩ = ⟨#[]⟩ := by simp [originL, getV, getF, mkB, ByteArray.toList_eq]
theorem sum_cover (d : Dl) (cu : ByteArray) (am : Int) : getV (coverL d cu am) ⟨#[115, 117, 109]⟩ = mkB (Lib.itoa am) := by simp [coverL, getV, getF, mkB, ByteArray.toList_eq]
theorem itoa_size {n : Int} (h : i64 n) : (mkB (Lib.itoa n)).size ≤ 1000000 := by
  have h1 := itoa_len h.1 h.2
  have h2 : (mkB (Lib.itoa n)).size = (Lib.itoa n).length := by show (Lib.itoa n).toArray.size = _; simp
  omega
/-- The cover papers of a deal. -/
def covD (d : Dl) : Dc := ⟨3, mkB [105, 110, 45] ++ d.number, d.insurer, coverL d d.currency d.amount⟩
theorem wantS_small {d : Dl} {b : Bl} {cl : Bool} {m : Nat} {x : Dc} (hd : i64 d.amount) (hx : x ∈ wantS d b cl (List.replicate m (covD d))) :
    x.fields.length ≤ 1000000 ∧ i64 x.kind ∧ (getV x.fields ⟨#[115, 117, 109]⟩).size ≤ 1000000 := by
  simp only [wantS, List.mem_append, List.mem_cons, List.not_mem_nil, or_false, List.mem_replicate] at hx
  rcases hx with ((rfl | rfl | rfl) | ⟨_, rfl⟩) | rfl
  · exact ⟨by simp [invL], by unfold i64; simp only; omega, by rw [sum_inv]; exact itoa_size hd⟩
  · exact ⟨by simp [packL], by unfold i64; simp only; omega, by rw [sum_pack]; decide⟩
  · exact ⟨by simp [ladingL], by unfold i64; simp only; omega, by rw [sum_lad]; decide⟩
  · exact ⟨by simp [covD, coverL], by unfold i64 covD; simp only; omega, by simp only [covD]; rw [sum_cover]; exact itoa_size hd⟩
  · exact ⟨by simp [originL], by unfold i64; simp only; omega, by rw [sum_orig]; decide⟩
theorem wantS_thou {d : Dl} {b : Bl} {cl : Bool} {m : Nat} {x : Dc} (hx : x ∈ wantS d b cl (List.replicate m (covD d))) : x.fields.length ≤ 1000 := by
  simp only [wantS, List.mem_append, List.mem_cons, List.not_mem_nil, or_false, List.mem_replicate] at hx
  rcases hx with ((rfl | rfl | rfl) | ⟨_, rfl⟩) | rfl
  · simp [invL]
  · simp [packL]
  · simp [ladingL]
  · simp [covD, coverL]
  · simp [originL]
theorem small_of {ps : List Pap} {d : Dl} {b : Bl} {cl : Bool} {m : Nat} (hd : i64 d.amount) (he : ps.map Pap.pl = wantS d b cl (List.replicate m (covD d))) :
    ∀ p ∈ ps, p.fields.length ≤ 1000000 ∧ i64 p.kind ∧ (getV p.fields ⟨#[115, 117, 109]⟩).size ≤ 1000000 := fun p hp => by
  have h : p.pl ∈ wantS d b cl (List.replicate m (covD d)) := by rw [← he]; exact List.mem_map_of_mem hp
  exact wantS_small hd h
theorem goR_len (n : Int) : ∀ (b : Bool) (l : List Dc) (x : Dc), x ∈ goR n b l → ∃ y ∈ l, x.fields = y.fields ∨ x.fields = hitF n y.fields
  | _, [], x, h => by simp [goR] at h
  | b, y :: l, x, h => by
    rw [goR] at h
    split at h
    · rcases List.mem_cons.1 h with rfl | h
      · exact ⟨x, by simp, .inl rfl⟩
      · obtain ⟨z, hz, e⟩ := goR_len n b l x h
        exact ⟨z, by simp [hz], e⟩
    · rcases List.mem_append.1 h with h | h
      · unfold hitL at h
        split at h
        · cases h
        · obtain rfl := List.mem_singleton.1 h
          exact ⟨y, by simp, .inr rfl⟩
      · obtain ⟨z, hz, e⟩ := goR_len n true l x h
        exact ⟨z, by simp [hz], e⟩
theorem hitF_len (n : Int) (fs : List Fld) : (hitF n fs).length ≤ fs.length + 1 := by
  unfold hitF
  split
  · unfold spoilS
    split
    · exact setF_len2 _ _ _
    · omega
  · exact setF_len2 _ _ _
theorem goR_small {n : Int} {ps L : List Pap} (h : ∀ p ∈ ps, p.fields.length ≤ 1000) (he : L.map Pap.pl = goR n false (ps.map Pap.pl)) : ∀ p ∈ L, p.fields.length ≤ 1000000 := by
  intro p hp
  have h1 : p.pl ∈ goR n false (ps.map Pap.pl) := by rw [← he]; exact List.mem_map_of_mem hp
  obtain ⟨y, hy, e⟩ := goR_len n false _ _ h1
  obtain ⟨q, hq, rfl⟩ := List.mem_map.1 hy
  have hq' := h q hq
  have hl : p.fields.length = p.pl.fields.length := rfl
  have hlq : q.pl.fields = q.fields := rfl
  rcases e with e | e
  · rw [hl, e, hlq]; omega
  · have := hitF_len n q.pl.fields
    rw [hl, e]; rw [hlq] at this ⊢; omega
theorem goR_count (n : Int) : ∀ (b : Bool) (l : List Dc), (goR n b l).length ≤ l.length
  | _, [] => by simp [goR]
  | b, y :: l => by
    rw [goR]
    split
    · have := goR_count n b l; simp; omega
    · have := goR_count n true l
      have h2 : (hitL n y).length ≤ 1 := by unfold hitL; split <;> simp
      simp; omega

set_option maxRecDepth 100000 in
set_option maxHeartbeats 12800000 in
theorem sets_law (d : Dl) (b : Bl) (cl : Bool) (cv nn : Int) (w : World) (hd : Hid (d.wide w)) (hbw : Hid (b.wide w)) (hcv : Hid (0 ≤ cv ∧ cv ≤ 255)) (hnn : Hid (i64 nn)) (he : Env w) :
    Calls Tryz.prog 4 #[.agg d.cells, .agg (b.cells cl), .int .u8 cv, .int .i64 nn] w fun e w' => e = .returned (.bool true) ∧ Below w.heap.size w w' := by
  have he' := Lib.hid he
  clear he
  obtain ⟨i0, hi, hz0, hz1, hz2⟩ := info_parts Tryz.info32
  obtain ⟨D, hD⟩ : ∃ X, Hid (d.cells = X) := ⟨_, rfl⟩
  obtain ⟨V, hV⟩ : ∃ X, Hid (b.cells cl = X) := ⟨_, rfl⟩
  rw [hD.out, hV.out]
  have hDs : Hid (D.size = 17) := by rw [← hD.out]; exact Lib.hid rfl
  have hVs : Hid (V.size = 9) := by rw [← hV.out]; exact Lib.hid rfl
  obtain ⟨w0, hw0⟩ : ∃ W, Hid ((w.alloc (.cells D 26)).alloc (.cells V 40) = W) := ⟨_, rfl⟩
  have hb0 : Hid (Below w.heap.size w w0) := by rw [← hw0.out]; exact ((Below.refl _ w).alloc (Nat.le_refl _) _).alloc (by simp) _
  have hk0 : Hid (Blk w0 w.heap.size 26 D) := by rw [← hw0.out]; exact Lib.hid ((Blk.new w 26 _).alloc _)
  have hm0 : Hid (Blk w0 (w.heap.size + 1) 40 V) := by rw [← hw0.out]; refine Lib.hid ?_; simpa using Blk.new (w.alloc (.cells D 26)) 40 V
  have hsh0 := short_any d w0 (Lib.hid (hd.out.below hb0.out))
  rw [hD.out] at hsh0
  have hsh := Lib.hid hsh0
  clear hsh0
  go_enter Tryz.func4, Tryz.ntmps4
  go_wp2_with (first | (refine wpList_get_blk rfl 26 _ rfl w.heap.size D 26 _ rfl hk0.out Tryz.underlying26 rfl (by rw [hDs.out]; kernel_rfl) ?_) | rw [hw0.out])
  refine hsh.out.mono ?_
  rintro e w1 ⟨r, rfl, hb1, hq⟩
  have hB1 : Hid (Below w.heap.size w w1) := hb0.out.trans (hb1.mono hb0.out.size)
  have hk1 := Lib.hid (hk0.out.below hb1 hk0.out.lt)
  have hm1 := Lib.hid (hm0.out.below hb1 hm0.out.lt)
  have hq' := Lib.hid hq
  clear hb1 hq hsh
  cases r with
  | false =>
    go_wp2_with fail
    refine (awake_any w1 (he'.out.below hB1.out)).mono ?_
    rintro e w2 ⟨rfl, hb2⟩
    go_wp2_with fail
    go_ret
    exact ⟨rfl, hB1.out.trans (hb2.mono hB1.out.size)⟩
  | true =>
    have hok0 := hq'.out rfl
    have hok : Hid (d.ok w) := { hok0 with at_ := hd.out.at_ }
    clear hok0 hq'
    have hfw0 := few_any b cl w1 (Lib.hid (hbw.out.below hB1.out))
    rw [hV.out] at hfw0
    have hfw := Lib.hid hfw0
    clear hfw0
    go_wp2_with (refine wpList_get_blkg (by rfl) 40 _ rfl (w.heap.size + 1) V 40 _ rfl hm1.out Tryz.underlying40 rfl (by rw [hVs.out]; kernel_rfl) ?_)
    refine hfw.out.mono ?_
    rintro e w2 ⟨r, rfl, hb2, hq⟩
    have hB2 : Hid (Below w.heap.size w w2) := hB1.out.trans (hb2.mono hB1.out.size)
    have hk2 := Lib.hid (hk1.out.below hb2 hk1.out.lt)
    have hm2 := Lib.hid (hm1.out.below hb2 hm1.out.lt)
    have hq' := Lib.hid hq
    clear hb2 hq hfw
    cases r with
    | false =>
      go_wp2_with fail
      refine (awake_any w2 (he'.out.below hB2.out)).mono ?_
      rintro e w3 ⟨rfl, hb3⟩
      go_wp2_with fail
      go_ret
      exact ⟨rfl, hB2.out.trans (hb3.mono hB2.out.size)⟩
    | true =>
      have hbk0 := hq'.out rfl
      have hbk : Hid (b.ok w) := { hbk0 with boxes := hbw.out.boxes, parents := hbw.out.parents }
      clear hbk0 hq'
      have hDc0 : Hid (D[11]? = some (.slice d.A d.boxes.length d.c)) := by rw [← hD.out]; exact Lib.hid rfl
      obtain ⟨fr, hfr⟩ : ∃ X, Hid (d.frm = X) := ⟨_, rfl⟩
      obtain ⟨cu, hcu⟩ : ∃ X, Hid (d.currency = X) := ⟨_, rfl⟩
      obtain ⟨am, ham⟩ : ∃ X, Hid (d.amount = X) := ⟨_, rfl⟩
      have hD7 : Hid (D[7]? = some (.string fr)) := by rw [← hD.out, ← hfr.out]; exact Lib.hid rfl
      have hD9 : Hid (D[9]? = some (.string cu)) := by rw [← hD.out, ← hcu.out]; exact Lib.hid rfl
      have hD10 : Hid (D[10]? = some (.int .i64 am)) := by rw [← hD.out, ← ham.out]; exact Lib.hid rfl
      obtain ⟨dA, hdA⟩ : ∃ x, Hid (d.A = x) := ⟨_, rfl⟩
      obtain ⟨dn, hdn⟩ : ∃ x, Hid (d.boxes.length = x) := ⟨_, rfl⟩
      obtain ⟨dc, hdc⟩ : ∃ x, Hid (d.c = x) := ⟨_, rfl⟩
      obtain ⟨LT, hLT⟩ : ∃ x, Hid (mkB (listT d.boxes) = x) := ⟨_, rfl⟩
      have hDc : Hid (D[11]? = some (.slice dA dn dc)) := by rw [← hdA.out, ← hdn.out, ← hdc.out]; exact hDc0
      have hlist : Hid (∀ W, Below w.heap.size w W → Calls Tryz.prog 14 #[.slice dA dn dc] W fun e w' => e = .returned (.string LT) ∧ Below W.heap.size W w') := by
        intro W hW
        have h := list_any d.A d.boxes.length d.c d.boxes W hok.out.most (Lib.hid rfl) (Lib.hid (BoxesOk.below ⟨hok.out.at_, hok.out.marks⟩ hW)) (Lib.hid (he'.out.below hW))
        rw [hdA.out, hdn.out, hdc.out, hLT.out] at h
        exact h
      obtain ⟨n1, hn1⟩ : ∃ x, Hid (mkB [105, 118, 45] ++ d.number = x) := ⟨_, rfl⟩
      obtain ⟨i1, hi1⟩ : ∃ x, Hid (d.seller = x) := ⟨_, rfl⟩
      obtain ⟨F1, hF1⟩ : ∃ x, Hid (invL d = x) := ⟨_, rfl⟩
      have hl1 : Hid (F1.length = 8) := by rw [← hF1.out]; exact Lib.hid rfl
      have hp1 : Hid (∀ W, Below w.heap.size w W → Calls Tryz.prog 11 #[.agg D] W fun e w' => ∃ A c, e = .returned (.agg #[.int .i64 0, .string n1, .string i1, .slice A 8 c]) ∧ w'.ownsRow W.heap.size 79 2 (.slice A 8 c) 8 (flF F1) ∧ Below W.heap.size W w') := by
        intro W hW
        have h := rinvoice_any d W (Lib.hid (hok.out.below hW)) (he'.out.below hW)
        rw [hD.out, hF1.out, hn1.out, hi1.out] at h
        exact h.mono fun e w' hq => pap_own hl1 hq
      obtain ⟨n2, hn2⟩ : ∃ x, Hid (mkB [112, 107, 45] ++ d.number = x) := ⟨_, rfl⟩
      obtain ⟨i2, hi2⟩ : ∃ x, Hid (d.seller = x) := ⟨_, rfl⟩
      obtain ⟨F2, hF2⟩ : ∃ x, Hid (packL d = x) := ⟨_, rfl⟩
      have hl2 : Hid (F2.length = 6) := by rw [← hF2.out]; exact Lib.hid rfl
      have hp2 : Hid (∀ W, Below w.heap.size w W → Calls Tryz.prog 13 #[.agg D, .string LT] W fun e w' => ∃ A c, e = .returned (.agg #[.int .i64 1, .string n2, .string i2, .slice A 6 c]) ∧ w'.ownsRow W.heap.size 79 2 (.slice A 6 c) 6 (flF F2) ∧ Below W.heap.size W w') := by
        intro W hW
        have h := rpacking_any d W (Lib.hid (hok.out.below hW)) (he'.out.below hW)
        rw [hD.out, hF2.out, hn2.out, hi2.out, hLT.out] at h
        exact h.mono fun e w' hq => pap_own hl2 hq
      obtain ⟨n3, hn3⟩ : ∃ x, Hid (b.number = x) := ⟨_, rfl⟩
      obtain ⟨i3, hi3⟩ : ∃ x, Hid (b.carrier = x) := ⟨_, rfl⟩
      obtain ⟨F3, hF3⟩ : ∃ x, Hid (ladingL b cl = x) := ⟨_, rfl⟩
      have hl3 : Hid (F3.length = 9) := by rw [← hF3.out]; exact Lib.hid rfl
      have hp3 : Hid (∀ W, Below w.heap.size w W → Calls Tryz.prog 20 #[.agg V] W fun e w' => ∃ A c, e = .returned (.agg #[.int .i64 2, .string n3, .string i3, .slice A 9 c]) ∧ w'.ownsRow W.heap.size 79 2 (.slice A 9 c) 9 (flF F3) ∧ Below W.heap.size W w') := by
        intro W hW
        have h := rlading_any b cl W (Lib.hid (hbk.out.below hW)) (he'.out.below hW)
        rw [hV.out, hF3.out, hn3.out, hi3.out] at h
        exact h.mono fun e w' hq => pap_own hl3 hq
      obtain ⟨n4, hn4⟩ : ∃ x, Hid (mkB [111, 114, 45] ++ d.number = x) := ⟨_, rfl⟩
      obtain ⟨i4, hi4⟩ : ∃ x, Hid (d.seller = x) := ⟨_, rfl⟩
      obtain ⟨F4, hF4⟩ : ∃ x, Hid (originL d d.frm = x) := ⟨_, rfl⟩
      have hl4 : Hid (F4.length = 3) := by rw [← hF4.out]; exact Lib.hid rfl
      have hp4 : Hid (∀ W, Below w.heap.size w W → Calls Tryz.prog 18 #[.agg D, .string fr] W fun e w' => ∃ A c, e = .returned (.agg #[.int .i64 4, .string n4, .string i4, .slice A 3 c]) ∧ w'.ownsRow W.heap.size 79 2 (.slice A 3 c) 3 (flF F4) ∧ Below W.heap.size W w') := by
        intro W hW
        have h := rorigin_any d d.frm W (Lib.hid (hok.out.below hW)) (he'.out.below hW)
        rw [hD.out, hF4.out, hn4.out, hi4.out, hfr.out] at h
        exact h.mono fun e w' hq => pap_own hl4 hq
      obtain ⟨n5, hn5⟩ : ∃ x, Hid (mkB [105, 110, 45] ++ d.number = x) := ⟨_, rfl⟩
      obtain ⟨i5, hi5⟩ : ∃ x, Hid (d.insurer = x) := ⟨_, rfl⟩
      obtain ⟨F5, hF5⟩ : ∃ x, Hid (coverL d d.currency d.amount = x) := ⟨_, rfl⟩
      have hl5 : Hid (F5.length = 5) := by rw [← hF5.out]; exact Lib.hid rfl
      have hp5 : Hid (∀ W, Below w.heap.size w W → Calls Tryz.prog 16 #[.agg D, .agg #[.string cu, .int .i64 am]] W fun e w' => ∃ A c, e = .returned (.agg #[.int .i64 3, .string n5, .string i5, .slice A 5 c]) ∧ w'.ownsRow W.heap.size 79 2 (.slice A 5 c) 5 (flF F5) ∧ Below W.heap.size W w') := by
        intro W hW
        have h := rcover_any d d.currency d.amount W (Lib.hid (hok.out.below hW)) (Lib.hid hok.out.amount) (he'.out.below hW)
        rw [hD.out, hF5.out, hn5.out, hi5.out, hcu.out, ham.out] at h
        exact h.mono fun e w' hq => pap_own hl5 hq
      have hwant : Hid (∀ m, wantS d b cl (List.replicate m (covD d)) = [⟨0, n1, i1, F1⟩, ⟨1, n2, i2, F2⟩, ⟨2, n3, i3, F3⟩] ++ List.replicate m (⟨3, n5, i5, F5⟩ : Dc) ++ [⟨4, n4, i4, F4⟩]) := by intro m; rw [← hn1.out, ← hn2.out, ← hn3.out, ← hn4.out, ← hn5.out, ← hi1.out, ← hi2.out, ← hi3.out, ← hi4.out, ← hi5.out, ← hF1.out, ← hF2.out, ← hF3.out, ← hF4.out, ← hF5.out]; exact rfl
      have hcovE : Hid (covD d = ⟨3, n5, i5, F5⟩) := by rw [← hn5.out, ← hi5.out, ← hF5.out]; exact Lib.hid rfl
      have hset : Hid (∀ (W : World) (A : Option Addr) (n c : Nat) (l : List Pap), Below w.heap.size w W → n ≤ 1000 → l.length = n → DocsAt W A l → (∀ p ∈ l, p.fields.length ≤ 1000000) → Calls Tryz.prog 21 #[.agg D, .agg V, .slice A n c] W fun e w' => ∃ v ps, e = .returned v ∧ w'.ownsRow W.heap.size 32 4 v ps.length (ps.flatMap encD) ∧ OwnD w' W.heap.size ps ∧ ps.map Pap.pl = wantS d b cl (l.map Pap.pl) ∧ Below W.heap.size W w') := by
        intro W A n c l hW hn hl hA hs
        have h := set_papers d b cl A n c l W (Lib.hid (hok.out.below hW)) (Lib.hid (Bl.ok.below hbk.out hW)) hn (Lib.hid hl) (Lib.hid hA) (Lib.hid hs) (he'.out.below hW)
        rw [hD.out, hV.out] at h
        exact h
      clear hDc0
      obtain ⟨m, hm3, hmm⟩ : ∃ m : Nat, m ≤ 2 ∧ cv % 3 = (m : Int) := ⟨(cv % 3).toNat, by have := hcv.out; omega, by have := hcv.out; omega⟩
      have hmt : Int.tmod cv 3 = (m : Int) := by rw [Int.tmod_eq_emod_of_nonneg hcv.out.1]; exact hmm
      have hc0 := hcv.out.1
      have hc1 := hcv.out.2
      have hcw : IntKind.i64.wrap cv = cv := IntWalk.i64_in _ (by omega)
      have hnew := Lib.hid (own_new w2 32 4)
      go_wp2_with fail
      go_loopw [9, 25] (fun v i wr => ∃ (k : Nat) (ps : List Pap), k ≤ m ∧ i = .int .i64 (k : Int) ∧ Hid (ps.length = k) ∧ Hid (ps.map Pap.pl = List.replicate k (⟨3, n5, i5, F5⟩ : Dc)) ∧ Hid (Rowd w2.heap.size w2 wr v ps)) (fun _ i _ => m - (intOf i).toNat)
      case atStart => exact ⟨0, [], Nat.zero_le _, rfl, rfl, rfl, ⟨hnew.out, fun p hp => by simp at hp, (Below.refl _ w2).alloc (Nat.le_refl _) _⟩⟩
      case round =>
        obtain ⟨k, cs, hk, rfl, hcl, hcp, hR⟩ := hrel
        obtain ⟨Av, cw, rfl⟩ := own_form hR.out.row
        have hBr : Hid (Below w.heap.size w wr) := hB2.out.trans (hR.out.below.mono hB2.out.size)
        have hkr := Lib.hid (hk2.out.below hR.out.below hk2.out.lt)
        have hmr := Lib.hid (hm2.out.below hR.out.below hm2.out.lt)
        by_cases hlt : k < m
        · have hkm : decide (k < m) = true := decide_eq_true hlt
          have r9 : wr.cell? ⟨w.heap.size, 9, none⟩ = some (.string cu) := (hkr.out.cell 9).trans hD9.out
          have r10 : wr.cell? ⟨w.heap.size, 10, none⟩ = some (.int .i64 am) := (hkr.out.cell 10).trans hD10.out
          have hcall := Lib.hid (hp5.out wr hBr.out)
          go_wp2_with (refine wpList_get_blk rfl 26 _ rfl w.heap.size D 26 _ rfl hkr.out Tryz.underlying26 rfl (by rw [hDs.out]; kernel_rfl) ?_)
          refine hcall.out.mono ?_
          rintro e w3 ⟨A2', c2', rfl, ho2, hb2⟩
          have hrow2 := Lib.hid (own_below hR.out.row hb2)
          have hO2 : Hid (OwnD w3 w2.heap.size (cs ++ [⟨3, n5, i5, A2', c2', F5⟩])) := (hR.out.fields.below hb2).snoc (by
            simp only; rw [hl5.out]
            exact own_mono_base ho2 hR.out.below.size)
          have hB3 : Hid (Below w2.heap.size w2 w3) := hR.out.below.trans (hb2.mono hR.out.below.size)
          have hone : Hid (∀ u ∈ (#[.int .i64 3, .string n5, .string i5, .slice A2' 5 c2'] : Array Value).toList, u.oneCell' = true) := by intro u hu; simp at hu; rcases hu with rfl | rfl | rfl | rfl <;> rfl
          have hq1 : Hid (cs.length + 1 ≤ maxLen) := by have := hcl.out; unfold Hid maxLen; omega
          have hq2 : Hid ((cs.length + 1) * 64 ≤ 140737488355328) := by have := hcl.out; unfold Hid; omega
          have hsz : Hid (w2.heap.size ≤ (w3.alloc (.cells #[.int .i64 3, .string n5, .string i5, .slice A2' 5 c2'] 32)).heap.size) := Nat.le_trans hB3.out.size (by simp)
          clear ho2 hb2 r9 r10
          go_wp2_with (at_builtin; go_must (refine wpList_app3 w2.heap.size rfl (.tmp 27) (.tmp 32) 42 rfl 32 i0 _ 4 64 Tryz.underlying42 hi hz0 hz1 hz2 rfl (by decide) (.slice Av cs.length cw) cs.length (cs.flatMap encD) rfl w3.heap.size 1 #[.int .i64 3, .string n5, .string i5, .slice A2' 5 c2'] rfl (hrow2.out.alloc _) (Blk.new w3 32 _) rfl hone.out hq1.out hq2.out hsz.out ?_); intro v5 w5 ho5 hb5 hg5)
          have hR5 : Hid (Rowd w2.heap.size w2 w5 v5 (cs ++ [⟨3, n5, i5, A2', c2', F5⟩])) := by
            refine ⟨?_, docs_snoc hrow2.out hO2.out hg5, (hB3.out.alloc hB3.out.size _).trans hb5⟩
            rw [List.flatMap_append, List.length_append]
            simpa [encD, hl5.out] using ho5
          clear ho5 hb5 hg5
          go_roundw
          case rel =>
            refine ⟨k + 1, _, by omega, by go_num, by have := hcl.out; unfold Hid; simp; omega, ?_, hR5⟩
            unfold Hid
            rw [List.map_append, hcp.out, List.replicate_succ']
            rfl
          case measure => simp [intOf]; omega
        · have hkm : decide (k < m) = false := decide_eq_false hlt
          obtain rfl : k = m := by omega
          obtain ⟨m, hmk⟩ : ∃ m, m = k := ⟨_, rfl⟩
          subst hmk
          go_wp2_with fail
          rw [hcl.out]
          obtain ⟨w20, hw20⟩ : ∃ W, W = wr := ⟨_, rfl⟩
          subst hw20
          have hk20 := hkr
          have hm20 := hmr
          have hB20 := hBr
          clear hk0 hk1 hk2 hm0 hm1 hm2 hkr hmr hBr hmm hmt hc0 hc1 hcw hkm
          refine wp_region_held (S := fun W => Blk W w.heap.size 26 D ∧ Blk W (w.heap.size + 1) 40 V) (by kernel_rfl) ?_
          have HSV : Blk w20.drew w.heap.size 26 D ∧ Blk w20.drew (w.heap.size + 1) 40 V := ⟨hk20.out.drew, hm20.out.drew⟩
      
          refine wpAnyH_take (i := 0) rfl (by kernel_rfl) (by kernel_rfl) (by kernel_rfl) (fun _ _ _ h => h) (yields_blkg (by rfl) rfl rfl Tryz.underlying26 rfl (by rw [hDs.out]; kernel_rfl) (fun _ h => h.1)) HSV ?_
          go_simp
          refine wpAnyH_take (i := 2) rfl (by kernel_rfl) (by kernel_rfl) (by kernel_rfl) (fun _ _ _ h => h) (yields_blkg (by rfl) rfl rfl Tryz.underlying26 rfl (by rw [hDs.out]; kernel_rfl) (fun _ h => h.1)) HSV ?_
          go_simp
          refine wpAnyH_take (i := 3) rfl (by kernel_rfl) (by kernel_rfl) (by kernel_rfl) (fun _ _ _ h => h) (show YieldsIf _ _ _ _ (.pointer (some ⟨w.heap.size, 11, none⟩)) _ from .inl ⟨by rfl, fun _ _ => by go_simp⟩) HSV ?_
          go_simp
          refine wpAnyH_take (i := 4) rfl (by kernel_rfl) (by kernel_rfl) (by kernel_rfl) (fun _ _ _ h => h) (show YieldsIf _ _ _ _ (.slice dA dn dc) _ from .inl ⟨by rfl, fun W hW => by have hc : W.cell? ⟨w.heap.size, 11, none⟩ = some (.slice dA dn dc) := (hW.1.cell 11).trans hDc.out; go_simp⟩) HSV ?_
          go_simp
          refine wpAnyH_take (i := 7) rfl (by kernel_rfl) (by kernel_rfl) (by kernel_rfl) (fun _ _ _ h => h) (yields_blkg (by rfl) rfl rfl Tryz.underlying40 rfl (by rw [hVs.out]; kernel_rfl) (fun _ h => h.2)) HSV ?_
          go_simp
          refine wpAnyH_take (i := 10) rfl (by kernel_rfl) (by kernel_rfl) (by kernel_rfl) (fun _ _ _ h => h) (show YieldsIf _ _ _ _ (.slice Av m cw) _ from .inl ⟨by rfl, fun _ _ => by go_simp⟩) HSV ?_
          go_simp
          refine wpAnyH_all (rs := [1]) (by kernel_rfl) (by decide) ?_
          intro i hi'
          obtain rfl := List.mem_singleton.1 hi'
          refine held_callg (f := 11) (args := #[.agg D]) rfl (by rfl) (by go_simp) ?_
          refine (hp1.out _ (hB20.out.drew)).mono ?_
          rintro e w21 ⟨A1, c1, rfl, ho1, hb21⟩
          have hb21' : Hid (Below w20.heap.size w20 w21) := (Below.refl _ _).drew.trans hb21
          have hB21 : Hid (Below w.heap.size w w21) := hB20.out.trans (hb21'.out.mono hB20.out.size)
          have hk21 := Lib.hid (hk20.out.below hb21'.out hk20.out.lt)
          have hm21 := Lib.hid (hm20.out.below hb21'.out hm20.out.lt)
          have ho1' := Lib.hid ho1
          clear ho1
          clear hb21 HSV hi'
          refine ⟨_, rfl, ?_⟩
          refine ⟨⟨hk21.out, hm21.out⟩, ?_⟩
          have HSV : Blk w21 w.heap.size 26 D ∧ Blk w21 (w.heap.size + 1) 40 V := ⟨hk21.out, hm21.out⟩
          go_simp
          refine wpAnyH_all (rs := [5]) (by kernel_rfl) (by decide) ?_
          intro i hi'
          obtain rfl := List.mem_singleton.1 hi'
          refine held_callg (f := 14) (args := #[.slice dA dn dc]) rfl (by rfl) (by go_simp) ?_
          refine (hlist.out _ hB21.out).mono ?_
          rintro e w22 ⟨rfl, hb22⟩
          have hb22' : Hid (Below w21.heap.size w21 w22) := hb22
          have hB22 : Hid (Below w.heap.size w w22) := hB21.out.trans (hb22'.out.mono hB21.out.size)
          have hk22 := Lib.hid (hk21.out.below hb22'.out hk21.out.lt)
          have hm22 := Lib.hid (hm21.out.below hb22'.out hm21.out.lt)
          have ho1' := Lib.hid (own_below ho1'.out hb22'.out)
          clear hb22 HSV hi'
          refine ⟨_, rfl, ?_⟩
          refine ⟨⟨hk22.out, hm22.out⟩, ?_⟩
          have HSV : Blk w22 w.heap.size 26 D ∧ Blk w22 (w.heap.size + 1) 40 V := ⟨hk22.out, hm22.out⟩
          go_simp
          refine wpAnyH_all (rs := [6]) (by kernel_rfl) (by decide) ?_
          intro i hi'
          obtain rfl := List.mem_singleton.1 hi'
          refine held_callg (f := 13) (args := #[.agg D, .string LT]) rfl (by rfl) (by go_simp) ?_
          refine (hp2.out _ hB22.out).mono ?_
          rintro e w23 ⟨A2, c2, rfl, ho2, hb23⟩
          have hb23' : Hid (Below w22.heap.size w22 w23) := hb23
          have hB23 : Hid (Below w.heap.size w w23) := hB22.out.trans (hb23'.out.mono hB22.out.size)
          have hk23 := Lib.hid (hk22.out.below hb23'.out hk22.out.lt)
          have hm23 := Lib.hid (hm22.out.below hb23'.out hm22.out.lt)
          have ho1' := Lib.hid (own_below ho1'.out hb23'.out)
          have ho2' := Lib.hid ho2
          clear ho2
          clear hb23 HSV hi'
          refine ⟨_, rfl, ?_⟩
          refine ⟨⟨hk23.out, hm23.out⟩, ?_⟩
          have HSV : Blk w23 w.heap.size 26 D ∧ Blk w23 (w.heap.size + 1) 40 V := ⟨hk23.out, hm23.out⟩
          go_simp
          refine wpAnyH_all (rs := [8]) (by kernel_rfl) (by decide) ?_
          intro i hi'
          obtain rfl := List.mem_singleton.1 hi'
          refine held_callg (f := 20) (args := #[.agg V]) rfl (by rfl) (by go_simp) ?_
          refine (hp3.out _ hB23.out).mono ?_
          rintro e w24 ⟨A3, c3, rfl, ho3, hb24⟩
          have hb24' : Hid (Below w23.heap.size w23 w24) := hb24
          have hB24 : Hid (Below w.heap.size w w24) := hB23.out.trans (hb24'.out.mono hB23.out.size)
          have hk24 := Lib.hid (hk23.out.below hb24'.out hk23.out.lt)
          have hm24 := Lib.hid (hm23.out.below hb24'.out hm23.out.lt)
          have ho1' := Lib.hid (own_below ho1'.out hb24'.out)
          have ho2' := Lib.hid (own_below ho2'.out hb24'.out)
          have ho3' := Lib.hid ho3
          clear ho3
          clear hb24 HSV hi'
          refine ⟨_, rfl, ?_⟩
          refine ⟨⟨hk24.out, hm24.out⟩, ?_⟩
          have HSV : Blk w24 w.heap.size 26 D ∧ Blk w24 (w.heap.size + 1) 40 V := ⟨hk24.out, hm24.out⟩
          go_simp
          refine wpAnyH_all (rs := [9]) (by kernel_rfl) (by decide) ?_
          intro i hi'
          obtain rfl := List.mem_singleton.1 hi'
          refine held_value (v := .slice (some ⟨w24.heap.size, 0, none⟩) 3 3) (w' := w24.alloc (.cells #[.int .i64 0, .string n1, .string i1, .slice A1 8 c1, .int .i64 1, .string n2, .string i2, .slice A2 6 c2, .int .i64 2, .string n3, .string i3, .slice A3 9 c3] 32)) rfl rfl (by go_simp) ?_
          obtain ⟨w25, hw25⟩ : ∃ W, Hid (w24.alloc (.cells #[.int .i64 0, .string n1, .string i1, .slice A1 8 c1, .int .i64 1, .string n2, .string i2, .slice A2 6 c2, .int .i64 2, .string n3, .string i3, .slice A3 9 c3] 32) = W) := ⟨_, rfl⟩
          have hb25 : Hid (Below w24.heap.size w24 w25) := by rw [← hw25.out]; exact (Below.refl _ w24).alloc (Nat.le_refl _) _
          have hlit : Hid (w25.ownsRow w24.heap.size 32 4 (.slice (some ⟨w24.heap.size, 0, none⟩) 3 3) 3 (#[.int .i64 0, .string n1, .string i1, .slice A1 8 c1, .int .i64 1, .string n2, .string i2, .slice A2 6 c2, .int .i64 2, .string n3, .string i3, .slice A3 9 c3] : Array Value).toList) := by rw [← hw25.out]; exact Lib.hid (World.ownsRow_lit (size := 4) w24 (base := w24.heap.size) (e := 32) #[.int .i64 0, .string n1, .string i1, .slice A1 8 c1, .int .i64 1, .string n2, .string i2, .slice A2 6 c2, .int .i64 2, .string n3, .string i3, .slice A3 9 c3] 3 (Nat.le_refl _) (by decide) rfl)
          have hk25 := Lib.hid (hk24.out.below hb25.out hk24.out.lt)
          have hm25 := Lib.hid (hm24.out.below hb25.out hm24.out.lt)
          have ho1' := Lib.hid (own_below ho1'.out hb25.out)
          have ho2' := Lib.hid (own_below ho2'.out hb25.out)
          have ho3' := Lib.hid (own_below ho3'.out hb25.out)
          rw [hw25.out]
          clear HSV hi' hw25
          refine ⟨⟨hk25.out, hm25.out⟩, ?_⟩
          go_simp
          have hB25 : Hid (Below w20.heap.size w20 w25) := hb21'.out.trans ((hb22'.out.mono hb21'.out.size).trans ((hb23'.out.mono (Nat.le_trans hb21'.out.size hb22'.out.size)).trans ((hb24'.out.mono (Nat.le_trans hb21'.out.size (Nat.le_trans hb22'.out.size hb23'.out.size))).trans (hb25.out.mono (Nat.le_trans hb21'.out.size (Nat.le_trans hb22'.out.size (Nat.le_trans hb23'.out.size hb24'.out.size)))))))
          have hrow25 := Lib.hid (own_below hR.out.row hB25.out)
          have hrd : Hid (Reads w25 w25.heap.size 4 Av m (cs.flatMap encD)) := by
            obtain ⟨A9, c9, e9, _, hr9⟩ := RowOf.of_own encD_len hrow25.out rfl
            simp only [Value.slice.injEq] at e9
            obtain ⟨rfl, _, rfl⟩ := e9
            have := hr9.reads encD_len (by decide)
            rw [hcl.out] at this
            exact this
          have hq1 : Hid (3 + m ≤ maxLen) := by unfold Hid maxLen; omega
          have hq2 : Hid ((3 + m) * 64 ≤ 140737488355328) := by unfold Hid; omega
          refine wpAnyH_all (rs := [11]) (by kernel_rfl) (by decide) ?_
          intro i hi'
          obtain rfl := List.mem_singleton.1 hi'
          refine held_append rfl rfl (.tmp 44) (.tmp 45) 42 rfl w24.heap.size 32 i0 _ 4 64 Tryz.underlying42 hi hz0 hz1 hz2 rfl (by decide) (.slice (some ⟨w24.heap.size, 0, none⟩) 3 3) 3 _ rfl hlit.out w25.heap.size Av m cw (cs.flatMap encD) rfl hrd.out (encD_one cs) hq1.out hq2.out hb25.out.size ?_
          intro v6 w26 ho6 hg6 hvb6
          have hne0 : Hid (some w.heap.size ≠ (Value.slice (some ⟨w24.heap.size, 0, none⟩) 3 3).ownBlock) := by unfold Hid; simp only [Value.ownBlock]; intro e; have := hk24.out.lt; simp at e; omega
          have hne1 : Hid (some (w.heap.size + 1) ≠ (Value.slice (some ⟨w24.heap.size, 0, none⟩) 3 3).ownBlock) := by unfold Hid; simp only [Value.ownBlock]; intro e; have := hm24.out.lt; simp at e; omega
          have hk26 := Lib.hid (hk25.out.grown hg6 hne0.out)
          have hm26 := Lib.hid (hm25.out.grown hg6 hne1.out)
          have hb26 : Hid (Below w24.heap.size w25 w26) := (Below.refl _ w25).grown hg6 hb25.out.size (fun k hk => by simp only [Value.ownBlock, Option.some.injEq] at hk; omega)
          have hlt24 : Hid (w20.heap.size ≤ w24.heap.size) := Nat.le_trans hb21'.out.size (Nat.le_trans hb22'.out.size (Nat.le_trans hb23'.out.size hb24'.out.size))
          have hB26 : Hid (Below w20.heap.size w20 w26) := hB25.out.trans (hb26.out.mono hlt24.out)
          have hst : Hid (Rowd w2.heap.size w2 w26 v6 ([(⟨0, n1, i1, A1, c1, F1⟩ : Pap), ⟨1, n2, i2, A2, c2, F2⟩, ⟨2, n3, i3, A3, c3, F3⟩] ++ cs)) := by
            have hBw : Below w2.heap.size w2 w26 := hR.out.below.trans (hB26.out.mono hR.out.below.size)
            refine ⟨?_, ?_, hBw⟩
            · have h := own_mono_base ho6 (B' := w2.heap.size) (Nat.le_trans hR.out.below.size hlt24.out)
              rw [List.length_append, List.flatMap_append]
              have e3 : ([(⟨0, n1, i1, A1, c1, F1⟩ : Pap), ⟨1, n2, i2, A2, c2, F2⟩, ⟨2, n3, i3, A3, c3, F3⟩]).flatMap encD = (#[.int .i64 0, .string n1, .string i1, .slice A1 8 c1, .int .i64 1, .string n2, .string i2, .slice A2 6 c2, .int .i64 2, .string n3, .string i3, .slice A3 9 c3] : Array Value).toList := by simp [encD, hl1.out, hl2.out, hl3.out]
              rw [e3, hcl.out]; exact h
            · have key : ∀ p : Pap, w25.ownsRow w2.heap.size 79 2 (.slice p.fA p.fields.length p.fc) p.fields.length (flF p.fields) → w26.ownsRow w2.heap.size 79 2 (.slice p.fA p.fields.length p.fc) p.fields.length (flF p.fields) := fun p h => h.kept hg6 (own_apart h hlit.out (by decide))
              intro p hp
              refine key p ?_
              simp only [List.mem_append, List.mem_cons, List.not_mem_nil, or_false] at hp
              rcases hp with (rfl | rfl | rfl) | hp
              · simp only; rw [hl1.out]; exact own_mono_base ho1'.out hR.out.below.size
              · simp only; rw [hl2.out]; exact own_mono_base ho2'.out (Nat.le_trans hR.out.below.size (Nat.le_trans hb21'.out.size hb22'.out.size))
              · simp only; rw [hl3.out]; exact own_mono_base ho3'.out (Nat.le_trans hR.out.below.size (Nat.le_trans hb21'.out.size (Nat.le_trans hb22'.out.size hb23'.out.size)))
              · exact (hR.out.fields.below hB25.out) p hp
          have hcov26 : Hid (OwnD w26 w2.heap.size cs ∧ w26.ownsRow w2.heap.size 32 4 (.slice Av m cw) m (cs.flatMap encD)) := by
            refine ⟨fun p hp => hst.out.fields p (List.mem_append_right _ hp), ?_⟩
            have h := hrow25.out
            rw [hcl.out] at h
            refine h.kept hg6 ?_
            rcases h.2 with ⟨e, _⟩ | ⟨gg, cap, cur, e, _, hgg, _⟩
            · left; rw [e]; rfl
            · right; rw [e]; simp only [Value.ownBlock]; intro e2; simp only [Option.some.injEq] at e2
              have h20 := hR.out.row.lt gg (by rw [hcl.out, e]; rfl)
              have := h20.2; have := hlt24.out; omega
          have hv6b : Hid (∀ gg, v6.ownBlock = some gg → w20.heap.size ≤ gg) := by
            intro gg he
            rcases hvb6 with e | e
            · rw [e] at he; simp only [Value.ownBlock, Option.some.injEq] at he; have := hlt24.out; omega
            · rw [e] at he; simp only [Option.some.injEq] at he; have := hlt24.out; have := hb25.out.size; omega
          have hP3l : Hid (([(⟨0, n1, i1, A1, c1, F1⟩ : Pap), ⟨1, n2, i2, A2, c2, F2⟩, ⟨2, n3, i3, A3, c3, F3⟩] ++ cs).length = 3 + m) := by unfold Hid; simp [hcl.out]; omega
          have hP3p : Hid (([(⟨0, n1, i1, A1, c1, F1⟩ : Pap), ⟨1, n2, i2, A2, c2, F2⟩, ⟨2, n3, i3, A3, c3, F3⟩] ++ cs).map Pap.pl = [⟨0, n1, i1, F1⟩, ⟨1, n2, i2, F2⟩, ⟨2, n3, i3, F3⟩] ++ List.replicate m (⟨3, n5, i5, F5⟩ : Dc)) := by unfold Hid; rw [List.map_append, hcp.out]; rfl
          obtain ⟨P3, hP3⟩ : ∃ x, Hid ([(⟨0, n1, i1, A1, c1, F1⟩ : Pap), ⟨1, n2, i2, A2, c2, F2⟩, ⟨2, n3, i3, A3, c3, F3⟩] ++ cs = x) := ⟨_, rfl⟩
          rw [hP3.out] at hst hP3l hP3p
          refine ⟨⟨hk26.out, hm26.out⟩, ?_⟩
          go_simp
          have HSV : Blk w26 w.heap.size 26 D ∧ Blk w26 (w.heap.size + 1) 40 V := ⟨hk26.out, hm26.out⟩
          refine wpAnyH_take (i := 12) rfl (by kernel_rfl) (by kernel_rfl) (by kernel_rfl) (fun _ _ _ h => h) (show YieldsIf _ _ _ _ (v6) _ from .inl ⟨by rfl, fun _ _ => by go_simp⟩) HSV ?_
          go_simp
          refine wpAnyH_done (by kernel_rfl) ?_ _
          clear HSV hi' hb21' hb22' hb23' hb24' hk21 hk22 hk23 hk24 hm21 hm22 hm23 hm24 hB21 hB22 hB23 hB24 hk25 hm25 ho1' ho2' ho3' hlit hrd ho6 hg6 hvb6 hP3 hrow25 hne0 hne1 hb25 hb26
          have hBw26 : Hid (Below w.heap.size w w26) := hB20.out.trans (hB26.out.mono hB20.out.size)
          obtain ⟨Aw, cw6, rfl⟩ := own_form hst.out.row
          have r7 : w26.cell? ⟨w.heap.size, 7, none⟩ = some (.string fr) := (hk26.out.cell 7).trans hD7.out
          have hcall := Lib.hid (hp4.out w26 hBw26.out)
          go_wp2_with (refine wpList_get_blk rfl 26 _ rfl w.heap.size D 26 _ rfl hk26.out Tryz.underlying26 rfl (by rw [hDs.out]; kernel_rfl) ?_)
          refine hcall.out.mono ?_
          rintro e w27 ⟨A4, c4, rfl, ho4, hb27⟩
          have hrow27 := Lib.hid (own_below hst.out.row hb27)
          have hO27 : Hid (OwnD w27 w2.heap.size (P3 ++ [⟨4, n4, i4, A4, c4, F4⟩])) := (hst.out.fields.below hb27).snoc (by
            simp only; rw [hl4.out]
            exact own_mono_base ho4 hst.out.below.size)
          have hB27 : Hid (Below w2.heap.size w2 w27) := hst.out.below.trans (hb27.mono hst.out.below.size)
          have hk27 := Lib.hid (hk26.out.below hb27 hk26.out.lt)
          have hm27 := Lib.hid (hm26.out.below hb27 hm26.out.lt)
          have hcov27 : Hid (OwnD w27 w2.heap.size cs ∧ w27.ownsRow w2.heap.size 32 4 (.slice Av m cw) m (cs.flatMap encD)) := ⟨hcov26.out.1.below hb27, own_below hcov26.out.2 hb27⟩
          have hone : Hid (∀ u ∈ (#[.int .i64 4, .string n4, .string i4, .slice A4 3 c4] : Array Value).toList, u.oneCell' = true) := by intro u hu; simp at hu; rcases hu with rfl | rfl | rfl | rfl <;> rfl
          have hq3 : Hid (P3.length + 1 ≤ maxLen) := by have := hP3l.out; unfold Hid maxLen; omega
          have hq4 : Hid ((P3.length + 1) * 64 ≤ 140737488355328) := by have := hP3l.out; unfold Hid; omega
          have hsz : Hid (w2.heap.size ≤ (w27.alloc (.cells #[.int .i64 4, .string n4, .string i4, .slice A4 3 c4] 32)).heap.size) := Nat.le_trans hB27.out.size (by simp)
          have hbnd : Hid (Blk (w27.alloc (.cells #[.int .i64 4, .string n4, .string i4, .slice A4 3 c4] 32)) w.heap.size 26 D ∧ Blk (w27.alloc (.cells #[.int .i64 4, .string n4, .string i4, .slice A4 3 c4] 32)) (w.heap.size + 1) 40 V) := ⟨hk27.out.alloc _, hm27.out.alloc _⟩
          have hneP : Hid (some w.heap.size ≠ (Value.slice Aw P3.length cw6).ownBlock) := fun e => own_blk_ne hrow27.out hk27.out (by decide) e.symm
          have hneQ : Hid (some (w.heap.size + 1) ≠ (Value.slice Aw P3.length cw6).ownBlock) := fun e => own_blk_ne hrow27.out hm27.out (by decide) e.symm
          have hdisj : Hid ((Value.slice Av m cw).ownBlock = none ∨ (Value.slice Av m cw).ownBlock ≠ (Value.slice Aw P3.length cw6).ownBlock) := by
            rcases hcov27.out.2.2 with ⟨e, _⟩ | ⟨gg, cap, cur, e, _, hgg, _⟩
            · left; rw [e]; rfl
            · right; intro e2
              have h20 := hR.out.row.lt gg (by rw [hcl.out, e]; rfl)
              have h21 := hv6b.out gg (by rw [← e2, e]; rfl)
              have := h20.2; omega
          have ho4' := Lib.hid ho4
          clear ho4 hb27 r7
          go_wp2_with (first | (at_builtin; go_must (refine wpList_app3 w2.heap.size rfl (.tmp 47) (.tmp 52) 42 rfl 32 i0 _ 4 64 Tryz.underlying42 hi hz0 hz1 hz2 rfl (by decide) (.slice Aw P3.length cw6) P3.length (P3.flatMap encD) rfl w27.heap.size 1 #[.int .i64 4, .string n4, .string i4, .slice A4 3 c4] rfl (hrow27.out.alloc _) (Blk.new w27 32 _) rfl hone.out hq3.out hq4.out hsz.out ?_); intro v8 w28 ho8 hb8 hg8; have hk28 := Lib.hid (hbnd.out.1.grown hg8 hneP.out); have hm28 := Lib.hid (hbnd.out.2.grown hg8 hneQ.out)) | (refine wpList_get_blk rfl 26 _ rfl w.heap.size D 26 _ rfl hk28.out Tryz.underlying26 rfl (by rw [hDs.out]; kernel_rfl) ?_) | (refine wpList_get_blk rfl 40 _ rfl (w.heap.size + 1) V 40 _ rfl hm28.out Tryz.underlying40 rfl (by rw [hVs.out]; kernel_rfl) ?_))
          have hst8 : Hid (Rowd w2.heap.size w2 w28 v8 (P3 ++ [⟨4, n4, i4, A4, c4, F4⟩])) := by
            refine ⟨?_, docs_snoc hrow27.out hO27.out hg8, (hB27.out.alloc hB27.out.size _).trans hb8⟩
            rw [List.flatMap_append, List.length_append]
            simpa [encD, hl4.out] using ho8
          have hcov28 : Hid (OwnD w28 w2.heap.size cs ∧ w28.ownsRow w2.heap.size 32 4 (.slice Av m cw) m (cs.flatMap encD)) := by
            refine ⟨fun p hp => ?_, ?_⟩
            · have h1 := (hcov27.out.1 p hp).alloc (.cells #[.int .i64 4, .string n4, .string i4, .slice A4 3 c4] 32)
              exact h1.kept hg8 (own_apart h1 (hrow27.out.alloc (.cells #[.int .i64 4, .string n4, .string i4, .slice A4 3 c4] 32)) (by decide))
            · exact (hcov27.out.2.alloc _).kept hg8 hdisj.out
          have hB28 : Hid (Below w.heap.size w w28) := hB2.out.trans (hst8.out.below.mono hB2.out.size)
          obtain ⟨P4, hP4⟩ : ∃ x, Hid (P3 ++ [(⟨4, n4, i4, A4, c4, F4⟩ : Pap)] = x) := ⟨_, rfl⟩
          have hP4p : Hid (P4.map Pap.pl = wantS d b cl (List.replicate m (covD d))) := by unfold Hid; rw [← hP4.out, List.map_append, hP3p.out, hwant.out m]; rfl
          have hP4l : Hid (P4.length = m + 4) := by unfold Hid; rw [← hP4.out, List.length_append, hP3l.out]; simp; omega
          rw [hP4.out] at hst8
          have hP4s := Lib.hid (small_of hok.out.amount hP4p.out)
          clear ho8 hb8 hg8 hP4 ho4' hrow27 hO27 hbnd hneP hneQ hdisj hcov27 hP3l hP3p hv6b hst hcov26
          have hcs : Hid (∀ p ∈ cs, i64 p.kind ∧ p.fields.length ≤ 1000000) := by
            intro p hp
            have h1 : p.pl ∈ List.replicate m (⟨3, n5, i5, F5⟩ : Dc) := by rw [← hcp.out]; exact List.mem_map_of_mem hp
            have h2 := (List.mem_replicate.1 h1).2
            have e1 : p.kind = 3 := by have := congrArg Dc.kind h2; exact this
            have e2 : p.fields = F5 := by have := congrArg Dc.fields h2; exact this
            exact ⟨by rw [e1]; decide, by rw [e2, hl5.out]; decide⟩
          obtain ⟨Ax, cx, ex, _, hDc28⟩ := docs_of hcov28.out.2 hcl.out hcov28.out.1 (fun p hp => ⟨(hcs.out p hp).1, Nat.le_trans (hcs.out p hp).2 (by unfold maxLen; omega)⟩)
          simp only [Value.slice.injEq, true_and] at ex
          obtain ⟨rfl, rfl⟩ := ex
          have hsetc := Lib.hid (hset.out w28 Av m cw cs hB28.out (by omega) hcl.out hDc28 (fun p hp => (hcs.out p hp).2))
          clear hDc28
          obtain ⟨A8, c8, e8, _, hD8⟩ := docs_of hst8.out.row rfl hst8.out.fields (fun p hp => ⟨(hP4s.out p hp).2.1, Nat.le_trans (hP4s.out p hp).1 (by unfold maxLen; omega)⟩)
          subst e8
          have hD8' := Lib.hid hD8
          clear hD8
          rw [hP4l.out]
          refine hsetc.out.mono ?_
          rintro e w29 ⟨v9, ps9, rfl, ho9, hO9, hp9, hb9⟩
          have hp9' : Hid (ps9.map Pap.pl = wantS d b cl (List.replicate m (covD d))) := by unfold Hid; rw [hp9, hcp.out, hcovE.out]
          have hps9 := Lib.hid (small_of hok.out.amount hp9'.out)
          have hl9 : Hid (ps9.length = m + 4) := by
            have h1 := congrArg List.length hp9'.out
            have h2 := congrArg List.length hP4p.out
            rw [List.length_map] at h1 h2
            unfold Hid; rw [h1, ← h2, hP4l.out]
          obtain ⟨A9, c9, e9, _, hD9⟩ := docs_of ho9 rfl hO9 (fun p hp => ⟨(hps9.out p hp).2.1, Nat.le_trans (hps9.out p hp).1 (by unfold maxLen; omega)⟩)
          subst e9
          have hD9' := Lib.hid hD9
          have hB29 : Hid (Below w.heap.size w w29) := hB28.out.trans (hb9.mono hB28.out.size)
          have hW29 := Lib.hid (hD8'.out.below hb9)
          rw [hl9.out]
          have hsame : Hid (ps9.map Pap.pl = P4.map Pap.pl) := by unfold Hid; rw [hp9'.out, hP4p.out]
          have hpap : Hid (∀ W, Below w29.heap.size w29 W → Calls Tryz.prog 22 #[.slice A9 (m + 4) c9, .slice A8 (m + 4) c8] W fun e w' => e = .returned (.bool true) ∧ Below W.heap.size W w') := fun W hW =>
            papers_any A9 A8 (m + 4) c9 c8 ps9 P4 W (by omega) hl9 (Lib.hid (hD9'.out.below hW)) (Lib.hid (hW29.out.below hW)) hsame (Lib.hid fun p hp => (hps9.out p hp).1)
          have hsp : Hid (∀ W, Below w29.heap.size w29 W → Calls Tryz.prog 23 #[.int .i64 nn, .slice A9 (m + 4) c9] W fun e w' => ∃ A' c' L', e = .returned (.slice A' L'.length c') ∧ DocsAt w' A' L' ∧ L'.map Pap.pl = goR nn false (ps9.map Pap.pl) ∧ Below W.heap.size W w') := fun W hW =>
            spoilt_any nn A9 (m + 4) c9 ps9 W (by omega) hl9 (Lib.hid (hD9'.out.below hW)) (Lib.hid fun p hp => (hps9.out p hp).1) (Lib.hid fun p hp => (hps9.out p hp).2.2) (he'.out.below (hB29.out.trans (hW.mono hB29.out.size)))
          have hrs : Hid (∀ W, Below w29.heap.size w29 W → Calls Tryz.prog 24 #[.int .i64 nn, .slice A8 (m + 4) c8] W fun e w' => ∃ A' c' L', e = .returned (.slice A' L'.length c') ∧ DocsAt w' A' L' ∧ L'.map Pap.pl = goR nn false (P4.map Pap.pl) ∧ Below W.heap.size W w') := fun W hW =>
            rspoilt_any nn A8 (m + 4) c8 P4 W hnn.out (by omega) hP4l (Lib.hid (hW29.out.below hW)) (Lib.hid fun p hp => (hP4s.out p hp).1)
          have hthou : Hid (∀ p ∈ ps9, p.fields.length ≤ 1000) := by
            intro p hp
            have h1 : p.pl ∈ wantS d b cl (List.replicate m (covD d)) := by rw [← hp9'.out]; exact List.mem_map_of_mem hp
            exact wantS_thou h1
          clear hD9 ho9 hO9 hp9 hb9 hsetc hk28 hm28 hst8 hcov28 hD8' hset
          go_wp2_with fail
          refine (hpap.out _ (Below.refl _ _)).mono ?_
          rintro e w30 ⟨rfl, hb30⟩
          have hb30' := Lib.hid hb30
          clear hb30
          go_wp2_with fail
          refine (hsp.out _ hb30'.out).mono ?_
          rintro e w31 ⟨B1, d1, L1, rfl, hE1, hm1', hb31⟩
          have hb31' : Hid (Below w29.heap.size w29 w31) := hb30'.out.trans (hb31.mono hb30'.out.size)
          have hE1' := Lib.hid hE1
          have hm1h := Lib.hid hm1'
          clear hb31 hE1 hm1'
          go_wp2_with fail
          refine (hrs.out _ hb31'.out).mono ?_
          rintro e w32 ⟨B2, d2, L2, rfl, hE2, hm2', hb32⟩
          have hb32' : Hid (Below w29.heap.size w29 w32) := hb31'.out.trans (hb32.mono hb31'.out.size)
          have hL12 : Hid (L1.map Pap.pl = L2.map Pap.pl) := by unfold Hid; rw [hm1h.out, hm2', hsame.out]
          have hll : Hid (L2.length = L1.length) := by
            have h1 := congrArg List.length hL12.out
            rw [List.length_map, List.length_map] at h1
            exact h1.symm
          have hcnt : L1.length ≤ 1000000 := by
            have h1 := congrArg List.length hm1h.out
            have h2 := goR_count nn false (ps9.map Pap.pl)
            have h3 := hl9.out
            rw [List.length_map] at h1 h2
            omega
          have hpap2 := Lib.hid (papers_any B1 B2 L1.length d1 d2 L1 L2 w32 hcnt (Lib.hid rfl) (Lib.hid (hE1'.out.below hb32)) (Lib.hid hE2) hL12 (Lib.hid (goR_small hthou.out hm1h.out)))
          rw [hll.out]
          clear hb32 hE2 hm2' hcnt
          go_wp2_with fail
          refine hpap2.out.mono ?_
          rintro e w33 ⟨rfl, hb33⟩
          have hb33' : Hid (Below w29.heap.size w29 w33) := hb32'.out.trans (hb33.mono hb32'.out.size)
          clear hb33
          go_wp2_with fail
          refine (hpap.out _ hb33'.out).mono ?_
          rintro e w34 ⟨rfl, hb34⟩
          have hb34' : Hid (Below w29.heap.size w29 w34) := hb33'.out.trans (hb34.mono hb33'.out.size)
          clear hb34
          have hB34 : Hid (Below w.heap.size w w34) := hB29.out.trans (hb34'.out.mono hB29.out.size)
          go_wp2_with fail
          refine (awake_any w34 (he'.out.below hB34.out)).mono ?_
          rintro e w35 ⟨rfl, hb35⟩
          go_wp2_with fail
          go_ret
          exact ⟨rfl, hB34.out.trans (hb35.mono hB34.out.size)⟩
          
end Go.Proofs.YtnmnknkdnjkpjaaGreatDoor

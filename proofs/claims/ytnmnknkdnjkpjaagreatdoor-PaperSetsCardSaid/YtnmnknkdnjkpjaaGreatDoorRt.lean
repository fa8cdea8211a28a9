/- What the document's Spoilt puts out; the program's Spoilt says the same. -/
import Derived.Test.YtnmnknkdnjkpjaaGreatDoorZd
import Derived.Test.YtnmnknkdnjkpjaaGreatDoorZu
import Derived.Test.YtnmnknkdnjkpjaaGreatDoorNb
namespace Go.Proofs.YtnmnknkdnjkpjaaGreatDoor
open Go Go.RowKit Go.BigFrame Go.Maps

/-- What becomes of the fields of the paper that is hit. -/
def hitF (n : Int) (fs : List Fld) : List Fld := if n = 1 then spoilS fs else setF fs ⟨#[116, 111]⟩ ⟨#[110, 111, 119, 104, 101, 114, 101]⟩
def hitL (n : Int) (x : Dc) : List Dc := if n = 2 then [] else [⟨x.kind, x.number, x.issuer, hitF n x.fields⟩]
/-- What is put out of the rest, behind a paper that was hit or ahead of it. -/
def goR (n : Int) : Bool → List Dc → List Dc
  | _, [] => []
  | d, x :: l => if d = true ∨ n < 1 ∨ 3 < n ∨ ¬ x.kind = n - 1 then x :: goR n d l else hitL n x ++ goR n true l
theorem goR_true (n : Int) (l : List Dc) : goR n true l = l := by
  induction l with
  | nil => rfl
  | cons x l ih => rw [goR, if_pos (.inl rfl), ih]
theorem goR_out {n : Int} (h : n < 1 ∨ 3 < n) (l : List Dc) : goR n false l = l := by
  induction l with
  | nil => rfl
  | cons x l ih => rw [goR, if_pos (by rcases h with h | h; exact .inr (.inl h); exact .inr (.inr (.inl h))), ih]
theorem goR_two (l : List Dc) : goR 2 false l = eraseK 1 l := by
  induction l with
  | nil => rfl
  | cons x l ih =>
    by_cases h : x.kind = 1
    · rw [goR, if_neg (by simp [h]), goR_true, eraseK, if_pos h]; rfl
    · rw [goR, if_pos (by simp [h]), ih, eraseK, if_neg h]
theorem goR_one (l : List Dc) : goR 1 false l = spoilK 0 spoilS l := by
  induction l with
  | nil => rfl
  | cons x l ih =>
    by_cases h : x.kind = 0
    · rw [goR, if_neg (by simp [h]), goR_true, spoilK, if_pos h]; rfl
    · rw [goR, if_pos (by simp [h]), ih, spoilK, if_neg h]
theorem goR_three (l : List Dc) : goR 3 false l = spoilK 2 (fun f => setF f ⟨#[116, 111]⟩ ⟨#[110, 111, 119, 104, 101, 114, 101]⟩) l := by
  induction l with
  | nil => rfl
  | cons x l ih =>
    by_cases h : x.kind = 2
    · rw [goR, if_neg (by simp [h]), goR_true, spoilK, if_pos h]; rfl
    · rw [goR, if_pos (by simp [h]), ih, spoilK, if_neg h]
theorem goR_skip {n : Int} {x : Dc} (l : List Dc) (h : n < 1 ∨ 3 < n ∨ ¬ x.kind = n - 1) : goR n false (x :: l) = x :: goR n false l := by
  rw [goR, if_pos (.inr h)]
theorem goR_hit {n : Int} {x : Dc} (l : List Dc) (h1 : 1 ≤ n) (h3 : n ≤ 3) (h : x.kind = n - 1) : goR n false (x :: l) = hitL n x ++ l := by
  rw [goR, if_neg (by simp; omega), goR_true]
theorem numF_bd {s : List UInt8} {v : Int} (h : numF s = some v) : -4611686018427387904 ≤ v ∧ v ≤ 4611686018427387904 := by
  unfold numF at h
  split at h
  · split at h
    · rename_i hq
      simp only [Option.some.injEq] at h
      subst h
      exact ⟨hq.1, hq.2.1⟩
    · cases h
  · cases h
theorem getB_of_num {fs : List Fld} {s : ByteArray} {v : Int} (h : numF (getV fs s).data.toList = some v) : getB fs s = true := by
  unfold getV at h
  unfold getB
  cases hg : getF fs s with
  | some x => rfl
  | none =>
    rw [hg] at h
    exfalso
    revert h
    simp only [Option.getD_none]
    rw [show numF (ByteArray.mk #[]).data.toList = none from by kernel_rfl]
    intro h; cases h

theorem spoilt_any (nn : Int) (A : Option Addr) (n c : Nat) (l : List Pap) (w : World) (hn : n ≤ 1000) (hl : Hid (l.length = n)) (hA : Hid (DocsAt w A l)) (hsm : Hid (∀ p ∈ l, p.fields.length ≤ 1000000)) (hgv : Hid (∀ p ∈ l, (getV p.fields ⟨#[115, 117, 109]⟩).size ≤ 1000000)) (he : Env w) :
    Calls Tryz.prog 23 #[.int .i64 nn, .slice A n c] w fun e w' => ∃ A' c' L', e = .returned (.slice A' L'.length c') ∧ DocsAt w' A' L' ∧ L'.map Pap.pl = goR nn false (l.map Pap.pl) ∧ Below w.heap.size w w' := by
  by_cases h1 : nn = 1
  · subst h1; rw [goR_one]; exact spoilt1_any A n c l w hn hl hA hsm hgv he
  by_cases h2 : nn = 2
  · subst h2; rw [goR_two]; exact spoilt2_any A n c l w hn hl hA hsm
  by_cases h3 : nn = 3
  · subst h3; rw [goR_three]; exact spoilt3_any A n c l w hn hl hA hsm
  rw [goR_out (by omega)]
  exact spoiltD_any nn A n c l w h1 h2 h3 hn hl hA hsm
end Go.Proofs.YtnmnknkdnjkpjaaGreatDoor

namespace Go.Proofs.YtnmnknkdnjkpjaaGreatDoor
open Go Go.RowKit Go.BigFrame Go.Maps

/-- A paper's fields: old ones, or a row of one's own. -/
def Fin (w W : World) (p : Pap) : Prop := FieldsAt w p.fA p.fields ∨ W.ownsRow w.heap.size 79 2 (.slice p.fA p.fields.length p.fc) p.fields.length (flF p.fields)
theorem Fin.below {w W W' : World} {p : Pap} (h : Fin w W p) (hb : Below W.heap.size W W') : Fin w W' p := h.imp id fun h => own_below h hb
theorem own_set_ne {W : World} {B n g o : Nat} {e : TypeId} {size : Nat} {v u : Value} {xs : List Value} (h : W.ownsRow B e size v n xs) (hne : v.ownBlock ≠ some g) : (W.setCell ⟨g, o, none⟩ u).ownsRow B e size v n xs :=
  h.kept (grown_set W g o u) (.inr hne)
/-- The papers that were put out so far. -/
structure OutS (w W : World) (v : Value) (ps : List Pap) : Prop where
  row : W.ownsRow w.heap.size 32 4 v ps.length (ps.flatMap encD)
  fields : ∀ p ∈ ps, Fin w W p
  small : ∀ p ∈ ps, i64 p.kind ∧ p.fields.length ≤ maxLen
  below : Below w.heap.size w W
theorem OutS.snoc {w W W2 w5 : World} {A : Option Addr} {c : Nat} {v5 : Value} {ps : List Pap} {p : Pap} {cs : Array Value} (h : OutS w W (.slice A ps.length c) ps) (hb : Below W.heap.size W W2) (hp : Fin w W2 p) (hs : i64 p.kind ∧ p.fields.length ≤ maxLen)
    (hc : cs.toList = encD p) (ho : w5.ownsRow w.heap.size 32 4 v5 (ps.length + 1) (ps.flatMap encD ++ cs.toList)) (hb5 : Below w.heap.size (W2.alloc (.cells cs 32)) w5) (hg : (W2.alloc (.cells cs 32)).grownBy w5 (Value.slice A ps.length c).ownBlock) : OutS w w5 v5 (ps ++ [p]) := by
  have hB2 : Below w.heap.size w W2 := h.below.trans (hb.mono h.below.size)
  have hrow := (own_below h.row hb).alloc (.cells cs 32)
  refine ⟨?_, ?_, ?_, (hB2.alloc hB2.size _).trans hb5⟩
  · rw [List.length_append, List.flatMap_append]; rw [hc] at ho; simpa using ho
  · have key : ∀ q, Fin w W2 q → Fin w w5 q := fun q hq => hq.imp id fun h0 => by
      have h1 := h0.alloc (.cells cs 32)
      exact h1.kept hg (own_apart h1 hrow (by decide))
    intro q hq
    rcases List.mem_append.1 hq with h1 | h1
    · exact key q ((h.fields q h1).below hb)
    · obtain rfl := List.mem_singleton.1 h1
      exact key q hp
  · intro q hq
    rcases List.mem_append.1 hq with h1 | h1
    · exact h.small q h1
    · obtain rfl := List.mem_singleton.1 h1; exact hs
theorem OutS.docs {w W : World} {v : Value} {ps : List Pap} (h : OutS w W v ps) : ∃ A c, v = .slice A ps.length c ∧ DocsAt W A ps := by
  obtain ⟨A, c, e, _, hr⟩ := RowOf.of_own encD_len h.row rfl
  refine ⟨A, c, e, fun k x hx => ?_⟩
  obtain ⟨b, off, hA, hcell⟩ := hr k x hx
  have hm := List.mem_of_getElem? hx
  have hf : FieldsAt W x.fA x.fields := by
    rcases h.fields x hm with h1 | h1
    · exact h1.below h.below
    · obtain ⟨A', c', e', _, hf⟩ := fields_of_own h1 rfl
      simp only [Value.slice.injEq, true_and] at e'
      obtain ⟨rfl, rfl⟩ := e'
      exact hf
  exact ⟨b, off, hA, hcell 0 _ rfl, hcell 1 _ rfl, hcell 2 _ rfl, hcell 3 _ rfl, hf, (h.small x hm).2, (h.small x hm).1⟩

set_option maxRecDepth 100000 in
set_option maxHeartbeats 6400000 in
theorem rspoilt_any (nn : Int) (A : Option Addr) (n c : Nat) (l : List Pap) (w : World) (hnn : i64 nn) (hn : n ≤ 1000) (hl : Hid (l.length = n)) (hA : Hid (DocsAt w A l)) (hsm : Hid (∀ p ∈ l, p.fields.length ≤ 1000000)) :
    Calls Tryz.prog 24 #[.int .i64 nn, .slice A n c] w fun e w' => ∃ A' c' L', e = .returned (.slice A' L'.length c') ∧ DocsAt w' A' L' ∧ L'.map Pap.pl = goR nn false (l.map Pap.pl) ∧ Below w.heap.size w w' := by
  obtain ⟨i0, hi, hz0, hz1, hz2⟩ := info_parts Tryz.info32
  have hnew := Lib.hid (own_new w 32 4)
  have hnn' := Lib.hid hnn
  clear hnn
  go_enter Tryz.func24, Tryz.ntmps24
  go_wp2_with fail
  go_loopw [5, 6, 7] (fun v d i wr => ∃ (k : Nat) (b : Bool) (ps : List Pap), k ≤ n ∧ i = .int .i64 (k : Int) ∧ d = .bool b ∧ Hid (ps.length ≤ k) ∧ Hid (OutS w wr v ps) ∧ Hid (goR nn false (l.map Pap.pl) = ps.map Pap.pl ++ goR nn b ((l.drop k).map Pap.pl))) (fun _ _ i _ => n - (intOf i).toNat)
  case atStart => exact ⟨0, false, [], Nat.zero_le _, rfl, rfl, Nat.le_refl _, ⟨hnew.out, fun p hp => by simp at hp, fun p hp => by simp at hp, (Below.refl _ w).alloc (Nat.le_refl _) _⟩, rfl⟩
  case round =>
    obtain ⟨k, b, ps, hk, rfl, rfl, hpl, hO, hgo⟩ := hrel
    obtain ⟨Av, cw, rfl⟩ := own_form hO.out.row
    by_cases hlt : k < n
    · obtain ⟨x, hx⟩ : ∃ x, l[k]? = some x := ⟨_, List.getElem?_eq_getElem (by have := hl.out; omega)⟩
      obtain ⟨b0, off, rfl, h0, h1, h2, h3, h4, h5, h6⟩ := (hA.out.below hO.out.below) k x hx
      have hf0 : FieldsAt w x.fA x.fields := by obtain ⟨_, _, _, _, _, _, _, h, _, _⟩ := hA.out k x hx; exact h
      have hmx := hsm.out x (List.mem_of_getElem? hx)
      have hdr : Hid ((l.drop k).map Pap.pl = x.pl :: (l.drop (k + 1)).map Pap.pl) := by
        obtain ⟨hkl, he⟩ := List.getElem?_eq_some_iff.1 hx
        unfold Hid; rw [List.drop_eq_getElem_cons hkl, he]; rfl
      have hgo1 : Hid (goR nn false (l.map Pap.pl) = ps.map Pap.pl ++ goR nn b (x.pl :: (l.drop (k + 1)).map Pap.pl)) := by rw [← hdr.out]; exact hgo
      have h4' := Lib.hid h4
      have hf0' := Lib.hid hf0
      have h6' := Lib.hid h6
      clear hx h4 h5 h6 hf0 hgo hdr
      obtain ⟨kd, nu, is, fA, fc, fs⟩ := x
      simp only at h0 h1 h2 h3 hmx h4' hf0' hgo1 h6'
      have hsm1 : Hid (i64 kd ∧ fs.length ≤ maxLen) := ⟨h6'.out, by unfold maxLen; omega⟩
      obtain ⟨R, hR⟩ : ∃ R, Hid ((l.drop (k + 1)).map Pap.pl = R) := ⟨_, rfl⟩
      rw [hR.out] at hgo1
      simp only [Pap.pl] at hgo1
      obtain ⟨m, hm⟩ : ∃ m, Hid (fs.length = m) := ⟨_, rfl⟩
      rw [hm.out] at h3 hmx
      have hq1 : Hid (ps.length + 1 ≤ maxLen) := by have := hpl.out; unfold Hid maxLen; omega
      have hq2 : Hid ((ps.length + 1) * 64 ≤ 140737488355328) := by have := hpl.out; unfold Hid; omega
      have hsz : Hid (w.heap.size ≤ wr.heap.size) := hO.out.below.size
      have hne0 : Hid ((Value.slice Av ps.length cw).ownBlock ≠ some wr.heap.size) := by
        intro e
        have := (hO.out.row.lt _ e).2
        omega
      have hone : Hid (∀ (A : Option Addr) (m c : Nat), ∀ u ∈ (#[.int .i64 kd, .string nu, .string is, .slice A m c] : Array Value).toList, u.oneCell' = true) := by intro A m c u hu; simp at hu; rcases hu with rfl | rfl | rfl | rfl <;> rfl
      have hpsk : Hid ((ps ++ [(⟨kd, nu, is, fA, fc, fs⟩ : Pap)]).length ≤ k + 1) := by have := hpl.out; unfold Hid; simp; omega
      by_cases hb : b = true
      · subst hb
        have hres : Hid (goR nn false (l.map Pap.pl) = (ps ++ [(⟨kd, nu, is, fA, fc, fs⟩ : Pap)]).map Pap.pl ++ goR nn true R) := by unfold Hid; rw [hgo1.out, goR_true, goR_true]; simp [Pap.pl]
        have hown1 := Lib.hid ((own_below hO.out.row ((Below.refl _ wr).alloc (Nat.le_refl _) (.cells #[.int .i64 kd, .string nu, .string is, .slice fA m fc] 32))).alloc (.cells #[.int .i64 kd, .string nu, .string is, .slice fA m fc] 32))
        go_wp2_with (at_builtin; go_must (refine wpList_app3 w.heap.size rfl (.tmp 40) (.tmp 42) 42 rfl 32 i0 _ 4 64 Tryz.underlying42 hi hz0 hz1 hz2 rfl (by decide) (.slice Av ps.length cw) ps.length (ps.flatMap encD) rfl (wr.heap.size + 1) 1 #[.int .i64 kd, .string nu, .string is, .slice fA m fc] rfl hown1.out (blk_second wr _ 32 _) rfl (hone.out fA m fc) hq1.out hq2.out (Nat.le_trans hsz.out (by simp; omega)) ?_); intro v5 w5 ho5 hb5 hg5)
        have hO5 : Hid (OutS w w5 v5 (ps ++ [(⟨kd, nu, is, fA, fc, fs⟩ : Pap)])) := hO.out.snoc ((Below.refl _ wr).alloc (Nat.le_refl _) _) (.inl hf0'.out) hsm1.out (by simp [encD, hm.out]) ho5 hb5 hg5
        clear ho5 hb5 hg5
        go_roundw
        case rel => exact ⟨k + 1, true, _, by omega, by go_num, rfl, hpsk, hO5, by rw [hR.out]; exact hres⟩
        case measure => simp [intOf]; omega
      obtain rfl : b = false := by simpa using hb
      by_cases f1 : nn < 1
      · have d1 : decide (nn < 1) = true := decide_eq_true f1
        have hres : Hid (goR nn false (l.map Pap.pl) = (ps ++ [(⟨kd, nu, is, fA, fc, fs⟩ : Pap)]).map Pap.pl ++ goR nn false R) := by unfold Hid; rw [hgo1.out, goR_skip _ (.inl f1)]; simp [Pap.pl]
        have hown1 := Lib.hid ((own_below hO.out.row ((Below.refl _ wr).alloc (Nat.le_refl _) (.cells #[.int .i64 kd, .string nu, .string is, .slice fA m fc] 32))).alloc (.cells #[.int .i64 kd, .string nu, .string is, .slice fA m fc] 32))
        go_wp2_with (at_builtin; go_must (refine wpList_app3 w.heap.size rfl (.tmp 40) (.tmp 42) 42 rfl 32 i0 _ 4 64 Tryz.underlying42 hi hz0 hz1 hz2 rfl (by decide) (.slice Av ps.length cw) ps.length (ps.flatMap encD) rfl (wr.heap.size + 1) 1 #[.int .i64 kd, .string nu, .string is, .slice fA m fc] rfl hown1.out (blk_second wr _ 32 _) rfl (hone.out fA m fc) hq1.out hq2.out (Nat.le_trans hsz.out (by simp; omega)) ?_); intro v5 w5 ho5 hb5 hg5)
        have hO5 : Hid (OutS w w5 v5 (ps ++ [(⟨kd, nu, is, fA, fc, fs⟩ : Pap)])) := hO.out.snoc ((Below.refl _ wr).alloc (Nat.le_refl _) _) (.inl hf0'.out) hsm1.out (by simp [encD, hm.out]) ho5 hb5 hg5
        clear ho5 hb5 hg5
        go_roundw
        case rel => exact ⟨k + 1, false, _, by omega, by go_num, rfl, hpsk, hO5, by rw [hR.out]; exact hres⟩
        case measure => simp [intOf]; omega
      have d1 : decide (nn < 1) = false := decide_eq_false f1
      by_cases f2 : 3 < nn
      · have d2 : decide (3 < nn) = true := decide_eq_true f2
        have hres : Hid (goR nn false (l.map Pap.pl) = (ps ++ [(⟨kd, nu, is, fA, fc, fs⟩ : Pap)]).map Pap.pl ++ goR nn false R) := by unfold Hid; rw [hgo1.out, goR_skip _ (.inr (.inl f2))]; simp [Pap.pl]
        have hown1 := Lib.hid ((own_below hO.out.row ((Below.refl _ wr).alloc (Nat.le_refl _) (.cells #[.int .i64 kd, .string nu, .string is, .slice fA m fc] 32))).alloc (.cells #[.int .i64 kd, .string nu, .string is, .slice fA m fc] 32))
        go_wp2_with (at_builtin; go_must (refine wpList_app3 w.heap.size rfl (.tmp 40) (.tmp 42) 42 rfl 32 i0 _ 4 64 Tryz.underlying42 hi hz0 hz1 hz2 rfl (by decide) (.slice Av ps.length cw) ps.length (ps.flatMap encD) rfl (wr.heap.size + 1) 1 #[.int .i64 kd, .string nu, .string is, .slice fA m fc] rfl hown1.out (blk_second wr _ 32 _) rfl (hone.out fA m fc) hq1.out hq2.out (Nat.le_trans hsz.out (by simp; omega)) ?_); intro v5 w5 ho5 hb5 hg5)
        have hO5 : Hid (OutS w w5 v5 (ps ++ [(⟨kd, nu, is, fA, fc, fs⟩ : Pap)])) := hO.out.snoc ((Below.refl _ wr).alloc (Nat.le_refl _) _) (.inl hf0'.out) hsm1.out (by simp [encD, hm.out]) ho5 hb5 hg5
        clear ho5 hb5 hg5
        go_roundw
        case rel => exact ⟨k + 1, false, _, by omega, by go_num, rfl, hpsk, hO5, by rw [hR.out]; exact hres⟩
        case measure => simp [intOf]; omega
      have d2 : decide (3 < nn) = false := decide_eq_false f2
      obtain ⟨wa, hwa⟩ : ∃ W, Hid (wr.alloc (.cells #[.int .i64 kd, .string nu, .string is, .slice fA m fc] 32) = W) := ⟨_, rfl⟩
      have hbl : Hid (Below wr.heap.size wr wa) := by rw [← hwa.out]; exact (Below.refl _ wr).alloc (Nat.le_refl _) _
      have hbx : Hid (Blk wa wr.heap.size 32 #[.int .i64 kd, .string nu, .string is, .slice fA m fc]) := by rw [← hwa.out]; exact Lib.hid (Blk.new _ _ _)
      have h13 : nn = 1 ∨ nn = 2 ∨ nn = 3 := by omega
      clear f1 f2 d1 d2
      rcases h13 with rfl | rfl | rfl
      · by_cases hkd : kd = 0
        · have k1 : (kd == 0) = true := by simp [hkd]
          have k2 : (kd != 0) = false := by simp [hkd]
          have hgo2 : Hid (goR 1 false (l.map Pap.pl) = ps.map Pap.pl ++ (hitL 1 ⟨kd, nu, is, fs⟩ ++ R)) := by unfold Hid; rw [hgo1.out, goR_hit R (by omega) (by omega) (by simp only; omega)]
          have hkd' := Lib.hid hkd
          clear hkd
          cases hnf : numF (getV fs ⟨#[115, 117, 109]⟩).data.toList with
          | none =>
            have hnf' := Lib.hid hnf
            clear hnf
            have hsp : Hid (spoilS fs = fs) := by unfold Hid spoilS; rw [hnf'.out]
            have hres : Hid (goR 1 false (l.map Pap.pl) = (ps ++ [(⟨kd, nu, is, fA, fc, fs⟩ : Pap)]).map Pap.pl ++ goR 1 true R) := by unfold Hid; rw [hgo2.out, goR_true]; simp [hitL, hitF, Pap.pl, hsp.out]
            have hget := Lib.hid (getR_any fA m fc fs ⟨#[115, 117, 109]⟩ wa (by unfold maxLen; omega) hm (Lib.hid (h4'.out.below hbl.out)))
            obtain ⟨gv, hgv⟩ : ∃ x, Hid (getV fs ⟨#[115, 117, 109]⟩ = x) := ⟨_, rfl⟩
            obtain ⟨gb, hgb⟩ : ∃ x, Hid (getB fs ⟨#[115, 117, 109]⟩ = x) := ⟨_, rfl⟩
            rw [hgv.out, hgb.out] at hget
            go_wp2_with fail
            rw [hwa.out]
            refine hget.out.mono ?_
            rintro e w2 ⟨rfl, hb2⟩
            have hbx2 := Lib.hid (hbx.out.below hb2 hbx.out.lt)
            have hB2 : Hid (Below wr.heap.size wr w2) := hbl.out.trans (hb2.mono hbl.out.size)
            clear hb2 hget
            go_wp2_with fail
            refine (numberR_any gv w2).mono ?_
            rintro e w3 ⟨rfl, hb3⟩
            have hbx3 := Lib.hid (hbx2.out.below hb3 hbx2.out.lt)
            have hB3 : Hid (Below wr.heap.size wr w3) := hB2.out.trans (hb3.mono hB2.out.size)
            have hlt3 : wr.heap.size < w3.heap.size := hbx3.out.lt
            have hf3 := hbx3.out.frozen
            clear hb3
            have qx30 : w3.cell? ⟨wr.heap.size, 0, none⟩ = some (.int .i64 kd) := hbx3.out.cell 0
            have qx31 : w3.cell? ⟨wr.heap.size, 1, none⟩ = some (.string nu) := hbx3.out.cell 1
            have qx32 : w3.cell? ⟨wr.heap.size, 2, none⟩ = some (.string is) := hbx3.out.cell 2
            have qx33 : w3.cell? ⟨wr.heap.size, 3, none⟩ = some (.slice fA m fc) := hbx3.out.cell 3
            rw [← hgv.out, hnf'.out]
            rw [show twoN none = .tuple #[.int .i64 0, .bool false] from rfl]
            cases gb with
            | true =>
              have hown7 := Lib.hid (own_below hO.out.row hB3.out)
              go_wp2_with (at_builtin; go_must (refine wpList_app3 w.heap.size rfl (.tmp 78) (.tmp 80) 42 rfl 32 i0 _ 4 64 Tryz.underlying42 hi hz0 hz1 hz2 rfl (by decide) (.slice Av ps.length cw) ps.length (ps.flatMap encD) rfl w3.heap.size 1 #[.int .i64 kd, .string nu, .string is, .slice fA m fc] rfl (hown7.out.alloc _) (by simpa using Blk.new (w3) 32 #[.int .i64 kd, .string nu, .string is, .slice fA m fc]) rfl (hone.out _ _ _) hq1.out hq2.out (Nat.le_trans hsz.out (Nat.le_trans (hB3.out).size (by simp))) ?_); intro v5 w5 ho5 hb5 hg5)
              have hO5 : Hid (OutS w w5 v5 (ps ++ [(⟨kd, nu, is, fA, fc, fs⟩ : Pap)])) := hO.out.snoc (hB3.out) (.inl hf0'.out) hsm1.out (by simp [encD, hm.out]) ho5 hb5 hg5
              clear ho5 hb5 hg5
              go_roundw
              case rel => exact ⟨k + 1, true, _, by omega, by go_num, rfl, by have := hpl.out; unfold Hid; simp; omega, hO5, by rw [hR.out]; exact hres⟩
              case measure => simp [intOf]; omega
            | false =>
              have hown7 := Lib.hid (own_below hO.out.row hB3.out)
              go_wp2_with (at_builtin; go_must (refine wpList_app3 w.heap.size rfl (.tmp 78) (.tmp 80) 42 rfl 32 i0 _ 4 64 Tryz.underlying42 hi hz0 hz1 hz2 rfl (by decide) (.slice Av ps.length cw) ps.length (ps.flatMap encD) rfl w3.heap.size 1 #[.int .i64 kd, .string nu, .string is, .slice fA m fc] rfl (hown7.out.alloc _) (by simpa using Blk.new (w3) 32 #[.int .i64 kd, .string nu, .string is, .slice fA m fc]) rfl (hone.out _ _ _) hq1.out hq2.out (Nat.le_trans hsz.out (Nat.le_trans (hB3.out).size (by simp))) ?_); intro v5 w5 ho5 hb5 hg5)
              have hO5 : Hid (OutS w w5 v5 (ps ++ [(⟨kd, nu, is, fA, fc, fs⟩ : Pap)])) := hO.out.snoc (hB3.out) (.inl hf0'.out) hsm1.out (by simp [encD, hm.out]) ho5 hb5 hg5
              clear ho5 hb5 hg5
              go_roundw
              case rel => exact ⟨k + 1, true, _, by omega, by go_num, rfl, by have := hpl.out; unfold Hid; simp; omega, hO5, by rw [hR.out]; exact hres⟩
              case measure => simp [intOf]; omega
          | some v =>
            have hvb := Lib.hid (numF_bd hnf)
            have hgb1 := Lib.hid (getB_of_num hnf)
            have hnf' := Lib.hid hnf
            clear hnf
            have hsp : Hid (spoilS fs = setF fs ⟨#[115, 117, 109]⟩ (mkB (Lib.itoa (v + 1)))) := by unfold Hid spoilS; rw [hnf'.out]
            have hvw : IntKind.i64.wrap (v + 1) = v + 1 := IntWalk.i64_in _ (by have := hvb.out; omega)
            obtain ⟨G, hG⟩ : ∃ G, Hid (setF fs ⟨#[115, 117, 109]⟩ (mkB (Lib.itoa (v + 1))) = G) := ⟨_, rfl⟩
            obtain ⟨r, hr⟩ : ∃ r, Hid (G.length = r) := ⟨_, rfl⟩
            have hsmG : Hid (i64 kd ∧ G.length ≤ maxLen) := ⟨hsm1.out.1, by have h2 := setF_len2 fs ⟨#[115, 117, 109]⟩ (mkB (Lib.itoa (v + 1))); rw [hG.out, hm.out] at h2; unfold maxLen; omega⟩
            have hset : Hid (∀ W, Below wr.heap.size wr W → Calls Tryz.prog 57 #[.slice fA m fc, .string ⟨#[115, 117, 109]⟩, .string (mkB (Lib.itoa (v + 1)))] W fun e w' => ∃ A' c', e = .returned (.slice A' r c') ∧ w'.ownsRow W.heap.size 79 2 (.slice A' r c') r (flF G) ∧ Below W.heap.size W w') := fun W hW => by
              have h := setR_any fA m fc fs ⟨#[115, 117, 109]⟩ (mkB (Lib.itoa (v + 1))) W hmx hm (Lib.hid (h4'.out.below hW))
              rw [hG.out, hr.out] at h
              refine h.mono ?_
              rintro e w' ⟨v, rfl, ho, hb⟩
              obtain ⟨A', c', rfl⟩ := own_form ho
              exact ⟨A', c', rfl, ho, hb⟩
            have hget := Lib.hid (getR_any fA m fc fs ⟨#[115, 117, 109]⟩ wa (by unfold maxLen; omega) hm (Lib.hid (h4'.out.below hbl.out)))
            obtain ⟨gv, hgv⟩ : ∃ x, Hid (getV fs ⟨#[115, 117, 109]⟩ = x) := ⟨_, rfl⟩
            obtain ⟨gb, hgb⟩ : ∃ x, Hid (getB fs ⟨#[115, 117, 109]⟩ = x) := ⟨_, rfl⟩
            rw [hgv.out, hgb.out] at hget
            go_wp2_with fail
            rw [hwa.out]
            refine hget.out.mono ?_
            rintro e w2 ⟨rfl, hb2⟩
            have hbx2 := Lib.hid (hbx.out.below hb2 hbx.out.lt)
            have hB2 : Hid (Below wr.heap.size wr w2) := hbl.out.trans (hb2.mono hbl.out.size)
            clear hb2 hget
            go_wp2_with fail
            refine (numberR_any gv w2).mono ?_
            rintro e w3 ⟨rfl, hb3⟩
            have hbx3 := Lib.hid (hbx2.out.below hb3 hbx2.out.lt)
            have hB3 : Hid (Below wr.heap.size wr w3) := hB2.out.trans (hb3.mono hB2.out.size)
            have hlt3 : wr.heap.size < w3.heap.size := hbx3.out.lt
            have hf3 := hbx3.out.frozen
            clear hb3
            have qx30 : w3.cell? ⟨wr.heap.size, 0, none⟩ = some (.int .i64 kd) := hbx3.out.cell 0
            have qx31 : w3.cell? ⟨wr.heap.size, 1, none⟩ = some (.string nu) := hbx3.out.cell 1
            have qx32 : w3.cell? ⟨wr.heap.size, 2, none⟩ = some (.string is) := hbx3.out.cell 2
            have qx33 : w3.cell? ⟨wr.heap.size, 3, none⟩ = some (.slice fA m fc) := hbx3.out.cell 3
            rw [← hgv.out, hnf'.out]
            rw [show twoN (some v) = .tuple #[.int .i64 v, .bool true] from rfl]
            obtain rfl : gb = true := by rw [← hgb.out, hgb1.out]
            go_wp2_with fail
            rw [← id_eq (a := Oper.mk (some 66) _ _ _ _ _)]
            have hbd3 := Lib.hid hbx3.out.drew
            have hcut : Hid (∀ W, Below w3.heap.size w3 W → W.cell? ⟨wr.heap.size, 0, none⟩ = some (.int .i64 kd) ∧ W.cell? ⟨wr.heap.size, 1, none⟩ = some (.string nu) ∧ W.cell? ⟨wr.heap.size, 2, none⟩ = some (.string is) ∧ W.cell? ⟨wr.heap.size, 3, none⟩ = some (.slice fA m fc)) := fun W hW => by
              have h := hbx3.out.below hW hbx3.out.lt
              exact ⟨h.cell 0, h.cell 1, h.cell 2, h.cell 3⟩
            have hdig : Hid (∀ W, Calls Tryz.prog 58 #[.int .i64 (v + 1)] W fun e w' => e = .returned (.string (mkB (Lib.itoa (v + 1)))) ∧ Below W.heap.size W w') := fun W => digits_any (v + 1) W (by have := hvb.out; omega) (by have := hvb.out; omega)
            go_region_held3 (fun _ => True) (trivial) (first
              | (go_at_call 58; (with_reducible refine (hdig.out _).mono ?_); rintro e w4 ⟨rfl, hb4⟩; have hb34 : Hid (Below w3.heap.size w3 w4) := (Below.refl _ _).drew.trans hb4; have hB4 : Hid (Below wr.heap.size wr w4) := hB3.out.trans (hb34.out.mono hB3.out.size); obtain ⟨p0, p1, p2, p3⟩ := hcut.out w4 hb34.out; clear hb4)
              | (go_at_call 57; (with_reducible refine (hset.out _ hB4.out).mono ?_); rintro e w6 ⟨A4, c4, rfl, ho6, hb6⟩; have hb36 : Hid (Below w3.heap.size w3 w6) := hb34.out.trans (hb6.mono hb34.out.size); have hB6 : Hid (Below wr.heap.size wr w6) := hB3.out.trans (hb36.out.mono hB3.out.size); have ho6' := Lib.hid (own_mono_base ho6 (Nat.le_trans hsz.out hB4.out.size)); have hbx6 := Lib.hid (hbx3.out.below hb36.out hbx3.out.lt); obtain ⟨y0, y1, y2, y3⟩ := hcut.out w6 hb36.out; have yf := hbx6.out.frozen; have hlt6 : wr.heap.size < w6.heap.size := hbx6.out.lt; clear ho6 hb6))
            all_goals
              have hres : Hid (goR 1 false (l.map Pap.pl) = (ps ++ [(⟨kd, nu, is, A4, c4, G⟩ : Pap)]).map Pap.pl ++ goR 1 true R) := by unfold Hid; rw [hgo2.out, goR_true]; simp [hitL, hitF, Pap.pl, hsp.out, hG.out]
              have hown7 := Lib.hid (own_set_ne (own_below hO.out.row hB6.out) hne0.out (o := 3) (u := .slice A4 r c4))
              go_wp2_with (at_builtin; go_must (refine wpList_app3 w.heap.size rfl (.tmp 78) (.tmp 80) 42 rfl 32 i0 _ 4 64 Tryz.underlying42 hi hz0 hz1 hz2 rfl (by decide) (.slice Av ps.length cw) ps.length (ps.flatMap encD) rfl w6.heap.size 1 #[.int .i64 kd, .string nu, .string is, .slice A4 r c4] rfl (hown7.out.alloc _) (by simpa using Blk.new (w6.setCell ⟨wr.heap.size, 3, none⟩ (.slice A4 r c4)) 32 #[.int .i64 kd, .string nu, .string is, .slice A4 r c4]) rfl (hone.out _ _ _) hq1.out hq2.out (Nat.le_trans hsz.out (Nat.le_trans (hB6.out.setCell (p := ⟨wr.heap.size, 3, none⟩) (Nat.le_refl _) (.slice A4 r c4)).size (by simp))) ?_); intro v5 w5 ho5 hb5 hg5)
              have hO5 : Hid (OutS w w5 v5 (ps ++ [(⟨kd, nu, is, A4, c4, G⟩ : Pap)])) := hO.out.snoc (hB6.out.setCell (p := ⟨wr.heap.size, 3, none⟩) (Nat.le_refl _) (.slice A4 r c4)) (.inr (by simp only; rw [hr.out]; exact own_set ho6'.out hbx6.out (by decide))) hsmG.out (by simp [encD, hr.out]) ho5 hb5 hg5
              clear ho5 hb5 hg5
              go_roundw
              case rel => exact ⟨k + 1, true, _, by omega, by go_num, rfl, by have := hpl.out; unfold Hid; simp; omega, hO5, by rw [hR.out]; exact hres⟩
              case measure => simp [intOf]; omega
        · have k1 : (kd == 0) = false := by simpa using hkd
          have k2 : (kd != 0) = true := by simpa using hkd
          have hres : Hid (goR 1 false (l.map Pap.pl) = (ps ++ [(⟨kd, nu, is, fA, fc, fs⟩ : Pap)]).map Pap.pl ++ goR 1 false R) := by unfold Hid; rw [hgo1.out, goR_skip _ (.inr (.inr (by simp only; omega)))]; simp [Pap.pl]
          have hown1 := Lib.hid ((own_below hO.out.row ((Below.refl _ wr).alloc (Nat.le_refl _) (.cells #[.int .i64 kd, .string nu, .string is, .slice fA m fc] 32))).alloc (.cells #[.int .i64 kd, .string nu, .string is, .slice fA m fc] 32))
          go_wp2_with (at_builtin; go_must (refine wpList_app3 w.heap.size rfl (.tmp 40) (.tmp 42) 42 rfl 32 i0 _ 4 64 Tryz.underlying42 hi hz0 hz1 hz2 rfl (by decide) (.slice Av ps.length cw) ps.length (ps.flatMap encD) rfl (wr.heap.size + 1) 1 #[.int .i64 kd, .string nu, .string is, .slice fA m fc] rfl hown1.out (blk_second wr _ 32 _) rfl (hone.out fA m fc) hq1.out hq2.out (Nat.le_trans hsz.out (by simp; omega)) ?_); intro v5 w5 ho5 hb5 hg5)
          have hO5 : Hid (OutS w w5 v5 (ps ++ [(⟨kd, nu, is, fA, fc, fs⟩ : Pap)])) := hO.out.snoc ((Below.refl _ wr).alloc (Nat.le_refl _) _) (.inl hf0'.out) hsm1.out (by simp [encD, hm.out]) ho5 hb5 hg5
          clear ho5 hb5 hg5
          go_roundw
          case rel => exact ⟨k + 1, false, _, by omega, by go_num, rfl, hpsk, hO5, by rw [hR.out]; exact hres⟩
          case measure => simp [intOf]; omega
      · by_cases hkd : kd = 1
        · have k1 : (kd == 1) = true := by simp [hkd]
          have k2 : (kd != 1) = false := by simp [hkd]
          have hgo2 : Hid (goR 2 false (l.map Pap.pl) = ps.map Pap.pl ++ (hitL 2 ⟨kd, nu, is, fs⟩ ++ R)) := by unfold Hid; rw [hgo1.out, goR_hit R (by omega) (by omega) (by simp only; omega)]
          have hkd' := Lib.hid hkd
          clear hkd
          have hres : Hid (goR 2 false (l.map Pap.pl) = ps.map Pap.pl ++ goR 2 true R) := by unfold Hid; rw [hgo2.out, goR_true]; simp [hitL]
          have hO5 : Hid (OutS w wa (.slice Av ps.length cw) ps) := ⟨own_below hO.out.row hbl.out, fun p hp => (hO.out.fields p hp).below hbl.out, hO.out.small, hO.out.below.trans (hbl.out.mono hO.out.below.size)⟩
          go_wp2_with fail
          rw [hwa.out]
          go_roundw
          case rel => exact ⟨k + 1, true, ps, by omega, by go_num, rfl, by have := hpl.out; unfold Hid; omega, hO5, by rw [hR.out]; exact hres⟩
          case measure => simp [intOf]; omega
        · have k1 : (kd == 1) = false := by simpa using hkd
          have k2 : (kd != 1) = true := by simpa using hkd
          have hres : Hid (goR 2 false (l.map Pap.pl) = (ps ++ [(⟨kd, nu, is, fA, fc, fs⟩ : Pap)]).map Pap.pl ++ goR 2 false R) := by unfold Hid; rw [hgo1.out, goR_skip _ (.inr (.inr (by simp only; omega)))]; simp [Pap.pl]
          have hown1 := Lib.hid ((own_below hO.out.row ((Below.refl _ wr).alloc (Nat.le_refl _) (.cells #[.int .i64 kd, .string nu, .string is, .slice fA m fc] 32))).alloc (.cells #[.int .i64 kd, .string nu, .string is, .slice fA m fc] 32))
          go_wp2_with (at_builtin; go_must (refine wpList_app3 w.heap.size rfl (.tmp 40) (.tmp 42) 42 rfl 32 i0 _ 4 64 Tryz.underlying42 hi hz0 hz1 hz2 rfl (by decide) (.slice Av ps.length cw) ps.length (ps.flatMap encD) rfl (wr.heap.size + 1) 1 #[.int .i64 kd, .string nu, .string is, .slice fA m fc] rfl hown1.out (blk_second wr _ 32 _) rfl (hone.out fA m fc) hq1.out hq2.out (Nat.le_trans hsz.out (by simp; omega)) ?_); intro v5 w5 ho5 hb5 hg5)
          have hO5 : Hid (OutS w w5 v5 (ps ++ [(⟨kd, nu, is, fA, fc, fs⟩ : Pap)])) := hO.out.snoc ((Below.refl _ wr).alloc (Nat.le_refl _) _) (.inl hf0'.out) hsm1.out (by simp [encD, hm.out]) ho5 hb5 hg5
          clear ho5 hb5 hg5
          go_roundw
          case rel => exact ⟨k + 1, false, _, by omega, by go_num, rfl, hpsk, hO5, by rw [hR.out]; exact hres⟩
          case measure => simp [intOf]; omega
      · by_cases hkd : kd = 2
        · have k1 : (kd == 2) = true := by simp [hkd]
          have k2 : (kd != 2) = false := by simp [hkd]
          have hgo2 : Hid (goR 3 false (l.map Pap.pl) = ps.map Pap.pl ++ (hitL 3 ⟨kd, nu, is, fs⟩ ++ R)) := by unfold Hid; rw [hgo1.out, goR_hit R (by omega) (by omega) (by simp only; omega)]
          have hkd' := Lib.hid hkd
          clear hkd
          obtain ⟨G, hG⟩ : ∃ G, Hid (setF fs ⟨#[116, 111]⟩ ⟨#[110, 111, 119, 104, 101, 114, 101]⟩ = G) := ⟨_, rfl⟩
          obtain ⟨r, hr⟩ : ∃ r, Hid (G.length = r) := ⟨_, rfl⟩
          have hsmG : Hid (i64 kd ∧ G.length ≤ maxLen) := ⟨hsm1.out.1, by have h2 := setF_len2 fs ⟨#[116, 111]⟩ ⟨#[110, 111, 119, 104, 101, 114, 101]⟩; rw [hG.out, hm.out] at h2; unfold maxLen; omega⟩
          have hset : Hid (∀ W, Below wr.heap.size wr W → Calls Tryz.prog 57 #[.slice fA m fc, .string ⟨#[116, 111]⟩, .string ⟨#[110, 111, 119, 104, 101, 114, 101]⟩] W fun e w' => ∃ A' c', e = .returned (.slice A' r c') ∧ w'.ownsRow W.heap.size 79 2 (.slice A' r c') r (flF G) ∧ Below W.heap.size W w') := fun W hW => by
            have h := setR_any fA m fc fs ⟨#[116, 111]⟩ ⟨#[110, 111, 119, 104, 101, 114, 101]⟩ W hmx hm (Lib.hid (h4'.out.below hW))
            rw [hG.out, hr.out] at h
            refine h.mono ?_
            rintro e w' ⟨v, rfl, ho, hb⟩
            obtain ⟨A', c', rfl⟩ := own_form ho
            exact ⟨A', c', rfl, ho, hb⟩
          have hget := Lib.hid (getR_any fA m fc fs ⟨#[115, 117, 109]⟩ wa (by unfold maxLen; omega) hm (Lib.hid (h4'.out.below hbl.out)))
          obtain ⟨gv, hgv⟩ : ∃ x, Hid (getV fs ⟨#[115, 117, 109]⟩ = x) := ⟨_, rfl⟩
          obtain ⟨gb, hgb⟩ : ∃ x, Hid (getB fs ⟨#[115, 117, 109]⟩ = x) := ⟨_, rfl⟩
          rw [hgv.out, hgb.out] at hget
          go_wp2_with fail
          rw [hwa.out]
          refine hget.out.mono ?_
          rintro e w2 ⟨rfl, hb2⟩
          have hbx2 := Lib.hid (hbx.out.below hb2 hbx.out.lt)
          have hB2 : Hid (Below wr.heap.size wr w2) := hbl.out.trans (hb2.mono hbl.out.size)
          clear hb2 hget
          go_wp2_with fail
          refine (numberR_any gv w2).mono ?_
          rintro e w3 ⟨rfl, hb3⟩
          have hbx3 := Lib.hid (hbx2.out.below hb3 hbx2.out.lt)
          have hB3 : Hid (Below wr.heap.size wr w3) := hB2.out.trans (hb3.mono hB2.out.size)
          have hlt3 : wr.heap.size < w3.heap.size := hbx3.out.lt
          have hf3 := hbx3.out.frozen
          clear hb3
          have qx30 : w3.cell? ⟨wr.heap.size, 0, none⟩ = some (.int .i64 kd) := hbx3.out.cell 0
          have qx31 : w3.cell? ⟨wr.heap.size, 1, none⟩ = some (.string nu) := hbx3.out.cell 1
          have qx32 : w3.cell? ⟨wr.heap.size, 2, none⟩ = some (.string is) := hbx3.out.cell 2
          have qx33 : w3.cell? ⟨wr.heap.size, 3, none⟩ = some (.slice fA m fc) := hbx3.out.cell 3
          obtain ⟨nz, hnz⟩ : ∃ x, Hid (twoN (numF gv.data.toList) = x) := ⟨_, rfl⟩
          obtain ⟨v, fb, hvf⟩ : ∃ v fb, Hid (twoN (numF gv.data.toList) = .tuple #[.int .i64 v, .bool fb]) := ⟨_, _, rfl⟩
          rw [hvf.out]
          go_wp2_with fail
          refine (hset.out _ hB3.out).mono ?_
          rintro e w6 ⟨A4, c4, rfl, ho6, hb6⟩
          have hb36 : Hid (Below w3.heap.size w3 w6) := hb6
          have hB6 : Hid (Below wr.heap.size wr w6) := hB3.out.trans (hb36.out.mono hB3.out.size)
          have ho6' := Lib.hid (own_mono_base ho6 (Nat.le_trans hsz.out hB3.out.size))
          have hbx6 := Lib.hid (hbx3.out.below hb36.out hbx3.out.lt)
          have yf := hbx6.out.frozen
          have hlt6 : wr.heap.size < w6.heap.size := hbx6.out.lt
          clear ho6 hb6
          have qx60 : w6.cell? ⟨wr.heap.size, 0, none⟩ = some (.int .i64 kd) := hbx6.out.cell 0
          have qx61 : w6.cell? ⟨wr.heap.size, 1, none⟩ = some (.string nu) := hbx6.out.cell 1
          have qx62 : w6.cell? ⟨wr.heap.size, 2, none⟩ = some (.string is) := hbx6.out.cell 2
          have qx63 : w6.cell? ⟨wr.heap.size, 3, none⟩ = some (.slice fA m fc) := hbx6.out.cell 3
          have hres : Hid (goR 3 false (l.map Pap.pl) = (ps ++ [(⟨kd, nu, is, A4, c4, G⟩ : Pap)]).map Pap.pl ++ goR 3 true R) := by unfold Hid; rw [hgo2.out, goR_true]; simp [hitL, hitF, Pap.pl, hG.out]
          have hown7 := Lib.hid (own_set_ne (own_below hO.out.row hB6.out) hne0.out (o := 3) (u := .slice A4 r c4))
          go_wp2_with (at_builtin; go_must (refine wpList_app3 w.heap.size rfl (.tmp 78) (.tmp 80) 42 rfl 32 i0 _ 4 64 Tryz.underlying42 hi hz0 hz1 hz2 rfl (by decide) (.slice Av ps.length cw) ps.length (ps.flatMap encD) rfl w6.heap.size 1 #[.int .i64 kd, .string nu, .string is, .slice A4 r c4] rfl (hown7.out.alloc _) (by simpa using Blk.new (w6.setCell ⟨wr.heap.size, 3, none⟩ (.slice A4 r c4)) 32 #[.int .i64 kd, .string nu, .string is, .slice A4 r c4]) rfl (hone.out _ _ _) hq1.out hq2.out (Nat.le_trans hsz.out (Nat.le_trans (hB6.out.setCell (p := ⟨wr.heap.size, 3, none⟩) (Nat.le_refl _) (.slice A4 r c4)).size (by simp))) ?_); intro v5 w5 ho5 hb5 hg5)
          have hO5 : Hid (OutS w w5 v5 (ps ++ [(⟨kd, nu, is, A4, c4, G⟩ : Pap)])) := hO.out.snoc (hB6.out.setCell (p := ⟨wr.heap.size, 3, none⟩) (Nat.le_refl _) (.slice A4 r c4)) (.inr (by simp only; rw [hr.out]; exact own_set ho6'.out hbx6.out (by decide))) hsmG.out (by simp [encD, hr.out]) ho5 hb5 hg5
          clear ho5 hb5 hg5
          go_roundw
          case rel => exact ⟨k + 1, true, _, by omega, by go_num, rfl, by have := hpl.out; unfold Hid; simp; omega, hO5, by rw [hR.out]; exact hres⟩
          case measure => simp [intOf]; omega
        · have k1 : (kd == 2) = false := by simpa using hkd
          have k2 : (kd != 2) = true := by simpa using hkd
          have hres : Hid (goR 3 false (l.map Pap.pl) = (ps ++ [(⟨kd, nu, is, fA, fc, fs⟩ : Pap)]).map Pap.pl ++ goR 3 false R) := by unfold Hid; rw [hgo1.out, goR_skip _ (.inr (.inr (by simp only; omega)))]; simp [Pap.pl]
          have hown1 := Lib.hid ((own_below hO.out.row ((Below.refl _ wr).alloc (Nat.le_refl _) (.cells #[.int .i64 kd, .string nu, .string is, .slice fA m fc] 32))).alloc (.cells #[.int .i64 kd, .string nu, .string is, .slice fA m fc] 32))
          go_wp2_with (at_builtin; go_must (refine wpList_app3 w.heap.size rfl (.tmp 40) (.tmp 42) 42 rfl 32 i0 _ 4 64 Tryz.underlying42 hi hz0 hz1 hz2 rfl (by decide) (.slice Av ps.length cw) ps.length (ps.flatMap encD) rfl (wr.heap.size + 1) 1 #[.int .i64 kd, .string nu, .string is, .slice fA m fc] rfl hown1.out (blk_second wr _ 32 _) rfl (hone.out fA m fc) hq1.out hq2.out (Nat.le_trans hsz.out (by simp; omega)) ?_); intro v5 w5 ho5 hb5 hg5)
          have hO5 : Hid (OutS w w5 v5 (ps ++ [(⟨kd, nu, is, fA, fc, fs⟩ : Pap)])) := hO.out.snoc ((Below.refl _ wr).alloc (Nat.le_refl _) _) (.inl hf0'.out) hsm1.out (by simp [encD, hm.out]) ho5 hb5 hg5
          clear ho5 hb5 hg5
          go_roundw
          case rel => exact ⟨k + 1, false, _, by omega, by go_num, rfl, hpsk, hO5, by rw [hR.out]; exact hres⟩
          case measure => simp [intOf]; omega
    · have e : k = n := by omega
      have eD : l.drop k = [] := List.drop_eq_nil_of_le (by have := hl.out; omega)
      have hfin : Hid (ps.map Pap.pl = goR nn false (l.map Pap.pl)) := by unfold Hid; rw [hgo.out, eD]; simp [goR]
      clear eD hgo
      obtain ⟨A9, c9, e9, hD9⟩ := hO.out.docs
      simp only [Value.slice.injEq, true_and] at e9
      obtain ⟨rfl, rfl⟩ := e9
      have hD9' := Lib.hid hD9
      clear hD9
      go_wp2_with fail
      go_ret
      exact ⟨Av, cw, ps, rfl, hD9'.out, hfin.out, hO.out.below⟩
end Go.Proofs.YtnmnknkdnjkpjaaGreatDoor

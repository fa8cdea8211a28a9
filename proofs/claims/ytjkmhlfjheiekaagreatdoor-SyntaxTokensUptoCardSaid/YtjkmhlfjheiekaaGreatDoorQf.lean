/- The law SyntaxBack: what is printed is parsed to the same credit, and printed again. -/
import Derived.StillTailTactics
import Derived.Test.YtjkmhlfjheiekaaGreatDoorPd
import Derived.Test.YtjkmhlfjheiekaaGreatDoorQb
import Derived.Test.YtjkmhlfjheiekaaGreatDoorYk
namespace Go.Proofs.YtjkmhlfjheiekaaGreatDoor
open Go Go.RowKit Go.BigFrame Go.Maps

/-- What Parse hands back, by what it says. -/
def Parsed (w : World) (y : Except (Nat × Int) (Crd × List NdP)) (x : Ending) (w' : World) : Prop := Below w.heap.size w w' ∧ match y with
  | .ok (cr, L) => ∃ (T : List Nd) (A2 : Option Addr) (c2 : Nat), x = .returned (.tuple #[.agg (cr.cells (.slice A2 T.length c2)), .int .i64 0, .int .i64 0]) ∧ NdsAt w' (fun b => w.heap.size ≤ b) A2 T ∧ T.map ndP = L ∧ T.length ≤ 5000
  | .error (k, cd) => x = .returned (.tuple #[.agg zeroC, .int .i64 k, .int .i64 cd]) ∧ cd ≠ 0
def endC (r : (Crd × List NdP) × St) : Except (Nat × Int) (Crd × List NdP) := if r.2.cd = 0 then .ok r.1 else .error (r.2.pl, r.2.cd)
theorem parse_noscan {s : Txt} {k : Nat} {cd : Int} (e : Nat) (hcd : cd ≠ 0) (h : 4096 < s.length ∧ k = 0 ∧ cd = 7 ∨ s.length ≤ 4096 ∧ scanT s = .error (k, cd)) : parseT s = endC (creditS e [] ⟨0, k, cd⟩) := by
  have h1 : endC (creditS e [] ⟨0, k, cd⟩) = .error (k, cd) := by
    have hb := credit_bad (e := e) (l := []) (st := ⟨0, k, cd⟩) hcd
    unfold endC
    rw [hb, if_neg hcd]
  rw [h1]
  unfold parseT
  rcases h with ⟨h, rfl, rfl⟩ | ⟨h, h2⟩
  · rw [if_pos h]
  · rw [if_neg (by omega), h2]
theorem parse_tokens {s : Txt} {l : List Tok} (h1 : s.length ≤ 4096) (h2 : scanT s = .ok l) : parseT s = endC (creditS s.length l ⟨0, 0, 0⟩) := by
  unfold parseT endC
  rw [if_neg (by omega), h2]

set_option maxRecDepth 100000 in
set_option maxHeartbeats 6400000 in
theorem parse_any (s : ByteArray) (w : World) (hs : s.size ≤ maxLen) (he : Hid (Env w)) : Calls Tryz.prog 23 #[.string s] w (Parsed w (parseT s.data.toList)) := by
  have hln : Hid (s.data.toList.length = s.size) := by unfold Hid; simp
  have h8 : Hid (8 ≤ w.heap.size + 1) := by have := he.out.size; unfold Hid; omega
  have hR0 : Hid (Blk (w.alloc (.cells zeroC 41)) w.heap.size 41 zeroC) := Blk.new w 41 zeroC
  have hB0 : Hid (Below w.heap.size w (w.alloc (.cells zeroC 41))) := (Below.refl _ w).alloc (Nat.le_refl _) _
  have hsz0 : Hid ((w.alloc (.cells zeroC 41)).heap.size = w.heap.size + 1) := by unfold Hid; simp
  have ne1 : w.heap.size + 1 ≠ w.heap.size := by omega
  have ne2 : w.heap.size ≠ w.heap.size + 1 := by omega
  go_enter Tryz.func23, Tryz.ntmps23
  go_wp2_with fail
  change Calls Tryz.prog 30 _ (w.alloc (.cells zeroC 41)) _
  obtain ⟨wa, hwa⟩ : ∃ x, Hid (w.alloc (.cells zeroC 41) = x) := ⟨_, Lib.hid rfl⟩
  rw [hwa.out] at hR0 hB0 hsz0 ⊢
  clear hwa
  refine (begin_any s wa hs (he.out.below hB0.out)).mono ?_
  rintro x w1 ⟨rfl, hb1, hcase⟩
  rw [hsz0.out] at hcase ⊢
  have hR1 := Lib.hid (hR0.out.below hb1 hR0.out.lt)
  have hB1 : Hid (Below w.heap.size w w1) := hB0.out.trans (hb1.mono hB0.out.size)
  have hsz1 : Hid (w.heap.size + 1 ≤ w1.heap.size) := by have := hb1.size; have := hsz0.out; unfold Hid; omega
  clear hb1 hR0 hB0
  obtain ⟨l, A, c, st, hok, hpar, hres⟩ : ∃ (l : List Tok) (A : Option Addr) (c : Nat) (st : St), Hid (TokOk l) ∧ Hid (ParAt w1 (w.heap.size + 1) A c s.size l st) ∧ Hid (parseT s.data.toList = endC (creditS s.size l st)) := by
    rcases hcase with ⟨l, v, h4096, hsc, hl, hown, hrow⟩ | ⟨k, cd, hbad, hcd, hrow⟩
    · obtain ⟨A, c, rfl⟩ := own_slice hown
      refine ⟨l, A, c, ⟨0, 0, 0⟩, tokens_ok hsc (by rw [hln.out]; exact h4096), ⟨hrow, tok_own hown (Nat.lt_succ_self _), hl, Nat.zero_le _⟩, ?_⟩
      have := parse_tokens (by rw [hln.out]; exact h4096) hsc
      rw [hln.out] at this
      exact this
    · exact ⟨[], none, 0, ⟨0, k, cd⟩, fun i t h => by simp at h, ⟨hrow, fun i t h => by simp at h, by simp, Nat.zero_le _⟩, parse_noscan s.size hcd (by rw [hln.out]; exact hbad)⟩
  clear hcase
  obtain ⟨⟨⟨cr, L⟩, sE⟩, hcs⟩ : ∃ r, Hid (creditS s.size l st = r) := ⟨_, Lib.hid rfl⟩
  rw [hcs.out] at hres
  go_wp2_with fail
  refine (credit_any w1 (w.heap.size + 1) A c s.size l st hpar hok (he.out.below hB1.out) h8).mono ?_
  rintro x w2 ⟨hu2, hq2, T, A2, c2, rfl, hnd, hT, hTl⟩
  rw [hcs.out] at hq2 hT
  simp only at hq2 hT
  rw [hcs.out]
  obtain ⟨C, hCe⟩ : ∃ C, Hid (cr.cells (.slice A2 T.length c2) = C) := ⟨_, Lib.hid rfl⟩
  have hCs : Hid (C.size = 18) := by rw [← hCe.out]; rfl
  have hCi : Hid ((Tryz.prog.info? 41).map (·.size) = some C.size) := by unfold Hid; rw [hCs.out]; kernel_rfl
  have hC1 : Hid (C.all (·.oneCell') = true) := by unfold Hid; rw [← hCe.out, ← Array.all_toList]; rfl
  simp only
  rw [hCe.out]
  have hsz2 : Hid (w.heap.size + 1 ≤ w2.heap.size) := Nat.le_trans hsz1.out hu2.size
  have hR2 := Lib.hid ((hu2.blk hR1.out (by omega)).alloc (.cells zeroC 41))
  have hB2 : Hid (Below w.heap.size w w2) := hu2.to_below hB1.out (by omega) hB1.out.size
  have hq2' := Lib.hid (hq2.below ((Below.refl _ w2).alloc (Nat.le_refl _) (.cells zeroC 41)))
  have hnd2 : Hid (NdsAt (w2.alloc (.cells zeroC 41)) (fun b => w.heap.size + 1 ≤ b ∧ b < w2.heap.size) A2 T) := fun k x hx => by
    obtain ⟨b, off, e, hk, hc, hT⟩ := hnd k x hx
    have hlt : b < w2.heap.size := World.block_lt_of_cell? w2 _ (hc 0 _ rfl)
    have hbl : Below w2.heap.size w2 (w2.alloc (.cells zeroC 41)) := (Below.refl _ w2).alloc (Nat.le_refl _) _
    exact ⟨b, off, e, ⟨Nat.le_trans hsz1.out hk, hlt⟩, fun i u hi => (hbl.cell (p := ⟨b, _, none⟩) hlt).trans (hc i u hi), (hT.mono (fun b hb hk => ⟨Nat.le_trans hsz1.out hk, hb⟩)).below hbl⟩
  have hT' := Lib.hid hT
  have hTl' := Lib.hid hTl
  have hN2 : Hid (Blk (w2.alloc (.cells zeroC 41)) w2.heap.size 41 zeroC) := Blk.new w2 41 zeroC
  have hsz3 : Hid (w.heap.size + 1 < w2.heap.size) := by have := hq2.row.lt; unfold Hid; omega
  have hB3 : Hid (Below w.heap.size w (w2.alloc (.cells zeroC 41))) := hB2.out.alloc hB2.out.size _
  have hu2' := Lib.hid hu2
  have hsz12 : Hid (w1.heap.size ≤ w2.heap.size) := hu2.size
  clear hu2 hq2 hnd hT hTl
  go_upto_region 3 with (refine wpList_put_blk rfl 41 _ _ rfl w2.heap.size zeroC C 41 rfl rfl hN2.out hCs.out.symm hCi.out hC1.out ?_; intro w3 hN3 hu3)
  have hq3 : Hid (ParAt w3 (w.heap.size + 1) A c s.size l sE) := ⟨hu3.blk hq2'.out.row (by have := hsz3.out; omega), fun i t ht => by
    obtain ⟨g, off, hA, hg, h0, h1, h2⟩ := hpar.out.tok i t ht
    have hh : ∀ o, w3.cell? ⟨g, o, none⟩ = w1.cell? ⟨g, o, none⟩ := fun o => by
      have hl1 : g < w1.heap.size := World.block_lt_of_cell? w1 _ h0
      have e1 : w3.cell? ⟨g, o, none⟩ = (w2.alloc (.cells zeroC 41)).cell? ⟨g, o, none⟩ := hu3.cell (by have := hsz12.out; simp; omega) (by have := hsz12.out; show g ≠ w2.heap.size; omega)
      have e2 : (w2.alloc (.cells zeroC 41)).cell? ⟨g, o, none⟩ = w2.cell? ⟨g, o, none⟩ := ((Below.refl _ w2).alloc (Nat.le_refl _) _).cell (by have := hsz12.out; show g < w2.heap.size; omega)
      exact e1.trans (e2.trans (hu2'.out.cell hl1 hg))
    exact ⟨g, off, hA, hg, (hh _).trans h0, (hh _).trans h1, (hh _).trans h2⟩, hq2'.out.len, hq2'.out.pos⟩
  have hR3 := Lib.hid (hu3.blk hR2.out (by have := hsz3.out; omega))
  have hB4 : Hid (Below w.heap.size w w3) := hu3.to_below hB3.out (by have := hsz3.out; omega) hB3.out.size
  have hN3' := Lib.hid hN3
  have hnd3 : Hid (NdsAt w3 (fun b => w.heap.size + 1 ≤ b) A2 T) := nds_but hnd2.out hu3 (fun b hb => by have := hb.2; omega) (fun b hb => hb.1)
  clear hu3 hN3
  obtain ⟨sk, pl, cd⟩ := sE
  have d3 : w3.cell? ⟨w.heap.size + 1, 3, none⟩ = some (.int .i64 (pl : Nat)) := hq3.out.row.cell 3
  have d4 : w3.cell? ⟨w.heap.size + 1, 4, none⟩ = some (.int .i64 cd) := hq3.out.row.cell 4
  have dlt := hq3.out.row.lt
  by_cases hz : cd = 0
  · subst hz
    have hres2 : Hid (parseT s.data.toList = .ok (cr, L)) := by unfold Hid; rw [hres.out]; unfold endC; rw [if_pos rfl]
    go_wp2_with (first | (refine wpList_get_blk rfl 41 _ rfl w2.heap.size C 41 _ rfl hN3'.out Tryz.underlying41 rfl hCi.out ?_) | (refine wpList_put_blk rfl 41 _ _ rfl w.heap.size zeroC C 41 rfl rfl hR3.out hCs.out.symm hCi.out hC1.out ?_; intro w9 hR9 hu9))
    refine bodyPost_ret (results_row_tmp2 rfl _ _ w.heap.size 41 _ _ rfl hR9 Tryz.underlying41 rfl hCi.out) rfl ?_
    unfold Parsed
    rw [hres2.out]
    refine ⟨hu9.to_below hB4.out (Nat.le_refl _) hB4.out.size, T, A2, c2, ?_, nds_but hnd3.out hu9 (fun b hb => by omega) (fun b hb => by omega), hT'.out, hTl'.out⟩
    rw [← hCe.out]; rfl
  · have b2 : (cd != 0) = true := by simp [hz]
    have hz' := Lib.hid hz
    have hres2 : Hid (parseT s.data.toList = .error (pl, cd)) := by unfold Hid; rw [hres.out]; unfold endC; rw [if_neg hz]
    clear hz
    go_wp2_with fail
    have rc0 : w3.cell? ⟨w.heap.size, 0, none⟩ = some (.string ⟨#[]⟩) := hR3.out.cell 0
    have rf0 := hR3.out.frozen 0
    have rc1 : w3.cell? ⟨w.heap.size, 1, none⟩ = some (.string ⟨#[]⟩) := hR3.out.cell 1
    have rf1 := hR3.out.frozen 1
    have rc2 : w3.cell? ⟨w.heap.size, 2, none⟩ = some (.string ⟨#[]⟩) := hR3.out.cell 2
    have rf2 := hR3.out.frozen 2
    have rc3 : w3.cell? ⟨w.heap.size, 3, none⟩ = some (.string ⟨#[]⟩) := hR3.out.cell 3
    have rf3 := hR3.out.frozen 3
    have rc4 : w3.cell? ⟨w.heap.size, 4, none⟩ = some (.string ⟨#[]⟩) := hR3.out.cell 4
    have rf4 := hR3.out.frozen 4
    have rc5 : w3.cell? ⟨w.heap.size, 5, none⟩ = some (.string ⟨#[]⟩) := hR3.out.cell 5
    have rf5 := hR3.out.frozen 5
    have rc6 : w3.cell? ⟨w.heap.size, 6, none⟩ = some (.string ⟨#[]⟩) := hR3.out.cell 6
    have rf6 := hR3.out.frozen 6
    have rc7 : w3.cell? ⟨w.heap.size, 7, none⟩ = some (.string ⟨#[]⟩) := hR3.out.cell 7
    have rf7 := hR3.out.frozen 7
    have rc8 : w3.cell? ⟨w.heap.size, 8, none⟩ = some (.int .i64 0) := hR3.out.cell 8
    have rf8 := hR3.out.frozen 8
    have rc9 : w3.cell? ⟨w.heap.size, 9, none⟩ = some (.int .i64 0) := hR3.out.cell 9
    have rf9 := hR3.out.frozen 9
    have rc10 : w3.cell? ⟨w.heap.size, 10, none⟩ = some (.int .i64 0) := hR3.out.cell 10
    have rf10 := hR3.out.frozen 10
    have rc11 : w3.cell? ⟨w.heap.size, 11, none⟩ = some (.int .i64 0) := hR3.out.cell 11
    have rf11 := hR3.out.frozen 11
    have rc12 : w3.cell? ⟨w.heap.size, 12, none⟩ = some (.int .i64 0) := hR3.out.cell 12
    have rf12 := hR3.out.frozen 12
    have rc13 : w3.cell? ⟨w.heap.size, 13, none⟩ = some (.int .i64 0) := hR3.out.cell 13
    have rf13 := hR3.out.frozen 13
    have rc14 : w3.cell? ⟨w.heap.size, 14, none⟩ = some (.int .i64 0) := hR3.out.cell 14
    have rf14 := hR3.out.frozen 14
    have rc15 : w3.cell? ⟨w.heap.size, 15, none⟩ = some (.bool false) := hR3.out.cell 15
    have rf15 := hR3.out.frozen 15
    have rc16 : w3.cell? ⟨w.heap.size, 16, none⟩ = some (.bool false) := hR3.out.cell 16
    have rf16 := hR3.out.frozen 16
    have rc17 : w3.cell? ⟨w.heap.size, 17, none⟩ = some (.slice none 0 0) := hR3.out.cell 17
    have rf17 := hR3.out.frozen 17
    have rlt := hR3.out.lt
    go_region
    all_goals
      go_wp2_with fail
      refine bodyPost_ret (results_row_tmp2 rfl _ _ w.heap.size 41 _ _ rfl (Blk.drew ((((((((((((((((((hR3.out.set_ 0 _).set_ 1 _).set_ 2 _).set_ 3 _).set_ 4 _).set_ 5 _).set_ 6 _).set_ 7 _).set_ 8 _).set_ 9 _).set_ 10 _).set_ 11 _).set_ 12 _).set_ 13 _).set_ 14 _).set_ 15 _).set_ 16 _).set_ 17 _)) Tryz.underlying41 rfl (by kernel_rfl)) rfl ?_
      unfold Parsed
      rw [hres2.out]
      exact ⟨Below.drew ((((((((((((((((((hB4.out.setCell (Nat.le_refl _) _).setCell (Nat.le_refl _) _).setCell (Nat.le_refl _) _).setCell (Nat.le_refl _) _).setCell (Nat.le_refl _) _).setCell (Nat.le_refl _) _).setCell (Nat.le_refl _) _).setCell (Nat.le_refl _) _).setCell (Nat.le_refl _) _).setCell (Nat.le_refl _) _).setCell (Nat.le_refl _) _).setCell (Nat.le_refl _) _).setCell (Nat.le_refl _) _).setCell (Nat.le_refl _) _).setCell (Nat.le_refl _) _).setCell (Nat.le_refl _) _).setCell (Nat.le_refl _) _).setCell (Nat.le_refl _) _), rfl, hz'.out⟩
end Go.Proofs.YtjkmhlfjheiekaaGreatDoor
namespace Go.Proofs.YtjkmhlfjheiekaaGreatDoor
open Go Go.RowKit Go.BigFrame Go.Maps

theorem eqBy_same : ∀ T T' : List Nd, T.map ndP = T'.map ndP → eqBy eqNd T T' = true
  | [], [], _ => rfl
  | [], _ :: _, h => by simp at h
  | _ :: _, [], h => by simp at h
  | a :: T, b :: T', h => by
    simp only [List.map_cons, List.cons.injEq] at h
    rw [eqBy, eqBy_same T T' h.2]
    have h1 := h.1
    unfold ndP at h1
    simp only [Prod.mk.injEq] at h1
    unfold eqNd
    rw [h1.1, h1.2.1, h1.2.2]
    simp [eqR_refl]
def needW (x : NdP) : List Txt := [[119, 97, 110, 116, 115], paperT x.1, [99, 111, 112, 105, 101, 115], decN 20 x.2.1.toNat] ++ (if alwaysR x.2.2 = true then [] else [[119, 105, 116, 104], showR x.2.2])
theorem creditT_map (c : Crd) (l : List Nd) : creditT c l = textL (topL c ++ (l.map ndP).map needW) := by
  unfold creditT
  rw [List.map_map]; rfl
theorem creditM_map (c : Crd) (l : List Nd) : creditM c l = (namesM c && ((c.confirmer == [] || nameM c.confirmer) && codeM c.currency) && (decide (1 ≤ c.amount) && decide (c.amount ≤ 1099511627776)) && ((decide (0 ≤ c.above) && decide (c.above ≤ 1000)) && (decide (0 ≤ c.below) && decide (c.below ≤ 1000))) && daysM c && (decide ((l.map ndP).length ≤ 64) && (l.map ndP).all needP)) := by
  unfold creditM
  rw [List.length_map, List.all_map]; rfl
theorem print_map (c : Crd) {T l : List Nd} (h : T.map ndP = l.map ndP) : printT c T = printT c l ∧ printE c T = printE c l := by
  unfold printT printE
  rw [creditM_map c T, creditM_map c l, creditT_map c T, creditT_map c l, h]
  exact ⟨rfl, rfl⟩
theorem print_fine {c : Crd} {l : List Nd} (h : printE c l = 0) : creditM c l = true ∧ (creditT c l).length ≤ 4096 ∧ printT c l = creditT c l := by
  unfold printE at h
  by_cases hm : creditM c l = true
  · rw [if_pos hm] at h
    by_cases h4 : 4096 < (creditT c l).length
    · rw [if_pos h4] at h; exact absurd h (by decide)
    · exact ⟨hm, by omega, by unfold printT; rw [if_pos hm, if_neg h4]⟩
  · rw [if_neg hm] at h; exact absurd h (by decide)
theorem print_bad {c : Crd} {l : List Nd} (h : printE c l ≠ 0) : printT c l = [] := by
  unfold printE at h
  unfold printT
  split
  · rename_i hm
    rw [if_pos hm] at h
    split
    · rfl
    · rename_i h4; rw [if_neg h4] at h; exact absurd rfl h
  · rfl
theorem zk_one : zeroC.all (·.oneCell') = true := by kernel_rfl
/-- Needs stay as they are where one block of one's own is written. -/
theorem nds_put {w W : World} {ok : Nat → Prop} {A : Option Addr} {L : List Nd} (h : NdsAt w ok A L) (hu : But w.heap.size (w.alloc (.cells zeroC 41)) W) : NdsAt W ok A L := fun k x hx => by
  obtain ⟨b, off, e', hk, hc, hTr⟩ := h k x hx
  have hlt : b < w.heap.size := World.block_lt_of_cell? w _ (hc 0 _ rfl)
  have hbl : Below w.heap.size w (w.alloc (.cells zeroC 41)) := (Below.refl _ w).alloc (Nat.le_refl _) _
  exact ⟨b, off, e', hk, fun i u hi => ((hu.cell (p := ⟨b, _, none⟩) (Nat.lt_of_lt_of_le hlt hbl.size) (Nat.ne_of_lt hlt)).trans (hbl.cell (p := ⟨b, _, none⟩) hlt)).trans (hc i u hi),
    (((hTr.mono (fun b hb hk => (⟨hk, hb⟩ : ok b ∧ b < w.heap.size))).below hbl).but hu (fun b hb => Nat.ne_of_lt hb.2)).mono (fun b _ hb => hb.1)⟩
/-- A block below stays, where one block of one's own is written. -/
theorem blk_put {w W : World} {g t : Nat} {cs : Array Value} (h : Blk w g t cs) (hu : But w.heap.size (w.alloc (.cells zeroC 41)) W) : Blk W g t cs :=
  hu.blk (h.below ((Below.refl _ w).alloc (Nat.le_refl _) _) h.lt) (Nat.ne_of_lt h.lt)
set_option maxRecDepth 100000 in
set_option maxHeartbeats 6400000 in
theorem back_law (C : Array Value) (c : Crd) (A : Option Addr) (n cc : Nat) (l : List Nd) (ok : Nat → Prop) (w : World) (he : Hid (Env w)) (hC : Hid (C = c.cells (.slice A n cc))) (hs : Hid c.short) (hn : n ≤ maxLen) (hl : Hid (l.length = n)) (hN : Hid (NdsAt w ok A l)) (hz : Hid (∀ x ∈ l, szR (strip x.rule) ≤ 100000000)) :
    Calls Tryz.prog 8 #[.agg C] w fun e w' => e = .returned (.bool true) ∧ Below w.heap.size w w' := by
  have hb0 : Hid (Below w.heap.size w (w.alloc (.cells C 41))) := (Below.refl _ w).alloc (Nat.le_refl _) _
  have hbx := Lib.hid (Blk.new w 41 C)
  have hsC : Hid ((Tryz.prog.info? 41).map (·.size) = some C.size) := by unfold Hid; rw [hC.out]; kernel_rfl
  have hC17 : Hid (C[17]? = some (.slice A n cc)) := by unfold Hid; rw [hC.out]; rfl
  have p1 : Hid (∀ W, Below w.heap.size w W → Calls Tryz.prog 20 #[.agg C] W fun e w' => e = .returned (.bool (littleN l)) ∧ Below W.heap.size W w') := fun W hW => little_any C A n cc l W ok hC17 hl hn (hN.out.below hW)
  have p2 : Hid (∀ W, Below w.heap.size w W → Calls Tryz.prog 25 #[.agg C] W fun e w' => e = .returned (.tuple #[.string ⟨(printT c l).toArray⟩, .int .i64 (printE c l)]) ∧ Below W.heap.size W w') := fun W hW => print_any C c A n cc l W ok (he.out.below hW) hC hs hn hl (hN.out.below hW) hz
  have p3 : Hid (printE c l = 0 → ∀ W, Env W → Calls Tryz.prog 23 #[.string ⟨(printT c l).toArray⟩] W (Parsed W (.ok (c, l.map ndP)))) := fun h0 W hW => by
    obtain ⟨h1, h2, h3⟩ := print_fine h0
    have h := parse_any ⟨(printT c l).toArray⟩ W (by rw [h3]; show (creditT c l).toArray.size ≤ _; rw [List.size_toArray]; unfold maxLen; omega) (Lib.hid hW)
    rw [show (ByteArray.mk (printT c l).toArray).data.toList = printT c l from rfl, h3, credit_back h1 h2] at h
    rw [h3]
    exact h
  have p4 : Hid (∀ (T : List Nd) (A2 : Option Addr) (c2 : Nat) (ok' : Nat → Prop) (D : Array Value) (W : World), T.map ndP = l.map ndP → T.length ≤ 5000 → Hid (D = c.cells (.slice A2 T.length c2)) → Env W → NdsAt W ok' A2 T → Calls Tryz.prog 25 #[.agg D] W fun e w' => e = .returned (.tuple #[.string ⟨(printT c l).toArray⟩, .int .i64 (printE c l)]) ∧ Below W.heap.size W w') := fun T A2 c2 ok' D W hT hTl hD hW hNd => by
    have h := print_any D c A2 T.length c2 T W ok' (Lib.hid hW) hD hs (by unfold maxLen; omega) (Lib.hid rfl) (Lib.hid hNd) (Lib.hid fun x hx => by
      have hm : ndP x ∈ l.map ndP := by rw [← hT]; exact List.mem_map_of_mem hx
      obtain ⟨y, hy, hxy⟩ := List.mem_map.1 hm
      have h3 : strip y.rule = strip x.rule := by unfold ndP at hxy; simp only [Prod.mk.injEq] at hxy; exact hxy.2.2
      rw [← h3]; exact hz.out y hy)
    rw [(print_map c hT).1, (print_map c hT).2] at h
    exact h
  have p5 : Hid (∀ (T : List Nd) (A2 : Option Addr) (c2 : Nat) (ok' : Nat → Prop) (D : Array Value) (W : World), T.map ndP = l.map ndP → T.length ≤ 5000 → Hid (D = c.cells (.slice A2 T.length c2)) → NdsAt W ok A l → NdsAt W ok' A2 T → Calls Tryz.prog 21 #[.agg C, .agg D] W fun e w' => e = .returned (.bool true) ∧ Below W.heap.size W w') := fun T A2 c2 ok' D W hT hTl hD hNc hNd => by
    have h := same_prog C D c c A n cc l A2 T.length c2 T ok ok' W hC hD hn (by unfold maxLen; omega) hl (Lib.hid rfl) (Lib.hid hNc) (Lib.hid hNd)
    rw [eqCr_refl, eqBy_same l T hT.symm] at h
    exact h
  have hbad : Hid (printE c l ≠ 0 → printT c l = []) := print_bad
  obtain ⟨rt, hrt⟩ : ∃ b, Hid (printT c l = b) := ⟨_, Lib.hid rfl⟩
  obtain ⟨re, hre⟩ : ∃ b, Hid (printE c l = b) := ⟨_, Lib.hid rfl⟩
  obtain ⟨la, hla⟩ : ∃ b, Hid (littleN l = b) := ⟨_, Lib.hid rfl⟩
  rw [hrt.out, hre.out] at p2 p3 p4 hbad
  rw [hla.out] at p1
  clear hla hrt hre hs hl hC17 hz
  have hea := Lib.hid (he.out.below hb0.out)
  have hNa := Lib.hid (hN.out.below hb0.out)
  go_enter Tryz.func8, Tryz.ntmps8
  go_wp2_with fail
  obtain ⟨wa, hwa⟩ : ∃ x, Hid (w.alloc (.cells C 41) = x) := ⟨_, Lib.hid rfl⟩
  change Calls Tryz.prog 12 _ (w.alloc (.cells C 41)) _
  rw [hwa.out] at hb0 hbx hea hNa ⊢
  clear hwa
  refine (awake_any wa hea).mono ?_
  rintro e w1 ⟨rfl, hb1⟩
  have hB1 := Lib.hid (hb0.out.trans (hb1.mono hb0.out.size))
  have hx1 := Lib.hid (hbx.out.below hb1 hbx.out.lt)
  have he1 := Lib.hid (hea.out.below hb1)
  have hN1 := Lib.hid (hNa.out.below hb1)
  clear hb1 hb0 hbx hea hNa
  go_wp2_with (refine wpList_load_blkg rfl 41 _ rfl w.heap.size C 41 _ rfl hx1.out Tryz.underlying41 rfl hsC.out ?_)
  refine (p1.out w1 hB1.out).mono ?_
  rintro e w2 ⟨rfl, hb2⟩
  have hB2 := Lib.hid (hB1.out.trans (hb2.mono hB1.out.size))
  have hx2 := Lib.hid (hx1.out.below hb2 hx1.out.lt)
  have he2 := Lib.hid (he1.out.below hb2)
  have hN2 := Lib.hid (hN1.out.below hb2)
  clear hb2 hB1 hx1 he1 p1 hN1
  cases la with
  | false =>
    go_wp2_with fail
    refine (awake_any w2 he2).mono ?_
    rintro e w3 ⟨rfl, hb3⟩
    go_wp2_with fail
    go_ret
    exact ⟨rfl, hB2.out.trans (hb3.mono hB2.out.size)⟩
  | true =>
    go_wp2_with (refine wpList_load_blkg rfl 41 _ rfl w.heap.size C 41 _ rfl hx2.out Tryz.underlying41 rfl hsC.out ?_)
    refine (p2.out w2 hB2.out).mono ?_
    rintro e w3 ⟨rfl, hb3⟩
    have hB3 := Lib.hid (hB2.out.trans (hb3.mono hB2.out.size))
    have hx3 := Lib.hid (hx2.out.below hb3 hx2.out.lt)
    have he3 := Lib.hid (he2.out.below hb3)
    have hN3 := Lib.hid (hN2.out.below hb3)
    clear hb3 hB2 hx2 he2 p2 hN2
    by_cases hr0 : re = 0
    · have b1 : (re != 0) = false := by rw [hr0]; rfl
      have p3' := Lib.hid (p3.out hr0)
      have hr0' := Lib.hid hr0
      clear p3 hr0 hbad
      go_wp2_with fail
      refine (p3'.out w3 he3.out).mono ?_
      rintro x w4 ⟨hb4, T, A2, c2, rfl, hnd, hT, hTl⟩
      have hB4 := Lib.hid (hB3.out.trans (hb4.mono hB3.out.size))
      have hx4 := Lib.hid (hx3.out.below hb4 hx3.out.lt)
      have he4 := Lib.hid (he3.out.below hb4)
      have hN4 := Lib.hid (hN3.out.below hb4)
      have hT' := Lib.hid hT
      have hTl' := Lib.hid hTl
      have hnd' := Lib.hid hnd
      clear hb4 hB3 hx3 he3 hN3 hT hTl hnd p3'
      obtain ⟨D, hD⟩ : ∃ D, Hid (D = c.cells (.slice A2 T.length c2)) := ⟨_, Lib.hid rfl⟩
      have hDs : Hid (D.size = 18) := by rw [hD.out]; rfl
      have hDi : Hid ((Tryz.prog.info? 41).map (·.size) = some D.size) := by unfold Hid; rw [hDs.out]; kernel_rfl
      have hD1 : Hid (D.all (·.oneCell') = true) := by unfold Hid; rw [hD.out, ← Array.all_toList]; rfl
      rw [← hD.out]
      have hM0 : Hid (Blk (w4.alloc (.cells zeroC 41)) w4.heap.size 41 zeroC) := Blk.new w4 41 zeroC
      have hBz : Hid (Below w.heap.size w (w4.alloc (.cells zeroC 41))) := hB4.out.alloc hB4.out.size _
      have hez : Hid (Env (w4.alloc (.cells zeroC 41))) := he4.out.below ((Below.refl _ w4).alloc (Nat.le_refl _) _)
      go_upto_region 7 with (refine wpList_put_blk rfl 41 _ _ rfl w4.heap.size zeroC D 41 rfl rfl hM0.out hDs.out.symm hDi.out hD1.out ?_; intro w5 hM5 hu5)
      have hx5 := Lib.hid (blk_put hx4.out hu5)
      have hB5 : Hid (Below w.heap.size w w5) := hu5.to_below hBz.out hB4.out.size hBz.out.size
      have he5 : Hid (Env w5) := he4.out.below (hu5.to_below ((Below.refl _ w4).alloc (Nat.le_refl _) _) (Nat.le_refl _) (by simp))
      have hN5 := Lib.hid (nds_put hN4.out hu5)
      have hnd5 := Lib.hid (nds_put hnd'.out hu5)
      have hM5' := Lib.hid hM5
      obtain ⟨G, hG⟩ : ∃ g, Hid (w4.heap.size = g) := ⟨_, Lib.hid rfl⟩
      rw [hG.out] at hM5' ⊢
      clear hu5 hM5 hBz hM0 hez hG hx4 he4 hN4 hnd'
      go_wp2_with (refine wpList_get_blk rfl 41 _ rfl G D 41 _ rfl hM5'.out Tryz.underlying41 rfl hDi.out ?_)
      refine (p4.out T A2 c2 _ D w5 hT'.out hTl'.out hD he5.out hnd5.out).mono ?_
      rintro e w6 ⟨rfl, hb6⟩
      have hB6 := Lib.hid (hB5.out.trans (hb6.mono hB5.out.size))
      have hx6 := Lib.hid (hx5.out.below hb6 hx5.out.lt)
      have hM6 := Lib.hid (hM5'.out.below hb6 hM5'.out.lt)
      have hN6 := Lib.hid (hN5.out.below hb6)
      have hnd6 := Lib.hid (hnd5.out.below hb6)
      clear hb6 hB5 hx5 hM5' hN5 hnd5 he5 p4
      have p6 := Lib.hid (p5.out T A2 c2 _ D w6 hT'.out hTl'.out hD hN6.out hnd6.out)
      clear p5 hN6 hnd6
      have t1 : (rt == rt) = true := beq_self_eq_true _
      have t2 : (re == 0) = true := by rw [hr0'.out]; rfl
      go_wp2_with (first | (refine wpList_load_blkg rfl 41 (.tmp 1) rfl w.heap.size C 41 _ rfl hx6.out Tryz.underlying41 rfl hsC.out ?_) | (refine wpList_load_blkg rfl 41 (.tmp 5) rfl G D 41 _ rfl hM6.out Tryz.underlying41 rfl hDi.out ?_))
      refine p6.out.mono ?_
      rintro e w7 ⟨rfl, hb7⟩
      go_wp2_with fail
      go_ret
      exact ⟨by simp, hB6.out.trans (hb7.mono hB6.out.size)⟩
    · have b1 : (re != 0) = true := by simpa using hr0
      have hb := hbad.out hr0
      subst hb
      clear p3 p4 p5 hbad hr0
      go_wp2_with fail
      go_ret
      exact ⟨by simp, hB3.out⟩
end Go.Proofs.YtjkmhlfjheiekaaGreatDoor

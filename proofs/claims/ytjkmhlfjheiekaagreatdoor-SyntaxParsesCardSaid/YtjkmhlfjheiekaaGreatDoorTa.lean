import Derived.Test.YtjkmhlfjheiekaaGreatDoorE
import Derived.Test.YtjkmhlfjheiekaaGreatDoorShelf
import Derived.Test.YtjkmhlfjheiekaaGreatDoorX
import Derived.Test.YtjkmhlfjheiekaaGreatDoorY
import Derived.Test.YtjkmhlfjheiekaaGreatDoorZc
namespace Go.Proofs.YtjkmhlfjheiekaaGreatDoor
open Go Go.RowKit
def signsL : List Txt := [[40], [41], [44], [59], [58], [46], [61], [126], [60, 61], [62, 61]]
structure GoodT (t : Tok) : Prop where
 kind : 0 ≤ t.kind ∧ t.kind ≤ 5
 name : t.kind ≤ 2 → nameM t.text = true ∧ (rankM t.text).1 = t.kind
 text : t.kind = 3 → textM t.text = true
 code : t.kind = 4 → t.text.length = 3 ∧ t.text.all largeB = true
 sign : t.kind = 5 → signsL.contains t.text = true
theorem fold_big : ∀ (t : Txt) (a : Nat), a * 10 ^ t.length ≤ foldV a t
 | [], a => by simp [foldV]
 | c :: r, a => by
  have := fold_big r (10 * a + (c.toNat - 48))
  have h2 : foldV a (c :: r) = foldV (10 * a + (c.toNat - 48)) r := rfl
  rw [h2, List.length_cons, Nat.pow_succ]
  refine Nat.le_trans ?_ this
  have : a * (10 ^ r.length * 10) = (10 * a) * 10 ^ r.length := by rw [Nat.mul_comm (10 ^ r.length), ← Nat.mul_assoc, Nat.mul_comm a]
  rw [this]
  exact Nat.mul_le_mul_right _ (by omega)
set_option maxRecDepth 100000 in
theorem digit_nought : ∀ c : UInt8, digitB c = true → c ≠ 48 → 1 ≤ c.toNat - 48 :=
 byte_all (P := fun c => digitB c = true → c ≠ 48 → 1 ≤ c.toNat - 48) (by decide)
theorem num_short {t : Txt} (hd : t.all digitB = true) (h1 : ¬ (1 < t.length ∧ t.head? = some 48)) (hm : numV t ≤ mostN) : t.length ≤ 16 := by
 cases t with
 | nil => simp
 | cons c r =>
  by_cases hr : r = []
  ·rw [hr]; simp
  ·have hc : c ≠ 48 := fun h => h1 ⟨by cases r with | nil => exact absurd rfl hr | cons => simp, by rw [h]; rfl⟩
   rw [List.all_cons, Bool.and_eq_true] at hd
   have hg := digit_nought c hd.1 hc
   have hf : numV (c :: r) = foldV (10 * 0 + (c.toNat - 48)) r := rfl
   have hb := fold_big r (10 * 0 + (c.toNat - 48))
   rw [← hf] at hb
   unfold mostN at hm
   by_cases hl : r.length ≤ 15
   ·simp; omega
   ·exfalso
    have h10 : 10 ^ 13 ≤ 10 ^ r.length := Nat.pow_le_pow_right (by omega) (by omega)
    have h11 : 1 * 10 ^ r.length ≤ (10 * 0 + (c.toNat - 48)) * 10 ^ r.length := Nat.mul_le_mul_right _ (by omega)
    omega
theorem word_short : ∀ t : Txt, wordsL.contains t = true → t.length ≤ 16 := by
 intro t ht
 have h : wordsL.all (fun t => decide (t.length ≤ 16)) = true := by decide
 have := List.all_eq_true.1 h t (by simpa using ht)
 simpa using this
theorem rank_good {t : Txt} (h0 : (rankM t).2 = 0) (hs : t.all smallB = true) (hne : t ≠ []) : nameM t = true := by
 have h1 : 1 ≤ t.length := by cases t with | nil => exact absurd rfl hne | cons => simp
 have h16 : t.length ≤ 16 := by
  unfold rankM at h0
  split at h0
  ·rename_i hd
   simp only at h0
   split at h0
   ·exact absurd h0 (by decide)
   ·rename_i h
    split at h0
    ·exact absurd h0 (by decide)
    ·exact num_short hd h (by omega)
  ·split at h0
   ·rename_i hw; exact word_short t hw
   ·simp only at h0
    split at h0
    ·assumption
    ·exact absurd h0 (by decide)
 unfold nameM
 simp [h1, h16, hs, h0]
theorem one_good {s t : Txt} {kd : Int} {m p : Nat} (h : oneM s = .ok (kd, t, m)) : GoodT ⟨kd, p, t⟩ := by
 cases s with
 | nil => simp [oneM] at h
 | cons c r =>
  rw [oneM] at h
  split at h
  ·rename_i hc
   split at h
   ·rename_i h0
    simp only [Except.ok.injEq, Prod.mk.injEq] at h
    obtain ⟨rfl, rfl, rfl⟩ := h
    have hk := rank_kind ((c :: r).takeWhile smallB)
    have hn := rank_good h0 List.all_takeWhile (by rw [List.takeWhile_cons, if_pos hc]; simp)
    refine ⟨by simp only; omega, fun _ => ⟨hn, rfl⟩, fun h => ?_, fun h => ?_, fun h => ?_⟩ <;> simp only at h <;> omega
   ·cases h
  ·split at h
   ·split at h
    ·rename_i h3
     simp only [Except.ok.injEq, Prod.mk.injEq] at h
     obtain ⟨rfl, rfl, rfl⟩ := h
     exact ⟨by simp, fun h => absurd h (by simp), fun h => absurd h (by simp), fun _ => ⟨h3, List.all_takeWhile⟩, fun h => absurd h (by simp)⟩
    ·cases h
   ·split at h
    ·split at h
     ·simp only [Except.ok.injEq, Prod.mk.injEq] at h
      obtain ⟨rfl, rfl, rfl⟩ := h
      exact ⟨by simp, fun h => absurd h (by simp), fun _ => List.all_takeWhile, fun h => absurd h (by simp), fun h => absurd h (by simp)⟩
     ·cases h
    ·split at h
     ·rename_i hc
      split at h
      ·simp only [Except.ok.injEq, Prod.mk.injEq] at h
       obtain ⟨rfl, rfl, rfl⟩ := h
       refine ⟨by simp, fun h => absurd h (by simp), fun h => absurd h (by simp), fun h => absurd h (by simp), fun _ => ?_⟩
       show signsL.contains _ = true
       rcases hc with rfl | rfl <;> rfl
      ·cases h
     ·split at h
      ·rename_i hc
       simp only [Except.ok.injEq, Prod.mk.injEq] at h
       obtain ⟨rfl, rfl, rfl⟩ := h
       refine ⟨by simp, fun h => absurd h (by simp), fun h => absurd h (by simp), fun h => absurd h (by simp), fun _ => ?_⟩
       simp at hc
       show signsL.contains _ = true
       rcases hc with rfl | rfl | rfl | rfl | rfl | rfl | rfl | rfl <;> rfl
      ·cases h
theorem scan_good_all : ∀ (f n k : Nat) (s : Txt) (l : List Tok), scanM f n k s = .ok l → ∀ t ∈ l, GoodT t
 | 0, n, k, s, l, h => by simp [scanM] at h
 | f + 1, n, k, s, l, h => by
  rw [scanM] at h
  split at h
  ·obtain rfl := Except.ok.inj h
   intro t ht; cases ht
  ·split at h
   ·cases h
   ·split at h
    ·cases h
    ·rename_i kd tx m ho
     split at h
     ·cases h
     ·rename_i l' hq
      obtain rfl := Except.ok.inj h
      have ih := scan_good_all f _ _ _ l' hq
      intro t ht
      rcases List.mem_cons.1 ht with rfl | ht
      ·exact one_good ho
      ·exact ih t ht
def GoodL (l : List Tok) : Prop := ∀ t ∈ l, GoodT t
theorem scan_goodL {s : Txt} {l : List Tok} (h : scanT s = .ok l) : GoodL l := scan_good_all _ _ _ _ _ h
theorem takeM_good {e : Nat} {p : Tok → Bool} {ts r : List Tok} {x : Txt} (h : takeM e p ts = .ok (x, r)) (hg : GoodL ts) : GoodL r ∧ ∃ t, GoodT t ∧ p t = true ∧ x = t.text := by
 obtain ⟨t, rfl, h1, h2⟩ := takeM_ok h
 exact ⟨fun u hu => hg u (by simp [hu]), t, hg t (by simp), h1, h2⟩
theorem numM_good {e : Nat} {lo hi x : Int} {ts r : List Tok} (h : numM e lo hi ts = .ok (x, r)) (hg : GoodL ts) : GoodL r ∧ lo ≤ x ∧ x ≤ hi := by
 unfold numM at h
 split at h
 ·cases h
 ·rename_i t r' ht
  split at h
  ·cases h
  ·simp only [Except.ok.injEq, Prod.mk.injEq] at h
   obtain ⟨rfl, rfl⟩ := h
   exact ⟨(takeM_good ht hg).1, by omega, by omega⟩
theorem named_good {t : Tok} (h : GoodT t) (hn : namedB t = true) : nameM t.text = true := by
 refine (h.name ?_).1
 unfold namedB at hn
 simp at hn
 omega
theorem atomM_good {e : Nat} {ts r : List Tok} {x : Rul} (h : atomM e ts = .ok (x, r)) (hg : GoodL ts) : GoodL r ∧ mayR x = true := by
 unfold atomM at h
 obtain ⟨f, t1, h1, h⟩ := bind_some h
 obtain ⟨o, t2, h2, h⟩ := bind_some h
 obtain ⟨g1, tf, gf, pf, rfl⟩ := takeM_good h1 hg
 obtain ⟨g2, _, _, _, rfl⟩ := takeM_good h2 g1
 have nf := named_good gf pf
 split at h
 ·split at h
  ·obtain ⟨_, t3, h3, h⟩ := bind_some h
   obtain ⟨_, t4, h4, h⟩ := bind_some h
   obtain ⟨_, t5, h5, h⟩ := bind_some h
   obtain ⟨g3, tp, gp, pp, rfl⟩ := takeM_good h3 g2
   obtain ⟨g4, _⟩ := takeM_good h4 g3
   obtain ⟨g5, tn, gn, pn, rfl⟩ := takeM_good h5 g4
   simp only [Except.ok.injEq, Prod.mk.injEq] at h
   obtain ⟨rfl, rfl⟩ := h
   have nn := named_good gn pn
   have hp : 0 ≤ paperI tp.text ∧ paperI tp.text < 6 := by
    unfold paperB at pp
    simp at pp
    refine ⟨pp.2, ?_⟩
    unfold paperI
    split <;> omega
   refine ⟨g5, ?_⟩
   rw [mayR, if_neg (by decide), if_neg (by decide), if_neg (by decide), if_neg (by decide), if_pos rfl]
   simp [nf, nn, hp]
  ·obtain ⟨_, t3, h3, h⟩ := bind_some h
   obtain ⟨g3, tx, gx, px, rfl⟩ := takeM_good h3 g2
   simp only [Except.ok.injEq, Prod.mk.injEq] at h
   obtain ⟨rfl, rfl⟩ := h
   have nx := gx.text (by simpa [kindB] using px)
   refine ⟨g3, ?_⟩
   rw [mayR, if_neg (by decide), if_neg (by decide), if_pos (by decide)]
   simp [nf, nx]
 ·split at h
  ·obtain ⟨_, t3, h3, h⟩ := bind_some h
   obtain ⟨g3, tx, gx, px, rfl⟩ := takeM_good h3 g2
   simp only [Except.ok.injEq, Prod.mk.injEq] at h
   obtain ⟨rfl, rfl⟩ := h
   have nx := gx.text (by simpa [kindB] using px)
   refine ⟨g3, ?_⟩
   rw [mayR, if_neg (by decide), if_neg (by decide), if_pos (by decide)]
   simp [nf, nx]
  ·split at h
   all_goals
    obtain ⟨nv, t3, h3, h⟩ := bind_some h
    obtain ⟨g3, hlo, hhi⟩ := numM_good h3 g2
    simp only [Except.ok.injEq, Prod.mk.injEq] at h
    obtain ⟨rfl, rfl⟩ := h
    refine ⟨g3, ?_⟩
    rw [mayR, if_neg (by decide), if_neg (by decide), if_neg (by decide), if_pos (by decide)]
    simp [nf, hlo, hhi]
def Wide (part : List Tok → Option (Res Rul)) : Prop := ∀ ts r ts', part ts = some (.ok (r, ts')) → GoodL ts → GoodL ts' ∧ (crowdR r = false → mayR r = true)
theorem parts_wide {part : List Tok → Option (Res Rul)} (sep : Txt) (h : Wide part) : ∀ (n : Nat) (ts : List Tok) (L : List Rul) (ts' : List Tok), partsP part sep n ts = some (.ok (L, ts')) → GoodL ts → GoodL ts' ∧ (crowdL L = false → mayL L = true) ∧ L ≠ []
 | 0, _, _, _, hp, _ => by simp [partsP] at hp
 | n + 1, ts, L, ts', hp, hg => by
  rw [partsP] at hp
  split at hp
  ·cases hp
  ·cases hp
  ·rename_i r t1 h1
   obtain ⟨g1, m1⟩ := h _ _ _ h1 hg
   split at hp
   ·split at hp
    ·cases hp
    ·cases hp
    ·rename_i l t2 h2
     simp only [Option.some.injEq, Except.ok.injEq, Prod.mk.injEq] at hp
     obtain ⟨rfl, rfl⟩ := hp
     obtain ⟨g2, m2, _⟩ := parts_wide sep h n _ _ _ h2 (fun u hu => g1 u (List.mem_of_mem_tail hu))
     refine ⟨g2, fun hc => ?_, by simp⟩
     rw [crowdL, Bool.or_eq_false_iff] at hc
     rw [mayL, m1 hc.1, m2 hc.2]; rfl
   ·simp only [Option.some.injEq, Except.ok.injEq, Prod.mk.injEq] at hp
    obtain ⟨rfl, rfl⟩ := hp
    refine ⟨g1, fun hc => ?_, by simp⟩
    rw [crowdL, Bool.or_eq_false_iff] at hc
    rw [mayL, m1 hc.1]; rfl
theorem row_wide {part : List Tok → Option (Res Rul)} {sep : Txt} {k : Int} (hk : k = 0 ∨ k = 1) (n : Nat) (h : Wide part) : Wide (rowP part sep k n) := by
 intro ts r ts' hr hg
 unfold rowP at hr
 split at hr
 ·cases hr
 ·cases hr
 ·rename_i L t1 h1
  simp only [Option.some.injEq, Except.ok.injEq, Prod.mk.injEq] at hr
  obtain ⟨rfl, rfl⟩ := hr
  obtain ⟨g1, m1, hne⟩ := parts_wide sep h n _ _ _ h1 hg
  refine ⟨g1, fun hc => ?_⟩
  match L, hne, hc with
  | [], hne, _ => exact absurd rfl hne
  | [r], _, hc =>
   have : crowdL [r] = false := by rw [crowdL, crowdL]; simpa [joinK] using hc
   have := m1 this
   rw [mayL, Bool.and_eq_true] at this
   exact this.1
  | r1 :: r2 :: L, _, hc =>
   rw [joinK] at hc ⊢
   ·rw [crowdR, Bool.or_eq_false_iff] at hc
    have h64 : ¬ 64 < (r1 :: r2 :: L).length := by simpa using hc.1
    rw [mayR, if_pos hk, m1 hc.2]
    simp only [List.length_cons] at h64 ⊢
    simp; omega
   ·intro r h; simp at h
   ·intro r h; simp at h
theorem one_wide (e : Nat) : ∀ n, Wide (oneP e n)
 | 0 => fun ts r ts' h _ => by simp [oneP] at h
 | n + 1 => fun ts r ts' h hg => by
  have ih := one_wide e n
  rw [oneP] at h
  have htl : GoodL ts.tail := fun u hu => hg u (List.mem_of_mem_tail hu)
  split at h
  ·split at h
   ·cases h
   ·cases h
   ·rename_i r1 t1 h1
    simp only [Option.some.injEq, Except.ok.injEq, Prod.mk.injEq] at h
    obtain ⟨rfl, rfl⟩ := h
    obtain ⟨g1, m1⟩ := ih _ _ _ h1 htl
    refine ⟨g1, fun hc => ?_⟩
    rw [crowdR, Bool.or_eq_false_iff, crowdL, Bool.or_eq_false_iff] at hc
    rw [mayR, if_neg (by decide), if_pos rfl, mayL, m1 hc.2.1]
    rfl
  ·split at h
   ·split at h
    ·cases h
    ·cases h
    ·rename_i r1 t1 h1
     simp only [Option.some.injEq] at h
     obtain ⟨_, t2, h2, h⟩ := bind_some h
     simp only [Except.ok.injEq, Prod.mk.injEq] at h
     obtain ⟨rfl, rfl⟩ := h
     obtain ⟨g1, m1⟩ := (row_wide (.inr rfl) n (row_wide (.inl rfl) n ih)) _ _ _ h1 htl
     exact ⟨(takeM_good h2 g1).1, m1⟩
   ·simp only [Option.some.injEq] at h
    obtain ⟨g1, m1⟩ := atomM_good h hg
    exact ⟨g1, fun _ => m1⟩
theorem rule_wide (e n : Nat) : Wide (ruleP e n) := row_wide (.inr rfl) n (row_wide (.inl rfl) n (one_wide e n))
theorem rule_may {e n : Nat} {ts ts' : List Tok} {r : Rul} (h : ruleP e n ts = some (.ok (r, ts'))) (hg : GoodL ts) : mayR r = !crowdR r := by
 cases hc : crowdR r with
 | false => rw [(rule_wide e n _ _ _ h hg).2 hc]; rfl
 | true =>
  cases hm : mayR r with
  | false => rfl
  | true => rw [may_crowd r hm] at hc; cases hc
end Go.Proofs.YtjkmhlfjheiekaaGreatDoor
namespace Go.Proofs
open Go
def Tryz.lays166_ren : Go.Shelf.Ren := ⟨fun | 166 => 79 | 240 => 126 | 276 => 151 | n => n, fun | 70 => 67 | 9 => 9 | 3 => 3 | 75 => 120 | 0 => 0 | 72 => 70 | 37 => 68 | 4 => 4 | 164 => 161 | 80 => 72 | 5 => 5 | n => n, fun | n => n⟩
theorem Tryz.lays166 : Go.Proofs.Lays.n166 Tryz.prog Tryz.lays166_ren := {
 mixed := by kernel_rfl
 f166 := Tryz.func79.trans (congrArg some (by kernel_rfl))
 f240 := Tryz.func126.trans (congrArg some (by kernel_rfl))
 f276 := Tryz.func151.trans (congrArg some (by kernel_rfl))
 t0 := Tryz.underlying0
 a0 := Tryz.isAgg0
 z0 := Tryz.sizeOf0
 v0 := Tryz.zeroValue0
 t3 := Tryz.underlying3
 a3 := Tryz.isAgg3
 z3 := Tryz.sizeOf3
 v3 := Tryz.zeroValue3
 t4 := Tryz.underlying4
 a4 := Tryz.isAgg4
 z4 := Tryz.sizeOf4
 v4 := Tryz.zeroValue4
 t9 := Tryz.underlying9
 a9 := Tryz.isAgg9
 z9 := Tryz.sizeOf9
 v9 := Tryz.zeroValue9
 t20 := Tryz.underlying20
 a20 := Tryz.isAgg20
 z20 := Tryz.sizeOf20
 v20 := Tryz.zeroValue20
 t37 := Tryz.underlying68
 a37 := Tryz.isAgg68
 z37 := Tryz.sizeOf68
 v37 := Tryz.zeroValue68
 t70 := Tryz.underlying67
 a70 := Tryz.isAgg67
 z70 := Tryz.sizeOf67
 v70 := Tryz.zeroValue67
 t72 := Tryz.underlying70
 a72 := Tryz.isAgg70
 z72 := Tryz.sizeOf70
 v72 := Tryz.zeroValue70
 t75 := Tryz.underlying120
 a75 := Tryz.isAgg120
 z75 := Tryz.sizeOf120
 v75 := Tryz.zeroValue120
 t164 := Tryz.underlying161
 a164 := Tryz.isAgg161
 z164 := Tryz.sizeOf161
 v164 := Tryz.zeroValue161 }
theorem Tryz.Builder_Extra_166 : Builder.Extra Tryz.prog Tryz.lays166_ren := {
 sizeBuilder := by kernel_rfl
 liesBuilder := by kernel_rfl
 t5 := Tryz.underlying5
 a5 := Tryz.isAgg5
 z5 := Tryz.sizeOf5
 v5 := Tryz.zeroValue5
 infoByte := by kernel_rfl
 cellsByte := by kernel_rfl
 sizeByte := by kernel_rfl
 neB5 := by decide }
open Go.RowKit in
theorem Tryz.Builder_WriteString_k (B b : Nat) (bs : List Value) (s : ByteArray) (w : World) (h : Lib.IsBuilderF 70 5 B b bs w) (hlen : bs.length + s.size ≤ 140737488355328) (hBw : B ≤ w.heap.size) :
  Calls Tryz.prog 79 #[.pointer (some ⟨b, 0, none⟩), .string s] w fun e w' => e = .returned (.tuple #[.int .i64 s.size, .nilIface]) ∧ (Lib.BuilderAtF 70 5 B b (.pointer (some ⟨b, 0, none⟩)) (bs ++ Lib.strCells s) w' ∧ Below B w w' ∧ Lib.OthersKept 5 (some b) w w') := Any.Builder_WriteString_k Tryz.lays166 Tryz.Builder_Extra_166 B b bs s w h hlen hBw
end Go.Proofs
namespace Go.Proofs.YtjkmhlfjheiekaaGreatDoor
open Go Go.RowKit Go.BigFrame Go.Maps
theorem run_all {s : ByteArray} {k : Nat} {r : Bool} {p : UInt8 → Bool} (hk : k < s.size) (h : r = (s.data.toList.drop k).all p) : r = (p s[k] && (s.data.toList.drop (k + 1)).all p) := by
 rw [h, drop_byte hk, List.all_cons]
set_option maxRecDepth 100000 in
theorem plain_nat (c : UInt8) : plainB c = (!decide ((c.toNat : Int) < 32) && !decide (126 < (c.toNat : Int)) && !((c.toNat : Int) == 34)) :=
 byte_all (P := fun c => plainB c = (!decide ((c.toNat : Int) < 32) && !decide (126 < (c.toNat : Int)) && !((c.toNat : Int) == 34))) (by decide) c
set_option maxRecDepth 100000 in
set_option maxHeartbeats 1600000 in
theorem isText_any (s : ByteArray) (w : World) (hs : s.size ≤ maxLen) : Calls Tryz.prog 76 #[.string s] w fun e w' => e = .returned (.bool (textM s.data.toList)) ∧ w = w' := by
 unfold maxLen at hs
 show Calls Tryz.prog 76 #[.string s] w fun e w' => e = .returned (.bool (s.data.toList.all plainB)) ∧ w = w'
 go_enter Tryz.func76, Tryz.ntmps76
 go_wp2_with fail
 go_loopg [3, 6] s.size (fun gg _ i wr => ∃ k : Nat, k ≤ s.size ∧ gg = s.size - k ∧ i = .int .i64 k ∧ w = wr ∧ Hid (s.data.toList.all plainB = (s.data.toList.drop k).all plainB))
 case atStart => exact ⟨0, Nat.zero_le _, by simp, rfl, rfl, rfl⟩
 case round =>
  obtain ⟨k, hk, hg, rfl, rfl, hall⟩ := hrel
  have hg' := hd9 hg
  clear hg
  by_cases hlt : k < s.size
  ·have hst := hd9 (run_all hlt hall.out)
   rw [plain_nat] at hst
   have i1 : (k : Int) < (s.size : Int) := by omega
   have i2 : (0 : Int) ≤ (k : Int) := by omega
   have i3 : decide ((k : Int) < (s.size : Int)) = true := by simp; omega
   cases h1 : decide ((s[k].toNat : Int) < 32) <;> cases h2 : decide (126 < (s[k].toNat : Int)) <;> cases h3 : ((s[k].toNat : Int) == 34)
   all_goals
    rw [h1, h2, h3] at hst
    go_wp2_with fail
    first
     | (go_roundg (s.size - (k + 1))
        case measure => have := hg'.out; omega
        case rel => exact ⟨k + 1, by omega, rfl, by go_num, rfl, by rw [hst.out]; first | rfl | simp⟩)
     | (go_ret
        exact ⟨by rw [hst.out]; rfl, rfl⟩)
  ·have hr : Hid (s.data.toList.all plainB = true) := by unfold Hid; rw [hall.out, List.drop_eq_nil_of_le (by simp; omega)]; rfl
   have i3 : decide ((k : Int) < (s.size : Int)) = false := by simp; omega
   go_wp2_with fail
   go_ret
   exact ⟨by rw [hr.out]; first | done | rfl, rfl⟩
theorem take_all {p : UInt8 → Bool} : ∀ {s : Txt}, s.all p = true → s.takeWhile p = s
 | [], _ => rfl
 | c :: r, h => by
  rw [List.all_cons, Bool.and_eq_true] at h
  rw [List.takeWhile_cons, if_pos h.1, take_all h.2]
theorem small_blank {c : UInt8} (h : smallB c = true) : blankB c = false := small_not_blank h
theorem scan_mark {s : Txt} (h : markB s = true) : scanT s = if (rankM s).2 = 0 then .ok [⟨(rankM s).1, 0, s⟩] else .error (0, (rankM s).2) := by
 unfold markB at h
 simp only [Bool.and_eq_true, decide_eq_true_eq] at h
 obtain ⟨⟨h1, _⟩, h3⟩ := h
 cases s with
 | nil => simp at h1
 | cons c r =>
  have hc : smallB c = true := by rw [List.all_cons, Bool.and_eq_true] at h3; exact h3.1
  have hb := small_blank hc
  have htw := take_all h3
  unfold scanT
  rw [List.length_cons, scanM, List.dropWhile_cons, List.takeWhile_cons, hb]
  simp only [Bool.false_eq_true, if_false, reduceCtorEq, List.length_nil, Nat.add_zero, Nat.zero_add]
  rw [if_neg (by omega), oneM, if_pos hc, htw]
  by_cases h0 : (rankM (c :: r)).2 = 0
  ·rw [if_pos h0, if_pos h0]
   simp only
   rw [List.drop_length, scanM]
   simp
  ·rw [if_neg h0, if_neg h0]
theorem mark_name {s : Txt} : nameM s = (markB s && decide ((rankM s).2 = 0)) := rfl
theorem rank_named (s : Txt) (p : Nat) : namedB ⟨(rankM s).1, p, s⟩ = true := named_nm s p
set_option maxRecDepth 100000 in
set_option maxHeartbeats 1600000 in
theorem isName_any (s : ByteArray) (w : World) (hs : s.size ≤ maxLen) (he : Hid (Env w)) : Calls Tryz.prog 75 #[.string s] w fun e w' => e = .returned (.bool (nameM s.data.toList)) ∧ Below w.heap.size w w' := by
 have hcall := hd9 (markName_any s w hs)
 have hsc := hd9 (scan_any s w hs he)
 have hnm := hd9 (mark_name (s := s.data.toList))
 cases hm : markB s.data.toList with
 | false =>
  rw [hm] at hcall hnm
  clear hsc
  go_enter Tryz.func75, Tryz.ntmps75
  go_wp2_with (go_at_call 124; refine hcall.out.mono ?_; rintro e w1 ⟨rfl, rfl⟩)
  go_ret
  exact ⟨by rw [hnm.out]; rfl, Below.refl _ _⟩
 | true =>
  have hsm := hd9 (scan_mark hm)
  rw [hm] at hcall hnm
  go_enter Tryz.func75, Tryz.ntmps75
  go_wp2_with fail
  refine hcall.out.mono ?_
  rintro e w1 ⟨rfl, rfl⟩
  clear hm hcall
  go_wp2_with fail
  refine hsc.out.mono ?_
  rintro e w1 ⟨hB, hcase⟩
  have hB' := hd9 hB
  rcases hcase with ⟨l, v, h1, rfl, hl, hown⟩ | ⟨k, cd, h1, hcd, rfl⟩
  ·rw [hsm.out] at h1
   have h0 : (rankM s.data.toList).2 = 0 := by
    by_cases h : (rankM s.data.toList).2 = 0
    ·exact h
    ·rw [if_neg h] at h1; cases h1
   rw [if_pos h0] at h1
   obtain rfl := Except.ok.inj h1
   obtain ⟨p, c, rfl⟩ := own_slice hown
   obtain ⟨g, off, rfl, hg, c0, c1, c2⟩ := tok_own (pb := 0) hown (by omega) 0 _ rfl
   rw [Nat.zero_mul, Nat.add_zero] at c0 c1 c2
   have hnd := hd9 (named_fits w1 w1 ⟨(rankM s.data.toList).1, 0, s.data.toList⟩ (Below.refl _ _))
   rw [rank_named] at hnd
   have hn1 : Hid (nameM s.data.toList = true) := by unfold Hid; rw [hnm.out, h0]; rfl
   obtain ⟨rk, hrk⟩ : ∃ r, Hid ((rankM s.data.toList).1 = r) := ⟨_, hd9 rfl⟩
   rw [hrk.out] at hnd c0
   clear hown h1 h0 hsm hsc hl hB hnm
   simp only at hnd c0 c1 c2
   go_wp2_with fail
   change Calls Tryz.prog 125 #[.agg #[.int .i64 rk, .int .i64 (0 : Nat), .string ⟨s.data.toList.toArray⟩]] w1 _
   refine Calls.mono (hnd.out) ?_
   rintro e w2 ⟨rfl, hB2⟩
   go_wp2_with fail
   go_ret
   exact ⟨by rw [hn1.out]; rfl, hB'.out.trans (hB2.mono hB'.out.size)⟩
  ·have h0 : ¬ (rankM s.data.toList).2 = 0 := fun h => by rw [hsm.out, if_pos h] at h1; cases h1
   have hn1 : Hid (nameM s.data.toList = false) := by unfold Hid; rw [hnm.out, decide_eq_false h0]; rfl
   have b1 : (cd == 0) = false := by simp [hcd]
   clear h1 h0 hsm hsc hB hnm
   go_wp2_with fail
   go_ret
   exact ⟨by rw [hn1.out]; rfl, hB'.out⟩
set_option maxHeartbeats 400000 in
theorem isPaper_any (p : Int) (w : World) : Calls Tryz.prog 77 #[.int .i64 p] w fun e w' => e = .returned (.bool (decide (0 ≤ p) && decide (p < 6))) ∧ w = w' := by
 cases h1 : decide (0 ≤ p) <;> cases h2 : decide (p < 6)
 all_goals
  go_enter Tryz.func77, Tryz.ntmps77
  go_wp2_with fail
  go_ret
  exact ⟨rfl, rfl⟩
end Go.Proofs.YtjkmhlfjheiekaaGreatDoor

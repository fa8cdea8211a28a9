/- What is scanned is as tokens must be; what is read of it may be, if it isn't too wide. Plain. -/
import Derived.Test.YtjkmhlfjheiekaaGreatDoorX
import Derived.Test.YtjkmhlfjheiekaaGreatDoorY
import Derived.Test.YtjkmhlfjheiekaaGreatDoorC
namespace Go.Proofs.YtjkmhlfjheiekaaGreatDoor
open Go Go.RowKit

def signsL : List Txt := [[40], [41], [44], [59], [58], [46], [61], [126], [60, 61], [62, 61]]
/-- A token as Scan makes it. -/
structure GoodT (t : Tok) : Prop where
  kind : 0 ≤ t.kind ∧ t.kind ≤ 5
  name : t.kind ≤ 2 → nameM t.text = true ∧ (rankM t.text).1 = t.kind
  text : t.kind = 3 → textM t.text = true
  code : t.kind = 4 → t.text.length = 3 ∧ t.text.all largeB = true
  sign : t.kind = 5 → signsL.contains t.text = true
theorem fold_big : ∀ (t : Txt) (a : Nat), a * 10 ^ t.length ≤ foldV a t
  | [], a => by simp [foldV]
  | c :: r, a => by
    have := fold_big r (10 * a + (c.toNat - 48))
    have h2 : foldV a (c :: r) = foldV (10 * a + (c.toNat - 48)) r := rfl
    rw [h2, List.length_cons, Nat.pow_succ]
    refine Nat.le_trans ?_ this
    have : a * (10 ^ r.length * 10) = (10 * a) * 10 ^ r.length := by rw [Nat.mul_comm (10 ^ r.length), ← Nat.mul_assoc, Nat.mul_comm a]
    rw [this]
    exact Nat.mul_le_mul_right _ (by omega)
set_option maxRecDepth 100000 in
theorem digit_nought : ∀ c : UInt8, digitB c = true → c ≠ 48 → 1 ≤ c.toNat - 48 :=
  byte_all (P := fun c => digitB c = true → c ≠ 48 → 1 ≤ c.toNat - 48) (by decide)
theorem num_short {t : Txt} (hd : t.all digitB = true) (h1 : ¬ (1 < t.length ∧ t.head? = some 48)) (hm : numV t ≤ mostN) : t.length ≤ 16 := by
  cases t with
  | nil => simp
  | cons c r =>
    by_cases hr : r = []
    · rw [hr]; simp
    · have hc : c ≠ 48 := fun h => h1 ⟨by cases r with | nil => exact absurd rfl hr | cons => simp, by rw [h]; rfl⟩
      rw [List.all_cons, Bool.and_eq_true] at hd
      have hg := digit_nought c hd.1 hc
      have hf : numV (c :: r) = foldV (10 * 0 + (c.toNat - 48)) r := rfl
      have hb := fold_big r (10 * 0 + (c.toNat - 48))
      rw [← hf] at hb
      unfold mostN at hm
      by_cases hl : r.length ≤ 15
      · simp; omega
      · exfalso
        have h10 : 10 ^ 13 ≤ 10 ^ r.length := Nat.pow_le_pow_right (by omega) (by omega)
        have h11 : 1 * 10 ^ r.length ≤ (10 * 0 + (c.toNat - 48)) * 10 ^ r.length := Nat.mul_le_mul_right _ (by omega)
        omega
theorem word_short : ∀ t : Txt, wordsL.contains t = true → t.length ≤ 16 := by
  intro t ht
  have h : wordsL.all (fun t => decide (t.length ≤ 16)) = true := by decide
  have := List.all_eq_true.1 h t (by simpa using ht)
  simpa using this
theorem rank_good {t : Txt} (h0 : (rankM t).2 = 0) (hs : t.all smallB = true) (hne : t ≠ []) : nameM t = true := by
  have h1 : 1 ≤ t.length := by cases t with | nil => exact absurd rfl hne | cons => simp
  have h16 : t.length ≤ 16 := by
    unfold rankM at h0
    split at h0
    · rename_i hd
      simp only at h0
      split at h0
      · exact absurd h0 (by decide)
      · rename_i h
        split at h0
        · exact absurd h0 (by decide)
        · exact num_short hd h (by omega)
    · split at h0
      · rename_i hw; exact word_short t hw
      · simp only at h0
        split at h0
        · assumption
        · exact absurd h0 (by decide)
  unfold nameM
  simp [h1, h16, hs, h0]
theorem one_good {s t : Txt} {kd : Int} {m p : Nat} (h : oneM s = .ok (kd, t, m)) : GoodT ⟨kd, p, t⟩ := by
  cases s with
  | nil => simp [oneM] at h
  | cons c r =>
    rw [oneM] at h
    split at h
    · rename_i hc
      split at h
      · rename_i h0
        simp only [Except.ok.injEq, Prod.mk.injEq] at h
        obtain ⟨rfl, rfl, rfl⟩ := h
        have hk := rank_kind ((c :: r).takeWhile smallB)
        have hn := rank_good h0 List.all_takeWhile (by rw [List.takeWhile_cons, if_pos hc]; simp)
        refine ⟨by simp only; omega, fun _ => ⟨hn, rfl⟩, fun h => ?_, fun h => ?_, fun h => ?_⟩ <;> simp only at h <;> omega
      · cases h
    · split at h
      · split at h
        · rename_i h3
          simp only [Except.ok.injEq, Prod.mk.injEq] at h
          obtain ⟨rfl, rfl, rfl⟩ := h
          exact ⟨by simp, fun h => absurd h (by simp), fun h => absurd h (by simp), fun _ => ⟨h3, List.all_takeWhile⟩, fun h => absurd h (by simp)⟩
        · cases h
      · split at h
        · split at h
          · simp only [Except.ok.injEq, Prod.mk.injEq] at h
            obtain ⟨rfl, rfl, rfl⟩ := h
            exact ⟨by simp, fun h => absurd h (by simp), fun _ => List.all_takeWhile, fun h => absurd h (by simp), fun h => absurd h (by simp)⟩
          · cases h
        · split at h
          · rename_i hc
            split at h
            · simp only [Except.ok.injEq, Prod.mk.injEq] at h
              obtain ⟨rfl, rfl, rfl⟩ := h
              refine ⟨by simp, fun h => absurd h (by simp), fun h => absurd h (by simp), fun h => absurd h (by simp), fun _ => ?_⟩
              show signsL.contains _ = true
              rcases hc with rfl | rfl <;> rfl
            · cases h
          · split at h
            · rename_i hc
              simp only [Except.ok.injEq, Prod.mk.injEq] at h
              obtain ⟨rfl, rfl, rfl⟩ := h
              refine ⟨by simp, fun h => absurd h (by simp), fun h => absurd h (by simp), fun h => absurd h (by simp), fun _ => ?_⟩
              simp at hc
              show signsL.contains _ = true
              rcases hc with rfl | rfl | rfl | rfl | rfl | rfl | rfl | rfl <;> rfl
            · cases h
theorem scan_good_all : ∀ (f n k : Nat) (s : Txt) (l : List Tok), scanM f n k s = .ok l → ∀ t ∈ l, GoodT t
  | 0, n, k, s, l, h => by simp [scanM] at h
  | f + 1, n, k, s, l, h => by
    rw [scanM] at h
    split at h
    · obtain rfl := Except.ok.inj h
      intro t ht; cases ht
    · split at h
      · cases h
      · split at h
        · cases h
        · rename_i kd tx m ho
          split at h
          · cases h
          · rename_i l' hq
            obtain rfl := Except.ok.inj h
            have ih := scan_good_all f _ _ _ l' hq
            intro t ht
            rcases List.mem_cons.1 ht with rfl | ht
            · exact one_good ho
            · exact ih t ht
def GoodL (l : List Tok) : Prop := ∀ t ∈ l, GoodT t
theorem scan_goodL {s : Txt} {l : List Tok} (h : scanT s = .ok l) : GoodL l := scan_good_all _ _ _ _ _ h
theorem takeM_good {e : Nat} {p : Tok → Bool} {ts r : List Tok} {x : Txt} (h : takeM e p ts = .ok (x, r)) (hg : GoodL ts) : GoodL r ∧ ∃ t, GoodT t ∧ p t = true ∧ x = t.text := by
  obtain ⟨t, rfl, h1, h2⟩ := takeM_ok h
  exact ⟨fun u hu => hg u (by simp [hu]), t, hg t (by simp), h1, h2⟩
theorem numM_good {e : Nat} {lo hi x : Int} {ts r : List Tok} (h : numM e lo hi ts = .ok (x, r)) (hg : GoodL ts) : GoodL r ∧ lo ≤ x ∧ x ≤ hi := by
  unfold numM at h
  split at h
  · cases h
  · rename_i t r' ht
    split at h
    · cases h
    · simp only [Except.ok.injEq, Prod.mk.injEq] at h
      obtain ⟨rfl, rfl⟩ := h
      exact ⟨(takeM_good ht hg).1, by omega, by omega⟩
theorem named_good {t : Tok} (h : GoodT t) (hn : namedB t = true) : nameM t.text = true := by
  refine (h.name ?_).1
  unfold namedB at hn
  simp at hn
  omega
theorem atomM_good {e : Nat} {ts r : List Tok} {x : Rul} (h : atomM e ts = .ok (x, r)) (hg : GoodL ts) : GoodL r ∧ mayR x = true := by
  unfold atomM at h
  obtain ⟨f, t1, h1, h⟩ := bind_some h
  obtain ⟨o, t2, h2, h⟩ := bind_some h
  obtain ⟨g1, tf, gf, pf, rfl⟩ := takeM_good h1 hg
  obtain ⟨g2, _, _, _, rfl⟩ := takeM_good h2 g1
  have nf := named_good gf pf
  split at h
  · split at h
    · obtain ⟨_, t3, h3, h⟩ := bind_some h
      obtain ⟨_, t4, h4, h⟩ := bind_some h
      obtain ⟨_, t5, h5, h⟩ := bind_some h
      obtain ⟨g3, tp, gp, pp, rfl⟩ := takeM_good h3 g2
      obtain ⟨g4, _⟩ := takeM_good h4 g3
      obtain ⟨g5, tn, gn, pn, rfl⟩ := takeM_good h5 g4
      simp only [Except.ok.injEq, Prod.mk.injEq] at h
      obtain ⟨rfl, rfl⟩ := h
      have nn := named_good gn pn
      have hp : 0 ≤ paperI tp.text ∧ paperI tp.text < 6 := by
        unfold paperB at pp
        simp at pp
        refine ⟨pp.2, ?_⟩
        unfold paperI
        split <;> omega
      refine ⟨g5, ?_⟩
      rw [mayR, if_neg (by decide), if_neg (by decide), if_neg (by decide), if_neg (by decide), if_pos rfl]
      simp [nf, nn, hp]
    · obtain ⟨_, t3, h3, h⟩ := bind_some h
      obtain ⟨g3, tx, gx, px, rfl⟩ := takeM_good h3 g2
      simp only [Except.ok.injEq, Prod.mk.injEq] at h
      obtain ⟨rfl, rfl⟩ := h
      have nx := gx.text (by simpa [kindB] using px)
      refine ⟨g3, ?_⟩
      rw [mayR, if_neg (by decide), if_neg (by decide), if_pos (by decide)]
      simp [nf, nx]
  · split at h
    · obtain ⟨_, t3, h3, h⟩ := bind_some h
      obtain ⟨g3, tx, gx, px, rfl⟩ := takeM_good h3 g2
      simp only [Except.ok.injEq, Prod.mk.injEq] at h
      obtain ⟨rfl, rfl⟩ := h
      have nx := gx.text (by simpa [kindB] using px)
      refine ⟨g3, ?_⟩
      rw [mayR, if_neg (by decide), if_neg (by decide), if_pos (by decide)]
      simp [nf, nx]
    · split at h
      all_goals
        obtain ⟨nv, t3, h3, h⟩ := bind_some h
        obtain ⟨g3, hlo, hhi⟩ := numM_good h3 g2
        simp only [Except.ok.injEq, Prod.mk.injEq] at h
        obtain ⟨rfl, rfl⟩ := h
        refine ⟨g3, ?_⟩
        rw [mayR, if_neg (by decide), if_neg (by decide), if_neg (by decide), if_pos (by decide)]
        simp [nf, hlo, hhi]
/-- What is read may be, if it isn't too wide. -/
def Wide (part : List Tok → Option (Res Rul)) : Prop := ∀ ts r ts', part ts = some (.ok (r, ts')) → GoodL ts → GoodL ts' ∧ (crowdR r = false → mayR r = true)
theorem parts_wide {part : List Tok → Option (Res Rul)} (sep : Txt) (h : Wide part) : ∀ (n : Nat) (ts : List Tok) (L : List Rul) (ts' : List Tok), partsP part sep n ts = some (.ok (L, ts')) → GoodL ts → GoodL ts' ∧ (crowdL L = false → mayL L = true) ∧ L ≠ []
  | 0, _, _, _, hp, _ => by simp [partsP] at hp
  | n + 1, ts, L, ts', hp, hg => by
    rw [partsP] at hp
    split at hp
    · cases hp
    · cases hp
    · rename_i r t1 h1
      obtain ⟨g1, m1⟩ := h _ _ _ h1 hg
      split at hp
      · split at hp
        · cases hp
        · cases hp
        · rename_i l t2 h2
          simp only [Option.some.injEq, Except.ok.injEq, Prod.mk.injEq] at hp
          obtain ⟨rfl, rfl⟩ := hp
          obtain ⟨g2, m2, _⟩ := parts_wide sep h n _ _ _ h2 (fun u hu => g1 u (List.mem_of_mem_tail hu))
          refine ⟨g2, fun hc => ?_, by simp⟩
          rw [crowdL, Bool.or_eq_false_iff] at hc
          rw [mayL, m1 hc.1, m2 hc.2]; rfl
      · simp only [Option.some.injEq, Except.ok.injEq, Prod.mk.injEq] at hp
        obtain ⟨rfl, rfl⟩ := hp
        refine ⟨g1, fun hc => ?_, by simp⟩
        rw [crowdL, Bool.or_eq_false_iff] at hc
        rw [mayL, m1 hc.1]; rfl
theorem row_wide {part : List Tok → Option (Res Rul)} {sep : Txt} {k : Int} (hk : k = 0 ∨ k = 1) (n : Nat) (h : Wide part) : Wide (rowP part sep k n) := by
  intro ts r ts' hr hg
  unfold rowP at hr
  split at hr
  · cases hr
  · cases hr
  · rename_i L t1 h1
    simp only [Option.some.injEq, Except.ok.injEq, Prod.mk.injEq] at hr
    obtain ⟨rfl, rfl⟩ := hr
    obtain ⟨g1, m1, hne⟩ := parts_wide sep h n _ _ _ h1 hg
    refine ⟨g1, fun hc => ?_⟩
    match L, hne, hc with
    | [], hne, _ => exact absurd rfl hne
    | [r], _, hc =>
      have : crowdL [r] = false := by rw [crowdL, crowdL]; simpa [joinK] using hc
      have := m1 this
      rw [mayL, Bool.and_eq_true] at this
      exact this.1
    | r1 :: r2 :: L, _, hc =>
      rw [joinK] at hc ⊢
      · rw [crowdR, Bool.or_eq_false_iff] at hc
        have h64 : ¬ 64 < (r1 :: r2 :: L).length := by simpa using hc.1
        rw [mayR, if_pos hk, m1 hc.2]
        simp only [List.length_cons] at h64 ⊢
        simp; omega
      · intro r h; simp at h
      · intro r h; simp at h
theorem one_wide (e : Nat) : ∀ n, Wide (oneP e n)
  | 0 => fun ts r ts' h _ => by simp [oneP] at h
  | n + 1 => fun ts r ts' h hg => by
    have ih := one_wide e n
    rw [oneP] at h
    have htl : GoodL ts.tail := fun u hu => hg u (List.mem_of_mem_tail hu)
    split at h
    · split at h
      · cases h
      · cases h
      · rename_i r1 t1 h1
        simp only [Option.some.injEq, Except.ok.injEq, Prod.mk.injEq] at h
        obtain ⟨rfl, rfl⟩ := h
        obtain ⟨g1, m1⟩ := ih _ _ _ h1 htl
        refine ⟨g1, fun hc => ?_⟩
        rw [crowdR, Bool.or_eq_false_iff, crowdL, Bool.or_eq_false_iff] at hc
        rw [mayR, if_neg (by decide), if_pos rfl, mayL, m1 hc.2.1]
        rfl
    · split at h
      · split at h
        · cases h
        · cases h
        · rename_i r1 t1 h1
          simp only [Option.some.injEq] at h
          obtain ⟨_, t2, h2, h⟩ := bind_some h
          simp only [Except.ok.injEq, Prod.mk.injEq] at h
          obtain ⟨rfl, rfl⟩ := h
          obtain ⟨g1, m1⟩ := (row_wide (.inr rfl) n (row_wide (.inl rfl) n ih)) _ _ _ h1 htl
          exact ⟨(takeM_good h2 g1).1, m1⟩
      · simp only [Option.some.injEq] at h
        obtain ⟨g1, m1⟩ := atomM_good h hg
        exact ⟨g1, fun _ => m1⟩
theorem rule_wide (e n : Nat) : Wide (ruleP e n) := row_wide (.inr rfl) n (row_wide (.inl rfl) n (one_wide e n))
/-- A rule that is read may be just if it isn't too wide. -/
theorem rule_may {e n : Nat} {ts ts' : List Tok} {r : Rul} (h : ruleP e n ts = some (.ok (r, ts'))) (hg : GoodL ts) : mayR r = !crowdR r := by
  cases hc : crowdR r with
  | false => rw [(rule_wide e n _ _ _ h hg).2 hc]; rfl
  | true =>
    cases hm : mayR r with
    | false => rfl
    | true => rw [may_crowd r hm] at hc; cases hc
end Go.Proofs.YtjkmhlfjheiekaaGreatDoor

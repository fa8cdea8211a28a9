/- A part's closures, whichever part; texts split and cut at one byte. -/
import Derived.Test.YtheiogafjinihaaDoorLw
import Derived.Test.YtheiogafjinihaaDoorL
namespace Go.Proofs.YtheiogafjinihaaDoor
open Go Go.RowKit Go.BigFrame Go.Maps

def gShow : Prt → Nat
  | .party => 32
  | .deal => 35
  | .act => 37
  | .num => 40
  | .cnt => 40
def gRead : Prt → Nat
  | .party => 34
  | .deal => 36
  | .act => 38
  | .num => 43
  | .cnt => 43
def capP (g1 g2 : Nat) : Prt → Array Value
  | .num => #[pO g1]
  | .cnt => #[pO g2]
  | _ => #[]
theorem partV_eq (g1 g2 : Nat) (p : Prt) : partV g1 g2 p = [.func (.func (gShow p)) #[] (capP g1 g2 p), .func (.func (gRead p)) #[] (capP g1 g2 p)] := by cases p <;> rfl
theorem enters_show (p : Prt) : ∀ (args : Array Value) (w : World), (callFunc (gShow p) args).run Tryd.prog w = .ok (.enter (gShow p) args) w := by
  cases p
  · exact enters_of Tryd.func32 (by kernel_rfl) rfl
  · exact enters_of Tryd.func35 (by kernel_rfl) rfl
  · exact enters_of Tryd.func37 (by kernel_rfl) rfl
  · exact enters_of Tryd.func40 (by kernel_rfl) rfl
  · exact enters_of Tryd.func40 (by kernel_rfl) rfl
theorem enters_read (p : Prt) : ∀ (args : Array Value) (w : World), (callFunc (gRead p) args).run Tryd.prog w = .ok (.enter (gRead p) args) w := by
  cases p
  · exact enters_of Tryd.func34 (by kernel_rfl) rfl
  · exact enters_of Tryd.func36 (by kernel_rfl) rfl
  · exact enters_of Tryd.func38 (by kernel_rfl) rfl
  · exact enters_of Tryd.func43 (by kernel_rfl) rfl
  · exact enters_of Tryd.func43 (by kernel_rfl) rfl
theorem enters_n : ∀ (args : Array Value) (w : World), (callFunc 45 args).run Tryd.prog w = .ok (.enter 45 args) w := enters_of Tryd.func45 (by kernel_rfl) rfl
theorem enters_an : ∀ (args : Array Value) (w : World), (callFunc 46 args).run Tryd.prog w = .ok (.enter 46 args) w := enters_of Tryd.func46 (by kernel_rfl) rfl
/-- The two counts' functions in memory. -/
structure Gs (w : World) (g1 g2 : Nat) : Prop where
  n : Blk w g1 105 #[fnV 45]
  an : Blk w g2 105 #[fnV 46]
theorem Gs.below {w w' : World} {g1 g2 : Nat} (h : Gs w g1 g2) (hb : Below w.heap.size w w') : Gs w' g1 g2 := ⟨h.n.below hb h.n.lt, h.an.below hb h.an.lt⟩
theorem Gs.but {w w' : World} {g1 g2 z : Nat} (h : Gs w g1 g2) (hb : But z w w') (h1 : g1 ≠ z) (h2 : g2 ≠ z) : Gs w' g1 g2 := ⟨h.n.but hb h1, h.an.but hb h2⟩
/-- A step that a memory may hold. -/
structure Fine (x : Stp) : Prop where
  party : x.party.length ≤ 140737488355328
  deal : x.deal.length ≤ 140737488355328
  n0 : -9223372036854775808 ≤ x.n
  n1 : x.n ≤ 9223372036854775807
  an0 : -9223372036854775808 ≤ x.an
  an1 : x.an ≤ 9223372036854775807
theorem show_any (p : Prt) (x : Stp) (w : World) (he : Env w) (hx : Fine x) (g1 g2 : Nat) (hg : Gs w g1 g2) :
    Calls Tryd.prog (gShow p) (#[.agg x.cells] ++ capP g1 g2 p) w fun e w' => e = .returned (.tuple #[.string ⟨(showP x p).1.toArray⟩, .bool (showP x p).2]) ∧ Below w.heap.size w w' := by
  cases p
  · exact show_party x w (by have := hx.party; unfold maxLen; omega)
  · exact show_deal x w (by have := hx.deal; unfold maxLen; omega)
  · exact show_act x w he
  · exact show_count _ 1 g1 enters_n picks_n x x.n rfl w he hx.n0 hx.n1 hg.n
  · exact show_count _ 4 g2 enters_an picks_an x x.an rfl w he hx.an0 hx.an1 hg.an
theorem readsAt_n {b : Nat} {y : Stp} {w w' : World} {u : List UInt8} {e : Ending} (h : ReadsAt b 1 y.cells w u e w') : ReadsTo b w (readP y u .num) e w' := by
  obtain ⟨v, rfl, hb, hx, hB⟩ := h
  refine ⟨{ y with n := v }, ?_, hb, ?_, hB⟩
  · simp [readP]
  · intro x h
    simp only [readP] at h
    obtain ⟨v', h1, rfl⟩ := Option.map_eq_some_iff.1 h
    rw [hx v' h1]
theorem readsAt_an {b : Nat} {y : Stp} {w w' : World} {u : List UInt8} {e : Ending} (h : ReadsAt b 4 y.cells w u e w') : ReadsTo b w (readP y u .cnt) e w' := by
  obtain ⟨v, rfl, hb, hx, hB⟩ := h
  refine ⟨{ y with an := v }, ?_, hb, ?_, hB⟩
  · simp [readP]
  · intro x h
    simp only [readP] at h
    obtain ⟨v', h1, rfl⟩ := Option.map_eq_some_iff.1 h
    rw [hx v' h1]
theorem read_any (p : Prt) (y : Stp) (u : List UInt8) (b : Nat) (w : World) (he : Env w) (hb : Blk w b 49 y.cells) (h9 : 9 ≤ b) (hu : u.length < 4294967281) (g1 g2 : Nat) (hg : Gs w g1 g2) :
    Calls Tryd.prog (gRead p) (#[pO b, .string ⟨u.toArray⟩] ++ capP g1 g2 p) w (ReadsTo b w (readP y u p)) := by
  have hm : u.length ≤ maxLen := by unfold maxLen; omega
  cases p
  · exact read_party y u b w hb hm
  · exact read_deal y u b w hb hm
  · exact read_act y u b w hb he
  · exact (read_count _ 1 g1 enters_n picks_n y.cells y.n rfl u b w hb h9 he (by omega) hg.n).mono fun _ _ h => readsAt_n h
  · exact (read_count _ 4 g2 enters_an picks_an y.cells y.an rfl u b w hb h9 he (by omega) hg.an).mono fun _ _ h => readsAt_an h

theorem mk_inj {a : ByteArray} {l : List UInt8} (h : a.data.toList = l) : a = ⟨l.toArray⟩ := by subst h; cases a; simp
theorem splitB_words (s : List UInt8) (c : UInt8) : Lib.splitB ⟨#[c]⟩ 0 (Lib.countB ⟨s.toArray⟩ ⟨#[c]⟩) ⟨s.toArray⟩ = (wordsL c s).map fun l => (⟨l.toArray⟩ : ByteArray) := by
  have h1 := Lib.splitB_data ⟨#[c]⟩ 0 (Lib.countB ⟨s.toArray⟩ ⟨#[c]⟩) ⟨s.toArray⟩
  have h2 : Lib.countB ⟨s.toArray⟩ ⟨#[c]⟩ = s.count c := by
    show Lib.count s [c] = _
    rw [Lib.count_one]
  rw [h2] at h1 ⊢
  have h3 : (Lib.splitB ⟨#[c]⟩ 0 (s.count c) ⟨s.toArray⟩).map (·.data.toList) = wordsL c s := by
    rw [h1]
    exact splitK_words c _ s rfl
  rw [← h3, List.map_map]
  conv => lhs; rw [← List.map_id (Lib.splitB ⟨#[c]⟩ 0 (s.count c) ⟨s.toArray⟩)]
  apply List.map_congr_left
  intro a _
  exact mk_inj rfl
/-- Words as they lie. -/
def wcells (ws : List (List UInt8)) : Array Value := (ws.map fun l => Value.string ⟨l.toArray⟩).toArray
theorem wcells_get {ws : List (List UInt8)} {k : Nat} {u : List UInt8} (h : ws[k]? = some u) : (wcells ws)[k]? = some (.string ⟨u.toArray⟩) := by
  simp [wcells, h]
theorem split_any (s : List UInt8) (w : World) (he : Env w) (hs : s.length < 4294967281) :
    Calls Tryd.prog 47 #[.string ⟨s.toArray⟩, .string ⟨#[32]⟩] w fun e w' => e = .returned (.slice (some ⟨w.heap.size, 0, none⟩) (wordsL 32 s).length (wordsL 32 s).length) ∧ w.alloc (.cells (wcells (wordsL 32 s)) 9) = w' := by
  obtain ⟨m, hm⟩ := he.most
  have hl : Lib.countB ⟨s.toArray⟩ ⟨#[32]⟩ + 1 = (wordsL 32 s).length := by
    have h1 := Lib.splitB_all ⟨#[32]⟩ (by decide) 0 _ ⟨s.toArray⟩ rfl
    rw [splitB_words, List.length_map] at h1
    exact h1.symm
  refine (Tryd.strings_Split ⟨s.toArray⟩ ⟨#[32]⟩ m w (by rw [size_list]; exact hs) hm (by decide)).mono ?_
  rintro e w' ⟨rfl, rfl⟩
  rw [hl, splitB_words, List.map_map]
  exact ⟨rfl, rfl⟩
theorem cut_yes {l r : List UInt8} (h : (10 : UInt8) ∉ l) : Lib.cut (l ++ 10 :: r) [10] = (l, r, true) := by
  unfold Lib.cut
  rw [index_one_some h, if_pos (by omega)]
  have e : ((l.length : Int)).toNat = l.length := by omega
  rw [e, List.take_left, List.length_singleton, show l ++ 10 :: r = (l ++ [10]) ++ r by simp, show l.length + 1 = (l ++ [(10 : UInt8)]).length by simp, List.drop_left]
theorem cut_no {s : List UInt8} (h : (10 : UInt8) ∉ s) : Lib.cut s [10] = (s, [], false) := by
  unfold Lib.cut
  rw [index_one_none h, if_neg (by omega)]
theorem cut_any (s l r : List UInt8) (f : Bool) (hc : Lib.cut s [10] = (l, r, f)) (w : World) (he : Env w) (hs : s.length < 4294967281) :
    Calls Tryd.prog 27 #[.string ⟨s.toArray⟩, .string ⟨#[10]⟩] w fun e w' => e = .returned (.tuple #[.string ⟨l.toArray⟩, .string ⟨r.toArray⟩, .bool f]) ∧ Below w.heap.size w w' := by
  obtain ⟨m, hm⟩ := he.most
  refine (Tryd.strings_Cut ⟨s.toArray⟩ ⟨#[10]⟩ m w (by rw [size_list]; exact hs) hm).mono ?_
  rintro e w' ⟨rfl, n, rfl⟩
  have e1 : (⟨s.toArray⟩ : ByteArray).data.toList = s := by simp
  have e2 : (⟨#[10]⟩ : ByteArray).data.toList = [10] := rfl
  rw [e1, e2, hc]
  refine ⟨rfl, rfl, rfl, rfl, Nat.le_refl _, fun _ _ => rfl⟩
end Go.Proofs.YtheiogafjinihaaDoor

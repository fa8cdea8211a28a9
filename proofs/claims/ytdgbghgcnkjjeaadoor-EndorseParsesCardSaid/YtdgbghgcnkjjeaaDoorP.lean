/- The walk of Parse. -/
import Derived.Test.YtdgbghgcnkjjeaaDoorS
namespace Go.Proofs.YtdgbghgcnkjjeaaDoor
open Go.RowKit Go.BigFrame

theorem blk_reads {w : World} {g : Nat} {t : TypeId} {cs : Array Value} (h : Blk w g t cs) (size n : Nat) (hs : cs.size = n * size) : Reads w w.heap.size size (some ⟨g, 0, none⟩) n cs.toList := by
  refine ⟨by simpa using hs, fun _ => ⟨_, rfl, h.lt, fun j u hj => ?_⟩⟩
  have hadd : Addr.add ⟨g, 0, none⟩ j = ⟨g, j, none⟩ := by unfold Addr.add; split <;> simp_all
  rw [hadd, h.cell]; simpa using hj
section
variable {P : Program} {ops : Array Oper} {o : Oper} {rest : List Oper} {a : Act} {W : World} {Q : Exit → Act → World → Prop}
theorem wpList_app2 (B : Nat) (hgd : o.guard = none) (s x : Operand) (t : TypeId) (ho : o.op = .call { callee := .builtin .append, args := #[s, x], argTypes := #[t, t] })
    (e : TypeId) (i : TypeInfo) (z : Value) (size bytes : Nat) (ht : P.underlying t = some (.slice e)) (hi : P.info? e = some i) (hz : i.zero = some z)
    (hsize : i.size = size) (hby : i.bytes = bytes) (hzs : z.cells.size = size) (hsz : 0 < size)
    (v : Value) (m : Nat) (xs : List Value) (hs : a.eval s = v) (g c : Nat) (cs : Array Value) (hx : a.eval x = .slice (some ⟨g, 0, none⟩) 1 c)
    (hv : W.ownsRow B e size v m xs) (hg : Blk W g e cs) (hcs : cs.size = size) (h1 : ∀ u ∈ cs.toList, u.oneCell' = true) (h63 : m + 1 ≤ maxLen) (hbytes : (m + 1) * bytes ≤ 140737488355328) (hB : B ≤ W.heap.size)
    (h : ∀ v' w', w'.ownsRow B e size v' (m + 1) (xs ++ cs.toList) → Below B W w' → wpList P ops Q rest (a.put o.dst v') w') : wpList P ops Q (o :: rest) a W := by
  refine wpList_append_any _ hgd s x t ho B e i z size bytes ht hi hz hsize hby hzs hsz v m xs hs hv W.heap.size _ 1 c cs.toList hx (blk_reads hg size 1 (by omega)) h1 h63 hbytes hB ?_
  intro v' w' ho' hgr hvb
  refine h v' w' ho' ((Below.refl _ _).grown hgr hB (fun k hk => ?_))
  rcases hv.2 with ⟨rfl, _⟩ | ⟨g', cap, cur, rfl, hgb, _⟩
  · simp [Value.ownBlock] at hk
  · simp [Value.ownBlock] at hk; omega
end

def parseLoop : Nat → List End → List UInt8 → List End × Nat × Int
  | 0, _, _ => ([], 0, 0)
  | f + 1, acc, l =>
    if l = [] then (acc, acc.length, 0) else
      if (Lib.cut l [10]).2.2 = false ∨ (readW (words ⟨(Lib.cut l [10]).1.toArray⟩)).2 = false then ([], acc.length, 2)
      else parseLoop f (acc ++ [(readW (words ⟨(Lib.cut l [10]).1.toArray⟩)).1]) (Lib.cut l [10]).2.1
def parseE (l : List UInt8) : List End × Nat × Int := parseLoop (l.length + 1) [] l

theorem cut_lens (l : List UInt8) : (Lib.cut l [10]).1.length ≤ l.length ∧ (Lib.cut l [10]).2.1.length ≤ l.length ∧ ((Lib.cut l [10]).2.2 = true → (Lib.cut l [10]).2.1.length + 1 ≤ l.length ∨ l = []) := by
  unfold Lib.cut
  split
  · refine ⟨by simp; omega, by simp, fun _ => ?_⟩
    cases l with
    | nil => exact .inr rfl
    | cons a l => left; simp
  · simp
theorem name_size {s : ByteArray} (h : nameB s.data.toList = true) : s.size ≤ 16 := by
  unfold nameB at h
  simp only [Bool.and_eq_true, decide_eq_true_eq] at h
  have : s.data.toList.length = s.size := by simp
  omega
theorem okB_sizes {x : End} (h : x.okB = true) : x.frm.size ≤ 16 ∧ x.to.size ≤ 16 := by
  unfold End.okB at h
  simp only [Bool.and_eq_true, decide_eq_true_eq] at h
  refine ⟨name_size h.1.1.1, ?_⟩
  have h2 := h.2
  by_cases hk : x.kind = 1
  · rw [if_pos hk, ByteArray.toList_eq] at h2
    have : x.to.data.toList.length = 0 := by simp at h2; simp [h2]
    have h3 : x.to.data.toList.length = x.to.size := by simp
    omega
  · rw [if_neg hk] at h2
    simp only [Bool.and_eq_true] at h2
    exact name_size h2.1.2
theorem dayed_ok {y x : End} {o : Option Nat} (h : dayed y o = (x, true)) : x.okB = true := by
  unfold dayed at h
  split at h
  · simp at h
  · simp only [Prod.mk.injEq] at h; rw [← h.1]; exact h.2
theorem readW_ok {ws : List ByteArray} {x : End} (h : readW ws = (x, true)) : x.okB = true := by
  unfold readW at h
  split at h
  · split at h
    · exact dayed_ok h
    · split at h
      · exact dayed_ok h
      · simp at h
  · split at h
    · exact dayed_ok h
    · simp at h
  · simp at h
theorem parse_no {p : List End × Nat × Int} {f : Nat} {acc : List End} {l t r : List UInt8} {en ok : Bool} {x : End} (hp : p = parseLoop f acc l) (hf : l.length < f) (hl : ¬ l = []) (hc : Lib.cut l [10] = (t, r, en)) (hr : readW (words ⟨t.toArray⟩) = (x, ok)) (h : en = false ∨ ok = false) :
    p = ([], acc.length, 2) := by
  obtain ⟨f, rfl⟩ : ∃ g, f = g + 1 := ⟨f - 1, by omega⟩
  rw [hp, parseLoop, if_neg hl, hc]
  simp only [hr]
  rw [if_pos h]
theorem parse_yes {p : List End × Nat × Int} {f : Nat} {acc : List End} {l t r : List UInt8} {x : End} (hp : p = parseLoop f acc l) (hf : l.length < f) (hl : ¬ l = []) (hc : Lib.cut l [10] = (t, r, true)) (hr : readW (words ⟨t.toArray⟩) = (x, true)) :
    p = parseLoop (f - 1) (acc ++ [x]) r := by
  obtain ⟨f, rfl⟩ : ∃ g, f = g + 1 := ⟨f - 1, by omega⟩
  rw [hp, parseLoop, if_neg hl, hc]
  simp only [hr]
  rw [if_neg (by simp)]; rfl
theorem parse_end {p : List End × Nat × Int} {f : Nat} {acc : List End} (hp : p = parseLoop f acc []) (hf : 0 < f) : p = (acc, acc.length, 0) := by
  obtain ⟨f, rfl⟩ : ∃ g, f = g + 1 := ⟨f - 1, by omega⟩
  rw [hp, parseLoop, if_pos rfl]
def Parsed (r : List End × Nat × Int) (w : World) (e : Ending) (w' : World) : Prop :=
  ∃ A c, e = .returned (.tuple #[.slice A r.1.length c, .int .i64 (r.2.1 : Int), .int .i64 r.2.2]) ∧ r.1.length ≤ c ∧ EndsAt w' A r.1 ∧ Below w.heap.size w w'

theorem size_list (l : List UInt8) : (⟨l.toArray⟩ : ByteArray).size = l.length := by simp [ByteArray.size]
def strSize : Value → Nat
  | .string b => b.size
  | _ => 0

set_option maxRecDepth 100000 in
set_option maxHeartbeats 1600000 in
theorem parse_any (s : List UInt8) (w : World) (hs : s.length ≤ 3000) (he : Env w) :
    Calls Tryd.prog 9 #[.string ⟨s.toArray⟩] w (Parsed (parseE s) w) := by
  obtain ⟨i0, hi, hz0, hz1, hz2⟩ := info_parts Tryd.info34
  have he' := Lib.hid he
  clear he
  go_enter Tryd.func9, Tryd.ntmps9
  go_wp2
  go_loopw [0, 2, 3, 4, 5, 6, 7, 8, 9, 10, 11] (fun t _ _ _ v i _ _ _ _ _ wr => ∃ (l : List UInt8) (acc : List End) (f : Nat), acc.length + l.length ≤ s.length ∧ l.length < f ∧ t = .string ⟨l.toArray⟩ ∧ i = .int .i64 (acc.length : Int) ∧ Hid (parseE s = parseLoop f acc l) ∧ Hid (wr.ownsRow w.heap.size 34 4 v acc.length (cellsOf acc)) ∧ Hid (Small acc) ∧ Below w.heap.size w wr) (fun t _ _ _ _ _ _ _ _ _ _ _ => strSize t)
  case atStart => exact ⟨s, [], s.length + 1, by simp, by omega, rfl, rfl, rfl, ⟨rfl, .inl ⟨rfl, rfl⟩⟩, by intro x hx; simp at hx, Below.refl _ _⟩
  case round =>
    obtain ⟨l, acc, f, hlen, hf, rfl, rfl, hpar, hown, hsm, hB⟩ := hrel
    by_cases hl : l = []
    · subst hl
      obtain ⟨A, c, rfl, hc, hE⟩ := own_ends hown.out rfl hsm.out
      have hE' := Lib.hid hE
      clear hE
      go_wp2_with fail
      go_ret3
      rw [parse_end hpar.out (by simpa using hf)]
      exact ⟨A, c, rfl, hc, hE'.out, hB⟩
    · have hne : (l == []) = false := by simpa using hl
      go_wp2_with fail
      obtain ⟨m, hm⟩ := (he'.out.below hB).most
      refine (Tryd.strings_Cut ⟨l.toArray⟩ ⟨#[10]⟩ m _ (by rw [size_list]; omega) hm).mono ?_
      rintro e w1 ⟨rfl, nq, rfl⟩
      obtain ⟨t, r, en, hcut⟩ : ∃ t r en, Hid (Lib.cut l [10] = (t, r, en)) := ⟨_, _, _, rfl⟩
      rw [show Lib.cut (ByteArray.mk l.toArray).data.toList (ByteArray.mk #[10]).data.toList = (t, r, en) from hcut.out]
      have hlens := cut_lens l
      rw [hcut.out] at hlens
      have hlt : t.length ≤ l.length := hlens.1
      have hBq : Below w.heap.size w (wr.drewN nq) := below_drewN hB nq
      have hen : Hid (en = true → r.length + 1 ≤ l.length) := fun h => (hlens.2.2 h).elim id (fun h => absurd h hl)
      clear hlens hm
      go_wp2_with fail
      refine (read_any ⟨t.toArray⟩ _ (by rw [size_list]; omega) (he'.out.below hBq)).mono ?_
      rintro e w1 ⟨rfl, hb1⟩
      have hB1 := hBq.trans (hb1.mono hBq.size)
      obtain ⟨x, ok, hrd⟩ : ∃ x ok, Hid (readW (words ⟨t.toArray⟩) = (x, ok)) := ⟨_, _, rfl⟩
      rw [hrd.out]
      unfold endV
      have hown1 : Hid (w1.ownsRow w.heap.size 34 4 u5 acc.length (cellsOf acc)) := own_below (w := wr.drewN nq) hown.out hb1
      cases en with
      | false =>
        go_wp2_with fail
        go_ret3
        rw [parse_no hpar.out hf hl hcut.out hrd.out (.inl rfl)]
        exact ⟨none, 0, rfl, Nat.le_refl _, by intro k x hk; simp at hk, hB1.alloc hB1.size _⟩
      | true =>
        cases ok with
        | false =>
          go_wp2_with fail
          go_ret3
          rw [parse_no hpar.out hf hl hcut.out hrd.out (.inr rfl)]
          exact ⟨none, 0, rfl, Nat.le_refl _, by intro k x hk; simp at hk, hB1.alloc hB1.size _⟩
        | true =>
          have hxok := readW_ok hrd.out
          have hxs := Lib.hid (okB_sizes hxok)
          clear hxok
          have hone : Hid (∀ u ∈ (#[Value.string x.frm, .string x.to, .int .i64 x.kind, .int .i64 x.day] : Array Value).toList, u.oneCell' = true) := cellsOf_one [x]
          have hn1 : Hid (acc.length + 1 ≤ maxLen) := by unfold Hid maxLen; omega
          have hn2 : Hid ((acc.length + 1) * 48 ≤ 140737488355328) := by unfold Hid; omega
          have hz1' : Hid (w.heap.size ≤ w1.heap.size) := hB1.size
          go_wp2_with (at_builtin; go_must (refine wpList_app2 w.heap.size rfl (.tmp 34) (.tmp 36) 22 rfl 34 i0 _ 4 48 Tryd.underlying22 hi hz0 hz1 hz2 rfl (by decide) _ acc.length (cellsOf acc) rfl _ 1 #[.string x.frm, .string x.to, .int .i64 x.kind, .int .i64 x.day] rfl ((hown1.out.alloc _).alloc _) (blk_second w1 _ 34 _) rfl hone.out hn1.out hn2.out (Nat.le_trans hz1'.out (by simp; omega)) ?_); intro v2 w2 ho2 hb2)
          have hB2 : Below w.heap.size w w2 := ((hB1.alloc hB1.size _).alloc (by simp; have := hB1.size; omega) _).trans hb2
          have ho2' := Lib.hid ho2
          clear ho2
          go_wp2_with fail
          have hen' := hen.out (by trivial)
          refine ⟨⟨r, acc ++ [x], f - 1, by simp; omega, by omega, rfl, by simp, parse_yes hpar.out hf hl hcut.out hrd.out, ?_, ?_, hB2⟩, ?_⟩
          · unfold Hid; simpa [cellsOf, End.cells] using ho2'.out
          · intro y hy
            rcases List.mem_append.1 hy with hy | hy
            · exact hsm.out y hy
            · obtain rfl : y = x := by simpa using hy
              have := hxs.out
              unfold maxLen; omega
          · simp [strSize, size_list]; omega

end Go.Proofs.YtdgbghgcnkjjeaaDoor

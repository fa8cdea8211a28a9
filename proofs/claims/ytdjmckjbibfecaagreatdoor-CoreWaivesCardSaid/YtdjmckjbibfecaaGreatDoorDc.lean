/- The law CoreWaives, walked. -/
import Derived.Test.YtdjmckjbibfecaaGreatDoorDb
import Derived.Test.YtdjmckjbibfecaaGreatDoorFv
import Derived.Test.YtdjmckjbibfecaaGreatDoorOa
namespace Go.Proofs.YtdjmckjbibfecaaGreatDoor
open Go Go.RowKit Go.BigFrame Go.Maps

/-- A row of faults. -/
def RowF (M : List Flt) : Ty := fun v W => ∃ B, W.ownsRow B 54 4 v M.length (fcells M)
theorem mono_RowF (M : List Flt) : MonoT (RowF M) := fun _ _ _ ⟨B, h⟩ hb => ⟨B, own_below h hb⟩
def tyW4 (C : Array Value) (A A3 mA : Option Addr) (nn cc K c3 mn mc : Nat) (day : Int) (M1 : List Flt) (N : Bool) : List Ty := [(Is (.agg C)), (Is (.slice A nn cc)), (Is (.int .i64 day)), (Is (.slice A3 K c3)), (Is (.bool true)), (Is (.bool false)), (Is (.bool false)), (Is (.slice A3 K c3)), (Is (.slice A3 K c3)), (RowF []), (Is (.int .i64 0)), (Is (.bool false)), (Is (.bool false)), (Is (.bool false)), (Is (.slice A3 K c3)), (Is (.slice mA mn mc)), (RowF M1), (Is (.slice A3 K c3)), (Is (.slice mA mn mc)), (RowF M1), (Is (.bool true)), (Is (.bool false)), (Is (.bool false)), (Is (.bool false)), (Is (.agg C)), (Is (.slice A nn cc)), (Is (.int .i64 day)), (Is (.slice mA mn mc)), (Is (.bool N)), (Is (.agg C)), (Is (.slice A nn cc)), (Is (.int .i64 day)), (Is (.slice mA mn mc)), (Is (.bool N)), (Is (.bool false)), (Is (.bool false))]
theorem tyW4_mono (C : Array Value) (A A3 mA : Option Addr) (nn cc K c3 mn mc : Nat) (day : Int) (M1 : List Flt) (N : Bool) : MonoL (tyW4 C A A3 mA nn cc K c3 mn mc day M1 N) := ⟨mono_is _, mono_is _, mono_is _, mono_is _, mono_is _, mono_is _, mono_is _, mono_is _, mono_is _, mono_RowF _, mono_is _, mono_is _, mono_is _, mono_is _, mono_is _, mono_is _, mono_RowF _, mono_is _, mono_is _, mono_RowF _, mono_is _, mono_is _, mono_is _, mono_is _, mono_is _, mono_is _, mono_is _, mono_is _, mono_is _, mono_is _, mono_is _, mono_is _, mono_is _, mono_is _, mono_is _, mono_is _, trivial⟩
def tyW11 (C : Array Value) (A A13 : Option Addr) (nn cc n13 c13 g14 c14 b3 f3 K c3 k : Nat) (day : Int) (x : Flt) : List Ty := [(Is (.agg C)), (Is (.slice A nn cc)), (Is (.int .i64 day)), (Is (.slice A13 n13 c13)), (Is (.bool false)), (Is (.bool true)), (Is (.bool true)), (Is (.slice (some ⟨g14, 0, none⟩) 1 c14)), (Is (.int .i64 1)), (Is (.bool true)), (Is (.bool true)), (Is (.bool true)), (Is (.slice (some ⟨g14, 0, none⟩) 1 c14)), (Is (.pointer (some ⟨g14, 0, none⟩))), (Is (.agg #[.int .i64 x.paper, .int .i64 x.kind, .string x.field, .int .i64 x.why])), (Is (.slice (some ⟨b3, f3, none⟩) K c3)), (Is (.int .i64 (k : Int))), (Is (.pointer (some ⟨b3, f3 + k * 4, none⟩))), (Is (.agg #[.int .i64 x.paper, .int .i64 x.kind, .string x.field, .int .i64 x.why])), (Is (.bool true)), (Is (.bool true))]
theorem tyW11_mono (C : Array Value) (A A13 : Option Addr) (nn cc n13 c13 g14 c14 b3 f3 K c3 k : Nat) (day : Int) (x : Flt) : MonoL (tyW11 C A A13 nn cc n13 c13 g14 c14 b3 f3 K c3 k day x) := ⟨mono_is _, mono_is _, mono_is _, mono_is _, mono_is _, mono_is _, mono_is _, mono_is _, mono_is _, mono_is _, mono_is _, mono_is _, mono_is _, mono_is _, mono_is _, mono_is _, mono_is _, mono_is _, mono_is _, mono_is _, mono_is _, trivial⟩

theorem fcells_len4 : ∀ l : List Flt, (fcells l).length = l.length * 4
  | [] => rfl
  | x :: l => by
    have := fcells_len4 l
    unfold fcells at this ⊢
    rw [List.flatMap_cons, List.length_append, this, List.length_cons]
    show 4 + _ = _
    omega
theorem exam_len {c : Crd} {needs : List Nd} {docs : List Pap} {day : Int} (hF : FewParts needs) (hn : docs.length ≤ 13) : (examF c needs docs day).length ≤ 20000 := by
  have h1 := addAll_len (toldE c needs docs day) []
  have h2 := docs_len (c := c) (docs := docs) (day := day) hF docs.length
  have h3 := flat_le _ (lackF_le docs) needs
  have h4 : (expF c day).length ≤ 1 := by unfold expF; split <;> simp
  have h5 := hF.1
  unfold toldE at h1
  simp only [List.length_append, List.length_nil] at h1
  unfold examF toldE
  omega
/-- Some faults of a row, one behind the other, read. -/
theorem faults_sub {w : World} {b off : Nat} {l : List Flt} (h : FaultsAt w (some ⟨b, off, none⟩) l) (i : Nat) (m : List Flt) (hm : ∀ (q : Nat) (x : Flt), m[q]? = some x → l[i + q]? = some x) :
    Reads w w.heap.size 4 (some ⟨b, off + i * 4, none⟩) m.length (fcells m) := by
  have key : ∀ (q : Nat) (x : Flt), m[q]? = some x → ∀ r, r < 4 → ∀ u, x.cells[r]? = some u → w.cell? ⟨b, off + (i + q) * 4 + r, none⟩ = some u := by
    intro q x hx r hr u hu
    obtain ⟨b', off', e, h0, h1, h2, h3⟩ := h (i + q) x (hm q x hx)
    simp only [Option.some.injEq, Addr.mk.injEq, and_true] at e
    obtain ⟨rfl, rfl⟩ := e
    have hc : r = 0 ∨ r = 1 ∨ r = 2 ∨ r = 3 := by omega
    rcases hc with rfl | rfl | rfl | rfl
    all_goals (simp [Flt.cells] at hu; subst hu; assumption)
  refine ⟨fcells_len4 m, fun hn => ?_⟩
  obtain ⟨x0, hx0⟩ : ∃ x, m[0]? = some x := ⟨_, List.getElem?_eq_getElem hn⟩
  have c0 := key 0 x0 hx0 0 (by omega) (.int .i64 x0.paper) rfl
  refine ⟨_, rfl, World.block_lt_of_cell? w _ c0, fun j u hj => ?_⟩
  have hlt := (List.getElem?_eq_some_iff.1 hj).1
  rw [fcells_len4] at hlt
  obtain ⟨x, hx⟩ : ∃ x, m[j / 4]? = some x := ⟨_, List.getElem?_eq_getElem (by omega)⟩
  have hg := fcells_get m (j / 4) x hx (j % 4) (by omega)
  rw [show j / 4 * 4 + j % 4 = j by omega, hj] at hg
  have := key (j / 4) x hx (j % 4) (by omega) u hg.symm
  have hadd : (⟨b, off + i * 4, none⟩ : Addr).add j = ⟨b, off + i * 4 + j, none⟩ := by unfold Addr.add; split <;> simp_all
  rw [hadd, show off + i * 4 + j = off + (i + j / 4) * 4 + j % 4 by omega]
  exact this
theorem held_appendg {P : Program} {ops : Array Oper} {Q : Exit → Act → World → Prop} {o : Oper} {a : Act} {w : World} {i : Nat} {K : Act → World → Prop} (hi' : ops[i]? = some o) (hw : Region.wanted o (yielded ops a.tmps) = true) (s x : Operand) (t : TypeId)
    (ho : o.op = .call { callee := .builtin .append, args := #[s, x], argTypes := #[t, t] })
    (base : Nat) (e : TypeId) (ti : TypeInfo) (z : Value) (size bytes : Nat) (ht : P.underlying t = some (.slice e)) (hi : P.info? e = some ti) (hz : ti.zero = some z)
    (hsize : ti.size = size) (hby : ti.bytes = bytes) (hzs : z.cells.size = size) (hsz : 0 < size)
    (v : Value) (n : Nat) (xs : List Value) (hs : a.eval s = v) (hown : w.ownsRow base e size v n xs)
    (B : Nat) (A : Option Addr) (m c : Nat) (news : List Value) (hx : a.eval x = .slice A m c) (hr : Reads w B size A m news) (h1 : ∀ u ∈ news, u.oneCell' = true)
    (h63 : n + m ≤ maxLen) (hbytes : (n + m) * bytes ≤ 140737488355328) (hbase : base ≤ w.heap.size)
    (h : ∀ v' w', w'.ownsRow base e size v' (n + m) (xs ++ news) → w.grownBy w' v.ownBlock → (v'.ownBlock = v.ownBlock ∨ v'.ownBlock = some w.heap.size) → K (a.put o.dst v') w') : wpOp P ops Q i K a w := by
  unfold wpOp
  simp only [hi']
  rw [if_pos hw]
  exact .inl (wp_append_any w s x t ho base e ti z size bytes ht hi hz hsize hby hzs hsz v n xs hs hown B A m c news hx hr h1 h63 hbytes hbase h)
set_option maxRecDepth 100000 in
set_option maxHeartbeats 6400000 in
theorem waives_law (w : World) (c : Crd) (hO : Hid c.okC) (nA : Option Addr) (nl nc : Nat) (needs : List Nd) (hnl : Hid (needs.length = nl)) (hml : nl ≤ maxLen) (hN : Hid (NdsAt w nA needs)) (A : Option Addr) (nn cc : Nat) (docs : List Pap) (hnn : Hid (docs.length = nn)) (hmn : nn ≤ maxLen) (hD : Hid (DocsAt w A docs)) (hLD : Hid (LongD docs)) (day : Int)
    (mA : Option Addr) (mn mc : Nat) (ml : List Flt) (hmll : Hid (ml.length = mn)) (hmA : Hid (FaultsAt w mA ml)) (hmf : Hid (∀ x ∈ ml, x.fits)) (ab : Nat) (hab : ab < 256) (he : Hid (Env w)) (hal : Hid (AlikeAt w)) :
    Calls Tryz.prog 5 #[.agg (c.cells (.slice nA nl nc)), .slice A nn cc, .int .i64 day, .slice mA mn mc, .int .u8 (ab : Int)] w fun e w' => e = .returned (.bool true) ∧ Below w.heap.size w w' := by
  obtain ⟨iF, iFi, iF0, iF1, iF2⟩ := info_parts Tryz.info54
  have hmn' := Lib.hid hmn
  have hml' := Lib.hid hml
  clear hmn hml
  have haw := Lib.hid (fun (W : World) (h : Env W) => awake_any W (Lib.hid h))
  have hex0 := Lib.hid (fun hdy W => examine_any c hO nA nl nc needs hnl A nn cc docs day hdy W)
  have hrx0 := Lib.hid (fun hdy W => rexam_any c hO nA nl nc needs hnl A nn cc docs day hdy W)
  have hfew0 := Lib.hid (fun (C : Array Value) (W : World) (h1 : Hid (C.size = 18)) (h2 : C[17]? = some (.slice nA nl nc)) (h3 : NdsAt W nA needs) (h4 : DocsAt W A docs) => few5_any C nA nl nc needs A nn cc docs day W h1 h2 hnl hnn hml'.out hmn'.out (Lib.hid h3) (Lib.hid h4) hLD)
  have hCz : Hid ((c.cells (.slice nA nl nc)).size = 18) := rfl
  have hC17 : Hid ((c.cells (.slice nA nl nc))[17]? = some (.slice nA nl nc)) := rfl
  obtain ⟨C, hC⟩ : ∃ C, Hid (c.cells (.slice nA nl nc) = C) := ⟨_, rfl⟩
  rw [hC.out] at hex0 hrx0 hCz hC17 ⊢
  have hsz : Hid ((Tryz.prog.info? 46).map (·.size) = some C.size) := by unfold Hid; rw [hCz.out]; kernel_rfl
  obtain ⟨w0, hw0⟩ : ∃ X, Hid (w.alloc (.cells C 46) = X) := ⟨_, rfl⟩
  have hb0 : Hid (Below w.heap.size w w0) := by rw [← hw0.out]; exact (Below.refl _ w).alloc (Nat.le_refl _) _
  have hbk0 : Hid (Blk w0 w.heap.size 46 C) := by rw [← hw0.out]; exact Lib.hid (Blk.new w 46 C)
  have haw0 := Lib.hid (haw.out w0 (he.out.below hb0.out))
  obtain ⟨F, hF⟩ : ∃ F, fewDay needs docs day = F := ⟨_, rfl⟩
  have hF' := Lib.hid hF
  rw [hF] at hfew0
  clear hF
  go_enter Tryz.func5, Tryz.ntmps5
  go_wp2_with (rw [hw0.out])
  refine haw0.out.mono ?_
  rintro e w1 ⟨rfl, hb1⟩
  have hB1 : Hid (Below w.heap.size w w1) := hb0.out.trans (hb1.mono hb0.out.size)
  have hbk1 := Lib.hid (hbk0.out.below hb1 hbk0.out.lt)
  have hfew1 := Lib.hid (hfew0.out C w1 hCz hC17.out (hN.out.below hB1.out) (hD.out.below hB1.out))
  clear hb1 haw0 hbk0 hfew0
  go_wp2_with (refine wpList_load_blkg rfl 46 (.tmp 5) rfl w.heap.size C 46 _ rfl hbk1.out Tryz.underlying46 rfl hsz.out ?_)
  refine hfew1.out.mono ?_
  rintro e w2 ⟨rfl, hb2⟩
  have hB2 : Hid (Below w.heap.size w w2) := hB1.out.trans (hb2.mono hB1.out.size)
  have hbk2 := Lib.hid (hbk1.out.below hb2 hbk1.out.lt)
  clear hb2 hfew1 hbk1
  have haw2 := Lib.hid (haw.out w2 (he.out.below hB2.out))
  cases F with
  | false =>
    go_wp2_with fail
    refine haw2.out.mono ?_
    rintro e w3 ⟨rfl, hb3⟩
    have hB3 : Hid (Below w.heap.size w w3) := hB2.out.trans (hb3.mono hB2.out.size)
    clear hb3
    go_wp2_with fail
    go_ret
    exact ⟨rfl, hB3.out⟩
  | true =>
  by_cases hm40 : 40 < mn
  · have d1 : decide ((40 : Int) < (mn : Int)) = true := decide_eq_true (by omega)
    have d2 : decide (40 < mn) = true := decide_eq_true hm40
    go_wp2_with fail
    refine haw2.out.mono ?_
    rintro e w3 ⟨rfl, hb3⟩
    have hB3 : Hid (Below w.heap.size w w3) := hB2.out.trans (hb3.mono hB2.out.size)
    clear hb3
    go_wp2_with fail
    go_ret
    exact ⟨rfl, hB3.out⟩
  have d1 : decide ((40 : Int) < (mn : Int)) = false := decide_eq_false (by omega)
  have d2 : decide (40 < mn) = false := decide_eq_false hm40
  have hm40' : mn ≤ 40 := by omega
  have hparts : fewB needs docs = true ∧ -1073741824 ≤ day ∧ day ≤ 1073741824 := by
    have h := hF'.out
    unfold fewDay at h
    simp only [Bool.and_eq_true, decide_eq_true_eq] at h
    exact ⟨h.1, h.2.1, h.2.2⟩
  obtain ⟨hfb, hday0, hday1⟩ := hparts
  obtain ⟨_, hn12, hsd, hsx⟩ := few_docs hfb
  have hFP := Lib.hid (few_parts hfb)
  have hSm : Hid (∀ x ∈ needs, SmallT x.rule) := fun x hx => small_of_size (hsx x hx)
  have hn12' : nn ≤ 12 := by have := hnn.out; omega
  have hRm : Hid (∀ W, Below w.heap.size w W → Room W A nn docs) := Lib.hid fun W hW => ⟨hnn.out, by omega, hD.out.below hW, he.out.below hW, hsd⟩
  have hdayw : Hid (-9223372036854775808 ≤ day ∧ day ≤ 9223372036854775807) := by unfold Hid; omega
  have hLfit : Hid (∀ x ∈ examF c needs docs day, x.fits) := Lib.hid (exam_fits (fun d hd => by
    obtain ⟨i, hi⟩ := List.getElem?_of_mem hd
    exact kind_of hD.out hi) (fun x hx => by
    obtain ⟨i, hi⟩ := List.getElem?_of_mem hx
    exact (hN.out i x hi).1) (fun x hx => small_field (hsx x hx)) (by omega))
  have hnd := Lib.hid (examF_nodup c needs docs day)
  have hLl0 : (examF c needs docs day).length ≤ 20000 := exam_len hFP.out (by omega)
  have hex := Lib.hid (fun (W : World) (h : Below w.heap.size w W) => hex0.out hdayw W (Lib.hid (hN.out.below h)) hFP (Lib.hid (hRm.out W h)) (Lib.hid (hal.out.below h)) hn12')
  have hrx := Lib.hid (fun (W : World) (h : Below w.heap.size w W) => hrx0.out ⟨hday0, hday1⟩ W (Lib.hid (hN.out.below h)) hFP hSm (Lib.hid (hRm.out W h)) hn12')
  obtain ⟨L, hL⟩ : ∃ L, examF c needs docs day = L := ⟨_, rfl⟩
  rw [hL] at hLfit hnd hLl0 hex hrx
  obtain ⟨K, hK⟩ : ∃ K, L.length = K := ⟨_, rfl⟩
  have hK' := Lib.hid hK
  rw [hK] at hLl0
  have hLl := Lib.hid hLl0
  clear hex0 hrx0 hfb hday0 hday1 hn12 hsd hsx hL hK hLl0 hF' hm40 haw2 haw
  have hXw : Hid (∀ W, Below w.heap.size w W → ExamC W C A nn cc day L) := Lib.hid fun W hW => ⟨fun W' h => hex.out W' (hW.trans (h.mono hW.size)), hsz.out, by rw [hK'.out]; exact hLl.out, hLfit.out⟩
  have hex2 := Lib.hid (hex.out w2 hB2.out)
  go_wp2_with (refine wpList_load_blk rfl 46 (.tmp 5) rfl w.heap.size C 46 _ rfl hbk2.out Tryz.underlying46 rfl hsz.out ?_)
  refine hex2.out.mono ?_
  rintro e w3 ⟨A3, c3, rfl, hKc, hF3, hb3⟩
  rw [hK'.out] at hKc ⊢
  have hB3 : Hid (Below w.heap.size w w3) := hB2.out.trans (hb3.mono hB2.out.size)
  have hbk3 := Lib.hid (hbk2.out.below hb3 hbk2.out.lt)
  have hF3' := Lib.hid hF3
  have hKc' := Lib.hid hKc
  clear hF3 hb3 hex2 hbk2 d1 d2 hKc
  go_wp2_with fail
  refine wp_region_any (by kernel_rfl) ?_
  show wpAny _ _ _ _ _ _ _ w3.drew
  obtain ⟨wd, hwd⟩ : ∃ x, w3.drew = x := ⟨_, rfl⟩
  have hbw : Below w3.heap.size w3 wd := by rw [← hwd]; exact (Below.refl _ w3).drew
  rw [hwd]
  have hBd : Hid (Below w.heap.size w wd) := hB3.out.trans (hbw.mono hB3.out.size)
  have hbd := Lib.hid (hbk3.out.below hbw hbk3.out.lt)
  have hFd := Lib.hid (hF3'.out.below hbw)
  have hMd := Lib.hid (hmA.out.below hBd.out)
  clear hwd hbw hbk3 hF3' hB3
  have hXd : Hid (ExamC wd C A nn cc day L) := Lib.hid ⟨fun W h => hex.out W (hBd.out.trans (h.mono hBd.out.size)), hsz.out, by rw [hK'.out]; exact hLl.out, hLfit.out⟩
  have hrxd : Hid (∀ W, Below wd.heap.size wd W → Calls Tryz.prog 61 #[.agg C, .slice A nn cc, .int .i64 day] W fun e w' => ∃ v, e = .returned v ∧ w'.ownsRow W.heap.size 54 4 v L.length (fcells L) ∧ Below W.heap.size W w') := Lib.hid fun W h => hrx.out W (hBd.out.trans (h.mono hBd.out.size))
  obtain ⟨N, hNe⟩ : ∃ b, neededM L ml = b := ⟨_, rfl⟩
  obtain ⟨M1, hM1⟩ : ∃ l, waiveM L ml = l := ⟨_, rfl⟩
  have hM1l : Hid (M1.length ≤ 20000) := by
    unfold Hid
    rw [← hM1]
    exact Nat.le_trans (waive_le L ml) (by rw [hK'.out]; exact hLl.out)
  have hK5 : K ≤ 100000 := by have := hLl.out; omega
  have k22 := Lib.hid (fun (W : World) (h : Below wd.heap.size wd W) => needed_any W C A nn cc day L (Lib.hid (hXd.out.at_ h)) A3 K c3 L hK' hK5 (Lib.hid (hFd.out.below h)) hLfit)
  rw [needed_self] at k22
  have k22m := Lib.hid (fun (W : World) (h : Below wd.heap.size wd W) => needed_any W C A nn cc day L (Lib.hid (hXd.out.at_ h)) mA mn mc ml hmll (by omega) (Lib.hid (hMd.out.below h)) hmf)
  have k26 := Lib.hid (fun (W : World) (h : Below wd.heap.size wd W) => rneeded_any W C A nn cc day L (Lib.hid (hXd.out.at_ h)) (Lib.hid fun W' h' => hrxd.out W' (h.trans (h'.mono h.size))) mA mn mc ml hmll (by omega) (Lib.hid (hMd.out.below h)))
  have k23 := Lib.hid (fun (W : World) (h : Below wd.heap.size wd W) => waive_any A3 A3 K c3 K c3 L L W hK' hK' hK5 hK5 (Lib.hid (hFd.out.below h)) (Lib.hid (hFd.out.below h)) hLfit hLfit)
  rw [waive_self] at k23
  have k23m := Lib.hid (fun (W : World) (h : Below wd.heap.size wd W) => waive_any A3 mA K c3 mn mc L ml W hK' hmll hK5 (by omega) (Lib.hid (hFd.out.below h)) (Lib.hid (hMd.out.below h)) hLfit hmf)
  have k25 := Lib.hid (fun (W : World) (h : Below wd.heap.size wd W) => rwaive_any A3 mA K c3 mn mc L ml W hK' hmll hK5 (by omega) (Lib.hid (hFd.out.below h)) (Lib.hid (hMd.out.below h)))
  rw [hNe] at k22m k26
  rw [hM1] at k23m k25
  have k24 : Hid (∀ (W : World) (a1 a2 : Option Addr) (e1 e2 : Nat) (B1 B2 : Nat), W.ownsRow B1 54 4 (.slice a1 M1.length e1) M1.length (fcells M1) → W.ownsRow B2 54 4 (.slice a2 M1.length e2) M1.length (fcells M1) → Calls Tryz.prog 24 #[.slice a1 M1.length e1, .slice a2 M1.length e2] W fun e w' => e = .returned (.bool true) ∧ Below W.heap.size W w') := Lib.hid fun W a1 a2 e1 e2 B1 B2 h1 h2 => by
    obtain ⟨a1', e1', q1, _, f1⟩ := own_faults h1 rfl
    obtain ⟨a2', e2', q2, _, f2⟩ := own_faults h2 rfl
    simp only [Value.slice.injEq, true_and] at q1 q2
    obtain ⟨rfl, rfl⟩ := q1
    obtain ⟨rfl, rfl⟩ := q2
    have := same_any a1 a2 M1.length e1 M1.length e2 M1 M1 W (by have := hM1l.out; unfold maxLen; omega) (by have := hM1l.out; unfold maxLen; omega) (Lib.hid rfl) (Lib.hid rfl) (Lib.hid f1) (Lib.hid f2)
    rw [same_refl] at this
    exact this
  clear hNe hM1 hrx hrxd
  refine wpAny_body 126 (List.range 36) [] 36 [(0, some 34), (1, some 35), (2, some 36), (3, some 37), (4, some 38), (5, some 39), (6, some 40), (7, some 41), (8, some 42), (9, some 43), (10, some 44), (11, some 45), (12, some 46), (13, some 47), (14, some 48), (15, some 49), (16, some 50), (17, some 51), (18, some 52), (19, some 53), (20, some 54), (21, some 55), (22, some 56), (23, some 57), (24, some 58), (25, some 59), (26, some 60), (27, some 61), (28, some 62), (29, some 63), (30, some 64), (31, some 65), (32, some 66), (33, some 67), (34, some 68), (35, some 69)] (Array.replicate 36 false) (Array.replicate 36 true) (fun a b => Below a.heap.size a b) (fun i => (tyW4 C A A3 mA nn cc K c3 mn mc day M1 N).getD i (fun _ _ => True)) (by kernel_rfl) rfl rfl (Below.refl _ _) (fun _ _ _ h k => h.trans (k.mono h.size)) (fun i v W W' h hb => mono_at (tyW4_mono C A A3 mA nn cc K c3 mn mc day M1 N) i h hb) ?step ?fin _ rfl
  case step =>
    refine allB_cons (i := 0) rfl (fun a W hl K0 hK => ?_) ?_
    · have t5 : a.tmps.getD 5 undef = .pointer (some ⟨w.heap.size, 0, none⟩) := hl.old 5 (by kernel_rfl)
      have hbX : Blk W w.heap.size 46 C := hbd.out.below hl.world hbd.out.lt
      exact held_value (v := .agg C) (w' := W) rfl rfl (run_ldb rfl t5 hbX Tryz.underlying46 rfl hsz.out) (hK _ _ (Below.refl _ _) rfl)
    refine allB_cons (i := 1) rfl (fun a W hl K0 hK => ?_) ?_
    · have t1 : a.tmps.getD 1 undef = .slice A nn cc := hl.old 1 (by kernel_rfl)
      exact held_value (v := .slice A nn cc) (w' := W) rfl rfl (by go_simp) (hK _ _ (Below.refl _ _) rfl)
    refine allB_cons (i := 2) rfl (fun a W hl K0 hK => ?_) ?_
    · have t2 : a.tmps.getD 2 undef = .int .i64 day := hl.old 2 (by kernel_rfl)
      exact held_value (v := .int .i64 day) (w' := W) rfl rfl (by go_simp) (hK _ _ (Below.refl _ _) rfl)
    refine allB_cons (i := 3) rfl (fun a W hl K0 hK => ?_) ?_
    · have t11 : a.tmps.getD 11 undef = .slice A3 K c3 := hl.old 11 (by kernel_rfl)
      exact held_value (v := .slice A3 K c3) (w' := W) rfl rfl (by go_simp) (hK _ _ (Below.refl _ _) rfl)
    refine allB_cons (i := 4) rfl (fun a W hl K0 hK => ?_) ?_
    · have t34 : Is (.agg C) (a.tmps.getD 34 undef) W := hl.at_ 0 34 (by kernel_rfl)
      unfold Is at t34
      have t35 : Is (.slice A nn cc) (a.tmps.getD 35 undef) W := hl.at_ 1 35 (by kernel_rfl)
      unfold Is at t35
      have t36 : Is (.int .i64 day) (a.tmps.getD 36 undef) W := hl.at_ 2 36 (by kernel_rfl)
      unfold Is at t36
      have t37 : Is (.slice A3 K c3) (a.tmps.getD 37 undef) W := hl.at_ 3 37 (by kernel_rfl)
      unfold Is at t37
      refine held_call (f := 22) (args := #[.agg C, .slice A nn cc, .int .i64 day, .slice A3 K c3]) (w := W) rfl rfl (by go_simp) ?_
      refine (k22.out W hl.world).mono ?_
      rintro e w' ⟨rfl, hb⟩
      exact ⟨_, rfl, hK _ _ hb rfl⟩
    refine allB_cons (i := 5) rfl (fun a W hl K0 hK => ?_) ?_
    · have t38 : Is (.bool true) (a.tmps.getD 38 undef) W := hl.at_ 4 38 (by kernel_rfl)
      unfold Is at t38
      exact held_value (v := .bool false) (w' := W) rfl rfl (by go_simp) (hK _ _ (Below.refl _ _) rfl)
    refine allB_cons (i := 6) rfl (fun a W hl K0 hK => ?_) ?_
    · have t39 : Is (.bool false) (a.tmps.getD 39 undef) W := hl.at_ 5 39 (by kernel_rfl)
      unfold Is at t39
      exact held_value (v := .bool false) (w' := W) rfl rfl (by go_simp) (hK _ _ (Below.refl _ _) rfl)
    refine allB_cons (i := 7) rfl (fun a W hl K0 hK => ?_) ?_
    · have t11 : a.tmps.getD 11 undef = .slice A3 K c3 := hl.old 11 (by kernel_rfl)
      have q40 : Is (.bool false) (a.tmps.getD 40 undef) W := hl.at_ 6 40 (by kernel_rfl)
      unfold Is at q40
      exact held_valueg (v := .slice A3 K c3) (w' := W) rfl (wanted_of (j := 6) (d := 40) (b := false) rfl rfl rfl q40) (by go_simp) (hK _ _ (Below.refl _ _) rfl)
    refine allB_cons (i := 8) rfl (fun a W hl K0 hK => ?_) ?_
    · have t11 : a.tmps.getD 11 undef = .slice A3 K c3 := hl.old 11 (by kernel_rfl)
      have q40 : Is (.bool false) (a.tmps.getD 40 undef) W := hl.at_ 6 40 (by kernel_rfl)
      unfold Is at q40
      exact held_valueg (v := .slice A3 K c3) (w' := W) rfl (wanted_of (j := 6) (d := 40) (b := false) rfl rfl rfl q40) (by go_simp) (hK _ _ (Below.refl _ _) rfl)
    refine allB_cons (i := 9) rfl (fun a W hl K0 hK => ?_) ?_
    · have t41 : Is (.slice A3 K c3) (a.tmps.getD 41 undef) W := hl.at_ 7 41 (by kernel_rfl)
      unfold Is at t41
      have t42 : Is (.slice A3 K c3) (a.tmps.getD 42 undef) W := hl.at_ 8 42 (by kernel_rfl)
      unfold Is at t42
      have q40 : Is (.bool false) (a.tmps.getD 40 undef) W := hl.at_ 6 40 (by kernel_rfl)
      unfold Is at q40
      refine held_callg (f := 23) (args := #[.slice A3 K c3, .slice A3 K c3]) (w := W) rfl (wanted_of (j := 6) (d := 40) (b := false) rfl rfl rfl q40) (by go_simp) ?_
      refine (k23.out W hl.world).mono ?_
      rintro e w' ⟨v, rfl, ho, hb⟩
      exact ⟨v, rfl, hK _ _ hb ⟨_, ho⟩⟩
    refine allB_cons (i := 10) rfl (fun a W hl K0 hK => ?_) ?_
    · obtain ⟨B43, r43⟩ : RowF [] (a.tmps.getD 43 undef) W := hl.at_ 9 43 (by kernel_rfl)
      obtain ⟨A43, c43, t43⟩ := own_form r43
      rw [t43] at r43
      have q40 : Is (.bool false) (a.tmps.getD 40 undef) W := hl.at_ 6 40 (by kernel_rfl)
      unfold Is at q40
      rw [List.length_nil] at t43
      exact held_valueg (v := .int .i64 0) (w' := W) rfl (wanted_of (j := 6) (d := 40) (b := false) rfl rfl rfl q40) (by go_simp) (hK _ _ (Below.refl _ _) rfl)
    refine allB_cons (i := 11) rfl (fun a W hl K0 hK => ?_) ?_
    · have t44 : Is (.int .i64 0) (a.tmps.getD 44 undef) W := hl.at_ 10 44 (by kernel_rfl)
      unfold Is at t44
      have q40 : Is (.bool false) (a.tmps.getD 40 undef) W := hl.at_ 6 40 (by kernel_rfl)
      unfold Is at q40
      exact held_valueg (v := .bool false) (w' := W) rfl (wanted_of (j := 6) (d := 40) (b := false) rfl rfl rfl q40) (by go_simp) (hK _ _ (Below.refl _ _) rfl)
    refine allB_cons (i := 12) rfl (fun a W hl K0 hK => ?_) ?_
    · have t40 : Is (.bool false) (a.tmps.getD 40 undef) W := hl.at_ 6 40 (by kernel_rfl)
      unfold Is at t40
      have t45 : Is (.bool false) (a.tmps.getD 45 undef) W := hl.at_ 11 45 (by kernel_rfl)
      unfold Is at t45
      exact held_value (v := .bool false) (w' := W) rfl rfl (by go_simp) (hK _ _ (Below.refl _ _) rfl)
    refine allB_cons (i := 13) rfl (fun a W hl K0 hK => ?_) ?_
    · have t46 : Is (.bool false) (a.tmps.getD 46 undef) W := hl.at_ 12 46 (by kernel_rfl)
      unfold Is at t46
      exact held_value (v := .bool false) (w' := W) rfl rfl (by go_simp) (hK _ _ (Below.refl _ _) rfl)
    refine allB_cons (i := 14) rfl (fun a W hl K0 hK => ?_) ?_
    · have t11 : a.tmps.getD 11 undef = .slice A3 K c3 := hl.old 11 (by kernel_rfl)
      have q47 : Is (.bool false) (a.tmps.getD 47 undef) W := hl.at_ 13 47 (by kernel_rfl)
      unfold Is at q47
      exact held_valueg (v := .slice A3 K c3) (w' := W) rfl (wanted_of (j := 13) (d := 47) (b := false) rfl rfl rfl q47) (by go_simp) (hK _ _ (Below.refl _ _) rfl)
    refine allB_cons (i := 15) rfl (fun a W hl K0 hK => ?_) ?_
    · have t3 : a.tmps.getD 3 undef = .slice mA mn mc := hl.old 3 (by kernel_rfl)
      have q47 : Is (.bool false) (a.tmps.getD 47 undef) W := hl.at_ 13 47 (by kernel_rfl)
      unfold Is at q47
      exact held_valueg (v := .slice mA mn mc) (w' := W) rfl (wanted_of (j := 13) (d := 47) (b := false) rfl rfl rfl q47) (by go_simp) (hK _ _ (Below.refl _ _) rfl)
    refine allB_cons (i := 16) rfl (fun a W hl K0 hK => ?_) ?_
    · have t48 : Is (.slice A3 K c3) (a.tmps.getD 48 undef) W := hl.at_ 14 48 (by kernel_rfl)
      unfold Is at t48
      have t49 : Is (.slice mA mn mc) (a.tmps.getD 49 undef) W := hl.at_ 15 49 (by kernel_rfl)
      unfold Is at t49
      have q47 : Is (.bool false) (a.tmps.getD 47 undef) W := hl.at_ 13 47 (by kernel_rfl)
      unfold Is at q47
      refine held_callg (f := 23) (args := #[.slice A3 K c3, .slice mA mn mc]) (w := W) rfl (wanted_of (j := 13) (d := 47) (b := false) rfl rfl rfl q47) (by go_simp) ?_
      refine (k23m.out W hl.world).mono ?_
      rintro e w' ⟨v, rfl, ho, hb⟩
      exact ⟨v, rfl, hK _ _ hb ⟨_, ho⟩⟩
    refine allB_cons (i := 17) rfl (fun a W hl K0 hK => ?_) ?_
    · have t11 : a.tmps.getD 11 undef = .slice A3 K c3 := hl.old 11 (by kernel_rfl)
      have q47 : Is (.bool false) (a.tmps.getD 47 undef) W := hl.at_ 13 47 (by kernel_rfl)
      unfold Is at q47
      exact held_valueg (v := .slice A3 K c3) (w' := W) rfl (wanted_of (j := 13) (d := 47) (b := false) rfl rfl rfl q47) (by go_simp) (hK _ _ (Below.refl _ _) rfl)
    refine allB_cons (i := 18) rfl (fun a W hl K0 hK => ?_) ?_
    · have t3 : a.tmps.getD 3 undef = .slice mA mn mc := hl.old 3 (by kernel_rfl)
      have q47 : Is (.bool false) (a.tmps.getD 47 undef) W := hl.at_ 13 47 (by kernel_rfl)
      unfold Is at q47
      exact held_valueg (v := .slice mA mn mc) (w' := W) rfl (wanted_of (j := 13) (d := 47) (b := false) rfl rfl rfl q47) (by go_simp) (hK _ _ (Below.refl _ _) rfl)
    refine allB_cons (i := 19) rfl (fun a W hl K0 hK => ?_) ?_
    · have t51 : Is (.slice A3 K c3) (a.tmps.getD 51 undef) W := hl.at_ 17 51 (by kernel_rfl)
      unfold Is at t51
      have t52 : Is (.slice mA mn mc) (a.tmps.getD 52 undef) W := hl.at_ 18 52 (by kernel_rfl)
      unfold Is at t52
      have q47 : Is (.bool false) (a.tmps.getD 47 undef) W := hl.at_ 13 47 (by kernel_rfl)
      unfold Is at q47
      refine held_callg (f := 25) (args := #[.slice A3 K c3, .slice mA mn mc]) (w := W) rfl (wanted_of (j := 13) (d := 47) (b := false) rfl rfl rfl q47) (by go_simp) ?_
      refine (k25.out W hl.world).mono ?_
      rintro e w' ⟨v, rfl, ho, hb⟩
      exact ⟨v, rfl, hK _ _ hb ⟨_, ho⟩⟩
    refine allB_cons (i := 20) rfl (fun a W hl K0 hK => ?_) ?_
    · obtain ⟨B50, r50⟩ : RowF M1 (a.tmps.getD 50 undef) W := hl.at_ 16 50 (by kernel_rfl)
      obtain ⟨A50, c50, t50⟩ := own_form r50
      rw [t50] at r50
      obtain ⟨B53, r53⟩ : RowF M1 (a.tmps.getD 53 undef) W := hl.at_ 19 53 (by kernel_rfl)
      obtain ⟨A53, c53, t53⟩ := own_form r53
      rw [t53] at r53
      have q47 : Is (.bool false) (a.tmps.getD 47 undef) W := hl.at_ 13 47 (by kernel_rfl)
      unfold Is at q47
      refine held_callg (f := 24) (args := #[.slice A50 M1.length c50, .slice A53 M1.length c53]) (w := W) rfl (wanted_of (j := 13) (d := 47) (b := false) rfl rfl rfl q47) (by go_simp) ?_
      refine (k24.out W _ _ _ _ _ _ r50 r53).mono ?_
      rintro e w' ⟨rfl, hb⟩
      exact ⟨_, rfl, hK _ _ hb rfl⟩
    refine allB_cons (i := 21) rfl (fun a W hl K0 hK => ?_) ?_
    · have t54 : Is (.bool true) (a.tmps.getD 54 undef) W := hl.at_ 20 54 (by kernel_rfl)
      unfold Is at t54
      have q47 : Is (.bool false) (a.tmps.getD 47 undef) W := hl.at_ 13 47 (by kernel_rfl)
      unfold Is at q47
      exact held_valueg (v := .bool false) (w' := W) rfl (wanted_of (j := 13) (d := 47) (b := false) rfl rfl rfl q47) (by go_simp) (hK _ _ (Below.refl _ _) rfl)
    refine allB_cons (i := 22) rfl (fun a W hl K0 hK => ?_) ?_
    · have t47 : Is (.bool false) (a.tmps.getD 47 undef) W := hl.at_ 13 47 (by kernel_rfl)
      unfold Is at t47
      have t55 : Is (.bool false) (a.tmps.getD 55 undef) W := hl.at_ 21 55 (by kernel_rfl)
      unfold Is at t55
      exact held_value (v := .bool false) (w' := W) rfl rfl (by go_simp) (hK _ _ (Below.refl _ _) rfl)
    refine allB_cons (i := 23) rfl (fun a W hl K0 hK => ?_) ?_
    · have t56 : Is (.bool false) (a.tmps.getD 56 undef) W := hl.at_ 22 56 (by kernel_rfl)
      unfold Is at t56
      exact held_value (v := .bool false) (w' := W) rfl rfl (by go_simp) (hK _ _ (Below.refl _ _) rfl)
    refine allB_cons (i := 24) rfl (fun a W hl K0 hK => ?_) ?_
    · have t5 : a.tmps.getD 5 undef = .pointer (some ⟨w.heap.size, 0, none⟩) := hl.old 5 (by kernel_rfl)
      have q57 : Is (.bool false) (a.tmps.getD 57 undef) W := hl.at_ 23 57 (by kernel_rfl)
      unfold Is at q57
      have hbX : Blk W w.heap.size 46 C := hbd.out.below hl.world hbd.out.lt
      exact held_valueg (v := .agg C) (w' := W) rfl (wanted_of (j := 23) (d := 57) (b := false) rfl rfl rfl q57) (run_ldb rfl t5 hbX Tryz.underlying46 rfl hsz.out) (hK _ _ (Below.refl _ _) rfl)
    refine allB_cons (i := 25) rfl (fun a W hl K0 hK => ?_) ?_
    · have t1 : a.tmps.getD 1 undef = .slice A nn cc := hl.old 1 (by kernel_rfl)
      have q57 : Is (.bool false) (a.tmps.getD 57 undef) W := hl.at_ 23 57 (by kernel_rfl)
      unfold Is at q57
      exact held_valueg (v := .slice A nn cc) (w' := W) rfl (wanted_of (j := 23) (d := 57) (b := false) rfl rfl rfl q57) (by go_simp) (hK _ _ (Below.refl _ _) rfl)
    refine allB_cons (i := 26) rfl (fun a W hl K0 hK => ?_) ?_
    · have t2 : a.tmps.getD 2 undef = .int .i64 day := hl.old 2 (by kernel_rfl)
      have q57 : Is (.bool false) (a.tmps.getD 57 undef) W := hl.at_ 23 57 (by kernel_rfl)
      unfold Is at q57
      exact held_valueg (v := .int .i64 day) (w' := W) rfl (wanted_of (j := 23) (d := 57) (b := false) rfl rfl rfl q57) (by go_simp) (hK _ _ (Below.refl _ _) rfl)
    refine allB_cons (i := 27) rfl (fun a W hl K0 hK => ?_) ?_
    · have t3 : a.tmps.getD 3 undef = .slice mA mn mc := hl.old 3 (by kernel_rfl)
      have q57 : Is (.bool false) (a.tmps.getD 57 undef) W := hl.at_ 23 57 (by kernel_rfl)
      unfold Is at q57
      exact held_valueg (v := .slice mA mn mc) (w' := W) rfl (wanted_of (j := 23) (d := 57) (b := false) rfl rfl rfl q57) (by go_simp) (hK _ _ (Below.refl _ _) rfl)
    refine allB_cons (i := 28) rfl (fun a W hl K0 hK => ?_) ?_
    · have t58 : Is (.agg C) (a.tmps.getD 58 undef) W := hl.at_ 24 58 (by kernel_rfl)
      unfold Is at t58
      have t59 : Is (.slice A nn cc) (a.tmps.getD 59 undef) W := hl.at_ 25 59 (by kernel_rfl)
      unfold Is at t59
      have t60 : Is (.int .i64 day) (a.tmps.getD 60 undef) W := hl.at_ 26 60 (by kernel_rfl)
      unfold Is at t60
      have t61 : Is (.slice mA mn mc) (a.tmps.getD 61 undef) W := hl.at_ 27 61 (by kernel_rfl)
      unfold Is at t61
      have q57 : Is (.bool false) (a.tmps.getD 57 undef) W := hl.at_ 23 57 (by kernel_rfl)
      unfold Is at q57
      refine held_callg (f := 22) (args := #[.agg C, .slice A nn cc, .int .i64 day, .slice mA mn mc]) (w := W) rfl (wanted_of (j := 23) (d := 57) (b := false) rfl rfl rfl q57) (by go_simp) ?_
      refine (k22m.out W hl.world).mono ?_
      rintro e w' ⟨rfl, hb⟩
      exact ⟨_, rfl, hK _ _ hb rfl⟩
    refine allB_cons (i := 29) rfl (fun a W hl K0 hK => ?_) ?_
    · have t5 : a.tmps.getD 5 undef = .pointer (some ⟨w.heap.size, 0, none⟩) := hl.old 5 (by kernel_rfl)
      have q57 : Is (.bool false) (a.tmps.getD 57 undef) W := hl.at_ 23 57 (by kernel_rfl)
      unfold Is at q57
      have hbX : Blk W w.heap.size 46 C := hbd.out.below hl.world hbd.out.lt
      exact held_valueg (v := .agg C) (w' := W) rfl (wanted_of (j := 23) (d := 57) (b := false) rfl rfl rfl q57) (run_ldb rfl t5 hbX Tryz.underlying46 rfl hsz.out) (hK _ _ (Below.refl _ _) rfl)
    refine allB_cons (i := 30) rfl (fun a W hl K0 hK => ?_) ?_
    · have t1 : a.tmps.getD 1 undef = .slice A nn cc := hl.old 1 (by kernel_rfl)
      have q57 : Is (.bool false) (a.tmps.getD 57 undef) W := hl.at_ 23 57 (by kernel_rfl)
      unfold Is at q57
      exact held_valueg (v := .slice A nn cc) (w' := W) rfl (wanted_of (j := 23) (d := 57) (b := false) rfl rfl rfl q57) (by go_simp) (hK _ _ (Below.refl _ _) rfl)
    refine allB_cons (i := 31) rfl (fun a W hl K0 hK => ?_) ?_
    · have t2 : a.tmps.getD 2 undef = .int .i64 day := hl.old 2 (by kernel_rfl)
      have q57 : Is (.bool false) (a.tmps.getD 57 undef) W := hl.at_ 23 57 (by kernel_rfl)
      unfold Is at q57
      exact held_valueg (v := .int .i64 day) (w' := W) rfl (wanted_of (j := 23) (d := 57) (b := false) rfl rfl rfl q57) (by go_simp) (hK _ _ (Below.refl _ _) rfl)
    refine allB_cons (i := 32) rfl (fun a W hl K0 hK => ?_) ?_
    · have t3 : a.tmps.getD 3 undef = .slice mA mn mc := hl.old 3 (by kernel_rfl)
      have q57 : Is (.bool false) (a.tmps.getD 57 undef) W := hl.at_ 23 57 (by kernel_rfl)
      unfold Is at q57
      exact held_valueg (v := .slice mA mn mc) (w' := W) rfl (wanted_of (j := 23) (d := 57) (b := false) rfl rfl rfl q57) (by go_simp) (hK _ _ (Below.refl _ _) rfl)
    refine allB_cons (i := 33) rfl (fun a W hl K0 hK => ?_) ?_
    · have t63 : Is (.agg C) (a.tmps.getD 63 undef) W := hl.at_ 29 63 (by kernel_rfl)
      unfold Is at t63
      have t64 : Is (.slice A nn cc) (a.tmps.getD 64 undef) W := hl.at_ 30 64 (by kernel_rfl)
      unfold Is at t64
      have t65 : Is (.int .i64 day) (a.tmps.getD 65 undef) W := hl.at_ 31 65 (by kernel_rfl)
      unfold Is at t65
      have t66 : Is (.slice mA mn mc) (a.tmps.getD 66 undef) W := hl.at_ 32 66 (by kernel_rfl)
      unfold Is at t66
      have q57 : Is (.bool false) (a.tmps.getD 57 undef) W := hl.at_ 23 57 (by kernel_rfl)
      unfold Is at q57
      refine held_callg (f := 26) (args := #[.agg C, .slice A nn cc, .int .i64 day, .slice mA mn mc]) (w := W) rfl (wanted_of (j := 23) (d := 57) (b := false) rfl rfl rfl q57) (by go_simp) ?_
      refine (k26.out W hl.world).mono ?_
      rintro e w' ⟨rfl, hb⟩
      exact ⟨_, rfl, hK _ _ hb rfl⟩
    refine allB_cons (i := 34) rfl (fun a W hl K0 hK => ?_) ?_
    · have t62 : Is (.bool N) (a.tmps.getD 62 undef) W := hl.at_ 28 62 (by kernel_rfl)
      unfold Is at t62
      have t67 : Is (.bool N) (a.tmps.getD 67 undef) W := hl.at_ 33 67 (by kernel_rfl)
      unfold Is at t67
      have q57 : Is (.bool false) (a.tmps.getD 57 undef) W := hl.at_ 23 57 (by kernel_rfl)
      unfold Is at q57
      exact held_valueg (v := .bool false) (w' := W) rfl (wanted_of (j := 23) (d := 57) (b := false) rfl rfl rfl q57) (by go_simp) (hK _ _ (Below.refl _ _) rfl)
    refine allB_cons (i := 35) rfl (fun a W hl K0 hK => ?_) ?_
    · have t57 : Is (.bool false) (a.tmps.getD 57 undef) W := hl.at_ 23 57 (by kernel_rfl)
      unfold Is at t57
      have t68 : Is (.bool false) (a.tmps.getD 68 undef) W := hl.at_ 34 68 (by kernel_rfl)
      unfold Is at t68
      exact held_value (v := .bool false) (w' := W) rfl rfl (by go_simp) (hK _ _ (Below.refl _ _) rfl)
    exact allB_nil
  case fin =>
    intro vs w4 hR hG9
    have hv35 : vs 35 = .bool false := hG9 35 (by decide)
    have hB4 : Hid (Below w.heap.size w w4) := hBd.out.trans (hR.mono hBd.out.size)
    have hX4 := Lib.hid (hXd.out.at_ hR)
    have hb4 := Lib.hid (hbd.out.below hR hbd.out.lt)
    have hF4 := Lib.hid (hFd.out.below hR)
    clear hG9 hR k22 k22m k26 k23 k23m k25 k24 hXd hbd hFd hMd hBd
    simp only [putD, Act.put, List.setIfInBounds_toArray, List.set_cons_zero, List.set_cons_succ, hv35]
    clear hv35
    refine wpAny_done (by kernel_rfl) ?_ _
    by_cases hK0 : K = 0
    · subst hK0
      have hfine := Lib.hid (fine_any w4 C A nn cc day L hX4)
      rw [hK'.out] at hfine
      go_wp2_with (refine wpList_load_blk rfl 46 (.tmp 5) rfl w.heap.size C 46 _ rfl hb4.out Tryz.underlying46 rfl hsz.out ?_)
      refine hfine.out.mono ?_
      rintro e w5 ⟨rfl, hb5⟩
      have hB5 : Hid (Below w.heap.size w w5) := hB4.out.trans (hb5.mono hB4.out.size)
      clear hb5
      go_wp2_with fail
      go_ret
      exact ⟨rfl, hB5.out⟩
    have z1 : ((K : Int) == 0) = false := by simpa using hK0
    have z2 : ¬ (K : Int) = 0 := by omega
    obtain ⟨k, hk⟩ : ∃ z, ab % K = z := ⟨_, rfl⟩
    have hkK : k < K := by rw [← hk]; exact Nat.mod_lt _ (by omega)
    have hrem : Int.tmod (ab : Int) (K : Int) = (k : Int) := by rw [show Int.tmod (ab : Int) (K : Int) = ((ab % K : Nat) : Int) from rfl, hk]
    have hw1 : IntKind.i64.wrap (ab : Int) = (ab : Int) := IntWalk.i64_in _ (by omega)
    have hw2 : IntKind.i64.wrap (k : Int) = (k : Int) := IntWalk.i64_in _ (by have := hLl.out; omega)
    obtain ⟨x, hx⟩ : ∃ x, L[k]? = some x := ⟨_, List.getElem?_eq_getElem (by have := hK'.out; omega)⟩
    obtain ⟨b3, f3, rfl, _⟩ := hF4.out k x hx
    obtain ⟨LS, hLS⟩ : ∃ l, L.take k ++ L.drop (k + 1) = l := ⟨_, rfl⟩
    have hW1 := waive_less hnd.out hx
    have hN1 := needed_less hnd.out hx
    have hN2 := needed_twice hnd.out hx
    rw [hLS] at hW1 hN1 hN2
    have hW1' := Lib.hid hW1
    have hN1' := Lib.hid hN1
    have hN2' := Lib.hid hN2
    have hx' := Lib.hid hx
    have hLSc : Hid (fcells (L.take k) ++ fcells (L.drop (k + 1)) = fcells LS) := by unfold Hid; rw [← hLS, fcells_append]
    have hLSl : Hid (LS.length = k + (K - (k + 1))) := by
      unfold Hid; rw [← hLS, List.length_append, List.length_take, List.length_drop, hK'.out]; omega
    have hLSf : Hid (∀ y ∈ LS, y.fits) := Lib.hid fun y hy => by
      rw [← hLS] at hy
      rcases List.mem_append.1 hy with hy | hy
      · exact hLfit.out y (List.mem_of_mem_take hy)
      · exact hLfit.out y (List.mem_of_mem_drop hy)
    obtain ⟨k1, hk1⟩ : ∃ z, Hid (k + 1 = z) := ⟨_, rfl⟩
    have hw3 : IntKind.i64.wrap ((k : Int) + 1) = (k1 : Int) := by
      rw [← hk1.out]
      have := IntWalk.i64_in ((k : Int) + 1) (by have := hLl.out; omega)
      rw [this]; simp
    rw [hk1.out] at hLSc hLSl
    have hk1K : k1 ≤ K := by have := hk1.out; omega
    have hlo : Hid (∀ W, FaultsAt W (some ⟨b3, f3, none⟩) L → Reads W W.heap.size 4 (some ⟨b3, f3, none⟩) k (fcells (L.take k))) := Lib.hid fun W h => by
      have h1 := faults_sub h 0 (L.take k) (fun q y hy => by
        rw [List.getElem?_take] at hy
        split at hy
        · rw [Nat.zero_add]; exact hy
        · cases hy)
      rw [Nat.zero_mul, Nat.add_zero, List.length_take, hK'.out, Nat.min_eq_left (Nat.le_of_lt hkK)] at h1
      exact h1
    obtain ⟨P9, hP9⟩ : ∃ P : Option Addr, Hid ((if c3 = k1 then some (⟨b3, f3, none⟩ : Addr) else some ⟨b3, f3 + k1 * 4, none⟩) = P) := ⟨_, rfl⟩
    have hhi : Hid (∀ W, FaultsAt W (some ⟨b3, f3, none⟩) L → Reads W W.heap.size 4 P9 (K - k1) (fcells (L.drop k1))) := Lib.hid fun W h => by
      have h1 := faults_sub h k1 (L.drop k1) (fun q y hy => by rw [List.getElem?_drop] at hy; exact hy)
      rw [List.length_drop, hK'.out] at h1
      rw [← hP9.out]
      split
      · rename_i hc
        have h0 : K - k1 = 0 := by have := hKc'.out; omega
        rw [h0] at h1 ⊢
        exact ⟨h1.1, fun h => absurd h (by omega)⟩
      · exact h1
    clear hx hLS hW1 hN1 hN2 hk
    go_wp2_with fail
    refine wp_region_any (by kernel_rfl) ?_
    show wpAny _ _ _ _ _ _ _ w4.drew
    obtain ⟨we, hwe⟩ : ∃ x, w4.drew = x := ⟨_, rfl⟩
    have hbw : Below w4.heap.size w4 we := by rw [← hwe]; exact (Below.refl _ w4).drew
    rw [hwe]
    have hBe : Hid (Below w.heap.size w we) := hB4.out.trans (hbw.mono hB4.out.size)
    have hbe := Lib.hid (hb4.out.below hbw hb4.out.lt)
    have hFe := Lib.hid (hF4.out.below hbw)
    have hXe := Lib.hid (hX4.out.at_ hbw)
    clear hwe hbw hb4 hF4 hX4 hB4
    refine wpAny_take (i := 1) (v := .slice (some ⟨b3, f3, none⟩) K c3) rfl (by kernel_rfl) (by kernel_rfl) (by kernel_rfl) (fun _ _ _ h => h) (.inl ⟨by rfl, fun W => by go_simp⟩) ?_
    simp only [Act.put, List.getElem_toArray, List.getElem_cons_zero, List.getElem_cons_succ, List.setIfInBounds_toArray, List.set_cons_zero, List.set_cons_succ]
    refine wpAny_take (i := 2) (v := .int .i64 (k : Int)) rfl (by kernel_rfl) (by kernel_rfl) (by kernel_rfl) (fun _ _ _ h => h) (.inl ⟨by rfl, fun W => by go_simp⟩) ?_
    simp only [Act.put, List.getElem_toArray, List.getElem_cons_zero, List.getElem_cons_succ, List.setIfInBounds_toArray, List.set_cons_zero, List.set_cons_succ]
    refine wpAny_take (i := 3) (v := .slice (some ⟨b3, f3, none⟩) k c3) rfl (by kernel_rfl) (by kernel_rfl) (by kernel_rfl) (fun _ _ _ h => h) (.inl ⟨by rfl, fun W => by have hc := hKc'.out; go_simp <;> (intro h9; exact absurd h9 (by omega))⟩) ?_
    simp only [Act.put, List.getElem_toArray, List.getElem_cons_zero, List.getElem_cons_succ, List.setIfInBounds_toArray, List.set_cons_zero, List.set_cons_succ]
    refine wpAny_take (i := 5) (v := .slice (some ⟨b3, f3, none⟩) K c3) rfl (by kernel_rfl) (by kernel_rfl) (by kernel_rfl) (fun _ _ _ h => h) (.inl ⟨by rfl, fun W => by go_simp⟩) ?_
    simp only [Act.put, List.getElem_toArray, List.getElem_cons_zero, List.getElem_cons_succ, List.setIfInBounds_toArray, List.set_cons_zero, List.set_cons_succ]
    refine wpAny_take (i := 6) (v := .int .i64 (k : Int)) rfl (by kernel_rfl) (by kernel_rfl) (by kernel_rfl) (fun _ _ _ h => h) (.inl ⟨by rfl, fun W => by go_simp⟩) ?_
    simp only [Act.put, List.getElem_toArray, List.getElem_cons_zero, List.getElem_cons_succ, List.setIfInBounds_toArray, List.set_cons_zero, List.set_cons_succ]
    refine wpAny_take (i := 7) (v := .int .i64 (k1 : Int)) rfl (by kernel_rfl) (by kernel_rfl) (by kernel_rfl) (fun _ _ _ h => h) (.inl ⟨by rfl, fun W => by go_simp⟩) ?_
    simp only [Act.put, List.getElem_toArray, List.getElem_cons_zero, List.getElem_cons_succ, List.setIfInBounds_toArray, List.set_cons_zero, List.set_cons_succ]
    refine wpAny_take (i := 8) (v := .slice (if c3 = k1 then some ⟨b3, f3, none⟩ else some ⟨b3, f3 + k1 * 4, none⟩) (K - k1) (c3 - k1)) rfl (by kernel_rfl) (by kernel_rfl) (by kernel_rfl) (fun _ _ _ h => h) (.inl ⟨by rfl, fun W => by have hc := hKc'.out; go_simp <;> (intro h9; exact absurd h9 (by omega))⟩) ?_
    simp only [Act.put, List.getElem_toArray, List.getElem_cons_zero, List.getElem_cons_succ, List.setIfInBounds_toArray, List.set_cons_zero, List.set_cons_succ]
    rw [hP9.out]
    have s1 : Hid (0 + k ≤ maxLen) := by have := hLl.out; unfold Hid maxLen; omega
    have s2 : Hid ((0 + k) * 40 ≤ 140737488355328) := by have := hLl.out; unfold Hid; omega
    have s3 : Hid (k + (K - k1) ≤ maxLen) := by have := hLl.out; unfold Hid maxLen; omega
    have s4 : Hid ((k + (K - k1)) * 40 ≤ 140737488355328) := by have := hLl.out; unfold Hid; omega
    refine wpAny_next 0 (by kernel_rfl) ?_
    refine held_value (v := .slice (some ⟨we.heap.size, 0, none⟩) 0 0) (w' := we.alloc (.cells #[] 54)) rfl rfl (by go_simp) ?_
    have ho0 := own_new we 54 4
    have hblow : Below we.heap.size we (we.alloc (.cells #[] 54)) := (Below.refl _ we).alloc (Nat.le_refl _) _
    obtain ⟨W2, hEW2⟩ : ∃ X, we.alloc (.cells #[] 54) = X := ⟨_, rfl⟩
    rw [hEW2] at ho0 hblow ⊢
    obtain ⟨g0, hg0⟩ : ∃ g, we.heap.size = g := ⟨_, rfl⟩
    rw [hg0]
    simp only [Act.put, List.getElem_toArray, List.getElem_cons_zero, List.setIfInBounds_toArray, List.set_cons_zero, List.set_cons_succ]
    have ho0' : Hid (W2.ownsRow we.heap.size 54 4 (.slice (some ⟨g0, 0, none⟩) 0 0) 0 []) := by unfold Hid; have h := ho0; rw [← hg0]; rw [hg0] at h ⊢; exact h
    have hBB : Hid (Below we.heap.size we W2) := hblow
    have hrd4 := Lib.hid (hlo.out W2 (hFe.out.below hBB.out))
    have hsz4 := Lib.hid hBB.out.size
    have hone1 := Lib.hid (fcells_one (L.take k))
    have hone2 := Lib.hid (fcells_one (L.drop k1))
    clear ho0 hblow hEW2 hlo hg0
    refine wpAny_next 4 (by kernel_rfl) ?_
    refine held_append rfl rfl (.tmp 82) (.tmp 85) 47 rfl we.heap.size 54 iF _ 4 40 Tryz.underlying47 iFi iF0 iF1 iF2 rfl (by decide) (.slice (some ⟨g0, 0, none⟩) 0 0) 0 [] (by go_simp) ho0'.out W2.heap.size (some ⟨b3, f3, none⟩) k c3 (fcells (L.take k)) (by go_simp) hrd4.out hone1.out s1.out s2.out hsz4.out ?_
    intro v4 W4 ho4 hg4 hv4
    simp only [Act.put, List.getElem_toArray, List.getElem_cons_zero, List.getElem_cons_succ, List.setIfInBounds_toArray, List.set_cons_zero, List.set_cons_succ]
    rw [Nat.zero_add, List.nil_append] at ho4
    have hB4 := Lib.hid (hBB.out.grown hg4 hsz4.out (fun j hj => (ho0'.out.lt j hj).1))
    have ho4' := Lib.hid ho4
    have hrd9 := Lib.hid (hhi.out W4 (hFe.out.below hB4.out))
    have hsz9 := Lib.hid hB4.out.size
    clear ho4 hg4 hv4 hrd4 hsz4 hBB ho0' hhi
    refine wpAny_next 9 (by kernel_rfl) ?_
    refine held_append rfl rfl (.tmp 86) (.tmp 90) 47 rfl we.heap.size 54 iF _ 4 40 Tryz.underlying47 iFi iF0 iF1 iF2 rfl (by decide) v4 k (fcells (L.take k)) (by go_simp) ho4'.out W4.heap.size P9 (K - k1) (c3 - k1) (fcells (L.drop k1)) (by go_simp) hrd9.out hone2.out s3.out s4.out hsz9.out ?_
    intro v9 W9 ho9 hg9 hv9
    simp only [Act.put, List.getElem_toArray, List.getElem_cons_zero, List.getElem_cons_succ, List.setIfInBounds_toArray, List.set_cons_zero, List.set_cons_succ]
    have hB9 := Lib.hid (hB4.out.grown hg9 hsz9.out (fun j hj => (ho4'.out.lt j hj).1))
    rw [hLSc.out] at ho9
    obtain ⟨n13, hn13⟩ : ∃ z, k + (K - k1) = z := ⟨_, rfl⟩
    rw [hn13] at ho9 hLSl s3 s4
    have hn13' : n13 ≤ 20000 := by have := hLl.out; have := hk1.out; omega
    obtain ⟨A13, c13, rfl⟩ := own_form ho9
    have ho9' := Lib.hid ho9
    clear ho9 hg9 hv9 hrd9 hsz9 hB4 ho4' hn13 s1 s2 s3 s4
    refine wpAny_next 10 (by kernel_rfl) ?_
    refine held_value (v := .slice A13 n13 c13) (w' := W9) rfl rfl (by go_simp) ?_
    simp only [Act.put, List.getElem_toArray, List.getElem_cons_zero, List.getElem_cons_succ, List.setIfInBounds_toArray, List.set_cons_zero, List.set_cons_succ]
    refine wpAny_done (by kernel_rfl) ?_ _
    obtain ⟨_, _, eL, _, hFL⟩ := own_faults ho9'.out hLSl.out
    simp only [Value.slice.injEq, true_and] at eL
    obtain ⟨rfl, rfl⟩ := eL
    have hB10 : Hid (Below w.heap.size w W9) := hBe.out.trans (hB9.out.mono hBe.out.size)
    have hFL' := Lib.hid hFL
    have hF9 := Lib.hid (hFe.out.below hB9.out)
    have hX9 := Lib.hid (hXe.out.at_ hB9.out)
    have hb9 := Lib.hid (hbe.out.below hB9.out hbe.out.lt)
    have hwv := Lib.hid (waive_any (some ⟨b3, f3, none⟩) A13 K c3 n13 c13 L LS W9 hK' hLSl hK5 (by omega) hF9 hFL' hLfit hLSf)
    rw [hW1'.out] at hwv
    have hwe9 := Lib.hid hBe.out.size
    clear hFL hFe hXe hbe hBe hB9
    go_wp2_with fail
    refine hwv.out.mono ?_
    rintro e w11 ⟨v14, rfl, ho14, hb11⟩
    obtain ⟨g14, c14, rfl, _, _⟩ := own_formS ho14 (by simp)
    have ho14' := Lib.hid ho14
    have hB11 : Hid (Below w.heap.size w w11) := hB10.out.trans (hb11.mono hB10.out.size)
    have ho11 := Lib.hid (own_below ho9'.out hb11)
    have hFL11 := Lib.hid (hFL'.out.below hb11)
    have hF11 := Lib.hid (hF9.out.below hb11)
    have hX11 := Lib.hid (hX9.out.at_ hb11)
    have hb11' := Lib.hid (hb9.out.below hb11 hb9.out.lt)
    clear ho14 hb11 hwv ho9' hFL' hF9 hX9 hb9 hB10
    go_wp2_with fail
    refine wp_region_any (by kernel_rfl) ?_
    show wpAny _ _ _ _ _ _ _ w11.drew
    obtain ⟨wf, hwf⟩ : ∃ x, w11.drew = x := ⟨_, rfl⟩
    have hbw : Below w11.heap.size w11 wf := by rw [← hwf]; exact (Below.refl _ w11).drew
    rw [hwf]
    have hBf : Hid (Below w.heap.size w wf) := hB11.out.trans (hbw.mono hB11.out.size)
    have hbf := Lib.hid (hb11'.out.below hbw hb11'.out.lt)
    have hFf := Lib.hid (hF11.out.below hbw)
    have hXf := Lib.hid (hX11.out.at_ hbw)
    have hFLf := Lib.hid (hFL11.out.below hbw)
    have ho13f := Lib.hid (own_below ho11.out hbw)
    have ho14f := Lib.hid (own_below ho14'.out hbw)
    clear hwf hbw hb11' hF11 hX11 hB11 hFL11 ho11 ho14'
    have k22l := Lib.hid (fun (W : World) (h : Below wf.heap.size wf W) => needed_any W C A nn cc day L (Lib.hid (hXf.out.at_ h)) A13 n13 c13 LS hLSl (by omega) (Lib.hid (hFLf.out.below h)) hLSf)
    rw [hN1'.out] at k22l
    have hc14 : Hid (∀ W, Below wf.heap.size wf W → W.cell? ⟨g14, 0, none⟩ = some (.int .i64 x.paper) ∧ W.cell? ⟨g14, 1, none⟩ = some (.int .i64 x.kind) ∧ W.cell? ⟨g14, 2, none⟩ = some (.string x.field) ∧ W.cell? ⟨g14, 3, none⟩ = some (.int .i64 x.why)) := Lib.hid fun W h => by
      obtain ⟨A', c', e', _, hf⟩ := own_faults (own_below ho14f.out h) rfl
      obtain ⟨b, off, e, h0, h1, h2, h3⟩ := hf 0 x rfl
      simp only [Value.slice.injEq, true_and] at e'
      obtain ⟨rfl, rfl⟩ := e'
      simp only [Option.some.injEq, Addr.mk.injEq, and_true] at e
      obtain ⟨rfl, rfl⟩ := e
      exact ⟨by simpa using h0, by simpa using h1, by simpa using h2, by simpa using h3⟩
    have hcx : Hid (∀ W, Below wf.heap.size wf W → W.cell? ⟨b3, f3 + k * 4, none⟩ = some (.int .i64 x.paper) ∧ W.cell? ⟨b3, f3 + k * 4 + 1, none⟩ = some (.int .i64 x.kind) ∧ W.cell? ⟨b3, f3 + k * 4 + 2, none⟩ = some (.string x.field) ∧ W.cell? ⟨b3, f3 + k * 4 + 3, none⟩ = some (.int .i64 x.why)) := Lib.hid fun W h => by
      obtain ⟨b, off, e, h0, h1, h2, h3⟩ := (hFf.out.below h) k x hx'.out
      simp only [Option.some.injEq, Addr.mk.injEq, and_true] at e
      obtain ⟨rfl, rfl⟩ := e
      exact ⟨h0, h1, h2, h3⟩
    have heqx : Hid (∀ W, (binOp .eql 54 (.agg #[.int .i64 x.paper, .int .i64 x.kind, .string x.field, .int .i64 x.why]) (.agg #[.int .i64 x.paper, .int .i64 x.kind, .string x.field, .int .i64 x.why])).run Tryz.prog W = .ok (.bool true) W) := Lib.hid fun W => by
      have := eq_flt x x W
      rw [eqF_iff.2 rfl] at this
      exact this
    have hk0 : Hid ((k : Int) < (K : Int)) := by unfold Hid; omega
    have hk1' : Hid ((0 : Int) ≤ (k : Int)) := by unfold Hid; omega
    clear z1 z2 hrem hw1 hw2 hw3
    refine wpAny_body 126 (List.range 21) [21, 22, 23, 24, 25, 26, 27, 28, 29, 30, 31] 21 [(0, some 95), (1, some 96), (2, some 97), (3, some 98), (4, some 99), (5, some 100), (6, some 101), (7, some 102), (8, some 103), (9, some 104), (10, some 105), (11, some 106), (12, some 107), (13, some 108), (14, some 109), (15, some 110), (16, some 111), (17, some 112), (18, some 113), (19, some 114), (20, some 115)] (Array.replicate 32 false) (Array.replicate 21 true ++ Array.replicate 11 false) (fun a b => Below a.heap.size a b) (fun i => (tyW11 C A A13 nn cc n13 c13 g14 c14 b3 f3 K c3 k day x).getD i (fun _ _ => True)) (by kernel_rfl) rfl rfl (Below.refl _ _) (fun _ _ _ h k => h.trans (k.mono h.size)) (fun i v W W' h hb => mono_at (tyW11_mono C A A13 nn cc n13 c13 g14 c14 b3 f3 K c3 k day x) i h hb) ?step ?fin _ rfl
    case step =>
      refine allB_cons (i := 0) rfl (fun a W hl K0 hK => ?_) ?_
      · have t5 : a.tmps.getD 5 undef = .pointer (some ⟨w.heap.size, 0, none⟩) := hl.old 5 (by kernel_rfl)
        have hbX : Blk W w.heap.size 46 C := hbf.out.below hl.world hbf.out.lt
        exact held_value (v := .agg C) (w' := W) rfl rfl (run_ldb rfl t5 hbX Tryz.underlying46 rfl hsz.out) (hK _ _ (Below.refl _ _) rfl)
      refine allB_cons (i := 1) rfl (fun a W hl K0 hK => ?_) ?_
      · have t1 : a.tmps.getD 1 undef = .slice A nn cc := hl.old 1 (by kernel_rfl)
        exact held_value (v := .slice A nn cc) (w' := W) rfl rfl (by go_simp) (hK _ _ (Below.refl _ _) rfl)
      refine allB_cons (i := 2) rfl (fun a W hl K0 hK => ?_) ?_
      · have t2 : a.tmps.getD 2 undef = .int .i64 day := hl.old 2 (by kernel_rfl)
        exact held_value (v := .int .i64 day) (w' := W) rfl rfl (by go_simp) (hK _ _ (Below.refl _ _) rfl)
      refine allB_cons (i := 3) rfl (fun a W hl K0 hK => ?_) ?_
      · have t13 : a.tmps.getD 13 undef = .slice A13 n13 c13 := hl.old 13 (by kernel_rfl)
        exact held_value (v := .slice A13 n13 c13) (w' := W) rfl rfl (by go_simp) (hK _ _ (Below.refl _ _) rfl)
      refine allB_cons (i := 4) rfl (fun a W hl K0 hK => ?_) ?_
      · have t95 : Is (.agg C) (a.tmps.getD 95 undef) W := hl.at_ 0 95 (by kernel_rfl)
        unfold Is at t95
        have t96 : Is (.slice A nn cc) (a.tmps.getD 96 undef) W := hl.at_ 1 96 (by kernel_rfl)
        unfold Is at t96
        have t97 : Is (.int .i64 day) (a.tmps.getD 97 undef) W := hl.at_ 2 97 (by kernel_rfl)
        unfold Is at t97
        have t98 : Is (.slice A13 n13 c13) (a.tmps.getD 98 undef) W := hl.at_ 3 98 (by kernel_rfl)
        unfold Is at t98
        refine held_call (f := 22) (args := #[.agg C, .slice A nn cc, .int .i64 day, .slice A13 n13 c13]) (w := W) rfl rfl (by go_simp) ?_
        refine (k22l.out W hl.world).mono ?_
        rintro e w' ⟨rfl, hb⟩
        exact ⟨_, rfl, hK _ _ hb rfl⟩
      refine allB_cons (i := 5) rfl (fun a W hl K0 hK => ?_) ?_
      · have t99 : Is (.bool false) (a.tmps.getD 99 undef) W := hl.at_ 4 99 (by kernel_rfl)
        unfold Is at t99
        exact held_value (v := .bool true) (w' := W) rfl rfl (by go_simp) (hK _ _ (Below.refl _ _) rfl)
      refine allB_cons (i := 6) rfl (fun a W hl K0 hK => ?_) ?_
      · have t100 : Is (.bool true) (a.tmps.getD 100 undef) W := hl.at_ 5 100 (by kernel_rfl)
        unfold Is at t100
        exact held_value (v := .bool true) (w' := W) rfl rfl (by go_simp) (hK _ _ (Below.refl _ _) rfl)
      refine allB_cons (i := 7) rfl (fun a W hl K0 hK => ?_) ?_
      · have t14 : a.tmps.getD 14 undef = .slice (some ⟨g14, 0, none⟩) 1 c14 := hl.old 14 (by kernel_rfl)
        have q101 : Is (.bool true) (a.tmps.getD 101 undef) W := hl.at_ 6 101 (by kernel_rfl)
        unfold Is at q101
        exact held_valueg (v := .slice (some ⟨g14, 0, none⟩) 1 c14) (w' := W) rfl (wanted_of (j := 6) (d := 101) (b := true) rfl rfl rfl q101) (by go_simp) (hK _ _ (Below.refl _ _) rfl)
      refine allB_cons (i := 8) rfl (fun a W hl K0 hK => ?_) ?_
      · have t102 : Is (.slice (some ⟨g14, 0, none⟩) 1 c14) (a.tmps.getD 102 undef) W := hl.at_ 7 102 (by kernel_rfl)
        unfold Is at t102
        have q101 : Is (.bool true) (a.tmps.getD 101 undef) W := hl.at_ 6 101 (by kernel_rfl)
        unfold Is at q101
        exact held_valueg (v := .int .i64 1) (w' := W) rfl (wanted_of (j := 6) (d := 101) (b := true) rfl rfl rfl q101) (by go_simp) (hK _ _ (Below.refl _ _) rfl)
      refine allB_cons (i := 9) rfl (fun a W hl K0 hK => ?_) ?_
      · have t103 : Is (.int .i64 1) (a.tmps.getD 103 undef) W := hl.at_ 8 103 (by kernel_rfl)
        unfold Is at t103
        have q101 : Is (.bool true) (a.tmps.getD 101 undef) W := hl.at_ 6 101 (by kernel_rfl)
        unfold Is at q101
        exact held_valueg (v := .bool true) (w' := W) rfl (wanted_of (j := 6) (d := 101) (b := true) rfl rfl rfl q101) (by go_simp) (hK _ _ (Below.refl _ _) rfl)
      refine allB_cons (i := 10) rfl (fun a W hl K0 hK => ?_) ?_
      · have t101 : Is (.bool true) (a.tmps.getD 101 undef) W := hl.at_ 6 101 (by kernel_rfl)
        unfold Is at t101
        have t104 : Is (.bool true) (a.tmps.getD 104 undef) W := hl.at_ 9 104 (by kernel_rfl)
        unfold Is at t104
        exact held_value (v := .bool true) (w' := W) rfl rfl (by go_simp) (hK _ _ (Below.refl _ _) rfl)
      refine allB_cons (i := 11) rfl (fun a W hl K0 hK => ?_) ?_
      · have t105 : Is (.bool true) (a.tmps.getD 105 undef) W := hl.at_ 10 105 (by kernel_rfl)
        unfold Is at t105
        exact held_value (v := .bool true) (w' := W) rfl rfl (by go_simp) (hK _ _ (Below.refl _ _) rfl)
      refine allB_cons (i := 12) rfl (fun a W hl K0 hK => ?_) ?_
      · have t14 : a.tmps.getD 14 undef = .slice (some ⟨g14, 0, none⟩) 1 c14 := hl.old 14 (by kernel_rfl)
        have q106 : Is (.bool true) (a.tmps.getD 106 undef) W := hl.at_ 11 106 (by kernel_rfl)
        unfold Is at q106
        exact held_valueg (v := .slice (some ⟨g14, 0, none⟩) 1 c14) (w' := W) rfl (wanted_of (j := 11) (d := 106) (b := true) rfl rfl rfl q106) (by go_simp) (hK _ _ (Below.refl _ _) rfl)
      refine allB_cons (i := 13) rfl (fun a W hl K0 hK => ?_) ?_
      · have t107 : Is (.slice (some ⟨g14, 0, none⟩) 1 c14) (a.tmps.getD 107 undef) W := hl.at_ 12 107 (by kernel_rfl)
        unfold Is at t107
        have q106 : Is (.bool true) (a.tmps.getD 106 undef) W := hl.at_ 11 106 (by kernel_rfl)
        unfold Is at q106
        exact held_valueg (v := .pointer (some ⟨g14, 0, none⟩)) (w' := W) rfl (wanted_of (j := 11) (d := 106) (b := true) rfl rfl rfl q106) (by go_simp) (hK _ _ (Below.refl _ _) rfl)
      refine allB_cons (i := 14) rfl (fun a W hl K0 hK => ?_) ?_
      · have t108 : Is (.pointer (some ⟨g14, 0, none⟩)) (a.tmps.getD 108 undef) W := hl.at_ 13 108 (by kernel_rfl)
        unfold Is at t108
        have q106 : Is (.bool true) (a.tmps.getD 106 undef) W := hl.at_ 11 106 (by kernel_rfl)
        unfold Is at q106
        obtain ⟨y0, y1, y2, y3⟩ := hc14.out W hl.world
        exact held_valueg (v := .agg #[.int .i64 x.paper, .int .i64 x.kind, .string x.field, .int .i64 x.why]) (w' := W) rfl (wanted_of (j := 11) (d := 106) (b := true) rfl rfl rfl q106) (by go_simp) (hK _ _ (Below.refl _ _) rfl)
      refine allB_cons (i := 15) rfl (fun a W hl K0 hK => ?_) ?_
      · have t11 : a.tmps.getD 11 undef = .slice (some ⟨b3, f3, none⟩) K c3 := hl.old 11 (by kernel_rfl)
        have q106 : Is (.bool true) (a.tmps.getD 106 undef) W := hl.at_ 11 106 (by kernel_rfl)
        unfold Is at q106
        exact held_valueg (v := .slice (some ⟨b3, f3, none⟩) K c3) (w' := W) rfl (wanted_of (j := 11) (d := 106) (b := true) rfl rfl rfl q106) (by go_simp) (hK _ _ (Below.refl _ _) rfl)
      refine allB_cons (i := 16) rfl (fun a W hl K0 hK => ?_) ?_
      · have t12 : a.tmps.getD 12 undef = .int .i64 (k : Int) := hl.old 12 (by kernel_rfl)
        have q106 : Is (.bool true) (a.tmps.getD 106 undef) W := hl.at_ 11 106 (by kernel_rfl)
        unfold Is at q106
        exact held_valueg (v := .int .i64 (k : Int)) (w' := W) rfl (wanted_of (j := 11) (d := 106) (b := true) rfl rfl rfl q106) (by go_simp) (hK _ _ (Below.refl _ _) rfl)
      refine allB_cons (i := 17) rfl (fun a W hl K0 hK => ?_) ?_
      · have t110 : Is (.slice (some ⟨b3, f3, none⟩) K c3) (a.tmps.getD 110 undef) W := hl.at_ 15 110 (by kernel_rfl)
        unfold Is at t110
        have t111 : Is (.int .i64 (k : Int)) (a.tmps.getD 111 undef) W := hl.at_ 16 111 (by kernel_rfl)
        unfold Is at t111
        have q106 : Is (.bool true) (a.tmps.getD 106 undef) W := hl.at_ 11 106 (by kernel_rfl)
        unfold Is at q106
        have i1 := hk0.out
        have i2 := hk1'.out
        exact held_valueg (v := .pointer (some ⟨b3, f3 + k * 4, none⟩)) (w' := W) rfl (wanted_of (j := 11) (d := 106) (b := true) rfl rfl rfl q106) (by go_simp) (hK _ _ (Below.refl _ _) rfl)
      refine allB_cons (i := 18) rfl (fun a W hl K0 hK => ?_) ?_
      · have t112 : Is (.pointer (some ⟨b3, f3 + k * 4, none⟩)) (a.tmps.getD 112 undef) W := hl.at_ 17 112 (by kernel_rfl)
        unfold Is at t112
        have q106 : Is (.bool true) (a.tmps.getD 106 undef) W := hl.at_ 11 106 (by kernel_rfl)
        unfold Is at q106
        obtain ⟨y0, y1, y2, y3⟩ := hcx.out W hl.world
        exact held_valueg (v := .agg #[.int .i64 x.paper, .int .i64 x.kind, .string x.field, .int .i64 x.why]) (w' := W) rfl (wanted_of (j := 11) (d := 106) (b := true) rfl rfl rfl q106) (by go_simp) (hK _ _ (Below.refl _ _) rfl)
      refine allB_cons (i := 19) rfl (fun a W hl K0 hK => ?_) ?_
      · have t109 : Is (.agg #[.int .i64 x.paper, .int .i64 x.kind, .string x.field, .int .i64 x.why]) (a.tmps.getD 109 undef) W := hl.at_ 14 109 (by kernel_rfl)
        unfold Is at t109
        have t113 : Is (.agg #[.int .i64 x.paper, .int .i64 x.kind, .string x.field, .int .i64 x.why]) (a.tmps.getD 113 undef) W := hl.at_ 18 113 (by kernel_rfl)
        unfold Is at t113
        have q106 : Is (.bool true) (a.tmps.getD 106 undef) W := hl.at_ 11 106 (by kernel_rfl)
        unfold Is at q106
        have hqe := heqx.out W
        have hqg := Tryz.eqg54
        exact held_valueg (v := .bool true) (w' := W) rfl (wanted_of (j := 11) (d := 106) (b := true) rfl rfl rfl q106) (by go_simp) (hK _ _ (Below.refl _ _) rfl)
      refine allB_cons (i := 20) rfl (fun a W hl K0 hK => ?_) ?_
      · have t106 : Is (.bool true) (a.tmps.getD 106 undef) W := hl.at_ 11 106 (by kernel_rfl)
        unfold Is at t106
        have t114 : Is (.bool true) (a.tmps.getD 114 undef) W := hl.at_ 19 114 (by kernel_rfl)
        unfold Is at t114
        exact held_value (v := .bool true) (w' := W) rfl rfl (by go_simp) (hK _ _ (Below.refl _ _) rfl)
      exact allB_nil
    case fin =>
      intro vs w12 hR hG9
      have hv0 : vs 0 = .agg C := hG9 0 (by decide)
      have hv1 : vs 1 = .slice A nn cc := hG9 1 (by decide)
      have hv2 : vs 2 = .int .i64 day := hG9 2 (by decide)
      have hv3 : vs 3 = .slice A13 n13 c13 := hG9 3 (by decide)
      have hv4 : vs 4 = .bool false := hG9 4 (by decide)
      have hv5 : vs 5 = .bool true := hG9 5 (by decide)
      have hv6 : vs 6 = .bool true := hG9 6 (by decide)
      have hv7 : vs 7 = .slice (some ⟨g14, 0, none⟩) 1 c14 := hG9 7 (by decide)
      have hv8 : vs 8 = .int .i64 1 := hG9 8 (by decide)
      have hv9 : vs 9 = .bool true := hG9 9 (by decide)
      have hv10 : vs 10 = .bool true := hG9 10 (by decide)
      have hv11 : vs 11 = .bool true := hG9 11 (by decide)
      have hv12 : vs 12 = .slice (some ⟨g14, 0, none⟩) 1 c14 := hG9 12 (by decide)
      have hv13 : vs 13 = .pointer (some ⟨g14, 0, none⟩) := hG9 13 (by decide)
      have hv14 : vs 14 = .agg #[.int .i64 x.paper, .int .i64 x.kind, .string x.field, .int .i64 x.why] := hG9 14 (by decide)
      have hv15 : vs 15 = .slice (some ⟨b3, f3, none⟩) K c3 := hG9 15 (by decide)
      have hv16 : vs 16 = .int .i64 (k : Int) := hG9 16 (by decide)
      have hv17 : vs 17 = .pointer (some ⟨b3, f3 + k * 4, none⟩) := hG9 17 (by decide)
      have hv18 : vs 18 = .agg #[.int .i64 x.paper, .int .i64 x.kind, .string x.field, .int .i64 x.why] := hG9 18 (by decide)
      have hv19 : vs 19 = .bool true := hG9 19 (by decide)
      have hv20 : vs 20 = .bool true := hG9 20 (by decide)
      have hB12 : Hid (Below w.heap.size w w12) := hBf.out.trans (hR.mono hBf.out.size)
      have hb12 := Lib.hid (hbf.out.below hR hbf.out.lt)
      have hX12 := Lib.hid (hXf.out.at_ hR)
      have ho12 := Lib.hid (own_below ho13f.out hR)
      have hFL12 := Lib.hid (hFLf.out.below hR)
      clear hG9 hR k22l hc14 hcx heqx hXf hbf hFf hFLf ho13f ho14f hBf
      simp only [putD, Act.put, List.setIfInBounds_toArray, List.set_cons_zero, List.set_cons_succ, hv0, hv1, hv2, hv3, hv4, hv5, hv6, hv7, hv8, hv9, hv10, hv11, hv12, hv13, hv14, hv15, hv16, hv17, hv18, hv19, hv20]
      clear hv0 hv1 hv2 hv3 hv4 hv5 hv6 hv7 hv8 hv9 hv10 hv11 hv12 hv13 hv14 hv15 hv16 hv17 hv18 hv19 hv20
      refine wpAny_next 21 (by kernel_rfl) ?_
      refine held_value (v := .bool true) (w' := w12) rfl rfl (by go_simp) ?_
      simp only [Act.put, List.getElem_toArray, List.getElem_cons_zero, List.getElem_cons_succ, List.setIfInBounds_toArray, List.set_cons_zero, List.set_cons_succ]
      refine wpAny_take (i := 23) (v := .slice A nn cc) rfl (by kernel_rfl) (by kernel_rfl) (by kernel_rfl) (fun _ _ _ h => h) (.inl ⟨by rfl, fun W => by go_simp⟩) ?_
      simp only [Act.put, List.getElem_toArray, List.getElem_cons_zero, List.getElem_cons_succ, List.setIfInBounds_toArray, List.set_cons_zero, List.set_cons_succ]
      refine wpAny_take (i := 24) (v := .int .i64 day) rfl (by kernel_rfl) (by kernel_rfl) (by kernel_rfl) (fun _ _ _ h => h) (.inl ⟨by rfl, fun W => by go_simp⟩) ?_
      simp only [Act.put, List.getElem_toArray, List.getElem_cons_zero, List.getElem_cons_succ, List.setIfInBounds_toArray, List.set_cons_zero, List.set_cons_succ]
      refine wpAny_take (i := 25) (v := .slice A13 n13 c13) rfl (by kernel_rfl) (by kernel_rfl) (by kernel_rfl) (fun _ _ _ h => h) (.inl ⟨by rfl, fun W => by go_simp⟩) ?_
      simp only [Act.put, List.getElem_toArray, List.getElem_cons_zero, List.getElem_cons_succ, List.setIfInBounds_toArray, List.set_cons_zero, List.set_cons_succ]
      refine wpAny_take (i := 26) (v := .slice A13 n13 c13) rfl (by kernel_rfl) (by kernel_rfl) (by kernel_rfl) (fun _ _ _ h => h) (.inl ⟨by rfl, fun W => by go_simp⟩) ?_
      simp only [Act.put, List.getElem_toArray, List.getElem_cons_zero, List.getElem_cons_succ, List.setIfInBounds_toArray, List.set_cons_zero, List.set_cons_succ]
      have s1 : Hid (n13 + n13 ≤ maxLen) := by unfold Hid maxLen; omega
      have s2 : Hid ((n13 + n13) * 40 ≤ 140737488355328) := by unfold Hid; omega
      have hone := Lib.hid (fcells_one LS)
      have hl2 : Hid ((LS ++ LS).length = n13 + n13) := by unfold Hid; rw [List.length_append, hLSl.out]
      have hf2 : Hid (∀ y ∈ LS ++ LS, y.fits) := Lib.hid fun y hy => by
        rcases List.mem_append.1 hy with hy | hy <;> exact hLSf.out y hy
      have hrd : Hid (∀ W, FaultsAt W A13 LS → Reads W W.heap.size 4 A13 n13 (fcells LS)) := Lib.hid fun W h => by
        rcases Nat.eq_zero_or_pos n13 with h0 | h0
        · have h1 : LS = [] := List.eq_nil_of_length_eq_zero (by rw [hLSl.out]; exact h0)
          subst h1
          rw [h0]
          exact ⟨rfl, fun h => absurd h (by omega)⟩
        · obtain ⟨y, hy⟩ : ∃ y, LS[0]? = some y := ⟨_, List.getElem?_eq_getElem (by rw [hLSl.out]; exact h0)⟩
          obtain ⟨b, off, rfl, _⟩ := h 0 y hy
          have h1 := faults_sub h 0 LS (fun q y hy => by rw [Nat.zero_add]; exact hy)
          rw [Nat.zero_mul, Nat.add_zero, hLSl.out] at h1
          exact h1
      have hlast : Hid (∀ (W : World) (v : Value), Below w.heap.size w W → ExamC W C A nn cc day L → W.ownsRow w.heap.size 54 4 v (n13 + n13) (fcells LS ++ fcells LS) → ∃ A' c', v = .slice A' (n13 + n13) c' ∧ Calls Tryz.prog 22 #[.agg C, .slice A nn cc, .int .i64 day, .slice A' (n13 + n13) c'] W fun e w' => e = .returned (.bool false) ∧ Below W.heap.size W w') := Lib.hid fun W v hb hX ho => by
        rw [← fcells_append] at ho
        obtain ⟨A', c', rfl, _, hf⟩ := own_faults ho hl2.out
        refine ⟨A', c', rfl, ?_⟩
        have := needed_any W C A nn cc day L (Lib.hid hX) A' (n13 + n13) c' (LS ++ LS) hl2 (by omega) (Lib.hid hf) hf2
        rw [hN2'.out] at this
        exact this
      have hbz : Hid (w.heap.size ≤ w12.heap.size) := Lib.hid hB12.out.size
      have hrd12 := Lib.hid (hrd.out w12 hFL12.out)
      have ho12' := Lib.hid (own_mono ho12.out (show w.heap.size ≤ we.heap.size from hwe9.out))
      have hne : (Value.slice A13 n13 c13).ownBlock ≠ some w.heap.size := own_blk_ne ho12.out hb12.out (by decide)
      have hne' := Lib.hid hne
      clear hne
      refine wpAny_all (rs := [22, 27]) (by kernel_rfl) (by simp) ?_
      intro i hi6
      simp only [List.mem_cons, List.not_mem_nil, or_false] at hi6
      rcases hi6 with rfl | rfl
      · refine held_valueg (v := .agg C) (w' := w12) rfl (by rfl) (run_ldb rfl (by rfl) hb12.out Tryz.underlying46 rfl hsz.out) ?_
        simp only [Act.put, List.getElem_toArray, List.getElem_cons_zero, List.getElem_cons_succ, List.setIfInBounds_toArray, List.set_cons_zero, List.set_cons_succ]
        refine wpAny_next 27 (by kernel_rfl) ?_
        refine held_appendg rfl (by rfl) (.tmp 120) (.tmp 121) 47 rfl w.heap.size 54 iF _ 4 40 Tryz.underlying47 iFi iF0 iF1 iF2 rfl (by decide) (.slice A13 n13 c13) n13 (fcells LS) (by go_simp) ho12'.out w12.heap.size A13 n13 c13 (fcells LS) (by go_simp) hrd12.out hone.out s1.out s2.out hbz.out ?_
        intro v13 w13 ho13 hg13 hv13
        simp only [Act.put, List.getElem_toArray, List.getElem_cons_zero, List.getElem_cons_succ, List.setIfInBounds_toArray, List.set_cons_zero, List.set_cons_succ]
        have hB13 := Lib.hid (hB12.out.grown hg13 hbz.out (fun j hj => (ho12'.out.lt j hj).1))
        obtain ⟨A', c', rfl, hnd13⟩ := hlast.out w13 v13 hB13.out (hXw.out w13 hB13.out) ho13
        have hnd13' := Lib.hid hnd13
        clear ho13 hg13 hv13 hnd13 hlast
        refine wpAny_next 28 (by kernel_rfl) ?_
        refine held_callg (f := 22) (args := #[.agg C, .slice A nn cc, .int .i64 day, .slice A' (n13 + n13) c']) (w := w13) rfl (by rfl) (by go_simp) ?_
        refine hnd13'.out.mono ?_
        rintro e w14 ⟨rfl, hb14⟩
        refine ⟨_, rfl, ?_⟩
        have hB14 : Hid (Below w.heap.size w w14) := hB13.out.trans (hb14.mono hB13.out.size)
        clear hb14 hnd13'
        simp only [Act.put, List.getElem_toArray, List.getElem_cons_zero, List.getElem_cons_succ, List.setIfInBounds_toArray, List.set_cons_zero, List.set_cons_succ]
        refine wpAny_next 29 (by kernel_rfl) ?_
        refine held_valueg (v := .bool true) (w' := w14) rfl (by rfl) (by go_simp) ?_
        simp only [Act.put, List.getElem_toArray, List.getElem_cons_zero, List.getElem_cons_succ, List.setIfInBounds_toArray, List.set_cons_zero, List.set_cons_succ]
        refine wpAny_next 30 (by kernel_rfl) ?_
        refine held_value (v := .bool true) (w' := w14) rfl rfl (by go_simp) ?_
        simp only [Act.put, List.getElem_toArray, List.getElem_cons_zero, List.getElem_cons_succ, List.setIfInBounds_toArray, List.set_cons_zero, List.set_cons_succ]
        refine wpAny_next 31 (by kernel_rfl) ?_
        refine held_value (v := .bool true) (w' := w14) rfl rfl (by go_simp) ?_
        simp only [Act.put, List.getElem_toArray, List.getElem_cons_zero, List.getElem_cons_succ, List.setIfInBounds_toArray, List.set_cons_zero, List.set_cons_succ]
        refine wpAny_done (by kernel_rfl) ?_ _
        go_wp2_with fail
        go_ret
        exact ⟨rfl, hB14.out⟩
      · refine held_appendg rfl (by rfl) (.tmp 120) (.tmp 121) 47 rfl w.heap.size 54 iF _ 4 40 Tryz.underlying47 iFi iF0 iF1 iF2 rfl (by decide) (.slice A13 n13 c13) n13 (fcells LS) (by go_simp) ho12'.out w12.heap.size A13 n13 c13 (fcells LS) (by go_simp) hrd12.out hone.out s1.out s2.out hbz.out ?_
        intro v13 w13 ho13 hg13 hv13
        simp only [Act.put, List.getElem_toArray, List.getElem_cons_zero, List.getElem_cons_succ, List.setIfInBounds_toArray, List.set_cons_zero, List.set_cons_succ]
        have hB13 := Lib.hid (hB12.out.grown hg13 hbz.out (fun j hj => (ho12'.out.lt j hj).1))
        have hb13 := Lib.hid (Blk.kept hb12.out hg13 hne'.out)
        refine wpAny_next 22 (by kernel_rfl) ?_
        refine held_valueg (v := .agg C) (w' := w13) rfl (by rfl) (run_ldb rfl (by rfl) hb13.out Tryz.underlying46 rfl hsz.out) ?_
        simp only [Act.put, List.getElem_toArray, List.getElem_cons_zero, List.getElem_cons_succ, List.setIfInBounds_toArray, List.set_cons_zero, List.set_cons_succ]
        obtain ⟨A', c', rfl, hnd13⟩ := hlast.out w13 v13 hB13.out (hXw.out w13 hB13.out) ho13
        have hnd13' := Lib.hid hnd13
        clear ho13 hg13 hv13 hnd13 hlast
        refine wpAny_next 28 (by kernel_rfl) ?_
        refine held_callg (f := 22) (args := #[.agg C, .slice A nn cc, .int .i64 day, .slice A' (n13 + n13) c']) (w := w13) rfl (by rfl) (by go_simp) ?_
        refine hnd13'.out.mono ?_
        rintro e w14 ⟨rfl, hb14⟩
        refine ⟨_, rfl, ?_⟩
        have hB14 : Hid (Below w.heap.size w w14) := hB13.out.trans (hb14.mono hB13.out.size)
        clear hb14 hnd13'
        simp only [Act.put, List.getElem_toArray, List.getElem_cons_zero, List.getElem_cons_succ, List.setIfInBounds_toArray, List.set_cons_zero, List.set_cons_succ]
        refine wpAny_next 29 (by kernel_rfl) ?_
        refine held_valueg (v := .bool true) (w' := w14) rfl (by rfl) (by go_simp) ?_
        simp only [Act.put, List.getElem_toArray, List.getElem_cons_zero, List.getElem_cons_succ, List.setIfInBounds_toArray, List.set_cons_zero, List.set_cons_succ]
        refine wpAny_next 30 (by kernel_rfl) ?_
        refine held_value (v := .bool true) (w' := w14) rfl rfl (by go_simp) ?_
        simp only [Act.put, List.getElem_toArray, List.getElem_cons_zero, List.getElem_cons_succ, List.setIfInBounds_toArray, List.set_cons_zero, List.set_cons_succ]
        refine wpAny_next 31 (by kernel_rfl) ?_
        refine held_value (v := .bool true) (w' := w14) rfl rfl (by go_simp) ?_
        simp only [Act.put, List.getElem_toArray, List.getElem_cons_zero, List.getElem_cons_succ, List.setIfInBounds_toArray, List.set_cons_zero, List.set_cons_succ]
        refine wpAny_done (by kernel_rfl) ?_ _
        go_wp2_with fail
        go_ret
        exact ⟨rfl, hB14.out⟩
end Go.Proofs.YtdjmckjbibfecaaGreatDoor

import Derived.KernelRfl
import Derived.Test.YtjkmhlfjheiekaaGreatDoorG
set_option maxRecDepth 1000000
set_option maxHeartbeats 51200000
namespace Go.Proofs.YtjkmhlfjheiekaaGreatDoor
abbrev Txt := List UInt8
def dgB (c : UInt8) : Bool := decide (48 ≤ c) && decide (c ≤ 57)
def smB (c : UInt8) : Bool := (decide (97 ≤ c) && decide (c ≤ 122)) || dgB c || c == 45
def lgB (c : UInt8) : Bool := decide (65 ≤ c) && decide (c ≤ 90)
def bkB (c : UInt8) : Bool := c == 32 || c == 10
def plB (c : UInt8) : Bool := c != 34 && decide (32 ≤ c) && decide (c ≤ 126)
def wordsL : List Txt := [[97, 98, 111, 118, 101], [97, 108, 108], [97, 110, 100], [97, 110, 121], [97, 112, 112, 108, 105, 99, 97, 110, 116], [98, 101, 108, 111, 119], [98, 101, 110, 101, 102, 105, 99, 105, 97, 114, 121], [99, 104, 97, 110, 103, 101], [99, 111, 110, 102, 105, 114, 109, 101, 114], [99, 111, 112, 105, 101, 115], [99, 114, 101, 100, 105, 116], [100, 97, 121, 115], [100, 114, 97, 102, 116], [101, 120, 112, 105, 114, 121], [102, 114, 111, 109], [105, 110, 115, 117, 114, 97, 110, 99, 101], [105, 110, 118, 111, 105, 99, 101], [105, 115, 115, 117, 101, 114], [108, 97, 100, 105, 110, 103], [108, 97, 116, 101, 115, 116], [110, 111], [110, 111, 116], [111, 102], [111, 114], [111, 114, 105, 103, 105, 110], [112, 97, 99, 107, 105, 110, 103], [112, 97, 114, 116, 105, 97, 108], [115, 105, 103, 104, 116], [115, 117, 109], [116, 101, 110, 111, 114], [116, 111], [119, 97, 110, 116, 115], [119, 105, 116, 104], [119, 105, 116, 104, 105, 110], [121, 101, 115]]
def numV (t : Txt) : Nat := t.foldl (fun n c => 10 * n + (c.toNat - 48)) 0
def mostN : Nat := 1099511627776
structure Tok where
 kind : Int
 place : Nat
 text : Txt
def rankM (t : Txt) : Int × Int :=
 if t.all dgB = true then (2, if 1 < t.length ∧ t.head? = some 48 then 2 else if mostN < numV t then 3 else 0)
 else if wordsL.contains t = true then (0, 0)
 else (1, if t.length ≤ 16 then 0 else 2)
def oneM : Txt → Except Int (Int × Txt × Nat)
 | [] => .error 2
 | c :: r =>
  if smB c = true then
   (if (rankM ((c :: r).takeWhile smB)).2 = 0 then .ok ((rankM ((c :: r).takeWhile smB)).1, (c :: r).takeWhile smB, ((c :: r).takeWhile smB).length) else .error (rankM ((c :: r).takeWhile smB)).2)
  else if lgB c = true then (if ((c :: r).takeWhile lgB).length = 3 then .ok (4, (c :: r).takeWhile lgB, 3) else .error 2)
  else if c = 34 then (if (r.drop (r.takeWhile plB).length).head? = some 34 then .ok (3, r.takeWhile plB, (r.takeWhile plB).length + 2) else .error 2)
  else if c = 60 ∨ c = 62 then (if r.head? = some 61 then .ok (5, [c, 61], 2) else .error 2)
  else if [40, 41, 44, 59, 58, 46, 61, 126].contains c = true then .ok (5, [c], 1) else .error 2
def scanM : Nat → Nat → Nat → Txt → Except (Nat × Int) (List Tok)
 | 0, _, k, _ => .error (k, 7)
 | f + 1, n, k, s =>
  if s.dropWhile bkB = [] then .ok []
  else if 4096 ≤ n then .error (k + (s.takeWhile bkB).length, 7)
  else match oneM (s.dropWhile bkB) with
   | .error e => .error (k + (s.takeWhile bkB).length, e)
   | .ok (kd, t, m) => match scanM f (n + 1) (k + (s.takeWhile bkB).length + m) ((s.dropWhile bkB).drop m) with
    | .error e => .error e
    | .ok l => .ok (⟨kd, k + (s.takeWhile bkB).length, t⟩ :: l)
def scanT (s : Txt) : Except (Nat × Int) (List Tok) := scanM (s.length + 1) 0 0 s
inductive Rul where
 | mk (kind paper : Int) (field text : Txt) (num : Int) (L : List Rul) : Rul
def Rul.kind : Rul → Int | .mk k _ _ _ _ _ => k
def Rul.sub : Rul → List Rul | .mk _ _ _ _ _ L => L
abbrev Res (α : Type) := Except (Nat × Int) (α × List Tok)
def placeM (e : Nat) (ts : List Tok) : Nat := match ts with | t :: _ => t.place | [] => e
def seZ (p : Tok → Bool) (ts : List Tok) : Bool := match ts with | t :: _ => p t | [] => false
def wdz (s : Txt) (t : Tok) : Bool := t.kind == 0 && t.text == s
def signB (s : Txt) (t : Tok) : Bool := t.kind == 5 && t.text == s
def kdB (k : Int) (t : Tok) : Bool := t.kind == k
def nmB (t : Tok) : Bool := t.kind == 0 || t.kind == 1 || t.kind == 2
def sEq : Txt := [61]
def sTilde : Txt := [126]
def sLe : Txt := [60, 61]
def sGe : Txt := [62, 61]
def compB (t : Tok) : Bool := t.kind == 5 && (t.text == sEq || t.text == sTilde || t.text == sLe || t.text == sGe)
def ppL : List Txt := [[105, 110, 118, 111, 105, 99, 101], [112, 97, 99, 107, 105, 110, 103], [108, 97, 100, 105, 110, 103], [105, 110, 115, 117, 114, 97, 110, 99, 101], [111, 114, 105, 103, 105, 110], [100, 114, 97, 102, 116]]
def paperI (s : Txt) : Int := if ppL.idxOf s < 6 then (ppL.idxOf s : Int) else -1
def ppB (t : Tok) : Bool := t.kind == 0 && decide (0 ≤ paperI t.text)
def takeM (e : Nat) (p : Tok → Bool) (ts : List Tok) : Res Txt := match ts with
 | t :: r => if p t = true then .ok (t.text, r) else .error (t.place, 2)
 | [] => .error (e, 2)
def numM (e : Nat) (least most : Int) (ts : List Tok) : Res Int := match takeM e (kdB 2) ts with
 | .error x => .error x
 | .ok (t, r) => if (numV t : Int) < least ∨ most < (numV t : Int) then .error (placeM e ts, 3) else .ok ((numV t : Int), r)
def bindR {α β : Type} (x : Res α) (f : α → List Tok → Res β) : Res β := match x with
 | .error e => .error e
 | .ok (a, ts) => f a ts
def sDot : Txt := [46]
def atomM (e : Nat) (ts : List Tok) : Res Rul :=
 bindR (takeM e nmB ts) fun f ts => bindR (takeM e compB ts) fun o ts =>
  if o = sEq then
   (if seZ ppB ts = true then bindR (takeM e ppB ts) fun x ts => bindR (takeM e (signB sDot) ts) fun _ ts => bindR (takeM e nmB ts) fun y ts => .ok (.mk 7 (paperI x) f y 0 [], ts)
    else bindR (takeM e (kdB 3) ts) fun x ts => .ok (.mk 3 0 f x 0 [], ts))
  else if o = sTilde then bindR (takeM e (kdB 3) ts) fun x ts => .ok (.mk 4 0 f x 0 [], ts)
  else if o = sLe then bindR (numM e 0 1099511627776 ts) fun n ts => .ok (.mk 5 0 f [] n [], ts)
  else bindR (numM e 0 1099511627776 ts) fun n ts => .ok (.mk 6 0 f [] n [], ts)
def wNot : Txt := [110, 111, 116]
def wAnd : Txt := [97, 110, 100]
def wOr : Txt := [111, 114]
def sOpen : Txt := [40]
def sShut : Txt := [41]
def partsP (part : List Tok → Option (Res Rul)) (sep : Txt) : Nat → List Tok → Option (Res (List Rul))
 | 0, _ => none
 | n + 1, ts => match part ts with
  | none => none
  | some (.error x) => some (.error x)
  | some (.ok (r, ts')) =>
   if seZ (wdz sep) ts' = true then match partsP part sep n ts'.tail with
    | none => none
    | some (.error x) => some (.error x)
    | some (.ok (l, ts'')) => some (.ok (r :: l, ts''))
   else some (.ok ([r], ts'))
def joinK (k : Int) (l : List Rul) : Rul := match l with
 | [r] => r
 | l => .mk k 0 [] [] 0 l
def rowP (part : List Tok → Option (Res Rul)) (sep : Txt) (k : Int) (n : Nat) (ts : List Tok) : Option (Res Rul) := match partsP part sep n ts with
 | none => none
 | some (.error x) => some (.error x)
 | some (.ok (l, ts')) => some (.ok (joinK k l, ts'))
def allOf (one : List Tok → Option (Res Rul)) (n : Nat) (ts : List Tok) : Option (Res Rul) := rowP one wAnd 0 n ts
def ruleOf (one : List Tok → Option (Res Rul)) (n : Nat) (ts : List Tok) : Option (Res Rul) := rowP (allOf one n) wOr 1 n ts
def oneP (e : Nat) : Nat → List Tok → Option (Res Rul)
 | 0, _ => none
 | n + 1, ts =>
  if (seZ (wdz wNot) ts && !seZ compB ts.tail) = true then match oneP e n ts.tail with
   | none => none
   | some (.error x) => some (.error x)
   | some (.ok (r, ts')) => some (.ok (.mk 2 0 [] [] 0 [r], ts'))
  else if seZ (signB sOpen) ts = true then match ruleOf (oneP e n) n ts.tail with
   | none => none
   | some (.error x) => some (.error x)
   | some (.ok (r, ts')) => some (bindR (takeM e (signB sShut) ts') fun _ ts'' => .ok (r, ts''))
  else some (atomM e ts)
def ruleP (e n : Nat) (ts : List Tok) : Option (Res Rul) := ruleOf (oneP e n) n ts
mutual
def crowdR : Rul → Bool
 | .mk _ _ _ _ _ L => decide (64 < L.length) || crowdL L
def crowdL : List Rul → Bool
 | [] => false
 | r :: L => crowdR r || crowdL L
end
mutual
def depthR : Rul → Nat
 | .mk _ _ _ _ _ L => depthL L
def depthL : List Rul → Nat
 | [] => 0
 | r :: L => max (depthR r + 1) (depthL L)
end
def wholeP (e n : Nat) (ts : List Tok) : Option (Res Rul) := match ruleP e n ts with
 | none => none
 | some (.error x) => some (.error x)
 | some (.ok (r, ts')) => if 16 < depthR r ∨ crowdR r = true then some (.error (placeM e ts, 7)) else some (.ok (r, ts'))
def emptyR : Rul := .mk 0 0 [] [] 0 []
def ruleT (s : Txt) : Except (Nat × Int) Rul :=
 if 4096 < s.length then .error (0, 7)
 else match scanT s with
  | .error x => .error x
  | .ok [] => .ok emptyR
  | .ok (t :: ts) => match wholeP s.length (2 * (ts.length + 1) + 2) (t :: ts) with
   | none => .error (0, 7)
   | some (.error x) => .error x
   | some (.ok (r, [])) => .ok r
   | some (.ok (_, t' :: _)) => .error (t'.place, 2)
def parB (outer k : Int) : Bool := k == 1 || (k == 0 && outer != 1)
def inPar (b : Bool) (t : Txt) : Txt := if b = true then sOpen ++ t ++ sShut else t
def decN (f n : Nat) : Txt := match f with
 | 0 => []
 | f + 1 => if n < 10 then [UInt8.ofNat (48 + n)] else decN f (n / 10) ++ [UInt8.ofNat (48 + n % 10)]
def paperT (p : Int) : Txt := ppL.getD p.toNat []
mutual
def showR : Rul → Txt
 | .mk k p f x n L =>
  if k = 3 then f ++ [32, 61, 32, 34] ++ x ++ [34]
  else if k = 4 then f ++ [32, 126, 32, 34] ++ x ++ [34]
  else if k = 5 then f ++ [32, 60, 61, 32] ++ decN 20 n.toNat
  else if k = 6 then f ++ [32, 62, 61, 32] ++ decN 20 n.toNat
  else if k = 7 then f ++ [32, 61, 32] ++ paperT p ++ [46] ++ x
  else if k = 2 then [110, 111, 116, 32] ++ showL 2 [] L
  else if k = 1 then showL 1 [32, 111, 114, 32] L
  else showL 0 [32, 97, 110, 100, 32] L
def showL (outer : Int) (sep : Txt) : List Rul → Txt
 | [] => []
 | r :: L => inPar (parB outer r.kind) (showR r) ++ (if L = [] then [] else sep) ++ showL outer sep L
end
open Go Go.RowKit Go.BigFrame Go.Maps
theorem byte_all {P : UInt8 → Prop} (h : ∀ n : Nat, n < 256 → P (UInt8.ofNat n)) (c : UInt8) : P c := by
 have := h c.toNat c.toNat_lt
 rwa [UInt8.ofNat_toNat] at this
theorem digit_eq (c : UInt8) : dgB c = (decide (48 ≤ (c.toNat : Int)) && decide ((c.toNat : Int) ≤ 57)) :=
 byte_all (P := fun c => dgB c = (decide (48 ≤ (c.toNat : Int)) && decide ((c.toNat : Int) ≤ 57))) (by decide) c
theorem large_eq (c : UInt8) : lgB c = (decide (65 ≤ (c.toNat : Int)) && decide ((c.toNat : Int) ≤ 90)) :=
 byte_all (P := fun c => lgB c = (decide (65 ≤ (c.toNat : Int)) && decide ((c.toNat : Int) ≤ 90))) (by decide) c
theorem blank_eq (c : UInt8) : bkB c = (((c.toNat : Int) == 32) || ((c.toNat : Int) == 10)) :=
 byte_all (P := fun c => bkB c = (((c.toNat : Int) == 32) || ((c.toNat : Int) == 10))) (by decide) c
theorem small_eq (c : UInt8) : smB c = ((decide (97 ≤ (c.toNat : Int)) && decide ((c.toNat : Int) ≤ 122)) || dgB c || ((c.toNat : Int) == 45)) :=
 byte_all (P := fun c => smB c = ((decide (97 ≤ (c.toNat : Int)) && decide ((c.toNat : Int) ≤ 122)) || dgB c || ((c.toNat : Int) == 45))) (by decide) c
theorem plain_eq (c : UInt8) : plB c = (((c.toNat : Int) != 34) && decide (32 ≤ (c.toNat : Int)) && decide ((c.toNat : Int) ≤ 126)) :=
 byte_all (P := fun c => plB c = (((c.toNat : Int) != 34) && decide (32 ≤ (c.toNat : Int)) && decide ((c.toNat : Int) ≤ 126))) (by decide) c
theorem retBl {a b : Bool} (h : a = b) : Ending.returned (.bool a) = .returned (.bool b) := by rw [h]
theorem isDigit_any (c : UInt8) (w : World) : Cz 140 #[.int .u8 c.toNat] w fun e w' => e = .returned (.bool (dgB c)) ∧ w = w' := by
 rw [digit_eq]
 cases h1 : decide (48 ≤ (c.toNat : Int)) <;> cases h2 : decide ((c.toNat : Int) ≤ 57)
 all_goals
  go_enter Tryz.func140, Tryz.ntmps140
  go_wp2_with fail; go_ret; exact ⟨retBl (by simp), rfl⟩
theorem isLarge_any (c : UInt8) (w : World) : Cz 110 #[.int .u8 c.toNat] w fun e w' => e = .returned (.bool (lgB c)) ∧ w = w' := by
 rw [large_eq]
 cases h1 : decide (65 ≤ (c.toNat : Int)) <;> cases h2 : decide ((c.toNat : Int) ≤ 90)
 all_goals
  go_enter Tryz.func110, Tryz.ntmps110
  go_wp2_with fail; go_ret; exact ⟨retBl (by simp), rfl⟩
theorem isBlank_any (c : UInt8) (w : World) : Cz 63 #[.int .u8 c.toNat] w fun e w' => e = .returned (.bool (bkB c)) ∧ w = w' := by
 rw [blank_eq]
 cases h1 : ((c.toNat : Int) == 32) <;> cases h2 : ((c.toNat : Int) == 10)
 all_goals
  go_enter Tryz.func63, Tryz.ntmps63
  go_wp2_with fail; go_ret; exact ⟨retBl (by simp), rfl⟩
theorem isSmall_any (c : UInt8) (w : World) : Cz 108 #[.int .u8 c.toNat] w fun e w' => e = .returned (.bool (smB c)) ∧ w = w' := by
 rw [small_eq]
 cases h1 : decide (97 ≤ (c.toNat : Int)) <;> cases h2 : decide ((c.toNat : Int) ≤ 122) <;> cases h3 : ((c.toNat : Int) == 45) <;> obtain ⟨db, hd⟩ : ∃ db, Hid (dgB c = db) := ⟨_, rfl⟩ <;> cases db
 all_goals
  go_enter Tryz.func108, Tryz.ntmps108
  go_wp2_with (go_at_call 140; refine (isDigit_any _ _).mono ?_; rintro e w' ⟨rfl, rfl⟩; rw [hd.out])
  go_ret; exact ⟨retBl (by rw [hd.out]; simp), rfl⟩
theorem isPlain_any (c : UInt8) (w : World) : Cz 145 #[.int .u8 c.toNat] w fun e w' => e = .returned (.bool (plB c)) ∧ w = w' := by
 rw [plain_eq]
 cases h1 : ((c.toNat : Int) != 34) <;> cases h2 : decide (32 ≤ (c.toNat : Int)) <;> cases h3 : decide ((c.toNat : Int) ≤ 126)
 all_goals
  go_enter Tryz.func145, Tryz.ntmps145
  go_wp2_with fail; go_ret; exact ⟨retBl (by simp), rfl⟩
def endP (p : UInt8 → Bool) (s : ByteArray) (k : Nat) : Nat := k + ((s.data.toList.drop k).takeWhile p).length
theorem drop_byte {s : ByteArray} {k : Nat} (h : k < s.size) : s.data.toList.drop k = s[k] :: s.data.toList.drop (k + 1) := by
 have hk : k < s.data.toList.length := by simpa using h
 rw [List.drop_eq_getElem_cons hk]; rfl
theorem end_yes {p : UInt8 → Bool} {s : ByteArray} {k : Nat} (h : k < s.size) (hp : p s[k] = true) : endP p s k = endP p s (k + 1) := by
 unfold endP
 rw [drop_byte h, List.takeWhile_cons_of_pos hp, List.length_cons]; omega
theorem end_no {p : UInt8 → Bool} {s : ByteArray} {k : Nat} (h : k < s.size) (hp : p s[k] = false) : endP p s k = k := by
 unfold endP
 rw [drop_byte h, List.takeWhile_cons_of_neg (by rw [hp]; simp)]; rfl
theorem end_end {p : UInt8 → Bool} {s : ByteArray} {k : Nat} (h : s.size ≤ k) : endP p s k = k := by
 unfold endP
 rw [List.drop_eq_nil_of_le (by simpa using h)]; rfl
theorem end_ge (p : UInt8 → Bool) (s : ByteArray) (k : Nat) : k ≤ endP p s k := by unfold endP; omega
theorem end_le {p : UInt8 → Bool} {s : ByteArray} {k : Nat} (h : k ≤ s.size) : endP p s k ≤ s.size := by
 unfold endP
 have h1 := (List.takeWhile_prefix p (l := s.data.toList.drop k)).length_le
 rw [List.length_drop] at h1
 have : s.data.toList.length = s.size := by simp
 omega
theorem extract_list (s : ByteArray) (f k : Nat) : (s.extract f k).data.toList = (s.data.toList.drop f).take (k - f) := by
 rw [ByteArray.data_extract, Array.toList_extract, List.extract_eq_take_drop]
theorem extract_run (p : UInt8 → Bool) (s : ByteArray) (k : Nat) : (s.extract k (endP p s k)).data.toList = (s.data.toList.drop k).takeWhile p := by
 rw [extract_list]
 unfold endP
 rw [Nat.add_sub_cancel_left]
 have := List.takeWhile_prefix p (l := s.data.toList.drop k)
 rw [List.prefix_iff_eq_take] at this
 exact this.symm
theorem bdz {B : Nat} {a w : World} (h : Below B a w) (n : Nat) : Below B a (w.drewN n) := ⟨h.os, h.tape, h.output, h.size, h.block⟩
theorem run63_any (s : ByteArray) (k sb : Nat) (w : World) (hk : k ≤ s.size) (hs : s.size ≤ maxLen) (hb : Hid (Blk w sb 105 #[.string s, Iz k])) :
  Cz 62 #[.pointer (some (Az sb 0)), .func (Fn.func 63) #[] #[]] w fun e w' => e = .returned (.string (s.extract k (endP bkB s k))) ∧ But sb w w' ∧ Blk w' sb 105 #[.string s, Iz (endP bkB s k : Nat)] := by
 unfold maxLen at hs
 have c0 : w.cell? (Az sb 0) = some (.string s) := hb.out.cell 0
 have c1 : w.cell? (Az sb 1) = some (Iz k) := hb.out.cell 1
 go_enter Tryz.func62, Tryz.ntmps62
 go_wp2_with fail
 clear c0 c1
 go_loopg [] (s.size - k) (fun gg wr => ∃ j : Nat, k ≤ j ∧ j ≤ s.size ∧ gg = s.size - j ∧ Hid (endP bkB s k = endP bkB s j) ∧ Hid (But sb w wr) ∧ Hid (Blk wr sb 105 #[.string s, Iz j]))
 case atStart => exact ⟨k, Nat.le_refl _, hk, rfl, rfl, But.refl _ _, hb⟩
 case round =>
  obtain ⟨j, hkj, hj, hg, he, hB, hbr⟩ := hrel; have hg' := hdZ hg; clear hg; have e0 : wr.cell? (Az sb 0) = some (.string s) := hbr.out.cell 0; have e1 : wr.cell? (Az sb 1) = some (Iz j) := hbr.out.cell 1; have y1 := hbr.out.frozen 1; have i4 : (0 : Int) ≤ (j : Int) := by omega
  by_cases hlt : j < s.size
  ·have hl1 : decide ((j : Int) < (s.size : Int)) = true := by simp; omega
   have i3 : (j : Int) < (s.size : Int) := by omega
   obtain ⟨pb, hpb⟩ := nmZ (bkB s[j])
   have hcl : Hid (∀ y : Ext wr, Cz 63 #[.int .u8 (s[j].toNat)] y.wd fun e w' => e = .returned (.bool pb) ∧ y.wd = w') := fun y => by
    have := isBlank_any s[j] y.wd; rw [hpb.out] at this; exact this
   have f0 : ∀ y : Ext wr, y.wd.cell? (Az sb 0) = some (.string s) := fun y => (y.cell (Az sb 0) hbr.out.lt).trans e0
   have f1 : ∀ y : Ext wr, y.wd.cell? (Az sb 1) = some (Iz j) := fun y => (y.cell (Az sb 1) hbr.out.lt).trans e1
   go_wp2_with fail; refine wrz (by kernel_rfl) (by kernel_rfl) ?_
   repeat (go_big_quiet_step ((go_at_call 63; exact Calls.ext_of_same (hcl.out _))))
   refine wpQuiet_nil ?_; rintro _ ⟨y, rfl⟩; have g0 := f0 y; have g1 := f1 y; have hby := hdZ y.below; obtain ⟨wy, hwy⟩ : ∃ w6, y.wd = w6 := ⟨_, rfl⟩; rw [hwy] at g0 g1 hby ⊢; clear hwy y f0 f1 e0 e1 hcl y1; have hbd := hdZ (hbr.out.below hby.out hbr.out.lt); have hBy : Hid (But sb w wy) := hB.out.below hby.out; have y1 := hbd.out.frozen 1
   cases pb with
   | true =>
    have hn := hdZ (end_yes hlt hpb.out); go_wp2_with fail
    go_roundg (s.size - (j + 1))
    case measure => have := hg'.out; omega
    case rel => exact ⟨j + 1, by omega, by omega, rfl, he.out.trans hn.out, hBy.out.setCell _ _, hbd.out.set_ 1 _⟩
   | false =>
    have hn : Hid (endP bkB s k = j) := he.out.trans (end_no hlt hpb.out); go_wp2_with fail
    go_quiet (fail)
    go_wp2_with fail; go_ret; rw [hn.out]; exact ⟨rfl, hBy.out.below (bdz (Below.refl _ _) _), hbd.out.below (bdz (Below.refl _ _) _) hbd.out.lt⟩
  ·have hl1 : decide ((j : Int) < (s.size : Int)) = false := by simp; omega
   have hn : Hid (endP bkB s k = j) := he.out.trans (end_end (by omega)); go_wp2_with fail
   go_quiet (fail)
   go_wp2_with fail
   go_quiet (fail)
   go_wp2_with fail; go_ret; rw [hn.out]; exact ⟨rfl, hB.out.below (bdz (bdz (Below.refl _ _) _) _), hbr.out.below (bdz (bdz (Below.refl _ _) _) _) hbr.out.lt⟩
theorem run108_any (s : ByteArray) (k sb : Nat) (w : World) (hk : k ≤ s.size) (hs : s.size ≤ maxLen) (hb : Hid (Blk w sb 105 #[.string s, Iz k])) :
  Cz 62 #[.pointer (some (Az sb 0)), .func (Fn.func 108) #[] #[]] w fun e w' => e = .returned (.string (s.extract k (endP smB s k))) ∧ But sb w w' ∧ Blk w' sb 105 #[.string s, Iz (endP smB s k : Nat)] := by
 unfold maxLen at hs
 have c0 : w.cell? (Az sb 0) = some (.string s) := hb.out.cell 0
 have c1 : w.cell? (Az sb 1) = some (Iz k) := hb.out.cell 1
 go_enter Tryz.func62, Tryz.ntmps62
 go_wp2_with fail
 clear c0 c1
 go_loopg [] (s.size - k) (fun gg wr => ∃ j : Nat, k ≤ j ∧ j ≤ s.size ∧ gg = s.size - j ∧ Hid (endP smB s k = endP smB s j) ∧ Hid (But sb w wr) ∧ Hid (Blk wr sb 105 #[.string s, Iz j]))
 case atStart => exact ⟨k, Nat.le_refl _, hk, rfl, rfl, But.refl _ _, hb⟩
 case round =>
  obtain ⟨j, hkj, hj, hg, he, hB, hbr⟩ := hrel; have hg' := hdZ hg; clear hg; have e0 : wr.cell? (Az sb 0) = some (.string s) := hbr.out.cell 0; have e1 : wr.cell? (Az sb 1) = some (Iz j) := hbr.out.cell 1; have y1 := hbr.out.frozen 1; have i4 : (0 : Int) ≤ (j : Int) := by omega
  by_cases hlt : j < s.size
  ·have hl1 : decide ((j : Int) < (s.size : Int)) = true := by simp; omega
   have i3 : (j : Int) < (s.size : Int) := by omega
   obtain ⟨pb, hpb⟩ := nmZ (smB s[j])
   have hcl : Hid (∀ y : Ext wr, Cz 108 #[.int .u8 (s[j].toNat)] y.wd fun e w' => e = .returned (.bool pb) ∧ y.wd = w') := fun y => by
    have := isSmall_any s[j] y.wd; rw [hpb.out] at this; exact this
   have f0 : ∀ y : Ext wr, y.wd.cell? (Az sb 0) = some (.string s) := fun y => (y.cell (Az sb 0) hbr.out.lt).trans e0
   have f1 : ∀ y : Ext wr, y.wd.cell? (Az sb 1) = some (Iz j) := fun y => (y.cell (Az sb 1) hbr.out.lt).trans e1
   go_wp2_with fail; refine wrz (by kernel_rfl) (by kernel_rfl) ?_
   repeat (go_big_quiet_step ((go_at_call 108; exact Calls.ext_of_same (hcl.out _))))
   refine wpQuiet_nil ?_; rintro _ ⟨y, rfl⟩; have g0 := f0 y; have g1 := f1 y; have hby := hdZ y.below; obtain ⟨wy, hwy⟩ : ∃ w6, y.wd = w6 := ⟨_, rfl⟩; rw [hwy] at g0 g1 hby ⊢; clear hwy y f0 f1 e0 e1 hcl y1; have hbd := hdZ (hbr.out.below hby.out hbr.out.lt); have hBy : Hid (But sb w wy) := hB.out.below hby.out; have y1 := hbd.out.frozen 1
   cases pb with
   | true =>
    have hn := hdZ (end_yes hlt hpb.out); go_wp2_with fail
    go_roundg (s.size - (j + 1))
    case measure => have := hg'.out; omega
    case rel => exact ⟨j + 1, by omega, by omega, rfl, he.out.trans hn.out, hBy.out.setCell _ _, hbd.out.set_ 1 _⟩
   | false =>
    have hn : Hid (endP smB s k = j) := he.out.trans (end_no hlt hpb.out); go_wp2_with fail
    go_quiet (fail)
    go_wp2_with fail; go_ret; rw [hn.out]; exact ⟨rfl, hBy.out.below (bdz (Below.refl _ _) _), hbd.out.below (bdz (Below.refl _ _) _) hbd.out.lt⟩
  ·have hl1 : decide ((j : Int) < (s.size : Int)) = false := by simp; omega
   have hn : Hid (endP smB s k = j) := he.out.trans (end_end (by omega)); go_wp2_with fail
   go_quiet (fail)
   go_wp2_with fail
   go_quiet (fail)
   go_wp2_with fail; go_ret; rw [hn.out]; exact ⟨rfl, hB.out.below (bdz (bdz (Below.refl _ _) _) _), hbr.out.below (bdz (bdz (Below.refl _ _) _) _) hbr.out.lt⟩
theorem run110_any (s : ByteArray) (k sb : Nat) (w : World) (hk : k ≤ s.size) (hs : s.size ≤ maxLen) (hb : Hid (Blk w sb 105 #[.string s, Iz k])) :
  Cz 62 #[.pointer (some (Az sb 0)), .func (Fn.func 110) #[] #[]] w fun e w' => e = .returned (.string (s.extract k (endP lgB s k))) ∧ But sb w w' ∧ Blk w' sb 105 #[.string s, Iz (endP lgB s k : Nat)] := by
 unfold maxLen at hs
 have c0 : w.cell? (Az sb 0) = some (.string s) := hb.out.cell 0
 have c1 : w.cell? (Az sb 1) = some (Iz k) := hb.out.cell 1
 go_enter Tryz.func62, Tryz.ntmps62
 go_wp2_with fail
 clear c0 c1
 go_loopg [] (s.size - k) (fun gg wr => ∃ j : Nat, k ≤ j ∧ j ≤ s.size ∧ gg = s.size - j ∧ Hid (endP lgB s k = endP lgB s j) ∧ Hid (But sb w wr) ∧ Hid (Blk wr sb 105 #[.string s, Iz j]))
 case atStart => exact ⟨k, Nat.le_refl _, hk, rfl, rfl, But.refl _ _, hb⟩
 case round =>
  obtain ⟨j, hkj, hj, hg, he, hB, hbr⟩ := hrel; have hg' := hdZ hg; clear hg; have e0 : wr.cell? (Az sb 0) = some (.string s) := hbr.out.cell 0; have e1 : wr.cell? (Az sb 1) = some (Iz j) := hbr.out.cell 1; have y1 := hbr.out.frozen 1; have i4 : (0 : Int) ≤ (j : Int) := by omega
  by_cases hlt : j < s.size
  ·have hl1 : decide ((j : Int) < (s.size : Int)) = true := by simp; omega
   have i3 : (j : Int) < (s.size : Int) := by omega
   obtain ⟨pb, hpb⟩ := nmZ (lgB s[j])
   have hcl : Hid (∀ y : Ext wr, Cz 110 #[.int .u8 (s[j].toNat)] y.wd fun e w' => e = .returned (.bool pb) ∧ y.wd = w') := fun y => by
    have := isLarge_any s[j] y.wd; rw [hpb.out] at this; exact this
   have f0 : ∀ y : Ext wr, y.wd.cell? (Az sb 0) = some (.string s) := fun y => (y.cell (Az sb 0) hbr.out.lt).trans e0
   have f1 : ∀ y : Ext wr, y.wd.cell? (Az sb 1) = some (Iz j) := fun y => (y.cell (Az sb 1) hbr.out.lt).trans e1
   go_wp2_with fail; refine wrz (by kernel_rfl) (by kernel_rfl) ?_
   repeat (go_big_quiet_step ((go_at_call 110; exact Calls.ext_of_same (hcl.out _))))
   refine wpQuiet_nil ?_; rintro _ ⟨y, rfl⟩; have g0 := f0 y; have g1 := f1 y; have hby := hdZ y.below; obtain ⟨wy, hwy⟩ : ∃ w6, y.wd = w6 := ⟨_, rfl⟩; rw [hwy] at g0 g1 hby ⊢; clear hwy y f0 f1 e0 e1 hcl y1; have hbd := hdZ (hbr.out.below hby.out hbr.out.lt); have hBy : Hid (But sb w wy) := hB.out.below hby.out; have y1 := hbd.out.frozen 1
   cases pb with
   | true =>
    have hn := hdZ (end_yes hlt hpb.out); go_wp2_with fail
    go_roundg (s.size - (j + 1))
    case measure => have := hg'.out; omega
    case rel => exact ⟨j + 1, by omega, by omega, rfl, he.out.trans hn.out, hBy.out.setCell _ _, hbd.out.set_ 1 _⟩
   | false =>
    have hn : Hid (endP lgB s k = j) := he.out.trans (end_no hlt hpb.out); go_wp2_with fail
    go_quiet (fail)
    go_wp2_with fail; go_ret; rw [hn.out]; exact ⟨rfl, hBy.out.below (bdz (Below.refl _ _) _), hbd.out.below (bdz (Below.refl _ _) _) hbd.out.lt⟩
  ·have hl1 : decide ((j : Int) < (s.size : Int)) = false := by simp; omega
   have hn : Hid (endP lgB s k = j) := he.out.trans (end_end (by omega)); go_wp2_with fail
   go_quiet (fail)
   go_wp2_with fail
   go_quiet (fail)
   go_wp2_with fail; go_ret; rw [hn.out]; exact ⟨rfl, hB.out.below (bdz (bdz (Below.refl _ _) _) _), hbr.out.below (bdz (bdz (Below.refl _ _) _) _) hbr.out.lt⟩
theorem run145_any (s : ByteArray) (k sb : Nat) (w : World) (hk : k ≤ s.size) (hs : s.size ≤ maxLen) (hb : Hid (Blk w sb 105 #[.string s, Iz k])) :
  Cz 62 #[.pointer (some (Az sb 0)), .func (Fn.func 145) #[] #[]] w fun e w' => e = .returned (.string (s.extract k (endP plB s k))) ∧ But sb w w' ∧ Blk w' sb 105 #[.string s, Iz (endP plB s k : Nat)] := by
 unfold maxLen at hs
 have c0 : w.cell? (Az sb 0) = some (.string s) := hb.out.cell 0
 have c1 : w.cell? (Az sb 1) = some (Iz k) := hb.out.cell 1
 go_enter Tryz.func62, Tryz.ntmps62
 go_wp2_with fail
 clear c0 c1
 go_loopg [] (s.size - k) (fun gg wr => ∃ j : Nat, k ≤ j ∧ j ≤ s.size ∧ gg = s.size - j ∧ Hid (endP plB s k = endP plB s j) ∧ Hid (But sb w wr) ∧ Hid (Blk wr sb 105 #[.string s, Iz j]))
 case atStart => exact ⟨k, Nat.le_refl _, hk, rfl, rfl, But.refl _ _, hb⟩
 case round =>
  obtain ⟨j, hkj, hj, hg, he, hB, hbr⟩ := hrel; have hg' := hdZ hg; clear hg; have e0 : wr.cell? (Az sb 0) = some (.string s) := hbr.out.cell 0; have e1 : wr.cell? (Az sb 1) = some (Iz j) := hbr.out.cell 1; have y1 := hbr.out.frozen 1; have i4 : (0 : Int) ≤ (j : Int) := by omega
  by_cases hlt : j < s.size
  ·have hl1 : decide ((j : Int) < (s.size : Int)) = true := by simp; omega
   have i3 : (j : Int) < (s.size : Int) := by omega
   obtain ⟨pb, hpb⟩ := nmZ (plB s[j])
   have hcl : Hid (∀ y : Ext wr, Cz 145 #[.int .u8 (s[j].toNat)] y.wd fun e w' => e = .returned (.bool pb) ∧ y.wd = w') := fun y => by
    have := isPlain_any s[j] y.wd; rw [hpb.out] at this; exact this
   have f0 : ∀ y : Ext wr, y.wd.cell? (Az sb 0) = some (.string s) := fun y => (y.cell (Az sb 0) hbr.out.lt).trans e0
   have f1 : ∀ y : Ext wr, y.wd.cell? (Az sb 1) = some (Iz j) := fun y => (y.cell (Az sb 1) hbr.out.lt).trans e1
   go_wp2_with fail; refine wrz (by kernel_rfl) (by kernel_rfl) ?_
   repeat (go_big_quiet_step ((go_at_call 145; exact Calls.ext_of_same (hcl.out _))))
   refine wpQuiet_nil ?_; rintro _ ⟨y, rfl⟩; have g0 := f0 y; have g1 := f1 y; have hby := hdZ y.below; obtain ⟨wy, hwy⟩ : ∃ w6, y.wd = w6 := ⟨_, rfl⟩; rw [hwy] at g0 g1 hby ⊢; clear hwy y f0 f1 e0 e1 hcl y1; have hbd := hdZ (hbr.out.below hby.out hbr.out.lt); have hBy : Hid (But sb w wy) := hB.out.below hby.out; have y1 := hbd.out.frozen 1
   cases pb with
   | true =>
    have hn := hdZ (end_yes hlt hpb.out); go_wp2_with fail
    go_roundg (s.size - (j + 1))
    case measure => have := hg'.out; omega
    case rel => exact ⟨j + 1, by omega, by omega, rfl, he.out.trans hn.out, hBy.out.setCell _ _, hbd.out.set_ 1 _⟩
   | false =>
    have hn : Hid (endP plB s k = j) := he.out.trans (end_no hlt hpb.out); go_wp2_with fail
    go_quiet (fail)
    go_wp2_with fail; go_ret; rw [hn.out]; exact ⟨rfl, hBy.out.below (bdz (Below.refl _ _) _), hbd.out.below (bdz (Below.refl _ _) _) hbd.out.lt⟩
  ·have hl1 : decide ((j : Int) < (s.size : Int)) = false := by simp; omega
   have hn : Hid (endP plB s k = j) := he.out.trans (end_end (by omega)); go_wp2_with fail
   go_quiet (fail)
   go_wp2_with fail
   go_quiet (fail)
   go_wp2_with fail; go_ret; rw [hn.out]; exact ⟨rfl, hB.out.below (bdz (bdz (Below.refl _ _) _) _), hbr.out.below (bdz (bdz (Below.refl _ _) _) _) hbr.out.lt⟩
end Go.Proofs.YtjkmhlfjheiekaaGreatDoor

/- The credit language, in plain words: tokens, and rules read out of them. No program in sight. -/
import Derived.KernelRfl
namespace Go.Proofs.YtjkmhlfjheiekaaGreatDoor

abbrev Txt := List UInt8
def digitB (c : UInt8) : Bool := decide (48 ≤ c) && decide (c ≤ 57)
def smallB (c : UInt8) : Bool := (decide (97 ≤ c) && decide (c ≤ 122)) || digitB c || c == 45
def largeB (c : UInt8) : Bool := decide (65 ≤ c) && decide (c ≤ 90)
def blankB (c : UInt8) : Bool := c == 32 || c == 10
def plainB (c : UInt8) : Bool := c != 34 && decide (32 ≤ c) && decide (c ≤ 126)
def wordsL : List Txt := [[97, 98, 111, 118, 101], [97, 108, 108], [97, 110, 100], [97, 110, 121], [97, 112, 112, 108, 105, 99, 97, 110, 116], [98, 101, 108, 111, 119], [98, 101, 110, 101, 102, 105, 99, 105, 97, 114, 121], [99, 104, 97, 110, 103, 101], [99, 111, 110, 102, 105, 114, 109, 101, 114], [99, 111, 112, 105, 101, 115], [99, 114, 101, 100, 105, 116], [100, 97, 121, 115], [100, 114, 97, 102, 116], [101, 120, 112, 105, 114, 121], [102, 114, 111, 109], [105, 110, 115, 117, 114, 97, 110, 99, 101], [105, 110, 118, 111, 105, 99, 101], [105, 115, 115, 117, 101, 114], [108, 97, 100, 105, 110, 103], [108, 97, 116, 101, 115, 116], [110, 111], [110, 111, 116], [111, 102], [111, 114], [111, 114, 105, 103, 105, 110], [112, 97, 99, 107, 105, 110, 103], [112, 97, 114, 116, 105, 97, 108], [115, 105, 103, 104, 116], [115, 117, 109], [116, 101, 110, 111, 114], [116, 111], [119, 97, 110, 116, 115], [119, 105, 116, 104], [119, 105, 116, 104, 105, 110], [121, 101, 115]]
def numV (t : Txt) : Nat := t.foldl (fun n c => 10 * n + (c.toNat - 48)) 0
def mostN : Nat := 1099511627776
structure Tok where
  kind : Int
  place : Nat
  text : Txt
/-- The kind of a run of small letters, digits and strokes; or what is wrong with it. -/
def rankM (t : Txt) : Int × Int :=
  if t.all digitB = true then (2, if 1 < t.length ∧ t.head? = some 48 then 2 else if mostN < numV t then 3 else 0)
  else if wordsL.contains t = true then (0, 0)
  else (1, if t.length ≤ 16 then 0 else 2)
/-- The token at the front of a text that begins with no blank: its kind, its text, how many bytes it has; or the error. -/
def oneM : Txt → Except Int (Int × Txt × Nat)
  | [] => .error 2
  | c :: r =>
    if smallB c = true then
      (if (rankM ((c :: r).takeWhile smallB)).2 = 0 then .ok ((rankM ((c :: r).takeWhile smallB)).1, (c :: r).takeWhile smallB, ((c :: r).takeWhile smallB).length) else .error (rankM ((c :: r).takeWhile smallB)).2)
    else if largeB c = true then (if ((c :: r).takeWhile largeB).length = 3 then .ok (4, (c :: r).takeWhile largeB, 3) else .error 2)
    else if c = 34 then (if (r.drop (r.takeWhile plainB).length).head? = some 34 then .ok (3, r.takeWhile plainB, (r.takeWhile plainB).length + 2) else .error 2)
    else if c = 60 ∨ c = 62 then (if r.head? = some 61 then .ok (5, [c, 61], 2) else .error 2)
    else if [40, 41, 44, 59, 58, 46, 61, 126].contains c = true then .ok (5, [c], 1) else .error 2
/-- All tokens of a text, of which some bytes lie behind and some tokens are read; or the place and the error. -/
def scanM : Nat → Nat → Nat → Txt → Except (Nat × Int) (List Tok)
  | 0, _, k, _ => .error (k, 7)
  | f + 1, n, k, s =>
    if s.dropWhile blankB = [] then .ok []
    else if 4096 ≤ n then .error (k + (s.takeWhile blankB).length, 7)
    else match oneM (s.dropWhile blankB) with
      | .error e => .error (k + (s.takeWhile blankB).length, e)
      | .ok (kd, t, m) => match scanM f (n + 1) (k + (s.takeWhile blankB).length + m) ((s.dropWhile blankB).drop m) with
        | .error e => .error e
        | .ok l => .ok (⟨kd, k + (s.takeWhile blankB).length, t⟩ :: l)
def scanT (s : Txt) : Except (Nat × Int) (List Tok) := scanM (s.length + 1) 0 0 s

/-- A rule, without the places where it lies. -/
inductive Rul where
  | mk (kind paper : Int) (field text : Txt) (num : Int) (L : List Rul) : Rul
def Rul.kind : Rul → Int | .mk k _ _ _ _ _ => k
def Rul.sub : Rul → List Rul | .mk _ _ _ _ _ L => L
abbrev Res (α : Type) := Except (Nat × Int) (α × List Tok)
def placeM (e : Nat) (ts : List Tok) : Nat := match ts with | t :: _ => t.place | [] => e
def seesB (p : Tok → Bool) (ts : List Tok) : Bool := match ts with | t :: _ => p t | [] => false
def wordB (s : Txt) (t : Tok) : Bool := t.kind == 0 && t.text == s
def signB (s : Txt) (t : Tok) : Bool := t.kind == 5 && t.text == s
def kindB (k : Int) (t : Tok) : Bool := t.kind == k
def namedB (t : Tok) : Bool := t.kind == 0 || t.kind == 1 || t.kind == 2
def sEq : Txt := [61]
def sTilde : Txt := [126]
def sLe : Txt := [60, 61]
def sGe : Txt := [62, 61]
def compB (t : Tok) : Bool := t.kind == 5 && (t.text == sEq || t.text == sTilde || t.text == sLe || t.text == sGe)
def papersL : List Txt := [[105, 110, 118, 111, 105, 99, 101], [112, 97, 99, 107, 105, 110, 103], [108, 97, 100, 105, 110, 103], [105, 110, 115, 117, 114, 97, 110, 99, 101], [111, 114, 105, 103, 105, 110], [100, 114, 97, 102, 116]]
/-- The kind of a paper's word, or -1. -/
def paperI (s : Txt) : Int := if papersL.idxOf s < 6 then (papersL.idxOf s : Int) else -1
def paperB (t : Tok) : Bool := t.kind == 0 && decide (0 ≤ paperI t.text)
def takeM (e : Nat) (p : Tok → Bool) (ts : List Tok) : Res Txt := match ts with
  | t :: r => if p t = true then .ok (t.text, r) else .error (t.place, 2)
  | [] => .error (e, 2)
/-- A number within bounds. -/
def numM (e : Nat) (least most : Int) (ts : List Tok) : Res Int := match takeM e (kindB 2) ts with
  | .error x => .error x
  | .ok (t, r) => if (numV t : Int) < least ∨ most < (numV t : Int) then .error (placeM e ts, 3) else .ok ((numV t : Int), r)
def bindR {α β : Type} (x : Res α) (f : α → List Tok → Res β) : Res β := match x with
  | .error e => .error e
  | .ok (a, ts) => f a ts
def sDot : Txt := [46]
def atomM (e : Nat) (ts : List Tok) : Res Rul :=
  bindR (takeM e namedB ts) fun f ts => bindR (takeM e compB ts) fun o ts =>
    if o = sEq then
      (if seesB paperB ts = true then bindR (takeM e paperB ts) fun x ts => bindR (takeM e (signB sDot) ts) fun _ ts => bindR (takeM e namedB ts) fun y ts => .ok (.mk 7 (paperI x) f y 0 [], ts)
       else bindR (takeM e (kindB 3) ts) fun x ts => .ok (.mk 3 0 f x 0 [], ts))
    else if o = sTilde then bindR (takeM e (kindB 3) ts) fun x ts => .ok (.mk 4 0 f x 0 [], ts)
    else if o = sLe then bindR (numM e 0 1099511627776 ts) fun n ts => .ok (.mk 5 0 f [] n [], ts)
    else bindR (numM e 0 1099511627776 ts) fun n ts => .ok (.mk 6 0 f [] n [], ts)
def wNot : Txt := [110, 111, 116]
def wAnd : Txt := [97, 110, 100]
def wOr : Txt := [111, 114]
def sOpen : Txt := [40]
def sShut : Txt := [41]
/-- Parts with a word between each two. -/
def partsP (part : List Tok → Option (Res Rul)) (sep : Txt) : Nat → List Tok → Option (Res (List Rul))
  | 0, _ => none
  | n + 1, ts => match part ts with
    | none => none
    | some (.error x) => some (.error x)
    | some (.ok (r, ts')) =>
      if seesB (wordB sep) ts' = true then match partsP part sep n ts'.tail with
        | none => none
        | some (.error x) => some (.error x)
        | some (.ok (l, ts'')) => some (.ok (r :: l, ts''))
      else some (.ok ([r], ts'))
def joinK (k : Int) (l : List Rul) : Rul := match l with
  | [r] => r
  | l => .mk k 0 [] [] 0 l
def rowP (part : List Tok → Option (Res Rul)) (sep : Txt) (k : Int) (n : Nat) (ts : List Tok) : Option (Res Rul) := match partsP part sep n ts with
  | none => none
  | some (.error x) => some (.error x)
  | some (.ok (l, ts')) => some (.ok (joinK k l, ts'))
def allOf (one : List Tok → Option (Res Rul)) (n : Nat) (ts : List Tok) : Option (Res Rul) := rowP one wAnd 0 n ts
def ruleOf (one : List Tok → Option (Res Rul)) (n : Nat) (ts : List Tok) : Option (Res Rul) := rowP (allOf one n) wOr 1 n ts
def oneP (e : Nat) : Nat → List Tok → Option (Res Rul)
  | 0, _ => none
  | n + 1, ts =>
    if (seesB (wordB wNot) ts && !seesB compB ts.tail) = true then match oneP e n ts.tail with
      | none => none
      | some (.error x) => some (.error x)
      | some (.ok (r, ts')) => some (.ok (.mk 2 0 [] [] 0 [r], ts'))
    else if seesB (signB sOpen) ts = true then match ruleOf (oneP e n) n ts.tail with
      | none => none
      | some (.error x) => some (.error x)
      | some (.ok (r, ts')) => some (bindR (takeM e (signB sShut) ts') fun _ ts'' => .ok (r, ts''))
    else some (atomM e ts)
def ruleP (e n : Nat) (ts : List Tok) : Option (Res Rul) := ruleOf (oneP e n) n ts
mutual
def crowdR : Rul → Bool
  | .mk _ _ _ _ _ L => decide (64 < L.length) || crowdL L
def crowdL : List Rul → Bool
  | [] => false
  | r :: L => crowdR r || crowdL L
end
mutual
def depthR : Rul → Nat
  | .mk _ _ _ _ _ L => depthL L
def depthL : List Rul → Nat
  | [] => 0
  | r :: L => max (depthR r + 1) (depthL L)
end
/-- A rule to its end, that is not too great. -/
def wholeP (e n : Nat) (ts : List Tok) : Option (Res Rul) := match ruleP e n ts with
  | none => none
  | some (.error x) => some (.error x)
  | some (.ok (r, ts')) => if 16 < depthR r ∨ crowdR r = true then some (.error (placeM e ts, 7)) else some (.ok (r, ts'))
def emptyR : Rul := .mk 0 0 [] [] 0 []
/-- The rule of a text; or the place and the error. -/
def ruleT (s : Txt) : Except (Nat × Int) Rul :=
  if 4096 < s.length then .error (0, 7)
  else match scanT s with
    | .error x => .error x
    | .ok [] => .ok emptyR
    | .ok (t :: ts) => match wholeP s.length (2 * (ts.length + 1) + 2) (t :: ts) with
      | none => .error (0, 7)
      | some (.error x) => .error x
      | some (.ok (r, [])) => .ok r
      | some (.ok (_, t' :: _)) => .error (t'.place, 2)

/-- Texts of rules. -/
def parB (outer k : Int) : Bool := k == 1 || (k == 0 && outer != 1)
def inPar (b : Bool) (t : Txt) : Txt := if b = true then sOpen ++ t ++ sShut else t
def decN (f n : Nat) : Txt := match f with
  | 0 => []
  | f + 1 => if n < 10 then [UInt8.ofNat (48 + n)] else decN f (n / 10) ++ [UInt8.ofNat (48 + n % 10)]
def paperT (p : Int) : Txt := papersL.getD p.toNat []
mutual
def showR : Rul → Txt
  | .mk k p f x n L =>
    if k = 3 then f ++ [32, 61, 32, 34] ++ x ++ [34]
    else if k = 4 then f ++ [32, 126, 32, 34] ++ x ++ [34]
    else if k = 5 then f ++ [32, 60, 61, 32] ++ decN 20 n.toNat
    else if k = 6 then f ++ [32, 62, 61, 32] ++ decN 20 n.toNat
    else if k = 7 then f ++ [32, 61, 32] ++ paperT p ++ [46] ++ x
    else if k = 2 then [110, 111, 116, 32] ++ showL 2 [] L
    else if k = 1 then showL 1 [32, 111, 114, 32] L
    else showL 0 [32, 97, 110, 100, 32] L
def showL (outer : Int) (sep : Txt) : List Rul → Txt
  | [] => []
  | r :: L => inPar (parB outer r.kind) (showR r) ++ (if L = [] then [] else sep) ++ showL outer sep L
end
end Go.Proofs.YtjkmhlfjheiekaaGreatDoor

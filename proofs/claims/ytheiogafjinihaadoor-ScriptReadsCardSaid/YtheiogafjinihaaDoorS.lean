/- A setup out of bytes; it hangs on the bytes that its deals read alone. (Plain: no program.) -/
namespace Go.Proofs.YtheiogafjinihaaDoor

/-- A byte, or 0. -/
def byteAt (b : List UInt8) (i : Nat) : Nat := match b[i]? with
  | some c => c.toNat
  | none => 0
structure SBox where
  mark : ByteArray
  kind : Int
  count : Int
structure SDeal where
  number : ByteArray
  seller : ByteArray
  buyer : ByteArray
  carrier : ByteArray
  issuer : ByteArray
  house : ByteArray
  insurer : ByteArray
  currency : ByteArray
  price : Int
  boxes : List SBox
  term : Int
  latest : Int
  expiry : Int
  tenor : Int
  duty : Int
def nmL : List ByteArray := [⟨#[97, 110, 110, 97]⟩, ⟨#[98, 101, 114, 116]⟩, ⟨#[99, 108, 101, 111]⟩]
def bkL : List ByteArray := [⟨#[102, 117, 110, 100]⟩, ⟨#[103, 111, 108, 100]⟩, ⟨#[102, 117, 110, 100]⟩]
def crL : List ByteArray := [⟨#[100, 111, 114, 97]⟩, ⟨#[101, 109, 105, 108]⟩]
/-- The deal of a number k, of nine bytes; 'num' and 'mk' are the texts of numbers and marks. -/
def dealM (num mk : Nat → ByteArray) (k : Nat) (x : Nat → Nat) : SDeal :=
  let s := x 0 % 3
  let b := (s + 1 + x 1 % 2) % 3
  { number := num k
    seller := nmL.getD s ⟨#[]⟩
    buyer := nmL.getD b ⟨#[]⟩
    issuer := bkL.getD b ⟨#[]⟩
    carrier := crL.getD (x 2 % 2) ⟨#[]⟩
    house := if x 3 % 2 = 1 then ⟨#[104, 97, 108, 108]⟩ else ⟨#[]⟩
    insurer := if x 3 / 2 % 2 = 1 then ⟨#[105, 114, 105, 115]⟩ else ⟨#[]⟩
    currency := if x 3 / 4 % 2 = 1 then ⟨#[85, 83, 68]⟩ else ⟨#[69, 85, 82]⟩
    price := 1 + 100 * (x 4 : Int)
    boxes := (List.range (1 + x 5 % 3)).map fun i => ⟨mk (10 * k + i), (x 5 / 4 % 2 : Nat), 1 + (x 6 : Int)⟩
    term := (x 6 % 8 : Nat)
    latest := 5 + (x 7 % 32 : Nat)
    expiry := 5 + (x 7 % 32 : Nat) + (x 7 / 32 : Nat)
    tenor := if x 8 % 3 = 1 then 5 else 0
    duty := if x 8 / 4 % 3 = 1 then 50 else if x 8 / 4 % 3 = 2 then 100 else 0 }
theorem dealM_nine (num mk : Nat → ByteArray) (k : Nat) {x y : Nat → Nat} (h : ∀ i, i < 9 → x i = y i) : dealM num mk k x = dealM num mk k y := by
  unfold dealM
  rw [h 0 (by omega), h 1 (by omega), h 2 (by omega), h 3 (by omega), h 4 (by omega), h 5 (by omega), h 6 (by omega), h 7 (by omega), h 8 (by omega)]
structure SSetup where
  amount : Int
  rest : Bool
  deals : List SDeal
def setupM (num mk : Nat → ByteArray) (f : Nat → Nat) : SSetup :=
  { amount := if f 0 / 4 % 2 = 1 then 5000 else 1000000
    rest := decide (f 0 / 8 % 2 = 1)
    deals := (List.range (1 + f 0 % 3)).map fun k => dealM num mk k fun i => f (1 + 9 * k + i) }
/-- What stands behind the last deal's bytes plays no part. -/
theorem setupM_own (num mk : Nat → ByteArray) {f g : Nat → Nat} (h : ∀ i, i < 1 + 9 * (1 + f 0 % 3) → f i = g i) : setupM num mk f = setupM num mk g := by
  have h0 : f 0 = g 0 := h 0 (by omega)
  unfold setupM
  rw [← h0]
  congr 1
  apply List.map_congr_left
  intro k hk
  have hk' : k < 1 + f 0 % 3 := by simpa using hk
  exact dealM_nine num mk k fun i hi => h _ (by omega)
theorem byteAt_noughts (b : List UInt8) (n i : Nat) : byteAt (b ++ List.replicate n 0) i = byteAt b i := by
  unfold byteAt
  by_cases h : i < b.length
  · rw [List.getElem?_append_left h]
  · rw [List.getElem?_append_right (by omega), List.getElem?_eq_none (by omega : b.length ≤ i)]
    by_cases h2 : i - b.length < n
    · rw [List.getElem?_replicate, if_pos h2]; rfl
    · rw [List.getElem?_replicate, if_neg h2]
theorem byteAt_take (b m : List UInt8) (n i : Nat) (hn : n ≤ b.length) (hi : i < n) : byteAt (b.take n ++ m) i = byteAt b i := by
  unfold byteAt
  rw [List.getElem?_append_left (by simp; omega), List.getElem?_take, if_pos hi]
/-- The law, of the plain setups. -/
theorem reads_own (num mk : Nat → ByteArray) (b m : List UInt8) (n : Nat) (hn : n = 1 + 9 * (1 + byteAt b 0 % 3)) (hb : n ≤ b.length) : setupM num mk (byteAt (b.take n ++ m)) = setupM num mk (byteAt b) := by
  have h0 : byteAt (b.take n ++ m) 0 = byteAt b 0 := byteAt_take b m n 0 hb (by omega)
  apply setupM_own
  intro i hi
  rw [h0] at hi
  exact byteAt_take b m n i hb (by omega)
theorem reads_noughts (num mk : Nat → ByteArray) (b : List UInt8) (n : Nat) : setupM num mk (byteAt (b ++ List.replicate n 0)) = setupM num mk (byteAt b) := by
  congr 1
  funext i
  exact byteAt_noughts b n i
end Go.Proofs.YtheiogafjinihaaDoor

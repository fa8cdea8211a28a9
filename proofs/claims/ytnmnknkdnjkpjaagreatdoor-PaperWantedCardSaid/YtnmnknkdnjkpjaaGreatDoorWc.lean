/- The document's Wanted. -/
import Derived.Test.YtnmnknkdnjkpjaaGreatDoorWb
import Derived.Test.YtnmnknkdnjkpjaaGreatDoorEp
import Derived.Test.YtnmnknkdnjkpjaaGreatDoorEi
namespace Go.Proofs.YtnmnknkdnjkpjaaGreatDoor
open Go Go.RowKit Go.BigFrame Go.Maps

/-- A block of one's own, new. -/
def NewV (B : Nat) (t : TypeId) (cs : Array Value) : Ty := fun v W => ∃ g, B ≤ g ∧ v = .pointer (some ⟨g, 0, none⟩) ∧ Blk W g t cs
theorem mono_NewV {B : Nat} {t : TypeId} {cs : Array Value} : MonoT (NewV B t cs) := fun _ _ _ ⟨g, h0, e, h⟩ hb => ⟨g, h0, e, h.below hb h.lt⟩
theorem blk_apart {W : World} {g g' : Nat} {t t' : TypeId} {cs cs' : Array Value} (h : Blk W g t cs) (h' : Blk W g' t' cs') (hne : t ≠ t') : g ≠ g' := by
  rintro rfl
  unfold Blk at h h'
  rw [h] at h'
  simp only [Option.some.injEq, Obj.cells.injEq] at h'
  exact hne h'.2.1
theorem Blk.put_ {W W' : World} {g g' : Nat} {t : TypeId} {cs : Array Value} (h : Blk W g t cs) (hu : But g' W W') (hne : g ≠ g') : Blk W' g t cs :=
  h.grown hu.grown (by simpa using hne)
def tyD3 (w : World) (w3 : World) (D : Array Value) (BN : ByteArray) (MK : ByteArray) (ML : List ByteArray) (dA : Option Addr) (dn : Nat) (dc : Nat) : List Ty := [Is (.pointer (some ⟨w.heap.size, 11, none⟩)), Is (.slice dA dn dc), Is (.int .i64 (dn : Int)), Is (.agg #[.string ⟨#[98, 111, 120, 101, 115]⟩, .string BN]), Is (.agg D), (NamesV ML dn), Is (.string MK), Is (.agg #[.string ⟨#[109, 97, 114, 107, 115]⟩, .string MK]), (NewV w3.heap.size 79 #[.string ⟨#[]⟩, .string ⟨#[]⟩]), (NewV w3.heap.size 79 #[.string ⟨#[]⟩, .string ⟨#[]⟩])]
theorem tyD3_mono (w : World) (w3 : World) (D : Array Value) (BN : ByteArray) (MK : ByteArray) (ML : List ByteArray) (dA : Option Addr) (dn : Nat) (dc : Nat) : MonoL (tyD3 w w3 D BN MK ML dA dn dc) := ⟨mono_is _, mono_is _, mono_is _, mono_is _, mono_is _, mono_NamesV, mono_is _, mono_is _, mono_NewV, mono_NewV, trivial⟩
def tyD4 (w : World) (w4 : World) (fr : ByteArray) (tp : ByteArray) : List Ty := [Is (.pointer (some ⟨w.heap.size, 7, none⟩)), Is (.string fr), Is (.agg #[.string ⟨#[102, 114, 111, 109]⟩, .string fr]), Is (.agg #[.int .i64 3, .int .i64 0, .string ⟨#[102, 114, 111, 109]⟩, .string fr, .int .i64 0, .slice none 0 0]), Is (.pointer (some ⟨w.heap.size, 8, none⟩)), Is (.string tp), Is (.agg #[.string ⟨#[116, 111]⟩, .string tp]), Is (.agg #[.int .i64 3, .int .i64 0, .string ⟨#[116, 111]⟩, .string tp, .int .i64 0, .slice none 0 0]), (NewV w4.heap.size 109 #[.int .i64 0, .int .i64 0, .string ⟨#[]⟩, .string ⟨#[]⟩, .int .i64 0, .slice none 0 0]), (NewV w4.heap.size 109 #[.int .i64 0, .int .i64 0, .string ⟨#[]⟩, .string ⟨#[]⟩, .int .i64 0, .slice none 0 0])]
theorem tyD4_mono (w : World) (w4 : World) (fr : ByteArray) (tp : ByteArray) : MonoL (tyD4 w w4 fr tp) := ⟨mono_is _, mono_is _, mono_is _, mono_is _, mono_is _, mono_is _, mono_is _, mono_is _, mono_NewV, mono_NewV, trivial⟩
def tyD5 (w : World) (w1 : World) (b4 : Nat) (o4 : Nat) (c4 : Nat) (se : ByteArray) (bu : ByteArray) (cu : ByteArray) (SM : ByteArray) (fr : ByteArray) (tp : ByteArray) : List Ty := [Is (.pointer (some ⟨w1.heap.size, 17, none⟩)), Is (.slice none 0 0), Is (.slice (some ⟨b4, o4, none⟩) 8 c4), Is (.pointer (some ⟨b4, o4, none⟩)), Is (.agg #[.string ⟨#[115, 101, 108, 108, 101, 114]⟩, .string se]), Is (.agg #[.int .i64 3, .int .i64 0, .string ⟨#[115, 101, 108, 108, 101, 114]⟩, .string se, .int .i64 0, .slice none 0 0]), Is (.slice (some ⟨b4, o4, none⟩) 8 c4), Is (.pointer (some ⟨b4, o4 + 2, none⟩)), Is (.agg #[.string ⟨#[98, 117, 121, 101, 114]⟩, .string bu]), Is (.agg #[.int .i64 3, .int .i64 0, .string ⟨#[98, 117, 121, 101, 114]⟩, .string bu, .int .i64 0, .slice none 0 0]), Is (.slice (some ⟨b4, o4, none⟩) 8 c4), Is (.pointer (some ⟨b4, o4 + 4, none⟩)), Is (.agg #[.string ⟨#[99, 117, 114, 114, 101, 110, 99, 121]⟩, .string cu]), Is (.agg #[.int .i64 3, .int .i64 0, .string ⟨#[99, 117, 114, 114, 101, 110, 99, 121]⟩, .string cu, .int .i64 0, .slice none 0 0]), Is (.slice (some ⟨b4, o4, none⟩) 8 c4), Is (.pointer (some ⟨b4, o4 + 6, none⟩)), Is (.agg #[.string ⟨#[115, 117, 109]⟩, .string SM]), Is (.agg #[.int .i64 3, .int .i64 0, .string ⟨#[115, 117, 109]⟩, .string SM, .int .i64 0, .slice none 0 0]), Is (.slice (some ⟨b4, o4, none⟩) 8 c4), Is (.pointer (some ⟨b4, o4 + 8, none⟩)), Is (.agg #[.string ⟨#[102, 114, 111, 109]⟩, .string fr]), Is (.agg #[.int .i64 3, .int .i64 0, .string ⟨#[102, 114, 111, 109]⟩, .string fr, .int .i64 0, .slice none 0 0]), Is (.slice (some ⟨b4, o4, none⟩) 8 c4), Is (.pointer (some ⟨b4, o4 + 10, none⟩)), Is (.agg #[.string ⟨#[116, 111]⟩, .string tp]), Is (.agg #[.int .i64 3, .int .i64 0, .string ⟨#[116, 111]⟩, .string tp, .int .i64 0, .slice none 0 0]), (AtomsV [⟨3, ⟨#[115, 101, 108, 108, 101, 114]⟩, se, 0⟩, ⟨3, ⟨#[98, 117, 121, 101, 114]⟩, bu, 0⟩, ⟨3, ⟨#[99, 117, 114, 114, 101, 110, 99, 121]⟩, cu, 0⟩, ⟨3, ⟨#[115, 117, 109]⟩, SM, 0⟩, ⟨3, ⟨#[102, 114, 111, 109]⟩, fr, 0⟩, ⟨3, ⟨#[116, 111]⟩, tp, 0⟩] 6), (NeedV 0 [⟨3, ⟨#[115, 101, 108, 108, 101, 114]⟩, se, 0⟩, ⟨3, ⟨#[98, 117, 121, 101, 114]⟩, bu, 0⟩, ⟨3, ⟨#[99, 117, 114, 114, 101, 110, 99, 121]⟩, cu, 0⟩, ⟨3, ⟨#[115, 117, 109]⟩, SM, 0⟩, ⟨3, ⟨#[102, 114, 111, 109]⟩, fr, 0⟩, ⟨3, ⟨#[116, 111]⟩, tp, 0⟩] 6), (NeedsV w.heap.size [(0, [⟨3, ⟨#[115, 101, 108, 108, 101, 114]⟩, se, 0⟩, ⟨3, ⟨#[98, 117, 121, 101, 114]⟩, bu, 0⟩, ⟨3, ⟨#[99, 117, 114, 114, 101, 110, 99, 121]⟩, cu, 0⟩, ⟨3, ⟨#[115, 117, 109]⟩, SM, 0⟩, ⟨3, ⟨#[102, 114, 111, 109]⟩, fr, 0⟩, ⟨3, ⟨#[116, 111]⟩, tp, 0⟩])])]
theorem tyD5_mono (w : World) (w1 : World) (b4 : Nat) (o4 : Nat) (c4 : Nat) (se : ByteArray) (bu : ByteArray) (cu : ByteArray) (SM : ByteArray) (fr : ByteArray) (tp : ByteArray) : MonoL (tyD5 w w1 b4 o4 c4 se bu cu SM fr tp) := ⟨mono_is _, mono_is _, mono_is _, mono_is _, mono_is _, mono_is _, mono_is _, mono_is _, mono_is _, mono_is _, mono_is _, mono_is _, mono_is _, mono_is _, mono_is _, mono_is _, mono_is _, mono_is _, mono_is _, mono_is _, mono_is _, mono_is _, mono_is _, mono_is _, mono_is _, mono_is _, mono_AtomsV, mono_NeedV, mono_NeedsV, trivial⟩
def tyD6 (w : World) (w1 : World) (BN : ByteArray) (MK : ByteArray) (nA : Option Addr) (nn : Nat) (nc : Nat) : List Ty := [Is (.pointer (some ⟨w1.heap.size, 17, none⟩)), Is (.slice nA nn nc), Is (.agg #[.string ⟨#[98, 111, 120, 101, 115]⟩, .string BN]), Is (.agg #[.int .i64 3, .int .i64 0, .string ⟨#[98, 111, 120, 101, 115]⟩, .string BN, .int .i64 0, .slice none 0 0]), Is (.agg #[.string ⟨#[109, 97, 114, 107, 115]⟩, .string MK]), Is (.agg #[.int .i64 3, .int .i64 0, .string ⟨#[109, 97, 114, 107, 115]⟩, .string MK, .int .i64 0, .slice none 0 0]), (AtomsV [⟨3, ⟨#[98, 111, 120, 101, 115]⟩, BN, 0⟩, ⟨3, ⟨#[109, 97, 114, 107, 115]⟩, MK, 0⟩] 2), (NeedV 1 [⟨3, ⟨#[98, 111, 120, 101, 115]⟩, BN, 0⟩, ⟨3, ⟨#[109, 97, 114, 107, 115]⟩, MK, 0⟩] 2), (NeedsV w.heap.size [(1, [⟨3, ⟨#[98, 111, 120, 101, 115]⟩, BN, 0⟩, ⟨3, ⟨#[109, 97, 114, 107, 115]⟩, MK, 0⟩])])]
theorem tyD6_mono (w : World) (w1 : World) (BN : ByteArray) (MK : ByteArray) (nA : Option Addr) (nn : Nat) (nc : Nat) : MonoL (tyD6 w w1 BN MK nA nn nc) := ⟨mono_is _, mono_is _, mono_is _, mono_is _, mono_is _, mono_is _, mono_AtomsV, mono_NeedV, mono_NeedsV, trivial⟩
def tyD7 (w : World) (w1 : World) (se : ByteArray) (ca : ByteArray) (fr : ByteArray) (tp : ByteArray) (MK : ByteArray) (la : Int) (nA : Option Addr) (nn : Nat) (nc : Nat) : List Ty := [Is (.pointer (some ⟨w1.heap.size, 17, none⟩)), Is (.slice nA nn nc), Is (.pointer (some ⟨w.heap.size, 3, none⟩)), Is (.string ca), Is (.agg #[.string ⟨#[99, 97, 114, 114, 105, 101, 114]⟩, .string ca]), Is (.agg #[.int .i64 3, .int .i64 0, .string ⟨#[99, 97, 114, 114, 105, 101, 114]⟩, .string ca, .int .i64 0, .slice none 0 0]), Is (.pointer (some ⟨w.heap.size, 1, none⟩)), Is (.string se), Is (.agg #[.string ⟨#[115, 104, 105, 112, 112, 101, 114]⟩, .string se]), Is (.agg #[.int .i64 3, .int .i64 0, .string ⟨#[115, 104, 105, 112, 112, 101, 114]⟩, .string se, .int .i64 0, .slice none 0 0]), Is (.agg #[.int .i64 3, .int .i64 0, .string ⟨#[102, 114, 111, 109]⟩, .string fr, .int .i64 0, .slice none 0 0]), Is (.agg #[.int .i64 3, .int .i64 0, .string ⟨#[116, 111]⟩, .string tp, .int .i64 0, .slice none 0 0]), Is (.agg #[.string ⟨#[109, 97, 114, 107, 115]⟩, .string MK]), Is (.agg #[.int .i64 3, .int .i64 0, .string ⟨#[109, 97, 114, 107, 115]⟩, .string MK, .int .i64 0, .slice none 0 0]), Is (.agg #[.string ⟨#[99, 108, 101, 97, 110]⟩, .string ⟨#[121, 101, 115]⟩]), Is (.agg #[.int .i64 3, .int .i64 0, .string ⟨#[99, 108, 101, 97, 110]⟩, .string ⟨#[121, 101, 115]⟩, .int .i64 0, .slice none 0 0]), Is (.pointer (some ⟨w.heap.size, 13, none⟩)), Is (.int .i64 la), Is (.agg #[.int .i64 5, .int .i64 0, .string ⟨#[105, 115, 115, 117, 101, 100]⟩, .string ⟨#[]⟩, .int .i64 la, .slice none 0 0]), (AtomsV [⟨3, ⟨#[99, 97, 114, 114, 105, 101, 114]⟩, ca, 0⟩, ⟨3, ⟨#[115, 104, 105, 112, 112, 101, 114]⟩, se, 0⟩, ⟨3, ⟨#[102, 114, 111, 109]⟩, fr, 0⟩, ⟨3, ⟨#[116, 111]⟩, tp, 0⟩, ⟨3, ⟨#[109, 97, 114, 107, 115]⟩, MK, 0⟩, ⟨3, ⟨#[99, 108, 101, 97, 110]⟩, ⟨#[121, 101, 115]⟩, 0⟩, ⟨5, ⟨#[105, 115, 115, 117, 101, 100]⟩, ⟨#[]⟩, la⟩] 7), (NeedV 2 [⟨3, ⟨#[99, 97, 114, 114, 105, 101, 114]⟩, ca, 0⟩, ⟨3, ⟨#[115, 104, 105, 112, 112, 101, 114]⟩, se, 0⟩, ⟨3, ⟨#[102, 114, 111, 109]⟩, fr, 0⟩, ⟨3, ⟨#[116, 111]⟩, tp, 0⟩, ⟨3, ⟨#[109, 97, 114, 107, 115]⟩, MK, 0⟩, ⟨3, ⟨#[99, 108, 101, 97, 110]⟩, ⟨#[121, 101, 115]⟩, 0⟩, ⟨5, ⟨#[105, 115, 115, 117, 101, 100]⟩, ⟨#[]⟩, la⟩] 7), (NeedsV w.heap.size [(2, [⟨3, ⟨#[99, 97, 114, 114, 105, 101, 114]⟩, ca, 0⟩, ⟨3, ⟨#[115, 104, 105, 112, 112, 101, 114]⟩, se, 0⟩, ⟨3, ⟨#[102, 114, 111, 109]⟩, fr, 0⟩, ⟨3, ⟨#[116, 111]⟩, tp, 0⟩, ⟨3, ⟨#[109, 97, 114, 107, 115]⟩, MK, 0⟩, ⟨3, ⟨#[99, 108, 101, 97, 110]⟩, ⟨#[121, 101, 115]⟩, 0⟩, ⟨5, ⟨#[105, 115, 115, 117, 101, 100]⟩, ⟨#[]⟩, la⟩])])]
theorem tyD7_mono (w : World) (w1 : World) (se : ByteArray) (ca : ByteArray) (fr : ByteArray) (tp : ByteArray) (MK : ByteArray) (la : Int) (nA : Option Addr) (nn : Nat) (nc : Nat) : MonoL (tyD7 w w1 se ca fr tp MK la nA nn nc) := ⟨mono_is _, mono_is _, mono_is _, mono_is _, mono_is _, mono_is _, mono_is _, mono_is _, mono_is _, mono_is _, mono_is _, mono_is _, mono_is _, mono_is _, mono_is _, mono_is _, mono_is _, mono_is _, mono_is _, mono_AtomsV, mono_NeedV, mono_NeedsV, trivial⟩
def tyD9 (w : World) (w1 : World) (cu : ByteArray) (fr : ByteArray) (tp : ByteArray) (am : Int) (nA : Option Addr) (nn : Nat) (nc : Nat) : List Ty := [Is (.pointer (some ⟨w1.heap.size, 17, none⟩)), Is (.slice nA nn nc), Is (.agg #[.int .i64 3, .int .i64 0, .string ⟨#[102, 114, 111, 109]⟩, .string fr, .int .i64 0, .slice none 0 0]), Is (.agg #[.int .i64 3, .int .i64 0, .string ⟨#[116, 111]⟩, .string tp, .int .i64 0, .slice none 0 0]), Is (.pointer (some ⟨w.heap.size, 9, none⟩)), Is (.pointer (some ⟨w.heap.size, 9, none⟩)), Is (.string cu), Is (.agg #[.string ⟨#[99, 117, 114, 114, 101, 110, 99, 121]⟩, .string cu]), Is (.agg #[.int .i64 3, .int .i64 0, .string ⟨#[99, 117, 114, 114, 101, 110, 99, 121]⟩, .string cu, .int .i64 0, .slice none 0 0]), Is (.pointer (some ⟨w.heap.size, 9, none⟩)), Is (.pointer (some ⟨w.heap.size, 10, none⟩)), Is (.int .i64 am), Is (.agg #[.int .i64 6, .int .i64 0, .string ⟨#[115, 117, 109]⟩, .string ⟨#[]⟩, .int .i64 am, .slice none 0 0]), (AtomsV [⟨3, ⟨#[102, 114, 111, 109]⟩, fr, 0⟩, ⟨3, ⟨#[116, 111]⟩, tp, 0⟩, ⟨3, ⟨#[99, 117, 114, 114, 101, 110, 99, 121]⟩, cu, 0⟩, ⟨6, ⟨#[115, 117, 109]⟩, ⟨#[]⟩, am⟩] 4), (NeedV 3 [⟨3, ⟨#[102, 114, 111, 109]⟩, fr, 0⟩, ⟨3, ⟨#[116, 111]⟩, tp, 0⟩, ⟨3, ⟨#[99, 117, 114, 114, 101, 110, 99, 121]⟩, cu, 0⟩, ⟨6, ⟨#[115, 117, 109]⟩, ⟨#[]⟩, am⟩] 4), (NeedsV w.heap.size [(3, [⟨3, ⟨#[102, 114, 111, 109]⟩, fr, 0⟩, ⟨3, ⟨#[116, 111]⟩, tp, 0⟩, ⟨3, ⟨#[99, 117, 114, 114, 101, 110, 99, 121]⟩, cu, 0⟩, ⟨6, ⟨#[115, 117, 109]⟩, ⟨#[]⟩, am⟩])])]
theorem tyD9_mono (w : World) (w1 : World) (cu : ByteArray) (fr : ByteArray) (tp : ByteArray) (am : Int) (nA : Option Addr) (nn : Nat) (nc : Nat) : MonoL (tyD9 w w1 cu fr tp am nA nn nc) := ⟨mono_is _, mono_is _, mono_is _, mono_is _, mono_is _, mono_is _, mono_is _, mono_is _, mono_is _, mono_is _, mono_is _, mono_is _, mono_is _, mono_AtomsV, mono_NeedV, mono_NeedsV, trivial⟩
def tyDA (w : World) (w1 : World) (se : ByteArray) (fr : ByteArray) (nA : Option Addr) (nn : Nat) (nc : Nat) : List Ty := [Is (.pointer (some ⟨w1.heap.size, 17, none⟩)), Is (.slice nA nn nc), Is (.pointer (some ⟨w.heap.size, 1, none⟩)), Is (.string se), Is (.agg #[.string ⟨#[115, 101, 108, 108, 101, 114]⟩, .string se]), Is (.agg #[.int .i64 3, .int .i64 0, .string ⟨#[115, 101, 108, 108, 101, 114]⟩, .string se, .int .i64 0, .slice none 0 0]), Is (.pointer (some ⟨w.heap.size, 7, none⟩)), Is (.string fr), Is (.agg #[.string ⟨#[99, 111, 117, 110, 116, 114, 121]⟩, .string fr]), Is (.agg #[.int .i64 3, .int .i64 0, .string ⟨#[99, 111, 117, 110, 116, 114, 121]⟩, .string fr, .int .i64 0, .slice none 0 0]), (AtomsV [⟨3, ⟨#[115, 101, 108, 108, 101, 114]⟩, se, 0⟩, ⟨3, ⟨#[99, 111, 117, 110, 116, 114, 121]⟩, fr, 0⟩] 2), (NeedV 4 [⟨3, ⟨#[115, 101, 108, 108, 101, 114]⟩, se, 0⟩, ⟨3, ⟨#[99, 111, 117, 110, 116, 114, 121]⟩, fr, 0⟩] 2), (NeedsV w.heap.size [(4, [⟨3, ⟨#[115, 101, 108, 108, 101, 114]⟩, se, 0⟩, ⟨3, ⟨#[99, 111, 117, 110, 116, 114, 121]⟩, fr, 0⟩])])]
theorem tyDA_mono (w : World) (w1 : World) (se : ByteArray) (fr : ByteArray) (nA : Option Addr) (nn : Nat) (nc : Nat) : MonoL (tyDA w w1 se fr nA nn nc) := ⟨mono_is _, mono_is _, mono_is _, mono_is _, mono_is _, mono_is _, mono_is _, mono_is _, mono_is _, mono_is _, mono_AtomsV, mono_NeedV, mono_NeedsV, trivial⟩

set_option maxRecDepth 100000 in
set_option maxHeartbeats 12800000 in
theorem rwanted_any (d : Dl) (w : World) (hok : Hid (d.ok w)) (he : Env w) : Calls Tryz.prog 27 #[.agg d.cells] w fun e w' => ∃ v, e = .returned (.agg (crC d v)) ∧ NeedsV w.heap.size (needsM d) v w' ∧ Below w.heap.size w w' := by
  have he' := Lib.hid he
  clear he
  obtain ⟨D, hD⟩ : ∃ X, Hid (d.cells = X) := ⟨_, rfl⟩
  rw [hD.out]
  have hDs : Hid (D.size = 17) := by rw [← hD.out]; exact Lib.hid rfl
  obtain ⟨w1, hw1⟩ : ∃ W, Hid ((w.alloc (.cells D 26)).alloc (.cells zeroC 52) = W) := ⟨_, rfl⟩
  have hB1 : Hid (Below w.heap.size w w1) := by rw [← hw1.out]; exact ((Below.refl _ w).alloc (Nat.le_refl _) _).alloc (by simp) _
  have hk1 : Hid (Blk w1 w.heap.size 26 D) := by rw [← hw1.out]; exact Lib.hid ((Blk.new w 26 _).alloc _)
  have hz1 : Hid (Blk w1 (w.heap.size + 1) 52 zeroC) := by rw [← hw1.out]; exact Lib.hid (blk_second w _ _ _)
  have hs1 : Hid (w1.heap.size = w.heap.size + 2) := by rw [← hw1.out]; refine Lib.hid ?_; simp
  obtain ⟨nb, hnb⟩ : ∃ x, Hid (d.number = x) := ⟨_, rfl⟩
  have hD0 : Hid (D[0]? = some (.string nb)) := by rw [← hD.out, ← hnb.out]; exact Lib.hid rfl
  obtain ⟨se, hse⟩ : ∃ x, Hid (d.seller = x) := ⟨_, rfl⟩
  have hD1 : Hid (D[1]? = some (.string se)) := by rw [← hD.out, ← hse.out]; exact Lib.hid rfl
  obtain ⟨bu, hbu⟩ : ∃ x, Hid (d.buyer = x) := ⟨_, rfl⟩
  have hD2 : Hid (D[2]? = some (.string bu)) := by rw [← hD.out, ← hbu.out]; exact Lib.hid rfl
  obtain ⟨ca, hca⟩ : ∃ x, Hid (d.carrier = x) := ⟨_, rfl⟩
  have hD3 : Hid (D[3]? = some (.string ca)) := by rw [← hD.out, ← hca.out]; exact Lib.hid rfl
  obtain ⟨is, his⟩ : ∃ x, Hid (d.issuer = x) := ⟨_, rfl⟩
  have hD4 : Hid (D[4]? = some (.string is)) := by rw [← hD.out, ← his.out]; exact Lib.hid rfl
  obtain ⟨ins, hins⟩ : ∃ x, Hid (d.insurer = x) := ⟨_, rfl⟩
  have hD6 : Hid (D[6]? = some (.string ins)) := by rw [← hD.out, ← hins.out]; exact Lib.hid rfl
  obtain ⟨fr, hfr⟩ : ∃ x, Hid (d.frm = x) := ⟨_, rfl⟩
  have hD7 : Hid (D[7]? = some (.string fr)) := by rw [← hD.out, ← hfr.out]; exact Lib.hid rfl
  obtain ⟨tp, htp⟩ : ∃ x, Hid (d.toP = x) := ⟨_, rfl⟩
  have hD8 : Hid (D[8]? = some (.string tp)) := by rw [← hD.out, ← htp.out]; exact Lib.hid rfl
  obtain ⟨cu, hcu⟩ : ∃ x, Hid (d.currency = x) := ⟨_, rfl⟩
  have hD9 : Hid (D[9]? = some (.string cu)) := by rw [← hD.out, ← hcu.out]; exact Lib.hid rfl
  obtain ⟨am, ham⟩ : ∃ x, Hid (d.amount = x) := ⟨_, rfl⟩
  have hD10 : Hid (D[10]? = some (.int .i64 am)) := by rw [← hD.out, ← ham.out]; exact Lib.hid rfl
  obtain ⟨la, hla⟩ : ∃ x, Hid (d.latest = x) := ⟨_, rfl⟩
  have hD13 : Hid (D[13]? = some (.int .i64 la)) := by rw [← hD.out, ← hla.out]; exact Lib.hid rfl
  obtain ⟨ex, hex⟩ : ∃ x, Hid (d.expiry = x) := ⟨_, rfl⟩
  have hD14 : Hid (D[14]? = some (.int .i64 ex)) := by rw [← hD.out, ← hex.out]; exact Lib.hid rfl
  obtain ⟨te, hte⟩ : ∃ x, Hid (d.tenor = x) := ⟨_, rfl⟩
  have hD15 : Hid (D[15]? = some (.int .i64 te)) := by rw [← hD.out, ← hte.out]; exact Lib.hid rfl
  obtain ⟨dA, hdA⟩ : ∃ x, Hid (d.A = x) := ⟨_, rfl⟩
  obtain ⟨dn, hdn⟩ : ∃ x, Hid (d.boxes.length = x) := ⟨_, rfl⟩
  obtain ⟨dc, hdc⟩ : ∃ x, Hid (d.c = x) := ⟨_, rfl⟩
  have hD11 : Hid (D[11]? = some (.slice dA dn dc)) := by rw [← hD.out, ← hdA.out, ← hdn.out, ← hdc.out]; exact Lib.hid rfl
  obtain ⟨MK, hMK⟩ : ∃ x, Hid (mkB (marksT d.boxes) = x) := ⟨_, rfl⟩
  obtain ⟨BN, hBN⟩ : ∃ x, Hid (mkB (Lib.itoa d.boxes.length) = x) := ⟨_, rfl⟩
  obtain ⟨SM, hSM⟩ : ∃ x, Hid (mkB (Lib.itoa d.amount) = x) := ⟨_, rfl⟩
  obtain ⟨ML, hML⟩ : ∃ x, Hid (d.boxes.map Bx.mark = x) := ⟨_, rfl⟩
  have hnum : Hid (∀ W, Calls Tryz.prog 36 #[.string ⟨#[98, 111, 120, 101, 115]⟩, .int .i64 (dn : Int)] W fun e w' => e = .returned (.agg #[.string ⟨#[98, 111, 120, 101, 115]⟩, .string BN]) ∧ Below W.heap.size W w') := by
    intro W
    have h := rnum_any ⟨#[98, 111, 120, 101, 115]⟩ (d.boxes.length : Int) W (by omega) (by have := hok.out.most; omega)
    rw [hBN.out, hdn.out] at h
    exact h
  have hms : Hid (∀ W, Below w.heap.size w W → Calls Tryz.prog 39 #[.agg D] W fun e w' => ∃ A c, e = .returned (.slice A dn c) ∧ StrsAt w' A ML ∧ Below W.heap.size W w') := by
    intro W hW
    have h := rmarks_any d W (Lib.hid (BoxesOk.below ⟨hok.out.at_, hok.out.marks⟩ hW)) hok.out.most
    rw [hD.out, hdn.out, hML.out] at h
    exact h.mono fun e w' ⟨A, c, e1, _, h1, h2⟩ => ⟨A, c, e1, h1, h2⟩
  have hjn : Hid (∀ W A c, StrsAt W A ML → Calls Tryz.prog 38 #[.slice A dn c] W fun e w' => e = .returned (.string MK) ∧ Below W.heap.size W w') := by
    intro W A c hS
    have h := rjoinm_any A d.boxes.length c d.boxes W hok.out.most (Lib.hid rfl) (Lib.hid fun x hx => (hok.out.marks x hx).1) (Lib.hid (by rw [hML.out]; exact hS))
    rw [hMK.out, hdn.out] at h
    exact h
  obtain ⟨n1, hn1⟩ : ∃ x, Hid (mkB [105, 118, 45] ++ d.number = x) := ⟨_, rfl⟩
  obtain ⟨i1, hi1⟩ : ∃ x, Hid (d.seller = x) := ⟨_, rfl⟩
  obtain ⟨F1, hF1⟩ : ∃ x, Hid (invL d = x) := ⟨_, rfl⟩
  have hl1 : Hid (F1.length = 8) := by rw [← hF1.out]; exact Lib.hid rfl
  have hp1 : Hid (∀ W, Below w.heap.size w W → Calls Tryz.prog 11 #[.agg D] W fun e w' => ∃ A c, e = .returned (.agg #[.int .i64 0, .string n1, .string i1, .slice A 8 c]) ∧ FieldsAt w' A F1 ∧ Below W.heap.size W w') := by
    intro W hW
    have h := rinvoice_any d W (Lib.hid (hok.out.below hW)) (he'.out.below hW)
    rw [hD.out, hF1.out, hn1.out, hi1.out] at h
    exact h.mono fun e w' hq => pap_fin hl1 hq
  have hF10 : Hid (F1[0]? = some ⟨⟨#[115, 101, 108, 108, 101, 114]⟩, se⟩) := by rw [← hF1.out, ← hse.out]; exact Lib.hid rfl
  have hF11 : Hid (F1[1]? = some ⟨⟨#[98, 117, 121, 101, 114]⟩, bu⟩) := by rw [← hF1.out, ← hbu.out]; exact Lib.hid rfl
  have hF12 : Hid (F1[2]? = some ⟨⟨#[99, 117, 114, 114, 101, 110, 99, 121]⟩, cu⟩) := by rw [← hF1.out, ← hcu.out]; exact Lib.hid rfl
  have hF13 : Hid (F1[3]? = some ⟨⟨#[115, 117, 109]⟩, SM⟩) := by rw [← hF1.out, ← hSM.out]; exact Lib.hid rfl
  have hF14 : Hid (F1[4]? = some ⟨⟨#[102, 114, 111, 109]⟩, fr⟩) := by rw [← hF1.out, ← hfr.out]; exact Lib.hid rfl
  have hF15 : Hid (F1[5]? = some ⟨⟨#[116, 111]⟩, tp⟩) := by rw [← hF1.out, ← htp.out]; exact Lib.hid rfl
  obtain ⟨CR, hCR⟩ : ∃ F : Value → Array Value, Hid (crC d = F) := ⟨_, rfl⟩
  have hCRs : Hid (∀ v, (CR v).size = 18) := by rw [← hCR.out]; exact Lib.hid fun _ => rfl
  have hCR1 : Hid ((CR (.slice none 0 0)).all (·.oneCell') = true) := by rw [← hCR.out]; unfold Hid; simp [crC, Value.oneCell']
  have hCRset : Hid (∀ v u, (CR v).setIfInBounds 17 u = CR u) := by rw [← hCR.out]; exact Lib.hid fun _ _ => rfl
  have hCR17 : Hid (∀ v, (CR v)[17]? = some v) := by rw [← hCR.out]; exact Lib.hid fun _ => rfl
  go_enter Tryz.func27, Tryz.ntmps27
  go_upto_region 1 with fail
  rw [hw1.out]
  have c0 : w1.cell? ⟨w.heap.size, 0, none⟩ = some (.string nb) := (hk1.out.cell 0).trans hD0.out
  have c1 : w1.cell? ⟨w.heap.size, 1, none⟩ = some (.string se) := (hk1.out.cell 1).trans hD1.out
  have c2 : w1.cell? ⟨w.heap.size, 2, none⟩ = some (.string bu) := (hk1.out.cell 2).trans hD2.out
  have c4 : w1.cell? ⟨w.heap.size, 4, none⟩ = some (.string is) := (hk1.out.cell 4).trans hD4.out
  have c7 : w1.cell? ⟨w.heap.size, 7, none⟩ = some (.string fr) := (hk1.out.cell 7).trans hD7.out
  have c8 : w1.cell? ⟨w.heap.size, 8, none⟩ = some (.string tp) := (hk1.out.cell 8).trans hD8.out
  have c9 : w1.cell? ⟨w.heap.size, 9, none⟩ = some (.string cu) := (hk1.out.cell 9).trans hD9.out
  have c10 : w1.cell? ⟨w.heap.size, 10, none⟩ = some (.int .i64 am) := (hk1.out.cell 10).trans hD10.out
  have c13 : w1.cell? ⟨w.heap.size, 13, none⟩ = some (.int .i64 la) := (hk1.out.cell 13).trans hD13.out
  have c14 : w1.cell? ⟨w.heap.size, 14, none⟩ = some (.int .i64 ex) := (hk1.out.cell 14).trans hD14.out
  have c15 : w1.cell? ⟨w.heap.size, 15, none⟩ = some (.int .i64 te) := (hk1.out.cell 15).trans hD15.out
  have hn2 : Hid (Blk (w1.alloc (.cells zeroC 52)) w1.heap.size 52 zeroC) := Lib.hid (Blk.new _ _ _)
  go_upto_region 2 with (refine wpList_put_blk rfl 52 _ _ rfl w1.heap.size zeroC (CR (.slice none 0 0)) 52 rfl (by rw [← hnb.out, ← hbu.out, ← hse.out, ← his.out, ← hfr.out, ← htp.out, ← hcu.out, ← ham.out, ← hla.out, ← hex.out, ← hte.out, ← hCR.out]; rfl) hn2.out (by rw [hCRs.out]; rfl) (by rw [hCRs.out]; kernel_rfl) hCR1.out ?_; intro w2 hc2 hu2)
  have hg12 : Hid (w.heap.size + 1 < w1.heap.size) := by have := hs1.out; unfold Hid; omega
  have hb12 : Hid (Below w1.heap.size w1 w2) := hu2.to_below ((Below.refl _ w1).alloc (Nat.le_refl _) _) (Nat.le_refl _) (by simp)
  have hB2 : Hid (Below w.heap.size w w2) := hB1.out.trans (hb12.out.mono hB1.out.size)
  have hk2 := Lib.hid (hk1.out.below hb12.out hk1.out.lt)
  have hz2 := Lib.hid (hz1.out.below hb12.out hz1.out.lt)
  have hc2' := Lib.hid hc2
  clear hc2 hu2 hn2 hCR1 c0 c1 c2 c4 c7 c8 c9 c10 c13 c14 c15
  have hcall := Lib.hid (hp1.out w2 hB2.out)
  go_wp2_with (refine wpList_get_blk rfl 26 _ rfl w.heap.size D 26 _ rfl hk2.out Tryz.underlying26 rfl (by rw [hDs.out]; kernel_rfl) ?_)
  refine hcall.out.mono ?_
  rintro e w3 ⟨A4, c4, rfl, hFi, hb3⟩
  have hB3 : Hid (Below w.heap.size w w3) := hB2.out.trans (hb3.mono hB2.out.size)
  have hk3 := Lib.hid (hk2.out.below hb3 hk2.out.lt)
  have hc3 := Lib.hid (hc2'.out.below hb3 hc2'.out.lt)
  have hz3 := Lib.hid (hz2.out.below hb3 hz2.out.lt)
  obtain ⟨b4, o4, rfl, _, _⟩ := hFi 0 _ hF10.out
  have hfi3 := Lib.hid hFi
  clear hb3 hFi hcall hk2 hz2 hc2' hB2
  have hfd : ∀ W : World, (Instr.field 32 (.agg #[.int .i64 0, .string n1, .string i1, .slice (some ⟨b4, o4, none⟩) 8 c4]) 3).run Tryz.prog W = .ok (.slice (some ⟨b4, o4, none⟩) 8 c4) W := fun _ => by kernel_rfl
  go_wp2_with fail
  clear hfd
  refine wp_region_any (by kernel_rfl) ?_
  refine wpAny_bodyF 152 (List.range 10) [10, 11] [8, 9] 10 [(0, some 33), (1, some 34), (2, some 35), (3, some 36), (4, some 37), (5, some 38), (6, some 39), (7, some 40), (8, some 5), (9, some 6)] (Array.replicate 12 false) (Array.replicate 10 true ++ Array.replicate 2 false) (fun a b => Below a.heap.size a b) (fun i => (tyD3 w w3 D BN MK ML dA dn dc).getD i (fun _ _ => True)) (by kernel_rfl) rfl (by kernel_rfl) rfl (Below.refl _ _) (fun _ _ _ h k => h.trans (k.mono h.size)) (fun i v W W' h hb => mono_at (tyD3_mono w w3 D BN MK ML dA dn dc) i h hb) ?newest ?step ?fin _ rfl
  case newest =>
    intro i hi v W h
    simp only [List.mem_cons, List.not_mem_nil, or_false] at hi
    rcases hi with rfl | rfl
    all_goals (obtain ⟨g, _, e, hb⟩ := h; exact ⟨g, e, hb.lt⟩)
  case step =>
    refine allB_cons (i := 0) rfl (fun a W hl K hK => ?_) ?_
    · have hK := fun v W' h1 h2 => hK v W' h1 h2 (fun h => absurd h (by decide))
      have t1 : a.tmps.getD 1 undef = .pointer (some ⟨w.heap.size, 0, none⟩) := hl.old 1 (by kernel_rfl)
      exact held_value (v := .pointer (some ⟨w.heap.size, 11, none⟩)) (w' := W) rfl rfl (by go_simp) (hK _ _ (Below.refl _ _) rfl)
    refine allB_cons (i := 1) rfl (fun a W hl K hK => ?_) ?_
    · have hK := fun v W' h1 h2 => hK v W' h1 h2 (fun h => absurd h (by decide))
      have t33 : Is (.pointer (some ⟨w.heap.size, 11, none⟩)) (a.tmps.getD 33 undef) W := hl.at_ 0 33 (by kernel_rfl)
      unfold Is at t33
      have hbD : Blk W (w.heap.size) 26 D := hk3.out.drew.below hl.world hk3.out.drew.lt
      have cc : W.cell? ⟨w.heap.size, 11, none⟩ = some (.slice dA dn dc) := (hbD.cell 11).trans hD11.out
      exact held_value (v := .slice dA dn dc) (w' := W) rfl rfl (by go_simp) (hK _ _ (Below.refl _ _) rfl)
    refine allB_cons (i := 2) rfl (fun a W hl K hK => ?_) ?_
    · have hK := fun v W' h1 h2 => hK v W' h1 h2 (fun h => absurd h (by decide))
      have t34 : Is (.slice dA dn dc) (a.tmps.getD 34 undef) W := hl.at_ 1 34 (by kernel_rfl)
      unfold Is at t34
      exact held_value (v := .int .i64 (dn : Int)) (w' := W) rfl rfl (by go_simp) (hK _ _ (Below.refl _ _) rfl)
    refine allB_cons (i := 3) rfl (fun a W hl K hK => ?_) ?_
    · have hK := fun v W' h1 h2 => hK v W' h1 h2 (fun h => absurd h (by decide))
      have t35 : Is (.int .i64 (dn : Int)) (a.tmps.getD 35 undef) W := hl.at_ 2 35 (by kernel_rfl)
      unfold Is at t35
      refine held_call (f := 36) (args := #[.string ⟨#[98, 111, 120, 101, 115]⟩, .int .i64 (dn : Int)]) (w := W) rfl rfl (by go_simp) ?_
      refine (hnum.out W).mono ?_
      rintro e w' ⟨rfl, hb⟩
      exact ⟨_, rfl, hK _ _ hb rfl⟩
    refine allB_cons (i := 4) rfl (fun a W hl K hK => ?_) ?_
    · have hK := fun v W' h1 h2 => hK v W' h1 h2 (fun h => absurd h (by decide))
      have t1 : a.tmps.getD 1 undef = .pointer (some ⟨w.heap.size, 0, none⟩) := hl.old 1 (by kernel_rfl)
      have hbD : Blk W (w.heap.size) 26 D := hk3.out.drew.below hl.world hk3.out.drew.lt
      exact held_value (v := .agg D) (w' := W) rfl rfl (run_ldb rfl t1 hbD Tryz.underlying26 rfl (by rw [hDs.out]; kernel_rfl)) (hK _ _ (Below.refl _ _) rfl)
    refine allB_cons (i := 5) rfl (fun a W hl K hK => ?_) ?_
    · have hK := fun v W' h1 h2 => hK v W' h1 h2 (fun h => absurd h (by decide))
      have t37 : Is (.agg D) (a.tmps.getD 37 undef) W := hl.at_ 4 37 (by kernel_rfl)
      unfold Is at t37
      refine held_call (f := 39) (args := #[.agg D]) (w := W) rfl rfl (by go_simp) ?_
      refine (hms.out W (hB3.out.drew.trans (hl.world.mono hB3.out.size))).mono ?_
      rintro e w' ⟨A, c, rfl, hS, hb⟩
      exact ⟨_, rfl, hK _ _ hb ⟨A, c, rfl, hS⟩⟩
    refine allB_cons (i := 6) rfl (fun a W hl K hK => ?_) ?_
    · have hK := fun v W' h1 h2 => hK v W' h1 h2 (fun h => absurd h (by decide))
      have t38 : NamesV ML dn (a.tmps.getD 38 undef) W := hl.at_ 5 38 (by kernel_rfl)
      obtain ⟨A1, c1, e1, hS⟩ := t38
      refine held_call (f := 38) (args := #[.slice A1 dn c1]) (w := W) rfl rfl (by go_simp) ?_
      refine (hjn.out W A1 c1 hS).mono ?_
      rintro e w' ⟨rfl, hb⟩
      exact ⟨_, rfl, hK _ _ hb rfl⟩
    refine allB_cons (i := 7) rfl (fun a W hl K hK => ?_) ?_
    · have hK := fun v W' h1 h2 => hK v W' h1 h2 (fun h => absurd h (by decide))
      have t39 : Is (.string MK) (a.tmps.getD 39 undef) W := hl.at_ 6 39 (by kernel_rfl)
      unfold Is at t39
      refine held_call (f := 35) (args := #[.string ⟨#[109, 97, 114, 107, 115]⟩, .string MK]) (w := W) rfl rfl (by go_simp) ?_
      refine (rfield_any ⟨#[109, 97, 114, 107, 115]⟩ MK W).mono ?_
      rintro e w' ⟨rfl, hb⟩
      exact ⟨_, rfl, hK _ _ hb rfl⟩
    refine allB_cons (i := 8) rfl (fun a W hl K hK => ?_) ?_
    · exact held_value (v := .pointer (some ⟨W.heap.size, 0, none⟩)) (w' := W.alloc (.cells #[.string ⟨#[]⟩, .string ⟨#[]⟩] 79)) rfl rfl (by go_simp) (hK _ _ ((Below.refl _ W).alloc (Nat.le_refl _) _) ⟨W.heap.size, hl.world.size, rfl, Blk.new _ _ _⟩ (fun _ g e => by simp only [Value.pointer.injEq, Option.some.injEq, Addr.mk.injEq] at e; omega))
    refine allB_cons (i := 9) rfl (fun a W hl K hK => ?_) ?_
    · exact held_value (v := .pointer (some ⟨W.heap.size, 0, none⟩)) (w' := W.alloc (.cells #[.string ⟨#[]⟩, .string ⟨#[]⟩] 79)) rfl rfl (by go_simp) (hK _ _ ((Below.refl _ W).alloc (Nat.le_refl _) _) ⟨W.heap.size, hl.world.size, rfl, Blk.new _ _ _⟩ (fun _ g e => by simp only [Value.pointer.injEq, Option.some.injEq, Addr.mk.injEq] at e; omega))
    exact allB_nil
  case fin =>
    intro vs W hR hG hDif
    obtain ⟨g5, hg5, e5, hy5⟩ : NewV w3.heap.size 79 #[.string ⟨#[]⟩, .string ⟨#[]⟩] (vs 8) W := hG 8 (by decide)
    obtain ⟨g6, hg6, e6, hy6⟩ : NewV w3.heap.size 79 #[.string ⟨#[]⟩, .string ⟨#[]⟩] (vs 9) W := hG 9 (by decide)
    have hne56 : g5 ≠ g6 := by
      intro e
      exact hDif 8 (by decide) 9 (by decide) (by decide) (by rw [e5, e6, e])
    have hv5 : vs 3 = .agg #[.string ⟨#[98, 111, 120, 101, 115]⟩, .string BN] := hG 3 (by decide)
    have hv6 : vs 7 = .agg #[.string ⟨#[109, 97, 114, 107, 115]⟩, .string MK] := hG 7 (by decide)
    have hy5' := Lib.hid hy5
    have hy6' := Lib.hid hy6
    have hg5' := Lib.hid hg5
    have hg6' := Lib.hid hg6
    have hne56' := Lib.hid hne56
    have hBW : Hid (Below w3.heap.size w3 W) := (Below.refl _ _).drew.trans hR
    clear hG hR hDif hy5 hy6 hg5 hg6 hne56
    simp only [putD, Act.put, List.setIfInBounds_toArray, List.set_cons_zero, List.set_cons_succ, e5, e6, hv5, hv6]
    refine wpAny_next 10 (by kernel_rfl) ?_
    refine held_put rfl rfl 79 (.tmp 5) (.tmp 36) rfl g5 #[.string ⟨#[]⟩, .string ⟨#[]⟩] #[.string ⟨#[98, 111, 120, 101, 115]⟩, .string BN] 79 (by go_simp) (by go_simp) hy5'.out rfl (by kernel_rfl) (by simp [Value.oneCell']) ?_
    intro W1 hf5 hu5
    have hf5' := Lib.hid hf5
    have hu5' := Lib.hid hu5
    have hy6b := Lib.hid (hy6'.out.put_ hu5 hne56'.out.symm)
    clear hf5 hu5
    simp only [Act.put, List.getElem_toArray, List.getElem_cons_zero, List.getElem_cons_succ]
    refine wpAny_next 11 (by kernel_rfl) ?_
    refine held_put rfl rfl 79 (.tmp 6) (.tmp 40) rfl g6 #[.string ⟨#[]⟩, .string ⟨#[]⟩] #[.string ⟨#[109, 97, 114, 107, 115]⟩, .string MK] 79 (by go_simp) (by go_simp) hy6b.out rfl (by kernel_rfl) (by simp [Value.oneCell']) ?_
    intro w4 hf6 hu6
    have hu6' := Lib.hid hu6
    have hx64 := Lib.hid hf6
    clear hf6 hu6
    refine wpAny_end (by kernel_rfl) ?_
    simp only [Act.put, List.getElem_toArray, List.getElem_cons_zero, List.getElem_cons_succ]
    have hx54 := Lib.hid (hf5'.out.put_ hu6'.out hne56'.out)
    have hone : Below w3.heap.size w3 W1 := hBW.out.trans (hu5'.out.to_below (Below.refl _ _) hg5'.out hBW.out.size)
    have hbt : Hid (Below w3.heap.size w3 w4) := hone.trans (hu6'.out.to_below (Below.refl _ _) hg6'.out hone.size)
    have hB4 : Hid (Below w.heap.size w w4) := hB3.out.trans (hbt.out.mono hB3.out.size)
    have hk4 := Lib.hid (hk3.out.below hbt.out hk3.out.lt)
    have hc4 := Lib.hid (hc3.out.below hbt.out hc3.out.lt)
    have hz4 := Lib.hid (hz3.out.below hbt.out hz3.out.lt)
    have hfi4 := Lib.hid (hfi3.out.below hbt.out)
    clear hfi3
    clear hf5' hu5' hu6' hy5' hy6' hy6b hne56' hBW hone hbt hg5' hg6' hk3 hc3 hz3 hB3
    go_wp2_with fail
    refine wp_region_any (by kernel_rfl) ?_
    refine wpAny_bodyF 152 (List.range 10) [10, 11] [8, 9] 10 [(0, some 41), (1, some 42), (2, some 43), (3, some 44), (4, some 45), (5, some 46), (6, some 47), (7, some 48), (8, some 7), (9, some 8)] (Array.replicate 12 false) (Array.replicate 10 true ++ Array.replicate 2 false) (fun a b => Below a.heap.size a b) (fun i => (tyD4 w w4 fr tp).getD i (fun _ _ => True)) (by kernel_rfl) rfl (by kernel_rfl) rfl (Below.refl _ _) (fun _ _ _ h k => h.trans (k.mono h.size)) (fun i v W W' h hb => mono_at (tyD4_mono w w4 fr tp) i h hb) ?newest ?step ?fin _ rfl
    case newest =>
      intro i hi v W h
      simp only [List.mem_cons, List.not_mem_nil, or_false] at hi
      rcases hi with rfl | rfl
      all_goals (obtain ⟨g, _, e, hb⟩ := h; exact ⟨g, e, hb.lt⟩)
    case step =>
      refine allB_cons (i := 0) rfl (fun a W hl K hK => ?_) ?_
      · have hK := fun v W' h1 h2 => hK v W' h1 h2 (fun h => absurd h (by decide))
        have t1 : a.tmps.getD 1 undef = .pointer (some ⟨w.heap.size, 0, none⟩) := hl.old 1 (by kernel_rfl)
        exact held_value (v := .pointer (some ⟨w.heap.size, 7, none⟩)) (w' := W) rfl rfl (by go_simp) (hK _ _ (Below.refl _ _) rfl)
      refine allB_cons (i := 1) rfl (fun a W hl K hK => ?_) ?_
      · have hK := fun v W' h1 h2 => hK v W' h1 h2 (fun h => absurd h (by decide))
        have t41 : Is (.pointer (some ⟨w.heap.size, 7, none⟩)) (a.tmps.getD 41 undef) W := hl.at_ 0 41 (by kernel_rfl)
        unfold Is at t41
        have hbD : Blk W (w.heap.size) 26 D := hk4.out.drew.below hl.world hk4.out.drew.lt
        have cc : W.cell? ⟨w.heap.size, 7, none⟩ = some (.string fr) := (hbD.cell 7).trans hD7.out
        exact held_value (v := .string fr) (w' := W) rfl rfl (by go_simp) (hK _ _ (Below.refl _ _) rfl)
      refine allB_cons (i := 2) rfl (fun a W hl K hK => ?_) ?_
      · have hK := fun v W' h1 h2 => hK v W' h1 h2 (fun h => absurd h (by decide))
        have t42 : Is (.string fr) (a.tmps.getD 42 undef) W := hl.at_ 1 42 (by kernel_rfl)
        unfold Is at t42
        refine held_call (f := 35) (args := #[.string ⟨#[102, 114, 111, 109]⟩, .string fr]) (w := W) rfl rfl (by go_simp) ?_
        refine (rfield_any ⟨#[102, 114, 111, 109]⟩ fr W).mono ?_
        rintro e w' ⟨rfl, hb⟩
        exact ⟨_, rfl, hK _ _ hb rfl⟩
      refine allB_cons (i := 3) rfl (fun a W hl K hK => ?_) ?_
      · have hK := fun v W' h1 h2 => hK v W' h1 h2 (fun h => absurd h (by decide))
        have t43 : Is (.agg #[.string ⟨#[102, 114, 111, 109]⟩, .string fr]) (a.tmps.getD 43 undef) W := hl.at_ 2 43 (by kernel_rfl)
        unfold Is at t43
        refine held_call (f := 63) (args := #[.agg #[.string ⟨#[102, 114, 111, 109]⟩, .string fr]]) (w := W) rfl rfl (by go_simp) ?_
        refine (ris_any ⟨#[102, 114, 111, 109]⟩ fr W).mono ?_
        rintro e w' ⟨rfl, hb⟩
        exact ⟨_, rfl, hK _ _ hb rfl⟩
      refine allB_cons (i := 4) rfl (fun a W hl K hK => ?_) ?_
      · have hK := fun v W' h1 h2 => hK v W' h1 h2 (fun h => absurd h (by decide))
        have t1 : a.tmps.getD 1 undef = .pointer (some ⟨w.heap.size, 0, none⟩) := hl.old 1 (by kernel_rfl)
        exact held_value (v := .pointer (some ⟨w.heap.size, 8, none⟩)) (w' := W) rfl rfl (by go_simp) (hK _ _ (Below.refl _ _) rfl)
      refine allB_cons (i := 5) rfl (fun a W hl K hK => ?_) ?_
      · have hK := fun v W' h1 h2 => hK v W' h1 h2 (fun h => absurd h (by decide))
        have t45 : Is (.pointer (some ⟨w.heap.size, 8, none⟩)) (a.tmps.getD 45 undef) W := hl.at_ 4 45 (by kernel_rfl)
        unfold Is at t45
        have hbD : Blk W (w.heap.size) 26 D := hk4.out.drew.below hl.world hk4.out.drew.lt
        have cc : W.cell? ⟨w.heap.size, 8, none⟩ = some (.string tp) := (hbD.cell 8).trans hD8.out
        exact held_value (v := .string tp) (w' := W) rfl rfl (by go_simp) (hK _ _ (Below.refl _ _) rfl)
      refine allB_cons (i := 6) rfl (fun a W hl K hK => ?_) ?_
      · have hK := fun v W' h1 h2 => hK v W' h1 h2 (fun h => absurd h (by decide))
        have t46 : Is (.string tp) (a.tmps.getD 46 undef) W := hl.at_ 5 46 (by kernel_rfl)
        unfold Is at t46
        refine held_call (f := 35) (args := #[.string ⟨#[116, 111]⟩, .string tp]) (w := W) rfl rfl (by go_simp) ?_
        refine (rfield_any ⟨#[116, 111]⟩ tp W).mono ?_
        rintro e w' ⟨rfl, hb⟩
        exact ⟨_, rfl, hK _ _ hb rfl⟩
      refine allB_cons (i := 7) rfl (fun a W hl K hK => ?_) ?_
      · have hK := fun v W' h1 h2 => hK v W' h1 h2 (fun h => absurd h (by decide))
        have t47 : Is (.agg #[.string ⟨#[116, 111]⟩, .string tp]) (a.tmps.getD 47 undef) W := hl.at_ 6 47 (by kernel_rfl)
        unfold Is at t47
        refine held_call (f := 63) (args := #[.agg #[.string ⟨#[116, 111]⟩, .string tp]]) (w := W) rfl rfl (by go_simp) ?_
        refine (ris_any ⟨#[116, 111]⟩ tp W).mono ?_
        rintro e w' ⟨rfl, hb⟩
        exact ⟨_, rfl, hK _ _ hb rfl⟩
      refine allB_cons (i := 8) rfl (fun a W hl K hK => ?_) ?_
      · exact held_value (v := .pointer (some ⟨W.heap.size, 0, none⟩)) (w' := W.alloc (.cells #[.int .i64 0, .int .i64 0, .string ⟨#[]⟩, .string ⟨#[]⟩, .int .i64 0, .slice none 0 0] 109)) rfl rfl (by go_simp) (hK _ _ ((Below.refl _ W).alloc (Nat.le_refl _) _) ⟨W.heap.size, hl.world.size, rfl, Blk.new _ _ _⟩ (fun _ g e => by simp only [Value.pointer.injEq, Option.some.injEq, Addr.mk.injEq] at e; omega))
      refine allB_cons (i := 9) rfl (fun a W hl K hK => ?_) ?_
      · exact held_value (v := .pointer (some ⟨W.heap.size, 0, none⟩)) (w' := W.alloc (.cells #[.int .i64 0, .int .i64 0, .string ⟨#[]⟩, .string ⟨#[]⟩, .int .i64 0, .slice none 0 0] 109)) rfl rfl (by go_simp) (hK _ _ ((Below.refl _ W).alloc (Nat.le_refl _) _) ⟨W.heap.size, hl.world.size, rfl, Blk.new _ _ _⟩ (fun _ g e => by simp only [Value.pointer.injEq, Option.some.injEq, Addr.mk.injEq] at e; omega))
      exact allB_nil
    case fin =>
      intro vs W hR hG hDif
      obtain ⟨g7, hg5, e5, hy5⟩ : NewV w4.heap.size 109 #[.int .i64 0, .int .i64 0, .string ⟨#[]⟩, .string ⟨#[]⟩, .int .i64 0, .slice none 0 0] (vs 8) W := hG 8 (by decide)
      obtain ⟨g8, hg6, e6, hy6⟩ : NewV w4.heap.size 109 #[.int .i64 0, .int .i64 0, .string ⟨#[]⟩, .string ⟨#[]⟩, .int .i64 0, .slice none 0 0] (vs 9) W := hG 9 (by decide)
      have hne56 : g7 ≠ g8 := by
        intro e
        exact hDif 8 (by decide) 9 (by decide) (by decide) (by rw [e5, e6, e])
      have hv5 : vs 3 = .agg #[.int .i64 3, .int .i64 0, .string ⟨#[102, 114, 111, 109]⟩, .string fr, .int .i64 0, .slice none 0 0] := hG 3 (by decide)
      have hv6 : vs 7 = .agg #[.int .i64 3, .int .i64 0, .string ⟨#[116, 111]⟩, .string tp, .int .i64 0, .slice none 0 0] := hG 7 (by decide)
      have hy5' := Lib.hid hy5
      have hy6' := Lib.hid hy6
      have hg5' := Lib.hid hg5
      have hg6' := Lib.hid hg6
      have hne56' := Lib.hid hne56
      have hBW : Hid (Below w4.heap.size w4 W) := (Below.refl _ _).drew.trans hR
      clear hG hR hDif hy5 hy6 hg5 hg6 hne56
      simp only [putD, Act.put, List.setIfInBounds_toArray, List.set_cons_zero, List.set_cons_succ, e5, e6, hv5, hv6]
      refine wpAny_next 10 (by kernel_rfl) ?_
      refine held_put rfl rfl 109 (.tmp 7) (.tmp 44) rfl g7 #[.int .i64 0, .int .i64 0, .string ⟨#[]⟩, .string ⟨#[]⟩, .int .i64 0, .slice none 0 0] #[.int .i64 3, .int .i64 0, .string ⟨#[102, 114, 111, 109]⟩, .string fr, .int .i64 0, .slice none 0 0] 109 (by go_simp) (by go_simp) hy5'.out rfl (by kernel_rfl) (by simp [Value.oneCell']) ?_
      intro W1 hf5 hu5
      have hf5' := Lib.hid hf5
      have hu5' := Lib.hid hu5
      have hy6b := Lib.hid (hy6'.out.put_ hu5 hne56'.out.symm)
      clear hf5 hu5
      simp only [Act.put, List.getElem_toArray, List.getElem_cons_zero, List.getElem_cons_succ]
      refine wpAny_next 11 (by kernel_rfl) ?_
      refine held_put rfl rfl 109 (.tmp 8) (.tmp 48) rfl g8 #[.int .i64 0, .int .i64 0, .string ⟨#[]⟩, .string ⟨#[]⟩, .int .i64 0, .slice none 0 0] #[.int .i64 3, .int .i64 0, .string ⟨#[116, 111]⟩, .string tp, .int .i64 0, .slice none 0 0] 109 (by go_simp) (by go_simp) hy6b.out rfl (by kernel_rfl) (by simp [Value.oneCell']) ?_
      intro w5 hf6 hu6
      have hu6' := Lib.hid hu6
      have hx85 := Lib.hid hf6
      clear hf6 hu6
      refine wpAny_end (by kernel_rfl) ?_
      simp only [Act.put, List.getElem_toArray, List.getElem_cons_zero, List.getElem_cons_succ]
      have hx75 := Lib.hid (hf5'.out.put_ hu6'.out hne56'.out)
      have hone : Below w4.heap.size w4 W1 := hBW.out.trans (hu5'.out.to_below (Below.refl _ _) hg5'.out hBW.out.size)
      have hbt : Hid (Below w4.heap.size w4 w5) := hone.trans (hu6'.out.to_below (Below.refl _ _) hg6'.out hone.size)
      have hB5 : Hid (Below w.heap.size w w5) := hB4.out.trans (hbt.out.mono hB4.out.size)
      have hk5 := Lib.hid (hk4.out.below hbt.out hk4.out.lt)
      have hc5 := Lib.hid (hc4.out.below hbt.out hc4.out.lt)
      have hz5 := Lib.hid (hz4.out.below hbt.out hz4.out.lt)
      have hfi5 := Lib.hid (hfi4.out.below hbt.out)
      have hx55 := Lib.hid (hx54.out.below hbt.out hx54.out.lt)
      have hx65 := Lib.hid (hx64.out.below hbt.out hx64.out.lt)
      clear hfi4 hx54 hx64
      clear hf5' hu5' hu6' hy5' hy6' hy6b hne56' hBW hone hbt hg5' hg6' hk4 hc4 hz4 hB4
      have hN5 : Hid (NeedsV w.heap.size [] (.slice none 0 0) w5) := ⟨[], World.ownsRow_nil _ _ _ _, (fun x hx => by cases hx), rfl⟩
      have hinv : Hid (∀ W, Below w5.drew.heap.size w5.drew W → ∀ kk x, F1[kk]? = some x → W.cell? ⟨b4, o4 + kk * 2, none⟩ = some (.string x.name) ∧ W.cell? ⟨b4, o4 + kk * 2 + 1, none⟩ = some (.string x.value)) := by
        intro W hW kk x hx
        obtain ⟨bb, oo, ee, z0, z1⟩ := (hfi5.out.below ((Below.refl _ _).drew.trans hW)) kk x hx
        simp only [Option.some.injEq, Addr.mk.injEq, and_true] at ee
        obtain ⟨rfl, rfl⟩ := ee
        exact ⟨z0, z1⟩
      go_wp2_with fail
      refine wp_region_any (by kernel_rfl) ?_
      refine wpAny_body 152 (List.range 29) [29, 30, 31] 29 [(0, some 49), (1, some 50), (2, some 51), (3, some 52), (4, some 53), (5, some 54), (6, some 55), (7, some 56), (8, some 57), (9, some 58), (10, some 59), (11, some 60), (12, some 61), (13, some 62), (14, some 63), (15, some 64), (16, some 65), (17, some 66), (18, some 67), (19, some 68), (20, some 69), (21, some 70), (22, some 71), (23, some 72), (24, some 73), (25, some 74), (26, some 75), (27, some 76), (28, some 77)] (Array.replicate 32 false) (Array.replicate 29 true ++ Array.replicate 3 false) (fun a b => Below a.heap.size a b) (fun i => (tyD5 w w1 b4 o4 c4 se bu cu SM fr tp).getD i (fun _ _ => True)) (by kernel_rfl) rfl rfl (Below.refl _ _) (fun _ _ _ h k => h.trans (k.mono h.size)) (fun i v W W' h hb => mono_at (tyD5_mono w w1 b4 o4 c4 se bu cu SM fr tp) i h hb) ?step ?fin _ rfl
      case step =>
        refine allB_cons (i := 0) rfl (fun a W hl K hK => ?_) ?_
        · have t3 : a.tmps.getD 3 undef = .pointer (some ⟨w1.heap.size, 0, none⟩) := hl.old 3 (by kernel_rfl)
          exact held_value (v := .pointer (some ⟨w1.heap.size, 17, none⟩)) (w' := W) rfl rfl (by go_simp) (hK _ _ (Below.refl _ _) rfl)
        refine allB_cons (i := 1) rfl (fun a W hl K hK => ?_) ?_
        · have t49 : Is (.pointer (some ⟨w1.heap.size, 17, none⟩)) (a.tmps.getD 49 undef) W := hl.at_ 0 49 (by kernel_rfl)
          unfold Is at t49
          have hbC : Blk W (w1.heap.size) 52 (CR (.slice none 0 0)) := hc5.out.drew.below hl.world hc5.out.drew.lt
          have cc : W.cell? ⟨w1.heap.size, 17, none⟩ = some (.slice none 0 0) := (hbC.cell 17).trans (hCR17.out _)
          exact held_value (v := .slice none 0 0) (w' := W) rfl rfl (by go_simp) (hK _ _ (Below.refl _ _) rfl)
        refine allB_cons (i := 2) rfl (fun a W hl K hK => ?_) ?_
        · have t4 : a.tmps.getD 4 undef = .slice (some ⟨b4, o4, none⟩) 8 c4 := hl.old 4 (by kernel_rfl)
          exact held_value (v := .slice (some ⟨b4, o4, none⟩) 8 c4) (w' := W) rfl rfl (by go_simp) (hK _ _ (Below.refl _ _) rfl)
        refine allB_cons (i := 3) rfl (fun a W hl K hK => ?_) ?_
        · have t51 : Is (.slice (some ⟨b4, o4, none⟩) 8 c4) (a.tmps.getD 51 undef) W := hl.at_ 2 51 (by kernel_rfl)
          unfold Is at t51
          exact held_value (v := .pointer (some ⟨b4, o4, none⟩)) (w' := W) rfl rfl (by go_simp) (hK _ _ (Below.refl _ _) rfl)
        refine allB_cons (i := 4) rfl (fun a W hl K hK => ?_) ?_
        · have t52 : Is (.pointer (some ⟨b4, o4, none⟩)) (a.tmps.getD 52 undef) W := hl.at_ 3 52 (by kernel_rfl)
          unfold Is at t52
          obtain ⟨z0, z1⟩ : W.cell? ⟨b4, o4, none⟩ = some (.string ⟨#[115, 101, 108, 108, 101, 114]⟩) ∧ W.cell? ⟨b4, o4 + 1, none⟩ = some (.string se) := hinv.out W hl.world 0 ⟨⟨#[115, 101, 108, 108, 101, 114]⟩, se⟩ hF10.out
          exact held_value (v := .agg #[.string ⟨#[115, 101, 108, 108, 101, 114]⟩, .string se]) (w' := W) rfl rfl (by go_simp) (hK _ _ (Below.refl _ _) rfl)
        refine allB_cons (i := 5) rfl (fun a W hl K hK => ?_) ?_
        · have t53 : Is (.agg #[.string ⟨#[115, 101, 108, 108, 101, 114]⟩, .string se]) (a.tmps.getD 53 undef) W := hl.at_ 4 53 (by kernel_rfl)
          unfold Is at t53
          refine held_call (f := 63) (args := #[.agg #[.string ⟨#[115, 101, 108, 108, 101, 114]⟩, .string se]]) (w := W) rfl rfl (by go_simp) ?_
          refine (ris_any ⟨#[115, 101, 108, 108, 101, 114]⟩ se W).mono ?_
          rintro e w' ⟨rfl, hb⟩
          exact ⟨_, rfl, hK _ _ hb rfl⟩
        refine allB_cons (i := 6) rfl (fun a W hl K hK => ?_) ?_
        · have t4 : a.tmps.getD 4 undef = .slice (some ⟨b4, o4, none⟩) 8 c4 := hl.old 4 (by kernel_rfl)
          exact held_value (v := .slice (some ⟨b4, o4, none⟩) 8 c4) (w' := W) rfl rfl (by go_simp) (hK _ _ (Below.refl _ _) rfl)
        refine allB_cons (i := 7) rfl (fun a W hl K hK => ?_) ?_
        · have t55 : Is (.slice (some ⟨b4, o4, none⟩) 8 c4) (a.tmps.getD 55 undef) W := hl.at_ 6 55 (by kernel_rfl)
          unfold Is at t55
          exact held_value (v := .pointer (some ⟨b4, o4 + 2, none⟩)) (w' := W) rfl rfl (by go_simp) (hK _ _ (Below.refl _ _) rfl)
        refine allB_cons (i := 8) rfl (fun a W hl K hK => ?_) ?_
        · have t56 : Is (.pointer (some ⟨b4, o4 + 2, none⟩)) (a.tmps.getD 56 undef) W := hl.at_ 7 56 (by kernel_rfl)
          unfold Is at t56
          obtain ⟨z0, z1⟩ : W.cell? ⟨b4, o4 + 2, none⟩ = some (.string ⟨#[98, 117, 121, 101, 114]⟩) ∧ W.cell? ⟨b4, o4 + 3, none⟩ = some (.string bu) := hinv.out W hl.world 1 ⟨⟨#[98, 117, 121, 101, 114]⟩, bu⟩ hF11.out
          exact held_value (v := .agg #[.string ⟨#[98, 117, 121, 101, 114]⟩, .string bu]) (w' := W) rfl rfl (by go_simp) (hK _ _ (Below.refl _ _) rfl)
        refine allB_cons (i := 9) rfl (fun a W hl K hK => ?_) ?_
        · have t57 : Is (.agg #[.string ⟨#[98, 117, 121, 101, 114]⟩, .string bu]) (a.tmps.getD 57 undef) W := hl.at_ 8 57 (by kernel_rfl)
          unfold Is at t57
          refine held_call (f := 63) (args := #[.agg #[.string ⟨#[98, 117, 121, 101, 114]⟩, .string bu]]) (w := W) rfl rfl (by go_simp) ?_
          refine (ris_any ⟨#[98, 117, 121, 101, 114]⟩ bu W).mono ?_
          rintro e w' ⟨rfl, hb⟩
          exact ⟨_, rfl, hK _ _ hb rfl⟩
        refine allB_cons (i := 10) rfl (fun a W hl K hK => ?_) ?_
        · have t4 : a.tmps.getD 4 undef = .slice (some ⟨b4, o4, none⟩) 8 c4 := hl.old 4 (by kernel_rfl)
          exact held_value (v := .slice (some ⟨b4, o4, none⟩) 8 c4) (w' := W) rfl rfl (by go_simp) (hK _ _ (Below.refl _ _) rfl)
        refine allB_cons (i := 11) rfl (fun a W hl K hK => ?_) ?_
        · have t59 : Is (.slice (some ⟨b4, o4, none⟩) 8 c4) (a.tmps.getD 59 undef) W := hl.at_ 10 59 (by kernel_rfl)
          unfold Is at t59
          exact held_value (v := .pointer (some ⟨b4, o4 + 4, none⟩)) (w' := W) rfl rfl (by go_simp) (hK _ _ (Below.refl _ _) rfl)
        refine allB_cons (i := 12) rfl (fun a W hl K hK => ?_) ?_
        · have t60 : Is (.pointer (some ⟨b4, o4 + 4, none⟩)) (a.tmps.getD 60 undef) W := hl.at_ 11 60 (by kernel_rfl)
          unfold Is at t60
          obtain ⟨z0, z1⟩ : W.cell? ⟨b4, o4 + 4, none⟩ = some (.string ⟨#[99, 117, 114, 114, 101, 110, 99, 121]⟩) ∧ W.cell? ⟨b4, o4 + 5, none⟩ = some (.string cu) := hinv.out W hl.world 2 ⟨⟨#[99, 117, 114, 114, 101, 110, 99, 121]⟩, cu⟩ hF12.out
          exact held_value (v := .agg #[.string ⟨#[99, 117, 114, 114, 101, 110, 99, 121]⟩, .string cu]) (w' := W) rfl rfl (by go_simp) (hK _ _ (Below.refl _ _) rfl)
        refine allB_cons (i := 13) rfl (fun a W hl K hK => ?_) ?_
        · have t61 : Is (.agg #[.string ⟨#[99, 117, 114, 114, 101, 110, 99, 121]⟩, .string cu]) (a.tmps.getD 61 undef) W := hl.at_ 12 61 (by kernel_rfl)
          unfold Is at t61
          refine held_call (f := 63) (args := #[.agg #[.string ⟨#[99, 117, 114, 114, 101, 110, 99, 121]⟩, .string cu]]) (w := W) rfl rfl (by go_simp) ?_
          refine (ris_any ⟨#[99, 117, 114, 114, 101, 110, 99, 121]⟩ cu W).mono ?_
          rintro e w' ⟨rfl, hb⟩
          exact ⟨_, rfl, hK _ _ hb rfl⟩
        refine allB_cons (i := 14) rfl (fun a W hl K hK => ?_) ?_
        · have t4 : a.tmps.getD 4 undef = .slice (some ⟨b4, o4, none⟩) 8 c4 := hl.old 4 (by kernel_rfl)
          exact held_value (v := .slice (some ⟨b4, o4, none⟩) 8 c4) (w' := W) rfl rfl (by go_simp) (hK _ _ (Below.refl _ _) rfl)
        refine allB_cons (i := 15) rfl (fun a W hl K hK => ?_) ?_
        · have t63 : Is (.slice (some ⟨b4, o4, none⟩) 8 c4) (a.tmps.getD 63 undef) W := hl.at_ 14 63 (by kernel_rfl)
          unfold Is at t63
          exact held_value (v := .pointer (some ⟨b4, o4 + 6, none⟩)) (w' := W) rfl rfl (by go_simp) (hK _ _ (Below.refl _ _) rfl)
        refine allB_cons (i := 16) rfl (fun a W hl K hK => ?_) ?_
        · have t64 : Is (.pointer (some ⟨b4, o4 + 6, none⟩)) (a.tmps.getD 64 undef) W := hl.at_ 15 64 (by kernel_rfl)
          unfold Is at t64
          obtain ⟨z0, z1⟩ : W.cell? ⟨b4, o4 + 6, none⟩ = some (.string ⟨#[115, 117, 109]⟩) ∧ W.cell? ⟨b4, o4 + 7, none⟩ = some (.string SM) := hinv.out W hl.world 3 ⟨⟨#[115, 117, 109]⟩, SM⟩ hF13.out
          exact held_value (v := .agg #[.string ⟨#[115, 117, 109]⟩, .string SM]) (w' := W) rfl rfl (by go_simp) (hK _ _ (Below.refl _ _) rfl)
        refine allB_cons (i := 17) rfl (fun a W hl K hK => ?_) ?_
        · have t65 : Is (.agg #[.string ⟨#[115, 117, 109]⟩, .string SM]) (a.tmps.getD 65 undef) W := hl.at_ 16 65 (by kernel_rfl)
          unfold Is at t65
          refine held_call (f := 63) (args := #[.agg #[.string ⟨#[115, 117, 109]⟩, .string SM]]) (w := W) rfl rfl (by go_simp) ?_
          refine (ris_any ⟨#[115, 117, 109]⟩ SM W).mono ?_
          rintro e w' ⟨rfl, hb⟩
          exact ⟨_, rfl, hK _ _ hb rfl⟩
        refine allB_cons (i := 18) rfl (fun a W hl K hK => ?_) ?_
        · have t4 : a.tmps.getD 4 undef = .slice (some ⟨b4, o4, none⟩) 8 c4 := hl.old 4 (by kernel_rfl)
          exact held_value (v := .slice (some ⟨b4, o4, none⟩) 8 c4) (w' := W) rfl rfl (by go_simp) (hK _ _ (Below.refl _ _) rfl)
        refine allB_cons (i := 19) rfl (fun a W hl K hK => ?_) ?_
        · have t67 : Is (.slice (some ⟨b4, o4, none⟩) 8 c4) (a.tmps.getD 67 undef) W := hl.at_ 18 67 (by kernel_rfl)
          unfold Is at t67
          exact held_value (v := .pointer (some ⟨b4, o4 + 8, none⟩)) (w' := W) rfl rfl (by go_simp) (hK _ _ (Below.refl _ _) rfl)
        refine allB_cons (i := 20) rfl (fun a W hl K hK => ?_) ?_
        · have t68 : Is (.pointer (some ⟨b4, o4 + 8, none⟩)) (a.tmps.getD 68 undef) W := hl.at_ 19 68 (by kernel_rfl)
          unfold Is at t68
          obtain ⟨z0, z1⟩ : W.cell? ⟨b4, o4 + 8, none⟩ = some (.string ⟨#[102, 114, 111, 109]⟩) ∧ W.cell? ⟨b4, o4 + 9, none⟩ = some (.string fr) := hinv.out W hl.world 4 ⟨⟨#[102, 114, 111, 109]⟩, fr⟩ hF14.out
          exact held_value (v := .agg #[.string ⟨#[102, 114, 111, 109]⟩, .string fr]) (w' := W) rfl rfl (by go_simp) (hK _ _ (Below.refl _ _) rfl)
        refine allB_cons (i := 21) rfl (fun a W hl K hK => ?_) ?_
        · have t69 : Is (.agg #[.string ⟨#[102, 114, 111, 109]⟩, .string fr]) (a.tmps.getD 69 undef) W := hl.at_ 20 69 (by kernel_rfl)
          unfold Is at t69
          refine held_call (f := 63) (args := #[.agg #[.string ⟨#[102, 114, 111, 109]⟩, .string fr]]) (w := W) rfl rfl (by go_simp) ?_
          refine (ris_any ⟨#[102, 114, 111, 109]⟩ fr W).mono ?_
          rintro e w' ⟨rfl, hb⟩
          exact ⟨_, rfl, hK _ _ hb rfl⟩
        refine allB_cons (i := 22) rfl (fun a W hl K hK => ?_) ?_
        · have t4 : a.tmps.getD 4 undef = .slice (some ⟨b4, o4, none⟩) 8 c4 := hl.old 4 (by kernel_rfl)
          exact held_value (v := .slice (some ⟨b4, o4, none⟩) 8 c4) (w' := W) rfl rfl (by go_simp) (hK _ _ (Below.refl _ _) rfl)
        refine allB_cons (i := 23) rfl (fun a W hl K hK => ?_) ?_
        · have t71 : Is (.slice (some ⟨b4, o4, none⟩) 8 c4) (a.tmps.getD 71 undef) W := hl.at_ 22 71 (by kernel_rfl)
          unfold Is at t71
          exact held_value (v := .pointer (some ⟨b4, o4 + 10, none⟩)) (w' := W) rfl rfl (by go_simp) (hK _ _ (Below.refl _ _) rfl)
        refine allB_cons (i := 24) rfl (fun a W hl K hK => ?_) ?_
        · have t72 : Is (.pointer (some ⟨b4, o4 + 10, none⟩)) (a.tmps.getD 72 undef) W := hl.at_ 23 72 (by kernel_rfl)
          unfold Is at t72
          obtain ⟨z0, z1⟩ : W.cell? ⟨b4, o4 + 10, none⟩ = some (.string ⟨#[116, 111]⟩) ∧ W.cell? ⟨b4, o4 + 11, none⟩ = some (.string tp) := hinv.out W hl.world 5 ⟨⟨#[116, 111]⟩, tp⟩ hF15.out
          exact held_value (v := .agg #[.string ⟨#[116, 111]⟩, .string tp]) (w' := W) rfl rfl (by go_simp) (hK _ _ (Below.refl _ _) rfl)
        refine allB_cons (i := 25) rfl (fun a W hl K hK => ?_) ?_
        · have t73 : Is (.agg #[.string ⟨#[116, 111]⟩, .string tp]) (a.tmps.getD 73 undef) W := hl.at_ 24 73 (by kernel_rfl)
          unfold Is at t73
          refine held_call (f := 63) (args := #[.agg #[.string ⟨#[116, 111]⟩, .string tp]]) (w := W) rfl rfl (by go_simp) ?_
          refine (ris_any ⟨#[116, 111]⟩ tp W).mono ?_
          rintro e w' ⟨rfl, hb⟩
          exact ⟨_, rfl, hK _ _ hb rfl⟩
        refine allB_cons (i := 26) rfl (fun a W hl K hK => ?_) ?_
        · have t54 : Is (.agg #[.int .i64 3, .int .i64 0, .string ⟨#[115, 101, 108, 108, 101, 114]⟩, .string se, .int .i64 0, .slice none 0 0]) (a.tmps.getD 54 undef) W := hl.at_ 5 54 (by kernel_rfl)
          unfold Is at t54
          have t58 : Is (.agg #[.int .i64 3, .int .i64 0, .string ⟨#[98, 117, 121, 101, 114]⟩, .string bu, .int .i64 0, .slice none 0 0]) (a.tmps.getD 58 undef) W := hl.at_ 9 58 (by kernel_rfl)
          unfold Is at t58
          have t62 : Is (.agg #[.int .i64 3, .int .i64 0, .string ⟨#[99, 117, 114, 114, 101, 110, 99, 121]⟩, .string cu, .int .i64 0, .slice none 0 0]) (a.tmps.getD 62 undef) W := hl.at_ 13 62 (by kernel_rfl)
          unfold Is at t62
          have t66 : Is (.agg #[.int .i64 3, .int .i64 0, .string ⟨#[115, 117, 109]⟩, .string SM, .int .i64 0, .slice none 0 0]) (a.tmps.getD 66 undef) W := hl.at_ 17 66 (by kernel_rfl)
          unfold Is at t66
          have t70 : Is (.agg #[.int .i64 3, .int .i64 0, .string ⟨#[102, 114, 111, 109]⟩, .string fr, .int .i64 0, .slice none 0 0]) (a.tmps.getD 70 undef) W := hl.at_ 21 70 (by kernel_rfl)
          unfold Is at t70
          have t74 : Is (.agg #[.int .i64 3, .int .i64 0, .string ⟨#[116, 111]⟩, .string tp, .int .i64 0, .slice none 0 0]) (a.tmps.getD 74 undef) W := hl.at_ 25 74 (by kernel_rfl)
          unfold Is at t74
          simp only [Array.getD_eq_getD_getElem?] at t54 t58 t62 t66 t70 t74
          exact held_value (v := .slice (some ⟨W.heap.size, 0, none⟩) 6 6) (w' := W.alloc (.cells #[.int .i64 3, .int .i64 0, .string ⟨#[115, 101, 108, 108, 101, 114]⟩, .string se, .int .i64 0, .slice none 0 0, .int .i64 3, .int .i64 0, .string ⟨#[98, 117, 121, 101, 114]⟩, .string bu, .int .i64 0, .slice none 0 0, .int .i64 3, .int .i64 0, .string ⟨#[99, 117, 114, 114, 101, 110, 99, 121]⟩, .string cu, .int .i64 0, .slice none 0 0, .int .i64 3, .int .i64 0, .string ⟨#[115, 117, 109]⟩, .string SM, .int .i64 0, .slice none 0 0, .int .i64 3, .int .i64 0, .string ⟨#[102, 114, 111, 109]⟩, .string fr, .int .i64 0, .slice none 0 0, .int .i64 3, .int .i64 0, .string ⟨#[116, 111]⟩, .string tp, .int .i64 0, .slice none 0 0] 109)) rfl rfl (by go_simp) (hK _ _ ((Below.refl _ W).alloc (Nat.le_refl _) _) (atoms_lit W [⟨3, ⟨#[115, 101, 108, 108, 101, 114]⟩, se, 0⟩, ⟨3, ⟨#[98, 117, 121, 101, 114]⟩, bu, 0⟩, ⟨3, ⟨#[99, 117, 114, 114, 101, 110, 99, 121]⟩, cu, 0⟩, ⟨3, ⟨#[115, 117, 109]⟩, SM, 0⟩, ⟨3, ⟨#[102, 114, 111, 109]⟩, fr, 0⟩, ⟨3, ⟨#[116, 111]⟩, tp, 0⟩] 6 _ rfl (by decide) rfl))
        refine allB_cons (i := 27) rfl (fun a W hl K hK => ?_) ?_
        · have t75 : AtomsV [⟨3, ⟨#[115, 101, 108, 108, 101, 114]⟩, se, 0⟩, ⟨3, ⟨#[98, 117, 121, 101, 114]⟩, bu, 0⟩, ⟨3, ⟨#[99, 117, 114, 114, 101, 110, 99, 121]⟩, cu, 0⟩, ⟨3, ⟨#[115, 117, 109]⟩, SM, 0⟩, ⟨3, ⟨#[102, 114, 111, 109]⟩, fr, 0⟩, ⟨3, ⟨#[116, 111]⟩, tp, 0⟩] 6 (a.tmps.getD 75 undef) W := hl.at_ 26 75 (by kernel_rfl)
          unfold AtomsV at t75
          obtain ⟨A, c, e1⟩ := own_form t75
          have h1 := Lib.hid t75
          clear t75
          have e2 := e1
          rw [e1] at h1
          refine held_call (f := 64) (args := #[.int .i64 0, .slice A 6 c]) (w := W) rfl rfl (by go_simp) ?_
          refine (rneed_any 0 A 6 c W).mono ?_
          rintro e w' ⟨rfl, hb⟩
          exact ⟨_, rfl, hK _ _ hb ⟨A, c, rfl, own_below h1.out hb⟩⟩
        refine allB_cons (i := 28) rfl (fun a W hl K hK => ?_) ?_
        · have t76 : NeedV 0 [⟨3, ⟨#[115, 101, 108, 108, 101, 114]⟩, se, 0⟩, ⟨3, ⟨#[98, 117, 121, 101, 114]⟩, bu, 0⟩, ⟨3, ⟨#[99, 117, 114, 114, 101, 110, 99, 121]⟩, cu, 0⟩, ⟨3, ⟨#[115, 117, 109]⟩, SM, 0⟩, ⟨3, ⟨#[102, 114, 111, 109]⟩, fr, 0⟩, ⟨3, ⟨#[116, 111]⟩, tp, 0⟩] 6 (a.tmps.getD 76 undef) W := hl.at_ 27 76 (by kernel_rfl)
          obtain ⟨A76, c76, e76, h76⟩ := t76
          have h76' := Lib.hid h76
          clear h76
          simp only [Array.getD_eq_getD_getElem?] at e76
          refine held_value (v := .slice (some ⟨W.heap.size, 0, none⟩) 1 1) (w' := W.alloc (.cells #[.int .i64 0, .int .i64 1, .int .i64 0, .int .i64 0, .string ⟨#[]⟩, .string ⟨#[]⟩, .int .i64 0, .slice A76 6 c76] 111)) rfl rfl (by go_simp) (hK _ _ ((Below.refl _ W).alloc (Nat.le_refl _) _) (needs_lit w.heap.size [⟨0, A76, 6, c76, [⟨3, ⟨#[115, 101, 108, 108, 101, 114]⟩, se, 0⟩, ⟨3, ⟨#[98, 117, 121, 101, 114]⟩, bu, 0⟩, ⟨3, ⟨#[99, 117, 114, 114, 101, 110, 99, 121]⟩, cu, 0⟩, ⟨3, ⟨#[115, 117, 109]⟩, SM, 0⟩, ⟨3, ⟨#[102, 114, 111, 109]⟩, fr, 0⟩, ⟨3, ⟨#[116, 111]⟩, tp, 0⟩]⟩] _ (Nat.le_trans hB5.out.size hl.world.size) rfl rfl 1 rfl (by decide) rfl ?_))
          intro x hx
          simp only [List.mem_cons, List.not_mem_nil, or_false] at hx
          subst hx
          · exact ⟨(Lib.hid rfl).out, h76'.out⟩
        exact allB_nil
      case fin =>
        intro vs W hR hG
        have h1 : vs 1 = .slice none 0 0 := hG 1 (by decide)
        have hM : NeedsV w.heap.size [(0, [⟨3, ⟨#[115, 101, 108, 108, 101, 114]⟩, se, 0⟩, ⟨3, ⟨#[98, 117, 121, 101, 114]⟩, bu, 0⟩, ⟨3, ⟨#[99, 117, 114, 114, 101, 110, 99, 121]⟩, cu, 0⟩, ⟨3, ⟨#[115, 117, 109]⟩, SM, 0⟩, ⟨3, ⟨#[102, 114, 111, 109]⟩, fr, 0⟩, ⟨3, ⟨#[116, 111]⟩, tp, 0⟩])] (vs 28) W := hG 28 (by decide)
        obtain ⟨mA, mc, e2⟩ := hM.slice
        rw [e2] at hM
        have e2' : vs 28 = .slice mA 1 mc := e2
        have hM' := Lib.hid hM
        have hBW : Hid (Below w5.heap.size w5 W) := (Below.refl _ _).drew.trans hR
        have hkW := Lib.hid (hk5.out.below hBW.out hk5.out.lt)
        have hcW := Lib.hid (hc5.out.below hBW.out hc5.out.lt)
        have hzW := Lib.hid (hz5.out.below hBW.out hz5.out.lt)
        have hx5W := Lib.hid (hx55.out.below hBW.out hx55.out.lt)
        have hx6W := Lib.hid (hx65.out.below hBW.out hx65.out.lt)
        have hx7W := Lib.hid (hx75.out.below hBW.out hx75.out.lt)
        have hx8W := Lib.hid (hx85.out.below hBW.out hx85.out.lt)
        have hNW := Lib.hid (mono_NeedsV _ _ _ hN5.out hBW.out)
        have hBx : Hid (Below w.heap.size w W) := hB5.out.trans (hBW.out.mono hB5.out.size)
        clear hG hM hR e2
        simp only [putD, Act.put, List.setIfInBounds_toArray, List.set_cons_zero, List.set_cons_succ, h1, e2']
        refine wpAny_next 29 (by kernel_rfl) ?_
        refine held_needs rfl rfl (.tmp 50) (.tmp 77) rfl w.heap.size [] [(0, [⟨3, ⟨#[115, 101, 108, 108, 101, 114]⟩, se, 0⟩, ⟨3, ⟨#[98, 117, 121, 101, 114]⟩, bu, 0⟩, ⟨3, ⟨#[99, 117, 114, 114, 101, 110, 99, 121]⟩, cu, 0⟩, ⟨3, ⟨#[115, 117, 109]⟩, SM, 0⟩, ⟨3, ⟨#[102, 114, 111, 109]⟩, fr, 0⟩, ⟨3, ⟨#[116, 111]⟩, tp, 0⟩])] (.slice none 0 0) (.slice mA 1 mc) (by go_simp) (by go_simp) hNW.out hM'.out (by simp) hBx.out.size ?_
        intro v2 W2 hN2 hb2 hbk2
        obtain ⟨n6A, n6c, e3⟩ := hN2.slice
        rw [e3] at hN2 ⊢
        have hN2' := Lib.hid hN2
        have hkX := Lib.hid (hbk2 _ _ _ (by decide) hkW.out)
        have hcX := Lib.hid (hbk2 _ _ _ (by decide) hcW.out)
        have hzX := Lib.hid (hbk2 _ _ _ (by decide) hzW.out)
        have hx5X := Lib.hid (hbk2 _ _ _ (by decide) hx5W.out)
        have hx6X := Lib.hid (hbk2 _ _ _ (by decide) hx6W.out)
        have hx7X := Lib.hid (hbk2 _ _ _ (by decide) hx7W.out)
        have hx8X := Lib.hid (hbk2 _ _ _ (by decide) hx8W.out)
        have hBy : Hid (Below w.heap.size w W2) := hBx.out.trans hb2
        have x17 : W2.cell? ⟨w1.heap.size, 17, none⟩ = some (.slice none 0 0) := (hcX.out.cell 17).trans (hCR17.out _)
        have xf := hcX.out.frozen
        have xl : w1.heap.size < W2.heap.size := hcX.out.lt
        clear hN2 hbk2 hb2 e3 h1 e2'
        simp only [Act.put, List.getElem_toArray, List.getElem_cons_zero, List.getElem_cons_succ, List.setIfInBounds_toArray, List.set_cons_zero, List.set_cons_succ]
        refine wpAny_next 30 (by kernel_rfl) ?_
        refine held_value (v := .pointer (some ⟨w1.heap.size, 17, none⟩)) (w' := W2) rfl rfl (by go_simp) ?_
        simp only [Act.put, List.getElem_toArray, List.getElem_cons_zero, List.getElem_cons_succ, List.setIfInBounds_toArray, List.set_cons_zero, List.set_cons_succ]
        refine wpAny_next 31 (by kernel_rfl) ?_
        refine held_skip (w' := W2.setCell ⟨w1.heap.size, 17, none⟩ (.slice n6A 1 n6c)) rfl rfl (by go_simp) ?_
        refine wpAny_end (by kernel_rfl) ?_
        simp only [Act.put, List.getElem_toArray, List.getElem_cons_zero, List.getElem_cons_succ]
        have hc6 : Hid (Blk (W2.setCell ⟨w1.heap.size, 17, none⟩ (.slice n6A 1 n6c)) w1.heap.size 52 (CR (.slice n6A 1 n6c))) := by rw [← hCRset.out (.slice none 0 0)]; exact hcX.out.set_ 17 (.slice n6A 1 n6c)
        have hne : Hid (w.heap.size ≠ w1.heap.size ∧ w.heap.size + 1 ≠ w1.heap.size) := by have := hg12.out; unfold Hid; omega
        have hk6 := Lib.hid (hkX.out.far (p := ⟨w1.heap.size, 17, none⟩) hne.out.1 (.slice n6A 1 n6c))
        have hz6 := Lib.hid (hzX.out.far (p := ⟨w1.heap.size, 17, none⟩) hne.out.2 (.slice n6A 1 n6c))
        have hx56 := Lib.hid (hx5X.out.far (p := ⟨w1.heap.size, 17, none⟩) (blk_apart hx5X.out hcX.out (by decide)) (.slice n6A 1 n6c))
        have hx66 := Lib.hid (hx6X.out.far (p := ⟨w1.heap.size, 17, none⟩) (blk_apart hx6X.out hcX.out (by decide)) (.slice n6A 1 n6c))
        have hx76 := Lib.hid (hx7X.out.far (p := ⟨w1.heap.size, 17, none⟩) (blk_apart hx7X.out hcX.out (by decide)) (.slice n6A 1 n6c))
        have hx86 := Lib.hid (hx8X.out.far (p := ⟨w1.heap.size, 17, none⟩) (blk_apart hx8X.out hcX.out (by decide)) (.slice n6A 1 n6c))
        have hN6 := Lib.hid (hN2'.out.set_ hcX.out (o := 17) (u := .slice n6A 1 n6c))
        have hB6 : Hid (Below w.heap.size w (W2.setCell ⟨w1.heap.size, 17, none⟩ (.slice n6A 1 n6c))) := hBy.out.setCell (p := ⟨w1.heap.size, 17, none⟩) (by have := hg12.out; show w.heap.size ≤ w1.heap.size; omega) _
        obtain ⟨w6, hwx⟩ : ∃ X, Hid (W2.setCell ⟨w1.heap.size, 17, none⟩ (.slice n6A 1 n6c) = X) := ⟨_, rfl⟩
        rw [hwx.out] at hx56 hx66 hx76 hx86 hc6 hk6 hz6 hN6 hB6 ⊢
        clear hwx hx5W hx5X hx55 hx6W hx6X hx65 hx7W hx7X hx75 hx8W hx8X hx85 x17 xf xl hBW hkW hcW hzW hNW hkX hcX hzX hN2' hM' hk5 hc5 hz5 hN5 hB5
        go_wp2_with fail
        refine wp_region_any (by kernel_rfl) ?_
        refine wpAny_body 152 (List.range 9) [9, 10, 11] 9 [(0, some 80), (1, some 81), (2, some 82), (3, some 83), (4, some 84), (5, some 85), (6, some 86), (7, some 87), (8, some 88)] (Array.replicate 12 false) (Array.replicate 9 true ++ Array.replicate 3 false) (fun a b => Below a.heap.size a b) (fun i => (tyD6 w w1 BN MK n6A 1 n6c).getD i (fun _ _ => True)) (by kernel_rfl) rfl rfl (Below.refl _ _) (fun _ _ _ h k => h.trans (k.mono h.size)) (fun i v W W' h hb => mono_at (tyD6_mono w w1 BN MK n6A 1 n6c) i h hb) ?step ?fin _ rfl
        case step =>
          refine allB_cons (i := 0) rfl (fun a W hl K hK => ?_) ?_
          · have t3 : a.tmps.getD 3 undef = .pointer (some ⟨w1.heap.size, 0, none⟩) := hl.old 3 (by kernel_rfl)
            exact held_value (v := .pointer (some ⟨w1.heap.size, 17, none⟩)) (w' := W) rfl rfl (by go_simp) (hK _ _ (Below.refl _ _) rfl)
          refine allB_cons (i := 1) rfl (fun a W hl K hK => ?_) ?_
          · have t80 : Is (.pointer (some ⟨w1.heap.size, 17, none⟩)) (a.tmps.getD 80 undef) W := hl.at_ 0 80 (by kernel_rfl)
            unfold Is at t80
            have hbC : Blk W (w1.heap.size) 52 (CR (.slice n6A 1 n6c)) := hc6.out.drew.below hl.world hc6.out.drew.lt
            have cc : W.cell? ⟨w1.heap.size, 17, none⟩ = some (.slice n6A 1 n6c) := (hbC.cell 17).trans (hCR17.out _)
            exact held_value (v := .slice n6A 1 n6c) (w' := W) rfl rfl (by go_simp) (hK _ _ (Below.refl _ _) rfl)
          refine allB_cons (i := 2) rfl (fun a W hl K hK => ?_) ?_
          · have t5 : a.tmps.getD 5 undef = .pointer (some ⟨g5, 0, none⟩) := hl.old 5 (by kernel_rfl)
            have hbG5 : Blk W (g5) 79 #[.string ⟨#[98, 111, 120, 101, 115]⟩, .string BN] := hx56.out.drew.below hl.world hx56.out.drew.lt
            exact held_value (v := .agg #[.string ⟨#[98, 111, 120, 101, 115]⟩, .string BN]) (w' := W) rfl rfl (run_ldb rfl t5 hbG5 Tryz.underlying79 rfl (by kernel_rfl)) (hK _ _ (Below.refl _ _) rfl)
          refine allB_cons (i := 3) rfl (fun a W hl K hK => ?_) ?_
          · have t82 : Is (.agg #[.string ⟨#[98, 111, 120, 101, 115]⟩, .string BN]) (a.tmps.getD 82 undef) W := hl.at_ 2 82 (by kernel_rfl)
            unfold Is at t82
            refine held_call (f := 63) (args := #[.agg #[.string ⟨#[98, 111, 120, 101, 115]⟩, .string BN]]) (w := W) rfl rfl (by go_simp) ?_
            refine (ris_any ⟨#[98, 111, 120, 101, 115]⟩ BN W).mono ?_
            rintro e w' ⟨rfl, hb⟩
            exact ⟨_, rfl, hK _ _ hb rfl⟩
          refine allB_cons (i := 4) rfl (fun a W hl K hK => ?_) ?_
          · have t6 : a.tmps.getD 6 undef = .pointer (some ⟨g6, 0, none⟩) := hl.old 6 (by kernel_rfl)
            have hbG6 : Blk W (g6) 79 #[.string ⟨#[109, 97, 114, 107, 115]⟩, .string MK] := hx66.out.drew.below hl.world hx66.out.drew.lt
            exact held_value (v := .agg #[.string ⟨#[109, 97, 114, 107, 115]⟩, .string MK]) (w' := W) rfl rfl (run_ldb rfl t6 hbG6 Tryz.underlying79 rfl (by kernel_rfl)) (hK _ _ (Below.refl _ _) rfl)
          refine allB_cons (i := 5) rfl (fun a W hl K hK => ?_) ?_
          · have t84 : Is (.agg #[.string ⟨#[109, 97, 114, 107, 115]⟩, .string MK]) (a.tmps.getD 84 undef) W := hl.at_ 4 84 (by kernel_rfl)
            unfold Is at t84
            refine held_call (f := 63) (args := #[.agg #[.string ⟨#[109, 97, 114, 107, 115]⟩, .string MK]]) (w := W) rfl rfl (by go_simp) ?_
            refine (ris_any ⟨#[109, 97, 114, 107, 115]⟩ MK W).mono ?_
            rintro e w' ⟨rfl, hb⟩
            exact ⟨_, rfl, hK _ _ hb rfl⟩
          refine allB_cons (i := 6) rfl (fun a W hl K hK => ?_) ?_
          · have t83 : Is (.agg #[.int .i64 3, .int .i64 0, .string ⟨#[98, 111, 120, 101, 115]⟩, .string BN, .int .i64 0, .slice none 0 0]) (a.tmps.getD 83 undef) W := hl.at_ 3 83 (by kernel_rfl)
            unfold Is at t83
            have t85 : Is (.agg #[.int .i64 3, .int .i64 0, .string ⟨#[109, 97, 114, 107, 115]⟩, .string MK, .int .i64 0, .slice none 0 0]) (a.tmps.getD 85 undef) W := hl.at_ 5 85 (by kernel_rfl)
            unfold Is at t85
            simp only [Array.getD_eq_getD_getElem?] at t83 t85
            exact held_value (v := .slice (some ⟨W.heap.size, 0, none⟩) 2 2) (w' := W.alloc (.cells #[.int .i64 3, .int .i64 0, .string ⟨#[98, 111, 120, 101, 115]⟩, .string BN, .int .i64 0, .slice none 0 0, .int .i64 3, .int .i64 0, .string ⟨#[109, 97, 114, 107, 115]⟩, .string MK, .int .i64 0, .slice none 0 0] 109)) rfl rfl (by go_simp) (hK _ _ ((Below.refl _ W).alloc (Nat.le_refl _) _) (atoms_lit W [⟨3, ⟨#[98, 111, 120, 101, 115]⟩, BN, 0⟩, ⟨3, ⟨#[109, 97, 114, 107, 115]⟩, MK, 0⟩] 2 _ rfl (by decide) rfl))
          refine allB_cons (i := 7) rfl (fun a W hl K hK => ?_) ?_
          · have t86 : AtomsV [⟨3, ⟨#[98, 111, 120, 101, 115]⟩, BN, 0⟩, ⟨3, ⟨#[109, 97, 114, 107, 115]⟩, MK, 0⟩] 2 (a.tmps.getD 86 undef) W := hl.at_ 6 86 (by kernel_rfl)
            unfold AtomsV at t86
            obtain ⟨A, c, e1⟩ := own_form t86
            have h1 := Lib.hid t86
            clear t86
            have e2 := e1
            rw [e1] at h1
            refine held_call (f := 64) (args := #[.int .i64 1, .slice A 2 c]) (w := W) rfl rfl (by go_simp) ?_
            refine (rneed_any 1 A 2 c W).mono ?_
            rintro e w' ⟨rfl, hb⟩
            exact ⟨_, rfl, hK _ _ hb ⟨A, c, rfl, own_below h1.out hb⟩⟩
          refine allB_cons (i := 8) rfl (fun a W hl K hK => ?_) ?_
          · have t87 : NeedV 1 [⟨3, ⟨#[98, 111, 120, 101, 115]⟩, BN, 0⟩, ⟨3, ⟨#[109, 97, 114, 107, 115]⟩, MK, 0⟩] 2 (a.tmps.getD 87 undef) W := hl.at_ 7 87 (by kernel_rfl)
            obtain ⟨A87, c87, e87, h87⟩ := t87
            have h87' := Lib.hid h87
            clear h87
            simp only [Array.getD_eq_getD_getElem?] at e87
            refine held_value (v := .slice (some ⟨W.heap.size, 0, none⟩) 1 1) (w' := W.alloc (.cells #[.int .i64 1, .int .i64 1, .int .i64 0, .int .i64 0, .string ⟨#[]⟩, .string ⟨#[]⟩, .int .i64 0, .slice A87 2 c87] 111)) rfl rfl (by go_simp) (hK _ _ ((Below.refl _ W).alloc (Nat.le_refl _) _) (needs_lit w.heap.size [⟨1, A87, 2, c87, [⟨3, ⟨#[98, 111, 120, 101, 115]⟩, BN, 0⟩, ⟨3, ⟨#[109, 97, 114, 107, 115]⟩, MK, 0⟩]⟩] _ (Nat.le_trans hB6.out.size hl.world.size) rfl rfl 1 rfl (by decide) rfl ?_))
            intro x hx
            simp only [List.mem_cons, List.not_mem_nil, or_false] at hx
            subst hx
            · exact ⟨(Lib.hid rfl).out, h87'.out⟩
          exact allB_nil
        case fin =>
          intro vs W hR hG
          have h1 : vs 1 = .slice n6A 1 n6c := hG 1 (by decide)
          have hM : NeedsV w.heap.size [(1, [⟨3, ⟨#[98, 111, 120, 101, 115]⟩, BN, 0⟩, ⟨3, ⟨#[109, 97, 114, 107, 115]⟩, MK, 0⟩])] (vs 8) W := hG 8 (by decide)
          obtain ⟨mA, mc, e2⟩ := hM.slice
          rw [e2] at hM
          have e2' : vs 8 = .slice mA 1 mc := e2
          have hM' := Lib.hid hM
          have hBW : Hid (Below w6.heap.size w6 W) := (Below.refl _ _).drew.trans hR
          have hkW := Lib.hid (hk6.out.below hBW.out hk6.out.lt)
          have hcW := Lib.hid (hc6.out.below hBW.out hc6.out.lt)
          have hzW := Lib.hid (hz6.out.below hBW.out hz6.out.lt)
          have hx5W := Lib.hid (hx56.out.below hBW.out hx56.out.lt)
          have hx6W := Lib.hid (hx66.out.below hBW.out hx66.out.lt)
          have hx7W := Lib.hid (hx76.out.below hBW.out hx76.out.lt)
          have hx8W := Lib.hid (hx86.out.below hBW.out hx86.out.lt)
          have hNW := Lib.hid (mono_NeedsV _ _ _ hN6.out hBW.out)
          have hBx : Hid (Below w.heap.size w W) := hB6.out.trans (hBW.out.mono hB6.out.size)
          clear hG hM hR e2
          simp only [putD, Act.put, List.setIfInBounds_toArray, List.set_cons_zero, List.set_cons_succ, h1, e2']
          refine wpAny_next 9 (by kernel_rfl) ?_
          refine held_needs rfl rfl (.tmp 81) (.tmp 88) rfl w.heap.size ([] ++ [(0, [⟨3, ⟨#[115, 101, 108, 108, 101, 114]⟩, se, 0⟩, ⟨3, ⟨#[98, 117, 121, 101, 114]⟩, bu, 0⟩, ⟨3, ⟨#[99, 117, 114, 114, 101, 110, 99, 121]⟩, cu, 0⟩, ⟨3, ⟨#[115, 117, 109]⟩, SM, 0⟩, ⟨3, ⟨#[102, 114, 111, 109]⟩, fr, 0⟩, ⟨3, ⟨#[116, 111]⟩, tp, 0⟩])]) [(1, [⟨3, ⟨#[98, 111, 120, 101, 115]⟩, BN, 0⟩, ⟨3, ⟨#[109, 97, 114, 107, 115]⟩, MK, 0⟩])] (.slice n6A 1 n6c) (.slice mA 1 mc) (by go_simp) (by go_simp) hNW.out hM'.out (by simp) hBx.out.size ?_
          intro v2 W2 hN2 hb2 hbk2
          obtain ⟨n7A, n7c, e3⟩ := hN2.slice
          rw [e3] at hN2 ⊢
          have hN2' := Lib.hid hN2
          have hkX := Lib.hid (hbk2 _ _ _ (by decide) hkW.out)
          have hcX := Lib.hid (hbk2 _ _ _ (by decide) hcW.out)
          have hzX := Lib.hid (hbk2 _ _ _ (by decide) hzW.out)
          have hx5X := Lib.hid (hbk2 _ _ _ (by decide) hx5W.out)
          have hx6X := Lib.hid (hbk2 _ _ _ (by decide) hx6W.out)
          have hx7X := Lib.hid (hbk2 _ _ _ (by decide) hx7W.out)
          have hx8X := Lib.hid (hbk2 _ _ _ (by decide) hx8W.out)
          have hBy : Hid (Below w.heap.size w W2) := hBx.out.trans hb2
          have x17 : W2.cell? ⟨w1.heap.size, 17, none⟩ = some (.slice n6A 1 n6c) := (hcX.out.cell 17).trans (hCR17.out _)
          have xf := hcX.out.frozen
          have xl : w1.heap.size < W2.heap.size := hcX.out.lt
          clear hN2 hbk2 hb2 e3 h1 e2'
          simp only [Act.put, List.getElem_toArray, List.getElem_cons_zero, List.getElem_cons_succ, List.setIfInBounds_toArray, List.set_cons_zero, List.set_cons_succ]
          refine wpAny_next 10 (by kernel_rfl) ?_
          refine held_value (v := .pointer (some ⟨w1.heap.size, 17, none⟩)) (w' := W2) rfl rfl (by go_simp) ?_
          simp only [Act.put, List.getElem_toArray, List.getElem_cons_zero, List.getElem_cons_succ, List.setIfInBounds_toArray, List.set_cons_zero, List.set_cons_succ]
          refine wpAny_next 11 (by kernel_rfl) ?_
          refine held_skip (w' := W2.setCell ⟨w1.heap.size, 17, none⟩ (.slice n7A 2 n7c)) rfl rfl (by go_simp) ?_
          refine wpAny_end (by kernel_rfl) ?_
          simp only [Act.put, List.getElem_toArray, List.getElem_cons_zero, List.getElem_cons_succ]
          have hc7 : Hid (Blk (W2.setCell ⟨w1.heap.size, 17, none⟩ (.slice n7A 2 n7c)) w1.heap.size 52 (CR (.slice n7A 2 n7c))) := by rw [← hCRset.out (.slice n6A 1 n6c)]; exact hcX.out.set_ 17 (.slice n7A 2 n7c)
          have hne : Hid (w.heap.size ≠ w1.heap.size ∧ w.heap.size + 1 ≠ w1.heap.size) := by have := hg12.out; unfold Hid; omega
          have hk7 := Lib.hid (hkX.out.far (p := ⟨w1.heap.size, 17, none⟩) hne.out.1 (.slice n7A 2 n7c))
          have hz7 := Lib.hid (hzX.out.far (p := ⟨w1.heap.size, 17, none⟩) hne.out.2 (.slice n7A 2 n7c))
          have hx57 := Lib.hid (hx5X.out.far (p := ⟨w1.heap.size, 17, none⟩) (blk_apart hx5X.out hcX.out (by decide)) (.slice n7A 2 n7c))
          have hx67 := Lib.hid (hx6X.out.far (p := ⟨w1.heap.size, 17, none⟩) (blk_apart hx6X.out hcX.out (by decide)) (.slice n7A 2 n7c))
          have hx77 := Lib.hid (hx7X.out.far (p := ⟨w1.heap.size, 17, none⟩) (blk_apart hx7X.out hcX.out (by decide)) (.slice n7A 2 n7c))
          have hx87 := Lib.hid (hx8X.out.far (p := ⟨w1.heap.size, 17, none⟩) (blk_apart hx8X.out hcX.out (by decide)) (.slice n7A 2 n7c))
          have hN7 := Lib.hid (hN2'.out.set_ hcX.out (o := 17) (u := .slice n7A 2 n7c))
          have hB7 : Hid (Below w.heap.size w (W2.setCell ⟨w1.heap.size, 17, none⟩ (.slice n7A 2 n7c))) := hBy.out.setCell (p := ⟨w1.heap.size, 17, none⟩) (by have := hg12.out; show w.heap.size ≤ w1.heap.size; omega) _
          obtain ⟨w7, hwx⟩ : ∃ X, Hid (W2.setCell ⟨w1.heap.size, 17, none⟩ (.slice n7A 2 n7c) = X) := ⟨_, rfl⟩
          rw [hwx.out] at hx57 hx67 hx77 hx87 hc7 hk7 hz7 hN7 hB7 ⊢
          clear hwx hx5W hx5X hx56 hx6W hx6X hx66 hx7W hx7X hx76 hx8W hx8X hx86 x17 xf xl hBW hkW hcW hzW hNW hkX hcX hzX hN2' hM' hk6 hc6 hz6 hN6 hB6
          go_wp2_with fail
          refine wp_region_any (by kernel_rfl) ?_
          refine wpAny_body 152 (List.range 22) [22, 23, 24] 22 [(0, some 91), (1, some 92), (2, some 93), (3, some 94), (4, some 95), (5, some 96), (6, some 97), (7, some 98), (8, some 99), (9, some 100), (10, some 101), (11, some 102), (12, some 103), (13, some 104), (14, some 105), (15, some 106), (16, some 107), (17, some 108), (18, some 109), (19, some 110), (20, some 111), (21, some 112)] (Array.replicate 25 false) (Array.replicate 22 true ++ Array.replicate 3 false) (fun a b => Below a.heap.size a b) (fun i => (tyD7 w w1 se ca fr tp MK la n7A 2 n7c).getD i (fun _ _ => True)) (by kernel_rfl) rfl rfl (Below.refl _ _) (fun _ _ _ h k => h.trans (k.mono h.size)) (fun i v W W' h hb => mono_at (tyD7_mono w w1 se ca fr tp MK la n7A 2 n7c) i h hb) ?step ?fin _ rfl
          case step =>
            refine allB_cons (i := 0) rfl (fun a W hl K hK => ?_) ?_
            · have t3 : a.tmps.getD 3 undef = .pointer (some ⟨w1.heap.size, 0, none⟩) := hl.old 3 (by kernel_rfl)
              exact held_value (v := .pointer (some ⟨w1.heap.size, 17, none⟩)) (w' := W) rfl rfl (by go_simp) (hK _ _ (Below.refl _ _) rfl)
            refine allB_cons (i := 1) rfl (fun a W hl K hK => ?_) ?_
            · have t91 : Is (.pointer (some ⟨w1.heap.size, 17, none⟩)) (a.tmps.getD 91 undef) W := hl.at_ 0 91 (by kernel_rfl)
              unfold Is at t91
              have hbC : Blk W (w1.heap.size) 52 (CR (.slice n7A 2 n7c)) := hc7.out.drew.below hl.world hc7.out.drew.lt
              have cc : W.cell? ⟨w1.heap.size, 17, none⟩ = some (.slice n7A 2 n7c) := (hbC.cell 17).trans (hCR17.out _)
              exact held_value (v := .slice n7A 2 n7c) (w' := W) rfl rfl (by go_simp) (hK _ _ (Below.refl _ _) rfl)
            refine allB_cons (i := 2) rfl (fun a W hl K hK => ?_) ?_
            · have t1 : a.tmps.getD 1 undef = .pointer (some ⟨w.heap.size, 0, none⟩) := hl.old 1 (by kernel_rfl)
              exact held_value (v := .pointer (some ⟨w.heap.size, 3, none⟩)) (w' := W) rfl rfl (by go_simp) (hK _ _ (Below.refl _ _) rfl)
            refine allB_cons (i := 3) rfl (fun a W hl K hK => ?_) ?_
            · have t93 : Is (.pointer (some ⟨w.heap.size, 3, none⟩)) (a.tmps.getD 93 undef) W := hl.at_ 2 93 (by kernel_rfl)
              unfold Is at t93
              have hbD : Blk W (w.heap.size) 26 D := hk7.out.drew.below hl.world hk7.out.drew.lt
              have cc : W.cell? ⟨w.heap.size, 3, none⟩ = some (.string ca) := (hbD.cell 3).trans hD3.out
              exact held_value (v := .string ca) (w' := W) rfl rfl (by go_simp) (hK _ _ (Below.refl _ _) rfl)
            refine allB_cons (i := 4) rfl (fun a W hl K hK => ?_) ?_
            · have t94 : Is (.string ca) (a.tmps.getD 94 undef) W := hl.at_ 3 94 (by kernel_rfl)
              unfold Is at t94
              refine held_call (f := 35) (args := #[.string ⟨#[99, 97, 114, 114, 105, 101, 114]⟩, .string ca]) (w := W) rfl rfl (by go_simp) ?_
              refine (rfield_any ⟨#[99, 97, 114, 114, 105, 101, 114]⟩ ca W).mono ?_
              rintro e w' ⟨rfl, hb⟩
              exact ⟨_, rfl, hK _ _ hb rfl⟩
            refine allB_cons (i := 5) rfl (fun a W hl K hK => ?_) ?_
            · have t95 : Is (.agg #[.string ⟨#[99, 97, 114, 114, 105, 101, 114]⟩, .string ca]) (a.tmps.getD 95 undef) W := hl.at_ 4 95 (by kernel_rfl)
              unfold Is at t95
              refine held_call (f := 63) (args := #[.agg #[.string ⟨#[99, 97, 114, 114, 105, 101, 114]⟩, .string ca]]) (w := W) rfl rfl (by go_simp) ?_
              refine (ris_any ⟨#[99, 97, 114, 114, 105, 101, 114]⟩ ca W).mono ?_
              rintro e w' ⟨rfl, hb⟩
              exact ⟨_, rfl, hK _ _ hb rfl⟩
            refine allB_cons (i := 6) rfl (fun a W hl K hK => ?_) ?_
            · have t1 : a.tmps.getD 1 undef = .pointer (some ⟨w.heap.size, 0, none⟩) := hl.old 1 (by kernel_rfl)
              exact held_value (v := .pointer (some ⟨w.heap.size, 1, none⟩)) (w' := W) rfl rfl (by go_simp) (hK _ _ (Below.refl _ _) rfl)
            refine allB_cons (i := 7) rfl (fun a W hl K hK => ?_) ?_
            · have t97 : Is (.pointer (some ⟨w.heap.size, 1, none⟩)) (a.tmps.getD 97 undef) W := hl.at_ 6 97 (by kernel_rfl)
              unfold Is at t97
              have hbD : Blk W (w.heap.size) 26 D := hk7.out.drew.below hl.world hk7.out.drew.lt
              have cc : W.cell? ⟨w.heap.size, 1, none⟩ = some (.string se) := (hbD.cell 1).trans hD1.out
              exact held_value (v := .string se) (w' := W) rfl rfl (by go_simp) (hK _ _ (Below.refl _ _) rfl)
            refine allB_cons (i := 8) rfl (fun a W hl K hK => ?_) ?_
            · have t98 : Is (.string se) (a.tmps.getD 98 undef) W := hl.at_ 7 98 (by kernel_rfl)
              unfold Is at t98
              refine held_call (f := 35) (args := #[.string ⟨#[115, 104, 105, 112, 112, 101, 114]⟩, .string se]) (w := W) rfl rfl (by go_simp) ?_
              refine (rfield_any ⟨#[115, 104, 105, 112, 112, 101, 114]⟩ se W).mono ?_
              rintro e w' ⟨rfl, hb⟩
              exact ⟨_, rfl, hK _ _ hb rfl⟩
            refine allB_cons (i := 9) rfl (fun a W hl K hK => ?_) ?_
            · have t99 : Is (.agg #[.string ⟨#[115, 104, 105, 112, 112, 101, 114]⟩, .string se]) (a.tmps.getD 99 undef) W := hl.at_ 8 99 (by kernel_rfl)
              unfold Is at t99
              refine held_call (f := 63) (args := #[.agg #[.string ⟨#[115, 104, 105, 112, 112, 101, 114]⟩, .string se]]) (w := W) rfl rfl (by go_simp) ?_
              refine (ris_any ⟨#[115, 104, 105, 112, 112, 101, 114]⟩ se W).mono ?_
              rintro e w' ⟨rfl, hb⟩
              exact ⟨_, rfl, hK _ _ hb rfl⟩
            refine allB_cons (i := 10) rfl (fun a W hl K hK => ?_) ?_
            · have t7 : a.tmps.getD 7 undef = .pointer (some ⟨g7, 0, none⟩) := hl.old 7 (by kernel_rfl)
              have hbG7 : Blk W (g7) 109 #[.int .i64 3, .int .i64 0, .string ⟨#[102, 114, 111, 109]⟩, .string fr, .int .i64 0, .slice none 0 0] := hx77.out.drew.below hl.world hx77.out.drew.lt
              exact held_value (v := .agg #[.int .i64 3, .int .i64 0, .string ⟨#[102, 114, 111, 109]⟩, .string fr, .int .i64 0, .slice none 0 0]) (w' := W) rfl rfl (run_ldb rfl t7 hbG7 Tryz.underlying109 rfl (by kernel_rfl)) (hK _ _ (Below.refl _ _) rfl)
            refine allB_cons (i := 11) rfl (fun a W hl K hK => ?_) ?_
            · have t8 : a.tmps.getD 8 undef = .pointer (some ⟨g8, 0, none⟩) := hl.old 8 (by kernel_rfl)
              have hbG8 : Blk W (g8) 109 #[.int .i64 3, .int .i64 0, .string ⟨#[116, 111]⟩, .string tp, .int .i64 0, .slice none 0 0] := hx87.out.drew.below hl.world hx87.out.drew.lt
              exact held_value (v := .agg #[.int .i64 3, .int .i64 0, .string ⟨#[116, 111]⟩, .string tp, .int .i64 0, .slice none 0 0]) (w' := W) rfl rfl (run_ldb rfl t8 hbG8 Tryz.underlying109 rfl (by kernel_rfl)) (hK _ _ (Below.refl _ _) rfl)
            refine allB_cons (i := 12) rfl (fun a W hl K hK => ?_) ?_
            · have t6 : a.tmps.getD 6 undef = .pointer (some ⟨g6, 0, none⟩) := hl.old 6 (by kernel_rfl)
              have hbG6 : Blk W (g6) 79 #[.string ⟨#[109, 97, 114, 107, 115]⟩, .string MK] := hx67.out.drew.below hl.world hx67.out.drew.lt
              exact held_value (v := .agg #[.string ⟨#[109, 97, 114, 107, 115]⟩, .string MK]) (w' := W) rfl rfl (run_ldb rfl t6 hbG6 Tryz.underlying79 rfl (by kernel_rfl)) (hK _ _ (Below.refl _ _) rfl)
            refine allB_cons (i := 13) rfl (fun a W hl K hK => ?_) ?_
            · have t103 : Is (.agg #[.string ⟨#[109, 97, 114, 107, 115]⟩, .string MK]) (a.tmps.getD 103 undef) W := hl.at_ 12 103 (by kernel_rfl)
              unfold Is at t103
              refine held_call (f := 63) (args := #[.agg #[.string ⟨#[109, 97, 114, 107, 115]⟩, .string MK]]) (w := W) rfl rfl (by go_simp) ?_
              refine (ris_any ⟨#[109, 97, 114, 107, 115]⟩ MK W).mono ?_
              rintro e w' ⟨rfl, hb⟩
              exact ⟨_, rfl, hK _ _ hb rfl⟩
            refine allB_cons (i := 14) rfl (fun a W hl K hK => ?_) ?_
            · refine held_call (f := 35) (args := #[.string ⟨#[99, 108, 101, 97, 110]⟩, .string ⟨#[121, 101, 115]⟩]) (w := W) rfl rfl (by go_simp) ?_
              refine (rfield_any ⟨#[99, 108, 101, 97, 110]⟩ ⟨#[121, 101, 115]⟩ W).mono ?_
              rintro e w' ⟨rfl, hb⟩
              exact ⟨_, rfl, hK _ _ hb rfl⟩
            refine allB_cons (i := 15) rfl (fun a W hl K hK => ?_) ?_
            · have t105 : Is (.agg #[.string ⟨#[99, 108, 101, 97, 110]⟩, .string ⟨#[121, 101, 115]⟩]) (a.tmps.getD 105 undef) W := hl.at_ 14 105 (by kernel_rfl)
              unfold Is at t105
              refine held_call (f := 63) (args := #[.agg #[.string ⟨#[99, 108, 101, 97, 110]⟩, .string ⟨#[121, 101, 115]⟩]]) (w := W) rfl rfl (by go_simp) ?_
              refine (ris_any ⟨#[99, 108, 101, 97, 110]⟩ ⟨#[121, 101, 115]⟩ W).mono ?_
              rintro e w' ⟨rfl, hb⟩
              exact ⟨_, rfl, hK _ _ hb rfl⟩
            refine allB_cons (i := 16) rfl (fun a W hl K hK => ?_) ?_
            · have t1 : a.tmps.getD 1 undef = .pointer (some ⟨w.heap.size, 0, none⟩) := hl.old 1 (by kernel_rfl)
              exact held_value (v := .pointer (some ⟨w.heap.size, 13, none⟩)) (w' := W) rfl rfl (by go_simp) (hK _ _ (Below.refl _ _) rfl)
            refine allB_cons (i := 17) rfl (fun a W hl K hK => ?_) ?_
            · have t107 : Is (.pointer (some ⟨w.heap.size, 13, none⟩)) (a.tmps.getD 107 undef) W := hl.at_ 16 107 (by kernel_rfl)
              unfold Is at t107
              have hbD : Blk W (w.heap.size) 26 D := hk7.out.drew.below hl.world hk7.out.drew.lt
              have cc : W.cell? ⟨w.heap.size, 13, none⟩ = some (.int .i64 la) := (hbD.cell 13).trans hD13.out
              exact held_value (v := .int .i64 la) (w' := W) rfl rfl (by go_simp) (hK _ _ (Below.refl _ _) rfl)
            refine allB_cons (i := 18) rfl (fun a W hl K hK => ?_) ?_
            · have t108 : Is (.int .i64 la) (a.tmps.getD 108 undef) W := hl.at_ 17 108 (by kernel_rfl)
              unfold Is at t108
              simp only [Array.getD_eq_getD_getElem?] at t108
              exact held_value (v := .agg #[.int .i64 5, .int .i64 0, .string ⟨#[105, 115, 115, 117, 101, 100]⟩, .string ⟨#[]⟩, .int .i64 la, .slice none 0 0]) (w' := W) rfl rfl (by go_simp) (hK _ _ (Below.refl _ _) rfl)
            refine allB_cons (i := 19) rfl (fun a W hl K hK => ?_) ?_
            · have t96 : Is (.agg #[.int .i64 3, .int .i64 0, .string ⟨#[99, 97, 114, 114, 105, 101, 114]⟩, .string ca, .int .i64 0, .slice none 0 0]) (a.tmps.getD 96 undef) W := hl.at_ 5 96 (by kernel_rfl)
              unfold Is at t96
              have t100 : Is (.agg #[.int .i64 3, .int .i64 0, .string ⟨#[115, 104, 105, 112, 112, 101, 114]⟩, .string se, .int .i64 0, .slice none 0 0]) (a.tmps.getD 100 undef) W := hl.at_ 9 100 (by kernel_rfl)
              unfold Is at t100
              have t101 : Is (.agg #[.int .i64 3, .int .i64 0, .string ⟨#[102, 114, 111, 109]⟩, .string fr, .int .i64 0, .slice none 0 0]) (a.tmps.getD 101 undef) W := hl.at_ 10 101 (by kernel_rfl)
              unfold Is at t101
              have t102 : Is (.agg #[.int .i64 3, .int .i64 0, .string ⟨#[116, 111]⟩, .string tp, .int .i64 0, .slice none 0 0]) (a.tmps.getD 102 undef) W := hl.at_ 11 102 (by kernel_rfl)
              unfold Is at t102
              have t104 : Is (.agg #[.int .i64 3, .int .i64 0, .string ⟨#[109, 97, 114, 107, 115]⟩, .string MK, .int .i64 0, .slice none 0 0]) (a.tmps.getD 104 undef) W := hl.at_ 13 104 (by kernel_rfl)
              unfold Is at t104
              have t106 : Is (.agg #[.int .i64 3, .int .i64 0, .string ⟨#[99, 108, 101, 97, 110]⟩, .string ⟨#[121, 101, 115]⟩, .int .i64 0, .slice none 0 0]) (a.tmps.getD 106 undef) W := hl.at_ 15 106 (by kernel_rfl)
              unfold Is at t106
              have t109 : Is (.agg #[.int .i64 5, .int .i64 0, .string ⟨#[105, 115, 115, 117, 101, 100]⟩, .string ⟨#[]⟩, .int .i64 la, .slice none 0 0]) (a.tmps.getD 109 undef) W := hl.at_ 18 109 (by kernel_rfl)
              unfold Is at t109
              simp only [Array.getD_eq_getD_getElem?] at t96 t100 t101 t102 t104 t106 t109
              exact held_value (v := .slice (some ⟨W.heap.size, 0, none⟩) 7 7) (w' := W.alloc (.cells #[.int .i64 3, .int .i64 0, .string ⟨#[99, 97, 114, 114, 105, 101, 114]⟩, .string ca, .int .i64 0, .slice none 0 0, .int .i64 3, .int .i64 0, .string ⟨#[115, 104, 105, 112, 112, 101, 114]⟩, .string se, .int .i64 0, .slice none 0 0, .int .i64 3, .int .i64 0, .string ⟨#[102, 114, 111, 109]⟩, .string fr, .int .i64 0, .slice none 0 0, .int .i64 3, .int .i64 0, .string ⟨#[116, 111]⟩, .string tp, .int .i64 0, .slice none 0 0, .int .i64 3, .int .i64 0, .string ⟨#[109, 97, 114, 107, 115]⟩, .string MK, .int .i64 0, .slice none 0 0, .int .i64 3, .int .i64 0, .string ⟨#[99, 108, 101, 97, 110]⟩, .string ⟨#[121, 101, 115]⟩, .int .i64 0, .slice none 0 0, .int .i64 5, .int .i64 0, .string ⟨#[105, 115, 115, 117, 101, 100]⟩, .string ⟨#[]⟩, .int .i64 la, .slice none 0 0] 109)) rfl rfl (by go_simp) (hK _ _ ((Below.refl _ W).alloc (Nat.le_refl _) _) (atoms_lit W [⟨3, ⟨#[99, 97, 114, 114, 105, 101, 114]⟩, ca, 0⟩, ⟨3, ⟨#[115, 104, 105, 112, 112, 101, 114]⟩, se, 0⟩, ⟨3, ⟨#[102, 114, 111, 109]⟩, fr, 0⟩, ⟨3, ⟨#[116, 111]⟩, tp, 0⟩, ⟨3, ⟨#[109, 97, 114, 107, 115]⟩, MK, 0⟩, ⟨3, ⟨#[99, 108, 101, 97, 110]⟩, ⟨#[121, 101, 115]⟩, 0⟩, ⟨5, ⟨#[105, 115, 115, 117, 101, 100]⟩, ⟨#[]⟩, la⟩] 7 _ rfl (by decide) rfl))
            refine allB_cons (i := 20) rfl (fun a W hl K hK => ?_) ?_
            · have t110 : AtomsV [⟨3, ⟨#[99, 97, 114, 114, 105, 101, 114]⟩, ca, 0⟩, ⟨3, ⟨#[115, 104, 105, 112, 112, 101, 114]⟩, se, 0⟩, ⟨3, ⟨#[102, 114, 111, 109]⟩, fr, 0⟩, ⟨3, ⟨#[116, 111]⟩, tp, 0⟩, ⟨3, ⟨#[109, 97, 114, 107, 115]⟩, MK, 0⟩, ⟨3, ⟨#[99, 108, 101, 97, 110]⟩, ⟨#[121, 101, 115]⟩, 0⟩, ⟨5, ⟨#[105, 115, 115, 117, 101, 100]⟩, ⟨#[]⟩, la⟩] 7 (a.tmps.getD 110 undef) W := hl.at_ 19 110 (by kernel_rfl)
              unfold AtomsV at t110
              obtain ⟨A, c, e1⟩ := own_form t110
              have h1 := Lib.hid t110
              clear t110
              have e2 := e1
              rw [e1] at h1
              refine held_call (f := 64) (args := #[.int .i64 2, .slice A 7 c]) (w := W) rfl rfl (by go_simp) ?_
              refine (rneed_any 2 A 7 c W).mono ?_
              rintro e w' ⟨rfl, hb⟩
              exact ⟨_, rfl, hK _ _ hb ⟨A, c, rfl, own_below h1.out hb⟩⟩
            refine allB_cons (i := 21) rfl (fun a W hl K hK => ?_) ?_
            · have t111 : NeedV 2 [⟨3, ⟨#[99, 97, 114, 114, 105, 101, 114]⟩, ca, 0⟩, ⟨3, ⟨#[115, 104, 105, 112, 112, 101, 114]⟩, se, 0⟩, ⟨3, ⟨#[102, 114, 111, 109]⟩, fr, 0⟩, ⟨3, ⟨#[116, 111]⟩, tp, 0⟩, ⟨3, ⟨#[109, 97, 114, 107, 115]⟩, MK, 0⟩, ⟨3, ⟨#[99, 108, 101, 97, 110]⟩, ⟨#[121, 101, 115]⟩, 0⟩, ⟨5, ⟨#[105, 115, 115, 117, 101, 100]⟩, ⟨#[]⟩, la⟩] 7 (a.tmps.getD 111 undef) W := hl.at_ 20 111 (by kernel_rfl)
              obtain ⟨A111, c111, e111, h111⟩ := t111
              have h111' := Lib.hid h111
              clear h111
              simp only [Array.getD_eq_getD_getElem?] at e111
              refine held_value (v := .slice (some ⟨W.heap.size, 0, none⟩) 1 1) (w' := W.alloc (.cells #[.int .i64 2, .int .i64 1, .int .i64 0, .int .i64 0, .string ⟨#[]⟩, .string ⟨#[]⟩, .int .i64 0, .slice A111 7 c111] 111)) rfl rfl (by go_simp) (hK _ _ ((Below.refl _ W).alloc (Nat.le_refl _) _) (needs_lit w.heap.size [⟨2, A111, 7, c111, [⟨3, ⟨#[99, 97, 114, 114, 105, 101, 114]⟩, ca, 0⟩, ⟨3, ⟨#[115, 104, 105, 112, 112, 101, 114]⟩, se, 0⟩, ⟨3, ⟨#[102, 114, 111, 109]⟩, fr, 0⟩, ⟨3, ⟨#[116, 111]⟩, tp, 0⟩, ⟨3, ⟨#[109, 97, 114, 107, 115]⟩, MK, 0⟩, ⟨3, ⟨#[99, 108, 101, 97, 110]⟩, ⟨#[121, 101, 115]⟩, 0⟩, ⟨5, ⟨#[105, 115, 115, 117, 101, 100]⟩, ⟨#[]⟩, la⟩]⟩] _ (Nat.le_trans hB7.out.size hl.world.size) rfl rfl 1 rfl (by decide) rfl ?_))
              intro x hx
              simp only [List.mem_cons, List.not_mem_nil, or_false] at hx
              subst hx
              · exact ⟨(Lib.hid rfl).out, h111'.out⟩
            exact allB_nil
          case fin =>
            intro vs W hR hG
            have h1 : vs 1 = .slice n7A 2 n7c := hG 1 (by decide)
            have hM : NeedsV w.heap.size [(2, need2 ca se fr tp MK la)] (vs 21) W := hG 21 (by decide)
            obtain ⟨mA, mc, e2⟩ := hM.slice
            rw [e2] at hM
            have e2' : vs 21 = .slice mA 1 mc := e2
            have hM' := Lib.hid hM
            have hBW : Hid (Below w7.heap.size w7 W) := (Below.refl _ _).drew.trans hR
            have hkW := Lib.hid (hk7.out.below hBW.out hk7.out.lt)
            have hcW := Lib.hid (hc7.out.below hBW.out hc7.out.lt)
            have hzW := Lib.hid (hz7.out.below hBW.out hz7.out.lt)
            have hx5W := Lib.hid (hx57.out.below hBW.out hx57.out.lt)
            have hx6W := Lib.hid (hx67.out.below hBW.out hx67.out.lt)
            have hx7W := Lib.hid (hx77.out.below hBW.out hx77.out.lt)
            have hx8W := Lib.hid (hx87.out.below hBW.out hx87.out.lt)
            have hNW := Lib.hid (mono_NeedsV _ _ _ hN7.out hBW.out)
            have hBx : Hid (Below w.heap.size w W) := hB7.out.trans (hBW.out.mono hB7.out.size)
            clear hG hM hR e2
            simp only [putD, Act.put, List.setIfInBounds_toArray, List.set_cons_zero, List.set_cons_succ, h1, e2']
            refine wpAny_next 22 (by kernel_rfl) ?_
            refine held_needs rfl rfl (.tmp 92) (.tmp 112) rfl w.heap.size ([] ++ [(0, [⟨3, ⟨#[115, 101, 108, 108, 101, 114]⟩, se, 0⟩, ⟨3, ⟨#[98, 117, 121, 101, 114]⟩, bu, 0⟩, ⟨3, ⟨#[99, 117, 114, 114, 101, 110, 99, 121]⟩, cu, 0⟩, ⟨3, ⟨#[115, 117, 109]⟩, SM, 0⟩, ⟨3, ⟨#[102, 114, 111, 109]⟩, fr, 0⟩, ⟨3, ⟨#[116, 111]⟩, tp, 0⟩])] ++ [(1, [⟨3, ⟨#[98, 111, 120, 101, 115]⟩, BN, 0⟩, ⟨3, ⟨#[109, 97, 114, 107, 115]⟩, MK, 0⟩])]) [(2, need2 ca se fr tp MK la)] (.slice n7A 2 n7c) (.slice mA 1 mc) (by go_simp) (by go_simp) hNW.out hM'.out (by simp) hBx.out.size ?_
            intro v2 W2 hN2 hb2 hbk2
            obtain ⟨n8A, n8c, e3⟩ := hN2.slice
            rw [e3] at hN2 ⊢
            have hN2' := Lib.hid hN2
            have hkX := Lib.hid (hbk2 _ _ _ (by decide) hkW.out)
            have hcX := Lib.hid (hbk2 _ _ _ (by decide) hcW.out)
            have hzX := Lib.hid (hbk2 _ _ _ (by decide) hzW.out)
            have hx5X := Lib.hid (hbk2 _ _ _ (by decide) hx5W.out)
            have hx6X := Lib.hid (hbk2 _ _ _ (by decide) hx6W.out)
            have hx7X := Lib.hid (hbk2 _ _ _ (by decide) hx7W.out)
            have hx8X := Lib.hid (hbk2 _ _ _ (by decide) hx8W.out)
            have hBy : Hid (Below w.heap.size w W2) := hBx.out.trans hb2
            have x17 : W2.cell? ⟨w1.heap.size, 17, none⟩ = some (.slice n7A 2 n7c) := (hcX.out.cell 17).trans (hCR17.out _)
            have xf := hcX.out.frozen
            have xl : w1.heap.size < W2.heap.size := hcX.out.lt
            clear hN2 hbk2 hb2 e3 h1 e2'
            simp only [Act.put, List.getElem_toArray, List.getElem_cons_zero, List.getElem_cons_succ, List.setIfInBounds_toArray, List.set_cons_zero, List.set_cons_succ]
            refine wpAny_next 23 (by kernel_rfl) ?_
            refine held_value (v := .pointer (some ⟨w1.heap.size, 17, none⟩)) (w' := W2) rfl rfl (by go_simp) ?_
            simp only [Act.put, List.getElem_toArray, List.getElem_cons_zero, List.getElem_cons_succ, List.setIfInBounds_toArray, List.set_cons_zero, List.set_cons_succ]
            refine wpAny_next 24 (by kernel_rfl) ?_
            refine held_skip (w' := W2.setCell ⟨w1.heap.size, 17, none⟩ (.slice n8A 3 n8c)) rfl rfl (by go_simp) ?_
            refine wpAny_end (by kernel_rfl) ?_
            simp only [Act.put, List.getElem_toArray, List.getElem_cons_zero, List.getElem_cons_succ]
            have hc8 : Hid (Blk (W2.setCell ⟨w1.heap.size, 17, none⟩ (.slice n8A 3 n8c)) w1.heap.size 52 (CR (.slice n8A 3 n8c))) := by rw [← hCRset.out (.slice n7A 2 n7c)]; exact hcX.out.set_ 17 (.slice n8A 3 n8c)
            have hne : Hid (w.heap.size ≠ w1.heap.size ∧ w.heap.size + 1 ≠ w1.heap.size) := by have := hg12.out; unfold Hid; omega
            have hk8 := Lib.hid (hkX.out.far (p := ⟨w1.heap.size, 17, none⟩) hne.out.1 (.slice n8A 3 n8c))
            have hz8 := Lib.hid (hzX.out.far (p := ⟨w1.heap.size, 17, none⟩) hne.out.2 (.slice n8A 3 n8c))
            have hx58 := Lib.hid (hx5X.out.far (p := ⟨w1.heap.size, 17, none⟩) (blk_apart hx5X.out hcX.out (by decide)) (.slice n8A 3 n8c))
            have hx68 := Lib.hid (hx6X.out.far (p := ⟨w1.heap.size, 17, none⟩) (blk_apart hx6X.out hcX.out (by decide)) (.slice n8A 3 n8c))
            have hx78 := Lib.hid (hx7X.out.far (p := ⟨w1.heap.size, 17, none⟩) (blk_apart hx7X.out hcX.out (by decide)) (.slice n8A 3 n8c))
            have hx88 := Lib.hid (hx8X.out.far (p := ⟨w1.heap.size, 17, none⟩) (blk_apart hx8X.out hcX.out (by decide)) (.slice n8A 3 n8c))
            have hN8 := Lib.hid (hN2'.out.set_ hcX.out (o := 17) (u := .slice n8A 3 n8c))
            have hB8 : Hid (Below w.heap.size w (W2.setCell ⟨w1.heap.size, 17, none⟩ (.slice n8A 3 n8c))) := hBy.out.setCell (p := ⟨w1.heap.size, 17, none⟩) (by have := hg12.out; show w.heap.size ≤ w1.heap.size; omega) _
            obtain ⟨w8, hwx⟩ : ∃ X, Hid (W2.setCell ⟨w1.heap.size, 17, none⟩ (.slice n8A 3 n8c) = X) := ⟨_, rfl⟩
            rw [hwx.out] at hx58 hx68 hx78 hx88 hc8 hk8 hz8 hN8 hB8 ⊢
            clear hwx hx5W hx5X hx57 hx6W hx6X hx67 hx7W hx7X hx77 hx8W hx8X hx87 x17 xf xl hBW hkW hcW hzW hNW hkX hcX hzX hN2' hM' hk7 hc7 hz7 hN7 hB7
            have i6 : w8.cell? ⟨w.heap.size, 6, none⟩ = some (.string ins) := (hk8.out.cell 6).trans hD6.out
            by_cases hin : ins.toList = []
            · have hi2 : ins.toList.isEmpty = true := by rw [hin]; rfl
              have hneeds : Hid (needsM d = ([] ++ [(0, [⟨3, ⟨#[115, 101, 108, 108, 101, 114]⟩, se, 0⟩, ⟨3, ⟨#[98, 117, 121, 101, 114]⟩, bu, 0⟩, ⟨3, ⟨#[99, 117, 114, 114, 101, 110, 99, 121]⟩, cu, 0⟩, ⟨3, ⟨#[115, 117, 109]⟩, SM, 0⟩, ⟨3, ⟨#[102, 114, 111, 109]⟩, fr, 0⟩, ⟨3, ⟨#[116, 111]⟩, tp, 0⟩])] ++ [(1, [⟨3, ⟨#[98, 111, 120, 101, 115]⟩, BN, 0⟩, ⟨3, ⟨#[109, 97, 114, 107, 115]⟩, MK, 0⟩])] ++ [(2, need2 ca se fr tp MK la)]) ++ [(4, [⟨3, ⟨#[115, 101, 108, 108, 101, 114]⟩, se, 0⟩, ⟨3, ⟨#[99, 111, 117, 110, 116, 114, 121]⟩, fr, 0⟩])]) := by unfold Hid; rw [needsM, hins.out, if_pos hin, need0, need1, need4, hca.out, hse.out, hbu.out, hfr.out, htp.out, hcu.out, hSM.out, hBN.out, hMK.out, hla.out]; rfl
              go_wp2_with fail
              refine wp_region_any (by kernel_rfl) ?_
              refine wpAny_body 152 (List.range 13) [13, 14, 15] 13 [(0, some 136), (1, some 137), (2, some 138), (3, some 139), (4, some 140), (5, some 141), (6, some 142), (7, some 143), (8, some 144), (9, some 145), (10, some 146), (11, some 147), (12, some 148)] (Array.replicate 16 false) (Array.replicate 13 true ++ Array.replicate 3 false) (fun a b => Below a.heap.size a b) (fun i => (tyDA w w1 se fr n8A 3 n8c).getD i (fun _ _ => True)) (by kernel_rfl) rfl rfl (Below.refl _ _) (fun _ _ _ h k => h.trans (k.mono h.size)) (fun i v W W' h hb => mono_at (tyDA_mono w w1 se fr n8A 3 n8c) i h hb) ?step ?fin _ rfl
              case step =>
                refine allB_cons (i := 0) rfl (fun a W hl K hK => ?_) ?_
                · have t3 : a.tmps.getD 3 undef = .pointer (some ⟨w1.heap.size, 0, none⟩) := hl.old 3 (by kernel_rfl)
                  exact held_value (v := .pointer (some ⟨w1.heap.size, 17, none⟩)) (w' := W) rfl rfl (by go_simp) (hK _ _ (Below.refl _ _) rfl)
                refine allB_cons (i := 1) rfl (fun a W hl K hK => ?_) ?_
                · have t136 : Is (.pointer (some ⟨w1.heap.size, 17, none⟩)) (a.tmps.getD 136 undef) W := hl.at_ 0 136 (by kernel_rfl)
                  unfold Is at t136
                  have hbC : Blk W (w1.heap.size) 52 (CR (.slice n8A 3 n8c)) := hc8.out.drew.below hl.world hc8.out.drew.lt
                  have cc : W.cell? ⟨w1.heap.size, 17, none⟩ = some (.slice n8A 3 n8c) := (hbC.cell 17).trans (hCR17.out _)
                  exact held_value (v := .slice n8A 3 n8c) (w' := W) rfl rfl (by go_simp) (hK _ _ (Below.refl _ _) rfl)
                refine allB_cons (i := 2) rfl (fun a W hl K hK => ?_) ?_
                · have t1 : a.tmps.getD 1 undef = .pointer (some ⟨w.heap.size, 0, none⟩) := hl.old 1 (by kernel_rfl)
                  exact held_value (v := .pointer (some ⟨w.heap.size, 1, none⟩)) (w' := W) rfl rfl (by go_simp) (hK _ _ (Below.refl _ _) rfl)
                refine allB_cons (i := 3) rfl (fun a W hl K hK => ?_) ?_
                · have t138 : Is (.pointer (some ⟨w.heap.size, 1, none⟩)) (a.tmps.getD 138 undef) W := hl.at_ 2 138 (by kernel_rfl)
                  unfold Is at t138
                  have hbD : Blk W (w.heap.size) 26 D := hk8.out.drew.below hl.world hk8.out.drew.lt
                  have cc : W.cell? ⟨w.heap.size, 1, none⟩ = some (.string se) := (hbD.cell 1).trans hD1.out
                  exact held_value (v := .string se) (w' := W) rfl rfl (by go_simp) (hK _ _ (Below.refl _ _) rfl)
                refine allB_cons (i := 4) rfl (fun a W hl K hK => ?_) ?_
                · have t139 : Is (.string se) (a.tmps.getD 139 undef) W := hl.at_ 3 139 (by kernel_rfl)
                  unfold Is at t139
                  refine held_call (f := 35) (args := #[.string ⟨#[115, 101, 108, 108, 101, 114]⟩, .string se]) (w := W) rfl rfl (by go_simp) ?_
                  refine (rfield_any ⟨#[115, 101, 108, 108, 101, 114]⟩ se W).mono ?_
                  rintro e w' ⟨rfl, hb⟩
                  exact ⟨_, rfl, hK _ _ hb rfl⟩
                refine allB_cons (i := 5) rfl (fun a W hl K hK => ?_) ?_
                · have t140 : Is (.agg #[.string ⟨#[115, 101, 108, 108, 101, 114]⟩, .string se]) (a.tmps.getD 140 undef) W := hl.at_ 4 140 (by kernel_rfl)
                  unfold Is at t140
                  refine held_call (f := 63) (args := #[.agg #[.string ⟨#[115, 101, 108, 108, 101, 114]⟩, .string se]]) (w := W) rfl rfl (by go_simp) ?_
                  refine (ris_any ⟨#[115, 101, 108, 108, 101, 114]⟩ se W).mono ?_
                  rintro e w' ⟨rfl, hb⟩
                  exact ⟨_, rfl, hK _ _ hb rfl⟩
                refine allB_cons (i := 6) rfl (fun a W hl K hK => ?_) ?_
                · have t1 : a.tmps.getD 1 undef = .pointer (some ⟨w.heap.size, 0, none⟩) := hl.old 1 (by kernel_rfl)
                  exact held_value (v := .pointer (some ⟨w.heap.size, 7, none⟩)) (w' := W) rfl rfl (by go_simp) (hK _ _ (Below.refl _ _) rfl)
                refine allB_cons (i := 7) rfl (fun a W hl K hK => ?_) ?_
                · have t142 : Is (.pointer (some ⟨w.heap.size, 7, none⟩)) (a.tmps.getD 142 undef) W := hl.at_ 6 142 (by kernel_rfl)
                  unfold Is at t142
                  have hbD : Blk W (w.heap.size) 26 D := hk8.out.drew.below hl.world hk8.out.drew.lt
                  have cc : W.cell? ⟨w.heap.size, 7, none⟩ = some (.string fr) := (hbD.cell 7).trans hD7.out
                  exact held_value (v := .string fr) (w' := W) rfl rfl (by go_simp) (hK _ _ (Below.refl _ _) rfl)
                refine allB_cons (i := 8) rfl (fun a W hl K hK => ?_) ?_
                · have t143 : Is (.string fr) (a.tmps.getD 143 undef) W := hl.at_ 7 143 (by kernel_rfl)
                  unfold Is at t143
                  refine held_call (f := 35) (args := #[.string ⟨#[99, 111, 117, 110, 116, 114, 121]⟩, .string fr]) (w := W) rfl rfl (by go_simp) ?_
                  refine (rfield_any ⟨#[99, 111, 117, 110, 116, 114, 121]⟩ fr W).mono ?_
                  rintro e w' ⟨rfl, hb⟩
                  exact ⟨_, rfl, hK _ _ hb rfl⟩
                refine allB_cons (i := 9) rfl (fun a W hl K hK => ?_) ?_
                · have t144 : Is (.agg #[.string ⟨#[99, 111, 117, 110, 116, 114, 121]⟩, .string fr]) (a.tmps.getD 144 undef) W := hl.at_ 8 144 (by kernel_rfl)
                  unfold Is at t144
                  refine held_call (f := 63) (args := #[.agg #[.string ⟨#[99, 111, 117, 110, 116, 114, 121]⟩, .string fr]]) (w := W) rfl rfl (by go_simp) ?_
                  refine (ris_any ⟨#[99, 111, 117, 110, 116, 114, 121]⟩ fr W).mono ?_
                  rintro e w' ⟨rfl, hb⟩
                  exact ⟨_, rfl, hK _ _ hb rfl⟩
                refine allB_cons (i := 10) rfl (fun a W hl K hK => ?_) ?_
                · have t141 : Is (.agg #[.int .i64 3, .int .i64 0, .string ⟨#[115, 101, 108, 108, 101, 114]⟩, .string se, .int .i64 0, .slice none 0 0]) (a.tmps.getD 141 undef) W := hl.at_ 5 141 (by kernel_rfl)
                  unfold Is at t141
                  have t145 : Is (.agg #[.int .i64 3, .int .i64 0, .string ⟨#[99, 111, 117, 110, 116, 114, 121]⟩, .string fr, .int .i64 0, .slice none 0 0]) (a.tmps.getD 145 undef) W := hl.at_ 9 145 (by kernel_rfl)
                  unfold Is at t145
                  simp only [Array.getD_eq_getD_getElem?] at t141 t145
                  exact held_value (v := .slice (some ⟨W.heap.size, 0, none⟩) 2 2) (w' := W.alloc (.cells #[.int .i64 3, .int .i64 0, .string ⟨#[115, 101, 108, 108, 101, 114]⟩, .string se, .int .i64 0, .slice none 0 0, .int .i64 3, .int .i64 0, .string ⟨#[99, 111, 117, 110, 116, 114, 121]⟩, .string fr, .int .i64 0, .slice none 0 0] 109)) rfl rfl (by go_simp) (hK _ _ ((Below.refl _ W).alloc (Nat.le_refl _) _) (atoms_lit W [⟨3, ⟨#[115, 101, 108, 108, 101, 114]⟩, se, 0⟩, ⟨3, ⟨#[99, 111, 117, 110, 116, 114, 121]⟩, fr, 0⟩] 2 _ rfl (by decide) rfl))
                refine allB_cons (i := 11) rfl (fun a W hl K hK => ?_) ?_
                · have t146 : AtomsV [⟨3, ⟨#[115, 101, 108, 108, 101, 114]⟩, se, 0⟩, ⟨3, ⟨#[99, 111, 117, 110, 116, 114, 121]⟩, fr, 0⟩] 2 (a.tmps.getD 146 undef) W := hl.at_ 10 146 (by kernel_rfl)
                  unfold AtomsV at t146
                  obtain ⟨A, c, e1⟩ := own_form t146
                  have h1 := Lib.hid t146
                  clear t146
                  have e2 := e1
                  rw [e1] at h1
                  refine held_call (f := 64) (args := #[.int .i64 4, .slice A 2 c]) (w := W) rfl rfl (by go_simp) ?_
                  refine (rneed_any 4 A 2 c W).mono ?_
                  rintro e w' ⟨rfl, hb⟩
                  exact ⟨_, rfl, hK _ _ hb ⟨A, c, rfl, own_below h1.out hb⟩⟩
                refine allB_cons (i := 12) rfl (fun a W hl K hK => ?_) ?_
                · have t147 : NeedV 4 [⟨3, ⟨#[115, 101, 108, 108, 101, 114]⟩, se, 0⟩, ⟨3, ⟨#[99, 111, 117, 110, 116, 114, 121]⟩, fr, 0⟩] 2 (a.tmps.getD 147 undef) W := hl.at_ 11 147 (by kernel_rfl)
                  obtain ⟨A147, c147, e147, h147⟩ := t147
                  have h147' := Lib.hid h147
                  clear h147
                  simp only [Array.getD_eq_getD_getElem?] at e147
                  refine held_value (v := .slice (some ⟨W.heap.size, 0, none⟩) 1 1) (w' := W.alloc (.cells #[.int .i64 4, .int .i64 1, .int .i64 0, .int .i64 0, .string ⟨#[]⟩, .string ⟨#[]⟩, .int .i64 0, .slice A147 2 c147] 111)) rfl rfl (by go_simp) (hK _ _ ((Below.refl _ W).alloc (Nat.le_refl _) _) (needs_lit w.heap.size [⟨4, A147, 2, c147, [⟨3, ⟨#[115, 101, 108, 108, 101, 114]⟩, se, 0⟩, ⟨3, ⟨#[99, 111, 117, 110, 116, 114, 121]⟩, fr, 0⟩]⟩] _ (Nat.le_trans hB8.out.size hl.world.size) rfl rfl 1 rfl (by decide) rfl ?_))
                  intro x hx
                  simp only [List.mem_cons, List.not_mem_nil, or_false] at hx
                  subst hx
                  · exact ⟨(Lib.hid rfl).out, h147'.out⟩
                exact allB_nil
              case fin =>
                intro vs W hR hG
                have h1 : vs 1 = .slice n8A 3 n8c := hG 1 (by decide)
                have hM : NeedsV w.heap.size [(4, [⟨3, ⟨#[115, 101, 108, 108, 101, 114]⟩, se, 0⟩, ⟨3, ⟨#[99, 111, 117, 110, 116, 114, 121]⟩, fr, 0⟩])] (vs 12) W := hG 12 (by decide)
                obtain ⟨mA, mc, e2⟩ := hM.slice
                rw [e2] at hM
                have e2' : vs 12 = .slice mA 1 mc := e2
                have hM' := Lib.hid hM
                have hBW : Hid (Below w8.heap.size w8 W) := (Below.refl _ _).drew.trans hR
                have hkW := Lib.hid (hk8.out.below hBW.out hk8.out.lt)
                have hcW := Lib.hid (hc8.out.below hBW.out hc8.out.lt)
                have hzW := Lib.hid (hz8.out.below hBW.out hz8.out.lt)
                have hx5W := Lib.hid (hx58.out.below hBW.out hx58.out.lt)
                have hx6W := Lib.hid (hx68.out.below hBW.out hx68.out.lt)
                have hx7W := Lib.hid (hx78.out.below hBW.out hx78.out.lt)
                have hx8W := Lib.hid (hx88.out.below hBW.out hx88.out.lt)
                have hNW := Lib.hid (mono_NeedsV _ _ _ hN8.out hBW.out)
                have hBx : Hid (Below w.heap.size w W) := hB8.out.trans (hBW.out.mono hB8.out.size)
                clear hG hM hR e2
                simp only [putD, Act.put, List.setIfInBounds_toArray, List.set_cons_zero, List.set_cons_succ, h1, e2']
                refine wpAny_next 13 (by kernel_rfl) ?_
                refine held_needs rfl rfl (.tmp 137) (.tmp 148) rfl w.heap.size ([] ++ [(0, [⟨3, ⟨#[115, 101, 108, 108, 101, 114]⟩, se, 0⟩, ⟨3, ⟨#[98, 117, 121, 101, 114]⟩, bu, 0⟩, ⟨3, ⟨#[99, 117, 114, 114, 101, 110, 99, 121]⟩, cu, 0⟩, ⟨3, ⟨#[115, 117, 109]⟩, SM, 0⟩, ⟨3, ⟨#[102, 114, 111, 109]⟩, fr, 0⟩, ⟨3, ⟨#[116, 111]⟩, tp, 0⟩])] ++ [(1, [⟨3, ⟨#[98, 111, 120, 101, 115]⟩, BN, 0⟩, ⟨3, ⟨#[109, 97, 114, 107, 115]⟩, MK, 0⟩])] ++ [(2, need2 ca se fr tp MK la)]) [(4, [⟨3, ⟨#[115, 101, 108, 108, 101, 114]⟩, se, 0⟩, ⟨3, ⟨#[99, 111, 117, 110, 116, 114, 121]⟩, fr, 0⟩])] (.slice n8A 3 n8c) (.slice mA 1 mc) (by go_simp) (by go_simp) hNW.out hM'.out (by simp) hBx.out.size ?_
                intro v2 W2 hN2 hb2 hbk2
                obtain ⟨nZA, nZc, e3⟩ := hN2.slice
                rw [e3] at hN2 ⊢
                have hN2' := Lib.hid hN2
                have hkX := Lib.hid (hbk2 _ _ _ (by decide) hkW.out)
                have hcX := Lib.hid (hbk2 _ _ _ (by decide) hcW.out)
                have hzX := Lib.hid (hbk2 _ _ _ (by decide) hzW.out)
                have hx5X := Lib.hid (hbk2 _ _ _ (by decide) hx5W.out)
                have hx6X := Lib.hid (hbk2 _ _ _ (by decide) hx6W.out)
                have hx7X := Lib.hid (hbk2 _ _ _ (by decide) hx7W.out)
                have hx8X := Lib.hid (hbk2 _ _ _ (by decide) hx8W.out)
                have hBy : Hid (Below w.heap.size w W2) := hBx.out.trans hb2
                have x17 : W2.cell? ⟨w1.heap.size, 17, none⟩ = some (.slice n8A 3 n8c) := (hcX.out.cell 17).trans (hCR17.out _)
                have xf := hcX.out.frozen
                have xl : w1.heap.size < W2.heap.size := hcX.out.lt
                clear hN2 hbk2 hb2 e3 h1 e2'
                simp only [Act.put, List.getElem_toArray, List.getElem_cons_zero, List.getElem_cons_succ, List.setIfInBounds_toArray, List.set_cons_zero, List.set_cons_succ]
                refine wpAny_next 14 (by kernel_rfl) ?_
                refine held_value (v := .pointer (some ⟨w1.heap.size, 17, none⟩)) (w' := W2) rfl rfl (by go_simp) ?_
                simp only [Act.put, List.getElem_toArray, List.getElem_cons_zero, List.getElem_cons_succ, List.setIfInBounds_toArray, List.set_cons_zero, List.set_cons_succ]
                refine wpAny_next 15 (by kernel_rfl) ?_
                refine held_skip (w' := W2.setCell ⟨w1.heap.size, 17, none⟩ (.slice nZA 4 nZc)) rfl rfl (by go_simp) ?_
                refine wpAny_end (by kernel_rfl) ?_
                simp only [Act.put, List.getElem_toArray, List.getElem_cons_zero, List.getElem_cons_succ]
                have hcZ : Hid (Blk (W2.setCell ⟨w1.heap.size, 17, none⟩ (.slice nZA 4 nZc)) w1.heap.size 52 (CR (.slice nZA 4 nZc))) := by rw [← hCRset.out (.slice n8A 3 n8c)]; exact hcX.out.set_ 17 (.slice nZA 4 nZc)
                have hne : Hid (w.heap.size ≠ w1.heap.size ∧ w.heap.size + 1 ≠ w1.heap.size) := by have := hg12.out; unfold Hid; omega
                have hkZ := Lib.hid (hkX.out.far (p := ⟨w1.heap.size, 17, none⟩) hne.out.1 (.slice nZA 4 nZc))
                have hzZ := Lib.hid (hzX.out.far (p := ⟨w1.heap.size, 17, none⟩) hne.out.2 (.slice nZA 4 nZc))
                have hx5Z := Lib.hid (hx5X.out.far (p := ⟨w1.heap.size, 17, none⟩) (blk_apart hx5X.out hcX.out (by decide)) (.slice nZA 4 nZc))
                have hx6Z := Lib.hid (hx6X.out.far (p := ⟨w1.heap.size, 17, none⟩) (blk_apart hx6X.out hcX.out (by decide)) (.slice nZA 4 nZc))
                have hx7Z := Lib.hid (hx7X.out.far (p := ⟨w1.heap.size, 17, none⟩) (blk_apart hx7X.out hcX.out (by decide)) (.slice nZA 4 nZc))
                have hx8Z := Lib.hid (hx8X.out.far (p := ⟨w1.heap.size, 17, none⟩) (blk_apart hx8X.out hcX.out (by decide)) (.slice nZA 4 nZc))
                have hNZ := Lib.hid (hN2'.out.set_ hcX.out (o := 17) (u := .slice nZA 4 nZc))
                have hBZ : Hid (Below w.heap.size w (W2.setCell ⟨w1.heap.size, 17, none⟩ (.slice nZA 4 nZc))) := hBy.out.setCell (p := ⟨w1.heap.size, 17, none⟩) (by have := hg12.out; show w.heap.size ≤ w1.heap.size; omega) _
                obtain ⟨wZ, hwx⟩ : ∃ X, Hid (W2.setCell ⟨w1.heap.size, 17, none⟩ (.slice nZA 4 nZc) = X) := ⟨_, rfl⟩
                rw [hwx.out] at hx5Z hx6Z hx7Z hx8Z hcZ hkZ hzZ hNZ hBZ ⊢
                clear hwx hx5W hx5X hx58 hx6W hx6X hx68 hx7W hx7X hx78 hx8W hx8X hx88 x17 xf xl hBW hkW hcW hzW hNW hkX hcX hzX hN2' hM' hk8 hc8 hz8 hN8 hB8
                have hCs : Hid ((CR (.slice nZA 4 nZc)).size = 18) := hCRs.out _
                have hC1 : Hid ((CR (.slice nZA 4 nZc)).all (·.oneCell') = true) := by rw [← hCR.out]; unfold Hid; simp [crC, Value.oneCell']
                go_wp2_with (first | (refine wpList_get_blk rfl 52 _ rfl w1.heap.size (CR (.slice nZA 4 nZc)) 52 _ rfl hcZ.out Tryz.underlying52 rfl (by rw [hCs.out]; kernel_rfl) ?_) | (refine wpList_put_blk rfl 52 _ _ rfl (w.heap.size + 1) zeroC (CR (.slice nZA 4 nZc)) 52 rfl rfl hzZ.out (by rw [hCs.out]; rfl) (by rw [hCs.out]; kernel_rfl) hC1.out ?_; intro w9 hz9 hu9))
                refine bodyPost_ret (results_row rfl _ _ (w.heap.size + 1) 52 _ _ rfl hz9 Tryz.underlying52 rfl (by rw [hCs.out]; kernel_rfl)) rfl ?_
                refine ⟨.slice nZA 4 nZc, by rw [hCR.out], ?_, hBZ.out.trans (hu9.to_below (Below.refl _ _) (by omega) (by have := hBZ.out.size; have := hs1.out; have := hB1.out.size; first | omega | exact Nat.le_refl _))⟩
                have hfin := hNZ.out.but hu9 hzZ.out
                rw [hneeds.out]
                exact hfin
            · have hi2 : ins.toList.isEmpty = false := by simpa using hin
              have hneeds : Hid (needsM d = (([] ++ [(0, [⟨3, ⟨#[115, 101, 108, 108, 101, 114]⟩, se, 0⟩, ⟨3, ⟨#[98, 117, 121, 101, 114]⟩, bu, 0⟩, ⟨3, ⟨#[99, 117, 114, 114, 101, 110, 99, 121]⟩, cu, 0⟩, ⟨3, ⟨#[115, 117, 109]⟩, SM, 0⟩, ⟨3, ⟨#[102, 114, 111, 109]⟩, fr, 0⟩, ⟨3, ⟨#[116, 111]⟩, tp, 0⟩])] ++ [(1, [⟨3, ⟨#[98, 111, 120, 101, 115]⟩, BN, 0⟩, ⟨3, ⟨#[109, 97, 114, 107, 115]⟩, MK, 0⟩])] ++ [(2, need2 ca se fr tp MK la)]) ++ [(3, need3 fr tp cu am)]) ++ [(4, [⟨3, ⟨#[115, 101, 108, 108, 101, 114]⟩, se, 0⟩, ⟨3, ⟨#[99, 111, 117, 110, 116, 114, 121]⟩, fr, 0⟩])]) := by unfold Hid; rw [needsM, hins.out, if_neg hin, need0, need1, need4, hca.out, hse.out, hbu.out, hfr.out, htp.out, hcu.out, hSM.out, ham.out, hBN.out, hMK.out, hla.out]; rfl
              go_wp2_with fail
              refine wp_region_any (by kernel_rfl) ?_
              refine wpAny_body 152 (List.range 16) [16, 17, 18] 16 [(0, some 118), (1, some 119), (2, some 120), (3, some 121), (4, some 122), (5, some 123), (6, some 124), (7, some 125), (8, some 126), (9, some 127), (10, some 128), (11, some 129), (12, some 130), (13, some 131), (14, some 132), (15, some 133)] (Array.replicate 19 false) (Array.replicate 16 true ++ Array.replicate 3 false) (fun a b => Below a.heap.size a b) (fun i => (tyD9 w w1 cu fr tp am n8A 3 n8c).getD i (fun _ _ => True)) (by kernel_rfl) rfl rfl (Below.refl _ _) (fun _ _ _ h k => h.trans (k.mono h.size)) (fun i v W W' h hb => mono_at (tyD9_mono w w1 cu fr tp am n8A 3 n8c) i h hb) ?step ?fin _ rfl
              case step =>
                refine allB_cons (i := 0) rfl (fun a W hl K hK => ?_) ?_
                · have t3 : a.tmps.getD 3 undef = .pointer (some ⟨w1.heap.size, 0, none⟩) := hl.old 3 (by kernel_rfl)
                  exact held_value (v := .pointer (some ⟨w1.heap.size, 17, none⟩)) (w' := W) rfl rfl (by go_simp) (hK _ _ (Below.refl _ _) rfl)
                refine allB_cons (i := 1) rfl (fun a W hl K hK => ?_) ?_
                · have t118 : Is (.pointer (some ⟨w1.heap.size, 17, none⟩)) (a.tmps.getD 118 undef) W := hl.at_ 0 118 (by kernel_rfl)
                  unfold Is at t118
                  have hbC : Blk W (w1.heap.size) 52 (CR (.slice n8A 3 n8c)) := hc8.out.drew.below hl.world hc8.out.drew.lt
                  have cc : W.cell? ⟨w1.heap.size, 17, none⟩ = some (.slice n8A 3 n8c) := (hbC.cell 17).trans (hCR17.out _)
                  exact held_value (v := .slice n8A 3 n8c) (w' := W) rfl rfl (by go_simp) (hK _ _ (Below.refl _ _) rfl)
                refine allB_cons (i := 2) rfl (fun a W hl K hK => ?_) ?_
                · have t7 : a.tmps.getD 7 undef = .pointer (some ⟨g7, 0, none⟩) := hl.old 7 (by kernel_rfl)
                  have hbG7 : Blk W (g7) 109 #[.int .i64 3, .int .i64 0, .string ⟨#[102, 114, 111, 109]⟩, .string fr, .int .i64 0, .slice none 0 0] := hx78.out.drew.below hl.world hx78.out.drew.lt
                  exact held_value (v := .agg #[.int .i64 3, .int .i64 0, .string ⟨#[102, 114, 111, 109]⟩, .string fr, .int .i64 0, .slice none 0 0]) (w' := W) rfl rfl (run_ldb rfl t7 hbG7 Tryz.underlying109 rfl (by kernel_rfl)) (hK _ _ (Below.refl _ _) rfl)
                refine allB_cons (i := 3) rfl (fun a W hl K hK => ?_) ?_
                · have t8 : a.tmps.getD 8 undef = .pointer (some ⟨g8, 0, none⟩) := hl.old 8 (by kernel_rfl)
                  have hbG8 : Blk W (g8) 109 #[.int .i64 3, .int .i64 0, .string ⟨#[116, 111]⟩, .string tp, .int .i64 0, .slice none 0 0] := hx88.out.drew.below hl.world hx88.out.drew.lt
                  exact held_value (v := .agg #[.int .i64 3, .int .i64 0, .string ⟨#[116, 111]⟩, .string tp, .int .i64 0, .slice none 0 0]) (w' := W) rfl rfl (run_ldb rfl t8 hbG8 Tryz.underlying109 rfl (by kernel_rfl)) (hK _ _ (Below.refl _ _) rfl)
                refine allB_cons (i := 4) rfl (fun a W hl K hK => ?_) ?_
                · have t1 : a.tmps.getD 1 undef = .pointer (some ⟨w.heap.size, 0, none⟩) := hl.old 1 (by kernel_rfl)
                  exact held_value (v := .pointer (some ⟨w.heap.size, 9, none⟩)) (w' := W) rfl rfl (by go_simp) (hK _ _ (Below.refl _ _) rfl)
                refine allB_cons (i := 5) rfl (fun a W hl K hK => ?_) ?_
                · have t122 : Is (.pointer (some ⟨w.heap.size, 9, none⟩)) (a.tmps.getD 122 undef) W := hl.at_ 4 122 (by kernel_rfl)
                  unfold Is at t122
                  exact held_value (v := .pointer (some ⟨w.heap.size, 9, none⟩)) (w' := W) rfl rfl (by go_simp) (hK _ _ (Below.refl _ _) rfl)
                refine allB_cons (i := 6) rfl (fun a W hl K hK => ?_) ?_
                · have t123 : Is (.pointer (some ⟨w.heap.size, 9, none⟩)) (a.tmps.getD 123 undef) W := hl.at_ 5 123 (by kernel_rfl)
                  unfold Is at t123
                  have hbD : Blk W (w.heap.size) 26 D := hk8.out.drew.below hl.world hk8.out.drew.lt
                  have cc : W.cell? ⟨w.heap.size, 9, none⟩ = some (.string cu) := (hbD.cell 9).trans hD9.out
                  exact held_value (v := .string cu) (w' := W) rfl rfl (by go_simp) (hK _ _ (Below.refl _ _) rfl)
                refine allB_cons (i := 7) rfl (fun a W hl K hK => ?_) ?_
                · have t124 : Is (.string cu) (a.tmps.getD 124 undef) W := hl.at_ 6 124 (by kernel_rfl)
                  unfold Is at t124
                  refine held_call (f := 35) (args := #[.string ⟨#[99, 117, 114, 114, 101, 110, 99, 121]⟩, .string cu]) (w := W) rfl rfl (by go_simp) ?_
                  refine (rfield_any ⟨#[99, 117, 114, 114, 101, 110, 99, 121]⟩ cu W).mono ?_
                  rintro e w' ⟨rfl, hb⟩
                  exact ⟨_, rfl, hK _ _ hb rfl⟩
                refine allB_cons (i := 8) rfl (fun a W hl K hK => ?_) ?_
                · have t125 : Is (.agg #[.string ⟨#[99, 117, 114, 114, 101, 110, 99, 121]⟩, .string cu]) (a.tmps.getD 125 undef) W := hl.at_ 7 125 (by kernel_rfl)
                  unfold Is at t125
                  refine held_call (f := 63) (args := #[.agg #[.string ⟨#[99, 117, 114, 114, 101, 110, 99, 121]⟩, .string cu]]) (w := W) rfl rfl (by go_simp) ?_
                  refine (ris_any ⟨#[99, 117, 114, 114, 101, 110, 99, 121]⟩ cu W).mono ?_
                  rintro e w' ⟨rfl, hb⟩
                  exact ⟨_, rfl, hK _ _ hb rfl⟩
                refine allB_cons (i := 9) rfl (fun a W hl K hK => ?_) ?_
                · have t1 : a.tmps.getD 1 undef = .pointer (some ⟨w.heap.size, 0, none⟩) := hl.old 1 (by kernel_rfl)
                  exact held_value (v := .pointer (some ⟨w.heap.size, 9, none⟩)) (w' := W) rfl rfl (by go_simp) (hK _ _ (Below.refl _ _) rfl)
                refine allB_cons (i := 10) rfl (fun a W hl K hK => ?_) ?_
                · have t127 : Is (.pointer (some ⟨w.heap.size, 9, none⟩)) (a.tmps.getD 127 undef) W := hl.at_ 9 127 (by kernel_rfl)
                  unfold Is at t127
                  exact held_value (v := .pointer (some ⟨w.heap.size, 10, none⟩)) (w' := W) rfl rfl (by go_simp) (hK _ _ (Below.refl _ _) rfl)
                refine allB_cons (i := 11) rfl (fun a W hl K hK => ?_) ?_
                · have t128 : Is (.pointer (some ⟨w.heap.size, 10, none⟩)) (a.tmps.getD 128 undef) W := hl.at_ 10 128 (by kernel_rfl)
                  unfold Is at t128
                  have hbD : Blk W (w.heap.size) 26 D := hk8.out.drew.below hl.world hk8.out.drew.lt
                  have cc : W.cell? ⟨w.heap.size, 10, none⟩ = some (.int .i64 am) := (hbD.cell 10).trans hD10.out
                  exact held_value (v := .int .i64 am) (w' := W) rfl rfl (by go_simp) (hK _ _ (Below.refl _ _) rfl)
                refine allB_cons (i := 12) rfl (fun a W hl K hK => ?_) ?_
                · have t129 : Is (.int .i64 am) (a.tmps.getD 129 undef) W := hl.at_ 11 129 (by kernel_rfl)
                  unfold Is at t129
                  simp only [Array.getD_eq_getD_getElem?] at t129
                  exact held_value (v := .agg #[.int .i64 6, .int .i64 0, .string ⟨#[115, 117, 109]⟩, .string ⟨#[]⟩, .int .i64 am, .slice none 0 0]) (w' := W) rfl rfl (by go_simp) (hK _ _ (Below.refl _ _) rfl)
                refine allB_cons (i := 13) rfl (fun a W hl K hK => ?_) ?_
                · have t120 : Is (.agg #[.int .i64 3, .int .i64 0, .string ⟨#[102, 114, 111, 109]⟩, .string fr, .int .i64 0, .slice none 0 0]) (a.tmps.getD 120 undef) W := hl.at_ 2 120 (by kernel_rfl)
                  unfold Is at t120
                  have t121 : Is (.agg #[.int .i64 3, .int .i64 0, .string ⟨#[116, 111]⟩, .string tp, .int .i64 0, .slice none 0 0]) (a.tmps.getD 121 undef) W := hl.at_ 3 121 (by kernel_rfl)
                  unfold Is at t121
                  have t126 : Is (.agg #[.int .i64 3, .int .i64 0, .string ⟨#[99, 117, 114, 114, 101, 110, 99, 121]⟩, .string cu, .int .i64 0, .slice none 0 0]) (a.tmps.getD 126 undef) W := hl.at_ 8 126 (by kernel_rfl)
                  unfold Is at t126
                  have t130 : Is (.agg #[.int .i64 6, .int .i64 0, .string ⟨#[115, 117, 109]⟩, .string ⟨#[]⟩, .int .i64 am, .slice none 0 0]) (a.tmps.getD 130 undef) W := hl.at_ 12 130 (by kernel_rfl)
                  unfold Is at t130
                  simp only [Array.getD_eq_getD_getElem?] at t120 t121 t126 t130
                  exact held_value (v := .slice (some ⟨W.heap.size, 0, none⟩) 4 4) (w' := W.alloc (.cells #[.int .i64 3, .int .i64 0, .string ⟨#[102, 114, 111, 109]⟩, .string fr, .int .i64 0, .slice none 0 0, .int .i64 3, .int .i64 0, .string ⟨#[116, 111]⟩, .string tp, .int .i64 0, .slice none 0 0, .int .i64 3, .int .i64 0, .string ⟨#[99, 117, 114, 114, 101, 110, 99, 121]⟩, .string cu, .int .i64 0, .slice none 0 0, .int .i64 6, .int .i64 0, .string ⟨#[115, 117, 109]⟩, .string ⟨#[]⟩, .int .i64 am, .slice none 0 0] 109)) rfl rfl (by go_simp) (hK _ _ ((Below.refl _ W).alloc (Nat.le_refl _) _) (atoms_lit W [⟨3, ⟨#[102, 114, 111, 109]⟩, fr, 0⟩, ⟨3, ⟨#[116, 111]⟩, tp, 0⟩, ⟨3, ⟨#[99, 117, 114, 114, 101, 110, 99, 121]⟩, cu, 0⟩, ⟨6, ⟨#[115, 117, 109]⟩, ⟨#[]⟩, am⟩] 4 _ rfl (by decide) rfl))
                refine allB_cons (i := 14) rfl (fun a W hl K hK => ?_) ?_
                · have t131 : AtomsV [⟨3, ⟨#[102, 114, 111, 109]⟩, fr, 0⟩, ⟨3, ⟨#[116, 111]⟩, tp, 0⟩, ⟨3, ⟨#[99, 117, 114, 114, 101, 110, 99, 121]⟩, cu, 0⟩, ⟨6, ⟨#[115, 117, 109]⟩, ⟨#[]⟩, am⟩] 4 (a.tmps.getD 131 undef) W := hl.at_ 13 131 (by kernel_rfl)
                  unfold AtomsV at t131
                  obtain ⟨A, c, e1⟩ := own_form t131
                  have h1 := Lib.hid t131
                  clear t131
                  have e2 := e1
                  rw [e1] at h1
                  refine held_call (f := 64) (args := #[.int .i64 3, .slice A 4 c]) (w := W) rfl rfl (by go_simp) ?_
                  refine (rneed_any 3 A 4 c W).mono ?_
                  rintro e w' ⟨rfl, hb⟩
                  exact ⟨_, rfl, hK _ _ hb ⟨A, c, rfl, own_below h1.out hb⟩⟩
                refine allB_cons (i := 15) rfl (fun a W hl K hK => ?_) ?_
                · have t132 : NeedV 3 [⟨3, ⟨#[102, 114, 111, 109]⟩, fr, 0⟩, ⟨3, ⟨#[116, 111]⟩, tp, 0⟩, ⟨3, ⟨#[99, 117, 114, 114, 101, 110, 99, 121]⟩, cu, 0⟩, ⟨6, ⟨#[115, 117, 109]⟩, ⟨#[]⟩, am⟩] 4 (a.tmps.getD 132 undef) W := hl.at_ 14 132 (by kernel_rfl)
                  obtain ⟨A132, c132, e132, h132⟩ := t132
                  have h132' := Lib.hid h132
                  clear h132
                  simp only [Array.getD_eq_getD_getElem?] at e132
                  refine held_value (v := .slice (some ⟨W.heap.size, 0, none⟩) 1 1) (w' := W.alloc (.cells #[.int .i64 3, .int .i64 1, .int .i64 0, .int .i64 0, .string ⟨#[]⟩, .string ⟨#[]⟩, .int .i64 0, .slice A132 4 c132] 111)) rfl rfl (by go_simp) (hK _ _ ((Below.refl _ W).alloc (Nat.le_refl _) _) (needs_lit w.heap.size [⟨3, A132, 4, c132, [⟨3, ⟨#[102, 114, 111, 109]⟩, fr, 0⟩, ⟨3, ⟨#[116, 111]⟩, tp, 0⟩, ⟨3, ⟨#[99, 117, 114, 114, 101, 110, 99, 121]⟩, cu, 0⟩, ⟨6, ⟨#[115, 117, 109]⟩, ⟨#[]⟩, am⟩]⟩] _ (Nat.le_trans hB8.out.size hl.world.size) rfl rfl 1 rfl (by decide) rfl ?_))
                  intro x hx
                  simp only [List.mem_cons, List.not_mem_nil, or_false] at hx
                  subst hx
                  · exact ⟨(Lib.hid rfl).out, h132'.out⟩
                exact allB_nil
              case fin =>
                intro vs W hR hG
                have h1 : vs 1 = .slice n8A 3 n8c := hG 1 (by decide)
                have hM : NeedsV w.heap.size [(3, need3 fr tp cu am)] (vs 15) W := hG 15 (by decide)
                obtain ⟨mA, mc, e2⟩ := hM.slice
                rw [e2] at hM
                have e2' : vs 15 = .slice mA 1 mc := e2
                have hM' := Lib.hid hM
                have hBW : Hid (Below w8.heap.size w8 W) := (Below.refl _ _).drew.trans hR
                have hkW := Lib.hid (hk8.out.below hBW.out hk8.out.lt)
                have hcW := Lib.hid (hc8.out.below hBW.out hc8.out.lt)
                have hzW := Lib.hid (hz8.out.below hBW.out hz8.out.lt)
                have hx5W := Lib.hid (hx58.out.below hBW.out hx58.out.lt)
                have hx6W := Lib.hid (hx68.out.below hBW.out hx68.out.lt)
                have hx7W := Lib.hid (hx78.out.below hBW.out hx78.out.lt)
                have hx8W := Lib.hid (hx88.out.below hBW.out hx88.out.lt)
                have hNW := Lib.hid (mono_NeedsV _ _ _ hN8.out hBW.out)
                have hBx : Hid (Below w.heap.size w W) := hB8.out.trans (hBW.out.mono hB8.out.size)
                clear hG hM hR e2
                simp only [putD, Act.put, List.setIfInBounds_toArray, List.set_cons_zero, List.set_cons_succ, h1, e2']
                refine wpAny_next 16 (by kernel_rfl) ?_
                refine held_needs rfl rfl (.tmp 119) (.tmp 133) rfl w.heap.size ([] ++ [(0, [⟨3, ⟨#[115, 101, 108, 108, 101, 114]⟩, se, 0⟩, ⟨3, ⟨#[98, 117, 121, 101, 114]⟩, bu, 0⟩, ⟨3, ⟨#[99, 117, 114, 114, 101, 110, 99, 121]⟩, cu, 0⟩, ⟨3, ⟨#[115, 117, 109]⟩, SM, 0⟩, ⟨3, ⟨#[102, 114, 111, 109]⟩, fr, 0⟩, ⟨3, ⟨#[116, 111]⟩, tp, 0⟩])] ++ [(1, [⟨3, ⟨#[98, 111, 120, 101, 115]⟩, BN, 0⟩, ⟨3, ⟨#[109, 97, 114, 107, 115]⟩, MK, 0⟩])] ++ [(2, need2 ca se fr tp MK la)]) [(3, need3 fr tp cu am)] (.slice n8A 3 n8c) (.slice mA 1 mc) (by go_simp) (by go_simp) hNW.out hM'.out (by simp) hBx.out.size ?_
                intro v2 W2 hN2 hb2 hbk2
                obtain ⟨n9A, n9c, e3⟩ := hN2.slice
                rw [e3] at hN2 ⊢
                have hN2' := Lib.hid hN2
                have hkX := Lib.hid (hbk2 _ _ _ (by decide) hkW.out)
                have hcX := Lib.hid (hbk2 _ _ _ (by decide) hcW.out)
                have hzX := Lib.hid (hbk2 _ _ _ (by decide) hzW.out)
                have hx5X := Lib.hid (hbk2 _ _ _ (by decide) hx5W.out)
                have hx6X := Lib.hid (hbk2 _ _ _ (by decide) hx6W.out)
                have hx7X := Lib.hid (hbk2 _ _ _ (by decide) hx7W.out)
                have hx8X := Lib.hid (hbk2 _ _ _ (by decide) hx8W.out)
                have hBy : Hid (Below w.heap.size w W2) := hBx.out.trans hb2
                have x17 : W2.cell? ⟨w1.heap.size, 17, none⟩ = some (.slice n8A 3 n8c) := (hcX.out.cell 17).trans (hCR17.out _)
                have xf := hcX.out.frozen
                have xl : w1.heap.size < W2.heap.size := hcX.out.lt
                clear hN2 hbk2 hb2 e3 h1 e2'
                simp only [Act.put, List.getElem_toArray, List.getElem_cons_zero, List.getElem_cons_succ, List.setIfInBounds_toArray, List.set_cons_zero, List.set_cons_succ]
                refine wpAny_next 17 (by kernel_rfl) ?_
                refine held_value (v := .pointer (some ⟨w1.heap.size, 17, none⟩)) (w' := W2) rfl rfl (by go_simp) ?_
                simp only [Act.put, List.getElem_toArray, List.getElem_cons_zero, List.getElem_cons_succ, List.setIfInBounds_toArray, List.set_cons_zero, List.set_cons_succ]
                refine wpAny_next 18 (by kernel_rfl) ?_
                refine held_skip (w' := W2.setCell ⟨w1.heap.size, 17, none⟩ (.slice n9A 4 n9c)) rfl rfl (by go_simp) ?_
                refine wpAny_end (by kernel_rfl) ?_
                simp only [Act.put, List.getElem_toArray, List.getElem_cons_zero, List.getElem_cons_succ]
                have hc9 : Hid (Blk (W2.setCell ⟨w1.heap.size, 17, none⟩ (.slice n9A 4 n9c)) w1.heap.size 52 (CR (.slice n9A 4 n9c))) := by rw [← hCRset.out (.slice n8A 3 n8c)]; exact hcX.out.set_ 17 (.slice n9A 4 n9c)
                have hne : Hid (w.heap.size ≠ w1.heap.size ∧ w.heap.size + 1 ≠ w1.heap.size) := by have := hg12.out; unfold Hid; omega
                have hk9 := Lib.hid (hkX.out.far (p := ⟨w1.heap.size, 17, none⟩) hne.out.1 (.slice n9A 4 n9c))
                have hz9 := Lib.hid (hzX.out.far (p := ⟨w1.heap.size, 17, none⟩) hne.out.2 (.slice n9A 4 n9c))
                have hx59 := Lib.hid (hx5X.out.far (p := ⟨w1.heap.size, 17, none⟩) (blk_apart hx5X.out hcX.out (by decide)) (.slice n9A 4 n9c))
                have hx69 := Lib.hid (hx6X.out.far (p := ⟨w1.heap.size, 17, none⟩) (blk_apart hx6X.out hcX.out (by decide)) (.slice n9A 4 n9c))
                have hx79 := Lib.hid (hx7X.out.far (p := ⟨w1.heap.size, 17, none⟩) (blk_apart hx7X.out hcX.out (by decide)) (.slice n9A 4 n9c))
                have hx89 := Lib.hid (hx8X.out.far (p := ⟨w1.heap.size, 17, none⟩) (blk_apart hx8X.out hcX.out (by decide)) (.slice n9A 4 n9c))
                have hN9 := Lib.hid (hN2'.out.set_ hcX.out (o := 17) (u := .slice n9A 4 n9c))
                have hB9 : Hid (Below w.heap.size w (W2.setCell ⟨w1.heap.size, 17, none⟩ (.slice n9A 4 n9c))) := hBy.out.setCell (p := ⟨w1.heap.size, 17, none⟩) (by have := hg12.out; show w.heap.size ≤ w1.heap.size; omega) _
                obtain ⟨w9, hwx⟩ : ∃ X, Hid (W2.setCell ⟨w1.heap.size, 17, none⟩ (.slice n9A 4 n9c) = X) := ⟨_, rfl⟩
                rw [hwx.out] at hx59 hx69 hx79 hx89 hc9 hk9 hz9 hN9 hB9 ⊢
                clear hwx hx5W hx5X hx58 hx6W hx6X hx68 hx7W hx7X hx78 hx8W hx8X hx88 x17 xf xl hBW hkW hcW hzW hNW hkX hcX hzX hN2' hM' hk8 hc8 hz8 hN8 hB8
                go_wp2_with fail
                refine wp_region_any (by kernel_rfl) ?_
                refine wpAny_body 152 (List.range 13) [13, 14, 15] 13 [(0, some 136), (1, some 137), (2, some 138), (3, some 139), (4, some 140), (5, some 141), (6, some 142), (7, some 143), (8, some 144), (9, some 145), (10, some 146), (11, some 147), (12, some 148)] (Array.replicate 16 false) (Array.replicate 13 true ++ Array.replicate 3 false) (fun a b => Below a.heap.size a b) (fun i => (tyDA w w1 se fr n9A 4 n9c).getD i (fun _ _ => True)) (by kernel_rfl) rfl rfl (Below.refl _ _) (fun _ _ _ h k => h.trans (k.mono h.size)) (fun i v W W' h hb => mono_at (tyDA_mono w w1 se fr n9A 4 n9c) i h hb) ?step ?fin _ rfl
                case step =>
                  refine allB_cons (i := 0) rfl (fun a W hl K hK => ?_) ?_
                  · have t3 : a.tmps.getD 3 undef = .pointer (some ⟨w1.heap.size, 0, none⟩) := hl.old 3 (by kernel_rfl)
                    exact held_value (v := .pointer (some ⟨w1.heap.size, 17, none⟩)) (w' := W) rfl rfl (by go_simp) (hK _ _ (Below.refl _ _) rfl)
                  refine allB_cons (i := 1) rfl (fun a W hl K hK => ?_) ?_
                  · have t136 : Is (.pointer (some ⟨w1.heap.size, 17, none⟩)) (a.tmps.getD 136 undef) W := hl.at_ 0 136 (by kernel_rfl)
                    unfold Is at t136
                    have hbC : Blk W (w1.heap.size) 52 (CR (.slice n9A 4 n9c)) := hc9.out.drew.below hl.world hc9.out.drew.lt
                    have cc : W.cell? ⟨w1.heap.size, 17, none⟩ = some (.slice n9A 4 n9c) := (hbC.cell 17).trans (hCR17.out _)
                    exact held_value (v := .slice n9A 4 n9c) (w' := W) rfl rfl (by go_simp) (hK _ _ (Below.refl _ _) rfl)
                  refine allB_cons (i := 2) rfl (fun a W hl K hK => ?_) ?_
                  · have t1 : a.tmps.getD 1 undef = .pointer (some ⟨w.heap.size, 0, none⟩) := hl.old 1 (by kernel_rfl)
                    exact held_value (v := .pointer (some ⟨w.heap.size, 1, none⟩)) (w' := W) rfl rfl (by go_simp) (hK _ _ (Below.refl _ _) rfl)
                  refine allB_cons (i := 3) rfl (fun a W hl K hK => ?_) ?_
                  · have t138 : Is (.pointer (some ⟨w.heap.size, 1, none⟩)) (a.tmps.getD 138 undef) W := hl.at_ 2 138 (by kernel_rfl)
                    unfold Is at t138
                    have hbD : Blk W (w.heap.size) 26 D := hk9.out.drew.below hl.world hk9.out.drew.lt
                    have cc : W.cell? ⟨w.heap.size, 1, none⟩ = some (.string se) := (hbD.cell 1).trans hD1.out
                    exact held_value (v := .string se) (w' := W) rfl rfl (by go_simp) (hK _ _ (Below.refl _ _) rfl)
                  refine allB_cons (i := 4) rfl (fun a W hl K hK => ?_) ?_
                  · have t139 : Is (.string se) (a.tmps.getD 139 undef) W := hl.at_ 3 139 (by kernel_rfl)
                    unfold Is at t139
                    refine held_call (f := 35) (args := #[.string ⟨#[115, 101, 108, 108, 101, 114]⟩, .string se]) (w := W) rfl rfl (by go_simp) ?_
                    refine (rfield_any ⟨#[115, 101, 108, 108, 101, 114]⟩ se W).mono ?_
                    rintro e w' ⟨rfl, hb⟩
                    exact ⟨_, rfl, hK _ _ hb rfl⟩
                  refine allB_cons (i := 5) rfl (fun a W hl K hK => ?_) ?_
                  · have t140 : Is (.agg #[.string ⟨#[115, 101, 108, 108, 101, 114]⟩, .string se]) (a.tmps.getD 140 undef) W := hl.at_ 4 140 (by kernel_rfl)
                    unfold Is at t140
                    refine held_call (f := 63) (args := #[.agg #[.string ⟨#[115, 101, 108, 108, 101, 114]⟩, .string se]]) (w := W) rfl rfl (by go_simp) ?_
                    refine (ris_any ⟨#[115, 101, 108, 108, 101, 114]⟩ se W).mono ?_
                    rintro e w' ⟨rfl, hb⟩
                    exact ⟨_, rfl, hK _ _ hb rfl⟩
                  refine allB_cons (i := 6) rfl (fun a W hl K hK => ?_) ?_
                  · have t1 : a.tmps.getD 1 undef = .pointer (some ⟨w.heap.size, 0, none⟩) := hl.old 1 (by kernel_rfl)
                    exact held_value (v := .pointer (some ⟨w.heap.size, 7, none⟩)) (w' := W) rfl rfl (by go_simp) (hK _ _ (Below.refl _ _) rfl)
                  refine allB_cons (i := 7) rfl (fun a W hl K hK => ?_) ?_
                  · have t142 : Is (.pointer (some ⟨w.heap.size, 7, none⟩)) (a.tmps.getD 142 undef) W := hl.at_ 6 142 (by kernel_rfl)
                    unfold Is at t142
                    have hbD : Blk W (w.heap.size) 26 D := hk9.out.drew.below hl.world hk9.out.drew.lt
                    have cc : W.cell? ⟨w.heap.size, 7, none⟩ = some (.string fr) := (hbD.cell 7).trans hD7.out
                    exact held_value (v := .string fr) (w' := W) rfl rfl (by go_simp) (hK _ _ (Below.refl _ _) rfl)
                  refine allB_cons (i := 8) rfl (fun a W hl K hK => ?_) ?_
                  · have t143 : Is (.string fr) (a.tmps.getD 143 undef) W := hl.at_ 7 143 (by kernel_rfl)
                    unfold Is at t143
                    refine held_call (f := 35) (args := #[.string ⟨#[99, 111, 117, 110, 116, 114, 121]⟩, .string fr]) (w := W) rfl rfl (by go_simp) ?_
                    refine (rfield_any ⟨#[99, 111, 117, 110, 116, 114, 121]⟩ fr W).mono ?_
                    rintro e w' ⟨rfl, hb⟩
                    exact ⟨_, rfl, hK _ _ hb rfl⟩
                  refine allB_cons (i := 9) rfl (fun a W hl K hK => ?_) ?_
                  · have t144 : Is (.agg #[.string ⟨#[99, 111, 117, 110, 116, 114, 121]⟩, .string fr]) (a.tmps.getD 144 undef) W := hl.at_ 8 144 (by kernel_rfl)
                    unfold Is at t144
                    refine held_call (f := 63) (args := #[.agg #[.string ⟨#[99, 111, 117, 110, 116, 114, 121]⟩, .string fr]]) (w := W) rfl rfl (by go_simp) ?_
                    refine (ris_any ⟨#[99, 111, 117, 110, 116, 114, 121]⟩ fr W).mono ?_
                    rintro e w' ⟨rfl, hb⟩
                    exact ⟨_, rfl, hK _ _ hb rfl⟩
                  refine allB_cons (i := 10) rfl (fun a W hl K hK => ?_) ?_
                  · have t141 : Is (.agg #[.int .i64 3, .int .i64 0, .string ⟨#[115, 101, 108, 108, 101, 114]⟩, .string se, .int .i64 0, .slice none 0 0]) (a.tmps.getD 141 undef) W := hl.at_ 5 141 (by kernel_rfl)
                    unfold Is at t141
                    have t145 : Is (.agg #[.int .i64 3, .int .i64 0, .string ⟨#[99, 111, 117, 110, 116, 114, 121]⟩, .string fr, .int .i64 0, .slice none 0 0]) (a.tmps.getD 145 undef) W := hl.at_ 9 145 (by kernel_rfl)
                    unfold Is at t145
                    simp only [Array.getD_eq_getD_getElem?] at t141 t145
                    exact held_value (v := .slice (some ⟨W.heap.size, 0, none⟩) 2 2) (w' := W.alloc (.cells #[.int .i64 3, .int .i64 0, .string ⟨#[115, 101, 108, 108, 101, 114]⟩, .string se, .int .i64 0, .slice none 0 0, .int .i64 3, .int .i64 0, .string ⟨#[99, 111, 117, 110, 116, 114, 121]⟩, .string fr, .int .i64 0, .slice none 0 0] 109)) rfl rfl (by go_simp) (hK _ _ ((Below.refl _ W).alloc (Nat.le_refl _) _) (atoms_lit W [⟨3, ⟨#[115, 101, 108, 108, 101, 114]⟩, se, 0⟩, ⟨3, ⟨#[99, 111, 117, 110, 116, 114, 121]⟩, fr, 0⟩] 2 _ rfl (by decide) rfl))
                  refine allB_cons (i := 11) rfl (fun a W hl K hK => ?_) ?_
                  · have t146 : AtomsV [⟨3, ⟨#[115, 101, 108, 108, 101, 114]⟩, se, 0⟩, ⟨3, ⟨#[99, 111, 117, 110, 116, 114, 121]⟩, fr, 0⟩] 2 (a.tmps.getD 146 undef) W := hl.at_ 10 146 (by kernel_rfl)
                    unfold AtomsV at t146
                    obtain ⟨A, c, e1⟩ := own_form t146
                    have h1 := Lib.hid t146
                    clear t146
                    have e2 := e1
                    rw [e1] at h1
                    refine held_call (f := 64) (args := #[.int .i64 4, .slice A 2 c]) (w := W) rfl rfl (by go_simp) ?_
                    refine (rneed_any 4 A 2 c W).mono ?_
                    rintro e w' ⟨rfl, hb⟩
                    exact ⟨_, rfl, hK _ _ hb ⟨A, c, rfl, own_below h1.out hb⟩⟩
                  refine allB_cons (i := 12) rfl (fun a W hl K hK => ?_) ?_
                  · have t147 : NeedV 4 [⟨3, ⟨#[115, 101, 108, 108, 101, 114]⟩, se, 0⟩, ⟨3, ⟨#[99, 111, 117, 110, 116, 114, 121]⟩, fr, 0⟩] 2 (a.tmps.getD 147 undef) W := hl.at_ 11 147 (by kernel_rfl)
                    obtain ⟨A147, c147, e147, h147⟩ := t147
                    have h147' := Lib.hid h147
                    clear h147
                    simp only [Array.getD_eq_getD_getElem?] at e147
                    refine held_value (v := .slice (some ⟨W.heap.size, 0, none⟩) 1 1) (w' := W.alloc (.cells #[.int .i64 4, .int .i64 1, .int .i64 0, .int .i64 0, .string ⟨#[]⟩, .string ⟨#[]⟩, .int .i64 0, .slice A147 2 c147] 111)) rfl rfl (by go_simp) (hK _ _ ((Below.refl _ W).alloc (Nat.le_refl _) _) (needs_lit w.heap.size [⟨4, A147, 2, c147, [⟨3, ⟨#[115, 101, 108, 108, 101, 114]⟩, se, 0⟩, ⟨3, ⟨#[99, 111, 117, 110, 116, 114, 121]⟩, fr, 0⟩]⟩] _ (Nat.le_trans hB9.out.size hl.world.size) rfl rfl 1 rfl (by decide) rfl ?_))
                    intro x hx
                    simp only [List.mem_cons, List.not_mem_nil, or_false] at hx
                    subst hx
                    · exact ⟨(Lib.hid rfl).out, h147'.out⟩
                  exact allB_nil
                case fin =>
                  intro vs W hR hG
                  have h1 : vs 1 = .slice n9A 4 n9c := hG 1 (by decide)
                  have hM : NeedsV w.heap.size [(4, [⟨3, ⟨#[115, 101, 108, 108, 101, 114]⟩, se, 0⟩, ⟨3, ⟨#[99, 111, 117, 110, 116, 114, 121]⟩, fr, 0⟩])] (vs 12) W := hG 12 (by decide)
                  obtain ⟨mA, mc, e2⟩ := hM.slice
                  rw [e2] at hM
                  have e2' : vs 12 = .slice mA 1 mc := e2
                  have hM' := Lib.hid hM
                  have hBW : Hid (Below w9.heap.size w9 W) := (Below.refl _ _).drew.trans hR
                  have hkW := Lib.hid (hk9.out.below hBW.out hk9.out.lt)
                  have hcW := Lib.hid (hc9.out.below hBW.out hc9.out.lt)
                  have hzW := Lib.hid (hz9.out.below hBW.out hz9.out.lt)
                  have hx5W := Lib.hid (hx59.out.below hBW.out hx59.out.lt)
                  have hx6W := Lib.hid (hx69.out.below hBW.out hx69.out.lt)
                  have hx7W := Lib.hid (hx79.out.below hBW.out hx79.out.lt)
                  have hx8W := Lib.hid (hx89.out.below hBW.out hx89.out.lt)
                  have hNW := Lib.hid (mono_NeedsV _ _ _ hN9.out hBW.out)
                  have hBx : Hid (Below w.heap.size w W) := hB9.out.trans (hBW.out.mono hB9.out.size)
                  clear hG hM hR e2
                  simp only [putD, Act.put, List.setIfInBounds_toArray, List.set_cons_zero, List.set_cons_succ, h1, e2']
                  refine wpAny_next 13 (by kernel_rfl) ?_
                  refine held_needs rfl rfl (.tmp 137) (.tmp 148) rfl w.heap.size (([] ++ [(0, [⟨3, ⟨#[115, 101, 108, 108, 101, 114]⟩, se, 0⟩, ⟨3, ⟨#[98, 117, 121, 101, 114]⟩, bu, 0⟩, ⟨3, ⟨#[99, 117, 114, 114, 101, 110, 99, 121]⟩, cu, 0⟩, ⟨3, ⟨#[115, 117, 109]⟩, SM, 0⟩, ⟨3, ⟨#[102, 114, 111, 109]⟩, fr, 0⟩, ⟨3, ⟨#[116, 111]⟩, tp, 0⟩])] ++ [(1, [⟨3, ⟨#[98, 111, 120, 101, 115]⟩, BN, 0⟩, ⟨3, ⟨#[109, 97, 114, 107, 115]⟩, MK, 0⟩])] ++ [(2, need2 ca se fr tp MK la)]) ++ [(3, need3 fr tp cu am)]) [(4, [⟨3, ⟨#[115, 101, 108, 108, 101, 114]⟩, se, 0⟩, ⟨3, ⟨#[99, 111, 117, 110, 116, 114, 121]⟩, fr, 0⟩])] (.slice n9A 4 n9c) (.slice mA 1 mc) (by go_simp) (by go_simp) hNW.out hM'.out (by simp) hBx.out.size ?_
                  intro v2 W2 hN2 hb2 hbk2
                  obtain ⟨nZA, nZc, e3⟩ := hN2.slice
                  rw [e3] at hN2 ⊢
                  have hN2' := Lib.hid hN2
                  have hkX := Lib.hid (hbk2 _ _ _ (by decide) hkW.out)
                  have hcX := Lib.hid (hbk2 _ _ _ (by decide) hcW.out)
                  have hzX := Lib.hid (hbk2 _ _ _ (by decide) hzW.out)
                  have hx5X := Lib.hid (hbk2 _ _ _ (by decide) hx5W.out)
                  have hx6X := Lib.hid (hbk2 _ _ _ (by decide) hx6W.out)
                  have hx7X := Lib.hid (hbk2 _ _ _ (by decide) hx7W.out)
                  have hx8X := Lib.hid (hbk2 _ _ _ (by decide) hx8W.out)
                  have hBy : Hid (Below w.heap.size w W2) := hBx.out.trans hb2
                  have x17 : W2.cell? ⟨w1.heap.size, 17, none⟩ = some (.slice n9A 4 n9c) := (hcX.out.cell 17).trans (hCR17.out _)
                  have xf := hcX.out.frozen
                  have xl : w1.heap.size < W2.heap.size := hcX.out.lt
                  clear hN2 hbk2 hb2 e3 h1 e2'
                  simp only [Act.put, List.getElem_toArray, List.getElem_cons_zero, List.getElem_cons_succ, List.setIfInBounds_toArray, List.set_cons_zero, List.set_cons_succ]
                  refine wpAny_next 14 (by kernel_rfl) ?_
                  refine held_value (v := .pointer (some ⟨w1.heap.size, 17, none⟩)) (w' := W2) rfl rfl (by go_simp) ?_
                  simp only [Act.put, List.getElem_toArray, List.getElem_cons_zero, List.getElem_cons_succ, List.setIfInBounds_toArray, List.set_cons_zero, List.set_cons_succ]
                  refine wpAny_next 15 (by kernel_rfl) ?_
                  refine held_skip (w' := W2.setCell ⟨w1.heap.size, 17, none⟩ (.slice nZA 5 nZc)) rfl rfl (by go_simp) ?_
                  refine wpAny_end (by kernel_rfl) ?_
                  simp only [Act.put, List.getElem_toArray, List.getElem_cons_zero, List.getElem_cons_succ]
                  have hcZ : Hid (Blk (W2.setCell ⟨w1.heap.size, 17, none⟩ (.slice nZA 5 nZc)) w1.heap.size 52 (CR (.slice nZA 5 nZc))) := by rw [← hCRset.out (.slice n9A 4 n9c)]; exact hcX.out.set_ 17 (.slice nZA 5 nZc)
                  have hne : Hid (w.heap.size ≠ w1.heap.size ∧ w.heap.size + 1 ≠ w1.heap.size) := by have := hg12.out; unfold Hid; omega
                  have hkZ := Lib.hid (hkX.out.far (p := ⟨w1.heap.size, 17, none⟩) hne.out.1 (.slice nZA 5 nZc))
                  have hzZ := Lib.hid (hzX.out.far (p := ⟨w1.heap.size, 17, none⟩) hne.out.2 (.slice nZA 5 nZc))
                  have hx5Z := Lib.hid (hx5X.out.far (p := ⟨w1.heap.size, 17, none⟩) (blk_apart hx5X.out hcX.out (by decide)) (.slice nZA 5 nZc))
                  have hx6Z := Lib.hid (hx6X.out.far (p := ⟨w1.heap.size, 17, none⟩) (blk_apart hx6X.out hcX.out (by decide)) (.slice nZA 5 nZc))
                  have hx7Z := Lib.hid (hx7X.out.far (p := ⟨w1.heap.size, 17, none⟩) (blk_apart hx7X.out hcX.out (by decide)) (.slice nZA 5 nZc))
                  have hx8Z := Lib.hid (hx8X.out.far (p := ⟨w1.heap.size, 17, none⟩) (blk_apart hx8X.out hcX.out (by decide)) (.slice nZA 5 nZc))
                  have hNZ := Lib.hid (hN2'.out.set_ hcX.out (o := 17) (u := .slice nZA 5 nZc))
                  have hBZ : Hid (Below w.heap.size w (W2.setCell ⟨w1.heap.size, 17, none⟩ (.slice nZA 5 nZc))) := hBy.out.setCell (p := ⟨w1.heap.size, 17, none⟩) (by have := hg12.out; show w.heap.size ≤ w1.heap.size; omega) _
                  obtain ⟨wZ, hwx⟩ : ∃ X, Hid (W2.setCell ⟨w1.heap.size, 17, none⟩ (.slice nZA 5 nZc) = X) := ⟨_, rfl⟩
                  rw [hwx.out] at hx5Z hx6Z hx7Z hx8Z hcZ hkZ hzZ hNZ hBZ ⊢
                  clear hwx hx5W hx5X hx59 hx6W hx6X hx69 hx7W hx7X hx79 hx8W hx8X hx89 x17 xf xl hBW hkW hcW hzW hNW hkX hcX hzX hN2' hM' hk9 hc9 hz9 hN9 hB9
                  have hCs : Hid ((CR (.slice nZA 5 nZc)).size = 18) := hCRs.out _
                  have hC1 : Hid ((CR (.slice nZA 5 nZc)).all (·.oneCell') = true) := by rw [← hCR.out]; unfold Hid; simp [crC, Value.oneCell']
                  go_wp2_with (first | (refine wpList_get_blk rfl 52 _ rfl w1.heap.size (CR (.slice nZA 5 nZc)) 52 _ rfl hcZ.out Tryz.underlying52 rfl (by rw [hCs.out]; kernel_rfl) ?_) | (refine wpList_put_blk rfl 52 _ _ rfl (w.heap.size + 1) zeroC (CR (.slice nZA 5 nZc)) 52 rfl rfl hzZ.out (by rw [hCs.out]; rfl) (by rw [hCs.out]; kernel_rfl) hC1.out ?_; intro w9 hz9 hu9))
                  refine bodyPost_ret (results_row rfl _ _ (w.heap.size + 1) 52 _ _ rfl hz9 Tryz.underlying52 rfl (by rw [hCs.out]; kernel_rfl)) rfl ?_
                  refine ⟨.slice nZA 5 nZc, by rw [hCR.out], ?_, hBZ.out.trans (hu9.to_below (Below.refl _ _) (by omega) (by have := hBZ.out.size; have := hs1.out; have := hB1.out.size; first | omega | exact Nat.le_refl _))⟩
                  have hfin := hNZ.out.but hu9 hzZ.out
                  rw [hneeds.out]
                  exact hfin
end Go.Proofs.YtnmnknkdnjkpjaaGreatDoor

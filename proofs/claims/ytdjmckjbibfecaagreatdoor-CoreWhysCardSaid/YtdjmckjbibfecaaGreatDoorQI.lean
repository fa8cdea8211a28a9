import Derived.Deep.MidRow
import Derived.Test.YtdjmckjbibfecaaGreatDoorQE
import Derived.Test.YtdjmckjbibfecaaGreatDoorQShelf
namespace Go.Proofs.YtdjmckjbibfecaaGreatDoor.Sh
open Go Go.RowKit Go.BigFrame Go.Maps
set_option maxRecDepth 100000
set_option maxHeartbeats 1600000
def runeP (r:Nat):Bool:=decide ((r:Int)<48)||decide (57<(r:Int))
theorem rune_pred (w:World):PredAt Tryz.prog 256 #[] encR runeP w:=fun W r _=>by
 unfold FnGives runeP encR
 cases h1:decide ((r:Int)<48)<;>cases h2:decide (57<(r:Int))
 all_goals
  go_enter Tryz.func256,Tryz.ntmps256
  go_wp2_with fail
  go_ret
  exact ⟨retBl (by simp),0,rfl⟩
theorem small_ascii:∀c:UInt8,smallB c=true->c.toNat<128 :=
 byte_all (P:=fun c=>smallB c=true->c.toNat<128) (by decide)
theorem rune_digit:∀c:UInt8,smallB c=true->runeP c.toNat=!digitB c :=
 byte_all (P:=fun c=>smallB c=true->runeP c.toNat=!digitB c) (by decide)
theorem idx_run {s:ByteArray}:∀(f k:Nat),s.size-k<=f->(s.data.toList.drop k).all smallB=true->(Lib.idxFuncFrom runeP true s f k<0 ↔ (s.data.toList.drop k).all digitB=true)
 | 0,k,h,hs=>by
  have hl:s.data.toList.length=s.size:=by simp
  have:s.data.toList.drop k=[]:=List.drop_eq_nil_of_le (by omega)
  rw [this,Lib.idxFuncFrom];simp
 | f+1,k,h,hs=>by
  by_cases hk:k<s.size
  ·rw [drop_byte hk,List.all_cons,Bool.and_eq_true] at hs
   have hd:=decode_ascii s k hk (small_ascii _ hs.1)
   have hr:=rune_digit _ hs.1
   rw [Lib.idxFuncFrom,if_pos hk,hd,drop_byte hk,List.all_cons]
   simp only
   rw [hr]
   cases hb:digitB s[k] with
   | true =>
    rw [if_neg (by simp),Bool.true_and]
    exact idx_run f (k+1) (by omega) hs.2
   | false =>
    rw [if_pos (by simp)]
    simp
  ·rw [Lib.idxFuncFrom_end _ _ _ _ _ hk]
   have hl:s.data.toList.length=s.size:=by simp
   have:s.data.toList.drop k=[]:=List.drop_eq_nil_of_le (by omega)
   rw [this];simp
theorem idx_all {s:ByteArray} (hs:s.data.toList.all smallB=true):(Lib.idxFunc runeP true s<0 ↔ s.data.toList.all digitB=true):=by
 have:=idx_run (s:=s) s.size 0 (by omega) (by simpa using hs)
 simpa [Lib.idxFunc] using this
def wordsA:Array Value:=(wordsL.map fun t=>Value.string ⟨t.toArray⟩).toArray
def papersA:Array Value:=(papersL.map fun t=>Value.string ⟨t.toArray⟩).toArray
theorem any_step {l:List Txt} {k:Nat} {x t:Txt} {r:Bool} (h:r=(l.drop k).contains t) (hx:l[k]?=some x):r=(x==t||(l.drop (k+1)).contains t):=by
 obtain ⟨hk,he⟩:=gsZ.1 hx
 rw [h,List.drop_eq_getElem_cons hk,he,List.contains_cons]
 congr 1
 rw [Bool.eq_iff_iff,beq_iff_eq,beq_iff_eq];exact eq_comm
structure Env (w:World):Prop where
 tab : Lib.TabIs Tryz.prog w "internal/strconv.uint64pow10" .u64 Lib.pow10Tab
 most:∃m,w.cell? ⟨5,0,none⟩=some (.int .i64 m)
 papers:∀n,n<6->w.cell? ⟨4,n,none⟩=papersA[n]?
 words:∀n,n<35->w.cell? ⟨11,n,none⟩=wordsA[n]?
 size:12<=w.heap.size
theorem Env.below {w w':World} (h:Env w) (hb:Bz w w'):Env w':=by
 have hs:=h.size
 have hc:∀b n,b<12->w'.cell? ⟨b,n,none⟩=w.cell? ⟨b,n,none⟩:=fun b n hn=>hb.cell (by show b<w.heap.size;omega)
 refine ⟨var?_below hb (g:=8) (by kernel_rfl) (by omega) h.tab,?_,fun n hn=>?_,fun n hn=>?_,Nat.le_trans hs hb.size⟩
 ·obtain ⟨m,hm⟩:=h.most
  exact ⟨m,by rw [hc _ _ (by omega)];exact hm⟩
 ·rw [hc _ _ (by omega)];exact h.papers n hn
 ·rw [hc _ _ (by omega)];exact h.words n hn
theorem words_len:wordsL.length=35:=rfl
theorem index173 (k:Nat) (hk:k<35) (w:World):(Instr.index 260 (.agg wordsA) (.int .i64 k)).run Tryz.prog w=.ok (.string ⟨(wordsL.getD k []).toArray⟩) w:=by
 obtain rfl | rfl | rfl | rfl | rfl | rfl | rfl | rfl | rfl | rfl | rfl | rfl | rfl | rfl | rfl | rfl | rfl | rfl | rfl | rfl | rfl | rfl | rfl | rfl | rfl | rfl | rfl | rfl | rfl | rfl | rfl | rfl | rfl | rfl | rfl:k=0\/k=1\/k=2\/k=3\/k=4\/k=5\/k=6\/k=7\/k=8\/k=9\/k=10\/k=11\/k=12\/k=13\/k=14\/k=15\/k=16\/k=17\/k=18\/k=19\/k=20\/k=21\/k=22\/k=23\/k=24\/k=25\/k=26\/k=27\/k=28\/k=29\/k=30\/k=31\/k=32\/k=33\/k=34:=by omega
 all_goals kernel_rfl
theorem reserved_any (s:ByteArray) (w:World) (he:Hid (Env w)) :
  Calls Tryz.prog 258 #[.string s] w fun e w'=>e=.returned (.bool (wordsL.contains s.data.toList))/\w=w':=by
 have hW:=fun n hn=>he.out.words n hn
 have hsz:Hid (wordsA.size=35):=rfl
 have hget:Hid (∀(k:Nat) (x:Txt) (W:World),wordsL[k]?=some x->(Instr.index 260 (.agg wordsA) (.int .i64 k)).run Tryz.prog W=.ok (.string ⟨x.toArray⟩) W):=fun k x W h=>by
  have hk:k<35:=by have:=(gsZ.1 h).1;rw [words_len] at this;exact this
  rw [index173 k hk,List.getD_eq_getElem?_getD,h];rfl
 obtain ⟨WA,hWA⟩:=nmZ (wordsA)
 rw [hWA.out] at hW hsz hget
 have hrg:Hid (w.rangeAt 11 0 WA.toList):=fun j v hv=>by
  have hj:j<35:=by
   have:=(gsZ.1 hv).1
   rw [Array.length_toList,hsz.out] at this;exact this
  rw [Nat.zero_add,hW j hj]
  simpa using hv
 have hin:Hid ((Tryz.prog.info? 260).map (·.size)=some WA.toList.length):=by unfold Hid;rw [Array.length_toList,hsz.out];kernel_rfl
 clear hW hWA
 go_enter Tryz.func258,Tryz.ntmps258
 go_wp2_with (refine wpList_load_mid rfl 260 (.global 11) rfl 11 0 rfl WA.toList _ hrg.out Tryz.underlying260 rfl hin.out ?_)
 rw [Array.toArray_toList]
 go_loopg [4,6] 35 (fun gg _ i wr=>∃k:Nat,k<=35/\gg=35-k/\i=.int .i64 k/\w=wr/\Hid (wordsL.contains s.data.toList=(wordsL.drop k).contains s.data.toList))
 case atStart=>exact ⟨0,by omega,rfl,rfl,rfl,rfl⟩
 case round =>
  obtain ⟨k,hk,hg,rfl,rfl,hs⟩:=hrel
  have hg':=hdZ hg
  clear hg
  by_cases hlt:k<35
  ·obtain ⟨x,hx⟩:∃x,wordsL[k]?=some x:=⟨_,gZ (by rw [words_len];omega)⟩
   have hst:=hdZ (any_step hs.out hx)
   have hgk:=hget.out k x w hx
   clear hx
   have i1:(k:Int)<35:=by omega
   have i2:(0:Int)<=(k:Int):=by omega
   have hst0:s.toList=s.data.toList:=by simp [ByteArray.toList_eq]
   by_cases heq:x=s.data.toList
   ·have hq:(x==s.toList)=true:=by rw [hst0];simp [heq]
    have hr:Hid (wordsL.contains s.data.toList=true):=by unfold Hid;rw [hst.out];simp [heq]
    clear heq hst0
    go_wp2_with fail
    go_ret
    exact ⟨by rw [hr.out];first | done | rfl,rfl⟩
   ·have hq:(x==s.toList)=false:=by rw [hst0];simp [heq]
    have hr:Hid (wordsL.contains s.data.toList=(wordsL.drop (k+1)).contains s.data.toList):=by unfold Hid;rw [hst.out];simp [heq]
    clear heq hst0
    go_wp2_with fail
    go_roundg (35-(k+1))
    case measure=>have:=hg'.out;omega
    case rel=>exact ⟨k+1,by omega,rfl,by go_num,rfl,hr⟩
  ·have hr:Hid (wordsL.contains s.data.toList=false):=by unfold Hid;rw [hs.out,List.drop_eq_nil_of_le (by rw [words_len];omega)];rfl
   go_wp2_with fail
   go_ret
   exact ⟨by rw [hr.out];first | done | rfl,rfl⟩
def letterB (c:UInt8):Bool:=decide (97<=(c.toNat:Int))&&decide ((c.toNat:Int)<=122)
def numB (c:UInt8):Bool:=decide (48<=(c.toNat:Int))&&decide ((c.toNat:Int)<=57)
theorem isLetter_any (c:UInt8) (w:World):Calls Tryz.prog 224 #[.int .u8 c.toNat] w fun e w'=>e=.returned (.bool (letterB c))/\w=w':=by
 unfold letterB
 cases h1:decide (97<=(c.toNat:Int))<;>cases h2:decide ((c.toNat:Int)<=122)
 all_goals
  go_enter Tryz.func224,Tryz.ntmps224
  go_wp2_with fail
  go_ret
  exact ⟨retBl (by simp),rfl⟩
theorem isNum_any (c:UInt8) (w:World):Calls Tryz.prog 225 #[.int .u8 c.toNat] w fun e w'=>e=.returned (.bool (numB c))/\w=w':=by
 unfold numB
 cases h1:decide (48<=(c.toNat:Int))<;>cases h2:decide ((c.toNat:Int)<=57)
 all_goals
  go_enter Tryz.func225,Tryz.ntmps225
  go_wp2_with fail
  go_ret
  exact ⟨retBl (by simp),rfl⟩
theorem small_parts (c:UInt8):smallB c=(letterB c||numB c||!((c.toNat:Int) != 45)):=by
 rw [small_eq,digit_eq]
 unfold letterB numB
 rw [show (!((c.toNat:Int) != 45))=((c.toNat:Int)==45) by simp [bne]]
def markB (s:Txt):Bool:=decide (1<=s.length)&&decide (s.length<=16)&&s.all smallB
theorem mark_run {s:ByteArray} {k:Nat} {r:Bool} (hk:k<s.size) (h:r=(s.data.toList.drop k).all smallB):r=(smallB s[k]&&(s.data.toList.drop (k+1)).all smallB):=by
 rw [h,drop_byte hk,List.all_cons]
theorem markName_any (s:ByteArray) (w:World) (hs:s.size<=maxLen):Calls Tryz.prog 203 #[.string s] w fun e w'=>e=.returned (.bool (markB s.data.toList))/\w=w':=by
 unfold maxLen at hs
 have hln:s.data.toList.length=s.size:=by simp
 by_cases h1:s.size<1
 ·have hr:Hid (markB s.data.toList=false):=by unfold Hid markB;rw [hln];simp;omega
  have b1:decide ((s.size:Int)<1)=true:=by simp;omega
  clear h1
  go_enter Tryz.func203,Tryz.ntmps203
  go_wp2_with fail
  go_ret
  exact ⟨by rw [hr.out];first | done | rfl,rfl⟩
 ·have b1:decide ((s.size:Int)<1)=false:=by simp;omega
  by_cases h2:16<s.size
  ·have hr:Hid (markB s.data.toList=false):=by unfold Hid markB;rw [hln];simp;omega
   have b2:decide (16<(s.size:Int))=true:=by simp;omega
   clear h1 h2
   go_enter Tryz.func203,Tryz.ntmps203
   go_wp2_with fail
   go_ret
   exact ⟨by rw [hr.out];first | done | rfl,rfl⟩
  ·have b2:decide (16<(s.size:Int))=false:=by simp;omega
   have hm:Hid (markB s.data.toList=s.data.toList.all smallB):=by unfold Hid markB;rw [hln];simp;omega
   rw [hm.out]
   clear h1 hm hln
   go_enter Tryz.func203,Tryz.ntmps203
   go_wp2_with fail
   go_loopg [3,14] s.size (fun gg _ i wr=>∃k:Nat,k<=s.size/\gg=s.size-k/\i=.int .i64 k/\w=wr/\Hid (s.data.toList.all smallB=(s.data.toList.drop k).all smallB))
   case atStart=>exact ⟨0,Nat.zero_le _,by simp,rfl,rfl,rfl⟩
   case round =>
    obtain ⟨k,hk,hg,rfl,rfl,hall⟩:=hrel
    have hg':=hdZ hg
    clear hg
    by_cases hlt:k<s.size
    ·have hst:=hdZ (mark_run hlt hall.out)
     rw [small_parts] at hst
     have i1:(k:Int)<(s.size:Int):=by omega
     have i2:(0:Int)<=(k:Int):=by omega
     obtain ⟨lb,hlb⟩:=nmZ (letterB s[k])
     obtain ⟨nb,hnb⟩:=nmZ (numB s[k])
     obtain ⟨sb,hsb⟩:=nmZ (((s[k].toNat:Int) != 45))
     rw [hlb.out,hnb.out,hsb.out] at hst
     have hq:=hsb.out
     cases lb<;>cases nb<;>cases sb
     all_goals
      go_wp2_with (first | (go_at_call 224;refine (isLetter_any _ _).mono ?_;rintro e w' ⟨rfl,rfl⟩;rw [hlb.out]) | (go_at_call 225;refine (isNum_any _ _).mono ?_;rintro e w' ⟨rfl,rfl⟩;rw [hnb.out]))
      first
       | (go_roundg (s.size - (k + 1))
          case measure=>have:=hg'.out;omega
          case rel=>exact ⟨k+1,by omega,rfl,by go_num,rfl,by rw [hst.out];first | rfl | simp⟩)
       | (go_ret
          exact ⟨by rw [hst.out];rfl,rfl⟩)
    ·have hr:Hid (s.data.toList.all smallB=true):=by unfold Hid;rw [hall.out,List.drop_eq_nil_of_le (by simp;omega)];rfl
     go_wp2_with fail
     go_ret
     exact ⟨by rw [hr.out];first | done | rfl,rfl⟩
def boundM (t:Txt):Int:=if 1<t.length/\t.head?=some 48 then 2 else if mostN<numV t then 3 else 0
theorem numV_snoc (t:Txt) (c:UInt8):numV (t++[c])=10*numV t+(c.toNat-48):=by unfold numV;rw [List.foldl_append];rfl
theorem numV_mono (t u:Txt):numV t<=numV (t++u):=by
 induction u generalizing t with
 | nil=>simp
 | cons c u ih =>
  rw [show t++c::u=(t++[c])++u by simp]
  refine Nat.le_trans ?_ (ih (t++[c]))
  rw [numV_snoc];omega
theorem take_byte {s:ByteArray} {k:Nat} (h:k<s.size):s.data.toList.take (k+1)=s.data.toList.take k++[s[k]]:=by
 have hk:k<s.data.toList.length:=by simpa using h
 rw [List.take_succ_eq_append_getElem hk];rfl
theorem digit_range {c:UInt8} (h:digitB c=true):48<=c.toNat/\c.toNat<=57:=by
 rw [digit_eq] at h
 simp only [Bool.and_eq_true,decide_eq_true_eq] at h
 omega
theorem head_byte {s:ByteArray} (h:0<s.size):s.data.toList.head?=some s[0]:=by
 have:=drop_byte (s:=s) (k:=0) h
 rw [List.drop_zero] at this
 rw [this];rfl
theorem bounded_any (s:ByteArray) (w:World) (hs:s.size<=maxLen) (hd:Hid (s.data.toList.all digitB=true)):Calls Tryz.prog 257 #[.string s] w fun e w'=>e=.returned (.int .i64 (boundM s.data.toList))/\w=w':=by
 unfold maxLen at hs
 have hln:s.data.toList.length=s.size:=by simp
 have hdig:Hid (∀k (h:k<s.size),48<=s[k].toNat/\s[k].toNat<=57):=fun k h=>by
  have hk:k<s.data.toList.length:=by rw [hln];exact h
  exact digit_range (List.all_eq_true.1 hd.out _ (List.getElem_mem hk))
 have hn3:Hid (mostN<numV s.data.toList->¬(1<s.size/\s.data.toList.head?=some 48)->boundM s.data.toList=3):=fun h1 h2=>by
  unfold boundM;rw [if_neg (by rw [hln];exact h2),if_pos h1]
 have hn0:Hid (¬mostN<numV s.data.toList->¬(1<s.size/\s.data.toList.head?=some 48)->boundM s.data.toList=0):=fun h1 h2=>by
  unfold boundM;rw [if_neg (by rw [hln];exact h2),if_neg h1]
 have hn2:Hid ((1<s.size/\s.data.toList.head?=some 48)->boundM s.data.toList=2):=fun h2=>by
  unfold boundM;rw [if_pos (by rw [hln];exact h2)]
 have hgo:Hid (¬(1<s.size/\s.data.toList.head?=some 48))->(1<s.size->∃h:0<s.size,((s[0].toNat:Int)==48)=false):=fun h h1=>by
  refine ⟨by omega,?_⟩
  have:=h.out
  rw [head_byte (by omega)] at this
  simp only [beq_eq_false_iff_ne,ne_eq]
  intro e
  exact this ⟨h1,by rw [show s[0]=48 from UInt8.toNat_inj.1 (by simpa using (by omega:s[0].toNat=48))]⟩
 by_cases hz:1<s.size/\s.data.toList.head?=some 48
 ·have hr:=hdZ (hn2.out hz)
  obtain ⟨hz1,hz2⟩:=hz
  have h0:0<s.size:=by omega
  rw [head_byte h0] at hz2
  have b1:decide (1<(s.size:Int))=true:=by simp;omega
  have b2:((s[0].toNat:Int)==48)=true:=by rw [Option.some.inj hz2];rfl
  clear hz2 hgo hdig
  go_enter Tryz.func257,Tryz.ntmps257
  go_wp2_with fail
  go_ret
  exact ⟨by rw [hr.out];first | done | rfl,rfl⟩
 ·have hzz:=hdZ hz
  have h3:=hdZ (fun h=>hn3.out h hzz.out)
  have h0:=hdZ (fun h=>hn0.out h hzz.out)
  have hg:=hgo hzz
  clear hz hn3 hn0 hn2 hgo hln
  have key:∀(b:Bool),decide (1<(s.size:Int))=b->(b=true->∃h:0<s.size,((s[0].toNat:Int)==48)=false)->Calls Tryz.prog 257 #[.string s] w fun e w'=>e=.returned (.int .i64 (boundM s.data.toList))/\w=w':=by
   intro b b1 hb2
   cases b
   ·clear hb2
    go_enter Tryz.func257,Tryz.ntmps257
    go_wp2_with fail
    go_loopg [3,4,15] s.size (fun gg n _ i wr=>∃k:Nat,k<=s.size/\gg=s.size-k/\i=.int .i64 k/\n=.int .i64 (numV (s.data.toList.take k):Nat)/\numV (s.data.toList.take k)<=1099511627776/\w=wr)
    case atStart=>exact ⟨0,Nat.zero_le _,by simp,rfl,rfl,by simp [numV],rfl⟩
    case round =>
     obtain ⟨k,hk,hgk,rfl,rfl,hnk,rfl⟩:=hrel
     have hgk':=hdZ hgk
     clear hgk
     by_cases hlt:k<s.size
     ·have hst:Hid (numV (s.data.toList.take (k+1))=10*numV (s.data.toList.take k)+(s[k].toNat-48)):=by unfold Hid;rw [take_byte hlt,numV_snoc]
      have hmo:Hid (numV (s.data.toList.take (k+1))<=numV s.data.toList):=by
       have:=numV_mono (s.data.toList.take (k+1)) (s.data.toList.drop (k+1))
       rwa [List.take_append_drop] at this
      obtain ⟨d0,d1⟩:=hdig.out k hlt
      obtain ⟨n,hn⟩:=nmZ (numV (s.data.toList.take k))
      obtain ⟨n2,hn2⟩:=nmZ (numV (s.data.toList.take (k+1)))
      rw [hn.out] at hnk hst ⊢
      rw [hn2.out] at hst hmo
      have hst':=hst.out
      have i1:(k:Int)<(s.size:Int):=by omega
      have i2:(0:Int)<=(k:Int):=by omega
      have w1:IntKind.u8.wrap ((s[k].toNat:Int)-48)=(s[k].toNat:Int)-48:=IntWalk.u8_in _ (by omega)
      have w2:IntKind.i64.wrap ((n:Int)*10)=(n:Int)*10:=IntWalk.i64_in _ (by omega)
      have w3:IntKind.i64.wrap ((n:Int)*10+((s[k].toNat:Int)-48))=(n2:Int):=by rw [IntWalk.i64_in _ (by omega)];omega
      have w4:IntKind.i64.wrap ((s[k].toNat:Int)-48)=(s[k].toNat:Int)-48:=IntWalk.i64_in _ (by omega)
      by_cases hgt:1099511627776<n2
      ·have hr:=hdZ (h3.out (by unfold mostN;have:=hmo.out;omega))
       have b3:decide (1099511627776<(n2:Int))=true:=by simp;omega
       go_wp2_with fail
       go_ret
       exact ⟨by rw [hr.out];first | done | rfl,rfl⟩
      ·have b3:decide (1099511627776<(n2:Int))=false:=by simp;omega
       go_wp2_with fail
       go_roundg (s.size-(k+1))
       case measure=>have:=hgk'.out;omega
       case rel=>exact ⟨k+1,by omega,rfl,by go_num,by rw [hn2.out];first | done | (congr 1;omega),by rw [hn2.out];omega,rfl⟩
     ·have hfin:Hid (s.data.toList.take k=s.data.toList):=List.take_of_length_le (by simp;omega)
      rw [hfin.out] at hnk
      have hr:=hdZ (h0.out (by unfold mostN;omega))
      go_wp2_with fail
      go_ret
      exact ⟨by rw [hr.out];first | done | rfl,rfl⟩
   ·obtain ⟨h00,b2⟩:=hb2 rfl
    clear hb2
    go_enter Tryz.func257,Tryz.ntmps257
    go_wp2_with fail
    go_loopg [3,4,15] s.size (fun gg n _ i wr=>∃k:Nat,k<=s.size/\gg=s.size-k/\i=.int .i64 k/\n=.int .i64 (numV (s.data.toList.take k):Nat)/\numV (s.data.toList.take k)<=1099511627776/\w=wr)
    case atStart=>exact ⟨0,Nat.zero_le _,by simp,rfl,rfl,by simp [numV],rfl⟩
    case round =>
     obtain ⟨k,hk,hgk,rfl,rfl,hnk,rfl⟩:=hrel
     have hgk':=hdZ hgk
     clear hgk
     by_cases hlt:k<s.size
     ·have hst:Hid (numV (s.data.toList.take (k+1))=10*numV (s.data.toList.take k)+(s[k].toNat-48)):=by unfold Hid;rw [take_byte hlt,numV_snoc]
      have hmo:Hid (numV (s.data.toList.take (k+1))<=numV s.data.toList):=by
       have:=numV_mono (s.data.toList.take (k+1)) (s.data.toList.drop (k+1))
       rwa [List.take_append_drop] at this
      obtain ⟨d0,d1⟩:=hdig.out k hlt
      obtain ⟨n,hn⟩:=nmZ (numV (s.data.toList.take k))
      obtain ⟨n2,hn2⟩:=nmZ (numV (s.data.toList.take (k+1)))
      rw [hn.out] at hnk hst ⊢
      rw [hn2.out] at hst hmo
      have hst':=hst.out
      have i1:(k:Int)<(s.size:Int):=by omega
      have i2:(0:Int)<=(k:Int):=by omega
      have w1:IntKind.u8.wrap ((s[k].toNat:Int)-48)=(s[k].toNat:Int)-48:=IntWalk.u8_in _ (by omega)
      have w2:IntKind.i64.wrap ((n:Int)*10)=(n:Int)*10:=IntWalk.i64_in _ (by omega)
      have w3:IntKind.i64.wrap ((n:Int)*10+((s[k].toNat:Int)-48))=(n2:Int):=by rw [IntWalk.i64_in _ (by omega)];omega
      have w4:IntKind.i64.wrap ((s[k].toNat:Int)-48)=(s[k].toNat:Int)-48:=IntWalk.i64_in _ (by omega)
      by_cases hgt:1099511627776<n2
      ·have hr:=hdZ (h3.out (by unfold mostN;have:=hmo.out;omega))
       have b3:decide (1099511627776<(n2:Int))=true:=by simp;omega
       go_wp2_with fail
       go_ret
       exact ⟨by rw [hr.out];first | done | rfl,rfl⟩
      ·have b3:decide (1099511627776<(n2:Int))=false:=by simp;omega
       go_wp2_with fail
       go_roundg (s.size-(k+1))
       case measure=>have:=hgk'.out;omega
       case rel=>exact ⟨k+1,by omega,rfl,by go_num,by rw [hn2.out];first | done | (congr 1;omega),by rw [hn2.out];omega,rfl⟩
     ·have hfin:Hid (s.data.toList.take k=s.data.toList):=List.take_of_length_le (by simp;omega)
      rw [hfin.out] at hnk
      have hr:=hdZ (h0.out (by unfold mostN;omega))
      go_wp2_with fail
      go_ret
      exact ⟨by rw [hr.out];first | done | rfl,rfl⟩
  by_cases h1:1<s.size
  ·exact key true (by simp;omega) (fun _=>hg h1)
  ·exact key false (by simp;omega) (fun h=>by cases h)
theorem rank_digits {t:Txt} (h:t.all digitB=true):rankM t=(2,boundM t):=by unfold rankM boundM;rw [if_pos h]
theorem rank_word {t:Txt} (h:t.all digitB=false) (h2:wordsL.contains t=true):rankM t=(0,0):=by unfold rankM;rw [if_neg (by rw [h];simp),if_pos h2]
theorem rank_name {t:Txt} (h:t.all digitB=false) (h2:wordsL.contains t=false):rankM t=(1,if t.length<=16 then 0 else 2):=by unfold rankM;rw [if_neg (by rw [h];simp),if_neg (by rw [h2];simp)]
theorem ranked_any (s:ByteArray) (w:World) (hs:s.size<=maxLen) (h1:1<=s.size) (hd:Hid (s.data.toList.all smallB=true)) (he:Hid (Env w)) :
  Calls Tryz.prog 243 #[.string s] w fun e w'=>e=.returned (.tuple #[.int .i64 (rankM s.data.toList).1,.int .i64 (rankM s.data.toList).2])/\Bz w w':=by
 have hs':=hdZ hs
 clear hs
 have hidx:=idx_all hd.out
 have hf:=hdZ (Tryz.strings_IndexFunc 256 #[] (enters_of Tryz.func256 (by kernel_rfl) rfl) runeP s w (rune_pred w))
 obtain ⟨ix,hix⟩:=nmZ (Lib.idxFunc runeP true s)
 rw [hix.out] at hidx hf
 have hln:s.data.toList.length=s.size:=by simp
 cases hb:s.data.toList.all digitB with
 | true =>
  have hr:=hdZ (rank_digits hb)
  have b1:decide (ix<0)=true:=by simp;exact hidx.2 hb
  have hb':=hdZ hb
  clear hidx hb
  go_enter Tryz.func243,Tryz.ntmps243
  go_wp2_with fail
  refine hf.out.mono ?_
  rintro e w1 ⟨rfl,hb1⟩
  go_wp2_with fail
  refine (bounded_any s w1 hs'.out hb').mono ?_
  rintro e w2 ⟨rfl,rfl⟩
  go_wp2_with fail
  go_ret2
  exact ⟨by rw [hr.out];rfl,hb1⟩
 | false =>
  have b1:decide (ix<0)=false:=by
   simp only [decide_eq_false_iff_not]
   intro h;rw [hidx.1 h] at hb;cases hb
  cases hw:wordsL.contains s.data.toList with
  | true =>
   have hr:=hdZ (rank_word hb hw)
   have hw':=hdZ hw
   clear hidx hb hw
   go_enter Tryz.func243,Tryz.ntmps243
   go_wp2_with fail
   refine hf.out.mono ?_
   rintro e w1 ⟨rfl,hb1⟩
   go_wp2_with fail
   refine (reserved_any s w1 (he.out.below hb1)).mono ?_
   rintro e w2 ⟨rfl,rfl⟩
   rw [hw'.out]
   go_wp2_with fail
   go_ret2
   exact ⟨by rw [hr.out];rfl,hb1⟩
  | false =>
   have hr:=hdZ (rank_name hb hw)
   have hw':=hdZ hw
   have hm:Hid (markB s.data.toList=decide (s.size<=16)):=by
    unfold Hid markB;rw [hd.out,hln];simp;omega
   rw [hln] at hr
   clear hidx hb hw
   by_cases h16:s.size<=16
   ·rw [dtZ h16] at hm
    rw [if_pos h16] at hr
    go_enter Tryz.func243,Tryz.ntmps243
    go_wp2_with fail
    refine hf.out.mono ?_
    rintro e w1 ⟨rfl,hb1⟩
    go_wp2_with fail
    refine (reserved_any s w1 (he.out.below hb1)).mono ?_
    rintro e w2 ⟨rfl,rfl⟩
    rw [hw'.out]
    go_wp2_with fail
    refine (markName_any s w1 hs'.out).mono ?_
    rintro e w2 ⟨rfl,rfl⟩
    rw [hm.out]
    go_wp2_with fail
    go_ret2
    exact ⟨by rw [hr.out];rfl,hb1⟩
   ·rw [dfZ h16] at hm
    rw [if_neg h16] at hr
    go_enter Tryz.func243,Tryz.ntmps243
    go_wp2_with fail
    refine hf.out.mono ?_
    rintro e w1 ⟨rfl,hb1⟩
    go_wp2_with fail
    refine (reserved_any s w1 (he.out.below hb1)).mono ?_
    rintro e w2 ⟨rfl,rfl⟩
    rw [hw'.out]
    go_wp2_with fail
    refine (markName_any s w1 hs'.out).mono ?_
    rintro e w2 ⟨rfl,rfl⟩
    rw [hm.out]
    go_wp2_with fail
    go_ret2
    exact ⟨by rw [hr.out];rfl,hb1⟩
theorem results_row_tmp {P:Program} {fn:Func} {p u:Tmp} {ty:TypeId} (h:fn.results=#[.cell p ty,.tmp u]) (tmps:Array Value) (w:World) (g:Nat) (t:TypeId) (cs:Array Value) (d:TypeDesc)
  (hp:tmps.getD p undef=.pointer (some ⟨g,0,none⟩)) (hg:Blk w g t cs)
  (hu:P.underlying ty=some d) (hd:(match d with | .struct _ | .array _ _=>true | _=>false)=true) (hi:(P.info? ty).map (·.size)=some cs.size) :
  (results fn tmps).run P w=.ok (.tuple #[.agg cs,tmps.getD u undef]) w:=by
 have hp':tmps[p]?.getD undef=.pointer (some ⟨g,0,none⟩):=by simpa using hp
 simp [results,h,hp',asAddr,run_loadVar_row w g t ty cs (0,0) d hg hu hd hi,Result.andThen]
abbrev ScanAt (w:World) (sb:Nat) (s:ByteArray) (k:Nat):Prop:=Blk w sb 231 #[.string s,.int .i64 k]
def noTok:Array Value:=#[.int .i64 0,.int .i64 0,.string ⟨#[]⟩]
def tokC (kd:Int) (k:Nat) (t:ByteArray):Array Value:=#[.int .i64 kd,.int .i64 k,.string t]
theorem quoted_any (s:ByteArray) (k sb:Nat) (w:World) (hk:k<s.size) (hs:s.size<=maxLen) (hb:Hid (ScanAt w sb s k)) :
  Calls Tryz.prog 245 #[.pointer (some ⟨sb,0,none⟩),.int .i64 k] w fun e w'=>∃j,endP plainB s (k+1)=j/\But sb w w' /\
   ((∃h:j<s.size,s[j]=34/\e=.returned (.tuple #[.agg (tokC 3 k (s.extract (k+1) j)),.int .i64 0])/\ScanAt w' sb s (j+1)) \/
    ((∀h:j<s.size,s[j]≠34)/\e=.returned (.tuple #[.agg noTok,.int .i64 2]))):=by
 have hs':=hdZ hs
 unfold maxLen at hs
 have hsb:=hb.out.lt
 have c1:w.cell? ⟨sb,1,none⟩=some (.int .i64 k):=hb.out.cell 1
 have y1:=hb.out.frozen 1
 have w1:IntKind.i64.wrap ((k:Int)+1)=(k:Int)+1:=IntWalk.i64_in _ (by omega)
 obtain ⟨wa,hwa⟩:=nmZ (w.setCell ⟨sb,1,none⟩ (.int .i64 ((k:Int)+1)))
 have hba:Hid (ScanAt wa sb s (k+1)):=by unfold Hid;rw [<-hwa.out];exact hb.out.set_ 1 (.int .i64 ((k:Int)+1))
 have hua:Hid (But sb w wa):=by unfold Hid;rw [<-hwa.out];exact (But.refl sb w).setCell 1 _
 have hsz:Hid (wa.heap.size=w.heap.size):=by unfold Hid;rw [<-hwa.out];simp
 go_enter Tryz.func245,Tryz.ntmps245
 go_wp2_with fail
 rw [hwa.out]
 have hrun:=run145_any s (k+1) sb (wa.alloc (.cells #[.int .i64 0,.int .i64 0,.string ⟨#[]⟩] 212)) (by omega) hs'.out (hba.out.alloc _)
 refine hrun.mono ?_
 rintro e w2 ⟨rfl,hu2,hb2⟩
 have hB2:Hid (But sb w w2):=(hua.out.below ((Below.refl _ wa).alloc leZ (.cells #[.int .i64 0,.int .i64 0,.string ⟨#[]⟩] 212))).trans hu2
 have hr2:Hid (Blk w2 w.heap.size 212 #[.int .i64 0,.int .i64 0,.string ⟨#[]⟩]):=hu2.blk (by have:=Blk.new wa 212 #[.int .i64 0,.int .i64 0,.string ⟨#[]⟩];rwa [hsz.out] at this) (by omega)
 obtain ⟨j,hj⟩:=nmZ (endP plainB s (k+1))
 have hjle:j<=s.size:=by rw [<-hj.out];exact end_le (by omega)
 have hjk:k+1<=j:=by rw [<-hj.out];exact end_ge _ _ _
 rw [hj.out] at hb2
 try rw [hj.out]
 have hb2':=hdZ hb2
 clear c1 y1 hrun hu2 hb2
 have d0:w2.cell? ⟨sb,0,none⟩=some (.string s):=hb2'.out.cell 0
 have d1:w2.cell? ⟨sb,1,none⟩=some (.int .i64 j):=hb2'.out.cell 1
 have y1:=hb2'.out.frozen 1
 obtain ⟨r0,r1,r2,f0,f1,f2⟩:=cf3 hr2.out
 by_cases hlt:j<s.size
 ·have i1:(j:Int)<(s.size:Int):=by omega
  have i2:(0:Int)<=(j:Int):=by omega
  have b1:decide ((s.size:Int)<=(j:Int))=false:=by simp;omega
  by_cases hc:s[j]=34
  ·have b2:((s[j].toNat:Int) != 34)=false:=by rw [hc];rfl
   have w2':IntKind.i64.wrap ((j:Int)+1)=(j:Int)+1:=IntWalk.i64_in _ (by omega)
   go_wp2_with fail
   go_quiet (fail)
   go_wp2_with fail
   have hd:=hdZ (hb2'.out.below (below_drewN (Below.refl _ _) nq) hb2'.out.lt)
   have hq:=hdZ (hr2.out.below (below_drewN (Below.refl _ _) nq) hr2.out.lt)
   refine bodyPost_ret (results_row_tmp rfl _ _ w.heap.size 212 _ _ rfl ((((hq.out.far (by simp;omega) _).set_ 0 _).set_ 1 _).set_ 2 _) Tryz.underlying212 rfl (by kernel_rfl)) rfl ?_
   have hne:sb≠w.heap.size:=by omega
   refine ⟨j,hj.out,((((hB2.out.below (below_drewN (Below.refl _ _) _)).setCell _ _).far leZ _ _).far leZ _ _).far leZ _ _,.inl ⟨hlt,hc,rfl,?_⟩⟩
   exact (((hd.out.set_ 1 (.int .i64 ((j:Int)+1))).far (p:=⟨w.heap.size,0,none⟩) hne _).far (p:=⟨w.heap.size,1,none⟩) hne _).far (p:=⟨w.heap.size,2,none⟩) hne _
  ·have b2:((s[j].toNat:Int) != 34)=true:=by
    simp only [bne_iff_ne,ne_eq];intro h;exact hc (UInt8.toNat_inj.1 (by simpa using (by omega:s[j].toNat=34)))
   go_wp2_with fail
   go_quiet (fail)
   go_wp2_with fail
   have hq:=hdZ (hr2.out.below (below_drewN (Below.refl _ _) nq) hr2.out.lt)
   refine bodyPost_ret (results_row_tmp rfl _ _ w.heap.size 212 _ _ rfl (((hq.out.set_ 0 _).set_ 1 _).set_ 2 _) Tryz.underlying212 rfl (by kernel_rfl)) rfl ?_
   exact ⟨j,hj.out,(((hB2.out.below (below_drewN (Below.refl _ _) _)).far leZ _ _).far leZ _ _).far leZ _ _,.inr ⟨fun _=>hc,rfl⟩⟩
 ·have b1:decide ((s.size:Int)<=(j:Int))=true:=by simp;omega
  go_wp2_with fail
  go_quiet (fail)
  go_wp2_with fail
  have hq:=hdZ (hr2.out.below (below_drewN (Below.refl _ _) nq) hr2.out.lt)
  refine bodyPost_ret (results_row_tmp rfl _ _ w.heap.size 212 _ _ rfl (((hq.out.set_ 0 _).set_ 1 _).set_ 2 _) Tryz.underlying212 rfl (by kernel_rfl)) rfl ?_
  exact ⟨j,hj.out,(((hB2.out.below (below_drewN (Below.refl _ _) _)).far leZ _ _).far leZ _ _).far leZ _ _,.inr ⟨fun h=>absurd h hlt,rfl⟩⟩
end Go.Proofs.YtdjmckjbibfecaaGreatDoor.Sh

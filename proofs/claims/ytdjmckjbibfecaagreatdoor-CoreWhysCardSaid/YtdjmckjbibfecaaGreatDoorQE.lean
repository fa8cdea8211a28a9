import Derived.KernelRfl
import Derived.Test.YtdjmckjbibfecaaGreatDoorQShelf
import Derived.Test.YtdjmckjbibfecaaGreatDoorT
import Derived.Test.YtdjmckjbibfecaaGreatDoorTxD
namespace Go.Proofs.YtdjmckjbibfecaaGreatDoor.Sh
abbrev Txt:=List UInt8
def digitB (c:UInt8):Bool:=decide (48<=c)&&decide (c<=57)
def smallB (c:UInt8):Bool:=(decide (97<=c)&&decide (c<=122))||digitB c||c==45
def largeB (c:UInt8):Bool:=decide (65<=c)&&decide (c<=90)
def blankB (c:UInt8):Bool:=c==32||c==10
def plainB (c:UInt8):Bool:=c != 34&&decide (32<=c)&&decide (c<=126)
def wordsL:List Txt:=[[97,98,111,118,101],[97,108,108],[97,110,100],[97,110,121],[97,112,112,108,105,99,97,110,116],[98,101,108,111,119],[98,101,110,101,102,105,99,105,97,114,121],[99,104,97,110,103,101],[99,111,110,102,105,114,109,101,114],[99,111,112,105,101,115],[99,114,101,100,105,116],[100,97,121,115],[100,114,97,102,116],[101,120,112,105,114,121],[102,114,111,109],[105,110,115,117,114,97,110,99,101],[105,110,118,111,105,99,101],[105,115,115,117,101,114],[108,97,100,105,110,103],[108,97,116,101,115,116],[110,111],[110,111,116],[111,102],[111,114],[111,114,105,103,105,110],[112,97,99,107,105,110,103],[112,97,114,116,105,97,108],[115,105,103,104,116],[115,117,109],[116,101,110,111,114],[116,111],[119,97,110,116,115],[119,105,116,104],[119,105,116,104,105,110],[121,101,115]]
def numV (t:Txt):Nat:=t.foldl (fun n c=>10*n+(c.toNat-48)) 0
def mostN:Nat:=1099511627776
structure Tok where
 kind:Int
 place:Nat
 text:Txt
def rankM (t:Txt):Int × Int :=
 if t.all digitB=true then (2,if 1<t.length/\t.head?=some 48 then 2 else if mostN<numV t then 3 else 0)
 else if wordsL.contains t=true then (0,0)
 else (1,if t.length<=16 then 0 else 2)
def oneM:Txt->Except Int (Int × Txt × Nat)
 | []=>.error 2
 | c::r =>
  if smallB c=true then
   (if (rankM ((c::r).takeWhile smallB)).2=0 then .ok ((rankM ((c::r).takeWhile smallB)).1,(c::r).takeWhile smallB,((c::r).takeWhile smallB).length) else .error (rankM ((c::r).takeWhile smallB)).2)
  else if largeB c=true then (if ((c::r).takeWhile largeB).length=3 then .ok (4,(c::r).takeWhile largeB,3) else .error 2)
  else if c=34 then (if (r.drop (r.takeWhile plainB).length).head?=some 34 then .ok (3,r.takeWhile plainB,(r.takeWhile plainB).length+2) else .error 2)
  else if c=60\/c=62 then (if r.head?=some 61 then .ok (5,[c,61],2) else .error 2)
  else if [40,41,44,59,58,46,61,126].contains c=true then .ok (5,[c],1) else .error 2
def scanM:Nat->Nat->Nat->Txt->Except (Nat × Int) (List Tok)
 | 0,_,k,_=>.error (k,7)
 | f+1,n,k,s =>
  if s.dropWhile blankB=[] then .ok []
  else if 4096<=n then .error (k+(s.takeWhile blankB).length,7)
  else match oneM (s.dropWhile blankB) with
   | .error e=>.error (k+(s.takeWhile blankB).length,e)
   | .ok (kd,t,m)=>match scanM f (n+1) (k+(s.takeWhile blankB).length+m) ((s.dropWhile blankB).drop m) with
    | .error e=>.error e
    | .ok l=>.ok (⟨kd,k+(s.takeWhile blankB).length,t⟩::l)
def scanT (s:Txt):Except (Nat × Int) (List Tok):=scanM (s.length+1) 0 0 s
inductive Rul where
 | mk (kind paper:Int) (field text:Txt) (num:Int) (L:List Rul):Rul
def Rul.kind:Rul->Int | .mk k _ _ _ _ _=>k
def Rul.sub:Rul->List Rul | .mk _ _ _ _ _ L=>L
abbrev Res (α:Type):=Except (Nat × Int) (α × List Tok)
def namedB (t:Tok):Bool:=t.kind==0||t.kind==1||t.kind==2
def papersL:List Txt:=[[105,110,118,111,105,99,101],[112,97,99,107,105,110,103],[108,97,100,105,110,103],[105,110,115,117,114,97,110,99,101],[111,114,105,103,105,110],[100,114,97,102,116]]
def sOpen:Txt:=[40]
def sShut:Txt:=[41]
def parB (outer k:Int):Bool:=k==1||(k==0&&outer != 1)
def inPar (b:Bool) (t:Txt):Txt:=if b=true then sOpen++t++sShut else t
def decN (f n:Nat):Txt:=match f with
 | 0=>[]
 | f+1=>if n<10 then [UInt8.ofNat (48+n)] else decN f (n / 10)++[UInt8.ofNat (48+n % 10)]
def paperT (p:Int):Txt:=papersL.getD p.toNat []
mutual
def showR:Rul->Txt
 | .mk k p f x n L =>
  if k=3 then f++[32,61,32,34]++x++[34]
  else if k=4 then f++[32,126,32,34]++x++[34]
  else if k=5 then f++[32,60,61,32]++decN 20 n.toNat
  else if k=6 then f++[32,62,61,32]++decN 20 n.toNat
  else if k=7 then f++[32,61,32]++paperT p++[46]++x
  else if k=2 then [110,111,116,32]++showL 2 [] L
  else if k=1 then showL 1 [32,111,114,32] L
  else showL 0 [32,97,110,100,32] L
def showL (outer:Int) (sep:Txt):List Rul->Txt
 | []=>[]
 | r::L=>inPar (parB outer r.kind) (showR r)++(if L=[] then [] else sep)++showL outer sep L
end
end Go.Proofs.YtdjmckjbibfecaaGreatDoor.Sh
namespace Go.Proofs.YtdjmckjbibfecaaGreatDoor
open Go Go.RowKit Go.BigFrame Go.Maps
set_option maxRecDepth 100000
set_option maxHeartbeats 1600000
theorem But.blk {z g:Nat} {w w':World} {t:TypeId} {cs:Array Value} (h:But z w w') (hb:Blk w g t cs) (hg:g≠z):Blk w' g t cs:=(h.block g hb.lt hg).trans hb
theorem But.far {z g:Nat} {w w1:World} (h:But z w w1) (hg:w.heap.size<=g) (o:Nat) (u:Value):But z w (w1.setCell ⟨g,o,none⟩ u):=by
 have hb:Below w.heap.size w1 (w1.setCell ⟨g,o,none⟩ u):=(Below.refl _ _).setCell hg u
 exact ⟨hb.os.trans h.os,hb.tape.trans h.tape,hb.output.trans h.output,Nat.le_trans h.size hb.size,fun k hk hn=>(hb.block k hk).trans (h.block k hk hn)⟩
theorem But.row {z g:Nat} {w w':World} {t:TypeId} {cs:Array Value} (h:But z w w') (hb:Blk w g t cs) (hg:g≠z):Blk w' g t cs:=h.blk hb hg
theorem But.drew {z:Nat} {a b:World} (h:But z a b):But z a b.drew:=h.below ((Below.refl _ b).drew)
end Go.Proofs.YtdjmckjbibfecaaGreatDoor
namespace Go.Proofs.YtdjmckjbibfecaaGreatDoor.Sh
open Go Go.RowKit Go.BigFrame Go.Maps
set_option maxRecDepth 100000
set_option maxHeartbeats 1600000
theorem byte_all {P:UInt8->Prop} (h:∀n:Nat,n<256->P (UInt8.ofNat n)) (c:UInt8):P c:=by
 have:=h c.toNat c.toNat_lt
 rwa [UInt8.ofNat_toNat] at this
theorem digit_eq (c:UInt8):digitB c=(decide (48<=(c.toNat:Int))&&decide ((c.toNat:Int)<=57)) :=
 byte_all (P:=fun c=>digitB c=(decide (48<=(c.toNat:Int))&&decide ((c.toNat:Int)<=57))) (by decide) c
theorem large_eq (c:UInt8):largeB c=(decide (65<=(c.toNat:Int))&&decide ((c.toNat:Int)<=90)) :=
 byte_all (P:=fun c=>largeB c=(decide (65<=(c.toNat:Int))&&decide ((c.toNat:Int)<=90))) (by decide) c
theorem blank_eq (c:UInt8):blankB c=(((c.toNat:Int)==32)||((c.toNat:Int)==10)) :=
 byte_all (P:=fun c=>blankB c=(((c.toNat:Int)==32)||((c.toNat:Int)==10))) (by decide) c
theorem small_eq (c:UInt8):smallB c=((decide (97<=(c.toNat:Int))&&decide ((c.toNat:Int)<=122))||digitB c||((c.toNat:Int)==45)) :=
 byte_all (P:=fun c=>smallB c=((decide (97<=(c.toNat:Int))&&decide ((c.toNat:Int)<=122))||digitB c||((c.toNat:Int)==45))) (by decide) c
theorem plain_eq (c:UInt8):plainB c=(((c.toNat:Int) != 34)&&decide (32<=(c.toNat:Int))&&decide ((c.toNat:Int)<=126)) :=
 byte_all (P:=fun c=>plainB c=(((c.toNat:Int) != 34)&&decide (32<=(c.toNat:Int))&&decide ((c.toNat:Int)<=126))) (by decide) c
theorem retBl {a b:Bool} (h:a=b):Ending.returned (.bool a)=.returned (.bool b):=by rw [h]
theorem isDigit_any (c:UInt8) (w:World):Calls Tryz.prog 254 #[.int .u8 c.toNat] w fun e w'=>e=.returned (.bool (digitB c))/\w=w':=by
 rw [digit_eq]
 cases h1:decide (48<=(c.toNat:Int))<;>cases h2:decide ((c.toNat:Int)<=57)
 all_goals
  go_enter Tryz.func254,Tryz.ntmps254
  go_wp2_with fail
  go_ret
  exact ⟨retBl (by simp),rfl⟩
theorem isLarge_any (c:UInt8) (w:World):Calls Tryz.prog 244 #[.int .u8 c.toNat] w fun e w'=>e=.returned (.bool (largeB c))/\w=w':=by
 rw [large_eq]
 cases h1:decide (65<=(c.toNat:Int))<;>cases h2:decide ((c.toNat:Int)<=90)
 all_goals
  go_enter Tryz.func244,Tryz.ntmps244
  go_wp2_with fail
  go_ret
  exact ⟨retBl (by simp),rfl⟩
theorem isBlank_any (c:UInt8) (w:World):Calls Tryz.prog 227 #[.int .u8 c.toNat] w fun e w'=>e=.returned (.bool (blankB c))/\w=w':=by
 rw [blank_eq]
 cases h1:((c.toNat:Int)==32)<;>cases h2:((c.toNat:Int)==10)
 all_goals
  go_enter Tryz.func227,Tryz.ntmps227
  go_wp2_with fail
  go_ret
  exact ⟨retBl (by simp),rfl⟩
theorem isSmall_any (c:UInt8) (w:World):Calls Tryz.prog 242 #[.int .u8 c.toNat] w fun e w'=>e=.returned (.bool (smallB c))/\w=w':=by
 rw [small_eq]
 cases h1:decide (97<=(c.toNat:Int))<;>cases h2:decide ((c.toNat:Int)<=122)<;>cases h3:((c.toNat:Int)==45)<;>obtain ⟨db,hd⟩:∃db,Hid (digitB c=db):=⟨_,rfl⟩<;>cases db
 all_goals
  go_enter Tryz.func242,Tryz.ntmps242
  go_wp2_with (go_at_call 254;refine (isDigit_any _ _).mono ?_;rintro e w' ⟨rfl,rfl⟩;rw [hd.out])
  go_ret
  exact ⟨retBl (by rw [hd.out];simp),rfl⟩
theorem isPlain_any (c:UInt8) (w:World):Calls Tryz.prog 259 #[.int .u8 c.toNat] w fun e w'=>e=.returned (.bool (plainB c))/\w=w':=by
 rw [plain_eq]
 cases h1:((c.toNat:Int) != 34)<;>cases h2:decide (32<=(c.toNat:Int))<;>cases h3:decide ((c.toNat:Int)<=126)
 all_goals
  go_enter Tryz.func259,Tryz.ntmps259
  go_wp2_with fail
  go_ret
  exact ⟨retBl (by simp),rfl⟩
def endP (p:UInt8->Bool) (s:ByteArray) (k:Nat):Nat:=k+((s.data.toList.drop k).takeWhile p).length
theorem drop_byte {s:ByteArray} {k:Nat} (h:k<s.size):s.data.toList.drop k=s[k]::s.data.toList.drop (k+1):=by
 have hk:k<s.data.toList.length:=by simpa using h
 rw [List.drop_eq_getElem_cons hk];rfl
theorem end_yes {p:UInt8->Bool} {s:ByteArray} {k:Nat} (h:k<s.size) (hp:p s[k]=true):endP p s k=endP p s (k+1):=by
 unfold endP
 rw [drop_byte h,List.takeWhile_cons_of_pos hp,List.length_cons];omega
theorem end_no {p:UInt8->Bool} {s:ByteArray} {k:Nat} (h:k<s.size) (hp:p s[k]=false):endP p s k=k:=by
 unfold endP
 rw [drop_byte h,List.takeWhile_cons_of_neg (by rw [hp];simp)];rfl
theorem end_end {p:UInt8->Bool} {s:ByteArray} {k:Nat} (h:s.size<=k):endP p s k=k:=by
 unfold endP
 rw [List.drop_eq_nil_of_le (by simpa using h)];rfl
theorem end_ge (p:UInt8->Bool) (s:ByteArray) (k:Nat):k<=endP p s k:=by unfold endP;omega
theorem end_le {p:UInt8->Bool} {s:ByteArray} {k:Nat} (h:k<=s.size):endP p s k<=s.size:=by
 unfold endP
 have h1:=(List.takeWhile_prefix p (l:=s.data.toList.drop k)).length_le
 rw [List.length_drop] at h1
 have:s.data.toList.length=s.size:=by simp
 omega
theorem extract_list (s:ByteArray) (f k:Nat):(s.extract f k).data.toList=(s.data.toList.drop f).take (k-f):=by
 rw [ByteArray.data_extract,Array.toList_extract,List.extract_eq_take_drop]
theorem extract_run (p:UInt8->Bool) (s:ByteArray) (k:Nat):(s.extract k (endP p s k)).data.toList=(s.data.toList.drop k).takeWhile p:=by
 rw [extract_list]
 unfold endP
 rw [Nat.add_sub_cancel_left]
 have:=List.takeWhile_prefix p (l:=s.data.toList.drop k)
 rw [List.prefix_iff_eq_take] at this
 exact this.symm
theorem below_drewN {B:Nat} {a w:World} (h:Below B a w) (n:Nat):Below B a (w.drewN n):=⟨h.os,h.tape,h.output,h.size,h.block⟩
theorem run63_any (s:ByteArray) (k sb:Nat) (w:World) (hk:k<=s.size) (hs:s.size<=maxLen) (hb:Hid (Blk w sb 231 #[.string s,.int .i64 k])) :
  Calls Tryz.prog 226 #[.pointer (some ⟨sb,0,none⟩),.func (Fn.func 227) #[] #[]] w fun e w'=>e=.returned (.string (s.extract k (endP blankB s k)))/\But sb w w'/\Blk w' sb 231 #[.string s,.int .i64 (endP blankB s k:Nat)]:=by
 unfold maxLen at hs
 obtain ⟨c0,c1⟩:=cs2 hb.out
 go_enter Tryz.func226,Tryz.ntmps226
 go_wp2_with fail
 clear c0 c1
 go_loopg [] (s.size-k) (fun gg wr=>∃j:Nat,k<=j/\j<=s.size/\gg=s.size-j/\Hid (endP blankB s k=endP blankB s j)/\Hid (But sb w wr)/\Hid (Blk wr sb 231 #[.string s,.int .i64 j]))
 case atStart=>exact ⟨k,Nat.le_refl _,hk,rfl,rfl,But.refl _ _,hb⟩
 case round =>
  obtain ⟨j,hkj,hj,hg,he,hB,hbr⟩:=hrel
  have hg':=hdZ hg
  clear hg
  have e0:wr.cell? ⟨sb,0,none⟩=some (.string s):=hbr.out.cell 0
  have e1:wr.cell? ⟨sb,1,none⟩=some (.int .i64 j):=hbr.out.cell 1
  have y1:=hbr.out.frozen 1
  have i4:(0:Int)<=(j:Int):=by omega
  by_cases hlt:j<s.size
  ·have hl1:decide ((j:Int)<(s.size:Int))=true:=by simp;omega
   have i3:(j:Int)<(s.size:Int):=by omega
   obtain ⟨pb,hpb⟩:=nmZ (blankB s[j])
   have hcl:Hid (∀y:Ext wr,Calls Tryz.prog 227 #[.int .u8 (s[j].toNat)] y.wd fun e w'=>e=.returned (.bool pb)/\y.wd=w'):=fun y=>by
    have:=isBlank_any s[j] y.wd
    rw [hpb.out] at this
    exact this
   have f0:∀y:Ext wr,y.wd.cell? ⟨sb,0,none⟩=some (.string s):=fun y=>(y.cell ⟨sb,0,none⟩ hbr.out.lt).trans e0
   have f1:∀y:Ext wr,y.wd.cell? ⟨sb,1,none⟩=some (.int .i64 j):=fun y=>(y.cell ⟨sb,1,none⟩ hbr.out.lt).trans e1
   go_wp2_with fail
   refine wp_region_ext (by kernel_rfl) (by kernel_rfl) ?_
   repeat (go_big_quiet_step ((go_at_call 227;exact Calls.ext_of_same (hcl.out _))))
   refine wpQuiet_nil ?_
   rintro _ ⟨y,rfl⟩
   have g0:=f0 y
   have g1:=f1 y
   have hby:=hdZ y.below
   obtain ⟨wy,hwy⟩:∃w6,y.wd=w6:=⟨_,rfl⟩
   rw [hwy] at g0 g1 hby ⊢
   clear hwy y f0 f1 e0 e1 hcl y1
   have hbd:=kbZ hbr hby
   have hBy:Hid (But sb w wy):=hB.out.below hby.out
   have y1:=hbd.out.frozen 1
   cases pb with
   | true =>
    have hn:=hdZ (end_yes hlt hpb.out)
    go_wp2_with fail
    go_roundg (s.size-(j+1))
    case measure=>have:=hg'.out;omega
    case rel=>exact ⟨j+1,by omega,by omega,rfl,he.out.trans hn.out,hBy.out.setCell _ _,hbd.out.set_ 1 _⟩
   | false =>
    have hn:Hid (endP blankB s k=j):=he.out.trans (end_no hlt hpb.out)
    go_wp2_with fail
    go_quiet (fail)
    go_wp2_with fail
    go_ret
    rw [hn.out]
    exact ⟨rfl,hBy.out.below (below_drewN (Below.refl _ _) _),hbd.out.below (below_drewN (Below.refl _ _) _) hbd.out.lt⟩
  ·have hl1:decide ((j:Int)<(s.size:Int))=false:=by simp;omega
   have hn:Hid (endP blankB s k=j):=he.out.trans (end_end (by omega))
   go_wp2_with fail
   go_quiet (fail)
   go_wp2_with fail
   go_quiet (fail)
   go_wp2_with fail
   go_ret
   rw [hn.out]
   exact ⟨rfl,hB.out.below (below_drewN (below_drewN (Below.refl _ _) _) _),hbr.out.below (below_drewN (below_drewN (Below.refl _ _) _) _) hbr.out.lt⟩
theorem run108_any (s:ByteArray) (k sb:Nat) (w:World) (hk:k<=s.size) (hs:s.size<=maxLen) (hb:Hid (Blk w sb 231 #[.string s,.int .i64 k])) :
  Calls Tryz.prog 226 #[.pointer (some ⟨sb,0,none⟩),.func (Fn.func 242) #[] #[]] w fun e w'=>e=.returned (.string (s.extract k (endP smallB s k)))/\But sb w w'/\Blk w' sb 231 #[.string s,.int .i64 (endP smallB s k:Nat)]:=by
 unfold maxLen at hs
 obtain ⟨c0,c1⟩:=cs2 hb.out
 go_enter Tryz.func226,Tryz.ntmps226
 go_wp2_with fail
 clear c0 c1
 go_loopg [] (s.size-k) (fun gg wr=>∃j:Nat,k<=j/\j<=s.size/\gg=s.size-j/\Hid (endP smallB s k=endP smallB s j)/\Hid (But sb w wr)/\Hid (Blk wr sb 231 #[.string s,.int .i64 j]))
 case atStart=>exact ⟨k,Nat.le_refl _,hk,rfl,rfl,But.refl _ _,hb⟩
 case round =>
  obtain ⟨j,hkj,hj,hg,he,hB,hbr⟩:=hrel
  have hg':=hdZ hg
  clear hg
  have e0:wr.cell? ⟨sb,0,none⟩=some (.string s):=hbr.out.cell 0
  have e1:wr.cell? ⟨sb,1,none⟩=some (.int .i64 j):=hbr.out.cell 1
  have y1:=hbr.out.frozen 1
  have i4:(0:Int)<=(j:Int):=by omega
  by_cases hlt:j<s.size
  ·have hl1:decide ((j:Int)<(s.size:Int))=true:=by simp;omega
   have i3:(j:Int)<(s.size:Int):=by omega
   obtain ⟨pb,hpb⟩:=nmZ (smallB s[j])
   have hcl:Hid (∀y:Ext wr,Calls Tryz.prog 242 #[.int .u8 (s[j].toNat)] y.wd fun e w'=>e=.returned (.bool pb)/\y.wd=w'):=fun y=>by
    have:=isSmall_any s[j] y.wd
    rw [hpb.out] at this
    exact this
   have f0:∀y:Ext wr,y.wd.cell? ⟨sb,0,none⟩=some (.string s):=fun y=>(y.cell ⟨sb,0,none⟩ hbr.out.lt).trans e0
   have f1:∀y:Ext wr,y.wd.cell? ⟨sb,1,none⟩=some (.int .i64 j):=fun y=>(y.cell ⟨sb,1,none⟩ hbr.out.lt).trans e1
   go_wp2_with fail
   refine wp_region_ext (by kernel_rfl) (by kernel_rfl) ?_
   repeat (go_big_quiet_step ((go_at_call 242;exact Calls.ext_of_same (hcl.out _))))
   refine wpQuiet_nil ?_
   rintro _ ⟨y,rfl⟩
   have g0:=f0 y
   have g1:=f1 y
   have hby:=hdZ y.below
   obtain ⟨wy,hwy⟩:∃w6,y.wd=w6:=⟨_,rfl⟩
   rw [hwy] at g0 g1 hby ⊢
   clear hwy y f0 f1 e0 e1 hcl y1
   have hbd:=kbZ hbr hby
   have hBy:Hid (But sb w wy):=hB.out.below hby.out
   have y1:=hbd.out.frozen 1
   cases pb with
   | true =>
    have hn:=hdZ (end_yes hlt hpb.out)
    go_wp2_with fail
    go_roundg (s.size-(j+1))
    case measure=>have:=hg'.out;omega
    case rel=>exact ⟨j+1,by omega,by omega,rfl,he.out.trans hn.out,hBy.out.setCell _ _,hbd.out.set_ 1 _⟩
   | false =>
    have hn:Hid (endP smallB s k=j):=he.out.trans (end_no hlt hpb.out)
    go_wp2_with fail
    go_quiet (fail)
    go_wp2_with fail
    go_ret
    rw [hn.out]
    exact ⟨rfl,hBy.out.below (below_drewN (Below.refl _ _) _),hbd.out.below (below_drewN (Below.refl _ _) _) hbd.out.lt⟩
  ·have hl1:decide ((j:Int)<(s.size:Int))=false:=by simp;omega
   have hn:Hid (endP smallB s k=j):=he.out.trans (end_end (by omega))
   go_wp2_with fail
   go_quiet (fail)
   go_wp2_with fail
   go_quiet (fail)
   go_wp2_with fail
   go_ret
   rw [hn.out]
   exact ⟨rfl,hB.out.below (below_drewN (below_drewN (Below.refl _ _) _) _),hbr.out.below (below_drewN (below_drewN (Below.refl _ _) _) _) hbr.out.lt⟩
theorem run110_any (s:ByteArray) (k sb:Nat) (w:World) (hk:k<=s.size) (hs:s.size<=maxLen) (hb:Hid (Blk w sb 231 #[.string s,.int .i64 k])) :
  Calls Tryz.prog 226 #[.pointer (some ⟨sb,0,none⟩),.func (Fn.func 244) #[] #[]] w fun e w'=>e=.returned (.string (s.extract k (endP largeB s k)))/\But sb w w'/\Blk w' sb 231 #[.string s,.int .i64 (endP largeB s k:Nat)]:=by
 unfold maxLen at hs
 obtain ⟨c0,c1⟩:=cs2 hb.out
 go_enter Tryz.func226,Tryz.ntmps226
 go_wp2_with fail
 clear c0 c1
 go_loopg [] (s.size-k) (fun gg wr=>∃j:Nat,k<=j/\j<=s.size/\gg=s.size-j/\Hid (endP largeB s k=endP largeB s j)/\Hid (But sb w wr)/\Hid (Blk wr sb 231 #[.string s,.int .i64 j]))
 case atStart=>exact ⟨k,Nat.le_refl _,hk,rfl,rfl,But.refl _ _,hb⟩
 case round =>
  obtain ⟨j,hkj,hj,hg,he,hB,hbr⟩:=hrel
  have hg':=hdZ hg
  clear hg
  have e0:wr.cell? ⟨sb,0,none⟩=some (.string s):=hbr.out.cell 0
  have e1:wr.cell? ⟨sb,1,none⟩=some (.int .i64 j):=hbr.out.cell 1
  have y1:=hbr.out.frozen 1
  have i4:(0:Int)<=(j:Int):=by omega
  by_cases hlt:j<s.size
  ·have hl1:decide ((j:Int)<(s.size:Int))=true:=by simp;omega
   have i3:(j:Int)<(s.size:Int):=by omega
   obtain ⟨pb,hpb⟩:=nmZ (largeB s[j])
   have hcl:Hid (∀y:Ext wr,Calls Tryz.prog 244 #[.int .u8 (s[j].toNat)] y.wd fun e w'=>e=.returned (.bool pb)/\y.wd=w'):=fun y=>by
    have:=isLarge_any s[j] y.wd
    rw [hpb.out] at this
    exact this
   have f0:∀y:Ext wr,y.wd.cell? ⟨sb,0,none⟩=some (.string s):=fun y=>(y.cell ⟨sb,0,none⟩ hbr.out.lt).trans e0
   have f1:∀y:Ext wr,y.wd.cell? ⟨sb,1,none⟩=some (.int .i64 j):=fun y=>(y.cell ⟨sb,1,none⟩ hbr.out.lt).trans e1
   go_wp2_with fail
   refine wp_region_ext (by kernel_rfl) (by kernel_rfl) ?_
   repeat (go_big_quiet_step ((go_at_call 244;exact Calls.ext_of_same (hcl.out _))))
   refine wpQuiet_nil ?_
   rintro _ ⟨y,rfl⟩
   have g0:=f0 y
   have g1:=f1 y
   have hby:=hdZ y.below
   obtain ⟨wy,hwy⟩:∃w6,y.wd=w6:=⟨_,rfl⟩
   rw [hwy] at g0 g1 hby ⊢
   clear hwy y f0 f1 e0 e1 hcl y1
   have hbd:=kbZ hbr hby
   have hBy:Hid (But sb w wy):=hB.out.below hby.out
   have y1:=hbd.out.frozen 1
   cases pb with
   | true =>
    have hn:=hdZ (end_yes hlt hpb.out)
    go_wp2_with fail
    go_roundg (s.size-(j+1))
    case measure=>have:=hg'.out;omega
    case rel=>exact ⟨j+1,by omega,by omega,rfl,he.out.trans hn.out,hBy.out.setCell _ _,hbd.out.set_ 1 _⟩
   | false =>
    have hn:Hid (endP largeB s k=j):=he.out.trans (end_no hlt hpb.out)
    go_wp2_with fail
    go_quiet (fail)
    go_wp2_with fail
    go_ret
    rw [hn.out]
    exact ⟨rfl,hBy.out.below (below_drewN (Below.refl _ _) _),hbd.out.below (below_drewN (Below.refl _ _) _) hbd.out.lt⟩
  ·have hl1:decide ((j:Int)<(s.size:Int))=false:=by simp;omega
   have hn:Hid (endP largeB s k=j):=he.out.trans (end_end (by omega))
   go_wp2_with fail
   go_quiet (fail)
   go_wp2_with fail
   go_quiet (fail)
   go_wp2_with fail
   go_ret
   rw [hn.out]
   exact ⟨rfl,hB.out.below (below_drewN (below_drewN (Below.refl _ _) _) _),hbr.out.below (below_drewN (below_drewN (Below.refl _ _) _) _) hbr.out.lt⟩
theorem run145_any (s:ByteArray) (k sb:Nat) (w:World) (hk:k<=s.size) (hs:s.size<=maxLen) (hb:Hid (Blk w sb 231 #[.string s,.int .i64 k])) :
  Calls Tryz.prog 226 #[.pointer (some ⟨sb,0,none⟩),.func (Fn.func 259) #[] #[]] w fun e w'=>e=.returned (.string (s.extract k (endP plainB s k)))/\But sb w w'/\Blk w' sb 231 #[.string s,.int .i64 (endP plainB s k:Nat)]:=by
 unfold maxLen at hs
 obtain ⟨c0,c1⟩:=cs2 hb.out
 go_enter Tryz.func226,Tryz.ntmps226
 go_wp2_with fail
 clear c0 c1
 go_loopg [] (s.size-k) (fun gg wr=>∃j:Nat,k<=j/\j<=s.size/\gg=s.size-j/\Hid (endP plainB s k=endP plainB s j)/\Hid (But sb w wr)/\Hid (Blk wr sb 231 #[.string s,.int .i64 j]))
 case atStart=>exact ⟨k,Nat.le_refl _,hk,rfl,rfl,But.refl _ _,hb⟩
 case round =>
  obtain ⟨j,hkj,hj,hg,he,hB,hbr⟩:=hrel
  have hg':=hdZ hg
  clear hg
  have e0:wr.cell? ⟨sb,0,none⟩=some (.string s):=hbr.out.cell 0
  have e1:wr.cell? ⟨sb,1,none⟩=some (.int .i64 j):=hbr.out.cell 1
  have y1:=hbr.out.frozen 1
  have i4:(0:Int)<=(j:Int):=by omega
  by_cases hlt:j<s.size
  ·have hl1:decide ((j:Int)<(s.size:Int))=true:=by simp;omega
   have i3:(j:Int)<(s.size:Int):=by omega
   obtain ⟨pb,hpb⟩:=nmZ (plainB s[j])
   have hcl:Hid (∀y:Ext wr,Calls Tryz.prog 259 #[.int .u8 (s[j].toNat)] y.wd fun e w'=>e=.returned (.bool pb)/\y.wd=w'):=fun y=>by
    have:=isPlain_any s[j] y.wd
    rw [hpb.out] at this
    exact this
   have f0:∀y:Ext wr,y.wd.cell? ⟨sb,0,none⟩=some (.string s):=fun y=>(y.cell ⟨sb,0,none⟩ hbr.out.lt).trans e0
   have f1:∀y:Ext wr,y.wd.cell? ⟨sb,1,none⟩=some (.int .i64 j):=fun y=>(y.cell ⟨sb,1,none⟩ hbr.out.lt).trans e1
   go_wp2_with fail
   refine wp_region_ext (by kernel_rfl) (by kernel_rfl) ?_
   repeat (go_big_quiet_step ((go_at_call 259;exact Calls.ext_of_same (hcl.out _))))
   refine wpQuiet_nil ?_
   rintro _ ⟨y,rfl⟩
   have g0:=f0 y
   have g1:=f1 y
   have hby:=hdZ y.below
   obtain ⟨wy,hwy⟩:∃w6,y.wd=w6:=⟨_,rfl⟩
   rw [hwy] at g0 g1 hby ⊢
   clear hwy y f0 f1 e0 e1 hcl y1
   have hbd:=kbZ hbr hby
   have hBy:Hid (But sb w wy):=hB.out.below hby.out
   have y1:=hbd.out.frozen 1
   cases pb with
   | true =>
    have hn:=hdZ (end_yes hlt hpb.out)
    go_wp2_with fail
    go_roundg (s.size-(j+1))
    case measure=>have:=hg'.out;omega
    case rel=>exact ⟨j+1,by omega,by omega,rfl,he.out.trans hn.out,hBy.out.setCell _ _,hbd.out.set_ 1 _⟩
   | false =>
    have hn:Hid (endP plainB s k=j):=he.out.trans (end_no hlt hpb.out)
    go_wp2_with fail
    go_quiet (fail)
    go_wp2_with fail
    go_ret
    rw [hn.out]
    exact ⟨rfl,hBy.out.below (below_drewN (Below.refl _ _) _),hbd.out.below (below_drewN (Below.refl _ _) _) hbd.out.lt⟩
  ·have hl1:decide ((j:Int)<(s.size:Int))=false:=by simp;omega
   have hn:Hid (endP plainB s k=j):=he.out.trans (end_end (by omega))
   go_wp2_with fail
   go_quiet (fail)
   go_wp2_with fail
   go_quiet (fail)
   go_wp2_with fail
   go_ret
   rw [hn.out]
   exact ⟨rfl,hB.out.below (below_drewN (below_drewN (Below.refl _ _) _) _),hbr.out.below (below_drewN (below_drewN (Below.refl _ _) _) _) hbr.out.lt⟩
end Go.Proofs.YtdjmckjbibfecaaGreatDoor.Sh

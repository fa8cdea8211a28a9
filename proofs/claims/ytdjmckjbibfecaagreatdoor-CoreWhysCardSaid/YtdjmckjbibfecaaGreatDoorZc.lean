import Derived.Test.YtdjmckjbibfecaaGreatDoorCa
namespace Go.Proofs.YtdjmckjbibfecaaGreatDoor
open Go Go.RowKit Go.BigFrame Go.Maps
set_option maxRecDepth 100000
set_option maxHeartbeats 1600000
theorem rows_sub {w:World} {k p:Int} {f x:ByteArray} {n:Int} {A:Option Addr} {c:Nat} {L:List Tree} (h:TreeAt w (.mk k p f x n A c L)):RowsAt w A 0 L/\L.length<=maxLen:=by
 rw [TreeAt] at h;exact h
theorem holds_walk (A:Option Addr) (nn c:Nat) (docs:List Pap) (a:Nat) (d:Pap) (hd:Hid (docs[a]?=some d)) (t:Tree) (ih:Hid (∀u∈t.sub,HoldsC A nn c docs a d u)):HoldsC A nn c docs a d t:=by
 intro w hT hR
 obtain ⟨k,p,f,x,n,A',c',L⟩:=t
 simp only [Tree.sub] at ih
 simp only [Tree.cells]
 obtain ⟨m,hm⟩:=nmZ (L.length)
 rw [hm.out]
 have hnn:=hR.out.most
 have hlt:a<nn:=by have:=(gsZ.1 hd.out).1;have:=hR.out.len;omega
 have ha0:decide ((a:Int)<0)=false:=by simp
 have ha1:decide (nn<=a)=false:=by simp;omega
 have hrows:=hdZ (rows_sub hT.out).1
 have hml:m<=9223372036854775807:=by have:=(rows_sub hT.out).2;rw [hm.out] at this;unfold maxLen at this;exact this
 have hml':Hid (m<=maxLen):=by unfold maxLen;exact hml
 have hb0:Bz w (w.alloc (.cells #[.int .i64 k,.int .i64 p,.string f,.string x,.int .i64 n,.slice A' m c'] 24)):=(Below.refl _ w).alloc leZ _
 have hblk:=hdZ (Blk.new w 24 #[.int .i64 k,.int .i64 p,.string f,.string x,.int .i64 n,.slice A' m c'])
 have hb0':=hdZ hb0
 clear hb0
 by_cases k0:k=0
 ·subst k0
  go_enter Tryz.func17,Tryz.ntmps17
  go_wp2_with fail
  refine (great_walk A nn c docs a d L ih A' m c' _ hm hml'.out (hrows.out.below hb0'.out) (hR.out.below hb0'.out)).mono ?_
  rintro e w1 ⟨rfl,hb1⟩
  go_wp2_with fail
  go_ret
  exact ⟨by rw [holdsT,if_pos rfl];rfl,hb0'.out.trans (hb1.mono (by simp))⟩
 by_cases k2:k=2
 ·subst k2
  go_enter Tryz.func17,Tryz.ntmps17
  go_wp2_with fail
  refine (great_walk A nn c docs a d L ih A' m c' _ hm hml'.out (hrows.out.below hb0'.out) (hR.out.below hb0'.out)).mono ?_
  rintro e w1 ⟨rfl,hb1⟩
  have hrg:=greatT_range docs d L 0 (by omega) (by omega)
  obtain ⟨r,hr⟩:=nmZ (greatT docs d L 0)
  rw [hr.out] at hrg ⊢
  obtain ⟨hr0,hr2⟩:=hrg
  go_wp2_with fail
  go_ret
  exact ⟨by rw [holdsT,if_neg (by omega),if_neg (by omega),if_pos rfl,hr.out];rfl,hb0'.out.trans (hb1.mono (by simp))⟩
 by_cases k1:k=1
 ·subst k1
  go_enter Tryz.func17,Tryz.ntmps17
  go_wp2_with fail
  go_loopw [34,7] (fun j s wr=>∃(q:Nat) (sv:Int),q<=m/\j=.int .i64 q/\s=.int .i64 sv/\(0<=sv/\sv<=2)/\Hid (leastT docs d L 2=leastT docs d (L.drop q) sv)/\Bz w wr) (fun j _ _=>m-(intOf j).toNat)
  case atStart=>exact ⟨0,2,Nat.zero_le _,rfl,rfl,by omega,rfl,hb0'.out⟩
  case round =>
   obtain ⟨q,sv,hk,rfl,rfl,⟨hs0,hs2⟩,hsame,hB⟩:=hrel
   by_cases hlt:q<m
   ·obtain ⟨t,ht⟩:∃x,L[q]?=some x:=⟨_,gZ (by have:=hm.out;omega)⟩
    have hmem:=hdZ (mgZ ht)
    have ht':=hdZ ht
    clear ht
    obtain ⟨hc,hT⟩:=(hrows.out.below hB).get q t ht'.out
    have hT':=hdZ hT
    clear hT
    obtain ⟨tk,tp,tf,tx,tn,tA,tc,tL⟩:=t
    obtain ⟨b,off,rfl,h0,h1,h2,h3,h4,h5⟩:=hc
    rw [Nat.zero_add] at h0 h1 h2 h3 h4 h5
    go_wp2_with fail
    have hb1:Bz wr (wr.alloc (.cells #[.int .i64 tk,.int .i64 tp,.string tf,.string tx,.int .i64 tn,.slice tA tL.length tc] 24)):=(Below.refl _ wr).alloc leZ _
    refine (ih.out _ hmem.out _ (hT'.out.below hb1) (hR.out.below (hB.trans (hb1.mono hB.size)))).mono ?_
    rintro e w1 ⟨rfl,hb2⟩
    have hB1:Bz w w1:=hB.trans ((hb1.trans (hb2.mono (by simp))).mono hB.size)
    have hrg:=holdsT_range docs d (.mk tk tp tf tx tn tA tc tL)
    obtain ⟨r,hr⟩:=nmZ (holdsT docs d (.mk tk tp tf tx tn tA tc tL))
    rw [hr.out] at hrg ⊢
    obtain ⟨hr0,hr2⟩:=hrg
    clear hb1 hb2
    go_wp2_with fail
    go_roundw
    case rel=>exact ⟨q+1,_,by omega,by go_num,rfl,by omega,least_step hsame.out ht'.out (by rw [hr.out]),hB1⟩
    case measure=>simp [intOf];omega
   ·go_wp2_with fail
    go_ret
    exact ⟨by rw [holdsT,if_neg (by omega),if_pos rfl,hsame.out,List.drop_eq_nil_of_le (by have:=hm.out;omega),leastT];rfl,hB⟩
 by_cases hk:3<=k/\k<=7
 ·have hat:Hid (holdsT docs d (.mk k p f x n A' c' L)=(match getF d.fields f with | some v=>atomT docs k p x n v | none=>1)):=by
   unfold Hid;rw [holdsT,if_neg k0,if_neg k1,if_neg k2,if_pos hk];rfl
  obtain ⟨bd,offd,rfl,g0,g1,g2,g3,g4,g5,g6⟩:=hR.out.at_ a d hd.out
  have hbd:bd<w.heap.size:=World.block_lt_of_cell? w _ g0
  have hsm:∀v,getF d.fields f=some v->v.size<=4000000:=by
   intro v hv
   obtain ⟨fl,hfl,rfl⟩:=getF_mem hv
   exact hR.out.small d (mgZ hd.out) fl hfl
  have hsm':=hdZ hsm
  obtain ⟨dk,dn,di,fA,fc,fs⟩:=d
  simp only at g0 g1 g2 g3 g4 g5 g6 hat hsm'
  have g4':=hdZ g4
  have g5':=hdZ g5
  clear g4 g5 g6 g0 g1 g2 hsm
  obtain ⟨fm,hfm⟩:=nmZ (fs.length)
  rw [hfm.out] at g3
  have g5'':Hid (fm<=maxLen):=by rw [<-hfm.out];exact g5'.out
  obtain ⟨w0,hw0⟩:∃w0,Hid (w0=w.alloc (.cells #[.int .i64 k,.int .i64 p,.string f,.string x,.int .i64 n,.slice A' m c'] 24)):=⟨_,rfl⟩
  have hk':=hdZ hk
  have ht:k=3\/k=4\/k=5\/k=6\/k=7:=by omega
  clear k0 k1 k2 hk
  rcases ht with rfl | rfl | rfl | rfl | rfl
  all_goals
   have b0:=hblk.out
   have bb:=hb0'.out
   rw [<-hw0.out] at b0 bb
   have b0':=hdZ b0
   have bb':=hdZ bb
   have hcell0:∀(y:Ext w0),y.wd.cell? ⟨w.heap.size,2,none⟩=some (.string f):=fun y=>by rw [y.cell _ b0'.out.lt,b0'.out.cell];rfl
   have hcell3:∀(y:Ext w0),y.wd.cell? ⟨bd,offd+a*4+3,none⟩=some (.slice fA fm fc):=fun y=>by
    rw [y.cell _ (by have:=bb'.out.size;show bd<_;omega),bb'.out.cell hbd];exact g3
   clear b0 bb
   go_enter Tryz.func17,Tryz.ntmps17
   go_wp2_with fail
   rw [<-hw0.out]
   refine wp_region_ext (by kernel_rfl) (by kernel_rfl) ?_
   repeat (go_big_quiet_step ((go_at_call 54;exact Calls.ext_of (get_any fA fm fc fs f _ g5''.out hfm (g4'.out.below (bb'.out.trans ((Ext.below _).mono bb'.out.size)))))))
   refine wpQuiet_nil ?_
   rintro _ ⟨y,rfl⟩
   have hBy:Hid (Bz w y.wd):=bb'.out.trans (y.below.mono bb'.out.size)
   have hby:=hdZ (b0'.out.below y.below b0'.out.lt)
   obtain ⟨wy,hwy⟩:∃wy,Hid (wy=y.wd):=⟨_,rfl⟩
   rw [<-hwy.out] at hBy hby ⊢
   clear hcell0 hcell3
   obtain ⟨r,hr⟩:=nmZ (getF fs f)
   have hgv:Hid (getV fs f=r.getD ⟨#[]⟩):=by unfold Hid getV;rw [hr.out]
   have hgb:Hid (getB fs f=r.isSome):=by unfold Hid getB;rw [hr.out]
   rw [hgv.out,hgb.out]
   cases r with
   | none =>
    go_wp2_with fail
    go_ret
    exact ⟨by rw [hat.out,hr.out];rfl,hBy.out⟩
   | some v =>
    have c0:wy.cell? ⟨w.heap.size,0,none⟩=_:=hby.out.cell 0
    have c1:wy.cell? ⟨w.heap.size,1,none⟩=_:=hby.out.cell 1
    have c2:wy.cell? ⟨w.heap.size,2,none⟩=_:=hby.out.cell 2
    have c3:wy.cell? ⟨w.heap.size,3,none⟩=_:=hby.out.cell 3
    have c4:wy.cell? ⟨w.heap.size,4,none⟩=_:=hby.out.cell 4
    have c5:wy.cell? ⟨w.heap.size,5,none⟩=_:=hby.out.cell 5
    simp only [List.getElem?_toArray,List.getElem?_cons_zero,List.getElem?_cons_succ] at c0 c1 c2 c3 c4 c5
    go_wp2_with fail
    refine (atom_any _ p f x n A' m c' _ nn c docs v wy (by unfold maxLen;omega) hR.out.len ((hR.out.below hBy.out).at_) ((hR.out.below hBy.out).env) (hsm'.out v hr.out)).mono ?_
    rintro e w2 ⟨rfl,hb2⟩
    go_wp2_with fail
    go_ret
    exact ⟨by rw [hat.out,hr.out];rfl,hBy.out.trans (hb2.mono hBy.out.size)⟩
 ·have hat:Hid (holdsT docs d (.mk k p f x n A' c' L)=2):=by
   unfold Hid;rw [holdsT,if_neg k0,if_neg k1,if_neg k2,if_neg hk]
  have k3:¬k=3:=by omega
  have k4:¬k=4:=by omega
  have k5:¬k=5:=by omega
  have k6:¬k=6:=by omega
  have k7:¬k=7:=by omega
  go_enter Tryz.func17,Tryz.ntmps17
  go_wp2_with fail
  go_ret
  exact ⟨by rw [hat.out];rfl,hb0'.out⟩
open Go Go.RowKit
def loopR:Nat->List UInt8->Option Nat
 | a,[]=>some a
 | a,c::l=>if c.toNat<48\/57<c.toNat\/461168601842738790<a then none else loopR (10*a+(c.toNat-48)) l
def bodyR (s:List UInt8):List UInt8:=if s.head?=some 45 then s.tail else s
def signR (s:List UInt8) (a:Nat):Int:=if s.head?=some 45 then -(a:Int) else a
def endR (s:List UInt8) (v:Int):Option Int:=if -4611686018427387904<=v/\v<=4611686018427387904/\Lib.itoa v=s then some v else none
def numR (s:List UInt8):Option Int:=if s=[]\/20<s.length then none else
 match loopR 0 (bodyR s) with
 | none=>none
 | some a=>endR s (signR s a)
theorem loopR_append:∀(l m:List UInt8) (a:Nat),loopR a (l++m)=(loopR a l).bind fun b=>loopR b m
 | [],m,a=>rfl
 | c::l,m,a=>by
  simp only [List.cons_append,loopR]
  split
  ·rfl
  ·exact loopR_append l m _
theorem digit_nat (k:Nat) (h:k<10):(UInt8.ofNat (48+k)).toNat=48+k:=by
 simp;omega
theorem dec_ne_nil (n:Nat):Lib.decDigits n≠[]:=by
 by_cases h:n<10
 ·rw [dec_small n h];simp
 ·rw [dec_more n h];simp
theorem loopR_dec:∀n:Nat,n<=4611686018427387904->loopR 0 (Lib.decDigits n)=some n:=by
 intro n
 induction n using Nat.strongRecOn with
 | ind n ih =>
  intro hn
  by_cases h:n<10
  ·rw [dec_small n h,loopR,digit_nat n h,if_neg (by omega),loopR]
   congr 1;omega
  ·rw [dec_more n h,loopR_append,ih (n / 10) (by omega) (by omega)]
   show loopR (n / 10) _=_
   rw [loopR,digit_nat (n % 10) (by omega),if_neg (by omega),loopR]
   congr 1;omega
theorem parseM_append:∀(l m:List UInt8) (a b:Nat),Lib.parseUintM (2 ^ 64-1) a l=.ok b->Lib.parseUintM (2 ^ 64-1) a (l++m)=Lib.parseUintM (2 ^ 64-1) b m
 | [],m,a,b,h=>by simp only [Lib.parseUintM,Lib.NumEnd.ok.injEq] at h;subst h;rfl
 | c::l,m,a,b,h=>by
  simp only [List.cons_append,Lib.parseUintM] at h ⊢
  split at h
  ·split at h
   ·cases h
   ·split at h
    ·cases h
    ·rw [if_pos ‹_›,if_neg ‹_›,if_neg ‹_›]
     exact parseM_append l m _ b h
  ·cases h
theorem parseM_dec:∀n:Nat,n<=4611686018427387904->Lib.parseUintM (2 ^ 64-1) 0 (Lib.decDigits n)=.ok n:=by
 intro n
 induction n using Nat.strongRecOn with
 | ind n ih =>
  intro hn
  by_cases h:n<10
  ·rw [dec_small n h,Lib.parseUintM,digit_nat n h,if_pos (by omega),if_neg (by omega),if_neg (by omega),Lib.parseUintM]
   congr 1;omega
  ·rw [dec_more n h,parseM_append _ _ _ _ (ih (n / 10) (by omega) (by omega))]
   rw [Lib.parseUintM,digit_nat (n % 10) (by omega),if_pos (by omega),if_neg (by omega),if_neg (by omega),Lib.parseUintM]
   congr 1;omega
theorem dec_digits:∀n:Nat,∀c∈Lib.decDigits n,48<=c.toNat/\c.toNat<=57:=by
 intro n
 induction n using Nat.strongRecOn with
 | ind n ih =>
  intro c hc
  by_cases h:n<10
  ·rw [dec_small n h] at hc
   simp only [List.mem_singleton] at hc
   subst hc
   rw [digit_nat n h];omega
  ·rw [dec_more n h] at hc
   simp only [List.mem_append,List.mem_singleton] at hc
   rcases hc with hc | rfl
   ·exact ih _ (by omega) c hc
   ·rw [digit_nat _ (by omega)];omega
theorem dec_len20 (n:Nat) (h:n<=4611686018427387904):(Lib.decDigits n).length<=19:=by
 have key:∀k n:Nat,n<10 ^ (k+1)->(Lib.decDigits n).length<=k+1:=by
  intro k
  induction k with
  | zero=>intro n hn;rw [dec_small n (by simpa using hn)];simp
  | succ k ih =>
   intro n hn
   by_cases h:n<10
   ·rw [dec_small n h];simp
   ·rw [dec_more n h]
    have:=ih (n / 10) (by rw [Nat.pow_succ] at hn;omega)
    simp;omega
 exact key 18 n (by omega)
theorem numF_of {s:List UInt8} {v:Int} (h0 : -4611686018427387904<=v) (h1:v<=4611686018427387904) (h2:Lib.itoa v=s):numF s=some v:=by
 have hp:Lib.parseIntB 64 s=.ok v:=by
  subst h2
  by_cases hv:0<=v
  ·obtain ⟨m,rfl⟩:=Int.eq_ofNat_of_zero_le hv
   rw [itoa_nat]
   have hd:=dec_digits m
   have hp:=parseM_dec m (by omega)
   cases hl:Lib.decDigits m with
   | nil=>exact absurd hl (dec_ne_nil m)
   | cons c r =>
    rw [hl] at hd hp
    have hc:=hd c (by simp)
    unfold Lib.parseIntB
    simp only
    rw [if_neg (by omega),Lib.parseUintB,if_neg (by simp),hp]
    simp only
    rw [if_neg (by omega),if_neg (by omega),if_neg (by omega)]
  ·obtain ⟨m,rfl⟩:∃m:Nat,v = -(m:Int):=⟨v.natAbs,by omega⟩
   rw [itoa_neg m (by omega)]
   have hp:=parseM_dec m (by omega)
   unfold Lib.parseIntB
   simp only
   rw [if_pos (by simp),Lib.parseUintB,if_neg (dec_ne_nil m),hp]
   simp only
   rw [if_neg (by simp),if_neg (by simp;omega),if_pos (by simp)]
 unfold numF
 rw [hp]
 simp only
 rw [if_pos ⟨h0,h1,h2⟩]
theorem numR_of {s:List UInt8} {v:Int} (h0 : -4611686018427387904<=v) (h1:v<=4611686018427387904) (h2:Lib.itoa v=s):numR s=some v:=by
 have he:endR s v=some v:=by rw [endR,if_pos ⟨h0,h1,h2⟩]
 subst h2
 by_cases hv:0<=v
 ·obtain ⟨m,rfl⟩:=Int.eq_ofNat_of_zero_le hv
  rw [itoa_nat] at he ⊢
  have hh:(Lib.decDigits m).head?≠some 45:=by
   intro e
   have:=dec_digits m 45 (List.mem_of_mem_head? e)
   simp at this
  rw [numR,if_neg (by have:=dec_len20 m (by omega);simp [dec_ne_nil];omega),bodyR,if_neg hh,loopR_dec m (by omega)]
  simp only
  rw [signR,if_neg hh]
  exact he
 ·obtain ⟨m,rfl⟩:∃m:Nat,v = -(m:Int):=⟨v.natAbs,by omega⟩
  rw [itoa_neg m (by omega)] at he ⊢
  rw [numR,if_neg (by have:=dec_len20 m (by omega);simp;omega),bodyR,if_pos (by simp)]
  simp only [List.tail_cons]
  rw [loopR_dec m (by omega)]
  simp only
  rw [signR,if_pos (by simp)]
  exact he
theorem endR_some {s:List UInt8} {u v:Int} (h:endR s u=some v) : -4611686018427387904<=v/\v<=4611686018427387904/\Lib.itoa v=s:=by
 unfold endR at h
 split at h
 ·simp only [Option.some.injEq] at h;subst h;assumption
 ·cases h
theorem numR_eq (s:List UInt8):numR s=numF s:=by
 cases hR:numR s with
 | some v =>
  have : -4611686018427387904<=v/\v<=4611686018427387904/\Lib.itoa v=s:=by
   unfold numR at hR
   split at hR
   ·cases hR
   ·split at hR
    ·cases hR
    ·exact endR_some hR
  exact (numF_of this.1 this.2.1 this.2.2).symm
 | none =>
  cases hF:numF s with
  | none=>rfl
  | some v =>
   have : -4611686018427387904<=v/\v<=4611686018427387904/\Lib.itoa v=s:=by
    unfold numF at hF
    split at hF
    ·split at hF
     ·simp only [Option.some.injEq] at hF;subst hF;assumption
     ·cases hF
    ·cases hF
   rw [numR_of this.1 this.2.1 this.2.2] at hR
   cases hR
open Go Go.RowKit Go.BigFrame Go.Maps
theorem ba_list (s:ByteArray):s.toList=s.data.toList:=by simp [ByteArray.toList_eq]
theorem ba_len (s:ByteArray):s.data.toList.length=s.size:=Array.length_toList
theorem loopR_step {s:ByteArray} {k a:Nat} {r:Option Nat} (h:r=loopR a (s.data.toList.drop k)) (hk:k<s.size) (h1:48<=s[k].toNat) (h2:s[k].toNat<=57) (h3:a<=461168601842738790) :
  Hid (r=loopR (10*a+(s[k].toNat-48)) (s.data.toList.drop (k+1))):=by
 unfold Hid
 rw [h,List.drop_eq_getElem_cons (by simpa using hk)]
 rw [show (s.data.toList[k]'(by simpa using hk))=s[k] from rfl,loopR,if_neg (by omega)]
theorem loopR_stop {s:ByteArray} {k a:Nat} {r:Option Nat} (h:r=loopR a (s.data.toList.drop k)) (hk:k<s.size) (hh:s[k].toNat<48\/57<s[k].toNat\/461168601842738790<a):r=none:=by
 rw [h,List.drop_eq_getElem_cons (by simpa using hk)]
 rw [show (s.data.toList[k]'(by simpa using hk))=s[k] from rfl,loopR,if_pos hh]
theorem endR_no {s:List UInt8} {v:Int} (h:v < -4611686018427387904\/4611686018427387904<v):endR s v=none:=by
 rw [endR,if_neg (by omega)]
theorem endR_is {s:ByteArray} {v:Int} (h0 : -4611686018427387904<=v) (h1:v<=4611686018427387904) (h:(mkB (Lib.itoa v)).toList=s.toList):endR s.data.toList v=some v:=by
 have e:Lib.itoa v=s.data.toList:=by
  rw [ba_list,ba_list] at h
  simpa [mkB] using h
 rw [endR,if_pos ⟨h0,h1,e⟩]
theorem endR_isnt {s:ByteArray} {v:Int} (h:¬(mkB (Lib.itoa v)).toList=s.toList):endR s.data.toList v=none:=by
 rw [endR,if_neg]
 rintro ⟨_,_,e⟩
 apply h
 rw [e];simp [mkB]
theorem numberR_any (s:ByteArray) (w:World) :
  Calls Tryz.prog 102 #[.string s] w fun e w'=>e=.returned (twoN (numF s.data.toList))/\Bz w w':=by
 rw [<-numR_eq]
 by_cases hbad:s.toList.isEmpty=true\/20<s.size
 ·have h0:Hid (numR s.data.toList=none):=by
   unfold Hid
   rw [numR,if_pos]
   rcases hbad with h | h
   ·left;rw [<-ba_list];simpa using h
   ·right;simpa using h
  rcases hbad with h | h
  ·have h1:s.toList=[]:=by simpa using h
   have h2:(!s.toList.isEmpty)=false:=by rw [h];rfl
   go_enter Tryz.func102,Tryz.ntmps102
   go_wp2_with fail
   go_ret2
   exact ⟨by rw [h0.out];rfl,Below.refl _ _⟩
  ·have h1:s.toList.isEmpty=false:=by
    rw [ba_list]
    cases hl:s.data.toList with
    | nil=>have:=congrArg List.length hl;rw [ba_len,List.length_nil] at this;omega
    | cons=>rfl
   have h3:decide (20<s.size)=true:=by simpa using h
   go_enter Tryz.func102,Tryz.ntmps102
   go_wp2_with fail
   go_ret2
   exact ⟨by rw [h0.out];rfl,Below.refl _ _⟩
 ·have hne:s.toList.isEmpty=false:=by simp only [not_or] at hbad;simpa using hbad.1
  have hsz:s.size<=20:=by simp only [not_or] at hbad;omega
  have hpos:0<s.size:=by
   rcases Nat.eq_zero_or_pos s.size with h | h
   ·rw [ba_list] at hne
    have:s.data.toList=[]:=List.eq_nil_of_length_eq_zero (by simpa using h)
    rw [this] at hne;cases hne
   ·exact h
  have hlen:decide (20<(s.size:Int))=false:=by simp;omega
  have hnum:Hid (numR s.data.toList=match loopR 0 (bodyR s.data.toList) with | none=>none | some a=>endR s.data.toList (signR s.data.toList a)):=by
   unfold Hid
   have hc:¬(s.data.toList=[]\/20<s.data.toList.length):=by
    rintro (h | h)
    ·have:=congrArg List.length h;rw [ba_len,List.length_nil] at this;omega
    ·simp at h;omega
   unfold numR
   exact if_neg hc
  have hhead:s.data.toList.head?=some s[0]:=by
   rw [List.head?_eq_getElem?,gZ (by simpa using hpos)];rfl
  have hhead':=hdZ hhead
  clear hhead hbad
  by_cases hm:s[0]=45
  ·have hm1:((s[0].toNat:Int)==45)=true:=by rw [hm];rfl
   have hbd:Hid (bodyR s.data.toList=s.data.toList.drop 1):=by
    unfold Hid bodyR;rw [hhead'.out];simp [hm]
   have hsg:Hid (∀a:Nat,signR s.data.toList a = -(a:Int)):=by
    unfold Hid;intro a;unfold signR;rw [hhead'.out];simp [hm]
   have hm':=hdZ hm
   clear hm
   go_enter Tryz.func102,Tryz.ntmps102
   go_wp2_with fail
   go_loopw [4,6] (fun n i wr=>w=wr/\∃k a:Nat,1<=k/\k<=s.size/\a<=4611686018427387909/\i=.int .i64 k/\n=.int .i64 a/\Hid (loopR 0 (bodyR s.data.toList)=loopR a (s.data.toList.drop k))) (fun _ i _=>s.size-(intOf i).toNat)
   case atStart=>exact ⟨rfl,1,0,by omega,by omega,by omega,rfl,rfl,by rw [hbd.out];exact rfl⟩
   case round =>
    obtain ⟨rfl,k,a,hk1,hk2,ha,rfl,rfl,hsame⟩:=hrel
    by_cases hlt:k<s.size
    ·by_cases hc:s[k].toNat<48\/57<s[k].toNat\/461168601842738790<a
     ·have hno:Hid (numR s.data.toList=none):=by unfold Hid;rw [hnum.out,loopR_stop hsame.out hlt hc]
      rcases hc with hc | hc | hc
      all_goals
       go_wp2_with fail
       all_goals first
        | (exfalso;omega)
        | (go_ret2;exact ⟨by rw [hno.out];rfl,Below.refl _ _⟩)
     ·simp only [not_or,Nat.not_lt] at hc
      obtain ⟨hc1,hc2,hc3⟩:=hc
      have hst:=loopR_step hsame.out hlt hc1 hc2 hc3
      go_wp2_with fail
      go_roundw
      case rel=>exact ⟨trivial,k+1,10*a+(s[k].toNat-48),by omega,by omega,by omega,by go_num,by go_num,hst⟩
      case measure=>simp [intOf];omega
    ·have hend:Hid (numR s.data.toList=endR s.data.toList (-(a:Int))):=by
      unfold Hid
      rw [hnum.out,hsame.out,List.drop_eq_nil_of_le (by rw [ba_len];omega),loopR]
      simp only
      rw [hsg.out]
     by_cases hbig:4611686018427387904<a
     ·go_wp2_with fail
      all_goals first
       | (exfalso;omega)
       | (go_ret2;exact ⟨by rw [hend.out,endR_no (by omega)];rfl,Below.refl _ _⟩)
     ·go_wp2_with fail
      all_goals try (exfalso;omega)
      refine (digits_any (-(a:Int)) w (by omega) (by omega)).mono ?_
      rintro e w1 ⟨rfl,hb1⟩
      by_cases hq:(mkB (Lib.itoa (-(a:Int)))).toList=s.toList
      ·have hq1:((mkB (Lib.itoa (-(a:Int)))).toList==s.toList)=true:=by simp [hq]
       have hfin:=hdZ (endR_is (by omega) (by omega) hq)
       clear hq
       go_wp2_with fail
       all_goals try (exfalso;simp_all;omega)
       go_ret2
       exact ⟨by rw [hend.out,hfin.out];rfl,hb1⟩
      ·have hq1:((mkB (Lib.itoa (-(a:Int)))).toList==s.toList)=false:=by simp [hq]
       have hfin:=hdZ (endR_isnt hq)
       clear hq
       go_wp2_with fail
       all_goals try (exfalso;simp_all;omega)
       go_ret2
       exact ⟨by rw [hend.out,hfin.out];rfl,hb1⟩
  ·have hm1:((s[0].toNat:Int)==45)=false:=by
    simp only [beq_eq_false_iff_ne,ne_eq]
    intro e
    apply hm
    apply UInt8.toNat_inj.1
    show s[0].toNat=45
    omega
   have hbd:Hid (bodyR s.data.toList=s.data.toList.drop 0):=by
    unfold Hid bodyR;rw [hhead'.out];simp [hm]
   have hsg:Hid (∀a:Nat,signR s.data.toList a=(a:Int)):=by
    unfold Hid;intro a;unfold signR;rw [hhead'.out];simp [hm]
   have hm':=hdZ hm
   clear hm
   go_enter Tryz.func102,Tryz.ntmps102
   go_wp2_with fail
   go_loopw [4,6] (fun n i wr=>w=wr/\∃k a:Nat,0<=k/\k<=s.size/\a<=4611686018427387909/\i=.int .i64 k/\n=.int .i64 a/\Hid (loopR 0 (bodyR s.data.toList)=loopR a (s.data.toList.drop k))) (fun _ i _=>s.size-(intOf i).toNat)
   case atStart=>exact ⟨rfl,0,0,by omega,by omega,by omega,rfl,rfl,by rw [hbd.out];exact rfl⟩
   case round =>
    obtain ⟨rfl,k,a,hk1,hk2,ha,rfl,rfl,hsame⟩:=hrel
    by_cases hlt:k<s.size
    ·by_cases hc:s[k].toNat<48\/57<s[k].toNat\/461168601842738790<a
     ·have hno:Hid (numR s.data.toList=none):=by unfold Hid;rw [hnum.out,loopR_stop hsame.out hlt hc]
      rcases hc with hc | hc | hc
      all_goals
       go_wp2_with fail
       all_goals first
        | (exfalso;omega)
        | (go_ret2;exact ⟨by rw [hno.out];rfl,Below.refl _ _⟩)
     ·simp only [not_or,Nat.not_lt] at hc
      obtain ⟨hc1,hc2,hc3⟩:=hc
      have hst:=loopR_step hsame.out hlt hc1 hc2 hc3
      go_wp2_with fail
      go_roundw
      case rel=>exact ⟨trivial,k+1,10*a+(s[k].toNat-48),by omega,by omega,by omega,by go_num,by go_num,hst⟩
      case measure=>simp [intOf];omega
    ·have hend:Hid (numR s.data.toList=endR s.data.toList ((a:Int))):=by
      unfold Hid
      rw [hnum.out,hsame.out,List.drop_eq_nil_of_le (by rw [ba_len];omega),loopR]
      simp only
      rw [hsg.out]
     by_cases hbig:4611686018427387904<a
     ·go_wp2_with fail
      all_goals first
       | (exfalso;omega)
       | (go_ret2;exact ⟨by rw [hend.out,endR_no (by omega)];rfl,Below.refl _ _⟩)
     ·go_wp2_with fail
      all_goals try (exfalso;omega)
      refine (digits_any ((a:Int)) w (by omega) (by omega)).mono ?_
      rintro e w1 ⟨rfl,hb1⟩
      by_cases hq:(mkB (Lib.itoa ((a:Int)))).toList=s.toList
      ·have hq1:((mkB (Lib.itoa ((a:Int)))).toList==s.toList)=true:=by simp [hq]
       have hfin:=hdZ (endR_is (by omega) (by omega) hq)
       clear hq
       go_wp2_with fail
       all_goals try (exfalso;simp_all;omega)
       go_ret2
       exact ⟨by rw [hend.out,hfin.out];rfl,hb1⟩
      ·have hq1:((mkB (Lib.itoa ((a:Int)))).toList==s.toList)=false:=by simp [hq]
       have hfin:=hdZ (endR_isnt hq)
       clear hq
       go_wp2_with fail
       all_goals try (exfalso;simp_all;omega)
       go_ret2
       exact ⟨by rw [hend.out,hfin.out];rfl,hb1⟩
theorem occ_iff (s t:ByteArray) (k:Nat):Lib.occAt s.data.toList t.data.toList k=true ↔ (s.data.toList.drop k).take t.size=t.data.toList:=by
 unfold Lib.occAt
 rw [List.isPrefixOf_iff_prefix,List.prefix_iff_eq_take,ba_len]
 exact eq_comm
theorem ext_list (s:ByteArray) (a b:Nat):(s.extract a b).toList=(s.data.toList.drop a).take (b-a):=by
 rw [ba_list]
 simp [ByteArray.data_extract]
theorem contains_yes {s t:ByteArray} {k:Nat} (hk:k<=s.size) (h:(s.extract k (k+t.size)).toList=t.toList):Lib.contains s.data.toList t.data.toList=true:=by
 have ho:Lib.occAt s.data.toList t.data.toList k=true:=by
  rw [occ_iff,<-ba_list t,<-h,ext_list];congr 1;omega
 unfold Lib.contains
 rcases Lib.index_spec s.data.toList t.data.toList with ⟨_,h2⟩ | ⟨i,h1,_⟩
 ·rw [h2 k (by rw [ba_len];exact hk)] at ho;cases ho
 ·rw [h1];simp
theorem contains_no {s t:ByteArray} (h:∀k,k+t.size<=s.size->¬(s.extract k (k+t.size)).toList=t.toList):Lib.contains s.data.toList t.data.toList=false:=by
 unfold Lib.contains
 have hr:=Lib.index_room s.data.toList t.data.toList
 rcases Lib.index_spec s.data.toList t.data.toList with ⟨h1,_⟩ | ⟨i,h1,_,h3,_⟩
 ·rw [h1];rfl
 ·have:=hr (by rw [h1];omega)
  rw [h1,ba_len,ba_len] at this
  exfalso
  apply h i (by omega)
  rw [ext_list,ba_list t,<-(occ_iff s t i).1 h3]
  congr 1;omega
theorem within_any (s t:ByteArray) (w:World) (hs:s.size<=4000000) (ht:t.size<=4000000) :
  Calls Tryz.prog 104 #[.string s,.string t] w fun e w'=>e=.returned (.bool (Lib.contains s.data.toList t.data.toList))/\w=w':=by
 go_enter Tryz.func104,Tryz.ntmps104
 go_wp2_with fail
 go_loopw [5] (fun i wr=>w=wr/\∃k:Nat,k<=s.size+1/\i=.int .i64 k/\Hid (∀j,j<k->¬(s.extract j (j+t.size)).toList=t.toList)) (fun i _=>s.size+1-(intOf i).toNat)
 case atStart=>exact ⟨rfl,0,by omega,rfl,fun j hj=>by omega⟩
 case round =>
  obtain ⟨rfl,k,hk,rfl,hno⟩:=hrel
  by_cases hlt:k+t.size<=s.size
  ·by_cases hq:(s.extract k (k+t.size)).toList=t.toList
   ·have hq1:((s.extract k (k+t.size)).toList==t.toList)=true:=by simp [hq]
    have hy:=hdZ (contains_yes (by omega) hq)
    clear hq
    go_wp2_with fail
    all_goals try (exfalso;omega)
    go_ret
    exact ⟨by rw [hy.out];rfl,rfl⟩
   ·have hq1:((s.extract k (k+t.size)).toList==t.toList)=false:=by simp [hq]
    have hn:Hid (∀j,j<k+1->¬(s.extract j (j+t.size)).toList=t.toList):=by
     intro j hj
     by_cases e:j=k
     ·subst e;exact hq
     ·exact hno.out j (by omega)
    clear hq
    go_wp2_with fail
    all_goals try (exfalso;omega)
    go_roundw
    case rel=>exact ⟨trivial,k+1,by omega,by go_num,hn⟩
    case measure=>simp [intOf];omega
  ·have hy:Hid (Lib.contains s.data.toList t.data.toList=false):=contains_no fun j hj=>hno.out j (by omega)
   go_wp2_with fail
   all_goals try (exfalso;omega)
   go_ret
   exact ⟨by rw [hy.out];rfl,rfl⟩
theorem so_any (b:Bool) (w:World):Calls Tryz.prog 103 #[.bool b] w fun e w'=>e=.returned (.int .i64 (soT b))/\w=w':=by
 cases b
 all_goals
  go_enter Tryz.func103,Tryz.ntmps103
  go_wp2_with fail
  go_ret
  exact ⟨rfl,rfl⟩
end Go.Proofs.YtdjmckjbibfecaaGreatDoor

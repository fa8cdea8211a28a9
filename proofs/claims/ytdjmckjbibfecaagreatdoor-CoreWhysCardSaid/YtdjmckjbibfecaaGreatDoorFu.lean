import Derived.Test.YtdjmckjbibfecaaGreatDoorFb
import Derived.Test.YtdjmckjbibfecaaGreatDoorFt
namespace Go.Proofs.YtdjmckjbibfecaaGreatDoor
open Go Go.RowKit Go.BigFrame Go.Maps
set_option maxRecDepth 100000
set_option maxHeartbeats 12800000
def fixN (q:Nat):ByteArray:=if q=0 then nSeller else if q=1 then nBuyer else nCurrency
def fixT (c:Crd) (q:Nat):ByteArray:=if q=0 then c.beneficiary else if q=1 then c.applicant else c.currency
def fixF (c:Crd) (a:Int) (d:Pap) (q:Nat):List Flt:=askF a d (fixN q) (isW (fixT c q))
theorem invoice_eq (c:Crd) (a:Int) (d:Pap):invoiceF c a d=(List.range 3).flatMap (fixF c a d)++askF a d nSum (sumW c):=by
 simp [invoiceF,fixF,fixN,fixT,List.range_succ]
def fixC:Array Value:=#[.string nSeller,.string nBuyer,.string nCurrency]
def fixWC (c:Crd):Array Value:=#[.string c.beneficiary,.string c.applicant,.string c.currency]
theorem fixC_get {q:Nat} (h:q<3):fixC[q]?=some (.string (fixN q)):=by
 rcases q with _ | _ | _ | q
 ·rfl
 ·rfl
 ·rfl
 ·omega
theorem fixWC_get {c:Crd} {q:Nat} (h:q<3):(fixWC c)[q]?=some (.string (fixT c q)):=by
 rcases q with _ | _ | _ | q
 ·rfl
 ·rfl
 ·rfl
 ·omega
theorem askF_no {a:Int} {d:Pap} {s:ByteArray} {f:ByteArray->Int} (h:getB d.fields s=false):askF a d s f=[⟨a,d.kind,s,1⟩]:=by unfold askF;rw [get_none h]
theorem askF_yes {a:Int} {d:Pap} {s:ByteArray} {f:ByteArray->Int} {v:ByteArray} (h:getB d.fields s=true) (hv:getV d.fields s=v):askF a d s f=if f v=0 then [] else [⟨a,d.kind,s,f v⟩]:=by unfold askF;rw [get_some h,hv]
theorem flat_range_le {α:Type} (f:Nat->List α) (h:∀q,(f q).length<=1):∀q:Nat,((List.range q).flatMap f).length<=q
 | 0=>by simp
 | q+1=>by
  have:=flat_range_le f h q
  have:=h q
  rw [range_snoc,List.length_append];omega
theorem numF_range {l:List UInt8} {n:Int} (h:numF l=some n) : -4611686018427387904<=n/\n<=4611686018427387904:=by
 unfold numF at h
 split at h
 ·split at h
  ·rename_i hh
   obtain rfl:=Option.some.inj h
   exact ⟨hh.1,hh.2.1⟩
  ·cases h
 ·cases h
theorem fixed_any (C:Array Value) (c:Crd) (hC:Hid (CrdAt C c)) (hO:Hid c.okC) (dk:Int) (dn di:ByteArray) (dA:Option Addr) (dc:Nat) (df:List Fld) (fl:Nat) (hfl0:Hid (df.length=fl)) (hfl:fl<=maxLen) (a:Int) (day:Int) (hday : -1073741824<=day/\day<=1073741824) (w:World) (hfd:Hid (FieldsAt w dA df)) :
  Calls Tryz.prog 113 #[.agg C,.agg #[.int .i64 dk,.string dn,.string di,.slice dA fl dc],.int .i64 a,.int .i64 day] w fun e w'=>∃v,e=.returned v/\w'.ownsRow w.heap.size 54 4 v (fixedF c day a ⟨dk,dn,di,dA,dc,df⟩).length (fcells (fixedF c day a ⟨dk,dn,di,dA,dc,df⟩))/\Bz w w':=by
 obtain ⟨i0,hi,hz0,hz1,hz2⟩:=info_parts Tryz.info54
 obtain ⟨hd0,hd1⟩:=hday
 have hsz:Hid ((Tryz.prog.info? 46).map (·.size)=some C.size):=by unfold Hid;rw [hC.out.size];kernel_rfl
 have hfl':=hdZ hfl
 clear hfl
 have hb0:=hdZ (((Below.refl _ w).alloc leZ (.cells C 46)).alloc (by simp) (.cells #[.int .i64 dk,.string dn,.string di,.slice dA fl dc] 61))
 have hbk:=hdZ ((Blk.new w 46 C).alloc (.cells #[.int .i64 dk,.string dn,.string di,.slice dA fl dc] 61))
 have hbd:=hdZ (blk_second w (.cells C 46) 61 #[.int .i64 dk,.string dn,.string di,.slice dA fl dc])
 obtain ⟨w0,hw0⟩:=nmZ ((w.alloc (.cells C 46)).alloc (.cells #[.int .i64 dk,.string dn,.string di,.slice dA fl dc] 61))
 have hs0:Hid (w0.heap.size=w.heap.size+1+1):=by unfold Hid;rw [<-hw0.out,World.size_alloc,World.size_alloc]
 rw [hw0.out] at hb0 hbk hbd
 have hnew:=hdZ (own_new w0 54 4)
 have hb1:=hdZ ((Below.refl _ w0).alloc (by rw [hs0.out];exact Nat.le_refl (w.heap.size+1+1)) (.cells #[] 54))
 have hbk1:=hdZ (hbk.out.alloc (.cells #[] 54))
 have hbd1:=hdZ (hbd.out.alloc (.cells #[] 54))
 obtain ⟨w1,hw1⟩:=nmZ (w0.alloc (.cells #[] 54))
 rw [hw1.out] at hnew hb1 hbk1 hbd1
 rw [hs0.out] at hnew
 have hs1:Hid (w1.heap.size=w.heap.size+1+1+1):=by unfold Hid;rw [<-hw1.out,World.size_alloc,hs0.out]
 have e0:w1.cell? ⟨w.heap.size+1,0,none⟩=some (.int .i64 dk):=hbd1.out.cell 0
 by_cases hk0:dk=0
 ·subst hk0
  have hres:Hid (fixedF c day a ⟨0,dn,di,dA,dc,df⟩=(List.range 3).flatMap (fixF c a ⟨0,dn,di,dA,dc,df⟩)++askF a ⟨0,dn,di,dA,dc,df⟩ nSum (sumW c)):=by
   unfold Hid fixedF;rw [if_pos rfl,invoice_eq]
  go_enter Tryz.func113,Tryz.ntmps113
  go_wp2_with fail
  try simp only [World.size_alloc]
  rw [hw0.out]
  rw [show w0.alloc (.cells #[] 54)=w1 from hw1.out]
  go_cut [10,11] (fun n' t' wx=>∃gn gt,n'=.slice (some ⟨gn,0,none⟩) 3 3/\t'=.slice (some ⟨gt,0,none⟩) 3 3/\Hid (Blk wx gn 9 fixC)/\Hid (Blk wx gt 9 (fixWC c))/\Hid (Bz w1 wx))
  case first =>
   have c1:w1.cell? ⟨w.heap.size,1,none⟩=some (.string c.applicant):=(hbk1.out.cell 1).trans hC.out.applicant
   have c2:w1.cell? ⟨w.heap.size,2,none⟩=some (.string c.beneficiary):=(hbk1.out.cell 2).trans hC.out.beneficiary
   have c7:w1.cell? ⟨w.heap.size,7,none⟩=some (.string c.currency):=(hbk1.out.cell 7).trans hC.out.currency
   have hS:Hid (∀W,Bz w1 W->W.cell? ⟨w.heap.size,1,none⟩=some (.string c.applicant)/\W.cell? ⟨w.heap.size,2,none⟩=some (.string c.beneficiary)/\W.cell? ⟨w.heap.size,7,none⟩=some (.string c.currency)):=fun W hW=>⟨(hW.cell (p:=⟨_,1,none⟩) hbk1.out.lt).trans c1,(hW.cell (p:=⟨_,2,none⟩) hbk1.out.lt).trans c2,(hW.cell (p:=⟨_,7,none⟩) hbk1.out.lt).trans c7⟩
   clear c1 c2 c7
   go_region_held3 (fun W=>W.cell? ⟨w.heap.size,1,none⟩=some (.string c.applicant)/\W.cell? ⟨w.heap.size,2,none⟩=some (.string c.beneficiary)/\W.cell? ⟨w.heap.size,7,none⟩=some (.string c.currency)) (first | exact hS.out _ (Below.refl _ _).drew | exact hS.out _ ((Below.refl _ _).alloc leZ _).drew | exact hS.out _ (((Below.refl _ _).alloc leZ _).alloc (by simp) _).drew) (fail)
   all_goals
    go_wp2_with fail
    go_meet
    case rel =>
     refine ⟨_,_,rfl,rfl,?_,?_,?_⟩
     ·first | exact (blk_second _ _ _ _).drew | exact ((Blk.new _ _ _).alloc _).drew
     ·first | exact (blk_second _ _ _ _).drew | exact ((Blk.new _ _ _).alloc _).drew
     ·exact (((Below.refl _ _).alloc leZ _).alloc (by simp) _).drew
  case rest =>
   obtain ⟨gn,gt,rfl,rfl,hgn,hgt,hBc⟩:=hcut
   have hBc0:Hid (Below (w.heap.size+1+1) w0 wc):=hb1.out.trans (hBc.out.mono (by have:=hs1.out;omega))
   have hnc:=hdZ (own_below hnew.out hBc.out)
   go_wp2_with fail
   go_loopw [9,12,13,14] (fun v i _ _ wr=>∃q:Nat,q<=3/\i=.int .i64 q/\Hid (wr.ownsRow (w.heap.size+1+1) 54 4 v ((List.range q).flatMap (fixF c a ⟨0,dn,di,dA,dc,df⟩)).length (fcells ((List.range q).flatMap (fixF c a ⟨0,dn,di,dA,dc,df⟩))))/\Hid (Below (w.heap.size+1+1) w0 wr)/\Hid (Blk wr gn 9 fixC)/\Hid (Blk wr gt 9 (fixWC c))) (fun _ i _ _ _=>3-(intOf i).toNat)
   case atStart=>exact ⟨0,by omega,rfl,by unfold Hid;simpa [fcells] using hnc.out,hBc0,hgn,hgt⟩
   case round =>
    clear hnc hgn hgt hBc hBc0 hnew hb1 e0
    obtain ⟨q,hq,rfl,hown,hB,hn,ht⟩:=hrel
    have hBw:Hid (Bz w wr):=hb0.out.trans (hB.out.mono (by omega))
    have hgr:Hid (w.heap.size+1+1<=wr.heap.size):=by have:=hB.out.size;have:=hs0.out;unfold Hid;omega
    have hbdr:=hdZ (hbd.out.below hB.out (by have:=hs0.out;omega))
    have f3:wr.cell? ⟨w.heap.size+1,3,none⟩=some (.slice dA fl dc):=hbdr.out.cell 3
    by_cases hlt:q<3
    ·have hst:Hid ((List.range (q+1)).flatMap (fixF c a ⟨0,dn,di,dA,dc,df⟩)=_):=range_snoc _ q
     obtain ⟨pre,hpr⟩:=nmZ ((List.range q).flatMap (fixF c a ⟨0,dn,di,dA,dc,df⟩))
     have hpl:pre.length<=3:=by
      have:=flat_range_le (fixF c a ⟨0,dn,di,dA,dc,df⟩) (fun q=>askF_le _ _ _ _) q
      rw [<-hpr.out];omega
     rw [hpr.out] at hst hown
     have hl1:Hid (pre.length+1<=maxLen):=by unfold Hid maxLen;omega
     have hl2:Hid ((pre.length+1)*40<=140737488355328):=by unfold Hid;omega
     clear hpl
     obtain ⟨s,hs⟩:=nmZ (fixN q)
     obtain ⟨t,hsx⟩:=nmZ (fixT c q)
     have nq0:wr.cell? ⟨gn,q,none⟩=some (.string s):=by rw [hn.out.cell,fixC_get hlt,hs.out]
     obtain ⟨gv,hgv⟩:=nmZ (getV df s)
     obtain ⟨gb,hgb⟩:=nmZ (getB df s)
     have hGet:Hid (∀y:Ext wr,Calls Tryz.prog 101 #[.slice dA fl dc,.string s] y.wd fun e w'=>e=.returned (.tuple #[.string (getV df s),.bool (getB df s)])/\Below y.wd.heap.size y.wd w'):=fun y=>getR_any dA fl dc df s y.wd hfl'.out hfl0 (hfd.out.below (hBw.out.trans (y.below.mono hBw.out.size)))
     have hno:Hid (gb=false->fixF c a ⟨0,dn,di,dA,dc,df⟩ q=[⟨a,0,s,1⟩]):=fun h=>by unfold fixF;rw [hs.out];exact askF_no (by rw [<-h];exact hgb.out)
     have hyes:Hid (gb=true->fixF c a ⟨0,dn,di,dA,dc,df⟩ q=if isW t gv=0 then [] else [⟨a,0,s,isW t gv⟩]):=fun h=>by unfold fixF;rw [hs.out,hsx.out];exact askF_yes (by rw [<-h];exact hgb.out) hgv.out
     rw [hgv.out,hgb.out] at hGet
     have y3:∀y:Ext wr,y.wd.cell? ⟨w.heap.size+1,3,none⟩=some (.slice dA fl dc):=fun y=>(y.cell ⟨w.heap.size+1,3,none⟩ hbdr.out.lt).trans f3
     have yn:∀y:Ext wr,y.wd.cell? ⟨gn,q,none⟩=some (.string s):=fun y=>(y.cell ⟨gn,q,none⟩ hn.out.lt).trans nq0
     have i1:(q:Int)<3:=by omega
     have i2:(0:Int)<=(q:Int):=by omega
     clear hgv hgb
     go_wp2_with fail
     refine wp_region_ext (by kernel_rfl) (by kernel_rfl) ?_
     repeat (go_big_quiet_step ((go_at_call 101;exact Calls.ext_of (hGet.out _))))
     refine wpQuiet_nil ?_
     rintro _ ⟨y,rfl⟩
     have hby:=hdZ y.below
     obtain ⟨wy,hwy⟩:∃w6,y.wd=w6:=⟨_,rfl⟩
     rw [hwy] at hby ⊢
     clear hwy y y3 yn hGet nq0 f3
     have hB6:Hid (Below (w.heap.size+1+1) w0 wy):=hB.out.trans (hby.out.mono hgr.out)
     have hg6:Hid (w.heap.size+1+1<=wy.heap.size):=Nat.le_trans hgr.out hby.out.size
     have hown6:=hdZ (own_below hown.out hby.out)
     have hn6:=kbZ hn hby
     have ht6:=kbZ ht hby
     have hbd6:=kbZ hbdr hby
     have hone:Hid (∀(y:Int) (W:World),Bz wy W->Calls Tryz.prog 166 #[.agg #[.int .i64 0,.string dn,.string di,.slice dA fl dc],.int .i64 a,.string s,.int .i64 y] W fun e w'=>e=.returned (.agg #[.int .i64 a,.int .i64 0,.string s,.int .i64 y])/\Bz wy w'):=fun y W hW=>by
      refine (one_any 0 dn di dA fl dc a s y W).mono ?_
      rintro e w' ⟨rfl,h1⟩
      exact ⟨rfl,hW.trans (h1.mono hW.size)⟩
     have hS:Hid (∀W,Bz wy W->W.cell? ⟨w.heap.size+1,0,none⟩=some (.int .i64 0)/\W.cell? ⟨w.heap.size+1,1,none⟩=some (.string dn)/\W.cell? ⟨w.heap.size+1,2,none⟩=some (.string di)/\W.cell? ⟨w.heap.size+1,3,none⟩=some (.slice dA fl dc)/\W.cell? ⟨gn,q,none⟩=some (.string s)):=fun W hW =>
      have hb:=hbd6.out.below hW hbd6.out.lt
      ⟨hb.cell 0,hb.cell 1,hb.cell 2,hb.cell 3,by rw [(hn6.out.below hW hn6.out.lt).cell,fixC_get hlt,hs.out]⟩
     clear hown hn ht hB hby hbdr
     cases gb with
     | false =>
      have hz:=hdZ (hno.out rfl)
      go_wp2_with fail
      go_region_held3 (fun W=>W.cell? ⟨w.heap.size+1,0,none⟩=some (.int .i64 0)/\W.cell? ⟨w.heap.size+1,1,none⟩=some (.string dn)/\W.cell? ⟨w.heap.size+1,2,none⟩=some (.string di)/\W.cell? ⟨w.heap.size+1,3,none⟩=some (.slice dA fl dc)/\W.cell? ⟨gn,q,none⟩=some (.string s)) (first | exact hS.out _ (Below.refl _ _).drew | exact hS.out _ hB2 | exact hS.out _ (hB2.alloc hB2.size _) | exact hS5) (first | (go_at_call 166;(with_reducible refine (hone.out 1 _ ?_).mono ?_);exact (Below.refl _ _).drew;rintro e w2 ⟨rfl,hB2⟩) | (refine step_app_blk (w.heap.size+1+1) rfl (.tmp 52) (.tmp 60) 47 rfl 54 i0 _ 4 40 Tryz.underlying47 hi hz0 hz1 hz2 rfl (by decide) _ pre.length (fcells pre) rfl _ 1 #[.int .i64 a,.int .i64 0,.string s,.int .i64 1] rfl (own_below hown6.out (hB2.alloc hB2.size _)) (Blk.new _ 54 _) rfl (fcell4 _ _ _ _) hl1.out hl2.out (Nat.le_trans hg6.out (Nat.le_trans hB2.size (by simp))) ?_;intro v5 w5 ho5 hb5 hg5;have ho5':=hdZ ho5;have hB9:Hid (Below (w.heap.size+1+1) w0 w5):=((hB6.out.trans (hB2.mono hg6.out)).alloc (Nat.le_trans hg6.out hB2.size) _).trans hb5;have hn9:Hid (Blk w5 gn 9 fixC):=((hn6.out.below hB2 hn6.out.lt).alloc _).grown hg5 (fun h=>own_blk_ne hown6.out hn6.out (by decide) h.symm);have ht9:Hid (Blk w5 gt 9 (fixWC c)):=((ht6.out.below hB2 ht6.out.lt).alloc _).grown hg5 (fun h=>own_blk_ne hown6.out ht6.out (by decide) h.symm);have hbd9:Hid (Blk w5 (w.heap.size+1) 61 #[.int .i64 0,.string dn,.string di,.slice dA fl dc]):=hbd.out.below hB9.out (by have:=hs0.out;omega);have hS5:w5.cell? ⟨w.heap.size+1,0,none⟩=some (.int .i64 0)/\w5.cell? ⟨w.heap.size+1,1,none⟩=some (.string dn)/\w5.cell? ⟨w.heap.size+1,2,none⟩=some (.string di)/\w5.cell? ⟨w.heap.size+1,3,none⟩=some (.slice dA fl dc)/\w5.cell? ⟨gn,q,none⟩=some (.string s):=⟨hbd9.out.cell 0,hbd9.out.cell 1,hbd9.out.cell 2,hbd9.out.cell 3,by rw [hn9.out.cell,fixC_get hlt,hs.out]⟩;clear ho5 hb5 hg5))
      go_wp2_with fail
      go_roundw
      case rel=>exact ⟨q+1,by omega,by go_num,by rw [hst.out,hz.out,fcells_snoc,List.length_append];exact ho5'.out,hB9,hn9,ht9⟩
      case measure=>simp [intOf];omega
     | true =>
      have hzq:=hdZ (hyes.out rfl)
      have tq:wy.cell? ⟨gt,q,none⟩=some (.string t):=by rw [ht6.out.cell,fixWC_get hlt,hsx.out]
      by_cases heq:gv.toList=t.toList
      ·have hz:Hid (fixF c a ⟨0,dn,di,dA,dc,df⟩ q=[]):=by unfold Hid;rw [hzq.out];simp [isW,heq]
       have hq1:(gv.toList==t.toList)=true:=by simp [heq]
       clear heq
       go_wp2_with fail
       go_roundw
       case rel=>exact ⟨q+1,by omega,by go_num,by rw [hst.out,hz.out,List.append_nil];exact hown6.out,hB6,hn6,ht6⟩
       case measure=>simp [intOf];omega
      ·have hz:Hid (fixF c a ⟨0,dn,di,dA,dc,df⟩ q=[⟨a,0,s,3⟩]):=by unfold Hid;rw [hzq.out];simp [isW,heq]
       have hq1:(gv.toList==t.toList)=false:=by simp [heq]
       clear heq
       go_wp2_with fail
       clear tq
       go_region_held3 (fun W=>W.cell? ⟨w.heap.size+1,0,none⟩=some (.int .i64 0)/\W.cell? ⟨w.heap.size+1,1,none⟩=some (.string dn)/\W.cell? ⟨w.heap.size+1,2,none⟩=some (.string di)/\W.cell? ⟨w.heap.size+1,3,none⟩=some (.slice dA fl dc)/\W.cell? ⟨gn,q,none⟩=some (.string s)) (first | exact hS.out _ (Below.refl _ _).drew | exact hS.out _ hB2 | exact hS.out _ (hB2.alloc hB2.size _) | exact hS5) (first | (go_at_call 166;(with_reducible refine (hone.out 3 _ ?_).mono ?_);exact (Below.refl _ _).drew;rintro e w2 ⟨rfl,hB2⟩) | (refine step_app_blk (w.heap.size+1+1) rfl (.tmp 68) (.tmp 76) 47 rfl 54 i0 _ 4 40 Tryz.underlying47 hi hz0 hz1 hz2 rfl (by decide) _ pre.length (fcells pre) rfl _ 1 #[.int .i64 a,.int .i64 0,.string s,.int .i64 3] rfl (own_below hown6.out (hB2.alloc hB2.size _)) (Blk.new _ 54 _) rfl (fcell4 _ _ _ _) hl1.out hl2.out (Nat.le_trans hg6.out (Nat.le_trans hB2.size (by simp))) ?_;intro v5 w5 ho5 hb5 hg5;have ho5':=hdZ ho5;have hB9:Hid (Below (w.heap.size+1+1) w0 w5):=((hB6.out.trans (hB2.mono hg6.out)).alloc (Nat.le_trans hg6.out hB2.size) _).trans hb5;have hn9:Hid (Blk w5 gn 9 fixC):=((hn6.out.below hB2 hn6.out.lt).alloc _).grown hg5 (fun h=>own_blk_ne hown6.out hn6.out (by decide) h.symm);have ht9:Hid (Blk w5 gt 9 (fixWC c)):=((ht6.out.below hB2 ht6.out.lt).alloc _).grown hg5 (fun h=>own_blk_ne hown6.out ht6.out (by decide) h.symm);have hbd9:Hid (Blk w5 (w.heap.size+1) 61 #[.int .i64 0,.string dn,.string di,.slice dA fl dc]):=hbd.out.below hB9.out (by have:=hs0.out;omega);have hS5:w5.cell? ⟨w.heap.size+1,0,none⟩=some (.int .i64 0)/\w5.cell? ⟨w.heap.size+1,1,none⟩=some (.string dn)/\w5.cell? ⟨w.heap.size+1,2,none⟩=some (.string di)/\w5.cell? ⟨w.heap.size+1,3,none⟩=some (.slice dA fl dc)/\w5.cell? ⟨gn,q,none⟩=some (.string s):=⟨hbd9.out.cell 0,hbd9.out.cell 1,hbd9.out.cell 2,hbd9.out.cell 3,by rw [hn9.out.cell,fixC_get hlt,hs.out]⟩;clear ho5 hb5 hg5))
       go_wp2_with fail
       go_roundw
       case rel=>exact ⟨q+1,by omega,by go_num,by rw [hst.out,hz.out,fcells_snoc,List.length_append];exact ho5'.out,hB9,hn9,ht9⟩
       case measure=>simp [intOf];omega
    ·obtain rfl:q=3:=by omega
     have hbkr:=hdZ (hbk.out.below hB.out (by have:=hs0.out;omega))
     obtain ⟨pre,hpr⟩:=nmZ ((List.range 3).flatMap (fixF c a ⟨0,dn,di,dA,dc,df⟩))
     have hpl:pre.length<=3:=by
      have:=flat_range_le (fixF c a ⟨0,dn,di,dA,dc,df⟩) (fun q=>askF_le _ _ _ _) 3
      rw [<-hpr.out];omega
     rw [hpr.out] at hres hown
     have hl1:Hid (pre.length+1<=maxLen):=by unfold Hid maxLen;omega
     have hl2:Hid ((pre.length+1)*40<=140737488355328):=by unfold Hid;omega
     clear hpl hlt hq hn ht
     obtain ⟨gv,hgv⟩:=nmZ (getV df nSum)
     obtain ⟨gb,hgb⟩:=nmZ (getB df nSum)
     go_wp2_with fail
     refine (getR_any dA fl dc df nSum _ hfl'.out hfl0 (hfd.out.below hBw.out)).mono ?_
     rintro e w3 ⟨rfl,hb3⟩
     rw [hgv.out,hgb.out]
     have hB3:Hid (Below (w.heap.size+1+1) w0 w3):=hB.out.trans (hb3.mono hgr.out)
     have hg3:Hid (w.heap.size+1+1<=w3.heap.size):=Nat.le_trans hgr.out hb3.size
     have hown3:=hdZ (own_below hown.out hb3)
     clear hb3 f3
     go_wp2_with fail
     refine (numberR_any gv w3).mono ?_
     rintro e wk ⟨rfl,hb4⟩
     unfold twoN
     have hBk:Hid (Below (w.heap.size+1+1) w0 wk):=hB3.out.trans (hb4.mono hg3.out)
     have hgk:Hid (w.heap.size+1+1<=wk.heap.size):=Nat.le_trans hg3.out hb4.size
     have hownk:=hdZ (own_below hown3.out hb4)
     clear hb4 hown3 hB3 hg3 hown
     have hbdk:=hdZ (hbd.out.below hBk.out (by have:=hs0.out;omega))
     have hbkk:=hdZ (hbk.out.below hBk.out (by have:=hs0.out;omega))
     obtain ⟨k0,k1,k2,k3⟩:=cs4 hbdk.out
     have hno:Hid (gb=false->fixedF c day a ⟨0,dn,di,dA,dc,df⟩=pre++[⟨a,0,nSum,1⟩]):=fun h=>by unfold Hid at *;rw [hres,askF_no (by rw [<-h];exact hgb)]
     have hyes:Hid (gb=true->fixedF c day a ⟨0,dn,di,dA,dc,df⟩=pre++if sumW c gv=0 then [] else [⟨a,0,nSum,sumW c gv⟩]):=fun h=>by unfold Hid at *;rw [hres,askF_yes (by rw [<-h];exact hgb) hgv]
     have hsw:Hid (sumW c gv=match numF gv.data.toList with | none=>2 | some n=>if boundsB c=true/\mostC c<n then 5 else if boundsB c=true/\n<leastY c then 6 else 0):=rfl
     obtain ⟨nr,hnr⟩:=nmZ (numF gv.data.toList)
     rw [hnr.out] at hsw ⊢
     clear hgv hgb hnr
     cases gb with
     | false =>
      have hfin:=hdZ (hno.out rfl)
      go_wp2_with fail
      refine (one_any 0 dn di dA fl dc a nSum 1 _).mono ?_
      rintro e wl ⟨rfl,hbl⟩
      have hBl:Hid (Below (w.heap.size+1+1) w0 wl):=hBk.out.trans (hbl.mono hgk.out)
      have hgl:Hid (w.heap.size+1+1<=wl.heap.size):=Nat.le_trans hgk.out hbl.size
      have hownl:=hdZ (own_below hownk.out hbl)
      clear hbl
      go_wp2_with (at_builtin;(refine wpList_app3 (w.heap.size+1+1) rfl (.tmp 91) (.tmp 95) 47 rfl 54 i0 _ 4 40 Tryz.underlying47 hi hz0 hz1 hz2 rfl (by decide) _ pre.length (fcells pre) rfl wl.heap.size 1 #[.int .i64 a,.int .i64 0,.string nSum,.int .i64 1] rfl (own_below hownl.out ((Below.refl _ _).alloc leZ _)) (Blk.new _ 54 _) rfl (fcell4 _ _ _ _) hl1.out hl2.out (Nat.le_trans hgl.out (by simp)) ?_);intro v5 w5 ho5 hb5 hg5;have ho5':=hdZ ho5;have hB9:Hid (Below (w.heap.size+1+1) w0 w5):=(hBl.out.alloc hgl.out _).trans hb5;have z0:w5.cell? ⟨w.heap.size+1,0,none⟩=some (.int .i64 0):=(hbd.out.below hB9.out (by have:=hs0.out;omega)).cell 0;clear ho5 hb5 hg5)
      go_ret
      refine ⟨_,rfl,?_,hb0.out.trans (hB9.out.mono (by omega))⟩
      rw [hfin.out,fcells_snoc,List.length_append]
      exact own_mono_base ho5'.out (by omega)
     | true =>
      have hfin0:=hdZ (hyes.out rfl)
      rw [hsw.out] at hfin0
      cases nr with
      | none =>
       have hfin:Hid (fixedF c day a ⟨0,dn,di,dA,dc,df⟩=pre++[⟨a,0,nSum,2⟩]):=hfin0.out
       go_wp2_with fail
       refine (one_any 0 dn di dA fl dc a nSum 2 _).mono ?_
       rintro e wl ⟨rfl,hbl⟩
       have hBl:Hid (Below (w.heap.size+1+1) w0 wl):=hBk.out.trans (hbl.mono hgk.out)
       have hgl:Hid (w.heap.size+1+1<=wl.heap.size):=Nat.le_trans hgk.out hbl.size
       have hownl:=hdZ (own_below hownk.out hbl)
       clear hbl
       go_wp2_with (at_builtin;(refine wpList_app3 (w.heap.size+1+1) rfl (.tmp 99) (.tmp 103) 47 rfl 54 i0 _ 4 40 Tryz.underlying47 hi hz0 hz1 hz2 rfl (by decide) _ pre.length (fcells pre) rfl wl.heap.size 1 #[.int .i64 a,.int .i64 0,.string nSum,.int .i64 2] rfl (own_below hownl.out ((Below.refl _ _).alloc leZ _)) (Blk.new _ 54 _) rfl (fcell4 _ _ _ _) hl1.out hl2.out (Nat.le_trans hgl.out (by simp)) ?_);intro v5 w5 ho5 hb5 hg5;have ho5':=hdZ ho5;have hB9:Hid (Below (w.heap.size+1+1) w0 w5):=(hBl.out.alloc hgl.out _).trans hb5;have z0:w5.cell? ⟨w.heap.size+1,0,none⟩=some (.int .i64 0):=(hbd.out.below hB9.out (by have:=hs0.out;omega)).cell 0;clear ho5 hb5 hg5)
       go_ret
       refine ⟨_,rfl,?_,hb0.out.trans (hB9.out.mono (by omega))⟩
       rw [hfin.out,fcells_snoc,List.length_append]
       exact own_mono_base ho5'.out (by omega)
      | some n =>
       simp only [Option.getD_some,Option.isSome_some] at hfin0 ⊢
       obtain ⟨bb,hbb⟩:=nmZ (boundsB c)
       rw [hbb.out] at hfin0
       cases bb with
       | false =>
        have hfin:Hid (fixedF c day a ⟨0,dn,di,dA,dc,df⟩=pre++[]):=by unfold Hid;rw [hfin0.out];simp
        go_wp2_with (refine wpList_load_blkg rfl 46 (.tmp 4) rfl w.heap.size C 46 _ rfl hbkk.out Tryz.underlying46 rfl hsz.out ?_)
        refine (rbounds_any C c hC _).mono ?_
        rintro e wb ⟨rfl,hb7⟩
        rw [hbb.out]
        have hBk':Hid (Below (w.heap.size+1+1) w0 wb):=hBk.out.trans (hb7.mono hgk.out)
        have hgk':Hid (w.heap.size+1+1<=wb.heap.size):=Nat.le_trans hgk.out hb7.size
        have hownk':=hdZ (own_below hownk.out hb7)
        clear hb7 hBk hgk hownk hbkk hbdk k0 k1 k2 k3
        have hBk:=hBk'
        have hgk:=hgk'
        have hownk:=hownk'
        clear hBk' hgk' hownk'
        have hbdk:=hdZ (hbd.out.below hBk.out (by have:=hs0.out;omega))
        have hbkk:=hdZ (hbk.out.below hBk.out (by have:=hs0.out;omega))
        obtain ⟨k0,k1,k2,k3⟩:=cs4 hbdk.out
        go_wp2_with (refine wpList_load_blkg rfl 46 (.tmp 4) rfl w.heap.size C 46 _ rfl hbkk.out Tryz.underlying46 rfl hsz.out ?_)
        refine (rbounds_any C c hC _).mono ?_
        rintro e wd ⟨rfl,hb7⟩
        rw [hbb.out]
        have hBk':Hid (Below (w.heap.size+1+1) w0 wd):=hBk.out.trans (hb7.mono hgk.out)
        have hgk':Hid (w.heap.size+1+1<=wd.heap.size):=Nat.le_trans hgk.out hb7.size
        have hownk':=hdZ (own_below hownk.out hb7)
        clear hb7 hBk hgk hownk hbkk hbdk k0 k1 k2 k3
        have hBk:=hBk'
        have hgk:=hgk'
        have hownk:=hownk'
        clear hBk' hgk' hownk'
        have hbdk:=hdZ (hbd.out.below hBk.out (by have:=hs0.out;omega))
        have hbkk:=hdZ (hbk.out.below hBk.out (by have:=hs0.out;omega))
        obtain ⟨k0,k1,k2,k3⟩:=cs4 hbdk.out
        go_wp2_with fail
        go_ret
        refine ⟨_,rfl,?_,hb0.out.trans (hBk.out.mono (by omega))⟩
        rw [hfin.out,List.append_nil]
        exact own_mono_base hownk.out (by omega)
       | true =>
        by_cases hm:mostC c<n
        ·have hfin:Hid (fixedF c day a ⟨0,dn,di,dA,dc,df⟩=pre++[⟨a,0,nSum,5⟩]):=by unfold Hid;rw [hfin0.out];simp [hm]
         have hq:decide (mostC c<n)=true:=by simp [hm]
         go_wp2_with (refine wpList_load_blkg rfl 46 (.tmp 4) rfl w.heap.size C 46 _ rfl hbkk.out Tryz.underlying46 rfl hsz.out ?_)
         refine (rbounds_any C c hC _).mono ?_
         rintro e wb ⟨rfl,hb7⟩
         rw [hbb.out]
         have hBk':Hid (Below (w.heap.size+1+1) w0 wb):=hBk.out.trans (hb7.mono hgk.out)
         have hgk':Hid (w.heap.size+1+1<=wb.heap.size):=Nat.le_trans hgk.out hb7.size
         have hownk':=hdZ (own_below hownk.out hb7)
         clear hb7 hBk hgk hownk hbkk hbdk k0 k1 k2 k3
         have hBk:=hBk'
         have hgk:=hgk'
         have hownk:=hownk'
         clear hBk' hgk' hownk'
         have hbdk:=hdZ (hbd.out.below hBk.out (by have:=hs0.out;omega))
         have hbkk:=hdZ (hbk.out.below hBk.out (by have:=hs0.out;omega))
         obtain ⟨k0,k1,k2,k3⟩:=cs4 hbdk.out
         go_wp2_with (refine wpList_load_blkg rfl 46 (.tmp 4) rfl w.heap.size C 46 _ rfl hbkk.out Tryz.underlying46 rfl hsz.out ?_)
         refine (rmost_any C c hC hbb.out _).mono ?_
         rintro e wd ⟨rfl,hb7⟩
         have hBk':Hid (Below (w.heap.size+1+1) w0 wd):=hBk.out.trans (hb7.mono hgk.out)
         have hgk':Hid (w.heap.size+1+1<=wd.heap.size):=Nat.le_trans hgk.out hb7.size
         have hownk':=hdZ (own_below hownk.out hb7)
         clear hb7 hBk hgk hownk hbkk hbdk k0 k1 k2 k3
         have hBk:=hBk'
         have hgk:=hgk'
         have hownk:=hownk'
         clear hBk' hgk' hownk'
         have hbdk:=hdZ (hbd.out.below hBk.out (by have:=hs0.out;omega))
         have hbkk:=hdZ (hbk.out.below hBk.out (by have:=hs0.out;omega))
         obtain ⟨k0,k1,k2,k3⟩:=cs4 hbdk.out
         go_wp2_with fail
         refine (one_any 0 dn di dA fl dc a nSum 5 _).mono ?_
         rintro e wl ⟨rfl,hbl⟩
         have hBl:Hid (Below (w.heap.size+1+1) w0 wl):=hBk.out.trans (hbl.mono hgk.out)
         have hgl:Hid (w.heap.size+1+1<=wl.heap.size):=Nat.le_trans hgk.out hbl.size
         have hownl:=hdZ (own_below hownk.out hbl)
         clear hbl
         go_wp2_with (at_builtin;(refine wpList_app3 (w.heap.size+1+1) rfl (.tmp 113) (.tmp 117) 47 rfl 54 i0 _ 4 40 Tryz.underlying47 hi hz0 hz1 hz2 rfl (by decide) _ pre.length (fcells pre) rfl wl.heap.size 1 #[.int .i64 a,.int .i64 0,.string nSum,.int .i64 5] rfl (own_below hownl.out ((Below.refl _ _).alloc leZ _)) (Blk.new _ 54 _) rfl (fcell4 _ _ _ _) hl1.out hl2.out (Nat.le_trans hgl.out (by simp)) ?_);intro v5 w5 ho5 hb5 hg5;have ho5':=hdZ ho5;have hB9:Hid (Below (w.heap.size+1+1) w0 w5):=(hBl.out.alloc hgl.out _).trans hb5;have z0:w5.cell? ⟨w.heap.size+1,0,none⟩=some (.int .i64 0):=(hbd.out.below hB9.out (by have:=hs0.out;omega)).cell 0;clear ho5 hb5 hg5)
         go_ret
         refine ⟨_,rfl,?_,hb0.out.trans (hB9.out.mono (by omega))⟩
         rw [hfin.out,fcells_snoc,List.length_append]
         exact own_mono_base ho5'.out (by omega)
        ·have hq:decide (mostC c<n)=false:=by simp [hm]
         go_wp2_with (refine wpList_load_blkg rfl 46 (.tmp 4) rfl w.heap.size C 46 _ rfl hbkk.out Tryz.underlying46 rfl hsz.out ?_)
         refine (rbounds_any C c hC _).mono ?_
         rintro e wb ⟨rfl,hb7⟩
         rw [hbb.out]
         have hBk':Hid (Below (w.heap.size+1+1) w0 wb):=hBk.out.trans (hb7.mono hgk.out)
         have hgk':Hid (w.heap.size+1+1<=wb.heap.size):=Nat.le_trans hgk.out hb7.size
         have hownk':=hdZ (own_below hownk.out hb7)
         clear hb7 hBk hgk hownk hbkk hbdk k0 k1 k2 k3
         have hBk:=hBk'
         have hgk:=hgk'
         have hownk:=hownk'
         clear hBk' hgk' hownk'
         have hbdk:=hdZ (hbd.out.below hBk.out (by have:=hs0.out;omega))
         have hbkk:=hdZ (hbk.out.below hBk.out (by have:=hs0.out;omega))
         obtain ⟨k0,k1,k2,k3⟩:=cs4 hbdk.out
         go_wp2_with (refine wpList_load_blkg rfl 46 (.tmp 4) rfl w.heap.size C 46 _ rfl hbkk.out Tryz.underlying46 rfl hsz.out ?_)
         refine (rmost_any C c hC hbb.out _).mono ?_
         rintro e wd ⟨rfl,hb7⟩
         have hBk':Hid (Below (w.heap.size+1+1) w0 wd):=hBk.out.trans (hb7.mono hgk.out)
         have hgk':Hid (w.heap.size+1+1<=wd.heap.size):=Nat.le_trans hgk.out hb7.size
         have hownk':=hdZ (own_below hownk.out hb7)
         clear hb7 hBk hgk hownk hbkk hbdk k0 k1 k2 k3
         have hBk:=hBk'
         have hgk:=hgk'
         have hownk:=hownk'
         clear hBk' hgk' hownk'
         have hbdk:=hdZ (hbd.out.below hBk.out (by have:=hs0.out;omega))
         have hbkk:=hdZ (hbk.out.below hBk.out (by have:=hs0.out;omega))
         obtain ⟨k0,k1,k2,k3⟩:=cs4 hbdk.out
         go_wp2_with (refine wpList_load_blkg rfl 46 (.tmp 4) rfl w.heap.size C 46 _ rfl hbkk.out Tryz.underlying46 rfl hsz.out ?_)
         refine (rbounds_any C c hC _).mono ?_
         rintro e we ⟨rfl,hb7⟩
         rw [hbb.out]
         have hBk':Hid (Below (w.heap.size+1+1) w0 we):=hBk.out.trans (hb7.mono hgk.out)
         have hgk':Hid (w.heap.size+1+1<=we.heap.size):=Nat.le_trans hgk.out hb7.size
         have hownk':=hdZ (own_below hownk.out hb7)
         clear hb7 hBk hgk hownk hbkk hbdk k0 k1 k2 k3
         have hBk:=hBk'
         have hgk:=hgk'
         have hownk:=hownk'
         clear hBk' hgk' hownk'
         have hbdk:=hdZ (hbd.out.below hBk.out (by have:=hs0.out;omega))
         have hbkk:=hdZ (hbk.out.below hBk.out (by have:=hs0.out;omega))
         obtain ⟨k0,k1,k2,k3⟩:=cs4 hbdk.out
         by_cases hl:n<leastY c
         ·have hfin:Hid (fixedF c day a ⟨0,dn,di,dA,dc,df⟩=pre++[⟨a,0,nSum,6⟩]):=by unfold Hid;rw [hfin0.out];simp only [true_and];rw [if_neg (show ¬mostC c<n by omega),if_pos hl];simp
          have hq2:decide (n<leastY c)=true:=by simp [hl]
          go_wp2_with (refine wpList_load_blkg rfl 46 (.tmp 4) rfl w.heap.size C 46 _ rfl hbkk.out Tryz.underlying46 rfl hsz.out ?_)
          refine (rleast_any C c hC hbb.out _).mono ?_
          rintro e wf ⟨rfl,hb7⟩
          have hBk':Hid (Below (w.heap.size+1+1) w0 wf):=hBk.out.trans (hb7.mono hgk.out)
          have hgk':Hid (w.heap.size+1+1<=wf.heap.size):=Nat.le_trans hgk.out hb7.size
          have hownk':=hdZ (own_below hownk.out hb7)
          clear hb7 hBk hgk hownk hbkk hbdk k0 k1 k2 k3
          have hBk:=hBk'
          have hgk:=hgk'
          have hownk:=hownk'
          clear hBk' hgk' hownk'
          have hbdk:=hdZ (hbd.out.below hBk.out (by have:=hs0.out;omega))
          have hbkk:=hdZ (hbk.out.below hBk.out (by have:=hs0.out;omega))
          obtain ⟨k0,k1,k2,k3⟩:=cs4 hbdk.out
          go_wp2_with fail
          refine (one_any 0 dn di dA fl dc a nSum 6 _).mono ?_
          rintro e wl ⟨rfl,hbl⟩
          have hBl:Hid (Below (w.heap.size+1+1) w0 wl):=hBk.out.trans (hbl.mono hgk.out)
          have hgl:Hid (w.heap.size+1+1<=wl.heap.size):=Nat.le_trans hgk.out hbl.size
          have hownl:=hdZ (own_below hownk.out hbl)
          clear hbl
          go_wp2_with (at_builtin;(refine wpList_app3 (w.heap.size+1+1) rfl (.tmp 127) (.tmp 131) 47 rfl 54 i0 _ 4 40 Tryz.underlying47 hi hz0 hz1 hz2 rfl (by decide) _ pre.length (fcells pre) rfl wl.heap.size 1 #[.int .i64 a,.int .i64 0,.string nSum,.int .i64 6] rfl (own_below hownl.out ((Below.refl _ _).alloc leZ _)) (Blk.new _ 54 _) rfl (fcell4 _ _ _ _) hl1.out hl2.out (Nat.le_trans hgl.out (by simp)) ?_);intro v5 w5 ho5 hb5 hg5;have ho5':=hdZ ho5;have hB9:Hid (Below (w.heap.size+1+1) w0 w5):=(hBl.out.alloc hgl.out _).trans hb5;have z0:w5.cell? ⟨w.heap.size+1,0,none⟩=some (.int .i64 0):=(hbd.out.below hB9.out (by have:=hs0.out;omega)).cell 0;clear ho5 hb5 hg5)
          go_ret
          refine ⟨_,rfl,?_,hb0.out.trans (hB9.out.mono (by omega))⟩
          rw [hfin.out,fcells_snoc,List.length_append]
          exact own_mono_base ho5'.out (by omega)
         ·have hfin:Hid (fixedF c day a ⟨0,dn,di,dA,dc,df⟩=pre++[]):=by unfold Hid;rw [hfin0.out];simp [hm,hl]
          have hq2:decide (n<leastY c)=false:=by simp [hl]
          go_wp2_with (refine wpList_load_blkg rfl 46 (.tmp 4) rfl w.heap.size C 46 _ rfl hbkk.out Tryz.underlying46 rfl hsz.out ?_)
          refine (rleast_any C c hC hbb.out _).mono ?_
          rintro e wf ⟨rfl,hb7⟩
          have hBk':Hid (Below (w.heap.size+1+1) w0 wf):=hBk.out.trans (hb7.mono hgk.out)
          have hgk':Hid (w.heap.size+1+1<=wf.heap.size):=Nat.le_trans hgk.out hb7.size
          have hownk':=hdZ (own_below hownk.out hb7)
          clear hb7 hBk hgk hownk hbkk hbdk k0 k1 k2 k3
          have hBk:=hBk'
          have hgk:=hgk'
          have hownk:=hownk'
          clear hBk' hgk' hownk'
          have hbdk:=hdZ (hbd.out.below hBk.out (by have:=hs0.out;omega))
          have hbkk:=hdZ (hbk.out.below hBk.out (by have:=hs0.out;omega))
          obtain ⟨k0,k1,k2,k3⟩:=cs4 hbdk.out
          go_wp2_with fail
          go_ret
          refine ⟨_,rfl,?_,hb0.out.trans (hBk.out.mono (by omega))⟩
          rw [hfin.out,List.append_nil]
          exact own_mono_base hownk.out (by omega)
 ·by_cases hk2:dk=2
  ·subst hk2
   have hres0:Hid (fixedF c day a ⟨2,dn,di,dA,dc,df⟩=askF a ⟨2,dn,di,dA,dc,df⟩ nIssued (issuedW c day)):=by unfold Hid fixedF;rw [if_neg (by simp),if_pos rfl];rfl
   have hownw:Hid (w1.ownsRow (w.heap.size+1+1) 54 4 (.slice (some ⟨w.heap.size+1+1,0,none⟩) 0 0) ([]:List Flt).length (fcells [])):=hnew.out
   obtain ⟨pre,hpre⟩:∃l:List Flt,Hid (([]:List Flt)=l):=⟨_,rfl⟩
   rw [hpre.out] at hownw
   have hl1:Hid (pre.length+1<=maxLen):=by unfold Hid maxLen;rw [<-hpre.out];simp
   have hl2:Hid ((pre.length+1)*40<=140737488355328):=by unfold Hid;rw [<-hpre.out];simp
   have hB:=hb1
   have hgr:Hid (w.heap.size+1+1<=w1.heap.size):=by have:=hs1.out;unfold Hid;omega
   have hBw:Hid (Bz w w1):=hb0.out.trans (hB.out.mono (by omega))
   have f3:w1.cell? ⟨w.heap.size+1,3,none⟩=some (.slice dA fl dc):=hbd1.out.cell 3
   have hown:=hownw
   clear hownw hnew hb1
   have hwi:=hdZ hO.out.within
   have hla:=hdZ hO.out.latest
   obtain ⟨gv,hgv⟩:=nmZ (getV df nIssued)
   obtain ⟨gb,hgb⟩:=nmZ (getB df nIssued)
   go_enter Tryz.func113,Tryz.ntmps113
   go_upto_region 23 with fail
   try simp only [World.size_alloc]
   rw [hw0.out]
   rw [show w0.alloc (.cells #[] 54)=w1 from hw1.out]
   go_wp2_with fail
   refine (getR_any dA fl dc df nIssued _ hfl'.out hfl0 (hfd.out.below hBw.out)).mono ?_
   rintro e w3 ⟨rfl,hb3⟩
   rw [hgv.out,hgb.out]
   have hB3:Hid (Below (w.heap.size+1+1) w0 w3):=hB.out.trans (hb3.mono hgr.out)
   have hg3:Hid (w.heap.size+1+1<=w3.heap.size):=Nat.le_trans hgr.out hb3.size
   have hown3:=hdZ (own_below hown.out hb3)
   clear hb3 f3
   go_wp2_with fail
   refine (numberR_any gv w3).mono ?_
   rintro e wk ⟨rfl,hb4⟩
   unfold twoN
   have hBk:Hid (Below (w.heap.size+1+1) w0 wk):=hB3.out.trans (hb4.mono hg3.out)
   have hgk:Hid (w.heap.size+1+1<=wk.heap.size):=Nat.le_trans hg3.out hb4.size
   have hownk:=hdZ (own_below hown3.out hb4)
   clear hb4 hown3 hB3 hg3 hown
   have hbdk:=hdZ (hbd.out.below hBk.out (by have:=hs0.out;omega))
   have hbkk:=hdZ (hbk.out.below hBk.out (by have:=hs0.out;omega))
   obtain ⟨k0,k1,k2,k3⟩:=cs4 hbdk.out
   have hno:Hid (gb=false->fixedF c day a ⟨2,dn,di,dA,dc,df⟩=pre++[⟨a,2,nIssued,1⟩]):=fun h=>by unfold Hid at *;rw [hres0,askF_no (by rw [<-h];exact hgb),<-hpre];rfl
   have hyes:Hid (gb=true->fixedF c day a ⟨2,dn,di,dA,dc,df⟩=pre++if issuedW c day gv=0 then [] else [⟨a,2,nIssued,issuedW c day gv⟩]):=fun h=>by unfold Hid at *;rw [hres0,askF_yes (by rw [<-h];exact hgb) hgv,<-hpre];rfl
   have hsw:Hid (issuedW c day gv=match numF gv.data.toList with | none=>2 | some n=>if c.latest<n\/n+c.within<day then 4 else 0):=rfl
   have hnb:Hid (∀n,numF gv.data.toList=some n -> -4611686018427387904<=n/\n<=4611686018427387904):=fun n h=>numF_range h
   obtain ⟨nr,hnr⟩:=nmZ (numF gv.data.toList)
   rw [hnr.out] at hsw hnb ⊢
   clear hgv hgb hnr
   cases gb with
   | false =>
    have hfin:=hdZ (hno.out rfl)
    go_wp2_with fail
    refine (one_any 2 dn di dA fl dc a nIssued 1 _).mono ?_
    rintro e wl ⟨rfl,hbl⟩
    have hBl:Hid (Below (w.heap.size+1+1) w0 wl):=hBk.out.trans (hbl.mono hgk.out)
    have hgl:Hid (w.heap.size+1+1<=wl.heap.size):=Nat.le_trans hgk.out hbl.size
    have hownl:=hdZ (own_below hownk.out hbl)
    clear hbl
    go_wp2_with (at_builtin;(refine wpList_app3 (w.heap.size+1+1) rfl (.tmp 149) (.tmp 153) 47 rfl 54 i0 _ 4 40 Tryz.underlying47 hi hz0 hz1 hz2 rfl (by decide) _ pre.length (fcells pre) rfl wl.heap.size 1 #[.int .i64 a,.int .i64 2,.string nIssued,.int .i64 1] rfl (own_below hownl.out ((Below.refl _ _).alloc leZ _)) (Blk.new _ 54 _) rfl (fcell4 _ _ _ _) hl1.out hl2.out (Nat.le_trans hgl.out (by simp)) ?_);intro v5 w5 ho5 hb5 hg5;have ho5':=hdZ ho5;have hB9:Hid (Below (w.heap.size+1+1) w0 w5):=(hBl.out.alloc hgl.out _).trans hb5;have z0:w5.cell? ⟨w.heap.size+1,0,none⟩=some (.int .i64 2):=(hbd.out.below hB9.out (by have:=hs0.out;omega)).cell 0;clear ho5 hb5 hg5)
    go_ret
    refine ⟨_,rfl,?_,hb0.out.trans (hB9.out.mono (by omega))⟩
    rw [hfin.out,fcells_snoc,List.length_append]
    exact own_mono_base ho5'.out (by omega)
   | true =>
    have hfin0:=hdZ (hyes.out rfl)
    rw [hsw.out] at hfin0
    cases nr with
    | none =>
     have hfin:Hid (fixedF c day a ⟨2,dn,di,dA,dc,df⟩=pre++[⟨a,2,nIssued,2⟩]):=hfin0.out
     go_wp2_with fail
     refine (one_any 2 dn di dA fl dc a nIssued 2 _).mono ?_
     rintro e wl ⟨rfl,hbl⟩
     have hBl:Hid (Below (w.heap.size+1+1) w0 wl):=hBk.out.trans (hbl.mono hgk.out)
     have hgl:Hid (w.heap.size+1+1<=wl.heap.size):=Nat.le_trans hgk.out hbl.size
     have hownl:=hdZ (own_below hownk.out hbl)
     clear hbl
     go_wp2_with (at_builtin;(refine wpList_app3 (w.heap.size+1+1) rfl (.tmp 157) (.tmp 161) 47 rfl 54 i0 _ 4 40 Tryz.underlying47 hi hz0 hz1 hz2 rfl (by decide) _ pre.length (fcells pre) rfl wl.heap.size 1 #[.int .i64 a,.int .i64 2,.string nIssued,.int .i64 2] rfl (own_below hownl.out ((Below.refl _ _).alloc leZ _)) (Blk.new _ 54 _) rfl (fcell4 _ _ _ _) hl1.out hl2.out (Nat.le_trans hgl.out (by simp)) ?_);intro v5 w5 ho5 hb5 hg5;have ho5':=hdZ ho5;have hB9:Hid (Below (w.heap.size+1+1) w0 w5):=(hBl.out.alloc hgl.out _).trans hb5;have z0:w5.cell? ⟨w.heap.size+1,0,none⟩=some (.int .i64 2):=(hbd.out.below hB9.out (by have:=hs0.out;omega)).cell 0;clear ho5 hb5 hg5)
     go_ret
     refine ⟨_,rfl,?_,hb0.out.trans (hB9.out.mono (by omega))⟩
     rw [hfin.out,fcells_snoc,List.length_append]
     exact own_mono_base ho5'.out (by omega)
    | some n =>
     simp only [Option.getD_some,Option.isSome_some] at hfin0 ⊢
     obtain ⟨n0,n1⟩:=hnb.out n rfl
     have j11:wk.cell? ⟨w.heap.size,11,none⟩=some (.int .i64 c.latest):=(hbkk.out.cell 11).trans hC.out.latest
     have j13:wk.cell? ⟨w.heap.size,13,none⟩=some (.int .i64 c.within):=(hbkk.out.cell 13).trans hC.out.within
     have hwr:IntKind.i64.wrap (day-n)=day-n:=IntWalk.i64_in _ (by omega)
     by_cases hm:c.latest<n
     ·have hfin:Hid (fixedF c day a ⟨2,dn,di,dA,dc,df⟩=pre++[⟨a,2,nIssued,4⟩]):=by unfold Hid;rw [hfin0.out];simp [hm]
      have hq:decide (c.latest<n)=true:=by simp [hm]
      go_wp2_with fail
      refine (one_any 2 dn di dA fl dc a nIssued 4 _).mono ?_
      rintro e wl ⟨rfl,hbl⟩
      have hBl:Hid (Below (w.heap.size+1+1) w0 wl):=hBk.out.trans (hbl.mono hgk.out)
      have hgl:Hid (w.heap.size+1+1<=wl.heap.size):=Nat.le_trans hgk.out hbl.size
      have hownl:=hdZ (own_below hownk.out hbl)
      clear hbl
      go_wp2_with (at_builtin;(refine wpList_app3 (w.heap.size+1+1) rfl (.tmp 175) (.tmp 179) 47 rfl 54 i0 _ 4 40 Tryz.underlying47 hi hz0 hz1 hz2 rfl (by decide) _ pre.length (fcells pre) rfl wl.heap.size 1 #[.int .i64 a,.int .i64 2,.string nIssued,.int .i64 4] rfl (own_below hownl.out ((Below.refl _ _).alloc leZ _)) (Blk.new _ 54 _) rfl (fcell4 _ _ _ _) hl1.out hl2.out (Nat.le_trans hgl.out (by simp)) ?_);intro v5 w5 ho5 hb5 hg5;have ho5':=hdZ ho5;have hB9:Hid (Below (w.heap.size+1+1) w0 w5):=(hBl.out.alloc hgl.out _).trans hb5;have z0:w5.cell? ⟨w.heap.size+1,0,none⟩=some (.int .i64 2):=(hbd.out.below hB9.out (by have:=hs0.out;omega)).cell 0;clear ho5 hb5 hg5)
      go_ret
      refine ⟨_,rfl,?_,hb0.out.trans (hB9.out.mono (by omega))⟩
      rw [hfin.out,fcells_snoc,List.length_append]
      exact own_mono_base ho5'.out (by omega)
     ·have hq:decide (c.latest<n)=false:=by simp [hm]
      by_cases hl:n+c.within<day
      ·have hfin:Hid (fixedF c day a ⟨2,dn,di,dA,dc,df⟩=pre++[⟨a,2,nIssued,4⟩]):=by unfold Hid;rw [hfin0.out];simp [hm,hl]
       have hq2:decide (c.within<day-n)=true:=by simp;omega
       go_wp2_with fail
       refine (one_any 2 dn di dA fl dc a nIssued 4 _).mono ?_
       rintro e wl ⟨rfl,hbl⟩
       have hBl:Hid (Below (w.heap.size+1+1) w0 wl):=hBk.out.trans (hbl.mono hgk.out)
       have hgl:Hid (w.heap.size+1+1<=wl.heap.size):=Nat.le_trans hgk.out hbl.size
       have hownl:=hdZ (own_below hownk.out hbl)
       clear hbl
       go_wp2_with (at_builtin;(refine wpList_app3 (w.heap.size+1+1) rfl (.tmp 175) (.tmp 179) 47 rfl 54 i0 _ 4 40 Tryz.underlying47 hi hz0 hz1 hz2 rfl (by decide) _ pre.length (fcells pre) rfl wl.heap.size 1 #[.int .i64 a,.int .i64 2,.string nIssued,.int .i64 4] rfl (own_below hownl.out ((Below.refl _ _).alloc leZ _)) (Blk.new _ 54 _) rfl (fcell4 _ _ _ _) hl1.out hl2.out (Nat.le_trans hgl.out (by simp)) ?_);intro v5 w5 ho5 hb5 hg5;have ho5':=hdZ ho5;have hB9:Hid (Below (w.heap.size+1+1) w0 w5):=(hBl.out.alloc hgl.out _).trans hb5;have z0:w5.cell? ⟨w.heap.size+1,0,none⟩=some (.int .i64 2):=(hbd.out.below hB9.out (by have:=hs0.out;omega)).cell 0;clear ho5 hb5 hg5)
       go_ret
       refine ⟨_,rfl,?_,hb0.out.trans (hB9.out.mono (by omega))⟩
       rw [hfin.out,fcells_snoc,List.length_append]
       exact own_mono_base ho5'.out (by omega)
      ·have hfin:Hid (fixedF c day a ⟨2,dn,di,dA,dc,df⟩=pre++[]):=by unfold Hid;rw [hfin0.out];simp [hm,hl]
       have hq2:decide (c.within<day-n)=false:=by simp;omega
       go_wp2_with fail
       go_ret
       refine ⟨_,rfl,?_,hb0.out.trans (hBk.out.mono (by omega))⟩
       rw [hfin.out,List.append_nil]
       exact own_mono_base hownk.out (by omega)
  ·have hres:Hid (fixedF c day a ⟨dk,dn,di,dA,dc,df⟩=[]):=by unfold Hid fixedF;rw [if_neg hk0,if_neg hk2]
   have q0:(dk==0)=false:=by simp [hk0]
   have q2:(dk==2)=false:=by simp [hk2]
   clear hk0 hk2
   go_enter Tryz.func113,Tryz.ntmps113
   go_wp2_with fail
   try simp only [World.size_alloc]
   rw [hw0.out]
   rw [show w0.alloc (.cells #[] 54)=w1 from hw1.out]
   go_ret
   refine ⟨_,rfl,?_,hb0.out.trans (hb1.out.mono (by omega))⟩
   rw [hres.out]
   exact own_mono_base hnew.out (by omega)
end Go.Proofs.YtdjmckjbibfecaaGreatDoor

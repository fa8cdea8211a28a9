import Derived.Test.YtdjmckjbibfecaaGreatDoorFs
import Derived.Test.YtdjmckjbibfecaaGreatDoorFu
import Derived.Test.YtdjmckjbibfecaaGreatDoorTxD
namespace Go.Proofs.YtdjmckjbibfecaaGreatDoor
open Go Go.RowKit Go.BigFrame Go.Maps
set_option maxRecDepth 100000
set_option maxHeartbeats 12800000
theorem own_past {w w':World} {B:Nat} {e:TypeId} {size n n':Nat} {v v':Value} {xs xs':List Value} (h:w.ownsRow B e size v n xs) (h':w'.ownsRow w.heap.size e size v' n' xs'):v'.ownBlock=none\/v'.ownBlock≠v.ownBlock:=by
 rcases h'.2 with ⟨rfl,_⟩ | ⟨g,cap,cur,rfl,hg,_⟩
 ·exact .inl rfl
 ·right
  intro he
  have:=(h.lt g he.symm).1
  have h2:=(h.lt g he.symm).2
  simp [Value.ownBlock] at he
  omega
theorem lack_snoc2 {needs:List Nd} {docs:List Pap} {q:Nat} {x:Nd} (h:needs[q]?=some x):(needs.take (q+1)).flatMap (lackF docs)=(needs.take q).flatMap (lackF docs)++lackF docs x:=flat_take _ h
theorem count_snoc {docs:List Pap} {r:Nat} {x:Pap} (h:docs[r]?=some x) (k:Int):countK (docs.take (r+1)) k=countK (docs.take r) k+if x.kind=k then 1 else 0:=by
 unfold countK
 rw [List.take_add_one,h,List.countP_append]
 simp [List.countP_cons]
theorem add_snoc (l m:List Flt) {r:Nat} {x:Flt} (h:m[r]?=some x):addAll l (m.take (r+1))=addF (addAll l (m.take r)) x:=by
 rw [List.take_add_one,h,addAll_app];rfl
theorem rexam_any (c:Crd) (hO:Hid c.okC) (nA:Option Addr) (nl nc:Nat) (needs:List Nd) (hnl:Hid (needs.length=nl)) (A:Option Addr) (nn cc:Nat) (docs:List Pap) (day:Int) (hday : -1073741824<=day/\day<=1073741824) (w:World)
  (hN:Hid (NdsAt w nA needs)) (hF:Hid (FewParts needs)) (hSm:Hid (∀x∈needs,SmallT x.rule)) (hR:Hid (Room w A nn docs)) (hn12:nn<=12) :
  Calls Tryz.prog 61 #[.agg (c.cells (.slice nA nl nc)),.slice A nn cc,.int .i64 day] w fun e w'=>∃v,e=.returned v/\w'.ownsRow w.heap.size 54 4 v (examF c needs docs day).length (fcells (examF c needs docs day))/\Bz w w':=by
 have hday':=hdZ hday
 clear hday
 have hnl12:nl<=12:=by have:=hF.out.1;have:=hnl.out;omega
 have hC:Hid (CrdAt (c.cells (.slice nA nl nc)) c):=c.at_ _
 have hC17:Hid ((c.cells (.slice nA nl nc))[17]?=some (.slice nA nl nc)):=rfl
 obtain ⟨C,hCe⟩:=nmZ (c.cells (.slice nA nl nc))
 rw [hCe.out] at hC hC17 ⊢
 have hsz:Hid ((Tryz.prog.info? 46).map (·.size)=some C.size):=by unfold Hid;rw [hC.out.size];kernel_rfl
 have hb0:=hdZ ((Below.refl _ w).alloc leZ (.cells C 46))
 have hbk:=hdZ (Blk.new w 46 C)
 have c12:(w.alloc (.cells C 46)).cell? ⟨w.heap.size,12,none⟩=some (.int .i64 c.expiry):=(hbk.out.cell 12).trans hC.out.expiry
 have hs0':(w.alloc (.cells C 46)).heap.size=w.heap.size+1:=World.size_alloc _ _
 have hnew:=hdZ (own_new (w.alloc (.cells C 46)) 54 4)
 have hb1:=hdZ ((Below.refl _ (w.alloc (.cells C 46))).alloc (Nat.le_of_eq hs0'.symm) (.cells #[] 54))
 rw [hs0'] at hnew
 have c12':((w.alloc (.cells C 46)).alloc (.cells #[] 54)).cell? ⟨w.heap.size,12,none⟩=some (.int .i64 c.expiry):=((hbk.out.alloc (.cells #[] 54)).cell 12).trans hC.out.expiry
 obtain ⟨bx,hbx⟩:=nmZ (decide (c.expiry<day))
 have hq:=hbx.out
 have hexp:Hid (expF c day=if bx=true then [⟨-1,-1,nExpiry,4⟩] else []):=by unfold Hid expF;rw [<-hbx.out];simp
 go_enter Tryz.func61,Tryz.ntmps61
 go_upto_if 18 with fail
 clear c12 c12'
 obtain ⟨w0,hw0⟩:=nmZ (w.alloc (.cells C 46))
 rw [hw0.out] at hb0 hbk hnew hb1 hs0' ⊢
 have hs0:=hdZ hs0'
 clear hs0' hq
 obtain ⟨w1,hw1⟩:=nmZ (w0.alloc (.cells #[] 54))
 rw [hw1.out] at hnew hb1 ⊢
 have hs1:Hid (w1.heap.size=w.heap.size+1+1):=by unfold Hid;rw [<-hw1.out,World.size_alloc,hs0.out]
 go_cut [7] (fun v wx=>Hid (wx.ownsRow (w.heap.size+1) 54 4 v ((addAll [] (expF c day))).length (fcells (addAll [] (expF c day))))/\Hid (Below (w.heap.size+1) w0 wx))
 case first =>
  cases bx with
  | false =>
   have he:Hid (expF c day=[]):=hexp.out
   go_wp2_with fail
   go_meet
   case rel=>exact ⟨by unfold Hid;rw [he.out];simpa [addAll,fcells] using hnew.out,hb1⟩
  | true =>
   have he:Hid (expF c day=[⟨-1,-1,nExpiry,4⟩]):=hexp.out
   go_wp2_with fail
   refine (put_any (w.heap.size+1) _ 0 [] ⟨-1,-1,nExpiry,4⟩ w1 (by have:=hs1.out;unfold Hid;omega) rfl (by omega) (by simpa [fcells] using hnew)).mono ?_
   rintro e w2 ⟨v2,rfl,ho2,hb2,_,_⟩
   have ho2':=hdZ ho2
   have hB2:Hid (Below (w.heap.size+1) w0 w2):=hb1.out.trans hb2
   clear ho2 hb2
   go_wp2_with fail
   go_meet
   case rel=>exact ⟨by unfold Hid;rw [he.out,addAll_one];exact ho2'.out,hB2⟩
 case rest =>
  obtain ⟨hx0,hB0⟩:=hcut
  have hl1:Hid ((addAll [] (expF c day)).length<=1):=by
   have e1:=addAll_len (expF c day) []
   have e2:(expF c day).length<=1:=by unfold expF;split<;>simp
   unfold Hid;simp only [List.length_nil] at e1;omega
  clear hexp hbx hnew hb1 hw1 hs1
  go_wp2_with fail
  go_loopg [7,8,9,10] nl (fun gg v i _ _ wr=>∃q:Nat,q<=nl/\gg=nl-q/\i=.int .i64 q/\Hid (wr.ownsRow (w.heap.size+1) 54 4 v ((addAll (addAll [] (expF c day)) ((needs.take q).flatMap (lackF docs)))).length (fcells (addAll (addAll [] (expF c day)) ((needs.take q).flatMap (lackF docs)))))/\Hid (Below (w.heap.size+1) w0 wr))
  case atStart=>exact ⟨0,Nat.zero_le _,by simp,rfl,by unfold Hid;rw [List.take_zero,List.flatMap_nil,addAll_nil];exact hx0.out,hB0⟩
  case round =>
   clear hx0 hB0
   obtain ⟨q,hq,hgo,rfl,hown,hB⟩:=hrel
   have hgo':=hdZ hgo
   clear hgo
   have hBw:Hid (Bz w wr):=hb0.out.trans (hB.out.mono (by omega))
   have hgr:Hid (w.heap.size+1<=wr.heap.size):=by have:=hB.out.size;have:=hs0.out;unfold Hid;omega
   have hbkr:=hdZ (hbk.out.below hB.out (by have:=hs0.out;omega))
   have c17:wr.cell? ⟨w.heap.size,17,none⟩=some (.slice nA nl nc):=(hbkr.out.cell 17).trans hC17.out
   by_cases hlt:q<nl
   ·obtain ⟨x,hx⟩:∃x,needs[q]?=some x:=⟨_,gZ (by have:=hnl.out;omega)⟩
    have hst:=hdZ (lack_snoc2 (docs:=docs) hx)
    obtain ⟨L,hL⟩:=nmZ ((addAll (addAll [] (expF c day)) ((needs.take q).flatMap (lackF docs))))
    have hLl:L.length<=100:=by
     have e1:=addAll_len ((needs.take q).flatMap (lackF docs)) (addAll [] (expF c day))
     have e2:=flat_le _ (lackF_le docs) (needs.take q)
     have e3:(needs.take q).length<=12:=by rw [List.length_take];omega
     have:=hl1.out;rw [<-hL.out];omega
    have hLl':=hdZ hLl
    clear hLl
    rw [hL.out] at hown
    obtain ⟨_,_,_,b,off,rfl,n0,n1,_⟩:=(hN.out.below hBw.out) q x hx
    have hbn:b<wr.heap.size:=World.block_lt_of_cell? wr _ n0
    clear hx
    obtain ⟨xk,xc,xr⟩:=x
    simp only at n0 n1
    have hlk:Hid (lackF docs ⟨xk,xc,xr⟩=if (countK docs xk:Int)<xc then [⟨-1,xk,⟨#[]⟩,1⟩] else []):=rfl
    have i1:(q:Int)<(nl:Int):=by omega
    have i2:(0:Int)<=(q:Int):=by omega
    obtain ⟨wo,rfl⟩:∃wo:World,wo=wr:=⟨_,rfl⟩
    go_wp2_with fail
    go_loopg [9,10] nn (fun gg n k wr=>∃r:Nat,r<=nn/\gg=nn-r/\k=.int .i64 r/\n=.int .i64 (countK (docs.take r) xk:Nat)/\Hid (Bz wo wr))
    case atStart=>exact ⟨0,Nat.zero_le _,by simp,rfl,by simp [countK],Below.refl _ _⟩
    case round =>
     obtain ⟨r,hr,hgi,rfl,rfl,hBz⟩:=hrel
     have hgi':=hdZ hgi
     clear hgi
     have m0:wr.cell? ⟨b,off+q*8,none⟩=some (.int .i64 xk):=(hBz.out.cell (p:=⟨b,_,none⟩) hbn).trans n0
     have c17z:wr.cell? ⟨w.heap.size,17,none⟩=some (.slice (some ⟨b,off,none⟩) nl nc):=(hBz.out.cell (p:=⟨w.heap.size,17,none⟩) hbkr.out.lt).trans c17
     by_cases hlr:r<nn
     ·obtain ⟨d,hd⟩:∃d,docs[r]?=some d:=⟨_,gZ (by have:=hR.out.len;omega)⟩
      have hcs:=hdZ (count_snoc hd xk)
      have hcl:countK (docs.take r) xk<=12:=by
       have:=countK_le (docs.take r) xk
       have:(docs.take r).length<=12:=by rw [List.length_take];omega
       omega
      obtain ⟨db,doff,rfl,d0,_⟩:=(hR.out.at_.below (hBw.out.trans (hBz.out.mono hBw.out.size))) r d hd
      clear hd
      obtain ⟨cnt,hcnt⟩:=nmZ (countK (docs.take r) xk)
      rw [hcnt.out] at hcs hcl ⊢
      have i3:(r:Int)<(nn:Int):=by omega
      have i4:(0:Int)<=(r:Int):=by omega
      by_cases hk:d.kind=xk
      ·have hb:(d.kind==xk)=true:=by simp [hk]
       have hc2:Hid (countK (docs.take (r+1)) xk=cnt+1):=by unfold Hid;rw [hcs.out,if_pos hk]
       clear hk
       go_wp2_with fail
       go_quiet (fail)
       go_wp2_with fail
       go_roundg (nn-(r+1))
       case measure=>have:=hgi'.out;omega
       case rel=>exact ⟨r+1,by omega,rfl,by go_num,by rw [hc2.out];go_num,below_drewN hBz.out _⟩
      ·have hb:(d.kind==xk)=false:=by simp [hk]
       have hc2:Hid (countK (docs.take (r+1)) xk=cnt):=by unfold Hid;rw [hcs.out,if_neg hk];rfl
       clear hk
       go_wp2_with fail
       go_quiet (fail)
       go_wp2_with fail
       go_roundg (nn-(r+1))
       case measure=>have:=hgi'.out;omega
       case rel=>exact ⟨r+1,by omega,rfl,by go_num,by rw [hc2.out],below_drewN hBz.out _⟩
     ·obtain rfl:nn=r:=by omega
      rw [List.take_of_length_le (by have:=hR.out.len;omega)]
      have m1:wr.cell? ⟨b,off+q*8+1,none⟩=some (.int .i64 xc):=(hBz.out.cell (p:=⟨b,_,none⟩) hbn).trans n1
      have hownz:=hdZ (own_below hown.out hBz.out)
      have hBz0:Hid (Below (w.heap.size+1) w0 wr):=hB.out.trans (hBz.out.mono hgr.out)
      obtain ⟨cnt,hcnt⟩:=nmZ (countK docs xk)
      rw [hcnt.out] at hlk ⊢
      by_cases hcx:(cnt:Int)<xc
      ·have hl2:Hid (lackF docs ⟨xk,xc,xr⟩=[⟨-1,xk,⟨#[]⟩,1⟩]):=by unfold Hid;rw [hlk.out,if_pos hcx]
       have hb:decide ((cnt:Int)<xc)=true:=by simp [hcx]
       go_wp2_with fail
       refine (put_any (w.heap.size+1) _ L.length L ⟨-1,xk,⟨#[]⟩,1⟩ wr (Nat.le_trans hgr.out hBz.out.size) rfl (by have:=hLl'.out;omega) hownz).mono ?_
       rintro e w2 ⟨v2,rfl,ho2,hb2,_,_⟩
       have ho2':=hdZ ho2
       have hB2:Hid (Below (w.heap.size+1) w0 w2):=hBz0.out.trans hb2
       clear ho2 hb2
       go_wp2_with fail
       go_roundg (nl-(q+1))
       case measure=>have:=hgo'.out;omega
       case rel=>exact ⟨q+1,by omega,rfl,by go_num,by unfold Hid;rw [hst.out,addAll_app,hL.out,hl2.out,addAll_one];exact ho2'.out,hB2⟩
      ·have hl2:Hid (lackF docs ⟨xk,xc,xr⟩=[]):=by unfold Hid;rw [hlk.out,if_neg hcx]
       have hb:decide ((cnt:Int)<xc)=false:=by simpa using hcx
       go_wp2_with fail
       go_roundg (nl-(q+1))
       case measure=>have:=hgo'.out;omega
       case rel=>exact ⟨q+1,by omega,rfl,by go_num,by unfold Hid;rw [hst.out,hl2.out,List.append_nil,hL.out];exact hownz.out,hBz0⟩
   ·obtain rfl:nl=q:=by omega
    rw [List.take_of_length_le (by have:=hnl.out;omega)] at hown
    clear hlt hq
    have hl2:Hid ((addAll (addAll [] (expF c day)) (needs.flatMap (lackF docs))).length<=100):=by
     have e1:=addAll_len (needs.flatMap (lackF docs)) (addAll [] (expF c day))
     have e2:=flat_le _ (lackF_le docs) needs
     have e3:=hF.out.1
     have:=hl1.out;unfold Hid;omega
    obtain ⟨wo,rfl⟩:∃wo:World,wo=wr:=⟨_,rfl⟩
    go_wp2_with fail
    clear c17
    go_loopg [7,11,12,13] nn (fun gg v i _ _ wr=>∃q:Nat,q<=nn/\gg=nn-q/\i=.int .i64 q/\Hid (wr.ownsRow (w.heap.size+1) 54 4 v ((addAll (addAll (addAll [] (expF c day)) (needs.flatMap (lackF docs))) ((List.range q).flatMap (docAt c needs docs day)))).length (fcells (addAll (addAll (addAll [] (expF c day)) (needs.flatMap (lackF docs))) ((List.range q).flatMap (docAt c needs docs day)))))/\Hid (Below (w.heap.size+1) w0 wr))
    case atStart=>exact ⟨0,Nat.zero_le _,by simp,rfl,by unfold Hid;rw [List.range_zero,List.flatMap_nil,addAll_nil];exact hown.out,hB⟩
    case round =>
     clear hown hB hBw hgr hbkr wo
     obtain ⟨q,hq,hgo,rfl,hown,hB⟩:=hrel
     have hgo':=hdZ hgo
     clear hgo
     have hBw:Hid (Bz w wr):=hb0.out.trans (hB.out.mono (by omega))
     have hgr:Hid (w.heap.size+1<=wr.heap.size):=by have:=hB.out.size;have:=hs0.out;unfold Hid;omega
     have hbkr:=hdZ (hbk.out.below hB.out (by have:=hs0.out;omega))
     by_cases hlt:q<nn
     ·obtain ⟨d,hd⟩:∃d,docs[q]?=some d:=⟨_,gZ (by have:=hR.out.len;omega)⟩
      have hd':=hdZ hd
      have hst:=hdZ (docs_snoc c needs docs day q)
      have hdoc:Hid (docAt c needs docs day q=docF c needs docs day q d):=by unfold Hid docAt;rw [hd]
      rw [hdoc.out] at hst
      obtain ⟨L,hL⟩:=nmZ ((addAll (addAll (addAll [] (expF c day)) (needs.flatMap (lackF docs))) ((List.range q).flatMap (docAt c needs docs day))))
      have hLl:L.length<=20000:=by
       have e1:=addAll_len ((List.range q).flatMap (docAt c needs docs day)) (addAll (addAll [] (expF c day)) (needs.flatMap (lackF docs)))
       have e2:=docs_len (c:=c) (docs:=docs) (day:=day) hF.out q
       have:=hl2.out;rw [<-hL.out];omega
      have hLl':=hdZ hLl
      clear hLl
      rw [hL.out] at hown
      have hask:Hid (∀y:Ext wr,Calls Tryz.prog 112 #[.agg C,.int .i64 d.kind] y.wd fun e w'=>e=.returned (.bool (askedB needs d.kind))/\Below y.wd.heap.size y.wd w'):=fun y=>asked_any C nA nl nc needs d.kind y.wd hC17 hnl (by unfold maxLen;omega) (hN.out.below (hBw.out.trans (y.below.mono hBw.out.size)))
      obtain ⟨ab,hab⟩:=nmZ (askedB needs d.kind)
      rw [hab.out] at hask
      obtain ⟨db,doff,rfl,d0,d1,d2,d3,hfd,hfl,hdk⟩:=(hR.out.at_.below hBw.out) q d hd
      clear hd
      have hbd:db<wr.heap.size:=World.block_lt_of_cell? wr _ d0
      obtain ⟨dk,dn,di,dA,dc,df⟩:=d
      simp only at d0 d1 d2 d3 hfd hfl hask hab
      obtain ⟨fl,hfl0⟩:=nmZ (df.length)
      rw [hfl0.out] at d3 hfl
      have y0:∀y:Ext wr,y.wd.cell? ⟨db,doff+q*4,none⟩=some (.int .i64 dk):=fun y=>(y.cell ⟨db,doff+q*4,none⟩ hbd).trans d0
      have i3:(q:Int)<(nn:Int):=by omega
      have i4:(0:Int)<=(q:Int):=by omega
      have hSr:Hid (∀W,Bz wr W->Blk W w.heap.size 46 C/\W.cell? ⟨db,doff+q*4,none⟩=some (.int .i64 dk)/\W.cell? ⟨db,doff+q*4+1,none⟩=some (.string dn)/\W.cell? ⟨db,doff+q*4+2,none⟩=some (.string di)/\W.cell? ⟨db,doff+q*4+3,none⟩=some (.slice dA fl dc)):=fun W hW =>
       ⟨hbkr.out.below hW hbkr.out.lt,(hW.cell (p:=⟨db,_,none⟩) hbd).trans d0,(hW.cell (p:=⟨db,_,none⟩) hbd).trans d1,(hW.cell (p:=⟨db,_,none⟩) hbd).trans d2,(hW.cell (p:=⟨db,_,none⟩) hbd).trans d3⟩
      have hfl':=hdZ hfl
      have hfd':Hid (FieldsAt w dA df):=by
       obtain ⟨_,_,_,_,_,_,_,h,_,_⟩:=hR.out.at_ q _ hd'.out
       exact h
      clear d0 d1 d2 d3 hfd hfl
      go_wp2_with fail
      refine wp_region_ext (by kernel_rfl) (by kernel_rfl) ?_
      repeat (first
       | (go_big_quiet_want;(refine quiet_blk 46 (.tmp 3) rfl w.heap.size C 46 _ rfl (by rintro _ ⟨y,rfl⟩;exact hbkr.out.below y.below hbkr.out.lt) Tryz.underlying46 rfl hsz.out ?_);go_big_quiet_on;simp only [Act.put,List.setIfInBounds_toArray,List.set_cons_zero,List.set_cons_succ])
       | go_big_quiet_step ((go_at_call 112;exact Calls.ext_of (hask.out _))))
      refine wpQuiet_nil ?_
      rintro _ ⟨y,rfl⟩
      have hby:=hdZ y.below
      obtain ⟨ws,hws⟩:∃w6,y.wd=w6:=⟨_,rfl⟩
      rw [hws] at hby ⊢
      clear hws y y0 hask
      have hB6:Hid (Below (w.heap.size+1) w0 ws):=hB.out.trans (hby.out.mono hgr.out)
      have hg6:Hid (w.heap.size+1<=ws.heap.size):=Nat.le_trans hgr.out hby.out.size
      have hown6:=hdZ (own_below hown.out hby.out)
      have hS6:Hid (∀W,Bz ws W->Blk W w.heap.size 46 C/\W.cell? ⟨db,doff+q*4,none⟩=some (.int .i64 dk)/\W.cell? ⟨db,doff+q*4+1,none⟩=some (.string dn)/\W.cell? ⟨db,doff+q*4+2,none⟩=some (.string di)/\W.cell? ⟨db,doff+q*4+3,none⟩=some (.slice dA fl dc)):=fun W hW=>hSr.out W (hby.out.trans (hW.mono hby.out.size))
      have hBw6:=btZ hBw hby
      clear hSr hown hB hby hbkr hBw
      cases ab with
      | false =>
       have hz:Hid (docF c needs docs day q ⟨dk,dn,di,dA,dc,df⟩=[]):=by unfold Hid docF;rw [hab.out];rfl
       go_wp2_with fail
       go_roundg (nn-(q+1))
       case measure=>have:=hgo'.out;omega
       case rel=>exact ⟨q+1,by omega,rfl,by go_num,by unfold Hid;rw [hst.out,hz.out,List.append_nil,hL.out];exact hown6.out,hB6⟩
      | true =>
       have hz:Hid (docF c needs docs day q ⟨dk,dn,di,dA,dc,df⟩=(fixedF c day q ⟨dk,dn,di,dA,dc,df⟩++ruledF needs docs q ⟨dk,dn,di,dA,dc,df⟩)++othersF needs (docs.take q) q ⟨dk,dn,di,dA,dc,df⟩):=by unfold Hid docF;rw [hab.out];rfl
       obtain ⟨D,hD⟩:=nmZ (docF c needs docs day q ⟨dk,dn,di,dA,dc,df⟩)
       have hDl:Hid (D.length<=800):=by unfold Hid;rw [<-hD.out];exact docF_len hF.out
       rw [hD.out] at hst hz
       obtain ⟨f1,hf1⟩:=nmZ (fixedF c day q ⟨dk,dn,di,dA,dc,df⟩)
       obtain ⟨f2,hf2⟩:=nmZ (ruledF needs docs q ⟨dk,dn,di,dA,dc,df⟩)
       obtain ⟨f3,hf3⟩:=nmZ (othersF needs (docs.take q) q ⟨dk,dn,di,dA,dc,df⟩)
       rw [hf1.out,hf2.out,hf3.out] at hz
       go_wp2_with fail
       go_cut [12] (fun v wx=>Hid (wx.ownsRow ws.heap.size 54 4 v D.length (fcells D))/\Hid (Bz ws wx))
       case first =>
        obtain ⟨i0,hi,hz0,hz1,hz2⟩:=info_parts Tryz.info54
        have hNm:Hid (f1.length+f2.length+f3.length<=800):=by
         have:=hDl.out;unfold Hid;rw [hz.out,List.length_append,List.length_append] at this;omega
        have hc1:Hid (∀W,Bz ws W->Calls Tryz.prog 113 #[.agg C,.agg #[.int .i64 dk,.string dn,.string di,.slice dA fl dc],.int .i64 q,.int .i64 day] W fun e w'=>∃v,e=.returned v/\w'.ownsRow W.heap.size 54 4 v f1.length (fcells f1)/\Bz W w'):=fun W hW=>by
         have:=fixed_any C c hC hO dk dn di dA dc df fl hfl0 hfl'.out q day hday'.out W (hfd'.out.below (hBw6.out.trans (hW.mono hBw6.out.size)))
         rw [hf1.out] at this
         exact this
        have hc2:Hid (∀W,Bz ws W->Calls Tryz.prog 114 #[.agg C,.slice (some ⟨db,doff,none⟩) nn cc,.int .i64 q] W fun e w'=>∃v,e=.returned v/\w'.ownsRow W.heap.size 54 4 v f2.length (fcells f2)/\Bz W w'):=fun W hW=>by
         have hBW:=hBw6.out.trans (hW.mono hBw6.out.size)
         have:=ruled_any C nA nl nc needs _ nn cc docs q _ W hC17 hnl (hN.out.below hBW) hF hSm hd' (hR.out.below hBW)
         rw [hf2.out] at this
         exact this
        have hc3:Hid (∀W,Bz ws W->Calls Tryz.prog 115 #[.agg C,.slice (some ⟨db,doff,none⟩) nn cc,.int .i64 q] W fun e w'=>∃v,e=.returned v/\w'.ownsRow W.heap.size 54 4 v f3.length (fcells f3)/\Bz W w'):=fun W hW=>by
         have hBW:=hBw6.out.trans (hW.mono hBw6.out.size)
         have:=against_any C nA nl nc needs _ nn cc docs q _ W hsz hC17 hnl (by unfold maxLen;omega) (hN.out.below hBW) hd' (hR.out.below hBW)
         rw [hf3.out] at this
         exact this
        refine wp_region_held (S:=fun W=>Blk W w.heap.size 46 C/\W.cell? ⟨db,doff+q*4,none⟩=some (.int .i64 dk)/\W.cell? ⟨db,doff+q*4+1,none⟩=some (.string dn)/\W.cell? ⟨db,doff+q*4+2,none⟩=some (.string di)/\W.cell? ⟨db,doff+q*4+3,none⟩=some (.slice dA fl dc)) (by kernel_rfl) ?_
        obtain ⟨V,hV⟩:=nmZ (ws.drew)
        have hSx:Hid (∀W,Bz V W->Blk W w.heap.size 46 C/\W.cell? ⟨db,doff+q*4,none⟩=some (.int .i64 dk)/\W.cell? ⟨db,doff+q*4+1,none⟩=some (.string dn)/\W.cell? ⟨db,doff+q*4+2,none⟩=some (.string di)/\W.cell? ⟨db,doff+q*4+3,none⟩=some (.slice dA fl dc)):=fun W hW=>hS6.out W ((Below.refl ws.heap.size ws).drew.trans (by rw [<-hV.out] at hW;exact hW))
        have hBV:Hid (Bz ws V):=by unfold Hid;rw [<-hV.out];exact (Below.refl _ _).drew
        have hVs:Hid (V.heap.size=ws.heap.size):=by unfold Hid;rw [<-hV.out];rfl
        change wpAnyH _ _ _ _ _ _ _ _ ws.drew
        rw [hV.out]
        clear hV
        have hS0:=hSx.out _ (Below.refl _ _)
        refine wpAnyH_take (i:=0) rfl (by kernel_rfl) (by kernel_rfl) (by kernel_rfl) (fun _ _ _ h=>h) (yields_blk rfl rfl rfl Tryz.underlying46 rfl hsz.out (fun _ h=>h.1)) hS0 ?_
        go_simp
        refine wpAnyH_take (i:=1) rfl (by kernel_rfl) (by kernel_rfl) (by kernel_rfl) (fun _ _ _ h=>h) (yields_of rfl (fun _ _=>rfl)) hS0 ?_
        go_simp
        refine wpAnyH_take (i:=2) rfl (by kernel_rfl) (by kernel_rfl) (by kernel_rfl) (fun _ _ _ h=>h) (yields_of rfl (fun _ _=>rfl)) hS0 ?_
        go_simp
        refine wpAnyH_take (i:=3) rfl (by kernel_rfl) (by kernel_rfl) (by kernel_rfl) (fun _ _ _ h=>h) (yields_of rfl (fun _ _=>by go_simp;try rfl)) hS0 ?_
        go_simp
        refine wpAnyH_take (i:=4) rfl (by kernel_rfl) (by kernel_rfl) (by kernel_rfl) (fun _ _ _ h=>h) (yields_of (v:=.agg #[.int .i64 dk,.string dn,.string di,.slice dA fl dc]) rfl (fun W hW=>by obtain ⟨_,g0,g1,g2,g3⟩:=hW;go_simp)) hS0 ?_
        go_simp
        refine wpAnyH_take (i:=5) rfl (by kernel_rfl) (by kernel_rfl) (by kernel_rfl) (fun _ _ _ h=>h) (yields_of rfl (fun _ _=>rfl)) hS0 ?_
        go_simp
        refine wpAnyH_take (i:=6) rfl (by kernel_rfl) (by kernel_rfl) (by kernel_rfl) (fun _ _ _ h=>h) (yields_of rfl (fun _ _=>rfl)) hS0 ?_
        go_simp
        refine wpAnyH_take (i:=8) rfl (by kernel_rfl) (by kernel_rfl) (by kernel_rfl) (fun _ _ _ h=>h) (yields_blk rfl rfl rfl Tryz.underlying46 rfl hsz.out (fun _ h=>h.1)) hS0 ?_
        go_simp
        refine wpAnyH_take (i:=9) rfl (by kernel_rfl) (by kernel_rfl) (by kernel_rfl) (fun _ _ _ h=>h) (yields_of rfl (fun _ _=>rfl)) hS0 ?_
        go_simp
        refine wpAnyH_take (i:=10) rfl (by kernel_rfl) (by kernel_rfl) (by kernel_rfl) (fun _ _ _ h=>h) (yields_of rfl (fun _ _=>rfl)) hS0 ?_
        go_simp
        refine wpAnyH_take (i:=13) rfl (by kernel_rfl) (by kernel_rfl) (by kernel_rfl) (fun _ _ _ h=>h) (yields_blk rfl rfl rfl Tryz.underlying46 rfl hsz.out (fun _ h=>h.1)) hS0 ?_
        go_simp
        refine wpAnyH_take (i:=14) rfl (by kernel_rfl) (by kernel_rfl) (by kernel_rfl) (fun _ _ _ h=>h) (yields_of rfl (fun _ _=>rfl)) hS0 ?_
        go_simp
        refine wpAnyH_take (i:=15) rfl (by kernel_rfl) (by kernel_rfl) (by kernel_rfl) (fun _ _ _ h=>h) (yields_of rfl (fun _ _=>rfl)) hS0 ?_
        go_simp
        refine wpAnyH_all (rs:=[7]) (by kernel_rfl) (by decide) ?_
        intro i hi'
        obtain rfl:=List.mem_singleton.1 hi'
        refine held_call (f:=113) (args:=#[.agg C,.agg #[.int .i64 dk,.string dn,.string di,.slice dA fl dc],.int .i64 q,.int .i64 day]) rfl rfl (by go_simp) ?_
        refine (hc1.out V hBV.out).mono ?_
        rintro e W1 ⟨v1,rfl,o1,b1⟩
        refine ⟨_,rfl,?_⟩
        have hb1:=hdZ b1
        have ho1:=hdZ o1
        clear b1 o1
        refine ⟨hSx.out _ hb1.out,?_⟩
        go_simp
        refine wpAnyH_all (rs:=[11]) (by kernel_rfl) (by decide) ?_
        intro i hi'
        obtain rfl:=List.mem_singleton.1 hi'
        refine held_call (f:=114) (args:=#[.agg C,.slice (some ⟨db,doff,none⟩) nn cc,.int .i64 q]) rfl rfl (by go_simp) ?_
        refine (hc2.out W1 (hBV.out.trans (hb1.out.mono hBV.out.size))).mono ?_
        rintro e W2 ⟨v2,rfl,o2,b2⟩
        obtain ⟨A2,c2,rfl⟩:=own_slice o2
        refine ⟨_,rfl,?_⟩
        have hb2:=btY hb1 b2
        have ho12:=hdZ (own_below ho1.out b2)
        have ho2:=hdZ o2
        clear b2 o2
        refine ⟨hSx.out _ hb2.out,?_⟩
        go_simp
        refine wpAnyH_all (rs:=[12]) (by kernel_rfl) (by decide) ?_
        intro i hi'
        obtain rfl:=List.mem_singleton.1 hi'
        refine held_append rfl rfl (.tmp 87) (.tmp 91) 47 rfl V.heap.size 54 i0 _ 4 40 Tryz.underlying47 hi hz0 hz1 hz2 rfl (by decide) _ f1.length (fcells f1) rfl ho12.out W2.heap.size A2 f2.length c2 (fcells f2) rfl (Reads.of_own ho2.out) (fcells_one _) (by have:=hNm.out;unfold maxLen;omega) (by have:=hNm.out;omega) (hb2.out).size ?_
        intro v3 W3 o3 g3 e3
        have hb3:Hid (Bz V W3):=hb2.out.grown g3 hb2.out.size (fun j hj=>(ho12.out.lt j hj).1)
        have ho3:=hdZ o3
        clear o3 g3 e3
        refine ⟨hSx.out _ hb3.out,?_⟩
        go_simp
        refine wpAnyH_all (rs:=[16]) (by kernel_rfl) (by decide) ?_
        intro i hi'
        obtain rfl:=List.mem_singleton.1 hi'
        refine held_call (f:=115) (args:=#[.agg C,.slice (some ⟨db,doff,none⟩) nn cc,.int .i64 q]) rfl rfl (by go_simp) ?_
        refine (hc3.out W3 (hBV.out.trans (hb3.out.mono hBV.out.size))).mono ?_
        rintro e W4 ⟨v4,rfl,o4,b4⟩
        obtain ⟨A4,c4,rfl⟩:=own_slice o4
        refine ⟨_,rfl,?_⟩
        have hb4:=btY hb3 b4
        have ho34:=hdZ (own_below ho3.out b4)
        have ho4:=hdZ o4
        clear b4 o4
        refine ⟨hSx.out _ hb4.out,?_⟩
        go_simp
        refine wpAnyH_all (rs:=[17]) (by kernel_rfl) (by decide) ?_
        intro i hi'
        obtain rfl:=List.mem_singleton.1 hi'
        refine held_append rfl rfl (.tmp 92) (.tmp 96) 47 rfl V.heap.size 54 i0 _ 4 40 Tryz.underlying47 hi hz0 hz1 hz2 rfl (by decide) _ (f1.length+f2.length) (fcells f1++fcells f2) rfl ho34.out W4.heap.size A4 f3.length c4 (fcells f3) rfl (Reads.of_own ho4.out) (fcells_one _) (by have:=hNm.out;unfold maxLen;omega) (by have:=hNm.out;omega) (hb4.out).size ?_
        intro v5 W5 o5 g5 e5
        have hb5:Hid (Bz V W5):=hb4.out.grown g5 hb4.out.size (fun j hj=>(ho34.out.lt j hj).1)
        have ho5:=hdZ o5
        clear o5 g5 e5
        refine ⟨hSx.out _ hb5.out,?_⟩
        go_simp
        refine wpAnyH_take (i:=18) rfl (by kernel_rfl) (by kernel_rfl) (by kernel_rfl) (fun _ _ _ h=>h) (yields_of rfl (fun _ _=>rfl)) (hSx.out _ hb5.out) ?_
        go_simp
        refine wpAnyH_done (by kernel_rfl) ?_ _
        go_wp2_with fail
        go_meet
        case rel =>
         refine ⟨?_,hBV.out.trans (hb5.out.mono hBV.out.size)⟩
         unfold Hid
         rw [hz.out,fcells_append,fcells_append,List.length_append,List.length_append]
         exact own_mono_base ho5.out (Nat.le_of_eq hVs.out.symm)
       case rest =>
        obtain ⟨ho7,hB7⟩:=hcut
        obtain ⟨A7,c7,rfl,_,_⟩:=own_faults ho7.out rfl
        have hown7:=hdZ (own_below hown6.out hB7.out)
        have hB70:Hid (Below (w.heap.size+1) w0 wc):=hB6.out.trans (hB7.out.mono hg6.out)
        have hap:Hid ((Value.slice A7 D.length c7).ownBlock=none\/(Value.slice A7 D.length c7).ownBlock≠u7.ownBlock):=own_past hown6.out ho7.out
        obtain ⟨m,hm⟩:=nmZ (D.length)
        rw [hm.out] at ho7 hap hDl ⊢
        have hm8:m<=800:=hDl.out
        go_wp2_with fail
        go_loopg [7,13] m (fun gg v k wr=>∃r:Nat,r<=m/\gg=m-r/\k=.int .i64 r/\Hid (wr.ownsRow (w.heap.size+1) 54 4 v (addAll L (D.take r)).length (fcells (addAll L (D.take r))))/\Hid (Below (w.heap.size+1) w0 wr)/\Hid (wr.ownsRow ws.heap.size 54 4 (.slice A7 m c7) m (fcells D))/\Hid ((Value.slice A7 m c7).ownBlock=none\/(Value.slice A7 m c7).ownBlock≠v.ownBlock))
        case atStart=>exact ⟨0,Nat.zero_le _,by simp,rfl,by unfold Hid;rw [List.take_zero,addAll_nil];exact hown7.out,hB70,ho7,hap⟩
        case round =>
         clear hown7 hB70 ho7 hap
         obtain ⟨r,hr,hgi,rfl,ho8,hB8,hd8,hap8⟩:=hrel
         have hgi':=hdZ hgi
         clear hgi
         by_cases hlr:r<m
         ·obtain ⟨x,hx⟩:∃x,D[r]?=some x:=⟨_,gZ (by have:=hm.out;omega)⟩
          have hsn:=hdZ (add_snoc L D hx)
          obtain ⟨A8,c8,e8,_,hF8⟩:=own_faults hd8.out hm.out
          obtain ⟨rfl,rfl⟩:A7=A8/\c7=c8:=by simpa using e8
          obtain ⟨xb,xo,rfl,x0,x1,x2,x3⟩:=hF8 r x hx
          clear hx e8 hF8
          obtain ⟨K,hK⟩:=nmZ (addAll L (D.take r))
          have hKl:K.length<=30000:=by
           have e1:=addAll_len (D.take r) L
           have e2:(D.take r).length<=800:=by rw [List.length_take];have:=hDl.out;omega
           have:=hLl'.out;rw [<-hK.out];omega
          rw [hK.out] at ho8 hsn
          have i5:(r:Int)<(m:Int):=by omega
          have i6:(0:Int)<=(r:Int):=by omega
          have hg8:Hid (w.heap.size+1<=wr.heap.size):=by have:=hB8.out.size;have:=hs0.out;unfold Hid;omega
          go_wp2_with fail
          refine (put_any (w.heap.size+1) _ K.length K x wr hg8 rfl (by omega) ho8).mono ?_
          rintro e w9 ⟨v9,rfl,ho9,hb9,hg9,hv9⟩
          have ho9':=hdZ ho9
          have hB9:Hid (Below (w.heap.size+1) w0 w9):=hB8.out.trans hb9
          have hd9:=hdZ (hd8.out.kept hg9 hap8.out)
          have hap9:Hid ((Value.slice (some ⟨xb,xo,none⟩) m c7).ownBlock=none\/(Value.slice (some ⟨xb,xo,none⟩) m c7).ownBlock≠v9.ownBlock):=by
           rcases hv9 with h | ⟨g,h1,h2⟩
           ·unfold Hid;rw [h];exact hap8.out
           ·right
            intro he
            have:=(hd8.out.lt g (he.trans h2)).2
            omega
          clear ho9 hb9 hg9 hv9 x0 x1 x2 x3
          go_wp2_with fail
          go_roundg (m-(r+1))
          case measure=>have:=hgi'.out;omega
          case rel=>exact ⟨r+1,by omega,rfl,by go_num,by unfold Hid;rw [hsn.out];exact ho9'.out,hB9,hd9,hap9⟩
         ·have hfin:Hid (D.take r=D):=List.take_of_length_le (by have:=hm.out;omega)
          rw [hfin.out] at ho8
          go_wp2_with fail
          go_roundg (nn-(q+1))
          case measure=>have:=hgo'.out;omega
          case rel=>exact ⟨q+1,by omega,rfl,by go_num,by unfold Hid;rw [hst.out,addAll_app,hL.out];exact ho8.out,hB8⟩
     ·obtain rfl:nn=q:=by omega
      have hfin:Hid ((addAll (addAll (addAll [] (expF c day)) (needs.flatMap (lackF docs))) ((List.range nn).flatMap (docAt c needs docs day)))=examF c needs docs day):=by
       have:=hR.out.len
       unfold Hid examF toldE;rw [addAll_app,addAll_app,this]
      go_wp2_with fail
      go_ret
      refine ⟨_,rfl,?_,hBw.out⟩
      have:=hown.out
      rw [hfin.out] at this
      exact own_mono_base this (by omega)
end Go.Proofs.YtdjmckjbibfecaaGreatDoor

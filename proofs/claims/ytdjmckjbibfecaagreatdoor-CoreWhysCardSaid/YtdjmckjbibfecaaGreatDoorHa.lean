import Derived.Shelf.Abstract
import Derived.Test.YtdjmckjbibfecaaGreatDoorCe
import Derived.Test.YtdjmckjbibfecaaGreatDoorEm
import Derived.Test.YtdjmckjbibfecaaGreatDoorWb
namespace Go.Proofs.YtdjmckjbibfecaaGreatDoor
open Go Go.RowKit Go.BigFrame Go.Maps
set_option maxRecDepth 100000
set_option maxHeartbeats 6400000
def FaultedC (w:World) (l:List Flt) (e:Ending) (w':World):Prop:=∃A c,e=.returned (.slice A l.length c)/\l.length<=c/\FaultsAt w' A l/\Bz w w'
def FaultedO (w:World) (l:List Flt) (e:Ending) (w':World):Prop:=∃v B,e=.returned v/\w'.ownsRow B 54 4 v l.length (fcells l)/\Bz w w'
theorem exs_new (w:World) (C X:Array Value):ExS w (w.heap.size+1+1+1) (w.heap.size+1) (w.heap.size+1+1) (w.heap.size+1+1+1+1) X (((((w.alloc (.cells C 46)).alloc (.cells #[.slice none 0 0] 47)).alloc (.map #[] 0)).alloc (.cells #[.map (some (w.heap.size+1+1))] 90)).alloc (.cells X 94)) (.slice none 0 0) [] /\
  Blk (((((w.alloc (.cells C 46)).alloc (.cells #[.slice none 0 0] 47)).alloc (.map #[] 0)).alloc (.cells #[.map (some (w.heap.size+1+1))] 90)).alloc (.cells X 94)) w.heap.size 46 C:=by
 have h:=st_new w C X
 exact ⟨⟨h.tell,h.exam,h.below⟩,h.credit⟩
theorem examine_own (c:Crd) (hO:Hid c.okC) (nA:Option Addr) (nl nc:Nat) (needs:List Nd) (hnl:Hid (needs.length=nl)) (A:Option Addr) (nn cc:Nat) (docs:List Pap) (day:Int) (hday:Hid (-9223372036854775808<=day/\day<=9223372036854775807)) (w:World)
  (hN:Hid (NdsAt w nA needs)) (hF:Hid (FewParts needs)) (hR:Hid (Room w A nn docs)) (hal:Hid (AlikeAt w)) (hn12:nn<=12) :
  Calls Tryz.prog 21 #[.agg (c.cells (.slice nA nl nc)),.slice A nn cc,.int .i64 day] w (FaultedO w (examF c needs docs day)):=by
 have hmm:=@run_makeMap Tryz.prog
 obtain ⟨bx,hbx⟩:∃bx,decide (c.expiry<day)=bx:=⟨_,rfl⟩
 have hexp:Hid (expF c day=if bx=true then [⟨-1,-1,nExpiry,4⟩] else []):=by
  unfold Hid expF;rw [<-hbx];simp
 have hnl12:nl<=12:=by have:=hF.out.1;have:=hnl.out;omega
 go_enter Tryz.func21,Tryz.ntmps21
 go_upto_region 4 with fail
 go_cut [29] (fun s wx=>∃C,Hid (C=c.cells (.slice nA nl nc))/\s=.bool bx/\Hid (ExS w (w.heap.size+1+1+1) (w.heap.size+1) (w.heap.size+1+1) (w.heap.size+1+1+1+1) (exX C A nn cc day (w.heap.size+1+1+1) (w.heap.size+1)) wx (.slice none 0 0) [])/\Hid (Blk wx w.heap.size 46 C))
 case first =>
  go_wp2_with fail
  go_meet
  case rel =>
   have h:=exs_new w (c.cells (.slice nA nl nc)) (exX (c.cells (.slice nA nl nc)) A nn cc day (w.heap.size+1+1+1) (w.heap.size+1))
   exact ⟨_,rfl,rfl,h.1,h.2⟩
 case rest =>
  obtain ⟨C,hCe,rfl,hx0,hcr0⟩:=hcut
  have hC:Hid (CrdAt C c):=by unfold Hid;rw [hCe.out];exact c.at_ _
  have hC17:Hid (C[17]?=some (.slice nA nl nc)):=by unfold Hid;rw [hCe.out];rfl
  have hCs:=hdZ hC.out.size
  clear hCe hbx hmm
  go_upto_if 29 with fail
  go_cut [31] (fun _ wx=>∃v:Value,Hid (ExS w (w.heap.size+1+1+1) (w.heap.size+1) (w.heap.size+1+1) (w.heap.size+1+1+1+1) (exX C A nn cc day (w.heap.size+1+1+1) (w.heap.size+1)) wx v (addAll [] (expF c day)))/\Hid (Blk wx w.heap.size 46 C))
  case first =>
   as_aux_lemma =>
    cases bx
    ·go_wp2_with fail
     go_meet
     case rel=>exact ⟨_,by unfold Hid;rw [hexp.out];exact hx0.out,hcr0⟩
    ·have cx:wc.cell? ⟨w.heap.size+1+1+1+1,20,none⟩=some (.func (Fn.func 57) #[] #[.pointer (some ⟨w.heap.size+1+1+1,0,none⟩),.pointer (some ⟨w.heap.size+1,0,none⟩)]):=(hx0.out.exam.cell 20).trans (exX_tell hCs.out)
     have hfits:Flt.fits ⟨-1,-1,nExpiry,4⟩:=⟨fits_i64 (n := -1) (by omega) (by omega),fits_i64 (n := -1) (by omega) (by omega),by decide,fits_i64 (n:=4) (by omega) (by omega)⟩
     have hc:=hdZ (tell_ex ⟨-1,-1,nExpiry,4⟩ hfits (Nat.zero_le _) hx0.out)
     clear hfits
     go_wp2_with fail
     refine hc.out.mono ?_
     rintro e w1 ⟨rfl,v1,h1,h2⟩
     have h1':=hdZ h1
     have h2':=hdZ h2
     clear h1 h2 cx
     go_wp2_with fail
     go_meet
     case rel=>exact ⟨v1,by unfold Hid;rw [hexp.out];exact h1'.out,hx0.out.keep h2'.out hcr0.out (by decide) (by decide)⟩
  case rest =>
   as_aux_lemma =>
    obtain ⟨v1,hx1,hcr1⟩:=hcut
    have hl1:Hid ((addAll [] (expF c day)).length<=1):=by
     have e1:=addAll_len (expF c day) []
     have e2:(expF c day).length<=1:=by unfold expF;split<;>simp
     unfold Hid;simp only [List.length_nil] at e1;omega
    clear hx0 hcr0 hexp
    obtain ⟨V,hV⟩:=nmZ (wc)
    rw [hV.out] at hx1 hcr1 ⊢
    clear hV
    have hmm:=@run_makeMap Tryz.prog
    have hcm:=hdZ (MapFn.made V Tryz.prog 3 3 (plainElem_int Tryz.underlying3 (q:=.i64) (a:=0) (by decide)))
    have hx2:=hdZ (hx1.out.alloc (.map #[] 0))
    have hcr2:=hdZ (hcr1.out.alloc (.map #[] 0))
    have hcmB:Hid (w.heap.size+1+1+1+1<V.heap.size):=hx1.out.exam.lt
    obtain ⟨cm,hcmv⟩:=nmZ (V.heap.size)
    go_wp2_with fail
    rw [hcmv.out]
    rw [hcmv.out] at hcm hcmB
    go_loopw [12,39] (fun _ i wr=>∃(q n:Nat) (S:Value->Option Value),q<=nn/\n<=q/\i=.int .i64 q/\Hid (ExS w (w.heap.size+1+1+1) (w.heap.size+1) (w.heap.size+1+1) (w.heap.size+1+1+1+1) (exX C A nn cc day (w.heap.size+1+1+1) (w.heap.size+1)) wr v1 (addAll [] (expF c day)))/\Hid (Blk wr w.heap.size 46 C)/\Hid (MapFn wr Tryz.prog 3 3 cm n (.int .i64 0) S)/\Hid (CountS (docs.take q) S)) (fun _ i _=>nn-(intOf i).toNat)
    case atStart=>exact ⟨0,0,_,Nat.zero_le _,Nat.le_refl _,rfl,hx2,hcr2,hcm,fun k=>by rw [List.take_zero];rfl⟩
    case round =>
     obtain ⟨q,n,S,hq,hn,rfl,hx3,hcr3,hm3,hS3⟩:=hrel
     by_cases hlt:q<nn
     ·obtain ⟨d,hd⟩:∃d,docs[q]?=some d:=⟨_,gZ (by have:=hR.out.len;omega)⟩
      have hkd:=kind_of hR.out.at_ hd
      have hSp:=hdZ (hS3.out.put hd)
      have hlk0:=hdZ (hS3.out d.kind)
      have hcl:=countK_le (docs.take q) d.kind
      have htk:(docs.take q).length<=12:=by rw [List.length_take];omega
      obtain ⟨b,off,rfl,h0,h1,h2,h3,_⟩:=(hR.out.at_.below hx3.out.below) q d hd
      obtain ⟨kd,nu,is,fA,fc,fs⟩:=d
      simp only at h0 h1 h2 h3 hkd hSp hlk0 hcl
      obtain ⟨fm,hfm⟩:=nmZ (fs.length)
      rw [hfm.out] at h3
      obtain ⟨hk1,hk2⟩:=hkd
      obtain ⟨cnt,hcnt⟩:=nmZ (countK (docs.take q) kd)
      rw [hcnt.out] at hSp hlk0 hcl
      have hc12:cnt<=12:=by omega
      have hwf:=hdZ (fits_i64 hk1 hk2)
      have hwf2:=hdZ (fits_i64 (n:=(cnt:Int)+1) (by omega) (by omega))
      have hnl':Hid (n<maxLen):=by unfold Hid maxLen;omega
      have hbA:=hdZ ((Below.refl _ wr).alloc leZ (.cells #[.int .i64 kd,.string nu,.string is,.slice fA fm fc] 61))
      have hxA:=hdZ (hx3.out.belows hbA.out)
      have hcrA:=hdZ (hcr3.out.below hbA.out hcr3.out.lt)
      have hmA:=hdZ (hm3.out.alloc (.cells #[.int .i64 kd,.string nu,.string is,.slice fA fm fc] 61))
      have hlk:=hmA.out.look int_keyed3 Tryz.underlying95 (zero3 _) (keyOf_int_mk Tryz.underlying3 hwf.out)
      rw [hlk0.out] at hlk
      clear htk hcl hd
      go_wp2_with ((at_mapUpdate;go_must (refine wpList_put _ rfl _ _ _ 95 rfl int_keyed3 Tryz.underlying95 cm n rfl hmA.out hnl'.out (.int .i64 kd) (.int .i64 ((cnt:Int)+1)) _ rfl rfl (keyOf_int_mk Tryz.underlying3 hwf.out) (plainElem_int Tryz.underlying3 hwf2.out) ?_);intro w2 hm4 hg4;have hm4':=hdZ hm4;have hx4:=hdZ (hxA.out.put hmA.out (by have:=hcmB.out;omega) (by have:=hcmB.out;omega) hg4);have hcr4:=hdZ (hcrA.out.kept hg4 (by simpa using blk_map_ne hcrA.out hmA.out));clear hm4 hg4 hlk))
      go_roundw
      case rel=>exact ⟨q+1,n+1,_,by omega,by omega,by go_num,hx4,hcr4,hm4',hSp⟩
      case measure=>simp [intOf];omega
     ·obtain rfl:nn=q:=by omega
      rw [List.take_of_length_le (by have:=hR.out.len;omega)] at hS3
      obtain ⟨U,hU⟩:=nmZ (wr)
      rw [hU.out] at hx3 hcr3 hm3 ⊢
      clear hU hx2 hcr2 hcm hx1 hcr1 hcmv hlt hq
      have hmm:=@run_makeMap Tryz.prog
      have hak:=hdZ (MapFn.made U Tryz.prog 3 4 (plainElem_bool Tryz.underlying4 false))
      have hx4:=hdZ (hx3.out.alloc (.map #[] 0))
      have hcr4:=hdZ (hcr3.out.alloc (.map #[] 0))
      have hm4:=hdZ (hm3.out.alloc (.map #[] 0))
      have hakB:Hid (cm<U.heap.size):=hm3.out.lt
      have c17:(U.alloc (.map #[] 0)).cell? ⟨w.heap.size,17,none⟩=some (.slice nA nl nc):=(hcr4.out.cell 17).trans hC17.out
      obtain ⟨ak,hakv⟩:=nmZ (U.heap.size)
      go_wp2_with fail
      clear c17
      rw [hakv.out]
      rw [hakv.out] at hak hakB
      go_loopw [15,53] (fun _ i wy=>∃(p m:Nat) (v':Value) (T:Value->Option Value),p<=nl/\m<=p/\i=.int .i64 p/\Hid (ExS w (w.heap.size+1+1+1) (w.heap.size+1) (w.heap.size+1+1) (w.heap.size+1+1+1+1) (exX C A nn cc day (w.heap.size+1+1+1) (w.heap.size+1)) wy v' (addAll (addAll [] (expF c day)) ((needs.take p).flatMap (lackF docs))))/\Hid (Blk wy w.heap.size 46 C)/\Hid (MapFn wy Tryz.prog 3 3 cm n (.int .i64 0) S)/\Hid (MapFn wy Tryz.prog 3 4 ak m (.bool false) T)/\Hid (AskS (needs.take p) T)) (fun _ i _=>nl-(intOf i).toNat)
      case atStart=>exact ⟨0,0,v1,_,Nat.zero_le _,Nat.le_refl _,rfl,by unfold Hid;rw [List.take_zero];exact hx4.out,hcr4,hm4,hak,fun k=>by rw [List.take_zero];rfl⟩
      case round =>
       clear hx4 hcr4 hm4 hak hx3 hcr3 hm3 hakv
       obtain ⟨p,m,v2,T,hp,hmp,rfl,hx5,hcr5,hm5,hk5,hT5⟩:=hrel
       by_cases hlt:p<nl
       ·obtain ⟨x,hxp⟩:∃x,needs[p]?=some x:=⟨_,gZ (by have:=hnl.out;omega)⟩
        have hTp:=hdZ (hT5.out.put hxp)
        have hsn:=hdZ (lack_snoc docs hxp)
        have hlk0:=hdZ (hS3.out x.kind)
        have hcl:=countK_le docs x.kind
        have hlen:Hid ((addAll (addAll [] (expF c day)) ((needs.take p).flatMap (lackF docs))).length<=100):=by
         have e1:=addAll_len ((needs.take p).flatMap (lackF docs)) (addAll [] (expF c day))
         have e2:=flat_le _ (lackF_le docs) (needs.take p)
         have e3:(needs.take p).length<=12:=by rw [List.length_take];omega
         have:=hl1.out;unfold Hid;omega
        obtain ⟨⟨hk1,hk2⟩,_,_,b2,off2,rfl,n0,n1,n2⟩:=(hN.out.below hx5.out.below) p x hxp
        have hLk:Hid (∀z:Int,z=(countK docs x.kind:Int)->(z<x.count->lackF docs x=[⟨-1,x.kind,⟨#[]⟩,1⟩])/\(¬z<x.count->lackF docs x=[])):=fun z hz=>by
         subst hz
         exact ⟨fun h=>by unfold lackF;rw [if_pos h],fun h=>by unfold lackF;rw [if_neg h]⟩
        obtain ⟨xk,xc,t⟩:=x
        obtain ⟨tk,tp,tf,tx,tn,tA,tc,tL⟩:=t
        simp only at n0 n1 n2 hk1 hk2 hTp hlk0 hcl hLk
        obtain ⟨m0,m1,m2,m3,m4,m5⟩:=n2
        obtain ⟨cnt,hcnt⟩:=nmZ (countK docs xk)
        rw [hcnt.out] at hlk0 hcl hLk
        have hwf:=hdZ (fits_i64 hk1 hk2)
        have hnl':Hid (m<maxLen):=by unfold Hid maxLen;omega
        have hbA:=hdZ ((Below.refl _ wr).alloc leZ (.cells #[.int .i64 xk,.int .i64 xc,.int .i64 tk,.int .i64 tp,.string tf,.string tx,.int .i64 tn,.slice tA tL.length tc] 71))
        have hbox:=hdZ (Blk.new wr 71 #[.int .i64 xk,.int .i64 xc,.int .i64 tk,.int .i64 tp,.string tf,.string tx,.int .i64 tn,.slice tA tL.length tc])
        have hxA:=hdZ (hx5.out.belows hbA.out)
        have hcrA:=hdZ (hcr5.out.below hbA.out hcr5.out.lt)
        have hmA:=hdZ (hm5.out.alloc (.cells #[.int .i64 xk,.int .i64 xc,.int .i64 tk,.int .i64 tp,.string tf,.string tx,.int .i64 tn,.slice tA tL.length tc] 71))
        have hkA:=hdZ (hk5.out.alloc (.cells #[.int .i64 xk,.int .i64 xc,.int .i64 tk,.int .i64 tp,.string tf,.string tx,.int .i64 tn,.slice tA tL.length tc] 71))
        clear hxp hcl
        by_cases hcx:(cnt:Int)<xc
        all_goals
         go_wp2_with ((at_mapUpdate;go_must (refine wpList_put _ rfl _ _ _ 37 rfl int_keyed3 Tryz.underlying37 ak m rfl hkA.out hnl'.out (.int .i64 xk) (.bool true) _ rfl rfl (keyOf_int_mk Tryz.underlying3 hwf.out) (plainElem_bool Tryz.underlying4 true) ?_);intro w2 hk6 hg6;have hk6':=hdZ hk6;have hx6:=hdZ (hxA.out.put hkA.out (by have:=hcmB.out;have:=hakB.out;omega) (by have:=hcmB.out;have:=hakB.out;omega) hg6);have hcr6:=hdZ (hcrA.out.kept hg6 (by simpa using blk_map_ne hcrA.out hkA.out));have hm6:Hid (MapFn w2 Tryz.prog 3 3 cm n (.int .i64 0) S):=hmA.out.kept hg6 (by have:=hakB.out;simp;omega);have hlk:=hm6.out.look int_keyed3 Tryz.underlying95 (zero3 _) (keyOf_int_mk Tryz.underlying3 hwf.out);rw [hlk0.out] at hlk;have hbox2:=hbox.out.kept hg6 (by simpa using blk_map_ne hbox.out hkA.out);have q0:w2.cell? ⟨wr.heap.size,0,none⟩=some (.int .i64 xk):=hbox2.cell 0;have q1:w2.cell? ⟨wr.heap.size,1,none⟩=some (.int .i64 xc):=hbox2.cell 1;have qx:w2.cell? ⟨w.heap.size+1+1+1+1,20,none⟩=some (.func (Fn.func 57) #[] #[.pointer (some ⟨w.heap.size+1+1+1,0,none⟩),.pointer (some ⟨w.heap.size+1,0,none⟩)]):=(hx6.out.exam.cell 20).trans (exX_tell hCs.out);clear hk6 hg6 hbox2))
        ·have hlac:=hdZ ((hLk.out _ rfl).1 hcx)
         have hfits:Flt.fits ⟨-1,xk,⟨#[]⟩,1⟩:=⟨fits_i64 (n := -1) (by omega) (by omega),hwf.out,Nat.zero_le _,fits_i64 (n:=1) (by omega) (by omega)⟩
         have hc:∀W,W=w2.drew->Calls Tryz.prog 57 #[.agg #[.int .i64 (-1),.int .i64 xk,.string ⟨#[]⟩,.int .i64 1],.pointer (some ⟨w.heap.size+1+1+1,0,none⟩),.pointer (some ⟨w.heap.size+1,0,none⟩)] W (Ted w (w.heap.size+1+1+1) (w.heap.size+1) (w.heap.size+1+1) (w.heap.size+1+1+1+1) (exX C A nn cc day (w.heap.size+1+1+1) (w.heap.size+1)) (addF (addAll (addAll [] (expF c day)) ((needs.take p).flatMap (lackF docs))) ⟨-1,xk,⟨#[]⟩,1⟩) W):=fun W e=>by
          subst e
          exact tell_ex ⟨-1,xk,⟨#[]⟩,1⟩ hfits (by have:=hlen.out;omega) hx6.out.drew
         have hc':=hdZ hc
         clear hc hfits
         go_region_with ((go_at_call 57;(with_reducible refine (hc'.out _ ?_).mono ?_);rfl;rintro e w3 ⟨rfl,v3,g1,g2⟩;have g1':=hdZ g1;have g2':=hdZ g2;clear g1 g2))
         all_goals
          go_wp2_with fail
          go_roundw
          case rel =>
           have hd6:=hx6.out.drew
           exact ⟨p+1,m+1,v3,_,by omega,by omega,by go_num,by unfold Hid;rw [hsn.out,addAll_app,hlac.out];exact g1'.out,hd6.keep g2'.out hcr6.out.drew (by decide) (by decide),hd6.keepM g2'.out hm6.out.drew (by have:=hcmB.out;omega),hd6.keepM g2'.out hk6'.out.drew (by have:=hcmB.out;have:=hakB.out;omega),hTp⟩
          case measure=>simp [intOf];omega
        ·have hlac:=hdZ ((hLk.out _ rfl).2 hcx)
         go_roundw
         case rel=>exact ⟨p+1,m+1,v2,_,by omega,by omega,by go_num,by unfold Hid;rw [hsn.out,hlac.out,List.append_nil];exact hx6.out,hcr6,hm6,hk6',hTp⟩
         case measure=>simp [intOf];omega
       ·obtain rfl:nl=p:=by omega
        rw [List.take_of_length_le (by have:=hnl.out;omega)] at hT5 hx5
        obtain ⟨Y,hY⟩:=nmZ (wr)
        rw [hY.out] at hx5 hcr5 hm5 hk5 ⊢
        clear hY hlt hp
        have hmm:=@run_makeMap Tryz.prog
        have hah:=hdZ (MapFn.made Y Tryz.prog 9 9 (plainElem_string (s:=⟨#[]⟩) Tryz.underlying9 (by decide)))
        have hx6:=hdZ (hx5.out.alloc (.map #[] 0))
        have hk6:=hdZ (hk5.out.alloc (.map #[] 0))
        have hahB:Hid (ak<Y.heap.size):=hk5.out.lt
        have hl2:Hid ((addAll (addAll [] (expF c day)) (needs.flatMap (lackF docs))).length<=100):=by
         have e1:=addAll_len (needs.flatMap (lackF docs)) (addAll [] (expF c day))
         have e2:=flat_le _ (lackF_le docs) needs
         have e3:=hF.out.1
         have:=hl1.out;unfold Hid;omega
        obtain ⟨ah,hahv⟩:=nmZ (Y.heap.size)
        go_wp2_with fail
        rw [hahv.out]
        rw [hahv.out] at hah hahB
        go_loopw [17,18,79] (fun _ _ i wz=>∃(r h:Nat) (v':Value) (R:Value->Option Value),r<=nn/\h<=6*r/\i=.int .i64 r/\Hid (ExS w (w.heap.size+1+1+1) (w.heap.size+1) (w.heap.size+1+1) (w.heap.size+1+1+1+1) (exX C A nn cc day (w.heap.size+1+1+1) (w.heap.size+1)) wz v' (addAll (addAll (addAll [] (expF c day)) (needs.flatMap (lackF docs))) ((List.range r).flatMap (docAt c needs docs day))))/\Hid (MapFn wz Tryz.prog 3 4 ak m (.bool false) T)/\Hid (MapFn wz Tryz.prog 9 9 ah h (.string ⟨#[]⟩) R)/\Hid (Ahead0 needs (docs.take r) R)) (fun _ _ i _=>nn-(intOf i).toNat)
        case atStart=>exact ⟨0,0,v2,_,Nat.zero_le _,Nat.le_refl _,rfl,hx6,hk6,hah,by rw [List.take_zero];exact Ahead0.start needs⟩
        case round =>
         clear hx6 hk6 hah hx5 hcr5 hm5 hk5 hahv
         obtain ⟨r,h,v3,R,hr,hh,rfl,hx7,hk7,ha7,hA7⟩:=hrel
         by_cases hlt:r<nn
         ·obtain ⟨d,hd⟩:∃d,docs[r]?=some d:=⟨_,gZ (by have:=hR.out.len;omega)⟩
          have hkd:=kind_of hR.out.at_ hd
          have hd':=hdZ hd
          have hsn:=hdZ (docs_snoc c needs docs day r)
          have hdoc:Hid (docAt c needs docs day r=docF c needs docs day r d):=by unfold Hid docAt;rw [hd]
          have hlk0:=hdZ (hT5.out d.kind)
          have hlen:Hid ((addAll (addAll (addAll [] (expF c day)) (needs.flatMap (lackF docs))) ((List.range r).flatMap (docAt c needs docs day))).length+2000<=100000):=by
           have e1:=addAll_len ((List.range r).flatMap (docAt c needs docs day)) (addAll (addAll [] (expF c day)) (needs.flatMap (lackF docs)))
           have e2:=docs_len (c:=c) (docs:=docs) (day:=day) hF.out r
           have:=hl2.out;unfold Hid;omega
          obtain ⟨b,off,rfl,h0,h1,h2,h3,_⟩:=(hR.out.at_.below hx7.out.below) r d hd
          clear hd
          obtain ⟨kd,nu,is,fA,fc,fs⟩:=d
          simp only at h0 h1 h2 h3 hkd hlk0
          obtain ⟨fm,hfm⟩:=nmZ (fs.length)
          rw [hfm.out] at h3
          obtain ⟨hk1,hk2⟩:=hkd
          have hwf:=hdZ (fits_i64 hk1 hk2)
          have hbA:=hdZ ((Below.refl _ wr).alloc leZ (.cells #[.int .i64 kd,.string nu,.string is,.slice fA fm fc] 61))
          have hxA:=hdZ (hx7.out.belows hbA.out)
          have hkA:=hdZ (hk7.out.alloc (.cells #[.int .i64 kd,.string nu,.string is,.slice fA fm fc] 61))
          have haA:=hdZ (ha7.out.alloc (.cells #[.int .i64 kd,.string nu,.string is,.slice fA fm fc] 61))
          have hlk:=hkA.out.look int_keyed3 Tryz.underlying37 (zero4 _) (keyOf_int_mk Tryz.underlying3 hwf.out)
          rw [hlk0.out] at hlk
          obtain ⟨ab,hab⟩:=nmZ (askedB needs kd)
          rw [hab.out] at hlk
          cases ab
          ·have hdn:Hid (docF c needs docs day r ⟨kd,nu,is,fA,fc,fs⟩=[]):=by unfold Hid docF;rw [hab.out];rfl
           have hA8:=hdZ (hA7.out.skip hd'.out hab.out)
           go_wp2_with fail
           go_roundw
           case rel=>exact ⟨r+1,h,v3,R,by omega,by omega,by go_num,by unfold Hid;rw [hsn.out,hdoc.out,hdn.out,List.append_nil];exact hxA.out,hkA,haA,hA8⟩
           case measure=>simp [intOf];omega
          ·have hdn:Hid (docF c needs docs day r ⟨kd,nu,is,fA,fc,fs⟩=paperF c needs docs day r ⟨kd,nu,is,fA,fc,fs⟩++othersF needs (docs.take r) r ⟨kd,nu,is,fA,fc,fs⟩):=by unfold Hid docF;rw [hab.out];rfl
           have hpl:Hid ((addAll (addAll (addAll (addAll [] (expF c day)) (needs.flatMap (lackF docs))) ((List.range r).flatMap (docAt c needs docs day))) (paperF c needs docs day r ⟨kd,nu,is,fA,fc,fs⟩)).length+10<=100000):=by
            have e1:=addAll_len (paperF c needs docs day r ⟨kd,nu,is,fA,fc,fs⟩) (addAll (addAll (addAll [] (expF c day)) (needs.flatMap (lackF docs))) ((List.range r).flatMap (docAt c needs docs day)))
            have e2:=docF_len (c:=c) (docs:=docs) (day:=day) (a:=r) (d:=⟨kd,nu,is,fA,fc,fs⟩) hF.out
            rw [hdn.out,List.length_append] at e2
            have:=hlen.out;unfold Hid;omega
           go_wp2_with fail
           refine (exPaper_any w (w.heap.size+1+1+1) (w.heap.size+1) (w.heap.size+1+1) (w.heap.size+1+1+1+1) C c hC hO nA nl nc needs hC17 hnl hN hF _ nn cc docs day hday r _ hd' hR _ v3 _ (by have:=hlen.out;unfold Hid;omega) hxA).mono ?_
           rintro e w1 ⟨rfl,v4,g1,g2⟩
           have hx8:=hdZ g1
           have hk8:=hdZ (hxA.out.keepM g2 hkA.out (by have:=hcmB.out;have:=hakB.out;omega))
           have ha8:=hdZ (hxA.out.keepM g2 haA.out (by have:=hcmB.out;have:=hakB.out;have:=hahB.out;omega))
           clear g1 g2 hlk h0 h1 h2 h3
           go_wp2_with fail
           refine (others_any w (w.heap.size+1+1+1) (w.heap.size+1) (w.heap.size+1+1) (w.heap.size+1+1+1+1) C hCs needs _ nn cc docs day r _ hd' hab hR hal ah h R _ v4 _ hpl (by omega) hx8 ha8 (by have:=hcmB.out;have:=hakB.out;have:=hahB.out;unfold Hid;omega) (hA7.out.to _)).mono ?_
           rintro e w2 ⟨rfl,v5,n5,S5,g1,g2,g3,g4,g5⟩
           have hx9:=hdZ g1
           have hk9:=hdZ (hx8.out.keepXM g2 hk8.out (by have:=hcmB.out;have:=hakB.out;omega) (by have:=hahB.out;omega))
           have ha9:=hdZ g4
           have hA9:=hdZ (g5.out hd'.out)
           clear g1 g2 g4 g5
           go_wp2_with fail
           go_roundw
           case rel=>exact ⟨r+1,n5,v5,S5,by omega,by omega,by go_num,by unfold Hid;rw [hsn.out,hdoc.out,hdn.out,addAll_app,addAll_app];exact hx9.out,hk9,ha9,hA9⟩
           case measure=>simp [intOf];omega
         ·obtain rfl:nn=r:=by omega
          have hex:Hid ((addAll (addAll (addAll [] (expF c day)) (needs.flatMap (lackF docs))) ((List.range nn).flatMap (docAt c needs docs day)))=examF c needs docs day):=by
           unfold Hid examF toldE
           rw [addAll_app,addAll_app,show nn=docs.length from hR.out.len.symm]
          rw [hex.out] at hx7
          have qf:wr.cell? ⟨w.heap.size+1,0,none⟩=some v3:=by rw [hx7.out.tell.fc.cell];rfl
          go_wp2_with fail
          go_ret
          exact ⟨v3,_,rfl,hx7.out.tell.row,hx7.out.below⟩
def failT (docs:List Pap) (d:Pap) (l:List Tree):List Tree:=l.filter fun u=>decide (holdsT docs d u≠0)
def failL (needs:List Nd) (docs:List Pap) (d:Pap):List Tree:=needs.flatMap fun x=>if x.kind=d.kind then failT docs d (partsT x.rule) else []
theorem failT_app (docs:List Pap) (d:Pap) (l m:List Tree):failT docs d (l++m)=failT docs d l++failT docs d m:=List.filter_append ..
def boxT (t:TypeId):Prop:=t=24\/t=25\/t=3\/t=46\/t=71\/t=103
structure Giver (base:Nat) (Fr:World->World->Prop):Prop where
 refl:∀W,Fr W W
 trans:∀{a b c:World},Fr a b->Fr b c->Fr a c
 of:∀{a b:World},Bz a b->Fr a b
 low:∀{a b:World},Fr a b->base<=a.heap.size->Below base a b
 size:∀{a b:World},Fr a b->a.heap.size<=b.heap.size
 blk:∀{a b:World} {g:Nat} {t:TypeId} {cs:Array Value},Fr a b->Blk a g t cs->boxT t->Blk b g t cs
structure GiveS {σ:Type} (w0:World) (base:Nat) (docs:List Pap) (d:Pap) (Fr:World->World->Prop) (Inv:σ->World->Prop) (ok:σ->Prop) (T:Tree->Prop) (step:σ->Tree->σ) (g:Nat) (caps:Array Value):Prop where
 giver:Giver base Fr
 inv:∀(s:σ) (a b:World),Inv s a->Bz a b->Inv s b
 call:∀(s:σ) (t:Tree) (W:World),TreeAt w0 t->T t->holdsT docs d t≠0->Below base w0 W->ok s->Inv s W->Calls Tryz.prog g (#[.agg t.cells,.int .i64 (holdsT docs d t)]++caps) W fun e w'=>e=.returned (.tuple #[])/\Inv (step s t) w'/\Fr W w'
 enters:∀(args:Array Value) (w:World),(callFunc g args).run Tryz.prog w=.ok (.enter g args) w
structure GBox (W:World) (p5 p6 p7:Nat) (A:Option Addr) (nn cc a g:Nat) (caps:Array Value):Prop where
 docs:Blk W p5 25 #[.slice A nn cc]
 at_:Blk W p6 3 #[.int .i64 (a:Int)]
 give:Blk W p7 103 #[.func (.func g) #[] caps]
theorem GBox.fr {base:Nat} {Fr:World->World->Prop} (G:Giver base Fr) {W W':World} {p5 p6 p7:Nat} {A:Option Addr} {nn cc a g:Nat} {caps:Array Value} (h:GBox W p5 p6 p7 A nn cc a g caps) (hf:Fr W W'):GBox W' p5 p6 p7 A nn cc a g caps :=
 ⟨G.blk hf h.docs (.inr (.inl rfl)),G.blk hf h.at_ (.inr (.inr (.inl rfl))),G.blk hf h.give (.inr (.inr (.inr (.inr (.inr rfl)))))⟩
theorem GBox.below {W W':World} {p5 p6 p7:Nat} {A:Option Addr} {nn cc a g:Nat} {caps:Array Value} (h:GBox W p5 p6 p7 A nn cc a g caps) (hb:Bz W W'):GBox W' p5 p6 p7 A nn cc a g caps :=
 ⟨h.docs.below hb h.docs.lt,h.at_.below hb h.at_.lt,h.give.below hb h.give.lt⟩
def Given {σ:Type} (Fr:World->World->Prop) (Inv:σ->World->Prop) (s:σ) (W:World) (e:Ending) (w':World):Prop:=e=.returned (.tuple #[])/\Inv s w'/\Fr W w'
section
variable {σ:Type} {w0:World} {base:Nat} {docs:List Pap} {d:Pap} {Fr:World->World->Prop} {Inv:σ->World->Prop} {ok:σ->Prop} {T:Tree->Prop} {step:σ->Tree->σ} {g:Nat} {caps:Array Value}
theorem give1_any (H:Hid (GiveS w0 base docs d Fr Inv ok T step g caps)) (hbase:base<=w0.heap.size) (A:Option Addr) (nn cc a:Nat) (hd:Hid (docs[a]?=some d)) (hR:Hid (∀W,Below base w0 W->Room W A nn docs)) (hTb:Hid (∀W t,Below base w0 W->TreeAt w0 t->TreeAt W t)) (t:Tree) (hT:Hid (TreeAt w0 t)) (hQ:Hid (T t)) (p5 p6 p7:Nat)
  (w:World) (s:σ) (hok:Hid (ok s)) (hI:Hid (Inv s w)) (hB:Hid (Below base w0 w)) (hX:Hid (GBox w p5 p6 p7 A nn cc a g caps)) :
  Calls Tryz.prog 117 #[.agg t.cells,.pointer (some ⟨p5,0,none⟩),.pointer (some ⟨p6,0,none⟩),.pointer (some ⟨p7,0,none⟩)] w (Given Fr Inv ((failT docs d [t]).foldl step s) w):=by
 have hh:=hdZ (fun (W:World) (h:Below base w0 W)=>holds_any A nn cc docs (a:Int) t W (hTb.out W t h hT.out) (hR.out W h))
 rw [standsA_in hd.out] at hh
 have hcall:=hdZ (fun (hne:holdsT docs d t≠0) (W:World) (h:Below base w0 W) (hi:Inv s W)=>H.out.call s t W hT.out hQ.out hne h hok.out hi)
 have eg:=H.out.enters
 have hinv:=hdZ H.out.inv
 have hG:=hdZ H.out.giver
 have hft:Hid (failT docs d [t]=if holdsT docs d t=0 then [] else [t]):=by
  unfold Hid failT
  by_cases h:holdsT docs d t=0<;>simp [h]
 obtain ⟨y,hy⟩:∃y,holdsT docs d t=y:=⟨_,rfl⟩
 rw [hy] at hh hcall hft
 clear H hy
 obtain ⟨TT,hTT⟩:=nmZ (t)
 obtain ⟨k,p,f,x,n,A',c',L⟩:=t
 simp only [Tree.cells] at hh hcall ⊢
 rw [hTT.out] at hcall hft hT hQ ⊢
 clear hTT
 obtain ⟨w1,hw1,hb1,hN1⟩:=newZ w 24 #[.int .i64 k,.int .i64 p,.string f,.string x,.int .i64 n,.slice A' L.length c']
 have hX1:=hdZ (hX.out.below hb1.out)
 have hB1:Hid (Below base w0 w1):=hB.out.trans (hb1.out.mono (Nat.le_trans hbase hB.out.size))
 obtain ⟨q0,q1,q2,q3,q4,q5⟩:=cs6 hN1.out
 have r5:w1.cell? ⟨p5,0,none⟩=some (.slice A nn cc):=hX1.out.docs.cell 0
 have r6:w1.cell? ⟨p6,0,none⟩=some (.int .i64 (a:Int)):=hX1.out.at_.cell 0
 have hh1:=hdZ (hh.out w1 hB1.out)
 go_enter Tryz.func117,Tryz.ntmps117
 go_wp2_with (rw [hw1.out])
 refine hh1.out.mono ?_
 rintro e w2 ⟨rfl,hb2⟩
 have hB2:Hid (Below base w0 w2):=hB1.out.trans (hb2.mono (Nat.le_trans hbase hB1.out.size))
 have hb12:=btY hb1 hb2
 have hN2:=kbY hN1 hb2
 have hX2:=hdZ (hX1.out.below hb2)
 have hI2:=hdZ (hinv.out s w w2 hI.out hb12.out)
 clear q0 q1 q2 q3 q4 q5 r5 r6 hb2 hh1 hh hN1 hX1
 by_cases hy0:y=0
 ·have z1:(y != 0)=false:=by simp [hy0]
  have z2:(y==0)=true:=by simp [hy0]
  have hft0:Hid (failT docs d [TT]=[]):=by unfold Hid;rw [hft.out,if_pos hy0]
  go_wp2_with fail
  go_end0
  exact ⟨rfl,by rw [hft0.out];exact hI2.out,hG.out.of hb12.out⟩
 ·have z1:(y != 0)=true:=by simpa using hy0
  have z2:(y==0)=false:=by simpa using hy0
  have hft1:Hid (failT docs d [TT]=[TT]):=by unfold Hid;rw [hft.out,if_neg hy0]
  have hcall2:=hdZ (hcall.out hy0 w2 hB2.out hI2.out)
  obtain ⟨q0,q1,q2,q3,q4,q5⟩:=cs6 hN2.out
  have r7:w2.cell? ⟨p7,0,none⟩=some (.func (.func g) #[] caps):=hX2.out.give.cell 0
  clear hcall hft hI hT hQ hok
  go_wp2_with (go_at_fn g;refine hcall2.out.mono ?_;rintro e w3 ⟨rfl,hI3,hF3⟩)
  have hI3':=hdZ hI3
  have hF3':=hdZ hF3
  clear hI3 hF3 q0 q1 q2 q3 q4 q5 r7 hcall2
  go_wp2_with fail
  go_end0
  exact ⟨rfl,by rw [hft1.out];exact hI3'.out,hG.out.trans (hG.out.of hb12.out) hF3'.out⟩
theorem ok_sub {A B C:List Tree} {s:σ} (h:∀i,ok (((A++(B++C)).take i).foldl step s)):∀i,ok ((B.take i).foldl step (A.foldl step s)):=by
 intro i
 have h1:=h (A.length+min i B.length)
 have e:B.take (min i B.length)=B.take i:=by
  rcases Nat.le_total i B.length with h2 | h2
  ·rw [Nat.min_eq_left h2]
  ·rw [Nat.min_eq_right h2,List.take_of_length_le leZ,List.take_of_length_le h2]
 rw [List.take_length_add_append,List.take_append_of_le_length (Nat.min_le_right _ _),List.foldl_append,e] at h1
 exact h1
theorem gpartsL_app:∀A B:List Tree,partsL (A++B)=partsL A++partsL B
 | [],B=>by rw [partsL];rfl
 | a::A,B=>by rw [List.cons_append,partsL,partsL,gpartsL_app A B,List.append_assoc]
theorem partsL_split {L:List Tree} {q:Nat} {u:Tree} (h:L[q]?=some u):partsL L=partsL (L.take q)++(partsT u++partsL (L.drop (q+1))):=by
 obtain ⟨hq,e⟩:=gsZ.1 h
 have hs:L=L.take q++(u::L.drop (q+1)):=by rw [<-e,<-List.drop_eq_getElem_cons hq,List.take_append_drop]
 have h1:=gpartsL_app (L.take q) (u::L.drop (q+1))
 rw [<-hs,partsL] at h1
 exact h1
def PartsG (w0:World) (docs:List Pap) (d:Pap) (Fr:World->World->Prop) (Inv:σ->World->Prop) (ok:σ->Prop) (T:Tree->Prop) (step:σ->Tree->σ) (g:Nat) (caps:Array Value) (A:Option Addr) (nn cc a p5 p6 p7:Nat) (t:Tree):Prop :=
 ∀(w:World) (s:σ),Hid (TreeAt w0 t)->Hid (∀u∈partsT t,T u)->Hid (∀i,ok (((failT docs d (partsT t)).take i).foldl step s))->Hid (Inv s w)->Hid (Bz w0 w)->Hid (GBox w p5 p6 p7 A nn cc a g caps) ->
  Calls Tryz.prog 116 #[.agg t.cells,.func (Fn.func 117) #[] #[.pointer (some ⟨p5,0,none⟩),.pointer (some ⟨p6,0,none⟩),.pointer (some ⟨p7,0,none⟩)]] w (Given Fr Inv ((failT docs d (partsT t)).foldl step s) w)
theorem gparts_walk (H:Hid (GiveS w0 w0.heap.size docs d Fr Inv ok T step g caps)) (A:Option Addr) (nn cc a:Nat) (hd:Hid (docs[a]?=some d)) (hR:Hid (Room w0 A nn docs)) (p5 p6 p7:Nat) (t:Tree) (ih:Hid (∀u∈t.sub,PartsG w0 docs d Fr Inv ok T step g caps A nn cc a p5 p6 p7 u)):PartsG w0 docs d Fr Inv ok T step g caps A nn cc a p5 p6 p7 t:=by
 intro w s hT hQ hok hI hB hX
 have hG:=hdZ H.out.giver
 have hinv:=hdZ H.out.inv
 obtain ⟨k,p,f,x,n,A',c',L⟩:=t
 simp only [Tree.sub] at ih
 have hg1:Hid (k≠0->∀W,Bz w0 W->Inv s W->GBox W p5 p6 p7 A nn cc a g caps->Calls Tryz.prog 117 #[.agg (Tree.mk k p f x n A' c' L).cells,.pointer (some ⟨p5,0,none⟩),.pointer (some ⟨p6,0,none⟩),.pointer (some ⟨p7,0,none⟩)] W (Given Fr Inv ((failT docs d [Tree.mk k p f x n A' c' L]).foldl step s) W)):=hdZ fun hk0 W hBW hIW hXW=>by
  have hpt:partsT (.mk k p f x n A' c' L)=[.mk k p f x n A' c' L]:=by rw [partsT,if_neg hk0]
  have hQ1:=hQ.out
  have hok1:=hok.out 0
  rw [hpt] at hQ1
  simp only [List.take_zero,List.foldl_nil] at hok1
  exact give1_any H leZ A nn cc a hd (hdZ fun W' h=>hR.out.below h) (hdZ fun W' t h ht=>ht.below h) _ hT (hdZ (hQ1 _ (by simp))) p5 p6 p7 W s (hdZ hok1) (hdZ hIW) (hdZ hBW) (hdZ hXW)
 simp only [Tree.cells] at hg1 ⊢
 obtain ⟨m,hm⟩:=nmZ (L.length)
 rw [hm.out] at hg1 ⊢
 obtain ⟨hrows,hml⟩:=rows_sub hT.out
 rw [hm.out] at hml
 unfold maxLen at hml
 have hrows':=hdZ hrows
 clear hrows
 obtain ⟨w1,hw1,hb1,hN1⟩:=newZ w 24 #[.int .i64 k,.int .i64 p,.string f,.string x,.int .i64 n,.slice A' m c']
 have hX1:=hdZ (hX.out.below hb1.out)
 have hB1:=btZ hB hb1
 have hI1:=hdZ (hinv.out s w w1 hI.out hb1.out)
 obtain ⟨q0,q1,q2,q3,q4,q5⟩:=cs6 hN1.out
 clear H hI hX hB
 by_cases hk0:k=0
 ·have hpt:Hid (partsT (.mk k p f x n A' c' L)=partsL L):=by unfold Hid;rw [partsT,if_pos hk0]
  rw [hpt.out] at hQ hok ⊢
  have b0:(k != 0)=false:=by simp [hk0]
  clear hk0 hg1
  go_enter Tryz.func116,Tryz.ntmps116
  go_wp2_with (rw [hw1.out])
  go_loopw [5,15] (fun _ i wr=>∃(q:Nat),q<=m/\i=.int .i64 q/\Hid (Inv ((failT docs d (partsL (L.take q))).foldl step s) wr)/\Hid (Fr w wr)/\Hid (Bz w0 wr)/\Hid (GBox wr p5 p6 p7 A nn cc a g caps)) (fun _ i _=>m-(intOf i).toNat)
  case atStart=>exact ⟨0,Nat.zero_le _,rfl,by rw [List.take_zero,partsL];exact hI1,hG.out.of hb1.out,hB1,hX1⟩
  case round =>
   clear q0 q1 q2 q3 q4 q5 hN1 hI1 hX1 hB1 hb1 hw1
   obtain ⟨q,hq,rfl,hI2,hF2,hB2,hX2⟩:=hrel
   by_cases hlt:q<m
   ·as_aux_lemma =>
    obtain ⟨u,hu⟩:∃u,L[q]?=some u:=⟨_,gZ (by have:=hm.out;omega)⟩
    obtain ⟨hc,_⟩:=(hrows'.out.below hB2.out).get q u hu
    have hT0:=hdZ (hrows'.out.get q u hu).2
    have hsn:=hdZ (partsL_snoc hu)
    have hsp:=partsL_split hu
    have hQ0:Hid (∀v∈partsT u,T v):=hdZ fun v hv=>hQ.out v (by rw [hsp];simp [hv])
    have hok0:Hid (∀i,ok (((failT docs d (partsT u)).take i).foldl step ((failT docs d (partsL (L.take q))).foldl step s))):=hdZ (ok_sub (C:=failT docs d (partsL (L.drop (q+1)))) (by rw [<-failT_app,<-failT_app,<-hsp];exact hok.out))
    have hcall:=hdZ (fun (W:World) (hF:Bz wr W)=>ih.out u (mgZ hu) W _ hT0 hQ0 hok0 (hdZ (hinv.out _ _ _ hI2.out hF)) (hdZ (hB2.out.trans (hF.mono hB2.out.size))) (hdZ (hX2.out.below hF)))
    obtain ⟨S1,hS1⟩:∃x,(failT docs d (partsT u)).foldl step ((failT docs d (partsL (L.take q))).foldl step s)=x:=⟨_,rfl⟩
    have hS2:Hid ((failT docs d (partsL (L.take (q+1)))).foldl step s=S1):=by unfold Hid;rw [hsn.out,failT_app,List.foldl_append,hS1]
    rw [hS1] at hcall
    clear hu hsn hsp hQ0 hok0 hT0 hS1
    obtain ⟨tk,tp,tf,tx,tn,tA,tc,tL⟩:=u
    simp only [Tree.cells] at hcall
    obtain ⟨b,off,rfl,h0,h1,h2,h3,h4,h5⟩:=hc
    rw [Nat.zero_add] at h0 h1 h2 h3 h4 h5
    obtain ⟨w5,hw5,hb5,hN5⟩:=newZ wr 24 #[.int .i64 tk,.int .i64 tp,.string tf,.string tx,.int .i64 tn,.slice tA tL.length tc]
    have hcall5:=hdZ (hcall.out w5 hb5.out)
    obtain ⟨r0,r1,r2,r3,r4,r5⟩:=cs6 hN5.out
    obtain ⟨i1,i2,hkm⟩:=inZ hlt
    clear hcall ih
    go_wp2_with (rw [hw5.out])
    refine hcall5.out.mono ?_
    rintro e w6 ⟨rfl,hI6,hF6⟩
    have hF5:=hG.out.trans (hG.out.of hb5.out) hF6
    have hI6':=hdZ hI6
    have hF6':Hid (Fr w w6):=hG.out.trans hF2.out hF5
    have hB6:Hid (Bz w0 w6):=hB2.out.trans (hG.out.low hF5 hB2.out.size)
    have hX6:=hdZ (hX2.out.fr hG.out hF5)
    clear hI6 hF6 hF5 r0 r1 r2 r3 r4 r5 hcall5 h0 h1 h2 h3 h4 h5
    go_wp2_with fail
    go_roundw
    case rel=>exact ⟨q+1,by omega,by go_num,by rw [hS2.out];exact hI6',hF6',hB6,hX6⟩
    case measure=>simp [intOf];omega
   ·have hkm:decide (q<m)=false:=dfZ hlt
    obtain rfl:q=m:=by omega
    rw [List.take_of_length_le (by have:=hm.out;omega)] at hI2
    go_wp2_with fail
    go_end0
    exact ⟨rfl,hI2.out,hF2.out⟩
 ·have hpt:Hid (partsT (.mk k p f x n A' c' L)=[.mk k p f x n A' c' L]):=by unfold Hid;rw [partsT,if_neg hk0]
  have hg2:=hdZ (hg1.out hk0 w1 hB1.out hI1.out hX1.out)
  have b0:(k != 0)=true:=by simp [hk0]
  rw [hpt.out]
  obtain ⟨S1,hS1⟩:∃S9,(failT docs d [Tree.mk k p f x n A' c' L]).foldl step s=S9:=⟨_,rfl⟩
  rw [hS1] at hg2 ⊢
  clear hk0 hg1 hS1
  go_enter Tryz.func116,Tryz.ntmps116
  go_wp2_with (rw [hw1.out])
  refine hg2.out.mono ?_
  rintro e w2 ⟨rfl,hI2,hF2⟩
  have hI2':=hdZ hI2
  have hF2':=hdZ hF2
  clear hI2 hF2 hg2 q0 q1 q2 q3 q4 q5
  go_wp2_with fail
  go_end0
  exact ⟨rfl,hI2'.out,hG.out.trans (hG.out.of hb1.out) hF2'.out⟩
theorem gparts_any (H:Hid (GiveS w0 w0.heap.size docs d Fr Inv ok T step g caps)) (A:Option Addr) (nn cc a:Nat) (hd:Hid (docs[a]?=some d)) (hR:Hid (Room w0 A nn docs)) (p5 p6 p7:Nat):∀t:Tree,PartsG w0 docs d Fr Inv ok T step g caps A nn cc a p5 p6 p7 t :=
 Tree.every fun t ih=>gparts_walk H A nn cc a hd hR p5 p6 p7 t (hdZ ih)
theorem failL_snoc {needs:List Nd} {docs:List Pap} {d:Pap} {q:Nat} {x:Nd} (h:needs[q]?=some x):failL (needs.take (q+1)) docs d=failL (needs.take q) docs d++(if x.kind=d.kind then failT docs d (partsT x.rule) else []):=by
 unfold failL
 rw [List.take_add_one,h,List.flatMap_append]
 simp
theorem failL_split {needs:List Nd} {docs:List Pap} {d:Pap} {q:Nat} {x:Nd} (h:needs[q]?=some x):failL needs docs d=failL (needs.take q) docs d++((if x.kind=d.kind then failT docs d (partsT x.rule) else [])++failL (needs.drop (q+1)) docs d):=by
 obtain ⟨hq,e⟩:=gsZ.1 h
 have hs:needs=needs.take q++(x::needs.drop (q+1)):=by rw [<-e,<-List.drop_eq_getElem_cons hq,List.take_append_drop]
 have h1:failL (needs.take q++(x::needs.drop (q+1))) docs d=failL (needs.take q) docs d++((if x.kind=d.kind then failT docs d (partsT x.rule) else [])++failL (needs.drop (q+1)) docs d):=by
  unfold failL
  rw [List.flatMap_append,List.flatMap_cons]
 rw [<-hs] at h1
 exact h1
theorem failing_any (H:Hid (GiveS w0 w0.heap.size docs d Fr Inv ok T step g caps)) (A:Option Addr) (nn cc a:Nat) (hd:Hid (docs[a]?=some d)) (hR:Hid (Room w0 A nn docs)) (C:Array Value) (nA:Option Addr) (nl nc:Nat) (needs:List Nd) (hnl:Hid (needs.length=nl)) (hl12:nl<=1000) (hC17:Hid (C[17]?=some (.slice nA nl nc))) (hN:Hid (NdsAt w0 nA needs))
  (hQ:Hid (∀x∈needs,x.kind=d.kind->∀u∈partsT x.rule,T u)) (w:World) (s:σ) (hok:Hid (∀i,ok (((failL needs docs d).take i).foldl step s))) (hI:Hid (Inv s w)) (hB:Hid (Bz w0 w)) :
  Calls Tryz.prog 63 #[.agg C,.slice A nn cc,.int .i64 (a:Int),.func (.func g) #[] caps] w (Given Fr Inv ((failL needs docs d).foldl step s) w):=by
 have hG:=hdZ H.out.giver
 have hinv:=hdZ H.out.inv
 have hpa:=hdZ (fun p5 p6 p7 t=>gparts_any H A nn cc a hd hR p5 p6 p7 t)
 have hat:=hdZ hR.out.at_
 have hlt9:a<nn:=by have:=(gsZ.1 hd.out).1;have:=hR.out.len;omega
 have hnn9:=hR.out.most
 obtain ⟨w1,hw1⟩:=nmZ ((((w.alloc (.cells C 46)).alloc (.cells #[.slice A nn cc] 25)).alloc (.cells #[.int .i64 (a:Int)] 3)).alloc (.cells #[.func (.func g) #[] caps] 103))
 have hs1:(w.alloc (.cells C 46)).heap.size=w.heap.size+1:=by simp
 have hs2:((w.alloc (.cells C 46)).alloc (.cells #[.slice A nn cc] 25)).heap.size=w.heap.size+2:=by simp
 have hs3:(((w.alloc (.cells C 46)).alloc (.cells #[.slice A nn cc] 25)).alloc (.cells #[.int .i64 (a:Int)] 3)).heap.size=w.heap.size+3:=by simp
 have hK1:Hid (Blk w1 w.heap.size 46 C):=by rw [<-hw1.out];exact hdZ ((((Blk.new _ _ _).alloc _).alloc _).alloc _)
 have hX1:Hid (GBox w1 (w.heap.size+1) (w.heap.size+2) (w.heap.size+3) A nn cc a g caps):=by
  rw [<-hw1.out]
  refine ⟨?_,?_,?_⟩
  ·rw [<-hs1];exact ((Blk.new _ _ _).alloc _).alloc _
  ·rw [<-hs2];exact (Blk.new _ _ _).alloc _
  ·rw [<-hs3];exact Blk.new _ _ _
 have hb1:Hid (Bz w w1):=by
  rw [<-hw1.out]
  have h1:=(Below.refl w.heap.size w).alloc leZ (.cells C 46)
  have h2:=h1.alloc h1.size (.cells #[.slice A nn cc] 25)
  have h3:=h2.alloc h2.size (.cells #[.int .i64 (a:Int)] 3)
  exact h3.alloc h3.size _
 have hB1:=btZ hB hb1
 have hI1:=hdZ (hinv.out s w w1 hI.out hb1.out)
 have c17:w1.cell? ⟨w.heap.size,17,none⟩=some (.slice nA nl nc):=(hK1.out.cell 17).trans hC17.out
 obtain ⟨g1,hg1⟩:=nmZ (w.heap.size+1)
 obtain ⟨g2,hg2⟩:=nmZ (w.heap.size+2)
 obtain ⟨g3,hg3⟩:=nmZ (w.heap.size+3)
 have e1:w.heap.size+1=g1:=hg1.out
 have e2:g1+1=g2:=by rw [<-hg1.out];exact hg2.out
 have e3:g2+1=g3:=by rw [<-hg2.out];exact hg3.out
 rw [hg1.out,hg2.out,hg3.out] at hX1
 clear H hI hB hs1 hs2 hs3 hR
 go_enter Tryz.func63,Tryz.ntmps63
 go_wp2_with (rw [hw1.out])
 clear e1 e2 e3
 go_loopw [9,13] (fun _ i wr=>∃(q:Nat),q<=nl/\i=.int .i64 q/\Hid (Inv ((failL (needs.take q) docs d).foldl step s) wr)/\Hid (Fr w wr)/\Hid (Bz w0 wr)/\Hid (GBox wr g1 g2 g3 A nn cc a g caps)) (fun _ i _=>nl-(intOf i).toNat)
 case atStart=>exact ⟨0,Nat.zero_le _,rfl,hI1,hG.out.of hb1.out,hB1,hX1⟩
 case round =>
  clear c17 hK1 hI1 hX1 hB1 hb1 hw1
  obtain ⟨q,hq,rfl,hI2,hF2,hB2,hX2⟩:=hrel
  by_cases hlt:q<nl
  ·as_aux_lemma =>
   obtain ⟨x,hx⟩:∃x,needs[q]?=some x:=⟨_,gZ (by have:=hnl.out;omega)⟩
   have hTx0:=(hN.out q x hx).2.1
   obtain ⟨_,hTx,_,b,off,rfl,h0,h1,h2⟩:=(hN.out.below hB2.out) q x hx
   obtain ⟨b3,f3,rfl,d0,_⟩:=(hat.out.below hB2.out) a d hd.out
   have hsn:=failL_snoc (docs:=docs) (d:=d) hx
   have hsp:=failL_split (docs:=docs) (d:=d) hx
   have hmem:=mgZ hx
   obtain ⟨S0,hS0⟩:∃z,(failL (needs.take q) docs d).foldl step s=z:=⟨_,rfl⟩
   rw [hS0] at hI2
   have i1:(q:Int)<(nl:Int):=by omega
   have i2:(0:Int)<=(q:Int):=by omega
   have i3:(a:Int)<(nn:Int):=by omega
   have i4:(0:Int)<=(a:Int):=by omega
   have hkm:decide (q<nl)=true:=dtZ hlt
   have hcall:x.kind=d.kind->∀W,Bz wr W->Calls Tryz.prog 116 #[.agg x.rule.cells,.func (Fn.func 117) #[] #[.pointer (some ⟨g1,0,none⟩),.pointer (some ⟨g2,0,none⟩),.pointer (some ⟨g3,0,none⟩)]] W (Given Fr Inv ((failT docs d (partsT x.rule)).foldl step S0) W):=fun hk W hW=>by
    refine hpa.out g1 g2 g3 x.rule W S0 (hdZ hTx0) (hdZ fun u hu=>hQ.out x hmem hk u hu) (hdZ ?_) (hdZ (hinv.out _ _ _ hI2.out hW)) (hdZ (hB2.out.trans (hW.mono hB2.out.size))) (hdZ (hX2.out.below hW))
    have h9:=hok.out
    rw [hsp,if_pos hk] at h9
    have:=ok_sub h9
    rw [hS0] at this
    exact this
   have hcall':=hdZ hcall
   have hS2:Hid ((failL (needs.take (q+1)) docs d).foldl step s=(if x.kind=d.kind then failT docs d (partsT x.rule) else []).foldl step S0):=by unfold Hid;rw [hsn,List.foldl_append,hS0]
   obtain ⟨dk,hdk⟩:∃z,d.kind=z:=⟨_,rfl⟩
   rw [hdk] at hcall' hS2 d0
   clear hx hsn hsp hmem hcall hS0 hTx hTx0 hdk
   obtain ⟨xk,xc,rule⟩:=x
   obtain ⟨tk,tp,tf,tx,tn,tA,tc,tL⟩:=rule
   simp only [Tree.cells] at hcall' hS2 h0 h1 h2
   obtain ⟨h2,h3,h4,h5,h6,h7⟩:=h2
   obtain ⟨w5,hw5,hb5,hN5⟩:=newZ wr 71 #[.int .i64 xk,.int .i64 xc,.int .i64 tk,.int .i64 tp,.string tf,.string tx,.int .i64 tn,.slice tA tL.length tc]
   have hX5:=hdZ (hX2.out.below hb5.out)
   have r0:w5.cell? ⟨wr.heap.size,0,none⟩=some (.int .i64 xk):=hN5.out.cell 0
   have r2:w5.cell? ⟨wr.heap.size,2,none⟩=some (.int .i64 tk):=hN5.out.cell 2
   have r3:w5.cell? ⟨wr.heap.size,3,none⟩=some (.int .i64 tp):=hN5.out.cell 3
   have r4:w5.cell? ⟨wr.heap.size,4,none⟩=some (.string tf):=hN5.out.cell 4
   have r5:w5.cell? ⟨wr.heap.size,5,none⟩=some (.string tx):=hN5.out.cell 5
   have r6:w5.cell? ⟨wr.heap.size,6,none⟩=some (.int .i64 tn):=hN5.out.cell 6
   have r7:w5.cell? ⟨wr.heap.size,7,none⟩=some (.slice tA tL.length tc):=hN5.out.cell 7
   have p1:w5.cell? ⟨g1,0,none⟩=some (.slice (some ⟨b3,f3,none⟩) nn cc):=hX5.out.docs.cell 0
   have p2:w5.cell? ⟨g2,0,none⟩=some (.int .i64 (a:Int)):=hX5.out.at_.cell 0
   have p3:w5.cell? ⟨b3,f3+a*4,none⟩=some (.int .i64 dk):=(hb5.out.cell (World.block_lt_of_cell? wr _ d0)).trans d0
   by_cases hk:xk=dk
   ·subst hk
    have z1:(xk != xk)=false:=by simp
    have hc5:=hdZ (fun n=>hcall'.out rfl (w5.drewN n) (below_drewN hb5.out n))
    rw [if_pos rfl] at hS2
    clear hcall' d0
    go_wp2_with (rw [hw5.out])
    go_quiet (fail)
    go_wp2_with fail
    refine (hc5.out _).mono ?_
    rintro e w6 ⟨rfl,hI6,hF6⟩
    have hF5:=hG.out.trans (hG.out.of (below_drewN hb5.out _)) hF6
    have hI6':=hdZ hI6
    have hF6':Hid (Fr w w6):=hG.out.trans hF2.out hF5
    have hB6:Hid (Bz w0 w6):=hB2.out.trans (hG.out.low hF5 hB2.out.size)
    have hX6:=hdZ (hX2.out.fr hG.out hF5)
    clear hI6 hF6 hF5 r0 r2 r3 r4 r5 r6 r7 p1 p2 p3 h0 h1 h2 h3 h4 h5 h6 h7
    go_wp2_with fail
    go_roundw
    case rel=>exact ⟨q+1,by omega,by go_num,by rw [hS2.out];exact hI6',hF6',hB6,hX6⟩
    case measure=>simp [intOf];omega
   ·have z1:(xk != dk)=true:=by simpa using hk
    rw [if_neg hk] at hS2
    clear hcall' d0
    go_wp2_with (rw [hw5.out])
    go_quiet (fail)
    go_wp2_with fail
    go_roundw
    case rel=>exact ⟨q+1,by omega,by go_num,by rw [hS2.out];exact hinv.out _ _ _ hI2.out (below_drewN hb5.out _),hG.out.trans hF2.out (hG.out.of (below_drewN hb5.out _)),hB2.out.trans ((below_drewN hb5.out _).mono hB2.out.size),hX2.out.below (below_drewN hb5.out _)⟩
    case measure=>simp [intOf];omega
  ·have hkm:decide (q<nl)=false:=dfZ hlt
   obtain rfl:q=nl:=by omega
   rw [List.take_of_length_le (by have:=hnl.out;omega)] at hI2
   go_wp2_with fail
   go_end0
   exact ⟨rfl,hI2.out,hF2.out⟩
end
end Go.Proofs.YtdjmckjbibfecaaGreatDoor

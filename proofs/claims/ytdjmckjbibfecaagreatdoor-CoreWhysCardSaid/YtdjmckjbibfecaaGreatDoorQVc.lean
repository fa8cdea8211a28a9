import Derived.Test.YtdjmckjbibfecaaGreatDoorQSc
import Derived.Test.YtdjmckjbibfecaaGreatDoorQTc
namespace Go.Proofs.YtdjmckjbibfecaaGreatDoor.Sh
open Go Go.RowKit Go.BigFrame Go.Maps
set_option maxRecDepth 100000
set_option maxHeartbeats 3200000
theorem rtext_any (s:ByteArray) (w:World) (hs:s.size<=maxLen):Calls Tryz.prog 186 #[.string s] w fun e w'=>e=.returned (.bool (textM s.data.toList))/\w=w':=by
 unfold maxLen at hs
 show Calls Tryz.prog 186 #[.string s] w fun e w'=>e=.returned (.bool (s.data.toList.all plainB))/\w=w'
 go_enter Tryz.func186,Tryz.ntmps186
 go_wp2_with fail
 go_loopg [3] s.size (fun gg i wr=>∃k:Nat,k<=s.size/\gg=s.size-k/\i=.int .i64 k/\w=wr/\Hid (s.data.toList.all plainB=(s.data.toList.drop k).all plainB))
 case atStart=>exact ⟨0,Nat.zero_le _,by simp,rfl,rfl,rfl⟩
 case round =>
  obtain ⟨k,hk,hg,rfl,rfl,hall⟩:=hrel
  have hg':=hdZ hg
  clear hg
  by_cases hlt:k<s.size
  ·have hst:=hdZ (run_all hlt hall.out)
   rw [plain_nat] at hst
   have i1:(k:Int)<(s.size:Int):=by omega
   have i2:(0:Int)<=(k:Int):=by omega
   have i3:decide ((k:Int)<(s.size:Int))=true:=by simp;omega
   cases h1:decide ((s[k].toNat:Int)<32)<;>cases h2:decide (126<(s[k].toNat:Int))<;>cases h3:((s[k].toNat:Int)==34)
   all_goals
    rw [h1,h2,h3] at hst
    go_wp2_with fail
    first
     | (go_roundg (s.size - (k + 1))
        case measure=>have:=hg'.out;omega
        case rel=>exact ⟨k+1,by omega,rfl,by go_num,rfl,by rw [hst.out];first | rfl | simp⟩)
     | (go_ret
        exact ⟨by rw [hst.out];rfl,rfl⟩)
  ·have hr:Hid (s.data.toList.all plainB=true):=by unfold Hid;rw [hall.out,List.drop_eq_nil_of_le (by simp;omega)];rfl
   have i3:decide ((k:Int)<(s.size:Int))=false:=by simp;omega
   go_wp2_with fail
   go_ret
   exact ⟨by rw [hr.out];first | done | rfl,rfl⟩
theorem rnameL_any (s:ByteArray) (w:World) (hs:s.size<=maxLen) (hpos:0<w.heap.size):Calls Tryz.prog 185 #[.string s] w fun e w'=>e=.returned (.bool (nameM s.data.toList))/\Bz w w':=by
 have hcall:=hdZ (fun W=>rname_any s W hs)
 have hsc:=hdZ (rscan_any s w hs)
 have hnm:=hdZ (mark_name (s:=s.data.toList))
 have hst0:s.toList=s.data.toList:=by simp [ByteArray.toList_eq]
 cases hm:markB s.data.toList with
 | false =>
  rw [hm] at hcall hnm
  go_enter Tryz.func185,Tryz.ntmps185
  go_wp2_with fail
  refine hsc.out.mono ?_
  rintro e w1 ⟨hB,hcase⟩
  have hB':=hdZ hB
  clear hB hm
  rcases hcase with ⟨l,v,_,rfl,_,_⟩ | ⟨k,cd,_,_,rfl⟩
  ·go_wp2_with fail
   refine (hcall.out _).mono ?_
   rintro e w2 ⟨rfl,rfl⟩
   go_wp2_with fail
   go_ret
   exact ⟨by rw [hnm.out];rfl,hB'.out⟩
  ·go_wp2_with fail
   refine (hcall.out _).mono ?_
   rintro e w2 ⟨rfl,rfl⟩
   go_wp2_with fail
   go_ret
   exact ⟨by rw [hnm.out];rfl,hB'.out⟩
 | true =>
  have hsm:=hdZ (scan_mark hm)
  rw [hm] at hcall hnm
  go_enter Tryz.func185,Tryz.ntmps185
  go_wp2_with fail
  refine hsc.out.mono ?_
  rintro e w1 ⟨hB,hcase⟩
  have hB':=hdZ hB
  rcases hcase with ⟨l,v,h1,rfl,hl,hown⟩ | ⟨k,cd,h1,hcd,rfl⟩
  ·rw [hsm.out] at h1
   have h0:(rankM s.data.toList).2=0:=by
    by_cases h:(rankM s.data.toList).2=0
    ·exact h
    ·rw [if_neg h] at h1;cases h1
   rw [if_pos h0] at h1
   obtain rfl:=Except.ok.inj h1
   obtain ⟨p,c,rfl⟩:=own_slice hown
   obtain ⟨g,off,rfl,hg,c0,c1,c2⟩:=tok_own (pb:=0) hown hpos 0 _ rfl
   rw [Nat.zero_mul,Nat.add_zero] at c0 c1 c2
   have hk2:(rankM s.data.toList).1<=2:=by have:=rank_kind s.data.toList;omega
   have hn1:Hid (nameM s.data.toList=true):=by unfold Hid;rw [hnm.out,h0];rfl
   obtain ⟨rk,hrk⟩:=nmZ ((rankM s.data.toList).1)
   rw [hrk.out] at c0 hk2
   have b2:decide (rk<=2)=true:=by simp;exact hk2
   have e9:(⟨s.data.toList.toArray⟩:ByteArray).toList=s.data.toList:=tx_list _
   clear hown h1 h0 hsm hsc hl hB hnm hm
   simp only at c0 c1 c2
   go_wp2_with fail
   refine (hcall.out _).mono ?_
   rintro e w2 ⟨rfl,rfl⟩
   go_wp2_with fail
   go_ret
   exact ⟨by rw [hn1.out];simp,hB'.out⟩
  ·have h0:¬(rankM s.data.toList).2=0:=fun h=>by rw [hsm.out,if_pos h] at h1;cases h1
   have hn1:Hid (nameM s.data.toList=false):=by unfold Hid;rw [hnm.out,dfZ h0];rfl
   have b1:(cd==0)=false:=by simp [hcd]
   clear h1 h0 hsm hsc hB hnm hm
   go_wp2_with fail
   refine (hcall.out _).mono ?_
   rintro e w2 ⟨rfl,rfl⟩
   go_wp2_with fail
   go_ret
   exact ⟨by rw [hn1.out];rfl,hB'.out⟩
theorem mayL_all:∀L:List Rul,mayL L=L.all mayR
 | []=>rfl
 | r::L=>by rw [mayL,List.all_cons,mayL_all L]
theorem allT_step {L:List Tree} {q:Nat} {t:Tree} {b:Bool} {g:Rul->Bool} (h:L[q]?=some t) (hs:b=((L.drop q).all fun t=>g (strip t))):b=(g (strip t)&&((L.drop (q+1)).all fun t=>g (strip t))):=by
 obtain ⟨hk,he⟩:=gsZ.1 h
 rw [hs,List.drop_eq_getElem_cons hk,he,List.all_cons]
def RightC (t:Tree):Prop:=∀(w:World) (ok:Nat->Prop),0<w.heap.size->Hid (TreeAt w ok t)->Hid (szR (strip t)<=mostZ)->Calls Tryz.prog 135 #[.agg t.cells] w fun e w'=>e=.returned (.bool (mayR (strip t)))/\Bz w w'
theorem right_row0 (t:Tree) (ih:∀u∈t.sub,RightC u) (hk:t.kind=0):RightC t:=by
 intro w ok hpos hT hz
 obtain ⟨k,p,f,x,n,A,c,L⟩:=t
 replace hk:k=0:=hk
 obtain ⟨hfl,hxl,hsz⟩:=sz_parts hz.out
 have hsz':=hdZ hsz
 have hT0:=hT.out
 rw [TreeAt] at hT0
 obtain ⟨hR,hlen⟩:=hT0
 have hR':=hdZ hR
 obtain ⟨m,hm⟩:=nmZ (L.length)
 rw [hm.out] at hlen
 unfold maxLen at hlen
 have ih':Hid (∀u∈L,RightC u):=ih
 clear ih hT hR hsz hz
 obtain ⟨bp,qp⟩:∃b,(p != 0)=b:=⟨_,rfl⟩
 obtain ⟨bn,qn⟩:∃b,(n != 0)=b:=⟨_,rfl⟩
 obtain ⟨bf,qf⟩:∃b,(f==[])=b:=⟨_,rfl⟩
 obtain ⟨bx,qx⟩:∃b,(x==[])=b:=⟨_,rfl⟩
 have dp:decide (p=0)=!bp:=by rw [<-qp,Bool.eq_iff_iff];simp
 have dn:decide (n=0)=!bn:=by rw [<-qn,Bool.eq_iff_iff];simp
 have df:decide (f=[])=bf:=by rw [<-qf,Bool.eq_iff_iff];simp
 have dx:decide (x=[])=bx:=by rw [<-qx,Bool.eq_iff_iff];simp
 have ef:=tx_list f
 have ex:=tx_list x
 show Calls Tryz.prog 135 #[.agg #[.int .i64 k,.int .i64 p,.string ⟨f.toArray⟩,.string ⟨x.toArray⟩,.int .i64 n,.slice A L.length c]] w _
 rw [hm.out]
 have hb0:Hid (Bz w (w.alloc (.cells #[.int .i64 k,.int .i64 p,.string ⟨f.toArray⟩,.string ⟨x.toArray⟩,.int .i64 n,.slice A m c] 24))):=(Below.refl _ w).alloc leZ _
 obtain ⟨b,hb⟩:=nmZ ((L.all fun t=>mayR (strip t)))
 obtain ⟨b2,q2⟩:∃b,decide (m<2)=b:=⟨_,rfl⟩
 obtain ⟨b3,q3⟩:∃b,decide (64<m)=b:=⟨_,rfl⟩
 have r2:decide ((m:Int)<2)=b2:=by rw [<-q2,Bool.eq_iff_iff];simp;omega
 have r3:decide ((64:Int)<(m:Int))=b3:=by rw [<-q3,Bool.eq_iff_iff];simp;omega
 have hres:Hid (mayR (strip (.mk k p f x n A c L))=(!bp&&bf&&bx&&!bn&&!b3&&!b2&&b)):=by
  unfold Hid
  rw [strip,mayR,if_pos (by omega),mayL_all,dp,dn,df,dx,strips_map,List.length_map,hm.out,List.all_map,<-hb.out,<-q2,<-q3]
  have e2:decide (2<=m)=!decide (m<2):=by rw [Bool.eq_iff_iff];simp
  have e3:decide (m<=64)=!decide (64<m):=by rw [Bool.eq_iff_iff];simp
  rw [e2,e3]
  show _=(!bp&&bf&&bx&&!bn&&!decide (64<m)&&!decide (m<2)&&L.all (mayR ∘ strip))
  cases bp<;>cases bf<;>cases bx<;>cases bn<;>cases decide (64<m)<;>cases decide (m<2)<;>simp
 clear dp dn df dx q2 q3
 subst hk
 cases bp with
 | true =>
  go_enter Tryz.func135,Tryz.ntmps135
  go_wp2_with fail
  go_ret
  exact ⟨by rw [hres.out];simp,hb0.out⟩
 | false =>
  cases bf with
  | false =>
   go_enter Tryz.func135,Tryz.ntmps135
   go_wp2_with fail
   go_ret
   exact ⟨by rw [hres.out];simp,hb0.out⟩
  | true =>
   cases bx with
   | false =>
    go_enter Tryz.func135,Tryz.ntmps135
    go_wp2_with fail
    go_ret
    exact ⟨by rw [hres.out];simp,hb0.out⟩
   | true =>
    cases bn with
    | true =>
     go_enter Tryz.func135,Tryz.ntmps135
     go_wp2_with fail
     go_ret
     exact ⟨by rw [hres.out];simp,hb0.out⟩
    | false =>
     cases b3 with
     | true =>
      go_enter Tryz.func135,Tryz.ntmps135
      go_wp2_with fail
      go_ret
      exact ⟨by rw [hres.out];simp,hb0.out⟩
     | false =>
      cases b2 with
      | true =>
       go_enter Tryz.func135,Tryz.ntmps135
       go_wp2_with fail
       go_ret
       exact ⟨by rw [hres.out];simp,hb0.out⟩
      | false =>
       have hbx:=hdZ (Blk.new w 24 #[.int .i64 0,.int .i64 p,.string ⟨f.toArray⟩,.string ⟨x.toArray⟩,.int .i64 n,.slice A m c])
       obtain ⟨wa,hwa⟩:=nmZ (w.alloc (.cells #[.int .i64 0,.int .i64 p,.string ⟨f.toArray⟩,.string ⟨x.toArray⟩,.int .i64 n,.slice A m c] 24))
       go_enter Tryz.func135,Tryz.ntmps135
       go_wp2_with fail
       rw [hwa.out] at hb0 hbx ⊢
       clear hwa
       go_loopg [3] m (fun gg a wr=>∃q:Nat,q<=m/\gg=m-q/\a=.int .i64 q/\Hid (b=((L.drop q).all fun t=>mayR (strip t)))/\Hid (Bz w wr)/\Hid (Blk wr w.heap.size 24 #[.int .i64 0,.int .i64 p,.string ⟨f.toArray⟩,.string ⟨x.toArray⟩,.int .i64 n,.slice A m c]))
       case atStart=>exact ⟨0,Nat.zero_le _,rfl,rfl,by unfold Hid;rw [<-hb.out];rfl,hb0,hbx⟩
       case round =>
        clear hb0 hbx
        obtain ⟨q,hq,hg,rfl,hsame,hB,hbk⟩:=hrel
        have hg':=hdZ hg
        clear hg
        have e5:wr.cell? ⟨w.heap.size,5,none⟩=some (.slice A m c):=hbk.out.cell 5
        have elt:=hbk.out.lt
        by_cases hlt:q<m
        ·have i1:decide ((q:Int)<(m:Int))=true:=by simp;omega
         have i2:(q:Int)<(m:Int):=by omega
         have i3:(0:Int)<=(q:Int):=by omega
         obtain ⟨t,ht⟩:∃t,L[q]?=some t:=⟨_,gZ (by have:=hm.out;omega)⟩
         have hmem:=hdZ (mgZ ht)
         have hst:=hdZ (allT_step ht hsame.out)
         obtain ⟨hc,hTt⟩:=(hR'.out.below hB.out).get q t ht
         have hcall:=hdZ (ih'.out t hmem.out wr ok (Nat.lt_of_lt_of_le hpos hB.out.size) hTt (hsz'.out t hmem.out))
         clear ht hTt
         obtain ⟨b9,hb9⟩:=nmZ (mayR (strip t))
         rw [hb9.out] at hst hcall
         obtain ⟨tk,tp,tf,tx,tn,tA,tc,tL⟩:=t
         obtain ⟨bb,off,rfl,_,h0,h1,h2,h3,h4,h5⟩:=hc
         rw [Nat.zero_add] at h0 h1 h2 h3 h4 h5
         unfold Tree.cells at hcall
         go_wp2_with fail
         refine hcall.out.mono ?_
         rintro e w1 ⟨rfl,hb1⟩
         have hB1:=btY hB hb1
         have hbk1:=kbY hbk hb1
         clear hb1 h0 h1 h2 h3 h4 h5 e5 elt hcall
         cases b9 with
         | true =>
          go_wp2_with fail
          go_roundg (m-(q+1))
          case measure=>have:=hg'.out;omega
          case rel=>exact ⟨q+1,by omega,rfl,by go_num,by unfold Hid;rw [hst.out];rfl,hB1,hbk1⟩
         | false =>
          go_wp2_with fail
          go_ret
          exact ⟨by rw [hres.out,hst.out];simp,hB1.out⟩
        ·have i1:decide ((q:Int)<(m:Int))=false:=by simp;omega
         have hfin:Hid (b=true):=by unfold Hid;rw [hsame.out,List.drop_eq_nil_of_le (by have:=hm.out;omega)];rfl
         go_wp2_with fail
         go_ret
         exact ⟨by rw [hres.out,hfin.out];simp,hB.out⟩
theorem right_row1 (t:Tree) (ih:∀u∈t.sub,RightC u) (hk:t.kind=1):RightC t:=by
 intro w ok hpos hT hz
 obtain ⟨k,p,f,x,n,A,c,L⟩:=t
 replace hk:k=1:=hk
 obtain ⟨hfl,hxl,hsz⟩:=sz_parts hz.out
 have hsz':=hdZ hsz
 have hT0:=hT.out
 rw [TreeAt] at hT0
 obtain ⟨hR,hlen⟩:=hT0
 have hR':=hdZ hR
 obtain ⟨m,hm⟩:=nmZ (L.length)
 rw [hm.out] at hlen
 unfold maxLen at hlen
 have ih':Hid (∀u∈L,RightC u):=ih
 clear ih hT hR hsz hz
 obtain ⟨bp,qp⟩:∃b,(p != 0)=b:=⟨_,rfl⟩
 obtain ⟨bn,qn⟩:∃b,(n != 0)=b:=⟨_,rfl⟩
 obtain ⟨bf,qf⟩:∃b,(f==[])=b:=⟨_,rfl⟩
 obtain ⟨bx,qx⟩:∃b,(x==[])=b:=⟨_,rfl⟩
 have dp:decide (p=0)=!bp:=by rw [<-qp,Bool.eq_iff_iff];simp
 have dn:decide (n=0)=!bn:=by rw [<-qn,Bool.eq_iff_iff];simp
 have df:decide (f=[])=bf:=by rw [<-qf,Bool.eq_iff_iff];simp
 have dx:decide (x=[])=bx:=by rw [<-qx,Bool.eq_iff_iff];simp
 have ef:=tx_list f
 have ex:=tx_list x
 show Calls Tryz.prog 135 #[.agg #[.int .i64 k,.int .i64 p,.string ⟨f.toArray⟩,.string ⟨x.toArray⟩,.int .i64 n,.slice A L.length c]] w _
 rw [hm.out]
 have hb0:Hid (Bz w (w.alloc (.cells #[.int .i64 k,.int .i64 p,.string ⟨f.toArray⟩,.string ⟨x.toArray⟩,.int .i64 n,.slice A m c] 24))):=(Below.refl _ w).alloc leZ _
 obtain ⟨b,hb⟩:=nmZ ((L.all fun t=>mayR (strip t)))
 obtain ⟨b2,q2⟩:∃b,decide (m<2)=b:=⟨_,rfl⟩
 obtain ⟨b3,q3⟩:∃b,decide (64<m)=b:=⟨_,rfl⟩
 have r2:decide ((m:Int)<2)=b2:=by rw [<-q2,Bool.eq_iff_iff];simp;omega
 have r3:decide ((64:Int)<(m:Int))=b3:=by rw [<-q3,Bool.eq_iff_iff];simp;omega
 have hres:Hid (mayR (strip (.mk k p f x n A c L))=(!bp&&bf&&bx&&!bn&&!b3&&!b2&&b)):=by
  unfold Hid
  rw [strip,mayR,if_pos (by omega),mayL_all,dp,dn,df,dx,strips_map,List.length_map,hm.out,List.all_map,<-hb.out,<-q2,<-q3]
  have e2:decide (2<=m)=!decide (m<2):=by rw [Bool.eq_iff_iff];simp
  have e3:decide (m<=64)=!decide (64<m):=by rw [Bool.eq_iff_iff];simp
  rw [e2,e3]
  show _=(!bp&&bf&&bx&&!bn&&!decide (64<m)&&!decide (m<2)&&L.all (mayR ∘ strip))
  cases bp<;>cases bf<;>cases bx<;>cases bn<;>cases decide (64<m)<;>cases decide (m<2)<;>simp
 clear dp dn df dx q2 q3
 subst hk
 cases bp with
 | true =>
  go_enter Tryz.func135,Tryz.ntmps135
  go_wp2_with fail
  go_ret
  exact ⟨by rw [hres.out];simp,hb0.out⟩
 | false =>
  cases bf with
  | false =>
   go_enter Tryz.func135,Tryz.ntmps135
   go_wp2_with fail
   go_ret
   exact ⟨by rw [hres.out];simp,hb0.out⟩
  | true =>
   cases bx with
   | false =>
    go_enter Tryz.func135,Tryz.ntmps135
    go_wp2_with fail
    go_ret
    exact ⟨by rw [hres.out];simp,hb0.out⟩
   | true =>
    cases bn with
    | true =>
     go_enter Tryz.func135,Tryz.ntmps135
     go_wp2_with fail
     go_ret
     exact ⟨by rw [hres.out];simp,hb0.out⟩
    | false =>
     cases b3 with
     | true =>
      go_enter Tryz.func135,Tryz.ntmps135
      go_wp2_with fail
      go_ret
      exact ⟨by rw [hres.out];simp,hb0.out⟩
     | false =>
      cases b2 with
      | true =>
       go_enter Tryz.func135,Tryz.ntmps135
       go_wp2_with fail
       go_ret
       exact ⟨by rw [hres.out];simp,hb0.out⟩
      | false =>
       have hbx:=hdZ (Blk.new w 24 #[.int .i64 1,.int .i64 p,.string ⟨f.toArray⟩,.string ⟨x.toArray⟩,.int .i64 n,.slice A m c])
       obtain ⟨wa,hwa⟩:=nmZ (w.alloc (.cells #[.int .i64 1,.int .i64 p,.string ⟨f.toArray⟩,.string ⟨x.toArray⟩,.int .i64 n,.slice A m c] 24))
       go_enter Tryz.func135,Tryz.ntmps135
       go_wp2_with fail
       rw [hwa.out] at hb0 hbx ⊢
       clear hwa
       go_loopg [3] m (fun gg a wr=>∃q:Nat,q<=m/\gg=m-q/\a=.int .i64 q/\Hid (b=((L.drop q).all fun t=>mayR (strip t)))/\Hid (Bz w wr)/\Hid (Blk wr w.heap.size 24 #[.int .i64 1,.int .i64 p,.string ⟨f.toArray⟩,.string ⟨x.toArray⟩,.int .i64 n,.slice A m c]))
       case atStart=>exact ⟨0,Nat.zero_le _,rfl,rfl,by unfold Hid;rw [<-hb.out];rfl,hb0,hbx⟩
       case round =>
        clear hb0 hbx
        obtain ⟨q,hq,hg,rfl,hsame,hB,hbk⟩:=hrel
        have hg':=hdZ hg
        clear hg
        have e5:wr.cell? ⟨w.heap.size,5,none⟩=some (.slice A m c):=hbk.out.cell 5
        have elt:=hbk.out.lt
        by_cases hlt:q<m
        ·have i1:decide ((q:Int)<(m:Int))=true:=by simp;omega
         have i2:(q:Int)<(m:Int):=by omega
         have i3:(0:Int)<=(q:Int):=by omega
         obtain ⟨t,ht⟩:∃t,L[q]?=some t:=⟨_,gZ (by have:=hm.out;omega)⟩
         have hmem:=hdZ (mgZ ht)
         have hst:=hdZ (allT_step ht hsame.out)
         obtain ⟨hc,hTt⟩:=(hR'.out.below hB.out).get q t ht
         have hcall:=hdZ (ih'.out t hmem.out wr ok (Nat.lt_of_lt_of_le hpos hB.out.size) hTt (hsz'.out t hmem.out))
         clear ht hTt
         obtain ⟨b9,hb9⟩:=nmZ (mayR (strip t))
         rw [hb9.out] at hst hcall
         obtain ⟨tk,tp,tf,tx,tn,tA,tc,tL⟩:=t
         obtain ⟨bb,off,rfl,_,h0,h1,h2,h3,h4,h5⟩:=hc
         rw [Nat.zero_add] at h0 h1 h2 h3 h4 h5
         unfold Tree.cells at hcall
         go_wp2_with fail
         refine hcall.out.mono ?_
         rintro e w1 ⟨rfl,hb1⟩
         have hB1:=btY hB hb1
         have hbk1:=kbY hbk hb1
         clear hb1 h0 h1 h2 h3 h4 h5 e5 elt hcall
         cases b9 with
         | true =>
          go_wp2_with fail
          go_roundg (m-(q+1))
          case measure=>have:=hg'.out;omega
          case rel=>exact ⟨q+1,by omega,rfl,by go_num,by unfold Hid;rw [hst.out];rfl,hB1,hbk1⟩
         | false =>
          go_wp2_with fail
          go_ret
          exact ⟨by rw [hres.out,hst.out];simp,hB1.out⟩
        ·have i1:decide ((q:Int)<(m:Int))=false:=by simp;omega
         have hfin:Hid (b=true):=by unfold Hid;rw [hsame.out,List.drop_eq_nil_of_le (by have:=hm.out;omega)];rfl
         go_wp2_with fail
         go_ret
         exact ⟨by rw [hres.out,hfin.out];simp,hB.out⟩
theorem right_not (t:Tree) (ih:∀u∈t.sub,RightC u) (hk:t.kind=2):RightC t:=by
 intro w ok hpos hT hz
 obtain ⟨k,p,f,x,n,A,c,L⟩:=t
 replace hk:k=2:=hk
 obtain ⟨hfl,hxl,hsz⟩:=sz_parts hz.out
 have hsz':=hdZ hsz
 have hT0:=hT.out
 rw [TreeAt] at hT0
 obtain ⟨hR,hlen⟩:=hT0
 have hR':=hdZ hR
 obtain ⟨m,hm⟩:=nmZ (L.length)
 rw [hm.out] at hlen
 unfold maxLen at hlen
 have ih':Hid (∀u∈L,RightC u):=ih
 clear ih hT hR hsz hz
 obtain ⟨bp,qp⟩:∃b,(p != 0)=b:=⟨_,rfl⟩
 obtain ⟨bn,qn⟩:∃b,(n != 0)=b:=⟨_,rfl⟩
 obtain ⟨bf,qf⟩:∃b,(f==[])=b:=⟨_,rfl⟩
 obtain ⟨bx,qx⟩:∃b,(x==[])=b:=⟨_,rfl⟩
 have dp:decide (p=0)=!bp:=by rw [<-qp,Bool.eq_iff_iff];simp
 have dn:decide (n=0)=!bn:=by rw [<-qn,Bool.eq_iff_iff];simp
 have df:decide (f=[])=bf:=by rw [<-qf,Bool.eq_iff_iff];simp
 have dx:decide (x=[])=bx:=by rw [<-qx,Bool.eq_iff_iff];simp
 have ef:=tx_list f
 have ex:=tx_list x
 show Calls Tryz.prog 135 #[.agg #[.int .i64 k,.int .i64 p,.string ⟨f.toArray⟩,.string ⟨x.toArray⟩,.int .i64 n,.slice A L.length c]] w _
 rw [hm.out]
 have hb0:Hid (Bz w (w.alloc (.cells #[.int .i64 k,.int .i64 p,.string ⟨f.toArray⟩,.string ⟨x.toArray⟩,.int .i64 n,.slice A m c] 24))):=(Below.refl _ w).alloc leZ _
 obtain ⟨b,hb⟩:=nmZ ((L.all fun t=>mayR (strip t)))
 obtain ⟨b2,q2⟩:∃b,decide (m≠1)=b:=⟨_,rfl⟩
 obtain ⟨b3,q3⟩:∃b,decide (64<m)=b:=⟨_,rfl⟩
 have r2:((m:Int) != 1)=b2:=by rw [<-q2,Bool.eq_iff_iff];simp;omega
 have r3:decide ((64:Int)<(m:Int))=b3:=by rw [<-q3,Bool.eq_iff_iff];simp;omega
 have hres:Hid (mayR (strip (.mk k p f x n A c L))=(!bp&&bf&&bx&&!bn&&!b3&&!b2&&b)):=by
  unfold Hid
  rw [strip,mayR,if_neg (by omega),if_pos hk,mayL_all,dp,dn,df,dx,strips_map,List.length_map,hm.out,List.all_map,<-hb.out,<-q2,<-q3]
  by_cases h1:m=1
  ·subst h1
   show (!bp&&!bn&&bf&&bx&&true&&L.all (mayR ∘ strip))=(!bp&&bf&&bx&&!bn&&true&&true&&L.all (mayR ∘ strip))
   cases bp<;>cases bf<;>cases bx<;>cases bn<;>simp
  ·rw [dfZ h1,dtZ h1]
   cases bp<;>cases bf<;>cases bx<;>cases bn<;>simp
 clear dp dn df dx q2 q3
 subst hk
 cases bp with
 | true =>
  go_enter Tryz.func135,Tryz.ntmps135
  go_wp2_with fail
  go_ret
  exact ⟨by rw [hres.out];simp,hb0.out⟩
 | false =>
  cases bf with
  | false =>
   go_enter Tryz.func135,Tryz.ntmps135
   go_wp2_with fail
   go_ret
   exact ⟨by rw [hres.out];simp,hb0.out⟩
  | true =>
   cases bx with
   | false =>
    go_enter Tryz.func135,Tryz.ntmps135
    go_wp2_with fail
    go_ret
    exact ⟨by rw [hres.out];simp,hb0.out⟩
   | true =>
    cases bn with
    | true =>
     go_enter Tryz.func135,Tryz.ntmps135
     go_wp2_with fail
     go_ret
     exact ⟨by rw [hres.out];simp,hb0.out⟩
    | false =>
     cases b3 with
     | true =>
      go_enter Tryz.func135,Tryz.ntmps135
      go_wp2_with fail
      go_ret
      exact ⟨by rw [hres.out];simp,hb0.out⟩
     | false =>
      cases b2 with
      | true =>
       go_enter Tryz.func135,Tryz.ntmps135
       go_wp2_with fail
       go_ret
       exact ⟨by rw [hres.out];simp,hb0.out⟩
      | false =>
       have hbx:=hdZ (Blk.new w 24 #[.int .i64 2,.int .i64 p,.string ⟨f.toArray⟩,.string ⟨x.toArray⟩,.int .i64 n,.slice A m c])
       obtain ⟨wa,hwa⟩:=nmZ (w.alloc (.cells #[.int .i64 2,.int .i64 p,.string ⟨f.toArray⟩,.string ⟨x.toArray⟩,.int .i64 n,.slice A m c] 24))
       go_enter Tryz.func135,Tryz.ntmps135
       go_wp2_with fail
       rw [hwa.out] at hb0 hbx ⊢
       clear hwa
       go_loopg [3] m (fun gg a wr=>∃q:Nat,q<=m/\gg=m-q/\a=.int .i64 q/\Hid (b=((L.drop q).all fun t=>mayR (strip t)))/\Hid (Bz w wr)/\Hid (Blk wr w.heap.size 24 #[.int .i64 2,.int .i64 p,.string ⟨f.toArray⟩,.string ⟨x.toArray⟩,.int .i64 n,.slice A m c]))
       case atStart=>exact ⟨0,Nat.zero_le _,rfl,rfl,by unfold Hid;rw [<-hb.out];rfl,hb0,hbx⟩
       case round =>
        clear hb0 hbx
        obtain ⟨q,hq,hg,rfl,hsame,hB,hbk⟩:=hrel
        have hg':=hdZ hg
        clear hg
        have e5:wr.cell? ⟨w.heap.size,5,none⟩=some (.slice A m c):=hbk.out.cell 5
        have elt:=hbk.out.lt
        by_cases hlt:q<m
        ·have i1:decide ((q:Int)<(m:Int))=true:=by simp;omega
         have i2:(q:Int)<(m:Int):=by omega
         have i3:(0:Int)<=(q:Int):=by omega
         obtain ⟨t,ht⟩:∃t,L[q]?=some t:=⟨_,gZ (by have:=hm.out;omega)⟩
         have hmem:=hdZ (mgZ ht)
         have hst:=hdZ (allT_step ht hsame.out)
         obtain ⟨hc,hTt⟩:=(hR'.out.below hB.out).get q t ht
         have hcall:=hdZ (ih'.out t hmem.out wr ok (Nat.lt_of_lt_of_le hpos hB.out.size) hTt (hsz'.out t hmem.out))
         clear ht hTt
         obtain ⟨b9,hb9⟩:=nmZ (mayR (strip t))
         rw [hb9.out] at hst hcall
         obtain ⟨tk,tp,tf,tx,tn,tA,tc,tL⟩:=t
         obtain ⟨bb,off,rfl,_,h0,h1,h2,h3,h4,h5⟩:=hc
         rw [Nat.zero_add] at h0 h1 h2 h3 h4 h5
         unfold Tree.cells at hcall
         go_wp2_with fail
         refine hcall.out.mono ?_
         rintro e w1 ⟨rfl,hb1⟩
         have hB1:=btY hB hb1
         have hbk1:=kbY hbk hb1
         clear hb1 h0 h1 h2 h3 h4 h5 e5 elt hcall
         cases b9 with
         | true =>
          go_wp2_with fail
          go_roundg (m-(q+1))
          case measure=>have:=hg'.out;omega
          case rel=>exact ⟨q+1,by omega,rfl,by go_num,by unfold Hid;rw [hst.out];rfl,hB1,hbk1⟩
         | false =>
          go_wp2_with fail
          go_ret
          exact ⟨by rw [hres.out,hst.out];simp,hB1.out⟩
        ·have i1:decide ((q:Int)<(m:Int))=false:=by simp;omega
         have hfin:Hid (b=true):=by unfold Hid;rw [hsame.out,List.drop_eq_nil_of_le (by have:=hm.out;omega)];rfl
         go_wp2_with fail
         go_ret
         exact ⟨by rw [hres.out,hfin.out];simp,hB.out⟩
theorem right_text3 (t:Tree) (ih:∀u∈t.sub,RightC u) (hk:t.kind=3):RightC t:=by
 intro w ok hpos hT hz
 obtain ⟨k,p,f,x,n,A,c,L⟩:=t
 replace hk:k=3:=hk
 obtain ⟨hfl,hxl,hsz⟩:=sz_parts hz.out
 have hsz':=hdZ hsz
 have hT0:=hT.out
 rw [TreeAt] at hT0
 obtain ⟨hR,hlen⟩:=hT0
 have hR':=hdZ hR
 obtain ⟨m,hm⟩:=nmZ (L.length)
 rw [hm.out] at hlen
 unfold maxLen at hlen
 have ih':Hid (∀u∈L,RightC u):=ih
 clear ih hT hR hsz hz
 obtain ⟨bp,qp⟩:∃b,(p==0)=b:=⟨_,rfl⟩
 obtain ⟨bn,qn⟩:∃b,(n==0)=b:=⟨_,rfl⟩
 obtain ⟨bf,qf⟩:∃b,(f==[])=b:=⟨_,rfl⟩
 obtain ⟨bx,qx⟩:∃b,(x==[])=b:=⟨_,rfl⟩
 have dp:decide (p=0)=bp:=by rw [<-qp,Bool.eq_iff_iff];simp
 have dn:decide (n=0)=bn:=by rw [<-qn,Bool.eq_iff_iff];simp
 have df:decide (f=[])=bf:=by rw [<-qf,Bool.eq_iff_iff];simp
 have dx:decide (x=[])=bx:=by rw [<-qx,Bool.eq_iff_iff];simp
 have ef:=tx_list f
 have ex:=tx_list x
 show Calls Tryz.prog 135 #[.agg #[.int .i64 k,.int .i64 p,.string ⟨f.toArray⟩,.string ⟨x.toArray⟩,.int .i64 n,.slice A L.length c]] w _
 rw [hm.out]
 have hb0:Hid (Bz w (w.alloc (.cells #[.int .i64 k,.int .i64 p,.string ⟨f.toArray⟩,.string ⟨x.toArray⟩,.int .i64 n,.slice A m c] 24))):=(Below.refl _ w).alloc leZ _
 obtain ⟨b1,q1⟩:∃b,decide (m=0)=b:=⟨_,rfl⟩
 have r1:((m:Int)==0)=b1:=by rw [<-q1,Bool.eq_iff_iff];simp
 have hc1:Hid (∀(W:World) (s:Txt),s.length<=70368744177664->Bz w W->Calls Tryz.prog 185 #[.string ⟨s.toArray⟩] W fun e w'=>e=.returned (.bool (nameM s))/\Bz W w'):=fun W s hs hb=>by
  have:=rnameL_any ⟨s.toArray⟩ W (by rw [size_list];unfold maxLen;omega) (Nat.lt_of_lt_of_le hpos hb.size)
  rw [show (⟨s.toArray⟩:ByteArray).data.toList=s by simp] at this
  exact this
 have hc2:Hid (∀W,Calls Tryz.prog 186 #[.string ⟨x.toArray⟩] W fun e w'=>e=.returned (.bool (textM x))/\W=w'):=fun W=>by
  have:=rtext_any ⟨x.toArray⟩ W (by rw [size_list];unfold maxLen;omega)
  rw [show (⟨x.toArray⟩:ByteArray).data.toList=x by simp] at this
  exact this
 obtain ⟨bm,hbm⟩:=nmZ (nameM f)
 obtain ⟨bt,hbt⟩:=nmZ (textM x)
 have hres:Hid (mayR (strip (.mk k p f x n A c L))=(b1&&bp&&bn&&bm&&bt)):=by
  unfold Hid
  rw [strip,mayR,if_neg (by omega),if_neg (by omega),if_pos (by omega),dp,dn,hbm.out,hbt.out,strips_map,List.length_map,hm.out,q1]
  cases b1<;>cases bp<;>cases bn<;>simp
 clear dp dn df dx q1
 subst hk
 have hsza:Hid (w.heap.size<(w.alloc (.cells #[.int .i64 3,.int .i64 p,.string ⟨f.toArray⟩,.string ⟨x.toArray⟩,.int .i64 n,.slice A m c] 24)).heap.size):=by unfold Hid;simp
 cases b1 with
 | false =>
  go_enter Tryz.func135,Tryz.ntmps135
  go_wp2_with fail
  go_ret
  exact ⟨by rw [hres.out];simp,hb0.out⟩
 | true =>
  cases bp with
  | false =>
   go_enter Tryz.func135,Tryz.ntmps135
   go_wp2_with fail
   go_ret
   exact ⟨by rw [hres.out];simp,hb0.out⟩
  | true =>
   cases bn with
   | false =>
    go_enter Tryz.func135,Tryz.ntmps135
    go_wp2_with fail
    go_ret
    exact ⟨by rw [hres.out];simp,hb0.out⟩
   | true =>
    go_enter Tryz.func135,Tryz.ntmps135
    go_wp2_with fail
    refine (hc1.out _ f hfl hb0.out).mono ?_
    rintro e w1 ⟨rfl,hB1⟩
    rw [hbm.out]
    have hBx:=btY hb0 hB1
    have s3:w1.cell? ⟨w.heap.size,3,none⟩=some (.string ⟨x.toArray⟩):=by rw [hB1.cell (hsza.out),(Blk.new w 24 _).cell];rfl
    have slt:w.heap.size<w1.heap.size:=by have:=hB1.size;have:=hb0.out.size;have h9:=hsza.out;omega
    clear hB1
    cases bm with
    | false =>
     go_wp2_with fail
     go_ret
     exact ⟨by rw [hres.out];simp,hBx.out⟩
    | true =>
     go_wp2_with fail
     refine (hc2.out _).mono ?_
     rintro e w2 ⟨rfl,rfl⟩
     rw [hbt.out]
     go_wp2_with fail
     go_ret
     exact ⟨by rw [hres.out];simp,hBx.out⟩
theorem right_text4 (t:Tree) (ih:∀u∈t.sub,RightC u) (hk:t.kind=4):RightC t:=by
 intro w ok hpos hT hz
 obtain ⟨k,p,f,x,n,A,c,L⟩:=t
 replace hk:k=4:=hk
 obtain ⟨hfl,hxl,hsz⟩:=sz_parts hz.out
 have hsz':=hdZ hsz
 have hT0:=hT.out
 rw [TreeAt] at hT0
 obtain ⟨hR,hlen⟩:=hT0
 have hR':=hdZ hR
 obtain ⟨m,hm⟩:=nmZ (L.length)
 rw [hm.out] at hlen
 unfold maxLen at hlen
 have ih':Hid (∀u∈L,RightC u):=ih
 clear ih hT hR hsz hz
 obtain ⟨bp,qp⟩:∃b,(p==0)=b:=⟨_,rfl⟩
 obtain ⟨bn,qn⟩:∃b,(n==0)=b:=⟨_,rfl⟩
 obtain ⟨bf,qf⟩:∃b,(f==[])=b:=⟨_,rfl⟩
 obtain ⟨bx,qx⟩:∃b,(x==[])=b:=⟨_,rfl⟩
 have dp:decide (p=0)=bp:=by rw [<-qp,Bool.eq_iff_iff];simp
 have dn:decide (n=0)=bn:=by rw [<-qn,Bool.eq_iff_iff];simp
 have df:decide (f=[])=bf:=by rw [<-qf,Bool.eq_iff_iff];simp
 have dx:decide (x=[])=bx:=by rw [<-qx,Bool.eq_iff_iff];simp
 have ef:=tx_list f
 have ex:=tx_list x
 show Calls Tryz.prog 135 #[.agg #[.int .i64 k,.int .i64 p,.string ⟨f.toArray⟩,.string ⟨x.toArray⟩,.int .i64 n,.slice A L.length c]] w _
 rw [hm.out]
 have hb0:Hid (Bz w (w.alloc (.cells #[.int .i64 k,.int .i64 p,.string ⟨f.toArray⟩,.string ⟨x.toArray⟩,.int .i64 n,.slice A m c] 24))):=(Below.refl _ w).alloc leZ _
 obtain ⟨b1,q1⟩:∃b,decide (m=0)=b:=⟨_,rfl⟩
 have r1:((m:Int)==0)=b1:=by rw [<-q1,Bool.eq_iff_iff];simp
 have hc1:Hid (∀(W:World) (s:Txt),s.length<=70368744177664->Bz w W->Calls Tryz.prog 185 #[.string ⟨s.toArray⟩] W fun e w'=>e=.returned (.bool (nameM s))/\Bz W w'):=fun W s hs hb=>by
  have:=rnameL_any ⟨s.toArray⟩ W (by rw [size_list];unfold maxLen;omega) (Nat.lt_of_lt_of_le hpos hb.size)
  rw [show (⟨s.toArray⟩:ByteArray).data.toList=s by simp] at this
  exact this
 have hc2:Hid (∀W,Calls Tryz.prog 186 #[.string ⟨x.toArray⟩] W fun e w'=>e=.returned (.bool (textM x))/\W=w'):=fun W=>by
  have:=rtext_any ⟨x.toArray⟩ W (by rw [size_list];unfold maxLen;omega)
  rw [show (⟨x.toArray⟩:ByteArray).data.toList=x by simp] at this
  exact this
 obtain ⟨bm,hbm⟩:=nmZ (nameM f)
 obtain ⟨bt,hbt⟩:=nmZ (textM x)
 have hres:Hid (mayR (strip (.mk k p f x n A c L))=(b1&&bp&&bn&&bm&&bt)):=by
  unfold Hid
  rw [strip,mayR,if_neg (by omega),if_neg (by omega),if_pos (by omega),dp,dn,hbm.out,hbt.out,strips_map,List.length_map,hm.out,q1]
  cases b1<;>cases bp<;>cases bn<;>simp
 clear dp dn df dx q1
 subst hk
 have hsza:Hid (w.heap.size<(w.alloc (.cells #[.int .i64 4,.int .i64 p,.string ⟨f.toArray⟩,.string ⟨x.toArray⟩,.int .i64 n,.slice A m c] 24)).heap.size):=by unfold Hid;simp
 cases b1 with
 | false =>
  go_enter Tryz.func135,Tryz.ntmps135
  go_wp2_with fail
  go_ret
  exact ⟨by rw [hres.out];simp,hb0.out⟩
 | true =>
  cases bp with
  | false =>
   go_enter Tryz.func135,Tryz.ntmps135
   go_wp2_with fail
   go_ret
   exact ⟨by rw [hres.out];simp,hb0.out⟩
  | true =>
   cases bn with
   | false =>
    go_enter Tryz.func135,Tryz.ntmps135
    go_wp2_with fail
    go_ret
    exact ⟨by rw [hres.out];simp,hb0.out⟩
   | true =>
    go_enter Tryz.func135,Tryz.ntmps135
    go_wp2_with fail
    refine (hc1.out _ f hfl hb0.out).mono ?_
    rintro e w1 ⟨rfl,hB1⟩
    rw [hbm.out]
    have hBx:=btY hb0 hB1
    have s3:w1.cell? ⟨w.heap.size,3,none⟩=some (.string ⟨x.toArray⟩):=by rw [hB1.cell (hsza.out),(Blk.new w 24 _).cell];rfl
    have slt:w.heap.size<w1.heap.size:=by have:=hB1.size;have:=hb0.out.size;have h9:=hsza.out;omega
    clear hB1
    cases bm with
    | false =>
     go_wp2_with fail
     go_ret
     exact ⟨by rw [hres.out];simp,hBx.out⟩
    | true =>
     go_wp2_with fail
     refine (hc2.out _).mono ?_
     rintro e w2 ⟨rfl,rfl⟩
     rw [hbt.out]
     go_wp2_with fail
     go_ret
     exact ⟨by rw [hres.out];simp,hBx.out⟩
theorem right_num5 (t:Tree) (ih:∀u∈t.sub,RightC u) (hk:t.kind=5):RightC t:=by
 intro w ok hpos hT hz
 obtain ⟨k,p,f,x,n,A,c,L⟩:=t
 replace hk:k=5:=hk
 obtain ⟨hfl,hxl,hsz⟩:=sz_parts hz.out
 have hsz':=hdZ hsz
 have hT0:=hT.out
 rw [TreeAt] at hT0
 obtain ⟨hR,hlen⟩:=hT0
 have hR':=hdZ hR
 obtain ⟨m,hm⟩:=nmZ (L.length)
 rw [hm.out] at hlen
 unfold maxLen at hlen
 have ih':Hid (∀u∈L,RightC u):=ih
 clear ih hT hR hsz hz
 obtain ⟨bp,qp⟩:∃b,(p==0)=b:=⟨_,rfl⟩
 obtain ⟨bn,qn⟩:∃b,(n==0)=b:=⟨_,rfl⟩
 obtain ⟨bf,qf⟩:∃b,(f==[])=b:=⟨_,rfl⟩
 obtain ⟨bx,qx⟩:∃b,(x==[])=b:=⟨_,rfl⟩
 have dp:decide (p=0)=bp:=by rw [<-qp,Bool.eq_iff_iff];simp
 have dn:decide (n=0)=bn:=by rw [<-qn,Bool.eq_iff_iff];simp
 have df:decide (f=[])=bf:=by rw [<-qf,Bool.eq_iff_iff];simp
 have dx:decide (x=[])=bx:=by rw [<-qx,Bool.eq_iff_iff];simp
 have ef:=tx_list f
 have ex:=tx_list x
 show Calls Tryz.prog 135 #[.agg #[.int .i64 k,.int .i64 p,.string ⟨f.toArray⟩,.string ⟨x.toArray⟩,.int .i64 n,.slice A L.length c]] w _
 rw [hm.out]
 have hb0:Hid (Bz w (w.alloc (.cells #[.int .i64 k,.int .i64 p,.string ⟨f.toArray⟩,.string ⟨x.toArray⟩,.int .i64 n,.slice A m c] 24))):=(Below.refl _ w).alloc leZ _
 obtain ⟨b1,q1⟩:∃b,decide (m=0)=b:=⟨_,rfl⟩
 have r1:((m:Int)==0)=b1:=by rw [<-q1,Bool.eq_iff_iff];simp
 have hc1:Hid (∀(W:World) (s:Txt),s.length<=70368744177664->Bz w W->Calls Tryz.prog 185 #[.string ⟨s.toArray⟩] W fun e w'=>e=.returned (.bool (nameM s))/\Bz W w'):=fun W s hs hb=>by
  have:=rnameL_any ⟨s.toArray⟩ W (by rw [size_list];unfold maxLen;omega) (Nat.lt_of_lt_of_le hpos hb.size)
  rw [show (⟨s.toArray⟩:ByteArray).data.toList=s by simp] at this
  exact this
 have hc2:Hid (∀W,Calls Tryz.prog 186 #[.string ⟨x.toArray⟩] W fun e w'=>e=.returned (.bool (textM x))/\W=w'):=fun W=>by
  have:=rtext_any ⟨x.toArray⟩ W (by rw [size_list];unfold maxLen;omega)
  rw [show (⟨x.toArray⟩:ByteArray).data.toList=x by simp] at this
  exact this
 obtain ⟨bm,hbm⟩:=nmZ (nameM f)
 obtain ⟨b4,q4⟩:∃b,decide (0<=n)=b:=⟨_,rfl⟩
 obtain ⟨b5,q5⟩:∃b,decide (n<=1099511627776)=b:=⟨_,rfl⟩
 have hres:Hid (mayR (strip (.mk k p f x n A c L))=(b1&&bp&&bx&&bm&&b4&&b5)):=by
  unfold Hid
  rw [strip,mayR,if_neg (by omega),if_neg (by omega),if_neg (by omega),if_pos (by omega),dp,dx,hbm.out,strips_map,List.length_map,hm.out,q1,q4,q5]
  cases b1<;>cases bp<;>cases bx<;>simp
 clear dp dn df dx q1
 subst hk
 have hsza:Hid (w.heap.size<(w.alloc (.cells #[.int .i64 5,.int .i64 p,.string ⟨f.toArray⟩,.string ⟨x.toArray⟩,.int .i64 n,.slice A m c] 24)).heap.size):=by unfold Hid;simp
 cases b1 with
 | false =>
  go_enter Tryz.func135,Tryz.ntmps135
  go_wp2_with fail
  go_ret
  exact ⟨by rw [hres.out];simp,hb0.out⟩
 | true =>
  cases bp with
  | false =>
   go_enter Tryz.func135,Tryz.ntmps135
   go_wp2_with fail
   go_ret
   exact ⟨by rw [hres.out];simp,hb0.out⟩
  | true =>
   cases bx with
   | false =>
    go_enter Tryz.func135,Tryz.ntmps135
    go_wp2_with fail
    go_ret
    exact ⟨by rw [hres.out];simp,hb0.out⟩
   | true =>
    cases b4<;>cases b5
    all_goals
     go_enter Tryz.func135,Tryz.ntmps135
     go_wp2_with fail
     refine (hc1.out _ f hfl hb0.out).mono ?_
     rintro e w1 ⟨rfl,hB1⟩
     rw [hbm.out]
     have hBx:=btY hb0 hB1
     have s4:w1.cell? ⟨w.heap.size,4,none⟩=some (.int .i64 n):=by rw [hB1.cell (hsza.out),(Blk.new w 24 _).cell];rfl
     have slt:w.heap.size<w1.heap.size:=by have:=hB1.size;have:=hb0.out.size;have h9:=hsza.out;omega
     clear hB1
     cases bm
     all_goals
      go_wp2_with fail
      go_ret
      exact ⟨by rw [hres.out];simp,hBx.out⟩
theorem right_num6 (t:Tree) (ih:∀u∈t.sub,RightC u) (hk:t.kind=6):RightC t:=by
 intro w ok hpos hT hz
 obtain ⟨k,p,f,x,n,A,c,L⟩:=t
 replace hk:k=6:=hk
 obtain ⟨hfl,hxl,hsz⟩:=sz_parts hz.out
 have hsz':=hdZ hsz
 have hT0:=hT.out
 rw [TreeAt] at hT0
 obtain ⟨hR,hlen⟩:=hT0
 have hR':=hdZ hR
 obtain ⟨m,hm⟩:=nmZ (L.length)
 rw [hm.out] at hlen
 unfold maxLen at hlen
 have ih':Hid (∀u∈L,RightC u):=ih
 clear ih hT hR hsz hz
 obtain ⟨bp,qp⟩:∃b,(p==0)=b:=⟨_,rfl⟩
 obtain ⟨bn,qn⟩:∃b,(n==0)=b:=⟨_,rfl⟩
 obtain ⟨bf,qf⟩:∃b,(f==[])=b:=⟨_,rfl⟩
 obtain ⟨bx,qx⟩:∃b,(x==[])=b:=⟨_,rfl⟩
 have dp:decide (p=0)=bp:=by rw [<-qp,Bool.eq_iff_iff];simp
 have dn:decide (n=0)=bn:=by rw [<-qn,Bool.eq_iff_iff];simp
 have df:decide (f=[])=bf:=by rw [<-qf,Bool.eq_iff_iff];simp
 have dx:decide (x=[])=bx:=by rw [<-qx,Bool.eq_iff_iff];simp
 have ef:=tx_list f
 have ex:=tx_list x
 show Calls Tryz.prog 135 #[.agg #[.int .i64 k,.int .i64 p,.string ⟨f.toArray⟩,.string ⟨x.toArray⟩,.int .i64 n,.slice A L.length c]] w _
 rw [hm.out]
 have hb0:Hid (Bz w (w.alloc (.cells #[.int .i64 k,.int .i64 p,.string ⟨f.toArray⟩,.string ⟨x.toArray⟩,.int .i64 n,.slice A m c] 24))):=(Below.refl _ w).alloc leZ _
 obtain ⟨b1,q1⟩:∃b,decide (m=0)=b:=⟨_,rfl⟩
 have r1:((m:Int)==0)=b1:=by rw [<-q1,Bool.eq_iff_iff];simp
 have hc1:Hid (∀(W:World) (s:Txt),s.length<=70368744177664->Bz w W->Calls Tryz.prog 185 #[.string ⟨s.toArray⟩] W fun e w'=>e=.returned (.bool (nameM s))/\Bz W w'):=fun W s hs hb=>by
  have:=rnameL_any ⟨s.toArray⟩ W (by rw [size_list];unfold maxLen;omega) (Nat.lt_of_lt_of_le hpos hb.size)
  rw [show (⟨s.toArray⟩:ByteArray).data.toList=s by simp] at this
  exact this
 have hc2:Hid (∀W,Calls Tryz.prog 186 #[.string ⟨x.toArray⟩] W fun e w'=>e=.returned (.bool (textM x))/\W=w'):=fun W=>by
  have:=rtext_any ⟨x.toArray⟩ W (by rw [size_list];unfold maxLen;omega)
  rw [show (⟨x.toArray⟩:ByteArray).data.toList=x by simp] at this
  exact this
 obtain ⟨bm,hbm⟩:=nmZ (nameM f)
 obtain ⟨b4,q4⟩:∃b,decide (0<=n)=b:=⟨_,rfl⟩
 obtain ⟨b5,q5⟩:∃b,decide (n<=1099511627776)=b:=⟨_,rfl⟩
 have hres:Hid (mayR (strip (.mk k p f x n A c L))=(b1&&bp&&bx&&bm&&b4&&b5)):=by
  unfold Hid
  rw [strip,mayR,if_neg (by omega),if_neg (by omega),if_neg (by omega),if_pos (by omega),dp,dx,hbm.out,strips_map,List.length_map,hm.out,q1,q4,q5]
  cases b1<;>cases bp<;>cases bx<;>simp
 clear dp dn df dx q1
 subst hk
 have hsza:Hid (w.heap.size<(w.alloc (.cells #[.int .i64 6,.int .i64 p,.string ⟨f.toArray⟩,.string ⟨x.toArray⟩,.int .i64 n,.slice A m c] 24)).heap.size):=by unfold Hid;simp
 cases b1 with
 | false =>
  go_enter Tryz.func135,Tryz.ntmps135
  go_wp2_with fail
  go_ret
  exact ⟨by rw [hres.out];simp,hb0.out⟩
 | true =>
  cases bp with
  | false =>
   go_enter Tryz.func135,Tryz.ntmps135
   go_wp2_with fail
   go_ret
   exact ⟨by rw [hres.out];simp,hb0.out⟩
  | true =>
   cases bx with
   | false =>
    go_enter Tryz.func135,Tryz.ntmps135
    go_wp2_with fail
    go_ret
    exact ⟨by rw [hres.out];simp,hb0.out⟩
   | true =>
    cases b4<;>cases b5
    all_goals
     go_enter Tryz.func135,Tryz.ntmps135
     go_wp2_with fail
     refine (hc1.out _ f hfl hb0.out).mono ?_
     rintro e w1 ⟨rfl,hB1⟩
     rw [hbm.out]
     have hBx:=btY hb0 hB1
     have s4:w1.cell? ⟨w.heap.size,4,none⟩=some (.int .i64 n):=by rw [hB1.cell (hsza.out),(Blk.new w 24 _).cell];rfl
     have slt:w.heap.size<w1.heap.size:=by have:=hB1.size;have:=hb0.out.size;have h9:=hsza.out;omega
     clear hB1
     cases bm
     all_goals
      go_wp2_with fail
      go_ret
      exact ⟨by rw [hres.out];simp,hBx.out⟩
theorem right_like (t:Tree) (ih:∀u∈t.sub,RightC u) (hk:t.kind=7):RightC t:=by
 intro w ok hpos hT hz
 obtain ⟨k,p,f,x,n,A,c,L⟩:=t
 replace hk:k=7:=hk
 obtain ⟨hfl,hxl,hsz⟩:=sz_parts hz.out
 have hsz':=hdZ hsz
 have hT0:=hT.out
 rw [TreeAt] at hT0
 obtain ⟨hR,hlen⟩:=hT0
 have hR':=hdZ hR
 obtain ⟨m,hm⟩:=nmZ (L.length)
 rw [hm.out] at hlen
 unfold maxLen at hlen
 have ih':Hid (∀u∈L,RightC u):=ih
 clear ih hT hR hsz hz
 obtain ⟨bp,qp⟩:∃b,(p==0)=b:=⟨_,rfl⟩
 obtain ⟨bn,qn⟩:∃b,(n==0)=b:=⟨_,rfl⟩
 obtain ⟨bf,qf⟩:∃b,(f==[])=b:=⟨_,rfl⟩
 obtain ⟨bx,qx⟩:∃b,(x==[])=b:=⟨_,rfl⟩
 have dp:decide (p=0)=bp:=by rw [<-qp,Bool.eq_iff_iff];simp
 have dn:decide (n=0)=bn:=by rw [<-qn,Bool.eq_iff_iff];simp
 have df:decide (f=[])=bf:=by rw [<-qf,Bool.eq_iff_iff];simp
 have dx:decide (x=[])=bx:=by rw [<-qx,Bool.eq_iff_iff];simp
 have ef:=tx_list f
 have ex:=tx_list x
 show Calls Tryz.prog 135 #[.agg #[.int .i64 k,.int .i64 p,.string ⟨f.toArray⟩,.string ⟨x.toArray⟩,.int .i64 n,.slice A L.length c]] w _
 rw [hm.out]
 have hb0:Hid (Bz w (w.alloc (.cells #[.int .i64 k,.int .i64 p,.string ⟨f.toArray⟩,.string ⟨x.toArray⟩,.int .i64 n,.slice A m c] 24))):=(Below.refl _ w).alloc leZ _
 obtain ⟨b1,q1⟩:∃b,decide (m=0)=b:=⟨_,rfl⟩
 have r1:((m:Int)==0)=b1:=by rw [<-q1,Bool.eq_iff_iff];simp
 have hc1:Hid (∀(W:World) (s:Txt),s.length<=70368744177664->Bz w W->Calls Tryz.prog 185 #[.string ⟨s.toArray⟩] W fun e w'=>e=.returned (.bool (nameM s))/\Bz W w'):=fun W s hs hb=>by
  have:=rnameL_any ⟨s.toArray⟩ W (by rw [size_list];unfold maxLen;omega) (Nat.lt_of_lt_of_le hpos hb.size)
  rw [show (⟨s.toArray⟩:ByteArray).data.toList=s by simp] at this
  exact this
 have hc2:Hid (∀W,Calls Tryz.prog 186 #[.string ⟨x.toArray⟩] W fun e w'=>e=.returned (.bool (textM x))/\W=w'):=fun W=>by
  have:=rtext_any ⟨x.toArray⟩ W (by rw [size_list];unfold maxLen;omega)
  rw [show (⟨x.toArray⟩:ByteArray).data.toList=x by simp] at this
  exact this
 obtain ⟨bm,hbm⟩:=nmZ (nameM f)
 obtain ⟨bt,hbt⟩:=nmZ (nameM x)
 obtain ⟨b4,q4⟩:∃b,decide (0<=p)=b:=⟨_,rfl⟩
 obtain ⟨b5,q5⟩:∃b,decide (p<=5)=b:=⟨_,rfl⟩
 have q6:decide (p<6)=b5:=by rw [<-q5,Bool.eq_iff_iff];simp;omega
 have hres:Hid (mayR (strip (.mk k p f x n A c L))=(b1&&bn&&bm&&bt&&b4&&b5)):=by
  unfold Hid
  rw [strip,mayR,if_neg (by omega),if_neg (by omega),if_neg (by omega),if_neg (by omega),if_pos hk,dn,hbm.out,hbt.out,strips_map,List.length_map,hm.out,q1,q4,q6]
  cases b1<;>cases bn<;>cases bm<;>cases bt<;>simp
 clear dp dn df dx q1 q6
 subst hk
 have hsza:Hid (w.heap.size<(w.alloc (.cells #[.int .i64 7,.int .i64 p,.string ⟨f.toArray⟩,.string ⟨x.toArray⟩,.int .i64 n,.slice A m c] 24)).heap.size):=by unfold Hid;simp
 cases b1 with
 | false =>
  go_enter Tryz.func135,Tryz.ntmps135
  go_wp2_with fail
  go_ret
  exact ⟨by rw [hres.out];simp,hb0.out⟩
 | true =>
  cases bn with
  | false =>
   go_enter Tryz.func135,Tryz.ntmps135
   go_wp2_with fail
   go_ret
   exact ⟨by rw [hres.out];simp,hb0.out⟩
  | true =>
   go_enter Tryz.func135,Tryz.ntmps135
   go_wp2_with fail
   refine (hc1.out _ f hfl hb0.out).mono ?_
   rintro e w1 ⟨rfl,hB1⟩
   rw [hbm.out]
   have hBx:=btY hb0 hB1
   have s1:w1.cell? ⟨w.heap.size,1,none⟩=some (.int .i64 p):=by rw [hB1.cell (hsza.out),(Blk.new w 24 _).cell];rfl
   have s3:w1.cell? ⟨w.heap.size,3,none⟩=some (.string ⟨x.toArray⟩):=by rw [hB1.cell (hsza.out),(Blk.new w 24 _).cell];rfl
   have slt:w.heap.size<w1.heap.size:=by have:=hB1.size;have:=hb0.out.size;have h9:=hsza.out;omega
   clear hB1
   cases bm with
   | false =>
    go_wp2_with fail
    go_ret
    exact ⟨by rw [hres.out];simp,hBx.out⟩
   | true =>
    cases b4<;>cases b5
    all_goals
     go_wp2_with fail
     try
      refine (hc1.out _ x hxl hBx.out).mono ?_
      rintro e w2 ⟨rfl,hB2⟩
      rw [hbt.out]
      have hBx:=btY hBx hB2
      cases bt
      all_goals
       go_wp2_with fail
       go_ret
       exact ⟨by rw [hres.out];simp,hBx.out⟩
     try
      go_ret
      exact ⟨by rw [hres.out];simp,hBx.out⟩
theorem right_else (t:Tree) (ih:∀u∈t.sub,RightC u) (hk:t.kind<0\/7<t.kind):RightC t:=by
 intro w ok hpos hT hz
 obtain ⟨k,p,f,x,n,A,c,L⟩:=t
 replace hk:k<0\/7<k:=hk
 obtain ⟨hfl,hxl,hsz⟩:=sz_parts hz.out
 have hsz':=hdZ hsz
 have hT0:=hT.out
 rw [TreeAt] at hT0
 obtain ⟨hR,hlen⟩:=hT0
 have hR':=hdZ hR
 obtain ⟨m,hm⟩:=nmZ (L.length)
 rw [hm.out] at hlen
 unfold maxLen at hlen
 have ih':Hid (∀u∈L,RightC u):=ih
 clear ih hT hR hsz hz
 obtain ⟨bp,qp⟩:∃b,(p==0)=b:=⟨_,rfl⟩
 obtain ⟨bn,qn⟩:∃b,(n==0)=b:=⟨_,rfl⟩
 obtain ⟨bf,qf⟩:∃b,(f==[])=b:=⟨_,rfl⟩
 obtain ⟨bx,qx⟩:∃b,(x==[])=b:=⟨_,rfl⟩
 have dp:decide (p=0)=bp:=by rw [<-qp,Bool.eq_iff_iff];simp
 have dn:decide (n=0)=bn:=by rw [<-qn,Bool.eq_iff_iff];simp
 have df:decide (f=[])=bf:=by rw [<-qf,Bool.eq_iff_iff];simp
 have dx:decide (x=[])=bx:=by rw [<-qx,Bool.eq_iff_iff];simp
 have ef:=tx_list f
 have ex:=tx_list x
 show Calls Tryz.prog 135 #[.agg #[.int .i64 k,.int .i64 p,.string ⟨f.toArray⟩,.string ⟨x.toArray⟩,.int .i64 n,.slice A L.length c]] w _
 rw [hm.out]
 have hb0:Hid (Bz w (w.alloc (.cells #[.int .i64 k,.int .i64 p,.string ⟨f.toArray⟩,.string ⟨x.toArray⟩,.int .i64 n,.slice A m c] 24))):=(Below.refl _ w).alloc leZ _
 have hres:Hid (mayR (strip (.mk k p f x n A c L))=false):=by
  unfold Hid
  rw [strip,mayR,if_neg (by omega),if_neg (by omega),if_neg (by omega),if_neg (by omega),if_neg (by omega)]
 have g0:(k==0)=false:=by simp;omega
 have g1:(k==1)=false:=by simp;omega
 have g2:(k==2)=false:=by simp;omega
 have g3:(k==3)=false:=by simp;omega
 have g4:(k==4)=false:=by simp;omega
 have g5:(k==5)=false:=by simp;omega
 have g6:(k==6)=false:=by simp;omega
 have g7:(k==7)=false:=by simp;omega
 clear dp dn df dx hk
 go_enter Tryz.func135,Tryz.ntmps135
 go_wp2_with fail
 go_ret
 exact ⟨by rw [hres.out];rfl,hb0.out⟩
theorem right_any:∀t:Tree,RightC t:=Tree.every fun t ih=>by
 rcases (by omega:t.kind=0\/t.kind=1\/t.kind=2\/t.kind=3\/t.kind=4\/t.kind=5\/t.kind=6\/t.kind=7\/(t.kind<0\/7<t.kind)) with h | h | h | h | h | h | h | h | h
 ·exact right_row0 t ih h
 ·exact right_row1 t ih h
 ·exact right_not t ih h
 ·exact right_text3 t ih h
 ·exact right_text4 t ih h
 ·exact right_num5 t ih h
 ·exact right_num6 t ih h
 ·exact right_like t ih h
 ·exact right_else t ih h
end Go.Proofs.YtdjmckjbibfecaaGreatDoor.Sh

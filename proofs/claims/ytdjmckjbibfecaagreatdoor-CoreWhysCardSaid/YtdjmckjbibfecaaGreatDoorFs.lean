import Derived.Test.YtdjmckjbibfecaaGreatDoorFb
import Derived.Test.YtdjmckjbibfecaaGreatDoorFt
namespace Go.Proofs.YtdjmckjbibfecaaGreatDoor
open Go Go.RowKit Go.BigFrame Go.Maps
set_option maxRecDepth 100000
set_option maxHeartbeats 6400000
theorem ruled_snoc {needs:List Nd} {docs:List Pap} {a:Int} {d:Pap} {q:Nat} {x:Nd} (h:needs[q]?=some x):ruledF (needs.take (q+1)) docs a d=ruledF (needs.take q) docs a d++needR docs a d x:=flat_take _ h
theorem ruled_pre {needs:List Nd} {docs:List Pap} {a:Int} {d:Pap} (hF:FewParts needs) (q:Nat):(ruledF (needs.take q) docs a d).length<=720:=by
 have h1:=ruledF_len (docs:=docs) (a:=a) (d:=d) (needs.take q) (fun x hx=>hF.2 x (List.mem_of_mem_take hx))
 have h2:(needs.take q).length<=12:=by have:=hF.1;rw [List.length_take];omega
 omega
theorem ruled_any (C:Array Value) (nA:Option Addr) (nl nc:Nat) (needs:List Nd) (A:Option Addr) (nn cc:Nat) (docs:List Pap) (a:Nat) (d:Pap) (w:World) (hC17:Hid (C[17]?=some (.slice nA nl nc))) (hnl:Hid (needs.length=nl)) (hN:Hid (NdsAt w nA needs)) (hF:Hid (FewParts needs))
  (hSm:Hid (∀x∈needs,SmallT x.rule)) (hd:Hid (docs[a]?=some d)) (hR:Hid (Room w A nn docs)) :
  Calls Tryz.prog 114 #[.agg C,.slice A nn cc,.int .i64 a] w fun e w'=>∃v,e=.returned v/\w'.ownsRow w.heap.size 54 4 v (ruledF needs docs a d).length (fcells (ruledF needs docs a d))/\Bz w w':=by
 obtain ⟨i0,hi,hz0,hz1,hz2⟩:=info_parts Tryz.info54
 have halt:a<nn:=by have:=(gsZ.1 hd.out).1;have:=hR.out.len;omega
 have hmost:=hR.out.most
 have hnl12:nl<=12:=by have:=hF.out.1;have:=hnl.out;omega
 have hb0:=hdZ ((Below.refl _ w).alloc leZ (.cells C 46))
 have hbk:=hdZ (Blk.new w 46 C)
 obtain ⟨w0,hw0⟩:=nmZ (w.alloc (.cells C 46))
 have hs0:Hid (w0.heap.size=w.heap.size+1):=by unfold Hid;rw [<-hw0.out,World.size_alloc]
 rw [hw0.out] at hb0 hbk
 go_enter Tryz.func114,Tryz.ntmps114
 go_wp2_with fail
 rw [hw0.out]
 have hnew:=hdZ (own_new w0 54 4)
 go_loopg [7,8,9,10,11] nl (fun gg v i _ _ _ wr=>∃q:Nat,q<=nl/\gg=nl-q/\i=.int .i64 q/\Hid (wr.ownsRow (w.heap.size+1) 54 4 v (ruledF (needs.take q) docs a d).length (fcells (ruledF (needs.take q) docs a d)))/\Hid (Below (w.heap.size+1) w0 wr))
 case atStart=>exact ⟨0,Nat.zero_le _,by simp,rfl,by unfold Hid;have:=hnew.out;rw [hs0.out] at this;simpa [ruledF,fcells] using this,(Below.refl _ w0).alloc (by rw [hs0.out];exact Nat.le_refl _) _⟩
 case round =>
  obtain ⟨q,hq,hgo,rfl,hown,hB⟩:=hrel
  have hgo':=hdZ hgo
  clear hgo
  have hBw:Hid (Bz w wr):=hb0.out.trans (hB.out.mono (by omega))
  have hgb:Hid (w.heap.size+1<=wr.heap.size):=by have:=hB.out.size;have:=hs0.out;unfold Hid;omega
  have hbk1:=hdZ (hbk.out.below hB.out (by have:=hs0.out;omega))
  have c17:wr.cell? ⟨w.heap.size,17,none⟩=some (.slice nA nl nc):=(hbk1.out.cell 17).trans hC17.out
  by_cases hlt:q<nl
  ·obtain ⟨x,hx⟩:∃x,needs[q]?=some x:=⟨_,gZ (by have:=hnl.out;omega)⟩
   have hxm:=hdZ (mgZ hx)
   have hst:=hdZ (ruled_snoc (docs:=docs) (a:=(a:Int)) (d:=d) hx)
   have hpre:=hdZ (ruled_pre (docs:=docs) (a:=(a:Int)) (d:=d) hF.out q)
   obtain ⟨pre,hpr⟩:=nmZ (ruledF (needs.take q) docs a d)
   rw [hpr.out] at hst hown hpre
   have hsm:=hdZ (hSm.out x hxm.out)
   have h60:=hdZ (hF.out.2 x hxm.out)
   obtain ⟨_,hT,_,b,off,rfl,n0,_,n2⟩:=(hN.out.below hBw.out) q x hx
   obtain ⟨db,doff,eA,d0,_,_,_,_,_,_⟩:=(hR.out.at_.below hBw.out) a d hd.out
   subst eA
   have i1:(q:Int)<(nl:Int):=by omega
   have i2:(0:Int)<=(q:Int):=by omega
   have i3:(a:Int)<(nn:Int):=by omega
   have i4:(0:Int)<=(a:Int):=by omega
   by_cases hk:x.kind=d.kind
   ·have hb:(x.kind==d.kind)=true:=by simp [hk]
    have hne:=hdZ (needR_yes (docs:=docs) (a:=(a:Int)) hk)
    rw [hne.out] at hst
    clear hk
    obtain ⟨_,hT0,_⟩:=hN.out q x hx
    clear hx
    obtain ⟨xk,xc,t⟩:=x
    simp only at hb n0 n2 hT hT0 hsm h60 hst
    have hTr:=hdZ hT
    clear hT
    obtain ⟨pt,hpt⟩:=nmZ (partsT t)
    have hPT:Hid (∀u∈pt,TreeAt w u):=by unfold Hid;rw [<-hpt.out];exact parts_tree t hT0
    have hPS:Hid (∀u∈pt,SmallT u):=by unfold Hid;rw [<-hpt.out];exact parts_small hsm.out
    clear hT0
    rw [hpt.out] at hst h60
    obtain ⟨m,hm⟩:=nmZ (pt.length)
    rw [hm.out] at h60
    have hcl:Hid (∀W,Bz wr W->Calls Tryz.prog 118 #[.agg t.cells] W fun e w'=>∃v,e=.returned v/\Bz wr w'/\w'.ownsRow wr.heap.size 24 6 v m (tcells pt)):=fun W hW=>by
     have:=rparts_any t W (hTr.out.below hW) (by rw [hpt.out,hm.out];unfold Hid;have:=h60.out;omega)
     rw [hpt.out,hm.out] at this
     refine this.mono ?_
     rintro e w' ⟨v,rfl,h1,h2⟩
     exact ⟨v,rfl,hW.trans (h1.mono hW.size),own_mono_base h2 hW.size⟩
    obtain ⟨tk,tp,tf,tx,tn,tA,tc,tL⟩:=t
    obtain ⟨m0,m1,m2,m3,m4,m5⟩:=n2
    simp only [Tree.cells] at hcl
    have hm60:m<=60:=h60.out
    go_wp2_with fail
    go_quiet (fail)
    go_wp2_with fail
    refine (hcl.out _ (below_drewN (Below.refl _ _) _)).mono ?_
    rintro e w1 ⟨v1,rfl,hb1,ho1⟩
    obtain ⟨A1,c1,rfl⟩:=own_slice ho1
    have hB1:Hid (Below (w.heap.size+1) w0 w1):=hB.out.trans (hb1.mono hgb.out)
    have hown1:=hdZ (own_below hown.out hb1)
    have hp1:=hdZ ho1
    clear hb1 ho1 c17 n0 d0 hb m0 m1 m2 m3 m4 m5 hcl hown hbk1 hTr
    obtain ⟨wo,rfl⟩:∃wo:World,wo=wr:=⟨_,rfl⟩
    go_wp2_with fail
    go_loopg [7,10,11] m (fun gg v k _ wr=>∃r:Nat,r<=m/\gg=m-r/\k=.int .i64 r/\Hid (wr.ownsRow (w.heap.size+1) 54 4 v (pre++partF docs a d (pt.take r)).length (fcells (pre++partF docs a d (pt.take r))))/\Hid (Below (w.heap.size+1) w0 wr)/\Hid (wr.ownsRow wo.heap.size 24 6 (.slice A1 m c1) m (tcells pt)))
    case atStart=>exact ⟨0,Nat.zero_le _,by simp,rfl,by unfold Hid;simpa [partF] using hown1.out,hB1,hp1⟩
    case round =>
     clear hown1 hp1 hB1
     obtain ⟨r,hr,hgi,rfl,hownI,hBI,hpI⟩:=hrel
     have hgi':=hdZ hgi
     clear hgi
     have hBIw:Hid (Bz w wr):=hb0.out.trans (hBI.out.mono (by omega))
     by_cases hlr:r<m
     ·obtain ⟨u,hu⟩:∃u,pt[r]?=some u:=⟨_,gZ (by have:=hm.out;omega)⟩
      have hstI:Hid (partF docs a d (pt.take (r+1))=partF docs a d (pt.take r)++ruleF docs a d u):=flat_take _ hu
      have hTu:=hdZ (hPT.out u (mgZ hu))
      have hSu:=hdZ (hPS.out u (mgZ hu))
      obtain ⟨A1',c1',eA1,hcs⟩:=own_trees hpI.out hm.out
      obtain ⟨rfl,rfl⟩:A1=A1'/\c1=c1':=by simpa using eA1
      have hcu:=hcs r u hu
      clear hcs eA1 hu
      have hcall:Hid (∀W,Bz wr W->Calls Tryz.prog 56 #[.agg u.cells,.slice (some ⟨db,doff,none⟩) nn cc,.int .i64 a] W fun e w'=>e=.returned (.int .i64 (holdsT docs d u))/\Bz wr w'/\Bz W w'):=fun W hW=>by
       have hBW:Bz w W:=hBIw.out.trans (hW.mono hBIw.out.size)
       refine (stands_in _ nn cc docs a d hd.out u W hSu (hTu.out.below hBW) (hR.out.below hBW)).mono ?_
       rintro e w' ⟨rfl,h1⟩
       exact ⟨rfl,hW.trans (h1.mono hW.size),h1⟩
      have hrf:Hid (ruleF docs a d u=if holdsT docs d u=0 then [] else [⟨a,d.kind,if isAtomB u.kind then u.field else ⟨#[]⟩,if u.kind=7/\holdsT docs d u=2 then 3 else holdsT docs d u⟩]):=rfl
      obtain ⟨hv,hhv⟩:=nmZ (holdsT docs d u)
      rw [hhv.out] at hcall hrf
      obtain ⟨uk,up,uf,ux,un,uA,uc,uL⟩:=u
      obtain ⟨pb,po,rfl,p0,p1,p2,p3,p4,p5⟩:=hcu
      simp only [Tree.cells] at hcall
      simp only [Tree.kind,Tree.field] at hrf
      obtain ⟨db',doff',eA,d0,_,_,_,_,_,_⟩:=(hR.out.at_.below hBIw.out) a d hd.out
      obtain ⟨rfl,rfl⟩:db=db'/\doff=doff':=by simpa using eA
      clear eA
      have i5:(r:Int)<(m:Int):=by omega
      have i6:(0:Int)<=(r:Int):=by omega
      have hbp:pb<wr.heap.size:=World.block_lt_of_cell? wr _ p0
      have hbd:db<wr.heap.size:=World.block_lt_of_cell? wr _ d0
      have hS:Hid (∀W,Bz wr W->W.cell? ⟨db,doff+a*4,none⟩=some (.int .i64 d.kind)/\W.cell? ⟨pb,po+r*6,none⟩=some (.int .i64 uk)/\W.cell? ⟨pb,po+r*6+1,none⟩=some (.int .i64 up)/\W.cell? ⟨pb,po+r*6+2,none⟩=some (.string uf) /\
        W.cell? ⟨pb,po+r*6+3,none⟩=some (.string ux)/\W.cell? ⟨pb,po+r*6+4,none⟩=some (.int .i64 un)/\W.cell? ⟨pb,po+r*6+5,none⟩=some (.slice uA uL.length uc)):=fun W hW =>
       ⟨(hW.cell (p:=⟨db,_,none⟩) hbd).trans d0,(hW.cell (p:=⟨pb,_,none⟩) hbp).trans p0,(hW.cell (p:=⟨pb,_,none⟩) hbp).trans p1,(hW.cell (p:=⟨pb,_,none⟩) hbp).trans p2,(hW.cell (p:=⟨pb,_,none⟩) hbp).trans p3,(hW.cell (p:=⟨pb,_,none⟩) hbp).trans p4,(hW.cell (p:=⟨pb,_,none⟩) hbp).trans p5⟩
      clear p0 p1 p2 p3 p4 p5 d0
      go_upto_region 10 with fail
      go_simp
      go_cut [11] from 39 to 97 (fun p wx=>∃g,p=.pointer (some ⟨g,0,none⟩)/\wr.heap.size<=g/\Hid (Blk wx g 54 #[.int .i64 a,.int .i64 d.kind,.string ⟨#[]⟩,.int .i64 hv])/\Hid (Bz wr wx))
      case first =>
       go_region_held3 (fun W=>W.cell? ⟨db,doff+a*4,none⟩=some (.int .i64 d.kind)/\W.cell? ⟨pb,po+r*6,none⟩=some (.int .i64 uk)/\W.cell? ⟨pb,po+r*6+1,none⟩=some (.int .i64 up)/\W.cell? ⟨pb,po+r*6+2,none⟩=some (.string uf)/\W.cell? ⟨pb,po+r*6+3,none⟩=some (.string ux)/\W.cell? ⟨pb,po+r*6+4,none⟩=some (.int .i64 un)/\W.cell? ⟨pb,po+r*6+5,none⟩=some (.slice uA uL.length uc)) (((refine hS.out _ ?_);repeat' (first | with_reducible exact hB2 | with_reducible exact Below.refl _ _ | with_reducible refine Below.setCell ?_ ?_ _ | with_reducible refine Below.alloc ?_ ?_ _ | with_reducible refine Below.drew ?_ | exact hB2.size | exact Nat.le_refl _))) (first | (go_at_call 56;(with_reducible refine (hcall.out _ ?_).mono ?_);(first | exact (Below.refl _ _).drew | exact ((Below.refl _ _).alloc leZ _).drew);rintro e w2 ⟨rfl,hB2,hb2⟩;(first | (have zb:=(Blk.new wr 54 #[.int .i64 0,.int .i64 0,.string ⟨#[]⟩,.int .i64 0]).drew.below hb2 (by simp);have z0:=zb.cell 0;have z1:=zb.cell 1;have z2:=zb.cell 2;have z3:=zb.cell 3;have y0:=zb.frozen 0;have y1:=zb.frozen 1;have y2:=zb.frozen 2;have y3:=zb.frozen 3;simp only [List.getElem?_toArray,List.getElem?_cons_zero,List.getElem?_cons_succ] at z0 z1 z2 z3) | skip)))
       all_goals
        go_wp2_with fail
        go_meet
        case rel =>
         first
         | exact ⟨_,rfl,Nat.le_refl _,(((zb.set_ 0 _).set_ 1 _).set_ 2 _).set_ 3 _,(((hB2.setCell leZ _).setCell leZ _).setCell leZ _).setCell leZ _⟩
         | exact ⟨_,rfl,hB2.size,Blk.new w2 54 _,hB2.alloc hB2.size _⟩
      case rest =>
       obtain ⟨g,rfl,hgg,hF0,hBx⟩:=hcut
       have hownX:=hdZ (own_below hownI.out hBx.out)
       have hpX:=hdZ (own_below hpI.out hBx.out)
       have hBX:Hid (Below (w.heap.size+1) w0 wc):=hBI.out.trans (hBx.out.mono (by have:=hBI.out.size;have:=hs0.out;omega))
       obtain ⟨_,t0,t1,t2,t3,t4,t5⟩:=hS.out _ hBx.out
       clear t1 t3 t4 t5
       have f3:wc.cell? ⟨g,3,none⟩=some (.int .i64 hv):=hF0.out.cell 3
       by_cases hv0:hv=0
       ·have hz:Hid (ruleF docs a d (.mk uk up uf ux un uA uc uL)=[]):=by unfold Hid;rw [hrf.out,if_pos hv0]
        have b0:(hv==0)=true:=by simp [hv0]
        clear hv0
        go_wp2_with fail
        go_roundg (m-(r+1))
        case measure=>have:=hgi'.out;omega
        case rel=>exact ⟨r+1,by omega,rfl,by go_num,by rw [hstI.out,hz.out,List.append_nil];exact hownX.out,hBX,hpX⟩
       ·have hz0:Hid (ruleF docs a d (.mk uk up uf ux un uA uc uL)=[⟨a,d.kind,if isAtomB uk then uf else ⟨#[]⟩,if uk=7/\hv=2 then 3 else hv⟩]):=by unfold Hid;rw [hrf.out,if_neg hv0];rfl
        have b0:(hv==0)=false:=by simp [hv0]
        clear hv0 hrf
        have hgI:Hid (w.heap.size+1<=wr.heap.size):=by have:=hBI.out.size;have:=hs0.out;unfold Hid;omega
        obtain ⟨pl,hpl⟩:=nmZ (pre++partF docs a d (pt.take r))
        have hpll:pl.length<=780:=by
         have h1:=partF_len docs a d (pt.take r)
         have h2:(pt.take r).length<=60:=by rw [List.length_take];omega
         have h3:=hpre.out
         rw [<-hpl.out,List.length_append];omega
        have hq1:Hid (pl.length+1<=maxLen):=by unfold Hid maxLen;omega
        have hq2:Hid ((pl.length+1)*40<=140737488355328):=by unfold Hid;omega
        clear hpll
        rw [hpl.out] at hownI
        have f0:wc.cell? ⟨g,0,none⟩=some (.int .i64 a):=hF0.out.cell 0
        have f1:wc.cell? ⟨g,1,none⟩=some (.int .i64 d.kind):=hF0.out.cell 1
        have f2:wc.cell? ⟨g,2,none⟩=some (.string ⟨#[]⟩):=hF0.out.cell 2
        have y2:=hF0.out.frozen 2
        have y3:=hF0.out.frozen 3
        by_cases h3:3<=uk
        ·have b3:decide (3<=uk)=true:=by simp [h3]
         by_cases h7:uk<=7
         ·have b7:decide (uk<=7)=true:=by simp [h7]
          by_cases e7:uk=7
          ·have be:(uk==7)=true:=by simp [e7]
           by_cases h2:hv=2
           ·have b2:(hv==2)=true:=by simp [h2]
            have hz:Hid (ruleF docs a d (.mk uk up uf ux un uA uc uL)=[⟨a,d.kind,uf,3⟩]):=by unfold Hid;rw [hz0.out];simp [isAtomB,e7,h2]
            clear h3 h7 e7 h2 hz0
            go_upto_region 16 with fail
            obtain ⟨W,hW⟩:∃W:World,(wc.setCell ⟨g,2,none⟩ (.string uf)).setCell ⟨g,3,none⟩ (.int .i64 3)=W:=⟨_,rfl⟩
            rw [hW]
            have hF2:Hid (Blk W g 54 #[.int .i64 a,.int .i64 d.kind,.string uf,.int .i64 3]):=by unfold Hid;rw [<-hW];exact (hF0.out.set_ 2 _).set_ 3 _
            have hB2c:Hid (Bz wr W):=by unfold Hid;rw [<-hW];exact (hBx.out.setCell hgg _).setCell hgg _
            clear hW f0 f1 f2 f3 t0 y2 y3
            obtain ⟨g0,g1,g2,g3⟩:=cs4 hF2.out
            have hown9:=hdZ (own_below hownI.out hB2c.out)
            have hp9:=hdZ (own_below hpI.out hB2c.out)
            have hB9:Hid (Below (w.heap.size+1) w0 W):=hBI.out.trans (hB2c.out.mono hgI.out)
            have hg9:Hid (w.heap.size+1<=W.heap.size):=Nat.le_trans hgI.out hB2c.out.size
            go_wp2_with (at_builtin;(refine wpList_app3 (w.heap.size+1) rfl (.tmp 94) (.tmp 96) 47 rfl 54 i0 _ 4 40 Tryz.underlying47 hi hz0 hz1 hz2 rfl (by decide) _ pl.length (fcells pl) rfl W.heap.size 1 #[.int .i64 a,.int .i64 d.kind,.string uf,.int .i64 3] rfl (hown9.out.alloc _) (Blk.new W 54 _) rfl (fcell4 _ _ _ _) hq1.out hq2.out (Nat.le_trans hg9.out (by simp)) ?_);intro v5 w5 ho5 hb5 hg5;have ho5':=hdZ ho5;have hB5:Hid (Below (w.heap.size+1) w0 w5):=(hB9.out.alloc hg9.out _).trans hb5;have hq9:=own_apart (hp9.out.alloc (.cells #[.int .i64 a,.int .i64 d.kind,.string uf,.int .i64 3] 54)) (hown9.out.alloc (.cells #[.int .i64 a,.int .i64 d.kind,.string uf,.int .i64 3] 54)) (by decide);have hp5:=hdZ ((hp9.out.alloc (.cells #[.int .i64 a,.int .i64 d.kind,.string uf,.int .i64 3] 54)).kept hg5 hq9);clear ho5 hb5 hg5 hq9)
            go_roundg (m-(r+1))
            case measure=>have:=hgi'.out;omega
            case rel=>exact ⟨r+1,by omega,rfl,by go_num,by rw [hstI.out,hz.out,<-List.append_assoc,hpl.out,fcells_snoc,List.length_append];exact ho5'.out,hB5,hp5⟩
           ·have b2:(hv==2)=false:=by simp [h2]
            have hz:Hid (ruleF docs a d (.mk uk up uf ux un uA uc uL)=[⟨a,d.kind,uf,hv⟩]):=by unfold Hid;rw [hz0.out];simp [isAtomB,e7,h2]
            clear h3 h7 e7 h2 hz0
            go_upto_region 16 with fail
            obtain ⟨W,hW⟩:∃W:World,wc.setCell ⟨g,2,none⟩ (.string uf)=W:=⟨_,rfl⟩
            rw [hW]
            have hF2:Hid (Blk W g 54 #[.int .i64 a,.int .i64 d.kind,.string uf,.int .i64 hv]):=by unfold Hid;rw [<-hW];exact hF0.out.set_ 2 _
            have hB2c:Hid (Bz wr W):=by unfold Hid;rw [<-hW];exact hBx.out.setCell hgg _
            clear hW f0 f1 f2 f3 t0 y2 y3
            obtain ⟨g0,g1,g2,g3⟩:=cs4 hF2.out
            have hown9:=hdZ (own_below hownI.out hB2c.out)
            have hp9:=hdZ (own_below hpI.out hB2c.out)
            have hB9:Hid (Below (w.heap.size+1) w0 W):=hBI.out.trans (hB2c.out.mono hgI.out)
            have hg9:Hid (w.heap.size+1<=W.heap.size):=Nat.le_trans hgI.out hB2c.out.size
            go_wp2_with (at_builtin;(refine wpList_app3 (w.heap.size+1) rfl (.tmp 94) (.tmp 96) 47 rfl 54 i0 _ 4 40 Tryz.underlying47 hi hz0 hz1 hz2 rfl (by decide) _ pl.length (fcells pl) rfl W.heap.size 1 #[.int .i64 a,.int .i64 d.kind,.string uf,.int .i64 hv] rfl (hown9.out.alloc _) (Blk.new W 54 _) rfl (fcell4 _ _ _ _) hq1.out hq2.out (Nat.le_trans hg9.out (by simp)) ?_);intro v5 w5 ho5 hb5 hg5;have ho5':=hdZ ho5;have hB5:Hid (Below (w.heap.size+1) w0 w5):=(hB9.out.alloc hg9.out _).trans hb5;have hq9:=own_apart (hp9.out.alloc (.cells #[.int .i64 a,.int .i64 d.kind,.string uf,.int .i64 hv] 54)) (hown9.out.alloc (.cells #[.int .i64 a,.int .i64 d.kind,.string uf,.int .i64 hv] 54)) (by decide);have hp5:=hdZ ((hp9.out.alloc (.cells #[.int .i64 a,.int .i64 d.kind,.string uf,.int .i64 hv] 54)).kept hg5 hq9);clear ho5 hb5 hg5 hq9)
            go_roundg (m-(r+1))
            case measure=>have:=hgi'.out;omega
            case rel=>exact ⟨r+1,by omega,rfl,by go_num,by rw [hstI.out,hz.out,<-List.append_assoc,hpl.out,fcells_snoc,List.length_append];exact ho5'.out,hB5,hp5⟩
          ·have be:(uk==7)=false:=by simp [e7]
           have hz:Hid (ruleF docs a d (.mk uk up uf ux un uA uc uL)=[⟨a,d.kind,uf,hv⟩]):=by unfold Hid;rw [hz0.out];simp [isAtomB,h3,h7,e7]
           clear h3 h7 e7 hz0
           go_upto_region 16 with fail
           obtain ⟨W,hW⟩:∃W:World,wc.setCell ⟨g,2,none⟩ (.string uf)=W:=⟨_,rfl⟩
           rw [hW]
           have hF2:Hid (Blk W g 54 #[.int .i64 a,.int .i64 d.kind,.string uf,.int .i64 hv]):=by unfold Hid;rw [<-hW];exact hF0.out.set_ 2 _
           have hB2c:Hid (Bz wr W):=by unfold Hid;rw [<-hW];exact hBx.out.setCell hgg _
           clear hW f0 f1 f2 f3 t0 y2 y3
           obtain ⟨g0,g1,g2,g3⟩:=cs4 hF2.out
           have hown9:=hdZ (own_below hownI.out hB2c.out)
           have hp9:=hdZ (own_below hpI.out hB2c.out)
           have hB9:Hid (Below (w.heap.size+1) w0 W):=hBI.out.trans (hB2c.out.mono hgI.out)
           have hg9:Hid (w.heap.size+1<=W.heap.size):=Nat.le_trans hgI.out hB2c.out.size
           go_wp2_with (at_builtin;(refine wpList_app3 (w.heap.size+1) rfl (.tmp 94) (.tmp 96) 47 rfl 54 i0 _ 4 40 Tryz.underlying47 hi hz0 hz1 hz2 rfl (by decide) _ pl.length (fcells pl) rfl W.heap.size 1 #[.int .i64 a,.int .i64 d.kind,.string uf,.int .i64 hv] rfl (hown9.out.alloc _) (Blk.new W 54 _) rfl (fcell4 _ _ _ _) hq1.out hq2.out (Nat.le_trans hg9.out (by simp)) ?_);intro v5 w5 ho5 hb5 hg5;have ho5':=hdZ ho5;have hB5:Hid (Below (w.heap.size+1) w0 w5):=(hB9.out.alloc hg9.out _).trans hb5;have hq9:=own_apart (hp9.out.alloc (.cells #[.int .i64 a,.int .i64 d.kind,.string uf,.int .i64 hv] 54)) (hown9.out.alloc (.cells #[.int .i64 a,.int .i64 d.kind,.string uf,.int .i64 hv] 54)) (by decide);have hp5:=hdZ ((hp9.out.alloc (.cells #[.int .i64 a,.int .i64 d.kind,.string uf,.int .i64 hv] 54)).kept hg5 hq9);clear ho5 hb5 hg5 hq9)
           go_roundg (m-(r+1))
           case measure=>have:=hgi'.out;omega
           case rel=>exact ⟨r+1,by omega,rfl,by go_num,by rw [hstI.out,hz.out,<-List.append_assoc,hpl.out,fcells_snoc,List.length_append];exact ho5'.out,hB5,hp5⟩
         ·have b7:decide (uk<=7)=false:=by simp [h7]
          have be:(uk==7)=false:=by simp;omega
          have e7:¬uk=7:=by omega
          have hz:Hid (ruleF docs a d (.mk uk up uf ux un uA uc uL)=[⟨a,d.kind,⟨#[]⟩,hv⟩]):=by unfold Hid;rw [hz0.out];simp [isAtomB,h7,e7]
          clear h3 h7 e7 hz0
          go_upto_region 16 with fail
          obtain ⟨W,hW⟩:∃W:World,wc=W:=⟨_,rfl⟩
          rw [hW]
          have hF2:Hid (Blk W g 54 #[.int .i64 a,.int .i64 d.kind,.string ⟨#[]⟩,.int .i64 hv]):=by unfold Hid;rw [<-hW];exact hF0.out
          have hB2c:Hid (Bz wr W):=by unfold Hid;rw [<-hW];exact hBx.out
          clear hW f0 f1 f2 f3 t0 y2 y3
          obtain ⟨g0,g1,g2,g3⟩:=cs4 hF2.out
          have hown9:=hdZ (own_below hownI.out hB2c.out)
          have hp9:=hdZ (own_below hpI.out hB2c.out)
          have hB9:Hid (Below (w.heap.size+1) w0 W):=hBI.out.trans (hB2c.out.mono hgI.out)
          have hg9:Hid (w.heap.size+1<=W.heap.size):=Nat.le_trans hgI.out hB2c.out.size
          go_wp2_with (at_builtin;(refine wpList_app3 (w.heap.size+1) rfl (.tmp 94) (.tmp 96) 47 rfl 54 i0 _ 4 40 Tryz.underlying47 hi hz0 hz1 hz2 rfl (by decide) _ pl.length (fcells pl) rfl W.heap.size 1 #[.int .i64 a,.int .i64 d.kind,.string ⟨#[]⟩,.int .i64 hv] rfl (hown9.out.alloc _) (Blk.new W 54 _) rfl (fcell4 _ _ _ _) hq1.out hq2.out (Nat.le_trans hg9.out (by simp)) ?_);intro v5 w5 ho5 hb5 hg5;have ho5':=hdZ ho5;have hB5:Hid (Below (w.heap.size+1) w0 w5):=(hB9.out.alloc hg9.out _).trans hb5;have hq9:=own_apart (hp9.out.alloc (.cells #[.int .i64 a,.int .i64 d.kind,.string ⟨#[]⟩,.int .i64 hv] 54)) (hown9.out.alloc (.cells #[.int .i64 a,.int .i64 d.kind,.string ⟨#[]⟩,.int .i64 hv] 54)) (by decide);have hp5:=hdZ ((hp9.out.alloc (.cells #[.int .i64 a,.int .i64 d.kind,.string ⟨#[]⟩,.int .i64 hv] 54)).kept hg5 hq9);clear ho5 hb5 hg5 hq9)
          go_roundg (m-(r+1))
          case measure=>have:=hgi'.out;omega
          case rel=>exact ⟨r+1,by omega,rfl,by go_num,by rw [hstI.out,hz.out,<-List.append_assoc,hpl.out,fcells_snoc,List.length_append];exact ho5'.out,hB5,hp5⟩
        ·have b3:decide (3<=uk)=false:=by simp [h3]
         have be:(uk==7)=false:=by simp;omega
         have e7:¬uk=7:=by omega
         have hz:Hid (ruleF docs a d (.mk uk up uf ux un uA uc uL)=[⟨a,d.kind,⟨#[]⟩,hv⟩]):=by unfold Hid;rw [hz0.out];simp [isAtomB,h3,e7]
         clear h3 e7 hz0
         go_upto_region 16 with fail
         obtain ⟨W,hW⟩:∃W:World,wc=W:=⟨_,rfl⟩
         rw [hW]
         have hF2:Hid (Blk W g 54 #[.int .i64 a,.int .i64 d.kind,.string ⟨#[]⟩,.int .i64 hv]):=by unfold Hid;rw [<-hW];exact hF0.out
         have hB2c:Hid (Bz wr W):=by unfold Hid;rw [<-hW];exact hBx.out
         clear hW f0 f1 f2 f3 t0 y2 y3
         obtain ⟨g0,g1,g2,g3⟩:=cs4 hF2.out
         have hown9:=hdZ (own_below hownI.out hB2c.out)
         have hp9:=hdZ (own_below hpI.out hB2c.out)
         have hB9:Hid (Below (w.heap.size+1) w0 W):=hBI.out.trans (hB2c.out.mono hgI.out)
         have hg9:Hid (w.heap.size+1<=W.heap.size):=Nat.le_trans hgI.out hB2c.out.size
         go_wp2_with (at_builtin;(refine wpList_app3 (w.heap.size+1) rfl (.tmp 94) (.tmp 96) 47 rfl 54 i0 _ 4 40 Tryz.underlying47 hi hz0 hz1 hz2 rfl (by decide) _ pl.length (fcells pl) rfl W.heap.size 1 #[.int .i64 a,.int .i64 d.kind,.string ⟨#[]⟩,.int .i64 hv] rfl (hown9.out.alloc _) (Blk.new W 54 _) rfl (fcell4 _ _ _ _) hq1.out hq2.out (Nat.le_trans hg9.out (by simp)) ?_);intro v5 w5 ho5 hb5 hg5;have ho5':=hdZ ho5;have hB5:Hid (Below (w.heap.size+1) w0 w5):=(hB9.out.alloc hg9.out _).trans hb5;have hq9:=own_apart (hp9.out.alloc (.cells #[.int .i64 a,.int .i64 d.kind,.string ⟨#[]⟩,.int .i64 hv] 54)) (hown9.out.alloc (.cells #[.int .i64 a,.int .i64 d.kind,.string ⟨#[]⟩,.int .i64 hv] 54)) (by decide);have hp5:=hdZ ((hp9.out.alloc (.cells #[.int .i64 a,.int .i64 d.kind,.string ⟨#[]⟩,.int .i64 hv] 54)).kept hg5 hq9);clear ho5 hb5 hg5 hq9)
         go_roundg (m-(r+1))
         case measure=>have:=hgi'.out;omega
         case rel=>exact ⟨r+1,by omega,rfl,by go_num,by rw [hstI.out,hz.out,<-List.append_assoc,hpl.out,fcells_snoc,List.length_append];exact ho5'.out,hB5,hp5⟩
     ·have hfin:Hid (pt.take r=pt):=List.take_of_length_le (by have:=hm.out;omega)
      rw [hfin.out] at hownI
      go_wp2_with fail
      go_roundg (nl-(q+1))
      case measure=>have:=hgo'.out;omega
      case rel=>exact ⟨q+1,by omega,rfl,by go_num,by rw [hst.out];exact hownI,hBI⟩
   ·have hb:(x.kind==d.kind)=false:=by simp [hk]
    have hne:=hdZ (needR_no (docs:=docs) (a:=(a:Int)) hk)
    rw [hne.out,List.append_nil] at hst
    clear hk n2 hx
    go_wp2_with fail
    go_quiet (fail)
    clear c17 n0 d0
    go_wp2_with fail
    go_roundg (nl-(q+1))
    case measure=>have:=hgo'.out;omega
    case rel=>exact ⟨q+1,by omega,rfl,by go_num,by rw [hst.out];exact own_below hown.out (below_drewN (Below.refl _ _) _),below_drewN hB.out _⟩
  ·have hfin:Hid (needs.take q=needs):=List.take_of_length_le (by have:=hnl.out;omega)
   go_wp2_with fail
   go_ret
   refine ⟨_,rfl,?_,hBw.out⟩
   have:=hown.out
   rw [hfin.out] at this
   exact own_mono_base this (by omega)
end Go.Proofs.YtdjmckjbibfecaaGreatDoor

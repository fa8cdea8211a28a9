import Derived.Test.YtdjmckjbibfecaaGreatDoorCd
import Derived.Test.YtdjmckjbibfecaaGreatDoorZd
namespace Go.Proofs.YtdjmckjbibfecaaGreatDoor
open Go Go.RowKit Go.BigFrame Go.Maps
set_option maxRecDepth 100000
set_option maxHeartbeats 3200000
mutual
def sizeT:Tree->Int->Int
 | .mk _ _ f x _ _ _ L,most=>if most<=0 then 1 else sizeL L (1+(f.size:Int) / 200+(x.size:Int) / 200) most
def sizeL:List Tree->Int->Int->Int
 | [],k,_=>k
 | t::L,k,most=>if k<most then sizeL L (k+sizeT t (most-k)) most else k
end
def LongT:Tree->Prop:=allT fun t=>t.field.size<=9223372036854775807/\t.text.size<=9223372036854775807/\(-9223372036854775808<=t.num/\t.num<=9223372036854775807)
mutual
theorem sizeT_range:∀(t:Tree) (m:Int),LongT t->1<=sizeT t m/\(0<=m->sizeT t m<=m+92233720368547760)/\sizeT t m<=max m 0+92233720368547760
 | .mk k p f x n A c L,m,h=>by
  unfold LongT at h
  have h1:=allT_here h
  simp only [Tree.field,Tree.text] at h1
  obtain ⟨h1,h1x,_⟩:=h1
  rw [allT] at h
  rw [sizeT]
  by_cases hm:m<=0
  ·rw [if_pos hm];omega
  ·rw [if_neg hm]
   have:=sizeL_range L (1+(f.size:Int) / 200+(x.size:Int) / 200) m h.2 (by omega) (by omega) (by omega)
   omega
theorem sizeL_range:∀(L:List Tree) (k m:Int),allL (fun t=>t.field.size<=9223372036854775807/\t.text.size<=9223372036854775807/\(-9223372036854775808<=t.num/\t.num<=9223372036854775807)) L->1<=k->0<m->k<=m+92233720368547760->k<=sizeL L k m/\sizeL L k m<=m+92233720368547760
 | [],k,m,_,h1,h2,h3=>by rw [sizeL];omega
 | t::L,k,m,h,h1,h2,h3=>by
  rw [allL] at h
  rw [sizeL]
  by_cases hk:k<m
  ·rw [if_pos hk]
   have:=sizeT_range t (m-k) h.1
   have:=sizeL_range L (k+sizeT t (m-k)) m h.2 (by omega) h2 (by omega)
   omega
  ·rw [if_neg hk];omega
end
mutual
def wgtT:Tree->Int
 | .mk _ _ f x _ _ _ L=>1+(f.size:Int) / 200+(x.size:Int) / 200+wgtL L
def wgtL:List Tree->Int
 | []=>0
 | t::L=>wgtT t+wgtL L
end
mutual
theorem wgt_pos:∀t:Tree,1<=wgtT t
 | .mk _ _ f x _ _ _ L=>by rw [wgtT];have:=wgtL_pos L;omega
theorem wgtL_pos:∀L:List Tree,0<=wgtL L
 | []=>by rw [wgtL];omega
 | t::L=>by rw [wgtL];have:=wgt_pos t;have:=wgtL_pos L;omega
end
theorem sizeL_ge:∀(L:List Tree) (k m:Int),(∀t∈L,∀m,1<=sizeT t m)->k<=sizeL L k m
 | [],k,m,_=>by rw [sizeL];omega
 | t::L,k,m,h=>by
  rw [sizeL]
  split
  ·have:=sizeL_ge L (k+sizeT t (m-k)) m (fun u hu=>h u (by simp [hu]))
   have:=h t (by simp) (m-k)
   omega
  ·omega
theorem sizeT_one:∀(t:Tree) (m:Int),1<=sizeT t m:=by
 intro t
 refine Tree.every (Q:=fun t=>∀m,1<=sizeT t m) ?_ t
 intro t ih m
 obtain ⟨k,p,f,x,n,A,c,L⟩:=t
 rw [sizeT]
 split
 ·omega
 ·have:=sizeL_ge L (1+(f.size:Int) / 200+(x.size:Int) / 200) m ih
  omega
mutual
theorem size_wgt:∀(t:Tree) (m:Int),sizeT t m<m->sizeT t m=wgtT t
 | .mk k p f x n A c L,m,h=>by
  have h1:=sizeT_one (.mk k p f x n A c L) m
  have hm:¬m<=0:=by omega
  rw [sizeT,if_neg hm] at h ⊢
  rw [wgtT,sizeL_wgt L _ m h]
theorem sizeL_wgt:∀(L:List Tree) (k m:Int),sizeL L k m<m->sizeL L k m=k+wgtL L
 | [],k,m,_=>by rw [sizeL,wgtL];omega
 | t::L,k,m,h=>by
  have hge:=sizeL_ge (t::L) k m (fun u _=>sizeT_one u)
  rw [sizeL] at h hge ⊢
  have hk:k<m:=by split at hge<;>omega
  rw [if_pos hk] at h hge ⊢
  have hg2:=sizeL_ge L (k+sizeT t (m-k)) m (fun u _=>sizeT_one u)
  have e:=sizeL_wgt L _ m h
  rw [e,size_wgt t (m-k) (by omega),wgtL]
  omega
end
mutual
theorem wgt_all:∀(t:Tree) (r:Int),wgtT t<=r->allT (fun t=>(t.field.size:Int) / 200+(t.text.size:Int) / 200<r) t
 | .mk k p f x n A c L,r,h=>by
  rw [wgtT] at h
  have:=wgtL_pos L
  rw [allT]
  exact ⟨by show (f.size:Int) / 200+(x.size:Int) / 200<r;omega,wgtL_all L r (by omega)⟩
theorem wgtL_all:∀(L:List Tree) (r:Int),wgtL L<=r->allL (fun t=>(t.field.size:Int) / 200+(t.text.size:Int) / 200<r) L
 | [],r,_=>by rw [allL];trivial
 | t::L,r,h=>by
  rw [wgtL] at h
  have:=wgt_pos t
  have:=wgtL_pos L
  rw [allL]
  exact ⟨wgt_all t r (by omega),wgtL_all L r (by omega)⟩
end
theorem allT_mono {Q R:Tree->Prop} (h:∀t,Q t->R t):∀t:Tree,allT Q t->allT R t:=by
 intro t
 refine Tree.every (Q:=fun t=>allT Q t->allT R t) ?_ t
 intro t ih hq
 have h0:=allT_here hq
 have h1:=allT_sub hq
 obtain ⟨k,p,f,x,n,A,c,L⟩:=t
 rw [allT]
 exact ⟨h _ h0,allL_of fun u hu=>ih u hu (h1 u hu)⟩
theorem small_of_size {t:Tree} (h:sizeT t 200<=60):SmallT t:=by
 have e:=size_wgt t 200 (by omega)
 refine allT_mono (fun t h=>?_) t (wgt_all t 60 (by omega))
 show t.text.size<=4000000
 omega
theorem size_step {L:List Tree} {q:Nat} {t:Tree} {k m:Int} {r:Int} (h:r=sizeL (L.drop q) k m) (ht:L[q]?=some t) (hk:k<m):Hid (r=sizeL (L.drop (q+1)) (k+sizeT t (m-k)) m):=by
 obtain ⟨hq,he⟩:=gsZ.1 ht
 unfold Hid
 rw [h,List.drop_eq_getElem_cons hq,he,sizeL,if_pos hk]
theorem size_stop {L:List Tree} {q:Nat} {k m:Int} {r:Int} (h:r=sizeL (L.drop q) k m) (hk:m<=k):r=k:=by
 rw [h]
 cases L.drop q with
 | nil=>rw [sizeL]
 | cons t L=>rw [sizeL,if_neg (by omega)]
def SizeC (t:Tree):Prop:=∀(m:Int) (w:World),m<=1000->Hid (LongT t)->Hid (TreeAt w t)->Calls Tryz.prog 86 #[.agg t.cells,.int .i64 m] w fun e w'=>e=.returned (.int .i64 (sizeT t m))/\Bz w w'
theorem size_walk (t:Tree) (ih:Hid (∀u∈t.sub,SizeC u)):SizeC t:=by
 intro most w hmost hS hT
 have hSu:=hdZ (allT_sub hS.out)
 have hSx:=allT_here hS.out
 have hrT:=sizeT_range t most hS.out
 obtain ⟨k,p,f,x,n,A',c',L⟩:=t
 simp only [Tree.sub] at ih hSu
 simp only [Tree.cells]
 simp only [Tree.text,Tree.field] at hSx
 obtain ⟨hf,hx,_⟩:=hSx
 obtain ⟨m,hm⟩:=nmZ (L.length)
 rw [hm.out]
 have hrows:=hdZ (rows_sub hT.out).1
 have hml:m<=9223372036854775807:=by have:=(rows_sub hT.out).2;rw [hm.out] at this;unfold maxLen at this;exact this
 have hb0:Bz w (w.alloc (.cells #[.int .i64 k,.int .i64 p,.string f,.string x,.int .i64 n,.slice A' m c'] 24)):=(Below.refl _ w).alloc leZ _
 have hblk:=hdZ (Blk.new w 24 #[.int .i64 k,.int .i64 p,.string f,.string x,.int .i64 n,.slice A' m c'])
 have hb0':=hdZ hb0
 clear hb0 hrT
 by_cases hpos:most<=0
 ·have hz:Hid (sizeT (.mk k p f x n A' c' L) most=1):=by unfold Hid;rw [sizeT,if_pos hpos]
  go_enter Tryz.func86,Tryz.ntmps86
  go_wp2_with fail
  all_goals try (exfalso;omega)
  go_ret
  exact ⟨by rw [hz.out];rfl,hb0'.out⟩
 ·have hz:Hid (sizeT (.mk k p f x n A' c' L) most=sizeL L (1+(f.size:Int) / 200+(x.size:Int) / 200) most):=by unfold Hid;rw [sizeT,if_neg hpos]
  go_enter Tryz.func86,Tryz.ntmps86
  go_wp2_with fail
  go_loopw [6,5] (fun j s wr=>∃(q:Nat) (sv:Int),q<=m/\j=.int .i64 q/\s=.int .i64 sv/\(1<=sv/\sv<=92233720368548760)/\Hid (sizeT (.mk k p f x n A' c' L) most=sizeL (L.drop q) sv most)/\Hid (Bz w wr)/\Hid (Blk wr w.heap.size 24 #[.int .i64 k,.int .i64 p,.string f,.string x,.int .i64 n,.slice A' m c'])) (fun j _ _=>m-(intOf j).toNat)
  case atStart=>exact ⟨0,_,Nat.zero_le _,rfl,rfl,by omega,hz,hb0'.out,hblk.out⟩
  case round =>
   obtain ⟨q,sv,hk,rfl,rfl,⟨hs0,hs2⟩,hsame,hB,hbk⟩:=hrel
   have e5:=hbk.out.cell 5
   simp only [List.getElem?_toArray,List.getElem?_cons_zero,List.getElem?_cons_succ] at e5
   by_cases hlt:q<m
   ·by_cases hsm:sv<most
    ·obtain ⟨t,ht⟩:∃x,L[q]?=some x:=⟨_,gZ (by have:=hm.out;omega)⟩
     have hmem:=hdZ (mgZ ht)
     have ht':=hdZ ht
     clear ht
     obtain ⟨hc,hT⟩:=(hrows.out.below hB.out).get q t ht'.out
     have hT':=hdZ hT
     clear hT
     have hrg:=sizeT_range t (most-sv) (hSu.out _ hmem.out)
     have hst:=size_step hsame.out ht'.out hsm
     obtain ⟨tk,tp,tf,tx,tn,tA,tc,tL⟩:=t
     obtain ⟨b,off,rfl,h0,h1,h2,h3,h4,h5⟩:=hc
     rw [Nat.zero_add] at h0 h1 h2 h3 h4 h5
     have hrg0:=hdZ hrg
     clear hrg
     go_wp2_with fail
     all_goals try (exfalso;omega)
     refine (ih.out _ hmem.out _ _ (by omega) (hSu.out _ hmem.out) hT').mono ?_
     rintro e w1 ⟨rfl,hb2⟩
     have hB1:=btY hB hb2
     have hbk1:=kbY hbk hb2
     have hrg:=hrg0.out
     obtain ⟨r,hr⟩:=nmZ (sizeT (.mk tk tp tf tx tn tA tc tL) (most-sv))
     rw [hr.out] at hrg ⊢
     obtain ⟨hr0,hr2,_⟩:=hrg
     have hr3:=hr2 (by omega)
     clear hb2 e5 h0 h1 h2 h3 h4 h5 hr2
     go_wp2_with fail
     go_roundw
     case rel=>exact ⟨q+1,_,by omega,by go_num,rfl,by omega,by rw [<-hr.out];exact hst,hB1,hbk1⟩
     case measure=>simp [intOf];omega
    ·have hfin:=hdZ (size_stop hsame.out (by omega))
     go_wp2_with fail
     all_goals try (exfalso;omega)
     go_ret
     exact ⟨by rw [hfin.out];rfl,hB.out⟩
   ·have hfin:Hid (sizeT (.mk k p f x n A' c' L) most=sv):=by unfold Hid;rw [hsame.out,List.drop_eq_nil_of_le (by have:=hm.out;omega),sizeL]
    go_wp2_with fail
    all_goals try (exfalso;omega)
    go_ret
    exact ⟨by rw [hfin.out];rfl,hB.out⟩
theorem size_any:∀t:Tree,SizeC t:=Tree.every fun t ih=>size_walk t ih
structure Nd where
 kind:Int
 count:Int
 rule:Tree
def NdsAt (w:World) (A:Option Addr) (l:List Nd):Prop :=
 ∀(k:Nat) (x:Nd),l[k]?=some x->(-9223372036854775808<=x.kind/\x.kind<=9223372036854775807)/\TreeAt w x.rule/\LongT x.rule/\∃b off,A=some ⟨b,off,none⟩/\w.cell? ⟨b,off+k*8,none⟩=some (.int .i64 x.kind)/\w.cell? ⟨b,off+k*8+1,none⟩=some (.int .i64 x.count) /\
  match x.rule with
  | .mk k' p f x n A' c L=>w.cell? ⟨b,off+k*8+2,none⟩=some (.int .i64 k')/\w.cell? ⟨b,off+k*8+2+1,none⟩=some (.int .i64 p)/\w.cell? ⟨b,off+k*8+2+2,none⟩=some (.string f)/\w.cell? ⟨b,off+k*8+2+3,none⟩=some (.string x) /\
   w.cell? ⟨b,off+k*8+2+4,none⟩=some (.int .i64 n)/\w.cell? ⟨b,off+k*8+2+5,none⟩=some (.slice A' L.length c)
theorem NdsAt.below {w w':World} {A:Option Addr} {l:List Nd} (h:NdsAt w A l) (hb:Bz w w'):NdsAt w' A l:=by
 intro k x hk
 obtain ⟨hr,hT,hL,b,off,e,h0,h1,h2⟩:=h k x hk
 have hlt:b<w.heap.size:=World.block_lt_of_cell? w _ h0
 have hc:∀o,w'.cell? ⟨b,o,none⟩=w.cell? ⟨b,o,none⟩:=fun o=>hb.cell (p:=⟨b,o,none⟩) hlt
 refine ⟨hr,hT.below hb,hL,b,off,e,by rw [hc];exact h0,by rw [hc];exact h1,?_⟩
 obtain ⟨kd,ct,⟨tk,tp,tf,tx,tn,tA,tc,tL⟩⟩:=x
 simp only at h2 ⊢
 obtain ⟨g0,g1,g2,g3,g4,g5⟩:=h2
 exact ⟨by rw [hc];exact g0,by rw [hc];exact g1,by rw [hc];exact g2,by rw [hc];exact g3,by rw [hc];exact g4,by rw [hc];exact g5⟩
def ndsB (l:List Nd):Bool:=l.all fun x=>decide (sizeT x.rule 200<=60)
def fldsB (l:List Fld):Bool:=l.all fun x=>decide (x.name.size+x.value.size<=300)
def papsB (l:List Pap):Bool:=l.all fun x=>decide (x.fields.length<=30)&&fldsB x.fields
def fewB (needs:List Nd) (docs:List Pap):Bool:=decide (needs.length<=12)&&decide (docs.length<=12)&&ndsB needs&&papsB docs
theorem all_no {α:Type} {p:α->Bool} {l:List α} {k:Nat} {x:α} {r:Bool} (h:r=(l.drop k).all p) (hx:l[k]?=some x) (hp:p x=false):r=false:=by
 obtain ⟨hk,he⟩:=gsZ.1 hx
 rw [h,List.drop_eq_getElem_cons hk,he,List.all_cons,hp];rfl
theorem all_yes {α:Type} {p:α->Bool} {l:List α} {k:Nat} {x:α} {r:Bool} (h:r=(l.drop k).all p) (hx:l[k]?=some x) (hp:p x=true):Hid (r=(l.drop (k+1)).all p):=by
 obtain ⟨hk,he⟩:=gsZ.1 hx
 unfold Hid
 rw [h,List.drop_eq_getElem_cons hk,he,List.all_cons,hp];rfl
theorem all_end {α:Type} {p:α->Bool} {l:List α} {k:Nat} {r:Bool} (h:r=(l.drop k).all p) (hk:l.length<=k):r=true:=by
 rw [h,List.drop_eq_nil_of_le hk];rfl
def LongD (docs:List Pap):Prop:=∀d∈docs,∀f∈d.fields,f.name.size<=1000000000000000/\f.value.size<=1000000000000000
theorem below_drewN {B:Nat} {a w:World} (h:Below B a w) (n:Nat):Below B a (w.drewN n):=⟨h.os,h.tape,h.output,h.size,h.block⟩
theorem few_any (C:Array Value) (nA:Option Addr) (nl nc:Nat) (needs:List Nd) (A:Option Addr) (nn c:Nat) (docs:List Pap) (w:World) (_hC:Hid (C.size=18)) (hC17:C[17]?=some (.slice nA nl nc)) (hnl:Hid (needs.length=nl)) (hnn:Hid (docs.length=nn))
  (hml:nl<=maxLen) (hmn:nn<=maxLen) (hN:Hid (NdsAt w nA needs)) (hD:Hid (DocsAt w A docs)) (hLD:Hid (LongD docs)) :
  Calls Tryz.prog 37 #[.agg C,.slice A nn c] w fun e w'=>e=.returned (.bool (fewB needs docs))/\Bz w w':=by
 unfold maxLen at hml hmn
 have hb0:Bz w (w.alloc (.cells C 46)):=(Below.refl _ w).alloc leZ _
 have hblk:=hdZ (Blk.new w 46 C)
 have hb0':=hdZ hb0
 have hC':=hdZ hC17
 have c17:(w.alloc (.cells C 46)).cell? ⟨w.heap.size,17,none⟩=some (.slice nA nl nc):=by rw [hblk.out.cell];exact hC17
 clear hb0 hC17
 by_cases hbig:12<nl\/12<nn
 ·have hz:Hid (fewB needs docs=false):=by
   unfold Hid fewB
   rcases hbig with h | h
   ·rw [show decide (needs.length<=12)=false by simp;have:=hnl.out;omega];simp
   ·rw [show decide (docs.length<=12)=false by simp;have:=hnn.out;omega];simp
  rcases hbig with h | h
  ·go_enter Tryz.func37,Tryz.ntmps37
   go_wp2_with fail
   all_goals try (exfalso;omega)
   go_ret
   exact ⟨by rw [hz.out];rfl,hb0'.out⟩
  ·by_cases h2:12<nl
   all_goals
    go_enter Tryz.func37,Tryz.ntmps37
    go_wp2_with fail
    all_goals try (exfalso;omega)
    go_ret
    exact ⟨by rw [hz.out];rfl,hb0'.out⟩
 have hl12:decide (12<nl)=false:=by simp;omega
 have hn12:decide (12<nn)=false:=by simp;omega
 have hl12':decide ((12:Int)<(nl:Int))=false:=by simp;omega
 have hn12':decide ((12:Int)<(nn:Int))=false:=by simp;omega
 have hl:nl<=12:=by omega
 have hn:nn<=12:=by omega
 have hfew:Hid (fewB needs docs=(ndsB needs&&papsB docs)):=by
  unfold Hid fewB
  rw [show decide (needs.length<=12)=true by simp;have:=hnl.out;omega,show decide (docs.length<=12)=true by simp;have:=hnn.out;omega];simp
 clear hbig hml hmn
 go_enter Tryz.func37,Tryz.ntmps37
 go_wp2_with fail
 all_goals try (exfalso;omega)
 go_loopw [5] (fun j wr=>∃q:Nat,q<=nl/\j=.int .i64 q/\Hid (ndsB needs=(needs.drop q).all fun x=>decide (sizeT x.rule 200<=60))/\Hid (Bz w wr)/\Hid (Blk wr w.heap.size 46 C)) (fun j _=>nl-(intOf j).toNat)
 case atStart=>exact ⟨0,Nat.zero_le _,rfl,rfl,hb0'.out,hblk.out⟩
 case round =>
  obtain ⟨q,hq,rfl,hsame,hB,hbk⟩:=hrel
  have e17:wr.cell? ⟨w.heap.size,17,none⟩=some (.slice nA nl nc):=by rw [hbk.out.cell];exact hC'.out
  by_cases hlt:q<nl
  ·obtain ⟨x,hx⟩:∃x,needs[q]?=some x:=⟨_,gZ (by have:=hnl.out;omega)⟩
   have hx':=hdZ hx
   clear hx
   obtain ⟨_,hT,hLT,b,off,rfl,h0,h1,h2⟩:=(hN.out.below hB.out) q x hx'.out
   have hT':=hdZ hT
   have hLT':=hdZ hLT
   clear hT hLT
   obtain ⟨kd,ct,t⟩:=x
   have hst1:Hid (sizeT t 200<=60->Hid (ndsB needs=(needs.drop (q+1)).all fun x=>decide (sizeT x.rule 200<=60))):=fun h=>all_yes hsame.out hx'.out (by simpa using h)
   have hst2:Hid (¬sizeT t 200<=60->ndsB needs=false):=fun h=>all_no hsame.out hx'.out (by simpa using h)
   obtain ⟨tk,tp,tf,tx,tn,tA,tc,tL⟩:=t
   simp only at h0 h1 h2 hT' hLT'
   obtain ⟨g0,g1,g2,g3,g4,g5⟩:=h2
   go_wp2_with fail
   refine (size_any _ 200 _ (by omega) hLT' hT').mono ?_
   rintro e w1 ⟨rfl,hb1⟩
   have hB1:=btY hB hb1
   have hbk1:=kbY hbk hb1
   obtain ⟨r,hr⟩:=nmZ (sizeT (.mk tk tp tf tx tn tA tc tL) 200)
   rw [hr.out] at hst1 hst2 ⊢
   clear hb1 e17 h0 h1 g0 g1 g2 g3 g4 g5
   by_cases hr60:r<=60
   ·have hst:=hst1.out hr60
    go_wp2_with fail
    all_goals try (exfalso;omega)
    go_roundw
    case rel=>exact ⟨q+1,by omega,by go_num,hst,hB1,hbk1⟩
    case measure=>simp [intOf];omega
   ·have hst:=hdZ (hst2.out (by omega))
    go_wp2_with fail
    all_goals try (exfalso;omega)
    go_ret
    exact ⟨by rw [hfew.out,hst.out];rfl,hB1.out⟩
  ·have hnd:=hdZ (all_end hsame.out (by have:=hnl.out;omega))
   go_wp2_with fail
   all_goals try (exfalso;omega)
   obtain ⟨wo,rfl⟩:∃wo:World,wo=wr:=⟨_,rfl⟩
   go_loopw [6,7] (fun j j' wx=>∃q:Nat,q<=nn/\j=.int .i64 q/\Hid (papsB docs=(docs.drop q).all fun x=>decide (x.fields.length<=30)&&fldsB x.fields)/\Hid (Bz w wx)) (fun j _ _=>nn-(intOf j).toNat)
   case atStart=>exact ⟨0,Nat.zero_le _,rfl,rfl,hB⟩
   case round =>
    clear hB hbk e17 hsame hlt hq
    obtain ⟨wx,rfl⟩:∃wx:World,wx=wr:=⟨_,rfl⟩
    obtain ⟨q2,hq2,rfl,hsame,hB⟩:=hrel
    by_cases hlt:q2<nn
    ·obtain ⟨x,hx⟩:∃x,docs[q2]?=some x:=⟨_,gZ (by have:=hnn.out;omega)⟩
     have hx':=hdZ hx
     have hlong:=hdZ (hLD.out x (mgZ hx))
     clear hx
     obtain ⟨b,off,rfl,h0,h1,h2,h3,h4,h5,h6⟩:=(hD.out.below hB.out) q2 x hx'.out
     have hst1:Hid ((decide (x.fields.length<=30)&&fldsB x.fields)=true->Hid (papsB docs=(docs.drop (q2+1)).all fun x=>decide (x.fields.length<=30)&&fldsB x.fields)):=fun h=>all_yes hsame.out hx'.out h
     have hst2:Hid ((decide (x.fields.length<=30)&&fldsB x.fields)=false->papsB docs=false):=fun h=>all_no hsame.out hx'.out h
     obtain ⟨kd,nu,is,fA,fc,fs⟩:=x
     simp only at h0 h1 h2 h3 h4 h5 h6 hst1 hst2 hlong
     have h4':=hdZ h4
     clear h4 h0 h1 h2 h6
     obtain ⟨fm,hfm⟩:=nmZ (fs.length)
     rw [hfm.out] at h3 hst1 hst2 h5
     unfold maxLen at h5
     by_cases hf30:fm<=30
     ·rw [dtZ hf30,Bool.true_and] at hst1 hst2
      go_wp2_with fail
      all_goals try (exfalso;omega)
      go_loopw [7] (fun j wy=>∃q:Nat,q<=fm/\j=.int .i64 q/\Hid (fldsB fs=(fs.drop q).all fun x=>decide (x.name.size+x.value.size<=300))/\Hid (Bz wx wy)) (fun j _=>fm-(intOf j).toNat)
      case atStart=>exact ⟨0,Nat.zero_le _,rfl,rfl,Below.refl _ _⟩
      case round =>
       obtain ⟨wy,rfl⟩:∃wy:World,wy=wr:=⟨_,rfl⟩
       obtain ⟨q3,hq3,rfl,hsam3,hB3⟩:=hrel
       have hb:b<wx.heap.size:=World.block_lt_of_cell? wx _ h3
       have h3y:wy.cell? ⟨b,off+q2*4+3,none⟩=some (.slice fA fm fc):=by rw [hB3.out.cell hb];exact h3
       have hB':Hid (Bz w wy):=hB.out.trans (hB3.out.mono hB.out.size)
       by_cases hlt3:q3<fm
       ·obtain ⟨y,hy⟩:∃y,fs[q3]?=some y:=⟨_,gZ (by have:=hfm.out;omega)⟩
        have hy':=hdZ hy
        obtain ⟨hn1,hv1⟩:=hlong.out y (mgZ hy)
        clear hy
        obtain ⟨b',off',rfl,g0,g1⟩:=(h4'.out.below hB3.out) q3 y hy'.out
        have ys1:Hid (decide (y.name.size+y.value.size<=300)=true->Hid (fldsB fs=(fs.drop (q3+1)).all fun x=>decide (x.name.size+x.value.size<=300))):=fun h=>all_yes hsam3.out hy'.out h
        have ys2:Hid (decide (y.name.size+y.value.size<=300)=false->fldsB fs=false):=fun h=>all_no hsam3.out hy'.out h
        obtain ⟨nm,vl⟩:=y
        simp only at g0 g1 hn1 hv1 ys1 ys2
        clear h3
        have w1:IntKind.i64.wrap ((nm.size:Int)+(vl.size:Int))=(nm.size:Int)+(vl.size:Int):=IntWalk.i64_in _ (by omega)
        by_cases h300:nm.size+vl.size<=300
        ·have hst:=ys1.out (by simpa using h300)
         go_wp2_with fail
         go_quiet (fail)
         have hst':=hdZ hst.out
         clear hst w1
         go_wp2_with fail
         all_goals try (exfalso;omega)
         go_roundw
         case rel=>exact ⟨q3+1,by omega,by go_num,hst'.out,below_drewN hB3.out _⟩
         case measure=>simp [intOf];omega
        ·have hst:=hdZ (hst2.out (ys2.out (by simpa using h300)))
         go_wp2_with fail
         go_quiet (fail)
         clear w1
         go_wp2_with fail
         all_goals try (exfalso;omega)
         go_ret
         exact ⟨by rw [hfew.out,hnd.out,hst.out];rfl,below_drewN hB'.out _⟩
       ·have hst:=hst1.out (all_end hsam3.out (by have:=hfm.out;omega))
        go_wp2_with fail
        all_goals try (exfalso;omega)
        go_roundw
        case rel=>exact ⟨q2+1,by omega,by go_num,hst,hB'⟩
        case measure=>simp [intOf];omega
     ·have hst:=hdZ (hst2.out (by simp [hf30]))
      go_wp2_with fail
      all_goals try (exfalso;omega)
      go_ret
      exact ⟨by rw [hfew.out,hnd.out,hst.out];rfl,hB.out⟩
    ·have hpd:=hdZ (all_end hsame.out (by have:=hnn.out;omega))
     go_wp2_with fail
     all_goals try (exfalso;omega)
     go_ret
     exact ⟨by rw [hfew.out,hnd.out,hpd.out];rfl,hB.out⟩
def standsA (docs:List Pap) (t:Tree) (a:Int):Int:=match (if 0<=a then docs[a.toNat]? else none) with | some d=>holdsT docs d t | none=>1
theorem standsA_in {docs:List Pap} {t:Tree} {a:Nat} {d:Pap} (h:docs[a]?=some d):standsA docs t (a:Int)=holdsT docs d t:=by
 unfold standsA;rw [if_pos (by omega)];simp [h]
theorem standsA_out {docs:List Pap} {t:Tree} {a:Int} (h:a<0\/(docs.length:Int)<=a):standsA docs t a=1:=by
 unfold standsA
 split
 ·rename_i d hd
  split at hd
  ·have:=(gsZ.1 hd).1
   omega
  ·cases hd
 ·rfl
theorem holds_out (A:Option Addr) (nn c:Nat) (a:Int) (t:Tree) (w:World) (_hnn:nn<=1000) (h:a<0\/(nn:Int)<=a) :
  Calls Tryz.prog 17 #[.agg t.cells,.slice A nn c,.int .i64 a] w fun e w'=>e=.returned (.int .i64 1)/\Bz w w':=by
 obtain ⟨k,p,f,x,n,A',c',L⟩:=t
 simp only [Tree.cells]
 obtain ⟨m,hm⟩:=nmZ (L.length)
 rw [hm.out]
 have hb0:=hdZ ((Below.refl _ w).alloc leZ (.cells #[.int .i64 k,.int .i64 p,.string f,.string x,.int .i64 n,.slice A' m c'] 24))
 by_cases h0:a<0
 all_goals
  go_enter Tryz.func17,Tryz.ntmps17
  go_wp2_with fail
  all_goals try (exfalso;omega)
  go_ret
  exact ⟨rfl,hb0.out⟩
theorem holds_any (A:Option Addr) (nn c:Nat) (docs:List Pap) (a:Int) (t:Tree) (w:World) (hT:TreeAt w t) (hR:Room w A nn docs) :
  Calls Tryz.prog 17 #[.agg t.cells,.slice A nn c,.int .i64 a] w fun e w'=>e=.returned (.int .i64 (standsA docs t a))/\Bz w w':=by
 by_cases h:a<0\/(nn:Int)<=a
 ·rw [standsA_out (by rw [hR.len];exact h)]
  exact holds_out A nn c a t w hR.most h
 ·obtain ⟨m,rfl⟩:∃m:Nat,a=m:=⟨a.toNat,by omega⟩
  obtain ⟨d,hd⟩:∃d,docs[m]?=some d:=⟨_,gZ (by have:=hR.len;omega)⟩
  rw [standsA_in hd]
  exact holds_in A nn c docs m d hd t w hT hR
theorem few_docs {needs:List Nd} {docs:List Pap} (h:fewB needs docs=true):needs.length<=12/\docs.length<=12/\SmallD docs/\∀x∈needs,sizeT x.rule 200<=60:=by
 unfold fewB at h
 simp only [Bool.and_eq_true,decide_eq_true_eq] at h
 refine ⟨h.1.1.1,h.1.1.2,fun d hd f hf=>?_,fun x hx=>?_⟩
 ·have:=List.all_eq_true.1 h.2 d hd
  simp only [Bool.and_eq_true,decide_eq_true_eq] at this
  have:=List.all_eq_true.1 this.2 f hf
  simp only [decide_eq_true_eq] at this
  omega
 ·have:=List.all_eq_true.1 h.1.2 x hx
  simpa using this
open Go
mutual
theorem atoms_wgt:∀t:Tree,((atomsT t).length:Int)<=wgtT t
 | .mk k p f x n A c L=>by
  rw [atomsT,wgtT]
  have h:=atomsL_wgt L
  have h0:=wgtL_pos L
  split
  ·simp only [List.length_cons,List.length_nil];omega
  ·split
   ·omega
   ·simp only [List.length_nil];omega
theorem atomsL_wgt:∀L:List Tree,((atomsL L).length:Int)<=wgtL L
 | []=>by rw [atomsL,wgtL];exact Int.le_refl _
 | t::L=>by
  rw [atomsL,wgtL,List.length_append]
  have h:=atoms_wgt t
  have h2:=atomsL_wgt L
  omega
end
mutual
theorem atoms_at {w:World}:∀{t:Tree},TreeAt w t->∀a∈atomsT t,TreeAt w a
 | .mk k p f x n A c L,h,a,ha=>by
  rw [atomsT] at ha
  split at ha
  ·obtain rfl:=List.mem_singleton.1 ha;exact h
  ·split at ha
   ·rw [TreeAt] at h;exact atomsL_at h.1 a ha
   ·cases ha
theorem atomsL_at {w:World}:∀{A:Option Addr} {j:Nat} {L:List Tree},RowsAt w A j L->∀a∈atomsL L,TreeAt w a
 | _,_,[],_,a,ha=>by rw [atomsL] at ha;cases ha
 | _,_,t::L,h,a,ha=>by
  rw [RowsAt] at h
  rw [atomsL] at ha
  rcases List.mem_append.1 ha with ha | ha
  ·exact atoms_at h.2.1 a ha
  ·exact atomsL_at h.2.2 a ha
end
mutual
theorem holds_eval {docs:List Pap} {d:Pap} {s:Nat->Int}:∀(t:Tree) (j:Nat),(∀i a,(atomsT t)[i]?=some a->s (j+i)=holdsT docs d a)->(evalT s t j).1=holdsT docs d t
 | .mk k p f x n A c L,j,hs=>by
  rw [atomsT] at hs
  rw [evalT]
  by_cases h:3<=k/\k<=7
  ·rw [if_pos h]
   rw [if_pos h] at hs
   exact hs 0 _ rfl
  rw [if_neg h] at hs ⊢
  rw [holdsT]
  by_cases h3:0<=k/\k<=2
  ·rw [if_pos h3] at hs
   have hg:=great_eval L j 0 hs
   have hl:=least_eval L j 2 hs
   by_cases h0:k=0
   ·rw [if_pos h0,if_pos h0];exact hg
   rw [if_neg h0,if_neg h0]
   by_cases h1:k=1
   ·rw [if_pos h1,if_pos h1];exact hl
   rw [if_neg h1,if_neg h1,if_pos (by omega),if_pos (by omega)]
   show 2-_=_
   rw [hg]
  ·rw [if_neg (by omega),if_neg (by omega),if_neg (by omega),if_neg (by omega),if_neg (by omega),if_neg (by omega),if_neg h]
theorem great_eval {docs:List Pap} {d:Pap} {s:Nat->Int}:∀(L:List Tree) (j:Nat) (a:Int),(∀i u,(atomsL L)[i]?=some u->s (j+i)=holdsT docs d u)->(greatE s L j a).1=greatT docs d L a
 | [],j,a,_=>by rw [greatE,greatT]
 | t::L,j,a,hs=>by
  rw [atomsL] at hs
  rw [greatE,greatT,evalT_next,holds_eval t j (fun i u hi=>hs i u (by rw [List.getElem?_append_left (gsZ.1 hi).1];exact hi))]
  refine great_eval L _ _ (fun i u hi=>?_)
  rw [Nat.add_assoc]
  exact hs _ u (by rw [List.getElem?_append_right (by omega),show (atomsT t).length+i-(atomsT t).length=i by omega];exact hi)
theorem least_eval {docs:List Pap} {d:Pap} {s:Nat->Int}:∀(L:List Tree) (j:Nat) (a:Int),(∀i u,(atomsL L)[i]?=some u->s (j+i)=holdsT docs d u)->(leastE s L j a).1=leastT docs d L a
 | [],j,a,_=>by rw [leastE,leastT]
 | t::L,j,a,hs=>by
  rw [atomsL] at hs
  rw [leastE,leastT,evalT_next,holds_eval t j (fun i u hi=>hs i u (by rw [List.getElem?_append_left (gsZ.1 hi).1];exact hi))]
  refine least_eval L _ _ (fun i u hi=>?_)
  rw [Nat.add_assoc]
  exact hs _ u (by rw [List.getElem?_append_right (by omega),show (atomsT t).length+i-(atomsT t).length=i by omega];exact hi)
end
end Go.Proofs.YtdjmckjbibfecaaGreatDoor

import Derived.Test.YtdjmckjbibfecaaGreatDoorEd
import Derived.Test.YtdjmckjbibfecaaGreatDoorFb
import Derived.Test.YtdjmckjbibfecaaGreatDoorWb
namespace Go.Proofs.YtdjmckjbibfecaaGreatDoor
open Go Go.RowKit Go.BigFrame Go.Maps
set_option maxRecDepth 100000
set_option maxHeartbeats 3200000
def tcells (l:List Tree):List Value:=l.flatMap fun t=>t.cells.toList
theorem Tree.cells_len (t:Tree):t.cells.toList.length=6:=by obtain ⟨a,b,d,e,f,g,h,i⟩:=t;simp [Tree.cells]
theorem tcells_app (l m:List Tree):tcells (l++m)=tcells l++tcells m:=by simp [tcells]
theorem tcells_one (l:List Tree):∀u∈tcells l,u.oneCell'=true:=by
 intro u hu
 obtain ⟨x,_,hx⟩:=List.mem_flatMap.1 hu
 obtain ⟨a,b,d,e,f,g,h,i⟩:=x
 simp [Tree.cells] at hx
 rcases hx with rfl | rfl | rfl | rfl | rfl | rfl<;>rfl
theorem tcells_get:∀(l:List Tree) (k:Nat) (x:Tree),l[k]?=some x->∀i,i<6->(tcells l)[k*6+i]?=x.cells.toList[i]?
 | [],k,x,h,i,hi=>by simp at h
 | y::l,0,x,h,i,hi=>by
  simp only [List.getElem?_cons_zero,Option.some.injEq] at h;subst h
  show (y.cells.toList++tcells l)[0*6+i]?=_
  rw [Nat.zero_mul,Nat.zero_add,List.getElem?_append_left (by rw [Tree.cells_len];exact hi)]
 | y::l,k+1,x,h,i,hi=>by
  have ih:=tcells_get l k x (by simpa using h) i hi
  show (y.cells.toList++tcells l)[(k+1)*6+i]?=_
  rw [List.getElem?_append_right (by rw [Tree.cells_len];omega),Tree.cells_len,show (k+1)*6+i-6=k*6+i by omega]
  exact ih
theorem partsL_app:∀(L M:List Tree),partsL (L++M)=partsL L++partsL M
 | [],M=>by rw [partsL];rfl
 | t::L,M=>by show partsL (t::(L++M))=_;rw [partsL,partsL,partsL_app L M,List.append_assoc]
theorem partsL_step {L:List Tree} {q:Nat} {t:Tree} (ht:L[q]?=some t):partsL (L.take (q+1))=partsL (L.take q)++partsT t:=by
 rw [List.take_add_one,ht,partsL_app]
 refine congrArg _ ?_
 show partsL [t]=_
 rw [partsL,partsL,List.append_nil]
theorem rpartsL_len {L:List Tree} {q:Nat} {t:Tree} (ht:L[q]?=some t):(partsL (L.take q)).length+(partsT t).length<=(partsL L).length:=by
 have h:=partsL_app (L.take (q+1)) (L.drop (q+1))
 rw [List.take_append_drop,partsL_step ht] at h
 rw [h,List.length_append,List.length_append];omega
theorem own_trees {w:World} {base n:Nat} {v:Value} {l:List Tree} (h:w.ownsRow base 24 6 v n (tcells l)) (hl:l.length=n):∃A c,v=.slice A n c/\∀r t,l[r]?=some t->CellsAt w A r t:=by
 rcases h.2 with ⟨rfl,rfl⟩ | ⟨g,cap,cur,rfl,_⟩
 ·have:l=[]:=List.eq_nil_of_length_eq_zero hl
  subst this
  exact ⟨_,_,rfl,by intro k x hk;simp at hk⟩
 ·refine ⟨_,_,rfl,fun r t ht=>?_⟩
  have hc:∀i,i<6->∀u,t.cells.toList[i]?=some u->w.cell? ⟨g,0+r*6+i,none⟩=some u:=fun i hi u hu=>by
   have:=h.cells (g:=g) rfl (r*6+i) u (by rw [tcells_get l r t ht i hi];exact hu)
   rwa [show Addr.add ⟨g,0,none⟩ (r*6+i)=⟨g,0+r*6+i,none⟩ by unfold Addr.add;split<;>simp_all] at this
  obtain ⟨tk,tp,tf,tx,tn,tA,tc,tL⟩:=t
  exact ⟨g,0,rfl,hc 0 (by omega) _ rfl,hc 1 (by omega) _ rfl,hc 2 (by omega) _ rfl,hc 3 (by omega) _ rfl,hc 4 (by omega) _ rfl,hc 5 (by omega) _ rfl⟩
def RPartsC (t:Tree):Prop:=∀w:World,Hid (TreeAt w t)->Hid ((partsT t).length<=1000) ->
 Calls Tryz.prog 118 #[.agg t.cells] w fun e w'=>∃v,e=.returned v/\Bz w w'/\w'.ownsRow w.heap.size 24 6 v (partsT t).length (tcells (partsT t))
theorem rparts_walk (t:Tree) (ih:Hid (∀u∈t.sub,RPartsC u)):RPartsC t:=by
 intro w hT hP
 obtain ⟨i0,hi,hz0,hz1,hz2⟩:=info_parts Tryz.info24
 obtain ⟨k,p,f,x,n,A',c',L⟩:=t
 simp only [Tree.sub] at ih
 obtain ⟨m,hm⟩:=nmZ (L.length)
 have hrows:=hdZ (rows_sub hT.out).1
 have hml:m<=9223372036854775807:=by have:=(rows_sub hT.out).2;rw [hm.out] at this;unfold maxLen at this;exact this
 have hb0:=hdZ ((Below.refl _ w).alloc leZ (.cells #[.int .i64 k,.int .i64 p,.string f,.string x,.int .i64 n,.slice A' m c'] 24))
 have hblk:=hdZ (Blk.new w 24 #[.int .i64 k,.int .i64 p,.string f,.string x,.int .i64 n,.slice A' m c'])
 by_cases hk:k=0
 ·have hz:Hid (partsT (.mk k p f x n A' c' L)=partsL L):=by unfold Hid;rw [partsT,if_pos hk]
  rw [hz.out] at hP ⊢
  subst hk
  simp only [Tree.cells]
  rw [hm.out]
  obtain ⟨w0,hw0⟩:∃w0:World,Hid (w.alloc (.cells #[.int .i64 0,.int .i64 p,.string f,.string x,.int .i64 n,.slice A' m c'] 24)=w0):=⟨_,rfl⟩
  have hs0:w0.heap.size=w.heap.size+1:=by rw [<-hw0.out,World.size_alloc]
  rw [hw0.out] at hb0 hblk
  go_enter Tryz.func118,Tryz.ntmps118
  go_wp2_with fail
  rw [hw0.out]
  have hnew:=hdZ (own_new w0 24 6)
  go_loopw [3,4] (fun v j wr=>∃q:Nat,q<=m/\j=.int .i64 q/\Hid (wr.ownsRow (w.heap.size+1) 24 6 v (partsL (L.take q)).length (tcells (partsL (L.take q))))/\Hid (Below (w.heap.size+1) w0 wr)) (fun _ j _=>m-(intOf j).toNat)
  case atStart=>exact ⟨0,Nat.zero_le _,rfl,by unfold Hid;have:=hnew.out;rw [hs0] at this;simpa [partsL,tcells] using this,(Below.refl _ w0).alloc (by omega) _⟩
  case round =>
   obtain ⟨q,hq,rfl,hown,hB⟩:=hrel
   have hbk:=hdZ (hblk.out.below hB.out (by omega))
   have e5:=hbk.out.cell 5
   simp only [List.getElem?_toArray,List.getElem?_cons_zero,List.getElem?_cons_succ] at e5
   have hBw:Hid (Bz w wr):=hb0.out.trans (hB.out.mono (by omega))
   by_cases hlt:q<m
   ·obtain ⟨t,ht⟩:∃x,L[q]?=some x:=⟨_,gZ (by have:=hm.out;omega)⟩
    have hmem:=hdZ (mgZ ht)
    have hst:=hdZ (partsL_step ht)
    have hle:=hdZ (rpartsL_len ht)
    obtain ⟨hc,hT1⟩:=(hrows.out.below hBw.out).get q t ht
    have hT':=hdZ hT1
    clear ht hT1
    have hcl:=hdZ (ih.out _ hmem.out wr hT'.out (by have:=hle.out;have:=hP.out;unfold Hid;omega))
    obtain ⟨pt,hpt⟩:=nmZ (partsT t)
    rw [hpt.out] at hst hle hcl
    obtain ⟨pl,hpl⟩:=nmZ (partsL (L.take q))
    rw [hpl.out] at hst hle hown
    obtain ⟨tk,tp,tf,tx,tn,tA,tc,tL⟩:=t
    obtain ⟨b,off,rfl,h0,h1,h2,h3,h4,h5⟩:=hc
    rw [Nat.zero_add] at h0 h1 h2 h3 h4 h5
    go_wp2_with fail
    refine hcl.out.mono ?_
    rintro e w1 ⟨v1,rfl,hb2,ho1⟩
    obtain ⟨A1,c1,rfl⟩:=own_slice ho1
    have hr1:=hdZ (Reads.of_own ho1)
    have hB1:Hid (Below (w.heap.size+1) w0 w1):=hB.out.trans (hb2.mono (by have:=hB.out.size;omega))
    have hown1:=hdZ (own_below hown.out hb2)
    have hone:=hdZ (tcells_one pt)
    have h63:Hid (pl.length+pt.length<=maxLen):=by have:=hle.out;have:=hP.out;unfold Hid maxLen;omega
    have hby:Hid ((pl.length+pt.length)*80<=140737488355328):=by have:=hle.out;have:=hP.out;unfold Hid;omega
    have hgb:Hid (w.heap.size+1<=w1.heap.size):=by have:=hB1.out.size;unfold Hid;omega
    clear hb2 e5 h0 h1 h2 h3 h4 h5
    go_wp2_with (at_builtin;(refine wpList_append_any _ rfl (.tmp 18) (.tmp 24) 22 rfl (w.heap.size+1) 24 i0 _ 6 80 Tryz.underlying22 hi hz0 hz1 hz2 rfl (by decide) _ pl.length (tcells pl) rfl hown1.out w1.heap.size A1 pt.length c1 (tcells pt) rfl hr1.out hone.out h63.out hby.out hgb.out ?_);intro v4 w4 ho4 hg4 hv4;have ho4':=hdZ ho4;have hB4:Hid (Below (w.heap.size+1) w0 w4):=(hB1.out.grown hg4 hgb.out (fun k hk=>(hown1.out.lt k hk).1));clear ho4 hg4 hv4)
    go_roundw
    case rel=>exact ⟨q+1,by omega,by go_num,by rw [hst.out,tcells_app,List.length_append];exact ho4',hB4⟩
    case measure=>simp [intOf];omega
   ·have hfin:Hid (L.take q=L):=List.take_of_length_le (by have:=hm.out;omega)
    go_wp2_with fail
    go_ret
    refine ⟨_,rfl,hBw.out,?_⟩
    have:=hown.out
    rw [hfin.out] at this
    exact own_mono_base this (by omega)
 ·have hz:Hid (partsT (.mk k p f x n A' c' L)=[.mk k p f x n A' c' L]):=by unfold Hid;rw [partsT,if_neg hk]
  rw [hz.out]
  have hlit:=hdZ (World.ownsRow_lit (w.alloc (.cells #[.int .i64 k,.int .i64 p,.string f,.string x,.int .i64 n,.slice A' m c'] 24)) #[.int .i64 k,.int .i64 p,.string f,.string x,.int .i64 n,.slice A' m c'] 1 (base:=w.heap.size) (e:=24) (size:=6) (by simp) (by unfold maxLen;omega) rfl)
  have hB1:=hdZ (hb0.out.alloc (by simp) (.cells #[.int .i64 k,.int .i64 p,.string f,.string x,.int .i64 n,.slice A' m c'] 24))
  simp only [Tree.cells]
  rw [hm.out]
  go_enter Tryz.func118,Tryz.ntmps118
  go_wp2_with fail
  go_ret
  refine ⟨_,rfl,hB1.out,?_⟩
  have:=hlit.out
  simpa [tcells,Tree.cells,hm.out] using this
theorem rparts_any:∀t:Tree,RPartsC t:=Tree.every fun t ih=>rparts_walk t ih
theorem asked_step {needs:List Nd} {q:Nat} {x:Nd} {k:Int} {r:Bool} (h:r=askedB (needs.drop q) k) (hx:needs[q]?=some x):r=(decide (x.kind=k)||askedB (needs.drop (q+1)) k):=by
 obtain ⟨hq,he⟩:=gsZ.1 hx
 rw [h,List.drop_eq_getElem_cons hq,he];simp [askedB]
theorem asked_any (C:Array Value) (nA:Option Addr) (nl nc:Nat) (needs:List Nd) (k:Int) (w:World) (hC17:Hid (C[17]?=some (.slice nA nl nc))) (hnl:Hid (needs.length=nl)) (hml:nl<=maxLen) (hN:Hid (NdsAt w nA needs)) :
  Calls Tryz.prog 112 #[.agg C,.int .i64 k] w fun e w'=>e=.returned (.bool (askedB needs k))/\Bz w w':=by
 unfold maxLen at hml
 have hb0:=hdZ ((Below.refl _ w).alloc leZ (.cells C 46))
 have hbk:=hdZ (Blk.new w 46 C)
 have c17:(w.alloc (.cells C 46)).cell? ⟨w.heap.size,17,none⟩=some (.slice nA nl nc):=(hbk.out.cell 17).trans hC17.out
 have hN0:=hdZ (hN.out.below hb0.out)
 go_enter Tryz.func112,Tryz.ntmps112
 go_wp2_with fail
 go_loopw [5] (fun i wr=>∃q:Nat,q<=nl/\i=.int .i64 q/\(w.alloc (.cells C 46))=wr/\Hid (askedB needs k=askedB (needs.drop q) k)) (fun i _=>nl-(intOf i).toNat)
 case atStart=>exact ⟨0,Nat.zero_le _,rfl,rfl,rfl⟩
 case round =>
  obtain ⟨q,hq,rfl,rfl,hs⟩:=hrel
  by_cases hlt:q<nl
  ·obtain ⟨x,hx⟩:∃x,needs[q]?=some x:=⟨_,gZ (by have:=hnl.out;omega)⟩
   have hst:=hdZ (asked_step hs.out hx)
   obtain ⟨_,_,_,b,off,rfl,h0,_,_⟩:=hN0.out q x hx
   clear hx
   by_cases hk:x.kind=k
   ·have hb:(x.kind==k)=true:=by simp [hk]
    have hr:Hid (askedB needs k=true):=by unfold Hid;rw [hst.out];simp [hk]
    clear hk
    go_wp2_with fail
    go_ret
    exact ⟨by rw [hr.out];first | done | rfl,hb0.out⟩
   ·have hb:(x.kind==k)=false:=by simp [hk]
    have hr:Hid (askedB needs k=askedB (needs.drop (q+1)) k):=by unfold Hid;rw [hst.out];simp [hk]
    clear hk
    go_wp2_with fail
    go_roundw
    case rel=>exact ⟨q+1,by omega,by go_num,trivial,hr⟩
    case measure=>simp [intOf];omega
  ·have hr:Hid (askedB needs k=false):=by unfold Hid;rw [hs.out,List.drop_eq_nil_of_le (by have:=hnl.out;omega)];rfl
   go_wp2_with fail
   go_ret
   exact ⟨by rw [hr.out];first | done | rfl,hb0.out⟩
mutual
theorem parts_tree {w:World}:∀t:Tree,TreeAt w t->∀u∈partsT t,TreeAt w u
 | .mk k p f x n A c L,h,u,hu=>by
  rw [partsT] at hu
  split at hu
  ·rw [TreeAt] at h
   exact partsL_tree L A 0 h.1 u hu
  ·obtain rfl:=List.mem_singleton.1 hu
   exact h
theorem partsL_tree {w:World}:∀(L:List Tree) (A:Option Addr) (j:Nat),RowsAt w A j L->∀u∈partsL L,TreeAt w u
 | [],_,_,_,u,hu=>by rw [partsL] at hu;simp at hu
 | t::L,A,j,h,u,hu=>by
  rw [RowsAt] at h
  rw [partsL,List.mem_append] at hu
  rcases hu with hu | hu
  ·exact parts_tree t h.2.1 u hu
  ·exact partsL_tree L A (j+1) h.2.2 u hu
end
mutual
theorem parts_all {Q:Tree->Prop}:∀t:Tree,allT Q t->∀u∈partsT t,allT Q u
 | .mk k p f x n A c L,h,u,hu=>by
  rw [partsT] at hu
  split at hu
  ·rw [allT] at h
   exact partsL_all L h.2 u hu
  ·obtain rfl:=List.mem_singleton.1 hu
   exact h
theorem partsL_all {Q:Tree->Prop}:∀L:List Tree,allL Q L->∀u∈partsL L,allT Q u
 | [],_,u,hu=>by rw [partsL] at hu;simp at hu
 | t::L,h,u,hu=>by
  rw [allL] at h
  rw [partsL,List.mem_append] at hu
  rcases hu with hu | hu
  ·exact parts_all t h.1 u hu
  ·exact partsL_all L h.2 u hu
end
theorem parts_small {t:Tree} (h:SmallT t):∀u∈partsT t,SmallT u:=parts_all t h
theorem flat_take {α β:Type} (f:α->List β) {l:List α} {q:Nat} {x:α} (h:l[q]?=some x):(l.take (q+1)).flatMap f=(l.take q).flatMap f++f x:=by
 rw [List.take_add_one,h,List.flatMap_append];simp
open Go
theorem any_no {l:List Flt} {f:Flt}:anyB l f=false ↔ f ∉ l:=by rw [<-Bool.not_eq_true,anyB_iff]
def Tight (x:Flt):Prop:=x.fits/\x.field.size<=1000000/\(-9223372036854775808<=x.paper/\x.paper<=9223372036854775807)
theorem fits_of_nums {p k y:Int} {f:ByteArray} (hp : -9223372036854775808<=p/\p<=9223372036854775807) (hk : -9223372036854775808<=k/\k<=9223372036854775807) (hf:f.size<=1000000) (hy:0<=y/\y<=6):Tight ⟨p,k,f,y⟩ :=
 ⟨⟨fits_i64 hp.1 hp.2,fits_i64 hk.1 hk.2,by show f.size<=maxLen;unfold maxLen;omega,fits_i64 (n:=y) (by omega) (by omega)⟩,hf,hp⟩
theorem ask_fits {a:Int} {d:Pap} {name:ByteArray} {wrong:ByteArray->Int} (ha : -9223372036854775808<=a/\a<=9223372036854775807) (hk : -9223372036854775808<=d.kind/\d.kind<=9223372036854775807) (hs:name.size<=1000000) (hw:∀v,0<=wrong v/\wrong v<=6):∀x∈askF a d name wrong,Tight x:=by
 intro x hx
 unfold askF at hx
 split at hx
 ·obtain rfl:=List.mem_singleton.1 hx
  exact fits_of_nums ha hk hs (by omega)
 ·split at hx
  ·cases hx
  ·obtain rfl:=List.mem_singleton.1 hx
   exact fits_of_nums ha hk hs (hw _)
theorem isW_range (t v:ByteArray):0<=isW t v/\isW t v<=6:=by unfold isW;split<;>omega
theorem sumW_range (c:Crd) (v:ByteArray):0<=sumW c v/\sumW c v<=6:=by
 unfold sumW
 split
 ·omega
 ·split
  ·omega
  ·split<;>omega
theorem issuedW_range (c:Crd) (day:Int) (v:ByteArray):0<=issuedW c day v/\issuedW c day v<=6:=by
 unfold issuedW
 split
 ·omega
 ·split<;>omega
theorem alikeB_small:∀i,i<6->(alikeB i).size<=1000000:=by
 intro i hi
 have:i=0\/i=1\/i=2\/i=3\/i=4\/i=5:=by omega
 rcases this with rfl | rfl | rfl | rfl | rfl | rfl<;>decide
theorem exam_tight {c:Crd} {needs:List Nd} {docs:List Pap} {day:Int} (hd:∀d∈docs,-9223372036854775808<=d.kind/\d.kind<=9223372036854775807) (hn:∀x∈needs,-9223372036854775808<=x.kind/\x.kind<=9223372036854775807)
  (hf:∀x∈needs,allT (fun t=>t.field.size<=1000000) x.rule) (h12:docs.length<=1000):∀x∈examF c needs docs day,Tight x:=by
 intro x hx
 rw [mem_examF] at hx
 unfold toldE at hx
 rcases List.mem_append.1 hx with hx | hx
 ·unfold expF at hx
  split at hx
  ·obtain rfl:=List.mem_singleton.1 hx
   exact fits_of_nums (by omega) (by omega) (by decide) (by omega)
  ·cases hx
 rcases List.mem_append.1 hx with hx | hx
 ·obtain ⟨y,hy,hx⟩:=List.mem_flatMap.1 hx
  unfold lackF at hx
  split at hx
  ·obtain rfl:=List.mem_singleton.1 hx
   exact fits_of_nums (by omega) (hn y hy) (by decide) (by omega)
  ·cases hx
 obtain ⟨a,ha,hx⟩:=List.mem_flatMap.1 hx
 rw [List.mem_range] at ha
 unfold docAt at hx
 split at hx
 ·rename_i d hda
  have hk:=hd d (mgZ hda)
  have haI : -9223372036854775808<=(a:Int)/\(a:Int)<=9223372036854775807:=by omega
  unfold docF at hx
  split at hx
  ·rcases List.mem_append.1 hx with hx | hx
   ·unfold paperF at hx
    rcases List.mem_append.1 hx with hx | hx
    ·unfold fixedF at hx
     split at hx
     ·unfold invoiceF at hx
      rcases List.mem_append.1 hx with hx | hx
      ·exact ask_fits haI hk (by decide) (isW_range _) x hx
      rcases List.mem_append.1 hx with hx | hx
      ·exact ask_fits haI hk (by decide) (isW_range _) x hx
      rcases List.mem_append.1 hx with hx | hx
      ·exact ask_fits haI hk (by decide) (isW_range _) x hx
      ·exact ask_fits haI hk (by decide) (sumW_range _) x hx
     ·split at hx
      ·exact ask_fits haI hk (by decide) (issuedW_range _ _) x hx
      ·cases hx
    ·unfold ruledF at hx
     obtain ⟨y,hy,hx⟩:=List.mem_flatMap.1 hx
     unfold needR at hx
     split at hx
     ·obtain ⟨u,hu,hx⟩:=List.mem_flatMap.1 hx
      have hfu:u.field.size<=1000000:=allT_here (parts_all y.rule (hf y hy) u hu)
      unfold ruleF at hx
      split at hx
      ·cases hx
      ·obtain rfl:=List.mem_singleton.1 hx
       refine fits_of_nums haI hk ?_ ?_
       ·split
        ·exact hfu
        ·decide
       ·have:=holdsT_range docs d u
        split<;>omega
     ·cases hx
   ·unfold othersF at hx
    obtain ⟨i,hi,hx⟩:=List.mem_flatMap.1 hx
    rw [List.mem_range] at hi
    unfold otherF at hx
    split at hx
    ·cases hx
    ·split at hx
     ·cases hx
     ·split at hx
      ·cases hx
      ·obtain rfl:=List.mem_singleton.1 hx
       exact fits_of_nums haI hk (alikeB_small i hi) (by omega)
  ·cases hx
 ·cases hx
theorem small_field {t:Tree} (h:sizeT t 200<=60):allT (fun t=>t.field.size<=1000000) t:=by
 have e:=size_wgt t 200 (by omega)
 refine allT_mono (fun t h=>?_) t (wgt_all t 60 (by omega))
 show t.field.size<=1000000
 omega
open Go Go.RowKit Go.BigFrame Go.Maps
set_option maxHeartbeats 6400000
def alikeC:Array Value:=#[.string (alikeB 0),.string (alikeB 1),.string (alikeB 2),.string (alikeB 3),.string (alikeB 4),.string (alikeB 5)]
theorem alikeC_get {q:Nat} (h:q<6):alikeC[q]?=some (.string (alikeB q)):=by
 rcases q with _ | _ | _ | _ | _ | _ | q
 ·rfl
 ·rfl
 ·rfl
 ·rfl
 ·rfl
 ·rfl
 ·omega
theorem ahead_no {needs:List Nd} {l:List Pap} {k:Nat} {x:Pap} {s:ByteArray} {r:Option ByteArray} (hr:r=aheadF needs (l.drop k) s) (hx:l[k]?=some x) (h:askedB needs x.kind=false\/getF x.fields s=none):r=aheadF needs (l.drop (k+1)) s:=by
 obtain ⟨hk,he⟩:=gsZ.1 hx
 rw [hr,List.drop_eq_getElem_cons hk,he,aheadF]
 rcases h with h | h
 ·rw [h];rfl
 ·rw [h];cases askedB needs x.kind<;>rfl
theorem ahead_yes {needs:List Nd} {l:List Pap} {k:Nat} {x:Pap} {s v:ByteArray} {r:Option ByteArray} (hr:r=aheadF needs (l.drop k) s) (hx:l[k]?=some x) (h:askedB needs x.kind=true) (hv:getF x.fields s=some v):r=some v:=by
 obtain ⟨hk,he⟩:=gsZ.1 hx
 rw [hr,List.drop_eq_getElem_cons hk,he,aheadF,h,hv];rfl
theorem other_none {needs:List Nd} {ahead:List Pap} {a:Int} {d:Pap} {i:Nat} (h:getB d.fields (alikeB i)=false):otherF needs ahead a d i=[]:=by
 unfold getB at h
 unfold otherF
 cases hg:getF d.fields (alikeB i) with
 | none=>rfl
 | some v=>rw [hg] at h;cases h
theorem get_some {l:List Fld} {s:ByteArray} (h:getB l s=true):getF l s=some (getV l s):=by
 unfold getB at h
 unfold getV
 cases hg:getF l s with
 | none=>rw [hg] at h;cases h
 | some v=>rfl
theorem get_none {l:List Fld} {s:ByteArray} (h:getB l s=false):getF l s=none:=by
 unfold getB at h
 cases hg:getF l s with
 | none=>rfl
 | some v=>rw [hg] at h;cases h
theorem other_eq {needs:List Nd} {ahead:List Pap} {a:Int} {d:Pap} {i:Nat} (h:getB d.fields (alikeB i)=true):otherF needs ahead a d i=match aheadF needs ahead (alikeB i) with | none=>[] | some o=>if o.toList=(getV d.fields (alikeB i)).toList then [] else [⟨a,d.kind,alikeB i,3⟩]:=by
 unfold otherF;rw [get_some h];rfl
theorem range_snoc {α:Type} (f:Nat->List α) (q:Nat):(List.range (q+1)).flatMap f=(List.range q).flatMap f++f q:=by rw [List.range_succ,List.flatMap_append];simp
theorem against_any (C:Array Value) (nA:Option Addr) (nl nc:Nat) (needs:List Nd) (A:Option Addr) (nn cc:Nat) (docs:List Pap) (a:Nat) (d:Pap) (w:World) (hsz:Hid ((Tryz.prog.info? 46).map (·.size)=some C.size)) (hC17:Hid (C[17]?=some (.slice nA nl nc))) (hnl:Hid (needs.length=nl)) (hml:nl<=maxLen) (hN:Hid (NdsAt w nA needs))
  (hd:Hid (docs[a]?=some d)) (hR:Hid (Room w A nn docs)) :
  Calls Tryz.prog 115 #[.agg C,.slice A nn cc,.int .i64 a] w fun e w'=>∃v,e=.returned v/\w'.ownsRow w.heap.size 54 4 v (othersF needs (docs.take a) a d).length (fcells (othersF needs (docs.take a) a d))/\Bz w w':=by
 obtain ⟨i0,hi,hz0,hz1,hz2⟩:=info_parts Tryz.info54
 have halt:a<nn:=by have:=(gsZ.1 hd.out).1;have:=hR.out.len;omega
 have hmost:=hR.out.most
 have hml':=hdZ hml
 clear hml
 have hb0:=hdZ ((Below.refl _ w).alloc leZ (.cells C 46))
 have hbk:=hdZ (Blk.new w 46 C)
 obtain ⟨w0,hw0⟩:=nmZ (w.alloc (.cells C 46))
 have hs0:Hid (w0.heap.size=w.heap.size+1):=by unfold Hid;rw [<-hw0.out,World.size_alloc]
 rw [hw0.out] at hb0 hbk
 have hnew:=hdZ ((own_new w0 54 4).alloc (.cells alikeC 9))
 have hnm:=hdZ (blk_second w0 (.cells #[] 54) 9 alikeC)
 have hb2:=hdZ (((Below.refl _ w0).alloc (by rw [hs0.out];exact Nat.le_refl (w.heap.size+1)) (.cells #[] 54)).alloc (by simp;have:=hs0.out;omega) (.cells alikeC 9))
 obtain ⟨w2,hw2⟩:=nmZ ((w0.alloc (.cells #[] 54)).alloc (.cells alikeC 9))
 rw [hw2.out] at hnew hnm hb2
 rw [hs0.out] at hnew hnm
 go_enter Tryz.func115,Tryz.ntmps115
 go_wp2_with fail
 rw [hw0.out]
 have hw2':(w0.alloc (.cells #[] 54)).alloc (.cells #[Value.string { data:=#[115,101,108,108,101,114] },Value.string { data:=#[102,114,111,109] },Value.string { data:=#[116,111] },Value.string { data:=#[99,117,114,114,101,110,99,121] },Value.string { data:=#[98,111,120,101,115] },Value.string { data:=#[109,97,114,107,115] }] 9)=w2:=hw2.out
 rw [hw2']
 clear hw2'
 go_loopw [7,9,10,11,12,13,14] (fun v i _ _ _ _ _ wr=>∃q:Nat,q<=6/\i=.int .i64 q/\Hid (wr.ownsRow (w.heap.size+1) 54 4 v ((List.range q).flatMap (otherF needs (docs.take a) a d)).length (fcells ((List.range q).flatMap (otherF needs (docs.take a) a d))))/\Hid (Below (w.heap.size+1) w0 wr)/\Hid (Blk wr (w.heap.size+1+1) 9 alikeC)) (fun _ i _ _ _ _ _ _=>6-(intOf i).toNat)
 case atStart=>exact ⟨0,by omega,rfl,by unfold Hid;simpa [fcells] using hnew.out,hb2,hnm⟩
 case round =>
  clear hnew hnm hb2 hw2
  obtain ⟨q,hq,rfl,hown,hB,hnm⟩:=hrel
  have hBw:Hid (Bz w wr):=hb0.out.trans (hB.out.mono (by omega))
  by_cases hlt:q<6
  ·have hst:Hid ((List.range (q+1)).flatMap (otherF needs (docs.take a) a d)=_):=range_snoc _ q
   obtain ⟨pre,hpr⟩:=nmZ ((List.range q).flatMap (otherF needs (docs.take a) a d))
   have hpl:Hid (pre.length<=6):=by
    have:=others_len needs (docs.take a) a d q
    unfold Hid;rw [<-hpr.out];omega
   rw [hpr.out] at hst hown
   obtain ⟨s,hs⟩:=nmZ (alikeB q)
   have nq0:wr.cell? ⟨w.heap.size+1+1,q,none⟩=some (.string s):=by rw [hnm.out.cell,alikeC_get hlt,hs.out]
   have hof:Hid (∀b,getB d.fields s=b->otherF needs (docs.take a) a d q=if b=true then (match aheadF needs (docs.take a) s with | none=>[] | some o=>if o.toList=(getV d.fields s).toList then [] else [⟨a,d.kind,s,3⟩]) else []):=by
    rintro b hb
    cases b with
    | false=>rw [other_none (by rw [hs.out];exact hb)];rfl
    | true=>rw [other_eq (by rw [hs.out];exact hb),hs.out];rfl
   obtain ⟨db,doff,rfl,d0,_,_,d3,hfd,hfl,_⟩:=(hR.out.at_.below hBw.out) a d hd.out
   obtain ⟨dk,dn,di,dA,dc,df⟩:=d
   simp only at d0 d3 hfd hfl hof
   obtain ⟨fl,hfl0⟩:=nmZ (df.length)
   rw [hfl0.out] at d3 hfl
   have hfd':=hdZ hfd
   clear hfd
   have i1:(q:Int)<6:=by omega
   have i2:(0:Int)<=(q:Int):=by omega
   have i3:(a:Int)<(nn:Int):=by omega
   have i4:(0:Int)<=(a:Int):=by omega
   have hGet:Hid (∀y:Ext wr,Calls Tryz.prog 101 #[.slice dA fl dc,.string s] y.wd fun e w'=>e=.returned (.tuple #[.string (getV df s),.bool (getB df s)])/\Below y.wd.heap.size y.wd w'):=fun y=>getR_any dA fl dc df s y.wd hfl hfl0 (hfd'.out.below y.below)
   obtain ⟨gv,hgv⟩:=nmZ (getV df s)
   obtain ⟨gb,hgb⟩:=nmZ (getB df s)
   have hof':=hdZ (hof gb hgb.out)
   rw [hgv.out] at hof' hGet
   rw [hgb.out] at hGet
   have hbd:db<wr.heap.size:=World.block_lt_of_cell? wr _ d0
   have y3:∀y:Ext wr,y.wd.cell? ⟨db,doff+a*4+3,none⟩=some (.slice dA fl dc):=fun y=>(y.cell ⟨db,doff+a*4+3,none⟩ hbd).trans d3
   have yn:∀y:Ext wr,y.wd.cell? ⟨w.heap.size+1+1,q,none⟩=some (.string s):=fun y=>(y.cell ⟨w.heap.size+1+1,q,none⟩ hnm.out.lt).trans nq0
   clear hof hgv hgb
   go_wp2_with fail
   refine wp_region_ext (by kernel_rfl) (by kernel_rfl) ?_
   repeat (go_big_quiet_step ((go_at_call 101;exact Calls.ext_of (hGet.out _))))
   refine wpQuiet_nil ?_
   rintro _ ⟨y,rfl⟩
   have hby:=hdZ y.below
   obtain ⟨wy,hwy⟩:∃w6,y.wd=w6:=⟨_,rfl⟩
   rw [hwy] at hby ⊢
   clear hwy y y3 yn hGet d3 nq0
   have hgr:Hid (w.heap.size+1<=wr.heap.size):=by have:=hB.out.size;have:=hs0.out;unfold Hid;omega
   have hB6:Hid (Below (w.heap.size+1) w0 wy):=hB.out.trans (hby.out.mono hgr.out)
   have hown6:=hdZ (own_below hown.out hby.out)
   have hnm6:=kbZ hnm hby
   have d0y:wy.cell? ⟨db,doff+a*4,none⟩=some (.int .i64 dk):=(hby.out.cell (p:=⟨db,_,none⟩) hbd).trans d0
   clear hown hnm hB hby d0 hbd
   cases gb with
   | false =>
    have hz:Hid (otherF needs (docs.take a) a ⟨dk,dn,di,dA,dc,df⟩ q=[]):=by unfold Hid;rw [hof'.out];rfl
    go_wp2_with fail
    go_roundw
    case rel=>exact ⟨q+1,by omega,by go_num,by rw [hst.out,hz.out,List.append_nil];exact hown6.out,hB6,hnm6⟩
    case measure=>simp [intOf];omega
   | true =>
    simp only [if_true] at hof'
    obtain ⟨wo,rfl⟩:∃wo:World,wo=wr:=⟨_,rfl⟩
    obtain ⟨vo,rfl⟩:∃vo:Value,vo=u7:=⟨_,rfl⟩
    go_wp2_with fail
    go_loopw [7,12,13,14] (fun v' k _ _ wr=>∃r:Nat,r<=a/\k=.int .i64 r/\vo=v'/\Hid (aheadF needs (docs.take a) s=aheadF needs ((docs.take a).drop r) s)/\Hid (Bz wy wr)) (fun _ k _ _ _=>a-(intOf k).toNat)
    case atStart=>exact ⟨0,Nat.zero_le _,rfl,rfl,rfl,Below.refl _ _⟩
    case round =>
     obtain ⟨r,hr,rfl,rfl,hah,hBz⟩:=hrel
     have hgy:Hid (w.heap.size+1<=wy.heap.size):=by have:=hB6.out.size;have:=hs0.out;unfold Hid;omega
     have hB7:Hid (Below (w.heap.size+1) w0 wr):=hB6.out.trans (hBz.out.mono hgy.out)
     have hB7w:Hid (Bz w wr):=hb0.out.trans (hB7.out.mono (by omega))
     have hown7:=hdZ (own_below hown6.out hBz.out)
     have hnm7:=kbZ hnm6 hBz
     have hbk7:=hdZ (hbk.out.below hB7.out (by have:=hs0.out;omega))
     by_cases hlr:r<a
     ·obtain ⟨x,hx⟩:∃x,(docs.take a)[r]?=some x:=⟨_,gZ (by rw [List.length_take];have:=hR.out.len;omega)⟩
      have hx0:docs[r]?=some x:=by rw [List.getElem?_take_of_lt hlr] at hx;exact hx
      have hno:=hdZ (ahead_no hah.out hx)
      have hyes:=hdZ (fun v h1 h2=>ahead_yes (v:=v) hah.out hx h1 h2)
      obtain ⟨xb,xoff,eA,x0,_,_,x3,hxf,hxl,_⟩:=(hR.out.at_.below hB7w.out) r x hx0
      obtain ⟨rfl,rfl⟩:db=xb/\doff=xoff:=by simpa using eA
      clear eA hx hx0
      obtain ⟨xk,xn,xi,xA,xc,xf⟩:=x
      simp only at x0 x3 hxf hxl hno hyes
      obtain ⟨xl,hxl0⟩:=nmZ (xf.length)
      rw [hxl0.out] at x3 hxl
      have hxf':=hdZ hxf
      clear hxf
      have hGet:Hid (∀y:Ext wr,Calls Tryz.prog 101 #[.slice xA xl xc,.string s] y.wd fun e w'=>e=.returned (.tuple #[.string (getV xf s),.bool (getB xf s)])/\Below y.wd.heap.size y.wd w'):=fun y=>getR_any xA xl xc xf s y.wd hxl hxl0 (hxf'.out.below y.below)
      have hno2:Hid (askedB needs xk=false\/getB xf s=false->aheadF needs (docs.take a) s=aheadF needs ((docs.take a).drop (r+1)) s):=fun h=>hno.out (h.imp id get_none)
      have hyes2:Hid (askedB needs xk=true->getB xf s=true->aheadF needs (docs.take a) s=some (getV xf s)):=fun h1 h2=>hyes.out _ h1 (get_some h2)
      obtain ⟨ov,hov⟩:=nmZ (getV xf s)
      obtain ⟨ob,hob⟩:=nmZ (getB xf s)
      obtain ⟨ab,hab⟩:=nmZ (askedB needs xk)
      have hask:Hid (∀W,Bz wr W->Calls Tryz.prog 112 #[.agg C,.int .i64 xk] W fun e w'=>e=.returned (.bool ab)/\Bz W w'):=fun W hW=>by
       have:=asked_any C nA nl nc needs xk W hC17 hnl hml'.out (hN.out.below (hB7w.out.trans (hW.mono hB7w.out.size)))
       rw [hab.out] at this
       exact this
      rw [hov.out,hob.out] at hGet
      rw [hob.out,hab.out] at hno2
      rw [hob.out,hab.out,hov.out] at hyes2
      clear hno hyes hov hob hab
      have hbx:db<wr.heap.size:=World.block_lt_of_cell? wr _ x0
      have y0:∀W,Bz wr W->W.cell? ⟨db,doff+r*4,none⟩=some (.int .i64 xk):=fun W hW=>(hW.cell (p:=⟨db,_,none⟩) hbx).trans x0
      have y3:∀y:Ext wr,y.wd.cell? ⟨db,doff+r*4+3,none⟩=some (.slice xA xl xc):=fun y=>(y.cell ⟨db,doff+r*4+3,none⟩ hbx).trans x3
      have nq1:wr.cell? ⟨w.heap.size+1+1,q,none⟩=some (.string s):=by rw [hnm7.out.cell,alikeC_get hlt,hs.out]
      have yn:∀y:Ext wr,y.wd.cell? ⟨w.heap.size+1+1,q,none⟩=some (.string s):=fun y=>(y.cell ⟨w.heap.size+1+1,q,none⟩ hnm7.out.lt).trans nq1
      have hy0:=hdZ y0
      have i5:(r:Int)<(a:Int):=by omega
      have i6:(0:Int)<=(r:Int):=by omega
      have i7:(r:Int)<(nn:Int):=by omega
      clear x0 x3 nq1 y0
      go_wp2_with fail
      refine wp_region_ext (by kernel_rfl) (by kernel_rfl) ?_
      repeat (go_big_quiet_step ((go_at_call 101;exact Calls.ext_of (hGet.out _))))
      refine wpQuiet_nil ?_
      rintro _ ⟨y,rfl⟩
      have hby:=hdZ y.below
      obtain ⟨wu,hwu⟩:∃w6,y.wd=w6:=⟨_,rfl⟩
      rw [hwu] at hby ⊢
      clear hwu y y3 yn hGet
      have hbku:=kbZ hbk7 hby
      have hasku:Hid (∀y:Ext wu,Calls Tryz.prog 112 #[.agg C,.int .i64 xk] y.wd fun e w'=>e=.returned (.bool ab)/\Below y.wd.heap.size y.wd w'):=fun y=>hask.out y.wd (hby.out.trans (y.below.mono hby.out.size))
      have y0:∀y:Ext wu,y.wd.cell? ⟨db,doff+r*4,none⟩=some (.int .i64 xk):=fun y=>hy0.out y.wd (hby.out.trans (y.below.mono hby.out.size))
      clear hask
      cases ab
      all_goals
       go_wp2_with fail
       refine wp_region_ext (by kernel_rfl) (by kernel_rfl) ?_
       repeat (first
        | (go_big_quiet_want;(refine quiet_blk 46 (.tmp 3) rfl w.heap.size C 46 _ rfl (by rintro _ ⟨y,rfl⟩;exact hbku.out.below y.below hbku.out.lt) Tryz.underlying46 rfl hsz.out ?_);go_big_quiet_on;simp only [Act.put,List.setIfInBounds_toArray,List.set_cons_zero,List.set_cons_succ])
        | go_big_quiet_step ((go_at_call 112;exact Calls.ext_of (hasku.out _))))
       refine wpQuiet_nil ?_
       rintro _ ⟨y,rfl⟩
       have hbv:=hdZ y.below
       obtain ⟨wv,hwv⟩:∃w6,y.wd=w6:=⟨_,rfl⟩
       rw [hwv] at hbv ⊢
       clear hwv y y0 hasku
       have hBv:=btZ hby hbv
       have hBzv:=btZ hBz hBv
      ·have hr2:=hdZ (hno2.out (by simp))
       go_wp2_with fail
       go_roundw
       case rel=>exact ⟨r+1,by omega,by go_num,rfl,hr2,hBzv⟩
       case measure=>simp [intOf];omega
      ·cases ob with
       | false =>
        have hr2:=hdZ (hno2.out (by simp))
        go_wp2_with fail
        go_roundw
        case rel=>exact ⟨r+1,by omega,by go_num,rfl,hr2,hBzv⟩
        case measure=>simp [intOf];omega
       | true =>
        have hr2:=hdZ (hyes2.out (by simp) (by simp))
        rw [hr2.out] at hof'
        have hownv:=hdZ (own_below hown7.out hBv.out)
        have hnmv:=kbZ hnm7 hBv
        have hB8:Hid (Below (w.heap.size+1) w0 wv):=hB6.out.trans (hBzv.out.mono hgy.out)
        by_cases heq:gv.toList=ov.toList
        ·have hz:Hid (otherF needs (docs.take a) a ⟨dk,dn,di,dA,dc,df⟩ q=[]):=by unfold Hid;rw [hof'.out];simp [heq]
         have hq1:(gv.toList==ov.toList)=true:=by simp [heq]
         clear heq
         go_wp2_with fail
         go_roundw
         case rel=>exact ⟨q+1,by omega,by go_num,by rw [hst.out,hz.out,List.append_nil];exact hownv.out,hB8,hnmv⟩
         case measure=>simp [intOf];omega
        ·have hz:Hid (otherF needs (docs.take a) a ⟨dk,dn,di,dA,dc,df⟩ q=[⟨a,dk,s,3⟩]):=by unfold Hid;rw [hof'.out];simp only;rw [if_neg (fun h=>heq h.symm)]
         have hq1:(gv.toList==ov.toList)=false:=by simp [heq]
         clear heq
         have hbv2:db<wv.heap.size:=Nat.lt_of_lt_of_le hbx hBv.out.size
         have d0v:wv.cell? ⟨db,doff+a*4,none⟩=some (.int .i64 dk):=(hBzv.out.cell (p:=⟨db,_,none⟩) (World.block_lt_of_cell? wy _ d0y)).trans d0y
         have nqv:wv.cell? ⟨w.heap.size+1+1,q,none⟩=some (.string s):=by rw [hnmv.out.cell,alikeC_get hlt,hs.out]
         have hdw:Hid (db<w.heap.size):=by
          obtain ⟨b',_,e',z0,_⟩:=hR.out.at_ a _ hd.out
          obtain ⟨rfl,_⟩:db=b'/\_:=by simpa using e'
          exact World.block_lt_of_cell? w _ z0
         have hS:Hid (∀W,Bz wv W->W.cell? ⟨db,doff+a*4,none⟩=some (.int .i64 dk)/\W.cell? ⟨w.heap.size+1+1,q,none⟩=some (.string s)):=fun W hW =>
          ⟨(hW.cell (p:=⟨db,_,none⟩) hbv2).trans d0v,(hW.cell (p:=⟨w.heap.size+1+1,q,none⟩) hnmv.out.lt).trans nqv⟩
         have hgv8:Hid (w.heap.size+1<=wv.heap.size):=by have:=hB8.out.size;have:=hs0.out;unfold Hid;omega
         have hl1:Hid (pre.length+1<=maxLen):=by have:=hpl.out;unfold Hid maxLen;omega
         have hl2:Hid ((pre.length+1)*40<=140737488355328):=by have:=hpl.out;unfold Hid;omega
         clear d0v nqv d0y
         go_wp2_with fail
         go_region_held3 (fun W=>W.cell? ⟨db,doff+a*4,none⟩=some (.int .i64 dk)/\W.cell? ⟨w.heap.size+1+1,q,none⟩=some (.string s)) (first | exact hS.out _ (Below.refl _ _).drew | exact hS.out _ ((Below.refl _ _).alloc leZ _).drew | exact hS5) (first | (refine step_app_blk (w.heap.size+1) rfl (.tmp 71) (.tmp 83) 47 rfl 54 i0 _ 4 40 Tryz.underlying47 hi hz0 hz1 hz2 rfl (by decide) _ pre.length (fcells pre) rfl _ 1 #[.int .i64 a,.int .i64 dk,.string s,.int .i64 3] rfl (own_below hownv.out ((Below.refl _ _).alloc leZ _).drew) (Blk.new _ 54 _).drew rfl (fcell4 _ _ _ _) hl1.out hl2.out (Nat.le_trans hgv8.out (by simp)) ?_;intro v5 w5 ho5 hb5 hg5;have ho5':=hdZ ho5;have hB9:Hid (Below (w.heap.size+1) w0 w5):=((hB8.out.alloc hgv8.out _).drew).trans hb5;have hnm9:Hid (Blk w5 (w.heap.size+1+1) 9 alikeC):=((hnmv.out.alloc _).drew).grown hg5 (fun h=>own_blk_ne hownv.out hnmv.out (by decide) h.symm);have hS5:w5.cell? ⟨db,doff+a*4,none⟩=some (.int .i64 dk)/\w5.cell? ⟨w.heap.size+1+1,q,none⟩=some (.string s):=⟨(hb5.cell (p:=⟨db,_,none⟩) (Nat.lt_succ_of_lt hdw.out)).trans (hS.out _ ((Below.refl _ _).alloc leZ _).drew).1,by rw [hnm9.out.cell,alikeC_get hlt,hs.out]⟩;clear ho5 hb5 hg5))
         go_wp2_with fail
         go_roundw
         case rel=>exact ⟨q+1,by omega,by go_num,by rw [hst.out,hz.out,fcells_snoc,List.length_append];exact ho5'.out,hB9,hnm9⟩
         case measure=>simp [intOf];omega
     ·have hz:Hid (otherF needs (docs.take a) a ⟨dk,dn,di,dA,dc,df⟩ q=[]):=by
       unfold Hid
       rw [hof'.out,hah.out,List.drop_eq_nil_of_le (by rw [List.length_take];omega)];rfl
      go_wp2_with fail
      go_roundw
      case rel=>exact ⟨q+1,by omega,by go_num,by rw [hst.out,hz.out,List.append_nil];exact hown7.out,hB7,hnm7⟩
      case measure=>simp [intOf];omega
  ·obtain rfl:q=6:=by omega
   go_wp2_with fail
   go_ret
   exact ⟨_,rfl,own_mono_base hown.out (by omega),hBw.out⟩
end Go.Proofs.YtdjmckjbibfecaaGreatDoor

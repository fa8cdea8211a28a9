import Derived.SizedLaws
import Derived.StillTailTactics
import Derived.Test.YtdjmckjbibfecaaGreatDoorCe
import Derived.Test.YtdjmckjbibfecaaGreatDoorKa
import Derived.Test.YtdjmckjbibfecaaGreatDoorQShelf
import Derived.Test.YtdjmckjbibfecaaGreatDoorVf
namespace Go.Proofs.YtdjmckjbibfecaaGreatDoor
open Go Go.RowKit Go.BigFrame Go.Maps
theorem flD_set3:∀(l:List Pap) (k:Nat) (x:Pap) (A:Option Addr) (c:Nat),l[k]?=some x->(flD l).set (k*4+3) (.slice A x.fields.length c)=flD (l.set k ⟨x.kind,x.number,x.issuer,A,c,x.fields⟩)
 | [],k,x,A,c,h=>by simp at h
 | y::l,0,x,A,c,h=>by simp at h;subst h;simp [flD,encD]
 | y::l,k+1,x,A,c,h=>by
  have:=flD_set3 l k x A c (by simpa using h)
  rw [show (k+1)*4+3=k*4+3+1+1+1+1 by omega]
  simp only [flD,List.flatMap_cons,encD,List.cons_append,List.nil_append,List.set_cons_succ] at this ⊢
  rw [this]
structure MendS (w0 wr:World) (A:Option Addr) (nn c:Nat) (docs l:List Pap):Prop where
 below:Bz w0 wr
 own:wr.ownsRow w0.heap.size 61 4 (.slice A nn c) nn (flD l)
 same:sameD l docs
 flds:∀x∈l,FieldsAt wr x.fA x.fields
 away:∀x∈l,x.fields≠[]->∀b off,x.fA=some ⟨b,off,none⟩->A≠some ⟨b,0,none⟩
theorem fields_far {w w':World} {g:Nat} {A:Option Addr} {l:List Fld} (h:FieldsAt w A l) (hg:w.grownBy w' (some g)) (hne:l≠[]->∀b off,A=some ⟨b,off,none⟩->b≠g):FieldsAt w' A l:=by
 intro k x hx
 obtain ⟨b,off,e,h0,h1⟩:=h k x hx
 have hb:=hne (by rintro rfl;simp at hx) b off e
 have hk:∀p:Addr,p.block=b->w'.cell? p=w.cell? p:=fun p hp=>hg.cell_far p (by rw [hp];exact World.block_lt_of_cell? w _ h0) (by rw [hp];simp;exact hb)
 exact ⟨b,off,e,by rw [hk _ rfl];exact h0,by rw [hk _ rfl];exact h1⟩
theorem MendS.step {w0 wr w6:World} {g nn c k c2:Nat} {docs l:List Pap} {x:Pap} {A2:Option Addr} (h:MendS w0 wr (some ⟨g,0,none⟩) nn c docs l) (hx:l[k]?=some x) (hg0:w0.heap.size<=g) (hg1:g<wr.heap.size) (hb:Bz wr w6)
  (ho:w6.ownsRow wr.heap.size 108 2 (.slice A2 x.fields.length c2) x.fields.length (flF x.fields)) :
  MendS w0 (w6.setCell ⟨g,k*4+3,none⟩ (.slice A2 x.fields.length c2)) (some ⟨g,0,none⟩) nn c docs (l.set k ⟨x.kind,x.number,x.issuer,A2,c2,x.fields⟩):=by
 have o6:=own_below h.own hb
 have st:=o6.stored (k*4+3) (.slice A2 x.fields.length c2)
 rw [flD_set3 l k x A2 c2 hx] at st
 have hkl:=(gsZ.1 hx).1
 have hA2:x.fields≠[]->∀b off,A2=some ⟨b,off,none⟩->wr.heap.size<=b:=fun hne b off e=>by
  obtain ⟨g',c',e',h1,_⟩:=own_formS ho (List.length_pos_iff.2 hne)
  rw [e] at e'
  simp only [Value.slice.injEq,Option.some.injEq,Addr.mk.injEq,and_true,true_and] at e'
  rw [e'.1.1];exact h1
 obtain ⟨A9,c9,e9,_,hF9⟩:=fields_of_own ho rfl
 simp only [Value.slice.injEq,true_and] at e9
 obtain ⟨rfl,rfl⟩:=e9
 refine ⟨(h.below.trans (hb.mono h.below.size)).setCell hg0 _,st.1,⟨by rw [List.length_set];exact h.same.1,fun i y z hy hz=>?_⟩,fun y hy=>?_,fun y hy hne b off e=>?_⟩
 ·rw [List.getElem?_set] at hy
  split at hy
  ·rename_i hi
   subst hi
   obtain rfl:=Option.some.inj hy
   exact h.same.2 k x z hx hz
  ·exact h.same.2 i y z hy hz
 ·rcases List.mem_or_eq_of_mem_set hy with hy | rfl
  ·exact fields_far ((h.flds y hy).below hb) st.2 fun hne b off e hbg=>by
    subst hbg
    exact h.away y hy hne b off e rfl
  ·exact fields_far hF9 st.2 fun hne b off e=>by have:=hA2 hne b off e;omega
 ·rcases List.mem_or_eq_of_mem_set hy with hy | rfl
  ·exact h.away y hy hne b off e
  ·intro hc
   simp only [Option.some.injEq,Addr.mk.injEq,and_true] at hc
   have:=hA2 hne b off e
   omega
open Go Go.ChangeShapes Go.WideShapes Go.ChangeAt Go.RowKit Go.Deep
section
variable {H:Type} {enc:TypeId × Value->H} {P:Program} {w:World} {base:Nat} {spare:Nat->Bool} {held:Bool}
def Fits (P:Program) (t:TypeId) (d:DataW H):Prop:=∀n∈d.weights P t,n<=reachBytes
theorem Fits.part {t:TypeId} {fs:Array Field} {parts:List (DataW H)} {i:Nat} {f:Field} {d:DataW H} (h:Fits P t (.agg parts)) (ht:P.underlying t=some (.struct fs)) (hf:fs[i]?=some f) (hd:parts[i]?=some d):Fits P f.type d:=by
 intro n hn
 refine h n ?_
 rw [DataW.weights,ht]
 exact DataW.weights_mem_each (j:=i) (by simp [hf]) hd n hn
theorem weightsAll_mem {e:TypeId}:∀{l:List (DataW H)} {d:DataW H},d∈l->∀n∈d.weights P e,n∈DataW.weightsAll P e l
 | [],_,h,_,_=>by cases h
 | x::l,d,h,n,hn=>by
  simp only [DataW.weightsAll,List.mem_append]
  rcases List.mem_cons.1 h with rfl | h
  ·exact .inl hn
  ·exact .inr (weightsAll_mem h n hn)
theorem Fits.elem {t e:TypeId} {l r:List (DataW H)} {d:DataW H} (h:Fits P t (.slice l r)) (ht:P.underlying t=some (.slice e)) (hd:d∈l):Fits P e d:=by
 intro n hn
 refine h n ?_
 rw [DataW.weights,ht]
 simp only [List.mem_cons,List.mem_append]
 exact .inr (.inl (weightsAll_mem hd n hn))
theorem Fits.len {t e:TypeId} {l r:List (DataW H)} (h:Fits P t (.slice l r)) (ht:P.underlying t=some (.slice e)):(l.length+r.length)*P.bytesOf e<=reachBytes:=by
 refine h _ ?_
 rw [DataW.weights,ht]
 simp
theorem Fits.str {t:TypeId} {l:List UInt8} (h:Fits P t (.lit (.string l):DataW H)):l.length<=reachBytes:=by
 refine h _ ?_
 simp [DataW.weights]
theorem open_row {t e:TypeId} {fuel:Nat} {cs:List Value} {x:DataW H × List MemPlace} (ht:P.underlying t=some (.slice e)) (hs:0<P.cellsOf e) (h:DataW.trod enc P w base spare held fuel t cs=some x) (hw:Fits P t x.1) :
  ∃(A:Option Addr) (len cap n:Nat),cs=[.slice A len cap]/\n<fuel/\len<=cap/\cap<=maxLen/\len*P.bytesOf e<=reachBytes/\∀i,i<len->∃(b off:Nat) (cs':List Value) (y:DataW H × List MemPlace),A=some ⟨b,off,none⟩/\cs'.length=P.cellsOf e /\
   (∀j,j<P.cellsOf e->w.cell? ⟨b,off+i*P.cellsOf e+j,none⟩=cs'[j]?)/\DataW.trod enc P w base spare held n e cs'=some y/\Fits P e y.1:=by
 have hfu:0<fuel:=by
  rcases Nat.eq_zero_or_pos fuel with h0 | h0
  ·subst h0;simp [DataW.trod] at h
  ·exact h0
 rcases DataW.trod_slice ht h with ⟨rfl,rfl⟩ | ⟨a,len,cap,elems,rest,n,rfl,rfl,rfl,hb,hl,hm,hlen,hel,hsp,hns⟩
 ·exact ⟨none,0,0,0,rfl,hfu,Nat.le_refl _,Nat.zero_le _,by simp,fun i hi=>by omega⟩
 ·refine ⟨some a,len,cap,n,rfl,by omega,hl,hm,?_,fun i hi=>?_⟩
  ·have:=hw.len ht
   simp only [List.length_map,hlen] at this
   refine Nat.le_trans (Nat.mul_le_mul_right _ (Nat.le_add_right _ _)) this
  ·have h1:=hel i hi
   rw [gZ (by omega)] at h1
   obtain ⟨cs',hc,ht'⟩:=Option.bind_eq_some_iff.1 h1
   obtain ⟨_,hcl,hat⟩:=World.cells?_some hc
   obtain ⟨b,off,spot⟩:=a
   have hsp0:spot=none:=by
    have g1:=hel 0 (by omega)
    rw [gZ (by omega)] at g1
    obtain ⟨ds',gc,_⟩:=Option.bind_eq_some_iff.1 g1
    obtain ⟨_,gcl,gat⟩:=World.cells?_some gc
    have h0:=gat 0 hs
    rw [gZ (by omega)] at h0
    have:=World.cell?_spot h0
    simpa [Addr.add] using this
   subst hsp0
   have hadd:∀j,Addr.add ⟨b,off,none⟩ j=⟨b,off+j,none⟩:=fun j=>by unfold Addr.add;split<;>simp_all
   refine ⟨b,off,cs',elems[i],rfl,hcl,fun j hj=>?_,ht',hw.elem ht (by simp only [List.mem_map];exact ⟨_,List.getElem_mem _,rfl⟩)⟩
   rw [<-hat j hj,Go.Deep.add_add,hadd,Nat.add_assoc]
theorem open_strct {t:TypeId} {fs:Array Field} {fuel:Nat} {cs:List Value} {x:DataW H × List MemPlace} (ht:P.underlying t=some (.struct fs)) (h:DataW.trod enc P w base spare held fuel t cs=some x) (hw:Fits P t x.1) :
  ∃n,n<fuel/\cs.length=P.cellsOf t/\∀(i:Nat) (f:Field),fs[i]?=some f->∃y:DataW H × List MemPlace,DataW.trod enc P w base spare held n f.type ((cs.drop f.offset).take (P.cellsOf f.type))=some y/\Fits P f.type y.1:=by
 obtain ⟨xs,n,rfl,rfl,hl,hlen,hf⟩:=DataW.trod_struct ht h
 refine ⟨n,by omega,hl,fun i f hi=>?_⟩
 have hlt:i<xs.length:=by rw [hlen];exact (Array.getElem?_eq_some_iff.1 hi).1
 have h1:=hf i f hi
 rw [gZ hlt] at h1
 exact ⟨_,h1,hw.part ht hi (by simp [hlt])⟩
theorem open_int_at {t:TypeId} {k:IntKind} {fuel:Nat} {cs:List Value} {x:DataW H × List MemPlace} (ht:P.underlying t=some (.int k)) (h:DataW.trod enc P w base spare held fuel t cs=some x):∃n,cs=[.int k n]/\(Lit.int k n).wf=true:=by
 obtain ⟨n,e,_,hw⟩:=DataW.trod_int ht h
 exact ⟨n,e,hw⟩
theorem open_str_at {t:TypeId} {fuel:Nat} {cs:List Value} {x:DataW H × List MemPlace} (ht:P.underlying t=some .string) (h:DataW.trod enc P w base spare held fuel t cs=some x) (hw:Fits P t x.1):∃s:ByteArray,cs=[.string s]/\s.size<=140737488351232:=by
 obtain ⟨s,e,rfl,_⟩:=DataW.trod_string ht h
 have:=hw.str
 exact ⟨s,e,by have e1:s.data.toList.length=s.size:=Array.length_toList;unfold reachBytes at this;omega⟩
end
theorem i64_of {n:Int} (h:(Lit.int .i64 n).wf=true) : -9223372036854775808<=n/\n<=9223372036854775807:=by
 simp only [Lit.wf,Bool.and_eq_true,decide_eq_true_eq] at h
 have e1:IntKind.i64.min = -9223372036854775808:=by decide
 have e2:IntKind.i64.max=9223372036854775807:=by decide
 rw [e1,e2] at h
 exact h
theorem len2 {α:Type} {l:List α} (h:l.length=2):∃a b,l=[a,b]:=by
 match l,h with
 | [a,b],_=>exact ⟨a,b,rfl⟩
theorem len4 {α:Type} {l:List α} (h:l.length=4):∃a b c d,l=[a,b,c,d]:=by
 match l,h with
 | [a,b,c,d],_=>exact ⟨a,b,c,d,rfl⟩
theorem len6 {α:Type} {l:List α} (h:l.length=6):∃a b c d e f,l=[a,b,c,d,e,f]:=by
 match l,h with
 | [a,b,c,d,e,f],_=>exact ⟨a,b,c,d,e,f,rfl⟩
theorem len8 {α:Type} {l:List α} (h:l.length=8):∃a b c d e f i j,l=[a,b,c,d,e,f,i,j]:=by
 match l,h with
 | [a,b,c,d,e,f,i,j],_=>exact ⟨a,b,c,d,e,f,i,j,rfl⟩
section
variable {H:Type} {enc:TypeId × Value->H} {W:World}
abbrev Trd (enc:TypeId × Value->H) (W:World) (fuel:Nat) (t:TypeId) (cs:List Value) (x:DataW H × List MemPlace):Prop:=DataW.trod enc Tryz.prog W 0 (fun _=>true) true fuel t cs=some x
def reachF (f:Fld):Prop:=f.name.size<=140737488351232/\f.value.size<=140737488351232
theorem open_flds {fuel:Nat} {cs:List Value} {x:DataW H × List MemPlace} (h:Trd enc W fuel 59 cs x) (hw:Fits Tryz.prog 59 x.1) :
  ∃(A:Option Addr) (c:Nat) (l:List Fld),cs=[.slice A l.length c]/\l.length<=maxLen/\FieldsAt W A l/\∀f∈l,reachF f:=by
 obtain ⟨A,len,cap,n,rfl,_,hl,hm,_,hi⟩:=open_row Tryz.underlying59 (by rw [show Tryz.prog.cellsOf 108=2 by kernel_rfl];omega) h hw
 rw [show Tryz.prog.cellsOf 108=2 by kernel_rfl] at hi
 obtain ⟨l,hlen,hR⟩:=list_of len (fun i (f:Fld)=>(∃b off,A=some ⟨b,off,none⟩/\W.cell? ⟨b,off+i*2,none⟩=some (.string f.name)/\W.cell? ⟨b,off+i*2+1,none⟩=some (.string f.value))/\reachF f) (fun i hin=>by
  obtain ⟨b,off,cs',y,hA,hcl,hc,ht,hf⟩:=hi i hin
  obtain ⟨m,_,_,hfd⟩:=open_strct Tryz.underlying108 ht hf
  obtain ⟨y0,t0,f0⟩:=hfd 0 _ rfl
  obtain ⟨y1,t1,f1⟩:=hfd 1 _ rfl
  obtain ⟨s0,e0,g0⟩:=open_str_at Tryz.underlying9 t0 f0
  obtain ⟨s1,e1,g1⟩:=open_str_at Tryz.underlying9 t1 f1
  obtain ⟨v0,v1,rfl⟩:=len2 hcl
  simp [show Tryz.prog.cellsOf 9=1 by kernel_rfl] at e0 e1
  subst e0 e1
  exact ⟨⟨s0,s1⟩,⟨b,off,hA,hc 0 (by omega),hc 1 (by omega)⟩,g0,g1⟩)
 subst hlen
 refine ⟨A,cap,l,rfl,Nat.le_trans hl hm,fun k f hk=>(hR k f hk).1,fun f hf=>?_⟩
 obtain ⟨k,hk⟩:=List.mem_iff_getElem?.1 hf
 exact (hR k f hk).2
theorem open_docs {fuel:Nat} {cs:List Value} {x:DataW H × List MemPlace} (h:Trd enc W fuel 25 cs x) (hw:Fits Tryz.prog 25 x.1) :
  ∃(A:Option Addr) (c:Nat) (l:List Pap),cs=[.slice A l.length c]/\l.length<=maxLen/\DocsAt W A l/\LongD l:=by
 obtain ⟨A,len,cap,n,rfl,_,hl,hm,_,hi⟩:=open_row Tryz.underlying25 (by rw [show Tryz.prog.cellsOf 61=4 by kernel_rfl];omega) h hw
 rw [show Tryz.prog.cellsOf 61=4 by kernel_rfl] at hi
 obtain ⟨l,hlen,hR⟩:=list_of len (fun i (x:Pap)=>(∃b off,A=some ⟨b,off,none⟩/\W.cell? ⟨b,off+i*4,none⟩=some (.int .i64 x.kind)/\W.cell? ⟨b,off+i*4+1,none⟩=some (.string x.number) /\
  W.cell? ⟨b,off+i*4+2,none⟩=some (.string x.issuer)/\W.cell? ⟨b,off+i*4+3,none⟩=some (.slice x.fA x.fields.length x.fc)/\FieldsAt W x.fA x.fields/\x.fields.length<=maxLen/\(-9223372036854775808<=x.kind/\x.kind<=9223372036854775807))/\∀f∈x.fields,reachF f) (fun i hin=>by
  obtain ⟨b,off,cs',y,hA,hcl,hc,ht,hf⟩:=hi i hin
  obtain ⟨m,_,_,hfd⟩:=open_strct Tryz.underlying61 ht hf
  obtain ⟨y0,t0,f0⟩:=hfd 0 _ rfl
  obtain ⟨y1,t1,f1⟩:=hfd 1 _ rfl
  obtain ⟨y2,t2,f2⟩:=hfd 2 _ rfl
  obtain ⟨y3,t3,f3⟩:=hfd 3 _ rfl
  obtain ⟨k0,e0,g0⟩:=open_int_at Tryz.underlying3 t0
  obtain ⟨s1,e1,g1⟩:=open_str_at Tryz.underlying9 t1 f1
  obtain ⟨s2,e2,g2⟩:=open_str_at Tryz.underlying9 t2 f2
  obtain ⟨fA,fc,fl,e3,g3,g4,g5⟩:=open_flds t3 f3
  obtain ⟨v0,v1,v2,v3,rfl⟩:=len4 hcl
  simp [show Tryz.prog.cellsOf 9=1 by kernel_rfl,show Tryz.prog.cellsOf 3=1 by kernel_rfl,show Tryz.prog.cellsOf 59=1 by kernel_rfl] at e0 e1 e2 e3
  subst e0 e1 e2 e3
  exact ⟨⟨k0,s1,s2,fA,fc,fl⟩,⟨b,off,hA,hc 0 (by omega),hc 1 (by omega),hc 2 (by omega),hc 3 (by omega),g4,g3,i64_of g0⟩,g5⟩)
 subst hlen
 refine ⟨A,cap,l,rfl,Nat.le_trans hl hm,fun k f hk=>(hR k f hk).1,fun d hd f hf=>?_⟩
 obtain ⟨k,hk⟩:=List.mem_iff_getElem?.1 hd
 have:=(hR k d hk).2 f hf
 unfold reachF at this
 omega
theorem rows_of {A:Option Addr}:∀(L:List Tree) (j:Nat),(∀k t,L[k]?=some t->CellsAt W A (j+k) t/\TreeAt W t)->RowsAt W A j L
 | [],_,_=>by rw [RowsAt];trivial
 | t::L,j,h=>by
  rw [RowsAt]
  have h0:=h 0 t rfl
  refine ⟨h0.1,h0.2,rows_of L (j+1) fun k u hk=>?_⟩
  have:=h (k+1) u (by simpa using hk)
  rw [show j+1+k=j+(k+1) by omega]
  exact this
theorem open_node:∀(fuel:Nat) (cs:List Value) (x:DataW H × List MemPlace),Trd enc W fuel 24 cs x->Fits Tryz.prog 24 x.1->∃t:Tree,cs=t.cells.toList/\TreeAt W t/\LongT t:=by
 intro fuel
 induction fuel using Nat.strongRecOn with
 | ind fuel ih =>
  intro cs x h hw
  obtain ⟨m,hm,hcl,hfd⟩:=open_strct Tryz.underlying24 h hw
  rw [show Tryz.prog.cellsOf 24=6 by kernel_rfl] at hcl
  obtain ⟨y0,t0,f0⟩:=hfd 0 _ rfl
  obtain ⟨y1,t1,f1⟩:=hfd 1 _ rfl
  obtain ⟨y2,t2,f2⟩:=hfd 2 _ rfl
  obtain ⟨y3,t3,f3⟩:=hfd 3 _ rfl
  obtain ⟨y4,t4,f4⟩:=hfd 4 _ rfl
  obtain ⟨y5,t5,f5⟩:=hfd 5 _ rfl
  obtain ⟨k0,e0,_⟩:=open_int_at Tryz.underlying3 t0
  obtain ⟨k1,e1,_⟩:=open_int_at Tryz.underlying3 t1
  obtain ⟨s2,e2,g2⟩:=open_str_at Tryz.underlying9 t2 f2
  obtain ⟨s3,e3,g3⟩:=open_str_at Tryz.underlying9 t3 f3
  obtain ⟨k4,e4,g4⟩:=open_int_at Tryz.underlying2 t4
  obtain ⟨A,len,cap,n,e5,hnm,hl,hmx,_,hi⟩:=open_row Tryz.underlying22 (by rw [show Tryz.prog.cellsOf 24=6 by kernel_rfl];omega) t5 f5
  rw [show Tryz.prog.cellsOf 24=6 by kernel_rfl] at hi
  obtain ⟨L,hlen,hR⟩:=list_of len (fun i (t:Tree)=>CellsAt W A i t/\TreeAt W t/\LongT t) (fun i hin=>by
   obtain ⟨b,off,cs',y,hA,hcl,hc,ht,hf⟩:=hi i hin
   obtain ⟨t,rfl,hT,hL⟩:=ih n (by omega) cs' y ht hf
   obtain ⟨tk,tp,tf,tx,tn,tA,tc,tL⟩:=t
   exact ⟨.mk tk tp tf tx tn tA tc tL,⟨b,off,hA,hc 0 (by omega),hc 1 (by omega),hc 2 (by omega),hc 3 (by omega),hc 4 (by omega),hc 5 (by omega)⟩,hT,hL⟩)
  subst hlen
  obtain ⟨v0,v1,v2,v3,v4,v5,rfl⟩:=len6 hcl
  simp [show Tryz.prog.cellsOf 9=1 by kernel_rfl,show Tryz.prog.cellsOf 3=1 by kernel_rfl,show Tryz.prog.cellsOf 2=1 by kernel_rfl,show Tryz.prog.cellsOf 22=1 by kernel_rfl] at e0 e1 e2 e3 e4 e5
  subst e0 e1 e2 e3 e4 e5
  refine ⟨.mk k0 k1 s2 s3 k4 A cap L,rfl,?_,?_⟩
  ·rw [TreeAt]
   exact ⟨rows_of L 0 fun k t hk=>by rw [Nat.zero_add];exact ⟨(hR k t hk).1,(hR k t hk).2.1⟩,Nat.le_trans hl hmx⟩
  ·unfold LongT
   rw [allT]
   refine ⟨⟨by show s2.size<=_;omega,by show s3.size<=_;omega,i64_of g4⟩,allL_of fun t ht=>?_⟩
   obtain ⟨k,hk⟩:=List.mem_iff_getElem?.1 ht
   exact (hR k t hk).2.2
theorem open_nds {fuel:Nat} {cs:List Value} {x:DataW H × List MemPlace} (h:Trd enc W fuel 44 cs x) (hw:Fits Tryz.prog 44 x.1) :
  ∃(A:Option Addr) (c:Nat) (l:List Nd),cs=[.slice A l.length c]/\l.length<=maxLen/\NdsAt W A l:=by
 obtain ⟨A,len,cap,n,rfl,_,hl,hm,_,hi⟩:=open_row Tryz.underlying44 (by rw [show Tryz.prog.cellsOf 71=8 by kernel_rfl];omega) h hw
 rw [show Tryz.prog.cellsOf 71=8 by kernel_rfl] at hi
 obtain ⟨l,hlen,hR⟩:=list_of len (fun k (x:Nd)=>(-9223372036854775808<=x.kind/\x.kind<=9223372036854775807)/\TreeAt W x.rule/\LongT x.rule/\∃b off,A=some ⟨b,off,none⟩/\W.cell? ⟨b,off+k*8,none⟩=some (.int .i64 x.kind)/\W.cell? ⟨b,off+k*8+1,none⟩=some (.int .i64 x.count) /\
  match x.rule with
  | .mk k' p f x n A' c L=>W.cell? ⟨b,off+k*8+2,none⟩=some (.int .i64 k')/\W.cell? ⟨b,off+k*8+2+1,none⟩=some (.int .i64 p)/\W.cell? ⟨b,off+k*8+2+2,none⟩=some (.string f)/\W.cell? ⟨b,off+k*8+2+3,none⟩=some (.string x) /\
   W.cell? ⟨b,off+k*8+2+4,none⟩=some (.int .i64 n)/\W.cell? ⟨b,off+k*8+2+5,none⟩=some (.slice A' L.length c)) (fun i hin=>by
  obtain ⟨b,off,cs',y,hA,hcl,hc,ht,hf⟩:=hi i hin
  obtain ⟨m,_,_,hfd⟩:=open_strct Tryz.underlying71 ht hf
  obtain ⟨y0,t0,f0⟩:=hfd 0 _ rfl
  obtain ⟨y1,t1,f1⟩:=hfd 1 _ rfl
  obtain ⟨y2,t2,f2⟩:=hfd 2 _ rfl
  obtain ⟨k0,e0,g0⟩:=open_int_at Tryz.underlying3 t0
  obtain ⟨k1,e1,_⟩:=open_int_at Tryz.underlying3 t1
  obtain ⟨t,e2,hT,hL⟩:=open_node _ _ _ t2 f2
  obtain ⟨v0,v1,v2,v3,v4,v5,v6,v7,rfl⟩:=len8 hcl
  obtain ⟨tk,tp,tf,tx,tn,tA,tc,tL⟩:=t
  simp [Tree.cells,show Tryz.prog.cellsOf 24=6 by kernel_rfl,show Tryz.prog.cellsOf 3=1 by kernel_rfl] at e0 e1 e2
  obtain ⟨rfl,rfl,rfl,rfl,rfl,rfl⟩:=e2
  subst e0 e1
  exact ⟨⟨k0,k1,.mk tk tp tf tx tn tA tc tL⟩,i64_of g0,hT,hL,b,off,hA,hc 0 (by omega),hc 1 (by omega),hc 2 (by omega),hc 3 (by omega),hc 4 (by omega),hc 5 (by omega),hc 6 (by omega),hc 7 (by omega)⟩)
 subst hlen
 exact ⟨A,cap,l,rfl,Nat.le_trans hl hm,fun k f hk=>hR k f hk⟩
end
set_option maxRecDepth 100000
section
variable {H:Type} {enc:TypeId × Value->H} {W:World} {base:Nat}
theorem fits_of {P:Program} {ts:List TypeId} {l:List (DataW H)} (hz:(DataW.weightsEach P ts l).all (·<=reachBytes)=true) {j:Nat} {t:TypeId} {d:DataW H} (ht:ts[j]?=some t) (hd:l[j]?=some d):Fits P t d:=fun n hn=>by
 have:=List.all_eq_true.1 hz n (DataW.weights_mem_each ht hd n hn)
 simpa using this
abbrev TrdV (enc:TypeId × Value->H) (W:World) (t:TypeId) (v:Value) (d:DataW H) (p:List MemPlace):Prop:=DataW.Trod enc Tryz.prog W 0 (fun _=>true) true t v d p
theorem arg_docs {v:Value} {d:DataW H} {p:List MemPlace} (hv:Value.okWide Tryz.prog W .any base 25 v) (h:TrdV enc W 25 v d p) (hf:Fits Tryz.prog 25 d) :
  ∃(A:Option Addr) (c:Nat) (l:List Pap),v=.slice A l.length c/\l.length<=maxLen/\DocsAt W A l/\LongD l:=by
 obtain ⟨A,n,c,rfl⟩:=okWide_slice Tryz.underlying25 hv
 obtain ⟨fuel,h⟩:=h
 obtain ⟨A',c',l,e,h1,h2,h3⟩:=open_docs h hf
 simp [Value.cells] at e
 obtain ⟨rfl,rfl,rfl⟩:=e
 exact ⟨A,c,l,rfl,h1,h2,h3⟩
end
theorem alike_of {W : World} {L : List (String × DataW Unit)} (hl : L.filter (fun x => x.1 == "supercargo/examine.alike") = [("supercargo/examine.alike", Rows.laid_supercargo_examine_alike)]) (h : laidMetH Tryz.prog L W) : AlikeAt W := by
 have h1 := laidMetH.filter (fun x => x.1 == "supercargo/examine.alike") h
 rw [hl,MakeChecks.laidMetH_plain _ _ _ (by kernel_rfl)] at h1
 exact strtab (t:=143) (e:=9) (n:=6) [[115,101,108,108,101,114],[102,114,111,109],[116,111],[99,117,114,114,101,110,99,121],[98,111,120,101,115],[109,97,114,107,115]] (by kernel_rfl) (by kernel_rfl) Tryz.underlying143 Tryz.underlying9 (by kernel_rfl) rfl h1
section
variable {H:Type} {enc:TypeId × Value->H} {W:World} {base:Nat}
theorem len18 {α:Type} {l:List α} (h:l.length=18):∃a b c d e f g i j k m n o p q r s t,l=[a,b,c,d,e,f,g,i,j,k,m,n,o,p,q,r,s,t]:=by
 match l,h with
 | [a,b,c,d,e,f,g,i,j,k,m,n,o,p,q,r,s,t],_=>exact ⟨a,b,c,d,e,f,g,i,j,k,m,n,o,p,q,r,s,t,rfl⟩
theorem arg_credit {v:Value} {d:DataW H} {p:List MemPlace} (hv:Value.okWide Tryz.prog W .any base 46 v) (h:TrdV enc W 46 v d p) (hf:Fits Tryz.prog 46 d) :
  ∃(c:Crd) (A:Option Addr) (cap:Nat) (l:List Nd),v=.agg (c.cells (.slice A l.length cap))/\c.okC/\l.length<=maxLen/\NdsAt W A l:=by
 obtain ⟨cs,rfl,_⟩:=okWide_struct Tryz.underlying46 hv
 obtain ⟨fuel,h⟩:=h
 simp only [Value.cells] at h
 obtain ⟨m,_,hcl,hfd⟩:=open_strct Tryz.underlying46 h hf
 rw [show Tryz.prog.cellsOf 46=18 by kernel_rfl] at hcl
 have c9:Tryz.prog.cellsOf 9=1:=by kernel_rfl
 have c3:Tryz.prog.cellsOf 3=1:=by kernel_rfl
 have c4:Tryz.prog.cellsOf 4=1:=by kernel_rfl
 have c2:Tryz.prog.cellsOf 2=1:=by kernel_rfl
 have c29:Tryz.prog.cellsOf 43=2:=by kernel_rfl
 have c30:Tryz.prog.cellsOf 44=1:=by kernel_rfl
 obtain ⟨y0,t0,f0⟩:=hfd 0 _ rfl
 obtain ⟨y1,t1,f1⟩:=hfd 1 _ rfl
 obtain ⟨y2,t2,f2⟩:=hfd 2 _ rfl
 obtain ⟨y3,t3,f3⟩:=hfd 3 _ rfl
 obtain ⟨y4,t4,f4⟩:=hfd 4 _ rfl
 obtain ⟨y5,t5,f5⟩:=hfd 5 _ rfl
 obtain ⟨y6,t6,f6⟩:=hfd 6 _ rfl
 obtain ⟨y7,t7,f7⟩:=hfd 7 _ rfl
 obtain ⟨y8,t8,f8⟩:=hfd 8 _ rfl
 obtain ⟨y9,t9,f9⟩:=hfd 9 _ rfl
 obtain ⟨y10,t10,f10⟩:=hfd 10 _ rfl
 obtain ⟨y11,t11,f11⟩:=hfd 11 _ rfl
 obtain ⟨y12,t12,f12⟩:=hfd 12 _ rfl
 obtain ⟨y13,t13,f13⟩:=hfd 13 _ rfl
 obtain ⟨y14,t14,f14⟩:=hfd 14 _ rfl
 obtain ⟨y15,t15,f15⟩:=hfd 15 _ rfl
 obtain ⟨y16,t16,f16⟩:=hfd 16 _ rfl
 obtain ⟨s0,e0,_⟩:=open_str_at Tryz.underlying9 t0 f0
 obtain ⟨s1,e1,q1⟩:=open_str_at Tryz.underlying9 t1 f1
 obtain ⟨s2,e2,q2⟩:=open_str_at Tryz.underlying9 t2 f2
 obtain ⟨s3,e3,_⟩:=open_str_at Tryz.underlying9 t3 f3
 obtain ⟨s4,e4,_⟩:=open_str_at Tryz.underlying9 t4 f4
 obtain ⟨s5,e5,_⟩:=open_str_at Tryz.underlying9 t5 f5
 obtain ⟨s6,e6,_⟩:=open_str_at Tryz.underlying9 t6 f6
 obtain ⟨m7,_,hcl7,hfd7⟩:=open_strct Tryz.underlying43 t7 f7
 obtain ⟨z0,u0,g0⟩:=hfd7 0 _ rfl
 obtain ⟨z1,u1,g1⟩:=hfd7 1 _ rfl
 obtain ⟨s7,e7,q7⟩:=open_str_at Tryz.underlying9 u0 g0
 obtain ⟨n7,e7',b7⟩:=open_int_at Tryz.underlying2 u1
 obtain ⟨n8,e8,b8⟩:=open_int_at Tryz.underlying3 t8
 obtain ⟨n9,e9,b9⟩:=open_int_at Tryz.underlying3 t9
 obtain ⟨n10,e10,b10⟩:=open_int_at Tryz.underlying3 t10
 obtain ⟨n11,e11,b11⟩:=open_int_at Tryz.underlying3 t11
 obtain ⟨n12,e12,b12⟩:=open_int_at Tryz.underlying3 t12
 obtain ⟨n13,e13,b13⟩:=open_int_at Tryz.underlying3 t13
 obtain ⟨n14,e14,_⟩:=DataW.trod_bool Tryz.underlying4 t14
 obtain ⟨n15,e15,_⟩:=DataW.trod_bool Tryz.underlying4 t15
 obtain ⟨A,cap,l,e16,hl,hN⟩:=open_nds t16 f16
 obtain ⟨a0,a1,a2,a3,a4,a5,a6,a7,a8,a9,a10,a11,a12,a13,a14,a15,a16,a17,hcs⟩:=len18 hcl
 rw [hcs] at e0 e1 e2 e3 e4 e5 e6 e7 e7' e8 e9 e10 e11 e12 e13 e14 e15 e16
 simp [c9,c3,c4,c2,c29,c30] at e0 e1 e2 e3 e4 e5 e6 e7 e7' e8 e9 e10 e11 e12 e13 e14 e15 e16
 subst e0 e1 e2 e3 e4 e5 e6 e7 e7' e8 e9 e10 e11 e12 e13 e14 e15 e16
 refine ⟨⟨s0,s1,s2,s3,s4,s5,s6,s7,n7,n8,n9,n10,n11,n12,n13,n14,n15⟩,A,cap,l,?_,⟨i64_of b7,i64_of b8,i64_of b9,i64_of b10,i64_of b11,i64_of b12,q1,q2,q7⟩,hl,hN⟩
 rw [show cs=cs.toList.toArray by simp,hcs]
end
open Go Go.RowKit Go.BigFrame Go.Maps
theorem faultsAt_far {W W':World} {AF:Option Addr} {LF:List Flt} {g:Option Nat} (h:FaultsAt W AF LF) (hg:W.grownBy W' g) (hne:LF≠[]->∀b o,AF=some ⟨b,o,none⟩->g≠some b):FaultsAt W' AF LF:=by
 intro k x hx
 obtain ⟨b,o,e,h0,h1,h2,h3⟩:=h k x hx
 have hlt:=World.block_lt_of_cell? W _ h0
 have hk:∀q:Addr,q.block=b->W'.cell? q=W.cell? q:=fun q hq=>hg.cell_far q (by rw [hq];exact hlt) (by rw [hq];exact fun e9=>hne (by rintro rfl;simp at hx) b o e e9.symm)
 exact ⟨b,o,e,by rw [hk _ rfl];exact h0,by rw [hk _ rfl];exact h1,by rw [hk _ rfl];exact h2,by rw [hk _ rfl];exact h3⟩
structure KeepR (R:World->Prop):Prop where
 below:∀{a b:World},R a->Bz a b->R b
 grown:∀{a b:World} {B n:Nat} {v:Value} {xs:List Value},R a->a.ownsRow B 54 4 v n xs->a.grownBy b v.ownBlock->R b
structure FnS (w W:World) (C:Array Value) (AF:Option Addr) (LF:List Flt) (v:Value) (M:List Flt):Prop where
 below:Bz w W
 cred:Blk W w.heap.size 46 C
 row:W.ownsRow w.heap.size 54 4 v M.length (fcells M)
 rest:FaultsAt W AF LF
 off:LF≠[]->∀b o,AF=some ⟨b,o,none⟩->v.ownBlock≠some b
theorem FnS.on {w W W':World} {C:Array Value} {AF:Option Addr} {LF M:List Flt} {v:Value} (h:FnS w W C AF LF v M) (hb:Bz W W'):FnS w W' C AF LF v M :=
 ⟨h.below.trans (hb.mono h.below.size),h.cred.below hb h.cred.lt,own_below h.row hb,h.rest.below hb,h.off⟩
theorem FnS.put {w W W':World} {C:Array Value} {AF:Option Addr} {LF M M':List Flt} {v v':Value} (h:FnS w W C AF LF v M) (hg:W.grownBy W' v.ownBlock) (hv:v'.ownBlock=v.ownBlock\/v'.ownBlock=some W.heap.size) (ho:W'.ownsRow w.heap.size 54 4 v' M'.length (fcells M')):FnS w W' C AF LF v' M':=by
 refine ⟨h.below.grown hg h.below.size (fun j hj=>(h.row.lt j hj).1),Blk.kept h.cred hg (own_blk_ne h.row h.cred (by decide)),ho,faultsAt_far h.rest hg h.off,fun hne b o e=>?_⟩
 rcases hv with e1 | e1
 ·rw [e1];exact h.off hne b o e
 ·rw [e1]
  obtain ⟨x,hx⟩:∃x,LF[0]?=some x:=⟨_,gZ (List.length_pos_iff.2 hne)⟩
  obtain ⟨b',o',e',h0,_⟩:=h.rest 0 x hx
  rw [e] at e'
  simp only [Option.some.injEq,Addr.mk.injEq,and_true] at e'
  obtain ⟨rfl,rfl⟩:=e'
  have hlt:b<W.heap.size:=World.block_lt_of_cell? W _ h0
  intro h9
  injection h9 with h9
  omega
structure FkS (w W:World) (C:Array Value) (AF:Option Addr) (LF:List Flt) (gf:Nat) (X:Array Value) (R:World->Prop) (v:Value) (M:List Flt):Prop where
 base:FnS w W C AF LF v M
 fault:Blk W gf 54 X
 apart:v.ownBlock≠some gf
 more:R W
theorem FkS.on {w W W':World} {C:Array Value} {AF:Option Addr} {LF M:List Flt} {gf:Nat} {X:Array Value} {R:World->Prop} {v:Value} (K:KeepR R) (h:FkS w W C AF LF gf X R v M) (hb:Bz W W'):FkS w W' C AF LF gf X R v M :=
 ⟨h.base.on hb,h.fault.below hb h.fault.lt,h.apart,K.below h.more hb⟩
theorem FkS.put {w W W':World} {C:Array Value} {AF:Option Addr} {LF M M':List Flt} {gf:Nat} {X:Array Value} {R:World->Prop} {v v':Value} (K:KeepR R) (h:FkS w W C AF LF gf X R v M) (hg:W.grownBy W' v.ownBlock) (hv:v'.ownBlock=v.ownBlock\/v'.ownBlock=some W.heap.size) (ho:W'.ownsRow w.heap.size 54 4 v' M'.length (fcells M')):FkS w W' C AF LF gf X R v' M':=by
 refine ⟨h.base.put hg hv ho,Blk.kept h.fault hg h.apart,?_,K.grown h.more h.base.row hg⟩
 rcases hv with e | e
 ·rw [e];exact h.apart
 ·rw [e]
  have:=h.fault.lt
  intro h9
  injection h9 with h9
  omega
theorem failL_in {w:World} {nA:Option Addr} {needs:List Nd} {docs:List Pap} {d:Pap} {t:Tree} (hN:NdsAt w nA needs) (hSm:∀x∈needs,SmallT x.rule) (hsm:∀x∈needs,∀u∈partsT x.rule,(atomsT u).length<=12) (h:t∈failL needs docs d):TreeAt w t/\SmallT t/\(atomsT t).length<=12:=by
 unfold failL at h
 obtain ⟨x,hx,ht⟩:=List.mem_flatMap.1 h
 obtain ⟨i,hi⟩:=List.getElem?_of_mem hx
 split at ht
 ·have ht':=(List.mem_filter.1 ht).1
  exact ⟨parts_tree x.rule (hN i x hi).2.1 t ht',parts_all x.rule (hSm x hx) t ht',hsm x hx t ht'⟩
 ·cases ht
mutual
theorem atoms_part:∀(t:Tree),∀u∈partsT t,(atomsT u).length<=(atomsT t).length
 | .mk k p f x n A c L,u,hu=>by
  rw [partsT] at hu
  split at hu
  ·rename_i hk
   subst hk
   have h:=atoms_partL L u hu
   rw [atomsT,if_neg (by omega),if_pos (by omega)]
   exact h
  ·obtain rfl:=List.mem_singleton.1 hu
   exact Nat.le_refl _
theorem atoms_partL:∀(L:List Tree),∀u∈partsL L,(atomsT u).length<=(atomsL L).length
 | [],u,hu=>by rw [partsL] at hu;cases hu
 | t::L,u,hu=>by
  rw [partsL] at hu
  rw [atomsL,List.length_append]
  rcases List.mem_append.1 hu with h | h
  ·have:=atoms_part t u h;omega
  ·have:=atoms_partL L u h;omega
end
theorem atoms_few {t:Tree} (h:sizeT t 200<=60):(atomsT t).length<=60:=by
 have e:=size_wgt t 200 (by omega)
 have:=atoms_wgt t
 omega
end Go.Proofs.YtdjmckjbibfecaaGreatDoor

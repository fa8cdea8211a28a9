import Derived.OrdersHeld
import Derived.Test.YtdjmckjbibfecaaGreatDoorG
namespace Go.Proofs.YtdjmckjbibfecaaGreatDoor
open Go Go.RowKit Go.BigFrame
namespace Grow
def waits (o:Oper) (j:Nat):Bool:=o.after.any fun e=>e.on==j&&Region.binds .any e
theorem of_waits {o:Oper} {j:Nat} (h:waits o j=true):∃e∈o.after,e.on=j/\Region.binds .any e=true:=by
 rw [waits,Array.any_eq_true'] at h
 obtain ⟨e,he,h⟩:=h
 simp only [Bool.and_eq_true,beq_iff_eq] at h
 exact ⟨e,he,h.1,h.2⟩
def shy (s:Tmp) (o:Option Oper):Bool:=match o with
 | some o=>o.dst != some s
 | none=>true
def ownB (n:Nat) (l:List Oper):List Nat->Bool
 | []=>true
 | i :: B => (match l[i]? with
     | some o=>(match o.dst with
       | some d=>decide (d<n)&&B.all fun j=>shy d l[j]?
       | none=>true)
     | none=>false)&&!B.contains i&&ownB n l B
theorem own_get {n:Nat} {l:List Oper}:∀{B:List Nat},ownB n l B=true->∀i∈B,∃o,l[i]?=some o/\∀d,o.dst=some d->d<n
 | [],_,i,h=>by cases h
 | j::B,h,i,hi=>by
  rw [ownB,Bool.and_eq_true,Bool.and_eq_true] at h
  rcases List.mem_cons.1 hi with rfl | hi
  ·have h1:=h.1.1
   cases hl:l[i]? with
   | none=>rw [hl] at h1;cases h1
   | some o =>
    rw [hl] at h1
    refine ⟨o,rfl,fun d hd=>?_⟩
    simp only [hd,Bool.and_eq_true,decide_eq_true_eq] at h1
    exact h1.1
  ·exact own_get h.2 i hi
theorem own_apt {n:Nat} {l:List Oper}:∀{B:List Nat},ownB n l B=true->∀i∈B,∀j∈B,∀(oi oj:Oper) (d:Tmp),l[i]?=some oi->l[j]?=some oj->oi.dst=some d->oj.dst=some d->i=j
 | [],_,i,h=>by cases h
 | k::B,h,i,hi=>by
  intro j hj oi oj d hoi hoj hdi hdj
  rw [ownB,Bool.and_eq_true,Bool.and_eq_true] at h
  have key:∀m∈B,∀om ok:Oper,l[m]?=some om->l[k]?=some ok->om.dst=some d->ok.dst=some d->False:=by
   intro m hm om ok hlm hlk hdm hdk
   have h1:=h.1.1
   rw [hlk] at h1
   simp only [hdk,Bool.and_eq_true,List.all_eq_true] at h1
   have h2:=h1.2 m hm
   rw [hlm] at h2
   simp [shy,hdm] at h2
  rcases List.mem_cons.1 hi with ei | hi'<;>rcases List.mem_cons.1 hj with ej | hj'
  ·rw [ei,ej]
  ·exact (key j hj' oj oi hoj (by rw [<-ei];exact hoi) hdj hdi).elim
  ·exact (key i hi' oi oj hoi (by rw [<-ej];exact hoj) hdi hdj).elim
  ·exact own_apt h.2 i hi' j hj' oi oj d hoi hoj hdi hdj
theorem own_nodup {n:Nat} {l:List Oper}:∀{B:List Nat},ownB n l B=true->B.Nodup
 | [],_=>List.nodup_nil
 | k::B,h=>by
  rw [ownB,Bool.and_eq_true,Bool.and_eq_true] at h
  exact List.nodup_cons.2 ⟨by have:=h.1.2;simpa using this,own_nodup h.2⟩
def succB (l:List Oper) (B:List Nat) (f:Nat):Bool:=B.all fun i=>(B++[f]).any fun j=>decide (i<j)&&decide (j<l.length)&&(match l[j]? with | some o=>waits o i | none=>false)
def tailB (l:List Oper) (T:List Nat) (f:Nat):Bool:=T.all fun t=>t==f||(match l[t]? with | some o=>T.any fun u=>waits o u | none=>true)
def freeB (l:List Oper) (B T:List Nat):Bool:=B.all fun i=>match l[i]? with | some o=>o.after.all fun e=>!Region.binds .any e||(!T.contains e.on&&decide (e.on<i)) | none=>true
def partB (l:List Oper) (B T:List Nat) (L0 L1:Array Bool):Bool :=
 L0.size==l.length&&L1.size==l.length&&(B.all fun i=>!T.contains i)&&(T.all fun i=>decide (i<l.length)) &&
 (List.range l.length).all fun i=>((!L0.getD i true)==(B.contains i||T.contains i))&&(L1.getD i true==(B.contains i||L0.getD i true))
def chk (n:Nat) (l:List Oper) (B T:List Nat) (f:Nat) (L0 L1:Array Bool):Bool :=
 ownB n l B&&(T.isEmpty||succB l B f)&&tailB l T f&&freeB l B T&&partB l B T L0 L1
end Grow
open Grow
def allB (F:Nat->Oper->Prop) (l:List Oper):List Nat->Prop
 | []=>True
 | i::B=>(∃o,l[i]?=some o/\F i o)/\allB F l B
theorem allB_nil {F:Nat->Oper->Prop} {l:List Oper}:allB F l []:=trivial
theorem allB_cons {F:Nat->Oper->Prop} {l:List Oper} {B:List Nat} {i:Nat} {o:Oper} (ho:l[i]?=some o) (h:F i o) (t:allB F l B):allB F l (i::B):=⟨⟨o,ho,h⟩,t⟩
theorem allB_get {F:Nat->Oper->Prop} {l:List Oper}:∀{B:List Nat},allB F l B->∀i∈B,∀o,l[i]?=some o->F i o
 | [],_,i,h=>by cases h
 | j::B,h,i,hi=>by
  intro o ho
  rcases List.mem_cons.1 hi with rfl | hi
  ·obtain ⟨o',ho',h1⟩:=h.1
   rw [ho] at ho';cases ho';exact h1
  ·exact allB_get h.2 i hi o ho
def putB (vs:Nat->Value) (l:List Oper):List Nat->Act->Act
 | [],a=>a
 | i::B,a=>putB vs l B (a.put ((l[i]?).bind (·.dst)) (vs i))
def putD (vs:Nat->Value):List (Nat × Option Tmp)->Act->Act
 | [],a=>a
 | (i,d)::r,a=>putD vs r (a.put d (vs i))
theorem putB_putD (vs:Nat->Value) (l:List Oper):∀(B:List Nat) (a:Act),putB vs l B a=putD vs (B.map fun i=>(i,(l[i]?).bind (·.dst))) a
 | [],_=>rfl
 | i::B,a=>by rw [putB,putB_putD vs l B];rfl
theorem putB_size (vs:Nat->Value) (l:List Oper):∀(B:List Nat) (a:Act),(putB vs l B a).tmps.size=a.tmps.size
 | [],_=>rfl
 | i::B,a=>by rw [putB,putB_size vs l B,put_size]
theorem put_defs (a:Act) (d:Option Tmp) (v:Value):(a.put d v).defers=a.defers:=by cases d<;>rfl
theorem putB_defers (vs:Nat->Value) (l:List Oper):∀(B:List Nat) (a:Act),(putB vs l B a).defers=a.defers
 | [],_=>rfl
 | i::B,a=>by rw [putB,putB_defers vs l B,put_defs]
theorem putB_out (vs:Nat->Value) (l:List Oper) {s:Nat}:∀(B:List Nat) (a:Act),(∀i∈B,∀o,l[i]?=some o->o.dst≠some s)->(putB vs l B a).tmps.getD s undef=a.tmps.getD s undef
 | [],_,_=>rfl
 | i::B,a,h=>by
  rw [putB,putB_out vs l B _ (fun j hj=>h j (by simp [hj]))]
  cases hl:l[i]? with
  | none=>rfl
  | some o=>exact put_other _ _ _ _ (h i (by simp) o hl)
theorem putB_in (vs:Nat->Value) {n:Nat} (l:List Oper):∀(B:List Nat) (a:Act),ownB n l B=true->a.tmps.size=n->∀i∈B,∀(o:Oper) (d:Tmp),l[i]?=some o->o.dst=some d->(putB vs l B a).tmps.getD d undef=vs i
 | [],_,_,_,i,hi=>by cases hi
 | j::B,a,hd,hn,i,hi=>by
  intro o d ho hds
  rw [putB]
  have hd2:ownB n l B=true:=by rw [ownB,Bool.and_eq_true] at hd;exact hd.2
  by_cases hib:i∈B
  ·exact putB_in vs l B _ hd2 (by rw [put_size];exact hn) i hib o d ho hds
  ·rcases List.mem_cons.1 hi with rfl | hi
   ·rw [putB_out]
    ·rw [ho]
     simp only [Option.bind_some,hds]
     obtain ⟨o',ho',hlt⟩:=own_get hd i (by simp)
     rw [ho] at ho';cases ho'
     exact put_get _ _ _ (by rw [hn];exact hlt d hds)
    ·intro j hj o' ho' h'
     exact hib ((own_apt hd i (by simp) j (by simp [hj]) o o' d ho ho' hds h') ▸ hj)
   ·exact (hib hi).elim
theorem act_same {a b:Act} (h:a.tmps=b.tmps) (hd:a.defers=b.defers):a=b:=by
 cases a;cases b;simp at h hd;subst h hd;rfl
theorem arr_same {a b:Array Value} (hs:a.size=b.size) (h:∀s,s<a.size->a.getD s undef=b.getD s undef):a=b:=by
 apply Array.ext hs
 intro i h1 h2
 have:=h i h1
 simpa [Array.getD_eq_getD_getElem?,h1,h2] using this
section
variable {P:Program} {Q:Exit->Act->World->Prop}
structure HeldB (l:List Oper) (n:Nat) (a0:Act) (B Fr:List Nat) (L0:Array Bool) (G:Nat->Value->World->Prop) (listed:Array Bool) (a:Act) (W:World):Prop where
 size:a.tmps.size=n
 defers:a.defers=a0.defers
 other:∀s,(∀i∈B,∀o,l[i]?=some o->o.dst≠some s)->a.tmps.getD s undef=a0.tmps.getD s undef
 done:∀i∈B,∀o,l[i]?=some o->listed.getD i false=true->∃v,G i v W/\∀d,o.dst=some d->a.tmps.getD d undef=v
 closed:∀i∈B,∀o,l[i]?=some o->listed.getD i false=true->∀j,waits o j=true->listed.getD j false=true
 rest:∀i,i ∉ B->listed.getD i true=L0.getD i true
 lsize:listed.size=l.length
 apart:∀i∈Fr,∀j∈Fr,i≠j->∀(oi oj:Oper) (di dj:Tmp),l[i]?=some oi->l[j]?=some oj->oi.dst=some di->oj.dst=some dj->listed.getD i false=true->listed.getD j false=true->a.tmps.getD di undef≠a.tmps.getD dj undef
structure Leans (l:List Oper) (n:Nat) (a0:Act) (B:List Nat) (R:World->World->Prop) (G:Nat->Value->World->Prop) (w:World) (o:Oper) (a:Act) (W:World):Prop where
 world:R w W
 size:a.tmps.size=n
 old:∀s,(B.all fun i=>shy s l[i]?)=true->a.tmps.getD s undef=a0.tmps.getD s undef
 at_:∀j d,(B.contains j&&waits o j&&((l[j]?).bind (·.dst)==some d))=true->G j (a.tmps.getD d undef) W
 left:∀j,(B.contains j&&waits o j)=true->∃v,G j v W
theorem getD_both {arr:Array Bool} {j:Nat} (h:arr.getD j true=false):arr.getD j false=false/\j<arr.size:=by
 rcases Nat.lt_or_ge j arr.size with h1 | h1
 ·simp [h1] at h ⊢;exact h
 ·simp [Array.getElem?_eq_none h1] at h
theorem getD_in {arr:Array Bool} {j:Nat} {b c d:Bool} (h:j<arr.size) (h1:arr.getD j b=d):arr.getD j c=d:=by
 simp [h] at h1 ⊢;exact h1
theorem chain_all {l:List Oper} {B:List Nat} {f:Nat} {listed:Array Bool} (hs:succB l B f=true)
  (hcl:∀i∈B,∀o,l[i]?=some o->listed.getD i false=true->∀j,waits o j=true->listed.getD j false=true)
  (hf:∀o,l[f]?=some o->∀j,waits o j=true->listed.getD j false=true):∀i∈B,listed.getD i false=true:=by
 have key:∀(k i:Nat),l.length-i=k->i∈B->listed.getD i false=true:=by
  intro k
  induction k using Nat.strongRecOn with
  | ind k ih =>
   intro i hk hi
   have h1:=List.all_eq_true.1 hs i hi
   rw [List.any_eq_true] at h1
   obtain ⟨j,hj,h2⟩:=h1
   simp only [Bool.and_eq_true,decide_eq_true_eq] at h2
   obtain ⟨⟨hij,hjl⟩,h3⟩:=h2
   cases ho:l[j]? with
   | none=>rw [ho] at h3;cases h3
   | some o =>
    rw [ho] at h3
    simp only at h3
    rcases List.mem_append.1 hj with hj | hj
    ·exact hcl j hj o ho (ih (l.length-j) (by omega) j rfl hj) i h3
    ·obtain rfl:=List.mem_singleton.1 hj
     exact hf o ho i h3
 exact fun i hi=>key _ i rfl hi
theorem count_set {listed:Array Bool} {i:Nat} (hil:i<listed.size) (hu:listed.getD i false=false):∀(B:List Nat),B.Nodup->i∈B ->
  (B.countP fun j=>(listed.setIfInBounds i true).getD j false==false)+1=B.countP fun j=>listed.getD j false==false
 | [],_,h=>by cases h
 | k::B,hnd,hiB=>by
  rw [List.nodup_cons] at hnd
  rw [List.countP_cons,List.countP_cons]
  by_cases hki:k=i
  ·subst hki
   have e2:(B.countP fun j=>(listed.setIfInBounds k true).getD j false==false)=B.countP fun j=>listed.getD j false==false:=by
    apply List.countP_congr
    intro j hj
    rw [getD_set_ne false (fun e:k=j=>hnd.1 (e ▸ hj))]
   rw [e2,hu]
   simp [hil]
  ·have hiB':i∈B:=by
    rcases List.mem_cons.1 hiB with e | h
    ·exact (hki e.symm).elim
    ·exact h
   have:=count_set hil hu B hnd.2 hiB'
   rw [getD_set_ne false (fun e:i=k=>hki e.symm)]
   omega
theorem wpAny_bodyF {l:List Oper} {a0:Act} {w:World} (n:Nat) (B T Fr:List Nat) (f:Nat) (DS:List (Nat × Option Tmp)) (L0 L1:Array Bool) (R:World->World->Prop) (G:Nat->Value->World->Prop)
  (hchk:chk n l B T f L0 L1=true) (hds:(B.map fun i=>(i,(l[i]?).bind (·.dst)))=DS) (hfr:(Fr.all fun i=>B.contains i&&(((l[i]?).bind (·.dst)).isSome))=true) (hn:a0.tmps.size=n) (hrefl:R w w) (htrans:∀a b c,R a b->R b c->R a c) (hmono:∀i v W W',G i v W->R W W'->G i v W')
  (hnew:∀i∈Fr,∀v W,G i v W->∃g,v=.pointer (some ⟨g,0,none⟩)/\g<W.heap.size)
  (hstep:allB (fun i o=>∀a W,Leans l n a0 B R G w o a W->∀K:Act->World->Prop,(∀v W',R W W'->G i v W'->(i∈Fr->∀g,v=.pointer (some ⟨g,0,none⟩)->W.heap.size<=g)->K (a.put o.dst v) W')->wpOp P l.toArray Q i K a W) l B)
  (hend:∀(vs:Nat->Value) W,R w W->(∀i,B.contains i=true->G i (vs i) W)->(∀i∈Fr,∀j∈Fr,i≠j->vs i≠vs j)->wpAny P .any l.toArray Q T.length L1 (putD vs DS a0) W) :
  ∀(fuel:Nat),fuel=B.length+T.length->wpAny P .any l.toArray Q fuel L0 a0 w:=by
 simp only [chk,partB,Bool.and_eq_true,List.all_eq_true,beq_iff_eq,List.mem_range,decide_eq_true_eq] at hchk
 obtain ⟨⟨⟨⟨hown,hsucc⟩,htail⟩,hfree⟩,⟨⟨⟨hs0,hs1⟩,hBT⟩,hTl⟩,hpart⟩:=hchk
 have hBl:∀i∈B,i<l.length:=fun i hi=>by
  obtain ⟨o,ho,_⟩:=own_get hown i hi
  exact (gsZ.1 ho).1
 have hfrs:∀i∈Fr,i∈B/\∃(o:Oper) (d:Tmp),l[i]?=some o/\o.dst=some d:=by
  intro i hi
  have h:=List.all_eq_true.1 hfr i hi
  simp only [Bool.and_eq_true] at h
  refine ⟨by simpa using h.1,?_⟩
  cases ho:l[i]? with
  | none=>rw [ho] at h;simp at h
  | some o =>
   rw [ho] at h
   cases hd:o.dst with
   | none=>simp [hd] at h
   | some d=>exact ⟨o,d,rfl,hd⟩
 have fin:∀(listed:Array Bool) (a:Act) (W:World),(∀i∈B,listed.getD i false=true)->R w W->HeldB l n a0 B Fr L0 G listed a W->wpAny P .any l.toArray Q T.length listed a W:=by
  intro listed a W hall hR hH
  let vs:Nat->Value:=fun i=>match l[i]? with
   | some o=>(match o.dst with
    | some d=>a.tmps.getD d undef
    | none=>Classical.epsilon fun v=>G i v W)
   | none=>undef
  have hvs:∀i∈B,G i (vs i) W/\∀(o:Oper) (d:Tmp),l[i]?=some o->o.dst=some d->vs i=a.tmps.getD d undef:=by
   intro i hi
   obtain ⟨o,ho,_⟩:=own_get hown i hi
   obtain ⟨v,hv,hd⟩:=hH.done i hi o ho (hall i hi)
   constructor
   ·show G i (match l[i]? with | some o=>_ | none=>_) W
    rw [ho]
    cases hds:o.dst with
    | some d=>simp only [hds];rw [hd d hds];exact hv
    | none =>
     simp only [hds]
     exact Classical.epsilon_spec (p:=fun v=>G i v W) ⟨v,hv⟩
   ·intro o' d ho' hds
    rw [ho] at ho';cases ho'
    show (match l[i]? with | some o=>_ | none=>_)=_
    rw [ho]
    simp only [hds]
  have he:a=putB vs l B a0:=by
   refine act_same (arr_same (by rw [putB_size,hH.size,hn]) fun s hs=>?_) (by rw [putB_defers,hH.defers])
   by_cases hx:∃i∈B,∃o:Oper,l[i]?=some o/\o.dst=some s
   ·obtain ⟨i,hi,o,ho,hds⟩:=hx
    rw [putB_in vs l B a0 hown hn i hi o s ho hds,(hvs i hi).2 o s ho hds]
   ·rw [putB_out,hH.other]
    ·intro i hi o ho h;exact hx ⟨i,hi,o,ho,h⟩
    ·intro i hi o ho h;exact hx ⟨i,hi,o,ho,h⟩
  have hL:listed=L1:=by
   apply Array.ext (by rw [hH.lsize,hs1])
   intro i h1 h2
   have hil:i<l.length:=by rw [<-hs1];exact h2
   have hp:=(hpart i hil).2
   have e1:L1.getD i true=L1[i]:=by simp [h2]
   by_cases hi:i∈B
   ·have h3:=hall i hi
    have e2:listed.getD i false=listed[i]:=by simp [h1]
    rw [e1,show B.contains i=true by simpa using hi,Bool.true_or] at hp
    rw [<-e2,h3,hp]
   ·have h3:=hH.rest i hi
    have e2:listed.getD i true=listed[i]:=by simp [h1]
    rw [e1,show B.contains i=false by simpa using hi,Bool.false_or] at hp
    rw [<-e2,h3,hp]
  rw [hL,he,putB_putD,hds]
  refine hend vs W hR (fun i hi=>(hvs i (by simpa using hi)).1) fun i hi j hj hij=>?_
  obtain ⟨hiB,oi,di,hoi,hdi⟩:=hfrs i hi
  obtain ⟨hjB,oj,dj,hoj,hdj⟩:=hfrs j hj
  rw [(hvs i hiB).2 oi di hoi hdi,(hvs j hjB).2 oj dj hoj hdj]
  exact hH.apart i hi j hj hij oi oj di dj hoi hoj hdi hdj (hall i hiB) (hall j hjB)
 have main:∀(m:Nat) (listed:Array Bool) (a:Act) (W:World),(B.countP fun i=>listed.getD i false==false)=m->R w W->HeldB l n a0 B Fr L0 G listed a W->wpAny P .any l.toArray Q (m+T.length) listed a W:=by
  intro m
  induction m with
  | zero =>
   intro listed a W hm hR hH
   rw [Nat.zero_add]
   refine fin listed a W (fun i hi=>?_) hR hH
   have:=List.countP_eq_zero.1 hm i hi
   simpa using this
  | succ m ih =>
   intro listed a W hm hR hH
   have hun:∃i∈B,listed.getD i false=false:=by
    have h1:0<B.countP fun i=>listed.getD i false==false:=by omega
    obtain ⟨i,hi,h2⟩:=List.countP_pos_iff.1 h1
    exact ⟨i,hi,by simpa using h2⟩
   rw [show m+1+T.length=(m+T.length)+1 by omega]
   refine ⟨fun hr=>?_,fun i hi=>?_⟩
   ·exfalso
    -- the least of the body that has not come up may come up
    have least:∀(k i:Nat),i=k->i∈B->listed.getD i false=false->False:=by
     intro k
     induction k using Nat.strongRecOn with
     | ind k ihk =>
      intro i hik hi hu
      obtain ⟨o,ho,_⟩:=own_get hown i hi
      have hil:=hBl i hi
      have:i∈Region.ready .any l.toArray listed:=by
       rw [mem_ready]
       refine ⟨getD_in (by rw [hH.lsize];exact hil) hu,o,by simpa using ho,fun e he hb=>?_⟩
       have h1:=List.all_eq_true.1 hfree i hi
       rw [ho] at h1
       simp only at h1
       have h2:=Array.all_eq_true_iff_forall_mem.1 h1 e he
       simp only [hb,Bool.not_true,Bool.false_or,Bool.and_eq_true,decide_eq_true_eq] at h2
       obtain ⟨h3,h4⟩:=h2
       cases hg:listed.getD e.on false with
       | true=>rfl
       | false =>
        by_cases heB:e.on∈B
        ·exact (ihk e.on (by omega) e.on rfl heB hg).elim
        ·have h5:=hH.rest e.on heB
         have h6:=(hpart e.on (by omega)).1
         have h7:listed.getD e.on true=false:=getD_in (by rw [hH.lsize];omega) hg
         rw [h5] at h7
         rw [h7,show B.contains e.on=false by simpa using heB] at h6
         simp only [Bool.not_false,Bool.false_or] at h6
         rw [<-h6] at h3
         cases h3
      rw [hr] at this;cases this
    obtain ⟨i,hi,hu⟩:=hun
    exact least i i rfl hi hu
   ·obtain ⟨hu,o,ho,hall⟩:=mem_ready.1 hi
    have ho':l[i]?=some o:=by simpa using ho
    obtain ⟨hu1,hil⟩:=getD_both hu
    have hwt:∀j,waits o j=true->listed.getD j false=true:=fun j hj=>by
     obtain ⟨e,he,rfl,hb⟩:=of_waits hj
     exact hall e he hb
    have hiB:i∈B:=by
     apply Classical.byContradiction
     intro hnB
     have h1:=hH.rest i hnB
     have h2:=(hpart i (by rw [<-hH.lsize];exact hil)).1
     rw [<-h1,hu,show B.contains i=false by simpa using hnB] at h2
     simp only [Bool.not_false,Bool.false_or] at h2
     have hiT:i∈T:=by simpa using h2.symm
     have hne:T.isEmpty=false:=by cases T with | nil=>cases hiT | cons=>rfl
     rw [hne,Bool.false_or] at hsucc
     have h3:=List.all_eq_true.1 htail i hiT
     simp only [Bool.or_eq_true,beq_iff_eq] at h3
     rcases h3 with rfl | h3
     ·obtain ⟨j,hj,hju⟩:=hun
      have:=chain_all hsucc hH.closed (fun o2 ho2 j hj=>by rw [ho'] at ho2;cases ho2;exact hwt j hj) j hj
      rw [hju] at this;cases this
     ·rw [ho'] at h3
      simp only [List.any_eq_true] at h3
      obtain ⟨u,huT,huw⟩:=h3
      have h4:=hwt u huw
      have huB:u ∉ B:=fun h=>by
       have:=hBT u h
       rw [show T.contains u=true by simpa using huT] at this;cases this
      have h5:=hH.rest u huB
      have h6:=(hpart u (hTl u huT)).1
      rw [show T.contains u=true by simpa using huT,Bool.or_true] at h6
      have h7:L0.getD u true=false:=by simpa using h6
      rw [h7] at h5
      rw [getD_in (by rw [hH.lsize];exact hTl u huT) h5] at h4;cases h4
    have hgo:=allB_get hstep i hiB o ho' a W ⟨hR,hH.size,fun s hs=>hH.other s (fun k hk ok hok h=>?_),fun j d hj=>?_,fun j hj=>?_⟩
    ·refine hgo _ fun v W' hR' hG hnw=>ih _ _ W' ?_ (htrans _ _ _ hR hR') ?_
     ·-- one less
      have hnd:=own_nodup hown
      have e1:=count_set hil hu1 B hnd hiB
      omega
     ·refine ⟨by rw [put_size];exact hH.size,by rw [put_defs];exact hH.defers,fun s hs=>?_,fun j hj oj hoj hlj=>?_,fun j hj oj hoj hlj k hk=>?_,fun j hj=>?_,by simpa using hH.lsize,fun j hj k hk hjk oj ok dj dk hoj hok hdj hdk hlj hlk=>?_⟩
      ·rw [put_other _ _ _ _ (hs i hiB o ho'),hH.other s hs]
      ·by_cases hij:i=j
       ·subst hij
        rw [ho'] at hoj;cases hoj
        refine ⟨v,hG,fun d hd=>?_⟩
        obtain ⟨o2,ho2,hlt⟩:=own_get hown i hj
        rw [ho'] at ho2;cases ho2
        rw [hd,put_get _ _ _ (by rw [hH.size];exact hlt d hd)]
       ·rw [getD_set_ne false hij] at hlj
        obtain ⟨v',hv',hd'⟩:=hH.done j hj oj hoj hlj
        refine ⟨v',hmono _ _ _ _ hv' hR',fun d hd=>?_⟩
        rw [put_other _ _ _ _ (fun h=>hij (own_apt hown i hiB j hj o oj d ho' hoj h hd))]
        exact hd' d hd
      ·by_cases hij:i=j
       ·subst hij
        rw [ho'] at hoj;cases hoj
        exact getD_set_true (hwt k hk)
       ·rw [getD_set_ne false hij] at hlj
        exact getD_set_true (hH.closed j hj oj hoj hlj k hk)
      ·rw [getD_set_ne true (fun e:i=j=>hj (e ▸ hiB))];exact hH.rest j hj
      ·have old:∀m∈Fr,∀(om:Oper) (dm:Tmp),i≠m->l[m]?=some om->om.dst=some dm->(listed.setIfInBounds i true).getD m false=true->∃g,a.tmps.getD dm undef=.pointer (some ⟨g,0,none⟩)/\g<W.heap.size:=by
        intro m hm om dm him hom hdm hlm
        rw [getD_set_ne false him] at hlm
        obtain ⟨v',hv',hd'⟩:=hH.done m (hfrs m hm).1 om hom hlm
        obtain ⟨g,hg,hgl⟩:=hnew m hm v' W hv'
        exact ⟨g,by rw [hd' dm hdm,hg],hgl⟩
       have slot:∀(m:Nat) (om:Oper) (dm:Tmp),i≠m->m∈Fr->l[m]?=some om->om.dst=some dm->(a.put o.dst v).tmps.getD dm undef=a.tmps.getD dm undef:=by
        intro m om dm him hm hom hdm
        exact put_other _ _ _ _ (fun h=>him (own_apt hown i hiB m (hfrs m hm).1 o om dm ho' hom h hdm))
       have mine:∀(om:Oper) (dm:Tmp),l[i]?=some om->om.dst=some dm->(a.put o.dst v).tmps.getD dm undef=v:=by
        intro om dm hom hdm
        rw [ho'] at hom;cases hom
        obtain ⟨o2,ho2,hlt⟩:=own_get hown i hiB
        rw [ho'] at ho2;cases ho2
        rw [hdm,put_get _ _ _ (by rw [hH.size];exact hlt dm hdm)]
       by_cases hij:i=j
       ·subst hij
        rw [mine oj dj hoj hdj,slot k ok dk hjk hk hok hdk]
        obtain ⟨g,hg,hgl⟩:=old k hk ok dk hjk hok hdk hlk
        intro e
        have:=hnw hj g (e.trans hg)
        omega
       ·by_cases hik:i=k
        ·subst hik
         rw [mine ok dk hok hdk,slot j oj dj hij hj hoj hdj]
         obtain ⟨g,hg,hgl⟩:=old j hj oj dj hij hoj hdj hlj
         intro e
         have:=hnw hk g (e.symm.trans hg)
         omega
        ·rw [slot j oj dj hij hj hoj hdj,slot k ok dk hik hk hok hdk]
         rw [getD_set_ne false hij] at hlj
         rw [getD_set_ne false hik] at hlk
         exact hH.apart j hj k hk hjk oj ok dj dk hoj hok hdj hdk hlj hlk
    ·have:=List.all_eq_true.1 hs k hk
     rw [hok] at this
     simp [shy,h] at this
    ·simp only [Bool.and_eq_true,beq_iff_eq] at hj
     obtain ⟨⟨h1,h2⟩,h3⟩:=hj
     have hjB:j∈B:=by simpa using h1
     obtain ⟨oj,hoj,_⟩:=own_get hown j hjB
     obtain ⟨v,hv,hd⟩:=hH.done j hjB oj hoj (hwt j h2)
     rw [hoj] at h3
     rw [hd d (by simpa using h3)]
     exact hv
    ·simp only [Bool.and_eq_true] at hj
     have hjB:j∈B:=by simpa using hj.1
     obtain ⟨oj,hoj,_⟩:=own_get hown j hjB
     obtain ⟨v,hv,_⟩:=hH.done j hjB oj hoj (hwt j hj.2)
     exact ⟨v,hv⟩
 intro fuel hfu
 subst hfu
 have hstart:∀i∈B,L0.getD i false=false:=fun i hi=>by
  have h1:=(hpart i (hBl i hi)).1
  rw [show B.contains i=true by simpa using hi,Bool.true_or] at h1
  have h2:L0.getD i true=false:=by simpa using h1
  exact getD_in (by rw [hs0];exact hBl i hi) h2
 refine main B.length L0 a0 w ?_ hrefl ⟨hn,rfl,fun _ _=>rfl,fun i hi o _ h=>?_,fun i hi o _ h=>?_,fun _ _=>rfl,hs0,fun i hi j hj _ oi oj di dj hoi _ _ _ h _=>?_⟩
 ·rw [List.countP_eq_length]
  intro i hi
  simp only [beq_iff_eq]
  exact hstart i hi
 ·rw [hstart i hi] at h;cases h
 ·rw [hstart i hi] at h;cases h
 ·rw [hstart i (hfrs i hi).1] at h;cases h
theorem allB_imp {F F':Nat->Oper->Prop} {l:List Oper} (h:∀i o,F i o->F' i o):∀{B:List Nat},allB F l B->allB F' l B
 | [],_=>trivial
 | _::_,⟨⟨o,ho,h1⟩,t⟩=>⟨⟨o,ho,h _ _ h1⟩,allB_imp h t⟩
theorem wpAny_body {l:List Oper} {a0:Act} {w:World} (n:Nat) (B T:List Nat) (f:Nat) (DS:List (Nat × Option Tmp)) (L0 L1:Array Bool) (R:World->World->Prop) (G:Nat->Value->World->Prop)
  (hchk:chk n l B T f L0 L1=true) (hds:(B.map fun i=>(i,(l[i]?).bind (·.dst)))=DS) (hn:a0.tmps.size=n) (hrefl:R w w) (htrans:∀a b c,R a b->R b c->R a c) (hmono:∀i v W W',G i v W->R W W'->G i v W')
  (hstep:allB (fun i o=>∀a W,Leans l n a0 B R G w o a W->∀K:Act->World->Prop,(∀v W',R W W'->G i v W'->K (a.put o.dst v) W')->wpOp P l.toArray Q i K a W) l B)
  (hend:∀(vs:Nat->Value) W,R w W->(∀i,B.contains i=true->G i (vs i) W)->wpAny P .any l.toArray Q T.length L1 (putD vs DS a0) W) :
  ∀(fuel:Nat),fuel=B.length+T.length->wpAny P .any l.toArray Q fuel L0 a0 w :=
 wpAny_bodyF n B T [] f DS L0 L1 R G hchk hds rfl hn hrefl htrans hmono (fun _ h=>by cases h) (allB_imp (fun _ _ h a W hl K hK=>h a W hl K fun v W' hR hG=>hK v W' hR hG fun h=>by cases h) hstep) (fun vs W hR hG _=>hend vs W hR hG)
theorem wpAny_next {ops:Array Oper} {fuel:Nat} {L:Array Bool} {a:Act} {w:World} (i:Nat) (hr:Region.ready .any ops L=[i]) (h:wpOp P ops Q i (wpAny P .any ops Q fuel (L.setIfInBounds i true)) a w):wpAny P .any ops Q (fuel+1) L a w:=by
 rw [wpAny]
 refine ⟨fun h0=>?_,fun j hj=>?_⟩
 ·rw [hr] at h0;cases h0
 ·rw [hr] at hj
  obtain rfl:=List.mem_singleton.1 hj
  exact h
theorem run_ldb {E:Operand->Value} {o:Oper} {W:World} {x:Operand} {g:Nat} {cs:Array Value} {ty:TypeId} {d:TypeDesc} (ho:o.op=.load ty x) (hx:E x=.pointer (some ⟨g,0,none⟩)) (hb:Blk W g ty cs) (hu:P.underlying ty=some d)
  (hd:(match d with | .struct _ | .array _ _=>true | _=>false)=true) (hi:(P.info? ty).map (·.size)=some cs.size):(execOp E o).run P W=.ok (.value (.agg cs)) W:=by
 unfold execOp
 simp only [ho,hx,Instr.loadAt,Instr.sureAddr,Sem.run_bind,Sem.run_pure,Result.andThen_ok,run_loadVar_row W g ty ty cs (0,0) d hb hu hd hi]
end
end Go.Proofs.YtdjmckjbibfecaaGreatDoor

import Derived.Test.YtdjmckjbibfecaaGreatDoorCa
namespace Go.Proofs.YtdjmckjbibfecaaGreatDoor
open Go
def Enough (t:Tree) (st:Nat->Nat) (S:Nat->Bool):Prop :=
 ∀s:Nat->Int,inR s 0 (atomsT t).length->(∀i,i<(atomsT t).length->S i=true->s i=st i)->(evalT s t 0).1≠0
theorem Enough.mono {t:Tree} {st:Nat->Nat} {S S':Nat->Bool} (h:Enough t st S) (hs:∀i,i<(atomsT t).length->S i=true->S' i=true):Enough t st S' :=
 fun s h1 h2=>h s h1 fun i hi hS=>h2 i hi (hs i hi hS)
def wOf (st:Nat->Nat) (S:Nat->Bool) (i:Nat):Nat:=if S i then 2 ^ st i else 7
theorem bit7 {r:Nat}:r<3->(7:Nat).testBit r=true:=by
 intro h
 have:r=0\/r=1\/r=2:=by omega
 rcases this with rfl | rfl | rfl<;>decide
theorem wOf_lt {st:Nat->Nat} (hst:∀i,st i<3) (S:Nat->Bool) (i:Nat):wOf st S i<8:=by
 unfold wOf
 split
 ·have:=hst i
  have:st i=0\/st i=1\/st i=2:=by omega
  rcases this with h | h | h<;>rw [h]<;>decide
 ·decide
theorem explains_iff {t:Tree} {st:Nat->Nat} (hst:∀i,st i<3) (S:Nat->Bool):(canT (wOf st S) t 0).1.testBit 0=false ↔ Enough t st S:=by
 have h:=(reachT (wOf_lt hst S) t 0).2 0 (by omega)
 rw [<-Bool.not_eq_true,h]
 constructor
 ·intro hn s h1 h2 h0
  refine hn ⟨s,fun i hi hl=>?_,h0⟩
  by_cases hS:S i=true
  ·refine ⟨st i,hst i,h2 i (by omega) hS,?_⟩
   unfold wOf;rw [if_pos hS];exact bit_two.2 rfl
  ·obtain ⟨r,hr,e⟩:=int3 (h1 i hi hl).1 (h1 i hi hl).2
   refine ⟨r,hr,e,?_⟩
   unfold wOf;rw [if_neg hS];exact bit7 hr
 ·rintro he ⟨s,hs,h0⟩
  refine he s (fitsW_inR hs) (fun i hi hS=>?_) h0
  obtain ⟨r,hr,e,ht⟩:=hs i (Nat.zero_le _) (by omega)
  unfold wOf at ht
  rw [if_pos hS] at ht
  rw [e,bit_two.1 ht]
def fillD (S:Nat->Bool):List Int->Nat->Nat->List Int
 | [],_,_=>[]
 | a::l,i,y=>if S i then a::fillD S l (i+1) y else ((y % 3:Nat):Int)::fillD S l (i+1) (y / 3)
def freeD (S:Nat->Bool):Nat->Nat->Nat
 | 0,_=>1
 | n+1,i=>if S i then freeD S n (i+1) else 3*freeD S n (i+1)
theorem freeD_pos (S:Nat->Bool):∀n i,0<freeD S n i
 | 0,_=>by simp [freeD]
 | n+1,i=>by
  rw [freeD]
  have:=freeD_pos S n (i+1)
  split<;>omega
theorem fillD_len (S:Nat->Bool):∀(l:List Int) (i y:Nat),(fillD S l i y).length=l.length
 | [],_,_=>rfl
 | a::l,i,y=>by
  rw [fillD]
  split<;>simp [fillD_len S l]
theorem fillD_in (S:Nat->Bool):∀(l:List Int) (i y k:Nat),k<l.length->(S (i+k)=true->(fillD S l i y)[k]?=l[k]?)/\(S (i+k)=false->∃r:Nat,r<3/\(fillD S l i y)[k]?=some (r:Int))
 | [],_,_,k,h=>by simp at h
 | a::l,i,y,0,_=>by
  rw [fillD,Nat.add_zero]
  split
  ·rename_i h;exact ⟨fun _=>rfl,fun h'=>by rw [h] at h';cases h'⟩
  ·rename_i h;exact ⟨fun h'=>absurd h' h,fun _=>⟨y % 3,by omega,rfl⟩⟩
 | a::l,i,y,k+1,h=>by
  rw [fillD]
  have e:i+(k+1)=i+1+k:=by omega
  rw [e]
  split
  ·simpa using fillD_in S l (i+1) y k (by simpa using h)
  ·simpa using fillD_in S l (i+1) (y / 3) k (by simpa using h)
theorem fillD_all (S:Nat->Bool):∀(l b:List Int) (i:Nat),b.length=l.length->(∀k,k<l.length->(S (i+k)=true->b[k]?=l[k]?)/\∃r:Nat,r<3/\b[k]?=some (r:Int))->∃x,x<freeD S l.length i/\fillD S l i x=b
 | [],[],_,_,_=>⟨0,by simp [freeD],rfl⟩
 | [],_::_,_,h,_=>by simp at h
 | _::_,[],_,h,_=>by simp at h
 | a::l,c::b,i,hl,h=>by
  obtain ⟨x,hx,e⟩:=fillD_all S l b (i+1) (by simpa using hl) (fun k hk=>by
   have:=h (k+1) (by simpa using hk)
   rw [show i+(k+1)=i+1+k by omega] at this
   simpa using this)
  have h0:=h 0 (by simp)
  rw [List.length_cons,freeD]
  by_cases hS:S i=true
  ·refine ⟨x,by rw [if_pos hS];exact hx,?_⟩
   rw [fillD,if_pos hS,e]
   have:c=a:=by simpa using h0.1 hS
   rw [this]
  ·obtain ⟨r,hr,er⟩:=h0.2
   have:c=(r:Int):=by simpa using er
   refine ⟨r+3*x,by rw [if_neg hS];omega,?_⟩
   rw [fillD,if_neg hS,show (r+3*x) % 3=r by omega,show (r+3*x) / 3=x by omega,e,this]
def atL (l:List Int) (i:Nat):Int:=(l[i]?).getD 0
def explD (t:Tree) (st:List Int) (S:Nat->Bool):Prop:=∀x,x<freeD S st.length 0->(evalT (atL (fillD S st 0 x)) t 0).1≠0
theorem explD_iff {t:Tree} {st:List Int} {stn:Nat->Nat} (hl:st.length=(atomsT t).length) (hst:∀i,i<st.length->st[i]?=some (stn i:Int)) (h3:∀i,stn i<3) (S:Nat->Bool):explD t st S ↔ Enough t stn S:=by
 constructor
 ·intro h s h1 h2
  obtain ⟨x,hx,e⟩:=fillD_all S st ((List.range st.length).map s) 0 (by simp) (fun k hk=>by
   have hg:((List.range st.length).map s)[k]?=some (s k):=by simp [hk]
   rw [hg,Nat.zero_add]
   obtain ⟨r,hr,er⟩:=int3 (h1 k (Nat.zero_le _) (by omega)).1 (h1 k (Nat.zero_le _) (by omega)).2
   exact ⟨fun hS=>by rw [hst k hk,h2 k (by omega) hS],r,hr,by rw [er]⟩)
  have:=h x hx
  rw [e] at this
  rw [evalT_cong t 0 (s':=atL ((List.range st.length).map s)) (fun i _ hi=>by
   unfold atL
   simp [show i<st.length by omega])]
  exact this
 ·intro h x hx
  refine h _ (fun i _ hi=>?_) (fun i hi hS=>?_)
  ·have hk:=fillD_in S st 0 x i (by omega)
   rw [Nat.zero_add] at hk
   unfold atL
   cases hS:S i with
   | true=>rw [hk.1 hS,hst i (by omega)];have:=h3 i;simp;omega
   | false=>obtain ⟨r,hr,e⟩:=hk.2 hS;rw [e];simp;omega
  ·have hk:=fillD_in S st 0 x i (by omega)
   rw [Nat.zero_add] at hk
   unfold atL
   rw [hk.1 hS,hst i (by omega)]
   rfl
def lexB:List Nat->List Nat->Bool
 | x::p,y::q=>if x=y then lexB p q else decide (x<y)
 | _,_=>false
def beforeB (p q:List Nat):Bool:=if p.length=q.length then lexB p q else decide (p.length<q.length)
theorem lex_asymm:∀{p q:List Nat},lexB p q=true->lexB q p=false
 | [],_,h=>by simp [lexB] at h
 | _::_,[],h=>by simp [lexB] at h
 | x::p,y::q,h=>by
  rw [lexB] at h ⊢
  split at h
  ·rename_i e;subst e;rw [if_pos rfl];exact lex_asymm h
  ·rename_i e;rw [if_neg (fun g=>e g.symm)];simp at h ⊢;omega
theorem lex_total:∀{p q:List Nat},p.length=q.length->p≠q->lexB p q=false->lexB q p=true
 | [],[],_,h,_=>absurd rfl h
 | [],_::_,h,_,_=>by simp at h
 | _::_,[],h,_,_=>by simp at h
 | x::p,y::q,hl,hne,h=>by
  rw [lexB] at h ⊢
  split at h
  ·rename_i e;subst e;rw [if_pos rfl];exact lex_total (by simpa using hl) (by simpa using hne) h
  ·rename_i e;rw [if_neg (fun g=>e g.symm)];simp at h ⊢;omega
theorem lex_trans:∀{p q r:List Nat},lexB p q=true->lexB q r=true->lexB p r=true
 | [],_,_,h,_=>by simp [lexB] at h
 | _::_,[],_,h,_=>by simp [lexB] at h
 | _::_,_::_,[],_,h=>by simp [lexB] at h
 | x::p,y::q,z::r,h,g=>by
  rw [lexB] at h g ⊢
  split at h
  ·rename_i e;subst e
   split at g
   ·rename_i e;subst e;rw [if_pos rfl];exact lex_trans h g
   ·rename_i e;rw [if_neg e];exact g
  ·rename_i e
   split at g
   ·rename_i e';subst e';rw [if_neg e];exact h
   ·rename_i e';simp at h g;rw [if_neg (by omega)];simp;omega
theorem before_asymm {p q:List Nat} (h:beforeB p q=true):beforeB q p=false:=by
 unfold beforeB at h ⊢
 split at h
 ·rename_i e;rw [if_pos e.symm];exact lex_asymm h
 ·rename_i e;rw [if_neg (fun g=>e g.symm)];simp at h ⊢;omega
theorem before_total {p q:List Nat} (hne:p≠q) (h:beforeB p q=false):beforeB q p=true:=by
 unfold beforeB at h ⊢
 split at h
 ·rename_i e;rw [if_pos e.symm];exact lex_total e hne h
 ·rename_i e;rw [if_neg (fun g=>e g.symm)];simp at h ⊢;omega
theorem before_trans {p q r:List Nat} (h:beforeB p q=true) (g:beforeB q r=true):beforeB p r=true:=by
 unfold beforeB at h g ⊢
 split at h
 ·rename_i e
  split at g
  ·rename_i e';rw [if_pos (e.trans e')];exact lex_trans h g
  ·rename_i e';rw [if_neg (by omega)];simp at g ⊢;omega
 ·rename_i e
  split at g
  ·rename_i e';rw [if_neg (by omega)];simp at h ⊢;omega
  ·rename_i e';simp at h g;rw [if_neg (by omega)];simp;omega
theorem sorted_ext:∀{l m:List (List Nat)},l.Pairwise (fun p q=>beforeB p q=true)->m.Pairwise (fun p q=>beforeB p q=true)->(∀p,p∈l ↔ p∈m)->l=m
 | [],[],_,_,_=>rfl
 | [],b::m,_,_,h=>by have:=(h b).2 (by simp);simp at this
 | a::l,[],_,_,h=>by have:=(h a).1 (by simp);simp at this
 | a::l,b::m,hl,hm,h=>by
  rw [List.pairwise_cons] at hl hm
  have irr:∀p,beforeB p p=true->False:=fun p hp=>by have:=before_asymm hp;rw [hp] at this;cases this
  have hab:a=b:=by
   refine Classical.byContradiction fun hne=>?_
   have h1:a∈m:=by
    rcases List.mem_cons.1 ((h a).1 (by simp)) with e | e
    ·exact absurd e hne
    ·exact e
   have h2:b∈l:=by
    rcases List.mem_cons.1 ((h b).2 (by simp)) with e | e
    ·exact absurd e.symm hne
    ·exact e
   have h3:=before_asymm (hl.1 b h2)
   rw [hm.1 a h1] at h3
   cases h3
  subst hab
  rw [sorted_ext hl.2 hm.2 (fun p=>⟨fun hp=>?_,fun hp=>?_⟩)]
  ·rcases List.mem_cons.1 ((h p).1 (by simp [hp])) with e | e
   ·subst e;exact (irr p (hl.1 p hp)).elim
   ·exact e
  ·rcases List.mem_cons.1 ((h p).2 (by simp [hp])) with e | e
   ·subst e;exact (irr p (hm.1 p hp)).elim
   ·exact e
def insD (p:List Nat) (out:List (List Nat)):List (List Nat):=out.takeWhile (fun q=>beforeB q p)++p::out.dropWhile (fun q=>beforeB q p)
theorem insD_mem {p q:List Nat} {out:List (List Nat)}:q∈insD p out ↔ q=p\/q∈out:=by
 unfold insD
 have:q∈out ↔ q∈out.takeWhile (fun q=>beforeB q p)\/q∈out.dropWhile (fun q=>beforeB q p):=by
  rw [<-List.mem_append,List.takeWhile_append_dropWhile]
 rw [this]
 simp only [List.mem_append,List.mem_cons]
 constructor
 ·rintro (h | h | h)
  ·exact .inr (.inl h)
  ·exact .inl h
  ·exact .inr (.inr h)
 ·rintro (h | h | h)
  ·exact .inr (.inl h)
  ·exact .inl h
  ·exact .inr (.inr h)
theorem insD_sorted:∀{out:List (List Nat)} {p:List Nat},out.Pairwise (fun p q=>beforeB p q=true)->p ∉ out->(insD p out).Pairwise (fun p q=>beforeB p q=true)
 | [],p,_,_=>by simp [insD]
 | a::out,p,h,hp=>by
  rw [List.pairwise_cons] at h
  have hne:a≠p:=fun e=>hp (by simp [e])
  unfold insD
  cases hb:beforeB a p with
  | true =>
   rw [List.takeWhile_cons_of_pos (p:=fun q=>beforeB q p) hb,List.dropWhile_cons_of_pos (p:=fun q=>beforeB q p) hb,List.cons_append,List.pairwise_cons]
   refine ⟨fun q hq=>?_,insD_sorted h.2 (fun g=>hp (by simp [g]))⟩
   rcases insD_mem.1 (show q∈insD p out from hq) with rfl | hq
   ·exact hb
   ·exact h.1 q hq
  | false =>
   rw [List.takeWhile_cons_of_neg (p:=fun q=>beforeB q p) (by rw [hb];simp),List.dropWhile_cons_of_neg (p:=fun q=>beforeB q p) (by rw [hb];simp),List.nil_append,List.pairwise_cons]
   have h1:=before_total hne hb
   refine ⟨fun q hq=>?_,List.pairwise_cons.2 h⟩
   rcases List.mem_cons.1 hq with rfl | hq
   ·exact h1
   ·exact before_trans h1 (h.1 q hq)
def subB (f a:Nat):Bool:=decide (f &&& a=f)
theorem subB_iff {f a:Nat}:subB f a=true ↔ ∀i,f.testBit i=true->a.testBit i=true:=by
 unfold subB
 rw [decide_eq_true_iff]
 constructor
 ·intro h i hi
  have:(f &&& a).testBit i=true:=by rw [h];exact hi
  rw [Nat.testBit_and,Bool.and_eq_true] at this
  exact this.2
 ·intro h
  apply Nat.eq_of_testBit_eq
  intro i
  rw [Nat.testBit_and]
  cases hi:f.testBit i with
  | true=>rw [h i hi];rfl
  | false=>rfl
theorem subB_refl (a:Nat):subB a a=true:=subB_iff.2 fun _ h=>h
theorem subB_trans {a b c:Nat} (h:subB a b=true) (g:subB b c=true):subB a c=true:=subB_iff.2 fun i hi=>subB_iff.1 g i (subB_iff.1 h i hi)
def stepF (E:Nat->Bool) (F:List Nat) (a:Nat):List Nat:=if (!(F.any fun f=>subB f a))&&E a then F++[a] else F
structure FoundInv (E:Nat->Bool) (pre F:List Nat):Prop where
 in_:∀f∈F,f∈pre/\E f=true
 below:∀c∈pre,E c=true->∃f∈F,subB f c=true
 least:∀f∈F,∀c∈pre,subB c f=true->c≠f->E c=false
 all:∀c∈pre,E c=true->(∀b∈pre,subB b c=true->b≠c->E b=false)->c∈F
 sub:F.Sublist pre
theorem FoundInv.step {E:Nat->Bool} {pre F:List Nat} (h:FoundInv E pre F) {a:Nat} (ha:∀c∈pre,subB a c=false):FoundInv E (pre++[a]) (stepF E F a):=by
 have hne:∀c∈pre,c≠a:=fun c hc e=>by
  have:=ha c hc
  rw [e,subB_refl] at this
  cases this
 unfold stepF
 by_cases hc:((!(F.any fun f=>subB f a))&&E a)=true
 ·rw [if_pos hc]
  simp only [Bool.and_eq_true,Bool.not_eq_true',List.any_eq_false] at hc
  obtain ⟨h1,h2⟩:=hc
  refine ⟨fun f hf=>?_,fun c hc hE=>?_,fun f hf c hc hs hcf=>?_,fun c hc hE hall=>?_,h.sub.append (List.Sublist.refl _)⟩
  ·rcases List.mem_append.1 hf with hf | hf
   ·exact ⟨by simp [(h.in_ f hf).1],(h.in_ f hf).2⟩
   ·obtain rfl:=List.mem_singleton.1 hf
    exact ⟨by simp,h2⟩
  ·rcases List.mem_append.1 hc with hc | hc
   ·obtain ⟨f,hf,hs⟩:=h.below c hc hE
    exact ⟨f,by simp [hf],hs⟩
   ·obtain rfl:=List.mem_singleton.1 hc
    exact ⟨c,by simp,subB_refl c⟩
  ·rcases List.mem_append.1 hf with hf' | hf
   ·rcases List.mem_append.1 hc with hc | hc
    ·exact h.least f hf' c hc hs hcf
    ·obtain rfl:=List.mem_singleton.1 hc
     have:=ha f (h.in_ f hf').1
     rw [this] at hs
     cases hs
   ·obtain rfl:=List.mem_singleton.1 hf
    rcases List.mem_append.1 hc with hc | hc
    ·cases hE:E c with
     | false=>rfl
     | true =>
      obtain ⟨g,hg,hgs⟩:=h.below c hc hE
      exact absurd (subB_trans hgs hs) (by simpa using h1 g hg)
    ·obtain rfl:=List.mem_singleton.1 hc
     exact absurd rfl hcf
  ·rcases List.mem_append.1 hc with hc | hc
   ·exact List.mem_append.2 (.inl (h.all c hc hE fun b hb=>hall b (by simp [hb])))
   ·exact List.mem_append.2 (.inr hc)
 ·rw [if_neg hc]
  have hno:E a=true->∃f∈F,subB f a=true:=fun hE=>by
   simp only [hE,Bool.and_true,Bool.not_eq_true',Bool.not_eq_false] at hc
   simpa using hc
  refine ⟨fun f hf=>⟨by simp [(h.in_ f hf).1],(h.in_ f hf).2⟩,fun c hc hE=>?_,fun f hf c hc hs hcf=>?_,fun c hc hE hall=>?_,h.sub.trans (List.sublist_append_left _ _)⟩
  ·rcases List.mem_append.1 hc with hc | hc
   ·exact h.below c hc hE
   ·obtain rfl:=List.mem_singleton.1 hc
    exact hno hE
  ·rcases List.mem_append.1 hc with hc | hc
   ·exact h.least f hf c hc hs hcf
   ·obtain rfl:=List.mem_singleton.1 hc
    have:=ha f (h.in_ f hf).1
    rw [this] at hs
    cases hs
  ·rcases List.mem_append.1 hc with hc | hc
   ·exact h.all c hc hE fun b hb=>hall b (by simp [hb])
   ·obtain rfl:=List.mem_singleton.1 hc
    obtain ⟨f,hf,hs⟩:=hno hE
    have h1:=hall f (by simp [(h.in_ f hf).1]) hs (hne f (h.in_ f hf).1)
    rw [(h.in_ f hf).2] at h1
    cases h1
theorem found_inv {E:Nat->Bool}:∀(post pre F:List Nat),FoundInv E pre F->(pre++post).Pairwise (fun a b=>subB b a=false)->FoundInv E (pre++post) (post.foldl (stepF E) F)
 | [],pre,F,h,_=>by simpa using h
 | a::post,pre,F,h,hp=>by
  have h1:∀c∈pre,subB a c=false:=fun c hc=>(List.pairwise_append.1 hp).2.2 c hc a (by simp)
  have:=found_inv post (pre++[a]) _ (h.step h1) (by simpa using hp)
  simpa using this
def foundM (E:Nat->Bool) (ss:List Nat):List Nat:=ss.foldl (stepF E) []
theorem found_spec {E:Nat->Bool} {ss:List Nat} (h:ss.Pairwise (fun a b=>subB b a=false)):(foundM E ss).Sublist ss/\∀a,a∈foundM E ss ↔ a∈ss/\E a=true/\∀b∈ss,subB b a=true->b≠a->E b=false:=by
 have hi:FoundInv E ([]++ss) (foundM E ss):=found_inv ss [] [] ⟨by simp,by simp,by simp,by simp,List.Sublist.refl _⟩ (by simpa using h)
 rw [List.nil_append] at hi
 exact ⟨hi.sub,fun a=>⟨fun ha=>⟨(hi.in_ a ha).1,(hi.in_ a ha).2,fun b hb hs hne=>hi.least a ha b hb hs hne⟩,fun ⟨h1,h2,h3⟩=>hi.all a h1 h2 h3⟩⟩
def plcM:Nat->Nat->Nat->List Nat
 | _,0,_=>[]
 | k,n+1,a=>if a.testBit n then k::plcM (k+1) n a else plcM (k+1) n a
theorem plcM_ge:∀(n k a x:Nat),x∈plcM k n a->k<=x
 | 0,_,_,_,h=>by simp [plcM] at h
 | n+1,k,a,x,h=>by
  rw [plcM] at h
  split at h
  ·rcases List.mem_cons.1 h with rfl | h
   ·exact Nat.le_refl _
   ·have:=plcM_ge n (k+1) a x h;omega
  ·have:=plcM_ge n (k+1) a x h;omega
theorem plcM_filter:∀(n k a:Nat),plcM k n a=(List.range' k n).filter fun i=>a.testBit (k+n-1-i)
 | 0,_,_=>rfl
 | n+1,k,a=>by
  rw [plcM,plcM_filter n (k+1) a,List.range'_succ,List.filter_cons]
  have e:k+(n+1)-1-k=n:=by omega
  rw [e]
  have e2:((List.range' (k+1) n).filter fun i=>a.testBit (k+1+n-1-i))=(List.range' (k+1) n).filter fun i=>a.testBit (k+(n+1)-1-i):=by
   congr 1;funext i;congr 1;omega
  rw [e2]
theorem plcM_mod:∀(n k a b:Nat),(∀i,i<n->a.testBit i=b.testBit i)->plcM k n a=plcM k n b
 | 0,_,_,_,_=>rfl
 | n+1,k,a,b,h=>by
  rw [plcM,plcM,h n (by omega),plcM_mod n (k+1) a b (fun i hi=>h i (by omega))]
theorem lex_of_gt:∀(n k a b:Nat),a<2 ^ n->b<2 ^ n->b<a->(plcM k n a).length=(plcM k n b).length->lexB (plcM k n a) (plcM k n b)=true
 | 0,_,a,b,ha,_,hb,_=>by simp at ha;omega
 | n+1,k,a,b,ha,hb,hlt,hl=>by
  rw [plcM,plcM] at hl ⊢
  have ta:a.testBit n=decide (2 ^ n<=a):=by
   rw [Nat.testBit_eq_decide_div_mod_eq]
   have:a / 2 ^ n<2:=Nat.div_lt_of_lt_mul (by rw [Nat.pow_succ] at ha;omega)
   by_cases h:2 ^ n<=a
   ·have:1<=a / 2 ^ n:=(Nat.one_le_div_iff (Nat.two_pow_pos n)).2 h
    simp [h];omega
   ·have:a / 2 ^ n=0:=Nat.div_eq_of_lt (by omega)
    simp [h,this]
  have tb:b.testBit n=decide (2 ^ n<=b):=by
   rw [Nat.testBit_eq_decide_div_mod_eq]
   have:b / 2 ^ n<2:=Nat.div_lt_of_lt_mul (by rw [Nat.pow_succ] at hb;omega)
   by_cases h:2 ^ n<=b
   ·have:1<=b / 2 ^ n:=(Nat.one_le_div_iff (Nat.two_pow_pos n)).2 h
    simp [h];omega
   ·have:b / 2 ^ n=0:=Nat.div_eq_of_lt (by omega)
    simp [h,this]
  rw [Nat.pow_succ] at ha hb
  by_cases h1:2 ^ n<=a<;>by_cases h2:2 ^ n<=b
  ·rw [ta,tb,dtZ h1,dtZ h2,if_pos rfl,if_pos rfl] at hl ⊢
   have e:∀c,2 ^ n<=c->plcM (k+1) n c=plcM (k+1) n (c-2 ^ n):=fun c hc=>plcM_mod n (k+1) _ _ fun i hi=>by
    have:c=2 ^ n+(c-2 ^ n):=by omega
    rw [this,Nat.testBit_two_pow_add_gt hi]
    congr 1
    omega
   rw [e a h1,e b h2] at hl ⊢
   rw [lexB,if_pos rfl]
   exact lex_of_gt n (k+1) _ _ (by omega) (by omega) (by omega) (by simpa using hl)
  ·rw [ta,tb,dtZ h1,dfZ h2,if_pos rfl,if_neg (by simp)] at hl ⊢
   cases hq:plcM (k+1) n b with
   | nil=>rw [hq] at hl;simp at hl
   | cons y q =>
    have:k+1<=y:=plcM_ge n (k+1) b y (by rw [hq];simp)
    rw [lexB,if_neg (by omega)]
    simp;omega
  ·omega
  ·rw [ta,tb,dfZ h1,dfZ h2,if_neg (by simp),if_neg (by simp)] at hl ⊢
   exact lex_of_gt n (k+1) a b (by omega) (by omega) hlt hl
def setP (m a:Nat) (i:Nat):Bool:=a.testBit (m-1-i)
def explB (t:Tree) (stn:Nat->Nat) (m a:Nat):Bool:=!((canT (wOf stn (setP m a)) t 0).1.testBit 0)
def coresP (t:Tree) (stn:Nat->Nat) (m:Nat) (ss:List Nat):List (List Nat):=(foundM (explB t stn m) ss).map (plcM 0 m)
def plcD (m a:Nat):List Nat:=(List.range m).filter fun i=>a.testBit i
def explRB (t:Tree) (st:List Int) (a:Nat):Bool:=(List.range (freeD (fun i=>a.testBit i) st.length 0)).all fun x=>decide ((evalT (atL (fillD (fun i=>a.testBit i) st 0 x)) t 0).1≠0)
def leastRB (t:Tree) (st:List Int) (a:Nat):Bool:=(List.range st.length).all fun i=>!(a.testBit i&&explRB t st (a-2 ^ i))
def stepD (t:Tree) (st:List Int) (out:List (List Nat)) (a:Nat):List (List Nat):=if explRB t st a&&leastRB t st a then insD (plcD st.length a) out else out
def coresD (t:Tree) (st:List Int):List (List Nat):=(List.range (2 ^ st.length)).foldl (stepD t st) []
theorem mask_of:∀(n:Nat) (T:Nat->Bool),∃a,a<2 ^ n/\∀i,i<n->a.testBit i=T i
 | 0,_=>⟨0,by simp,fun i h=>by omega⟩
 | n+1,T=>by
  obtain ⟨a,ha,h⟩:=mask_of n T
  cases hT:T n with
  | false =>
   refine ⟨a,by rw [Nat.pow_succ];omega,fun i hi=>?_⟩
   by_cases e:i=n
   ·subst e;rw [hT];exact Nat.testBit_lt_two_pow ha
   ·exact h i (by omega)
  | true =>
   refine ⟨2 ^ n+a,by rw [Nat.pow_succ];omega,fun i hi=>?_⟩
   by_cases e:i=n
   ·subst e;rw [hT,Nat.testBit_two_pow_add_eq,Nat.testBit_lt_two_pow ha];rfl
   ·rw [Nat.testBit_two_pow_add_gt (by omega)];exact h i (by omega)
theorem mask_ext {m a b:Nat} (ha:a<2 ^ m) (hb:b<2 ^ m) (h:∀i,i<m->a.testBit i=b.testBit i):a=b:=by
 apply Nat.eq_of_testBit_eq
 intro i
 by_cases hi:i<m
 ·exact h i hi
 ·rw [Nat.testBit_lt_two_pow (Nat.lt_of_lt_of_le ha (Nat.pow_le_pow_right (by omega) (by omega))),Nat.testBit_lt_two_pow (Nat.lt_of_lt_of_le hb (Nat.pow_le_pow_right (by omega) (by omega)))]
def IsCore (t:Tree) (stn:Nat->Nat) (p:List Nat):Prop :=
 ∃S:Nat->Bool,p=(List.range (atomsT t).length).filter S/\Enough t stn S/\∀i,i<(atomsT t).length->S i=true->¬Enough t stn (fun q=>S q&&decide (q≠i))
theorem enough_cong {t:Tree} {stn:Nat->Nat} {S S':Nat->Bool} (h:∀i,i<(atomsT t).length->S i=S' i):Enough t stn S ↔ Enough t stn S' :=
 ⟨fun e=>e.mono fun i hi hS=>by rw [<-h i hi];exact hS,fun e=>e.mono fun i hi hS=>by rw [h i hi];exact hS⟩
theorem filter_cong_lt {m:Nat} {S S':Nat->Bool} (h:∀i,i<m->S i=S' i):(List.range m).filter S=(List.range m).filter S' :=
 List.filter_congr fun i hi=>h i (List.mem_range.1 hi)
theorem sub_bit:∀(i:Nat) {a:Nat} (_:a.testBit i=true) (q:Nat),(a-2 ^ i).testBit q=(a.testBit q&&decide (q≠i))
 | 0,a,h,q=>by
  have ho:a % 2=1:=by simpa [Nat.testBit_zero] using h
  cases q with
  | zero=>simp [Nat.testBit_zero];omega
  | succ q =>
   rw [Nat.testBit_succ,Nat.testBit_succ,Nat.pow_zero,show (a-1) / 2=a / 2 by omega]
   simp
 | i+1,a,h,q=>by
  have hle:2 ^ (i+1)<=a:=Nat.ge_two_pow_of_testBit h
  rw [Nat.pow_succ] at hle ⊢
  rw [Nat.testBit_succ] at h
  cases q with
  | zero =>
   rw [Nat.testBit_zero,Nat.testBit_zero,show (a-2 ^ i*2) % 2=a % 2 by omega]
   simp
  | succ q =>
   rw [Nat.testBit_succ,Nat.testBit_succ,show (a-2 ^ i*2) / 2=a / 2-2 ^ i by omega,sub_bit i h q]
   congr 1
   simp
section
variable {t:Tree} {stn:Nat->Nat} (h3:∀i,stn i<3)
include h3
theorem explB_iff (m a:Nat):explB t stn m a=true ↔ Enough t stn (setP m a):=by
 unfold explB
 rw [Bool.not_eq_true',explains_iff h3]
theorem coreP_iff {m:Nat} (hm:(atomsT t).length=m) {p:List Nat}:(∃a,a<2 ^ m/\explB t stn m a=true/\(∀b,b<2 ^ m->subB b a=true->b≠a->explB t stn m b=false)/\p=plcM 0 m a) ↔ IsCore t stn p:=by
 have hpl:∀a,plcM 0 m a=(List.range m).filter (setP m a):=fun a=>by
  rw [plcM_filter,<-List.range_eq_range']
  congr 1
  funext i
  unfold setP
  congr 1
  omega
 unfold IsCore
 constructor
 ·rintro ⟨a,ha,he,hl,rfl⟩
  refine ⟨setP m a,by rw [hm,hpl],(explB_iff h3 m a).1 he,fun i hi hS hE=>?_⟩
  rw [hm] at hi
  obtain ⟨b,hb,hT⟩:=mask_of m (fun k=>a.testBit k&&decide (k≠m-1-i))
  have hsb:∀q,q<(atomsT t).length->setP m b q=(setP m a q&&decide (q≠i)):=fun q hq=>by
   unfold setP
   rw [hT _ (by omega)]
   congr 1
   have:m-1-q≠m-1-i ↔ q≠i:=by omega
   simp only [this]
  have hbe:=(explB_iff h3 m b).2 ((enough_cong hsb).2 hE)
  have hs:subB b a=true:=subB_iff.2 fun k hk=>by
   by_cases hkm:k<m
   ·rw [hT k hkm,Bool.and_eq_true] at hk;exact hk.1
   ·rw [Nat.testBit_lt_two_pow (Nat.lt_of_lt_of_le hb (Nat.pow_le_pow_right (by omega) (by omega)))] at hk;cases hk
  have hne:b≠a:=by
   rintro rfl
   have:=hsb i (by omega)
   rw [hS] at this
   simp at this
  rw [hl b hb hs hne] at hbe
  cases hbe
 ·rintro ⟨S,rfl,hE,hl⟩
  obtain ⟨a,ha,hT⟩:=mask_of m (fun k=>S (m-1-k))
  have hsa:∀q,q<(atomsT t).length->setP m a q=S q:=fun q hq=>by
   unfold setP
   rw [hT _ (by omega)]
   congr 1
   omega
  refine ⟨a,ha,(explB_iff h3 m a).2 ((enough_cong hsa).2 hE),fun b hb hs hne=>?_,by rw [hpl,hm];exact filter_cong_lt fun i hi=>(hsa i (by omega)).symm⟩
  cases hbe:explB t stn m b with
  | false=>rfl
  | true =>
   have hbE:=(explB_iff h3 m b).1 hbe
   have:∃k,k<m/\a.testBit k=true/\b.testBit k=false:=by
    refine Classical.byContradiction fun hno=>hne (mask_ext hb ha fun i hi=>?_)
    cases hai:a.testBit i with
    | true =>
     cases hbi:b.testBit i with
     | true=>rfl
     | false=>exact absurd ⟨i,hi,hai,hbi⟩ hno
    | false =>
     cases hbi:b.testBit i with
     | true=>have:=subB_iff.1 hs i hbi;rw [hai] at this;cases this
     | false=>rfl
   obtain ⟨k,hk,hak,hbk⟩:=this
   refine absurd (hbE.mono fun i hi hS=>?_) (hl (m-1-k) (by omega) ?_)
   ·unfold setP at hS
    have h1:=subB_iff.1 hs _ hS
    have h2:S i=true:=by rw [<-hsa i hi];exact h1
    have h4:i≠m-1-k:=by
     rintro rfl
     rw [show m-1-(m-1-k)=k by omega,hbk] at hS
     cases hS
    simp [h2,h4]
   ·rw [<-hsa _ (by omega)]
    unfold setP
    rw [show m-1-(m-1-k)=k by omega]
    exact hak
theorem explRB_iff {st:List Int} (hl:st.length=(atomsT t).length) (hst:∀i,i<st.length->st[i]?=some (stn i:Int)) (a:Nat):explRB t st a=true ↔ Enough t stn (fun i=>a.testBit i):=by
 rw [<-explD_iff hl hst h3]
 unfold explRB explD
 rw [List.all_eq_true]
 simp only [List.mem_range,decide_eq_true_eq]
theorem coreD_iff {st:List Int} {m:Nat} (hm:(atomsT t).length=m) (hl:st.length=m) (hst:∀i,i<st.length->st[i]?=some (stn i:Int)) {p:List Nat}:(∃a,a<2 ^ m/\(explRB t st a&&leastRB t st a)=true/\p=plcD m a) ↔ IsCore t stn p:=by
 have hl':st.length=(atomsT t).length:=by omega
 unfold IsCore
 have hleast:∀a,leastRB t st a=true ↔ ∀i,i<m->a.testBit i=true->¬Enough t stn (fun q=>a.testBit q&&decide (q≠i)):=fun a=>by
  unfold leastRB
  rw [List.all_eq_true]
  simp only [List.mem_range,hl]
  constructor
  ·intro h i hi hb hE
   have h1:=h i hi
   rw [hb,Bool.true_and,Bool.not_eq_true'] at h1
   have h2:=(explRB_iff h3 hl' hst (a-2 ^ i)).2 ((enough_cong fun q _=>sub_bit _ hb q).2 hE)
   rw [h1] at h2
   cases h2
  ·intro h i hi
   cases hb:a.testBit i with
   | false=>rfl
   | true =>
    cases he:explRB t st (a-2 ^ i) with
    | false=>rfl
    | true=>exact absurd ((enough_cong fun q _=>sub_bit _ hb q).1 ((explRB_iff h3 hl' hst _).1 he)) (h i hi hb)
 constructor
 ·rintro ⟨a,ha,he,rfl⟩
  rw [Bool.and_eq_true] at he
  exact ⟨fun i=>a.testBit i,by rw [hm];rfl,(explRB_iff h3 hl' hst a).1 he.1,fun i hi=>(hleast a).1 he.2 i (by omega)⟩
 ·rintro ⟨S,rfl,hE,hls⟩
  obtain ⟨a,ha,hT⟩:=mask_of m S
  refine ⟨a,ha,?_,?_⟩
  ·rw [Bool.and_eq_true]
   refine ⟨(explRB_iff h3 hl' hst a).2 ((enough_cong fun q hq=>hT q (by omega)).2 hE),(hleast a).2 fun i hi hb hE'=>hls i (by omega) (by rw [<-hT i hi];exact hb) ((enough_cong fun q hq=>?_).1 hE')⟩
   rw [hT q (by omega)]
  ·rw [hm];exact (filter_cong_lt fun i hi=>(hT i hi)).symm
end
theorem plcD_inj {m a b:Nat} (ha:a<2 ^ m) (hb:b<2 ^ m) (h:plcD m a=plcD m b):a=b:=by
 refine mask_ext ha hb fun i hi=>?_
 have h1:i∈plcD m a ↔ a.testBit i=true:=by unfold plcD;simp [hi]
 have h2:i∈plcD m b ↔ b.testBit i=true:=by unfold plcD;simp [hi]
 rw [h] at h1
 have:=h1.symm.trans h2
 rw [Bool.eq_iff_iff]
 exact this
theorem foldD {t:Tree} {st:List Int} {m:Nat} (hl:st.length=m):∀(n:Nat),n<=2 ^ m->((List.range n).foldl (stepD t st) []).Pairwise (fun p q=>beforeB p q=true) /\
  ∀p,p∈(List.range n).foldl (stepD t st) [] ↔ ∃a,a<n/\(explRB t st a&&leastRB t st a)=true/\p=plcD m a
 | 0,_=>by simp
 | n+1,h=>by
  obtain ⟨h1,h2⟩:=foldD (t:=t) hl n (by omega)
  rw [List.range_succ,List.foldl_append,List.foldl_cons,List.foldl_nil]
  obtain ⟨out,hout⟩:∃o,(List.range n).foldl (stepD t st) []=o:=⟨_,rfl⟩
  simp only [hout] at h1 h2 ⊢
  unfold stepD
  by_cases hc:(explRB t st n&&leastRB t st n)=true
  ·rw [if_pos hc,hl]
   refine ⟨insD_sorted h1 fun hp=>?_,fun p=>?_⟩
   ·obtain ⟨a,ha,_,e⟩:=(h2 _).1 hp
    have:=plcD_inj (by omega) (by omega) e
    omega
   ·rw [insD_mem]
    constructor
    ·rintro (rfl | hp)
     ·exact ⟨n,by omega,hc,rfl⟩
     ·obtain ⟨a,ha,h3,e⟩:=(h2 p).1 hp
      exact ⟨a,by omega,h3,e⟩
    ·rintro ⟨a,ha,h3,e⟩
     by_cases hn:a=n
     ·subst hn;exact .inl e
     ·exact .inr ((h2 p).2 ⟨a,by omega,h3,e⟩)
  ·rw [if_neg hc]
   refine ⟨h1,fun p=>(h2 p).trans ⟨fun ⟨a,ha,h3,e⟩=>⟨a,by omega,h3,e⟩,fun ⟨a,ha,h3,e⟩=>⟨a,?_,h3,e⟩⟩⟩
   have:a≠n:=by rintro rfl;exact hc h3
   omega
theorem plc_le:∀(n k a b:Nat),(∀i,i<n->b.testBit i=true->a.testBit i=true)->(plcM k n b).length<=(plcM k n a).length/\((∃i,i<n/\a.testBit i=true/\b.testBit i=false)->(plcM k n b).length<(plcM k n a).length)
 | 0,_,_,_,_=>⟨Nat.le_refl _,fun ⟨i,h,_⟩=>by omega⟩
 | n+1,k,a,b,h=>by
  obtain ⟨h1,h2⟩:=plc_le n (k+1) a b fun i hi=>h i (by omega)
  rw [plcM,plcM]
  cases hb:b.testBit n with
  | true =>
   rw [h n (by omega) hb]
   simp only [if_true,List.length_cons]
   refine ⟨by omega,fun ⟨i,hi,ha,hbi⟩=>?_⟩
   have:i≠n:=by rintro rfl;rw [hb] at hbi;cases hbi
   have:=h2 ⟨i,by omega,ha,hbi⟩
   omega
  | false =>
   cases ha:a.testBit n with
   | true=>simp only [if_true,Bool.false_eq_true,if_false,List.length_cons];exact ⟨by omega,fun _=>by omega⟩
   | false =>
    simp only [Bool.false_eq_true,if_false]
    refine ⟨h1,fun ⟨i,hi,hai,hbi⟩=>h2 ⟨i,?_,hai,hbi⟩⟩
    have:i≠n:=by rintro rfl;rw [ha] at hai;cases hai
    omega
def aheadP (m a b:Nat):Prop:=(plcM 0 m a).length<(plcM 0 m b).length\/((plcM 0 m a).length=(plcM 0 m b).length/\b<a)
theorem ahead_sub {m a b:Nat} (ha:a<2 ^ m) (hb:b<2 ^ m) (h:aheadP m a b):subB b a=false:=by
 cases hs:subB b a with
 | false=>rfl
 | true =>
  have hsub:=subB_iff.1 hs
  obtain ⟨h1,h2⟩:=plc_le m 0 a b fun i _=>hsub i
  rcases h with h | ⟨h,hlt⟩
  ·omega
  ·have:∃i,i<m/\a.testBit i=true/\b.testBit i=false:=by
    refine Classical.byContradiction fun hno=>?_
    have:b=a:=mask_ext hb ha fun i hi=>by
     cases hai:a.testBit i with
     | true =>
      cases hbi:b.testBit i with
      | true=>rfl
      | false=>exact absurd ⟨i,hi,hai,hbi⟩ hno
     | false =>
      cases hbi:b.testBit i with
      | true=>have:=hsub i hbi;rw [hai] at this;cases this
      | false=>rfl
    omega
   have:=h2 this
   omega
theorem ahead_before {m a b:Nat} (ha:a<2 ^ m) (hb:b<2 ^ m) (h:aheadP m a b):beforeB (plcM 0 m a) (plcM 0 m b)=true:=by
 unfold beforeB
 rcases h with h | ⟨h,hlt⟩
 ·rw [if_neg (by omega)];simpa using h
 ·rw [if_pos h];exact lex_of_gt m 0 a b ha hb hlt h
theorem cores_same {t:Tree} {stn:Nat->Nat} (h3:∀i,stn i<3) {st:List Int} {m:Nat} (hm:(atomsT t).length=m) (hl:st.length=m) (hst:∀i,i<st.length->st[i]?=some (stn i:Int))
  {ss:List Nat} (hmem:∀a,a∈ss ↔ a<2 ^ m) (hss:ss.Pairwise (aheadP m)):coresP t stn m ss=coresD t st:=by
 have hlt:∀a∈ss,a<2 ^ m:=fun a ha=>(hmem a).1 ha
 have hsub:ss.Pairwise (fun a b=>subB b a=false):=List.Pairwise.imp_of_mem (fun ha hb h=>ahead_sub (hlt _ ha) (hlt _ hb) h) hss
 obtain ⟨f1,f2⟩:=found_spec (E:=explB t stn m) hsub
 obtain ⟨d1,d2⟩:=foldD (t:=t) hl (2 ^ m) leZ
 unfold coresP coresD
 rw [hl]
 refine sorted_ext ?_ d1 fun p=>?_
 ·rw [List.pairwise_map]
  refine List.Pairwise.imp_of_mem (fun ha hb h=>ahead_before (hlt _ (f1.subset ha)) (hlt _ (f1.subset hb)) h) (hss.sublist f1)
 ·rw [d2 p,coreD_iff h3 hm hl hst,<-coreP_iff h3 hm,List.mem_map]
  constructor
  ·rintro ⟨a,ha,rfl⟩
   obtain ⟨g1,g2,g3⟩:=(f2 a).1 ha
   exact ⟨a,hlt a g1,g2,fun b hb=>g3 b ((hmem b).2 hb),rfl⟩
  ·rintro ⟨a,ha,g2,g3,rfl⟩
   exact ⟨a,(f2 a).2 ⟨(hmem a).2 ha,g2,fun b hb=>g3 b (hlt b hb)⟩,rfl⟩
end Go.Proofs.YtdjmckjbibfecaaGreatDoor

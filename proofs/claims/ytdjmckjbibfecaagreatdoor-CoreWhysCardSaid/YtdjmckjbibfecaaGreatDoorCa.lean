import Derived.Test.YtdjmckjbibfecaaGreatDoorT
namespace Go.Proofs.YtdjmckjbibfecaaGreatDoor
open Go Go.RowKit Go.BigFrame Go.Maps
set_option maxRecDepth 100000
set_option maxHeartbeats 1600000
def numF (s:List UInt8):Option Int:=match Lib.parseIntB 64 s with
 | .ok v=>if -4611686018427387904<=v/\v<=4611686018427387904/\Lib.itoa v=s then some v else none
 | _=>none
def twoN (r:Option Int):Value:=.tuple #[.int .i64 (r.getD 0),.bool r.isSome]
theorem below_bytes (w:World) (t:ByteArray):Bz w (Lib.bytesWorld w 5 t):=by
 unfold Lib.bytesWorld
 exact Lib.below_freeze ((Below.drew (Below.refl _ w)).alloc leZ _) (p:=⟨w.heap.size,_,none⟩) leZ 1
theorem parse_i64 {s:List UInt8} {v:Int} (h:Lib.parseIntB 64 s=.ok v) : -9223372036854775808<=v/\v<=9223372036854775807:=by
 unfold Lib.parseIntB at h
 split at h
 ·cases h
 ·simp only at h
  split at h
  ·cases h
  ·cases h
  ·split at h
   ·cases h
   ·split at h
    ·cases h
    ·rename_i u _ h1 h2
     simp only [Lib.NumEnd.ok.injEq] at h
     subst h
     split<;>simp_all<;>omega
theorem format_any (n:Int) (w:World) (h0 : -9223372036854775808<=n) (h1:n<=9223372036854775807) (he:Env w) :
  Calls Tryz.prog 157 #[.int .i64 n,.int .i64 10] w fun e w'=>e=.returned (.string (mkB (Lib.itoa n)))/\Bz w w':=by
 have he':=hdZ he
 clear he
 go_enter Tryz.func157,Tryz.ntmps157
 go_wp2_with fail
 refine (Tryz.internal_strconv_FormatInt_10 n h0 h1 w he'.out.tab).mono ?_
 rintro e w' ⟨rfl,k,os,rfl⟩
 go_wp2_with fail
 go_ret
 exact ⟨rfl,below_grows w k os⟩
def Parsed (s:ByteArray) (w:World) (e:Ending) (w':World):Prop:=Bz w w'/\((∃v,Lib.parseIntB 64 s.data.toList=.ok v/\e=.returned (.tuple #[.int .i64 v,.nilIface]))\/(∃v t p,(∀v,Lib.parseIntB 64 s.data.toList≠.ok v)/\e=.returned (.tuple #[.int .i64 v,.iface t p])))
theorem parseInt_any (s:ByteArray) (w:World) (hs:s.size<=4000000) (he:Env w):Calls Tryz.prog 156 #[.string s,.int .i64 10,.int .i64 64] w (Parsed s w):=by
 cases hp:Lib.parseIntB 64 s.data.toList with
 | ok v =>
  refine (Tryz.strconv_ParseInt_10_at64_ok s (by omega) v hp w).mono ?_
  rintro e w' ⟨rfl,h | ⟨t,h⟩⟩
  ·subst h;exact ⟨Below.refl _ _,.inl ⟨v,hp,rfl⟩⟩
  ·subst h;exact ⟨below_bytes w t,.inl ⟨v,hp,rfl⟩⟩
 | range =>
  obtain ⟨te,pe,hv⟩:=he.ran
  refine (Tryz.strconv_ParseInt_10_at64_range s (by omega) hp _ w hv (.inr ⟨te,pe,rfl⟩)).mono ?_
  rintro e w' ⟨N,rfl,_,_,hb⟩
  exact ⟨hb,.inr ⟨_,_,_,(fun v=>by rw [hp];intro h;cases h),rfl⟩⟩
 | _ =>
  obtain ⟨te,pe,hv⟩:=he.syn
  refine (Any.strconv_ParseInt_10_at64_syntax Tryz.laysC174 s (by omega) hp _ w hv (.inr ⟨te,pe,rfl⟩)).mono ?_
  rintro e w' ⟨N,rfl,_,_,hb⟩
  exact ⟨hb,.inr ⟨_,_,_,(fun v=>by rw [hp];intro h;cases h),rfl⟩⟩
theorem number_any (s:ByteArray) (w:World) (hs:s.size<=4000000) (he:Env w) :
  Calls Tryz.prog 99 #[.string s] w fun e w'=>e=.returned (twoN (numF s.data.toList))/\Bz w w':=by
 have he':=hdZ he
 clear he
 go_enter Tryz.func99,Tryz.ntmps99
 go_wp2_with fail
 refine (parseInt_any s w hs he'.out).mono ?_
 rintro e w1 ⟨hb1,⟨v,hp,rfl⟩ | ⟨v,t,p,hp,rfl⟩⟩
 ·have hv:=parse_i64 hp
  have hp':=hdZ hp
  clear hp
  obtain ⟨hv0,hv1⟩:=hv
  by_cases hlo:v < -4611686018427387904
  ·have h0:Hid (numF s.data.toList=none):=by unfold numF Hid;rw [hp'.out];simp only;rw [if_neg (by omega)]
   skip
   go_wp2_with fail
   go_ret2
   exact ⟨by rw [h0.out];rfl,hb1⟩
  ·by_cases hhi:4611686018427387904<v
   ·have h0:Hid (numF s.data.toList=none):=by unfold numF Hid;rw [hp'.out];simp only;rw [if_neg (by omega)]
    skip
    go_wp2_with fail
    go_ret2
    exact ⟨by rw [h0.out];rfl,hb1⟩
   ·have hr:=hdZ (And.intro hv0 hv1)
    clear hv0 hv1
    go_wp2_with fail
    refine (format_any v w1 hr.out.1 hr.out.2 (he'.out.below hb1)).mono ?_
    rintro e w2 ⟨rfl,hb2⟩
    have hB2:Bz w w2:=hb1.trans (hb2.mono hb1.size)
    by_cases hq:(mkB (Lib.itoa v)).toList=s.toList
    ·have hq1:((mkB (Lib.itoa v)).toList==s.toList)=true:=by simp [hq]
     have hq':=hdZ hq
     clear hq
     go_wp2_with fail
     all_goals try (exfalso;simp_all;omega)
     go_ret2
     refine ⟨?_,hB2⟩
     unfold numF
     rw [hp'.out];simp only
     have e1:Lib.itoa v=s.data.toList:=by have:=hq'.out;simpa [mkB,ByteArray.toList_eq] using this
     rw [if_pos ⟨by omega,by omega,e1⟩]
     rfl
    ·have hq1:((mkB (Lib.itoa v)).toList==s.toList)=false:=by simp [hq]
     have hq':=hdZ hq
     clear hq
     go_wp2_with fail
     all_goals try (exfalso;simp_all;omega)
     go_ret2
     refine ⟨?_,hB2⟩
     unfold numF
     rw [hp'.out];simp only
     rw [if_neg]
     ·rfl
     ·rintro ⟨_,_,e1⟩
      apply hq'.out
      rw [e1]
      simp [mkB]
 ·have h0:Hid (numF s.data.toList=none):=by
   unfold numF Hid
   split
   ·rename_i u hu;exact absurd hu (hp u)
   ·rfl
  skip
  have hp':=hdZ hp
  clear hp
  go_wp2_with fail
  go_ret2
  exact ⟨by rw [h0.out];rfl,hb1⟩
inductive Tree where
 | mk (kind paper:Int) (field text:ByteArray) (num:Int) (A:Option Addr) (c:Nat) (L:List Tree):Tree
def Tree.kind:Tree->Int | .mk k _ _ _ _ _ _ _=>k
def Tree.field:Tree->ByteArray | .mk _ _ f _ _ _ _ _=>f
def Tree.sub:Tree->List Tree | .mk _ _ _ _ _ _ _ L=>L
def Tree.cells:Tree->Array Value | .mk k p f x n A c L=>#[.int .i64 k,.int .i64 p,.string f,.string x,.int .i64 n,.slice A L.length c]
def CellsAt (w:World) (A:Option Addr) (j:Nat):Tree->Prop
 | .mk k p f x n A' c L=>∃b off,A=some ⟨b,off,none⟩/\w.cell? ⟨b,off+j*6,none⟩=some (.int .i64 k)/\w.cell? ⟨b,off+j*6+1,none⟩=some (.int .i64 p)/\w.cell? ⟨b,off+j*6+2,none⟩=some (.string f) /\
   w.cell? ⟨b,off+j*6+3,none⟩=some (.string x)/\w.cell? ⟨b,off+j*6+4,none⟩=some (.int .i64 n)/\w.cell? ⟨b,off+j*6+5,none⟩=some (.slice A' L.length c)
theorem CellsAt.below {w w':World} {A:Option Addr} {j:Nat} {t:Tree} (h:CellsAt w A j t) (hb:Bz w w'):CellsAt w' A j t:=by
 obtain ⟨k,p,f,x,n,A',c,L⟩:=t
 obtain ⟨b,off,e,h0,h1,h2,h3,h4,h5⟩:=h
 have hlt:b<w.heap.size:=World.block_lt_of_cell? w _ h0
 exact ⟨b,off,e,by rw [hb.cell hlt];exact h0,by rw [hb.cell hlt];exact h1,by rw [hb.cell hlt];exact h2,by rw [hb.cell hlt];exact h3,by rw [hb.cell hlt];exact h4,by rw [hb.cell hlt];exact h5⟩
mutual
def TreeAt (w:World):Tree->Prop
 | .mk _ _ _ _ _ A _ L=>RowsAt w A 0 L/\L.length<=maxLen
def RowsAt (w:World) (A:Option Addr) (j:Nat):List Tree->Prop
 | []=>True
 | t::L=>CellsAt w A j t/\TreeAt w t/\RowsAt w A (j+1) L
end
mutual
theorem TreeAt.below {w w':World} (hb:Bz w w'):∀{t:Tree},TreeAt w t->TreeAt w' t
 | .mk _ _ _ _ _ A _ L,h=>by
  rw [TreeAt] at h ⊢
  exact ⟨RowsAt.below hb h.1,h.2⟩
theorem RowsAt.below {w w':World} (hb:Bz w w'):∀{A:Option Addr} {j:Nat} {L:List Tree},RowsAt w A j L->RowsAt w' A j L
 | _,_,[],_=>by rw [RowsAt];trivial
 | _,_,t::L,h=>by
  rw [RowsAt] at h ⊢
  exact ⟨h.1.below hb,TreeAt.below hb h.2.1,RowsAt.below hb h.2.2⟩
end
theorem RowsAt.get {w:World}:∀{A:Option Addr} {j:Nat} {L:List Tree} (_:RowsAt w A j L) (k:Nat) (t:Tree),L[k]?=some t->CellsAt w A (j+k) t/\TreeAt w t
 | _,_,[],_,k,t,hk=>by simp at hk
 | _,_,u::L,h,0,t,hk=>by
  rw [RowsAt] at h
  simp at hk;subst hk
  exact ⟨h.1,h.2.1⟩
 | _,j,u::L,h,k+1,t,hk=>by
  rw [RowsAt] at h
  have:=RowsAt.get h.2.2 k t (by simpa using hk)
  rw [show j+1+k=j+(k+1) by omega] at this
  exact this
def soT (b:Bool):Int:=if b then 0 else 2
def atomT (docs:List Pap) (k p:Int) (x:ByteArray) (n:Int) (v:ByteArray):Int :=
 if k=3 then soT (decide (v.toList=x.toList))
 else if k=4 then soT (Lib.contains v.data.toList x.data.toList)
 else if k=5 then soT (match numF v.data.toList with | some m=>decide (m<=n) | none=>false)
 else if k=6 then soT (match numF v.data.toList with | some m=>decide (n<=m) | none=>false)
 else if k=7 then (match fieldD docs p x with | some u=>soT (decide (v.toList=u.toList)) | none=>1)
 else 2
mutual
def holdsT (docs:List Pap) (d:Pap):Tree->Int
 | .mk k p f x n _ _ L =>
  if k=0 then greatT docs d L 0
  else if k=1 then leastT docs d L 2
  else if k=2 then 2-greatT docs d L 0
  else if 3<=k/\k<=7 then (match getF d.fields f with | some v=>atomT docs k p x n v | none=>1)
  else 2
def greatT (docs:List Pap) (d:Pap):List Tree->Int->Int
 | [],s=>s
 | t::L,s=>greatT docs d L (max s (holdsT docs d t))
def leastT (docs:List Pap) (d:Pap):List Tree->Int->Int
 | [],s=>s
 | t::L,s=>leastT docs d L (min s (holdsT docs d t))
end
theorem soT_range (b:Bool):0<=soT b/\soT b<=2:=by unfold soT;split<;>omega
theorem atomT_range (docs:List Pap) (k p:Int) (x:ByteArray) (n:Int) (v:ByteArray):0<=atomT docs k p x n v/\atomT docs k p x n v<=2:=by
 unfold atomT
 repeat' split
 all_goals first | exact soT_range _ | omega
mutual
theorem holdsT_range (docs:List Pap) (d:Pap):∀t:Tree,0<=holdsT docs d t/\holdsT docs d t<=2
 | .mk k p f x n _ _ L=>by
  rw [holdsT]
  have h1:=greatT_range docs d L 0 (by omega) (by omega)
  have h2:=leastT_range docs d L 2 (by omega) (by omega)
  repeat' split
  all_goals first | exact atomT_range _ _ _ _ _ _ | omega
theorem greatT_range (docs:List Pap) (d:Pap):∀(L:List Tree) (s:Int),0<=s->s<=2->0<=greatT docs d L s/\greatT docs d L s<=2
 | [],s,h0,h1=>by rw [greatT];exact ⟨h0,h1⟩
 | t::L,s,h0,h1=>by
  rw [greatT]
  have:=holdsT_range docs d t
  exact greatT_range docs d L _ (by omega) (by omega)
theorem leastT_range (docs:List Pap) (d:Pap):∀(L:List Tree) (s:Int),0<=s->s<=2->0<=leastT docs d L s/\leastT docs d L s<=2
 | [],s,h0,h1=>by rw [leastT];exact ⟨h0,h1⟩
 | t::L,s,h0,h1=>by
  rw [leastT]
  have:=holdsT_range docs d t
  exact leastT_range docs d L _ (by omega) (by omega)
end
def SmallD (docs:List Pap):Prop:=∀d∈docs,∀f∈d.fields,f.value.size<=4000000
theorem getF_mem:∀{l:List Fld} {s v:ByteArray},getF l s=some v->∃f∈l,f.value=v
 | [],_,_,h=>by simp [getF] at h
 | x::l,s,v,h=>by
  rw [getF] at h
  split at h
  ·exact ⟨x,by simp,by simpa using h⟩
  ·obtain ⟨f,hf,e⟩:=getF_mem h
   exact ⟨f,by simp [hf],e⟩
open Go
mutual
def atomsT:Tree->List Tree
 | .mk k p f x n A c L=>if 3<=k/\k<=7 then [.mk k p f x n A c L] else if 0<=k/\k<=2 then atomsL L else []
def atomsL:List Tree->List Tree
 | []=>[]
 | t::L=>atomsT t++atomsL L
end
mutual
def evalT (s:Nat->Int):Tree->Nat->Int × Nat
 | .mk k _ _ _ _ _ _ L,j =>
  if 3<=k/\k<=7 then (s j,j+1)
  else if k=0 then greatE s L j 0
  else if k=1 then leastE s L j 2
  else if k=2 then (2-(greatE s L j 0).1,(greatE s L j 0).2)
  else (2,j)
def greatE (s:Nat->Int):List Tree->Nat->Int->Int × Nat
 | [],j,a=>(a,j)
 | t::L,j,a=>greatE s L (evalT s t j).2 (max a (evalT s t j).1)
def leastE (s:Nat->Int):List Tree->Nat->Int->Int × Nat
 | [],j,a=>(a,j)
 | t::L,j,a=>leastE s L (evalT s t j).2 (min a (evalT s t j).1)
end
def crossM (op:Nat->Nat->Nat) (a b:Nat):Nat :=
 (List.range 9).foldl (fun s q=>if a.testBit (q / 3)&&b.testBit (q % 3) then s ||| 2 ^ op (q / 3) (q % 3) else s) 0
mutual
def canT (w:Nat->Nat):Tree->Nat->Nat × Nat
 | .mk k _ _ _ _ _ _ L,j =>
  if 3<=k/\k<=7 then (w j,j+1)
  else if k=0 then greatC w L j 1
  else if k=1 then leastC w L j 4
  else if k=2 then (crossM (fun a b=>b-a) (greatC w L j 1).1 4,(greatC w L j 1).2)
  else (4,j)
def greatC (w:Nat->Nat):List Tree->Nat->Nat->Nat × Nat
 | [],j,a=>(a,j)
 | t::L,j,a=>greatC w L (canT w t j).2 (crossM max a (canT w t j).1)
def leastC (w:Nat->Nat):List Tree->Nat->Nat->Nat × Nat
 | [],j,a=>(a,j)
 | t::L,j,a=>leastC w L (canT w t j).2 (crossM min a (canT w t j).1)
end
mutual
theorem evalT_next (s:Nat->Int):∀(t:Tree) (j:Nat),(evalT s t j).2=j+(atomsT t).length
 | .mk k p f x n A c L,j=>by
  rw [evalT,atomsT]
  by_cases h:3<=k/\k<=7
  ·rw [if_pos h,if_pos h];rfl
  rw [if_neg h,if_neg h]
  by_cases h0:k=0
  ·rw [if_pos h0,if_pos (by omega),greatE_next s L j 0]
  rw [if_neg h0]
  by_cases h1:k=1
  ·rw [if_pos h1,if_pos (by omega),leastE_next s L j 2]
  rw [if_neg h1]
  by_cases h2:k=2
  ·rw [if_pos h2,if_pos (by omega)];exact greatE_next s L j 0
  rw [if_neg h2,if_neg (by omega)];rfl
theorem greatE_next (s:Nat->Int):∀(L:List Tree) (j:Nat) (a:Int),(greatE s L j a).2=j+(atomsL L).length
 | [],j,a=>by rw [greatE,atomsL];rfl
 | t::L,j,a=>by rw [greatE,atomsL,greatE_next s L,evalT_next s t,List.length_append];omega
theorem leastE_next (s:Nat->Int):∀(L:List Tree) (j:Nat) (a:Int),(leastE s L j a).2=j+(atomsL L).length
 | [],j,a=>by rw [leastE,atomsL];rfl
 | t::L,j,a=>by rw [leastE,atomsL,leastE_next s L,evalT_next s t,List.length_append];omega
end
mutual
theorem canT_next (w:Nat->Nat):∀(t:Tree) (j:Nat),(canT w t j).2=j+(atomsT t).length
 | .mk k p f x n A c L,j=>by
  rw [canT,atomsT]
  by_cases h:3<=k/\k<=7
  ·rw [if_pos h,if_pos h];rfl
  rw [if_neg h,if_neg h]
  by_cases h0:k=0
  ·rw [if_pos h0,if_pos (by omega),greatC_next w L j 1]
  rw [if_neg h0]
  by_cases h1:k=1
  ·rw [if_pos h1,if_pos (by omega),leastC_next w L j 4]
  rw [if_neg h1]
  by_cases h2:k=2
  ·rw [if_pos h2,if_pos (by omega)];exact greatC_next w L j 1
  rw [if_neg h2,if_neg (by omega)];rfl
theorem greatC_next (w:Nat->Nat):∀(L:List Tree) (j:Nat) (a:Nat),(greatC w L j a).2=j+(atomsL L).length
 | [],j,a=>by rw [greatC,atomsL];rfl
 | t::L,j,a=>by rw [greatC,atomsL,greatC_next w L,canT_next w t,List.length_append];omega
theorem leastC_next (w:Nat->Nat):∀(L:List Tree) (j:Nat) (a:Nat),(leastC w L j a).2=j+(atomsL L).length
 | [],j,a=>by rw [leastC,atomsL];rfl
 | t::L,j,a=>by rw [leastC,atomsL,leastC_next w L,canT_next w t,List.length_append];omega
end
mutual
theorem evalT_cong {s s':Nat->Int}:∀(t:Tree) (j:Nat),(∀i,j<=i->i<j+(atomsT t).length->s i=s' i)->evalT s t j=evalT s' t j
 | .mk k p f x n A c L,j,hs=>by
  rw [atomsT] at hs
  rw [evalT,evalT]
  by_cases h:3<=k/\k<=7
  ·rw [if_pos h,if_pos h]
   rw [if_pos h] at hs
   rw [hs j leZ (by simp)]
  rw [if_neg h,if_neg h]
  rw [if_neg h] at hs
  by_cases h3:0<=k/\k<=2
  ·rw [if_pos h3] at hs
   rw [greatE_cong L j 0 hs,leastE_cong L j 2 hs]
  ·rw [if_neg (by omega),if_neg (by omega),if_neg (by omega),if_neg (by omega),if_neg (by omega),if_neg (by omega)]
theorem greatE_cong {s s':Nat->Int}:∀(L:List Tree) (j:Nat) (a:Int),(∀i,j<=i->i<j+(atomsL L).length->s i=s' i)->greatE s L j a=greatE s' L j a
 | [],j,a,_=>by rw [greatE,greatE]
 | t::L,j,a,hs=>by
  rw [atomsL,List.length_append] at hs
  rw [greatE,greatE,evalT_cong t j (fun i h1 h2=>hs i h1 (by omega))]
  exact greatE_cong L _ _ (fun i h1 h2=>by rw [evalT_next] at h1 h2;exact hs i (by omega) (by omega))
theorem leastE_cong {s s':Nat->Int}:∀(L:List Tree) (j:Nat) (a:Int),(∀i,j<=i->i<j+(atomsL L).length->s i=s' i)->leastE s L j a=leastE s' L j a
 | [],j,a,_=>by rw [leastE,leastE]
 | t::L,j,a,hs=>by
  rw [atomsL,List.length_append] at hs
  rw [leastE,leastE,evalT_cong t j (fun i h1 h2=>hs i h1 (by omega))]
  exact leastE_cong L _ _ (fun i h1 h2=>by rw [evalT_next] at h1 h2;exact hs i (by omega) (by omega))
end
theorem cross_max:∀a b:Fin 8,∀v:Fin 3,(crossM max a.val b.val).testBit v.val=true ↔ ∃i j:Fin 3,a.val.testBit i.val=true/\b.val.testBit j.val=true/\max i.val j.val=v.val:=by decide
theorem cross_min:∀a b:Fin 8,∀v:Fin 3,(crossM min a.val b.val).testBit v.val=true ↔ ∃i j:Fin 3,a.val.testBit i.val=true/\b.val.testBit j.val=true/\min i.val j.val=v.val:=by decide
theorem cross_not:∀a:Fin 8,∀v:Fin 3,(crossM (fun x y=>y-x) a.val 4).testBit v.val=true ↔ ∃i:Fin 3,a.val.testBit i.val=true/\2-i.val=v.val:=by decide
theorem cross_lt8:∀a b:Fin 8,crossM max a.val b.val<8/\crossM min a.val b.val<8:=by decide
theorem cross_lt8n:∀a:Fin 8,crossM (fun x y=>y-x) a.val 4<8:=by decide
def inR (s:Nat->Int) (j n:Nat):Prop:=∀i,j<=i->i<j+n->0<=s i/\s i<=2
mutual
theorem evalT_range {s:Nat->Int}:∀(t:Tree) (j:Nat),inR s j (atomsT t).length->0<=(evalT s t j).1/\(evalT s t j).1<=2
 | .mk k p f x n A c L,j,hs=>by
  rw [atomsT] at hs
  rw [evalT]
  by_cases h:3<=k/\k<=7
  ·rw [if_pos h]
   rw [if_pos h] at hs
   exact hs j leZ (by simp)
  rw [if_neg h]
  rw [if_neg h] at hs
  by_cases h3:0<=k/\k<=2
  ·rw [if_pos h3] at hs
   have g:=greatE_range L j 0 (by omega) (by omega) hs
   have l:=leastE_range L j 2 (by omega) (by omega) hs
   repeat' split
   all_goals first | exact g | exact l | (simp only;omega)
  ·rw [if_neg (by omega),if_neg (by omega),if_neg (by omega)];simp
theorem greatE_range {s:Nat->Int}:∀(L:List Tree) (j:Nat) (a:Int),0<=a->a<=2->inR s j (atomsL L).length->0<=(greatE s L j a).1/\(greatE s L j a).1<=2
 | [],j,a,h0,h1,_=>by rw [greatE];exact ⟨h0,h1⟩
 | t::L,j,a,h0,h1,hs=>by
  rw [atomsL,List.length_append] at hs
  rw [greatE]
  have ht:=evalT_range t j (fun i h1 h2=>hs i h1 (by omega))
  exact greatE_range L _ _ (by omega) (by omega) (fun i h1 h2=>by rw [evalT_next] at h1 h2;exact hs i (by omega) (by omega))
theorem leastE_range {s:Nat->Int}:∀(L:List Tree) (j:Nat) (a:Int),0<=a->a<=2->inR s j (atomsL L).length->0<=(leastE s L j a).1/\(leastE s L j a).1<=2
 | [],j,a,h0,h1,_=>by rw [leastE];exact ⟨h0,h1⟩
 | t::L,j,a,h0,h1,hs=>by
  rw [atomsL,List.length_append] at hs
  rw [leastE]
  have ht:=evalT_range t j (fun i h1 h2=>hs i h1 (by omega))
  exact leastE_range L _ _ (by omega) (by omega) (fun i h1 h2=>by rw [evalT_next] at h1 h2;exact hs i (by omega) (by omega))
end
def fitsW (s:Nat->Int) (w:Nat->Nat) (j n:Nat):Prop:=∀i,j<=i->i<j+n->∃r:Nat,r<3/\s i=r/\(w i).testBit r=true
theorem fitsW_inR {s:Nat->Int} {w:Nat->Nat} {j n:Nat} (h:fitsW s w j n):inR s j n:=fun i h1 h2=>by
 obtain ⟨r,hr,e,_⟩:=h i h1 h2
 omega
theorem fitsW_join {s s':Nat->Int} {w:Nat->Nat} {j n m:Nat} (h:fitsW s w j n) (h':fitsW s' w (j+n) m):fitsW (fun q=>if q<j+n then s q else s' q) w j (n+m):=fun i h1 h2=>by
 by_cases hi:i<j+n
 ·obtain ⟨r,hr,e,ht⟩:=h i h1 hi
  exact ⟨r,hr,by simp only [if_pos hi];exact e,ht⟩
 ·obtain ⟨r,hr,e,ht⟩:=h' i (by omega) (by omega)
  exact ⟨r,hr,by simp only [if_neg hi];exact e,ht⟩
theorem int3 {v:Int} (h0:0<=v) (h1:v<=2):∃r:Nat,r<3/\v=r:=⟨v.toNat,by omega,by omega⟩
def Reach (c:Nat) (P:Nat->Prop):Prop:=c<8/\∀v,v<3->(c.testBit v=true ↔ P v)
theorem reach_max {a c:Nat} {P:Nat->Prop} (ha:a<8) (hc:Reach c P):Reach (crossM max a c) (fun v=>∃i j,i<3/\j<3/\a.testBit i=true/\P j/\max i j=v):=by
 refine ⟨(cross_lt8 ⟨a,ha⟩ ⟨c,hc.1⟩).1,fun v hv=>?_⟩
 rw [cross_max ⟨a,ha⟩ ⟨c,hc.1⟩ ⟨v,hv⟩]
 constructor
 ·rintro ⟨i,j,h1,h2,h3⟩
  exact ⟨i,j,i.2,j.2,h1,(hc.2 j j.2).1 h2,h3⟩
 ·rintro ⟨i,j,hi,hj,h1,h2,h3⟩
  exact ⟨⟨i,hi⟩,⟨j,hj⟩,h1,(hc.2 j hj).2 h2,h3⟩
theorem reach_min {a c:Nat} {P:Nat->Prop} (ha:a<8) (hc:Reach c P):Reach (crossM min a c) (fun v=>∃i j,i<3/\j<3/\a.testBit i=true/\P j/\min i j=v):=by
 refine ⟨(cross_lt8 ⟨a,ha⟩ ⟨c,hc.1⟩).2,fun v hv=>?_⟩
 rw [cross_min ⟨a,ha⟩ ⟨c,hc.1⟩ ⟨v,hv⟩]
 constructor
 ·rintro ⟨i,j,h1,h2,h3⟩
  exact ⟨i,j,i.2,j.2,h1,(hc.2 j j.2).1 h2,h3⟩
 ·rintro ⟨i,j,hi,hj,h1,h2,h3⟩
  exact ⟨⟨i,hi⟩,⟨j,hj⟩,h1,(hc.2 j hj).2 h2,h3⟩
theorem bit_two {r v:Nat}:(2 ^ r).testBit v=true ↔ r=v:=by simp [Nat.testBit_two_pow]
mutual
theorem reachT {w:Nat->Nat} (hw:∀i,w i<8):∀(t:Tree) (j:Nat),Reach (canT w t j).1 (fun v=>∃s,fitsW s w j (atomsT t).length/\(evalT s t j).1=v)
 | .mk k p f x n A c L,j=>by
  rw [canT,atomsT]
  by_cases h:3<=k/\k<=7
  ·rw [if_pos h,if_pos h]
   refine ⟨hw j,fun v hv=>⟨fun hb=>⟨fun _=>v,fun i h1 h2=>⟨v,hv,rfl,?_⟩,?_⟩,fun ⟨s,hs,he⟩=>?_⟩⟩
   ·have:i=j:=by simp at h2;omega
    subst this;exact hb
   ·rw [evalT,if_pos h]
   ·rw [evalT,if_pos h] at he
    obtain ⟨r,hr,e,ht⟩:=hs j leZ (by simp)
    have:r=v:=by simp only at he;omega
    subst this;exact ht
  rw [if_neg h,if_neg h]
  by_cases h0:k=0
  ·rw [if_pos h0,if_pos (by omega)]
   have:=reachG hw L j 1 (by omega)
   refine ⟨this.1,fun v hv=>(this.2 v hv).trans ⟨fun ⟨r,hr,hb,s,hs,he⟩=>⟨s,hs,?_⟩,fun ⟨s,hs,he⟩=>⟨0,by omega,by decide,s,hs,?_⟩⟩⟩
   ·have r0:r=0:=by
     have:=bit_two (r:=0) (v:=r)
     exact (this.1 hb).symm
    subst r0
    rw [evalT,if_neg h,if_pos h0];exact he
   ·rw [evalT,if_neg h,if_pos h0] at he;exact he
  rw [if_neg h0]
  by_cases h1:k=1
  ·rw [if_pos h1,if_pos (by omega)]
   have:=reachL hw L j 4 (by omega)
   refine ⟨this.1,fun v hv=>(this.2 v hv).trans ⟨fun ⟨r,hr,hb,s,hs,he⟩=>⟨s,hs,?_⟩,fun ⟨s,hs,he⟩=>⟨2,by omega,by decide,s,hs,?_⟩⟩⟩
   ·have r0:r=2:=by
     have:=bit_two (r:=2) (v:=r)
     exact (this.1 hb).symm
    subst r0
    rw [evalT,if_neg h,if_neg h0,if_pos h1];exact he
   ·rw [evalT,if_neg h,if_neg h0,if_pos h1] at he;exact he
  rw [if_neg h1]
  by_cases h2:k=2
  ·rw [if_pos h2,if_pos (by omega)]
   have:=reachG hw L j 1 (by omega)
   refine ⟨cross_lt8n ⟨_,this.1⟩,fun v hv=>?_⟩
   have hx:=cross_not ⟨_,this.1⟩ ⟨v,hv⟩
   refine hx.trans ⟨fun ⟨i,hi,e⟩=>?_,fun ⟨s,hs,he⟩=>?_⟩
   ·obtain ⟨r,hr,hb,s,hs,he⟩:=(this.2 i i.2).1 hi
    have r0:r=0:=((bit_two (r:=0) (v:=r)).1 hb).symm
    subst r0
    refine ⟨s,hs,?_⟩
    rw [evalT,if_neg h,if_neg h0,if_neg h1,if_pos h2]
    have e':2-i.val=v:=e
    have hi2:=i.2
    have he':(greatE s L j 0).1=(i.val:Int):=he
    show 2-(greatE s L j 0).1=(v:Int)
    rw [he']
    omega
   ·rw [evalT,if_neg h,if_neg h0,if_neg h1,if_pos h2] at he
    simp only at he
    have hr:=greatE_range L j 0 (by omega) (by omega) (fitsW_inR hs)
    obtain ⟨i,hi,ei⟩:=int3 hr.1 hr.2
    refine ⟨⟨i,hi⟩,(this.2 i hi).2 ⟨0,by omega,by decide,s,hs,ei⟩,?_⟩
    show 2-i=v
    omega
  rw [if_neg h2,if_neg (by omega)]
  refine ⟨by omega,fun v hv=>⟨fun hb=>⟨fun _=>0,fun i h1 h2=>by simp at h2;omega,?_⟩,fun ⟨s,hs,he⟩=>?_⟩⟩
  ·have r0:v=2:=((bit_two (r:=2) (v:=v)).1 hb).symm
   subst r0
   rw [evalT,if_neg h,if_neg h0,if_neg h1,if_neg h2];rfl
  ·rw [evalT,if_neg h,if_neg h0,if_neg h1,if_neg h2] at he
   have:v=2:=by simp only at he;omega
   subst this
   show Nat.testBit 4 2=true
   decide
theorem reachG {w:Nat->Nat} (hw:∀i,w i<8):∀(L:List Tree) (j a:Nat),a<8->Reach (greatC w L j a).1 (fun v=>∃r,r<3/\a.testBit r=true/\∃s,fitsW s w j (atomsL L).length/\(greatE s L j r).1=v)
 | [],j,a,ha=>by
  rw [greatC,atomsL]
  refine ⟨ha,fun v hv=>⟨fun hb=>⟨v,hv,hb,fun _=>0,fun i h1 h2=>by simp at h2;omega,by rw [greatE]⟩,fun ⟨r,hr,hb,s,hs,he⟩=>?_⟩⟩
  rw [greatE] at he
  have:r=v:=by simp only at he;omega
  subst this;exact hb
 | t::L,j,a,ha=>by
  rw [greatC,canT_next,atomsL,List.length_append]
  have ht:=reachT hw t j
  have hm:=reach_max ha ht
  have hL:=reachG hw L (j+(atomsT t).length) _ hm.1
  refine ⟨hL.1,fun v hv=>(hL.2 v hv).trans ⟨fun ⟨r,hr,hb,s,hs,he⟩=>?_,fun ⟨r,hr,hb,s,hs,he⟩=>?_⟩⟩
  ·obtain ⟨i,i',hi,hi',h1,⟨s1,hs1,he1⟩,h3⟩:=(hm.2 r hr).1 hb
   refine ⟨i,hi,h1,_,fitsW_join hs1 hs,?_⟩
   rw [greatE,evalT_next]
   have e1:evalT (fun q=>if q<j+(atomsT t).length then s1 q else s q) t j=evalT s1 t j:=evalT_cong t j (fun q h1 h2=>by simp only [if_pos h2])
   have e2:∀b,greatE (fun q=>if q<j+(atomsT t).length then s1 q else s q) L (j+(atomsT t).length) b=greatE s L (j+(atomsT t).length) b:=fun b=>greatE_cong L _ b (fun q h1 h2=>by rw [if_neg (by omega)])
   rw [e1,e2,he1,show max (i:Int) (i':Int)=(r:Int) by omega]
   exact he
  ·rw [greatE,evalT_next] at he
   have hr1:=evalT_range t j (fitsW_inR fun q h1 h2=>hs q h1 (by omega))
   obtain ⟨i',hi',ei⟩:=int3 hr1.1 hr1.2
   refine ⟨max r i',by omega,(hm.2 _ (by omega)).2 ⟨r,i',hr,hi',hb,⟨s,fun q h1 h2=>hs q h1 (by omega),ei⟩,rfl⟩,s,fun q h1 h2=>hs q (by omega) (by omega),?_⟩
   rw [<-he,ei,show ((max r i':Nat):Int)=max (r:Int) (i':Int) by omega]
theorem reachL {w:Nat->Nat} (hw:∀i,w i<8):∀(L:List Tree) (j a:Nat),a<8->Reach (leastC w L j a).1 (fun v=>∃r,r<3/\a.testBit r=true/\∃s,fitsW s w j (atomsL L).length/\(leastE s L j r).1=v)
 | [],j,a,ha=>by
  rw [leastC,atomsL]
  refine ⟨ha,fun v hv=>⟨fun hb=>⟨v,hv,hb,fun _=>0,fun i h1 h2=>by simp at h2;omega,by rw [leastE]⟩,fun ⟨r,hr,hb,s,hs,he⟩=>?_⟩⟩
  rw [leastE] at he
  have:r=v:=by simp only at he;omega
  subst this;exact hb
 | t::L,j,a,ha=>by
  rw [leastC,canT_next,atomsL,List.length_append]
  have ht:=reachT hw t j
  have hm:=reach_min ha ht
  have hL:=reachL hw L (j+(atomsT t).length) _ hm.1
  refine ⟨hL.1,fun v hv=>(hL.2 v hv).trans ⟨fun ⟨r,hr,hb,s,hs,he⟩=>?_,fun ⟨r,hr,hb,s,hs,he⟩=>?_⟩⟩
  ·obtain ⟨i,i',hi,hi',h1,⟨s1,hs1,he1⟩,h3⟩:=(hm.2 r hr).1 hb
   refine ⟨i,hi,h1,_,fitsW_join hs1 hs,?_⟩
   rw [leastE,evalT_next]
   have e1:evalT (fun q=>if q<j+(atomsT t).length then s1 q else s q) t j=evalT s1 t j:=evalT_cong t j (fun q h1 h2=>by simp only [if_pos h2])
   have e2:∀b,leastE (fun q=>if q<j+(atomsT t).length then s1 q else s q) L (j+(atomsT t).length) b=leastE s L (j+(atomsT t).length) b:=fun b=>leastE_cong L _ b (fun q h1 h2=>by rw [if_neg (by omega)])
   rw [e1,e2,he1,show min (i:Int) (i':Int)=(r:Int) by omega]
   exact he
  ·rw [leastE,evalT_next] at he
   have hr1:=evalT_range t j (fitsW_inR fun q h1 h2=>hs q h1 (by omega))
   obtain ⟨i',hi',ei⟩:=int3 hr1.1 hr1.2
   refine ⟨min r i',by omega,(hm.2 _ (by omega)).2 ⟨r,i',hr,hi',hb,⟨s,fun q h1 h2=>hs q h1 (by omega),ei⟩,rfl⟩,s,fun q h1 h2=>hs q (by omega) (by omega),?_⟩
   rw [<-he,ei,show ((min r i':Nat):Int)=min (r:Int) (i':Int) by omega]
end
open Go Go.RowKit Go.BigFrame Go.Maps
theorem atom_any (k p:Int) (f x:ByteArray) (n:Int) (A':Option Addr) (m c':Nat) (A:Option Addr) (nn c:Nat) (docs:List Pap) (v:ByteArray) (w:World) (hn:nn<=maxLen) (hl:Hid (docs.length=nn)) (hA:Hid (DocsAt w A docs)) (he:Hid (Env w)) (hv:v.size<=4000000) :
  Calls Tryz.prog 55 #[.agg #[.int .i64 k,.int .i64 p,.string f,.string x,.int .i64 n,.slice A' m c'],.slice A nn c,.string v] w fun e w'=>e=.returned (.int .i64 (atomT docs k p x n v))/\Bz w w':=by
 have hn':=hdZ hn
 clear hn
 have hv':=hdZ hv
 clear hv
 have hb0:Bz w (w.alloc (.cells #[.int .i64 k,.int .i64 p,.string f,.string x,.int .i64 n,.slice A' m c'] 24)):=(Below.refl _ w).alloc leZ _
 have hblk:=hdZ (Blk.new w 24 #[.int .i64 k,.int .i64 p,.string f,.string x,.int .i64 n,.slice A' m c'])
 have hb0':=hdZ hb0
 clear hb0
 by_cases k3:k=3
 ·subst k3
  have hat:Hid (atomT docs 3 p x n v=soT (decide (v.toList=x.toList))):=by unfold Hid atomT;rw [if_pos rfl]
  by_cases hq:v.toList=x.toList
  ·have hq1:(v.toList==x.toList)=true:=by simp [hq]
   have hq':=hdZ hq
   clear hq
   go_enter Tryz.func55,Tryz.ntmps55
   go_wp2_with fail
   go_ret
   exact ⟨by rw [hat.out,dtZ hq'.out];rfl,hb0'.out⟩
  ·have hq1:(v.toList==x.toList)=false:=by simp [hq]
   have hq':=hdZ hq
   clear hq
   go_enter Tryz.func55,Tryz.ntmps55
   go_wp2_with fail
   go_ret
   exact ⟨by rw [hat.out,dfZ hq'.out];rfl,hb0'.out⟩
 by_cases k4:k=4
 ·subst k4
  have hat:Hid (atomT docs 4 p x n v=soT (Lib.contains v.data.toList x.data.toList)):=by unfold Hid atomT;rw [if_neg (by omega),if_pos rfl]
  go_enter Tryz.func55,Tryz.ntmps55
  go_wp2_with fail
  obtain ⟨mm,hm⟩:=(he.out.below hb0'.out).most
  refine (Tryz.strings_Contains v x mm _ (by have:=hv'.out;omega) hm).mono ?_
  rintro e w1 ⟨rfl,rfl⟩
  generalize hcc:Lib.contains v.data.toList x.data.toList=cc at *
  cases cc
  all_goals
   go_wp2_with fail
   go_ret
   exact ⟨by rw [hat.out];rfl,hb0'.out⟩
 by_cases k5:k=5
 ·subst k5
  have hat:Hid (atomT docs 5 p x n v=soT (match numF v.data.toList with | some m=>decide (m<=n) | none=>false)):=by unfold Hid atomT;rw [if_neg (by omega),if_neg (by omega),if_pos rfl]<;>rfl
  go_enter Tryz.func55,Tryz.ntmps55
  go_wp2_with fail
  refine (number_any v _ hv'.out (he.out.below hb0'.out)).mono ?_
  rintro e w1 ⟨rfl,hb1⟩
  have hB1:Hid (Bz w w1):=hb0'.out.trans (hb1.mono (by simp))
  obtain ⟨r,hr⟩:=nmZ (numF v.data.toList)
  rw [hr.out]
  have hblk1:=hblk.out.below hb1 hblk.out.lt
  have hq:w1.cell? ⟨w.heap.size,4,none⟩=some (.int .i64 n):=by rw [hblk1.cell]<;>rfl
  clear hb1 hblk1
  rcases r with _ | r
  ·unfold twoN
   go_wp2_with fail
   go_ret
   exact ⟨by rw [hat.out,hr.out];rfl,hB1.out⟩
  ·unfold twoN
   by_cases hrn:r<=n
   ·have hrn':=hdZ hrn
    go_wp2_with fail
    all_goals try (exfalso;omega)
    go_ret
    exact ⟨by rw [hat.out,hr.out];simp [soT,hrn'.out],hB1.out⟩
   ·have hrn':=hdZ hrn
    go_wp2_with fail
    all_goals try (exfalso;omega)
    go_ret
    exact ⟨by rw [hat.out,hr.out];simp [soT,hrn'.out],hB1.out⟩
 by_cases k6:k=6
 ·subst k6
  have hat:Hid (atomT docs 6 p x n v=soT (match numF v.data.toList with | some m=>decide (n<=m) | none=>false)):=by unfold Hid atomT;rw [if_neg (by omega),if_neg (by omega),if_neg (by omega),if_pos rfl]<;>rfl
  go_enter Tryz.func55,Tryz.ntmps55
  go_wp2_with fail
  refine (number_any v _ hv'.out (he.out.below hb0'.out)).mono ?_
  rintro e w1 ⟨rfl,hb1⟩
  have hB1:Hid (Bz w w1):=hb0'.out.trans (hb1.mono (by simp))
  obtain ⟨r,hr⟩:=nmZ (numF v.data.toList)
  rw [hr.out]
  have hblk1:=hblk.out.below hb1 hblk.out.lt
  have hq:w1.cell? ⟨w.heap.size,4,none⟩=some (.int .i64 n):=by rw [hblk1.cell]<;>rfl
  clear hb1 hblk1
  rcases r with _ | r
  ·unfold twoN
   go_wp2_with fail
   go_ret
   exact ⟨by rw [hat.out,hr.out];rfl,hB1.out⟩
  ·unfold twoN
   by_cases hrn:n<=r
   ·have hrn':=hdZ hrn
    go_wp2_with fail
    all_goals try (exfalso;omega)
    go_ret
    exact ⟨by rw [hat.out,hr.out];simp [soT,hrn'.out],hB1.out⟩
   ·have hrn':=hdZ hrn
    go_wp2_with fail
    all_goals try (exfalso;omega)
    go_ret
    exact ⟨by rw [hat.out,hr.out];simp [soT,hrn'.out],hB1.out⟩
 by_cases k7:k=7
 ·subst k7
  have hat:Hid (atomT docs 7 p x n v=(match fieldD docs p x with | some u=>soT (decide (v.toList=u.toList)) | none=>1)):=by unfold Hid atomT;rw [if_neg (by omega),if_neg (by omega),if_neg (by omega),if_neg (by omega),if_pos rfl]<;>rfl
  go_enter Tryz.func55,Tryz.ntmps55
  go_wp2_with fail
  refine (field_any A nn c docs p x _ hn'.out hl (hA.out.below hb0'.out)).mono ?_
  rintro e w1 ⟨rfl,hb1⟩
  have hB1:Hid (Bz w w1):=hb0'.out.trans (hb1.mono (by simp))
  obtain ⟨r,hr⟩:=nmZ (fieldD docs p x)
  rw [hr.out]
  clear hb1
  rcases r with _ | u
  ·unfold two
   go_wp2_with fail
   go_ret
   exact ⟨by rw [hat.out,hr.out];rfl,hB1.out⟩
  ·unfold two
   by_cases hq:v.toList=u.toList
   ·have hq1:(v.toList==u.toList)=true:=by simp [hq]
    have hq':=hdZ hq
    clear hq
    go_wp2_with fail
    go_ret
    exact ⟨by rw [hat.out,hr.out];simp [soT,hq'.out],hB1.out⟩
   ·have hq1:(v.toList==u.toList)=false:=by simp [hq]
    have hq':=hdZ hq
    clear hq
    go_wp2_with fail
    go_ret
    exact ⟨by rw [hat.out,hr.out];simp [soT,hq'.out],hB1.out⟩
 have hat:Hid (atomT docs k p x n v=2):=by unfold Hid atomT;rw [if_neg k3,if_neg k4,if_neg k5,if_neg k6,if_neg k7]
 go_enter Tryz.func55,Tryz.ntmps55
 go_wp2_with fail
 go_ret
 exact ⟨by rw [hat.out];rfl,hb0'.out⟩
structure Room (w:World) (A:Option Addr) (nn:Nat) (docs:List Pap):Prop where
 len:docs.length=nn
 most:nn<=1000
 at_:DocsAt w A docs
 env:Env w
 small:SmallD docs
theorem Room.below {w w':World} {A:Option Addr} {nn:Nat} {docs:List Pap} (h:Room w A nn docs) (hb:Bz w w'):Room w' A nn docs:=⟨h.len,h.most,h.at_.below hb,h.env.below hb,h.small⟩
def HoldsC (A:Option Addr) (nn c:Nat) (docs:List Pap) (a:Nat) (d:Pap) (t:Tree):Prop :=
 ∀w,Hid (TreeAt w t)->Hid (Room w A nn docs)->Calls Tryz.prog 17 #[.agg t.cells,.slice A nn c,.int .i64 a] w fun e w'=>e=.returned (.int .i64 (holdsT docs d t))/\Bz w w'
theorem great_step {docs:List Pap} {d:Pap} {L:List Tree} {k:Nat} {t:Tree} {r s s':Int} (h:r=greatT docs d (L.drop k) s) (ht:L[k]?=some t) (hs:s'=max s (holdsT docs d t)):Hid (r=greatT docs d (L.drop (k+1)) s'):=by
 obtain ⟨hk,he⟩:=gsZ.1 ht
 unfold Hid
 rw [h,List.drop_eq_getElem_cons hk,he,greatT,hs]
theorem least_step {docs:List Pap} {d:Pap} {L:List Tree} {k:Nat} {t:Tree} {r s s':Int} (h:r=leastT docs d (L.drop k) s) (ht:L[k]?=some t) (hs:s'=min s (holdsT docs d t)):Hid (r=leastT docs d (L.drop (k+1)) s'):=by
 obtain ⟨hk,he⟩:=gsZ.1 ht
 unfold Hid
 rw [h,List.drop_eq_getElem_cons hk,he,leastT,hs]
theorem great_walk (A:Option Addr) (nn c:Nat) (docs:List Pap) (a:Nat) (d:Pap) (L:List Tree) (ih:Hid (∀t∈L,HoldsC A nn c docs a d t)) (A':Option Addr) (m c':Nat) (w:World) (hm:Hid (L.length=m)) (hml:m<=maxLen) (hL:Hid (RowsAt w A' 0 L)) (hR:Hid (Room w A nn docs)) :
  Calls Tryz.prog 53 #[.slice A' m c',.slice A nn c,.int .i64 a] w fun e w'=>e=.returned (.int .i64 (greatT docs d L 0))/\Bz w w':=by
 unfold maxLen at hml
 go_enter Tryz.func53,Tryz.ntmps53
 go_wp2_with fail
 go_loopw [12,7] (fun j s wr=>∃(k:Nat) (sv:Int),k<=m/\j=.int .i64 k/\s=.int .i64 sv/\(0<=sv/\sv<=2)/\Hid (greatT docs d L 0=greatT docs d (L.drop k) sv)/\Bz w wr) (fun j _ _=>m-(intOf j).toNat)
 case atStart=>exact ⟨0,0,Nat.zero_le _,rfl,rfl,by omega,rfl,Below.refl _ _⟩
 case round =>
  obtain ⟨k,sv,hk,rfl,rfl,⟨hs0,hs2⟩,hsame,hB⟩:=hrel
  by_cases hlt:k<m
  ·obtain ⟨t,ht⟩:∃x,L[k]?=some x:=⟨_,gZ (by have:=hm.out;omega)⟩
   have hmem:=hdZ (mgZ ht)
   have ht':=hdZ ht
   clear ht
   obtain ⟨hc,hT⟩:=(hL.out.below hB).get k t ht'.out
   have hT':=hdZ hT
   clear hT
   obtain ⟨tk,tp,tf,tx,tn,tA,tc,tL⟩:=t
   obtain ⟨b,off,rfl,h0,h1,h2,h3,h4,h5⟩:=hc
   rw [Nat.zero_add] at h0 h1 h2 h3 h4 h5
   go_wp2_with fail
   have hb1:Bz wr (wr.alloc (.cells #[.int .i64 tk,.int .i64 tp,.string tf,.string tx,.int .i64 tn,.slice tA tL.length tc] 24)):=(Below.refl _ wr).alloc leZ _
   refine (ih.out _ hmem.out _ (hT'.out.below hb1) (hR.out.below (hB.trans (hb1.mono hB.size)))).mono ?_
   rintro e w1 ⟨rfl,hb2⟩
   have hB1:Bz w w1:=hB.trans ((hb1.trans (hb2.mono (by simp))).mono hB.size)
   have hrg:=holdsT_range docs d (.mk tk tp tf tx tn tA tc tL)
   obtain ⟨r,hr⟩:=nmZ (holdsT docs d (.mk tk tp tf tx tn tA tc tL))
   rw [hr.out] at hrg ⊢
   obtain ⟨hr0,hr2⟩:=hrg
   clear hb1 hb2
   go_wp2_with fail
   go_roundw
   case rel=>exact ⟨k+1,_,by omega,by go_num,rfl,by omega,great_step hsame.out ht'.out (by rw [hr.out]),hB1⟩
   case measure=>simp [intOf];omega
  ·go_wp2_with fail
   go_ret
   exact ⟨by rw [hsame.out,List.drop_eq_nil_of_le (by have:=hm.out;omega),greatT];rfl,hB⟩
end Go.Proofs.YtdjmckjbibfecaaGreatDoor

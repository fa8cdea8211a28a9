import Derived.Laws.EntriesVeiled
import Derived.Laws.Bits64b
import Derived.IntWalk
import Derived.Test.YtdjmckjbibfecaaGreatDoorCe
import Derived.Test.YtdjmckjbibfecaaGreatDoorTxD
namespace Go.Proofs.YtdjmckjbibfecaaGreatDoor
open Go Go.RowKit Go.BigFrame Go.Maps
set_option maxRecDepth 100000
set_option maxHeartbeats 3200000
def isAt (k:Int):Bool:=decide (3<=k/\k<=7)
theorem isAt_yes {k:Int} (h:3<=k/\k<=7):isAt k=true:=dtZ h
theorem isAt_no {k:Int} (h:¬(3<=k/\k<=7)):isAt k=false:=dfZ h
theorem isAtom_any (t:Tree) (w:World):Calls Tryz.prog 65 #[.agg t.cells] w fun e w'=>e=.returned (.bool (isAt t.kind))/\Bz w w':=by
 obtain ⟨k,p,f,x,n,A,c,L⟩:=t
 simp only [Tree.cells,Tree.kind]
 have hb:Hid (Bz w (w.alloc (.cells #[.int .i64 k,.int .i64 p,.string f,.string x,.int .i64 n,.slice A L.length c] 24))):=hdZ ((Below.refl _ w).alloc leZ _)
 by_cases h:3<=k/\k<=7
 ·have hc:k=3\/k=4\/k=5\/k=6\/k=7:=by omega
  rw [isAt_yes h]
  clear h
  rcases hc with rfl | rfl | rfl | rfl | rfl
  all_goals
   go_enter Tryz.func65,Tryz.ntmps65
   go_wp2_with fail
   go_ret
   exact ⟨rfl,hb.out⟩
 ·rw [isAt_no h]
  have e3:(k==3)=false:=by simp;omega
  have e4:(k==4)=false:=by simp;omega
  have e5:(k==5)=false:=by simp;omega
  have e6:(k==6)=false:=by simp;omega
  have e7:(k==7)=false:=by simp;omega
  clear h
  go_enter Tryz.func65,Tryz.ntmps65
  go_wp2_with fail
  go_ret
  exact ⟨rfl,hb.out⟩
def cellsL (l:List Tree):List Value:=l.flatMap fun t=>t.cells.toList
theorem cellsL_app (l m:List Tree):cellsL (l++m)=cellsL l++cellsL m:=List.flatMap_append
theorem cells_len (t:Tree):t.cells.toList.length=6:=by obtain ⟨k,p,f,x,n,A,c,L⟩:=t;rfl
theorem cells_one (t:Tree):∀u∈t.cells.toList,u.oneCell'=true:=by
 obtain ⟨k,p,f,x,n,A,c,L⟩:=t
 intro u hu
 simp only [Tree.cells,List.mem_cons,List.not_mem_nil,or_false] at hu
 rcases hu with rfl | rfl | rfl | rfl | rfl | rfl<;>rfl
theorem atomsL_app:∀l m:List Tree,atomsL (l++m)=atomsL l++atomsL m
 | [],m=>by rw [List.nil_append,atomsL,List.nil_append]
 | t::l,m=>by rw [List.cons_append,atomsL,atomsL,atomsL_app l m,List.append_assoc]
theorem atomsL_take {L:List Tree} {q:Nat} {u:Tree} (hu:L[q]?=some u):atomsL (L.take (q+1))=atomsL (L.take q)++atomsT u:=by
 obtain ⟨hq,e⟩:=gsZ.1 hu
 rw [List.take_succ_eq_append_getElem hq,e,atomsL_app,atomsL,atomsL,List.append_nil]
theorem atomsL_take_le (q:Nat) (L:List Tree):(atomsL (L.take q)).length<=(atomsL L).length:=by
 have h:atomsL L=atomsL (L.take q)++atomsL (L.drop q):=by rw [<-atomsL_app,List.take_append_drop]
 rw [h,List.length_append]
 omega
def zeroN:List Value:=[.int .i64 0,.int .i64 0,.string ⟨#[]⟩,.string ⟨#[]⟩,.int .i64 0,.slice none 0 0]
theorem Tryz.info24:(Tryz.prog.info? 24).map (fun i=>(i.zero,i.size,i.bytes))=some (some (.agg #[.int .i64 0,.int .i64 0,.string ⟨#[]⟩,.string ⟨#[]⟩,.int .i64 0,.slice none 0 0]),6,80):=by kernel_rfl
structure Gath (w0 w:World) (bl be:Nat) (v:Value) (l:List Tree):Prop where
 lb:Blk w bl 22 #[v]
 eb:Blk w be 126 #[.func (.func 87) #[] #[.pointer (some ⟨bl,0,none⟩),.pointer (some ⟨be,0,none⟩)]]
 row:w.ownsRow w0.heap.size 24 6 v l.length (cellsL l)
 base:w0.heap.size<=bl/\w0.heap.size<=be
 below:Bz w0 w
theorem Gath.on {w0 w w':World} {bl be:Nat} {v:Value} {l:List Tree} (h:Gath w0 w bl be v l) (hb:Bz w w'):Gath w0 w' bl be v l :=
 ⟨h.lb.below hb h.lb.lt,h.eb.below hb h.eb.lt,own_below h.row hb,h.base,h.below.trans (hb.mono h.below.size)⟩
theorem gath_store {w0 w3:World} {bl be g c n:Nat} {l:List Tree} {t:Tree} {vold:Value} (own:w3.ownsRow w0.heap.size 24 6 (.slice (some ⟨g,0,none⟩) (n+1) c) (n+1) (cellsL l++zeroN)) (hn:l.length=n)
  (hl:Blk w3 bl 22 #[vold]) (he:Blk w3 be 126 #[.func (.func 87) #[] #[.pointer (some ⟨bl,0,none⟩),.pointer (some ⟨be,0,none⟩)]]) (hbase:w0.heap.size<=bl/\w0.heap.size<=be) (hB:Bz w0 w3) (hB3:w0.heap.size<=w3.heap.size) :
  (∀w5,Blk w5 bl 22 #[.slice (some ⟨g,0,none⟩) (n+1) c]->But bl (w3.setCells g (n*6) t.cells.toList) w5->Gath w0 w5 bl be (.slice (some ⟨g,0,none⟩) (n+1) c) (l++[t])) /\
  (∀w4,Blk w4 bl 22 #[.slice (some ⟨g,0,none⟩) (n+1) c]->But bl w3 w4->Gath w0 (w4.setCells g (n*6) t.cells.toList) bl be (.slice (some ⟨g,0,none⟩) (n+1) c) (l++[t])):=by
 have hx6:(cellsL l).length=n*6:=by
  have:=own.1
  rw [List.length_append,show zeroN.length=6 from rfl] at this
  omega
 obtain ⟨g',c',e9,hgB,hgl⟩:=own_formS own (by omega)
 simp only [Value.slice.injEq,Option.some.injEq,Addr.mk.injEq,true_and,and_true] at e9
 obtain ⟨rfl,_⟩:=e9
 obtain ⟨cur,hgr⟩:∃cur,Blk w3 g 24 cur:=by
  rcases own.2 with ⟨e,h0⟩ | ⟨g9,c9,cur,e,_,hh,_⟩
  ·cases e
  ·simp only [Value.slice.injEq,Option.some.injEq,Addr.mk.injEq,true_and,and_true] at e
   obtain ⟨rfl,_⟩:=e
   exact ⟨cur,hh⟩
 have n1:bl≠g:=Blk.ne_ hl hgr (by decide)
 have n2:be≠g:=Blk.ne_ he hgr (by decide)
 have n3:be≠bl:=Blk.ne_ he hl (by decide)
 have hlen:(l++[t]).length=n+1:=by rw [List.length_append,hn];rfl
 have hcl:cellsL (l++[t])=cellsL l++t.cells.toList:=by rw [cellsL_app];congr 1;exact List.append_nil _
 have set:∀w4:World,w4.ownsRow w0.heap.size 24 6 (.slice (some ⟨g,0,none⟩) (n+1) c) (n+1) (cellsL l++zeroN)->(w4.setCells g (n*6) t.cells.toList).ownsRow w0.heap.size 24 6 (.slice (some ⟨g,0,none⟩) (n+1) c) (l++[t]).length (cellsL (l++[t])):=fun w4 h4=>by
  have:=own_setLast t.cells.toList zeroN (cellsL l) w4 (by rw [cells_len];rfl) h4
  rw [hlen,hcl,<-hx6]
  exact this
 constructor
 ·intro w5 h1 h2
  have s4:=set w3 own
  have b4:=setCells_put g t.cells.toList (n*6) w3
  have l4:=hl.but b4 n1
  exact ⟨h1,(he.but b4 n2).but h2 n3,own_but s4 h2 l4 (by decide),hbase,h2.to_below (b4.to_below hB hgB hB3) hbase.1 (Nat.le_trans hB3 b4.size)⟩
 ·intro w4 h1 h2
  have s3:=own_but own h2 hl (by decide)
  have b4:=setCells_put g t.cells.toList (n*6) w4
  have e3:=he.but h2 n3
  exact ⟨h1.but b4 n1,e3.but b4 n2,set w4 s3,hbase,b4.to_below (h2.to_below hB hbase.1 hB3) hgB (Nat.le_trans hB3 h2.size)⟩
section
variable {P:Program} {ops:Array Oper} {Q:Exit->Act->World->Prop} {o:Oper} {a:Act} {w w':World} {i:Nat} {K:Act->World->Prop}
theorem held_mid (hi':ops[i]?=some o) (hgd:o.guard=none) (ty:TypeId) (x y:Operand) (ho:o.op=.store ty x y) (b off:Nat) (cells:Array Value) (hx:a.eval x=.pointer (some ⟨b,off,none⟩)) (hy:a.eval y=.agg cells)
  (ht:w.there b off cells.size) (hi:(P.info? ty).map (·.size)=some cells.size) (h1:cells.all (·.oneCell')=true) (h:K (a.put o.dst undef) (w.setCells b off cells.toList)):wpOp P ops Q i K a w:=by
 unfold wpOp
 simp only [hi']
 rw [if_pos (by simp [Region.wanted,hgd])]
 exact .inl (wp_store_mid ty x y ho b off cells hx hy ht hi h1 h)
theorem held_put1 (hi':ops[i]?=some o) (hgd:o.guard=none) (ty:TypeId) (x y:Operand) (ho:o.op=.store ty x y) (g j:Nat) (cs cs':Array Value) (t:TypeId) (u:Value) (hx:a.eval x=.pointer (some ⟨g,j,none⟩)) (hy:a.eval y=u)
  (hb:Blk w g t cs) (hi:j<cs.size) (hc:cs.setIfInBounds j u=cs') (hs:(P.info? ty).map (·.size)=some 1) (h1:u.oneCell'=true)
  (h:∀W',Blk W' g t cs'->But g w W'->K (a.put o.dst undef) W'):wpOp P ops Q i K a w:=by
 unfold wpOp
 simp only [hi']
 rw [if_pos (by simp [Region.wanted,hgd])]
 exact .inl (wp_put1 ty x y ho g j cs cs' t u hx hy hb hi hc hs h1 fun W' h0 h2 h3=>h W' h2 (by subst h0;exact (But.refl g w).setCell j u))
end
theorem row_there {w:World} {B g n c:Nat} {e:TypeId} {size k m:Nat} {xs:List Value} (h:w.ownsRow B e size (.slice (some ⟨g,0,none⟩) n c) n xs) (hk:k+m<=n*size):w.there g k m:=fun j hj=>by
 refine ⟨?_,h.frozenAt _⟩
 rw [h.cellAt (k+j) (by omega)]
 have:=h.1
 simp;omega
def NewZ:Ty:=fun v W=>∃g,v=.slice (some ⟨g,0,none⟩) 1 1/\Blk W g 24 #[.int .i64 0,.int .i64 0,.string ⟨#[]⟩,.string ⟨#[]⟩,.int .i64 0,.slice none 0 0]
theorem mono_NewZ:MonoT NewZ:=fun _ _ _ ⟨g,e,h⟩ hb=>⟨g,e,h.below hb h.lt⟩
def tyAt (k:Int) (p:Int) (n:Int) (f:ByteArray) (x:ByteArray) (A:Option Addr) (vA:Option Addr) (c:Nat) (m:Nat) (vc:Nat) (L:List Tree):List Ty:=[Is (.slice vA m vc),Is (.agg #[.int .i64 k,.int .i64 p,.string f,.string x,.int .i64 n,.slice A L.length c]),Is (.int .i64 (m:Int)),(NewZ)]
theorem tyAt_mono (k:Int) (p:Int) (n:Int) (f:ByteArray) (x:ByteArray) (A:Option Addr) (vA:Option Addr) (c:Nat) (m:Nat) (vc:Nat) (L:List Tree):MonoL (tyAt k p n f x A vA c m vc L):=⟨mono_is _,mono_is _,mono_is _,mono_NewZ,trivial⟩
def EachC (w0:World) (t:Tree):Prop:=∀(bl be:Nat) (v:Value) (l:List Tree) (w:World),Hid (Gath w0 w bl be v l)->Hid (TreeAt w0 t)->l.length+(atomsT t).length<=1000 ->
 Calls Tryz.prog 87 #[.agg t.cells,.pointer (some ⟨bl,0,none⟩),.pointer (some ⟨be,0,none⟩)] w fun e w'=>e=.returned (.tuple #[])/\∃v',Gath w0 w' bl be v' (l++atomsT t)
theorem each_walk (w0:World) (t:Tree) (ih:Hid (∀u∈t.sub,EachC w0 u)):EachC w0 t:=by
 intro bl be v l w hG hT hle
 obtain ⟨i0,hi,hz0,hz1,hz2⟩:=info_parts Tryz.info24
 obtain ⟨k,p,f,x,n,A,c,L⟩:=t
 have hia:=fun W=>isAtom_any (.mk k p f x n A c L) W
 simp only [Tree.cells,Tree.kind] at hia ⊢
 obtain ⟨w1,hw1⟩:=nmZ (w.alloc (.cells #[.int .i64 k,.int .i64 p,.string f,.string x,.int .i64 n,.slice A L.length c] 24))
 have hb1:Hid (Bz w w1):=by rw [<-hw1.out];exact (Below.refl _ w).alloc leZ _
 have hN1:Hid (Blk w1 w.heap.size 24 #[.int .i64 k,.int .i64 p,.string f,.string x,.int .i64 n,.slice A L.length c]):=by rw [<-hw1.out];exact hdZ (Blk.new _ _ _)
 have c1:∀W,Blk W w.heap.size 24 #[.int .i64 k,.int .i64 p,.string f,.string x,.int .i64 n,.slice A L.length c]->(∀j,W.cell? ⟨w.heap.size,j,none⟩=(#[.int .i64 k,.int .i64 p,.string f,.string x,.int .i64 n,.slice A L.length c]:Array Value)[j]?):=fun W h j=>h.cell j
 obtain ⟨q0,q1,q2,q3,q4,q5⟩:=cs6 hN1.out
 have hia1:=hdZ (hia w1)
 clear hia c1
 go_enter Tryz.func87,Tryz.ntmps87
 go_wp2_with (rw [hw1.out])
 refine hia1.out.mono ?_
 rintro e w2 ⟨rfl,hb2⟩
 have hN2:=kbY hN1 hb2
 have hB2:=btY hb1 hb2
 have hG2:=hdZ (hG.out.on hB2.out)
 clear hb2 q0 q1 q2 q3 q4 q5 hia1
 by_cases hk:3<=k/\k<=7
 ·rw [isAt_yes hk]
  have hat:atomsT (.mk k p f x n A c L)=[.mk k p f x n A c L]:=by rw [atomsT,if_pos hk]
  rw [hat] at hle
  have hat':=hdZ hat
  clear hat
  obtain ⟨vA,vc,hvf⟩:=own_form hG2.out.row
  obtain ⟨m,hm⟩:∃m,l.length=m:=⟨_,rfl⟩
  rw [hm] at hle hvf
  subst hvf
  have hm':=hdZ hm
  have hrow:=hG2.out.row
  rw [hm] at hrow
  have hrow2:=hdZ hrow
  have hL2:=hdZ hG2.out.lb
  clear hrow hm
  go_wp2_with fail
  refine wp_region_any (by kernel_rfl) ?_
  refine wpAny_body 40 (List.range 4) [4,5,6,7] 4 [(0,some 9),(1,some 10),(2,some 11),(3,some 12)] (Array.replicate 8 false) (Array.replicate 4 true++Array.replicate 4 false) (fun a b=>Bz a b) (fun i=>(tyAt k p n f x A vA c m vc L).getD i (fun _ _=>True)) (by kernel_rfl) rfl rfl (Below.refl _ _) (fun _ _ _ h k=>h.trans (k.mono h.size)) (fun i v W W' h hb=>mono_at (tyAt_mono k p n f x A vA c m vc L) i h hb) ?step ?fin _ rfl
  case step =>
   refine allB_cons (i:=0) rfl (fun a W hl K hK=>?_) ?_
   ·have t1:a.tmps.getD 1 undef=.pointer (some ⟨bl,0,none⟩):=hl.old 1 (by kernel_rfl)
    have hbL:Blk W (bl) 22 #[.slice vA m vc]:=hL2.out.drew.below hl.world hL2.out.drew.lt
    have cc:W.cell? ⟨bl,0,none⟩=some (.slice vA m vc):=(hbL.cell 0).trans rfl
    exact held_value (v:=.slice vA m vc) (w':=W) rfl rfl (by go_simp) (hK _ _ (Below.refl _ _) rfl)
   refine allB_cons (i:=1) rfl (fun a W hl K hK=>?_) ?_
   ·have t3:a.tmps.getD 3 undef=.pointer (some ⟨w.heap.size,0,none⟩):=hl.old 3 (by kernel_rfl)
    have hbX:Blk W (w.heap.size) 24 #[.int .i64 k,.int .i64 p,.string f,.string x,.int .i64 n,.slice A L.length c]:=hN2.out.drew.below hl.world hN2.out.drew.lt
    exact held_value (v:=.agg #[.int .i64 k,.int .i64 p,.string f,.string x,.int .i64 n,.slice A L.length c]) (w':=W) rfl rfl (run_ldb rfl t3 hbX Tryz.underlying24 rfl (by kernel_rfl)) (hK _ _ (Below.refl _ _) rfl)
   refine allB_cons (i:=2) rfl (fun a W hl K hK=>?_) ?_
   ·have t9:Is (.slice vA m vc) (a.tmps.getD 9 undef) W:=hl.at_ 0 9 (by kernel_rfl)
    unfold Is at t9
    exact held_value (v:=.int .i64 (m:Int)) (w':=W) rfl rfl (by go_simp) (hK _ _ (Below.refl _ _) rfl)
   refine allB_cons (i:=3) rfl (fun a W hl K hK=>?_) ?_
   ·exact held_value (v:=.slice (some ⟨W.heap.size,0,none⟩) 1 1) (w':=W.alloc (.cells #[.int .i64 0,.int .i64 0,.string ⟨#[]⟩,.string ⟨#[]⟩,.int .i64 0,.slice none 0 0] 24)) rfl rfl (by go_simp) (hK _ _ ((Below.refl _ W).alloc leZ _) ⟨_,rfl,Blk.new _ _ _⟩)
   exact allB_nil
  case fin =>
   intro vs W hR hG9
   have hv0:vs 0=.slice vA m vc:=hG9 0 (by decide)
   have hv1:vs 1=.agg #[.int .i64 k,.int .i64 p,.string f,.string x,.int .i64 n,.slice A L.length c]:=hG9 1 (by decide)
   have hv2:vs 2=.int .i64 (m:Int):=hG9 2 (by decide)
   obtain ⟨g3,e3,hb3⟩:NewZ (vs 3) W:=hG9 3 (by decide)
   have hbW:Hid (Bz w2 W):=(Below.refl _ w2).drew.trans hR
   have hGW:=hdZ (hG2.out.on hbW.out)
   have hrW:=hdZ (own_below hrow2.out hbW.out)
   have hz3:=hdZ (blk_reads hb3 6 1 rfl)
   clear hG9 hR hb3 hrow2
   simp only [putD,Act.put,List.setIfInBounds_toArray,List.set_cons_zero,List.set_cons_succ,hv0,hv1,hv2,e3]
   clear hv0 hv1 hv2 e3
   have hs1:Hid (m+1<=maxLen):=by unfold Hid maxLen;omega
   have hs2:Hid ((m+1)*80<=140737488355328):=by unfold Hid;omega
   have hBW:Hid (w0.heap.size<=W.heap.size):=hdZ hGW.out.below.size
   refine wpAny_next 4 (by kernel_rfl) ?_
   refine held_append rfl rfl (.tmp 9) (.tmp 12) 22 rfl w0.heap.size 24 i0 _ 6 80 Tryz.underlying22 hi hz0 hz1 hz2 rfl (by decide) (.slice vA m vc) m (cellsL l) (by go_simp) hrW.out W.heap.size (some ⟨g3,0,none⟩) 1 1 zeroN (by go_simp) hz3.out (by decide) hs1.out hs2.out hBW.out ?_
   intro v' w3 ho hgr hvb
   obtain ⟨g',c',rfl,hgB,hgl⟩:=own_formS ho (by omega)
   have hl3:=hdZ (Blk.kept hGW.out.lb hgr (own_blk_ne hrW.out hGW.out.lb (by decide)))
   have he3:=hdZ (Blk.kept hGW.out.eb hgr (own_blk_ne hrW.out hGW.out.eb (by decide)))
   have hB3:Hid (Bz w0 w3):=hGW.out.below.grown hgr hBW.out (fun j hj=>(hrW.out.lt j hj).1)
   have hsz3:Hid (w0.heap.size<=w3.heap.size):=hdZ (Nat.le_trans hBW.out hgr.size)
   have ho3:=hdZ ho
   have hend:=hdZ (gath_store (t:=.mk k p f x n A c L) ho3.out hm'.out hl3.out he3.out hG2.out.base hB3.out hsz3.out)
   have hth:=hdZ (row_there (k:=m*6) (m:=6) ho3.out (by omega))
   clear ho hgr hvb hgB hgl hB3 hsz3
   simp only [Act.put,List.getElem_toArray,List.getElem_cons_zero,List.getElem_cons_succ,List.setIfInBounds_toArray,List.set_cons_zero,List.set_cons_succ]
   refine wpAny_take (i:=5) (v:=.pointer (some ⟨g',m*6,none⟩)) rfl (by kernel_rfl) (by kernel_rfl) (by kernel_rfl) (fun _ _ _ h=>h) (.inl ⟨by rfl,fun W=>by go_simp;intro h9;omega⟩) ?_
   simp only [Act.put,List.getElem_toArray,List.getElem_cons_zero,List.getElem_cons_succ,List.setIfInBounds_toArray,List.set_cons_zero,List.set_cons_succ]
   refine wpAny_all (rs:=[6,7]) (by kernel_rfl) (by simp) ?_
   intro i hi6
   simp only [List.mem_cons,List.not_mem_nil,or_false] at hi6
   rcases hi6 with rfl | rfl
   ·refine held_mid rfl rfl 24 (.tmp 14) (.tmp 10) rfl g' (m*6) #[.int .i64 k,.int .i64 p,.string f,.string x,.int .i64 n,.slice A L.length c] (by go_simp) (by go_simp) hth.out (by kernel_rfl) (by simp [Value.oneCell']) ?_
    refine wpAny_next 7 (by kernel_rfl) ?_
    have hl4:Blk (w3.setCells g' (m*6) (#[.int .i64 k,.int .i64 p,.string f,.string x,.int .i64 n,.slice A L.length c]:Array Value).toList) bl 22 #[.slice vA m vc]:=hl3.out.but (setCells_put g' _ _ w3) (Blk.ne_ hl3.out (own_blk ho3.out) (by decide))
    refine held_put1 rfl rfl 22 (.tmp 1) (.tmp 13) rfl bl 0 #[.slice vA m vc] #[.slice (some ⟨g',0,none⟩) (m+1) c'] 22 (.slice (some ⟨g',0,none⟩) (m+1) c') (by go_simp) (by go_simp) hl4 (by simp) rfl (by kernel_rfl) rfl ?_
    intro w5 h5 hb5
    have hfin:=hdZ (hend.out.1 w5 h5 hb5)
    clear h5 hb5 hl4
    refine wpAny_done (by kernel_rfl) ?_ _
    simp only [Act.put]
    go_wp2_with fail
    go_end0
    exact ⟨rfl,_,by rw [hat'.out];exact hfin.out⟩
   ·refine held_put1 rfl rfl 22 (.tmp 1) (.tmp 13) rfl bl 0 #[.slice vA m vc] #[.slice (some ⟨g',0,none⟩) (m+1) c'] 22 (.slice (some ⟨g',0,none⟩) (m+1) c') (by go_simp) (by go_simp) hl3.out (by simp) rfl (by kernel_rfl) rfl ?_
    intro w4 h4 hb4
    have hth4:w4.there g' (m*6) 6:=row_there (own_but ho3.out hb4 hl3.out (by decide)) (by omega)
    refine wpAny_next 6 (by kernel_rfl) ?_
    refine held_mid rfl rfl 24 (.tmp 14) (.tmp 10) rfl g' (m*6) #[.int .i64 k,.int .i64 p,.string f,.string x,.int .i64 n,.slice A L.length c] (by go_simp) (by go_simp) hth4 (by kernel_rfl) (by simp [Value.oneCell']) ?_
    have hfin:=hdZ (hend.out.2 w4 h4 hb4)
    clear h4 hb4 hth4
    refine wpAny_done (by kernel_rfl) ?_ _
    simp only [Act.put]
    go_wp2_with fail
    go_end0
    exact ⟨rfl,_,by rw [hat'.out];exact hfin.out⟩
 ·rw [isAt_no hk]
  have q0:w2.cell? ⟨w.heap.size,0,none⟩=some (.int .i64 k):=hN2.out.cell 0
  have q5:w2.cell? ⟨w.heap.size,5,none⟩=some (.slice A L.length c):=hN2.out.cell 5
  have hrow0:Hid (RowsAt w0 A 0 L/\L.length<=maxLen):=by have h:=hT.out;rw [TreeAt] at h;exact h
  obtain ⟨nL,hnL⟩:∃m,L.length=m:=⟨_,rfl⟩
  have hnLm:nL<=maxLen:=by rw [<-hnL];exact hrow0.out.2
  have hnL':=hdZ hnL
  rw [hnL] at q5 ⊢
  clear hnL
  unfold maxLen at hnLm
  by_cases h3:0<=k/\k<=2
  ·have hat:atomsT (.mk k p f x n A c L)=atomsL L:=by rw [atomsT,if_neg hk,if_pos h3]
   rw [hat] at hle
   have hat':=hdZ hat
   have hle':=hdZ hle
   have hc:k=0\/k=1\/k=2:=by omega
   clear hat hk h3 hle
   rcases hc with rfl | rfl | rfl
   all_goals
    go_wp2_with fail
    go_loopw [32] (fun i wr=>∃(q:Nat) (v':Value),q<=nL/\i=.int .i64 q/\Hid (Gath w0 wr bl be v' (l++atomsL (L.take q)))) (fun i _=>nL-(intOf i).toNat)
    case atStart=>exact ⟨0,v,Nat.zero_le _,rfl,hdZ (by rw [List.take_zero,atomsL,List.append_nil];exact hG2.out)⟩
    case round =>
     obtain ⟨q,v',hq,rfl,hGr⟩:=hrel
     by_cases hlt:q<nL
     ·obtain ⟨u,hu⟩:∃u,L[q]?=some u:=⟨_,gZ (by have:=hnL'.out;omega)⟩
      obtain ⟨hcu,htu⟩:=hrow0.out.1.get q u hu
      have hmem:=mgZ hu
      have hstep:Hid (atomsL (L.take (q+1))=atomsL (L.take q)++atomsT u):=hdZ (atomsL_take hu)
      have hlen2:Hid ((l++atomsL (L.take q)).length+(atomsT u).length<=1000):=by
       have h1:=atomsL_take_le (q+1) L
       rw [hstep.out,List.length_append] at h1
       have h2:=hle'.out
       unfold Hid
       rw [List.length_append]
       omega
      have hub:=hGr.out.below
      have hT4:=hdZ htu
      clear hu htu
      obtain ⟨uk,up,uf,ux,un,uA,uc,uL⟩:=u
      rw [Nat.zero_add] at hcu
      obtain ⟨b,off,rfl,d0,d1,d2,d3,d4,d5⟩:=hcu
      have hbl:b<w0.heap.size:=World.block_lt_of_cell? w0 _ d0
      have key:∀j,wr.cell? ⟨b,j,none⟩=w0.cell? ⟨b,j,none⟩:=fun j=>hub.cell hbl
      rw [<-key] at d0 d1 d2 d3 d4 d5
      clear key hub
      obtain ⟨w4,hw4⟩:=nmZ (wr.alloc (.cells #[.int .i64 uk,.int .i64 up,.string uf,.string ux,.int .i64 un,.slice uA uL.length uc] 24))
      have hb4:Hid (Bz wr w4):=by rw [<-hw4.out];exact (Below.refl _ wr).alloc leZ _
      have hN4:Hid (Blk w4 wr.heap.size 24 #[.int .i64 uk,.int .i64 up,.string uf,.string ux,.int .i64 un,.slice uA uL.length uc]):=by rw [<-hw4.out];exact hdZ (Blk.new _ _ _)
      have hG4:=hdZ (hGr.out.on hb4.out)
      have hcall:=hdZ (ih.out _ hmem bl be v' _ w4 hG4 hT4 hlen2.out)
      simp only [Tree.cells] at hcall
      obtain ⟨r0,r1,r2,r3,r4,r5⟩:=cs6 hN4.out
      have re:w4.cell? ⟨be,0,none⟩=some (.func (.func 87) #[] #[.pointer (some ⟨bl,0,none⟩),.pointer (some ⟨be,0,none⟩)]):=hG4.out.eb.cell 0
      obtain ⟨i1,i2,hkm⟩:=inZ hlt
      clear hmem hG4
      go_wp2_with (rw [hw4.out])
      refine hcall.out.mono ?_
      rintro e w5 ⟨rfl,v5,hG5⟩
      have hG5':=hdZ hG5
      clear hG5 hcall r0 r1 r2 r3 r4 r5 re d0 d1 d2 d3 d4 d5
      go_wp2_with fail
      go_roundw
      case rel=>exact ⟨q+1,v5,by omega,by go_num,hdZ (by rw [hstep.out,<-List.append_assoc];exact hG5'.out)⟩
      case measure=>simp [intOf];omega
     ·have hkm:decide (q<nL)=false:=dfZ hlt
      have hall:Hid (L.take q=L):=hdZ (List.take_of_length_le (by have:=hnL'.out;omega))
      go_wp2_with fail
      go_end0
      exact ⟨rfl,v',by have h:=hGr.out;rw [hall.out] at h;rw [hat'.out];exact h⟩
  ·have hat:atomsT (.mk k p f x n A c L)=[]:=by rw [atomsT,if_neg hk,if_neg h3]
   have hat':=hdZ hat
   have e0:(k==0)=false:=by simp;omega
   have e1:(k==1)=false:=by simp;omega
   have e2:(k==2)=false:=by simp;omega
   clear hat hk h3 hle
   go_wp2_with fail
   go_end0
   exact ⟨rfl,v,by rw [hat'.out,List.append_nil];exact hG2.out⟩
theorem each_any (w0:World):∀t,EachC w0 t:=Tree.every fun t ih=>each_walk w0 t (hdZ ih)
theorem atoms_any (t:Tree) (w:World) (hT:Hid (TreeAt w t)) (hle:(atomsT t).length<=1000) :
  Calls Tryz.prog 38 #[.agg t.cells] w fun e w'=>∃v,e=.returned v/\w'.ownsRow w.heap.size 24 6 v (atomsT t).length (cellsL (atomsT t))/\Bz w w':=by
 have hea:=hdZ (each_any w t)
 obtain ⟨at_,hat⟩:=nmZ (atomsT t)
 rw [hat.out] at hle ⊢
 obtain ⟨k,p,f,x,n,A,c,L⟩:=t
 simp only [Tree.cells] at hea ⊢
 obtain ⟨w1,hw1⟩:=nmZ (((w.alloc (.cells #[.int .i64 k,.int .i64 p,.string f,.string x,.int .i64 n,.slice A L.length c] 24)).alloc (.cells #[.slice none 0 0] 22)).alloc (.cells #[.func (.func 87) #[] #[.pointer (some ⟨w.heap.size+1,0,none⟩),.pointer (some ⟨w.heap.size+1+1,0,none⟩)]] 126))
 have hba:Bz w (w.alloc (.cells #[.int .i64 k,.int .i64 p,.string f,.string x,.int .i64 n,.slice A L.length c] 24)):=(Below.refl _ w).alloc leZ _
 have hbb:Bz w ((w.alloc (.cells #[.int .i64 k,.int .i64 p,.string f,.string x,.int .i64 n,.slice A L.length c] 24)).alloc (.cells #[.slice none 0 0] 22)):=hba.alloc hba.size _
 have hb1:Hid (Bz w w1):=by rw [<-hw1.out];exact hbb.alloc hbb.size _
 have nb:=Blk.new w 24 #[.int .i64 k,.int .i64 p,.string f,.string x,.int .i64 n,.slice A L.length c]
 have lb:=Blk.new (w.alloc (.cells #[.int .i64 k,.int .i64 p,.string f,.string x,.int .i64 n,.slice A L.length c] 24)) 22 #[.slice none 0 0]
 have eb:=Blk.new ((w.alloc (.cells #[.int .i64 k,.int .i64 p,.string f,.string x,.int .i64 n,.slice A L.length c] 24)).alloc (.cells #[.slice none 0 0] 22)) 126 #[.func (.func 87) #[] #[.pointer (some ⟨w.heap.size+1,0,none⟩),.pointer (some ⟨w.heap.size+1+1,0,none⟩)]]
 have be1:Below (w.alloc (.cells #[.int .i64 k,.int .i64 p,.string f,.string x,.int .i64 n,.slice A L.length c] 24)).heap.size (w.alloc (.cells #[.int .i64 k,.int .i64 p,.string f,.string x,.int .i64 n,.slice A L.length c] 24)) w1:=by rw [<-hw1.out];exact ((Below.refl _ _).alloc leZ _).alloc (((Below.refl _ _).alloc leZ _).size) _
 have be2:Below ((w.alloc (.cells #[.int .i64 k,.int .i64 p,.string f,.string x,.int .i64 n,.slice A L.length c] 24)).alloc (.cells #[.slice none 0 0] 22)).heap.size ((w.alloc (.cells #[.int .i64 k,.int .i64 p,.string f,.string x,.int .i64 n,.slice A L.length c] 24)).alloc (.cells #[.slice none 0 0] 22)) w1:=by rw [<-hw1.out];exact (Below.refl _ _).alloc leZ _
 have hN1:=hdZ (nb.below be1 nb.lt)
 have hL1:=lb.below be2 lb.lt
 rw [hw1.out] at eb
 simp only [World.size_alloc] at hL1 eb
 have hG1:Hid (Gath w w1 (w.heap.size+1) (w.heap.size+1+1) (.slice none 0 0) []):=⟨hL1,eb,own_none _ _ _ _,⟨by omega,by omega⟩,hb1.out⟩
 have hcall:=hdZ (hea.out _ _ _ [] w1 hG1 hT (by rw [hat.out];simpa using hle))
 simp only [Tree.cells] at hcall
 clear hea hba hbb nb lb eb be1 be2 hL1
 obtain ⟨q0,q1,q2,q3,q4,q5⟩:=cs6 hN1.out
 have re:w1.cell? ⟨w.heap.size+1+1,0,none⟩=some (.func (.func 87) #[] #[.pointer (some ⟨w.heap.size+1,0,none⟩),.pointer (some ⟨w.heap.size+1+1,0,none⟩)]):=hG1.out.eb.cell 0
 go_enter Tryz.func38,Tryz.ntmps38
 go_wp2_with (rw [hw1.out])
 refine hcall.out.mono ?_
 rintro e w2 ⟨rfl,v',hG2⟩
 have hG2':=hdZ hG2
 have rl:w2.cell? ⟨w.heap.size+1,0,none⟩=some v':=hG2.lb.cell 0
 clear hG2 hcall q0 q1 q2 q3 q4 q5 re
 go_wp2_with fail
 go_ret
 refine ⟨v',rfl,?_,hG2'.out.below⟩
 have h:=hG2'.out.row
 rw [List.nil_append,hat.out] at h
 exact h
theorem bits_and_i64 (a b:Nat) (ha:a<9223372036854775808) (hb:b<9223372036854775808):bits .and .i64 (a:Int) (b:Int)=((a &&& b:Nat):Int):=by
 have e:(BitVec.ofInt IntKind.i64.bits (a:Int) &&& BitVec.ofInt IntKind.i64.bits (b:Int)).toNat=a &&& b:=by
  rw [BitVec.toNat_and]
  have e1:∀c:Nat,c<9223372036854775808->(BitVec.ofInt IntKind.i64.bits (c:Int)).toNat=c:=fun c hc=>by
   show (BitVec.ofInt 64 (c:Int)).toNat=c
   rw [BitVec.ofInt_natCast,BitVec.toNat_ofNat]
   exact Nat.mod_eq_of_lt (by omega)
  rw [e1 a ha,e1 b hb]
 show IntKind.i64.wrap ((BitVec.ofInt IntKind.i64.bits (a:Int) &&& BitVec.ofInt IntKind.i64.bits (b:Int)).toNat:Int)=_
 rw [e]
 have:a &&& b<=a:=Nat.and_le_left
 exact IntWalk.i64_in _ (by omega)
theorem bits_or_i64 (a b n:Nat) (ha:a<2 ^ n) (hb:b<2 ^ n) (hn:n<=62):bits .or .i64 (a:Int) (b:Int)=((a ||| b:Nat):Int):=by
 have hp:2 ^ n<=2 ^ 62:=Nat.pow_le_pow_right (by omega) hn
 have e:(BitVec.ofInt IntKind.i64.bits (a:Int) ||| BitVec.ofInt IntKind.i64.bits (b:Int)).toNat=a ||| b:=by
  rw [BitVec.toNat_or]
  have e1:∀c:Nat,c<2 ^ n->(BitVec.ofInt IntKind.i64.bits (c:Int)).toNat=c:=fun c hc=>by
   show (BitVec.ofInt 64 (c:Int)).toNat=c
   rw [BitVec.ofInt_natCast,BitVec.toNat_ofNat]
   exact Nat.mod_eq_of_lt (by omega)
  rw [e1 a ha,e1 b hb]
 show IntKind.i64.wrap ((BitVec.ofInt IntKind.i64.bits (a:Int) ||| BitVec.ofInt IntKind.i64.bits (b:Int)).toNat:Int)=_
 rw [e]
 have:a ||| b<2 ^ n:=Nat.or_lt_two_pow ha hb
 exact IntWalk.i64_in _ (by omega)
theorem and_bit (a i:Nat):a &&& 2 ^ i=if a.testBit i then 2 ^ i else 0:=by
 apply Nat.eq_of_testBit_eq
 intro q
 rw [Nat.testBit_and,Nat.testBit_two_pow]
 by_cases h:i=q
 ·subst h
  cases hb:a.testBit i<;>simp
 ·cases hb:a.testBit i<;>simp [h]
def stepQ (op:Nat->Nat->Nat) (a b:Nat) (s q:Nat):Nat:=if a.testBit (q / 3)&&b.testBit (q % 3) then s ||| 2 ^ op (q / 3) (q % 3) else s
def crossQ (op:Nat->Nat->Nat) (a b n:Nat):Nat:=(List.range n).foldl (stepQ op a b) 0
theorem crossQ_all (op:Nat->Nat->Nat) (a b:Nat):crossM op a b=crossQ op a b 9:=rfl
theorem crossQ_succ (op:Nat->Nat->Nat) (a b n:Nat):crossQ op a b (n+1)=stepQ op a b (crossQ op a b n) n:=by
 unfold crossQ;rw [List.range_succ,List.foldl_append];rfl
theorem crossQ_in (op:Nat->Nat->Nat) (a b k l:Nat) (hl:l<3):crossQ op a b (3*k+(l+1))=if a.testBit k&&b.testBit l then crossQ op a b (3*k+l) ||| 2 ^ op k l else crossQ op a b (3*k+l):=by
 rw [show 3*k+(l+1)=3*k+l+1 by omega,crossQ_succ,stepQ,show (3*k+l) / 3=k by omega,show (3*k+l) % 3=l by omega]
theorem crossQ_lt {op:Nat->Nat->Nat} {a b:Nat} (h:∀i j,i<3->j<3->a.testBit i=true->b.testBit j=true->op i j<3):∀n,n<=9->crossQ op a b n<2 ^ 3
 | 0,_=>by simp [crossQ]
 | n+1,hn=>by
  rw [crossQ_succ,stepQ]
  have ih:=crossQ_lt h n (by omega)
  split
  ·rename_i hc
   rw [Bool.and_eq_true] at hc
   have:=h (n / 3) (n % 3) (by omega) (by omega) hc.1 hc.2
   exact Nat.or_lt_two_pow ih (Nat.pow_lt_pow_right (by omega) this)
  ·exact ih
theorem wrap_pow (i:Nat) (h:i<3):IntKind.i64.wrap (2 ^ i)=((2 ^ i:Nat):Int):=by
 have:i=0\/i=1\/i=2:=by omega
 rcases this with rfl | rfl | rfl<;>decide
theorem join_max (i j:Nat) (w:World) (hi:i<3) (hj:j<3):Calls Tryz.prog 150 #[.int .i64 (i:Int),.int .i64 (j:Int)] w fun e w'=>e=.returned (.int .i64 ((max i j:Nat):Int))/\w=w':=by
 have hi':i=0\/i=1\/i=2:=by omega
 have hj':j=0\/j=1\/j=2:=by omega
 rcases hi' with rfl | rfl | rfl<;>rcases hj' with rfl | rfl | rfl
 all_goals
  go_enter Tryz.func150,Tryz.ntmps150
  go_wp2
  go_ret
  exact ⟨rfl,rfl⟩
theorem join_min (i j:Nat) (w:World) (hi:i<3) (hj:j<3):Calls Tryz.prog 151 #[.int .i64 (i:Int),.int .i64 (j:Int)] w fun e w'=>e=.returned (.int .i64 ((min i j:Nat):Int))/\w=w':=by
 have hi':i=0\/i=1\/i=2:=by omega
 have hj':j=0\/j=1\/j=2:=by omega
 rcases hi' with rfl | rfl | rfl<;>rcases hj' with rfl | rfl | rfl
 all_goals
  go_enter Tryz.func151,Tryz.ntmps151
  go_wp2
  go_ret
  exact ⟨rfl,rfl⟩
theorem join_not (i j:Nat) (w:World) (hi:i<3) (hj:j=2):Calls Tryz.prog 152 #[.int .i64 (i:Int),.int .i64 (j:Int)] w fun e w'=>e=.returned (.int .i64 ((j-i:Nat):Int))/\w=w':=by
 have hi':i=0\/i=1\/i=2:=by omega
 subst hj
 rcases hi' with rfl | rfl | rfl
 all_goals
  go_enter Tryz.func152,Tryz.ntmps152
  go_wp2
  go_ret
  exact ⟨rfl,rfl⟩
theorem crossed_max (a b:Nat) (w:World) (ha:a<8) (hb:b<8) :
  Calls Tryz.prog 149 #[.int .i64 (a:Int),.int .i64 (b:Int),.func (.func 150) #[] #[]] w fun e w'=>e=.returned (.int .i64 ((crossM max a b:Nat):Int))/\w=w':=by
 have hlt3:∀i j,i<3->j<3->a.testBit i=true->b.testBit j=true->max i j<3:=by intro i j hi hj _ _;omega
 have hq:=hdZ (crossQ_lt hlt3)
 have hlt3':=hdZ hlt3
 rw [crossQ_all]
 clear hlt3
 have hab:=hdZ (And.intro ha hb)
 clear ha hb
 go_enter Tryz.func149,Tryz.ntmps149
 go_wp2
 go_loopw [7,8,9] (fun s i j wr=>∃k:Nat,k<=3/\i=.int .i64 k/\s=.int .i64 ((crossQ max a b (3*k):Nat):Int)/\w=wr) (fun _ i _ _=>3-(intOf i).toNat)
 case atStart=>exact ⟨0,by omega,rfl,rfl,rfl⟩
 case round =>
  obtain ⟨k,hk,rfl,rfl,rfl⟩:=hrel
  by_cases hlt:k<3
  ·have d1:decide ((k:Int)<=2)=true:=by simp;omega
   have d2:decide (k<=2)=true:=by simp;omega
   obtain ⟨PI,hPI⟩:∃z:Int,Hid (((2 ^ k:Nat):Int)=z):=⟨_,rfl⟩
   have hw1:IntKind.i64.wrap (2 ^ k)=PI:=by rw [wrap_pow k hlt];exact hPI.out
   obtain ⟨RI,hRI⟩:∃z:Int,Hid (((a &&& 2 ^ k:Nat):Int)=z):=⟨_,rfl⟩
   have hpk:2 ^ k<9223372036854775808:=Nat.lt_of_le_of_lt (Nat.pow_le_pow_right (by omega) (by omega:k<=2)) (by decide)
   have hba:bits .and .i64 (a:Int) PI=RI:=by rw [<-hPI.out,bits_and_i64 a _ (by have:=hab.out.1;omega) hpk];exact hRI.out
   have hk2:(0:Int)<=(k:Int):=by omega
   have hk3:(k:Int)<=64:=by omega
   go_wp2
   go_loopw [7,9] (fun s j wr=>∃l:Nat,l<=3/\j=.int .i64 l/\s=.int .i64 ((crossQ max a b (3*k+l):Nat):Int)/\w=wr) (fun _ j _=>3-(intOf j).toNat)
   case atStart=>exact ⟨0,by omega,rfl,rfl,rfl⟩
   case round =>
    obtain ⟨l,hl,rfl,rfl,rfl⟩:=hrel
    by_cases hlt2:l<3
    ·have f1:decide ((l:Int)<=2)=true:=by simp;omega
     have f2:decide (l<=2)=true:=by simp;omega
     obtain ⟨PJ,hPJ⟩:∃z:Int,Hid (((2 ^ l:Nat):Int)=z):=⟨_,rfl⟩
     have hw2:IntKind.i64.wrap (2 ^ l)=PJ:=by rw [wrap_pow l hlt2];exact hPJ.out
     obtain ⟨RJ,hRJ⟩:∃z:Int,Hid (((b &&& 2 ^ l:Nat):Int)=z):=⟨_,rfl⟩
     have hpl:2 ^ l<9223372036854775808:=Nat.lt_of_le_of_lt (Nat.pow_le_pow_right (by omega) (by omega:l<=2)) (by decide)
     have hbb:bits .and .i64 (b:Int) PJ=RJ:=by rw [<-hPJ.out,bits_and_i64 b _ (by have:=hab.out.2;omega) hpl];exact hRJ.out
     have hl2:(0:Int)<=(l:Int):=by omega
     have hl3:(l:Int)<=64:=by omega
     have hin:=hdZ (crossQ_in max a b k l hlt2)
     have hcur:=hq.out (3*k+l) (by omega)
     obtain ⟨S,hS⟩:∃S,crossQ max a b (3*k+l)=S:=⟨_,rfl⟩
     rw [hS] at hin hcur ⊢
     have hS':=hdZ hS
     have hcur':=hdZ hcur
     clear hS hcur hpl
     have hea:=and_bit a k
     have heb:=and_bit b l
     cases hta:a.testBit k with
     | false =>
      have hz:RI=0:=by rw [<-hRI.out,hea,hta];rfl
      rw [hz] at hba
      clear hz hRI
      have hn:=hin.out
      rw [hta,Bool.false_and,if_neg (by simp)] at hn
      have hn':=hdZ hn
      clear hea heb hn
      go_wp2
      go_roundw
      case rel=>exact ⟨l+1,by omega,by go_num,by rw [hn'.out],by first | trivial | rfl⟩
      case measure=>simp [intOf];omega
     | true =>
      have hpos:2 ^ k≠0:=Nat.ne_of_gt (Nat.two_pow_pos k)
      have hne:¬RI=0:=by rw [<-hRI.out,hea,hta,if_pos rfl];omega
      have hz:(RI==0)=false:=by simpa using hne
      have hz9:(RI != 0)=true:=by simpa using hne
      have hz8:decide (RI=0)=false:=by simpa using hne
      cases htb:b.testBit l with
      | false =>
       have hz2:RJ=0:=by rw [<-hRJ.out,heb,htb];rfl
       rw [hz2] at hbb
       clear hz2 hRJ
       have hn:=hin.out
       rw [hta,htb,Bool.and_false,if_neg (by simp)] at hn
       have hn':=hdZ hn
       clear hea heb hn hpos
       go_wp2
       go_roundw
       case rel=>exact ⟨l+1,by omega,by go_num,by rw [hn'.out],by first | trivial | rfl⟩
       case measure=>simp [intOf];omega
      | true =>
       have hpos2:2 ^ l≠0:=Nat.ne_of_gt (Nat.two_pow_pos l)
       have hne2:¬RJ=0:=by rw [<-hRJ.out,heb,htb,if_pos rfl];omega
       have hz2:(RJ==0)=false:=by simpa using hne2
       have hz7:(RJ != 0)=true:=by simpa using hne2
       have hz6:decide (RJ=0)=false:=by simpa using hne2
       clear hpos2
       have hn:=hin.out
       rw [hta,htb,Bool.and_true,if_pos rfl] at hn
       have hn':=hdZ hn
       have hop:=hlt3'.out k l hlt hlt2 hta htb
       have hjn:=hdZ (join_max k l w hlt hlt2)
       obtain ⟨V,hV⟩:∃V,max k l=V:=⟨_,rfl⟩
       have hVr:max k l=V:=hV
       rw [hV] at hop hn
       have hjn1:=hjn.out
       rw [hVr] at hjn1
       have hjn2:=hdZ hjn1
       clear hjn hjn1
       have hn'':=hdZ hn
       have hw3:IntKind.i64.wrap (2 ^ V)=((2 ^ V:Nat):Int):=wrap_pow V hop
       obtain ⟨T,hT⟩:∃z:Int,Hid (((2 ^ V:Nat):Int)=z):=⟨_,rfl⟩
       rw [hT.out] at hw3
       have hor:bits .or .i64 (S:Int) T=((S ||| 2 ^ V:Nat):Int):=by rw [<-hT.out];exact bits_or_i64 S _ 3 hcur'.out (Nat.pow_lt_pow_right (by omega) hop) (by omega)
       have hV2:(0:Int)<=(V:Int):=by omega
       have hV3:(V:Int)<=64:=by omega
       clear hea heb hn hn' hpos hV hVr hop
       go_wp2_with fail
       refine hjn2.out.mono ?_
       rintro e w1 ⟨rfl,rfl⟩
       go_wp2_with fail
       go_roundw
       case rel=>exact ⟨l+1,by omega,by go_num,by rw [hn''.out],by first | trivial | rfl⟩
       case measure=>simp [intOf];omega
    ·have f1:decide ((l:Int)<=2)=false:=by simp;omega
     have f2:decide (l<=2)=false:=by simp;omega
     have h3:l=3:=by omega
     have h3':=hdZ h3
     clear h3
     go_wp2
     go_roundw
     case rel=>exact ⟨k+1,by omega,by go_num,by rw [h3'.out];rfl,by first | trivial | rfl⟩
     case measure=>simp [intOf];omega
  ·have d1:decide ((k:Int)<=2)=false:=by simp;omega
   have d2:decide (k<=2)=false:=by simp;omega
   have h3:k=3:=by omega
   have h3':=hdZ h3
   clear h3
   go_wp2
   go_ret
   exact ⟨by rw [h3'.out];rfl,rfl⟩
theorem crossed_min (a b:Nat) (w:World) (ha:a<8) (hb:b<8) :
  Calls Tryz.prog 149 #[.int .i64 (a:Int),.int .i64 (b:Int),.func (.func 151) #[] #[]] w fun e w'=>e=.returned (.int .i64 ((crossM min a b:Nat):Int))/\w=w':=by
 have hlt3:∀i j,i<3->j<3->a.testBit i=true->b.testBit j=true->min i j<3:=by intro i j hi hj _ _;omega
 have hq:=hdZ (crossQ_lt hlt3)
 have hlt3':=hdZ hlt3
 rw [crossQ_all]
 clear hlt3
 have hab:=hdZ (And.intro ha hb)
 clear ha hb
 go_enter Tryz.func149,Tryz.ntmps149
 go_wp2
 go_loopw [7,8,9] (fun s i j wr=>∃k:Nat,k<=3/\i=.int .i64 k/\s=.int .i64 ((crossQ min a b (3*k):Nat):Int)/\w=wr) (fun _ i _ _=>3-(intOf i).toNat)
 case atStart=>exact ⟨0,by omega,rfl,rfl,rfl⟩
 case round =>
  obtain ⟨k,hk,rfl,rfl,rfl⟩:=hrel
  by_cases hlt:k<3
  ·have d1:decide ((k:Int)<=2)=true:=by simp;omega
   have d2:decide (k<=2)=true:=by simp;omega
   obtain ⟨PI,hPI⟩:∃z:Int,Hid (((2 ^ k:Nat):Int)=z):=⟨_,rfl⟩
   have hw1:IntKind.i64.wrap (2 ^ k)=PI:=by rw [wrap_pow k hlt];exact hPI.out
   obtain ⟨RI,hRI⟩:∃z:Int,Hid (((a &&& 2 ^ k:Nat):Int)=z):=⟨_,rfl⟩
   have hpk:2 ^ k<9223372036854775808:=Nat.lt_of_le_of_lt (Nat.pow_le_pow_right (by omega) (by omega:k<=2)) (by decide)
   have hba:bits .and .i64 (a:Int) PI=RI:=by rw [<-hPI.out,bits_and_i64 a _ (by have:=hab.out.1;omega) hpk];exact hRI.out
   have hk2:(0:Int)<=(k:Int):=by omega
   have hk3:(k:Int)<=64:=by omega
   go_wp2
   go_loopw [7,9] (fun s j wr=>∃l:Nat,l<=3/\j=.int .i64 l/\s=.int .i64 ((crossQ min a b (3*k+l):Nat):Int)/\w=wr) (fun _ j _=>3-(intOf j).toNat)
   case atStart=>exact ⟨0,by omega,rfl,rfl,rfl⟩
   case round =>
    obtain ⟨l,hl,rfl,rfl,rfl⟩:=hrel
    by_cases hlt2:l<3
    ·have f1:decide ((l:Int)<=2)=true:=by simp;omega
     have f2:decide (l<=2)=true:=by simp;omega
     obtain ⟨PJ,hPJ⟩:∃z:Int,Hid (((2 ^ l:Nat):Int)=z):=⟨_,rfl⟩
     have hw2:IntKind.i64.wrap (2 ^ l)=PJ:=by rw [wrap_pow l hlt2];exact hPJ.out
     obtain ⟨RJ,hRJ⟩:∃z:Int,Hid (((b &&& 2 ^ l:Nat):Int)=z):=⟨_,rfl⟩
     have hpl:2 ^ l<9223372036854775808:=Nat.lt_of_le_of_lt (Nat.pow_le_pow_right (by omega) (by omega:l<=2)) (by decide)
     have hbb:bits .and .i64 (b:Int) PJ=RJ:=by rw [<-hPJ.out,bits_and_i64 b _ (by have:=hab.out.2;omega) hpl];exact hRJ.out
     have hl2:(0:Int)<=(l:Int):=by omega
     have hl3:(l:Int)<=64:=by omega
     have hin:=hdZ (crossQ_in min a b k l hlt2)
     have hcur:=hq.out (3*k+l) (by omega)
     obtain ⟨S,hS⟩:∃S,crossQ min a b (3*k+l)=S:=⟨_,rfl⟩
     rw [hS] at hin hcur ⊢
     have hS':=hdZ hS
     have hcur':=hdZ hcur
     clear hS hcur hpl
     have hea:=and_bit a k
     have heb:=and_bit b l
     cases hta:a.testBit k with
     | false =>
      have hz:RI=0:=by rw [<-hRI.out,hea,hta];rfl
      rw [hz] at hba
      clear hz hRI
      have hn:=hin.out
      rw [hta,Bool.false_and,if_neg (by simp)] at hn
      have hn':=hdZ hn
      clear hea heb hn
      go_wp2
      go_roundw
      case rel=>exact ⟨l+1,by omega,by go_num,by rw [hn'.out],by first | trivial | rfl⟩
      case measure=>simp [intOf];omega
     | true =>
      have hpos:2 ^ k≠0:=Nat.ne_of_gt (Nat.two_pow_pos k)
      have hne:¬RI=0:=by rw [<-hRI.out,hea,hta,if_pos rfl];omega
      have hz:(RI==0)=false:=by simpa using hne
      have hz9:(RI != 0)=true:=by simpa using hne
      have hz8:decide (RI=0)=false:=by simpa using hne
      cases htb:b.testBit l with
      | false =>
       have hz2:RJ=0:=by rw [<-hRJ.out,heb,htb];rfl
       rw [hz2] at hbb
       clear hz2 hRJ
       have hn:=hin.out
       rw [hta,htb,Bool.and_false,if_neg (by simp)] at hn
       have hn':=hdZ hn
       clear hea heb hn hpos
       go_wp2
       go_roundw
       case rel=>exact ⟨l+1,by omega,by go_num,by rw [hn'.out],by first | trivial | rfl⟩
       case measure=>simp [intOf];omega
      | true =>
       have hpos2:2 ^ l≠0:=Nat.ne_of_gt (Nat.two_pow_pos l)
       have hne2:¬RJ=0:=by rw [<-hRJ.out,heb,htb,if_pos rfl];omega
       have hz2:(RJ==0)=false:=by simpa using hne2
       have hz7:(RJ != 0)=true:=by simpa using hne2
       have hz6:decide (RJ=0)=false:=by simpa using hne2
       clear hpos2
       have hn:=hin.out
       rw [hta,htb,Bool.and_true,if_pos rfl] at hn
       have hn':=hdZ hn
       have hop:=hlt3'.out k l hlt hlt2 hta htb
       have hjn:=hdZ (join_min k l w hlt hlt2)
       obtain ⟨V,hV⟩:∃V,min k l=V:=⟨_,rfl⟩
       have hVr:min k l=V:=hV
       rw [hV] at hop hn
       have hjn1:=hjn.out
       rw [hVr] at hjn1
       have hjn2:=hdZ hjn1
       clear hjn hjn1
       have hn'':=hdZ hn
       have hw3:IntKind.i64.wrap (2 ^ V)=((2 ^ V:Nat):Int):=wrap_pow V hop
       obtain ⟨T,hT⟩:∃z:Int,Hid (((2 ^ V:Nat):Int)=z):=⟨_,rfl⟩
       rw [hT.out] at hw3
       have hor:bits .or .i64 (S:Int) T=((S ||| 2 ^ V:Nat):Int):=by rw [<-hT.out];exact bits_or_i64 S _ 3 hcur'.out (Nat.pow_lt_pow_right (by omega) hop) (by omega)
       have hV2:(0:Int)<=(V:Int):=by omega
       have hV3:(V:Int)<=64:=by omega
       clear hea heb hn hn' hpos hV hVr hop
       go_wp2_with fail
       refine hjn2.out.mono ?_
       rintro e w1 ⟨rfl,rfl⟩
       go_wp2_with fail
       go_roundw
       case rel=>exact ⟨l+1,by omega,by go_num,by rw [hn''.out],by first | trivial | rfl⟩
       case measure=>simp [intOf];omega
    ·have f1:decide ((l:Int)<=2)=false:=by simp;omega
     have f2:decide (l<=2)=false:=by simp;omega
     have h3:l=3:=by omega
     have h3':=hdZ h3
     clear h3
     go_wp2
     go_roundw
     case rel=>exact ⟨k+1,by omega,by go_num,by rw [h3'.out];rfl,by first | trivial | rfl⟩
     case measure=>simp [intOf];omega
  ·have d1:decide ((k:Int)<=2)=false:=by simp;omega
   have d2:decide (k<=2)=false:=by simp;omega
   have h3:k=3:=by omega
   have h3':=hdZ h3
   clear h3
   go_wp2
   go_ret
   exact ⟨by rw [h3'.out];rfl,rfl⟩
theorem crossed_not (a b:Nat) (w:World) (ha:a<8) (hb:b<8) (hb4:Hid (b=4)) :
  Calls Tryz.prog 149 #[.int .i64 (a:Int),.int .i64 (b:Int),.func (.func 152) #[] #[]] w fun e w'=>e=.returned (.int .i64 ((crossM (fun x y=>y-x) a b:Nat):Int))/\w=w':=by
 have hlt3:∀i j,i<3->j<3->a.testBit i=true->b.testBit j=true->(fun x y=>y-x) i j<3:=by intro i j hi hj _ _;show j-i<3;omega
 have hq:=hdZ (crossQ_lt hlt3)
 have hlt3':=hdZ hlt3
 rw [crossQ_all]
 clear hlt3
 have hab:=hdZ (And.intro ha hb)
 clear ha hb
 go_enter Tryz.func149,Tryz.ntmps149
 go_wp2
 go_loopw [7,8,9] (fun s i j wr=>∃k:Nat,k<=3/\i=.int .i64 k/\s=.int .i64 ((crossQ (fun x y=>y-x) a b (3*k):Nat):Int)/\w=wr) (fun _ i _ _=>3-(intOf i).toNat)
 case atStart=>exact ⟨0,by omega,rfl,rfl,rfl⟩
 case round =>
  obtain ⟨k,hk,rfl,rfl,rfl⟩:=hrel
  by_cases hlt:k<3
  ·have d1:decide ((k:Int)<=2)=true:=by simp;omega
   have d2:decide (k<=2)=true:=by simp;omega
   obtain ⟨PI,hPI⟩:∃z:Int,Hid (((2 ^ k:Nat):Int)=z):=⟨_,rfl⟩
   have hw1:IntKind.i64.wrap (2 ^ k)=PI:=by rw [wrap_pow k hlt];exact hPI.out
   obtain ⟨RI,hRI⟩:∃z:Int,Hid (((a &&& 2 ^ k:Nat):Int)=z):=⟨_,rfl⟩
   have hpk:2 ^ k<9223372036854775808:=Nat.lt_of_le_of_lt (Nat.pow_le_pow_right (by omega) (by omega:k<=2)) (by decide)
   have hba:bits .and .i64 (a:Int) PI=RI:=by rw [<-hPI.out,bits_and_i64 a _ (by have:=hab.out.1;omega) hpk];exact hRI.out
   have hk2:(0:Int)<=(k:Int):=by omega
   have hk3:(k:Int)<=64:=by omega
   go_wp2
   go_loopw [7,9] (fun s j wr=>∃l:Nat,l<=3/\j=.int .i64 l/\s=.int .i64 ((crossQ (fun x y=>y-x) a b (3*k+l):Nat):Int)/\w=wr) (fun _ j _=>3-(intOf j).toNat)
   case atStart=>exact ⟨0,by omega,rfl,rfl,rfl⟩
   case round =>
    obtain ⟨l,hl,rfl,rfl,rfl⟩:=hrel
    by_cases hlt2:l<3
    ·have f1:decide ((l:Int)<=2)=true:=by simp;omega
     have f2:decide (l<=2)=true:=by simp;omega
     obtain ⟨PJ,hPJ⟩:∃z:Int,Hid (((2 ^ l:Nat):Int)=z):=⟨_,rfl⟩
     have hw2:IntKind.i64.wrap (2 ^ l)=PJ:=by rw [wrap_pow l hlt2];exact hPJ.out
     obtain ⟨RJ,hRJ⟩:∃z:Int,Hid (((b &&& 2 ^ l:Nat):Int)=z):=⟨_,rfl⟩
     have hpl:2 ^ l<9223372036854775808:=Nat.lt_of_le_of_lt (Nat.pow_le_pow_right (by omega) (by omega:l<=2)) (by decide)
     have hbb:bits .and .i64 (b:Int) PJ=RJ:=by rw [<-hPJ.out,bits_and_i64 b _ (by have:=hab.out.2;omega) hpl];exact hRJ.out
     have hl2:(0:Int)<=(l:Int):=by omega
     have hl3:(l:Int)<=64:=by omega
     have hin:=hdZ (crossQ_in (fun x y=>y-x) a b k l hlt2)
     have hcur:=hq.out (3*k+l) (by omega)
     obtain ⟨S,hS⟩:∃S,crossQ (fun x y=>y-x) a b (3*k+l)=S:=⟨_,rfl⟩
     rw [hS] at hin hcur ⊢
     have hS':=hdZ hS
     have hcur':=hdZ hcur
     clear hS hcur hpl
     have hea:=and_bit a k
     have heb:=and_bit b l
     cases hta:a.testBit k with
     | false =>
      have hz:RI=0:=by rw [<-hRI.out,hea,hta];rfl
      rw [hz] at hba
      clear hz hRI
      have hn:=hin.out
      rw [hta,Bool.false_and,if_neg (by simp)] at hn
      have hn':=hdZ hn
      clear hea heb hn
      go_wp2
      go_roundw
      case rel=>exact ⟨l+1,by omega,by go_num,by rw [hn'.out],by first | trivial | rfl⟩
      case measure=>simp [intOf];omega
     | true =>
      have hpos:2 ^ k≠0:=Nat.ne_of_gt (Nat.two_pow_pos k)
      have hne:¬RI=0:=by rw [<-hRI.out,hea,hta,if_pos rfl];omega
      have hz:(RI==0)=false:=by simpa using hne
      have hz9:(RI != 0)=true:=by simpa using hne
      have hz8:decide (RI=0)=false:=by simpa using hne
      cases htb:b.testBit l with
      | false =>
       have hz2:RJ=0:=by rw [<-hRJ.out,heb,htb];rfl
       rw [hz2] at hbb
       clear hz2 hRJ
       have hn:=hin.out
       rw [hta,htb,Bool.and_false,if_neg (by simp)] at hn
       have hn':=hdZ hn
       clear hea heb hn hpos
       go_wp2
       go_roundw
       case rel=>exact ⟨l+1,by omega,by go_num,by rw [hn'.out],by first | trivial | rfl⟩
       case measure=>simp [intOf];omega
      | true =>
       have hpos2:2 ^ l≠0:=Nat.ne_of_gt (Nat.two_pow_pos l)
       have hne2:¬RJ=0:=by rw [<-hRJ.out,heb,htb,if_pos rfl];omega
       have hz2:(RJ==0)=false:=by simpa using hne2
       have hz7:(RJ != 0)=true:=by simpa using hne2
       have hz6:decide (RJ=0)=false:=by simpa using hne2
       clear hpos2
       have hn:=hin.out
       rw [hta,htb,Bool.and_true,if_pos rfl] at hn
       have hn':=hdZ hn
       have hop:=hlt3'.out k l hlt hlt2 hta htb
       have hjn:=hdZ (join_not k l w hlt (by have h1:=htb;rw [hb4.out] at h1;have:=bit_two (r:=2) (v:=l);exact (this.1 h1).symm))
       obtain ⟨V,hV⟩:∃V,(fun x y=>y-x) k l=V:=⟨_,rfl⟩
       have hVr:l-k=V:=hV
       replace hop:l-k<3:=hop
       replace hn:crossQ (fun x y=>y-x) a b (3*k+(l+1))=S ||| 2 ^ (l-k):=hn
       rw [hVr] at hop hn
       have hjn1:=hjn.out
       rw [hVr] at hjn1
       have hjn2:=hdZ hjn1
       clear hjn hjn1
       have hn'':=hdZ hn
       have hw3:IntKind.i64.wrap (2 ^ V)=((2 ^ V:Nat):Int):=wrap_pow V hop
       obtain ⟨T,hT⟩:∃z:Int,Hid (((2 ^ V:Nat):Int)=z):=⟨_,rfl⟩
       rw [hT.out] at hw3
       have hor:bits .or .i64 (S:Int) T=((S ||| 2 ^ V:Nat):Int):=by rw [<-hT.out];exact bits_or_i64 S _ 3 hcur'.out (Nat.pow_lt_pow_right (by omega) hop) (by omega)
       have hV2:(0:Int)<=(V:Int):=by omega
       have hV3:(V:Int)<=64:=by omega
       clear hea heb hn hn' hpos hV hVr hop
       go_wp2_with fail
       refine hjn2.out.mono ?_
       rintro e w1 ⟨rfl,rfl⟩
       go_wp2_with fail
       go_roundw
       case rel=>exact ⟨l+1,by omega,by go_num,by rw [hn''.out],by first | trivial | rfl⟩
       case measure=>simp [intOf];omega
    ·have f1:decide ((l:Int)<=2)=false:=by simp;omega
     have f2:decide (l<=2)=false:=by simp;omega
     have h3:l=3:=by omega
     have h3':=hdZ h3
     clear h3
     go_wp2
     go_roundw
     case rel=>exact ⟨k+1,by omega,by go_num,by rw [h3'.out];rfl,by first | trivial | rfl⟩
     case measure=>simp [intOf];omega
  ·have d1:decide ((k:Int)<=2)=false:=by simp;omega
   have d2:decide (k<=2)=false:=by simp;omega
   have h3:k=3:=by omega
   have h3':=hdZ h3
   clear h3
   go_wp2
   go_ret
   exact ⟨by rw [h3'.out];rfl,rfl⟩
end Go.Proofs.YtdjmckjbibfecaaGreatDoor

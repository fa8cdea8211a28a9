import Derived.Test.YtdjmckjbibfecaaGreatDoorQSb
import Derived.Test.YtdjmckjbibfecaaGreatDoorQSg
namespace Go.Proofs.YtdjmckjbibfecaaGreatDoor.Sh
open Go Go.RowKit Go.BigFrame Go.Maps
set_option maxRecDepth 100000
set_option maxHeartbeats 3200000
def Tree.kind:Tree->Int | .mk k _ _ _ _ _ _ _=>k
mutual
def szR:Rul->Nat
 | .mk _ _ f x _ L=>f.length+x.length+64+szL L
def szL:List Rul->Nat
 | []=>0
 | r::L=>szR r+16+szL L
end
theorem szL_mem:∀{L:List Rul} {r:Rul},r∈L->szR r<=szL L
 | [],_,h=>by cases h
 | u::L,r,h=>by
  rw [szL]
  rcases List.mem_cons.1 h with rfl | h
  ·omega
  ·have:=szL_mem h;omega
def mostZ:Nat:=70368744177664
theorem sz_parts {k p:Int} {f x:Txt} {n:Int} {A:Option Addr} {c:Nat} {L:List Tree} (h:szR (strip (.mk k p f x n A c L))<=mostZ):f.length<=70368744177664/\x.length<=70368744177664/\∀t∈L,szR (strip t)<=mostZ:=by
 unfold mostZ at h ⊢
 rw [strip,szR] at h
 refine ⟨by omega,by omega,fun t ht=>?_⟩
 have:szR (strip t)<=szL (strips L):=szL_mem (by rw [strips_map];exact List.mem_map_of_mem ht)
 omega
theorem mayL_any:∀L:List Tree,mayL (strips L)=!L.any fun t=>!mayR (strip t)
 | []=>by rw [strips,mayL];rfl
 | t::L=>by rw [strips,mayL,mayL_any L,List.any_cons];cases mayR (strip t)<;>simp
def MayC (t:Tree):Prop:=∀(w:World) (ok:Nat->Prop),Hid (Env w)->Hid (TreeAt w ok t)->Hid (szR (strip t)<=mostZ)->Calls Tryz.prog 131 #[.agg t.cells] w fun e w'=>e=.returned (.bool (mayR (strip t)))/\Bz w w'
theorem may1_any (t:Tree) (ih:MayC t) (w:World) (ok:Nat->Prop) (he:Hid (Env w)) (hT:Hid (TreeAt w ok t)) (hz:Hid (szR (strip t)<=mostZ)) :
  Calls Tryz.prog 179 (#[.agg t.cells]++#[]) w fun e w'=>e=.returned (.bool (!mayR (strip t)))/\Bz w w':=by
 obtain ⟨k,p,f,x,n,A,c,L⟩:=t
 obtain ⟨b,hb⟩:=nmZ (mayR (strip (.mk k p f x n A c L)))
 have hbl:Hid (∀o,Bz w (w.alloc o)):=fun o=>(Below.refl _ w).alloc leZ o
 have hcall:Hid (∀o,Calls Tryz.prog 131 #[.agg (Tree.mk k p f x n A c L).cells] (w.alloc o) fun e w'=>e=.returned (.bool b)/\Below (w.alloc o).heap.size (w.alloc o) w'):=fun o=>by
  rw [<-hb.out]
  exact ih (w.alloc o) ok (he.out.below (hbl.out o)) (hT.out.below (hbl.out o)) hz
 rw [hb.out]
 clear ih hT
 unfold Tree.cells at hcall
 show Calls Tryz.prog 179 #[.agg #[.int .i64 k,.int .i64 p,.string ⟨f.toArray⟩,.string ⟨x.toArray⟩,.int .i64 n,.slice A L.length c]] w _
 go_enter Tryz.func179,Tryz.ntmps179
 go_wp2_with (go_at_call 131;refine (hcall.out _).mono ?_;rintro e w1 ⟨rfl,hB1⟩)
 go_ret
 exact ⟨rfl,(hbl.out _).trans (hB1.mono (hbl.out _).size)⟩
theorem may_row0 (t:Tree) (ih:∀u∈t.sub,MayC u) (hk:t.kind=0):MayC t:=by
 intro w ok he hT hz
 obtain ⟨k,p,f,x,n,A,c,L⟩:=t
 replace hk:k=0:=hk
 obtain ⟨hfl,hxl,hsz⟩:=sz_parts hz.out
 have hsz':=hdZ hsz
 have hT0:=hT.out
 rw [TreeAt] at hT0
 obtain ⟨hR,hlen⟩:=hT0
 have hR':=hdZ hR
 obtain ⟨m,hm⟩:=nmZ (L.length)
 rw [hm.out] at hlen
 have ih':=hdZ ih
 clear ih hT hR hsz hz
 obtain ⟨bp,qp⟩:∃b,(p==0)=b:=⟨_,rfl⟩
 obtain ⟨bn,qn⟩:∃b,(n==0)=b:=⟨_,rfl⟩
 obtain ⟨bf,qf⟩:∃b,(f==[])=b:=⟨_,rfl⟩
 obtain ⟨bx,qx⟩:∃b,(x==[])=b:=⟨_,rfl⟩
 have dp:decide (p=0)=bp:=by rw [<-qp];rfl
 have dn:decide (n=0)=bn:=by rw [<-qn];rfl
 have df:decide (f=[])=bf:=by rw [<-qf];cases f<;>rfl
 have dx:decide (x=[])=bx:=by rw [<-qx];cases x<;>rfl
 have ef:=tx_list f
 have ex:=tx_list x
 show Calls Tryz.prog 131 #[.agg #[.int .i64 k,.int .i64 p,.string ⟨f.toArray⟩,.string ⟨x.toArray⟩,.int .i64 n,.slice A L.length c]] w _
 rw [hm.out]
 have hb0:Hid (Bz w (w.alloc (.cells #[.int .i64 k,.int .i64 p,.string ⟨f.toArray⟩,.string ⟨x.toArray⟩,.int .i64 n,.slice A m c] 24))):=(Below.refl _ w).alloc leZ _
 obtain ⟨b,hb⟩:=nmZ (L.any (fun t=>!mayR (strip t)))
 obtain ⟨b2,q2⟩:∃b,decide (2<=m)=b:=⟨_,rfl⟩
 obtain ⟨b3,q3⟩:∃b,decide (m<=64)=b:=⟨_,rfl⟩
 have r2:decide ((2:Int)<=(m:Int))=b2:=by rw [<-q2,Bool.eq_iff_iff];simp;omega
 have r3:decide ((m:Int)<=64)=b3:=by rw [<-q3,Bool.eq_iff_iff];simp;omega
 have hres:Hid (mayR (strip (.mk k p f x n A c L))=(bp&&bn&&bf&&bx&&b2&&b3&&!b)):=by
  unfold Hid
  rw [strip,mayR,if_pos (by omega),mayL_any,hb.out,dp,dn,df,dx,strips_map,List.length_map,hm.out,q2,q3]
 have hcall:Hid (Calls Tryz.prog 178 #[.slice A m c,.func (.func 179) #[] #[]] (w.alloc (.cells #[.int .i64 k,.int .i64 p,.string ⟨f.toArray⟩,.string ⟨x.toArray⟩,.int .i64 n,.slice A m c] 24)) fun e w'=>e=.returned (.bool b)/\Below (w.alloc (.cells #[.int .i64 k,.int .i64 p,.string ⟨f.toArray⟩,.string ⟨x.toArray⟩,.int .i64 n,.slice A m c] 24)).heap.size (w.alloc (.cells #[.int .i64 k,.int .i64 p,.string ⟨f.toArray⟩,.string ⟨x.toArray⟩,.int .i64 n,.slice A m c] 24)) w'):=by
  have e74:∀(args:Array Value) (w:World),(callFunc 179 args).run Tryz.prog w=.ok (.enter 179 args) w:=enters_of Tryz.func179 (by kernel_rfl) rfl
  rw [<-hb.out]
  have hR2:=hR'.out.below hb0.out
  exact contains_any A m c L ok 179 #[] e74 (fun t=>!mayR (strip t)) _ hlen hm hR2 (fun W t ht hbl=>may1_any t (ih'.out t ht) W ok (he.out.below (hb0.out.trans (hbl.mono hb0.out.size))) ((hR2.mem ht).below hbl) (hsz'.out t ht))
 clear dp dn df dx q2 q3
 subst hk
 cases bp with
 | false =>
  go_enter Tryz.func131,Tryz.ntmps131
  go_wp2_with fail
  go_ret
  exact ⟨by rw [hres.out];simp,hb0.out⟩
 | true =>
  cases bn with
  | false =>
   go_enter Tryz.func131,Tryz.ntmps131
   go_wp2_with fail
   go_ret
   exact ⟨by rw [hres.out];simp,hb0.out⟩
  | true =>
   cases bf with
   | false =>
    go_enter Tryz.func131,Tryz.ntmps131
    go_wp2_with fail
    go_ret
    exact ⟨by rw [hres.out];simp,hb0.out⟩
   | true =>
    cases bx with
    | false =>
     go_enter Tryz.func131,Tryz.ntmps131
     go_wp2_with fail
     go_ret
     exact ⟨by rw [hres.out];simp,hb0.out⟩
    | true =>
     cases b2 with
     | false =>
      go_enter Tryz.func131,Tryz.ntmps131
      go_wp2_with fail
      go_ret
      exact ⟨by rw [hres.out];simp,hb0.out⟩
     | true =>
      cases b3 with
      | false =>
       go_enter Tryz.func131,Tryz.ntmps131
       go_wp2_with fail
       go_ret
       exact ⟨by rw [hres.out];simp,hb0.out⟩
      | true =>
       go_enter Tryz.func131,Tryz.ntmps131
       go_wp2_with (go_at_call 178;refine hcall.out.mono ?_;rintro e w1 ⟨rfl,hB1⟩)
       go_ret
       exact ⟨by rw [hres.out];simp,hb0.out.trans (hB1.mono hb0.out.size)⟩
theorem may_row1 (t:Tree) (ih:∀u∈t.sub,MayC u) (hk:t.kind=1):MayC t:=by
 intro w ok he hT hz
 obtain ⟨k,p,f,x,n,A,c,L⟩:=t
 replace hk:k=1:=hk
 obtain ⟨hfl,hxl,hsz⟩:=sz_parts hz.out
 have hsz':=hdZ hsz
 have hT0:=hT.out
 rw [TreeAt] at hT0
 obtain ⟨hR,hlen⟩:=hT0
 have hR':=hdZ hR
 obtain ⟨m,hm⟩:=nmZ (L.length)
 rw [hm.out] at hlen
 have ih':=hdZ ih
 clear ih hT hR hsz hz
 obtain ⟨bp,qp⟩:∃b,(p==0)=b:=⟨_,rfl⟩
 obtain ⟨bn,qn⟩:∃b,(n==0)=b:=⟨_,rfl⟩
 obtain ⟨bf,qf⟩:∃b,(f==[])=b:=⟨_,rfl⟩
 obtain ⟨bx,qx⟩:∃b,(x==[])=b:=⟨_,rfl⟩
 have dp:decide (p=0)=bp:=by rw [<-qp];rfl
 have dn:decide (n=0)=bn:=by rw [<-qn];rfl
 have df:decide (f=[])=bf:=by rw [<-qf];cases f<;>rfl
 have dx:decide (x=[])=bx:=by rw [<-qx];cases x<;>rfl
 have ef:=tx_list f
 have ex:=tx_list x
 show Calls Tryz.prog 131 #[.agg #[.int .i64 k,.int .i64 p,.string ⟨f.toArray⟩,.string ⟨x.toArray⟩,.int .i64 n,.slice A L.length c]] w _
 rw [hm.out]
 have hb0:Hid (Bz w (w.alloc (.cells #[.int .i64 k,.int .i64 p,.string ⟨f.toArray⟩,.string ⟨x.toArray⟩,.int .i64 n,.slice A m c] 24))):=(Below.refl _ w).alloc leZ _
 obtain ⟨b,hb⟩:=nmZ (L.any (fun t=>!mayR (strip t)))
 obtain ⟨b2,q2⟩:∃b,decide (2<=m)=b:=⟨_,rfl⟩
 obtain ⟨b3,q3⟩:∃b,decide (m<=64)=b:=⟨_,rfl⟩
 have r2:decide ((2:Int)<=(m:Int))=b2:=by rw [<-q2,Bool.eq_iff_iff];simp;omega
 have r3:decide ((m:Int)<=64)=b3:=by rw [<-q3,Bool.eq_iff_iff];simp;omega
 have hres:Hid (mayR (strip (.mk k p f x n A c L))=(bp&&bn&&bf&&bx&&b2&&b3&&!b)):=by
  unfold Hid
  rw [strip,mayR,if_pos (by omega),mayL_any,hb.out,dp,dn,df,dx,strips_map,List.length_map,hm.out,q2,q3]
 have hcall:Hid (Calls Tryz.prog 178 #[.slice A m c,.func (.func 179) #[] #[]] (w.alloc (.cells #[.int .i64 k,.int .i64 p,.string ⟨f.toArray⟩,.string ⟨x.toArray⟩,.int .i64 n,.slice A m c] 24)) fun e w'=>e=.returned (.bool b)/\Below (w.alloc (.cells #[.int .i64 k,.int .i64 p,.string ⟨f.toArray⟩,.string ⟨x.toArray⟩,.int .i64 n,.slice A m c] 24)).heap.size (w.alloc (.cells #[.int .i64 k,.int .i64 p,.string ⟨f.toArray⟩,.string ⟨x.toArray⟩,.int .i64 n,.slice A m c] 24)) w'):=by
  have e74:∀(args:Array Value) (w:World),(callFunc 179 args).run Tryz.prog w=.ok (.enter 179 args) w:=enters_of Tryz.func179 (by kernel_rfl) rfl
  rw [<-hb.out]
  have hR2:=hR'.out.below hb0.out
  exact contains_any A m c L ok 179 #[] e74 (fun t=>!mayR (strip t)) _ hlen hm hR2 (fun W t ht hbl=>may1_any t (ih'.out t ht) W ok (he.out.below (hb0.out.trans (hbl.mono hb0.out.size))) ((hR2.mem ht).below hbl) (hsz'.out t ht))
 clear dp dn df dx q2 q3
 subst hk
 cases bp with
 | false =>
  go_enter Tryz.func131,Tryz.ntmps131
  go_wp2_with fail
  go_ret
  exact ⟨by rw [hres.out];simp,hb0.out⟩
 | true =>
  cases bn with
  | false =>
   go_enter Tryz.func131,Tryz.ntmps131
   go_wp2_with fail
   go_ret
   exact ⟨by rw [hres.out];simp,hb0.out⟩
  | true =>
   cases bf with
   | false =>
    go_enter Tryz.func131,Tryz.ntmps131
    go_wp2_with fail
    go_ret
    exact ⟨by rw [hres.out];simp,hb0.out⟩
   | true =>
    cases bx with
    | false =>
     go_enter Tryz.func131,Tryz.ntmps131
     go_wp2_with fail
     go_ret
     exact ⟨by rw [hres.out];simp,hb0.out⟩
    | true =>
     cases b2 with
     | false =>
      go_enter Tryz.func131,Tryz.ntmps131
      go_wp2_with fail
      go_ret
      exact ⟨by rw [hres.out];simp,hb0.out⟩
     | true =>
      cases b3 with
      | false =>
       go_enter Tryz.func131,Tryz.ntmps131
       go_wp2_with fail
       go_ret
       exact ⟨by rw [hres.out];simp,hb0.out⟩
      | true =>
       go_enter Tryz.func131,Tryz.ntmps131
       go_wp2_with (go_at_call 178;refine hcall.out.mono ?_;rintro e w1 ⟨rfl,hB1⟩)
       go_ret
       exact ⟨by rw [hres.out];simp,hb0.out.trans (hB1.mono hb0.out.size)⟩
theorem may_not (t:Tree) (ih:∀u∈t.sub,MayC u) (hk:t.kind=2):MayC t:=by
 intro w ok he hT hz
 obtain ⟨k,p,f,x,n,A,c,L⟩:=t
 replace hk:k=2:=hk
 obtain ⟨hfl,hxl,hsz⟩:=sz_parts hz.out
 have hsz':=hdZ hsz
 have hT0:=hT.out
 rw [TreeAt] at hT0
 obtain ⟨hR,hlen⟩:=hT0
 have hR':=hdZ hR
 obtain ⟨m,hm⟩:=nmZ (L.length)
 rw [hm.out] at hlen
 have ih':=hdZ ih
 clear ih hT hR hsz hz
 obtain ⟨bp,qp⟩:∃b,(p==0)=b:=⟨_,rfl⟩
 obtain ⟨bn,qn⟩:∃b,(n==0)=b:=⟨_,rfl⟩
 obtain ⟨bf,qf⟩:∃b,(f==[])=b:=⟨_,rfl⟩
 obtain ⟨bx,qx⟩:∃b,(x==[])=b:=⟨_,rfl⟩
 have dp:decide (p=0)=bp:=by rw [<-qp];rfl
 have dn:decide (n=0)=bn:=by rw [<-qn];rfl
 have df:decide (f=[])=bf:=by rw [<-qf];cases f<;>rfl
 have dx:decide (x=[])=bx:=by rw [<-qx];cases x<;>rfl
 have ef:=tx_list f
 have ex:=tx_list x
 show Calls Tryz.prog 131 #[.agg #[.int .i64 k,.int .i64 p,.string ⟨f.toArray⟩,.string ⟨x.toArray⟩,.int .i64 n,.slice A L.length c]] w _
 rw [hm.out]
 have hb0:Hid (Bz w (w.alloc (.cells #[.int .i64 k,.int .i64 p,.string ⟨f.toArray⟩,.string ⟨x.toArray⟩,.int .i64 n,.slice A m c] 24))):=(Below.refl _ w).alloc leZ _
 obtain ⟨b1,q1⟩:∃b,decide (m=1)=b:=⟨_,rfl⟩
 have r1:((m:Int)==1)=b1:=by rw [<-q1,Bool.eq_iff_iff];simp;omega
 obtain ⟨b,hb⟩:=nmZ (mayL (strips L))
 have hres:Hid (mayR (strip (.mk k p f x n A c L))=(bp&&bn&&bf&&bx&&b1&&b)):=by
  unfold Hid
  rw [strip,mayR,if_neg (by omega),if_pos hk,hb.out,dp,dn,df,dx,strips_map,List.length_map,hm.out,q1]
 clear dp dn df dx
 subst hk
 cases bp with
 | false =>
  go_enter Tryz.func131,Tryz.ntmps131
  go_wp2_with fail
  go_ret
  exact ⟨by rw [hres.out];simp,hb0.out⟩
 | true =>
  cases bn with
  | false =>
   go_enter Tryz.func131,Tryz.ntmps131
   go_wp2_with fail
   go_ret
   exact ⟨by rw [hres.out];simp,hb0.out⟩
  | true =>
   cases bf with
   | false =>
    go_enter Tryz.func131,Tryz.ntmps131
    go_wp2_with fail
    go_ret
    exact ⟨by rw [hres.out];simp,hb0.out⟩
   | true =>
    cases bx with
    | false =>
     go_enter Tryz.func131,Tryz.ntmps131
     go_wp2_with fail
     go_ret
     exact ⟨by rw [hres.out];simp,hb0.out⟩
    | true =>
     cases b1 with
     | false =>
      go_enter Tryz.func131,Tryz.ntmps131
      go_wp2_with fail
      go_ret
      exact ⟨by rw [hres.out];simp,hb0.out⟩
     | true =>
      have hm1:m=1:=by simpa using q1
      clear q1
      subst hm1
      obtain ⟨t,rfl⟩:∃t,L=[t]:=by
       have:=hm.out
       match L,this with
       | [t],_=>exact ⟨t,rfl⟩
      have hbt:Hid (mayR (strip t)=b):=by unfold Hid;rw [<-hb.out,strips,strips,mayL,mayL,Bool.and_true]
      have hcl:=hdZ ((hR'.out.below hb0.out).get 0 t rfl)
      have hcall:Hid (Calls Tryz.prog 131 #[.agg t.cells] (w.alloc (.cells #[.int .i64 2,.int .i64 p,.string ⟨f.toArray⟩,.string ⟨x.toArray⟩,.int .i64 n,.slice A 1 c] 24)) fun e w'=>e=.returned (.bool b)/\Below (w.alloc (.cells #[.int .i64 2,.int .i64 p,.string ⟨f.toArray⟩,.string ⟨x.toArray⟩,.int .i64 n,.slice A 1 c] 24)).heap.size (w.alloc (.cells #[.int .i64 2,.int .i64 p,.string ⟨f.toArray⟩,.string ⟨x.toArray⟩,.int .i64 n,.slice A 1 c] 24)) w'):=by
       rw [<-hbt.out]
       exact ih'.out t (by simp [Tree.sub]) _ ok (he.out.below hb0.out) hcl.out.2 (hsz'.out t (by simp))
      have hcw:=(hR'.out.get 0 t rfl).1
      clear hcl
      obtain ⟨tk,tp,tf,tx,tn,tA,tc,tL⟩:=t
      obtain ⟨bb,off,rfl,_,k0,k1,k2,k3,k4,k5⟩:=hcw
      rw [Nat.zero_add,Nat.zero_mul,Nat.add_zero] at k0 k1 k2 k3 k4 k5
      have klt:bb<w.heap.size:=World.block_lt_of_cell? w _ k0
      unfold Tree.cells at hcall
      go_enter Tryz.func131,Tryz.ntmps131
      go_wp2_with (go_at_call 131;refine hcall.out.mono ?_;rintro e w1 ⟨rfl,hB1⟩)
      go_ret
      exact ⟨by rw [hres.out];simp,hb0.out.trans (hB1.mono hb0.out.size)⟩
theorem may_text3 (t:Tree) (ih:∀u∈t.sub,MayC u) (hk:t.kind=3):MayC t:=by
 intro w ok he hT hz
 obtain ⟨k,p,f,x,n,A,c,L⟩:=t
 replace hk:k=3:=hk
 obtain ⟨hfl,hxl,hsz⟩:=sz_parts hz.out
 have hsz':=hdZ hsz
 have hT0:=hT.out
 rw [TreeAt] at hT0
 obtain ⟨hR,hlen⟩:=hT0
 have hR':=hdZ hR
 obtain ⟨m,hm⟩:=nmZ (L.length)
 rw [hm.out] at hlen
 have ih':=hdZ ih
 clear ih hT hR hsz hz
 obtain ⟨bp,qp⟩:∃b,(p==0)=b:=⟨_,rfl⟩
 obtain ⟨bn,qn⟩:∃b,(n==0)=b:=⟨_,rfl⟩
 obtain ⟨bf,qf⟩:∃b,(f==[])=b:=⟨_,rfl⟩
 obtain ⟨bx,qx⟩:∃b,(x==[])=b:=⟨_,rfl⟩
 have dp:decide (p=0)=bp:=by rw [<-qp];rfl
 have dn:decide (n=0)=bn:=by rw [<-qn];rfl
 have df:decide (f=[])=bf:=by rw [<-qf];cases f<;>rfl
 have dx:decide (x=[])=bx:=by rw [<-qx];cases x<;>rfl
 have ef:=tx_list f
 have ex:=tx_list x
 show Calls Tryz.prog 131 #[.agg #[.int .i64 k,.int .i64 p,.string ⟨f.toArray⟩,.string ⟨x.toArray⟩,.int .i64 n,.slice A L.length c]] w _
 rw [hm.out]
 have hb0:Hid (Bz w (w.alloc (.cells #[.int .i64 k,.int .i64 p,.string ⟨f.toArray⟩,.string ⟨x.toArray⟩,.int .i64 n,.slice A m c] 24))):=(Below.refl _ w).alloc leZ _
 obtain ⟨b1,q1⟩:∃b,decide (m=0)=b:=⟨_,rfl⟩
 have r1:((m:Int)==0)=b1:=by rw [<-q1,Bool.eq_iff_iff];simp
 obtain ⟨bm,hbm⟩:=nmZ (nameM f)
 obtain ⟨bt,hbt⟩:=nmZ (textM x)
 have hres:Hid (mayR (strip (.mk k p f x n A c L))=(bp&&bn&&b1&&bm&&bt)):=by
  unfold Hid
  rw [strip,mayR,if_neg (by omega),if_neg (by omega),if_pos (by omega),dp,dn,hbm.out,hbt.out,strips_map,List.length_map,hm.out,q1]
 have hc1:=hdZ (isName_any ⟨f.toArray⟩ _ (by rw [size_list];unfold maxLen;omega) (he.out.below hb0.out))
 have hc2:Hid (∀W,Calls Tryz.prog 181 #[.string ⟨x.toArray⟩] W fun e w'=>e=.returned (.bool bt)/\W=w'):=fun W=>by
  have:=isText_any ⟨x.toArray⟩ W (by rw [size_list];unfold maxLen;omega)
  rw [show (⟨x.toArray⟩:ByteArray).data.toList=x by simp,hbt.out] at this
  exact this
 rw [show (⟨f.toArray⟩:ByteArray).data.toList=f by simp,hbm.out] at hc1
 clear dp dn df dx q1
 subst hk
 cases bp with
 | false =>
  go_enter Tryz.func131,Tryz.ntmps131
  go_wp2_with fail
  go_ret
  exact ⟨by rw [hres.out];simp,hb0.out⟩
 | true =>
  cases bn with
  | false =>
   go_enter Tryz.func131,Tryz.ntmps131
   go_wp2_with fail
   go_ret
   exact ⟨by rw [hres.out];simp,hb0.out⟩
  | true =>
   cases b1 with
   | false =>
    go_enter Tryz.func131,Tryz.ntmps131
    go_wp2_with fail
    go_ret
    exact ⟨by rw [hres.out];simp,hb0.out⟩
   | true =>
    cases bm with
    | false =>
     go_enter Tryz.func131,Tryz.ntmps131
     go_wp2_with (go_at_call 180;refine hc1.out.mono ?_;rintro e w1 ⟨rfl,hB1⟩)
     go_ret
     exact ⟨by rw [hres.out];simp,hb0.out.trans (hB1.mono hb0.out.size)⟩
    | true =>
     go_enter Tryz.func131,Tryz.ntmps131
     go_wp2_with fail
     refine hc1.out.mono ?_
     rintro e w1 ⟨rfl,hB1⟩
     have hBx:=btY hb0 hB1
     have s3:w1.cell? ⟨w.heap.size,3,none⟩=some (.string ⟨x.toArray⟩):=by rw [hB1.cell (by simp),(Blk.new w 24 _).cell];rfl
     have slt:w.heap.size<w1.heap.size:=by have:=hB1.size;simp at this;omega
     clear hB1
     go_wp2_with fail
     refine (hc2.out _).mono ?_
     rintro e w2 ⟨rfl,rfl⟩
     go_wp2_with fail
     go_ret
     exact ⟨by rw [hres.out];simp,hBx.out⟩
theorem may_text4 (t:Tree) (ih:∀u∈t.sub,MayC u) (hk:t.kind=4):MayC t:=by
 intro w ok he hT hz
 obtain ⟨k,p,f,x,n,A,c,L⟩:=t
 replace hk:k=4:=hk
 obtain ⟨hfl,hxl,hsz⟩:=sz_parts hz.out
 have hsz':=hdZ hsz
 have hT0:=hT.out
 rw [TreeAt] at hT0
 obtain ⟨hR,hlen⟩:=hT0
 have hR':=hdZ hR
 obtain ⟨m,hm⟩:=nmZ (L.length)
 rw [hm.out] at hlen
 have ih':=hdZ ih
 clear ih hT hR hsz hz
 obtain ⟨bp,qp⟩:∃b,(p==0)=b:=⟨_,rfl⟩
 obtain ⟨bn,qn⟩:∃b,(n==0)=b:=⟨_,rfl⟩
 obtain ⟨bf,qf⟩:∃b,(f==[])=b:=⟨_,rfl⟩
 obtain ⟨bx,qx⟩:∃b,(x==[])=b:=⟨_,rfl⟩
 have dp:decide (p=0)=bp:=by rw [<-qp];rfl
 have dn:decide (n=0)=bn:=by rw [<-qn];rfl
 have df:decide (f=[])=bf:=by rw [<-qf];cases f<;>rfl
 have dx:decide (x=[])=bx:=by rw [<-qx];cases x<;>rfl
 have ef:=tx_list f
 have ex:=tx_list x
 show Calls Tryz.prog 131 #[.agg #[.int .i64 k,.int .i64 p,.string ⟨f.toArray⟩,.string ⟨x.toArray⟩,.int .i64 n,.slice A L.length c]] w _
 rw [hm.out]
 have hb0:Hid (Bz w (w.alloc (.cells #[.int .i64 k,.int .i64 p,.string ⟨f.toArray⟩,.string ⟨x.toArray⟩,.int .i64 n,.slice A m c] 24))):=(Below.refl _ w).alloc leZ _
 obtain ⟨b1,q1⟩:∃b,decide (m=0)=b:=⟨_,rfl⟩
 have r1:((m:Int)==0)=b1:=by rw [<-q1,Bool.eq_iff_iff];simp
 obtain ⟨bm,hbm⟩:=nmZ (nameM f)
 obtain ⟨bt,hbt⟩:=nmZ (textM x)
 have hres:Hid (mayR (strip (.mk k p f x n A c L))=(bp&&bn&&b1&&bm&&bt)):=by
  unfold Hid
  rw [strip,mayR,if_neg (by omega),if_neg (by omega),if_pos (by omega),dp,dn,hbm.out,hbt.out,strips_map,List.length_map,hm.out,q1]
 have hc1:=hdZ (isName_any ⟨f.toArray⟩ _ (by rw [size_list];unfold maxLen;omega) (he.out.below hb0.out))
 have hc2:Hid (∀W,Calls Tryz.prog 181 #[.string ⟨x.toArray⟩] W fun e w'=>e=.returned (.bool bt)/\W=w'):=fun W=>by
  have:=isText_any ⟨x.toArray⟩ W (by rw [size_list];unfold maxLen;omega)
  rw [show (⟨x.toArray⟩:ByteArray).data.toList=x by simp,hbt.out] at this
  exact this
 rw [show (⟨f.toArray⟩:ByteArray).data.toList=f by simp,hbm.out] at hc1
 clear dp dn df dx q1
 subst hk
 cases bp with
 | false =>
  go_enter Tryz.func131,Tryz.ntmps131
  go_wp2_with fail
  go_ret
  exact ⟨by rw [hres.out];simp,hb0.out⟩
 | true =>
  cases bn with
  | false =>
   go_enter Tryz.func131,Tryz.ntmps131
   go_wp2_with fail
   go_ret
   exact ⟨by rw [hres.out];simp,hb0.out⟩
  | true =>
   cases b1 with
   | false =>
    go_enter Tryz.func131,Tryz.ntmps131
    go_wp2_with fail
    go_ret
    exact ⟨by rw [hres.out];simp,hb0.out⟩
   | true =>
    cases bm with
    | false =>
     go_enter Tryz.func131,Tryz.ntmps131
     go_wp2_with (go_at_call 180;refine hc1.out.mono ?_;rintro e w1 ⟨rfl,hB1⟩)
     go_ret
     exact ⟨by rw [hres.out];simp,hb0.out.trans (hB1.mono hb0.out.size)⟩
    | true =>
     go_enter Tryz.func131,Tryz.ntmps131
     go_wp2_with fail
     refine hc1.out.mono ?_
     rintro e w1 ⟨rfl,hB1⟩
     have hBx:=btY hb0 hB1
     have s3:w1.cell? ⟨w.heap.size,3,none⟩=some (.string ⟨x.toArray⟩):=by rw [hB1.cell (by simp),(Blk.new w 24 _).cell];rfl
     have slt:w.heap.size<w1.heap.size:=by have:=hB1.size;simp at this;omega
     clear hB1
     go_wp2_with fail
     refine (hc2.out _).mono ?_
     rintro e w2 ⟨rfl,rfl⟩
     go_wp2_with fail
     go_ret
     exact ⟨by rw [hres.out];simp,hBx.out⟩
theorem may_num5 (t:Tree) (ih:∀u∈t.sub,MayC u) (hk:t.kind=5):MayC t:=by
 intro w ok he hT hz
 obtain ⟨k,p,f,x,n,A,c,L⟩:=t
 replace hk:k=5:=hk
 obtain ⟨hfl,hxl,hsz⟩:=sz_parts hz.out
 have hsz':=hdZ hsz
 have hT0:=hT.out
 rw [TreeAt] at hT0
 obtain ⟨hR,hlen⟩:=hT0
 have hR':=hdZ hR
 obtain ⟨m,hm⟩:=nmZ (L.length)
 rw [hm.out] at hlen
 have ih':=hdZ ih
 clear ih hT hR hsz hz
 obtain ⟨bp,qp⟩:∃b,(p==0)=b:=⟨_,rfl⟩
 obtain ⟨bn,qn⟩:∃b,(n==0)=b:=⟨_,rfl⟩
 obtain ⟨bf,qf⟩:∃b,(f==[])=b:=⟨_,rfl⟩
 obtain ⟨bx,qx⟩:∃b,(x==[])=b:=⟨_,rfl⟩
 have dp:decide (p=0)=bp:=by rw [<-qp];rfl
 have dn:decide (n=0)=bn:=by rw [<-qn];rfl
 have df:decide (f=[])=bf:=by rw [<-qf];cases f<;>rfl
 have dx:decide (x=[])=bx:=by rw [<-qx];cases x<;>rfl
 have ef:=tx_list f
 have ex:=tx_list x
 show Calls Tryz.prog 131 #[.agg #[.int .i64 k,.int .i64 p,.string ⟨f.toArray⟩,.string ⟨x.toArray⟩,.int .i64 n,.slice A L.length c]] w _
 rw [hm.out]
 have hb0:Hid (Bz w (w.alloc (.cells #[.int .i64 k,.int .i64 p,.string ⟨f.toArray⟩,.string ⟨x.toArray⟩,.int .i64 n,.slice A m c] 24))):=(Below.refl _ w).alloc leZ _
 obtain ⟨b1,q1⟩:∃b,decide (m=0)=b:=⟨_,rfl⟩
 have r1:((m:Int)==0)=b1:=by rw [<-q1,Bool.eq_iff_iff];simp
 obtain ⟨bm,hbm⟩:=nmZ (nameM f)
 obtain ⟨b4,q4⟩:∃b,decide (0<=n)=b:=⟨_,rfl⟩
 obtain ⟨b5,q5⟩:∃b,decide (n<=1099511627776)=b:=⟨_,rfl⟩
 have hres:Hid (mayR (strip (.mk k p f x n A c L))=(bp&&bx&&b1&&bm&&b4&&b5)):=by
  unfold Hid
  rw [strip,mayR,if_neg (by omega),if_neg (by omega),if_neg (by omega),if_pos (by omega),dp,dx,hbm.out,strips_map,List.length_map,hm.out,q1,q4,q5]
 have hc1:=hdZ (isName_any ⟨f.toArray⟩ _ (by rw [size_list];unfold maxLen;omega) (he.out.below hb0.out))
 rw [show (⟨f.toArray⟩:ByteArray).data.toList=f by simp,hbm.out] at hc1
 clear dp dn df dx q1
 subst hk
 cases bn
 all_goals
  cases bp with
  | false =>
   go_enter Tryz.func131,Tryz.ntmps131
   go_wp2_with fail
   go_ret
   exact ⟨by rw [hres.out];simp,hb0.out⟩
  | true =>
   cases bx with
   | false =>
    go_enter Tryz.func131,Tryz.ntmps131
    go_wp2_with fail
    go_ret
    exact ⟨by rw [hres.out];simp,hb0.out⟩
   | true =>
    cases b1 with
    | false =>
     go_enter Tryz.func131,Tryz.ntmps131
     go_wp2_with fail
     go_ret
     exact ⟨by rw [hres.out];simp,hb0.out⟩
    | true =>
     cases bm with
     | false =>
      go_enter Tryz.func131,Tryz.ntmps131
      go_wp2_with (go_at_call 180;refine hc1.out.mono ?_;rintro e w1 ⟨rfl,hB1⟩)
      go_ret
      exact ⟨by rw [hres.out];simp,hb0.out.trans (hB1.mono hb0.out.size)⟩
     | true =>
      cases b4<;>cases b5
      all_goals
       go_enter Tryz.func131,Tryz.ntmps131
       go_wp2_with fail
       refine hc1.out.mono ?_
       rintro e w1 ⟨rfl,hB1⟩
       have hBx:=btY hb0 hB1
       have s4:w1.cell? ⟨w.heap.size,4,none⟩=some (.int .i64 n):=by rw [hB1.cell (by simp),(Blk.new w 24 _).cell];rfl
       have slt:w.heap.size<w1.heap.size:=by have:=hB1.size;simp at this;omega
       clear hB1
       go_wp2_with fail
       go_ret
       exact ⟨by rw [hres.out];simp,hBx.out⟩
theorem may_num6 (t:Tree) (ih:∀u∈t.sub,MayC u) (hk:t.kind=6):MayC t:=by
 intro w ok he hT hz
 obtain ⟨k,p,f,x,n,A,c,L⟩:=t
 replace hk:k=6:=hk
 obtain ⟨hfl,hxl,hsz⟩:=sz_parts hz.out
 have hsz':=hdZ hsz
 have hT0:=hT.out
 rw [TreeAt] at hT0
 obtain ⟨hR,hlen⟩:=hT0
 have hR':=hdZ hR
 obtain ⟨m,hm⟩:=nmZ (L.length)
 rw [hm.out] at hlen
 have ih':=hdZ ih
 clear ih hT hR hsz hz
 obtain ⟨bp,qp⟩:∃b,(p==0)=b:=⟨_,rfl⟩
 obtain ⟨bn,qn⟩:∃b,(n==0)=b:=⟨_,rfl⟩
 obtain ⟨bf,qf⟩:∃b,(f==[])=b:=⟨_,rfl⟩
 obtain ⟨bx,qx⟩:∃b,(x==[])=b:=⟨_,rfl⟩
 have dp:decide (p=0)=bp:=by rw [<-qp];rfl
 have dn:decide (n=0)=bn:=by rw [<-qn];rfl
 have df:decide (f=[])=bf:=by rw [<-qf];cases f<;>rfl
 have dx:decide (x=[])=bx:=by rw [<-qx];cases x<;>rfl
 have ef:=tx_list f
 have ex:=tx_list x
 show Calls Tryz.prog 131 #[.agg #[.int .i64 k,.int .i64 p,.string ⟨f.toArray⟩,.string ⟨x.toArray⟩,.int .i64 n,.slice A L.length c]] w _
 rw [hm.out]
 have hb0:Hid (Bz w (w.alloc (.cells #[.int .i64 k,.int .i64 p,.string ⟨f.toArray⟩,.string ⟨x.toArray⟩,.int .i64 n,.slice A m c] 24))):=(Below.refl _ w).alloc leZ _
 obtain ⟨b1,q1⟩:∃b,decide (m=0)=b:=⟨_,rfl⟩
 have r1:((m:Int)==0)=b1:=by rw [<-q1,Bool.eq_iff_iff];simp
 obtain ⟨bm,hbm⟩:=nmZ (nameM f)
 obtain ⟨b4,q4⟩:∃b,decide (0<=n)=b:=⟨_,rfl⟩
 obtain ⟨b5,q5⟩:∃b,decide (n<=1099511627776)=b:=⟨_,rfl⟩
 have hres:Hid (mayR (strip (.mk k p f x n A c L))=(bp&&bx&&b1&&bm&&b4&&b5)):=by
  unfold Hid
  rw [strip,mayR,if_neg (by omega),if_neg (by omega),if_neg (by omega),if_pos (by omega),dp,dx,hbm.out,strips_map,List.length_map,hm.out,q1,q4,q5]
 have hc1:=hdZ (isName_any ⟨f.toArray⟩ _ (by rw [size_list];unfold maxLen;omega) (he.out.below hb0.out))
 rw [show (⟨f.toArray⟩:ByteArray).data.toList=f by simp,hbm.out] at hc1
 clear dp dn df dx q1
 subst hk
 cases bn
 all_goals
  cases bp with
  | false =>
   go_enter Tryz.func131,Tryz.ntmps131
   go_wp2_with fail
   go_ret
   exact ⟨by rw [hres.out];simp,hb0.out⟩
  | true =>
   cases bx with
   | false =>
    go_enter Tryz.func131,Tryz.ntmps131
    go_wp2_with fail
    go_ret
    exact ⟨by rw [hres.out];simp,hb0.out⟩
   | true =>
    cases b1 with
    | false =>
     go_enter Tryz.func131,Tryz.ntmps131
     go_wp2_with fail
     go_ret
     exact ⟨by rw [hres.out];simp,hb0.out⟩
    | true =>
     cases bm with
     | false =>
      go_enter Tryz.func131,Tryz.ntmps131
      go_wp2_with (go_at_call 180;refine hc1.out.mono ?_;rintro e w1 ⟨rfl,hB1⟩)
      go_ret
      exact ⟨by rw [hres.out];simp,hb0.out.trans (hB1.mono hb0.out.size)⟩
     | true =>
      cases b4<;>cases b5
      all_goals
       go_enter Tryz.func131,Tryz.ntmps131
       go_wp2_with fail
       refine hc1.out.mono ?_
       rintro e w1 ⟨rfl,hB1⟩
       have hBx:=btY hb0 hB1
       have s4:w1.cell? ⟨w.heap.size,4,none⟩=some (.int .i64 n):=by rw [hB1.cell (by simp),(Blk.new w 24 _).cell];rfl
       have slt:w.heap.size<w1.heap.size:=by have:=hB1.size;simp at this;omega
       clear hB1
       go_wp2_with fail
       go_ret
       exact ⟨by rw [hres.out];simp,hBx.out⟩
theorem may_like (t:Tree) (ih:∀u∈t.sub,MayC u) (hk:t.kind=7):MayC t:=by
 intro w ok he hT hz
 obtain ⟨k,p,f,x,n,A,c,L⟩:=t
 replace hk:k=7:=hk
 obtain ⟨hfl,hxl,hsz⟩:=sz_parts hz.out
 have hsz':=hdZ hsz
 have hT0:=hT.out
 rw [TreeAt] at hT0
 obtain ⟨hR,hlen⟩:=hT0
 have hR':=hdZ hR
 obtain ⟨m,hm⟩:=nmZ (L.length)
 rw [hm.out] at hlen
 have ih':=hdZ ih
 clear ih hT hR hsz hz
 obtain ⟨bp,qp⟩:∃b,(p==0)=b:=⟨_,rfl⟩
 obtain ⟨bn,qn⟩:∃b,(n==0)=b:=⟨_,rfl⟩
 obtain ⟨bf,qf⟩:∃b,(f==[])=b:=⟨_,rfl⟩
 obtain ⟨bx,qx⟩:∃b,(x==[])=b:=⟨_,rfl⟩
 have dp:decide (p=0)=bp:=by rw [<-qp];rfl
 have dn:decide (n=0)=bn:=by rw [<-qn];rfl
 have df:decide (f=[])=bf:=by rw [<-qf];cases f<;>rfl
 have dx:decide (x=[])=bx:=by rw [<-qx];cases x<;>rfl
 have ef:=tx_list f
 have ex:=tx_list x
 show Calls Tryz.prog 131 #[.agg #[.int .i64 k,.int .i64 p,.string ⟨f.toArray⟩,.string ⟨x.toArray⟩,.int .i64 n,.slice A L.length c]] w _
 rw [hm.out]
 have hb0:Hid (Bz w (w.alloc (.cells #[.int .i64 k,.int .i64 p,.string ⟨f.toArray⟩,.string ⟨x.toArray⟩,.int .i64 n,.slice A m c] 24))):=(Below.refl _ w).alloc leZ _
 obtain ⟨b1,q1⟩:∃b,decide (m=0)=b:=⟨_,rfl⟩
 have r1:((m:Int)==0)=b1:=by rw [<-q1,Bool.eq_iff_iff];simp
 obtain ⟨bm,hbm⟩:=nmZ (nameM f)
 obtain ⟨bt,hbt⟩:=nmZ (nameM x)
 obtain ⟨b4,hb4⟩:=nmZ ((decide (0<=p)&&decide (p<6)))
 have hres:Hid (mayR (strip (.mk k p f x n A c L))=(bn&&b1&&bm&&bt&&b4)):=by
  unfold Hid
  rw [strip,mayR,if_neg (by omega),if_neg (by omega),if_neg (by omega),if_neg (by omega),if_pos hk,dn,hbm.out,hbt.out,strips_map,List.length_map,hm.out,q1,Bool.and_assoc _ (decide (0<=p)),hb4.out]
 have hc1:Hid (∀(W:World) (s:Txt),s.length<=70368744177664->Bz w W->Calls Tryz.prog 180 #[.string ⟨s.toArray⟩] W fun e w'=>e=.returned (.bool (nameM s))/\Bz W w'):=fun W s hs hb=>by
  have:=isName_any ⟨s.toArray⟩ W (by rw [size_list];unfold maxLen;omega) (he.out.below hb)
  rw [show (⟨s.toArray⟩:ByteArray).data.toList=s by simp] at this
  exact this
 have hc2:Hid (∀W,Calls Tryz.prog 182 #[.int .i64 p] W fun e w'=>e=.returned (.bool b4)/\W=w'):=fun W=>by
  have:=isPaper_any p W
  rw [hb4.out] at this;exact this
 clear dp dn df dx q1
 subst hk
 cases bp
 all_goals
  cases bn with
  | false =>
   go_enter Tryz.func131,Tryz.ntmps131
   go_wp2_with fail
   go_ret
   exact ⟨by rw [hres.out];simp,hb0.out⟩
  | true =>
   cases b1 with
   | false =>
    go_enter Tryz.func131,Tryz.ntmps131
    go_wp2_with fail
    go_ret
    exact ⟨by rw [hres.out];simp,hb0.out⟩
   | true =>
    go_enter Tryz.func131,Tryz.ntmps131
    go_wp2_with fail
    refine (hc1.out _ f hfl hb0.out).mono ?_
    rintro e w1 ⟨rfl,hB1⟩
    rw [hbm.out]
    have hBx:=btY hb0 hB1
    have s3:w1.cell? ⟨w.heap.size,3,none⟩=some (.string ⟨x.toArray⟩):=by rw [hB1.cell (by simp),(Blk.new w 24 _).cell];rfl
    have s1:w1.cell? ⟨w.heap.size,1,none⟩=some (.int .i64 p):=by rw [hB1.cell (by simp),(Blk.new w 24 _).cell];rfl
    have slt:w.heap.size<w1.heap.size:=by have:=hB1.size;simp at this;omega
    clear hB1
    cases bm with
    | false =>
     go_wp2_with fail
     go_ret
     exact ⟨by rw [hres.out];simp,hBx.out⟩
    | true =>
     go_wp2_with fail
     refine (hc1.out _ x hxl hBx.out).mono ?_
     rintro e w2 ⟨rfl,hB2⟩
     rw [hbt.out]
     have hBy:=btY hBx hB2
     have s1:w2.cell? ⟨w.heap.size,1,none⟩=some (.int .i64 p):=by rw [hB2.cell slt];exact s1
     have slt2:w.heap.size<w2.heap.size:=Nat.lt_of_lt_of_le slt hB2.size
     clear hB2
     cases bt with
     | false =>
      go_wp2_with fail
      go_ret
      exact ⟨by rw [hres.out];simp,hBy.out⟩
     | true =>
      go_wp2_with fail
      refine (hc2.out _).mono ?_
      rintro e w3 ⟨rfl,rfl⟩
      go_wp2_with fail
      go_ret
      exact ⟨by rw [hres.out];simp,hBy.out⟩
theorem may_else (t:Tree) (ih:∀u∈t.sub,MayC u) (hk:t.kind<0\/7<t.kind):MayC t:=by
 intro w ok he hT hz
 obtain ⟨k,p,f,x,n,A,c,L⟩:=t
 replace hk:k<0\/7<k:=hk
 obtain ⟨hfl,hxl,hsz⟩:=sz_parts hz.out
 have hsz':=hdZ hsz
 have hT0:=hT.out
 rw [TreeAt] at hT0
 obtain ⟨hR,hlen⟩:=hT0
 have hR':=hdZ hR
 obtain ⟨m,hm⟩:=nmZ (L.length)
 rw [hm.out] at hlen
 have ih':=hdZ ih
 clear ih hT hR hsz hz
 obtain ⟨bp,qp⟩:∃b,(p==0)=b:=⟨_,rfl⟩
 obtain ⟨bn,qn⟩:∃b,(n==0)=b:=⟨_,rfl⟩
 obtain ⟨bf,qf⟩:∃b,(f==[])=b:=⟨_,rfl⟩
 obtain ⟨bx,qx⟩:∃b,(x==[])=b:=⟨_,rfl⟩
 have dp:decide (p=0)=bp:=by rw [<-qp];rfl
 have dn:decide (n=0)=bn:=by rw [<-qn];rfl
 have df:decide (f=[])=bf:=by rw [<-qf];cases f<;>rfl
 have dx:decide (x=[])=bx:=by rw [<-qx];cases x<;>rfl
 have ef:=tx_list f
 have ex:=tx_list x
 show Calls Tryz.prog 131 #[.agg #[.int .i64 k,.int .i64 p,.string ⟨f.toArray⟩,.string ⟨x.toArray⟩,.int .i64 n,.slice A L.length c]] w _
 rw [hm.out]
 have hb0:Hid (Bz w (w.alloc (.cells #[.int .i64 k,.int .i64 p,.string ⟨f.toArray⟩,.string ⟨x.toArray⟩,.int .i64 n,.slice A m c] 24))):=(Below.refl _ w).alloc leZ _
 have hres:Hid (mayR (strip (.mk k p f x n A c L))=false):=by
  unfold Hid
  rw [strip,mayR,if_neg (by omega),if_neg (by omega),if_neg (by omega),if_neg (by omega),if_neg (by omega)]
 have g0:(k==0)=false:=by simp;omega
 have g1:(k==1)=false:=by simp;omega
 have g2:(k==2)=false:=by simp;omega
 have g3:(k==3)=false:=by simp;omega
 have g4:(k==4)=false:=by simp;omega
 have g5:(k==5)=false:=by simp;omega
 have g6:(k==6)=false:=by simp;omega
 have g7:(k==7)=false:=by simp;omega
 clear dp dn df dx hk
 cases bp<;>cases bn
 all_goals
  go_enter Tryz.func131,Tryz.ntmps131
  go_wp2_with fail
  go_ret
  exact ⟨by rw [hres.out];rfl,hb0.out⟩
theorem may_any:∀t:Tree,MayC t:=Tree.every fun t ih=>by
 rcases (by omega:t.kind=0\/t.kind=1\/t.kind=2\/t.kind=3\/t.kind=4\/t.kind=5\/t.kind=6\/t.kind=7\/(t.kind<0\/7<t.kind)) with h | h | h | h | h | h | h | h | h
 ·exact may_row0 t ih h
 ·exact may_row1 t ih h
 ·exact may_not t ih h
 ·exact may_text3 t ih h
 ·exact may_text4 t ih h
 ·exact may_num5 t ih h
 ·exact may_num6 t ih h
 ·exact may_like t ih h
 ·exact may_else t ih h
end Go.Proofs.YtdjmckjbibfecaaGreatDoor.Sh

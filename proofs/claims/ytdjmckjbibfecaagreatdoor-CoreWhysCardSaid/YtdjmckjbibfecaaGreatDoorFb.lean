import Derived.Lib.SliceRun
import Derived.Deep.RegionHeld3
import Derived.Test.YtdjmckjbibfecaaGreatDoorCa
import Derived.Test.YtdjmckjbibfecaaGreatDoorEi
import Derived.Test.YtdjmckjbibfecaaGreatDoorEm
import Derived.Test.YtdjmckjbibfecaaGreatDoorHa
import Derived.Test.YtdjmckjbibfecaaGreatDoorT
namespace Go.Proofs.YtdjmckjbibfecaaGreatDoor
open Go Go.RowKit Go.BigFrame Go.Maps
theorem add_none (b off j:Nat):Addr.add ⟨b,off,none⟩ j=⟨b,off+j,none⟩:=by unfold Addr.add;split<;>simp_all
section
variable {α:Type} {enc:α->List Value} {k:Nat} {w w':World} {A:Option Addr} {l:List α}
theorem fm_len (hk:∀x,(enc x).length=k) (l:List α):(l.flatMap enc).length=l.length*k:=by
 induction l with
 | nil=>simp
 | cons x l ih=>rw [List.flatMap_cons,List.length_append,hk,ih,List.length_cons,Nat.add_mul,Nat.one_mul,Nat.add_comm]
theorem fm_get (hk:∀x,(enc x).length=k):∀(l:List α) (i j:Nat),j<k->(l.flatMap enc)[i*k+j]?=(l[i]?).bind fun x=>(enc x)[j]?
 | [],i,j,_=>by simp
 | x::l,0,j,hj=>by rw [List.flatMap_cons,List.getElem?_append_left (by rw [hk];omega)];simp
 | x::l,i+1,j,hj=>by
  rw [List.flatMap_cons,List.getElem?_append_right (by rw [hk,Nat.succ_mul];omega),hk,show (i+1)*k+j-k=i*k+j by rw [Nat.succ_mul];omega,fm_get hk l i j hj]
  simp
def RowOf (enc:α->List Value) (k:Nat) (w:World) (A:Option Addr) (l:List α):Prop :=
 ∀(i:Nat) (x:α),l[i]?=some x->∃b off,A=some ⟨b,off,none⟩/\∀(j:Nat) (u:Value),(enc x)[j]?=some u->w.cell? ⟨b,off+i*k+j,none⟩=some u
theorem RowOf.nil:RowOf enc k w A []:=by intro i x h;simp at h
theorem RowOf.keep (h:RowOf enc k w A l) (hc:∀p:Addr,p.block<w.heap.size->w'.cell? p=w.cell? p):RowOf enc k w' A l:=by
 intro i x hx
 obtain ⟨b,off,e,h0⟩:=h i x hx
 exact ⟨b,off,e,fun j u hu=>by rw [hc _ (World.block_lt_of_cell? w _ (h0 j u hu))];exact h0 j u hu⟩
theorem RowOf.below (h:RowOf enc k w A l) (hb:Bz w w'):RowOf enc k w' A l:=h.keep fun _ hp=>hb.cell hp
theorem RowOf.reads (hk:∀x,(enc x).length=k) (hk0:0<k) (h:RowOf enc k w A l):Reads w w.heap.size k A l.length (l.flatMap enc):=by
 refine ⟨fm_len hk l,fun hn=>?_⟩
 obtain ⟨x,hx⟩:∃x,l[0]?=some x:=⟨_,gZ hn⟩
 obtain ⟨b,off,hA,hc⟩:=h 0 x hx
 obtain ⟨u0,hu0⟩:∃u,(enc x)[0]?=some u:=⟨_,gZ (by rw [hk];exact hk0)⟩
 have hbl:b<w.heap.size:=World.block_lt_of_cell? w _ (hc 0 u0 hu0)
 refine ⟨⟨b,off,none⟩,hA,hbl,fun j u hu=>?_⟩
 rw [add_none]
 have e:=fm_get hk l (j / k) (j % k) (Nat.mod_lt _ hk0)
 have ej:j / k*k+j % k=j:=by rw [Nat.mul_comm];exact Nat.div_add_mod j k
 rw [ej,hu] at e
 obtain ⟨y,hy,hyu⟩:=Option.bind_eq_some_iff.1 e.symm
 obtain ⟨b',off',hA',hc'⟩:=h _ y hy
 rw [hA] at hA'
 simp only [Option.some.injEq,Addr.mk.injEq,and_true] at hA'
 obtain ⟨rfl,rfl⟩:=hA'
 have:=hc' _ u hyu
 rwa [Nat.add_assoc,ej] at this
theorem RowOf.of_own {base n:Nat} {e:TypeId} {v:Value} (hk:∀x,(enc x).length=k) (h:w.ownsRow base e k v n (l.flatMap enc)) (hl:l.length=n):∃A c,v=.slice A n c/\n<=c/\RowOf enc k w A l:=by
 rcases h.2 with ⟨rfl,hn⟩ | ⟨g,cap,cur,rfl,_,_,hnc,_⟩
 ·have:l=[]:=List.eq_nil_of_length_eq_zero (by omega)
  subst this
  subst hn
  exact ⟨_,_,rfl,Nat.le_refl _,RowOf.nil⟩
 ·refine ⟨_,_,rfl,hnc,fun i x hx=>⟨g,0,rfl,fun j u hu=>?_⟩⟩
  have hj:j<k:=by have:=(gsZ.1 hu).1;rw [hk] at this;exact this
  have:=h.cells (g:=g) rfl (i*k+j) u (by rw [fm_get hk l i j hj,hx];exact hu)
  rwa [add_none,<-Nat.add_assoc] at this
theorem RowOf.drop (h:RowOf enc k w A l) {b off m:Nat} (hA:A=some ⟨b,off,none⟩):RowOf enc k w (some ⟨b,off+m*k,none⟩) (l.drop m):=by
 intro i x hx
 rw [List.getElem?_drop] at hx
 obtain ⟨b',off',e,hc⟩:=h _ x hx
 rw [hA] at e
 simp only [Option.some.injEq,Addr.mk.injEq,and_true] at e
 obtain ⟨rfl,rfl⟩:=e
 exact ⟨b,_,rfl,fun j u hu=>by have:=hc j u hu;rwa [show off+(m+i)*k+j=off+m*k+i*k+j by rw [Nat.add_mul];omega] at this⟩
theorem RowOf.take (h:RowOf enc k w A l) (m:Nat):RowOf enc k w A (l.take m):=by
 intro i x hx
 rw [List.getElem?_take] at hx
 split at hx
 ·exact h i x hx
 ·cases hx
end
def encF (f:Fld):List Value:=[.string f.name,.string f.value]
def flF (l:List Fld):List Value:=l.flatMap encF
theorem encF_len (f:Fld):(encF f).length=2:=rfl
theorem FieldsAt.row {w:World} {A:Option Addr} {l:List Fld} (h:FieldsAt w A l):RowOf encF 2 w A l:=by
 intro i x hx
 obtain ⟨b,off,e,h0,h1⟩:=h i x hx
 refine ⟨b,off,e,fun j u hu=>?_⟩
 match j with
 | 0=>simp [encF] at hu;subst hu;exact h0
 | 1=>simp [encF] at hu;subst hu;exact h1
 | j+2=>simp [encF] at hu
theorem FieldsAt.of_row {w:World} {A:Option Addr} {l:List Fld} (h:RowOf encF 2 w A l):FieldsAt w A l:=by
 intro i x hx
 obtain ⟨b,off,e,hc⟩:=h i x hx
 exact ⟨b,off,e,hc 0 _ rfl,hc 1 _ rfl⟩
theorem fields_of_own {w:World} {base n:Nat} {v:Value} {l:List Fld} (h:w.ownsRow base 108 2 v n (flF l)) (hl:l.length=n):∃A c,v=.slice A n c/\n<=c/\FieldsAt w A l:=by
 obtain ⟨A,c,e,hc,hr⟩:=RowOf.of_own encF_len h hl
 exact ⟨A,c,e,hc,FieldsAt.of_row hr⟩
open Go Go.RowKit
theorem eq_flt (x y:Flt) (W:World):(binOp .eql 54 (.agg #[.int .i64 x.paper,.int .i64 x.kind,.string x.field,.int .i64 x.why]) (.agg #[.int .i64 y.paper,.int .i64 y.kind,.string y.field,.int .i64 y.why])).run Tryz.prog W=.ok (.bool (eqF x y)) W:=by
 rw [run_eql_struct,run_equalIn_struct _ _ _ _ _ Tryz.fields54 Tryz.held54]
 unfold Program.fieldsOf
 rw [Tryz.underlying54]
 unfold eqF
 by_cases h1:x.paper=y.paper<;>by_cases h2:x.kind=y.kind<;>by_cases h3:x.field.toList=y.field.toList<;>by_cases h4:x.why=y.why<;>simp [go_sem,h1,h2,h3,h4]
theorem ba_inj {a b:ByteArray} (h:a.toList=b.toList):a=b:=by
 rw [ba_list,ba_list] at h
 exact ByteArray.ext (Array.toList_inj.1 h)
theorem eqF_iff {x y:Flt}:eqF x y=true ↔ x=y:=by
 obtain ⟨a,b,c,d⟩:=x
 obtain ⟨a',b',c',d'⟩:=y
 unfold eqF
 simp only [Bool.and_eq_true,beq_iff_eq,Flt.mk.injEq]
 constructor
 ·rintro ⟨h1,h2,h3,h4⟩;exact ⟨h1,h2,ba_inj h3,h4⟩
 ·rintro ⟨h1,h2,h3,h4⟩;exact ⟨h1,h2,by rw [h3],h4⟩
def anyB (l:List Flt) (f:Flt):Bool:=l.any fun x=>eqF x f
theorem anyB_iff {l:List Flt} {f:Flt}:anyB l f=true ↔ f∈l:=by
 unfold anyB
 rw [List.any_eq_true]
 constructor
 ·rintro ⟨x,hx,h⟩;rw [<-eqF_iff.1 h];exact hx
 ·intro h;exact ⟨f,h,eqF_iff.2 rfl⟩
theorem any_take {α:Type} (p:α->Bool) {l:List α} {k:Nat} {x:α} (h:l[k]?=some x):(l.take (k+1)).any p=((l.take k).any p||p x):=by
 obtain ⟨hk,he⟩:=gsZ.1 h
 rw [List.take_succ_eq_append_getElem hk,he];simp
open Go Go.RowKit Go.BigFrame Go.Maps
set_option maxRecDepth 100000
set_option maxHeartbeats 3200000
theorem fcells_append (l m:List Flt):fcells (l++m)=fcells l++fcells m:=by simp [fcells]
theorem below_grown {w w':World} (h:Bz w w') (row:Option Nat):w.grownBy w' row:=⟨h.os,h.tape,h.output,h.size,fun i hi _=>h.block i hi⟩
theorem put_any (B:Nat) (v:Value) (n:Nat) (l:List Flt) (f:Flt) (w:World) (hB:Hid (B<=w.heap.size)) (hl:Hid (l.length=n)) (hn:n<=100000) (ho:Hid (w.ownsRow B 54 4 v n (fcells l))) :
  Calls Tryz.prog 111 #[v,f.agg] w fun e w'=>∃v',e=.returned v'/\w'.ownsRow B 54 4 v' (addF l f).length (fcells (addF l f))/\Below B w w'/\w.grownBy w' v.ownBlock/\(v'.ownBlock=v.ownBlock\/∃g,w.heap.size<=g/\v'.ownBlock=some g):=by
 obtain ⟨i0,hi,hz0,hz1,hz2⟩:=info_parts Tryz.info54
 have hb0:=hdZ ((Below.refl w.heap.size w).alloc leZ (.cells #[.int .i64 f.paper,.int .i64 f.kind,.string f.field,.int .i64 f.why] 54))
 have hbk:=hdZ (Blk.new w 54 #[.int .i64 f.paper,.int .i64 f.kind,.string f.field,.int .i64 f.why])
 obtain ⟨A,c,rfl,_,hF0⟩:=own_faults ho.out hl.out
 have hF:=hdZ (hF0.below hb0.out)
 clear hF0
 obtain ⟨w0,hw0⟩:∃w0,w0=w.alloc (.cells #[.int .i64 f.paper,.int .i64 f.kind,.string f.field,.int .i64 f.why] 54):=⟨_,rfl⟩
 have hs0:w0.heap.size=w.heap.size+1:=by rw [hw0,World.size_alloc]
 rw [<-hw0] at hb0 hbk hF
 go_enter Tryz.func111,Tryz.ntmps111
 go_wp2_with fail
 rw [<-hw0]
 clear hw0
 go_loopw [5] (fun i wr=>∃q:Nat,q<=n/\i=.int .i64 q/\Hid (anyB (l.take q) f=false)/\Hid (Bz w0 wr)) (fun i _=>n-(intOf i).toNat)
 case atStart=>exact ⟨0,Nat.zero_le _,rfl,rfl,Below.refl _ _⟩
 case round =>
  obtain ⟨q,hq,rfl,hs,hB1⟩:=hrel
  have hbk1:=kbZ hbk hB1
  have f0:wr.cell? ⟨w.heap.size,0,none⟩=_:=hbk1.out.cell 0
  have f1:wr.cell? ⟨w.heap.size,1,none⟩=_:=hbk1.out.cell 1
  have f2:wr.cell? ⟨w.heap.size,2,none⟩=_:=hbk1.out.cell 2
  have f3:wr.cell? ⟨w.heap.size,3,none⟩=_:=hbk1.out.cell 3
  simp only [List.getElem?_toArray,List.getElem?_cons_zero,List.getElem?_cons_succ] at f0 f1 f2 f3
  by_cases hlt:q<n
  ·obtain ⟨x,hx⟩:∃x,l[q]?=some x:=⟨_,gZ (by have:=hl.out;omega)⟩
   have hst:Hid (anyB (l.take (q+1)) f=eqF x f):=by
    unfold Hid anyB;rw [any_take _ hx]
    have:=hs.out
    unfold anyB at this
    rw [this];rfl
   have hxm:=hdZ (mgZ hx)
   obtain ⟨b,off,rfl,x0,x1,x2,x3⟩:=(hF.out.below hB1.out) q x hx
   clear hx
   have i3:(q:Int)<(n:Int):=by omega
   have i4:(0:Int)<=(q:Int):=by omega
   have hqe:=eq_flt x f
   have hqg:=Tryz.eqg54
   cases hxf:eqF x f with
   | true =>
    rw [hxf] at hqe
    have hin:Hid (addF l f=l):=by
     have:=eqF_iff.1 hxf
     unfold Hid addF
     rw [if_pos (by rw [<-this];exact hxm.out)]
    clear hxf
    go_wp2_with fail
    go_quiet (fail)
    clear hqe f0 f1 f2 f3 x0 x1 x2 x3
    go_wp2_with fail
    go_ret
    refine ⟨_,rfl,?_,?_,?_,.inl rfl⟩
    ·rw [hin.out,hl.out]
     exact own_below ho.out ((hb0.out.trans (hB1.out.mono (by omega))).trans (below_drewN (Below.refl _ _) _))
    ·exact (((hb0.out.trans (hB1.out.mono (by omega))).trans (below_drewN (Below.refl _ _) _))).mono hB.out
    ·exact below_grown (((hb0.out.trans (hB1.out.mono (by omega))).trans (below_drewN (Below.refl _ _) _))) _
   | false =>
    rw [hxf] at hqe hst
    clear hxf
    go_wp2_with fail
    go_quiet (fail)
    clear hqe
    go_wp2_with fail
    go_roundw
    case rel=>exact ⟨q+1,by omega,by go_num,hst,below_drewN hB1.out _⟩
    case measure=>simp [intOf];omega
  ·have hno:Hid (addF l f=l++[f]):=by
    unfold Hid addF
    rw [if_neg]
    intro h
    have h1:=hs.out
    rw [List.take_of_length_le (by have:=hl.out;omega)] at h1
    rw [anyB_iff.2 h] at h1;cases h1
   have ho1:=hdZ (own_below ho.out (hb0.out.trans (hB1.out.mono (by omega))))
   have hBw:Hid (Bz w wr):=hb0.out.trans (hB1.out.mono (by omega))
   have hone:Hid (∀u∈(#[.int .i64 f.paper,.int .i64 f.kind,.string f.field,.int .i64 f.why]:Array Value).toList,u.oneCell'=true):=by
    intro u hu
    simp at hu
    rcases hu with rfl | rfl | rfl | rfl<;>rfl
   have hn1:Hid (n+1<=maxLen):=by unfold Hid maxLen;omega
   have hn2:Hid ((n+1)*40<=140737488355328):=by unfold Hid;omega
   have hBr:Hid (B<=wr.heap.size):=Nat.le_trans hB.out hBw.out.size
   clear hF
   go_wp2_with (at_builtin;go_must (refine wpList_append_any _ rfl (.tmp 19) (.tmp 21) 47 rfl B 54 i0 _ 4 40 Tryz.underlying47 hi hz0 hz1 hz2 rfl (by decide) (.slice A n c) n (fcells l) rfl (ho1.out.alloc _) (wr.alloc (.cells #[.int .i64 f.paper,.int .i64 f.kind,.string f.field,.int .i64 f.why] 54)).heap.size (some ⟨wr.heap.size,0,none⟩) 1 1 #[.int .i64 f.paper,.int .i64 f.kind,.string f.field,.int .i64 f.why].toList rfl (blk_reads (Blk.new wr 54 _) 4 1 rfl) hone.out hn1.out hn2.out (Nat.le_trans hBr.out (by simp)) ?_);intro v2 w2 ho2 hg2 hv2;have ho2':=hdZ ho2;have hv2':=hdZ hv2;have hg2':Hid (w.grownBy w2 (Value.slice A n c).ownBlock):=(below_grown (hBw.out.alloc hBw.out.size _) _).trans hg2;have hB2:Hid (Below B w w2):=((hBw.out.mono hB.out).alloc hBr.out _).grown hg2 (Nat.le_trans hBr.out (by simp)) (fun k hk=>(ho1.out.lt k hk).1);clear ho2 hg2 hv2)
   go_ret
   refine ⟨_,rfl,?_,hB2.out,hg2'.out,hv2'.out.imp id (fun h=>⟨_,?_,h⟩)⟩
   ·rw [hno.out,List.length_append,hl.out,fcells_append]
    exact ho2'.out
   ·exact Nat.le_trans hBw.out.size (by simp)
theorem one_any (kd:Int) (nu is:ByteArray) (A:Option Addr) (m c:Nat) (a:Int) (f:ByteArray) (y:Int) (w:World) :
  Calls Tryz.prog 166 #[.agg #[.int .i64 kd,.string nu,.string is,.slice A m c],.int .i64 a,.string f,.int .i64 y] w fun e w'=>e=.returned (⟨a,kd,f,y⟩:Flt).agg/\Bz w w':=by
 have hb:=hdZ (((Below.refl _ w).alloc leZ (.cells #[.int .i64 kd,.string nu,.string is,.slice A m c] 61)).alloc (by simp) (.cells #[.int .i64 a,.int .i64 kd,.string f,.int .i64 y] 54))
 have hbk:=hdZ (blk_second w (.cells #[.int .i64 kd,.string nu,.string is,.slice A m c] 61) 54 #[.int .i64 a,.int .i64 kd,.string f,.int .i64 y])
 go_enter Tryz.func166,Tryz.ntmps166
 go_wp2_with fail
 refine bodyPost_ret (results_cell_row rfl _ _ (w.heap.size+1) 54 #[.int .i64 a,.int .i64 kd,.string f,.int .i64 y] (0,0) _ rfl hbk.out Tryz.underlying54 rfl (by kernel_rfl)) rfl ?_
 exact ⟨rfl,hb.out⟩
theorem rbounds_eq (c:Crd):boundsB c=(decide (1<=c.amount)&&(decide (c.amount<=1099511627776)&&(decide (0<=c.above)&&(decide (c.above<=1000)&&(decide (0<=c.below)&&(decide (c.below<=1000)&&(decide (0<=c.expiry)&&decide (c.expiry<=1048576)))))))):=by
 unfold boundsB;simp only [Bool.decide_and]
theorem rbounds_any (C:Array Value) (c:Crd) (hC:Hid (CrdAt C c)) (w:World) :
  Calls Tryz.prog 167 #[.agg C] w fun e w'=>e=.returned (.bool (boundsB c))/\Bz w w':=by
 have hb0:=hdZ ((Below.refl _ w).alloc leZ (.cells C 46))
 have hbk:=Blk.new w 46 C
 have c8:(w.alloc (.cells C 46)).cell? ⟨w.heap.size,8,none⟩=some (.int .i64 c.amount):=(hbk.cell 8).trans hC.out.amount
 have c9:(w.alloc (.cells C 46)).cell? ⟨w.heap.size,9,none⟩=some (.int .i64 c.above):=(hbk.cell 9).trans hC.out.above
 have c10:(w.alloc (.cells C 46)).cell? ⟨w.heap.size,10,none⟩=some (.int .i64 c.below):=(hbk.cell 10).trans hC.out.below
 have c12:(w.alloc (.cells C 46)).cell? ⟨w.heap.size,12,none⟩=some (.int .i64 c.expiry):=(hbk.cell 12).trans hC.out.expiry
 clear hbk
 have hbd:=hdZ (rbounds_eq c)
 cases e1:decide (1<=c.amount)
 ·go_enter Tryz.func167,Tryz.ntmps167
  go_wp2_with fail
  go_ret
  exact ⟨retBl (by rw [hbd.out];simp [e1]),hb0.out⟩
 cases e2:decide (c.amount<=1099511627776)
 ·go_enter Tryz.func167,Tryz.ntmps167
  go_wp2_with fail
  go_ret
  exact ⟨retBl (by rw [hbd.out];simp [e1,e2]),hb0.out⟩
 cases e3:decide (0<=c.above)
 ·go_enter Tryz.func167,Tryz.ntmps167
  go_wp2_with fail
  go_ret
  exact ⟨retBl (by rw [hbd.out];simp [e1,e2,e3]),hb0.out⟩
 cases e4:decide (c.above<=1000)
 ·go_enter Tryz.func167,Tryz.ntmps167
  go_wp2_with fail
  go_ret
  exact ⟨retBl (by rw [hbd.out];simp [e1,e2,e3,e4]),hb0.out⟩
 cases e5:decide (0<=c.below)
 ·go_enter Tryz.func167,Tryz.ntmps167
  go_wp2_with fail
  go_ret
  exact ⟨retBl (by rw [hbd.out];simp [e1,e2,e3,e4,e5]),hb0.out⟩
 cases e6:decide (c.below<=1000)
 ·go_enter Tryz.func167,Tryz.ntmps167
  go_wp2_with fail
  go_ret
  exact ⟨retBl (by rw [hbd.out];simp [e1,e2,e3,e4,e5,e6]),hb0.out⟩
 cases e7:decide (0<=c.expiry)
 ·go_enter Tryz.func167,Tryz.ntmps167
  go_wp2_with fail
  go_ret
  exact ⟨retBl (by rw [hbd.out];simp [e1,e2,e3,e4,e5,e6,e7]),hb0.out⟩
 cases e8:decide (c.expiry<=1048576)
 ·go_enter Tryz.func167,Tryz.ntmps167
  go_wp2_with fail
  go_ret
  exact ⟨retBl (by rw [hbd.out];simp [e1,e2,e3,e4,e5,e6,e7,e8]),hb0.out⟩
 go_enter Tryz.func167,Tryz.ntmps167
 go_wp2_with fail
 go_ret
 exact ⟨retBl (by rw [hbd.out];simp [e1,e2,e3,e4,e5,e6,e7,e8]),hb0.out⟩
theorem rmost_any (C:Array Value) (c:Crd) (hC:Hid (CrdAt C c)) (hb:boundsB c=true) (w:World) :
  Calls Tryz.prog 168 #[.agg C] w fun e w'=>e=.returned (.int .i64 (mostC c))/\Bz w w':=by
 have hb0:=hdZ ((Below.refl _ w).alloc leZ (.cells C 46))
 have hbk:=Blk.new w 46 C
 have hb:=of_decide_eq_true hb
 have c8:(w.alloc (.cells C 46)).cell? ⟨w.heap.size,8,none⟩=some (.int .i64 c.amount):=(hbk.cell 8).trans hC.out.amount
 have c9:(w.alloc (.cells C 46)).cell? ⟨w.heap.size,9,none⟩=some (.int .i64 c.above):=(hbk.cell 9).trans hC.out.above
 clear hbk
 obtain ⟨x1,hx1⟩:=nmZ (c.amount)
 obtain ⟨x2,hx2⟩:=nmZ (c.above)
 rw [hx1.out] at c8 hb
 rw [hx2.out] at c9 hb
 obtain ⟨h1,h2,h3,h4,_⟩:=hb
 have hp0:0<=x1*(1000+x2):=Int.mul_nonneg (by omega) (by omega)
 have hp1:x1*(1000+x2)<=1099511627776*2000:=Int.mul_le_mul (by omega) (by omega) (by omega) (by omega)
 have hm:Hid (mostC c=x1*(1000+x2) / 1000):=by unfold Hid mostC;rw [hx1.out,hx2.out]
 go_enter Tryz.func168,Tryz.ntmps168
 go_wp2_with fail
 go_ret
 exact ⟨by rw [hm.out];first | done | rfl,hb0.out⟩
theorem rleast_any (C:Array Value) (c:Crd) (hC:Hid (CrdAt C c)) (hb:boundsB c=true) (w:World) :
  Calls Tryz.prog 169 #[.agg C] w fun e w'=>e=.returned (.int .i64 (leastY c))/\Bz w w':=by
 have hb0:=hdZ ((Below.refl _ w).alloc leZ (.cells C 46))
 have hbk:=Blk.new w 46 C
 have hb:=of_decide_eq_true hb
 have c8:(w.alloc (.cells C 46)).cell? ⟨w.heap.size,8,none⟩=some (.int .i64 c.amount):=(hbk.cell 8).trans hC.out.amount
 have c9:(w.alloc (.cells C 46)).cell? ⟨w.heap.size,10,none⟩=some (.int .i64 c.below):=(hbk.cell 10).trans hC.out.below
 clear hbk
 obtain ⟨x1,hx1⟩:=nmZ (c.amount)
 obtain ⟨x2,hx2⟩:=nmZ (c.below)
 rw [hx1.out] at c8 hb
 rw [hx2.out] at c9 hb
 obtain ⟨h1,h2,_,_,h3,h4,_⟩:=hb
 have hp0:0<=x1*(1000-x2):=Int.mul_nonneg (by omega) (by omega)
 have hp1:x1*(1000-x2)<=1099511627776*2000:=Int.mul_le_mul (by omega) (by omega) (by omega) (by omega)
 have hm:Hid (leastY c=(x1*(1000-x2)+999) / 1000):=by unfold Hid leastY;rw [hx1.out,hx2.out]
 go_enter Tryz.func169,Tryz.ntmps169
 go_wp2_with fail
 go_ret
 exact ⟨by rw [hm.out];first | done | rfl,hb0.out⟩
def sameP (x y:Pap):Prop:=x.kind=y.kind/\x.number=y.number/\x.issuer=y.issuer/\x.fields=y.fields
def sameD (l m:List Pap):Prop:=l.length=m.length/\∀(i:Nat) (x y:Pap),l[i]?=some x->m[i]?=some y->sameP x y
def encD (x:Pap):List Value:=[.int .i64 x.kind,.string x.number,.string x.issuer,.slice x.fA x.fields.length x.fc]
def flD (l:List Pap):List Value:=l.flatMap encD
theorem encD_len (x:Pap):(encD x).length=4:=rfl
theorem DocsAt.row {w:World} {A:Option Addr} {l:List Pap} (h:DocsAt w A l):RowOf encD 4 w A l:=by
 intro i x hx
 obtain ⟨b,off,e,h0,h1,h2,h3,_⟩:=h i x hx
 refine ⟨b,off,e,fun j u hu=>?_⟩
 match j with
 | 0=>simp [encD] at hu;subst hu;exact h0
 | 1=>simp [encD] at hu;subst hu;exact h1
 | 2=>simp [encD] at hu;subst hu;exact h2
 | 3=>simp [encD] at hu;subst hu;exact h3
 | j+4=>simp [encD] at hu
theorem DocsAt.of_row {w:World} {A:Option Addr} {l:List Pap} (h:RowOf encD 4 w A l) (hf:∀x∈l,FieldsAt w x.fA x.fields/\x.fields.length<=maxLen/\(-9223372036854775808<=x.kind/\x.kind<=9223372036854775807)):DocsAt w A l:=by
 intro i x hx
 obtain ⟨b,off,e,hc⟩:=h i x hx
 obtain ⟨f1,f2,f3⟩:=hf x (mgZ hx)
 exact ⟨b,off,e,hc 0 _ rfl,hc 1 _ rfl,hc 2 _ rfl,hc 3 _ rfl,f1,f2,f3⟩
def bare (x:Pap):Pap:=⟨x.kind,x.number,x.issuer,none,0,x.fields⟩
def numV (d:Pap) (s:ByteArray):Option Int:=if getB d.fields s=true then numF (getV d.fields s).data.toList else none
section
variable {P:Program} {ops:Array Oper} {o:Oper} {a:Act} {W:World} {Q:Exit->Act->World->Prop} {K:Act->World->Prop} {E:Prop}
theorem step_app_blk (B:Nat) (hgd:o.guard=none) (s x:Operand) (t:TypeId) (ho:o.op=.call { callee:=.builtin .append,args:=#[s,x],argTypes:=#[t,t] })
  (e:TypeId) (i:TypeInfo) (z:Value) (size bytes:Nat) (ht:P.underlying t=some (.slice e)) (hi:P.info? e=some i) (hz:i.zero=some z)
  (hsize:i.size=size) (hby:i.bytes=bytes) (hzs:z.cells.size=size) (hsz:0<size)
  (v:Value) (m:Nat) (xs:List Value) (hs:a.eval s=v) (g c:Nat) (cs:Array Value) (hx:a.eval x=.slice (some ⟨g,0,none⟩) 1 c)
  (hv:W.ownsRow B e size v m xs) (hg:Blk W g e cs) (hcs:cs.size=size) (h1:∀u∈cs.toList,u.oneCell'=true) (h63:m+1<=maxLen) (hbytes:(m+1)*bytes<=140737488355328) (hB:B<=W.heap.size)
  (h:∀v' w',w'.ownsRow B e size v' (m+1) (xs++cs.toList)->Below B W w'->W.grownBy w' v.ownBlock->K (a.put o.dst v') w') :
  if Region.wanted o (yielded ops a.tmps)=true then Oper.wp P o a W K Q else E:=by
 refine step_append_any _ hgd s x t ho B e i z size bytes ht hi hz hsize hby hzs hsz v m xs hs hv W.heap.size _ 1 c cs.toList hx (blk_reads hg size 1 (by omega)) h1 h63 hbytes hB ?_
 intro v' w' ho' hgr hvb
 refine h v' w' ho' ((Below.refl _ _).grown hgr hB (fun k hk=>?_)) hgr
 rcases hv.2 with ⟨rfl,_⟩ | ⟨g',cap,cur,rfl,hgb,_⟩
 ·simp [Value.ownBlock] at hk
 ·simp [Value.ownBlock] at hk;omega
theorem wpList_load_blkg {rest:List Oper} {w:World} (hw:Region.wanted o (yielded ops a.tmps)=true) (ty:TypeId) (x:Operand) (ho:o.op=.load ty x) (g:Nat) (cs:Array Value) (t:TypeId) (d:TypeDesc) (hx:a.eval x=.pointer (some ⟨g,0,none⟩))
  (hb:Blk w g t cs) (hu:P.underlying ty=some d) (hd:(match d with | .struct _ | .array _ _=>true | _=>false)=true) (hi:(P.info? ty).map (·.size)=some cs.size)
  (h:wpList P ops Q rest (a.put o.dst (.agg cs)) w):wpList P ops Q (o::rest) a w:=by
 rw [wpList,if_pos hw]
 exact .inl (wp_load_row ty x ho g hx t cs (0,0) d hb hu hd hi h)
theorem quiet_blk {C:World->Prop} {K:Act->Prop} (ty:TypeId) (x:Operand) (ho:o.op=.load ty x) (g:Nat) (cs:Array Value) (t:TypeId) (d:TypeDesc) (hx:a.eval x=.pointer (some ⟨g,0,none⟩))
  (hb:∀w,C w->Blk w g t cs) (hu:P.underlying ty=some d) (hd:(match d with | .struct _ | .array _ _=>true | _=>false)=true) (hi:(P.info? ty).map (·.size)=some cs.size)
  (hk:K (a.put o.dst (.agg cs))):o.quiet P a C K:=by
 refine ⟨_,fun w hw=>?_,hk⟩
 unfold Oper.quietAt execOp
 simp only [ho,hx,Instr.loadAt,Instr.sureAddr,Sem.run_bind,Sem.run_pure,Result.andThen_ok,run_loadVar_row w g t ty cs (0,0) d (hb w hw) hu hd hi]
 exact ⟨rfl,rfl⟩
end
theorem fcell4 (p k:Int) (f:ByteArray) (y:Int):∀u∈(#[.int .i64 p,.int .i64 k,.string f,.int .i64 y]:Array Value).toList,u.oneCell'=true:=by
 intro u hu
 simp at hu
 rcases hu with rfl | rfl | rfl | rfl<;>rfl
theorem fcells_snoc (l:List Flt) (p k:Int) (f:ByteArray) (y:Int):fcells (l++[⟨p,k,f,y⟩])=fcells l++(#[.int .i64 p,.int .i64 k,.string f,.int .i64 y]:Array Value).toList:=by simp [fcells,Flt.cells]
end Go.Proofs.YtdjmckjbibfecaaGreatDoor

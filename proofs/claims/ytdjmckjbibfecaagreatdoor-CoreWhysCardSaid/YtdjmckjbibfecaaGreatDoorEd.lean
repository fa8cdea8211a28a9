import Derived.Deep.QuietTactic
import Derived.BigQuiet
import Derived.Deep.Draws
import Derived.Deep.MidRow
import Derived.Laws.Rows
import Derived.Test.YtdjmckjbibfecaaGreatDoorCe
import Derived.Test.YtdjmckjbibfecaaGreatDoorTxD
namespace Go.Proofs.YtdjmckjbibfecaaGreatDoor
open Go Go.RowKit Go.BigFrame Go.Maps
set_option maxRecDepth 100000
set_option maxHeartbeats 1600000
theorem zero4 (w:World):(zeroValue 4).run Tryz.prog w=.ok (.bool false) w:=by kernel_rfl
theorem Tryz.info54:(Tryz.prog.info? 54).map (fun i=>(i.zero,i.size,i.bytes))=some (some (.agg #[.int .i64 0,.int .i64 0,.string ⟨#[]⟩,.int .i64 0]),4,40):=by kernel_rfl
open Classical in
noncomputable def toldF (l:List Flt):Value->Option Value:=fun x=>if ∃y∈l,x=y.agg then some (.bool true) else none
open Classical in
noncomputable def addF (l:List Flt) (f:Flt):List Flt:=if f∈l then l else l++[f]
theorem agg_inj {x y:Flt} (h:x.agg=y.agg):x=y:=by
 obtain ⟨a,b,c,d⟩:=x
 obtain ⟨a',b',c',d'⟩:=y
 simpa using h
theorem told_get (l:List Flt) (f:Flt):(toldF l f.agg).getD (.bool false)=.bool (@decide (f∈l) (Classical.propDecidable _)):=by
 unfold toldF
 by_cases h:f∈l
 ·rw [if_pos ⟨f,h,rfl⟩];simp [h]
 ·rw [if_neg (fun ⟨y,hy,e⟩=>h (by rw [agg_inj e];exact hy))];simp [h]
open Classical in
theorem told_put (l:List Flt) (f:Flt):(fun y=>if y=f.agg then some (.bool true) else toldF l y)=toldF (l++[f]):=by
 funext y
 unfold toldF
 by_cases h1:y=f.agg
 ·rw [if_pos h1,if_pos ⟨f,by simp,h1⟩]
 ·rw [if_neg h1]
  by_cases h2:∃z∈l,y=z.agg
  ·obtain ⟨z,hz,e⟩:=h2
   rw [if_pos ⟨z,hz,e⟩,if_pos ⟨z,by simp [hz],e⟩]
  ·rw [if_neg h2,if_neg]
   rintro ⟨z,hz,e⟩
   rcases List.mem_append.1 hz with hz | hz
   ·exact h2 ⟨z,hz,e⟩
   ·simp at hz;subst hz;exact h1 e
structure Tell (w:World) (B ct cf bm:Nat) (v:Value) (l:List Flt):Prop where
 map:MapFn w Tryz.prog 54 4 bm l.length (.bool false) (toldF l)
 tc:Blk w ct 90 #[.map (some bm)]
 fc:Blk w cf 47 #[v]
 row:w.ownsRow B 54 4 v l.length (fcells l)
 base:B<=ct/\B<=cf/\B<=bm
theorem Tell.below {w w':World} {B ct cf bm:Nat} {v:Value} {l:List Flt} (h:Tell w B ct cf bm v l) (hb:Bz w w'):Tell w' B ct cf bm v l :=
 ⟨h.map.below hb h.map.lt,h.tc.below hb h.tc.lt,h.fc.below hb h.fc.lt,own_below h.row hb,h.base⟩
theorem own_map_ne {w:World} {B b n m:Nat} {e k e':TypeId} {size:Nat} {v z:Value} {xs:List Value} {S:Value->Option Value} (h:w.ownsRow B e size v n xs) (hm:MapFn w Tryz.prog k e' b m z S):some b≠v.ownBlock:=by
 obtain ⟨D,zd,⟨es,clock,hh,_⟩,_⟩:=hm
 rcases h.2 with ⟨rfl,_⟩ | ⟨g,cap,cur,rfl,_,hg,_⟩
 ·simp [Value.ownBlock]
 ·intro he
  simp only [Value.ownBlock,Option.some.injEq] at he
  subst he
  rw [hh] at hg;cases hg
theorem blk_map_ne {w:World} {b g m:Nat} {t k e':TypeId} {cs:Array Value} {z:Value} {S:Value->Option Value} (h:Blk w g t cs) (hm:MapFn w Tryz.prog k e' b m z S):b≠g:=by
 obtain ⟨D,zd,⟨es,clock,hh,_⟩,_⟩:=hm
 rintro rfl
 rw [Blk,hh] at h;cases h
theorem fcells_one (l:List Flt):∀u∈fcells l,u.oneCell'=true:=by
 intro u hu
 unfold fcells at hu
 obtain ⟨x,_,hx⟩:=List.mem_flatMap.1 hu
 simp [Flt.cells] at hx
 rcases hx with rfl | rfl | rfl | rfl<;>rfl
theorem own_slice {w:World} {B n:Nat} {e:TypeId} {size:Nat} {v:Value} {xs:List Value} (h:w.ownsRow B e size v n xs):∃A c,v=.slice A n c:=by
 rcases h.2 with ⟨rfl,rfl⟩ | ⟨g,cap,cur,rfl,_⟩
 ·exact ⟨_,_,rfl⟩
 ·exact ⟨_,_,rfl⟩
structure ButS (S:Nat->Prop) (w w':World):Prop where
 os:w'.os=w.os
 tape:w'.tape=w.tape
 output:w'.output=w.output
 size:w.heap.size<=w'.heap.size
 block:∀k,k<w.heap.size->¬S k->w'.heap[k]?=w.heap[k]?
theorem ButS.refl (S:Nat->Prop) (w:World):ButS S w w:=⟨rfl,rfl,rfl,Nat.le_refl _,fun _ _ _=>rfl⟩
theorem ButS.trans {S:Nat->Prop} {a b c:World} (h:ButS S a b) (k:ButS S b c):ButS S a c :=
 ⟨k.os.trans h.os,k.tape.trans h.tape,k.output.trans h.output,Nat.le_trans h.size k.size,fun i hi hs=>(k.block i (Nat.lt_of_lt_of_le hi h.size) hs).trans (h.block i hi hs)⟩
theorem ButS.of_below {S:Nat->Prop} {w w':World} (h:Bz w w'):ButS S w w':=⟨h.os,h.tape,h.output,h.size,fun k hk _=>h.block k hk⟩
theorem ButS.alloc {S:Nat->Prop} {a w:World} (h:ButS S a w) (o:Obj):ButS S a (w.alloc o):=h.trans (ButS.of_below ((Below.refl _ w).alloc leZ o))
theorem ButS.grown {S:Nat->Prop} {a w w':World} {row:Option Nat} (h:ButS S a w) (hg:w.grownBy w' row) (hr:∀k,row=some k->S k):ButS S a w' :=
 h.trans ⟨hg.os,hg.tape,hg.output,hg.size,fun k hk hs=>hg.block k hk (fun e=>hs (hr k e.symm))⟩
theorem ButS.setCell {S:Nat->Prop} {a w:World} (h:ButS S a w) (g o:Nat) (u:Value) (hg:S g):ButS S a (w.setCell ⟨g,o,none⟩ u) :=
 h.grown (grown_set w g o u) (fun k e=>by simp at e;subst e;exact hg)
theorem ButS.below {S:Nat->Prop} {w w':World} {B:Nat} (h:ButS S w w') (hS:∀g,S g->B<=g) (hB:B<=w.heap.size):Below B w w' :=
 ⟨h.os,h.tape,h.output,h.size,fun k hk=>h.block k (by omega) (fun hs=>by have:=hS k hs;omega)⟩
theorem ButS.blk {S:Nat->Prop} {w w':World} {g:Nat} {t:TypeId} {cs:Array Value} (h:ButS S w w') (hb:Blk w g t cs) (hg:¬S g):Blk w' g t cs:=(h.block g hb.lt hg).trans hb
theorem ButS.map {S:Nat->Prop} {w w':World} {k e:TypeId} {b n:Nat} {z:Value} {F:Value->Option Value} (h:ButS S w w') (hm:MapFn w Tryz.prog k e b n z F) (hg:¬S b):MapFn w' Tryz.prog k e b n z F:=by
 have hl:=hm.lt
 obtain ⟨D,zd,⟨es,clock,h1,h1'⟩,h2⟩:=hm
 exact ⟨D,zd,⟨es,clock,(h.block b hl hg).trans h1,h1'⟩,h2⟩
def tellS (cf bm:Nat) (v:Value) (g:Nat):Prop:=g=bm\/g=cf\/v.ownBlock=some g
def Tells (B ct cf bm:Nat) (v:Value) (l:List Flt) (w:World) (e:Ending) (w':World):Prop:=e=.returned (.tuple #[])/\∃v',Tell w' B ct cf bm v' l/\ButS (tellS cf bm v) w w'
theorem tell_any (f:Flt) (hf:f.fits) (B ct cf bm:Nat) (v:Value) (l:List Flt) (w:World) (hl:l.length<=100000) (h:Tell w B ct cf bm v l) (hB:B<=w.heap.size) :
  Calls Tryz.prog 57 #[f.agg,.pointer (some ⟨ct,0,none⟩),.pointer (some ⟨cf,0,none⟩)] w (Tells B ct cf bm v (addF l f) w):=by
 obtain ⟨i0,hi,hz0,hz1,hz2⟩:=info_parts Tryz.info54
 obtain ⟨A,c,rfl⟩:=own_slice h.row
 obtain ⟨kl,hkl⟩:=keyF f hf
 have hb0:Bz w (w.alloc (.cells #[.int .i64 f.paper,.int .i64 f.kind,.string f.field,.int .i64 f.why] 54)):=(Below.refl _ w).alloc leZ _
 have h0:=hdZ (h.below hb0)
 have hlk:=h0.out.map.look keyed40 Tryz.underlying90 (zero4 _) hkl
 rw [told_get] at hlk
 have c1:(w.alloc (.cells #[.int .i64 f.paper,.int .i64 f.kind,.string f.field,.int .i64 f.why] 54)).cell? ⟨ct,0,none⟩=some (.map (some bm)):=by rw [h0.out.tc.cell];rfl
 have hkl':=hdZ hkl
 clear hkl
 by_cases hm:f∈l
 ·have e1:@decide (f∈l) (Classical.propDecidable _)=true:=by simp [hm]
  rw [e1] at hlk
  clear e1
  have hm':=hdZ hm
  clear hm
  go_enter Tryz.func57,Tryz.ntmps57
  go_wp2_with fail
  go_end0
  refine ⟨rfl,.slice A l.length c,?_,(ButS.refl _ w).alloc _⟩
  rw [addF,if_pos hm'.out];exact h0.out
 ·have e1:@decide (f∈l) (Classical.propDecidable _)=false:=by simp [hm]
  rw [e1] at hlk
  clear e1
  have hm':=hdZ hm
  clear hm
  have hn0:Hid (l.length<maxLen):=by unfold Hid maxLen;omega
  have hn1:Hid (l.length+1<=maxLen):=by unfold Hid maxLen;omega
  have hn2:Hid ((l.length+1)*40<=140737488355328):=by unfold Hid;omega
  have hone:Hid (∀u∈(#[Value.int .i64 f.paper,.int .i64 f.kind,.string f.field,.int .i64 f.why]:Array Value).toList,u.oneCell'=true):=by
   have:=fcells_one [f]
   unfold Hid;simpa [fcells,Flt.cells] using this
  have hblk0:Blk (w.alloc (.cells #[.int .i64 f.paper,.int .i64 f.kind,.string f.field,.int .i64 f.why] 54)) w.heap.size 54 #[.int .i64 f.paper,.int .i64 f.kind,.string f.field,.int .i64 f.why]:=Blk.new w 54 _
  go_enter Tryz.func57,Tryz.ntmps57
  go_wp2_with (first | (at_mapUpdate;go_must (refine wpList_put _ rfl _ _ _ 90 rfl keyed40 Tryz.underlying90 bm l.length rfl h0.out.map hn0.out f.agg (.bool true) kl rfl rfl hkl'.out (plainElem_bool Tryz.underlying4 true) ?_);intro w1 hm1 hg1;rw [told_put] at hm1;have t1:Hid (Blk w1 ct 90 #[.map (some bm)]):=h0.out.tc.kept hg1 (by simpa using blk_map_ne h0.out.tc h0.out.map);have f1:Hid (Blk w1 cf 47 #[.slice A l.length c]):=h0.out.fc.kept hg1 (by simpa using blk_map_ne h0.out.fc h0.out.map);have b1:=hblk0.kept hg1 (by simpa using blk_map_ne hblk0 h0.out.map);have r1:Hid (w1.ownsRow B 54 4 (.slice A l.length c) l.length (fcells l)):=h0.out.row.kept hg1 (.inr (own_map_ne h0.out.row h0.out.map).symm);have hB1:Hid (ButS (tellS cf bm (.slice A l.length c)) w w1):=((ButS.refl _ w).alloc _).grown hg1 (fun k hk=>(by simp at hk;exact .inl hk.symm));have hm1':=hdZ hm1;have hz1':Hid (B<=w1.heap.size):=Nat.le_trans hB hB1.out.size;obtain ⟨⟨q0,q1,q2,q3⟩,_⟩:=b1.four;have qv:w1.cell? ⟨cf,0,none⟩=some (.slice A l.length c):=(by rw [f1.out.cell];rfl);clear hm1 hg1 hlk c1 hblk0 b1) | (at_builtin;go_must (refine wpList_app3 B rfl (.tmp 10) (.tmp 12) 47 rfl 54 i0 _ 4 40 Tryz.underlying47 hi hz0 hz1 hz2 rfl (by decide) (.slice A l.length c) l.length (fcells l) rfl w1.heap.size 1 #[.int .i64 f.paper,.int .i64 f.kind,.string f.field,.int .i64 f.why] rfl (r1.out.alloc _) (Blk.new w1 54 _) rfl hone.out hn1.out hn2.out (Nat.le_trans hz1'.out (by simp)) ?_);intro v2 w2 ho2 hb2 hg2;have t2:=(t1.out.alloc (.cells #[.int .i64 f.paper,.int .i64 f.kind,.string f.field,.int .i64 f.why] 54)).kept hg2 (own_blk_ne r1.out t1.out (by decide));have f2:=(f1.out.alloc (.cells #[.int .i64 f.paper,.int .i64 f.kind,.string f.field,.int .i64 f.why] 54)).kept hg2 (own_blk_ne r1.out f1.out (by decide));have m2:=(hm1'.out.alloc (.cells #[.int .i64 f.paper,.int .i64 f.kind,.string f.field,.int .i64 f.why] 54)).kept hg2 (own_map_ne r1.out hm1'.out);have hB2:Hid (ButS (tellS cf bm (.slice A l.length c)) w w2):=(hB1.out.alloc _).grown hg2 (fun k hk=>.inr (.inr hk));have ho2':=hdZ ho2;have t2':=hdZ t2;have f2':=hdZ f2;have m2':=hdZ m2;have qw:w2.cell? ⟨cf,0,none⟩=some (.slice A l.length c):=(by rw [f2.cell];rfl);have qf:w2.frozen? ⟨cf,0,none⟩=false:=f2.frozen 0;obtain ⟨A2,c2,rfl⟩:=own_slice ho2;clear ho2 t2 f2 m2 hg2 hb2))
  go_end0
  refine ⟨rfl,.slice A2 (l.length+1) c2,?_,hB2.out.setCell _ _ _ (.inr (.inl rfl))⟩
  rw [addF,if_neg hm'.out]
  have hlen:(l++[f]).length=l.length+1:=by simp
  refine ⟨?_,?_,?_,?_,h.base⟩
  ·rw [hlen];exact m2'.out.setCell (blk_map_ne f2'.out m2'.out) _
  ·exact t2'.out.far (fun e=>by
    have e':ct=cf:=e
    have h1:=t2'.out
    have h2:=f2'.out
    rw [e',Blk] at h1
    rw [Blk,h1] at h2
    simp at h2) _
  ·simpa using f2'.out.set_ 0 (.slice A2 (l.length+1) c2)
  ·rw [hlen]
   have:=own_set (o:=0) (u:=.slice A2 (l.length+1) c2) ho2'.out f2'.out (by decide)
   simpa [fcells,Flt.cells] using this
structure Crd where
 number:ByteArray
 applicant:ByteArray
 beneficiary:ByteArray
 issuer:ByteArray
 confirmer:ByteArray
 orig:ByteArray
 dest:ByteArray
 currency:ByteArray
 amount:Int
 above:Int
 below:Int
 latest:Int
 expiry:Int
 within:Int
 tenor:Int
 part:Bool
 change:Bool
abbrev Crd.cells (c:Crd) (needs:Value):Array Value:=#[.string c.number,.string c.applicant,.string c.beneficiary,.string c.issuer,.string c.confirmer,.string c.orig,.string c.dest,.string c.currency,.int .i64 c.amount,.int .i64 c.above,.int .i64 c.below,.int .i64 c.latest,.int .i64 c.expiry,.int .i64 c.within,.int .i64 c.tenor,.bool c.part,.bool c.change,needs]
structure Ned where
 kind:Int
 count:Int
 rk:Int
 rp:Int
 rf:ByteArray
 rt:ByteArray
 rn:Int
 rl:Option Addr
 rln:Nat
 rlc:Nat
def NeedsAt (w:World) (A:Option Addr) (l:List Ned):Prop :=
 ∀(k:Nat) (x:Ned),l[k]?=some x->(-9223372036854775808<=x.kind/\x.kind<=9223372036854775807)/\∃b off,A=some ⟨b,off,none⟩/\w.cell? ⟨b,off+k*8,none⟩=some (.int .i64 x.kind)/\w.cell? ⟨b,off+k*8+1,none⟩=some (.int .i64 x.count) /\
  w.cell? ⟨b,off+k*8+2,none⟩=some (.int .i64 x.rk)/\w.cell? ⟨b,off+k*8+3,none⟩=some (.int .i64 x.rp)/\w.cell? ⟨b,off+k*8+4,none⟩=some (.string x.rf)/\w.cell? ⟨b,off+k*8+5,none⟩=some (.string x.rt) /\
  w.cell? ⟨b,off+k*8+6,none⟩=some (.int .i64 x.rn)/\w.cell? ⟨b,off+k*8+7,none⟩=some (.slice x.rl x.rln x.rlc)
theorem NeedsAt.below {w w':World} {A:Option Addr} {l:List Ned} (h:NeedsAt w A l) (hb:Bz w w'):NeedsAt w' A l:=by
 intro k x hk
 obtain ⟨hr,b,off,e,h0,h1,h2,h3,h4,h5,h6,h7⟩:=h k x hk
 have hlt:b<w.heap.size:=World.block_lt_of_cell? w _ h0
 have hc:∀o,w'.cell? ⟨b,o,none⟩=w.cell? ⟨b,o,none⟩:=fun o=>hb.cell (p:=⟨b,o,none⟩) hlt
 exact ⟨hr,b,off,e,by rw [hc];exact h0,by rw [hc];exact h1,by rw [hc];exact h2,by rw [hc];exact h3,by rw [hc];exact h4,by rw [hc];exact h5,by rw [hc];exact h6,by rw [hc];exact h7⟩
theorem int_keyed3:Keyed Tryz.prog 3:=int_keyed Tryz.underlying3
theorem zero3 (w:World):(zeroValue 3).run Tryz.prog w=.ok (.int .i64 0) w:=by kernel_rfl
structure St (w wx:World) (C X:Array Value) (v:Value) (l:List Flt):Prop where
 credit:Blk wx w.heap.size 46 C
 tell:Tell wx w.heap.size (w.heap.size+1+1+1) (w.heap.size+1) (w.heap.size+1+1) v l
 exam:Blk wx (w.heap.size+1+1+1+1) 94 X
 below:Bz w wx
section
variable {w wx w':World} {C X:Array Value} {v:Value} {l:List Flt}
theorem St.belows (h:St w wx C X v l) (hb:Bz wx w'):St w w' C X v l :=
 ⟨h.credit.below hb h.credit.lt,h.tell.below hb,h.exam.below hb h.exam.lt,h.below.trans (hb.mono h.below.size)⟩
theorem St.alloc (h:St w wx C X v l) (o:Obj):St w (wx.alloc o) C X v l:=h.belows ((Below.refl _ _).alloc leZ o)
theorem St.put {k e:TypeId} {b n:Nat} {z:Value} {S:Value->Option Value} (h:St w wx C X v l) (hm:MapFn wx Tryz.prog k e b n z S) (hne:b≠w.heap.size+1+1) (hB:w.heap.size<=b) (hg:wx.grownBy w' (some b)):St w w' C X v l:=by
 refine ⟨h.credit.kept hg (by simpa using blk_map_ne h.credit hm),⟨h.tell.map.kept hg (by simpa using Ne.symm hne),h.tell.tc.kept hg (by simpa using blk_map_ne h.tell.tc hm),h.tell.fc.kept hg (by simpa using blk_map_ne h.tell.fc hm),h.tell.row.kept hg (.inr (own_map_ne h.tell.row hm).symm),h.tell.base⟩,
  h.exam.kept hg (by simpa using blk_map_ne h.exam hm),h.below.grown hg h.below.size (fun k hk=>by simp at hk;omega)⟩
theorem tellS_no {g:Nat} {t:TypeId} {cs:Array Value} (h:St w wx C X v l) (hg:Blk wx g t cs) (ht:t≠54) (ht2:t≠47):¬tellS (w.heap.size+1) (w.heap.size+1+1) v g:=by
 rintro (e | e | e)
 ·subst e;exact blk_map_ne hg h.tell.map rfl
 ·subst e
  have h1:=h.tell.fc
  rw [Blk] at h1 hg
  rw [h1] at hg
  simp at hg;exact ht2 hg.2.symm
 ·exact own_blk_ne h.tell.row hg (Ne.symm ht) e
theorem St.told {l':List Flt} {v':Value} (h:St w wx C X v l) (ht:Tell w' w.heap.size (w.heap.size+1+1+1) (w.heap.size+1) (w.heap.size+1+1) v' l') (hb:ButS (tellS (w.heap.size+1) (w.heap.size+1+1) v) wx w'):St w w' C X v' l' :=
 ⟨hb.blk h.credit (tellS_no h h.credit (by decide) (by decide)),ht,hb.blk h.exam (tellS_no h h.exam (by decide) (by decide)),h.below.trans (hb.below (fun g hg=>by
  rcases hg with e | e | e
  ·omega
  ·omega
  ·have:=(h.tell.row.lt g e).1;omega) h.below.size)⟩
end
theorem addF_len (l:List Flt) (f:Flt):(addF l f).length<=l.length+1:=by
 unfold addF;split<;>simp
theorem fcells_get:∀(l:List Flt) (k:Nat) (x:Flt),l[k]?=some x->∀i,i<4->(fcells l)[k*4+i]?=x.cells[i]?
 | [],k,x,h,i,hi=>by simp at h
 | y::l,0,x,h,i,hi=>by
  simp at h;subst h
  show (y.cells++fcells l)[0*4+i]?=_
  rw [Nat.zero_mul,Nat.zero_add,List.getElem?_append_left (by simp [Flt.cells];omega)]
 | y::l,k+1,x,h,i,hi=>by
  have ih:=fcells_get l k x (by simpa using h) i hi
  show (y.cells++fcells l)[(k+1)*4+i]?=_
  rw [List.getElem?_append_right (by simp [Flt.cells];omega)]
  have e:(k+1)*4+i-y.cells.length=k*4+i:=by simp [Flt.cells];omega
  rw [e];exact ih
theorem own_faults {w:World} {base m:Nat} {v:Value} {l:List Flt} (h:w.ownsRow base 54 4 v m (fcells l)) (hl:l.length=m):∃A' c',v=.slice A' m c'/\m<=c'/\FaultsAt w A' l:=by
 rcases h.2 with ⟨rfl,rfl⟩ | ⟨g,cap,cur,rfl,_,_,hnc,_⟩
 ·have:l=[]:=List.eq_nil_of_length_eq_zero hl
  subst this
  exact ⟨_,_,rfl,Nat.le_refl _,by intro k x hk;simp at hk⟩
 ·refine ⟨_,_,rfl,hnc,fun k x hk=>?_⟩
  have hc:∀i,i<4->∀u,x.cells[i]?=some u->w.cell? ⟨g,0+k*4+i,none⟩=some u:=fun i hi u hu=>by
   have:=h.cells (g:=g) rfl (k*4+i) u (by rw [fcells_get l k x hk i hi];exact hu)
   rwa [show Addr.add ⟨g,0,none⟩ (k*4+i)=⟨g,0+k*4+i,none⟩ by unfold Addr.add;split<;>simp_all] at this
  exact ⟨g,0,rfl,hc 0 (by omega) _ rfl,hc 1 (by omega) _ rfl,hc 2 (by omega) _ rfl,hc 3 (by omega) _ rfl⟩
theorem st_new (w:World) (C X:Array Value):St w (((((w.alloc (.cells C 46)).alloc (.cells #[.slice none 0 0] 47)).alloc (.map #[] 0)).alloc (.cells #[.map (some (w.heap.size+1+1))] 90)).alloc (.cells X 94)) C X (.slice none 0 0) []:=by
 have b0:=Blk.new w 46 C
 have b1:=Blk.new (w.alloc (.cells C 46)) 47 #[.slice none 0 0]
 have b2:=MapFn.made ((w.alloc (.cells C 46)).alloc (.cells #[.slice none 0 0] 47)) Tryz.prog 54 4 (plainElem_bool Tryz.underlying4 false)
 have b3:=Blk.new (((w.alloc (.cells C 46)).alloc (.cells #[.slice none 0 0] 47)).alloc (.map #[] 0)) 90 #[.map (some (w.heap.size+1+1))]
 have b4:=Blk.new ((((w.alloc (.cells C 46)).alloc (.cells #[.slice none 0 0] 47)).alloc (.map #[] 0)).alloc (.cells #[.map (some (w.heap.size+1+1))] 90)) 94 X
 simp only [World.size_alloc] at b1 b2 b3 b4
 have e0:toldF []=fun _=>none:=by funext x;simp [toldF]
 refine ⟨(((b0.alloc _).alloc _).alloc _).alloc _,⟨?_,b3.alloc _,((b1.alloc _).alloc _).alloc _,World.ownsRow_nil _ _ _ _,by omega⟩,b4,?_⟩
 ·rw [e0];exact (b2.alloc _).alloc _
 ·exact (((((Below.refl _ w).alloc leZ _).alloc (by simp) _).alloc (by simp;omega) _).alloc (by simp;omega) _).alloc (by simp;omega) _
theorem retBl {a b:Bool} (h:a=b):Ending.returned (.bool a)=.returned (.bool b):=by rw [h]
def eqF (x y:Flt):Bool:=x.paper==y.paper&&(x.kind==y.kind&&(x.field.toList==y.field.toList&&x.why==y.why))
theorem Tryz.eqg54:Tryz.prog.eqGuardType Tryz.prog.depth 54=false:=by kernel_rfl
theorem Tryz.held54:Tryz.prog.stoodInHeld 54=false:=by kernel_rfl
theorem Tryz.fields54:Tryz.prog.underlying 54=some (.struct (Tryz.prog.fieldsOf 54)):=by kernel_rfl
section
variable {P:Program} {ops:Array Oper} {o:Oper} {rest:List Oper} {a:Act} {w:World} {Q:Exit->Act->World->Prop}
theorem wpList_load_blk (hgd:o.guard=none) (ty:TypeId) (x:Operand) (ho:o.op=.load ty x) (g:Nat) (cs:Array Value) (t:TypeId) (d:TypeDesc) (hx:a.eval x=.pointer (some ⟨g,0,none⟩))
  (hb:Blk w g t cs) (hu:P.underlying ty=some d) (hd:(match d with | .struct _ | .array _ _=>true | _=>false)=true) (hi:(P.info? ty).map (·.size)=some cs.size)
  (h:wpList P ops Q rest (a.put o.dst (.agg cs)) w):wpList P ops Q (o::rest) a w :=
 wpList_load_row hgd ty x ho g hx t cs (0,0) d hb hu hd hi h
end
open Go
mutual
def partsT:Tree->List Tree
 | .mk k p f x n A c L=>if k=0 then partsL L else [.mk k p f x n A c L]
def partsL:List Tree->List Tree
 | []=>[]
 | t::L=>partsT t++partsL L
end
def isAtomB (k:Int):Bool:=decide (3<=k/\k<=7)
def ruleF (docs:List Pap) (a:Int) (d:Pap) (t:Tree):List Flt :=
 if holdsT docs d t=0 then [] else [⟨a,d.kind,if isAtomB t.kind then t.field else ⟨#[]⟩,if t.kind=7/\holdsT docs d t=2 then 3 else holdsT docs d t⟩]
def needR (docs:List Pap) (a:Int) (d:Pap) (x:Nd):List Flt:=if x.kind=d.kind then (partsT x.rule).flatMap (ruleF docs a d) else []
def ruledF (needs:List Nd) (docs:List Pap) (a:Int) (d:Pap):List Flt:=needs.flatMap (needR docs a d)
def askF (a:Int) (d:Pap) (name:ByteArray) (wrong:ByteArray->Int):List Flt :=
 match getF d.fields name with
 | none=>[⟨a,d.kind,name,1⟩]
 | some v=>if wrong v=0 then [] else [⟨a,d.kind,name,wrong v⟩]
def isW (t v:ByteArray):Int:=if v.toList=t.toList then 0 else 3
def boundsB (c:Crd):Bool:=decide (1<=c.amount/\c.amount<=1099511627776/\0<=c.above/\c.above<=1000/\0<=c.below/\c.below<=1000/\0<=c.expiry/\c.expiry<=1048576)
def mostC (c:Crd):Int:=c.amount*(1000+c.above) / 1000
def leastY (c:Crd):Int:=(c.amount*(1000-c.below)+999) / 1000
def sumW (c:Crd) (v:ByteArray):Int :=
 match numF v.data.toList with
 | none=>2
 | some n=>if boundsB c=true/\mostC c<n then 5 else if boundsB c=true/\n<leastY c then 6 else 0
def issuedW (c:Crd) (day:Int) (v:ByteArray):Int :=
 match numF v.data.toList with
 | none=>2
 | some n=>if c.latest<n\/n+c.within<day then 4 else 0
def nSeller:ByteArray:=⟨#[115,101,108,108,101,114]⟩
def nBuyer:ByteArray:=⟨#[98,117,121,101,114]⟩
def nCurrency:ByteArray:=⟨#[99,117,114,114,101,110,99,121]⟩
def nSum:ByteArray:=⟨#[115,117,109]⟩
def nIssued:ByteArray:=⟨#[105,115,115,117,101,100]⟩
def nExpiry:ByteArray:=⟨#[101,120,112,105,114,121]⟩
def invoiceF (c:Crd) (a:Int) (d:Pap):List Flt:=askF a d nSeller (isW c.beneficiary)++(askF a d nBuyer (isW c.applicant)++(askF a d nCurrency (isW c.currency)++askF a d nSum (sumW c)))
def ladingF (c:Crd) (day a:Int) (d:Pap):List Flt:=askF a d nIssued (issuedW c day)
def fixedF (c:Crd) (day a:Int) (d:Pap):List Flt:=if d.kind=0 then invoiceF c a d else if d.kind=2 then ladingF c day a d else []
def paperF (c:Crd) (needs:List Nd) (docs:List Pap) (day a:Int) (d:Pap):List Flt:=fixedF c day a d++ruledF needs docs a d
def askedB (needs:List Nd) (k:Int):Bool:=needs.any fun x=>decide (x.kind=k)
def aheadF (needs:List Nd):List Pap->ByteArray->Option ByteArray
 | [],_=>none
 | d::l,s=>match (if askedB needs d.kind then getF d.fields s else none) with
  | some v=>some v
  | none=>aheadF needs l s
def alikeB (i:Nat):ByteArray:=mkB (alikeL i)
def otherF (needs:List Nd) (ahead:List Pap) (a:Int) (d:Pap) (i:Nat):List Flt :=
 match getF d.fields (alikeB i) with
 | none=>[]
 | some v=>match aheadF needs ahead (alikeB i) with
  | none=>[]
  | some o=>if o.toList=v.toList then [] else [⟨a,d.kind,alikeB i,3⟩]
def othersF (needs:List Nd) (ahead:List Pap) (a:Int) (d:Pap):List Flt:=(List.range 6).flatMap (otherF needs ahead a d)
def docF (c:Crd) (needs:List Nd) (docs:List Pap) (day:Int) (a:Nat) (d:Pap):List Flt :=
 if askedB needs d.kind then paperF c needs docs day a d++othersF needs (docs.take a) a d else []
def docAt (c:Crd) (needs:List Nd) (docs:List Pap) (day:Int) (a:Nat):List Flt:=match docs[a]? with | some d=>docF c needs docs day a d | none=>[]
def countK (docs:List Pap) (k:Int):Nat:=docs.countP fun d=>decide (d.kind=k)
def lackF (docs:List Pap) (x:Nd):List Flt:=if (countK docs x.kind:Int)<x.count then [⟨-1,x.kind,⟨#[]⟩,1⟩] else []
def expF (c:Crd) (day:Int):List Flt:=if c.expiry<day then [⟨-1,-1,nExpiry,4⟩] else []
def toldE (c:Crd) (needs:List Nd) (docs:List Pap) (day:Int):List Flt :=
 expF c day++(needs.flatMap (lackF docs)++(List.range docs.length).flatMap (docAt c needs docs day))
noncomputable def addAll (l m:List Flt):List Flt:=m.foldl addF l
noncomputable def examF (c:Crd) (needs:List Nd) (docs:List Pap) (day:Int):List Flt:=addAll [] (toldE c needs docs day)
theorem addAll_nil (l:List Flt):addAll l []=l:=rfl
theorem addAll_one (l:List Flt) (f:Flt):addAll l [f]=addF l f:=rfl
theorem addAll_app (l m k:List Flt):addAll l (m++k)=addAll (addAll l m) k:=by simp [addAll]
theorem addAll_len:∀(m l:List Flt),(addAll l m).length<=l.length+m.length
 | [],l=>by simp [addAll]
 | f::m,l=>by
  have h1:=addAll_len m (addF l f)
  have h2:=addF_len l f
  show (addAll (addF l f) m).length<=_
  simp only [List.length_cons];omega
theorem mem_addF {l:List Flt} {f x:Flt}:x∈addF l f ↔ x∈l\/x=f:=by
 unfold addF
 split
 ·constructor
  ·exact .inl
  ·rintro (h | rfl)
   ·exact h
   ·assumption
 ·simp
theorem mem_addAll:∀{m l:List Flt} {x:Flt},x∈addAll l m ↔ x∈l\/x∈m
 | [],l,x=>by simp [addAll]
 | f::m,l,x=>by
  show x∈addAll (addF l f) m ↔ _
  rw [mem_addAll,mem_addF];simp [or_assoc]
theorem mem_examF {c:Crd} {needs:List Nd} {docs:List Pap} {day:Int} {x:Flt}:x∈examF c needs docs day ↔ x∈toldE c needs docs day:=by
 unfold examF;rw [mem_addAll];simp
theorem isW_in (t v:ByteArray):isW t v=0\/isW t v=3:=by unfold isW;split<;>simp
theorem sumW_in (c:Crd) (v:ByteArray):sumW c v=0\/sumW c v=2\/sumW c v=5\/sumW c v=6:=by
 unfold sumW;split
 ·simp
 ·split
  ·simp
  ·split<;>simp
theorem issuedW_in (c:Crd) (day:Int) (v:ByteArray):issuedW c day v=0\/issuedW c day v=2\/issuedW c day v=4:=by
 unfold issuedW;split
 ·simp
 ·split<;>simp
open Go Go.RowKit Go.BigFrame Go.Maps
def Row40 (w:World) (g:Nat):Prop:=∃cs fr,w.heap[g]?=some (.cells cs 54 fr)
def TS (B cf bm:Nat) (w:World) (g:Nat):Prop:=B<=g/\(g=bm\/g=cf\/Row40 w g)
def Tld (B cf bm:Nat) (w w':World):Prop:=ButS (TS B cf bm w) w w'
section
variable {B cf bm:Nat} {w w' a b c:World}
theorem Tld.refl (B cf bm:Nat) (w:World):Tld B cf bm w w:=ButS.refl _ _
theorem Tld.of_below (h:Bz w w'):Tld B cf bm w w':=ButS.of_below h
theorem Tld.size (h:Tld B cf bm w w'):w.heap.size<=w'.heap.size:=ButS.size h
theorem Tld.low (h:Tld B cf bm w w') (hB:B<=w.heap.size):Below B w w':=ButS.below h (fun _ hg=>hg.1) hB
theorem Tld.trans (h:Tld B cf bm a b) (k:Tld B cf bm b c):Tld B cf bm a c :=
 ⟨k.os.trans h.os,k.tape.trans h.tape,k.output.trans h.output,Nat.le_trans h.size k.size,fun i hi hs=>by
  have e:=h.block i hi hs
  refine (k.block i (Nat.lt_of_lt_of_le hi h.size) (fun ⟨h1,h2⟩=>hs ⟨h1,?_⟩)).trans e
  rcases h2 with h2 | h2 | ⟨cs,fr,h2⟩
  ·exact .inl h2
  ·exact .inr (.inl h2)
  ·exact .inr (.inr ⟨cs,fr,by rw [<-e];exact h2⟩)⟩
end
structure ExS (w0:World) (ct cf bm xb:Nat) (X:Array Value) (w:World) (v:Value) (l:List Flt):Prop where
 tell:Tell w w0.heap.size ct cf bm v l
 exam:Blk w xb 94 X
 below:Bz w0 w
section
variable {w0:World} {ct cf bm xb:Nat} {X:Array Value} {w w':World} {v:Value} {l:List Flt}
theorem ExS.belows (h:ExS w0 ct cf bm xb X w v l) (hb:Bz w w'):ExS w0 ct cf bm xb X w' v l :=
 ⟨h.tell.below hb,h.exam.below hb h.exam.lt,h.below.trans (hb.mono h.below.size)⟩
theorem ExS.alloc (h:ExS w0 ct cf bm xb X w v l) (o:Obj):ExS w0 ct cf bm xb X (w.alloc o) v l:=h.belows ((Below.refl _ _).alloc leZ o)
theorem ExS.drew (h:ExS w0 ct cf bm xb X w v l):ExS w0 ct cf bm xb X w.drew v l:=h.belows (Below.refl _ _).drew
theorem ExS.no (h:ExS w0 ct cf bm xb X w v l) {g:Nat} {t:TypeId} {cs:Array Value} (hb:Blk w g t cs) (ht:t≠54) (ht2:t≠47):¬TS w0.heap.size cf bm w g:=by
 rintro ⟨_,e | e | ⟨cs',fr,e⟩⟩
 ·subst e;exact blk_map_ne hb h.tell.map rfl
 ·subst e
  have h1:=h.tell.fc
  rw [Blk] at h1 hb
  rw [h1] at hb
  simp at hb;exact ht2 hb.2.symm
 ·rw [Blk,e] at hb
  simp at hb;exact ht hb.2.1.symm
theorem ExS.keep (h:ExS w0 ct cf bm xb X w v l) (ht:Tld w0.heap.size cf bm w w') {g:Nat} {t:TypeId} {cs:Array Value} (hb:Blk w g t cs) (h1:t≠54) (h2:t≠47):Blk w' g t cs:=ButS.blk ht hb (h.no hb h1 h2)
theorem ExS.keepM (h:ExS w0 ct cf bm xb X w v l) (ht:Tld w0.heap.size cf bm w w') {k e:TypeId} {b n:Nat} {z:Value} {S:Value->Option Value} (hm:MapFn w Tryz.prog k e b n z S) (hne:b≠bm):MapFn w' Tryz.prog k e b n z S :=
 ButS.map ht hm (by
  rintro ⟨_,e | e | ⟨cs',fr,e⟩⟩
  ·exact hne e
  ·exact blk_map_ne h.tell.fc hm e
  ·obtain ⟨D,zd,⟨es,clock,hh,_⟩,_⟩:=hm
   rw [hh] at e;cases e)
end
def Ted (w0:World) (ct cf bm xb:Nat) (X:Array Value) (l:List Flt) (w:World) (e:Ending) (w':World):Prop :=
 e=.returned (.tuple #[])/\∃v,ExS w0 ct cf bm xb X w' v l/\Tld w0.heap.size cf bm w w'
theorem tell_ex {w0:World} {ct cf bm xb:Nat} {X:Array Value} {w:World} {v:Value} {l:List Flt} (f:Flt) (hf:f.fits) (hl:l.length<=100000) (h:ExS w0 ct cf bm xb X w v l) :
  Calls Tryz.prog 57 #[f.agg,.pointer (some ⟨ct,0,none⟩),.pointer (some ⟨cf,0,none⟩)] w (Ted w0 ct cf bm xb X (addF l f) w):=by
 refine (tell_any f hf w0.heap.size ct cf bm v l w hl h.tell h.below.size).mono ?_
 rintro e w' ⟨rfl,v',ht,hb⟩
 have hT:Tld w0.heap.size cf bm w w':=⟨hb.os,hb.tape,hb.output,hb.size,fun k hk hs=>hb.block k hk (fun hts=>hs (by
  rcases hts with e | e | e
  ·exact ⟨by have:=h.tell.base;omega,.inl e⟩
  ·exact ⟨by have:=h.tell.base;omega,.inr (.inl e)⟩
  ·rcases h.tell.row.2 with ⟨rfl,_⟩ | ⟨g,cap,cur,rfl,hg,hh,_⟩
   ·simp [Value.ownBlock] at e
   ·simp [Value.ownBlock] at e
    subst e
    exact ⟨hg,.inr (.inr ⟨_,_,hh⟩)⟩))⟩
 exact ⟨rfl,v',⟨ht,h.keep hT h.exam (by decide) (by decide),h.below.trans (hT.low h.below.size)⟩,hT⟩
def exX (C:Array Value) (A:Option Addr) (nn cc:Nat) (day:Int) (ct cf:Nat):Array Value :=
 C++#[.slice A nn cc,.int .i64 day,.func (Fn.func 57) #[] #[.pointer (some ⟨ct,0,none⟩),.pointer (some ⟨cf,0,none⟩)]]
theorem exX_docs {C:Array Value} {A:Option Addr} {nn cc:Nat} {day:Int} {ct cf:Nat} (hC:C.size=18):(exX C A nn cc day ct cf)[18]?=some (.slice A nn cc):=by
 unfold exX;rw [Array.getElem?_append_right (by omega)];simp [hC]
theorem exX_day {C:Array Value} {A:Option Addr} {nn cc:Nat} {day:Int} {ct cf:Nat} (hC:C.size=18):(exX C A nn cc day ct cf)[19]?=some (.int .i64 day):=by
 unfold exX;rw [Array.getElem?_append_right (by omega)];simp [hC]
theorem exX_tell {C:Array Value} {A:Option Addr} {nn cc:Nat} {day:Int} {ct cf:Nat} (hC:C.size=18):(exX C A nn cc day ct cf)[20]?=some (.func (Fn.func 57) #[] #[.pointer (some ⟨ct,0,none⟩),.pointer (some ⟨cf,0,none⟩)]):=by
 unfold exX;rw [Array.getElem?_append_right (by omega)];simp [hC]
theorem exX_cell {C:Array Value} {A:Option Addr} {nn cc:Nat} {day:Int} {ct cf:Nat} (hC:C.size=18) {i:Nat} (hi:i<18):(exX C A nn cc day ct cf)[i]?=C[i]?:=by
 unfold exX;rw [Array.getElem?_append_left (by omega)]
theorem exX_range {w:World} {xb:Nat} {C:Array Value} {A:Option Addr} {nn cc:Nat} {day:Int} {ct cf:Nat} (hC:C.size=18) (h:Blk w xb 94 (exX C A nn cc day ct cf)):w.rangeAt xb 0 C.toList:=by
 intro j v hv
 have hj:j<18:=by
  have:=(gsZ.1 hv).1
  simp at this;omega
 rw [Nat.zero_add,h.cell,exX_cell hC hj]
 simpa using hv
theorem exIsAtom_any (k p:Int) (f x:ByteArray) (n:Int) (A:Option Addr) (m c:Nat) (w:World) :
  Calls Tryz.prog 110 #[.agg #[.int .i64 k,.int .i64 p,.string f,.string x,.int .i64 n,.slice A m c]] w fun e w'=>e=.returned (.bool (isAtomB k))/\Bz w w':=by
 have hb0:=hdZ ((Below.refl _ w).alloc leZ (.cells #[.int .i64 k,.int .i64 p,.string f,.string x,.int .i64 n,.slice A m c] 24))
 by_cases h:3<=k/\k<=7
 ·have ha:Hid (isAtomB k=true):=by unfold Hid isAtomB;simp [h]
  go_enter Tryz.func110,Tryz.ntmps110
  go_wp2_with fail
  all_goals try (exfalso;omega)
  all_goals (go_ret;exact ⟨by rw [ha.out];rfl,hb0.out⟩)
 ·have ha:Hid (isAtomB k=false):=by unfold Hid isAtomB;simp [h]
  go_enter Tryz.func110,Tryz.ntmps110
  go_wp2_with fail
  all_goals try (exfalso;omega)
  all_goals (go_ret;exact ⟨by rw [ha.out];rfl,hb0.out⟩)
set_option maxHeartbeats 3200000
theorem kind_of {w:World} {A:Option Addr} {docs:List Pap} {a:Nat} {d:Pap} (h:DocsAt w A docs) (hd:docs[a]?=some d) : -9223372036854775808<=d.kind/\d.kind<=9223372036854775807:=by
 obtain ⟨b,off,_,_,_,_,_,_,_,hk⟩:=h a d hd
 exact hk
theorem ruleF_none {docs:List Pap} {a:Int} {d:Pap} {t:Tree} (h:holdsT docs d t=0):ruleF docs a d t=[]:=by unfold ruleF;rw [if_pos h]
theorem ruleF_some {docs:List Pap} {a:Int} {d:Pap} {t:Tree} (h:¬holdsT docs d t=0) {f:ByteArray} {y:Int} (hf:(if isAtomB t.kind then t.field else ⟨#[]⟩)=f) (hy:(if t.kind=7/\holdsT docs d t=2 then 3 else holdsT docs d t)=y):ruleF docs a d t=[⟨a,d.kind,f,y⟩]:=by
 unfold ruleF;rw [if_neg h,hf,hy]
theorem ExS.set {w0:World} {ct cf bm xb:Nat} {X:Array Value} {w:World} {v:Value} {l:List Flt} (h:ExS w0 ct cf bm xb X w v l) {g:Nat} {cs:Array Value} (hb:Blk w g 54 cs) (hv:v.ownBlock≠some g) (hB:w0.heap.size<=g) (i:Nat) (u:Value) :
  ExS w0 ct cf bm xb X (w.setCell ⟨g,i,none⟩ u) v l/\Tld w0.heap.size cf bm w (w.setCell ⟨g,i,none⟩ u):=by
 refine ⟨⟨⟨h.tell.map.setCell (blk_map_ne hb h.tell.map).symm.symm u,h.tell.tc.far (h.tell.tc.ne_ hb (by decide)) u,h.tell.fc.far (h.tell.fc.ne_ hb (by decide)) u,h.tell.row.kept (grown_set w g i u) (.inr hv),h.tell.base⟩,h.exam.far (h.exam.ne_ hb (by decide)) u,h.below.setCell hB u⟩,?_⟩
 exact ButS.setCell (ButS.refl _ _) g i u ⟨hB,.inr (.inr ⟨_,_,hb⟩)⟩
theorem part1_any (w0:World) (ct cf bm xb:Nat) (C:Array Value) (hC:Hid (C.size=18)) (A:Option Addr) (nn cc:Nat) (docs:List Pap) (day:Int) (a:Nat) (d:Pap) (pb ab kb:Nat) (hd:Hid (docs[a]?=some d)) (t:Tree) (hT:Hid (TreeAt w0 t)) (hL:Hid (LongT t)) (hR:Hid (Room w0 A nn docs))
  (w:World) (v:Value) (l:List Flt) (hl:l.length<100000) (hx:Hid (ExS w0 ct cf bm xb (exX C A nn cc day ct cf) w v l)) (hp:Hid (Blk w pb 91 #[.pointer (some ⟨xb,0,none⟩)])) (ha:Hid (Blk w ab 3 #[.int .i64 a])) (hk:Hid (Blk w kb 3 #[.int .i64 d.kind])) :
  Calls Tryz.prog 109 #[.agg t.cells,.pointer (some ⟨pb,0,none⟩),.pointer (some ⟨ab,0,none⟩),.pointer (some ⟨kb,0,none⟩)] w (Ted w0 ct cf bm xb (exX C A nn cc day ct cf) (addAll l (ruleF docs a d t)) w):=by
 have hkb:=kind_of hR.out.at_ hd.out
 have halt:a<nn:=by have:=(gsZ.1 hd.out).1;have:=hR.out.len;omega
 have hmost:=hR.out.most
 have hh:=hdZ (holds_in A nn cc docs a d hd.out t)
 have hrg:=holdsT_range docs d t
 have hLt:=allT_here hL.out
 obtain ⟨k,p,f,x,n,A',c',L⟩:=t
 simp only [Tree.cells] at hh ⊢
 simp only [Tree.field,Tree.text] at hLt
 obtain ⟨hLf,_⟩:=hLt
 obtain ⟨m,hm⟩:=nmZ (L.length)
 obtain ⟨s,hs⟩:=nmZ (holdsT docs d (.mk k p f x n A' c' L))
 rw [hs.out] at hrg
 obtain ⟨hs0,hs2⟩:=hrg
 rw [hm.out]
 obtain ⟨kd,hkd⟩:=nmZ (d.kind)
 rw [hkd.out] at hk hkb
 obtain ⟨hk1,hk2⟩:=hkb
 have hb0:=hdZ ((Below.refl _ w).alloc leZ (.cells #[.int .i64 k,.int .i64 p,.string f,.string x,.int .i64 n,.slice A' m c'] 24))
 have hbk0:=hdZ (Blk.new w 24 #[.int .i64 k,.int .i64 p,.string f,.string x,.int .i64 n,.slice A' m c'])
 have hx0:=hdZ (hx.out.belows hb0.out)
 have hp0:=kbZ hp hb0
 have ha0:=kbZ ha hb0
 have hk0:=kbZ hk hb0
 go_enter Tryz.func109,Tryz.ntmps109
 go_wp2_with fail
 have hcl:Hid (∀y:Ext (w.alloc (.cells #[.int .i64 k,.int .i64 p,.string f,.string x,.int .i64 n,.slice A' m c'] 24)),Calls Tryz.prog 17 #[.agg #[.int .i64 k,.int .i64 p,.string f,.string x,.int .i64 n,.slice A' m c'],.slice A nn cc,.int .i64 a] y.wd fun e w'=>e=.returned (.int .i64 s)/\Below y.wd.heap.size y.wd w'):=fun y=>by
  have hb:Bz w0 y.wd:=hx0.out.below.trans (y.below.mono hx0.out.below.size)
  have h1:=hh.out y.wd (hT.out.below hb) (hR.out.below hb)
  simp only [Tree.cells,hm.out,hs.out] at h1
  exact h1
 have hcell:∀(y:Ext (w.alloc (.cells #[.int .i64 k,.int .i64 p,.string f,.string x,.int .i64 n,.slice A' m c'] 24))) (i:Nat),y.wd.cell? ⟨w.heap.size,i,none⟩=_:=fun y i=>(y.cell ⟨w.heap.size,i,none⟩ hbk0.out.lt).trans (hbk0.out.cell i)
 have c0:=fun y=>hcell y 0
 have c1:=fun y=>hcell y 1
 have c2:=fun y=>hcell y 2
 have c3:=fun y=>hcell y 3
 have c4:=fun y=>hcell y 4
 have c5:=fun y=>hcell y 5
 simp only [List.getElem?_toArray,List.getElem?_cons_zero,List.getElem?_cons_succ] at c0 c1 c2 c3 c4 c5
 clear hcell
 have cp:∀y:Ext (w.alloc (.cells #[.int .i64 k,.int .i64 p,.string f,.string x,.int .i64 n,.slice A' m c'] 24)),y.wd.cell? ⟨pb,0,none⟩=some (.pointer (some ⟨xb,0,none⟩)):=fun y=>(y.cell ⟨pb,0,none⟩ hp0.out.lt).trans (hp0.out.cell 0)
 have ca:∀y:Ext (w.alloc (.cells #[.int .i64 k,.int .i64 p,.string f,.string x,.int .i64 n,.slice A' m c'] 24)),y.wd.cell? ⟨ab,0,none⟩=some (.int .i64 a):=fun y=>(y.cell ⟨ab,0,none⟩ ha0.out.lt).trans (ha0.out.cell 0)
 have cx:∀y:Ext (w.alloc (.cells #[.int .i64 k,.int .i64 p,.string f,.string x,.int .i64 n,.slice A' m c'] 24)),y.wd.cell? ⟨xb,18,none⟩=some (.slice A nn cc):=fun y=>(y.cell ⟨xb,18,none⟩ hx0.out.exam.lt).trans ((hx0.out.exam.cell 18).trans (exX_docs hC.out))
 refine wp_region_ext (by kernel_rfl) (by kernel_rfl) ?_
 repeat (go_big_quiet_step (first | (go_at_call 17;exact Calls.ext_of (hcl.out _))))
 refine wpQuiet_nil ?_
 rintro _ ⟨y,rfl⟩
 have hB1:=hdZ (hb0.out.trans (y.below.mono hb0.out.size))
 have hx1:=hdZ (hx0.out.belows y.below)
 have hbk1:=hdZ (hbk0.out.below y.below hbk0.out.lt)
 have hp1:=hdZ (hp0.out.below y.below hp0.out.lt)
 have ha1:=hdZ (ha0.out.below y.below ha0.out.lt)
 have hk1':=hdZ (hk0.out.below y.below hk0.out.lt)
 clear c0 c1 c2 c3 c4 c5 cp ca cx hcl hbk0 hp0 ha0 hk0 hx0 hb0
 obtain ⟨W,hW⟩:=nmZ (y.wd)
 rw [hW.out] at hB1 hx1 hbk1 hp1 ha1 hk1' ⊢
 clear hW
 have c0:W.cell? ⟨w.heap.size,0,none⟩=_:=hbk1.out.cell 0
 have c1:W.cell? ⟨w.heap.size,1,none⟩=_:=hbk1.out.cell 1
 have c2:W.cell? ⟨w.heap.size,2,none⟩=_:=hbk1.out.cell 2
 have c3:W.cell? ⟨w.heap.size,3,none⟩=_:=hbk1.out.cell 3
 have c4:W.cell? ⟨w.heap.size,4,none⟩=_:=hbk1.out.cell 4
 have c5:W.cell? ⟨w.heap.size,5,none⟩=_:=hbk1.out.cell 5
 have ca:W.cell? ⟨ab,0,none⟩=_:=ha1.out.cell 0
 have ck:W.cell? ⟨kb,0,none⟩=_:=hk1'.out.cell 0
 simp only [List.getElem?_toArray,List.getElem?_cons_zero,List.getElem?_cons_succ] at c0 c1 c2 c3 c4 c5 ca ck
 have z1:=hbk1.out.lt
 have z2:=ha1.out.lt
 have z3:=hk1'.out.lt
 go_wp2_with fail
 have hbA:=hdZ ((Below.refl _ W).alloc leZ (.cells #[.int .i64 a,.int .i64 kd,.string ⟨#[]⟩,.int .i64 s] 54))
 have hfbA:=hdZ (Blk.new W 54 #[.int .i64 a,.int .i64 kd,.string ⟨#[]⟩,.int .i64 s])
 refine (exIsAtom_any k p f x n A' m c' _).mono ?_
 rintro e w2 ⟨rfl,hb2⟩
 have hvW:Hid (v.ownBlock≠some W.heap.size):=fun e=>by have:=(hx1.out.tell.row.lt _ e).2;omega
 have hb2':=hdZ (hbA.out.trans (hb2.mono (by simp)))
 have hB2:=hdZ (hB1.out.trans (hb2'.out.mono hB1.out.size))
 have hx2:=hdZ (hx1.out.belows hb2'.out)
 have hbk2:=hdZ (hbk1.out.below hb2'.out hbk1.out.lt)
 have hp2:=hdZ (hp1.out.below hb2'.out hp1.out.lt)
 have hfb2:=kbY hfbA hb2
 clear hb2 c0 c1 c2 c3 c4 c5 ca ck z1 z2 z3 hbk1 hp1 hx1 ha1 hk1' hfbA hbA
 have c0:w2.cell? ⟨w.heap.size,0,none⟩=_:=hbk2.out.cell 0
 have c2:w2.cell? ⟨w.heap.size,2,none⟩=_:=hbk2.out.cell 2
 simp only [List.getElem?_toArray,List.getElem?_cons_zero,List.getElem?_cons_succ] at c0 c2
 obtain ⟨⟨q0,q1,q2,q3⟩,qf⟩:=hfb2.out.four
 have qf2:=qf 2
 have qf3:=qf 3
 clear qf
 have hne:w.heap.size≠W.heap.size:=by have:=hbk2.out.ne_ hfb2.out (by decide);exact this
 obtain ⟨g,hg⟩:=nmZ (W.heap.size)
 rw [hg.out] at hfb2 q0 q1 q2 q3 qf2 qf3 hne ⊢
 obtain ⟨g0,hg0⟩:=nmZ (w.heap.size)
 have hgN:Hid (w0.heap.size<=g):=by have:=hx.out.below.size;have:=hB1.out.size;have:=hg.out;unfold Hid;omega
 have hBw:=hdZ hB2.out
 rw [hg0.out] at c0 c2 hne ⊢
 obtain ⟨ia,hia⟩:=nmZ (isAtomB k)
 rw [hia.out]
 clear hbk2
 have hvne:Hid (v.ownBlock≠some g):=by rw [<-hg.out];exact hvW.out
 have fin:Hid (∀(fld:ByteArray) (why:Int),((if isAtomB k then f else ⟨#[]⟩)=fld)->((if k=7/\s=2 then 3 else s)=why)->¬s=0->ruleF docs a d (.mk k p f x n A' c' L)=[⟨a,kd,fld,why⟩]):=fun fld why h1 h2 h3=>by
  rw [ruleF_some (t:=.mk k p f x n A' c' L) (f:=fld) (y:=why) (by rw [hs.out];exact h3) h1 (by rw [hs.out];exact h2),hkd.out]
 go_upto_if 19 with fail
 go_cut [22] (fun _ wx=>∃(fld:ByteArray),Hid ((if isAtomB k then f else ⟨#[]⟩)=fld)/\Hid (Blk wx g 54 #[.int .i64 a,.int .i64 kd,.string fld,.int .i64 s])/\Hid (ExS w0 ct cf bm xb (exX C A nn cc day ct cf) wx v l)/\Hid (Blk wx pb 91 #[.pointer (some ⟨xb,0,none⟩)])/\Hid (Tld w0.heap.size cf bm w wx)/\wx.cell? ⟨g0,0,none⟩=some (.int .i64 k))
 case first =>
  cases ia
  ·go_wp2_with fail
   go_meet
   case rel=>exact ⟨⟨#[]⟩,by rw [hia.out];rfl,hfb2,hx2,hp2,Tld.of_below hB2.out,c0⟩
  ·go_wp2_with fail
   go_meet
   case rel =>
    have h1:=hx2.out.set hfb2.out hvne.out hgN.out 2 (.string f)
    refine ⟨f,by rw [hia.out];rfl,hfb2.out.set_ 2 (.string f),h1.1,hp2.out.far (hp2.out.ne_ hfb2.out (by decide)) _,(Tld.of_below hB2.out).trans h1.2,?_⟩
    rw [World.cell?_setCell_other _ _ _ _ (by simp)];exact c0
 case rest =>
  obtain ⟨fld,hfld,hfb3,hx3,hp3,hB3,c0'⟩:=hcut
  clear c0 c2 q0 q1 q2 q3 qf2 qf3 hx2 hp2 hfb2
  obtain ⟨⟨q0,q1,q2,q3⟩,qf⟩:=hfb3.out.four
  have qf2:=qf 2
  have qf3:=qf 3
  clear qf
  by_cases hz:s=0
  ·have b1:(s==2)=false:=by simp;omega
   have b2:(s != 0)=false:=by simp [hz]
   have hru:Hid (ruleF docs a d (.mk k p f x n A' c' L)=[]):=ruleF_none (by rw [hs.out];exact hz)
   clear hz
   cases b3:(k==7)
   all_goals
    go_wp2_with fail
    go_end0
    exact ⟨rfl,v,by rw [hru.out];exact hx3.out,hB3.out⟩
  ·have b2:(s != 0)=true:=by simp [hz]
   have hz':=hdZ hz
   clear hz
   have ht3:∀(W:World) (why:Int),Hid ((if k=7/\s=2 then 3 else s)=why)->Hid (ExS w0 ct cf bm xb (exX C A nn cc day ct cf) W v l)->Hid (Tld w0.heap.size cf bm w W)->0<=why->why<=3 ->
     Calls Tryz.prog 57 #[.agg #[.int .i64 a,.int .i64 kd,.string fld,.int .i64 why],.pointer (some ⟨ct,0,none⟩),.pointer (some ⟨cf,0,none⟩)] W (Ted w0 ct cf bm xb (exX C A nn cc day ct cf) (addAll l (ruleF docs a d (.mk k p f x n A' c' L))) w):=by
    intro W why hw hxW hBW hw0 hw3
    have hfits:Flt.fits ⟨a,kd,fld,why⟩:=⟨fits_i64 (n:=a) (by omega) (by omega),fits_i64 hk1 hk2,by
     show fld.size<=maxLen
     rw [<-hfld.out];unfold maxLen
     split
     ·exact hLf
     ·exact Nat.zero_le _,fits_i64 (n:=why) (by omega) (by omega)⟩
    refine (tell_ex ⟨a,kd,fld,why⟩ hfits (by omega) hxW.out).mono ?_
    rintro e w' ⟨rfl,v',h1,h2⟩
    rw [fin.out fld why hfld.out hw.out hz'.out]
    exact ⟨rfl,v',h1,hBW.out.trans h2⟩
   have ht3':=hdZ ht3
   clear ht3 fin
   by_cases h7:k=7/\s=2
   ·have hy:Hid ((if k=7/\s=2 then 3 else s)=3):=by unfold Hid;rw [if_pos h7]
    have b1:(s==2)=true:=by simp [h7.2]
    have b3:(k==7)=true:=by simp [h7.1]
    clear h7
    have hs4:=hx3.out.set hfb3.out hvne.out hgN.out 3 (.int .i64 3)
    have hx4:=hdZ hs4.1
    have hB4:=hdZ (hB3.out.trans hs4.2)
    clear hs4
    have hp4:=hdZ (hp3.out.far (p:=⟨g,3,none⟩) (hp3.out.ne_ hfb3.out (by decide)) (.int .i64 3))
    have hcp:(wc.setCell ⟨g,3,none⟩ (.int .i64 3)).cell? ⟨pb,0,none⟩=some (.pointer (some ⟨xb,0,none⟩)):=hp4.out.cell 0
    have hcx:(wc.setCell ⟨g,3,none⟩ (.int .i64 3)).cell? ⟨xb,20,none⟩=_:=(hx4.out.exam.cell 20).trans (exX_tell hC.out)
    have hc:∀W,W=(wc.setCell ⟨g,3,none⟩ (.int .i64 3)).drew->_:=fun W e=>ht3'.out W 3 hy (by rw [e];exact hx4.out.drew) (by rw [e];exact hB4.out.trans (Tld.of_below (Below.refl _ _).drew)) (by omega) (by omega)
    have hc':=hdZ hc
    clear hc
    go_wp2_with fail
    go_region_with ((go_at_call 57;(with_reducible refine (hc'.out _ ?_).mono ?_);rfl;rintro e w3 ⟨rfl,h3⟩))
    all_goals
     go_wp2_with fail
     go_end0
     exact ⟨rfl,h3⟩
   ·have hy:Hid ((if k=7/\s=2 then 3 else s)=s):=by unfold Hid;rw [if_neg h7]
    have b1:Hid (k=7->(s==2)=false):=fun e=>by simp;omega
    clear h7
    have hcp:wc.cell? ⟨pb,0,none⟩=some (.pointer (some ⟨xb,0,none⟩)):=hp3.out.cell 0
    have hcx:wc.cell? ⟨xb,20,none⟩=_:=(hx3.out.exam.cell 20).trans (exX_tell hC.out)
    have hc:∀W,W=wc.drew->_:=fun W e=>ht3'.out W s hy (by rw [e];exact hx3.out.drew) (by rw [e];exact hB3.out.trans (Tld.of_below (Below.refl _ _).drew)) (by omega) (by omega)
    have hc':=hdZ hc
    clear hc
    cases b3:(k==7)
    ·go_wp2_with fail
     go_region_with ((go_at_call 57;(with_reducible refine (hc'.out _ ?_).mono ?_);rfl;rintro e w3 ⟨rfl,h3⟩))
     all_goals
      go_wp2_with fail
      go_end0
      exact ⟨rfl,h3⟩
    ·have b4:=b1.out (by simpa using b3)
     go_wp2_with fail
     go_region_with ((go_at_call 57;(with_reducible refine (hc'.out _ ?_).mono ?_);rfl;rintro e w3 ⟨rfl,h3⟩))
     all_goals
      go_wp2_with fail
      go_end0
      exact ⟨rfl,h3⟩
open Go
structure Crd.okC (c:Crd):Prop where
 amount : -9223372036854775808<=c.amount/\c.amount<=9223372036854775807
 above : -9223372036854775808<=c.above/\c.above<=9223372036854775807
 below : -9223372036854775808<=c.below/\c.below<=9223372036854775807
 latest : -9223372036854775808<=c.latest/\c.latest<=9223372036854775807
 expiry : -9223372036854775808<=c.expiry/\c.expiry<=9223372036854775807
 within : -9223372036854775808<=c.within/\c.within<=9223372036854775807
 app:c.applicant.size<=140737488351232
 ben:c.beneficiary.size<=140737488351232
 cur:c.currency.size<=140737488351232
end Go.Proofs.YtdjmckjbibfecaaGreatDoor

import Derived.Test.YtdjmckjbibfecaaGreatDoorEd
namespace Go.Proofs.YtdjmckjbibfecaaGreatDoor
open Go Go.RowKit Go.BigFrame Go.Maps
set_option maxRecDepth 100000
set_option maxHeartbeats 3200000
theorem partsL_snoc:∀{L:List Tree} {q:Nat} {t:Tree},L[q]?=some t->partsL (L.take (q+1))=partsL (L.take q)++partsT t
 | [],q,t,h=>by simp at h
 | u::L,0,t,h=>by
  simp at h;subst h
  simp [partsL]
 | u::L,q+1,t,h=>by
  have ih:=partsL_snoc (L:=L) (q:=q) (t:=t) (by simpa using h)
  rw [List.take_succ_cons,partsL,ih,List.take_succ_cons,partsL,List.append_assoc]
theorem partsL_len:∀(L:List Tree) (q:Nat),(partsL (L.take q)).length<=(partsL L).length
 | [],q=>by simp
 | u::L,0=>by simp [partsL]
 | u::L,q+1=>by
  have:=partsL_len L q
  rw [List.take_succ_cons,partsL,partsL,List.length_append,List.length_append];omega
theorem ruleF_le (docs:List Pap) (a:Int) (d:Pap) (t:Tree):(ruleF docs a d t).length<=1:=by unfold ruleF;split<;>simp
theorem flat_le {α β:Type} (g:α->List β) (h:∀x,(g x).length<=1):∀L:List α,(L.flatMap g).length<=L.length
 | []=>by simp
 | x::L=>by
  have:=flat_le g h L
  have:=h x
  simp only [List.flatMap_cons,List.length_append,List.length_cons];omega
def partF (docs:List Pap) (a:Int) (d:Pap) (L:List Tree):List Flt:=L.flatMap (ruleF docs a d)
theorem partF_len (docs:List Pap) (a:Int) (d:Pap) (L:List Tree):(partF docs a d L).length<=L.length:=flat_le _ (ruleF_le docs a d) L
def PartsC (w0:World) (ct cf bm xb:Nat) (X:Array Value) (docs:List Pap) (a:Nat) (d:Pap) (pb ab kb:Nat) (t:Tree):Prop :=
 ∀(w:World) (v:Value) (l:List Flt),Hid (TreeAt w0 t)->Hid (LongT t)->l.length+(partsT t).length<=100000->Hid (ExS w0 ct cf bm xb X w v l)->Hid (Blk w pb 91 #[.pointer (some ⟨xb,0,none⟩)])->Hid (Blk w ab 3 #[.int .i64 a])->Hid (Blk w kb 3 #[.int .i64 d.kind]) ->
  Calls Tryz.prog 108 #[.agg t.cells,.func (Fn.func 109) #[] #[.pointer (some ⟨pb,0,none⟩),.pointer (some ⟨ab,0,none⟩),.pointer (some ⟨kb,0,none⟩)]] w (Ted w0 ct cf bm xb X (addAll l (partF docs a d (partsT t))) w)
theorem parts_walk (w0:World) (ct cf bm xb:Nat) (C:Array Value) (hC:Hid (C.size=18)) (A:Option Addr) (nn cc:Nat) (docs:List Pap) (day:Int) (a:Nat) (d:Pap) (pb ab kb:Nat) (hd:Hid (docs[a]?=some d)) (hR:Hid (Room w0 A nn docs)) (t:Tree)
  (ih:Hid (∀u∈t.sub,PartsC w0 ct cf bm xb (exX C A nn cc day ct cf) docs a d pb ab kb u)):PartsC w0 ct cf bm xb (exX C A nn cc day ct cf) docs a d pb ab kb t:=by
 intro w v l hT hL hlen hx hp ha hk
 have hp1:=hdZ (part1_any w0 ct cf bm xb C hC A nn cc docs day a d pb ab kb hd t hT hL hR)
 have hLs:=hdZ (allT_sub hL.out)
 obtain ⟨k,p,f,x,n,A',c',L⟩:=t
 simp only [Tree.cells] at hp1 ⊢
 simp only [Tree.sub] at ih hLs
 obtain ⟨m,hm⟩:=nmZ (L.length)
 rw [hm.out] at hp1 ⊢
 obtain ⟨hrows,hml⟩:=rows_sub hT.out
 rw [hm.out] at hml
 unfold maxLen at hml
 have hrows':=hdZ hrows
 clear hrows
 have hb0:=hdZ ((Below.refl _ w).alloc leZ (.cells #[.int .i64 k,.int .i64 p,.string f,.string x,.int .i64 n,.slice A' m c'] 24))
 have hx0:=hdZ (hx.out.belows hb0.out)
 have hpb0:=kbZ hp hb0
 have hab0:=kbZ ha hb0
 have hkb0:=kbZ hk hb0
 by_cases hk0:k=0
 ·have hpt:Hid (partsT (.mk k p f x n A' c' L)=partsL L):=by unfold Hid;rw [partsT,if_pos hk0]
  rw [hpt.out] at hlen
  have hlen':=hdZ hlen
  clear hlen
  have b0:(k != 0)=false:=by simp [hk0]
  clear hk0
  go_enter Tryz.func108,Tryz.ntmps108
  go_wp2_with fail
  go_loopw [5,15] (fun _ i wr=>∃(q:Nat) (v':Value),q<=m/\i=.int .i64 q/\Hid (ExS w0 ct cf bm xb (exX C A nn cc day ct cf) wr v' (addAll l (partF docs a d (partsL (L.take q)))))/\Hid (Tld w0.heap.size cf bm w wr)/\Hid (Blk wr pb 91 #[.pointer (some ⟨xb,0,none⟩)])/\Hid (Blk wr ab 3 #[.int .i64 a])/\Hid (Blk wr kb 3 #[.int .i64 d.kind])) (fun _ i _=>m-(intOf i).toNat)
  case atStart=>exact ⟨0,v,Nat.zero_le _,rfl,by rw [List.take_zero,partsL];exact hx0.out,Tld.of_below hb0.out,hpb0,hab0,hkb0⟩
  case round =>
   obtain ⟨q,v',hq,rfl,hx1,hB1,hpb1,hab1,hkb1⟩:=hrel
   by_cases hlt:q<m
   ·obtain ⟨t,ht⟩:∃t,L[q]?=some t:=⟨_,gZ (by have:=hm.out;omega)⟩
    have hmem:=hdZ (mgZ ht)
    have ht':=hdZ ht
    clear ht
    obtain ⟨hc,_⟩:=(hrows'.out.below hx1.out.below).get q t ht'.out
    have hT0:=hdZ (hrows'.out.get q t ht'.out).2
    have hsn:=hdZ (partsL_snoc ht'.out)
    have hle:(addAll l (partF docs a d (partsL (L.take q)))).length+(partsT t).length<=100000:=by
     have h1:=addAll_len (partF docs a d (partsL (L.take q))) l
     have h2:=partF_len docs a d (partsL (L.take q))
     have h3:=partsL_len L (q+1)
     rw [hsn.out,List.length_append] at h3
     have:=hlen'.out;omega
    have hle':=hdZ hle
    clear hle
    obtain ⟨tk,tp,tf,tx,tn,tA,tc,tL⟩:=t
    obtain ⟨b,off,rfl,h0,h1,h2,h3,h4,h5⟩:=hc
    rw [Nat.zero_add] at h0 h1 h2 h3 h4 h5
    go_wp2_with fail
    have hbA:=hdZ ((Below.refl _ wr).alloc leZ (.cells #[.int .i64 tk,.int .i64 tp,.string tf,.string tx,.int .i64 tn,.slice tA tL.length tc] 24))
    refine (ih.out _ hmem.out _ v' _ hT0 (hLs.out _ hmem.out) hle'.out (hx1.out.belows hbA.out) (hpb1.out.below hbA.out hpb1.out.lt) (hab1.out.below hbA.out hab1.out.lt) (hkb1.out.below hbA.out hkb1.out.lt)).mono ?_
    rintro e w2 ⟨rfl,v2,hx2,hT2⟩
    have hxA:=hx1.out.belows hbA.out
    have hpb2:=hdZ (hxA.keep hT2 (hpb1.out.below hbA.out hpb1.out.lt) (by decide) (by decide))
    have hab2:=hdZ (hxA.keep hT2 (hab1.out.below hbA.out hab1.out.lt) (by decide) (by decide))
    have hkb2:=hdZ (hxA.keep hT2 (hkb1.out.below hbA.out hkb1.out.lt) (by decide) (by decide))
    have hB2:=hdZ (hB1.out.trans ((Tld.of_below hbA.out).trans hT2))
    have hx2':Hid (ExS w0 ct cf bm xb (exX C A nn cc day ct cf) w2 v2 (addAll l (partF docs a d (partsL (L.take (q+1)))))):=by
     unfold Hid
     rw [hsn.out,partF,List.flatMap_append,addAll_app];exact hx2
    clear hx2 hT2 hxA h0 h1 h2 h3 h4 h5
    go_wp2_with fail
    go_roundw
    case rel=>exact ⟨q+1,v2,by omega,by go_num,hx2',hB2,hpb2,hab2,hkb2⟩
    case measure=>simp [intOf];omega
   ·obtain rfl:q=m:=by omega
    rw [List.take_of_length_le (by have:=hm.out;omega)] at hx1
    go_wp2_with fail
    go_end0
    exact ⟨rfl,v',by rw [hpt.out];exact hx1.out,hB1.out⟩
 ·have hpt:Hid (partsT (.mk k p f x n A' c' L)=[.mk k p f x n A' c' L]):=by unfold Hid;rw [partsT,if_neg hk0]
  rw [hpt.out] at hlen
  simp only [List.length_cons,List.length_nil] at hlen
  have b0:(k != 0)=true:=by simp [hk0]
  clear hk0
  go_enter Tryz.func108,Tryz.ntmps108
  go_wp2_with fail
  refine (hp1.out _ v l (by omega) hx0 hpb0 hab0 hkb0).mono ?_
  rintro e w2 ⟨rfl,v2,hx2,hT2⟩
  have hx2':=hdZ hx2
  have hT2':=hdZ hT2
  clear hx2 hT2
  go_wp2_with fail
  go_end0
  exact ⟨rfl,v2,by rw [hpt.out];simpa [partF] using hx2'.out,(Tld.of_below hb0.out).trans hT2'.out⟩
theorem parts_any (w0:World) (ct cf bm xb:Nat) (C:Array Value) (hC:Hid (C.size=18)) (A:Option Addr) (nn cc:Nat) (docs:List Pap) (day:Int) (a:Nat) (d:Pap) (pb ab kb:Nat) (hd:Hid (docs[a]?=some d)) (hR:Hid (Room w0 A nn docs)) :
  ∀t:Tree,PartsC w0 ct cf bm xb (exX C A nn cc day ct cf) docs a d pb ab kb t :=
 Tree.every fun t ih=>parts_walk w0 ct cf bm xb C hC A nn cc docs day a d pb ab kb hd hR t ih
structure CrdAt (C:Array Value) (c:Crd):Prop where
 size:C.size=18
 applicant:C[1]?=some (.string c.applicant)
 beneficiary:C[2]?=some (.string c.beneficiary)
 currency:C[7]?=some (.string c.currency)
 amount:C[8]?=some (.int .i64 c.amount)
 above:C[9]?=some (.int .i64 c.above)
 below:C[10]?=some (.int .i64 c.below)
 latest:C[11]?=some (.int .i64 c.latest)
 expiry:C[12]?=some (.int .i64 c.expiry)
 within:C[13]?=some (.int .i64 c.within)
theorem Crd.at_ (c:Crd) (v:Value):CrdAt (c.cells v) c:=⟨rfl,rfl,rfl,rfl,rfl,rfl,rfl,rfl,rfl,rfl⟩
def tolB (n:Int):Bool:=decide (0<=n/\n<=1000)
theorem tol_any (n:Int) (w:World):Calls Tryz.prog 222 #[.int .i64 n] w fun e w'=>e=.returned (.bool (tolB n))/\w=w':=by
 by_cases h0:0<=n
 ·by_cases h1:n<=1000
  ·have hb:Hid (tolB n=true):=by unfold Hid tolB;simp [h0,h1]
   go_enter Tryz.func222,Tryz.ntmps222
   go_wp2_with fail
   all_goals try (exfalso;omega)
   go_ret
   exact ⟨by rw [hb.out];first | rfl | simp [h0,h1],rfl⟩
  ·have hb:Hid (tolB n=false):=by unfold Hid tolB;simp [h1]
   have h2:decide (n<=1000)=false:=by simpa using h1
   go_enter Tryz.func222,Tryz.ntmps222
   go_wp2_with fail
   all_goals try (exfalso;omega)
   go_ret
   exact ⟨by rw [hb.out];first | rfl | simp [h0,h1],rfl⟩
 ·have hb:Hid (tolB n=false):=by unfold Hid tolB;simp [h0]
  have h2:decide (0<=n)=false:=by simpa using h0
  go_enter Tryz.func222,Tryz.ntmps222
  go_wp2_with fail
  all_goals try (exfalso;omega)
  go_ret
  exact ⟨by rw [hb.out];first | rfl | simp [h0],rfl⟩
theorem bounds_eq (c:Crd):boundsB c=(decide (1<=c.amount)&&decide (c.amount<=1099511627776)&&tolB c.above&&tolB c.below&&decide (0<=c.expiry)&&decide (c.expiry<=1048576)):=by
 unfold boundsB tolB
 rw [Bool.eq_iff_iff]
 simp only [Bool.and_eq_true,decide_eq_true_eq]
 constructor
 ·rintro ⟨a,b,c,d,e,f,g,h⟩;exact ⟨⟨⟨⟨⟨a,b⟩,c,d⟩,e,f⟩,g⟩,h⟩
 ·rintro ⟨⟨⟨⟨⟨a,b⟩,c,d⟩,e,f⟩,g⟩,h⟩;exact ⟨a,b,c,d,e,f,g,h⟩
theorem bounded_any (C:Array Value) (c:Crd) (hC:Hid (CrdAt C c)) (w:World) :
  Calls Tryz.prog 197 #[.agg C] w fun e w'=>e=.returned (.bool (boundsB c))/\Bz w w':=by
 have hb0:=hdZ ((Below.refl _ w).alloc leZ (.cells C 46))
 have hbk:=Blk.new w 46 C
 have c8:(w.alloc (.cells C 46)).cell? ⟨w.heap.size,8,none⟩=some (.int .i64 c.amount):=(hbk.cell 8).trans hC.out.amount
 have c9:(w.alloc (.cells C 46)).cell? ⟨w.heap.size,9,none⟩=some (.int .i64 c.above):=(hbk.cell 9).trans hC.out.above
 have c10:(w.alloc (.cells C 46)).cell? ⟨w.heap.size,10,none⟩=some (.int .i64 c.below):=(hbk.cell 10).trans hC.out.below
 have c12:(w.alloc (.cells C 46)).cell? ⟨w.heap.size,12,none⟩=some (.int .i64 c.expiry):=(hbk.cell 12).trans hC.out.expiry
 clear hbk
 have hbd:=hdZ (bounds_eq c)
 cases e1:decide (1<=c.amount)
 ·go_enter Tryz.func197,Tryz.ntmps197
  go_wp2_with (go_at_call 222;refine (tol_any _ _).mono ?_;rintro e w1 ⟨rfl,rfl⟩)
  go_ret
  exact ⟨retBl (by rw [hbd.out];simp [e1]),hb0.out⟩
 cases e2:decide (c.amount<=1099511627776)
 ·go_enter Tryz.func197,Tryz.ntmps197
  go_wp2_with (go_at_call 222;refine (tol_any _ _).mono ?_;rintro e w1 ⟨rfl,rfl⟩)
  go_ret
  exact ⟨retBl (by rw [hbd.out];simp [e1,e2]),hb0.out⟩
 cases e3:tolB c.above
 ·go_enter Tryz.func197,Tryz.ntmps197
  go_wp2_with (go_at_call 222;refine (tol_any _ _).mono ?_;rintro e w1 ⟨rfl,rfl⟩)
  go_ret
  exact ⟨retBl (by rw [hbd.out];simp [e1,e2,e3]),hb0.out⟩
 cases e4:tolB c.below
 ·go_enter Tryz.func197,Tryz.ntmps197
  go_wp2_with (go_at_call 222;refine (tol_any _ _).mono ?_;rintro e w1 ⟨rfl,rfl⟩)
  go_ret
  exact ⟨retBl (by rw [hbd.out];simp [e1,e2,e3,e4]),hb0.out⟩
 cases e5:decide (0<=c.expiry)
 ·go_enter Tryz.func197,Tryz.ntmps197
  go_wp2_with (go_at_call 222;refine (tol_any _ _).mono ?_;rintro e w1 ⟨rfl,rfl⟩)
  go_ret
  exact ⟨retBl (by rw [hbd.out];simp [e1,e2,e3,e4,e5]),hb0.out⟩
 cases e6:decide (c.expiry<=1048576)
 ·go_enter Tryz.func197,Tryz.ntmps197
  go_wp2_with (go_at_call 222;refine (tol_any _ _).mono ?_;rintro e w1 ⟨rfl,rfl⟩)
  go_ret
  exact ⟨retBl (by rw [hbd.out];simp [e1,e2,e3,e4,e5,e6]),hb0.out⟩
 go_enter Tryz.func197,Tryz.ntmps197
 go_wp2_with (go_at_call 222;refine (tol_any _ _).mono ?_;rintro e w1 ⟨rfl,rfl⟩)
 go_ret
 exact ⟨retBl (by rw [hbd.out];simp [e1,e2,e3,e4,e5,e6]),hb0.out⟩
theorem most_any (C:Array Value) (c:Crd) (hC:Hid (CrdAt C c)) (hb:boundsB c=true) (w:World) :
  Calls Tryz.prog 198 #[.agg C] w fun e w'=>e=.returned (.int .i64 (mostC c))/\Bz w w':=by
 have hb0:=hdZ ((Below.refl _ w).alloc leZ (.cells C 46))
 have hbk:=Blk.new w 46 C
 have hb:=of_decide_eq_true hb
 have c8:(w.alloc (.cells C 46)).cell? ⟨w.heap.size,8,none⟩=some (.int .i64 c.amount):=(hbk.cell 8).trans hC.out.amount
 have c9:(w.alloc (.cells C 46)).cell? ⟨w.heap.size,9,none⟩=some (.int .i64 c.above):=(hbk.cell 9).trans hC.out.above
 clear hbk
 obtain ⟨x1,hx1⟩:=nmZ (c.amount)
 obtain ⟨x2,hx2⟩:=nmZ (c.above)
 rw [hx1.out] at c8 hb
 rw [hx2.out] at c9 hb
 obtain ⟨h1,h2,h3,h4,_⟩:=hb
 have hp0:0<=x1*(1000+x2):=Int.mul_nonneg (by omega) (by omega)
 have hp1:x1*(1000+x2)<=1099511627776*2000:=Int.mul_le_mul (by omega) (by omega) (by omega) (by omega)
 have hm:Hid (mostC c=x1*(1000+x2) / 1000):=by unfold Hid mostC;rw [hx1.out,hx2.out]
 go_enter Tryz.func198,Tryz.ntmps198
 go_wp2_with fail
 go_ret
 exact ⟨by rw [hm.out];first | done | rfl,hb0.out⟩
theorem least_any (C:Array Value) (c:Crd) (hC:Hid (CrdAt C c)) (hb:boundsB c=true) (w:World) :
  Calls Tryz.prog 199 #[.agg C] w fun e w'=>e=.returned (.int .i64 (leastY c))/\Bz w w':=by
 have hb0:=hdZ ((Below.refl _ w).alloc leZ (.cells C 46))
 have hbk:=Blk.new w 46 C
 have hb:=of_decide_eq_true hb
 have c8:(w.alloc (.cells C 46)).cell? ⟨w.heap.size,8,none⟩=some (.int .i64 c.amount):=(hbk.cell 8).trans hC.out.amount
 have c9:(w.alloc (.cells C 46)).cell? ⟨w.heap.size,10,none⟩=some (.int .i64 c.below):=(hbk.cell 10).trans hC.out.below
 clear hbk
 obtain ⟨x1,hx1⟩:=nmZ (c.amount)
 obtain ⟨x2,hx2⟩:=nmZ (c.below)
 rw [hx1.out] at c8 hb
 rw [hx2.out] at c9 hb
 obtain ⟨h1,h2,_,_,h3,h4,_⟩:=hb
 have hp0:0<=x1*(1000-x2):=Int.mul_nonneg (by omega) (by omega)
 have hp1:x1*(1000-x2)<=1099511627776*2000:=Int.mul_le_mul (by omega) (by omega) (by omega) (by omega)
 have hm:Hid (leastY c=(x1*(1000-x2)+1000-1) / 1000):=by unfold Hid leastY;rw [hx1.out,hx2.out];congr 1;omega
 go_enter Tryz.func199,Tryz.ntmps199
 go_wp2_with fail
 go_ret
 exact ⟨by rw [hm.out];first | done | rfl,hb0.out⟩
def most2 (c:Crd):Value:=.tuple #[.int .i64 (if boundsB c then mostC c else 0),.int .i64 (if boundsB c then 0 else 1)]
theorem Most_any (C:Array Value) (c:Crd) (hC:Hid (CrdAt C c)) (w:World) :
  Calls Tryz.prog 162 #[.agg C] w fun e w'=>e=.returned (most2 c)/\Bz w w':=by
 have hb0:=hdZ ((Below.refl _ w).alloc leZ (.cells C 46))
 have hbk:=hdZ (Blk.new w 46 C)
 have hsz:Hid ((Tryz.prog.info? 46).map (·.size)=some C.size):=by unfold Hid;rw [hC.out.size];kernel_rfl
 go_enter Tryz.func162,Tryz.ntmps162
 go_wp2_with (refine wpList_load_blk rfl 46 (.tmp 1) rfl w.heap.size C 46 _ rfl hbk.out Tryz.underlying46 rfl hsz.out ?_)
 refine (bounded_any C c hC _).mono ?_
 rintro e w1 ⟨rfl,hb1⟩
 have hB1:=hdZ (hb0.out.trans (hb1.mono (by simp)))
 have hbk1:=kbY hbk hb1
 clear hb1
 cases hbd:boundsB c
 ·have e2:Hid (most2 c=.tuple #[.int .i64 0,.int .i64 1]):=by unfold Hid most2;rw [hbd];rfl
  clear hbd
  go_wp2_with fail
  go_ret2
  exact ⟨by rw [e2.out];first | done | rfl,hB1.out⟩
 ·have e2:Hid (most2 c=.tuple #[.int .i64 (mostC c),.int .i64 0]):=by unfold Hid most2;rw [hbd];rfl
  have hbd':=hdZ hbd
  clear hbd
  go_wp2_with (refine wpList_load_blk rfl 46 (.tmp 1) rfl w.heap.size C 46 _ rfl hbk1.out Tryz.underlying46 rfl hsz.out ?_)
  refine (most_any C c hC hbd'.out _).mono ?_
  rintro e w2 ⟨rfl,hb2⟩
  have hB2:=hdZ (hB1.out.trans (hb2.mono hB1.out.size))
  clear hb2
  go_wp2_with fail
  go_ret2
  exact ⟨by rw [e2.out];first | done | rfl,hB2.out⟩
def least2 (c:Crd):Value:=.tuple #[.int .i64 (if boundsB c then leastY c else 0),.int .i64 (if boundsB c then 0 else 1)]
theorem Least_any (C:Array Value) (c:Crd) (hC:Hid (CrdAt C c)) (w:World) :
  Calls Tryz.prog 163 #[.agg C] w fun e w'=>e=.returned (least2 c)/\Bz w w':=by
 have hb0:=hdZ ((Below.refl _ w).alloc leZ (.cells C 46))
 have hbk:=hdZ (Blk.new w 46 C)
 have hsz:Hid ((Tryz.prog.info? 46).map (·.size)=some C.size):=by unfold Hid;rw [hC.out.size];kernel_rfl
 go_enter Tryz.func163,Tryz.ntmps163
 go_wp2_with (refine wpList_load_blk rfl 46 (.tmp 1) rfl w.heap.size C 46 _ rfl hbk.out Tryz.underlying46 rfl hsz.out ?_)
 refine (bounded_any C c hC _).mono ?_
 rintro e w1 ⟨rfl,hb1⟩
 have hB1:=hdZ (hb0.out.trans (hb1.mono (by simp)))
 have hbk1:=kbY hbk hb1
 clear hb1
 cases hbd:boundsB c
 ·have e2:Hid (least2 c=.tuple #[.int .i64 0,.int .i64 1]):=by unfold Hid least2;rw [hbd];rfl
  clear hbd
  go_wp2_with fail
  go_ret2
  exact ⟨by rw [e2.out];first | done | rfl,hB1.out⟩
 ·have e2:Hid (least2 c=.tuple #[.int .i64 (leastY c),.int .i64 0]):=by unfold Hid least2;rw [hbd];rfl
  have hbd':=hdZ hbd
  clear hbd
  go_wp2_with (refine wpList_load_blk rfl 46 (.tmp 1) rfl w.heap.size C 46 _ rfl hbk1.out Tryz.underlying46 rfl hsz.out ?_)
  refine (least_any C c hC hbd'.out _).mono ?_
  rintro e w2 ⟨rfl,hb2⟩
  have hB2:=hdZ (hB1.out.trans (hb2.mono hB1.out.size))
  clear hb2
  go_wp2_with fail
  go_ret2
  exact ⟨by rw [e2.out];first | done | rfl,hB2.out⟩
def behindB (day n days:Int):Bool:=decide (n+days<day)
theorem behind_any (day n days:Int) (w:World) (hd : -9223372036854775808<=day/\day<=9223372036854775807) (hn : -9223372036854775808<=n/\n<=9223372036854775807) (hs : -9223372036854775808<=days/\days<=9223372036854775807) :
  Calls Tryz.prog 165 #[.int .i64 day,.int .i64 n,.int .i64 days] w fun e w'=>e=.returned (.bool (behindB day n days))/\w=w':=by
 obtain ⟨hd0,hd1⟩:=hd
 obtain ⟨hn0,hn1⟩:=hn
 obtain ⟨hs0,hs1⟩:=hs
 by_cases h0:0<days
 ·by_cases h1:9223372036854775807-days<n
  ·have hb:Hid (behindB day n days=false):=by unfold Hid behindB;simp;omega
   go_enter Tryz.func165,Tryz.ntmps165
   go_wp2_with fail
   all_goals try (exfalso;omega)
   go_ret
   exact ⟨by rw [hb.out];first | done | rfl,rfl⟩
  ·have hb:Hid (behindB day n days=decide (n+days<day)):=rfl
   have h2:¬days<0:=by omega
   have h3:n+days<=9223372036854775807:=by omega
   have h4 : -9223372036854775808<=n+days:=by omega
   go_enter Tryz.func165,Tryz.ntmps165
   go_wp2_with fail
   all_goals try (exfalso;omega)
   go_ret
   exact ⟨by rw [hb.out];first | done | rfl,rfl⟩
 ·by_cases h2:days<0
  ·by_cases h1:n < -9223372036854775808-days
   ·have hb:Hid (behindB day n days=true):=by unfold Hid behindB;simp;omega
    go_enter Tryz.func165,Tryz.ntmps165
    go_wp2_with fail
    all_goals try (exfalso;omega)
    go_ret
    exact ⟨by rw [hb.out];first | done | rfl,rfl⟩
   ·have hb:Hid (behindB day n days=decide (n+days<day)):=rfl
    have h3:n+days<=9223372036854775807:=by omega
    have h4 : -9223372036854775808<=n+days:=by omega
    go_enter Tryz.func165,Tryz.ntmps165
    go_wp2_with fail
    all_goals try (exfalso;omega)
    go_ret
    exact ⟨by rw [hb.out];first | done | rfl,rfl⟩
  ·have hb:Hid (behindB day n days=decide (n+days<day)):=rfl
   have h3:n+days<=9223372036854775807:=by omega
   have h4 : -9223372036854775808<=n+days:=by omega
   go_enter Tryz.func165,Tryz.ntmps165
   go_wp2_with fail
   all_goals try (exfalso;omega)
   go_ret
   exact ⟨by rw [hb.out];first | done | rfl,rfl⟩
theorem is_any (t v:ByteArray) (g:Nat) (w:World) (h:w.cell? ⟨g,0,none⟩=some (.string t)) :
  Calls Tryz.prog 159 #[.string v,.pointer (some ⟨g,0,none⟩)] w fun e w'=>e=.returned (.int .i64 (isW t v))/\Bz w w':=by
 by_cases hq:v.toList=t.toList
 ·have hw:Hid (isW t v=0):=by unfold Hid isW;rw [if_pos hq]
  have hq1:(v.toList==t.toList)=true:=by simp [hq]
  clear hq
  go_enter Tryz.func159,Tryz.ntmps159
  go_wp2_with fail
  go_ret
  exact ⟨by rw [hw.out];first | done | rfl,Below.refl _ _⟩
 ·have hw:Hid (isW t v=3):=by unfold Hid isW;rw [if_neg hq]
  have hq1:(v.toList==t.toList)=false:=by simp [hq]
  clear hq
  go_enter Tryz.func159,Tryz.ntmps159
  go_wp2_with fail
  go_ret
  exact ⟨by rw [hw.out];first | done | rfl,Below.refl _ _⟩
theorem mkIs_any (t:ByteArray) (w:World):Calls Tryz.prog 158 #[.string t] w fun e w'=>e=.returned (.func (Fn.func 159) #[] #[.pointer (some ⟨w.heap.size,0,none⟩)])/\w'=w.alloc (.cells #[.string t] 9):=by
 go_enter Tryz.func158,Tryz.ntmps158
 go_wp2_with fail
 go_ret
 exact ⟨rfl,rfl⟩
theorem wpList_load_cr {ops:Array Oper} {rest:List Oper} {op:Oper} {a:Act} {w:World} {Q:Exit->Act->World->Prop} (hgd:op.guard=none) (x:Operand) (ho:op.op=.load 46 x)
  (xb:Nat) (hx:a.eval x=.pointer (some ⟨xb,0,none⟩)) (C:Array Value) (hc:w.rangeAt xb 0 C.toList) (hC:C.size=18)
  (h:wpList Tryz.prog ops Q rest (a.put op.dst (.agg C)) w):wpList Tryz.prog ops Q (op::rest) a w :=
 wpList_load_mid hgd 46 x ho xb 0 hx C.toList _ hc Tryz.underlying46 rfl (by rw [Array.length_toList,hC];kernel_rfl) (by rw [Array.toArray_toList];exact h)
theorem twoN_none:twoN none=.tuple #[.int .i64 0,.bool false]:=rfl
theorem twoN_some (n:Int):twoN (some n)=.tuple #[.int .i64 n,.bool true]:=rfl
theorem numF_in {s:List UInt8} {n:Int} (h:numF s=some n) : -4611686018427387904<=n/\n<=4611686018427387904:=by
 unfold numF at h
 split at h
 ·split at h
  ·simp only [Option.some.injEq] at h;subst h;rename_i h;exact ⟨h.1,h.2.1⟩
  ·cases h
 ·cases h
theorem sum_any (C:Array Value) (c:Crd) (hC:Hid (CrdAt C c)) (A:Option Addr) (nn cc:Nat) (day:Int) (ct cf xb pb:Nat) (v:ByteArray) (hv:v.size<=4000000) (w:World) (hx:Hid (Blk w xb 94 (exX C A nn cc day ct cf))) (hp:Hid (Blk w pb 91 #[.pointer (some ⟨xb,0,none⟩)])) (he:Hid (Env w)) :
  Calls Tryz.prog 161 #[.string v,.pointer (some ⟨pb,0,none⟩)] w fun e w'=>e=.returned (.int .i64 (sumW c v))/\Bz w w':=by
 have hsz:=hdZ hC.out.size
 go_enter Tryz.func161,Tryz.ntmps161
 go_wp2_with fail
 refine (number_any v w hv he.out).mono ?_
 rintro e w1 ⟨rfl,hb1⟩
 have hB1:=hdZ hb1
 have hx1:=kbY hx hb1
 have hp1:=kbY hp hb1
 clear hb1
 cases hr:numF v.data.toList with
 | none =>
  have hw:Hid (sumW c v=2):=by unfold Hid sumW;rw [hr]
  clear hr
  rw [twoN_none]
  go_wp2_with fail
  go_ret
  exact ⟨by rw [hw.out];first | done | rfl,hB1.out⟩
 | some n =>
  have hw:Hid (sumW c v=if boundsB c=true/\mostC c<n then 5 else if boundsB c=true/\n<leastY c then 6 else 0):=by unfold Hid sumW;rw [hr]
  clear hr
  rw [twoN_some]
  have cp:w1.cell? ⟨pb,0,none⟩=some (.pointer (some ⟨xb,0,none⟩)):=hp1.out.cell 0
  go_wp2_with (refine wpList_load_cr rfl (.tmp 20) rfl xb rfl C (exX_range hsz.out hx1.out) hsz.out ?_)
  refine (Most_any C c hC w1).mono ?_
  rintro e w2 ⟨rfl,hb2⟩
  have hB2:=hdZ (hB1.out.trans (hb2.mono hB1.out.size))
  have hx2:=kbY hx1 hb2
  have hp2:=kbY hp1 hb2
  clear hb2 cp
  have cp:w2.cell? ⟨pb,0,none⟩=some (.pointer (some ⟨xb,0,none⟩)):=hp2.out.cell 0
  cases hbd:boundsB c
  ·have hw0:Hid (sumW c v=0):=by unfold Hid;rw [hw.out,hbd];simp
   have em:Hid (most2 c=.tuple #[.int .i64 0,.int .i64 1]):=by unfold Hid most2;rw [hbd];rfl
   have el:Hid (least2 c=.tuple #[.int .i64 0,.int .i64 1]):=by unfold Hid least2;rw [hbd];rfl
   clear hbd
   rw [em.out]
   go_wp2_with (refine wpList_load_cr rfl (.tmp 35) rfl xb rfl C (exX_range hsz.out hx2.out) hsz.out ?_)
   refine (Least_any C c hC w2).mono ?_
   rintro e w3 ⟨rfl,hb3⟩
   have hB3:=hdZ (hB2.out.trans (hb3.mono hB2.out.size))
   clear hb3
   rw [el.out]
   go_wp2_with fail
   go_ret
   exact ⟨by rw [hw0.out];first | done | rfl,hB3.out⟩
  ·have em:Hid (most2 c=.tuple #[.int .i64 (mostC c),.int .i64 0]):=by unfold Hid most2;rw [hbd];rfl
   have el:Hid (least2 c=.tuple #[.int .i64 (leastY c),.int .i64 0]):=by unfold Hid least2;rw [hbd];rfl
   rw [em.out]
   by_cases h5:mostC c<n
   ·have hw0:Hid (sumW c v=5):=by unfold Hid;rw [hw.out,if_pos ⟨hbd,h5⟩]
    clear hbd
    go_wp2_with fail
    all_goals try (exfalso;omega)
    go_ret
    exact ⟨by rw [hw0.out];first | done | rfl,hB2.out⟩
   ·have hwx:Hid (sumW c v=if n<leastY c then 6 else 0):=by unfold Hid;rw [hw.out,if_neg (by simp [h5]),hbd];simp
    clear hbd
    go_wp2_with (refine wpList_load_cr rfl (.tmp 35) rfl xb rfl C (exX_range hsz.out hx2.out) hsz.out ?_)
    all_goals try (exfalso;omega)
    refine (Least_any C c hC w2).mono ?_
    rintro e w3 ⟨rfl,hb3⟩
    have hB3:=hdZ (hB2.out.trans (hb3.mono hB2.out.size))
    clear hb3
    rw [el.out]
    by_cases h6:n<leastY c
    ·have hw0:Hid (sumW c v=6):=by unfold Hid;rw [hwx.out,if_pos h6]
     go_wp2_with fail
     all_goals try (exfalso;omega)
     go_ret
     exact ⟨by rw [hw0.out];first | done | rfl,hB3.out⟩
    ·have hw0:Hid (sumW c v=0):=by unfold Hid;rw [hwx.out,if_neg h6]
     go_wp2_with fail
     all_goals try (exfalso;omega)
     go_ret
     exact ⟨by rw [hw0.out];first | done | rfl,hB3.out⟩
theorem issued_any (C:Array Value) (c:Crd) (hC:Hid (CrdAt C c)) (hO:Hid (c.okC)) (A:Option Addr) (nn cc:Nat) (day:Int) (hday:Hid (-9223372036854775808<=day/\day<=9223372036854775807)) (ct cf xb pb:Nat) (v:ByteArray) (hv:v.size<=4000000) (w:World) (hx:Hid (Blk w xb 94 (exX C A nn cc day ct cf))) (hp:Hid (Blk w pb 91 #[.pointer (some ⟨xb,0,none⟩)])) (he:Hid (Env w)) :
  Calls Tryz.prog 164 #[.string v,.pointer (some ⟨pb,0,none⟩)] w fun e w'=>e=.returned (.int .i64 (issuedW c day v))/\Bz w w':=by
 have hsz:=hdZ hC.out.size
 go_enter Tryz.func164,Tryz.ntmps164
 go_wp2_with fail
 refine (number_any v w hv he.out).mono ?_
 rintro e w1 ⟨rfl,hb1⟩
 have hB1:=hdZ hb1
 have hx1:=kbY hx hb1
 have hp1:=kbY hp hb1
 clear hb1
 cases hr:numF v.data.toList with
 | none =>
  have hw:Hid (issuedW c day v=2):=by unfold Hid issuedW;rw [hr]
  clear hr
  rw [twoN_none]
  go_wp2_with fail
  go_ret
  exact ⟨by rw [hw.out];first | done | rfl,hB1.out⟩
 | some n =>
  have hn:=hdZ (numF_in hr)
  have hw:Hid (issuedW c day v=if c.latest<n\/n+c.within<day then 4 else 0):=by unfold Hid issuedW;rw [hr]
  clear hr
  rw [twoN_some]
  have cp:∀y:Ext w1,y.wd.cell? ⟨pb,0,none⟩=some (.pointer (some ⟨xb,0,none⟩)):=fun y=>(y.cell _ hp1.out.lt).trans (hp1.out.cell 0)
  have c11:∀y:Ext w1,y.wd.cell? ⟨xb,11,none⟩=some (.int .i64 c.latest):=fun y=>(y.cell _ hx1.out.lt).trans ((hx1.out.cell 11).trans ((exX_cell hsz.out (by omega)).trans hC.out.latest))
  have c13:∀y:Ext w1,y.wd.cell? ⟨xb,13,none⟩=some (.int .i64 c.within):=fun y=>(y.cell _ hx1.out.lt).trans ((hx1.out.cell 13).trans ((exX_cell hsz.out (by omega)).trans hC.out.within))
  have c19:∀y:Ext w1,y.wd.cell? ⟨xb,19,none⟩=some (.int .i64 day):=fun y=>(y.cell _ hx1.out.lt).trans ((hx1.out.cell 19).trans (exX_day hsz.out))
  have hbh:Hid (∀y:Ext w1,Calls Tryz.prog 165 #[.int .i64 day,.int .i64 n,.int .i64 c.within] y.wd fun e w'=>e=.returned (.bool (behindB day n c.within))/\y.wd=w'):=fun y=>behind_any day n c.within y.wd hday.out (by have:=hn.out;omega) hO.out.within
  cases hl:decide (c.latest<n)
  ·have hl':=hdZ (of_decide_eq_false hl)
   go_wp2_with fail
   refine wp_region_ext (by kernel_rfl) (by kernel_rfl) ?_
   repeat (go_big_quiet_step (first | (go_at_call 165;exact Calls.ext_of_same (hbh.out _))))
   refine wpQuiet_nil ?_
   rintro _ ⟨y,rfl⟩
   have hBy:=hdZ (hB1.out.trans (y.below.mono hB1.out.size))
   clear cp c11 c13 c19 hbh hl
   cases hb:behindB day n c.within
   ·have hw0:Hid (issuedW c day v=0):=by
     unfold Hid
     rw [hw.out,if_neg]
     rintro (h | h)
     ·exact absurd h (by have:=hl'.out;omega)
     ·exact of_decide_eq_false hb h
    clear hb
    go_wp2_with fail
    go_ret
    exact ⟨by rw [hw0.out];first | done | rfl,hBy.out⟩
   ·have hw0:Hid (issuedW c day v=4):=by unfold Hid;rw [hw.out,if_pos (.inr (of_decide_eq_true hb))]
    clear hb
    go_wp2_with fail
    go_ret
    exact ⟨by rw [hw0.out];first | done | rfl,hBy.out⟩
  ·have hw0:Hid (issuedW c day v=4):=by unfold Hid;rw [hw.out,if_pos (.inl (of_decide_eq_true hl))]
   go_wp2_with fail
   refine wp_region_ext (by kernel_rfl) (by kernel_rfl) ?_
   repeat (go_big_quiet_step (fail))
   refine wpQuiet_nil ?_
   rintro _ ⟨y,rfl⟩
   have hBy:=hdZ (hB1.out.trans (y.below.mono hB1.out.size))
   clear cp c11 c13 c19 hbh hl
   go_wp2_with fail
   go_ret
   exact ⟨by rw [hw0.out];first | done | rfl,hBy.out⟩
def WrongC (g:FuncId) (cb:Nat) (w:World) (d:Pap) (name:ByteArray) (wrong:ByteArray->Int):Prop :=
 ∀(w':World) (v:ByteArray),Bz w w'->getF d.fields name=some v->(0<=wrong v/\wrong v<=6)/\Calls Tryz.prog g #[.string v,.pointer (some ⟨cb,0,none⟩)] w' fun e w''=>e=.returned (.int .i64 (wrong v))/\Bz w' w''
theorem askF_none {a:Int} {d:Pap} {name:ByteArray} {wrong:ByteArray->Int} (h:getF d.fields name=none):askF a d name wrong=[⟨a,d.kind,name,1⟩]:=by unfold askF;rw [h]
theorem askF_fine {a:Int} {d:Pap} {name v:ByteArray} {wrong:ByteArray->Int} (h:getF d.fields name=some v) (h0:wrong v=0):askF a d name wrong=[]:=by unfold askF;rw [h];simp [h0]
theorem askF_some {a:Int} {d:Pap} {name v:ByteArray} {wrong:ByteArray->Int} (h:getF d.fields name=some v) (h0:¬wrong v=0):askF a d name wrong=[⟨a,d.kind,name,wrong v⟩]:=by unfold askF;rw [h];simp [h0]
theorem ask_any (w0:World) (ct cf bm xb:Nat) (C:Array Value) (hC:Hid (C.size=18)) (A:Option Addr) (nn cc:Nat) (docs:List Pap) (day:Int) (a:Nat) (d:Pap) (hd:Hid (docs[a]?=some d)) (hR:Hid (Room w0 A nn docs))
  (name:ByteArray) (hnm:Hid (name.size<=100)) (g:FuncId) (hg3:Hid (g=159\/g=161\/g=164)) (cb:Nat) (wrong:ByteArray->Int) (w:World) (hw:Hid (WrongC g cb w d name wrong)) (v:Value) (l:List Flt) (hl:l.length<100000) (hx:Hid (ExS w0 ct cf bm xb (exX C A nn cc day ct cf) w v l)) :
  Calls Tryz.prog 160 #[.pointer (some ⟨xb,0,none⟩),.int .i64 a,.string name,.func (Fn.func g) #[] #[.pointer (some ⟨cb,0,none⟩)]] w (Ted w0 ct cf bm xb (exX C A nn cc day ct cf) (addAll l (askF a d name wrong)) w):=by
 have halt:a<nn:=by have:=(gsZ.1 hd.out).1;have:=hR.out.len;omega
 have hmost:=hR.out.most
 have hkd:=kind_of hR.out.at_ hd.out
 obtain ⟨b,off,rfl,h0,h1,h2,h3,h4,h5,_⟩:=(hR.out.at_.below hx.out.below) a d hd.out
 have e18:w.cell? ⟨xb,18,none⟩=some (.slice (some ⟨b,off,none⟩) nn cc):=(hx.out.exam.cell 18).trans (exX_docs hC.out)
 obtain ⟨kd,nu,is,fA,fc,fs⟩:=d
 simp only at h0 h1 h2 h3 h4 h5 hkd
 obtain ⟨hk1,hk2⟩:=hkd
 obtain ⟨fm,hfm⟩:=nmZ (fs.length)
 rw [hfm.out] at h3 h5
 have h4':=hdZ h4
 have h5':=hdZ h5
 clear h4 h5
 have hbA:=hdZ ((Below.refl _ w).alloc leZ (.cells #[.int .i64 kd,.string nu,.string is,.slice fA fm fc] 61))
 have hdb:=hdZ (Blk.new w 61 #[.int .i64 kd,.string nu,.string is,.slice fA fm fc])
 go_enter Tryz.func160,Tryz.ntmps160
 go_wp2_with fail
 refine (get_any fA fm fc fs name _ h5'.out hfm (h4'.out.below hbA.out)).mono ?_
 rintro e w1 ⟨rfl,hb1⟩
 have hB1:=hdZ (hbA.out.trans (hb1.mono (by simp)))
 have hdb1:=kbY hdb hb1
 have hx1:=hdZ (hx.out.belows hB1.out)
 clear hb1 h0 h1 h2 h3 e18 hdb hbA
 have ht3 : Hid (∀ (W : World) (why : Int), Bz w W → askF a ⟨kd, nu, is, fA, fc, fs⟩ name wrong = [⟨a, kd, name, why⟩] → 0 ≤ why → why ≤ 6 →
     Calls Tryz.prog 57 #[.agg #[.int .i64 a,.int .i64 kd,.string name,.int .i64 why],.pointer (some ⟨ct,0,none⟩),.pointer (some ⟨cf,0,none⟩)] W (Ted w0 ct cf bm xb (exX C (some ⟨b,off,none⟩) nn cc day ct cf) (addAll l (askF a ⟨kd,nu,is,fA,fc,fs⟩ name wrong)) w)):=by
  intro W why hBW hwy hw0 hw3
  have hfits:Flt.fits ⟨a,kd,name,why⟩:=⟨fits_i64 (n:=a) (by omega) (by omega),fits_i64 hk1 hk2,by
   show name.size<=maxLen
   have:=hnm.out;unfold maxLen;omega,fits_i64 (n:=why) (by omega) (by omega)⟩
  refine (tell_ex ⟨a,kd,name,why⟩ hfits (by omega) (hx.out.belows hBW)).mono ?_
  rintro e w' ⟨rfl,v',g1,g2⟩
  rw [hwy]
  exact ⟨rfl,v',g1,(Tld.of_below hBW).trans g2⟩
 cases hg:getF fs name with
 | none =>
  have eV:Hid (getV fs name=⟨#[]⟩):=by unfold Hid getV;rw [hg];rfl
  have eB:Hid (getB fs name=false):=by unfold Hid getB;rw [hg];rfl
  have hask:=hdZ (askF_none (a:=a) (d:=⟨kd,nu,is,fA,fc,fs⟩) (wrong:=wrong) hg)
  clear hg
  rw [eV.out,eB.out]
  have cx:w1.cell? ⟨xb,20,none⟩=_:=(hx1.out.exam.cell 20).trans (exX_tell hC.out)
  have ck:w1.cell? ⟨w.heap.size,0,none⟩=some (.int .i64 kd):=hdb1.out.cell 0
  have hc:∀W,W=w1.drew->_:=fun W e=>ht3.out W 1 (by rw [e];exact hB1.out.trans ((Below.refl _ _).drew.mono hB1.out.size)) hask.out (by omega) (by omega)
  have hc':=hdZ hc
  clear hc
  go_wp2_with fail
  go_region_with ((go_at_call 57;(with_reducible refine (hc'.out _ ?_).mono ?_);rfl;rintro e w3 ⟨rfl,g3⟩))
  all_goals
   go_wp2_with fail
   go_end0
   exact ⟨rfl,g3⟩
 | some u =>
  have eV:Hid (getV fs name=u):=by unfold Hid getV;rw [hg];rfl
  have eB:Hid (getB fs name=true):=by unfold Hid getB;rw [hg];rfl
  have hg':=hdZ hg
  clear hg
  rw [eV.out,eB.out]
  obtain ⟨⟨hy0,hy6⟩,hcw⟩:=hw.out w1 u hB1.out hg'.out
  have hcw':=hdZ hcw
  clear hcw
  rcases hg3.out with rfl | rfl | rfl
  all_goals
   go_wp2_with fail
   refine hcw'.out.mono ?_
   rintro e w2 ⟨rfl,hb2⟩
   have hB2:=hdZ (hB1.out.trans (hb2.mono hB1.out.size))
   have hdb2:=kbY hdb1 hb2
   have hx2:=hdZ (hx1.out.belows hb2)
   clear hb2
   obtain ⟨y,hy⟩:=nmZ (wrong u)
   rw [hy.out] at hy0 hy6 ⊢
   by_cases hz:y=0
   ·have hask:=hdZ (askF_fine (a:=a) (d:=⟨kd,nu,is,fA,fc,fs⟩) (wrong:=wrong) hg'.out (by rw [hy.out];exact hz))
    have hz':(y != 0)=false:=by simp [hz]
    clear hz
    go_wp2_with fail
    go_end0
    exact ⟨rfl,v,by rw [hask.out];exact hx2.out,Tld.of_below hB2.out⟩
   ·have hask:=hdZ (askF_some (a:=a) (d:=⟨kd,nu,is,fA,fc,fs⟩) (wrong:=wrong) hg'.out (by rw [hy.out];exact hz))
    have hz':(y != 0)=true:=by simp [hz]
    clear hz
    rw [hy.out] at hask
    have cx:w2.cell? ⟨xb,20,none⟩=_:=(hx2.out.exam.cell 20).trans (exX_tell hC.out)
    have ck:w2.cell? ⟨w.heap.size,0,none⟩=some (.int .i64 kd):=hdb2.out.cell 0
    have hc:∀W,W=w2.drew->_:=fun W e=>ht3.out W y (by rw [e];exact hB2.out.trans ((Below.refl _ _).drew.mono hB2.out.size)) hask.out (by omega) (by omega)
    have hc':=hdZ hc
    clear hc
    go_wp2_with fail
    go_region_with ((go_at_call 57;(with_reducible refine (hc'.out _ ?_).mono ?_);rfl;rintro e w3 ⟨rfl,g3⟩))
    all_goals
     go_wp2_with fail
     go_end0
     exact ⟨rfl,g3⟩
theorem askF_le (a:Int) (d:Pap) (name:ByteArray) (wrong:ByteArray->Int):(askF a d name wrong).length<=1:=by
 unfold askF;split
 ·simp
 ·split<;>simp
theorem wrong_is {t:ByteArray} {W:World} {cb:Nat} (hb:Blk W cb 9 #[.string t]) (d:Pap) (name:ByteArray):WrongC 159 cb W d name (isW t):=fun w' v hb' _ =>
 ⟨by have:=isW_in t v;omega,is_any t v cb w' ((hb.below hb' hb.lt).cell 0)⟩
theorem small_get {docs:List Pap} {a:Nat} {d:Pap} {name v:ByteArray} (hs:SmallD docs) (hd:docs[a]?=some d) (hv:getF d.fields name=some v):v.size<=4000000:=by
 obtain ⟨f,hf,rfl⟩:=getF_mem hv
 exact hs d (mgZ hd) f hf
theorem wrong_sum {w0:World} {ct cf bm xb:Nat} {C:Array Value} {c:Crd} (hC:CrdAt C c) {A:Option Addr} {nn cc:Nat} {docs:List Pap} {day:Int} {a:Nat} {d:Pap} (hd:docs[a]?=some d) (hR:Room w0 A nn docs) {W:World} {v:Value} {l:List Flt} (hx:ExS w0 ct cf bm xb (exX C A nn cc day ct cf) W v l) {pb:Nat} (hp:Blk W pb 91 #[.pointer (some ⟨xb,0,none⟩)]) (name:ByteArray) :
  WrongC 161 pb W d name (sumW c):=fun w' v hb' hv =>
 ⟨by have:=sumW_in c v;omega,sum_any C c hC A nn cc day ct cf xb pb v (small_get hR.small hd hv) w' (hx.exam.below hb' hx.exam.lt) (hp.below hb' hp.lt) (hR.env.below (hx.below.trans (hb'.mono hx.below.size)))⟩
theorem wrong_issued {w0:World} {ct cf bm xb:Nat} {C:Array Value} {c:Crd} (hC:CrdAt C c) (hO:c.okC) {A:Option Addr} {nn cc:Nat} {docs:List Pap} {day:Int} (hday : -9223372036854775808<=day/\day<=9223372036854775807) {a:Nat} {d:Pap} (hd:docs[a]?=some d) (hR:Room w0 A nn docs) {W:World} {v:Value} {l:List Flt} (hx:ExS w0 ct cf bm xb (exX C A nn cc day ct cf) W v l) {pb:Nat} (hp:Blk W pb 91 #[.pointer (some ⟨xb,0,none⟩)]) (name:ByteArray) :
  WrongC 164 pb W d name (issuedW c day):=fun w' v hb' hv =>
 ⟨by have:=issuedW_in c day v;omega,issued_any C c hC hO A nn cc day hday ct cf xb pb v (small_get hR.small hd hv) w' (hx.exam.below hb' hx.exam.lt) (hp.below hb' hp.lt) (hR.env.below (hx.below.trans (hb'.mono hx.below.size)))⟩
theorem lading_any (w0:World) (ct cf bm xb:Nat) (C:Array Value) (c:Crd) (hC:Hid (CrdAt C c)) (hO:Hid c.okC) (A:Option Addr) (nn cc:Nat) (docs:List Pap) (day:Int) (hday:Hid (-9223372036854775808<=day/\day<=9223372036854775807)) (a:Nat) (d:Pap) (hd:Hid (docs[a]?=some d)) (hR:Hid (Room w0 A nn docs))
  (w:World) (v:Value) (l:List Flt) (hl:l.length<100000) (hx:Hid (ExS w0 ct cf bm xb (exX C A nn cc day ct cf) w v l)) :
  Calls Tryz.prog 107 #[.pointer (some ⟨xb,0,none⟩),.int .i64 a] w (Ted w0 ct cf bm xb (exX C A nn cc day ct cf) (addAll l (ladingF c day a d)) w):=by
 have hbA:=hdZ ((Below.refl _ w).alloc leZ (.cells #[.pointer (some ⟨xb,0,none⟩)] 91))
 have hpb:=hdZ (Blk.new w 91 #[.pointer (some ⟨xb,0,none⟩)])
 have hxA:=hdZ (hx.out.belows hbA.out)
 have hCs:=hdZ hC.out.size
 go_enter Tryz.func107,Tryz.ntmps107
 go_wp2_with fail
 refine (ask_any w0 ct cf bm xb C hCs A nn cc docs day a d hd hR nIssued (by unfold Hid;decide) 164 (hdZ (.inr (.inr rfl))) w.heap.size (issuedW c day) _ (wrong_issued hC.out hO.out hday.out hd.out hR.out hxA.out hpb.out nIssued) v l hl hxA).mono ?_
 rintro e w1 ⟨rfl,v1,h1,h2⟩
 have h1':=hdZ h1
 have h2':=hdZ h2
 clear h1 h2
 go_wp2_with fail
 go_end0
 exact ⟨rfl,v1,h1'.out,(Tld.of_below hbA.out).trans h2'.out⟩
theorem invoice_any (w0:World) (ct cf bm xb:Nat) (C:Array Value) (c:Crd) (hC:Hid (CrdAt C c)) (A:Option Addr) (nn cc:Nat) (docs:List Pap) (day:Int) (a:Nat) (d:Pap) (hd:Hid (docs[a]?=some d)) (hR:Hid (Room w0 A nn docs))
  (w:World) (v:Value) (l:List Flt) (hl:l.length+4<=100000) (hx:Hid (ExS w0 ct cf bm xb (exX C A nn cc day ct cf) w v l)) :
  Calls Tryz.prog 106 #[.pointer (some ⟨xb,0,none⟩),.int .i64 a] w (Ted w0 ct cf bm xb (exX C A nn cc day ct cf) (addAll l (invoiceF c a d)) w):=by
 have hbA:=hdZ ((Below.refl _ w).alloc leZ (.cells #[.pointer (some ⟨xb,0,none⟩)] 91))
 have hpb0:=hdZ (Blk.new w 91 #[.pointer (some ⟨xb,0,none⟩)])
 have hx0:=hdZ (hx.out.belows hbA.out)
 have hB0:Hid (Tld w0.heap.size cf bm w (w.alloc (.cells #[.pointer (some ⟨xb,0,none⟩)] 91))):=Tld.of_below hbA.out
 have hCs:=hdZ hC.out.size
 have hasks:=hdZ (fun nm (hn:Hid (nm.size<=100)) g (hg:Hid (g=159\/g=161\/g=164)) cb wr W=>ask_any w0 ct cf bm xb C hCs A nn cc docs day a d hd hR nm hn g hg cb wr W)
 obtain ⟨g0,hg0⟩:=nmZ (w.heap.size)
 rw [hg0.out] at hpb0
 have hl0:=hdZ hl
 clear hl
 go_enter Tryz.func106,Tryz.ntmps106
 go_upto_region 2 with fail
 rw [hg0.out]
 obtain ⟨W0,hW0⟩:=nmZ ((w.alloc (.cells #[.pointer (some ⟨xb,0,none⟩)] 91)))
 rw [hW0.out] at hpb0 hx0 hB0 ⊢
 go_cut [14] (fun _ wx=>∃v':Value,Hid (ExS w0 ct cf bm xb (exX C A nn cc day ct cf) wx v' (addAll l (askF a d nSeller (isW c.beneficiary))))/\Hid (Tld w0.heap.size cf bm w wx)/\Hid (Blk wx g0 91 #[.pointer (some ⟨xb,0,none⟩)]))
 case first =>
  have cp:W0.cell? ⟨g0,0,none⟩=some (.pointer (some ⟨xb,0,none⟩)):=hpb0.out.cell 0
  have cx:W0.cell? ⟨xb,2,none⟩=some (.string c.beneficiary):=(hx0.out.exam.cell 2).trans ((exX_cell hCs.out (by omega)).trans hC.out.beneficiary)
  have z1:=hpb0.out.lt
  have z2:=hx0.out.exam.lt
  have hc:∀W cb,W=W0.drew.alloc (.cells #[.string c.beneficiary] 9)->cb=W0.heap.size->Calls Tryz.prog 160 #[.pointer (some ⟨xb,0,none⟩),.int .i64 a,.string nSeller,.func (Fn.func 159) #[] #[.pointer (some ⟨cb,0,none⟩)]] W (Ted w0 ct cf bm xb (exX C A nn cc day ct cf) (addAll l (askF a d nSeller (isW c.beneficiary))) W0):=fun W cb e e2=>by
   subst e e2
   have hbW:Bz W0 (W0.drew.alloc (.cells #[.string c.beneficiary] 9)):=(Below.refl _ W0).drew.alloc leZ _
   refine (hasks.out nSeller (by unfold Hid;decide) 159 (hdZ (.inl rfl)) W0.heap.size (isW c.beneficiary) _ (wrong_is (Blk.new W0.drew 9 #[.string c.beneficiary]) d nSeller) v l (by have:=hl0.out;omega) (hx0.out.belows hbW)).mono ?_
   rintro e w' ⟨rfl,v',h1,h2⟩
   exact ⟨rfl,v',h1,(Tld.of_below hbW).trans h2⟩
  have hc':=hdZ hc
  clear hc
  unfold nSeller at hc'
  go_region_with (first | (go_at_call 158;refine (mkIs_any _ _).mono ?_;rintro e w1 ⟨rfl,rfl⟩) | (go_at_call 160;(with_reducible refine (hc'.out _ _ ?_ ?_).mono ?_);rfl;rfl;rintro e w3 ⟨rfl,v',h1,h2⟩;have h1':=hdZ h1;have h2':=hdZ h2;clear h1 h2))
  all_goals
   go_wp2_with fail
   go_meet
   case rel=>exact ⟨v',h1'.out,hB0.out.trans h2'.out,hx0.out.keep h2'.out hpb0.out (by decide) (by decide)⟩
 case rest =>
  obtain ⟨v1,hx1,hB1,hpb1⟩:=hcut
  obtain ⟨V1,hV1⟩:∃V,Hid (V=wc):=⟨_,rfl⟩
  rw [<-hV1.out] at hx1 hB1 hpb1 ⊢
  clear hV1
  go_upto_region 3 with fail
  obtain ⟨W1,hW1⟩:=nmZ (V1)
  rw [hW1.out] at hpb1 hx1 hB1 ⊢
  go_cut [24] (fun _ wx=>∃v':Value,Hid (ExS w0 ct cf bm xb (exX C A nn cc day ct cf) wx v' (addAll (addAll l (askF a d nSeller (isW c.beneficiary))) (askF a d nBuyer (isW c.applicant))))/\Hid (Tld w0.heap.size cf bm w wx)/\Hid (Blk wx g0 91 #[.pointer (some ⟨xb,0,none⟩)]))
  case first =>
   have cp:W1.cell? ⟨g0,0,none⟩=some (.pointer (some ⟨xb,0,none⟩)):=hpb1.out.cell 0
   have cx:W1.cell? ⟨xb,1,none⟩=some (.string c.applicant):=(hx1.out.exam.cell 1).trans ((exX_cell hCs.out (by omega)).trans hC.out.applicant)
   have z1:=hpb1.out.lt
   have z2:=hx1.out.exam.lt
   have hc:∀W cb,W=W1.drew.alloc (.cells #[.string c.applicant] 9)->cb=W1.heap.size->Calls Tryz.prog 160 #[.pointer (some ⟨xb,0,none⟩),.int .i64 a,.string nBuyer,.func (Fn.func 159) #[] #[.pointer (some ⟨cb,0,none⟩)]] W (Ted w0 ct cf bm xb (exX C A nn cc day ct cf) (addAll (addAll l (askF a d nSeller (isW c.beneficiary))) (askF a d nBuyer (isW c.applicant))) W1):=fun W cb e e2=>by
    subst e e2
    have hbW:Bz W1 (W1.drew.alloc (.cells #[.string c.applicant] 9)):=(Below.refl _ W1).drew.alloc leZ _
    refine (hasks.out nBuyer (by unfold Hid;decide) 159 (hdZ (.inl rfl)) W1.heap.size (isW c.applicant) _ (wrong_is (Blk.new W1.drew 9 #[.string c.applicant]) d nBuyer) v1 (addAll l (askF a d nSeller (isW c.beneficiary))) (by have:=addAll_len (askF a d nSeller (isW c.beneficiary)) l;have:=askF_le a d nSeller (isW c.beneficiary);have:=hl0.out;omega) (hx1.out.belows hbW)).mono ?_
    rintro e w' ⟨rfl,v',h1,h2⟩
    exact ⟨rfl,v',h1,(Tld.of_below hbW).trans h2⟩
   have hc':=hdZ hc
   clear hc
   unfold nBuyer at hc'
   go_region_with (first | (go_at_call 158;refine (mkIs_any _ _).mono ?_;rintro e w1 ⟨rfl,rfl⟩) | (go_at_call 160;(with_reducible refine (hc'.out _ _ ?_ ?_).mono ?_);rfl;rfl;rintro e w3 ⟨rfl,v',h1,h2⟩;have h1':=hdZ h1;have h2':=hdZ h2;clear h1 h2))
   all_goals
    go_wp2_with fail
    go_meet
    case rel=>exact ⟨v',h1'.out,hB1.out.trans h2'.out,hx1.out.keep h2'.out hpb1.out (by decide) (by decide)⟩
  case rest =>
   obtain ⟨v2,hx2,hB2,hpb2⟩:=hcut
   obtain ⟨V2,hV2⟩:∃V,Hid (V=wc):=⟨_,rfl⟩
   rw [<-hV2.out] at hx2 hB2 hpb2 ⊢
   clear hV2
   go_upto_region 4 with fail
   obtain ⟨W2,hW2⟩:=nmZ (V2)
   rw [hW2.out] at hpb2 hx2 hB2 ⊢
   go_cut [35] (fun _ wx=>∃v':Value,Hid (ExS w0 ct cf bm xb (exX C A nn cc day ct cf) wx v' (addAll (addAll (addAll l (askF a d nSeller (isW c.beneficiary))) (askF a d nBuyer (isW c.applicant))) (askF a d nCurrency (isW c.currency))))/\Hid (Tld w0.heap.size cf bm w wx)/\Hid (Blk wx g0 91 #[.pointer (some ⟨xb,0,none⟩)]))
   case first =>
    have cp:W2.cell? ⟨g0,0,none⟩=some (.pointer (some ⟨xb,0,none⟩)):=hpb2.out.cell 0
    have cx:W2.cell? ⟨xb,7,none⟩=some (.string c.currency):=(hx2.out.exam.cell 7).trans ((exX_cell hCs.out (by omega)).trans hC.out.currency)
    have z1:=hpb2.out.lt
    have z2:=hx2.out.exam.lt
    have hc:∀W cb,W=W2.drew.alloc (.cells #[.string c.currency] 9)->cb=W2.heap.size->Calls Tryz.prog 160 #[.pointer (some ⟨xb,0,none⟩),.int .i64 a,.string nCurrency,.func (Fn.func 159) #[] #[.pointer (some ⟨cb,0,none⟩)]] W (Ted w0 ct cf bm xb (exX C A nn cc day ct cf) (addAll (addAll (addAll l (askF a d nSeller (isW c.beneficiary))) (askF a d nBuyer (isW c.applicant))) (askF a d nCurrency (isW c.currency))) W2):=fun W cb e e2=>by
     subst e e2
     have hbW:Bz W2 (W2.drew.alloc (.cells #[.string c.currency] 9)):=(Below.refl _ W2).drew.alloc leZ _
     refine (hasks.out nCurrency (by unfold Hid;decide) 159 (hdZ (.inl rfl)) W2.heap.size (isW c.currency) _ (wrong_is (Blk.new W2.drew 9 #[.string c.currency]) d nCurrency) v2 (addAll (addAll l (askF a d nSeller (isW c.beneficiary))) (askF a d nBuyer (isW c.applicant))) (by have:=addAll_len (askF a d nSeller (isW c.beneficiary)) l;have:=askF_le a d nSeller (isW c.beneficiary);have:=addAll_len (askF a d nBuyer (isW c.applicant)) (addAll l (askF a d nSeller (isW c.beneficiary)));have:=askF_le a d nBuyer (isW c.applicant);have:=hl0.out;omega) (hx2.out.belows hbW)).mono ?_
     rintro e w' ⟨rfl,v',h1,h2⟩
     exact ⟨rfl,v',h1,(Tld.of_below hbW).trans h2⟩
    have hc':=hdZ hc
    clear hc
    unfold nCurrency at hc'
    go_region_with (first | (go_at_call 158;refine (mkIs_any _ _).mono ?_;rintro e w1 ⟨rfl,rfl⟩) | (go_at_call 160;(with_reducible refine (hc'.out _ _ ?_ ?_).mono ?_);rfl;rfl;rintro e w3 ⟨rfl,v',h1,h2⟩;have h1':=hdZ h1;have h2':=hdZ h2;clear h1 h2))
    all_goals
     go_wp2_with fail
     go_meet
     case rel=>exact ⟨v',h1'.out,hB2.out.trans h2'.out,hx2.out.keep h2'.out hpb2.out (by decide) (by decide)⟩
   case rest =>
    obtain ⟨v3,hx3,hB3,hpb3⟩:=hcut
    obtain ⟨V3,hV3⟩:∃V,Hid (V=wc):=⟨_,rfl⟩
    rw [<-hV3.out] at hx3 hB3 hpb3 ⊢
    clear hV3
    have cp:V3.cell? ⟨g0,0,none⟩=some (.pointer (some ⟨xb,0,none⟩)):=hpb3.out.cell 0
    go_wp2_with fail
    refine (hasks.out nSum (by unfold Hid;decide) 161 (hdZ (.inr (.inl rfl))) g0 (sumW c) _ (wrong_sum hC.out hd.out hR.out hx3.out hpb3.out nSum) v3 _ (by have:=addAll_len (askF a d nSeller (isW c.beneficiary)) l;have:=askF_le a d nSeller (isW c.beneficiary);have:=addAll_len (askF a d nBuyer (isW c.applicant)) (addAll l (askF a d nSeller (isW c.beneficiary)));have:=askF_le a d nBuyer (isW c.applicant);have:=addAll_len (askF a d nCurrency (isW c.currency)) (addAll (addAll l (askF a d nSeller (isW c.beneficiary))) (askF a d nBuyer (isW c.applicant)));have:=askF_le a d nCurrency (isW c.currency);have:=hl0.out;omega) hx3).mono ?_
    rintro e w1 ⟨rfl,v4,h1,h2⟩
    have h1':=hdZ h1
    have h2':=hdZ h2
    clear h1 h2
    go_wp2_with fail
    go_end0
    refine ⟨rfl,v4,?_,hB3.out.trans h2'.out⟩
    unfold invoiceF
    rw [addAll_app,addAll_app,addAll_app]
    exact h1'.out
end Go.Proofs.YtdjmckjbibfecaaGreatDoor

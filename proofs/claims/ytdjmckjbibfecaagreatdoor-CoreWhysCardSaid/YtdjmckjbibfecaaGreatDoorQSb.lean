import Derived.Test.YtdjmckjbibfecaaGreatDoorQSg
import Derived.Test.YtdjmckjbibfecaaGreatDoorQShelf
namespace Go.Proofs.YtdjmckjbibfecaaGreatDoor.Sh
open Go Go.RowKit Go.BigFrame Go.Maps
set_option maxRecDepth 100000
set_option maxHeartbeats 1600000
theorem RowsAt.get {w:World} {ok:Nat->Prop}:∀{A:Option Addr} {j:Nat} {L:List Tree} (_:RowsAt w ok A j L) (k:Nat) (t:Tree),L[k]?=some t->CellsAt w ok A (j+k) t/\TreeAt w ok t
 | _,_,[],_,k,t,hk=>by simp at hk
 | _,_,u::L,h,0,t,hk=>by
  rw [RowsAt] at h
  simp at hk;subst hk
  exact ⟨h.1,h.2.1⟩
 | _,j,u::L,h,k+1,t,hk=>by
  rw [RowsAt] at h
  have:=RowsAt.get h.2.2 k t (by simpa using hk)
  rw [show j+1+k=j+(k+1) by omega] at this
  exact this
theorem RowsAt.below {w w':World} {ok:Nat->Prop} {A:Option Addr} {j:Nat} {L:List Tree} (h:RowsAt w ok A j L) (hb:Bz w w'):RowsAt w' ok A j L:=h.same fun _ h1 _=>hb.cell h1
theorem RowsAt.mem {w:World} {ok:Nat->Prop} {A:Option Addr} {j:Nat} {L:List Tree} (h:RowsAt w ok A j L) {t:Tree} (ht:t∈L):TreeAt w ok t:=by
 obtain ⟨k,hk⟩:=List.mem_iff_getElem?.1 ht
 exact (h.get k t hk).2
mutual
theorem Tree.every {Q:Tree->Prop} (h:∀t,(∀u∈t.sub,Q u)->Q t):∀t:Tree,Q t
 | .mk _ _ _ _ _ _ _ L=>h _ (Tree.everyL h L)
theorem Tree.everyL {Q:Tree->Prop} (h:∀t,(∀u∈t.sub,Q u)->Q t):∀L:List Tree,∀u∈L,Q u
 | [],u,hu=>by simp at hu
 | t::L,u,hu=>by
  rcases List.mem_cons.1 hu with e | hu
  ·rw [e];exact Tree.every h t
  ·exact Tree.everyL h L u hu
end
def AsksAt (w:World) (g:Nat) (lb:Array Value) (L:List Tree) (p:Tree->Bool):Prop :=
 ∀(W:World) (t:Tree),t∈L->Bz w W->Calls Tryz.prog g (#[.agg t.cells]++lb) W fun e w'=>e=.returned (.bool (p t))/\Bz W w'
theorem any_no {L:List Tree} {k:Nat} {x:Tree} {p:Tree->Bool} {r:Bool} (h:r=(L.drop k).any p) (hx:L[k]?=some x) (hp:p x=false):r=(L.drop (k+1)).any p:=by
 obtain ⟨hk,he⟩:=gsZ.1 hx
 rw [h,List.drop_eq_getElem_cons hk,he,List.any_cons,hp];rfl
theorem any_yes {L:List Tree} {k:Nat} {x:Tree} {p:Tree->Bool} {r:Bool} (h:r=(L.drop k).any p) (hx:L[k]?=some x) (hp:p x=true):r=true:=by
 obtain ⟨hk,he⟩:=gsZ.1 hx
 rw [h,List.drop_eq_getElem_cons hk,he,List.any_cons,hp];rfl
theorem any_end {L:List Tree} {k:Nat} {p:Tree->Bool} {r:Bool} (h:r=(L.drop k).any p) (hk:L.length<=k):r=false:=by
 rw [h,List.drop_eq_nil_of_le hk];rfl
theorem index_any (A:Option Addr) (n c:Nat) (L:List Tree) (ok:Nat->Prop) (g:Nat) (lb:Array Value) (eg:∀(args:Array Value) (w:World),(callFunc g args).run Tryz.prog w=.ok (.enter g args) w) (p:Tree->Bool) (w:World) (hn:n<=maxLen) (hl:Hid (L.length=n)) (hA:Hid (RowsAt w ok A 0 L)) (hf:Hid (AsksAt w g lb L p)) :
  Calls Tryz.prog 202 #[.slice A n c,.func (.func g) #[] lb] w fun e w'=>∃i:Int,e=.returned (.int .i64 i)/\decide (0<=i)=L.any p/\Bz w w':=by
 unfold maxLen at hn
 go_enter Tryz.func202,Tryz.ntmps202
 go_wp2_with fail
 go_loopw [8] (fun i wr=>∃k:Nat,k<=n/\i=.int .i64 k/\Hid (L.any p=(L.drop k).any p)/\Bz w wr) (fun i _=>n-(intOf i).toNat)
 case atStart=>exact ⟨0,Nat.zero_le _,rfl,rfl,Below.refl _ _⟩
 case round =>
  obtain ⟨k,hk,rfl,hsame,hB⟩:=hrel
  by_cases hlt:k<n
  ·obtain ⟨x,hx⟩:∃x,L[k]?=some x:=⟨_,gZ (by have:=hl.out;omega)⟩
   have hx':=hdZ hx
   have hm:=hdZ (mgZ hx)
   clear hx
   obtain ⟨hc,_⟩:=(hA.out.below hB).get k x hx'.out
   obtain ⟨pv,hpv⟩:=nmZ (p x)
   have hcall:=hdZ (hf.out wr x hm.out hB)
   rw [hpv.out] at hcall
   obtain ⟨xk,xp,xf,xx,xn,xA,xc,xL⟩:=x
   obtain ⟨b,off,rfl,_,h0,h1,h2,h3,h4,h5⟩:=hc
   rw [Nat.zero_add] at h0 h1 h2 h3 h4 h5
   unfold Tree.cells at hcall
   cases pv with
   | true =>
    have hr:=hdZ (any_yes hsame.out hx'.out hpv.out)
    go_wp2_with (go_at_fn g;refine hcall.out.mono ?_;rintro e w1 ⟨rfl,hb1⟩)
    go_ret
    exact ⟨_,rfl,by rw [hr.out];simp,hB.trans (hb1.mono hB.size)⟩
   | false =>
    have hr:=hdZ (any_no hsame.out hx'.out hpv.out)
    go_wp2_with (go_at_fn g;refine hcall.out.mono ?_;rintro e w1 ⟨rfl,hb1⟩)
    go_roundw
    case rel=>exact ⟨k+1,by omega,by go_num,hr,hB.trans (hb1.mono hB.size)⟩
    case measure=>simp [intOf];omega
  ·have hr:=hdZ (any_end hsame.out (by have:=hl.out;omega))
   go_wp2_with fail
   go_ret
   exact ⟨_,rfl,by rw [hr.out];rfl,hB⟩
theorem contains_any (A:Option Addr) (n c:Nat) (L:List Tree) (ok:Nat->Prop) (g:Nat) (lb:Array Value) (eg:∀(args:Array Value) (w:World),(callFunc g args).run Tryz.prog w=.ok (.enter g args) w) (p:Tree->Bool) (w:World) (hn:n<=maxLen) (hl:Hid (L.length=n)) (hA:Hid (RowsAt w ok A 0 L)) (hf:Hid (AsksAt w g lb L p)) :
  Calls Tryz.prog 178 #[.slice A n c,.func (.func g) #[] lb] w fun e w'=>e=.returned (.bool (L.any p))/\Bz w w':=by
 have hcall:=hdZ (index_any A n c L ok g lb eg p w hn hl hA hf)
 obtain ⟨b,hb⟩:=nmZ (L.any p)
 rw [hb.out] at hcall ⊢
 go_enter Tryz.func178,Tryz.ntmps178
 go_wp2_with (go_at_call 202;refine hcall.out.mono ?_;rintro e w1 ⟨i,rfl,hi,hB1⟩)
 go_ret
 exact ⟨rfl,hB1⟩
theorem results_row_tmp2 {P:Program} {fn:Func} {p u v:Tmp} {ty:TypeId} (h:fn.results=#[.cell p ty,.tmp u,.tmp v]) (tmps:Array Value) (w:World) (g:Nat) (t:TypeId) (cs:Array Value) (d:TypeDesc)
  (hp:tmps.getD p undef=.pointer (some ⟨g,0,none⟩)) (hg:Blk w g t cs)
  (hu:P.underlying ty=some d) (hd:(match d with | .struct _ | .array _ _=>true | _=>false)=true) (hi:(P.info? ty).map (·.size)=some cs.size) :
  (results fn tmps).run P w=.ok (.tuple #[.agg cs,tmps.getD u undef,tmps.getD v undef]) w:=by
 have hp':tmps[p]?.getD undef=.pointer (some ⟨g,0,none⟩):=by simpa using hp
 simp [results,h,hp',asAddr,run_loadVar_row w g t ty cs (0,0) d hg hu hd hi,Result.andThen]
theorem tokL_get:∀(T:List Tok) (k:Nat) (t:Tok),T[k]?=some t->∀i,i<3->(tokL T)[k*3+i]?=t.cells.toList[i]?
 | [],k,x,h,i,hi=>by simp at h
 | y::T,0,x,h,i,hi=>by
  simp only [List.getElem?_cons_zero,Option.some.injEq] at h;subst h
  show (y.cells.toList++tokL T)[0*3+i]?=_
  rw [Nat.zero_mul,Nat.zero_add,List.getElem?_append_left (by simp [Tok.cells,tokC];exact hi)]
 | y::T,k+1,x,h,i,hi=>by
  have ih:=tokL_get T k x (by simpa using h) i hi
  show (y.cells.toList++tokL T)[(k+1)*3+i]?=_
  rw [List.getElem?_append_right (by simp [Tok.cells,tokC];omega),show y.cells.toList.length=3 from rfl,show (k+1)*3+i-3=k*3+i by omega]
  exact ih
theorem tok_own {w:World} {B pb n:Nat} {p:Option Addr} {c:Nat} {l:List Tok} (h:w.ownsRow B 212 3 (.slice p n c) l.length (tokL l)) (hB:pb<B):TokAt w pb p l:=by
 intro i t ht
 have hlt:=(gsZ.1 ht).1
 rcases h.2 with ⟨h1,h0⟩ | ⟨g,cap,cur,hv,hg,_⟩
 ·omega
 ·obtain rfl:p=some ⟨g,0,none⟩:=by simp at hv;exact hv.1
  have hh:=h
  simp only [Value.slice.injEq] at hv
  obtain ⟨_,rfl,rfl⟩:=hv
  have hc:∀j,j<3->∀u,t.cells.toList[j]?=some u->w.cell? ⟨g,0+i*3+j,none⟩=some u:=fun j hj u hu=>by
   have:=hh.cells (g:=g) rfl (i*3+j) u (by rw [tokL_get l i t ht j hj];exact hu)
   rwa [show Addr.add ⟨g,0,none⟩ (i*3+j)=⟨g,0+i*3+j,none⟩ by unfold Addr.add;split<;>simp_all] at this
  exact ⟨g,0,rfl,by omega,hc 0 (by omega) _ rfl,hc 1 (by omega) _ rfl,hc 2 (by omega) _ rfl⟩
set_option maxHeartbeats 3200000
theorem wordsA_lit:wordsA=#[.string ⟨#[97,98,111,118,101]⟩,.string ⟨#[97,108,108]⟩,.string ⟨#[97,110,100]⟩,.string ⟨#[97,110,121]⟩,.string ⟨#[97,112,112,108,105,99,97,110,116]⟩,.string ⟨#[98,101,108,111,119]⟩,.string ⟨#[98,101,110,101,102,105,99,105,97,114,121]⟩,.string ⟨#[99,104,97,110,103,101]⟩,.string ⟨#[99,111,110,102,105,114,109,101,114]⟩,.string ⟨#[99,111,112,105,101,115]⟩,.string ⟨#[99,114,101,100,105,116]⟩,.string ⟨#[100,97,121,115]⟩,.string ⟨#[100,114,97,102,116]⟩,.string ⟨#[101,120,112,105,114,121]⟩,.string ⟨#[102,114,111,109]⟩,.string ⟨#[105,110,115,117,114,97,110,99,101]⟩,.string ⟨#[105,110,118,111,105,99,101]⟩,.string ⟨#[105,115,115,117,101,114]⟩,.string ⟨#[108,97,100,105,110,103]⟩,.string ⟨#[108,97,116,101,115,116]⟩,.string ⟨#[110,111]⟩,.string ⟨#[110,111,116]⟩,.string ⟨#[111,102]⟩,.string ⟨#[111,114]⟩,.string ⟨#[111,114,105,103,105,110]⟩,.string ⟨#[112,97,99,107,105,110,103]⟩,.string ⟨#[112,97,114,116,105,97,108]⟩,.string ⟨#[115,105,103,104,116]⟩,.string ⟨#[115,117,109]⟩,.string ⟨#[116,101,110,111,114]⟩,.string ⟨#[116,111]⟩,.string ⟨#[119,97,110,116,115]⟩,.string ⟨#[119,105,116,104]⟩,.string ⟨#[119,105,116,104,105,110]⟩,.string ⟨#[121,101,115]⟩]:=rfl
theorem rwords_any (w:World):Calls Tryz.prog 251 #[] w fun e w'=>e=.returned (.slice (some ⟨w.heap.size,0,none⟩) 35 35)/\w'=w.alloc (.cells wordsA 9):=by
 rw [wordsA_lit]
 go_enter Tryz.func251,Tryz.ntmps251
 go_wp2_with fail
 go_ret
 exact ⟨rfl,rfl⟩
theorem txts_blk {w:World} {g:Nat} {t:TypeId} {l:List Txt} (h:Blk w g t (l.map fun x=>Value.string ⟨x.toArray⟩).toArray):TxtsAt w (some ⟨g,0,none⟩) l:=fun k x hx=>by
 refine ⟨g,0,rfl,?_⟩
 rw [Nat.zero_add,h.cell,List.getElem?_toArray,List.getElem?_map,hx];rfl
def signsA:Array Value:=#[.string ⟨#[40]⟩,.string ⟨#[41]⟩,.string ⟨#[44]⟩,.string ⟨#[59]⟩,.string ⟨#[58]⟩,.string ⟨#[46]⟩,.string ⟨#[61]⟩,.string ⟨#[126]⟩]
def signsT:List Txt:=[[40],[41],[44],[59],[58],[46],[61],[126]]
theorem signs_one:∀c:UInt8,signsT.contains [c]=oneSigns.contains c :=
 byte_all (P:=fun c=>signsT.contains [c]=oneSigns.contains c) (by decide)
theorem conv_at (W:World) (g:Nat) (k:Int) (h:Blk W g 5 #[.int .u8 k]):(convert 33 9 (.slice (some ⟨g,0,none⟩) 1 1)).run Tryz.prog W=.ok (.string ⟨#[UInt8.ofNat k.toNat]⟩) W:=by
 have:=run_convert_bytes_arg (P:=Tryz.prog) W 33 5 Tryz.underlying33 Tryz.underlying5 g 0 1 1 [k] rfl
 exact this (fun i hi => by obtain rfl : i = 0 := by omega
                            exact h.cell 0) 9 Tryz.underlying9
theorem conv_new (W:World) (k:Int):(convert 33 9 (.slice (some ⟨W.heap.size,0,none⟩) 1 1)).run Tryz.prog (W.alloc (.cells #[.int .u8 k] 5))=.ok (.string ⟨#[UInt8.ofNat k.toNat]⟩) (W.alloc (.cells #[.int .u8 k] 5)) :=
 conv_at _ _ _ (Blk.new W 5 _)
def OneOut (w:World) (s:ByteArray) (k:Nat) (x:Ending) (w':World):Prop:=Bz w w' /\
 ((∃kd t m,oneM (s.data.toList.drop k)=.ok (kd,t,m)/\0<m/\k+m<=s.size/\x=.returned (.tuple #[.agg (tokC kd k ⟨t.toArray⟩),.int .i64 (k+m:Nat),.int .i64 0])) \/
  (∃cd,oneM (s.data.toList.drop k)=.error cd/\cd≠0/\x=.returned (.tuple #[.agg noTok,.int .i64 k,.int .i64 cd])))
theorem OneOut.ok {w w':World} {s:ByteArray} {k m:Nat} {kd:Int} {t:Txt} {x:Ending} (hb:Bz w w') (h:oneM (s.data.toList.drop k)=.ok (kd,t,m)) (h1:0<m) (h2:k+m<=s.size) (hx:x=.returned (.tuple #[.agg (tokC kd k ⟨t.toArray⟩),.int .i64 (k+m:Nat),.int .i64 0])):OneOut w s k x w':=⟨hb,.inl ⟨kd,t,m,h,h1,h2,hx⟩⟩
theorem OneOut.bad {w w':World} {s:ByteArray} {k:Nat} {cd:Int} {x:Ending} (hb:Bz w w') (h:oneM (s.data.toList.drop k)=.error cd) (h1:cd≠0) (hx:x=.returned (.tuple #[.agg noTok,.int .i64 k,.int .i64 cd])):OneOut w s k x w':=⟨hb,.inr ⟨cd,h,h1,hx⟩⟩
theorem rone_small (s:ByteArray) (k:Nat) (w:World) (hk:k<s.size) (hs:s.size<=maxLen) (h1:Hid (smallB s[k]=true)):Calls Tryz.prog 229 #[.string s,.int .i64 k] w (OneOut w s k):=by
 unfold maxLen at hs
 have hT:Hid (Blk (w.alloc (.cells #[.int .i64 0,.int .i64 0,.string ⟨#[]⟩] 212)) w.heap.size 212 #[.int .i64 0,.int .i64 0,.string ⟨#[]⟩]):=Blk.new w 212 _
 have hB:Hid (Bz w (w.alloc (.cells #[.int .i64 0,.int .i64 0,.string ⟨#[]⟩] 212))):=(Below.refl _ w).alloc leZ _
 have i1:(k:Int)<(s.size:Int):=by omega
 have i2:(0:Int)<=(k:Int):=by omega
 have w1:IntKind.i64.wrap ((k:Int)+1)=((k+1:Nat):Int):=by rw [IntWalk.i64_in _ (by omega)];omega
 have hone:=hdZ (one_small hk h1.out)
 go_enter Tryz.func229,Tryz.ntmps229
 go_wp2_with fail
 refine (rrun_any s[k] _).mono ?_
 rintro x w1 ⟨rfl,rfl⟩
 rw [h1.out]
 obtain ⟨wa,hwa⟩:=nmZ (w.alloc (.cells #[.int .i64 0,.int .i64 0,.string ⟨#[]⟩] 212))
 rw [hwa.out] at hT hB ⊢
 clear hwa
 go_wp2_with fail
 go_loopg [8] (s.size-(k+1)) (fun gg v wr=>∃j:Nat,k+1<=j/\j<=s.size/\gg=s.size-j/\v=.int .i64 j/\Hid (endP smallB s k=endP smallB s j)/\wa=wr)
 case atStart=>exact ⟨k+1,Nat.le_refl _,hk,rfl,rfl,end_yes hk h1.out,rfl⟩
 case round =>
  obtain ⟨j,hkj,hj,hg,rfl,he,rfl⟩:=hrel
  have hg':=hdZ hg
  clear hg
  have i4:(0:Int)<=(j:Int):=by omega
  by_cases hlt:j<s.size
  ·have hl1:decide ((j:Int)<(s.size:Int))=true:=by simp;omega
   have i3:(j:Int)<(s.size:Int):=by omega
   obtain ⟨pb,hpb⟩:=nmZ (smallB s[j])
   have w2:IntKind.i64.wrap ((j:Int)+1)=((j+1:Nat):Int):=by rw [IntWalk.i64_in _ (by omega)];omega
   go_wp2_with fail
   refine (rrun_any s[j] _).mono ?_
   rintro x w1 ⟨rfl,rfl⟩
   rw [hpb.out]
   cases pb with
   | true =>
    go_wp2_with fail
    go_roundg (s.size-(j+1))
    case measure=>have:=hg'.out;omega
    case rel=>exact ⟨j+1,by omega,hlt,rfl,rfl,by unfold Hid;rw [he.out,end_yes hlt hpb.out],rfl⟩
   | false =>
    have hj':Hid (endP smallB s k=j):=by unfold Hid;rw [he.out,end_no hlt hpb.out]
    have hsub:s.extract k j=s.extract k j:=rfl
    go_wp2_with fail
    have hxs:(s.extract k j).size=j-k:=by simp;omega
    have hall:Hid ((s.extract k j).data.toList.all smallB=true):=by unfold Hid;rw [<-hj'.out,extract_run];exact List.all_takeWhile
    rw [hj'.out] at hone
    obtain ⟨x,hx⟩:=nmZ (s.extract k j)
    rw [hx.out] at hall hone hxs ⊢
    have hx1:0<x.size:=by omega
    have hln:Hid (x.data.toList.length=x.size):=by unfold Hid;simp
    have hxL:Hid ((⟨x.data.toList.toArray⟩:ByteArray)=x):=rfl
    clear hsub hx
    refine (rdigits_any x wa (by unfold maxLen;omega)).mono ?_
    rintro y w3 ⟨rfl,rfl⟩
    have f0:=hT.out.frozen 0
    have f1:=hT.out.frozen 1
    have f2:=hT.out.frozen 2
    obtain ⟨r0,r1,r2⟩:=cs3 hT.out
    have rlt:=hT.out.lt
    cases hd:x.data.toList.all digitB with
    | true =>
     rw [rank_digits hd] at hone
     by_cases hz:1<x.size/\x.data.toList.head?=some 48
     ·have hr:Hid (oneM (s.data.toList.drop k)=.error 2):=by unfold Hid;rw [hone.out];unfold boundM;simp only;rw [hln.out,if_pos hz];rfl
      obtain ⟨hz1,hz2⟩:=hz
      rw [head_byte hx1] at hz2
      have b1:decide (1<(x.size:Int))=true:=by simp;omega
      have b2:((x[0].toNat:Int)==48)=true:=by rw [Option.some.inj hz2];rfl
      clear hz2 hd hone
      go_wp2_with fail
      refine bodyPost_ret (results_row_tmp2 rfl _ _ w.heap.size 212 _ _ rfl (((hT.out.set_ 0 _).set_ 1 _).set_ 2 _) Tryz.underlying212 rfl (by kernel_rfl)) rfl ?_
      exact .bad (((hB.out.setCell leZ _).setCell leZ _).setCell leZ _) hr.out (by decide) rfl
     ·have hab:=above_eq hd (by rw [hln.out];exact hz)
      have key:Hid (1<x.size->((x[0].toNat:Int)==48)=false):=fun h=>by
       simp only [beq_eq_false_iff_ne,ne_eq]
       intro e
       exact hz ⟨h,by rw [head_byte hx1,show x[0]=48 from UInt8.toNat_inj.1 (by simpa using (by omega:x[0].toNat=48))]⟩
      have hbm:boundM x.data.toList=if mostN<numV x.data.toList then 3 else 0:=by unfold boundM;rw [hln.out,if_neg hz]
      rw [hbm] at hone
      have hcall:Hid (Calls Tryz.prog 249 #[.string x] wa fun e w'=>e=.returned (.bool (decide (mostN<numV x.data.toList)))/\wa=w'):=by
       rw [<-hab];exact rabove_any x wa (by unfold maxLen;omega)
      clear hab hbm hz hd
      by_cases h1x:1<x.size
      ·have b1:decide (1<(x.size:Int))=true:=by simp;omega
       have b2:=key.out h1x
       go_wp2_with fail
       refine hcall.out.mono ?_
       rintro y w3 ⟨rfl,rfl⟩
       by_cases hm:mostN<numV x.data.toList
       ·rw [dtZ hm]
        rw [if_pos hm,if_neg (by decide)] at hone
        clear hm
        go_wp2_with fail
        refine bodyPost_ret (results_row_tmp2 rfl _ _ w.heap.size 212 _ _ rfl (((hT.out.set_ 0 _).set_ 1 _).set_ 2 _) Tryz.underlying212 rfl (by kernel_rfl)) rfl ?_
        exact .bad (((hB.out.setCell leZ _).setCell leZ _).setCell leZ _) hone.out (by decide) rfl
       ·rw [dfZ hm]
        rw [if_neg hm,if_pos rfl] at hone
        clear hm
        go_wp2_with fail
        refine bodyPost_ret (results_row_tmp2 rfl _ _ w.heap.size 212 _ _ rfl (((hT.out.set_ 0 _).set_ 1 _).set_ 2 _) Tryz.underlying212 rfl (by kernel_rfl)) rfl ?_
        exact .ok (((hB.out.setCell leZ _).setCell leZ _).setCell leZ _) hone.out (by omega) (by omega) (by rw [show k+(j-k)=j by omega];rfl)
      ·have b1:decide (1<(x.size:Int))=false:=by simp;omega
       go_wp2_with fail
       refine hcall.out.mono ?_
       rintro y w3 ⟨rfl,rfl⟩
       by_cases hm:mostN<numV x.data.toList
       ·rw [dtZ hm]
        rw [if_pos hm,if_neg (by decide)] at hone
        clear hm
        go_wp2_with fail
        refine bodyPost_ret (results_row_tmp2 rfl _ _ w.heap.size 212 _ _ rfl (((hT.out.set_ 0 _).set_ 1 _).set_ 2 _) Tryz.underlying212 rfl (by kernel_rfl)) rfl ?_
        exact .bad (((hB.out.setCell leZ _).setCell leZ _).setCell leZ _) hone.out (by decide) rfl
       ·rw [dfZ hm]
        rw [if_neg hm,if_pos rfl] at hone
        clear hm
        go_wp2_with fail
        refine bodyPost_ret (results_row_tmp2 rfl _ _ w.heap.size 212 _ _ rfl (((hT.out.set_ 0 _).set_ 1 _).set_ 2 _) Tryz.underlying212 rfl (by kernel_rfl)) rfl ?_
        exact .ok (((hB.out.setCell leZ _).setCell leZ _).setCell leZ _) hone.out (by omega) (by omega) (by rw [show k+(j-k)=j by omega];rfl)
    | false =>
     clear f0 f1 f2 r0 r1 r2 rlt
     go_wp2_with fail
     refine (rwords_any wa).mono ?_
     rintro y w3 ⟨rfl,rfl⟩
     have hbl:Bz wa (wa.alloc (.cells wordsA 9)):=(Below.refl _ wa).alloc leZ _
     have hin:=hdZ (rin_any (some ⟨wa.heap.size,0,none⟩) 35 35 wordsL x.data.toList (wa.alloc (.cells wordsA 9)) (by unfold maxLen;omega) rfl (txts_blk (t:=9) (Blk.new wa 9 wordsA)))
     have hT:=kbY hT hbl
     have hB:=hdZ (hB.out.trans (hbl.mono hB.out.size))
     obtain ⟨wb,hwb⟩:=nmZ (wa.alloc (.cells wordsA 9))
     rw [hwb.out] at hin hT hB ⊢
     clear hbl hwb
     go_wp2_with fail
     refine hin.out.mono ?_
     rintro y w3 ⟨rfl,rfl⟩
     have f0:=hT.out.frozen 0
     have f1:=hT.out.frozen 1
     have f2:=hT.out.frozen 2
     obtain ⟨r0,r1,r2⟩:=cs3 hT.out
     have rlt:=hT.out.lt
     cases hwd:wordsL.contains x.data.toList with
     | true =>
      rw [rank_word hd hwd,if_pos rfl] at hone
      clear hin hd
      go_wp2_with fail
      refine bodyPost_ret (results_row_tmp2 rfl _ _ w.heap.size 212 _ _ rfl (((hT.out.set_ 0 _).set_ 1 _).set_ 2 _) Tryz.underlying212 rfl (by kernel_rfl)) rfl ?_
      exact .ok (((hB.out.setCell leZ _).setCell leZ _).setCell leZ _) hone.out (by omega) (by omega) (by rw [show k+(j-k)=j by omega];rfl)
     | false =>
      rw [rank_name hd hwd,hln.out] at hone
      clear hin hd
      by_cases h16:x.size<=16
      ·have b1:decide ((16:Int)<(x.size:Int))=false:=by simp;omega
       rw [if_pos h16,if_pos rfl] at hone
       go_wp2_with fail
       refine bodyPost_ret (results_row_tmp2 rfl _ _ w.heap.size 212 _ _ rfl (((hT.out.set_ 0 _).set_ 1 _).set_ 2 _) Tryz.underlying212 rfl (by kernel_rfl)) rfl ?_
       exact .ok (((hB.out.setCell leZ _).setCell leZ _).setCell leZ _) hone.out (by omega) (by omega) (by rw [show k+(j-k)=j by omega];rfl)
      ·have b1:decide ((16:Int)<(x.size:Int))=true:=by simp;omega
       rw [if_neg h16,if_neg (by decide)] at hone
       go_wp2_with fail
       refine bodyPost_ret (results_row_tmp2 rfl _ _ w.heap.size 212 _ _ rfl (((hT.out.set_ 0 _).set_ 1 _).set_ 2 _) Tryz.underlying212 rfl (by kernel_rfl)) rfl ?_
       exact .bad (((hB.out.setCell leZ _).setCell leZ _).setCell leZ _) hone.out (by decide) rfl
  ·have hl1:decide ((j:Int)<(s.size:Int))=false:=by simp;omega
   have hj':Hid (endP smallB s k=j):=by unfold Hid;rw [he.out,end_end (by omega)]
   have hsub:s.extract k j=s.extract k j:=rfl
   go_wp2_with fail
   have hxs:(s.extract k j).size=j-k:=by simp;omega
   have hall:Hid ((s.extract k j).data.toList.all smallB=true):=by unfold Hid;rw [<-hj'.out,extract_run];exact List.all_takeWhile
   rw [hj'.out] at hone
   obtain ⟨x,hx⟩:=nmZ (s.extract k j)
   rw [hx.out] at hall hone hxs ⊢
   have hx1:0<x.size:=by omega
   have hln:Hid (x.data.toList.length=x.size):=by unfold Hid;simp
   have hxL:Hid ((⟨x.data.toList.toArray⟩:ByteArray)=x):=rfl
   clear hsub hx
   refine (rdigits_any x wa (by unfold maxLen;omega)).mono ?_
   rintro y w3 ⟨rfl,rfl⟩
   have f0:=hT.out.frozen 0
   have f1:=hT.out.frozen 1
   have f2:=hT.out.frozen 2
   obtain ⟨r0,r1,r2⟩:=cs3 hT.out
   have rlt:=hT.out.lt
   cases hd:x.data.toList.all digitB with
   | true =>
    rw [rank_digits hd] at hone
    by_cases hz:1<x.size/\x.data.toList.head?=some 48
    ·have hr:Hid (oneM (s.data.toList.drop k)=.error 2):=by unfold Hid;rw [hone.out];unfold boundM;simp only;rw [hln.out,if_pos hz];rfl
     obtain ⟨hz1,hz2⟩:=hz
     rw [head_byte hx1] at hz2
     have b1:decide (1<(x.size:Int))=true:=by simp;omega
     have b2:((x[0].toNat:Int)==48)=true:=by rw [Option.some.inj hz2];rfl
     clear hz2 hd hone
     go_wp2_with fail
     refine bodyPost_ret (results_row_tmp2 rfl _ _ w.heap.size 212 _ _ rfl (((hT.out.set_ 0 _).set_ 1 _).set_ 2 _) Tryz.underlying212 rfl (by kernel_rfl)) rfl ?_
     exact .bad (((hB.out.setCell leZ _).setCell leZ _).setCell leZ _) hr.out (by decide) rfl
    ·have hab:=above_eq hd (by rw [hln.out];exact hz)
     have key:Hid (1<x.size->((x[0].toNat:Int)==48)=false):=fun h=>by
      simp only [beq_eq_false_iff_ne,ne_eq]
      intro e
      exact hz ⟨h,by rw [head_byte hx1,show x[0]=48 from UInt8.toNat_inj.1 (by simpa using (by omega:x[0].toNat=48))]⟩
     have hbm:boundM x.data.toList=if mostN<numV x.data.toList then 3 else 0:=by unfold boundM;rw [hln.out,if_neg hz]
     rw [hbm] at hone
     have hcall:Hid (Calls Tryz.prog 249 #[.string x] wa fun e w'=>e=.returned (.bool (decide (mostN<numV x.data.toList)))/\wa=w'):=by
      rw [<-hab];exact rabove_any x wa (by unfold maxLen;omega)
     clear hab hbm hz hd
     by_cases h1x:1<x.size
     ·have b1:decide (1<(x.size:Int))=true:=by simp;omega
      have b2:=key.out h1x
      go_wp2_with fail
      refine hcall.out.mono ?_
      rintro y w3 ⟨rfl,rfl⟩
      by_cases hm:mostN<numV x.data.toList
      ·rw [dtZ hm]
       rw [if_pos hm,if_neg (by decide)] at hone
       clear hm
       go_wp2_with fail
       refine bodyPost_ret (results_row_tmp2 rfl _ _ w.heap.size 212 _ _ rfl (((hT.out.set_ 0 _).set_ 1 _).set_ 2 _) Tryz.underlying212 rfl (by kernel_rfl)) rfl ?_
       exact .bad (((hB.out.setCell leZ _).setCell leZ _).setCell leZ _) hone.out (by decide) rfl
      ·rw [dfZ hm]
       rw [if_neg hm,if_pos rfl] at hone
       clear hm
       go_wp2_with fail
       refine bodyPost_ret (results_row_tmp2 rfl _ _ w.heap.size 212 _ _ rfl (((hT.out.set_ 0 _).set_ 1 _).set_ 2 _) Tryz.underlying212 rfl (by kernel_rfl)) rfl ?_
       exact .ok (((hB.out.setCell leZ _).setCell leZ _).setCell leZ _) hone.out (by omega) (by omega) (by rw [show k+(j-k)=j by omega];rfl)
     ·have b1:decide (1<(x.size:Int))=false:=by simp;omega
      go_wp2_with fail
      refine hcall.out.mono ?_
      rintro y w3 ⟨rfl,rfl⟩
      by_cases hm:mostN<numV x.data.toList
      ·rw [dtZ hm]
       rw [if_pos hm,if_neg (by decide)] at hone
       clear hm
       go_wp2_with fail
       refine bodyPost_ret (results_row_tmp2 rfl _ _ w.heap.size 212 _ _ rfl (((hT.out.set_ 0 _).set_ 1 _).set_ 2 _) Tryz.underlying212 rfl (by kernel_rfl)) rfl ?_
       exact .bad (((hB.out.setCell leZ _).setCell leZ _).setCell leZ _) hone.out (by decide) rfl
      ·rw [dfZ hm]
       rw [if_neg hm,if_pos rfl] at hone
       clear hm
       go_wp2_with fail
       refine bodyPost_ret (results_row_tmp2 rfl _ _ w.heap.size 212 _ _ rfl (((hT.out.set_ 0 _).set_ 1 _).set_ 2 _) Tryz.underlying212 rfl (by kernel_rfl)) rfl ?_
       exact .ok (((hB.out.setCell leZ _).setCell leZ _).setCell leZ _) hone.out (by omega) (by omega) (by rw [show k+(j-k)=j by omega];rfl)
   | false =>
    clear f0 f1 f2 r0 r1 r2 rlt
    go_wp2_with fail
    refine (rwords_any wa).mono ?_
    rintro y w3 ⟨rfl,rfl⟩
    have hbl:Bz wa (wa.alloc (.cells wordsA 9)):=(Below.refl _ wa).alloc leZ _
    have hin:=hdZ (rin_any (some ⟨wa.heap.size,0,none⟩) 35 35 wordsL x.data.toList (wa.alloc (.cells wordsA 9)) (by unfold maxLen;omega) rfl (txts_blk (t:=9) (Blk.new wa 9 wordsA)))
    have hT:=kbY hT hbl
    have hB:=hdZ (hB.out.trans (hbl.mono hB.out.size))
    obtain ⟨wb,hwb⟩:=nmZ (wa.alloc (.cells wordsA 9))
    rw [hwb.out] at hin hT hB ⊢
    clear hbl hwb
    go_wp2_with fail
    refine hin.out.mono ?_
    rintro y w3 ⟨rfl,rfl⟩
    have f0:=hT.out.frozen 0
    have f1:=hT.out.frozen 1
    have f2:=hT.out.frozen 2
    obtain ⟨r0,r1,r2⟩:=cs3 hT.out
    have rlt:=hT.out.lt
    cases hwd:wordsL.contains x.data.toList with
    | true =>
     rw [rank_word hd hwd,if_pos rfl] at hone
     clear hin hd
     go_wp2_with fail
     refine bodyPost_ret (results_row_tmp2 rfl _ _ w.heap.size 212 _ _ rfl (((hT.out.set_ 0 _).set_ 1 _).set_ 2 _) Tryz.underlying212 rfl (by kernel_rfl)) rfl ?_
     exact .ok (((hB.out.setCell leZ _).setCell leZ _).setCell leZ _) hone.out (by omega) (by omega) (by rw [show k+(j-k)=j by omega];rfl)
    | false =>
     rw [rank_name hd hwd,hln.out] at hone
     clear hin hd
     by_cases h16:x.size<=16
     ·have b1:decide ((16:Int)<(x.size:Int))=false:=by simp;omega
      rw [if_pos h16,if_pos rfl] at hone
      go_wp2_with fail
      refine bodyPost_ret (results_row_tmp2 rfl _ _ w.heap.size 212 _ _ rfl (((hT.out.set_ 0 _).set_ 1 _).set_ 2 _) Tryz.underlying212 rfl (by kernel_rfl)) rfl ?_
      exact .ok (((hB.out.setCell leZ _).setCell leZ _).setCell leZ _) hone.out (by omega) (by omega) (by rw [show k+(j-k)=j by omega];rfl)
     ·have b1:decide ((16:Int)<(x.size:Int))=true:=by simp;omega
      rw [if_neg h16,if_neg (by decide)] at hone
      go_wp2_with fail
      refine bodyPost_ret (results_row_tmp2 rfl _ _ w.heap.size 212 _ _ rfl (((hT.out.set_ 0 _).set_ 1 _).set_ 2 _) Tryz.underlying212 rfl (by kernel_rfl)) rfl ?_
      exact .bad (((hB.out.setCell leZ _).setCell leZ _).setCell leZ _) hone.out (by decide) rfl
end Go.Proofs.YtdjmckjbibfecaaGreatDoor.Sh
namespace Go.Proofs
open Go
def Tryz.lays166_ren:Go.Shelf.Ren:=⟨fun | 166=>77 | 240=>128 | 276=>175 | n=>n,fun | 70=>113 | 9=>9 | 3=>3 | 75=>117 | 0=>0 | 72=>115 | 37=>33 | 4=>4 | 164=>192 | 80=>123 | 5=>5 | n=>n,fun | n=>n⟩
theorem Tryz.lays166:Go.Proofs.Lays.n166 Tryz.prog Tryz.lays166_ren:={
 mixed:=by kernel_rfl
 f166:=Tryz.func77.trans (congrArg some (by kernel_rfl))
 f240:=Tryz.func128.trans (congrArg some (by kernel_rfl))
 f276:=Tryz.func175.trans (congrArg some (by kernel_rfl))
 t0:=Tryz.underlying0
 a0:=Tryz.isAgg0
 z0:=Tryz.sizeOf0
 v0:=Tryz.zeroValue0
 t3:=Tryz.underlying3
 a3:=Tryz.isAgg3
 z3:=Tryz.sizeOf3
 v3:=Tryz.zeroValue3
 t4:=Tryz.underlying4
 a4:=Tryz.isAgg4
 z4:=Tryz.sizeOf4
 v4:=Tryz.zeroValue4
 t9:=Tryz.underlying9
 a9:=Tryz.isAgg9
 z9:=Tryz.sizeOf9
 v9:=Tryz.zeroValue9
 t20:=Tryz.underlying20
 a20:=Tryz.isAgg20
 z20:=Tryz.sizeOf20
 v20:=Tryz.zeroValue20
 t37:=Tryz.underlying33
 a37:=Tryz.isAgg33
 z37:=Tryz.sizeOf33
 v37:=Tryz.zeroValue33
 t70:=Tryz.underlying113
 a70:=Tryz.isAgg113
 z70:=Tryz.sizeOf113
 v70:=Tryz.zeroValue113
 t72:=Tryz.underlying115
 a72:=Tryz.isAgg115
 z72:=Tryz.sizeOf115
 v72:=Tryz.zeroValue115
 t75:=Tryz.underlying117
 a75:=Tryz.isAgg117
 z75:=Tryz.sizeOf117
 v75:=Tryz.zeroValue117
 t164:=Tryz.underlying192
 a164:=Tryz.isAgg192
 z164:=Tryz.sizeOf192
 v164:=Tryz.zeroValue192 }
theorem Tryz.Builder_Extra_166:Builder.Extra Tryz.prog Tryz.lays166_ren:={
 sizeBuilder:=by kernel_rfl
 liesBuilder:=by kernel_rfl
 t5:=Tryz.underlying5
 a5:=Tryz.isAgg5
 z5:=Tryz.sizeOf5
 v5:=Tryz.zeroValue5
 infoByte:=by kernel_rfl
 cellsByte:=by kernel_rfl
 sizeByte:=by kernel_rfl
 neB5:=by decide }
open Go.RowKit in
theorem Tryz.Builder_WriteString_k (B b:Nat) (bs:List Value) (s:ByteArray) (w:World) (h:Lib.IsBuilderF 115 5 B b bs w) (hlen:bs.length+s.size<=140737488355328) (hBw:B<=w.heap.size) :
  Calls Tryz.prog 77 #[.pointer (some ⟨b,0,none⟩),.string s] w fun e w'=>e=.returned (.tuple #[.int .i64 s.size,.nilIface])/\(Lib.BuilderAtF 115 5 B b (.pointer (some ⟨b,0,none⟩)) (bs++Lib.strCells s) w'/\Below B w w'/\Lib.OthersKept 5 (some b) w w'):=Any.Builder_WriteString_k Tryz.lays166 Tryz.Builder_Extra_166 B b bs s w h hlen hBw
end Go.Proofs
namespace Go.Proofs.YtdjmckjbibfecaaGreatDoor.Sh
open Go Go.RowKit Go.BigFrame Go.Maps
set_option maxRecDepth 100000
set_option maxHeartbeats 1600000
theorem run_all {s:ByteArray} {k:Nat} {r:Bool} {p:UInt8->Bool} (hk:k<s.size) (h:r=(s.data.toList.drop k).all p):r=(p s[k]&&(s.data.toList.drop (k+1)).all p):=by
 rw [h,drop_byte hk,List.all_cons]
theorem plain_nat (c:UInt8):plainB c=(!decide ((c.toNat:Int)<32)&&!decide (126<(c.toNat:Int))&&!((c.toNat:Int)==34)) :=
 byte_all (P:=fun c=>plainB c=(!decide ((c.toNat:Int)<32)&&!decide (126<(c.toNat:Int))&&!((c.toNat:Int)==34))) (by decide) c
theorem isText_any (s:ByteArray) (w:World) (hs:s.size<=maxLen):Calls Tryz.prog 181 #[.string s] w fun e w'=>e=.returned (.bool (textM s.data.toList))/\w=w':=by
 unfold maxLen at hs
 show Calls Tryz.prog 181 #[.string s] w fun e w'=>e=.returned (.bool (s.data.toList.all plainB))/\w=w'
 go_enter Tryz.func181,Tryz.ntmps181
 go_wp2_with fail
 go_loopg [3,6] s.size (fun gg _ i wr=>∃k:Nat,k<=s.size/\gg=s.size-k/\i=.int .i64 k/\w=wr/\Hid (s.data.toList.all plainB=(s.data.toList.drop k).all plainB))
 case atStart=>exact ⟨0,Nat.zero_le _,by simp,rfl,rfl,rfl⟩
 case round =>
  obtain ⟨k,hk,hg,rfl,rfl,hall⟩:=hrel
  have hg':=hdZ hg
  clear hg
  by_cases hlt:k<s.size
  ·have hst:=hdZ (run_all hlt hall.out)
   rw [plain_nat] at hst
   have i1:(k:Int)<(s.size:Int):=by omega
   have i2:(0:Int)<=(k:Int):=by omega
   have i3:decide ((k:Int)<(s.size:Int))=true:=by simp;omega
   cases h1:decide ((s[k].toNat:Int)<32)<;>cases h2:decide (126<(s[k].toNat:Int))<;>cases h3:((s[k].toNat:Int)==34)
   all_goals
    rw [h1,h2,h3] at hst
    go_wp2_with fail
    first
     | (go_roundg (s.size - (k + 1))
        case measure=>have:=hg'.out;omega
        case rel=>exact ⟨k+1,by omega,rfl,by go_num,rfl,by rw [hst.out];first | rfl | simp⟩)
     | (go_ret
        exact ⟨by rw [hst.out];rfl,rfl⟩)
  ·have hr:Hid (s.data.toList.all plainB=true):=by unfold Hid;rw [hall.out,List.drop_eq_nil_of_le (by simp;omega)];rfl
   have i3:decide ((k:Int)<(s.size:Int))=false:=by simp;omega
   go_wp2_with fail
   go_ret
   exact ⟨by rw [hr.out];first | done | rfl,rfl⟩
theorem take_all {p:UInt8->Bool}:∀{s:Txt},s.all p=true->s.takeWhile p=s
 | [],_=>rfl
 | c::r,h=>by
  rw [List.all_cons,Bool.and_eq_true] at h
  rw [List.takeWhile_cons,if_pos h.1,take_all h.2]
theorem small_blank {c:UInt8} (h:smallB c=true):blankB c=false:=small_not_blank h
theorem scan_mark {s:Txt} (h:markB s=true):scanT s=if (rankM s).2=0 then .ok [⟨(rankM s).1,0,s⟩] else .error (0,(rankM s).2):=by
 unfold markB at h
 simp only [Bool.and_eq_true,decide_eq_true_eq] at h
 obtain ⟨⟨h1,_⟩,h3⟩:=h
 cases s with
 | nil=>simp at h1
 | cons c r =>
  have hc:smallB c=true:=by rw [List.all_cons,Bool.and_eq_true] at h3;exact h3.1
  have hb:=small_blank hc
  have htw:=take_all h3
  unfold scanT
  rw [List.length_cons,scanM,List.dropWhile_cons,List.takeWhile_cons,hb]
  simp only [Bool.false_eq_true,if_false,reduceCtorEq,List.length_nil,Nat.add_zero,Nat.zero_add]
  rw [if_neg (by omega),oneM,if_pos hc,htw]
  by_cases h0:(rankM (c::r)).2=0
  ·rw [if_pos h0,if_pos h0]
   simp only
   rw [List.drop_length,scanM]
   simp
  ·rw [if_neg h0,if_neg h0]
theorem mark_name {s:Txt}:nameM s=(markB s&&decide ((rankM s).2=0)):=rfl
theorem rank_named (s:Txt) (p:Nat):namedB ⟨(rankM s).1,p,s⟩=true:=named_nm s p
theorem isName_any (s:ByteArray) (w:World) (hs:s.size<=maxLen) (he:Hid (Env w)):Calls Tryz.prog 180 #[.string s] w fun e w'=>e=.returned (.bool (nameM s.data.toList))/\Bz w w':=by
 have hcall:=hdZ (markName_any s w hs)
 have hsc:=hdZ (scan_any s w hs he)
 have hnm:=hdZ (mark_name (s:=s.data.toList))
 cases hm:markB s.data.toList with
 | false =>
  rw [hm] at hcall hnm
  clear hsc
  go_enter Tryz.func180,Tryz.ntmps180
  go_wp2_with (go_at_call 203;refine hcall.out.mono ?_;rintro e w1 ⟨rfl,rfl⟩)
  go_ret
  exact ⟨by rw [hnm.out];rfl,Below.refl _ _⟩
 | true =>
  have hsm:=hdZ (scan_mark hm)
  rw [hm] at hcall hnm
  go_enter Tryz.func180,Tryz.ntmps180
  go_wp2_with fail
  refine hcall.out.mono ?_
  rintro e w1 ⟨rfl,rfl⟩
  clear hm hcall
  go_wp2_with fail
  refine hsc.out.mono ?_
  rintro e w1 ⟨hB,hcase⟩
  have hB':=hdZ hB
  rcases hcase with ⟨l,v,h1,rfl,hl,hown⟩ | ⟨k,cd,h1,hcd,rfl⟩
  ·rw [hsm.out] at h1
   have h0:(rankM s.data.toList).2=0:=by
    by_cases h:(rankM s.data.toList).2=0
    ·exact h
    ·rw [if_neg h] at h1;cases h1
   rw [if_pos h0] at h1
   obtain rfl:=Except.ok.inj h1
   obtain ⟨p,c,rfl⟩:=own_slice hown
   obtain ⟨g,off,rfl,hg,c0,c1,c2⟩:=tok_own (pb:=0) hown (by omega) 0 _ rfl
   rw [Nat.zero_mul,Nat.add_zero] at c0 c1 c2
   have hnd:=hdZ (named_fits w1 w1 ⟨(rankM s.data.toList).1,0,s.data.toList⟩ (Below.refl _ _))
   rw [rank_named] at hnd
   have hn1:Hid (nameM s.data.toList=true):=by unfold Hid;rw [hnm.out,h0];rfl
   obtain ⟨rk,hrk⟩:=nmZ ((rankM s.data.toList).1)
   rw [hrk.out] at hnd c0
   clear hown h1 h0 hsm hsc hl hB hnm
   simp only at hnd c0 c1 c2
   go_wp2_with fail
   change Calls Tryz.prog 205 #[.agg #[.int .i64 rk,.int .i64 (0:Nat),.string ⟨s.data.toList.toArray⟩]] w1 _
   refine Calls.mono (hnd.out) ?_
   rintro e w2 ⟨rfl,hB2⟩
   go_wp2_with fail
   go_ret
   exact ⟨by rw [hn1.out];rfl,hB'.out.trans (hB2.mono hB'.out.size)⟩
  ·have h0:¬(rankM s.data.toList).2=0:=fun h=>by rw [hsm.out,if_pos h] at h1;cases h1
   have hn1:Hid (nameM s.data.toList=false):=by unfold Hid;rw [hnm.out,dfZ h0];rfl
   have b1:(cd==0)=false:=by simp [hcd]
   clear h1 h0 hsm hsc hB hnm
   go_wp2_with fail
   go_ret
   exact ⟨by rw [hn1.out];rfl,hB'.out⟩
theorem isPaper_any (p:Int) (w:World):Calls Tryz.prog 182 #[.int .i64 p] w fun e w'=>e=.returned (.bool (decide (0<=p)&&decide (p<6)))/\w=w':=by
 cases h1:decide (0<=p)<;>cases h2:decide (p<6)
 all_goals
  go_enter Tryz.func182,Tryz.ntmps182
  go_wp2_with fail
  go_ret
  exact ⟨rfl,rfl⟩
end Go.Proofs.YtdjmckjbibfecaaGreatDoor.Sh

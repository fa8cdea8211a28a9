import Derived.Test.YtdjmckjbibfecaaGreatDoorVf
namespace Go.Proofs.YtdjmckjbibfecaaGreatDoor
open Go Go.RowKit Go.BigFrame Go.Maps
set_option maxRecDepth 100000
set_option maxHeartbeats 3200000
theorem row_cell {w:World} {B n c:Nat} {e:TypeId} {A:Option Addr} {xs:List Value} {j:Nat} {x:Value} (h:w.ownsRow B e 1 (.slice A n c) n xs) (hx:xs[j]?=some x):∃g,A=some ⟨g,0,none⟩/\w.cell? ⟨g,j,none⟩=some x:=by
 have hj:=(gsZ.1 hx).1
 have:=h.1
 obtain ⟨g,c',e9,_,_⟩:=own_formS h (by omega)
 obtain rfl:A=some ⟨g,0,none⟩:=by injection e9
 refine ⟨g,rfl,?_⟩
 rw [h.cellAt j (by omega)];exact hx
theorem sameR_any (LL:List (List Nat)) (v v':Value) (B B':Nat) (w:World) (hle:LL.length<=5000) (hpl:Hid (∀p∈LL,p.length<=12)) (h1:Hid (CoresAt w B v LL)) (h2:Hid (CoresAt w B' v' LL)) :
  Calls Tryz.prog 15 #[v,v'] w fun e w'=>e=.returned (.bool true)/\Bz w w':=by
 obtain ⟨vs,hl1,hr1,hf1⟩:=h1.out
 obtain ⟨us,hl2,hr2,hf2⟩:=h2.out
 obtain ⟨nO,hnO⟩:∃n,LL.length=n:=⟨_,rfl⟩
 rw [hnO] at hl1 hl2 hr1 hr2 hle
 have hnO':=hdZ hnO
 obtain ⟨A1,c1,rfl⟩:=own_form hr1
 obtain ⟨A2,c2,rfl⟩:=own_form hr2
 have hr1':=hdZ hr1
 have hr2':=hdZ hr2
 have hf1':=hdZ hf1
 have hf2':=hdZ hf2
 have hl1':=hdZ hl1
 have hl2':=hdZ hl2
 clear h1 h2 hl1 hl2 hr1 hr2 hf1 hf2 hnO
 go_enter Tryz.func15,Tryz.ntmps15
 go_wp2_with fail
 go_loopw [5] (fun i wr=>∃j:Nat,j<=nO/\i=.int .i64 j/\Hid (Bz w wr)) (fun i _=>nO-(intOf i).toNat)
 case atStart=>exact ⟨0,Nat.zero_le _,rfl,hdZ (Below.refl _ _)⟩
 case round =>
  obtain ⟨j,hj,rfl,hB⟩:=hrel
  by_cases hlt:j<nO
  ·have hkm:decide (j<nO)=true:=dtZ hlt
   have j1:(j:Int)<(nO:Int):=by omega
   have j2:(0:Int)<=(j:Int):=by omega
   obtain ⟨p9,hp9⟩:∃x,LL[j]?=some x:=⟨_,gZ (by have:=hnO'.out;omega)⟩
   obtain ⟨x9,hx9⟩:∃x,vs[j]?=some x:=⟨_,gZ (by have:=hl1'.out;omega)⟩
   obtain ⟨y9,hy9⟩:∃x,us[j]?=some x:=⟨_,gZ (by have:=hl2'.out;omega)⟩
   have hrx:=hf1'.out j p9 x9 hp9 hx9
   have hry:=hf2'.out j p9 y9 hp9 hy9
   obtain ⟨xn,hxn⟩:∃n,p9.length=n:=⟨_,rfl⟩
   have hxn12:xn<=12:=by rw [<-hxn];exact hpl.out p9 (mgZ hp9)
   rw [hxn] at hrx hry
   obtain ⟨xA,xc,rfl⟩:=own_form hrx
   obtain ⟨yA,yc,rfl⟩:=own_form hry
   obtain ⟨g1,rfl,k1⟩:=row_cell (own_below hr1'.out hB.out) hx9
   obtain ⟨g2,rfl,k2⟩:=row_cell (own_below hr2'.out hB.out) hy9
   have hix:=hdZ (nats_cells hrx)
   have hiy:=hdZ (nats_cells hry)
   have hxn':=hdZ hxn
   have hx9':=hdZ hx9
   have hy9':=hdZ hy9
   clear hp9 hx9 hy9 hrx hry hxn
   go_wp2_with fail
   go_quiet (fail)
   go_wp2_with fail
   go_loopw [6] (fun i wr2=>∃kk:Nat,kk<=xn/\i=.int .i64 kk/\Hid (Bz w wr2)) (fun i _=>xn-(intOf i).toNat)
   case atStart=>exact ⟨0,Nat.zero_le _,rfl,hdZ (below_drewN hB.out _)⟩
   case round =>
    clear k1 k2 hB
    obtain ⟨kk,hkk,rfl,hB⟩:=hrel
    obtain ⟨g1',e1,k1⟩:=row_cell (own_below hr1'.out hB.out) hx9'.out
    obtain rfl:g1=g1':=by simpa using e1
    obtain ⟨g2',e2,k2⟩:=row_cell (own_below hr2'.out hB.out) hy9'.out
    obtain rfl:g2=g2':=by simpa using e2
    clear e1 e2
    by_cases hlt2:kk<xn
    ·have hkm2:decide (kk<xn)=true:=dtZ hlt2
     have i1:(kk:Int)<(xn:Int):=by omega
     have i2:(0:Int)<=(kk:Int):=by omega
     obtain ⟨a,ha⟩:∃a,p9[kk]?=some a:=⟨_,gZ (by have:=hxn'.out;omega)⟩
     obtain ⟨gx,ox,rfl,cx⟩:=(hix.out.below hB.out) kk a (by rw [List.getElem?_map,ha];rfl)
     obtain ⟨gy,oy,rfl,cy⟩:=(hiy.out.below hB.out) kk a (by rw [List.getElem?_map,ha];rfl)
     clear ha
     go_wp2_with fail
     go_quiet (fail)
     go_wp2_with fail
     go_roundw
     case rel=>exact ⟨kk+1,by omega,by go_num,hdZ (below_drewN hB.out _)⟩
     case measure=>simp [intOf];omega
    ·have hkm2:decide (kk<xn)=false:=dfZ hlt2
     go_wp2_with fail
     go_roundw
     case rel=>exact ⟨j+1,by omega,by go_num,hB⟩
     case measure=>simp [intOf];omega
  ·have hkm:decide (j<nO)=false:=dfZ hlt
   go_wp2_with fail
   go_ret
   exact ⟨rfl,hB.out⟩
def papz (b:Option Addr) (fc:Nat):Pap:=⟨4,⟨#[]⟩,⟨#[]⟩,b,fc,[⟨⟨#[97]⟩,⟨#[122]⟩⟩]⟩
def PapZ:Ty:=fun v W=>∃g b fc,v=.slice (some ⟨g,0,none⟩) 1 1/\DocsAt W (some ⟨g,0,none⟩) [papz b fc]
theorem mono_PapZ:MonoT PapZ:=fun _ _ _ ⟨g,b,fc,e,h⟩ hb=>⟨g,b,fc,e,h.below hb⟩
def CorT (L:List (List Nat)):Ty:=fun v W=>∃B,CoresAt W B v L
theorem mono_CorT (L:List (List Nat)):MonoT (CorT L):=fun _ _ _ ⟨B,h⟩ hb=>⟨B,h.on hb⟩
def RowT (l:List Nat):Ty:=fun v W=>∃g,v=.slice (some ⟨g,0,none⟩) l.length l.length/\Blk W g 3 (natsV l).toArray
theorem mono_RowT (l:List Nat):MonoT (RowT l):=fun _ _ _ ⟨g,e,h⟩ hb=>⟨g,e,h.below hb h.lt⟩
theorem own_of_blk {w:World} {g n:Nat} {e:TypeId} {cs:Array Value} (h:Blk w g e cs) (hs:cs.size=n) (hn:n<=maxLen):w.ownsRow 0 e 1 (.slice (some ⟨g,0,none⟩) n n) n cs.toList :=
 ⟨by simp [hs],.inr ⟨g,n,cs,rfl,Nat.zero_le _,h,Nat.le_refl _,hn,by omega,List.take_of_length_le (by simp [hs])⟩⟩
theorem cor_one {W:World} {v:Value} {l:List Nat} (h:RowT l v W) (hl:l.length<=12):CorT [l] (.slice (some ⟨W.heap.size,0,none⟩) 1 1) (W.alloc (.cells #[v] 35)):=by
 obtain ⟨g,rfl,hb⟩:=h
 have hbl:=hb.alloc (.cells #[.slice (some ⟨g,0,none⟩) l.length l.length] 35)
 refine ⟨0,[.slice (some ⟨g,0,none⟩) l.length l.length],rfl,own_mono (own_fresh W 35 1 1 #[.slice (some ⟨g,0,none⟩) l.length l.length] rfl (by unfold maxLen;omega)) (Nat.zero_le _),fun i p x hi hx=>?_⟩
 have h0:i=0:=by have:=(gsZ.1 hi).1;simpa using this
 subst h0
 simp at hi hx
 subst hi;subst hx
 have:=own_of_blk (n:=l.length) hbl (by simp [natsV]) (by unfold maxLen;omega)
 simpa using this
theorem paper_any (w:World):Calls Tryz.prog 36 #[.string ⟨#[122]⟩] w fun e w'=>∃v,e=.returned v/\PapZ v w'/\Bz w w':=by
 obtain ⟨w1,hw1,hb1,hF1⟩:=newZ w 108 #[.string ⟨#[97]⟩,.string ⟨#[122]⟩]
 obtain ⟨w2,hw2⟩:=nmZ (w1.alloc (.cells #[.int .i64 4,.string ⟨#[]⟩,.string ⟨#[]⟩,.slice (some ⟨w.heap.size,0,none⟩) 1 1] 61))
 have hsz:w1.heap.size=w.heap.size+1:=by rw [<-hw1.out];simp
 have hb2:Hid (Bz w1 w2):=by rw [<-hw2.out];exact hdZ ((Below.refl _ w1).alloc leZ _)
 have hD2:Hid (Blk w2 (w.heap.size+1) 61 #[.int .i64 4,.string ⟨#[]⟩,.string ⟨#[]⟩,.slice (some ⟨w.heap.size,0,none⟩) 1 1]):=by rw [<-hw2.out,<-hsz];exact hdZ (Blk.new _ _ _)
 have hF2:=kbZ hF1 hb2
 have hB2:=btZ hb1 hb2
 go_enter Tryz.func36,Tryz.ntmps36
 go_wp2_with (first | rw [hw1.out,hw2.out] | rw [hw1.out] | rw [hw2.out])
 go_ret
 refine ⟨_,rfl,⟨w.heap.size+1,some ⟨w.heap.size,0,none⟩,1,rfl,fun k x hk=>?_⟩,hB2.out⟩
 have h0:k=0:=by have:=(gsZ.1 hk).1;simpa using this
 subst h0
 simp at hk
 subst hk
 refine ⟨w.heap.size+1,0,rfl,hD2.out.cell 0,hD2.out.cell 1,hD2.out.cell 2,hD2.out.cell 3,?_,by simp [papz,maxLen],by simp [papz]⟩
 intro k f hf
 have h0:k=0:=by have:=(gsZ.1 hf).1;simpa [papz] using this
 subst h0
 simp [papz] at hf
 subst hf
 first
  | exact ⟨_,_,rfl,hF2.out.cell 0,hF2.out.cell 1⟩
  | exact ⟨_,_,rfl,by simpa using hF2.out.cell 0,by simpa using hF2.out.cell 1⟩
def treeA (A1:Option Addr):Tree:=.mk 1 0 ⟨#[]⟩ ⟨#[]⟩ 0 A1 2 [.mk 3 0 ⟨#[97]⟩ ⟨#[120]⟩ 0 none 0 [],.mk 3 0 ⟨#[98]⟩ ⟨#[121]⟩ 0 none 0 []]
def treeN (A2:Option Addr):Tree:=.mk 2 0 ⟨#[]⟩ ⟨#[]⟩ 0 A2 1 [.mk 3 0 ⟨#[97]⟩ ⟨#[122]⟩ 0 none 0 []]
theorem cores_A (b:Option Addr) (fc:Nat) (A1:Option Addr):coresE [papz b fc] (treeA A1) 0=[[0,1]]:=by kernel_rfl
theorem cores_N (b:Option Addr) (fc:Nat) (A2:Option Addr):coresE [papz b fc] (treeN A2) 0=[[0]]:=by kernel_rfl
theorem room_z {w:World} {g:Nat} {b:Option Addr} {fc:Nat} (he:Env w) (hd:DocsAt w (some ⟨g,0,none⟩) [papz b fc]):Room w (some ⟨g,0,none⟩) 1 [papz b fc] :=
 ⟨rfl,by omega,hd,he,fun d hd f hf=>by
  obtain rfl:=List.mem_singleton.1 hd
  obtain rfl:=List.mem_singleton.1 hf
  exact Nat.le_of_lt (by decide)⟩
theorem call_A (W:World) (v:Value) (A1:Option Addr) (he:Env W) (hT:TreeAt W (treeA A1)) (hp:PapZ v W):Calls Tryz.prog 13 #[.agg (treeA A1).cells,v,.int .i64 0] W fun e w'=>∃u,e=.returned u/\CorT [[0,1]] u w'/\Bz W w':=by
 obtain ⟨g,b,fc,rfl,hd⟩:=hp
 refine (cores_any (treeA A1) (some ⟨g,0,none⟩) 1 1 [papz b fc] 0 W (hdZ hT) (hdZ (room_z he hd)) (by show 2<=60;omega)).mono ?_
 rintro e w' ⟨u,rfl,hc,hb⟩
 rw [cores_A] at hc
 exact ⟨u,rfl,⟨_,hc⟩,hb⟩
theorem call_N (W:World) (v:Value) (A2:Option Addr) (he:Env W) (hT:TreeAt W (treeN A2)) (hp:PapZ v W):Calls Tryz.prog 13 #[.agg (treeN A2).cells,v,.int .i64 0] W fun e w'=>∃u,e=.returned u/\CorT [[0]] u w'/\Bz W w':=by
 obtain ⟨g,b,fc,rfl,hd⟩:=hp
 refine (cores_any (treeN A2) (some ⟨g,0,none⟩) 1 1 [papz b fc] 0 W (hdZ hT) (hdZ (room_z he hd)) (by show 1<=60;omega)).mono ?_
 rintro e w' ⟨u,rfl,hc,hb⟩
 rw [cores_N] at hc
 exact ⟨u,rfl,⟨_,hc⟩,hb⟩
theorem call_S (W:World) (v u:Value) (L:List (List Nat)) (hL:L.length<=5000) (hp:∀p∈L,p.length<=12) (h1:CorT L v W) (h2:CorT L u W):Calls Tryz.prog 15 #[v,u] W fun e w'=>e=.returned (.bool true)/\Bz W w':=by
 obtain ⟨B,h1⟩:=h1
 obtain ⟨B',h2⟩:=h2
 exact sameR_any L v u B B' W hL (hdZ hp) (hdZ h1) (hdZ h2)
theorem held_valueg {P:Program} {ops:Array Oper} {Q:Exit->Act->World->Prop} {o:Oper} {a:Act} {w w':World} {i:Nat} {K:Act->World->Prop} {v:Value} (hi:ops[i]?=some o) (hw:Region.wanted o (yielded ops a.tmps)=true) (hop:(execOp a.eval o).run P w=.ok (.value v) w') (h:K (a.put o.dst v) w'):wpOp P ops Q i K a w:=by
 unfold wpOp
 simp only [hi]
 rw [if_pos hw]
 unfold Oper.wp
 rw [hop,Oper.upon_value]
 exact .inl h
theorem yield_of {ops:Array Oper} {tmps:Array Value} {j d:Nat} {o:Oper} {b:Bool} (ho:ops[j]?=some o) (hd:o.dst=some d) (h:tmps.getD d undef=.bool b):yielded ops tmps j=some b:=by
 unfold yielded
 rw [ho]
 simp only [Option.bind_some,hd]
 have:tmps[d]?=some (.bool b):=by
  rcases Nat.lt_or_ge d tmps.size with h1 | h1
  ·simp [h1] at h ⊢;exact h
  ·simp [Array.getElem?_eq_none h1,undef] at h
 rw [this]
theorem wanted_of {ops:Array Oper} {tmps:Array Value} {j d:Nat} {o oj:Oper} {b:Bool} (hg:o.guard=some (j,b)) (ho:ops[j]?=some oj) (hd:oj.dst=some d) (h:tmps.getD d undef=.bool b):Region.wanted o (yielded ops tmps)=true:=by
 have:=yield_of ho hd h
 simp [Region.wanted,hg,this]
theorem cor_form {L:List (List Nat)} {v:Value} {W:World} (h:CorT L v W):∃A n c,v=.slice A n c:=by
 obtain ⟨B,vs,_,h2,_⟩:=h
 obtain ⟨A,c,e⟩:=own_form h2
 exact ⟨A,_,c,e⟩
def tyA (A1:Option Addr):List Ty:=[Is (.agg (treeA A1).cells),(PapZ),(CorT [[0,1]]),(RowT [0,1]),(CorT [[0,1]]),Is (.bool true)]
theorem tyA_mono (A1:Option Addr):MonoL (tyA A1):=⟨mono_is _,mono_PapZ,mono_CorT _,mono_RowT _,mono_CorT _,mono_is _,trivial⟩
def tyB (A2:Option Addr):List Ty:=[Is (.agg (treeN A2).cells),(PapZ),(CorT [[0]]),(RowT [0]),(CorT [[0]]),Is (.bool true)]
theorem tyB_mono (A2:Option Addr):MonoL (tyB A2):=⟨mono_is _,mono_PapZ,mono_CorT _,mono_RowT _,mono_CorT _,mono_is _,trivial⟩
theorem awake_any (w:World) (he:Hid (Env w)):Calls Tryz.prog 11 #[] w fun e w'=>e=.returned (.bool true)/\Bz w w':=by
 obtain ⟨w1,hw1⟩:∃X,Hid ((((w.alloc (.cells #[.int .i64 3,.int .i64 0,.string ⟨#[97]⟩,.string ⟨#[120]⟩,.int .i64 0,.slice none 0 0,.int .i64 3,.int .i64 0,.string ⟨#[98]⟩,.string ⟨#[121]⟩,.int .i64 0,.slice none 0 0] 24)).alloc (.cells #[.int .i64 1,.int .i64 0,.string ⟨#[]⟩,.string ⟨#[]⟩,.int .i64 0,.slice (some ⟨w.heap.size,0,none⟩) 2 2] 24)).alloc (.cells #[.int .i64 3,.int .i64 0,.string ⟨#[97]⟩,.string ⟨#[122]⟩,.int .i64 0,.slice none 0 0] 24)).alloc (.cells #[.int .i64 2,.int .i64 0,.string ⟨#[]⟩,.string ⟨#[]⟩,.int .i64 0,.slice (some ⟨w.heap.size+2,0,none⟩) 1 1] 24)=X):=⟨_,rfl⟩
 have hsz1:(w.alloc (.cells #[.int .i64 3,.int .i64 0,.string ⟨#[97]⟩,.string ⟨#[120]⟩,.int .i64 0,.slice none 0 0,.int .i64 3,.int .i64 0,.string ⟨#[98]⟩,.string ⟨#[121]⟩,.int .i64 0,.slice none 0 0] 24)).heap.size=w.heap.size+1:=by simp
 have hsz2:((w.alloc (.cells #[.int .i64 3,.int .i64 0,.string ⟨#[97]⟩,.string ⟨#[120]⟩,.int .i64 0,.slice none 0 0,.int .i64 3,.int .i64 0,.string ⟨#[98]⟩,.string ⟨#[121]⟩,.int .i64 0,.slice none 0 0] 24)).alloc (.cells #[.int .i64 1,.int .i64 0,.string ⟨#[]⟩,.string ⟨#[]⟩,.int .i64 0,.slice (some ⟨w.heap.size,0,none⟩) 2 2] 24)).heap.size=w.heap.size+2:=by simp
 have hsz3:(((w.alloc (.cells #[.int .i64 3,.int .i64 0,.string ⟨#[97]⟩,.string ⟨#[120]⟩,.int .i64 0,.slice none 0 0,.int .i64 3,.int .i64 0,.string ⟨#[98]⟩,.string ⟨#[121]⟩,.int .i64 0,.slice none 0 0] 24)).alloc (.cells #[.int .i64 1,.int .i64 0,.string ⟨#[]⟩,.string ⟨#[]⟩,.int .i64 0,.slice (some ⟨w.heap.size,0,none⟩) 2 2] 24)).alloc (.cells #[.int .i64 3,.int .i64 0,.string ⟨#[97]⟩,.string ⟨#[122]⟩,.int .i64 0,.slice none 0 0] 24)).heap.size=w.heap.size+3:=by simp
 have k0:Hid (Blk w1 w.heap.size 24 #[.int .i64 3,.int .i64 0,.string ⟨#[97]⟩,.string ⟨#[120]⟩,.int .i64 0,.slice none 0 0,.int .i64 3,.int .i64 0,.string ⟨#[98]⟩,.string ⟨#[121]⟩,.int .i64 0,.slice none 0 0]):=by rw [<-hw1.out];exact hdZ ((((Blk.new _ _ _).alloc _).alloc _).alloc _)
 have k1:Hid (Blk w1 (w.heap.size+1) 24 (treeA (some ⟨w.heap.size,0,none⟩)).cells):=by rw [<-hw1.out,<-hsz1];exact hdZ (((Blk.new _ _ _).alloc _).alloc _)
 have k2:Hid (Blk w1 (w.heap.size+2) 24 #[.int .i64 3,.int .i64 0,.string ⟨#[97]⟩,.string ⟨#[122]⟩,.int .i64 0,.slice none 0 0]):=by rw [<-hw1.out,<-hsz2];exact hdZ ((Blk.new _ _ _).alloc _)
 have k3:Hid (Blk w1 (w.heap.size+3) 24 (treeN (some ⟨w.heap.size+2,0,none⟩)).cells):=by rw [<-hw1.out,<-hsz3];exact hdZ (Blk.new _ _ _)
 have hB1:Hid (Bz w w1):=by
  rw [<-hw1.out]
  have h1:=(Below.refl w.heap.size w).alloc leZ (.cells #[.int .i64 3,.int .i64 0,.string ⟨#[97]⟩,.string ⟨#[120]⟩,.int .i64 0,.slice none 0 0,.int .i64 3,.int .i64 0,.string ⟨#[98]⟩,.string ⟨#[121]⟩,.int .i64 0,.slice none 0 0] 24)
  have h2:=h1.alloc h1.size (.cells #[.int .i64 1,.int .i64 0,.string ⟨#[]⟩,.string ⟨#[]⟩,.int .i64 0,.slice (some ⟨w.heap.size,0,none⟩) 2 2] 24)
  have h3:=h2.alloc h2.size (.cells #[.int .i64 3,.int .i64 0,.string ⟨#[97]⟩,.string ⟨#[122]⟩,.int .i64 0,.slice none 0 0] 24)
  exact h3.alloc h3.size _
 have hE1:Hid (Env w1):=hdZ (he.out.below hB1.out)
 have tr1:Hid (TreeAt w1 (treeA (some ⟨w.heap.size,0,none⟩))):=by
  unfold Hid treeA
  rw [TreeAt]
  refine ⟨?_,by unfold maxLen;simp⟩
  rw [RowsAt,RowsAt,RowsAt]
  exact ⟨⟨w.heap.size,0,rfl,k0.out.cell 0,k0.out.cell 1,k0.out.cell 2,k0.out.cell 3,k0.out.cell 4,k0.out.cell 5⟩,by rw [TreeAt,RowsAt];simp,⟨w.heap.size,0,rfl,k0.out.cell 6,k0.out.cell 7,k0.out.cell 8,k0.out.cell 9,k0.out.cell 10,k0.out.cell 11⟩,by rw [TreeAt,RowsAt];simp,trivial⟩
 have tr2:Hid (TreeAt w1 (treeN (some ⟨w.heap.size+2,0,none⟩))):=by
  unfold Hid treeN
  rw [TreeAt]
  refine ⟨?_,by unfold maxLen;simp⟩
  rw [RowsAt,RowsAt]
  exact ⟨⟨w.heap.size+2,0,rfl,k2.out.cell 0,k2.out.cell 1,k2.out.cell 2,k2.out.cell 3,k2.out.cell 4,k2.out.cell 5⟩,by rw [TreeAt,RowsAt];simp,trivial⟩
 have hdr:Bz w1 w1.drew:=(Below.refl _ _).drew
 obtain ⟨A1,hA1⟩:∃A:Option Addr,some ⟨w.heap.size,0,none⟩=A:=⟨_,rfl⟩
 obtain ⟨A2,hA2⟩:∃A:Option Addr,some ⟨w.heap.size+2,0,none⟩=A:=⟨_,rfl⟩
 rw [hA1] at k1 tr1
 rw [hA2] at k3 tr2
 have hE:=hdZ (hE1.out.below hdr)
 have tr1':=hdZ (tr1.out.below hdr)
 have tr2':=hdZ (tr2.out.below hdr)
 have k1':=hdZ (k1.out.below hdr k1.out.lt)
 have k3':=hdZ (k3.out.below hdr k3.out.lt)
 have hBd:Hid (Bz w w1.drew):=hB1.out.drew
 clear hsz1 hsz2 hsz3 k0 k2 k1 k3 tr1 tr2 hE1 hB1 hdr hA1 hA2
 go_enter Tryz.func11,Tryz.ntmps11
 go_wp2_with (rw [hw1.out])
 refine wp_region_any (by kernel_rfl) ?_
 show wpAny _ _ _ _ _ _ _ w1.drew
 refine wpAny_body 24 (List.range 6) [6,7,8,9,10,11,12,13,14] 6 [(0,some 10),(1,some 11),(2,some 12),(3,some 13),(4,some 14),(5,some 15)] (Array.replicate 15 false) (Array.replicate 6 true++Array.replicate 9 false) (fun a b=>Bz a b) (fun i=>(tyA A1).getD i (fun _ _=>True)) (by kernel_rfl) rfl rfl (Below.refl _ _) (fun _ _ _ h k=>h.trans (k.mono h.size)) (fun i v W W' h hb=>mono_at (tyA_mono A1) i h hb) ?step ?fin _ rfl
 case step =>
  refine allB_cons (i:=0) rfl (fun a W hl K hK=>?_) ?_
  ·have tp:a.tmps.getD 1 undef=.pointer (some ⟨w.heap.size+1,0,none⟩):=hl.old 1 (by kernel_rfl)
   have hbX:Blk W (w.heap.size+1) 24 (treeA A1).cells:=k1'.out.below hl.world k1'.out.lt
   exact held_value (v:=.agg (treeA A1).cells) (w':=W) rfl rfl (run_ldb rfl tp hbX Tryz.underlying24 rfl (by kernel_rfl)) (hK _ _ (Below.refl _ _) rfl)
  refine allB_cons (i:=1) rfl (fun a W hl K hK=>?_) ?_
  ·refine held_call (f:=36) (args:=#[.string ⟨#[122]⟩]) (w:=W) rfl rfl (by go_simp) ?_
   refine (paper_any W).mono ?_
   rintro e w' ⟨v,rfl,hp,hb⟩
   exact ⟨v,rfl,hK _ _ hb hp⟩
  refine allB_cons (i:=2) rfl (fun a W hl K hK=>?_) ?_
  ·have t0:Is (.agg (treeA A1).cells) (a.tmps.getD 10 undef) W:=hl.at_ 0 10 (by kernel_rfl)
   unfold Is at t0
   obtain ⟨g,b,fc,e1,hd⟩:PapZ (a.tmps.getD 11 undef) W:=hl.at_ 1 11 (by kernel_rfl)
   refine held_call (f:=13) (args:=#[.agg (treeA A1).cells,.slice (some ⟨g,0,none⟩) 1 1,.int .i64 0]) (w:=W) rfl rfl (by go_simp) ?_
   refine (call_A W _ _ (hE.out.below hl.world) (tr1'.out.below hl.world) ⟨g,b,fc,rfl,hd⟩).mono ?_
   rintro e w' ⟨v,rfl,hc9,hb⟩
   exact ⟨v,rfl,hK _ _ hb hc9⟩
  refine allB_cons (i:=3) rfl (fun a W hl K hK=>?_) ?_
  ·exact held_value (v:=.slice (some ⟨W.heap.size,0,none⟩) 2 2) (w':=W.alloc (.cells #[.int .i64 0,.int .i64 1] 3)) rfl rfl (by go_simp) (hK _ _ ((Below.refl _ W).alloc leZ _) ⟨_,rfl,Blk.new _ _ _⟩)
  refine allB_cons (i:=4) rfl (fun a W hl K hK=>?_) ?_
  ·obtain ⟨g,e3,hb⟩:RowT [0,1] (a.tmps.getD 13 undef) W:=hl.at_ 3 13 (by kernel_rfl)
   simp only [List.length_cons,List.length_nil,Nat.zero_add,Array.getD_eq_getD_getElem?] at e3
   exact held_value (v:=.slice (some ⟨W.heap.size,0,none⟩) 1 1) (w':=W.alloc (.cells #[.slice (some ⟨g,0,none⟩) 2 2] 35)) rfl rfl (by go_simp) (hK _ _ ((Below.refl _ W).alloc leZ _) (cor_one (l:=[0,1]) ⟨g,rfl,hb⟩ (by decide)))
  refine allB_cons (i:=5) rfl (fun a W hl K hK=>?_) ?_
  ·have c2:CorT [[0,1]] (a.tmps.getD 12 undef) W:=hl.at_ 2 12 (by kernel_rfl)
   have c4:CorT [[0,1]] (a.tmps.getD 14 undef) W:=hl.at_ 4 14 (by kernel_rfl)
   obtain ⟨Aa,na,ca,ea⟩:=cor_form c2
   obtain ⟨Ab,nb,cb,eb⟩:=cor_form c4
   rw [ea] at c2
   rw [eb] at c4
   refine held_call (f:=15) (args:=#[.slice Aa na ca,.slice Ab nb cb]) (w:=W) rfl rfl (by go_simp) ?_
   refine (call_S W _ _ [[0,1]] (by decide) (by decide) c2 c4).mono ?_
   rintro e w' ⟨rfl,hb⟩
   exact ⟨_,rfl,hK _ _ hb rfl⟩
  exact allB_nil
 case fin =>
  intro vs W hR hG9
  have hv0:vs 0=.agg (treeA A1).cells:=hG9 0 (by decide)
  obtain ⟨_,_,_,hv1,_⟩:PapZ (vs 1) W:=hG9 1 (by decide)
  obtain ⟨_,_,_,hv2⟩:=cor_form (show CorT [[0,1]] (vs 2) W from hG9 2 (by decide))
  obtain ⟨_,hv3,_⟩:RowT [0,1] (vs 3) W:=hG9 3 (by decide)
  obtain ⟨_,_,_,hv4⟩:=cor_form (show CorT [[0,1]] (vs 4) W from hG9 4 (by decide))
  have hv5:vs 5=.bool true:=hG9 5 (by decide)
  have hE8:=hdZ (hE.out.below hR)
  have tr8:=hdZ (tr2'.out.below hR)
  have k8:=hdZ (k3'.out.below hR k3'.out.lt)
  have hB8:=btY hBd hR
  clear hG9 hR hE tr1' tr2' k1' k3' hBd
  simp only [putD,Act.put,List.setIfInBounds_toArray,List.set_cons_zero,List.set_cons_succ,hv0,hv1,hv2,hv3,hv4,hv5]
  clear hv0 hv1 hv2 hv3 hv4 hv5
  refine wpAny_next 6 (by kernel_rfl) ?_
  refine held_value (v:=.bool true) (w':=W) rfl rfl (by go_simp) ?_
  simp only [Act.put,List.getElem_toArray,List.getElem_cons_zero,List.getElem_cons_succ,List.setIfInBounds_toArray,List.set_cons_zero,List.set_cons_succ]
  have hE:=hE8
  clear hE8
  refine wpAny_body 24 [7,8,9,10,11,12] [13,14] 13 [(7,some 17),(8,some 18),(9,some 19),(10,some 20),(11,some 21),(12,some 22)] (Array.replicate 7 true++Array.replicate 8 false) (Array.replicate 13 true++Array.replicate 2 false) (fun a b=>Bz a b) (fun i=>(tyB A2).getD (i-7) (fun _ _=>True)) (by kernel_rfl) rfl rfl (Below.refl _ _) (fun _ _ _ h k=>h.trans (k.mono h.size)) (fun i v W W' h hb=>mono_at (tyB_mono A2) (i-7) h hb) ?step2 ?fin2 _ rfl
  case step2 =>
   refine allB_cons (i:=7) rfl (fun a W hl K hK=>?_) ?_
   ·have h16:a.tmps.getD 16 undef=.bool true:=hl.old 16 (by kernel_rfl)
    have tp:a.tmps.getD 2 undef=.pointer (some ⟨w.heap.size+3,0,none⟩):=hl.old 2 (by kernel_rfl)
    have hbX:Blk W (w.heap.size+3) 24 (treeN A2).cells:=k8.out.below hl.world k8.out.lt
    exact held_valueg (v:=.agg (treeN A2).cells) (w':=W) rfl (wanted_of (j:=6) (d:=16) (b:=true) rfl rfl rfl h16) (run_ldb rfl tp hbX Tryz.underlying24 rfl (by kernel_rfl)) (hK _ _ (Below.refl _ _) rfl)
   refine allB_cons (i:=8) rfl (fun a W hl K hK=>?_) ?_
   ·have h16:a.tmps.getD 16 undef=.bool true:=hl.old 16 (by kernel_rfl)
    refine held_callg (f:=36) (args:=#[.string ⟨#[122]⟩]) (w:=W) rfl (wanted_of (j:=6) (d:=16) (b:=true) rfl rfl rfl h16) (by go_simp) ?_
    refine (paper_any W).mono ?_
    rintro e w' ⟨v,rfl,hp,hb⟩
    exact ⟨v,rfl,hK _ _ hb hp⟩
   refine allB_cons (i:=9) rfl (fun a W hl K hK=>?_) ?_
   ·have h16:a.tmps.getD 16 undef=.bool true:=hl.old 16 (by kernel_rfl)
    have t0:Is (.agg (treeN A2).cells) (a.tmps.getD 17 undef) W:=hl.at_ 7 17 (by kernel_rfl)
    unfold Is at t0
    obtain ⟨g,b,fc,e1,hd⟩:PapZ (a.tmps.getD 18 undef) W:=hl.at_ 8 18 (by kernel_rfl)
    refine held_callg (f:=13) (args:=#[.agg (treeN A2).cells,.slice (some ⟨g,0,none⟩) 1 1,.int .i64 0]) (w:=W) rfl (wanted_of (j:=6) (d:=16) (b:=true) rfl rfl rfl h16) (by go_simp) ?_
    refine (call_N W _ _ (hE.out.below hl.world) (tr8.out.below hl.world) ⟨g,b,fc,rfl,hd⟩).mono ?_
    rintro e w' ⟨v,rfl,hc9,hb⟩
    exact ⟨v,rfl,hK _ _ hb hc9⟩
   refine allB_cons (i:=10) rfl (fun a W hl K hK=>?_) ?_
   ·have h16:a.tmps.getD 16 undef=.bool true:=hl.old 16 (by kernel_rfl)
    exact held_valueg (v:=.slice (some ⟨W.heap.size,0,none⟩) 1 1) (w':=W.alloc (.cells #[.int .i64 0] 3)) rfl (wanted_of (j:=6) (d:=16) (b:=true) rfl rfl rfl h16) (by go_simp) (hK _ _ ((Below.refl _ W).alloc leZ _) ⟨_,rfl,Blk.new _ _ _⟩)
   refine allB_cons (i:=11) rfl (fun a W hl K hK=>?_) ?_
   ·have h16:a.tmps.getD 16 undef=.bool true:=hl.old 16 (by kernel_rfl)
    obtain ⟨g,e3,hb⟩:RowT [0] (a.tmps.getD 20 undef) W:=hl.at_ 10 20 (by kernel_rfl)
    simp only [List.length_cons,List.length_nil,Nat.zero_add,Array.getD_eq_getD_getElem?] at e3
    exact held_valueg (v:=.slice (some ⟨W.heap.size,0,none⟩) 1 1) (w':=W.alloc (.cells #[.slice (some ⟨g,0,none⟩) 1 1] 35)) rfl (wanted_of (j:=6) (d:=16) (b:=true) rfl rfl rfl h16) (by go_simp) (hK _ _ ((Below.refl _ W).alloc leZ _) (cor_one (l:=[0]) ⟨g,rfl,hb⟩ (by decide)))
   refine allB_cons (i:=12) rfl (fun a W hl K hK=>?_) ?_
   ·have h16:a.tmps.getD 16 undef=.bool true:=hl.old 16 (by kernel_rfl)
    have c2:CorT [[0]] (a.tmps.getD 19 undef) W:=hl.at_ 9 19 (by kernel_rfl)
    have c4:CorT [[0]] (a.tmps.getD 21 undef) W:=hl.at_ 11 21 (by kernel_rfl)
    obtain ⟨Aa,na,ca,ea⟩:=cor_form c2
    obtain ⟨Ab,nb,cb,eb⟩:=cor_form c4
    rw [ea] at c2
    rw [eb] at c4
    refine held_callg (f:=15) (args:=#[.slice Aa na ca,.slice Ab nb cb]) (w:=W) rfl (wanted_of (j:=6) (d:=16) (b:=true) rfl rfl rfl h16) (by go_simp) ?_
    refine (call_S W _ _ [[0]] (by decide) (by decide) c2 c4).mono ?_
    rintro e w' ⟨rfl,hb⟩
    exact ⟨_,rfl,hK _ _ hb rfl⟩
   exact allB_nil
  case fin2 =>
   intro vs W9 hR hG9
   have hv5:vs 12=.bool true:=hG9 12 (by decide)
   have hB9:=btY hB8 hR
   clear hG9 hR
   simp only [putD,Act.put,List.setIfInBounds_toArray,List.set_cons_zero,List.set_cons_succ,hv5]
   clear hv5
   refine wpAny_next 13 (by kernel_rfl) ?_
   refine held_value (v:=.bool true) (w':=W9) rfl rfl (by go_simp) ?_
   simp only [Act.put,List.getElem_toArray,List.getElem_cons_zero,List.getElem_cons_succ,List.setIfInBounds_toArray,List.set_cons_zero,List.set_cons_succ]
   refine wpAny_next 14 (by kernel_rfl) ?_
   refine held_value (v:=.bool true) (w':=W9) rfl rfl (by go_simp) ?_
   simp only [Act.put,List.getElem_toArray,List.getElem_cons_zero,List.getElem_cons_succ,List.setIfInBounds_toArray,List.set_cons_zero]
   refine wpAny_done (by kernel_rfl) ?_ _
   go_wp2_with fail
   go_ret
   exact ⟨rfl,hB9.out⟩
end Go.Proofs.YtdjmckjbibfecaaGreatDoor

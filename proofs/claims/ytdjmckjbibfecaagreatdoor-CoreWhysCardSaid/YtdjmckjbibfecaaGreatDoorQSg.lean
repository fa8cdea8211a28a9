import Derived.Shelf.Abstract
import Derived.Deep.RegionWith
import Derived.Test.YtdjmckjbibfecaaGreatDoorQE
import Derived.Test.YtdjmckjbibfecaaGreatDoorQM
namespace Go.Proofs.YtdjmckjbibfecaaGreatDoor.Sh
def nameM (s:Txt):Bool:=decide (1<=s.length)&&decide (s.length<=16)&&s.all smallB&&decide ((rankM s).2=0)
def textM (s:Txt):Bool:=s.all plainB
mutual
def mayR:Rul->Bool
 | .mk k p f x n L =>
  if k=0\/k=1 then decide (p=0)&&decide (n=0)&&decide (f=[])&&decide (x=[])&&decide (2<=L.length)&&decide (L.length<=64)&&mayL L
  else if k=2 then decide (p=0)&&decide (n=0)&&decide (f=[])&&decide (x=[])&&decide (L.length=1)&&mayL L
  else if k=3\/k=4 then decide (p=0)&&decide (n=0)&&decide (L.length=0)&&nameM f&&textM x
  else if k=5\/k=6 then decide (p=0)&&decide (x=[])&&decide (L.length=0)&&nameM f&&decide (0<=n)&&decide (n<=1099511627776)
  else if k=7 then decide (n=0)&&decide (L.length=0)&&nameM f&&nameM x&&decide (0<=p)&&decide (p<6)
  else false
def mayL:List Rul->Bool
 | []=>true
 | r::L=>mayR r&&mayL L
end
def nmT (s:Txt):Int × Txt:=((rankM s).1,s)
def Stop (s:Txt):Prop:=∀c,s.head?=some c->smallB c=false
theorem Stop.nil:Stop []:=fun c h=>by cases h
theorem Stop.of {c:UInt8} {s:Txt} (h:smallB c=false):Stop (c::s):=fun d hd=>by cases hd;exact h
theorem small_not_blank {c:UInt8} (h:smallB c=true):blankB c=false:=by
 cases hb:blankB c with
 | false=>rfl
 | true =>
  exfalso
  unfold blankB at hb
  simp only [Bool.or_eq_true,beq_iff_eq] at hb
  rcases hb with rfl | rfl
  ·revert h;decide
  ·revert h;decide
theorem decN_len:∀(f n:Nat),0<f->1<=(decN f n).length/\(decN f n).length<=f
 | 0,n,h=>by omega
 | f+1,n,_=>by
  rw [decN]
  split
  ·simp
  ·cases f with
   | zero=>simp [decN]
   | succ f =>
    have:=decN_len (f+1) (n / 10) (by omega)
    rw [List.length_append,List.length_singleton];omega
end Go.Proofs.YtdjmckjbibfecaaGreatDoor.Sh
namespace Go.Proofs.YtdjmckjbibfecaaGreatDoor.Sh
theorem rank_kind (s:Txt):(rankM s).1=0\/(rankM s).1=1\/(rankM s).1=2:=by
 unfold rankM
 split
 ·exact .inr (.inr rfl)
 ·split
  ·exact .inl rfl
  ·exact .inr (.inl rfl)
theorem named_nm (s:Txt) (p:Nat):namedB ⟨(nmT s).1,p,(nmT s).2⟩=true:=by
 unfold namedB nmT
 rcases rank_kind s with h | h | h<;>simp [h]
theorem mayL_mem:∀{L:List Rul},mayL L=true->∀c∈L,mayR c=true
 | [],_,c,h=>by cases h
 | r::L,hm,c,h=>by
  rw [mayL,Bool.and_eq_true] at hm
  rcases List.mem_cons.1 h with rfl | h
  ·exact hm.1
  ·exact mayL_mem hm.2 c h
theorem kind7 {r:Rul} (hm:mayR r=true):0<=r.kind/\r.kind<=7:=by
 obtain ⟨k,p,f,x,n,L⟩:=r
 simp only [Rul.kind]
 by_cases h:0<=k/\k<=7
 ·exact h
 ·exfalso
  rw [mayR,if_neg (by omega),if_neg (by omega),if_neg (by omega),if_neg (by omega),if_neg (by omega)] at hm
  cases hm
open Go Go.RowKit Go.BigFrame Go.Maps
set_option maxRecDepth 100000
set_option maxHeartbeats 1600000
structure St where
 k:Nat
 pl:Nat
 cd:Int
def TokAt (w:World) (pb:Nat) (A:Option Addr) (l:List Tok):Prop :=
 ∀i t,l[i]?=some t->∃g off,A=some ⟨g,off,none⟩/\g≠pb/\w.cell? ⟨g,off+i*3,none⟩=some (.int .i64 t.kind)/\w.cell? ⟨g,off+i*3+1,none⟩=some (.int .i64 t.place)/\w.cell? ⟨g,off+i*3+2,none⟩=some (.string ⟨t.text.toArray⟩)
theorem TokAt.below {w w':World} {pb:Nat} {A:Option Addr} {l:List Tok} (h:TokAt w pb A l) (hb:Bz w w'):TokAt w' pb A l:=fun i t ht=>by
 obtain ⟨g,off,hA,hg,h0,h1,h2⟩:=h i t ht
 exact ⟨g,off,hA,hg,(hb.cell (World.block_lt_of_cell? w _ h0)).trans h0,(hb.cell (World.block_lt_of_cell? w _ h1)).trans h1,(hb.cell (World.block_lt_of_cell? w _ h2)).trans h2⟩
theorem TokAt.but {w w':World} {pb:Nat} {A:Option Addr} {l:List Tok} (h:TokAt w pb A l) (hb:But pb w w'):TokAt w' pb A l:=fun i t ht=>by
 obtain ⟨g,off,hA,hg,h0,h1,h2⟩:=h i t ht
 exact ⟨g,off,hA,hg,(hb.cell (World.block_lt_of_cell? w _ h0) hg).trans h0,(hb.cell (World.block_lt_of_cell? w _ h1) hg).trans h1,(hb.cell (World.block_lt_of_cell? w _ h2) hg).trans h2⟩
def FitsAt (w:World) (g:Nat) (lb:Array Value) (p:Tok->Bool):Prop :=
 ∀(W:World) (t:Tok),Bz w W->Calls Tryz.prog g (#[.agg #[.int .i64 t.kind,.int .i64 t.place,.string ⟨t.text.toArray⟩]]++lb) W fun e w'=>e=.returned (.bool (p t))/\Bz W w'
section
variable (w:World) (pb:Nat) (A:Option Addr) (c e:Nat) (l:List Tok) (st:St)
end
theorem FitsAt.congr {w:World} {g:Nat} {lb:Array Value} {p q:Tok->Bool} (h:FitsAt w g lb p) (he:p=q):FitsAt w g lb q:=he ▸ h
theorem named_fits (w:World):FitsAt w 205 #[] namedB:=by
 intro W t hb
 obtain ⟨tk,tp,tx⟩:=t
 show Calls Tryz.prog 205 #[.agg #[.int .i64 tk,.int .i64 tp,.string ⟨tx.toArray⟩]] W _
 obtain ⟨b0,hb0⟩:=nmZ ((tk==0))
 obtain ⟨b1,hb1⟩:=nmZ ((tk==1))
 obtain ⟨b2,hb2⟩:=nmZ ((tk==2))
 have q0:=hb0.out
 have q1:=hb1.out
 have q2:=hb2.out
 have hn:Hid (namedB ⟨tk,tp,tx⟩=(b0||b1||b2)):=by unfold Hid namedB;simp only [q0,q1,q2]
 cases b0<;>cases b1
 all_goals
  go_enter Tryz.func205,Tryz.ntmps205
  go_wp2_with fail
  go_ret
  exact ⟨by rw [hn.out];first | rfl | (cases b2<;>rfl),(Below.refl _ W).alloc leZ _⟩
section
variable (w:World)
end
def foldV (a:Nat) (t:Txt):Nat:=t.foldl (fun n c=>10*n+(c.toNat-48)) a
section
variable (w:World) (pb:Nat) (A:Option Addr) (c e:Nat) (l:List Tok) (st:St)
end
inductive Tree where
 | mk (kind paper:Int) (field text:Txt) (num:Int) (A:Option Addr) (c:Nat) (L:List Tree):Tree
def Tree.sub:Tree->List Tree | .mk _ _ _ _ _ _ _ L=>L
def Tree.cells:Tree->Array Value | .mk k p f x n A c L=>#[.int .i64 k,.int .i64 p,.string ⟨f.toArray⟩,.string ⟨x.toArray⟩,.int .i64 n,.slice A L.length c]
mutual
def strip:Tree->Rul
 | .mk k p f x n _ _ L=>.mk k p f x n (strips L)
def strips:List Tree->List Rul
 | []=>[]
 | t::L=>strip t::strips L
end
theorem strips_map:∀L:List Tree,strips L=L.map strip
 | []=>by rw [strips];rfl
 | t::L=>by rw [strips,strips_map L];rfl
def CellsAt (w:World) (ok:Nat->Prop) (A:Option Addr) (j:Nat):Tree->Prop
 | .mk k p f x n A' c L=>∃b off,A=some ⟨b,off,none⟩/\ok b/\w.cell? ⟨b,off+j*6,none⟩=some (.int .i64 k)/\w.cell? ⟨b,off+j*6+1,none⟩=some (.int .i64 p)/\w.cell? ⟨b,off+j*6+2,none⟩=some (.string ⟨f.toArray⟩) /\
   w.cell? ⟨b,off+j*6+3,none⟩=some (.string ⟨x.toArray⟩)/\w.cell? ⟨b,off+j*6+4,none⟩=some (.int .i64 n)/\w.cell? ⟨b,off+j*6+5,none⟩=some (.slice A' L.length c)
theorem CellsAt.same {w w':World} {ok:Nat->Prop} {A:Option Addr} {j:Nat} {t:Tree} (h:CellsAt w ok A j t) (hb:∀p:Addr,p.block<w.heap.size->ok p.block->w'.cell? p=w.cell? p):CellsAt w' ok A j t:=by
 obtain ⟨k,p,f,x,n,A',c,L⟩:=t
 obtain ⟨b,off,e,hn,h0,h1,h2,h3,h4,h5⟩:=h
 have hlt:b<w.heap.size:=World.block_lt_of_cell? w _ h0
 exact ⟨b,off,e,hn,by rw [hb _ hlt hn];exact h0,by rw [hb _ hlt hn];exact h1,by rw [hb _ hlt hn];exact h2,by rw [hb _ hlt hn];exact h3,by rw [hb _ hlt hn];exact h4,by rw [hb _ hlt hn];exact h5⟩
theorem CellsAt.mono {w:World} {ok ok':Nat->Prop} {A:Option Addr} {j:Nat} {t:Tree} (h:CellsAt w ok A j t) (hl:∀b,b<w.heap.size->ok b->ok' b):CellsAt w ok' A j t:=by
 obtain ⟨k,p,f,x,n,A',c,L⟩:=t
 obtain ⟨b,off,e,hn,h0,h⟩:=h
 exact ⟨b,off,e,hl b (World.block_lt_of_cell? w _ h0) hn,h0,h⟩
mutual
def TreeAt (w:World) (ok:Nat->Prop):Tree->Prop
 | .mk _ _ _ _ _ A _ L=>RowsAt w ok A 0 L/\L.length<=maxLen
def RowsAt (w:World) (ok:Nat->Prop) (A:Option Addr) (j:Nat):List Tree->Prop
 | []=>True
 | t::L=>CellsAt w ok A j t/\TreeAt w ok t/\RowsAt w ok A (j+1) L
end
mutual
theorem TreeAt.same {w w':World} {ok:Nat->Prop} (hb:∀p:Addr,p.block<w.heap.size->ok p.block->w'.cell? p=w.cell? p):∀{t:Tree},TreeAt w ok t->TreeAt w' ok t
 | .mk _ _ _ _ _ A _ L,h=>by
  rw [TreeAt] at h ⊢
  exact ⟨RowsAt.same hb h.1,h.2⟩
theorem RowsAt.same {w w':World} {ok:Nat->Prop} (hb:∀p:Addr,p.block<w.heap.size->ok p.block->w'.cell? p=w.cell? p):∀{A:Option Addr} {j:Nat} {L:List Tree},RowsAt w ok A j L->RowsAt w' ok A j L
 | _,_,[],_=>by rw [RowsAt];trivial
 | _,_,t::L,h=>by
  rw [RowsAt] at h ⊢
  exact ⟨h.1.same hb,TreeAt.same hb h.2.1,RowsAt.same hb h.2.2⟩
end
mutual
theorem TreeAt.mono {w:World} {ok ok':Nat->Prop} (hl:∀b,b<w.heap.size->ok b->ok' b):∀{t:Tree},TreeAt w ok t->TreeAt w ok' t
 | .mk _ _ _ _ _ A _ L,h=>by
  rw [TreeAt] at h ⊢
  exact ⟨RowsAt.mono hl h.1,h.2⟩
theorem RowsAt.mono {w:World} {ok ok':Nat->Prop} (hl:∀b,b<w.heap.size->ok b->ok' b):∀{A:Option Addr} {j:Nat} {L:List Tree},RowsAt w ok A j L->RowsAt w ok' A j L
 | _,_,[],_=>by rw [RowsAt];trivial
 | _,_,t::L,h=>by
  rw [RowsAt] at h ⊢
  exact ⟨h.1.mono hl,TreeAt.mono hl h.2.1,RowsAt.mono hl h.2.2⟩
end
theorem TreeAt.but {w w':World} {ok:Nat->Prop} {pb:Nat} {t:Tree} (h:TreeAt w ok t) (hb:But pb w w') (hlt:∀b,ok b->b≠pb):TreeAt w' ok t:=h.same fun _ h1 h2=>hb.cell h1 (hlt _ h2)
theorem TreeAt.far {w:World} {ok:Nat->Prop} {g:Nat} {t:Tree} (h:TreeAt w ok t) (hlt:∀b,ok b->b≠g) (o:Nat) (u:Value):TreeAt (w.setCell ⟨g,o,none⟩ u) ok t:=h.but ((But.refl g w).setCell o u) hlt
theorem TreeAt.below {w w':World} {ok:Nat->Prop} {t:Tree} (h:TreeAt w ok t) (hb:Bz w w'):TreeAt w' ok t:=h.same fun _ h1 _=>hb.cell h1
section
variable {P:Program} {ops:Array Oper} {o:Oper} {rest:List Oper} {a:Act} {W:World} {Q:Exit->Act->World->Prop}
end
theorem strips_app (T:List Tree) (t:Tree):strips (T++[t])=strips T++[strip t]:=by rw [strips_map,strips_map];simp
open Go Go.RowKit
def Rel {α:Type} (l:List Tok) (y:Res α) (x:α × St):Prop:=match y with
 | .ok (a,ts)=>x.1=a/\x.2.cd=0/\x.2.k<=l.length/\ts=l.drop x.2.k
 | .error (pl,cd)=>x.2.cd=cd/\x.2.pl=pl/\cd≠0
theorem Rel.bad {α:Type} {l:List Tok} {q:Nat × Int} {x:α × St} (h:Rel l (.error q) x):x.2.cd≠0:=by
 obtain ⟨pl,cd⟩:=q
 exact fun hz=>h.2.2 (h.1 ▸ hz)
theorem Rel.same {α β:Type} {l:List Tok} {q:Nat × Int} {x:α × St} {y:β × St} (h:Rel l (.error q:Res α) x) (he:y.2=x.2):Rel l (.error q:Res β) y:=by
 obtain ⟨pl,cd⟩:=q
 unfold Rel at h ⊢
 rw [he];exact h
theorem fold_big:∀(t:Txt) (a:Nat),a*10 ^ t.length<=foldV a t
 | [],a=>by simp [foldV]
 | c::r,a=>by
  have:=fold_big r (10*a+(c.toNat-48))
  have h2:foldV a (c::r)=foldV (10*a+(c.toNat-48)) r:=rfl
  rw [h2,List.length_cons,Nat.pow_succ]
  refine Nat.le_trans ?_ this
  have:a*(10 ^ r.length*10)=(10*a)*10 ^ r.length:=by rw [Nat.mul_comm (10 ^ r.length),<-Nat.mul_assoc,Nat.mul_comm a]
  rw [this]
  exact Nat.mul_le_mul_right _ (by omega)
theorem digit_nought:∀c:UInt8,digitB c=true->c≠48->1<=c.toNat-48 :=
 byte_all (P:=fun c=>digitB c=true->c≠48->1<=c.toNat-48) (by decide)
open Go Go.RowKit Go.BigFrame Go.Maps
def mostL:Txt:=[49,48,57,57,53,49,49,54,50,55,55,55,54]
theorem fold_small:∀(t:Txt) (a:Nat),t.all digitB=true->foldV a t<(a+1)*10 ^ t.length
 | [],a,_=>by simp [foldV]
 | c::r,a,h=>by
  rw [List.all_cons,Bool.and_eq_true] at h
  obtain ⟨h1,h2⟩:=digit_range h.1
  have:=fold_small r (10*a+(c.toNat-48)) h.2
  have h3:foldV a (c::r)=foldV (10*a+(c.toNat-48)) r:=rfl
  rw [h3,List.length_cons,Nat.pow_succ]
  refine Nat.lt_of_lt_of_le this ?_
  have h4:(a+1)*(10 ^ r.length*10)=(10*(a+1))*10 ^ r.length:=by rw [Nat.mul_comm (10 ^ r.length),<-Nat.mul_assoc,Nat.mul_comm (a+1)]
  rw [h4]
  exact Nat.mul_le_mul_right _ (by omega)
theorem fold_lt:∀(x y:Txt) (a b:Nat),x.length=y.length->x.all digitB=true->y.all digitB=true->a<b->foldV a x<foldV b y
 | [],y,a,b,hl,_,_,h=>by
  obtain rfl:=List.eq_nil_of_length_eq_zero hl.symm
  exact h
 | c::x,[],a,b,hl,_,_,_=>by simp at hl
 | c::x,d::y,a,b,hl,hx,hy,h=>by
  rw [List.all_cons,Bool.and_eq_true] at hx hy
  obtain ⟨c1,c2⟩:=digit_range hx.1
  obtain ⟨d1,d2⟩:=digit_range hy.1
  exact fold_lt x y (10*a+(c.toNat-48)) (10*b+(d.toNat-48)) (by simpa using hl) hx.2 hy.2 (by omega)
theorem bytes_fold:∀(x y:Txt) (a:Nat),x.length=y.length->x.all digitB=true->y.all digitB=true->(!(Op.bytesLess x y||x==y))=decide (foldV a y<foldV a x)
 | [],y,a,hl,_,_=>by
  obtain rfl:=List.eq_nil_of_length_eq_zero hl.symm
  simp
 | c::x,[],a,hl,_,_=>by simp at hl
 | c::x,d::y,a,hl,hx,hy=>by
  rw [List.all_cons,Bool.and_eq_true] at hx hy
  obtain ⟨c1,c2⟩:=digit_range hx.1
  obtain ⟨d1,d2⟩:=digit_range hy.1
  have hl':x.length=y.length:=by simpa using hl
  have e1:foldV a (c::x)=foldV (10*a+(c.toNat-48)) x:=rfl
  have e2:foldV a (d::y)=foldV (10*a+(d.toNat-48)) y:=rfl
  rw [e1,e2,Op.bytesLess]
  rcases Nat.lt_trichotomy c.toNat d.toNat with h | h | h
  ·have g1:=fold_lt x y (10*a+(c.toNat-48)) (10*a+(d.toNat-48)) hl' hx.2 hy.2 (by omega)
   have g2:c<d:=by rw [UInt8.lt_iff_toNat_lt];exact h
   rw [dtZ g2]
   simp;omega
  ·obtain rfl:c=d:=UInt8.toNat_inj.1 h
   have g2:¬c<c:=by rw [UInt8.lt_iff_toNat_lt];omega
   rw [<-bytes_fold x y (10*a+(c.toNat-48)) hl' hx.2 hy.2,dfZ g2]
   simp
  ·have g1:=fold_lt y x (10*a+(d.toNat-48)) (10*a+(c.toNat-48)) hl'.symm hy.2 hx.2 (by omega)
   have g2:¬c<d:=by rw [UInt8.lt_iff_toNat_lt];omega
   have g3:c≠d:=fun e=>by rw [e] at h;omega
   rw [dfZ g2,dtZ g1]
   simp [g3]
def aboveB (t:Txt):Bool:=decide (13<t.length)||(decide (t.length=13)&&!(Op.bytesLess t mostL||t==mostL))
theorem above_eq {t:Txt} (hd:t.all digitB=true) (h0:¬(1<t.length/\t.head?=some 48)):aboveB t=decide (mostN<numV t):=by
 have hm:foldV 0 mostL=mostN:=by decide
 unfold aboveB
 by_cases h13:13<t.length
 ·have hbig:mostN<numV t:=by
   cases t with
   | nil=>simp at h13
   | cons c r =>
    have hc:c≠48:=fun h=>h0 ⟨by omega,by rw [h];rfl⟩
    rw [List.all_cons,Bool.and_eq_true] at hd
    have hg:=digit_nought c hd.1 hc
    have hf:numV (c::r)=foldV (10*0+(c.toNat-48)) r:=rfl
    have hb:=fold_big r (10*0+(c.toNat-48))
    rw [<-hf] at hb
    simp only [List.length_cons] at h13
    have h10:10 ^ 13<=10 ^ r.length:=Nat.pow_le_pow_right (by omega) (by omega)
    have h11:1*10 ^ r.length<=(10*0+(c.toNat-48))*10 ^ r.length:=Nat.mul_le_mul_right _ (by omega)
    unfold mostN
    omega
  rw [dtZ h13,dtZ hbig];rfl
 ·rw [dfZ h13]
  by_cases he:t.length=13
  ·rw [dtZ he,bytes_fold t mostL 0 (by rw [he];rfl) hd (by decide),hm]
   rfl
  ·rw [dfZ he]
   have hs:=fold_small t 0 hd
   have h10:10 ^ t.length<=10 ^ 12:=Nat.pow_le_pow_right (by omega) (by omega)
   have hf:numV t=foldV 0 t:=rfl
   have:¬mostN<numV t:=by unfold mostN;omega
   rw [dfZ this];rfl
theorem rrun_any (c:UInt8) (w:World):Calls Tryz.prog 247 #[.int .u8 c.toNat] w fun e w'=>e=.returned (.bool (smallB c))/\w=w':=by
 rw [small_eq,digit_eq]
 cases h1:decide (97<=(c.toNat:Int))<;>cases h2:decide ((c.toNat:Int)<=122)<;>cases h3:((c.toNat:Int)==45)<;>cases h4:decide (48<=(c.toNat:Int))<;>cases h5:decide ((c.toNat:Int)<=57)
 all_goals
  go_enter Tryz.func247,Tryz.ntmps247
  go_wp2_with fail
  go_ret
  exact ⟨retBl (by simp),rfl⟩
theorem all_run {s:ByteArray} {k:Nat} {r:Bool} {p:UInt8->Bool} (hk:k<s.size) (h:r=(s.data.toList.drop k).all p):r=(p s[k]&&(s.data.toList.drop (k+1)).all p):=by
 rw [h,drop_byte hk,List.all_cons]
theorem rdigits_any (s:ByteArray) (w:World) (hs:s.size<=maxLen):Calls Tryz.prog 248 #[.string s] w fun e w'=>e=.returned (.bool (s.data.toList.all digitB))/\w=w':=by
 unfold maxLen at hs
 go_enter Tryz.func248,Tryz.ntmps248
 go_wp2_with fail
 go_loopg [3] s.size (fun gg i wr=>∃k:Nat,k<=s.size/\gg=s.size-k/\i=.int .i64 k/\w=wr/\Hid (s.data.toList.all digitB=(s.data.toList.drop k).all digitB))
 case atStart=>exact ⟨0,Nat.zero_le _,by simp,rfl,rfl,rfl⟩
 case round =>
  obtain ⟨k,hk,hg,rfl,rfl,hall⟩:=hrel
  have hg':=hdZ hg
  clear hg
  by_cases hlt:k<s.size
  ·have hst:=hdZ (all_run hlt hall.out)
   rw [digit_eq] at hst
   have i1:(k:Int)<(s.size:Int):=by omega
   have i2:(0:Int)<=(k:Int):=by omega
   cases h1:decide (48<=(s[k].toNat:Int))<;>cases h2:decide ((s[k].toNat:Int)<=57)
   all_goals
    rw [h1,h2] at hst
    have h1':decide ((s[k].toNat:Int)<48)=!decide (48<=(s[k].toNat:Int)):=by rw [Bool.eq_iff_iff];simp
    have h2':decide (57<(s[k].toNat:Int))=!decide ((s[k].toNat:Int)<=57):=by rw [Bool.eq_iff_iff];simp
    rw [h1] at h1'
    rw [h2] at h2'
    go_wp2_with fail
    first
     | (go_roundg (s.size - (k + 1))
        case measure=>have:=hg'.out;omega
        case rel=>exact ⟨k+1,by omega,rfl,by go_num,rfl,by rw [hst.out];first | rfl | simp⟩)
     | (go_ret
        exact ⟨by rw [hst.out];rfl,rfl⟩)
  ·have hr:Hid (s.data.toList.all digitB=true):=by unfold Hid;rw [hall.out,List.drop_eq_nil_of_le (by simp;omega)];rfl
   go_wp2_with fail
   go_ret
   exact ⟨by rw [hr.out];first | done | rfl,rfl⟩
theorem rabove_any (s:ByteArray) (w:World) (hs:s.size<=maxLen):Calls Tryz.prog 249 #[.string s] w fun e w'=>e=.returned (.bool (aboveB s.data.toList))/\w=w':=by
 unfold maxLen at hs
 have hln:s.data.toList.length=s.size:=by simp
 have hst0:s.toList=s.data.toList:=by simp [ByteArray.toList_eq]
 obtain ⟨b,hb⟩:=nmZ ((!(Op.bytesLess s.data.toList mostL||s.data.toList==mostL)))
 have hres:Hid (aboveB s.data.toList=(decide (13<s.size)||(decide (s.size=13)&&b))):=by unfold Hid aboveB;rw [hb.out,hln]
 have hq:=hb.out
 unfold mostL at hq
 simp only [Bool.not_or] at hq
 rcases Nat.lt_trichotomy s.size 13 with h | h | h
 ·have b1:decide ((13:Int)<(s.size:Int))=false:=by simp;omega
  have b2:((s.size:Int)==13)=false:=by simp;omega
  go_enter Tryz.func249,Tryz.ntmps249
  go_wp2_with fail
  go_ret
  exact ⟨by rw [hres.out,dfZ (by omega),dfZ (by omega)];rfl,rfl⟩
 ·have b1:decide ((13:Int)<(s.size:Int))=false:=by simp;omega
  have b2:((s.size:Int)==13)=true:=by simp;omega
  go_enter Tryz.func249,Tryz.ntmps249
  go_wp2_with fail
  go_ret
  exact ⟨by rw [hres.out,dfZ (by omega),dtZ h];simp,rfl⟩
 ·have b1:decide ((13:Int)<(s.size:Int))=true:=by simp;omega
  go_enter Tryz.func249,Tryz.ntmps249
  go_wp2_with fail
  go_ret
  exact ⟨by rw [hres.out,dtZ (by omega)];rfl,rfl⟩
def TxtsAt (w:World) (A:Option Addr) (l:List Txt):Prop:=∀(k:Nat) (x:Txt),l[k]?=some x->∃b off,A=some ⟨b,off,none⟩/\w.cell? ⟨b,off+k,none⟩=some (.string ⟨x.toArray⟩)
theorem TxtsAt.below {w w':World} {A:Option Addr} {l:List Txt} (h:TxtsAt w A l) (hb:Bz w w'):TxtsAt w' A l:=by
 intro k x hk
 obtain ⟨b,off,e,h0⟩:=h k x hk
 exact ⟨b,off,e,(hb.cell (World.block_lt_of_cell? w _ h0)).trans h0⟩
theorem rin_any (A:Option Addr) (n c:Nat) (l:List Txt) (t:Txt) (w:World) (hn:n<=maxLen) (hl:Hid (l.length=n)) (hA:Hid (TxtsAt w A l)) :
  Calls Tryz.prog 250 #[.slice A n c,.string ⟨t.toArray⟩] w fun e w'=>e=.returned (.bool (l.contains t))/\w=w':=by
 unfold maxLen at hn
 go_enter Tryz.func250,Tryz.ntmps250
 go_wp2_with fail
 go_loopg [5] n (fun gg i wr=>∃k:Nat,k<=n/\gg=n-k/\i=.int .i64 k/\w=wr/\Hid (l.contains t=(l.drop k).contains t))
 case atStart=>exact ⟨0,Nat.zero_le _,by simp,rfl,rfl,rfl⟩
 case round =>
  obtain ⟨k,hk,hg,rfl,rfl,hsame⟩:=hrel
  have hg':=hdZ hg
  clear hg
  by_cases hlt:k<n
  ·obtain ⟨x,hx⟩:∃x,l[k]?=some x:=⟨_,gZ (by have:=hl.out;omega)⟩
   have hst:=hdZ (any_step hsame.out hx)
   obtain ⟨b,off,rfl,h0⟩:=hA.out k x hx
   have hl1:(⟨x.toArray⟩:ByteArray).toList=x:=by simp [ByteArray.toList_eq]
   have hl2:(⟨t.toArray⟩:ByteArray).toList=t:=by simp [ByteArray.toList_eq]
   have i1:(k:Int)<(n:Int):=by omega
   have i2:(0:Int)<=(k:Int):=by omega
   clear hx
   obtain ⟨q,hq⟩:=nmZ ((x==t))
   have hq':=hq.out
   rw [hq.out] at hst
   cases q with
   | true =>
    go_wp2_with fail
    go_ret
    exact ⟨by rw [hst.out];rfl,rfl⟩
   | false =>
    go_wp2_with fail
    go_roundg (n-(k+1))
    case measure=>have:=hg'.out;omega
    case rel=>exact ⟨k+1,by omega,rfl,by go_num,rfl,by unfold Hid;rw [hst.out];rfl⟩
  ·have hr:Hid (l.contains t=false):=by unfold Hid;rw [hsame.out,List.drop_eq_nil_of_le (by have:=hl.out;omega)];rfl
   go_wp2_with fail
   go_ret
   exact ⟨by rw [hr.out];first | done | rfl,rfl⟩
theorem tx_list (t:Txt):(⟨t.toArray⟩:ByteArray).toList=t:=by simp [ByteArray.toList_eq]
section
variable (A:Option Addr) (n c:Nat) (l:List Tok) (w:World)
end
theorem rletter_any (c:UInt8) (w:World):Calls Tryz.prog 230 #[.int .u8 c.toNat] w fun e w'=>e=.returned (.bool (letterB c))/\w=w':=by
 unfold letterB
 cases h1:decide (97<=(c.toNat:Int))<;>cases h2:decide ((c.toNat:Int)<=122)
 all_goals
  go_enter Tryz.func230,Tryz.ntmps230
  go_wp2_with fail
  go_ret
  exact ⟨retBl (by simp),rfl⟩
theorem rdigit_any (c:UInt8) (w:World):Calls Tryz.prog 231 #[.int .u8 c.toNat] w fun e w'=>e=.returned (.bool (numB c))/\w=w':=by
 unfold numB
 cases h1:decide (48<=(c.toNat:Int))<;>cases h2:decide ((c.toNat:Int)<=57)
 all_goals
  go_enter Tryz.func231,Tryz.ntmps231
  go_wp2_with fail
  go_ret
  exact ⟨retBl (by simp),rfl⟩
theorem rname_any (s:ByteArray) (w:World) (hs:s.size<=maxLen):Calls Tryz.prog 207 #[.string s] w fun e w'=>e=.returned (.bool (markB s.data.toList))/\w=w':=by
 unfold maxLen at hs
 have hln:Hid (s.data.toList.length=s.size):=by unfold Hid;simp
 go_enter Tryz.func207,Tryz.ntmps207
 go_wp2_with fail
 go_loopg [3] s.size (fun gg i wr=>∃k:Nat,k<=s.size/\gg=s.size-k/\i=.int .i64 k/\w=wr/\Hid (s.data.toList.all smallB=(s.data.toList.drop k).all smallB))
 case atStart=>exact ⟨0,Nat.zero_le _,by simp,rfl,rfl,rfl⟩
 case round =>
  obtain ⟨k,hk,hg,rfl,rfl,hall⟩:=hrel
  have hg':=hdZ hg
  clear hg
  by_cases hlt:k<s.size
  ·have hst:=hdZ (mark_run hlt hall.out)
   rw [small_parts] at hst
   have i1:(k:Int)<(s.size:Int):=by omega
   have i2:(0:Int)<=(k:Int):=by omega
   obtain ⟨lb,hlb⟩:=nmZ (letterB s[k])
   obtain ⟨nb,hnb⟩:=nmZ (numB s[k])
   obtain ⟨sb,hsb⟩:=nmZ (((s[k].toNat:Int) != 45))
   rw [hlb.out,hnb.out,hsb.out] at hst
   have hq:=hsb.out
   cases lb<;>cases nb<;>cases sb
   all_goals
    go_wp2_with (first | (go_at_call 230;refine (rletter_any _ _).mono ?_;rintro e w' ⟨rfl,rfl⟩;rw [hlb.out]) | (go_at_call 231;refine (rdigit_any _ _).mono ?_;rintro e w' ⟨rfl,rfl⟩;rw [hnb.out]))
    first
     | (go_roundg (s.size - (k + 1))
        case measure=>have:=hg'.out;omega
        case rel=>exact ⟨k+1,by omega,rfl,by go_num,rfl,by rw [hst.out];first | rfl | simp⟩)
     | (go_ret
        exact ⟨by unfold markB;rw [hst.out];simp,rfl⟩)
  ·have hr:Hid (s.data.toList.all smallB=true):=by unfold Hid;rw [hall.out,List.drop_eq_nil_of_le (by simp;omega)];rfl
   by_cases h1:1<=s.size
   ·have b1:decide ((1:Int)<=(s.size:Int))=true:=by simp;omega
    by_cases h2:s.size<=16
    ·have b2:decide ((s.size:Int)<=16)=true:=by simp;omega
     go_wp2_with fail
     go_ret
     exact ⟨by unfold markB;rw [hr.out,hln.out,dtZ h1,dtZ h2];rfl,rfl⟩
    ·have b2:decide ((s.size:Int)<=16)=false:=by simp;omega
     go_wp2_with fail
     go_ret
     exact ⟨by unfold markB;rw [hr.out,hln.out,dfZ h2];simp,rfl⟩
   ·have b1:decide ((1:Int)<=(s.size:Int))=false:=by simp;omega
    go_wp2_with fail
    go_ret
    exact ⟨by unfold markB;rw [hr.out,hln.out,dfZ h1];simp,rfl⟩
section
variable (A:Option Addr) (n c:Nat) (l:List Tok) (w:World)
end
theorem rword_any (k:Nat) (hk:k<6) (w:World):Calls Tryz.prog 187 #[.int .i64 k] w fun x w'=>x=.returned (.string ⟨(papersL.getD k []).toArray⟩)/\w=w':=by
 obtain rfl | rfl | rfl | rfl | rfl | rfl:k=0\/k=1\/k=2\/k=3\/k=4\/k=5:=by omega
 all_goals
  go_enter Tryz.func187,Tryz.ntmps187
  go_wp2_with fail
  go_ret
  exact ⟨rfl,rfl⟩
section
variable (A:Option Addr) (n c:Nat) (l:List Tok) (w:World)
end
end Go.Proofs.YtdjmckjbibfecaaGreatDoor.Sh

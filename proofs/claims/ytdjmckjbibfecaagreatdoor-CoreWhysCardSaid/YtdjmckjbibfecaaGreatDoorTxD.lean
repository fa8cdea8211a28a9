import Derived.Deep.MidRow
import Derived.Laws.ResultCell
import Derived.StillTailTactics
import Derived.Deep.RegionHeld3
import Derived.Maps.OwnSet
import Derived.Maps.OwnOps
import Derived.Maps.Views
import Derived.DeepKeys4
import Derived.Deep.RegionWith
import Derived.Deep.DeepCutAuto
import Derived.Shelf.Strings.Builder1
import Derived.Shelf.Strings.Builder2
import Derived.Shelf.Strings.OnBuilder
import Derived.Shelf.Strings.BuilderF
import Derived.Shelf.Strings.BuilderK
import Derived.Shelf.Strconv.Itoa0
import Derived.Shelf.Strconv.Itoa1
import Derived.Shelf.LaysM
import Derived.Shelf.Strconv.Itoa2
import Derived.Shelf.Strconv.Itoa3
import Derived.Shelf.Strconv.Itoa4
import Derived.Shelf.Strconv.ParseIntEmpty
import Derived.Shelf.Strconv.Clone
import Derived.Shelf.Strconv.SyntaxError
import Derived.Shelf.LaysC
import Derived.Shelf.Strconv.ToError
import Derived.Shelf.Strconv.Lower
import Derived.Shelf.Strconv.ParseUint10
import Derived.Shelf.Strconv.ParseUint10Empty
import Derived.Shelf.Strconv.ParseUint10Any
import Derived.Shelf.Strconv.ParseInt10
import Derived.Shelf.Strconv.RangeError
import Derived.Shelf.Strconv.ToErrorRange
import Derived.Shelf.Strconv.ParseUintEmpty
import Derived.Shelf.Strconv.ParseUint10b64
import Derived.Shelf.Strconv.ParseUint10b32
import Derived.Shelf.Strconv.ParseUint10b16
import Derived.Shelf.Strconv.ParseUint10b8
import Derived.Shelf.Strconv.ParseUint10At
import Derived.Shelf.Strconv.ParseInt10At64
import Derived.Shelf.Strconv.ParseInt10At32
import Derived.Shelf.Strconv.ParseInt10At16
import Derived.Shelf.Strconv.ParseInt10At8
import Derived.Shelf.Strconv.ParseInt10All
import Derived.Shelf.Strconv.ParseIntPublic10
import Derived.Shelf.Strconv.ErrVarParseInt
import Derived.Shelf.Strings.Search1
import Derived.Shelf.Strings.Search2
import Derived.Shelf.Strings.Search3
import Derived.Shelf.Strings.Shaped
import Derived.Test.YtdjmckjbibfecaaGreatDoorProg
import Derived.Test.YtdjmckjbibfecaaGreatDoorG
import Derived.Test.YtdjmckjbibfecaaGreatDoorGw
import Derived.Test.YtdjmckjbibfecaaGreatDoorT
namespace Go.Proofs.YtdjmckjbibfecaaGreatDoor
open Go Go.RowKit Go.BigFrame Go.Maps
theorem But.trans {z:Nat} {w w1 w2:World} (h:But z w w1) (g:But z w1 w2):But z w w2 :=
 ⟨g.os.trans h.os,g.tape.trans h.tape,g.output.trans h.output,Nat.le_trans h.size g.size,fun k hk hne=>(g.block k (Nat.lt_of_lt_of_le hk h.size) hne).trans (h.block k hk hne)⟩
theorem But.of_below {z:Nat} {w w1:World} (h:Bz w w1):But z w w1:=(But.refl z w).below h
theorem setCells_put (g:Nat):∀(vs:List Value) (o:Nat) (w:World),But g w (w.setCells g o vs)
 | [],_,_=>But.refl _ _
 | v::vs,o,w=>But.trans ((But.refl g w).setCell o v) (setCells_put g vs (o+1) _)
section
variable {P:Program} {ops:Array Oper} {o:Oper} {rest:List Oper} {a:Act} {w:World} {Q:Exit->Act->World->Prop}
end
section
variable {P:Program} {ops:Array Oper} {o:Oper} {rest:List Oper} {a:Act} {W:World} {Q:Exit->Act->World->Prop} {K:Act->World->Prop} {E:Prop}
theorem run_storeVar_cell {g i:Nat} {t:TypeId} {cs:Array Value} (ty:TypeId) (u:Value) (hb:Blk W g t cs) (hi:i<cs.size) (hs:(P.info? ty).map (·.size)=some 1) (h1:u.oneCell'=true) :
  (storeVar ty ⟨g,i,none⟩ u).run P W=.ok () (W.setCell ⟨g,i,none⟩ u):=by
 have hc:u.cells=#[u]:=by cases u<;>first | rfl | cases h1
 have := run_storeCells_cells (P := P) g i [u] 0 W (fun j hj => by have : j = 0 := by simpa using hj
                                                                   subst this;simp [hb.cell,hi]) (fun j hj=>hb.frozen _) (fun v hv=>by simp at hv;subst hv;exact h1)
 cases hq:P.info? ty with
 | none=>simp [hq] at hs
 | some z =>
  have hz:z.size=1:=by simpa [hq] using hs
  simp only [Nat.add_zero] at this
  simp [storeVar,sizeOf,typeInfo,hq,hc,hz,this]
  rfl
theorem wp_put1 (ty:TypeId) (x y:Operand) (ho:o.op=.store ty x y) (g i:Nat) (cs cs':Array Value) (t:TypeId) (u:Value) (hx:a.eval x=.pointer (some ⟨g,i,none⟩)) (hy:a.eval y=u)
  (hb:Blk W g t cs) (hi:i<cs.size) (hc:cs.setIfInBounds i u=cs') (hs:(P.info? ty).map (·.size)=some 1) (h1:u.oneCell'=true)
  (h:∀W',W'=W.setCell ⟨g,i,none⟩ u->Blk W' g t cs'->Below g W W'->K (a.put o.dst undef) W'):o.wp P a W K Q:=by
 unfold Oper.wp execOp
 simp only [ho,hx,hy,Instr.storeAt,Instr.sureAddr,Sem.run_bind,Sem.run_pure,Result.andThen_ok,run_storeVar_cell ty u hb hi hs h1]
 exact h _ rfl (hc ▸ hb.set_ i u) (Below.setCell (p:=⟨g,i,none⟩) (Below.refl g W) (Nat.le_refl g) u)
end
theorem But.grown {g:Nat} {w w':World} (h:But g w w'):w.grownBy w' (some g):=⟨h.os,h.tape,h.output,h.size,fun k hk hne=>h.block k hk (fun e=>hne (by rw [e]))⟩
theorem Blk.but {w w':World} {g z:Nat} {t:TypeId} {cs:Array Value} (h:Blk w g t cs) (hb:But z w w') (hz:g≠z):Blk w' g t cs:=(hb.block g h.lt hz).trans h
theorem own_setLast {B g n c:Nat} {e:TypeId} {size:Nat}:∀(us zs xs:List Value) (w:World),us.length=zs.length->w.ownsRow B e size (.slice (some ⟨g,0,none⟩) n c) n (xs++zs)->(w.setCells g xs.length us).ownsRow B e size (.slice (some ⟨g,0,none⟩) n c) n (xs++us)
 | [],zs,xs,w,hl,h=>by
  have:zs=[]:=List.eq_nil_of_length_eq_zero (by simpa using hl.symm)
  subst this;exact h
 | u::us,[],xs,w,hl,h=>by simp at hl
 | u::us,z::zs,xs,w,hl,h=>by
  have h1:=h.stored xs.length u
  rw [show (xs++z::zs).set xs.length u=(xs++[u])++zs by simp] at h1
  have h2:=own_setLast us zs (xs++[u]) _ (by simpa using hl) h1.1
  rw [World.setCells]
  simpa using h2
theorem own_form {w:World} {B n:Nat} {e:TypeId} {size:Nat} {v:Value} {xs:List Value} (h:w.ownsRow B e size v n xs):∃A c,v=.slice A n c:=by
 rcases h.2 with ⟨e1,h0⟩ | ⟨g,c,cur,e1,_⟩
 ·exact ⟨none,0,by rw [e1,h0]⟩
 ·exact ⟨some ⟨g,0,none⟩,c,e1⟩
theorem own_formS {w:World} {B n:Nat} {e:TypeId} {size:Nat} {v:Value} {xs:List Value} (h:w.ownsRow B e size v n xs) (hn:0<n):∃g c,v=.slice (some ⟨g,0,none⟩) n c/\B<=g/\g<w.heap.size:=by
 rcases h.2 with ⟨e1,h0⟩ | ⟨g,c,cur,e1,hB,hh,_⟩
 ·omega
 ·exact ⟨g,c,e1,hB,(Array.getElem?_eq_some_iff.1 hh).1⟩
theorem own_blk {w:World} {B g n c:Nat} {e:TypeId} {size:Nat} {xs:List Value} (h:w.ownsRow B e size (.slice (some ⟨g,0,none⟩) n c) n xs):Blk w g e ((w.heap[g]?.bind fun o=>match o with | .cells cs _ _=>some cs | _=>none).getD #[]):=by
 rcases h.2 with ⟨e0,_⟩ | ⟨g9,c9,cur,e0,_,hh,_⟩
 ·cases e0
 ·simp only [Value.slice.injEq,Option.some.injEq,Addr.mk.injEq,true_and,and_true] at e0
  obtain ⟨rfl,_⟩:=e0
  unfold Blk
  rw [hh]
  rfl
theorem own_none (w:World) (B:Nat) (e:TypeId) (size:Nat):w.ownsRow B e size (.slice none 0 0) 0 []:=World.ownsRow_nil w B e size
theorem own_one {w:World} {B:Nat} {e:TypeId} {size n:Nat} {v:Value} {xs:List Value} (h:w.ownsRow B e size v n xs):v.oneCell'=true:=by
 rcases h.2 with ⟨e1,_⟩ | ⟨g,c,cur,e1,_⟩<;>(rw [e1];rfl)
theorem Blk.kept {w w':World} {g:Nat} {t:TypeId} {cs:Array Value} {row:Option Nat} (h:Blk w g t cs) (hg:w.grownBy w' row) (hne:row≠some g):Blk w' g t cs:=h.grown hg (fun e=>hne e.symm)
theorem own_but {w w':World} {B z n:Nat} {e t:TypeId} {size:Nat} {v:Value} {xs:List Value} {cs:Array Value} (h:w.ownsRow B e size v n xs) (hb:But z w w') (hz:Blk w z t cs) (hne:e≠t):w'.ownsRow B e size v n xs :=
 h.kept hb.grown (.inr (own_blk_ne h hz hne))
section
variable {P:Program} {ops:Array Oper} {Q:Exit->Act->World->Prop} {S:World->Prop} {o:Oper} {a:Act} {w:World}
theorem held_call {i:Nat} {K:Act->World->Prop} {f:FuncId} {args:Array Value} (hi:ops[i]?=some o) (hg:o.guard=none) (hop:(execOp a.eval o).run P w=.ok (.enter f args) w)
  (hc:Calls P f args w fun e w'=>∃v,e=.returned v/\K (a.put o.dst v) w'):wpOp P ops Q i K a w:=by
 unfold wpOp
 simp only [hi]
 have hw:Region.wanted o (yielded ops a.tmps)=true:=by simp [Region.wanted,hg]
 rw [if_pos hw]
 unfold Oper.wp
 rw [hop,Oper.upon_enter]
 first
  | exact hc.mono (fun e w' ⟨v,he,h⟩=>by subst he;exact h)
  | exact .inl (hc.mono (fun e w' ⟨v,he,h⟩=>by subst he;exact h))
theorem held_callg {i:Nat} {K:Act->World->Prop} {f:FuncId} {args:Array Value} (hi:ops[i]?=some o) (hw:Region.wanted o (yielded ops a.tmps)=true) (hop:(execOp a.eval o).run P w=.ok (.enter f args) w)
  (hc:Calls P f args w fun e w'=>∃v,e=.returned v/\K (a.put o.dst v) w'):wpOp P ops Q i K a w:=by
 unfold wpOp
 simp only [hi]
 rw [if_pos hw]
 unfold Oper.wp
 rw [hop,Oper.upon_enter]
 first
  | exact hc.mono (fun e w' ⟨v,he,h⟩=>by subst he;exact h)
  | exact .inl (hc.mono (fun e w' ⟨v,he,h⟩=>by subst he;exact h))
theorem yields_of {v:Value} (hg:o.guard=none) (h:∀w,S w->(execOp a.eval o).run P w=.ok (.value v) w):YieldsIf P ops S o v a :=
 .inl ⟨by simp [Region.wanted,hg],h⟩
end
section
variable {P:Program} {ops:Array Oper} {Q:Exit->Act->World->Prop} {o:Oper} {a:Act} {w w':World} {i:Nat} {K:Act->World->Prop}
theorem held_value {v:Value} (hi:ops[i]?=some o) (hg:o.guard=none) (hop:(execOp a.eval o).run P w=.ok (.value v) w') (h:K (a.put o.dst v) w'):wpOp P ops Q i K a w:=by
 unfold wpOp
 simp only [hi]
 rw [if_pos (by simp [Region.wanted,hg])]
 unfold Oper.wp
 rw [hop,Oper.upon_value]
 exact .inl h
theorem held_append (hi':ops[i]?=some o) (hgd:o.guard=none) (s x:Operand) (t:TypeId)
  (ho:o.op=.call { callee:=.builtin .append,args:=#[s,x],argTypes:=#[t,t] })
  (base:Nat) (e:TypeId) (ti:TypeInfo) (z:Value) (size bytes:Nat) (ht:P.underlying t=some (.slice e)) (hi:P.info? e=some ti) (hz:ti.zero=some z)
  (hsize:ti.size=size) (hby:ti.bytes=bytes) (hzs:z.cells.size=size) (hsz:0<size)
  (v:Value) (n:Nat) (xs:List Value) (hs:a.eval s=v) (hown:w.ownsRow base e size v n xs)
  (B:Nat) (A:Option Addr) (m c:Nat) (news:List Value) (hx:a.eval x=.slice A m c) (hr:Reads w B size A m news) (h1:∀u∈news,u.oneCell'=true)
  (h63:n+m<=maxLen) (hbytes:(n+m)*bytes<=140737488355328) (hbase:base<=w.heap.size)
  (h:∀v' w',w'.ownsRow base e size v' (n+m) (xs++news)->w.grownBy w' v.ownBlock->(v'.ownBlock=v.ownBlock\/v'.ownBlock=some w.heap.size)->K (a.put o.dst v') w'):wpOp P ops Q i K a w:=by
 unfold wpOp
 simp only [hi']
 rw [if_pos (by simp [Region.wanted,hgd])]
 exact .inl (wp_append_any w s x t ho base e ti z size bytes ht hi hz hsize hby hzs hsz v n xs hs hown B A m c news hx hr h1 h63 hbytes hbase h)
end
section
variable {P:Program} {ops:Array Oper} {Q:Exit->Act->World->Prop} {S:World->Prop} {o:Oper} {a:Act} {w:World}
theorem yields_blk {g:Nat} {C:Array Value} {ty:TypeId} {x:Operand} {d:TypeDesc} (hg:o.guard=none) (ho:o.op=.load ty x) (hx:a.eval x=.pointer (some ⟨g,0,none⟩)) (hu:P.underlying ty=some d) (hd:d.isRow=true) (hi:(P.info? ty).map (·.size)=some C.size)
  (hS:∀w,S w->Blk w g ty C):YieldsIf P ops S o (.agg C) a:=by
 have h:=yieldsIf_load_mid (P:=P) (ops:=ops) (S:=S) (op:=o) (a:=a) (by simp [Region.wanted,hg]) ty x ho g 0 hx C.toList d (fun w hw j v hv=>by
  rw [Nat.zero_add,(hS w hw).cell];simpa using hv) hu hd (by simpa using hi)
 simpa using h
end
abbrev Ty:=Value->World->Prop
def Is (c:Value):Ty:=fun v _=>v=c
def MonoT (t:Ty):Prop:=∀v W W',t v W->Bz W W'->t v W'
def MonoL:List Ty->Prop
 | []=>True
 | t::l=>MonoT t/\MonoL l
theorem mono_at:∀{l:List Ty},MonoL l->∀(i:Nat) {v:Value} {W W':World},(l.getD i (fun _ _=>True)) v W->Bz W W'->(l.getD i (fun _ _=>True)) v W'
 | [],_,_,_,_,_,h,_=>h
 | _::_,hm,0,_,_,_,h,hb=>hm.1 _ _ _ h hb
 | _::_,hm,i+1,_,_,_,h,hb=>mono_at hm.2 i h hb
theorem mono_is (c:Value):MonoT (Is c):=fun _ _ _ h _=>h
open Go Go.RowKit Go.Maps
theorem plainElem_inj {P:Program} {e:TypeId} {u v:Value} {x y:DataW Unit × List MemPlace} (hu:plainElem P e u=some x) (hv:plainElem P e v=some y) (h:x.1=y.1):u=v:=by
 unfold plainElem at hu hv
 split at hu
 ·rename_i h1
  split at hv<;>simp_all
  subst hu hv;simpa using h
 ·rename_i h1
  split at hv<;>simp_all
  obtain ⟨⟨rfl,_⟩,rfl⟩:=hu
  obtain ⟨⟨rfl,_⟩,rfl⟩:=hv
  simpa using h
 ·rename_i h1
  split at hv<;>simp_all
  rename_i a b _
  have e1:=congrArg Prod.fst hu.2
  have e2:=congrArg Prod.fst hv.2
  simp only at e1 e2
  rw [<-e1,<-e2] at h
  simp only [DataW.lit.injEq,Lit.string.injEq] at h
  apply ByteArray.ext
  first | exact Array.toList_inj.1 h | exact (Array.toList_inj.1 h).symm
 ·cases hu
def MapFn (w:World) (P:Program) (k e:TypeId) (b n:Nat) (z:Value) (S:Value->Option Value):Prop :=
 ∃(D zd:DataW Unit),w.ownsMap P k (plainElem P e) b n D/\plainElem P e z=some (zd,[])/\∀key kl,keyOf P k key=some kl->plainElem P e ((S key).getD z)=some (D.atKey kl zd,[])/\Maps.has D kl=(S key).isSome
section
variable {w w':World} {P:Program} {k e t:TypeId} {b n:Nat} {z:Value} {S:Value->Option Value}
theorem MapFn.lt (h:MapFn w P k e b n z S):b<w.heap.size:=by obtain ⟨D,zd,h1,_⟩:=h;exact h1.lt
theorem MapFn.kept {row:Option Nat} (h:MapFn w P k e b n z S) (hg:w.grownBy w' row) (hne:some b≠row):MapFn w' P k e b n z S:=by
 obtain ⟨D,zd,h1,h2⟩:=h;exact ⟨D,zd,h1.kept hg hne,h2⟩
theorem MapFn.alloc (h:MapFn w P k e b n z S) (o:Obj):MapFn (w.alloc o) P k e b n z S:=h.kept (World.grownBy_alloc w o none) (by simp)
theorem MapFn.drew (h:MapFn w P k e b n z S):MapFn w.drew P k e b n z S:=h
theorem MapFn.setCell (h:MapFn w P k e b n z S) {a:Addr} (ha:b≠a.block) (u:Value):MapFn (w.setCell a u) P k e b n z S:=by
 obtain ⟨D,zd,h1,h2⟩:=h;exact ⟨D,zd,h1.setCell ha u,h2⟩
theorem MapFn.below {B:Nat} (h:MapFn w P k e b n z S) (hb:Below B w w') (hB:b<B):MapFn w' P k e b n z S:=by
 obtain ⟨D,zd,⟨es,clock,h1,h1'⟩,h2⟩:=h
 exact ⟨D,zd,⟨es,clock,(hb.block b hB).trans h1,h1'⟩,h2⟩
theorem MapFn.made (w:World) (P:Program) (k e:TypeId) {z:Value} {zd:DataW Unit} (hz:plainElem P e z=some (zd,[])):MapFn (w.alloc (.map #[] 0)) P k e w.heap.size 0 z (fun _=>none):=by
 refine ⟨.map [],zd,World.ownsMap_made w P k _,hz,fun key kl _=>⟨?_,?_⟩⟩
 ·have:(DataW.map []:DataW Unit).atKey kl zd=zd:=Maps.atKey_of_not_has (by simp [Maps.has]) zd
  rw [this];exact hz
 ·simp [Maps.has]
theorem MapFn.look (h:MapFn w P k e b n z S) (K:Keyed P k) (ht:P.underlying t=some (.map k e)) (hz:(zeroValue e).run P w=.ok z w) {key:Value} {kl:Lit} (hkey:keyOf P k key=some kl) :
  (Instr.lookup t (.map (some b)) key false).run P w=.ok ((S key).getD z) w:=by
 obtain ⟨D,zd,h1,hzd,h2⟩:=h
 obtain ⟨v,ps,hrun,hv⟩:=h1.lookup K ht hz hzd hkey
 rw [hrun,plainElem_inj hv (h2 key kl hkey).1 rfl]
theorem MapFn.look_ok (h:MapFn w P k e b n z S) (K:Keyed P k) (ht:P.underlying t=some (.map k e)) (hz:(zeroValue e).run P w=.ok z w) {key:Value} {kl:Lit} (hkey:keyOf P k key=some kl) :
  (Instr.lookup t (.map (some b)) key true).run P w=.ok (.tuple #[(S key).getD z,.bool (S key).isSome]) w:=by
 obtain ⟨D,zd,h1,hzd,h2⟩:=h
 obtain ⟨v,ps,hrun,hv⟩:=h1.look_ok K ht hz hzd hkey
 rw [hrun,plainElem_inj hv (h2 key kl hkey).1 rfl,(h2 key kl hkey).2]
open Classical in
theorem MapFn.put (h:MapFn w P k e b n z S) (K:Keyed P k) (ht:P.underlying t=some (.map k e)) (hn:n<maxLen) {key val:Value} {kl:Lit} {d:DataW Unit} (hkey:keyOf P k key=some kl) (hv:plainElem P e val=some (d,[])) :
  ∃w',(Instr.mapUpdate t (.map (some b)) key val).run P w=.ok () w'/\MapFn w' P k e b (n+1) z (fun x=>if x=key then some val else S x)/\w.grownBy w' (some b):=by
 obtain ⟨D,zd,h1,hzd,h2⟩:=h
 obtain ⟨w',hrun,h3,hg⟩:=h1.update K ht hn hkey hv
 refine ⟨w',hrun,⟨D.put kl d,zd,h3,hzd,fun x xl hx=>?_⟩,hg⟩
 by_cases hxk:x=key
 ·subst hxk
  have:xl=kl:=Option.some.inj (hx.symm.trans hkey)
  subst this
  simp only [if_true]
  rw [Maps.atKey_put_same h1.isMap (K.key hx),Maps.has_put_same h1.isMap (K.key hx)]
  exact ⟨hv,rfl⟩
 ·have hne:xl≠kl:=fun e=>hxk (K.inj hx (by rw [e];exact hkey))
  simp only [if_neg hxk]
  rw [Maps.atKey_put_other hne,Maps.has_put_other hne]
  exact h2 x xl hx
end
open Classical in
theorem wpList_put {P:Program} (w:World) {ops:Array Oper} {rest:List Oper} {o:Oper} {a:Act} {Q:Exit->Act->World->Prop}
  (hg:o.guard=none) (m x v:Operand) (t:TypeId) (hop:o.op=Op.mapUpdate t m x v)
  {k e:TypeId} (K:Keyed P k) (ht:P.underlying t=some (.map k e)) (b n:Nat) {z:Value} {S:Value->Option Value}
  (hm:a.eval m=.map (some b)) (hown:MapFn w P k e b n z S) (hn:n<maxLen) (key val:Value) (kl:Lit) (hx:a.eval x=key) (hv:a.eval v=val) (hkey:keyOf P k key=some kl)
  {d:DataW Unit} (hval:plainElem P e val=some (d,[]))
  (hK:∀w',MapFn w' P k e b (n+1) z (fun y=>if y=key then some val else S y)->w.grownBy w' (some b)->wpList P ops Q rest (a.put o.dst undef) w') :
  wpList P ops Q (o::rest) a w:=by
 refine wpList_plain hg fun K' hK'=>?_
 obtain ⟨w',hrun,r1,r2⟩:=hown.put K ht hn hkey hval
 unfold Oper.wp
 simp [execOp,hop,hm,hx,hv,hrun,Result.andThen]
 exact hK' _ _ (hK w' r1 r2)
open Go Go.RowKit Go.BigFrame
structure Flt where
 paper:Int
 kind:Int
 field:ByteArray
 why:Int
def Flt.cells (x:Flt):List Value:=[.int .i64 x.paper,.int .i64 x.kind,.string x.field,.int .i64 x.why]
abbrev Flt.agg (x:Flt):Value:=.agg #[.int .i64 x.paper,.int .i64 x.kind,.string x.field,.int .i64 x.why]
def fcells (l:List Flt):List Value:=l.flatMap Flt.cells
def FaultsAt (w:World) (A:Option Addr) (l:List Flt):Prop :=
 ∀(k:Nat) (x:Flt),l[k]?=some x->∃b off,A=some ⟨b,off,none⟩/\w.cell? ⟨b,off+k*4,none⟩=some (.int .i64 x.paper)/\w.cell? ⟨b,off+k*4+1,none⟩=some (.int .i64 x.kind) /\
  w.cell? ⟨b,off+k*4+2,none⟩=some (.string x.field)/\w.cell? ⟨b,off+k*4+3,none⟩=some (.int .i64 x.why)
theorem FaultsAt.below {w w':World} {A:Option Addr} {l:List Flt} (h:FaultsAt w A l) (hb:Bz w w'):FaultsAt w' A l:=by
 intro k x hk
 obtain ⟨b,off,e,h0,h1,h2,h3⟩:=h k x hk
 have hlt:b<w.heap.size:=World.block_lt_of_cell? w _ h0
 exact ⟨b,off,e,by rw [hb.cell hlt];exact h0,by rw [hb.cell hlt];exact h1,by rw [hb.cell hlt];exact h2,by rw [hb.cell hlt];exact h3⟩
def alikeL (n:Nat):List UInt8:=([[115,101,108,108,101,114],[102,114,111,109],[116,111],[99,117,114,114,101,110,99,121],[98,111,120,101,115],[109,97,114,107,115]]:List (List UInt8)).getD n []
theorem Blk.four {w:World} {g:Nat} {t:TypeId} {a b c d:Value} (h:Blk w g t #[a,b,c,d]) :
  (w.cell? ⟨g,0,none⟩=some a/\w.cell? ⟨g,1,none⟩=some b/\w.cell? ⟨g,2,none⟩=some c/\w.cell? ⟨g,3,none⟩=some d)/\(∀o,w.frozen? ⟨g,o,none⟩=false) :=
 ⟨⟨by rw [h.cell];rfl,by rw [h.cell];rfl,by rw [h.cell];rfl,by rw [h.cell];rfl⟩,h.frozen⟩
def AlikeAt (w:World):Prop:=∀n,n<6->w.cell? ⟨0,n,none⟩=some (.string (mkB (alikeL n)))
theorem AlikeAt.below {w w':World} (h:AlikeAt w) (hb:Bz w w'):AlikeAt w':=fun n hn =>
 (hb.cell (World.block_lt_of_cell? w _ (h n hn))).trans (h n hn)
theorem grown_set (W:World) (b o:Nat) (v:Value):W.grownBy (W.setCell ⟨b,o,none⟩ v) (some b) :=
 ⟨rfl,rfl,rfl,by simp [World.setCell],fun k _ hk=>Below.heap_setCell _ _ _ _ (fun e=>hk (by rw [e]))⟩
theorem own_set {W:World} {B n g o:Nat} {e t:TypeId} {size:Nat} {v u:Value} {xs:List Value} {cs:Array Value} (h:W.ownsRow B e size v n xs) (hg:Blk W g t cs) (hne:e≠t):(W.setCell ⟨g,o,none⟩ u).ownsRow B e size v n xs :=
 h.kept (grown_set W g o u) (.inr (own_blk_ne h hg hne))
section
variable {w0 w:World} {bf bw B k:Nat} {x:Flt} {a b c d:List UInt8} {v:Value} {xs:List Value}
end
open Go Go.RowKit Go.BigFrame Go.Maps
set_option maxRecDepth 100000
theorem laidOutK:laidOutB Tryz.prog=true:=by kernel_rfl
theorem row40:(54:TypeId)<Tryz.prog.types.size:=of_decide_eq_true (by kernel_rfl)
theorem wide40:(match Tryz.prog.underlying 54 with | some (.array _ _) | some (.struct _)=>true | _=>false)=true:=by kernel_rfl
theorem keyed40:Keyed Tryz.prog 54:=Keyed.of_law (deep_law_laid laidOutK (m:=2) (by omega) row40 (by kernel_rfl) wide40)
theorem cells40:Tryz.prog.cellsOf 54=4:=by kernel_rfl
theorem keyT40:Tryz.prog.keyType 54=true:=by kernel_rfl
theorem depth40:∃d,Tryz.prog.types.size=54+d+1:=Nat.exists_eq_add_of_lt row40
def Flt.fits (x:Flt):Prop:=(Lit.int .i64 x.paper).wf=true/\(Lit.int .i64 x.kind).wf=true/\x.field.size<=maxLen/\(Lit.int .i64 x.why).wf=true
theorem fits_i64 {n:Int} (h0 : -9223372036854775808<=n) (h1:n<=9223372036854775807):(Lit.int .i64 n).wf=true:=WalkArith.wf_i64 ⟨h0,h1⟩
theorem keyF (x:Flt) (h:x.fits):∃l,keyOf Tryz.prog 54 x.agg=some l:=by
 obtain ⟨h1,h2,h3,h4⟩:=h
 obtain ⟨d,hd⟩:=depth40
 unfold keyOf
 rw [Tryz.underlying54]
 have hform:(x.agg).formed Tryz.prog 54=true:=by simp [Value.formed,Tryz.underlying54,cells40]
 simp only [keyT40,hform,Bool.and_self,if_true]
 have c3:Tryz.prog.cellsOf 3=1:=by kernel_rfl
 have c9:Tryz.prog.cellsOf 9=1:=by kernel_rfl
 have hk:∃L,Tryz.prog.keyLits (Tryz.prog.types.size+1) 54 x.agg.cells.toList=some L:=by
  rw [hd]
  refine ⟨[.int .i64 x.paper,.int .i64 x.kind,.string x.field.data.toList,.int .i64 x.why],?_⟩
  unfold Program.keyLits
  simp only [Tryz.underlying54]
  simp [Value.cells,cells40,c3,c9,Program.keyLits,Tryz.underlying3,Tryz.underlying9,h1,h2,h3,h4]
 obtain ⟨L,hL⟩:=hk
 rw [hL];exact ⟨_,rfl⟩
end Go.Proofs.YtdjmckjbibfecaaGreatDoor
namespace Go.Proofs
open Go.Shelf
def Tryz.lays156_ren:Go.Shelf.Ren:=⟨fun | 156=>130 | 165=>177 | 166=>77 | 169=>82 | 240=>128 | 241=>201 | 276=>175 | 277=>223 | n=>n,fun | 31=>155 | 9=>9 | 3=>3 | 4=>4 | 0=>0 | 20=>20 | 72=>115 | 76=>118 | 70=>113 | 37=>33 | 75=>117 | 127=>162 | 164=>192 | 5=>5 | 80=>123 | n=>n,fun | n=>n⟩
theorem Tryz.lays156:Go.Proofs.Lays.n156 Tryz.prog Tryz.lays156_ren:={
 mixed:=by kernel_rfl
 f156:=Tryz.func130.trans (congrArg some (by kernel_rfl))
 f165:=Tryz.func177.trans (congrArg some (by kernel_rfl))
 f166:=Tryz.func77.trans (congrArg some (by kernel_rfl))
 f169:=Tryz.func82.trans (congrArg some (by kernel_rfl))
 f240:=Tryz.func128.trans (congrArg some (by kernel_rfl))
 f241:=Tryz.func201.trans (congrArg some (by kernel_rfl))
 f276:=Tryz.func175.trans (congrArg some (by kernel_rfl))
 f277:=Tryz.func223.trans (congrArg some (by kernel_rfl))
 t0:=Tryz.underlying0
 a0:=Tryz.isAgg0
 z0:=Tryz.sizeOf0
 v0:=Tryz.zeroValue0
 t3:=Tryz.underlying3
 a3:=Tryz.isAgg3
 z3:=Tryz.sizeOf3
 v3:=Tryz.zeroValue3
 t4:=Tryz.underlying4
 a4:=Tryz.isAgg4
 z4:=Tryz.sizeOf4
 v4:=Tryz.zeroValue4
 t9:=Tryz.underlying9
 a9:=Tryz.isAgg9
 z9:=Tryz.sizeOf9
 v9:=Tryz.zeroValue9
 t20:=Tryz.underlying20
 a20:=Tryz.isAgg20
 z20:=Tryz.sizeOf20
 v20:=Tryz.zeroValue20
 t31:=Tryz.underlying155
 a31:=Tryz.isAgg155
 z31:=Tryz.sizeOf155
 v31:=Tryz.zeroValue155
 t37:=Tryz.underlying33
 a37:=Tryz.isAgg33
 z37:=Tryz.sizeOf33
 v37:=Tryz.zeroValue33
 t70:=Tryz.underlying113
 a70:=Tryz.isAgg113
 z70:=Tryz.sizeOf113
 v70:=Tryz.zeroValue113
 t72:=Tryz.underlying115
 a72:=Tryz.isAgg115
 z72:=Tryz.sizeOf115
 v72:=Tryz.zeroValue115
 t75:=Tryz.underlying117
 a75:=Tryz.isAgg117
 z75:=Tryz.sizeOf117
 v75:=Tryz.zeroValue117
 t76:=Tryz.underlying118
 a76:=Tryz.isAgg118
 z76:=Tryz.sizeOf118
 v76:=Tryz.zeroValue118
 t127:=Tryz.underlying162
 a127:=Tryz.isAgg162
 z127:=Tryz.sizeOf162
 v127:=Tryz.zeroValue162
 t164:=Tryz.underlying192
 a164:=Tryz.isAgg192
 z164:=Tryz.sizeOf192
 v164:=Tryz.zeroValue192 }
theorem Tryz.Builder_Extra_156:Builder.Extra Tryz.prog Tryz.lays156_ren:={
 sizeBuilder:=by kernel_rfl
 liesBuilder:=by kernel_rfl
 t5:=Tryz.underlying5
 a5:=Tryz.isAgg5
 z5:=Tryz.sizeOf5
 v5:=Tryz.zeroValue5
 infoByte:=by kernel_rfl
 cellsByte:=by kernel_rfl
 sizeByte:=by kernel_rfl
 neB5:=by decide }
open Go.RowKit in
theorem Tryz.strings_Join_none (a:Option Addr) (c:Nat) (sep:ByteArray) (w:World) :
  Calls Tryz.prog 130 #[.slice a 0 c,.string sep] w fun e w'=>e=.returned (.string ⟨#[]⟩)/\w'=w:=Any.strings_Join_none Tryz.lays156 Tryz.Builder_Extra_156 a c sep w
open Go.RowKit in
theorem Tryz.strings_Join (bk o c:Nat) (xs:List ByteArray) (sep:ByteArray) (w:World) (hcells:∀(j:Nat) x,xs[j]?=some x->w.cell? ⟨bk,o+j,none⟩=some (.string x)) (hbk:bk<w.heap.size) (hN:xs.length<=140737488355328) (hcap:xs.length<=c) (hlen:(Lib.join (xs.map (·.data.toList)) sep.data.toList).length<=140737488355328) :
  Calls Tryz.prog 130 #[.slice (some ⟨bk,o,none⟩) xs.length c,.string sep] w fun e w'=>e=.returned (.string ⟨(Lib.join (xs.map (·.data.toList)) sep.data.toList).toArray⟩)/\Below w.heap.size w w':=Any.strings_Join Tryz.lays156 Tryz.Builder_Extra_156 bk o c xs sep w hcells hbk hN hcap hlen
def Tryz.laysM171_ren:Go.Shelf.Ren:=⟨fun | 171=>129 | 243=>176 | 246=>196 | 283=>218 | 284=>219 | 285=>220 | 286=>221 | 129=>147 | 317=>238 | 318=>239 | 319=>240 | 320=>241 | 337=>252 | 338=>253 | n=>n,fun | 3=>3 | 9=>9 | 2=>2 | 4=>4 | 171=>223 | 0=>0 | 53=>132 | 37=>33 | 5=>5 | 173=>225 | 212=>244 | 51=>130 | 20=>20 | 213=>245 | 46=>38 | 232=>257 | 233=>258 | n=>n,fun | 17=>8 | 18=>9 | 19=>10 | n=>n⟩
theorem Tryz.laysM171:Go.Proofs.LaysM.n171 Tryz.prog Tryz.laysM171_ren:={
 mixed:=by kernel_rfl
 f129:=Tryz.func147.trans (congrArg some (by kernel_rfl))
 f171:=Tryz.func129.trans (congrArg some (by kernel_rfl))
 f243:=Tryz.func176.trans (congrArg some (by kernel_rfl))
 f246:=Tryz.func196.trans (congrArg some (by kernel_rfl))
 f283:=Tryz.func218.trans (congrArg some (by kernel_rfl))
 f284:=Tryz.func219.trans (congrArg some (by kernel_rfl))
 f285:=Tryz.func220.trans (congrArg some (by kernel_rfl))
 f286:=Tryz.func221.trans (congrArg some (by kernel_rfl))
 f317:=Tryz.func238.trans (congrArg some (by kernel_rfl))
 f318:=Tryz.func239.trans (congrArg some (by kernel_rfl))
 f319:=Tryz.func240.trans (congrArg some (by kernel_rfl))
 f320:=Tryz.func241.trans (congrArg some (by kernel_rfl))
 f337:=Tryz.func252.trans (congrArg some (by kernel_rfl))
 f338:=Tryz.func253.trans (congrArg some (by kernel_rfl))
 t0:=Tryz.underlying0
 a0:=Tryz.isAgg0
 z0:=Tryz.sizeOf0
 v0:=Tryz.zeroValue0
 t2:=Tryz.underlying2
 a2:=Tryz.isAgg2
 z2:=Tryz.sizeOf2
 v2:=Tryz.zeroValue2
 t3:=Tryz.underlying3
 a3:=Tryz.isAgg3
 z3:=Tryz.sizeOf3
 v3:=Tryz.zeroValue3
 t4:=Tryz.underlying4
 a4:=Tryz.isAgg4
 z4:=Tryz.sizeOf4
 v4:=Tryz.zeroValue4
 t5:=Tryz.underlying5
 a5:=Tryz.isAgg5
 z5:=Tryz.sizeOf5
 v5:=Tryz.zeroValue5
 t9:=Tryz.underlying9
 a9:=Tryz.isAgg9
 z9:=Tryz.sizeOf9
 v9:=Tryz.zeroValue9
 t20:=Tryz.underlying20
 a20:=Tryz.isAgg20
 z20:=Tryz.sizeOf20
 v20:=Tryz.zeroValue20
 t37:=Tryz.underlying33
 a37:=Tryz.isAgg33
 z37:=Tryz.sizeOf33
 v37:=Tryz.zeroValue33
 t46:=Tryz.underlying38
 a46:=Tryz.isAgg38
 z46:=Tryz.sizeOf38
 v46:=Tryz.zeroValue38
 t51:=Tryz.underlying130
 a51:=Tryz.isAgg130
 z51:=Tryz.sizeOf130
 v51:=Tryz.zeroValue130
 t53:=Tryz.underlying132
 a53:=Tryz.isAgg132
 z53:=Tryz.sizeOf132
 v53:=Tryz.zeroValue132
 t171:=Tryz.underlying223
 a171:=Tryz.isAgg223
 z171:=Tryz.sizeOf223
 v171:=Tryz.zeroValue223
 t173:=Tryz.underlying225
 a173:=Tryz.isAgg225
 z173:=Tryz.sizeOf225
 v173:=Tryz.zeroValue225
 t212:=Tryz.underlying244
 a212:=Tryz.isAgg244
 z212:=Tryz.sizeOf244
 v212:=Tryz.zeroValue244
 t213:=Tryz.underlying245
 a213:=Tryz.isAgg245
 z213:=Tryz.sizeOf245
 t232:=Tryz.underlying257
 a232:=Tryz.isAgg257
 z232:=Tryz.sizeOf257
 v232:=Tryz.zeroValue257
 t233:=Tryz.underlying258
 a233:=Tryz.isAgg258
 z233:=Tryz.sizeOf258
 v233:=Tryz.zeroValue258
 g17:=by kernel_rfl
 g18:=by kernel_rfl
 g19:=by kernel_rfl
 i0:=by kernel_rfl
 i2:=by kernel_rfl
 i3:=by kernel_rfl
 i4:=by kernel_rfl
 i5:=by kernel_rfl
 i9:=by kernel_rfl
 i20:=by kernel_rfl
 i37:=by kernel_rfl
 i46:=by kernel_rfl
 i51:=by kernel_rfl
 i53:=by kernel_rfl
 i171:=by kernel_rfl
 i173:=by kernel_rfl
 i212:=by kernel_rfl
 i232:=by kernel_rfl
 i233:=by kernel_rfl
 m17:=by kernel_rfl
 m18:=by kernel_rfl
 m19:=by kernel_rfl }
open Go.RowKit Go.Sort Go.Lib in
theorem Tryz.strconv_Itoa (n : Int) (h0 : -9223372036854775808 ≤ n) (h1 : n ≤ 9223372036854775807) (w : World) (htab : Lib.TabIs Tryz.prog w "internal/strconv.uint64pow10" .u64 Lib.pow10Tab) :
  Calls Tryz.prog 129 #[.int .i64 n] w fun e w'=>e=.returned (.string ⟨(Lib.itoa n).toArray⟩)/\∃k os,w'=grow (w.drewN k) os:=Any.strconv_Itoa Tryz.laysM171 n h0 h1 w htab
end Go.Proofs
namespace Go.Proofs.YtdjmckjbibfecaaGreatDoor.Tx
open Go Go.RowKit Go.BigFrame
def kindL (n:Nat):List UInt8:=([[105,110,118,111,105,99,101],[112,97,99,107,105,110,103],[108,97,100,105,110,103],[105,110,115,117,114,97,110,99,101],[111,114,105,103,105,110],[100,114,97,102,116]]:List (List UInt8)).getD n []
def whyL (n:Nat):List UInt8:=([[102,105,110,101],[108,97,99,107,115],[102,97,105,108,115],[117,110,108,105,107,101],[108,97,116,101],[109,117,99,104],[102,101,119]]:List (List UInt8)).getD n []
structure Env (w:World):Prop where
 tab : Lib.TabIs Tryz.prog w "internal/strconv.uint64pow10" .u64 Lib.pow10Tab
 most:∃m,w.cell? ⟨5,0,none⟩=some (.int .i64 m)
 kinds:∀n,n<6->w.cell? ⟨1,n,none⟩=some (.string (mkB (kindL n)))
 whys:∀n,n<7->w.cell? ⟨2,n,none⟩=some (.string (mkB (whyL n)))
 alike:∀n,n<6->w.cell? ⟨0,n,none⟩=some (.string (mkB (alikeL n)))
 syn:∃te pe,w.cell? ⟨6,0,none⟩=some (.iface te pe)
 ran:∃te pe,w.cell? ⟨7,0,none⟩=some (.iface te pe)
 size:12<=w.heap.size
theorem Env.below {w w':World} (h:Env w) (hb:Bz w w'):Env w':=by
 have hs:=h.size
 have hc:∀b n,b<12->w'.cell? ⟨b,n,none⟩=w.cell? ⟨b,n,none⟩:=fun b n hn=>hb.cell (by show b<w.heap.size;omega)
 refine ⟨var?_below hb (g:=8) (by kernel_rfl) (by omega) h.tab,?_,fun n hn=>?_,fun n hn=>?_,fun n hn=>?_,?_,?_,Nat.le_trans hs hb.size⟩
 ·obtain ⟨m,hm⟩:=h.most
  exact ⟨m,by rw [hc _ _ (by omega)];exact hm⟩
 ·rw [hc _ _ (by omega)];exact h.kinds n hn
 ·rw [hc _ _ (by omega)];exact h.whys n hn
 ·rw [hc _ _ (by omega)];exact h.alike n hn
 ·obtain ⟨t,p,hm⟩:=h.syn
  exact ⟨t,p,by rw [hc _ _ (by omega)];exact hm⟩
 ·obtain ⟨t,p,hm⟩:=h.ran
  exact ⟨t,p,by rw [hc _ _ (by omega)];exact hm⟩
theorem itoa_any (n:Int) (w:World) (h0 : -9223372036854775808<=n) (h1:n<=9223372036854775807) (he:Env w) :
  Calls Tryz.prog 129 #[.int .i64 n] w fun e w'=>e=.returned (.string (mkB (Lib.itoa n)))/\Bz w w':=by
 refine (Tryz.strconv_Itoa n h0 h1 w he.tab).mono ?_
 rintro e w' ⟨rfl,k,os,rfl⟩
 exact ⟨rfl,below_grows w k os⟩
def dash:List UInt8:=[45]
def paperT (x:Flt):List UInt8:=if x.paper = -1 then dash else Lib.itoa x.paper
def kindT (n:Int):List UInt8:=if 0<=n/\n<6 then kindL n.toNat else dash
def fieldT (s:ByteArray):List UInt8:=if s.data.toList=[] then dash else s.data.toList
def whyT (n:Int):List UInt8:=if 0<=n/\n<7 then whyL n.toNat else dash
def oneT (x:Flt):List UInt8:=paperT x++[32]++kindT x.kind++[32]++fieldT x.field++[32]++whyT x.why
def textF (l:List Flt):List UInt8:=Lib.join (l.map oneT) [59,32]
theorem Tryz.info9:(Tryz.prog.info? 9).map (fun i=>(i.zero,i.size,i.bytes))=some (some (.string ⟨#[]⟩),1,16):=by kernel_rfl
end Go.Proofs.YtdjmckjbibfecaaGreatDoor.Tx

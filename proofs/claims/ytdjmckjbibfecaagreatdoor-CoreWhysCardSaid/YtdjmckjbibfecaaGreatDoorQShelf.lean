import Derived.Test.YtdjmckjbibfecaaGreatDoorCards
import Derived.Test.YtdjmckjbibfecaaGreatDoorTie
import Derived.ProofKit
import Derived.OpenShut
import Derived.ShutString
import Derived.ChangeOld
import Derived.Deep.Slices
import Derived.Deep.Fields
import Derived.ChangeSame
import Derived.Lib.SmallJoins
import Derived.Deep.DeepHandedRow
import Derived.Lib.LaidTab
import Derived.Stop.LaidErr
import Derived.LaidSub
import Derived.MakeChecks
import Derived.Shelf.Strings.Builder1
import Derived.Shelf.Strings.BuilderF
import Derived.Shelf.Strings.BuilderK
import Derived.Test.YtdjmckjbibfecaaGreatDoorProg
import Derived.Shelf.Strings.Builder2
import Derived.Shelf.Strings.OnBuilder
import Derived.Shelf.Strconv.Itoa0
import Derived.Shelf.Strconv.Itoa1
import Derived.Shelf.LaysM
import Derived.Shelf.Strconv.Itoa2
import Derived.Shelf.Strconv.Itoa3
import Derived.Shelf.Strconv.Itoa4
import Derived.Shelf.Strconv.ParseIntEmpty
import Derived.Shelf.Strconv.Clone
import Derived.Shelf.Strconv.SyntaxError
import Derived.Shelf.LaysC
import Derived.Shelf.Strconv.ToError
import Derived.Shelf.Strconv.Lower
import Derived.Shelf.Strconv.ParseUint10
import Derived.Shelf.Strconv.ParseUint10Empty
import Derived.Shelf.Strconv.ParseUint10Any
import Derived.Shelf.Strconv.ParseInt10
import Derived.Shelf.Strconv.RangeError
import Derived.Shelf.Strconv.ToErrorRange
import Derived.Shelf.Strconv.ParseUintEmpty
import Derived.Shelf.Strconv.ParseUint10b64
import Derived.Shelf.Strconv.ParseUint10b32
import Derived.Shelf.Strconv.ParseUint10b16
import Derived.Shelf.Strconv.ParseUint10b8
import Derived.Shelf.Strconv.ParseUint10At
import Derived.Shelf.Strconv.ParseInt10At64
import Derived.Shelf.Strconv.ParseInt10At32
import Derived.Shelf.Strconv.ParseInt10At16
import Derived.Shelf.Strconv.ParseInt10At8
import Derived.Shelf.Strconv.ParseInt10All
import Derived.Shelf.Strconv.ParseIntPublic10
import Derived.Shelf.Strconv.ErrVarParseInt
import Derived.Shelf.GgClosure.StringsIndexFunc
import Derived.Ground.GgwProg
import Derived.Shelf.GgClosure.StringsIndexFuncTop
import Derived.Shelf.GgClosure.StringsRunes
import Derived.Shelf.Strings.FuncGrows
import Derived.Shelf.Slices.Turned
import Derived.Test.YtdjmckjbibfecaaGreatDoorFb
import Derived.Test.YtdjmckjbibfecaaGreatDoorFt
import Derived.Test.YtdjmckjbibfecaaGreatDoorFv
import Derived.Test.YtdjmckjbibfecaaGreatDoorHa
import Derived.Test.YtdjmckjbibfecaaGreatDoorVc
import Derived.Test.YtdjmckjbibfecaaGreatDoorVj
import Derived.Test.YtdjmckjbibfecaaGreatDoorWg
namespace Go.Proofs.YtdjmckjbibfecaaGreatDoor
open Go
theorem core_lt {t:Tree} {stn:Nat->Nat} {p:List Nat} (h:IsCore t stn p):∀i∈p,i<(atomsT t).length:=by
 obtain ⟨S,rfl,_⟩:=h
 intro i hi
 exact List.mem_range.1 (List.mem_filter.1 hi).1
section
variable {t:Tree} {stn:Nat->Nat} (h3:∀i,stn i<3)
include h3
theorem coresD_core {st:List Int} {m:Nat} (hm:(atomsT t).length=m) (hl:st.length=m) (hst:∀i,i<st.length->st[i]?=some (stn i:Int)) {p:List Nat} (hp:p∈coresD t st):IsCore t stn p:=by
 have h:=((foldD (t:=t) hl (2 ^ m) leZ).2 p).1 (by unfold coresD at hp;rw [hl] at hp;exact hp)
 exact (coreD_iff h3 hm hl hst).1 h
end
open Go Go.RowKit Go.BigFrame Go.Maps
set_option maxRecDepth 100000
structure ExamC (w:World) (C:Array Value) (A:Option Addr) (nn cc:Nat) (day:Int) (L:List Flt):Prop where
 prog:∀W,Bz w W->Calls Tryz.prog 21 #[.agg C,.slice A nn cc,.int .i64 day] W (FaultedC W L)
 size:(Tryz.prog.info? 46).map (·.size)=some C.size
 len:L.length<=20000
 fits:∀x∈L,x.fits
theorem ExamC.at_ {w w':World} {C:Array Value} {A:Option Addr} {nn cc:Nat} {day:Int} {L:List Flt} (h:ExamC w C A nn cc day L) (hb:Bz w w'):ExamC w' C A nn cc day L :=
 ⟨fun W hW=>h.prog W (hb.trans (hW.mono hb.size)),h.size,h.len,h.fits⟩
def fewDay (needs:List Nd) (docs:List Pap) (day:Int):Bool:=fewB needs docs&&(decide (-1073741824<=day)&&decide (day<=1073741824))
theorem few5_any (C:Array Value) (nA:Option Addr) (nl nc:Nat) (needs:List Nd) (A:Option Addr) (nn cc:Nat) (docs:List Pap) (day:Int) (w:World) (hCz:Hid (C.size=18)) (hC17:C[17]?=some (.slice nA nl nc)) (hnl:Hid (needs.length=nl)) (hnn:Hid (docs.length=nn)) (hml:nl<=maxLen) (hmn:nn<=maxLen) (hN:Hid (NdsAt w nA needs)) (hD:Hid (DocsAt w A docs)) (hLD:Hid (LongD docs)) :
  Calls Tryz.prog 20 #[.agg C,.slice A nn cc,.int .i64 day] w fun e w'=>e=.returned (.bool (fewDay needs docs day))/\Bz w w':=by
 have hsz:Hid ((Tryz.prog.info? 46).map (·.size)=some C.size):=by unfold Hid;rw [hCz.out];kernel_rfl
 obtain ⟨w1,hw1,hb1,hbk⟩:=newZ w 46 C
 have hfew:=hdZ (few_any C nA nl nc needs A nn cc docs w1 hCz hC17 hnl hnn hml hmn (hdZ (hN.out.below hb1.out)) (hdZ (hD.out.below hb1.out)) hLD)
 obtain ⟨R,hR⟩:=nmZ (fewDay needs docs day)
 obtain ⟨F,hF⟩:∃F,fewB needs docs=F:=⟨_,rfl⟩
 have hRe:Hid (R=(F&&(decide (-1073741824<=day)&&decide (day<=1073741824)))):=by unfold Hid;rw [<-hR.out,fewDay,hF]
 rw [hF] at hfew
 rw [hR.out]
 clear hF hR
 go_enter Tryz.func20,Tryz.ntmps20
 go_wp2_with (first | rw [hw1.out] | (refine wpList_load_blk rfl 46 (.tmp 3) rfl w.heap.size C 46 _ rfl hbk.out Tryz.underlying46 rfl hsz.out ?_))
 refine hfew.out.mono ?_
 rintro e w2 ⟨rfl,hb2⟩
 have hB2:=btY hb1 hb2
 clear hb2 hfew
 cases F with
 | false =>
  go_wp2_with fail
  go_ret
  exact ⟨by rw [hRe.out];rfl,hB2.out⟩
 | true =>
  by_cases h1 : -1073741824<=day
  ·have d1:decide (-1073741824<=day)=true:=dtZ h1
   by_cases h2:day<=1073741824
   ·have d2:decide (day<=1073741824)=true:=dtZ h2
    have hR1:Hid (R=true):=by unfold Hid;rw [hRe.out,d1,d2];rfl
    go_wp2_with fail
    go_ret
    exact ⟨by rw [hR1.out];rfl,hB2.out⟩
   ·have d2:decide (day<=1073741824)=false:=dfZ h2
    have hR1:Hid (R=false):=by unfold Hid;rw [hRe.out,d1,d2];rfl
    go_wp2_with fail
    go_ret
    exact ⟨by rw [hR1.out];rfl,hB2.out⟩
  ·have d1:decide (-1073741824<=day)=false:=dfZ h1
   have hR1:Hid (R=false):=by unfold Hid;rw [hRe.out,d1];rfl
   go_wp2_with fail
   go_ret
   exact ⟨by rw [hR1.out];rfl,hB2.out⟩
theorem coresE_long {docs:List Pap} {t:Tree} {a:Int} (h:12<(atomsT t).length):coresE docs t a=[]:=by
 unfold coresE
 split
 ·rw [if_pos (.inl h)]
 ·rfl
theorem coresE_rows {docs:List Pap} {t:Tree} {a:Int} (h:(atomsT t).length<=12):(coresE docs t a).length<=5000/\∀p∈coresE docs t a,p.length<=12:=by
 unfold coresE
 split
 ·rename_i d _
  split
  ·exact ⟨by simp,by simp⟩
  ·have hl:(stL docs d t).length=(atomsT t).length:=by rw [stL,List.length_map]
   have:=CDq_all t (stL docs d t) (2 ^ (stL docs d t).length)
   have hp:2 ^ (stL docs d t).length<=4096:=by rw [hl];exact Nat.pow_le_pow_right (by omega) h
   exact ⟨Nat.le_trans this.1 (by omega),fun p hp'=>Nat.le_trans (this.2 p hp') (by omega)⟩
 ·exact ⟨by simp,by simp⟩
theorem exam_len {c:Crd} {needs:List Nd} {docs:List Pap} {day:Int} (hF:FewParts needs) (hn:docs.length<=13):(examF c needs docs day).length<=20000:=by
 have h1:=addAll_len (toldE c needs docs day) []
 have h2:=docs_len (c:=c) (docs:=docs) (day:=day) hF docs.length
 have h3:=flat_le _ (lackF_le docs) needs
 have h4:(expF c day).length<=1:=by unfold expF;split<;>simp
 have h5:=hF.1
 unfold toldE at h1
 simp only [List.length_append,List.length_nil] at h1
 unfold examF toldE
 omega
open Go Go.ChangeShapes Go.WideShapes Go.ChangeAt Go.RowKit Go.Deep
theorem own:ownKnob Tryz.prog.godebug=none:=by kernel_rfl
theorem laidOut:laidOutB Tryz.prog=true:=by kernel_rfl
theorem strtab {P:Program} {W:World} {name:String} {rest:List (String × DataW Unit)} {g:Nat} {t e:TypeId} {n:Nat} (ss:List (List UInt8))
  (hg:P.globalNamed name=some g) (hty:(P.globals[g]?).map (·.type)=some t) (ht:P.underlying t=some (.array n e)) (he:P.underlying e=some .string) (hce:P.cellsOf e=1) (hss:ss.length=n)
  (h:laidMet P ((name,.agg (ss.map fun s=>.lit (.string s)))::rest) W):∀r,r<n->W.cell? ⟨g,r,none⟩=some (.string ((⟨(ss.getD r []).toArray⟩:ByteArray))):=by
 intro r hr
 obtain ⟨ps,⟨g',t',cs,fuel,p,q,hg',ht',hv,hd,_,_⟩,_,_⟩:=h
 obtain rfl:=Option.some.inj (hg.symm.trans hg')
 obtain rfl:=Option.some.inj (hty.symm.trans ht')
 obtain ⟨xs,m,_,ex,_,hl,hel⟩:=DataW.trod_array ht hd
 have hE:=hel r hr
 rw [hce,Nat.mul_one,gZ (by omega)] at hE
 obtain ⟨z,e1,e2,_⟩:=DataW.trod_string he hE
 have e3:(xs.map (·.1))=ss.map fun s=>.lit (.string s):=(DataW.agg.inj (Prod.mk.inj ex).1).symm
 have e4:(xs.map (·.1))[r]?=(ss.map fun s=>(DataW.lit (.string s):DataW Unit))[r]?:=by rw [e3]
 rw [List.getElem?_map,List.getElem?_map,gZ (by omega:r<xs.length),gZ (by omega:r<ss.length),e2] at e4
 have hz:z=(⟨(ss.getD r []).toArray⟩:ByteArray):=by
  simp only [Option.map_some,Option.some.injEq,DataW.lit.injEq,Lit.string.injEq] at e4
  rw [List.getD,gZ (by omega:r<ss.length)]
  apply ByteArray.ext
  simp only [Option.getD_some]
  rw [<-e4]
 rw [World.var?_cell hg hv r,<-hz]
 have:cs.toList[r]?=some (.string z):=by
  have h0:((cs.toList.drop r).take 1)[0]?=some (.string z):=by rw [e1];rfl
  simpa using h0
 simpa using this
section
variable {H:Type} {enc:TypeId × Value->H} {P:Program} {w:World} {base:Nat} {spare:Nat->Bool} {held:Bool}
end
theorem list_of {α:Type} (n:Nat) (R:Nat->α->Prop) (h:∀i,i<n->∃x,R i x):∃l:List α,l.length=n/\∀i x,l[i]?=some x->R i x:=by
 induction n with
 | zero=>exact ⟨[],rfl,by simp⟩
 | succ n ih =>
  obtain ⟨l,hl,hR⟩:=ih fun i hi=>h i (by omega)
  obtain ⟨x,hx⟩:=h n (by omega)
  refine ⟨l++[x],by simp [hl],fun i y hy=>?_⟩
  by_cases hi:i<n
  ·rw [List.getElem?_append_left (by omega)] at hy;exact hR i y hy
  ·have:i=n:=by
    have:=(gsZ.1 hy).1
    simp [hl] at this;omega
   subst this
   rw [List.getElem?_append_right (by omega)] at hy
   simp [hl] at hy;subst hy;exact hx
theorem ifacevar {P:Program} {W:World} {name nm:String} {d:DataW Unit} {rest:List (String × DataW Unit)} {g:Nat} {t:TypeId} {ms:Array (String × TypeId)}
  (hg:P.globalNamed name=some g) (hty:(P.globals[g]?).map (·.type)=some t) (ht:P.underlying t=some (.interface ms))
  (h:laidMet P ((name,.iface nm d)::rest) W):∃te pe,W.cell? ⟨g,0,none⟩=some (.iface te pe):=by
 obtain ⟨ps,⟨g',t',cs,fuel,p,q,hg',ht',hv,hd,_,_⟩,_,_⟩:=h
 obtain rfl:=Option.some.inj (hg.symm.trans hg')
 obtain rfl:=Option.some.inj (hty.symm.trans ht')
 obtain ⟨l⟩:=cs
 rw [World.var?_cell hg hv 0]
 cases fuel with
 | zero=>simp [DataW.trod] at hd
 | succ n =>
  rcases l with _ | ⟨E,_ | ⟨E',r⟩⟩
  ·simp [DataW.trod,ht] at hd
  ·cases E<;>simp [DataW.trod,ht] at hd
   exact ⟨_,_,rfl⟩
  ·cases E<;>simp [DataW.trod,ht] at hd
theorem gTab : Tryz.prog.globalNamed "internal/strconv.uint64pow10" = some 8 := by kernel_rfl
theorem gTabType:(Tryz.prog.globals[8]?).map (·.type)=some 244:=by kernel_rfl
theorem cellsTab:Tryz.prog.cellsOf 244=20:=by kernel_rfl
theorem cellsU64:Tryz.prog.cellsOf 132=1:=by kernel_rfl
theorem env_of {W : World} {L : List (String × DataW Unit)} (hl : (L.filter (fun x => x.1 == "internal/strconv.uint64pow10") = [("internal/strconv.uint64pow10", Lib.tabData .u64 Lib.pow10Tab)]) ∧ (L.filter (fun x => x.1 == "strconv.ErrSyntax") = [("strconv.ErrSyntax", Rows.laid_strconv_ErrSyntax)]) ∧ (L.filter (fun x => x.1 == "strconv.ErrRange") = [("strconv.ErrRange", Rows.laid_strconv_ErrRange)])) (h : laidMetH Tryz.prog L W) (hs : W.ShapedOpen Tryz.prog) : Env W := by
 obtain ⟨l1,l2,l3⟩:=hl
 refine ⟨?_,?_,?_,?_,?_⟩
 ·have h1 := laidMetH.filter (fun x => x.1 == "internal/strconv.uint64pow10") h
  rw [l1] at h1
  exact Lib.tabIs_of_head (rest:=[]) gTab gTabType Tryz.underlying244 Tryz.underlying132 cellsU64 cellsTab h1
 ·exact Go.Proofs.cell_of_shapedOpen_int (zero:=#[.int .i64 0]) (t:=3) hs (of_decide_eq_true (by kernel_rfl)) (by kernel_rfl) rfl (by kernel_rfl) (by kernel_rfl) Tryz.underlying3
 ·have h1 := laidMetH.filter (fun x => x.1 == "strconv.ErrSyntax") h
  rw [l2,MakeChecks.laidMetH_plain _ _ _ (by kernel_rfl)] at h1
  exact ifacevar (t:=117) (by kernel_rfl) (by kernel_rfl) Tryz.underlying117 h1
 ·have h1 := laidMetH.filter (fun x => x.1 == "strconv.ErrRange") h
  rw [l3,MakeChecks.laidMetH_plain _ _ _ (by kernel_rfl)] at h1
  exact ifacevar (t:=117) (by kernel_rfl) (by kernel_rfl) Tryz.underlying117 h1
 ·have h0:(((begin Tryz.prog (fun _ _=>0) default).world.heap[11]?).bind Obj.row?).isSome=true:=by kernel_rfl
  obtain ⟨⟨zero,t⟩,hz⟩:=Option.isSome_iff_exists.1 h0
  obtain ⟨cs,hh,_⟩:=hs.1 11 zero t (of_decide_eq_true (by kernel_rfl)) hz
  rcases Nat.lt_or_ge 11 W.heap.size with h | h
  ·omega
  ·rw [Array.getElem?_eq_none h] at hh;simp at hh
end Go.Proofs.YtdjmckjbibfecaaGreatDoor
namespace Go.Proofs
open Go.Shelf
def Tryz.lays169_ren:Go.Shelf.Ren:=⟨fun | 169=>82 | n=>n,fun | 70=>113 | 9=>9 | 0=>0 | 72=>115 | 37=>33 | 127=>162 | 3=>3 | 5=>5 | n=>n,fun | n=>n⟩
theorem Tryz.lays169:Go.Proofs.Lays.n169 Tryz.prog Tryz.lays169_ren:={
 mixed:=by kernel_rfl
 f169:=Tryz.func82.trans (congrArg some (by kernel_rfl))
 t0:=Tryz.underlying0
 a0:=Tryz.isAgg0
 z0:=Tryz.sizeOf0
 v0:=Tryz.zeroValue0
 t3:=Tryz.underlying3
 a3:=Tryz.isAgg3
 z3:=Tryz.sizeOf3
 v3:=Tryz.zeroValue3
 t9:=Tryz.underlying9
 a9:=Tryz.isAgg9
 z9:=Tryz.sizeOf9
 v9:=Tryz.zeroValue9
 t37:=Tryz.underlying33
 a37:=Tryz.isAgg33
 z37:=Tryz.sizeOf33
 v37:=Tryz.zeroValue33
 t70:=Tryz.underlying113
 a70:=Tryz.isAgg113
 z70:=Tryz.sizeOf113
 v70:=Tryz.zeroValue113
 t72:=Tryz.underlying115
 a72:=Tryz.isAgg115
 z72:=Tryz.sizeOf115
 v72:=Tryz.zeroValue115
 t127:=Tryz.underlying162
 a127:=Tryz.isAgg162
 z127:=Tryz.sizeOf162
 v127:=Tryz.zeroValue162 }
theorem Tryz.Builder_Extra_169:Builder.Extra Tryz.prog Tryz.lays169_ren:={
 sizeBuilder:=by kernel_rfl
 liesBuilder:=by kernel_rfl
 t5:=Tryz.underlying5
 a5:=Tryz.isAgg5
 z5:=Tryz.sizeOf5
 v5:=Tryz.zeroValue5
 infoByte:=by kernel_rfl
 cellsByte:=by kernel_rfl
 sizeByte:=by kernel_rfl
 neB5:=by decide }
open Go.RowKit in
theorem Tryz.Builder_String_any_k (B b:Nat) (l:List UInt8) (w:World) (h:Lib.IsBuilderF 115 5 B b (Lib.byteCells l) w) (hBw:B<=w.heap.size) :
  Calls Tryz.prog 82 #[.pointer (some ⟨b,0,none⟩)] w fun e w'=>e=.returned (.string ⟨l.toArray⟩)/\(Lib.IsBuilderF 115 5 B b (Lib.byteCells l) w'/\Below B w w'/\Lib.OthersKept 5 (some b) w w'):=Any.Builder_String_any_k Tryz.lays169 Tryz.Builder_Extra_169 B b l w h hBw
end Go.Proofs
namespace Go.Proofs.YtdjmckjbibfecaaGreatDoor
open Go Go.RowKit Go.BigFrame Go.Maps
abbrev Bld (w:World) (B b:Nat) (acc:List UInt8):Prop:=Lib.IsBuilderF 115 5 B b (Lib.byteCells acc) w
theorem ownF_below {w w':World} {B:Nat} {e:TypeId} {size n:Nat} {v:Value} {xs:List Value} (h:w.ownsRowF B e size v n xs) (hb:Bz w w'):w'.ownsRowF B e size v n xs :=
 h.kept (row:=none) ⟨hb.os,hb.tape,hb.output,hb.size,fun k hk _=>hb.block k hk⟩ (by
  rcases hv:v.ownBlock with _ | k
  ·exact .inl rfl
  ·exact .inr (by simp))
theorem builderAt_below {w w':World} {T e:TypeId} {B b:Nat} {p:Value} {bs:List Value} (h:Lib.BuilderAtF T e B b p bs w) (hb:Bz w w'):Lib.BuilderAtF T e B b p bs w':=by
 obtain ⟨hB,v,hv,ho,hne⟩:=h
 have hlt:b<w.heap.size:=by
  rcases Nat.lt_or_ge b w.heap.size with h | h
  ·exact h
  ·rw [Array.getElem?_eq_none h] at hv;cases hv
 exact ⟨hB,v,(hb.block b hlt).trans hv,ownF_below ho hb,hne⟩
theorem Bld.below {w w':World} {B b:Nat} {acc:List UInt8} (h:Bld w B b acc) (hb:Bz w w'):Bld w' B b acc:=by
 rcases h with h | h
 ·exact .inl (builderAt_below h hb)
 ·exact .inr (builderAt_below h hb)
theorem Bld.lt {w:World} {B b:Nat} {acc:List UInt8} (h:Bld w B b acc):b<w.heap.size:=by
 rcases h with ⟨_,v,hv,_⟩ | ⟨_,v,hv,_⟩<;>exact (Array.getElem?_eq_some_iff.1 hv).1
theorem builder_new (w:World):Bld (w.alloc (.cells #[.pointer none,.slice none 0 0] 115)) w.heap.size w.heap.size [] :=
 Lib.IsBuilderF.of (.inl ⟨Nat.le_refl _,_,heap_alloc_new w _,⟨rfl,.inl ⟨rfl,rfl⟩⟩,by simp [Value.ownBlock]⟩)
theorem core_small {docs:List Pap} {d:Pap} {t:Tree} {a:Nat} (hd:docs[a]?=some d) {p:List Nat} (hp:p∈coresE docs t (a:Int)):p.length<=12/\∀i∈p,i<(atomsT t).length:=by
 rw [coresE_in hd] at hp
 split at hp
 ·cases hp
 ·rename_i h
  have hl:(stL docs d t).length=(atomsT t).length:=by rw [stL,List.length_map]
  have hc:=coresD_core (stN_lt docs d t) rfl hl (stN_at docs d t) hp
  refine ⟨?_,core_lt hc⟩
  obtain ⟨S,rfl,_⟩:=hc
  have:=List.length_filter_le S (List.range (atomsT t).length)
  rw [List.length_range] at this
  omega
structure FinS (w1 W:World) (A8:Option Addr) (c8 m:Nat) (AT:List Tree) (g7 c7 np:Nat) (ps:List Nat) (v:Value) (k:Nat) (F:List Flt):Prop where
 below:Bz w1 W
 row8:W.ownsRow w1.heap.size 24 6 (.slice A8 m c8) m (cellsL AT)
 row7:W.ownsRow w1.heap.size 3 1 (.slice (some ⟨g7,0,none⟩) np c7) np (natsV ps)
 out:W.ownsRow w1.heap.size 54 4 v k (fcells F)
theorem FinS.on {w1 W W':World} {A8:Option Addr} {c8 m:Nat} {AT:List Tree} {g7 c7 np:Nat} {ps:List Nat} {v:Value} {k:Nat} {F:List Flt} (h:FinS w1 W A8 c8 m AT g7 c7 np ps v k F) (hb:Bz W W'):FinS w1 W' A8 c8 m AT g7 c7 np ps v k F :=
 ⟨h.below.trans (hb.mono h.below.size),own_below h.row8 hb,own_below h.row7 hb,own_below h.out hb⟩
theorem FinS.grow {w1 W W':World} {A8:Option Addr} {c8 m:Nat} {AT:List Tree} {g7 c7 np:Nat} {ps:List Nat} {v v':Value} {k k':Nat} {F F':List Flt} (h:FinS w1 W A8 c8 m AT g7 c7 np ps v k F) (ho:W'.ownsRow w1.heap.size 54 4 v' k' (fcells F')) (hg:W.grownBy W' v.ownBlock):FinS w1 W' A8 c8 m AT g7 c7 np ps v' k' F' :=
 ⟨h.below.grown hg h.below.size (fun j hj=>(h.out.lt j hj).1),own_far h.row8 h.out hg (by decide),own_far h.row7 h.out hg (by decide),ho⟩
set_option maxRecDepth 100000
set_option maxHeartbeats 1600000
def wholeB (n:Nat) (f:Flt):Bool:=decide (0<=f.paper)&&decide (f.paper<(n:Int))&&f.field.toList.isEmpty
theorem whole_any (f:Flt) (A:Option Addr) (n c:Nat) (w:World) :
  Calls Tryz.prog 62 #[f.agg,.slice A n c] w fun e w'=>e=.returned (.bool (wholeB n f))/\Bz w w':=by
 obtain ⟨fp,fk,ff,fw⟩:=f
 simp only [Flt.agg]
 obtain ⟨w0,hw0,hb0,hF0⟩:=newZ w 54 #[.int .i64 fp,.int .i64 fk,.string ff,.int .i64 fw]
 have q0:w0.cell? ⟨w.heap.size,0,none⟩=some (.int .i64 fp):=hF0.out.cell 0
 have q2:w0.cell? ⟨w.heap.size,2,none⟩=some (.string ff):=hF0.out.cell 2
 obtain ⟨W,hW⟩:=nmZ (wholeB n ⟨fp,fk,ff,fw⟩)
 rw [hW.out]
 have hW':Hid (W=(decide (0<=fp)&&decide (fp<(n:Int))&&ff.toList.isEmpty)):=hW.out.symm
 clear hW
 obtain ⟨b1,hb1⟩:∃b,decide (0<=fp)=b:=⟨_,rfl⟩
 obtain ⟨b2,hb2⟩:∃b,decide (fp<(n:Int))=b:=⟨_,rfl⟩
 obtain ⟨b3,hb3⟩:∃b,ff.toList.isEmpty=b:=⟨_,rfl⟩
 rw [hb1,hb2,hb3] at hW'
 go_enter Tryz.func62,Tryz.ntmps62
 cases b1<;>cases b2
 all_goals
  go_wp2_with (rw [hw0.out])
  go_ret
  exact ⟨retBl (by rw [hW'.out,<-hb3];simp),hb0.out⟩
end Go.Proofs.YtdjmckjbibfecaaGreatDoor
namespace Go.Proofs
open Go.Shelf
def Tryz.laysM173_ren:Go.Shelf.Ren:=⟨fun | 173=>157 | 246=>196 | 283=>218 | 284=>219 | 285=>220 | 286=>221 | 129=>147 | 317=>238 | 318=>239 | 319=>240 | 320=>241 | 337=>252 | 338=>253 | n=>n,fun | 2=>2 | 3=>3 | 9=>9 | 4=>4 | 171=>223 | 0=>0 | 53=>132 | 37=>33 | 5=>5 | 173=>225 | 212=>244 | 51=>130 | 20=>20 | 213=>245 | 46=>38 | 232=>257 | 233=>258 | n=>n,fun | 17=>8 | 18=>9 | 19=>10 | n=>n⟩
theorem Tryz.laysM173:Go.Proofs.LaysM.n173 Tryz.prog Tryz.laysM173_ren:={
 mixed:=by kernel_rfl
 f129:=Tryz.func147.trans (congrArg some (by kernel_rfl))
 f173:=Tryz.func157.trans (congrArg some (by kernel_rfl))
 f246:=Tryz.func196.trans (congrArg some (by kernel_rfl))
 f283:=Tryz.func218.trans (congrArg some (by kernel_rfl))
 f284:=Tryz.func219.trans (congrArg some (by kernel_rfl))
 f285:=Tryz.func220.trans (congrArg some (by kernel_rfl))
 f286:=Tryz.func221.trans (congrArg some (by kernel_rfl))
 f317:=Tryz.func238.trans (congrArg some (by kernel_rfl))
 f318:=Tryz.func239.trans (congrArg some (by kernel_rfl))
 f319:=Tryz.func240.trans (congrArg some (by kernel_rfl))
 f320:=Tryz.func241.trans (congrArg some (by kernel_rfl))
 f337:=Tryz.func252.trans (congrArg some (by kernel_rfl))
 f338:=Tryz.func253.trans (congrArg some (by kernel_rfl))
 t0:=Tryz.underlying0
 a0:=Tryz.isAgg0
 z0:=Tryz.sizeOf0
 v0:=Tryz.zeroValue0
 t2:=Tryz.underlying2
 a2:=Tryz.isAgg2
 z2:=Tryz.sizeOf2
 v2:=Tryz.zeroValue2
 t3:=Tryz.underlying3
 a3:=Tryz.isAgg3
 z3:=Tryz.sizeOf3
 v3:=Tryz.zeroValue3
 t4:=Tryz.underlying4
 a4:=Tryz.isAgg4
 z4:=Tryz.sizeOf4
 v4:=Tryz.zeroValue4
 t5:=Tryz.underlying5
 a5:=Tryz.isAgg5
 z5:=Tryz.sizeOf5
 v5:=Tryz.zeroValue5
 t9:=Tryz.underlying9
 a9:=Tryz.isAgg9
 z9:=Tryz.sizeOf9
 v9:=Tryz.zeroValue9
 t20:=Tryz.underlying20
 a20:=Tryz.isAgg20
 z20:=Tryz.sizeOf20
 v20:=Tryz.zeroValue20
 t37:=Tryz.underlying33
 a37:=Tryz.isAgg33
 z37:=Tryz.sizeOf33
 v37:=Tryz.zeroValue33
 t46:=Tryz.underlying38
 a46:=Tryz.isAgg38
 z46:=Tryz.sizeOf38
 v46:=Tryz.zeroValue38
 t51:=Tryz.underlying130
 a51:=Tryz.isAgg130
 z51:=Tryz.sizeOf130
 v51:=Tryz.zeroValue130
 t53:=Tryz.underlying132
 a53:=Tryz.isAgg132
 z53:=Tryz.sizeOf132
 v53:=Tryz.zeroValue132
 t171:=Tryz.underlying223
 a171:=Tryz.isAgg223
 z171:=Tryz.sizeOf223
 v171:=Tryz.zeroValue223
 t173:=Tryz.underlying225
 a173:=Tryz.isAgg225
 z173:=Tryz.sizeOf225
 v173:=Tryz.zeroValue225
 t212:=Tryz.underlying244
 a212:=Tryz.isAgg244
 z212:=Tryz.sizeOf244
 v212:=Tryz.zeroValue244
 t213:=Tryz.underlying245
 a213:=Tryz.isAgg245
 z213:=Tryz.sizeOf245
 t232:=Tryz.underlying257
 a232:=Tryz.isAgg257
 z232:=Tryz.sizeOf257
 v232:=Tryz.zeroValue257
 t233:=Tryz.underlying258
 a233:=Tryz.isAgg258
 z233:=Tryz.sizeOf258
 v233:=Tryz.zeroValue258
 g17:=by kernel_rfl
 g18:=by kernel_rfl
 g19:=by kernel_rfl
 i0:=by kernel_rfl
 i2:=by kernel_rfl
 i3:=by kernel_rfl
 i4:=by kernel_rfl
 i5:=by kernel_rfl
 i9:=by kernel_rfl
 i20:=by kernel_rfl
 i37:=by kernel_rfl
 i46:=by kernel_rfl
 i51:=by kernel_rfl
 i53:=by kernel_rfl
 i171:=by kernel_rfl
 i173:=by kernel_rfl
 i212:=by kernel_rfl
 i232:=by kernel_rfl
 i233:=by kernel_rfl
 m17:=by kernel_rfl
 m18:=by kernel_rfl
 m19:=by kernel_rfl }
open Go.RowKit Go.Sort Go.Lib in
theorem Tryz.strconv_FormatInt_10 (n : Int) (h0 : -9223372036854775808 ≤ n) (h1 : n ≤ 9223372036854775807) (w : World) (htab : Lib.TabIs Tryz.prog w "internal/strconv.uint64pow10" .u64 Lib.pow10Tab) :
  Calls Tryz.prog 157 #[.int .i64 n,.int .i64 10] w fun e w'=>e=.returned (.string ⟨(Lib.itoa n).toArray⟩)/\∃k os,w'=grow (w.drewN k) os:=Any.strconv_FormatInt_10 Tryz.laysM173 n h0 h1 w htab
def Tryz.laysGw15_ren:Go.Shelf.Ren:=⟨fun | 15=>255 | 20=>260 | n=>n,fun | 9=>9 | 23=>255 | 3=>3 | 4=>4 | 0=>0 | 21=>21 | n=>n,fun | n=>n⟩
theorem Tryz.laysGw15:Go.Proofs.LaysGw.n15 Tryz.prog Tryz.laysGw15_ren:={
 mixed:=by kernel_rfl
 f15:=Tryz.func255.trans (congrArg some (by kernel_rfl))
 f20:=Tryz.func260.trans (congrArg some (by kernel_rfl))
 t0:=Tryz.underlying0
 a0:=Tryz.isAgg0
 z0:=Tryz.sizeOf0
 v0:=Tryz.zeroValue0
 i0:=by kernel_rfl
 t3:=Tryz.underlying3
 a3:=Tryz.isAgg3
 z3:=Tryz.sizeOf3
 v3:=Tryz.zeroValue3
 i3:=by kernel_rfl
 t4:=Tryz.underlying4
 a4:=Tryz.isAgg4
 z4:=Tryz.sizeOf4
 v4:=Tryz.zeroValue4
 i4:=by kernel_rfl
 t9:=Tryz.underlying9
 a9:=Tryz.isAgg9
 z9:=Tryz.sizeOf9
 v9:=Tryz.zeroValue9
 i9:=by kernel_rfl
 t21:=Tryz.underlying21
 a21:=Tryz.isAgg21
 z21:=Tryz.sizeOf21
 v21:=Tryz.zeroValue21
 i21:=by kernel_rfl
 t23:=Tryz.underlying255
 a23:=Tryz.isAgg255
 z23:=Tryz.sizeOf255
 v23:=Tryz.zeroValue255
 i23:=by kernel_rfl }
open Go.RowKit Go.Lib in
theorem Tryz.strings_IndexFunc (g:Nat) (lb:Array Value) (eg:∀args w,(callFunc g args).run Tryz.prog w=.ok (.enter g args) w) (p:Nat->Bool) (s:ByteArray) (w:World) (hp:PredAt Tryz.prog g lb encR p w) :
  Calls Tryz.prog 255 #[.string s,.func (.func g) #[] lb] w fun e w'=>e=.returned (.int .i64 (Lib.idxFunc p true s))/\Below w.heap.size w w':=Any.strings_IndexFunc Tryz.laysGw15 g lb eg p s w hp
end Go.Proofs

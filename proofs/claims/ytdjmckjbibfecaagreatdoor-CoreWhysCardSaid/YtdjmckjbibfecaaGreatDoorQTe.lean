import Derived.Deep.RegionHeld3
import Derived.Test.YtdjmckjbibfecaaGreatDoorQTc
namespace Go.Proofs.YtdjmckjbibfecaaGreatDoor.Sh
open Go Go.RowKit Go.BigFrame Go.Maps
set_option maxRecDepth 100000
set_option maxHeartbeats 3200000
theorem showL_snoc (o:Int) (sep:Txt) (r:Rul):∀L:List Rul,showL o sep (L++[r])=showL o sep L++(if L=[] then [] else sep)++inPar (parB o r.kind) (showR r)
 | []=>by simp [showL]
 | u::L=>by
  have ih:=showL_snoc o sep r L
  rw [List.cons_append,showL,showL,ih]
  cases L<;>simp [showL]
theorem dec_len19 {n:Nat}:(decN 20 n).length<=20:=(decN_len 20 n (by omega)).2
theorem paper_len (p:Int):(paperT p).length<=20:=by
 unfold paperT
 rcases Nat.lt_or_ge p.toNat 6 with h | h
 ·have:∀k,k<6->(papersL.getD k []).length<=20:=by decide
  exact this _ h
 ·rw [List.getD_eq_getElem?_getD,List.getElem?_eq_none (by simpa [papersL] using h)];simp
theorem inPar_len (b:Bool) (t:Txt):(inPar b t).length<=t.length+2:=by unfold inPar;split<;>simp [sOpen,sShut]
mutual
theorem show_len:∀r:Rul,(showR r).length<=szR r
 | .mk k p f x n L=>by
  have h0:=showL_len 0 [32,97,110,100,32] (by decide) L
  have h1:=showL_len 1 [32,111,114,32] (by decide) L
  have h2:=showL_len 2 [] (by decide) L
  have hd:=dec_len19 (n:=n.toNat)
  have hp:=paper_len p
  rw [showR,szR]
  repeat' split
  all_goals first | omega | (simp only [List.length_append,List.length_cons,List.length_nil];omega)
theorem showL_len (o:Int) (sep:Txt) (hs:sep.length<=5):∀L:List Rul,(showL o sep L).length<=szL L
 | []=>by simp [showL]
 | r::L=>by
  have h1:=show_len r
  have h2:=showL_len o sep hs L
  have h3:=inPar_len (parB o r.kind) (showR r)
  rw [showL,szL]
  split<;>simp only [List.length_append,List.length_nil]<;>omega
end
theorem szL_app (L M:List Rul):szL (L++M)=szL L+szL M:=by
 induction L with
 | nil=>simp [szL]
 | cons r L ih=>rw [List.cons_append,szL,szL,ih];omega
theorem strip_kind (t:Tree):(strip t).kind=t.kind:=by obtain ⟨k,p,f,x,n,A,c,L⟩:=t;rw [strip];rfl
abbrev Bld (w:World) (B b:Nat) (acc:Txt):Prop:=Lib.IsBuilderF 115 5 B b (Lib.byteCells acc) w
theorem ownF_below {w w':World} {B:Nat} {e:TypeId} {size n:Nat} {v:Value} {xs:List Value} (h:w.ownsRowF B e size v n xs) (hb:Bz w w'):w'.ownsRowF B e size v n xs :=
 h.kept (row:=none) ⟨hb.os,hb.tape,hb.output,hb.size,fun k hk _=>hb.block k hk⟩ (by
  rcases hv:v.ownBlock with _ | k
  ·exact .inl rfl
  ·exact .inr (by simp))
theorem builderAt_below {w w':World} {T e:TypeId} {B b:Nat} {p:Value} {bs:List Value} (h:Lib.BuilderAtF T e B b p bs w) (hb:Bz w w'):Lib.BuilderAtF T e B b p bs w':=by
 obtain ⟨hB,v,hv,ho,hne⟩:=h
 have hlt:b<w.heap.size:=by
  rcases Nat.lt_or_ge b w.heap.size with h | h
  ·exact h
  ·rw [Array.getElem?_eq_none h] at hv;cases hv
 exact ⟨hB,v,(hb.block b hlt).trans hv,ownF_below ho hb,hne⟩
theorem Bld.below {w w':World} {B b:Nat} {acc:Txt} (h:Bld w B b acc) (hb:Bz w w'):Bld w' B b acc:=by
 rcases h with h | h
 ·exact .inl (builderAt_below h hb)
 ·exact .inr (builderAt_below h hb)
theorem Bld.lt {w:World} {B b:Nat} {acc:Txt} (h:Bld w B b acc):b<w.heap.size:=by
 rcases h with ⟨_,v,hv,_⟩ | ⟨_,v,hv,_⟩<;>exact (Array.getElem?_eq_some_iff.1 hv).1
theorem builder_new (w:World):Bld (w.alloc (.cells #[.pointer none,.slice none 0 0] 115)) w.heap.size w.heap.size [] :=
 Lib.IsBuilderF.of (.inl ⟨Nat.le_refl _,_,heap_alloc_new w _,⟨rfl,.inl ⟨rfl,rfl⟩⟩,by simp [Value.ownBlock]⟩)
theorem cells_cat (a b:List UInt8):Lib.byteCells a++Lib.strCells ⟨b.toArray⟩=Lib.byteCells (a++b):=by
 show Lib.byteCells a++Lib.byteCells b=_;simp [Lib.byteCells]
theorem kept_below {b:Option Nat} {w w':World} (h:Bz w w'):Lib.OthersKept 5 b w w':=fun k _ hk _ _=>(h.block k (Array.getElem?_eq_some_iff.1 hk).1).trans hk
theorem kept_blk {b g:Nat} {w w':World} {t:TypeId} {cs:Array Value} (h:Lib.OthersKept 5 (some b) w w') (hb:Blk w g t cs) (hg:g≠b) (ht:t≠5):Blk w' g t cs :=
 h g _ hb (fun e=>hg (Option.some.inj e)) (fun c fz e=>ht (by injection e))
theorem write_any (B b:Nat) (acc s:Txt) (W:World) (h:Hid (Bld W B b acc)) (hlen:acc.length+s.length<=140737488355328) (hB:B<=W.heap.size) :
  Calls Tryz.prog 77 #[.pointer (some ⟨b,0,none⟩),.string ⟨s.toArray⟩] W fun e w'=>(∃n,e=.returned (.tuple #[.int .i64 n,.nilIface]))/\Below B W w'/\Lib.OthersKept 5 (some b) W w'/\Bld w' B b (acc++s):=by
 refine (Tryz.Builder_WriteString_k B b (Lib.byteCells acc) ⟨s.toArray⟩ W h.out (by simp [Lib.byteCells,ByteArray.size];omega) hB).mono ?_
 rintro e w' ⟨rfl,hb,hB',hK⟩
 rw [cells_cat] at hb
 exact ⟨⟨_,rfl⟩,hB',hK,.inr hb⟩
theorem TreeAt.lowB {w w':World} {B:Nat} {t:Tree} (h:TreeAt w (fun k=>k<B) t) (hb:Below B w w'):TreeAt w' (fun k=>k<B) t:=h.same fun _ _ h2=>hb.cell h2
theorem RowsAt.lowB {w w':World} {B:Nat} {A:Option Addr} {j:Nat} {L:List Tree} (h:RowsAt w (fun k=>k<B) A j L) (hb:Below B w w'):RowsAt w' (fun k=>k<B) A j L:=h.same fun _ _ h2=>hb.cell h2
def Writes (g:Nat) (args:Array Value) (W:World) (B b:Nat) (acc s:Txt):Prop:=Calls Tryz.prog g args W fun e w'=>e=.returned (.tuple #[])/\Below B W w'/\Lib.OthersKept 5 (some b) W w'/\Bld w' B b (acc++s)
def ShowC (t:Tree):Prop:=∀(w:World) (B b:Nat) (acc:Txt),Hid (Env w)->12<=B->B<=w.heap.size->Hid (TreeAt w (fun k=>k<B) t)->Hid (mayR (strip t)=true)->Hid (acc.length+szR (strip t)<=mostZ)->Hid (Bld w B b acc) ->
 Writes 132 #[.pointer (some ⟨b,0,none⟩),.agg t.cells] w B b acc (showR (strip t))
theorem bracket_any (t:Tree) (ih:ShowC t) (o:Int) (w:World) (B b:Nat) (acc:Txt) (he:Hid (Env w)) (h8:12<=B) (hB:B<=w.heap.size) (hT:Hid (TreeAt w (fun k=>k<B) t)) (hm:Hid (mayR (strip t)=true)) (hz:Hid (acc.length+2+szR (strip t)<=mostZ)) (hbd:Hid (Bld w B b acc)) :
  Writes 184 #[.pointer (some ⟨b,0,none⟩),.int .i64 o,.agg t.cells] w B b acc (inPar (parB o t.kind) (showR (strip t))):=by
 obtain ⟨k,p,f,x,n,A,c,L⟩:=t
 obtain ⟨z,hzz⟩:=nmZ (szR (strip (.mk k p f x n A c L)))
 obtain ⟨sh,hsh⟩:=nmZ (showR (strip (.mk k p f x n A c L)))
 have hl:sh.length<=z:=by rw [<-hsh.out,<-hzz.out];exact show_len _
 have hz0:=hz.out
 rw [hzz.out] at hz0
 unfold mostZ at hz0
 obtain ⟨q1,e1⟩:∃b,(k==1)=b:=⟨_,rfl⟩
 obtain ⟨q0,e0⟩:∃b,(k==0)=b:=⟨_,rfl⟩
 obtain ⟨qo,eo⟩:∃b,(o != 1)=b:=⟨_,rfl⟩
 have hres:Hid (inPar (parB o (Tree.mk k p f x n A c L).kind) (showR (strip (.mk k p f x n A c L)))=inPar (q1||(q0&&qo)) sh):=by
  unfold Hid parB;rw [hsh.out];show inPar ((k==1)||((k==0)&&(o != 1))) sh=_;rw [e1,e0,eo]
 rw [hres.out]
 have hbl:Bz w (w.alloc (.cells #[.int .i64 k,.int .i64 p,.string ⟨f.toArray⟩,.string ⟨x.toArray⟩,.int .i64 n,.slice A L.length c] 24)):=(Below.refl _ w).alloc leZ _
 have hbx:=hdZ (Blk.new w 24 #[.int .i64 k,.int .i64 p,.string ⟨f.toArray⟩,.string ⟨x.toArray⟩,.int .i64 n,.slice A L.length c])
 have hBa:Hid (Below B w (w.alloc (.cells #[.int .i64 k,.int .i64 p,.string ⟨f.toArray⟩,.string ⟨x.toArray⟩,.int .i64 n,.slice A L.length c] 24))):=hbl.mono hB
 have hbda:=hdZ (hbd.out.below hbl)
 have hKa:=hdZ (kept_below (b:=some b) hbl)
 have hne:Hid (w.heap.size≠b):=by have:=hbd.out.lt;unfold Hid;omega
 have ne1:=hne.out
 have ne2:=hne.out.symm
 have hsza:Hid (w.heap.size<(w.alloc (.cells #[.int .i64 k,.int .i64 p,.string ⟨f.toArray⟩,.string ⟨x.toArray⟩,.int .i64 n,.slice A L.length c] 24)).heap.size):=by unfold Hid;simp
 unfold Writes
 show Calls Tryz.prog 184 #[.pointer (some ⟨b,0,none⟩),.int .i64 o,.agg #[.int .i64 k,.int .i64 p,.string ⟨f.toArray⟩,.string ⟨x.toArray⟩,.int .i64 n,.slice A L.length c]] w _
 cases q1 with
 | true =>
  show Calls Tryz.prog 184 #[.pointer (some ⟨b,0,none⟩),.int .i64 o,.agg #[.int .i64 k,.int .i64 p,.string ⟨f.toArray⟩,.string ⟨x.toArray⟩,.int .i64 n,.slice A L.length c]] w fun e w'=>e=.returned (.tuple #[])/\Below B w w'/\Lib.OthersKept 5 (some b) w w'/\Bld w' B b (acc++inPar true sh)
  have hw1:=hdZ (write_any B b acc [40] (w.alloc (.cells #[.int .i64 k,.int .i64 p,.string ⟨f.toArray⟩,.string ⟨x.toArray⟩,.int .i64 n,.slice A L.length c] 24)) hbda (by simp;omega) (Nat.le_trans hB (Nat.le_of_lt hsza.out)))
  go_enter Tryz.func184,Tryz.ntmps184
  go_wp2_with fail
  refine hw1.out.mono ?_
  rintro e w1 ⟨⟨n1,rfl⟩,hB1,hK1,hb1⟩
  have hbd1:=hdZ hb1
  have hBt1:Hid (Below B w w1):=hBa.out.trans hB1
  have hKt1:Hid (Lib.OthersKept 5 (some b) w w1):=hKa.out.trans hK1
  have hbx1:Hid (Blk w1 w.heap.size 24 #[.int .i64 k,.int .i64 p,.string ⟨f.toArray⟩,.string ⟨x.toArray⟩,.int .i64 n,.slice A L.length c]):=kept_blk hK1 hbx.out hne.out (by decide)
  have hsw:Hid (Writes 132 #[.pointer (some ⟨b,0,none⟩),.agg #[.int .i64 k,.int .i64 p,.string ⟨f.toArray⟩,.string ⟨x.toArray⟩,.int .i64 n,.slice A L.length c]] w1 B b (acc++[40]) sh):=by
   have:=ih w1 B b (acc++[40]) (he.out.low (hBt1.out.mono h8)) h8 (Nat.le_trans hB hBt1.out.size) (hT.out.lowB hBt1.out) hm (by have:=hz.out;unfold Hid;simp;omega) hbd1
   rw [hsh.out] at this
   exact this
  obtain ⟨bc0,bc1,bc2,bc3,bc4,bc5⟩:=cs6 hbx1.out
  have blt:=hbx1.out.lt
  clear hw1 hB1 hK1 hb1
  go_wp2_with fail
  refine hsw.out.mono ?_
  rintro e w2 ⟨rfl,hB2,hK2,hb2⟩
  have hBt2:Hid (Below B w w2):=hBt1.out.trans hB2
  have hKt2:Hid (Lib.OthersKept 5 (some b) w w2):=hKt1.out.trans hK2
  have hbd2:=hdZ hb2
  have hw3:=hdZ (write_any B b (acc++[40]++sh) [41] w2 hbd2 (by simp;omega) (Nat.le_trans hB hBt2.out.size))
  clear hsw hB2 hK2 hb2 bc0 bc1 bc2 bc3 bc4 bc5 blt
  go_wp2_with fail
  refine hw3.out.mono ?_
  rintro e w3 ⟨⟨n3,rfl⟩,hB3,hK3,hb3⟩
  have hbd3:=hdZ hb3
  have hB3':=hdZ hB3
  have hK3':=hdZ hK3
  clear hw3 hB3 hK3 hb3
  go_wp2_with fail
  (try simp only [Exit.inBlock,Exit.then])
  refine bodyPost_ret (results_none rfl _ _ _) rfl ?_
  refine ⟨rfl,hBt2.out.trans hB3'.out,hKt2.out.trans hK3'.out,?_⟩
  have:=hbd3.out
  rwa [show acc++[40]++sh++[41]=acc++inPar true sh by simp [inPar,sOpen,sShut]] at this
 | false =>
  cases q0 with
  | false =>
   show Calls Tryz.prog 184 #[.pointer (some ⟨b,0,none⟩),.int .i64 o,.agg #[.int .i64 k,.int .i64 p,.string ⟨f.toArray⟩,.string ⟨x.toArray⟩,.int .i64 n,.slice A L.length c]] w fun e w'=>e=.returned (.tuple #[])/\Below B w w'/\Lib.OthersKept 5 (some b) w w'/\Bld w' B b (acc++sh)
   have hsw:Hid (Writes 132 #[.pointer (some ⟨b,0,none⟩),.agg #[.int .i64 k,.int .i64 p,.string ⟨f.toArray⟩,.string ⟨x.toArray⟩,.int .i64 n,.slice A L.length c]] (w.alloc (.cells #[.int .i64 k,.int .i64 p,.string ⟨f.toArray⟩,.string ⟨x.toArray⟩,.int .i64 n,.slice A L.length c] 24)) B b acc sh):=by
    have:=ih (w.alloc (.cells #[.int .i64 k,.int .i64 p,.string ⟨f.toArray⟩,.string ⟨x.toArray⟩,.int .i64 n,.slice A L.length c] 24)) B b acc (he.out.low (hBa.out.mono h8)) h8 (Nat.le_trans hB (Nat.le_of_lt hsza.out)) (hT.out.lowB hBa.out) hm (by have:=hz.out;unfold Hid;omega) hbda
    rw [hsh.out] at this
    exact this
   go_enter Tryz.func184,Tryz.ntmps184
   go_wp2_with fail
   refine hsw.out.mono ?_
   rintro e w1 ⟨rfl,hB1,hK1,hb1⟩
   have hb1':=hdZ hb1
   clear hb1 hsw
   go_wp2_with fail
   go_end0
   exact ⟨rfl,hBa.out.trans hB1,hKa.out.trans hK1,hb1'.out⟩
  | true =>
   cases qo with
   | true =>
    show Calls Tryz.prog 184 #[.pointer (some ⟨b,0,none⟩),.int .i64 o,.agg #[.int .i64 k,.int .i64 p,.string ⟨f.toArray⟩,.string ⟨x.toArray⟩,.int .i64 n,.slice A L.length c]] w fun e w'=>e=.returned (.tuple #[])/\Below B w w'/\Lib.OthersKept 5 (some b) w w'/\Bld w' B b (acc++inPar true sh)
    have hw1:=hdZ (write_any B b acc [40] (w.alloc (.cells #[.int .i64 k,.int .i64 p,.string ⟨f.toArray⟩,.string ⟨x.toArray⟩,.int .i64 n,.slice A L.length c] 24)) hbda (by simp;omega) (Nat.le_trans hB (Nat.le_of_lt hsza.out)))
    go_enter Tryz.func184,Tryz.ntmps184
    go_wp2_with fail
    refine hw1.out.mono ?_
    rintro e w1 ⟨⟨n1,rfl⟩,hB1,hK1,hb1⟩
    have hbd1:=hdZ hb1
    have hBt1:Hid (Below B w w1):=hBa.out.trans hB1
    have hKt1:Hid (Lib.OthersKept 5 (some b) w w1):=hKa.out.trans hK1
    have hbx1:Hid (Blk w1 w.heap.size 24 #[.int .i64 k,.int .i64 p,.string ⟨f.toArray⟩,.string ⟨x.toArray⟩,.int .i64 n,.slice A L.length c]):=kept_blk hK1 hbx.out hne.out (by decide)
    have hsw:Hid (Writes 132 #[.pointer (some ⟨b,0,none⟩),.agg #[.int .i64 k,.int .i64 p,.string ⟨f.toArray⟩,.string ⟨x.toArray⟩,.int .i64 n,.slice A L.length c]] w1 B b (acc++[40]) sh):=by
     have:=ih w1 B b (acc++[40]) (he.out.low (hBt1.out.mono h8)) h8 (Nat.le_trans hB hBt1.out.size) (hT.out.lowB hBt1.out) hm (by have:=hz.out;unfold Hid;simp;omega) hbd1
     rw [hsh.out] at this
     exact this
    obtain ⟨bc0,bc1,bc2,bc3,bc4,bc5⟩:=cs6 hbx1.out
    have blt:=hbx1.out.lt
    clear hw1 hB1 hK1 hb1
    go_wp2_with fail
    refine hsw.out.mono ?_
    rintro e w2 ⟨rfl,hB2,hK2,hb2⟩
    have hBt2:Hid (Below B w w2):=hBt1.out.trans hB2
    have hKt2:Hid (Lib.OthersKept 5 (some b) w w2):=hKt1.out.trans hK2
    have hbd2:=hdZ hb2
    have hw3:=hdZ (write_any B b (acc++[40]++sh) [41] w2 hbd2 (by simp;omega) (Nat.le_trans hB hBt2.out.size))
    clear hsw hB2 hK2 hb2 bc0 bc1 bc2 bc3 bc4 bc5 blt
    go_wp2_with fail
    refine hw3.out.mono ?_
    rintro e w3 ⟨⟨n3,rfl⟩,hB3,hK3,hb3⟩
    have hbd3:=hdZ hb3
    have hB3':=hdZ hB3
    have hK3':=hdZ hK3
    clear hw3 hB3 hK3 hb3
    go_wp2_with fail
    (try simp only [Exit.inBlock,Exit.then])
    refine bodyPost_ret (results_none rfl _ _ _) rfl ?_
    refine ⟨rfl,hBt2.out.trans hB3'.out,hKt2.out.trans hK3'.out,?_⟩
    have:=hbd3.out
    rwa [show acc++[40]++sh++[41]=acc++inPar true sh by simp [inPar,sOpen,sShut]] at this
   | false =>
    show Calls Tryz.prog 184 #[.pointer (some ⟨b,0,none⟩),.int .i64 o,.agg #[.int .i64 k,.int .i64 p,.string ⟨f.toArray⟩,.string ⟨x.toArray⟩,.int .i64 n,.slice A L.length c]] w fun e w'=>e=.returned (.tuple #[])/\Below B w w'/\Lib.OthersKept 5 (some b) w w'/\Bld w' B b (acc++sh)
    have hsw:Hid (Writes 132 #[.pointer (some ⟨b,0,none⟩),.agg #[.int .i64 k,.int .i64 p,.string ⟨f.toArray⟩,.string ⟨x.toArray⟩,.int .i64 n,.slice A L.length c]] (w.alloc (.cells #[.int .i64 k,.int .i64 p,.string ⟨f.toArray⟩,.string ⟨x.toArray⟩,.int .i64 n,.slice A L.length c] 24)) B b acc sh):=by
     have:=ih (w.alloc (.cells #[.int .i64 k,.int .i64 p,.string ⟨f.toArray⟩,.string ⟨x.toArray⟩,.int .i64 n,.slice A L.length c] 24)) B b acc (he.out.low (hBa.out.mono h8)) h8 (Nat.le_trans hB (Nat.le_of_lt hsza.out)) (hT.out.lowB hBa.out) hm (by have:=hz.out;unfold Hid;omega) hbda
     rw [hsh.out] at this
     exact this
    go_enter Tryz.func184,Tryz.ntmps184
    go_wp2_with fail
    refine hsw.out.mono ?_
    rintro e w1 ⟨rfl,hB1,hK1,hb1⟩
    have hb1':=hdZ hb1
    clear hb1 hsw
    go_wp2_with fail
    go_end0
    exact ⟨rfl,hBa.out.trans hB1,hKa.out.trans hK1,hb1'.out⟩
theorem take_next {L:List Tree} {q:Nat} {t:Tree} (h:L[q]?=some t):L.take (q+1)=L.take q++[t]:=by
 obtain ⟨hq,he⟩:=gsZ.1 h
 rw [List.take_add_one,gZ hq,he];rfl
theorem szL_take (L:List Tree) (q:Nat):szL (strips (L.take q))<=szL (strips L):=by
 have h:=congrArg strips (List.take_append_drop q L)
 rw [strips_map,List.map_append,<-strips_map,<-strips_map] at h
 rw [<-h,szL_app];omega
theorem show_next {L:List Tree} {q:Nat} {t:Tree} (h:L[q]?=some t) (o:Int) (sep:Txt):showL o sep (strips (L.take (q+1)))=showL o sep (strips (L.take q))++(if q=0 then [] else sep)++inPar (parB o t.kind) (showR (strip t)):=by
 have hq:=(gsZ.1 h).1
 rw [take_next h,strips_app,showL_snoc,strip_kind]
 congr 2
 by_cases h0:q=0
 ·subst h0;rw [if_pos rfl,if_pos (by simp [strips])]
 ·rw [if_neg h0,if_neg]
  intro e
  have:=congrArg List.length e
  rw [strips_map,List.length_map,List.length_take,List.length_nil] at this
  omega
theorem size_next {L:List Tree} {q:Nat} {t:Tree} (h:L[q]?=some t) (o:Int) (sep:Txt) (hs:sep.length<=5):(showL o sep (strips (L.take q))).length+szR (strip t)+16<=szL (strips L):=by
 have h1:=showL_len o sep hs (strips (L.take q))
 have h2:=szL_take L (q+1)
 rw [take_next h,strips_app,szL_app,szL,szL] at h2
 omega
theorem mayL_mem' {L:List Tree} (h:mayL (strips L)=true) {t:Tree} (ht:t∈L):mayR (strip t)=true:=mayL_mem h _ (by rw [strips_map];exact List.mem_map_of_mem ht)
theorem row_show (k p:Int) (f x:Txt) (n:Int) (A:Option Addr) (c:Nat) (L:List Tree) (ih:∀u∈L,ShowC u) (sep:Txt) (hs:sep.length<=5) (w:World) (B b:Nat) (acc:Txt) (he:Hid (Env w)) (h8:12<=B) (hB:B<=w.heap.size)
  (hR:Hid (RowsAt w (fun k=>k<B) A 0 L)) (hlen:L.length<=maxLen) (hm:Hid (mayL (strips L)=true)) (hz:Hid (acc.length+szL (strips L)<=mostZ)) (hbd:Hid (Bld w B b acc)) :
  Writes 183 #[.pointer (some ⟨b,0,none⟩),.agg (Tree.mk k p f x n A c L).cells,.string ⟨sep.toArray⟩] w B b acc (showL k sep (strips L)):=by
 obtain ⟨m,hmm⟩:=nmZ (L.length)
 have ih':=hdZ ih
 clear ih
 unfold Writes
 show Calls Tryz.prog 183 #[.pointer (some ⟨b,0,none⟩),.agg #[.int .i64 k,.int .i64 p,.string ⟨f.toArray⟩,.string ⟨x.toArray⟩,.int .i64 n,.slice A L.length c],.string ⟨sep.toArray⟩] w _
 rw [hmm.out] at hlen ⊢
 unfold maxLen at hlen
 have hbl:Bz w (w.alloc (.cells #[.int .i64 k,.int .i64 p,.string ⟨f.toArray⟩,.string ⟨x.toArray⟩,.int .i64 n,.slice A m c] 24)):=(Below.refl _ w).alloc leZ _
 have hbx:=hdZ (Blk.new w 24 #[.int .i64 k,.int .i64 p,.string ⟨f.toArray⟩,.string ⟨x.toArray⟩,.int .i64 n,.slice A m c])
 have hBa:Hid (Below B w (w.alloc (.cells #[.int .i64 k,.int .i64 p,.string ⟨f.toArray⟩,.string ⟨x.toArray⟩,.int .i64 n,.slice A m c] 24))):=hbl.mono hB
 have hbda:=hdZ (hbd.out.below hbl)
 have hKa:=hdZ (kept_below (b:=some b) hbl)
 have hne:Hid (w.heap.size≠b):=by have:=hbd.out.lt;unfold Hid;omega
 have ne1:=hne.out
 have ne2:=hne.out.symm
 clear hbl
 go_enter Tryz.func183,Tryz.ntmps183
 go_wp2_with fail
 go_loopg [6,7,11] m (fun gg _ _ i wr=>∃q:Nat,q<=m/\gg=m-q/\i=.int .i64 q/\Hid (Below B w wr)/\Hid (Lib.OthersKept 5 (some b) w wr)/\Hid (Blk wr w.heap.size 24 #[.int .i64 k,.int .i64 p,.string ⟨f.toArray⟩,.string ⟨x.toArray⟩,.int .i64 n,.slice A m c])/\Hid (Bld wr B b (acc++showL k sep (strips (L.take q)))))
 case atStart=>exact ⟨0,Nat.zero_le _,rfl,rfl,hBa,hKa,hbx,by simpa [strips,showL] using hbda⟩
 case round =>
  clear hbx hBa hbda hKa
  obtain ⟨q,hq,hg,rfl,hBr,hKr,hbr,hbdr⟩:=hrel
  have hg':=hdZ hg
  clear hg
  by_cases hlt:q<m
  ·have i1:decide ((q:Int)<(m:Int))=true:=by simp;omega
   have i2:(q:Int)<(m:Int):=by omega
   have i3:(0:Int)<=(q:Int):=by omega
   obtain ⟨t,ht⟩:∃t,L[q]?=some t:=⟨_,gZ (by have:=hmm.out;omega)⟩
   have hmem:=hdZ (mgZ ht)
   have hnx:=hdZ (show_next ht k sep)
   have hsz:=hdZ (size_next ht k sep hs)
   obtain ⟨hc,hTt⟩:=(hR.out.lowB hBr.out).get q t ht
   have hTt':=hdZ hTt
   have hmt:=hdZ (mayL_mem' hm.out hmem.out)
   clear ht hTt
   obtain ⟨pre,hpre⟩:=nmZ (showL k sep (strips (L.take q)))
   rw [hpre.out] at hnx hsz hbdr
   obtain ⟨tk,tp,tf,tx,tn,tA,tc,tL⟩:=t
   obtain ⟨bb,off,rfl,hbb,h0,h1,h2,h3,h4,h5⟩:=hc
   rw [Nat.zero_add] at h0 h1 h2 h3 h4 h5
   have r0:wr.cell? ⟨w.heap.size,0,none⟩=some (.int .i64 k):=hbr.out.cell 0
   have rlt:=hbr.out.lt
   have hbln:Bz wr (wr.alloc (.cells #[.int .i64 tk,.int .i64 tp,.string ⟨tf.toArray⟩,.string ⟨tx.toArray⟩,.int .i64 tn,.slice tA tL.length tc] 24)):=(Below.refl _ wr).alloc leZ _
   have hxB:Hid (Below B w (wr.alloc (.cells #[.int .i64 tk,.int .i64 tp,.string ⟨tf.toArray⟩,.string ⟨tx.toArray⟩,.int .i64 tn,.slice tA tL.length tc] 24))):=hBr.out.trans (hbln.mono (Nat.le_trans hB hBr.out.size))
   have hxK:Hid (Lib.OthersKept 5 (some b) w (wr.alloc (.cells #[.int .i64 tk,.int .i64 tp,.string ⟨tf.toArray⟩,.string ⟨tx.toArray⟩,.int .i64 tn,.slice tA tL.length tc] 24))):=hKr.out.trans (kept_below hbln)
   have hxX:Hid (Blk (wr.alloc (.cells #[.int .i64 tk,.int .i64 tp,.string ⟨tf.toArray⟩,.string ⟨tx.toArray⟩,.int .i64 tn,.slice tA tL.length tc] 24)) w.heap.size 24 #[.int .i64 k,.int .i64 p,.string ⟨f.toArray⟩,.string ⟨x.toArray⟩,.int .i64 n,.slice (some ⟨bb,off,none⟩) m c]):=hbr.out.below hbln hbr.out.lt
   have hxD:=hdZ (hbdr.out.below hbln)
   have hxM:=hdZ (Blk.new wr 24 #[.int .i64 tk,.int .i64 tp,.string ⟨tf.toArray⟩,.string ⟨tx.toArray⟩,.int .i64 tn,.slice tA tL.length tc])
   have hnm:Hid (wr.heap.size≠b):=by have:=hbdr.out.lt;unfold Hid;omega
   have n1:wr.heap.size≠w.heap.size:=by omega
   have n2:w.heap.size≠wr.heap.size:=by omega
   have hzz:=hz.out
   have hsz0:=hsz.out
   unfold mostZ at hzz
   clear hbln hBr hKr hbr
   by_cases hq0:q=0
   ·subst hq0
    rw [Nat.zero_mul,Nat.add_zero] at h0 h1 h2 h3 h4 h5
    have hbk:Hid (Writes 184 #[.pointer (some ⟨b,0,none⟩),.int .i64 k,.agg #[.int .i64 tk,.int .i64 tp,.string ⟨tf.toArray⟩,.string ⟨tx.toArray⟩,.int .i64 tn,.slice tA tL.length tc]] (wr.alloc (.cells #[.int .i64 tk,.int .i64 tp,.string ⟨tf.toArray⟩,.string ⟨tx.toArray⟩,.int .i64 tn,.slice tA tL.length tc] 24)) B b (acc++pre) (inPar (parB k tk) (showR (strip (.mk tk tp tf tx tn tA tc tL))))):=bracket_any _ (ih'.out _ hmem.out) k _ B b _ (he.out.low (hxB.out.mono h8)) h8 (Nat.le_trans hB hxB.out.size) (hTt'.out.lowB ((Below.refl _ wr).alloc (Nat.le_trans hB (by have:=hbdr.out.lt;omega)) _)) hmt (by unfold Hid mostZ;simp;omega) hxD
    go_wp2_with fail
    refine hbk.out.mono ?_
    rintro e wz ⟨rfl,hBz,hKz,hbz⟩
    have hBn:Hid (Below B w wz):=hxB.out.trans hBz
    have hKn:Hid (Lib.OthersKept 5 (some b) w wz):=hxK.out.trans hKz
    have hbxn:Hid (Blk wz w.heap.size 24 #[.int .i64 k,.int .i64 p,.string ⟨f.toArray⟩,.string ⟨x.toArray⟩,.int .i64 n,.slice (some ⟨bb,off,none⟩) m c]):=kept_blk hKz hxX.out hne.out (by decide)
    have hbdn:Hid (Bld wz B b (acc++showL k sep (strips (L.take (0+1))))):=by
     unfold Hid
     rw [hnx.out]
     simp only [if_true,List.append_nil];rw [<-List.append_assoc];exact hbz
    clear hBz hKz hbz
    go_wp2_with fail
    go_roundg (m-(0+1))
    case measure=>have:=hg'.out;omega
    case rel=>exact ⟨0+1,by omega,rfl,by go_num,hBn,hKn,hbxn,hbdn⟩
   ·have j1:decide ((0:Int)<(q:Int))=true:=by simp;omega
    have hwr:=hdZ (write_any B b (acc++pre) sep (wr.alloc (.cells #[.int .i64 tk,.int .i64 tp,.string ⟨tf.toArray⟩,.string ⟨tx.toArray⟩,.int .i64 tn,.slice tA tL.length tc] 24)) hxD (by simp;omega) (Nat.le_trans hB hxB.out.size))
    go_wp2_with fail
    refine hwr.out.mono ?_
    rintro e w1 ⟨⟨n9,rfl⟩,hB1,hK1,hb1⟩
    have hyB:Hid (Below B w w1):=hxB.out.trans hB1
    have hyK:Hid (Lib.OthersKept 5 (some b) w w1):=hxK.out.trans hK1
    have hyX:Hid (Blk w1 w.heap.size 24 #[.int .i64 k,.int .i64 p,.string ⟨f.toArray⟩,.string ⟨x.toArray⟩,.int .i64 n,.slice (some ⟨bb,off,none⟩) m c]):=kept_blk hK1 hxX.out hne.out (by decide)
    have hyM:Hid (Blk w1 wr.heap.size 24 #[.int .i64 tk,.int .i64 tp,.string ⟨tf.toArray⟩,.string ⟨tx.toArray⟩,.int .i64 tn,.slice tA tL.length tc]):=kept_blk hK1 hxM.out hnm.out (by decide)
    have hyD:=hdZ hb1
    have hT1:Hid (TreeAt w1 (fun k=>k<B) (.mk tk tp tf tx tn tA tc tL)):=(hTt'.out.lowB ((Below.refl _ wr).alloc (Nat.le_trans hB (by have:=hbdr.out.lt;omega)) _)).lowB hB1
    have hbk:Hid (Writes 184 #[.pointer (some ⟨b,0,none⟩),.int .i64 k,.agg #[.int .i64 tk,.int .i64 tp,.string ⟨tf.toArray⟩,.string ⟨tx.toArray⟩,.int .i64 tn,.slice tA tL.length tc]] w1 B b (acc++pre++sep) (inPar (parB k tk) (showR (strip (.mk tk tp tf tx tn tA tc tL))))):=bracket_any _ (ih'.out _ hmem.out) k _ B b _ (he.out.low (hyB.out.mono h8)) h8 (Nat.le_trans hB hyB.out.size) hT1 hmt (by unfold Hid mostZ;simp;omega) hyD
    have s0:w1.cell? ⟨w.heap.size,0,none⟩=some (.int .i64 k):=hyX.out.cell 0
    have slt:=hyX.out.lt
    obtain ⟨m0,m1,m2,m3,m4,m5⟩:=cs6 hyM.out
    have mlt:=hyM.out.lt
    clear hB1 hK1 hb1 h0 h1 h2 h3 h4 h5 r0 rlt hwr
    go_wp2_with fail
    refine hbk.out.mono ?_
    rintro e wz ⟨rfl,hBz,hKz,hbz⟩
    have hBn:Hid (Below B w wz):=hyB.out.trans hBz
    have hKn:Hid (Lib.OthersKept 5 (some b) w wz):=hyK.out.trans hKz
    have hbxn:Hid (Blk wz w.heap.size 24 #[.int .i64 k,.int .i64 p,.string ⟨f.toArray⟩,.string ⟨x.toArray⟩,.int .i64 n,.slice (some ⟨bb,off,none⟩) m c]):=kept_blk hKz hyX.out hne.out (by decide)
    have hbdn:Hid (Bld wz B b (acc++showL k sep (strips (L.take (q+1))))):=by
     unfold Hid
     rw [hnx.out]
     rw [if_neg hq0,<-List.append_assoc,<-List.append_assoc];exact hbz
    clear hBz hKz hbz
    go_wp2_with fail
    go_roundg (m-(q+1))
    case measure=>have:=hg'.out;omega
    case rel=>exact ⟨q+1,by omega,rfl,by go_num,hBn,hKn,hbxn,hbdn⟩
  ·have i1:decide ((q:Int)<(m:Int))=false:=by simp;omega
   have hfin:Hid (L.take q=L):=List.take_of_length_le (by have:=hmm.out;omega)
   rw [hfin.out] at hbdr
   go_wp2_with fail
   go_end0
   exact ⟨rfl,hBr.out,hKr.out,hbdr.out⟩
end Go.Proofs.YtdjmckjbibfecaaGreatDoor.Sh

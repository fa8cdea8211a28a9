import Derived.Test.YtdjmckjbibfecaaGreatDoorQSb
import Derived.Test.YtdjmckjbibfecaaGreatDoorQSg
import Derived.Test.YtdjmckjbibfecaaGreatDoorQTf
import Derived.Test.YtdjmckjbibfecaaGreatDoorQVc
namespace Go.Proofs.YtdjmckjbibfecaaGreatDoor.Sh
open Go Go.RowKit Go.BigFrame Go.Maps
set_option maxRecDepth 100000
set_option maxHeartbeats 3200000
def dg (n:Nat):UInt8:=UInt8.ofNat (48+n % 10)
theorem decN_dg (f n:Nat):decN (f+1) n=if n<10 then [dg n] else decN f (n / 10)++[dg n]:=by
 rw [decN]
 split
 ·rename_i h;unfold dg;rw [Nat.mod_eq_of_lt h]
 ·rfl
theorem conv_dg (W:World) (n:Nat):(convert 33 9 (.slice (some ⟨W.heap.size,0,none⟩) 1 1)).run Tryz.prog (W.alloc (.cells #[.int .u8 (48+(n:Int) % 10)] 5))=.ok (.string ⟨[dg n].toArray⟩) (W.alloc (.cells #[.int .u8 (48+(n:Int) % 10)] 5)):=by
 rw [conv_new W (48+(n:Int) % 10),show (48+(n:Int) % 10).toNat=48+n % 10 by omega]
 rfl
theorem rdigitsN_any (n:Nat) (hn:n<=1099511627776) (w:World):Calls Tryz.prog 137 #[.int .i64 n] w fun e w'=>e=.returned (.string ⟨(decN 20 n).toArray⟩)/\Bz w w':=by
 have hc0:=conv_dg w n
 have hd0:Hid (decN 20 n=if n<10 then [dg n] else decN 19 (n / 10)++[dg n]):=decN_dg 19 n
 have hn1:n<10 ^ 20:=by omega
 have hn':=hdZ hn
 obtain ⟨R,hR⟩:=nmZ (decN 20 n)
 rw [hR.out] at hd0 ⊢
 clear hn
 go_enter Tryz.func137,Tryz.ntmps137
 go_wp2_with fail
 go_loopg [0,3] 19 (fun gg a v wr=>∃(m:Nat) (s:Txt),a=.int .i64 m/\v=.string ⟨s.toArray⟩/\Hid (m<10 ^ (gg+1))/\Hid (R=if m<10 then s else decN gg (m / 10)++s)/\Hid (s.length+gg=20)/\Hid (m<=1099511627776)/\Hid (Bz w wr))
 case atStart=>exact ⟨n,[dg n],rfl,rfl,hn1,hd0,rfl,hn',(Below.refl _ w).alloc leZ _⟩
 case round =>
  clear hd0 hc0 hn1
  obtain ⟨m,s,rfl,rfl,hm,hs,hl,hmm,hB⟩:=hrel
  have hm2:=hmm.out
  by_cases h9:m<10
  ·have i1:decide ((9:Int)<(m:Int))=false:=by simp;omega
   have hr:Hid (R=s):=by unfold Hid;rw [hs.out,if_pos h9]
   go_wp2_with fail
   go_ret
   exact ⟨by rw [hr.out];rfl,hB.out⟩
  ·have i1:decide ((9:Int)<(m:Int))=true:=by simp;omega
   obtain ⟨g,rfl⟩:∃g,gk=g+1:=by
    cases gk with
    | zero=>exact absurd hm.out (by rw [Nat.zero_add,Nat.pow_one];exact h9)
    | succ g=>exact ⟨g,rfl⟩
   obtain ⟨q,hq⟩:=nmZ (m / 10)
   have hqm:q<=m / 10/\m / 10<=q:=by have:=hq.out;omega
   have hc1:=conv_dg wr q
   have e0:Hid (({ data:=#[dg q] }:ByteArray)++{ data:=s.toArray }=⟨([dg q]++s).toArray⟩):=ByteArray.ext (by simp)
   have hl2:=hl.out
   have z1:¬9223372036854775807<1+s.length:=by omega
   have d1:(m:Int).tdiv 10=(q:Int):=by rw [Int.tdiv_eq_ediv_of_nonneg (by omega)];omega
   have w0:IntKind.i64.wrap (q:Int)=(q:Int):=IntWalk.i64_in _ (by omega)
   have t1:(q:Int).tmod 10=(q:Int) % 10:=IntWalk.rem_in _ _ (by omega)
   have w1:IntKind.i64.wrap (48+(q:Int) % 10)=48+(q:Int) % 10:=IntWalk.i64_in _ (by omega)
   have w2:IntKind.u8.wrap (48+(q:Int) % 10)=48+(q:Int) % 10:=IntWalk.u8_in _ (by omega)
   have hs2:Hid (R=if q<10 then [dg q]++s else decN g (q / 10)++([dg q]++s)):=by
    unfold Hid
    rw [hs.out,if_neg h9,hq.out,decN_dg]
    split<;>simp
   have hm3:Hid (q<10 ^ (g+1)):=by have h:=hm.out;rw [Nat.pow_succ] at h;unfold Hid;omega
   have hl3:Hid (([dg q]++s).length+g=20):=by unfold Hid;simp;omega
   have hm4:Hid (q<=1099511627776):=by unfold Hid;omega
   clear hs hm hmm hl hq
   go_wp2_with fail
   go_roundg g
   case measure=>omega
   case rel=>exact ⟨q,[dg q]++s,rfl,congrArg Value.string e0.out,hm3,hs2,hl3,hm4,hB.out.alloc hB.out.size _⟩
def ShowD (t:Tree):Prop:=∀(w:World) (ok:Nat->Prop),Hid (TreeAt w ok t)->Hid (mayR (strip t)=true)->Hid (szR (strip t)<=mostZ)->Calls Tryz.prog 136 #[.agg t.cells] w fun e w'=>e=.returned (.string ⟨(showR (strip t)).toArray⟩)/\Bz w w'
theorem rshow_text3 (t:Tree) (ih:∀u∈t.sub,ShowD u) (hk:t.kind=3):ShowD t:=by
 intro w ok hT hm hz
 obtain ⟨k,p,f,x,n,A,c,L⟩:=t
 replace hk:k=3:=hk
 subst hk
 have hT0:=hT.out
 rw [TreeAt] at hT0
 obtain ⟨hR,hlen⟩:=hT0
 have hR':=hdZ hR
 have hm':=hm.out
 have hz':=hz.out
 rw [strip,mayR] at hm'
 rw [strip,szR] at hz'
 have hsh:Hid (showR (strip (.mk 3 p f x n A c L))=f++[32,61,32,34]++x++[34]):=by
  unfold Hid;rw [strip,showR];rw [if_pos rfl];try simp
 rw [hsh.out]
 obtain ⟨m,hmm⟩:=nmZ (L.length)
 have ih':Hid (∀u∈L,ShowD u):=ih
 show Calls Tryz.prog 136 #[.agg #[.int .i64 3,.int .i64 p,.string ⟨f.toArray⟩,.string ⟨x.toArray⟩,.int .i64 n,.slice A L.length c]] w _
 rw [hmm.out] at hlen ⊢
 unfold mostZ at hz'
 have hb0:Hid (Bz w (w.alloc (.cells #[.int .i64 3,.int .i64 p,.string ⟨f.toArray⟩,.string ⟨x.toArray⟩,.int .i64 n,.slice A m c] 24))):=(Below.refl _ w).alloc leZ _
 have hbx:=hdZ (Blk.new w 24 #[.int .i64 3,.int .i64 p,.string ⟨f.toArray⟩,.string ⟨x.toArray⟩,.int .i64 n,.slice A m c])
 clear hT hR ih hm hz
 have e0:Hid (({ data:=f.toArray }:ByteArray)++{ data:=#[32,61,32,34] }++{ data:=x.toArray }++{ data:=#[34] }=⟨(f++[32,61,32,34]++x++[34]).toArray⟩):=ByteArray.ext (by simp)
 have z1:¬9223372036854775807<f.length+4:=by omega
 have z2:¬9223372036854775807<f.length+4+x.length:=by omega
 have z3:¬9223372036854775807<f.length+4+x.length+1:=by omega
 clear hm' hz'
 go_enter Tryz.func136,Tryz.ntmps136
 go_wp2_with fail
 go_ret
 exact ⟨congrArg (fun y=>Ending.returned (Value.string y)) e0.out,hb0.out⟩
theorem rshow_text4 (t:Tree) (ih:∀u∈t.sub,ShowD u) (hk:t.kind=4):ShowD t:=by
 intro w ok hT hm hz
 obtain ⟨k,p,f,x,n,A,c,L⟩:=t
 replace hk:k=4:=hk
 subst hk
 have hT0:=hT.out
 rw [TreeAt] at hT0
 obtain ⟨hR,hlen⟩:=hT0
 have hR':=hdZ hR
 have hm':=hm.out
 have hz':=hz.out
 rw [strip,mayR] at hm'
 rw [strip,szR] at hz'
 have hsh:Hid (showR (strip (.mk 4 p f x n A c L))=f++[32,126,32,34]++x++[34]):=by
  unfold Hid;rw [strip,showR];rw [if_neg (by decide),if_pos rfl];try simp
 rw [hsh.out]
 obtain ⟨m,hmm⟩:=nmZ (L.length)
 have ih':Hid (∀u∈L,ShowD u):=ih
 show Calls Tryz.prog 136 #[.agg #[.int .i64 4,.int .i64 p,.string ⟨f.toArray⟩,.string ⟨x.toArray⟩,.int .i64 n,.slice A L.length c]] w _
 rw [hmm.out] at hlen ⊢
 unfold mostZ at hz'
 have hb0:Hid (Bz w (w.alloc (.cells #[.int .i64 4,.int .i64 p,.string ⟨f.toArray⟩,.string ⟨x.toArray⟩,.int .i64 n,.slice A m c] 24))):=(Below.refl _ w).alloc leZ _
 have hbx:=hdZ (Blk.new w 24 #[.int .i64 4,.int .i64 p,.string ⟨f.toArray⟩,.string ⟨x.toArray⟩,.int .i64 n,.slice A m c])
 clear hT hR ih hm hz
 have e0:Hid (({ data:=f.toArray }:ByteArray)++{ data:=#[32,126,32,34] }++{ data:=x.toArray }++{ data:=#[34] }=⟨(f++[32,126,32,34]++x++[34]).toArray⟩):=ByteArray.ext (by simp)
 have z1:¬9223372036854775807<f.length+4:=by omega
 have z2:¬9223372036854775807<f.length+4+x.length:=by omega
 have z3:¬9223372036854775807<f.length+4+x.length+1:=by omega
 clear hm' hz'
 go_enter Tryz.func136,Tryz.ntmps136
 go_wp2_with fail
 go_ret
 exact ⟨congrArg (fun y=>Ending.returned (Value.string y)) e0.out,hb0.out⟩
theorem rshow_num5 (t:Tree) (ih:∀u∈t.sub,ShowD u) (hk:t.kind=5):ShowD t:=by
 intro w ok hT hm hz
 obtain ⟨k,p,f,x,n,A,c,L⟩:=t
 replace hk:k=5:=hk
 subst hk
 have hT0:=hT.out
 rw [TreeAt] at hT0
 obtain ⟨hR,hlen⟩:=hT0
 have hR':=hdZ hR
 have hm':=hm.out
 have hz':=hz.out
 rw [strip,mayR] at hm'
 rw [strip,szR] at hz'
 have hsh:Hid (showR (strip (.mk 5 p f x n A c L))=f++[32,60,61,32]++decN 20 n.toNat):=by
  unfold Hid;rw [strip,showR];rw [if_neg (by decide),if_neg (by decide),if_pos rfl];try simp
 rw [hsh.out]
 obtain ⟨m,hmm⟩:=nmZ (L.length)
 have ih':Hid (∀u∈L,ShowD u):=ih
 show Calls Tryz.prog 136 #[.agg #[.int .i64 5,.int .i64 p,.string ⟨f.toArray⟩,.string ⟨x.toArray⟩,.int .i64 n,.slice A L.length c]] w _
 rw [hmm.out] at hlen ⊢
 unfold mostZ at hz'
 have hb0:Hid (Bz w (w.alloc (.cells #[.int .i64 5,.int .i64 p,.string ⟨f.toArray⟩,.string ⟨x.toArray⟩,.int .i64 n,.slice A m c] 24))):=(Below.refl _ w).alloc leZ _
 have hbx:=hdZ (Blk.new w 24 #[.int .i64 5,.int .i64 p,.string ⟨f.toArray⟩,.string ⟨x.toArray⟩,.int .i64 n,.slice A m c])
 clear hT hR ih hm hz
 have hn:0<=n/\n<=1099511627776:=by
  rw [if_neg (by decide),if_neg (by decide),if_neg (by decide),if_pos (by decide)] at hm'
  simp only [Bool.and_eq_true,decide_eq_true_eq] at hm'
  exact ⟨hm'.1.2,hm'.2⟩
 obtain ⟨nn,rfl⟩:=Int.eq_ofNat_of_zero_le hn.1
 rw [show ((nn:Nat):Int).toNat=nn from rfl]
 have hnn:nn<=1099511627776:=by omega
 have hdl:(decN 20 nn).length<=20:=dec_len19
 have hcl0:Hid (∀W,Calls Tryz.prog 137 #[.int .i64 nn] W fun e w'=>e=.returned (.string ⟨(decN 20 nn).toArray⟩)/\Bz W w'):=fun W=>rdigitsN_any nn hnn W
 obtain ⟨dd,hdd⟩:=nmZ (decN 20 nn)
 rw [hdd.out] at hcl0 hdl ⊢
 obtain ⟨wa,hwa⟩:=nmZ (w.alloc (.cells #[.int .i64 5,.int .i64 p,.string ⟨f.toArray⟩,.string ⟨x.toArray⟩,.int .i64 nn,.slice A m c] 24))
 go_enter Tryz.func136,Tryz.ntmps136
 go_upto_region 7 with fail
 rw [hwa.out] at hb0 hbx ⊢
 have hcl:Hid (∀y:Ext wa,Calls Tryz.prog 137 #[.int .i64 nn] y.wd fun e w'=>e=.returned (.string ⟨dd.toArray⟩)/\Below y.wd.heap.size y.wd w'):=fun y=>hcl0.out y.wd
 have e0:Hid (({ data:=f.toArray }:ByteArray)++{ data:=#[32,60,61,32] }++{ data:=dd.toArray }=⟨(f++[32,60,61,32]++dd).toArray⟩):=ByteArray.ext (by simp)
 have z1:¬9223372036854775807<f.length+4:=by omega
 have z2:¬9223372036854775807<f.length+4+dd.length:=by omega
 have f2:∀y:Ext wa,y.wd.cell? ⟨w.heap.size,2,none⟩=some (.string ⟨f.toArray⟩):=fun y=>(y.cell ⟨w.heap.size,2,none⟩ hbx.out.lt).trans (hbx.out.cell 2)
 have f4:∀y:Ext wa,y.wd.cell? ⟨w.heap.size,4,none⟩=some (.int .i64 nn):=fun y=>(y.cell ⟨w.heap.size,4,none⟩ hbx.out.lt).trans (hbx.out.cell 4)
 clear hm' hz' hn hnn hwa
 refine wp_region_ext (by kernel_rfl) (by kernel_rfl) ?_
 repeat (go_big_quiet_step ((go_at_call 137;with_reducible exact Calls.ext_of (hcl.out _))))
 refine wpQuiet_nil ?_
 rintro _ ⟨y,rfl⟩
 have hby9:=hdZ (hb0.out.trans (y.below.mono hb0.out.size))
 go_wp2_with fail
 go_ret
 exact ⟨congrArg (fun y=>Ending.returned (Value.string y)) e0.out,hby9.out⟩
theorem rshow_num6 (t:Tree) (ih:∀u∈t.sub,ShowD u) (hk:t.kind=6):ShowD t:=by
 intro w ok hT hm hz
 obtain ⟨k,p,f,x,n,A,c,L⟩:=t
 replace hk:k=6:=hk
 subst hk
 have hT0:=hT.out
 rw [TreeAt] at hT0
 obtain ⟨hR,hlen⟩:=hT0
 have hR':=hdZ hR
 have hm':=hm.out
 have hz':=hz.out
 rw [strip,mayR] at hm'
 rw [strip,szR] at hz'
 have hsh:Hid (showR (strip (.mk 6 p f x n A c L))=f++[32,62,61,32]++decN 20 n.toNat):=by
  unfold Hid;rw [strip,showR];rw [if_neg (by decide),if_neg (by decide),if_neg (by decide),if_pos rfl];try simp
 rw [hsh.out]
 obtain ⟨m,hmm⟩:=nmZ (L.length)
 have ih':Hid (∀u∈L,ShowD u):=ih
 show Calls Tryz.prog 136 #[.agg #[.int .i64 6,.int .i64 p,.string ⟨f.toArray⟩,.string ⟨x.toArray⟩,.int .i64 n,.slice A L.length c]] w _
 rw [hmm.out] at hlen ⊢
 unfold mostZ at hz'
 have hb0:Hid (Bz w (w.alloc (.cells #[.int .i64 6,.int .i64 p,.string ⟨f.toArray⟩,.string ⟨x.toArray⟩,.int .i64 n,.slice A m c] 24))):=(Below.refl _ w).alloc leZ _
 have hbx:=hdZ (Blk.new w 24 #[.int .i64 6,.int .i64 p,.string ⟨f.toArray⟩,.string ⟨x.toArray⟩,.int .i64 n,.slice A m c])
 clear hT hR ih hm hz
 have hn:0<=n/\n<=1099511627776:=by
  rw [if_neg (by decide),if_neg (by decide),if_neg (by decide),if_pos (by decide)] at hm'
  simp only [Bool.and_eq_true,decide_eq_true_eq] at hm'
  exact ⟨hm'.1.2,hm'.2⟩
 obtain ⟨nn,rfl⟩:=Int.eq_ofNat_of_zero_le hn.1
 rw [show ((nn:Nat):Int).toNat=nn from rfl]
 have hnn:nn<=1099511627776:=by omega
 have hdl:(decN 20 nn).length<=20:=dec_len19
 have hcl0:Hid (∀W,Calls Tryz.prog 137 #[.int .i64 nn] W fun e w'=>e=.returned (.string ⟨(decN 20 nn).toArray⟩)/\Bz W w'):=fun W=>rdigitsN_any nn hnn W
 obtain ⟨dd,hdd⟩:=nmZ (decN 20 nn)
 rw [hdd.out] at hcl0 hdl ⊢
 obtain ⟨wa,hwa⟩:=nmZ (w.alloc (.cells #[.int .i64 6,.int .i64 p,.string ⟨f.toArray⟩,.string ⟨x.toArray⟩,.int .i64 nn,.slice A m c] 24))
 go_enter Tryz.func136,Tryz.ntmps136
 go_upto_region 9 with fail
 rw [hwa.out] at hb0 hbx ⊢
 have hcl:Hid (∀y:Ext wa,Calls Tryz.prog 137 #[.int .i64 nn] y.wd fun e w'=>e=.returned (.string ⟨dd.toArray⟩)/\Below y.wd.heap.size y.wd w'):=fun y=>hcl0.out y.wd
 have e0:Hid (({ data:=f.toArray }:ByteArray)++{ data:=#[32,62,61,32] }++{ data:=dd.toArray }=⟨(f++[32,62,61,32]++dd).toArray⟩):=ByteArray.ext (by simp)
 have z1:¬9223372036854775807<f.length+4:=by omega
 have z2:¬9223372036854775807<f.length+4+dd.length:=by omega
 have f2:∀y:Ext wa,y.wd.cell? ⟨w.heap.size,2,none⟩=some (.string ⟨f.toArray⟩):=fun y=>(y.cell ⟨w.heap.size,2,none⟩ hbx.out.lt).trans (hbx.out.cell 2)
 have f4:∀y:Ext wa,y.wd.cell? ⟨w.heap.size,4,none⟩=some (.int .i64 nn):=fun y=>(y.cell ⟨w.heap.size,4,none⟩ hbx.out.lt).trans (hbx.out.cell 4)
 clear hm' hz' hn hnn hwa
 refine wp_region_ext (by kernel_rfl) (by kernel_rfl) ?_
 repeat (go_big_quiet_step ((go_at_call 137;with_reducible exact Calls.ext_of (hcl.out _))))
 refine wpQuiet_nil ?_
 rintro _ ⟨y,rfl⟩
 have hby9:=hdZ (hb0.out.trans (y.below.mono hb0.out.size))
 go_wp2_with fail
 go_ret
 exact ⟨congrArg (fun y=>Ending.returned (Value.string y)) e0.out,hby9.out⟩
theorem rshow_like (t:Tree) (ih:∀u∈t.sub,ShowD u) (hk:t.kind=7):ShowD t:=by
 intro w ok hT hm hz
 obtain ⟨k,p,f,x,n,A,c,L⟩:=t
 replace hk:k=7:=hk
 subst hk
 have hT0:=hT.out
 rw [TreeAt] at hT0
 obtain ⟨hR,hlen⟩:=hT0
 have hR':=hdZ hR
 have hm':=hm.out
 have hz':=hz.out
 rw [strip,mayR] at hm'
 rw [strip,szR] at hz'
 have hsh:Hid (showR (strip (.mk 7 p f x n A c L))=f++[32,61,32]++paperT p++[46]++x):=by
  unfold Hid;rw [strip,showR];rw [if_neg (by decide),if_neg (by decide),if_neg (by decide),if_neg (by decide),if_pos rfl];try simp
 rw [hsh.out]
 obtain ⟨m,hmm⟩:=nmZ (L.length)
 have ih':Hid (∀u∈L,ShowD u):=ih
 show Calls Tryz.prog 136 #[.agg #[.int .i64 7,.int .i64 p,.string ⟨f.toArray⟩,.string ⟨x.toArray⟩,.int .i64 n,.slice A L.length c]] w _
 rw [hmm.out] at hlen ⊢
 unfold mostZ at hz'
 have hb0:Hid (Bz w (w.alloc (.cells #[.int .i64 7,.int .i64 p,.string ⟨f.toArray⟩,.string ⟨x.toArray⟩,.int .i64 n,.slice A m c] 24))):=(Below.refl _ w).alloc leZ _
 have hbx:=hdZ (Blk.new w 24 #[.int .i64 7,.int .i64 p,.string ⟨f.toArray⟩,.string ⟨x.toArray⟩,.int .i64 n,.slice A m c])
 clear hT hR ih hm hz
 have hp:0<=p/\p<=5:=by
  rw [if_neg (by decide),if_neg (by decide),if_neg (by decide),if_neg (by decide),if_pos (by decide)] at hm'
  simp only [Bool.and_eq_true,decide_eq_true_eq] at hm'
  omega
 obtain ⟨q,rfl⟩:=Int.eq_ofNat_of_zero_le hp.1
 have hq:q<6:=by omega
 have hpl:(paperT (q:Int)).length<=20:=paper_len _
 have hcl0:Hid (∀W,Calls Tryz.prog 187 #[.int .i64 q] W fun e w'=>e=.returned (.string ⟨(paperT (q:Int)).toArray⟩)/\W=w'):=fun W=>rword_any q hq W
 obtain ⟨dd,hdd⟩:=nmZ (paperT (q:Int))
 rw [hdd.out] at hcl0 hpl ⊢
 obtain ⟨wa,hwa⟩:=nmZ (w.alloc (.cells #[.int .i64 7,.int .i64 (q:Nat),.string ⟨f.toArray⟩,.string ⟨x.toArray⟩,.int .i64 n,.slice A m c] 24))
 go_enter Tryz.func136,Tryz.ntmps136
 go_upto_region 11 with fail
 rw [hwa.out] at hb0 hbx ⊢
 have hcl:Hid (∀y:Ext wa,Calls Tryz.prog 187 #[.int .i64 q] y.wd fun e w'=>e=.returned (.string ⟨dd.toArray⟩)/\y.wd=w'):=fun y=>hcl0.out y.wd
 have e0:Hid (({ data:=f.toArray }:ByteArray)++{ data:=#[32,61,32] }++{ data:=dd.toArray }++{ data:=#[46] }++{ data:=x.toArray }=⟨(f++[32,61,32]++dd++[46]++x).toArray⟩):=ByteArray.ext (by simp)
 have z1:¬9223372036854775807<f.length+3:=by omega
 have z2:¬9223372036854775807<f.length+3+dd.length:=by omega
 have z3:¬9223372036854775807<f.length+3+dd.length+1:=by omega
 have z4:¬9223372036854775807<f.length+3+dd.length+1+x.length:=by omega
 have f1:∀y:Ext wa,y.wd.cell? ⟨w.heap.size,1,none⟩=some (.int .i64 q):=fun y=>(y.cell ⟨w.heap.size,1,none⟩ hbx.out.lt).trans (hbx.out.cell 1)
 have f2:∀y:Ext wa,y.wd.cell? ⟨w.heap.size,2,none⟩=some (.string ⟨f.toArray⟩):=fun y=>(y.cell ⟨w.heap.size,2,none⟩ hbx.out.lt).trans (hbx.out.cell 2)
 have f3:∀y:Ext wa,y.wd.cell? ⟨w.heap.size,3,none⟩=some (.string ⟨x.toArray⟩):=fun y=>(y.cell ⟨w.heap.size,3,none⟩ hbx.out.lt).trans (hbx.out.cell 3)
 clear hm' hz' hp hq hwa
 refine wp_region_ext (by kernel_rfl) (by kernel_rfl) ?_
 repeat (go_big_quiet_step ((go_at_call 187;with_reducible exact Calls.ext_of_same (hcl.out _))))
 refine wpQuiet_nil ?_
 rintro _ ⟨y,rfl⟩
 have hby9:=hdZ (hb0.out.trans (y.below.mono hb0.out.size))
 go_wp2_with fail
 go_ret
 exact ⟨congrArg (fun y=>Ending.returned (Value.string y)) e0.out,hby9.out⟩
theorem rshow_row0 (t:Tree) (ih:∀u∈t.sub,ShowD u) (hk:t.kind=0):ShowD t:=by
 intro w ok hT hm hz
 obtain ⟨k,p,f,x,n,A,c,L⟩:=t
 replace hk:k=0:=hk
 subst hk
 have hT0:=hT.out
 rw [TreeAt] at hT0
 obtain ⟨hR,hlen⟩:=hT0
 have hR':=hdZ hR
 have hm':=hm.out
 have hz':=hz.out
 rw [strip,mayR] at hm'
 rw [strip,szR] at hz'
 have hsh:Hid (showR (strip (.mk 0 p f x n A c L))=showL 0 [32,97,110,100,32] (strips L)):=by
  unfold Hid;rw [strip,showR];repeat (first | rw [if_neg (by decide)] | rw [if_pos rfl])
 rw [hsh.out]
 obtain ⟨m,hmm⟩:=nmZ (L.length)
 have ih':Hid (∀u∈L,ShowD u):=ih
 show Calls Tryz.prog 136 #[.agg #[.int .i64 0,.int .i64 p,.string ⟨f.toArray⟩,.string ⟨x.toArray⟩,.int .i64 n,.slice A L.length c]] w _
 rw [hmm.out] at hlen ⊢
 unfold mostZ at hz'
 have hb0:Hid (Bz w (w.alloc (.cells #[.int .i64 0,.int .i64 p,.string ⟨f.toArray⟩,.string ⟨x.toArray⟩,.int .i64 n,.slice A m c] 24))):=(Below.refl _ w).alloc leZ _
 have hbx:=hdZ (Blk.new w 24 #[.int .i64 0,.int .i64 p,.string ⟨f.toArray⟩,.string ⟨x.toArray⟩,.int .i64 n,.slice A m c])
 clear hT hR ih hm hz
 have hml:Hid (mayL (strips L)=true):=by
  unfold Hid
  rw [if_pos (by decide)] at hm';simp only [Bool.and_eq_true] at hm';exact hm'.2
 have hzl:Hid (szL (strips L)<=70368744177664):=by unfold Hid;omega
 clear hm' hz'
 obtain ⟨wa,hwa⟩:=nmZ (w.alloc (.cells #[.int .i64 0,.int .i64 p,.string ⟨f.toArray⟩,.string ⟨x.toArray⟩,.int .i64 n,.slice A m c] 24))
 go_enter Tryz.func136,Tryz.ntmps136
 go_wp2_with fail
 rw [hwa.out] at hb0 hbx ⊢
 clear hwa
 unfold maxLen at hlen
 go_loopg [3,4] m (fun gg v a wr=>∃q:Nat,q<=m/\gg=m-q/\a=.int .i64 q/\v=.string ⟨(showL 0 [32,97,110,100,32] (strips (L.take q))).toArray⟩/\Hid (Bz w wr)/\Hid (Blk wr w.heap.size 24 #[.int .i64 0,.int .i64 p,.string ⟨f.toArray⟩,.string ⟨x.toArray⟩,.int .i64 n,.slice A m c]))
 case atStart=>exact ⟨0,Nat.zero_le _,rfl,rfl,by simp [strips,showL],hb0,hbx⟩
 case round =>
  clear hb0 hbx
  obtain ⟨q,hq,hg,rfl,rfl,hB,hbx⟩:=hrel
  have hg':=hdZ hg
  clear hg
  have e5:wr.cell? ⟨w.heap.size,5,none⟩=some (.slice A m c):=hbx.out.cell 5
  have elt:=hbx.out.lt
  by_cases hlt:q<m
  ·have i1:decide ((q:Int)<(m:Int))=true:=by simp;omega
   have i2:(q:Int)<(m:Int):=by omega
   have i3:(0:Int)<=(q:Int):=by omega
   obtain ⟨t,ht⟩:∃t,L[q]?=some t:=⟨_,gZ (by have:=hmm.out;omega)⟩
   have hmem:=hdZ (mgZ ht)
   have hnx:=hdZ (show_next ht 0 [32,97,110,100,32])
   have hsz:=size_next ht 0 [32,97,110,100,32] (by decide)
   have hsl:=show_len (strip t)
   obtain ⟨hc,hTt⟩:=(hR'.out.below hB.out).get q t ht
   have hszt:Hid (szR (strip t)<=mostZ):=by have:=hzl.out;unfold Hid mostZ;omega
   have hmt:=hdZ (mayL_mem' hml.out hmem.out)
   have hcall:Hid (∀W,Bz wr W->Calls Tryz.prog 136 #[.agg t.cells] W fun e w'=>e=.returned (.string ⟨(showR (strip t)).toArray⟩)/\Bz W w'):=fun W hW=>ih'.out t hmem.out W ok (hTt.below hW) hmt hszt
   clear ht hTt hmt hszt
   obtain ⟨pre,hpre⟩:∃z,Hid (showL 0 [32,97,110,100,32] (strips (L.take q))=z):=⟨_,hdZ rfl⟩
   obtain ⟨tt,htt⟩:=nmZ (showR (strip t))
   rw [hpre.out] at hnx hsz ⊢
   rw [htt.out] at hnx hcall hsl
   have hzz:=hzl.out
   obtain ⟨tk,tp,tf,tx,tn,tA,tc,tL⟩:=t
   obtain ⟨bb,off,rfl,_,g0,g1,g2,g3,g4,g5⟩:=hc
   rw [Nat.zero_add] at g0 g1 g2 g3 g4 g5
   unfold Tree.cells at hcall
   have hnx':Hid (showL 0 [32,97,110,100,32] (strips (L.take (q+1)))=pre++(if q=0 then [] else [32,97,110,100,32])++inPar (parB 0 tk) tt):=hnx.out
   clear hnx
   have hnx:=hnx'
   clear hnx'
   have hbl:Bz wr (wr.alloc (.cells #[.int .i64 tk,.int .i64 tp,.string ⟨tf.toArray⟩,.string ⟨tx.toArray⟩,.int .i64 tn,.slice tA tL.length tc] 24)):=(Below.refl _ wr).alloc leZ _
   have hc2:=hdZ (hcall.out _ hbl)
   have hM:=hdZ (Blk.new wr 24 #[.int .i64 tk,.int .i64 tp,.string ⟨tf.toArray⟩,.string ⟨tx.toArray⟩,.int .i64 tn,.slice tA tL.length tc])
   have hB2:=hdZ (hB.out.trans (hbl.mono hB.out.size))
   have hbx2:=kbY hbx hbl
   have ne1:wr.heap.size≠w.heap.size:=by omega
   have ne2:w.heap.size≠wr.heap.size:=by omega
   obtain ⟨wb,hwb⟩:=nmZ (wr.alloc (.cells #[.int .i64 tk,.int .i64 tp,.string ⟨tf.toArray⟩,.string ⟨tx.toArray⟩,.int .i64 tn,.slice tA tL.length tc] 24))
   go_upto_region 17 with fail
   rw [hwb.out] at hc2 hM hB2 hbx2 ⊢
   clear hbl hwb hB hbx hcall e5 elt g0 g1 g2 g3 g4 g5
   obtain ⟨m0,m1,m2,m3,m4,m5⟩:=cs6 hM.out
   have mlt:=hM.out.lt
   go_wp2_with fail
   refine hc2.out.mono ?_
   rintro e w3 ⟨rfl,hb3⟩
   have hB3:=hdZ (hB2.out.trans (hb3.mono hB2.out.size))
   have hbx3:=kbY hbx2 hb3
   have hM3:=kbY hM hb3
   clear hb3 hc2 hB2 hbx2 hM m0 m1 m2 m3 m4 m5 mlt
   have m0:w3.cell? ⟨wr.heap.size,0,none⟩=some (.int .i64 tk):=hM3.out.cell 0
   have mlt:=hM3.out.lt
   have r0:w3.cell? ⟨w.heap.size,0,none⟩=some (.int .i64 0):=hbx3.out.cell 0
   have rlt:=hbx3.out.lt
   by_cases hq0:q=0
   ·subst hq0
    by_cases h1:tk=1
    ·subst h1
     have hpb:parB 0 1=true:=rfl
     have z0:¬9223372036854775807<1+tt.length:=by omega
     have z1:¬9223372036854775807<1+tt.length+1:=by omega
     have z2:¬9223372036854775807<pre.length+(1+tt.length+1):=by omega
     have e0:Hid (({ data:=pre.toArray }:ByteArray)++({ data:=#[40] }++{ data:=tt.toArray }++{ data:=#[41] })=⟨(showL 0 [32,97,110,100,32] (strips (L.take (0+1)))).toArray⟩):=by
      unfold Hid
      rw [hnx.out,hpb]
      exact ByteArray.ext (by simp [inPar,sOpen,sShut])
     go_wp2_with fail
     go_roundg (m-(0+1))
     case measure=>have:=hg'.out;omega
     case rel=>exact ⟨0+1,by omega,rfl,by go_num,congrArg Value.string e0.out,hB3.out,hbx3.out⟩
    ·have j1:(tk==1)=false:=by simp [h1]
     by_cases h2:tk=0
     ·subst h2
      have hpb:parB 0 0=true:=rfl
      have z0:¬9223372036854775807<1+tt.length:=by omega
      have z1:¬9223372036854775807<1+tt.length+1:=by omega
      have z2:¬9223372036854775807<pre.length+(1+tt.length+1):=by omega
      have e0:Hid (({ data:=pre.toArray }:ByteArray)++({ data:=#[40] }++{ data:=tt.toArray }++{ data:=#[41] })=⟨(showL 0 [32,97,110,100,32] (strips (L.take (0+1)))).toArray⟩):=by
       unfold Hid
       rw [hnx.out,hpb]
       exact ByteArray.ext (by simp [inPar,sOpen,sShut])
      go_wp2_with fail
      go_roundg (m-(0+1))
      case measure=>have:=hg'.out;omega
      case rel=>exact ⟨0+1,by omega,rfl,by go_num,congrArg Value.string e0.out,hB3.out,hbx3.out⟩
     ·have j2:(tk==0)=false:=by simp [h2]
      have hpb:parB 0 tk=false:=by unfold parB;rw [j1,j2];rfl
      have z0:¬9223372036854775807<pre.length+tt.length:=by omega
      have e0:Hid (({ data:=pre.toArray }:ByteArray)++{ data:=tt.toArray }=⟨(showL 0 [32,97,110,100,32] (strips (L.take (0+1)))).toArray⟩):=by
       unfold Hid
       rw [hnx.out,hpb]
       exact ByteArray.ext (by simp [inPar])
      go_wp2_with fail
      go_roundg (m-(0+1))
      case measure=>have:=hg'.out;omega
      case rel=>exact ⟨0+1,by omega,rfl,by go_num,congrArg Value.string e0.out,hB3.out,hbx3.out⟩
   ·have jq:decide ((0:Int)<(q:Int))=true:=by simp;omega
    by_cases h1:tk=1
    ·subst h1
     have hpb:parB 0 1=true:=rfl
     have z0:¬9223372036854775807<pre.length+5:=by omega
     have z1:¬9223372036854775807<1+tt.length:=by omega
     have z2:¬9223372036854775807<1+tt.length+1:=by omega
     have z3:¬9223372036854775807<pre.length+5+(1+tt.length+1):=by omega
     have e0:Hid (({ data:=pre.toArray }:ByteArray)++{ data:=#[32,97,110,100,32] }++({ data:=#[40] }++{ data:=tt.toArray }++{ data:=#[41] })=⟨(showL 0 [32,97,110,100,32] (strips (L.take (q+1)))).toArray⟩):=by
      unfold Hid
      rw [hnx.out,hpb]
      exact ByteArray.ext (by simp [inPar,sOpen,sShut,hq0])
     go_wp2_with fail
     go_roundg (m-(q+1))
     case measure=>have:=hg'.out;omega
     case rel=>exact ⟨q+1,by omega,rfl,by go_num,congrArg Value.string e0.out,hB3.out,hbx3.out⟩
    ·have j1:(tk==1)=false:=by simp [h1]
     by_cases h2:tk=0
     ·subst h2
      have hpb:parB 0 0=true:=rfl
      have z0:¬9223372036854775807<pre.length+5:=by omega
      have z1:¬9223372036854775807<1+tt.length:=by omega
      have z2:¬9223372036854775807<1+tt.length+1:=by omega
      have z3:¬9223372036854775807<pre.length+5+(1+tt.length+1):=by omega
      have e0:Hid (({ data:=pre.toArray }:ByteArray)++{ data:=#[32,97,110,100,32] }++({ data:=#[40] }++{ data:=tt.toArray }++{ data:=#[41] })=⟨(showL 0 [32,97,110,100,32] (strips (L.take (q+1)))).toArray⟩):=by
       unfold Hid
       rw [hnx.out,hpb]
       exact ByteArray.ext (by simp [inPar,sOpen,sShut,hq0])
      go_wp2_with fail
      go_roundg (m-(q+1))
      case measure=>have:=hg'.out;omega
      case rel=>exact ⟨q+1,by omega,rfl,by go_num,congrArg Value.string e0.out,hB3.out,hbx3.out⟩
     ·have j2:(tk==0)=false:=by simp [h2]
      have hpb:parB 0 tk=false:=by unfold parB;rw [j1,j2];rfl
      have z0:¬9223372036854775807<pre.length+5:=by omega
      have z1:¬9223372036854775807<pre.length+5+tt.length:=by omega
      have e0:Hid (({ data:=pre.toArray }:ByteArray)++{ data:=#[32,97,110,100,32] }++{ data:=tt.toArray }=⟨(showL 0 [32,97,110,100,32] (strips (L.take (q+1)))).toArray⟩):=by
       unfold Hid
       rw [hnx.out,hpb]
       exact ByteArray.ext (by simp [inPar,hq0])
      go_wp2_with fail
      go_roundg (m-(q+1))
      case measure=>have:=hg'.out;omega
      case rel=>exact ⟨q+1,by omega,rfl,by go_num,congrArg Value.string e0.out,hB3.out,hbx3.out⟩
  ·have i1:decide ((q:Int)<(m:Int))=false:=by simp;omega
   have hfin:Hid (L.take q=L):=List.take_of_length_le (by have:=hmm.out;omega)
   rw [hfin.out]
   have r0:wr.cell? ⟨w.heap.size,0,none⟩=some (.int .i64 0):=hbx.out.cell 0
   have rlt:=hbx.out.lt
   go_wp2_with fail
   go_ret
   exact ⟨rfl,hB.out⟩
theorem rshow_row1 (t:Tree) (ih:∀u∈t.sub,ShowD u) (hk:t.kind=1):ShowD t:=by
 intro w ok hT hm hz
 obtain ⟨k,p,f,x,n,A,c,L⟩:=t
 replace hk:k=1:=hk
 subst hk
 have hT0:=hT.out
 rw [TreeAt] at hT0
 obtain ⟨hR,hlen⟩:=hT0
 have hR':=hdZ hR
 have hm':=hm.out
 have hz':=hz.out
 rw [strip,mayR] at hm'
 rw [strip,szR] at hz'
 have hsh:Hid (showR (strip (.mk 1 p f x n A c L))=showL 1 [32,111,114,32] (strips L)):=by
  unfold Hid;rw [strip,showR];repeat (first | rw [if_neg (by decide)] | rw [if_pos rfl])
 rw [hsh.out]
 obtain ⟨m,hmm⟩:=nmZ (L.length)
 have ih':Hid (∀u∈L,ShowD u):=ih
 show Calls Tryz.prog 136 #[.agg #[.int .i64 1,.int .i64 p,.string ⟨f.toArray⟩,.string ⟨x.toArray⟩,.int .i64 n,.slice A L.length c]] w _
 rw [hmm.out] at hlen ⊢
 unfold mostZ at hz'
 have hb0:Hid (Bz w (w.alloc (.cells #[.int .i64 1,.int .i64 p,.string ⟨f.toArray⟩,.string ⟨x.toArray⟩,.int .i64 n,.slice A m c] 24))):=(Below.refl _ w).alloc leZ _
 have hbx:=hdZ (Blk.new w 24 #[.int .i64 1,.int .i64 p,.string ⟨f.toArray⟩,.string ⟨x.toArray⟩,.int .i64 n,.slice A m c])
 clear hT hR ih hm hz
 have hml:Hid (mayL (strips L)=true):=by
  unfold Hid
  rw [if_pos (by decide)] at hm';simp only [Bool.and_eq_true] at hm';exact hm'.2
 have hzl:Hid (szL (strips L)<=70368744177664):=by unfold Hid;omega
 clear hm' hz'
 obtain ⟨wa,hwa⟩:=nmZ (w.alloc (.cells #[.int .i64 1,.int .i64 p,.string ⟨f.toArray⟩,.string ⟨x.toArray⟩,.int .i64 n,.slice A m c] 24))
 go_enter Tryz.func136,Tryz.ntmps136
 go_wp2_with fail
 rw [hwa.out] at hb0 hbx ⊢
 clear hwa
 unfold maxLen at hlen
 go_loopg [3,4] m (fun gg v a wr=>∃q:Nat,q<=m/\gg=m-q/\a=.int .i64 q/\v=.string ⟨(showL 1 [32,111,114,32] (strips (L.take q))).toArray⟩/\Hid (Bz w wr)/\Hid (Blk wr w.heap.size 24 #[.int .i64 1,.int .i64 p,.string ⟨f.toArray⟩,.string ⟨x.toArray⟩,.int .i64 n,.slice A m c]))
 case atStart=>exact ⟨0,Nat.zero_le _,rfl,rfl,by simp [strips,showL],hb0,hbx⟩
 case round =>
  clear hb0 hbx
  obtain ⟨q,hq,hg,rfl,rfl,hB,hbx⟩:=hrel
  have hg':=hdZ hg
  clear hg
  have e5:wr.cell? ⟨w.heap.size,5,none⟩=some (.slice A m c):=hbx.out.cell 5
  have elt:=hbx.out.lt
  by_cases hlt:q<m
  ·have i1:decide ((q:Int)<(m:Int))=true:=by simp;omega
   have i2:(q:Int)<(m:Int):=by omega
   have i3:(0:Int)<=(q:Int):=by omega
   obtain ⟨t,ht⟩:∃t,L[q]?=some t:=⟨_,gZ (by have:=hmm.out;omega)⟩
   have hmem:=hdZ (mgZ ht)
   have hnx:=hdZ (show_next ht 1 [32,111,114,32])
   have hsz:=size_next ht 1 [32,111,114,32] (by decide)
   have hsl:=show_len (strip t)
   obtain ⟨hc,hTt⟩:=(hR'.out.below hB.out).get q t ht
   have hszt:Hid (szR (strip t)<=mostZ):=by have:=hzl.out;unfold Hid mostZ;omega
   have hmt:=hdZ (mayL_mem' hml.out hmem.out)
   have hcall:Hid (∀W,Bz wr W->Calls Tryz.prog 136 #[.agg t.cells] W fun e w'=>e=.returned (.string ⟨(showR (strip t)).toArray⟩)/\Bz W w'):=fun W hW=>ih'.out t hmem.out W ok (hTt.below hW) hmt hszt
   clear ht hTt hmt hszt
   obtain ⟨pre,hpre⟩:∃z,Hid (showL 1 [32,111,114,32] (strips (L.take q))=z):=⟨_,hdZ rfl⟩
   obtain ⟨tt,htt⟩:=nmZ (showR (strip t))
   rw [hpre.out] at hnx hsz ⊢
   rw [htt.out] at hnx hcall hsl
   have hzz:=hzl.out
   obtain ⟨tk,tp,tf,tx,tn,tA,tc,tL⟩:=t
   obtain ⟨bb,off,rfl,_,g0,g1,g2,g3,g4,g5⟩:=hc
   rw [Nat.zero_add] at g0 g1 g2 g3 g4 g5
   unfold Tree.cells at hcall
   have hnx':Hid (showL 1 [32,111,114,32] (strips (L.take (q+1)))=pre++(if q=0 then [] else [32,111,114,32])++inPar (parB 1 tk) tt):=hnx.out
   clear hnx
   have hnx:=hnx'
   clear hnx'
   have hbl:Bz wr (wr.alloc (.cells #[.int .i64 tk,.int .i64 tp,.string ⟨tf.toArray⟩,.string ⟨tx.toArray⟩,.int .i64 tn,.slice tA tL.length tc] 24)):=(Below.refl _ wr).alloc leZ _
   have hc2:=hdZ (hcall.out _ hbl)
   have hM:=hdZ (Blk.new wr 24 #[.int .i64 tk,.int .i64 tp,.string ⟨tf.toArray⟩,.string ⟨tx.toArray⟩,.int .i64 tn,.slice tA tL.length tc])
   have hB2:=hdZ (hB.out.trans (hbl.mono hB.out.size))
   have hbx2:=kbY hbx hbl
   have ne1:wr.heap.size≠w.heap.size:=by omega
   have ne2:w.heap.size≠wr.heap.size:=by omega
   obtain ⟨wb,hwb⟩:=nmZ (wr.alloc (.cells #[.int .i64 tk,.int .i64 tp,.string ⟨tf.toArray⟩,.string ⟨tx.toArray⟩,.int .i64 tn,.slice tA tL.length tc] 24))
   go_upto_region 17 with fail
   rw [hwb.out] at hc2 hM hB2 hbx2 ⊢
   clear hbl hwb hB hbx hcall e5 elt g0 g1 g2 g3 g4 g5
   obtain ⟨m0,m1,m2,m3,m4,m5⟩:=cs6 hM.out
   have mlt:=hM.out.lt
   go_wp2_with fail
   refine hc2.out.mono ?_
   rintro e w3 ⟨rfl,hb3⟩
   have hB3:=hdZ (hB2.out.trans (hb3.mono hB2.out.size))
   have hbx3:=kbY hbx2 hb3
   have hM3:=kbY hM hb3
   clear hb3 hc2 hB2 hbx2 hM m0 m1 m2 m3 m4 m5 mlt
   have m0:w3.cell? ⟨wr.heap.size,0,none⟩=some (.int .i64 tk):=hM3.out.cell 0
   have mlt:=hM3.out.lt
   have r0:w3.cell? ⟨w.heap.size,0,none⟩=some (.int .i64 1):=hbx3.out.cell 0
   have rlt:=hbx3.out.lt
   by_cases hq0:q=0
   ·subst hq0
    by_cases h1:tk=1
    ·subst h1
     have hpb:parB 1 1=true:=rfl
     have z0:¬9223372036854775807<1+tt.length:=by omega
     have z1:¬9223372036854775807<1+tt.length+1:=by omega
     have z2:¬9223372036854775807<pre.length+(1+tt.length+1):=by omega
     have e0:Hid (({ data:=pre.toArray }:ByteArray)++({ data:=#[40] }++{ data:=tt.toArray }++{ data:=#[41] })=⟨(showL 1 [32,111,114,32] (strips (L.take (0+1)))).toArray⟩):=by
      unfold Hid
      rw [hnx.out,hpb]
      exact ByteArray.ext (by simp [inPar,sOpen,sShut])
     go_wp2_with fail
     go_roundg (m-(0+1))
     case measure=>have:=hg'.out;omega
     case rel=>exact ⟨0+1,by omega,rfl,by go_num,congrArg Value.string e0.out,hB3.out,hbx3.out⟩
    ·have j1:(tk==1)=false:=by simp [h1]
     by_cases h2:tk=0
     ·subst h2
      have hpb:parB 1 0=false:=rfl
      have z0:¬9223372036854775807<pre.length+tt.length:=by omega
      have e0:Hid (({ data:=pre.toArray }:ByteArray)++{ data:=tt.toArray }=⟨(showL 1 [32,111,114,32] (strips (L.take (0+1)))).toArray⟩):=by
       unfold Hid
       rw [hnx.out,hpb]
       exact ByteArray.ext (by simp [inPar])
      go_wp2_with fail
      go_roundg (m-(0+1))
      case measure=>have:=hg'.out;omega
      case rel=>exact ⟨0+1,by omega,rfl,by go_num,congrArg Value.string e0.out,hB3.out,hbx3.out⟩
     ·have j2:(tk==0)=false:=by simp [h2]
      have hpb:parB 1 tk=false:=by unfold parB;rw [j1,j2];rfl
      have z0:¬9223372036854775807<pre.length+tt.length:=by omega
      have e0:Hid (({ data:=pre.toArray }:ByteArray)++{ data:=tt.toArray }=⟨(showL 1 [32,111,114,32] (strips (L.take (0+1)))).toArray⟩):=by
       unfold Hid
       rw [hnx.out,hpb]
       exact ByteArray.ext (by simp [inPar])
      go_wp2_with fail
      go_roundg (m-(0+1))
      case measure=>have:=hg'.out;omega
      case rel=>exact ⟨0+1,by omega,rfl,by go_num,congrArg Value.string e0.out,hB3.out,hbx3.out⟩
   ·have jq:decide ((0:Int)<(q:Int))=true:=by simp;omega
    by_cases h1:tk=1
    ·subst h1
     have hpb:parB 1 1=true:=rfl
     have z0:¬9223372036854775807<pre.length+4:=by omega
     have z1:¬9223372036854775807<1+tt.length:=by omega
     have z2:¬9223372036854775807<1+tt.length+1:=by omega
     have z3:¬9223372036854775807<pre.length+4+(1+tt.length+1):=by omega
     have e0:Hid (({ data:=pre.toArray }:ByteArray)++{ data:=#[32,111,114,32] }++({ data:=#[40] }++{ data:=tt.toArray }++{ data:=#[41] })=⟨(showL 1 [32,111,114,32] (strips (L.take (q+1)))).toArray⟩):=by
      unfold Hid
      rw [hnx.out,hpb]
      exact ByteArray.ext (by simp [inPar,sOpen,sShut,hq0])
     go_wp2_with fail
     go_roundg (m-(q+1))
     case measure=>have:=hg'.out;omega
     case rel=>exact ⟨q+1,by omega,rfl,by go_num,congrArg Value.string e0.out,hB3.out,hbx3.out⟩
    ·have j1:(tk==1)=false:=by simp [h1]
     by_cases h2:tk=0
     ·subst h2
      have hpb:parB 1 0=false:=rfl
      have z0:¬9223372036854775807<pre.length+4:=by omega
      have z1:¬9223372036854775807<pre.length+4+tt.length:=by omega
      have e0:Hid (({ data:=pre.toArray }:ByteArray)++{ data:=#[32,111,114,32] }++{ data:=tt.toArray }=⟨(showL 1 [32,111,114,32] (strips (L.take (q+1)))).toArray⟩):=by
       unfold Hid
       rw [hnx.out,hpb]
       exact ByteArray.ext (by simp [inPar,hq0])
      go_wp2_with fail
      go_roundg (m-(q+1))
      case measure=>have:=hg'.out;omega
      case rel=>exact ⟨q+1,by omega,rfl,by go_num,congrArg Value.string e0.out,hB3.out,hbx3.out⟩
     ·have j2:(tk==0)=false:=by simp [h2]
      have hpb:parB 1 tk=false:=by unfold parB;rw [j1,j2];rfl
      have z0:¬9223372036854775807<pre.length+4:=by omega
      have z1:¬9223372036854775807<pre.length+4+tt.length:=by omega
      have e0:Hid (({ data:=pre.toArray }:ByteArray)++{ data:=#[32,111,114,32] }++{ data:=tt.toArray }=⟨(showL 1 [32,111,114,32] (strips (L.take (q+1)))).toArray⟩):=by
       unfold Hid
       rw [hnx.out,hpb]
       exact ByteArray.ext (by simp [inPar,hq0])
      go_wp2_with fail
      go_roundg (m-(q+1))
      case measure=>have:=hg'.out;omega
      case rel=>exact ⟨q+1,by omega,rfl,by go_num,congrArg Value.string e0.out,hB3.out,hbx3.out⟩
  ·have i1:decide ((q:Int)<(m:Int))=false:=by simp;omega
   have hfin:Hid (L.take q=L):=List.take_of_length_le (by have:=hmm.out;omega)
   rw [hfin.out]
   have r0:wr.cell? ⟨w.heap.size,0,none⟩=some (.int .i64 1):=hbx.out.cell 0
   have rlt:=hbx.out.lt
   go_wp2_with fail
   go_ret
   exact ⟨rfl,hB.out⟩
theorem rshow_not (t:Tree) (ih:∀u∈t.sub,ShowD u) (hk:t.kind=2):ShowD t:=by
 intro w ok hT hm hz
 obtain ⟨k,p,f,x,n,A,c,L⟩:=t
 replace hk:k=2:=hk
 subst hk
 have hT0:=hT.out
 rw [TreeAt] at hT0
 obtain ⟨hR,hlen⟩:=hT0
 have hR':=hdZ hR
 have hm':=hm.out
 have hz':=hz.out
 rw [strip,mayR] at hm'
 rw [strip,szR] at hz'
 have hsh:Hid (showR (strip (.mk 2 p f x n A c L))=[110,111,116,32]++showL 2 [] (strips L)):=by
  unfold Hid;rw [strip,showR];rw [if_neg (by decide),if_neg (by decide),if_neg (by decide),if_neg (by decide),if_neg (by decide),if_pos rfl];try simp
 rw [hsh.out]
 obtain ⟨m,hmm⟩:=nmZ (L.length)
 have ih':Hid (∀u∈L,ShowD u):=ih
 show Calls Tryz.prog 136 #[.agg #[.int .i64 2,.int .i64 p,.string ⟨f.toArray⟩,.string ⟨x.toArray⟩,.int .i64 n,.slice A L.length c]] w _
 rw [hmm.out] at hlen ⊢
 unfold mostZ at hz'
 have hb0:Hid (Bz w (w.alloc (.cells #[.int .i64 2,.int .i64 p,.string ⟨f.toArray⟩,.string ⟨x.toArray⟩,.int .i64 n,.slice A m c] 24))):=(Below.refl _ w).alloc leZ _
 have hbx:=hdZ (Blk.new w 24 #[.int .i64 2,.int .i64 p,.string ⟨f.toArray⟩,.string ⟨x.toArray⟩,.int .i64 n,.slice A m c])
 clear hT hR ih hm hz
 have hml:Hid (mayL (strips L)=true):=by
  unfold Hid
  rw [if_neg (by decide),if_pos rfl] at hm';simp only [Bool.and_eq_true] at hm';exact hm'.2
 have hzl:Hid (szL (strips L)<=70368744177664):=by unfold Hid;omega
 clear hm' hz'
 obtain ⟨wa,hwa⟩:=nmZ (w.alloc (.cells #[.int .i64 2,.int .i64 p,.string ⟨f.toArray⟩,.string ⟨x.toArray⟩,.int .i64 n,.slice A m c] 24))
 go_enter Tryz.func136,Tryz.ntmps136
 go_wp2_with fail
 rw [hwa.out] at hb0 hbx ⊢
 clear hwa
 unfold maxLen at hlen
 go_loopg [3,4] m (fun gg v a wr=>∃q:Nat,q<=m/\gg=m-q/\a=.int .i64 q/\v=.string ⟨(showL 2 [] (strips (L.take q))).toArray⟩/\Hid (Bz w wr)/\Hid (Blk wr w.heap.size 24 #[.int .i64 2,.int .i64 p,.string ⟨f.toArray⟩,.string ⟨x.toArray⟩,.int .i64 n,.slice A m c]))
 case atStart=>exact ⟨0,Nat.zero_le _,rfl,rfl,by simp [strips,showL],hb0,hbx⟩
 case round =>
  clear hb0 hbx
  obtain ⟨q,hq,hg,rfl,rfl,hB,hbx⟩:=hrel
  have hg':=hdZ hg
  clear hg
  have e5:wr.cell? ⟨w.heap.size,5,none⟩=some (.slice A m c):=hbx.out.cell 5
  have elt:=hbx.out.lt
  by_cases hlt:q<m
  ·have i1:decide ((q:Int)<(m:Int))=true:=by simp;omega
   have i2:(q:Int)<(m:Int):=by omega
   have i3:(0:Int)<=(q:Int):=by omega
   obtain ⟨t,ht⟩:∃t,L[q]?=some t:=⟨_,gZ (by have:=hmm.out;omega)⟩
   have hmem:=hdZ (mgZ ht)
   have hnx:=hdZ (show_next ht 2 [])
   have hsz:=size_next ht 2 [] (by decide)
   have hsl:=show_len (strip t)
   obtain ⟨hc,hTt⟩:=(hR'.out.below hB.out).get q t ht
   have hszt:Hid (szR (strip t)<=mostZ):=by have:=hzl.out;unfold Hid mostZ;omega
   have hmt:=hdZ (mayL_mem' hml.out hmem.out)
   have hcall:Hid (∀W,Bz wr W->Calls Tryz.prog 136 #[.agg t.cells] W fun e w'=>e=.returned (.string ⟨(showR (strip t)).toArray⟩)/\Bz W w'):=fun W hW=>ih'.out t hmem.out W ok (hTt.below hW) hmt hszt
   clear ht hTt hmt hszt
   obtain ⟨pre,hpre⟩:=nmZ (showL 2 [] (strips (L.take q)))
   obtain ⟨tt,htt⟩:=nmZ (showR (strip t))
   rw [hpre.out] at hnx hsz ⊢
   rw [htt.out] at hnx hcall hsl
   have hzz:=hzl.out
   obtain ⟨tk,tp,tf,tx,tn,tA,tc,tL⟩:=t
   obtain ⟨bb,off,rfl,_,g0,g1,g2,g3,g4,g5⟩:=hc
   rw [Nat.zero_add] at g0 g1 g2 g3 g4 g5
   unfold Tree.cells at hcall
   have hnx':Hid (showL 2 [] (strips (L.take (q+1)))=pre++(if q=0 then [] else [])++inPar (parB 2 tk) tt):=hnx.out
   clear hnx
   have hnx:=hnx'
   clear hnx'
   have hbl:Bz wr (wr.alloc (.cells #[.int .i64 tk,.int .i64 tp,.string ⟨tf.toArray⟩,.string ⟨tx.toArray⟩,.int .i64 tn,.slice tA tL.length tc] 24)):=(Below.refl _ wr).alloc leZ _
   have hc2:=hdZ (hcall.out _ hbl)
   have hM:=hdZ (Blk.new wr 24 #[.int .i64 tk,.int .i64 tp,.string ⟨tf.toArray⟩,.string ⟨tx.toArray⟩,.int .i64 tn,.slice tA tL.length tc])
   have hB2:=hdZ (hB.out.trans (hbl.mono hB.out.size))
   have hbx2:=kbY hbx hbl
   have ne1:wr.heap.size≠w.heap.size:=by omega
   have ne2:w.heap.size≠wr.heap.size:=by omega
   obtain ⟨wb,hwb⟩:=nmZ (wr.alloc (.cells #[.int .i64 tk,.int .i64 tp,.string ⟨tf.toArray⟩,.string ⟨tx.toArray⟩,.int .i64 tn,.slice tA tL.length tc] 24))
   go_upto_region 17 with fail
   rw [hwb.out] at hc2 hM hB2 hbx2 ⊢
   clear hbl hwb hB hbx hcall e5 elt g0 g1 g2 g3 g4 g5
   obtain ⟨m0,m1,m2,m3,m4,m5⟩:=cs6 hM.out
   have mlt:=hM.out.lt
   go_wp2_with fail
   refine hc2.out.mono ?_
   rintro e w3 ⟨rfl,hb3⟩
   have hB3:=hdZ (hB2.out.trans (hb3.mono hB2.out.size))
   have hbx3:=kbY hbx2 hb3
   have hM3:=kbY hM hb3
   clear hb3 hc2 hB2 hbx2 hM m0 m1 m2 m3 m4 m5 mlt
   have m0:w3.cell? ⟨wr.heap.size,0,none⟩=some (.int .i64 tk):=hM3.out.cell 0
   have mlt:=hM3.out.lt
   have r0:w3.cell? ⟨w.heap.size,0,none⟩=some (.int .i64 2):=hbx3.out.cell 0
   have rlt:=hbx3.out.lt
   by_cases hq0:q=0
   ·subst hq0
    by_cases h1:tk=1
    ·subst h1
     have hpb:parB 2 1=true:=rfl
     have z0:¬9223372036854775807<1+tt.length:=by omega
     have z1:¬9223372036854775807<1+tt.length+1:=by omega
     have z2:¬9223372036854775807<pre.length+(1+tt.length+1):=by omega
     have e0:Hid (({ data:=pre.toArray }:ByteArray)++({ data:=#[40] }++{ data:=tt.toArray }++{ data:=#[41] })=⟨(showL 2 [] (strips (L.take (0+1)))).toArray⟩):=by
      unfold Hid
      rw [hnx.out,hpb]
      exact ByteArray.ext (by simp [inPar,sOpen,sShut])
     go_wp2_with fail
     go_roundg (m-(0+1))
     case measure=>have:=hg'.out;omega
     case rel=>exact ⟨0+1,by omega,rfl,by go_num,congrArg Value.string e0.out,hB3.out,hbx3.out⟩
    ·have j1:(tk==1)=false:=by simp [h1]
     by_cases h2:tk=0
     ·subst h2
      have hpb:parB 2 0=true:=rfl
      have z0:¬9223372036854775807<1+tt.length:=by omega
      have z1:¬9223372036854775807<1+tt.length+1:=by omega
      have z2:¬9223372036854775807<pre.length+(1+tt.length+1):=by omega
      have e0:Hid (({ data:=pre.toArray }:ByteArray)++({ data:=#[40] }++{ data:=tt.toArray }++{ data:=#[41] })=⟨(showL 2 [] (strips (L.take (0+1)))).toArray⟩):=by
       unfold Hid
       rw [hnx.out,hpb]
       exact ByteArray.ext (by simp [inPar,sOpen,sShut])
      go_wp2_with fail
      go_roundg (m-(0+1))
      case measure=>have:=hg'.out;omega
      case rel=>exact ⟨0+1,by omega,rfl,by go_num,congrArg Value.string e0.out,hB3.out,hbx3.out⟩
     ·have j2:(tk==0)=false:=by simp [h2]
      have hpb:parB 2 tk=false:=by unfold parB;rw [j1,j2];rfl
      have z0:¬9223372036854775807<pre.length+tt.length:=by omega
      have e0:Hid (({ data:=pre.toArray }:ByteArray)++{ data:=tt.toArray }=⟨(showL 2 [] (strips (L.take (0+1)))).toArray⟩):=by
       unfold Hid
       rw [hnx.out,hpb]
       exact ByteArray.ext (by simp [inPar])
      go_wp2_with fail
      go_roundg (m-(0+1))
      case measure=>have:=hg'.out;omega
      case rel=>exact ⟨0+1,by omega,rfl,by go_num,congrArg Value.string e0.out,hB3.out,hbx3.out⟩
   ·have jq:decide ((0:Int)<(q:Int))=true:=by simp;omega
    by_cases h1:tk=1
    ·subst h1
     have hpb:parB 2 1=true:=rfl
     have z0:¬9223372036854775807<1+tt.length:=by omega
     have z1:¬9223372036854775807<1+tt.length+1:=by omega
     have z2:¬9223372036854775807<pre.length+(1+tt.length+1):=by omega
     have e0:Hid (({ data:=pre.toArray }:ByteArray)++({ data:=#[40] }++{ data:=tt.toArray }++{ data:=#[41] })=⟨(showL 2 [] (strips (L.take (q+1)))).toArray⟩):=by
      unfold Hid
      rw [hnx.out,hpb]
      exact ByteArray.ext (by simp [inPar,sOpen,sShut])
     go_wp2_with fail
     go_roundg (m-(q+1))
     case measure=>have:=hg'.out;omega
     case rel=>exact ⟨q+1,by omega,rfl,by go_num,congrArg Value.string e0.out,hB3.out,hbx3.out⟩
    ·have j1:(tk==1)=false:=by simp [h1]
     by_cases h2:tk=0
     ·subst h2
      have hpb:parB 2 0=true:=rfl
      have z0:¬9223372036854775807<1+tt.length:=by omega
      have z1:¬9223372036854775807<1+tt.length+1:=by omega
      have z2:¬9223372036854775807<pre.length+(1+tt.length+1):=by omega
      have e0:Hid (({ data:=pre.toArray }:ByteArray)++({ data:=#[40] }++{ data:=tt.toArray }++{ data:=#[41] })=⟨(showL 2 [] (strips (L.take (q+1)))).toArray⟩):=by
       unfold Hid
       rw [hnx.out,hpb]
       exact ByteArray.ext (by simp [inPar,sOpen,sShut])
      go_wp2_with fail
      go_roundg (m-(q+1))
      case measure=>have:=hg'.out;omega
      case rel=>exact ⟨q+1,by omega,rfl,by go_num,congrArg Value.string e0.out,hB3.out,hbx3.out⟩
     ·have j2:(tk==0)=false:=by simp [h2]
      have hpb:parB 2 tk=false:=by unfold parB;rw [j1,j2];rfl
      have z0:¬9223372036854775807<pre.length+tt.length:=by omega
      have e0:Hid (({ data:=pre.toArray }:ByteArray)++{ data:=tt.toArray }=⟨(showL 2 [] (strips (L.take (q+1)))).toArray⟩):=by
       unfold Hid
       rw [hnx.out,hpb]
       exact ByteArray.ext (by simp [inPar])
      go_wp2_with fail
      go_roundg (m-(q+1))
      case measure=>have:=hg'.out;omega
      case rel=>exact ⟨q+1,by omega,rfl,by go_num,congrArg Value.string e0.out,hB3.out,hbx3.out⟩
  ·have i1:decide ((q:Int)<(m:Int))=false:=by simp;omega
   have hfin:Hid (L.take q=L):=List.take_of_length_le (by have:=hmm.out;omega)
   rw [hfin.out]
   have r0:wr.cell? ⟨w.heap.size,0,none⟩=some (.int .i64 2):=hbx.out.cell 0
   have rlt:=hbx.out.lt
   have hsl2:=showL_len 2 [] (by decide) (strips L)
   have hzz:=hzl.out
   obtain ⟨tt,htt⟩:=nmZ (showL 2 [] (strips L))
   rw [htt.out] at hsl2 ⊢
   have z1:¬9223372036854775807<4+tt.length:=by omega
   have e0:Hid (({ data:=#[110,111,116,32] }:ByteArray)++{ data:=tt.toArray }=⟨([110,111,116,32]++tt).toArray⟩):=ByteArray.ext (by simp)
   go_wp2_with fail
   go_ret
   exact ⟨congrArg (fun y=>Ending.returned (Value.string y)) (e0.out.trans (by rw [htt.out];rfl)),hB.out⟩
theorem rshow_any:∀t:Tree,ShowD t:=Tree.every fun t ih=>by
 rcases (by omega:t.kind=0\/t.kind=1\/t.kind=2\/t.kind=3\/t.kind=4\/t.kind=5\/t.kind=6\/t.kind=7\/(t.kind<0\/7<t.kind)) with h | h | h | h | h | h | h | h | h
 ·exact rshow_row0 t ih h
 ·exact rshow_row1 t ih h
 ·exact rshow_not t ih h
 ·exact rshow_text3 t ih h
 ·exact rshow_text4 t ih h
 ·exact rshow_num5 t ih h
 ·exact rshow_num6 t ih h
 ·exact rshow_like t ih h
 ·intro w ok _ hm _
  obtain ⟨k,p,f,x,n,A,c,L⟩:=t
  replace h:k<0\/7<k:=h
  have:=hm.out
  rw [strip,mayR,if_neg (by omega),if_neg (by omega),if_neg (by omega),if_neg (by omega),if_neg (by omega)] at this
  cases this
theorem rshowR_any (t:Tree) (w:World) (ok:Nat->Prop) (hT:Hid (TreeAt w ok t)) (hz:Hid (szR (strip t)<=mostZ)) :
  Calls Tryz.prog 84 #[.agg t.cells] w fun e w'=>e=.returned (.string ⟨(shownR (strip t)).toArray⟩)/\Bz w w':=by
 have hmay:=hdZ (right_any t)
 have hshow:=hdZ (rshow_any t)
 obtain ⟨bm,hbm⟩:=nmZ (mayR (strip t))
 obtain ⟨sh,hsh⟩:=nmZ (showR (strip t))
 have hr1:Hid (∀W,Bz w W->0<W.heap.size->Calls Tryz.prog 135 #[.agg t.cells] W fun e w'=>e=.returned (.bool bm)/\Bz W w'):=fun W hW hp=>by
  have h:=hmay.out W ok hp (hT.out.below hW) hz
  rw [hbm.out] at h
  exact h
 have hr2:Hid (bm=true->∀W,Bz w W->Calls Tryz.prog 136 #[.agg t.cells] W fun e w'=>e=.returned (.string ⟨sh.toArray⟩)/\Bz W w'):=fun h W hW=>by
  have h:=hshow.out W ok (hT.out.below hW) (by rw [hbm.out];exact h) hz
  rw [hsh.out] at h
  exact h
 have hres:Hid (shownR (strip t)=if bm=true then sh else []):=by unfold Hid shownR;rw [hbm.out,hsh.out]
 rw [hres.out]
 clear hmay hshow hT hz hres hbm hsh
 obtain ⟨k,p,f,x,n,A,c,L⟩:=t
 simp only [Tree.cells] at hr1 hr2 ⊢
 obtain ⟨m,hm⟩:=nmZ (L.length)
 rw [hm.out] at hr1 hr2 ⊢
 have hb0:Hid (Bz w (w.alloc (.cells #[.int .i64 k,.int .i64 p,.string ⟨f.toArray⟩,.string ⟨x.toArray⟩,.int .i64 n,.slice A m c] 24))):=(Below.refl _ w).alloc leZ _
 have hbx:=hdZ (Blk.new w 24 #[.int .i64 k,.int .i64 p,.string ⟨f.toArray⟩,.string ⟨x.toArray⟩,.int .i64 n,.slice A m c])
 have hc1:=hdZ (hr1.out _ hb0.out (by simp))
 go_enter Tryz.func84,Tryz.ntmps84
 go_wp2_with fail
 refine hc1.out.mono ?_
 rintro e w1 ⟨rfl,hb1⟩
 have hB1:=hdZ (hb0.out.trans (hb1.mono hb0.out.size))
 have hx1:=kbY hbx hb1
 clear hb1 hb0 hbx hc1
 cases bm with
 | false =>
  go_wp2_with fail
  go_ret
  exact ⟨rfl,hB1.out⟩
 | true =>
  have hc2:=hdZ (hr2.out rfl w1 hB1.out)
  obtain ⟨m0,m1,m2,m3,m4,m5⟩:=cs6 hx1.out
  have mlt:=hx1.out.lt
  go_wp2_with fail
  refine hc2.out.mono ?_
  rintro e w2 ⟨rfl,hb2⟩
  go_wp2_with fail
  go_ret
  exact ⟨by simp,hB1.out.trans (hb2.mono hB1.out.size)⟩
end Go.Proofs.YtdjmckjbibfecaaGreatDoor.Sh

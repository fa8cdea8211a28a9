import Derived.Test.YtdjmckjbibfecaaGreatDoorQTe
namespace Go.Proofs.YtdjmckjbibfecaaGreatDoor.Sh
open Go Go.RowKit Go.BigFrame Go.Maps
set_option maxRecDepth 100000
set_option maxHeartbeats 3200000
theorem decN_dec:∀(f n:Nat),n<10 ^ f->0<f->decN f n=Lib.decDigits n
 | 0,_,_,h=>by omega
 | f+1,n,hn,_=>by
  rw [decN,Lib.decDigits]
  by_cases h:n<10
  ·rw [if_pos h,dif_pos h]
  ·rw [if_neg h,dif_neg h]
   have h0:0<f:=by
    rcases Nat.eq_zero_or_pos f with h0 | h0
    ·subst h0;simp at hn;omega
    ·exact h0
   rw [decN_dec f (n / 10) (by rw [Nat.pow_succ] at hn;omega) h0]
theorem itoa_decN {n:Int} (h0:0<=n) (h1:n<=1099511627776):Lib.itoa n=decN 20 n.toNat:=by
 unfold Lib.itoa
 rw [if_neg (by omega),decN_dec 20 n.toNat (by omega) (by omega)]
theorem below_grows (w:World) (k:Nat) (os:Array Obj):Bz w (Go.Sort.grow (w.drewN k) os):=by
 have h:Bz w (w.drewN k):=below_drewN (Below.refl _ _) k
 refine ⟨h.os,h.tape,h.output,?_,fun i hi=>?_⟩
 ·simp [Go.Sort.grow]
 ·simp only [Go.Sort.grow]
  rw [Array.getElem?_append_left (by simpa using hi)]
  exact h.block i hi
theorem format_any (n:Int) (h0:0<=n) (h1:n<=1099511627776) (W:World) (he:Hid (Env W)):Calls Tryz.prog 157 #[.int .i64 n,.int .i64 10] W fun e w'=>e=.returned (.string ⟨(decN 20 n.toNat).toArray⟩)/\Bz W w':=by
 refine (Tryz.strconv_FormatInt_10 n (by omega) (by omega) W he.out.tab).mono ?_
 rintro e w' ⟨rfl,k,os,rfl⟩
 rw [itoa_decN h0 h1]
 exact ⟨rfl,below_grows W k os⟩
theorem show_row0 (t:Tree) (ih:∀u∈t.sub,ShowC u) (hk:t.kind=0):ShowC t:=by
 intro w B b acc he h8 hB hT hm hz hbd
 obtain ⟨k,p,f,x,n,A,c,L⟩:=t
 replace hk:k=0:=hk
 subst hk
 have hT0:=hT.out
 rw [TreeAt] at hT0
 obtain ⟨hR,hlen⟩:=hT0
 have hR':=hdZ hR
 have hm':=hm.out
 have hz':=hz.out
 rw [strip,mayR] at hm'
 rw [strip,szR] at hz'
 have hsh:Hid (showR (strip (.mk 0 p f x n A c L))=showL 0 [32,97,110,100,32] (strips L)):=by
  unfold Hid;rw [strip,showR];repeat (first | rw [if_neg (by decide)] | rw [if_pos rfl])
 rw [hsh.out]
 obtain ⟨m,hmm⟩:=nmZ (L.length)
 have ih':Hid (∀u∈L,ShowC u):=ih
 unfold Writes
 show Calls Tryz.prog 132 #[.pointer (some ⟨b,0,none⟩),.agg #[.int .i64 0,.int .i64 p,.string ⟨f.toArray⟩,.string ⟨x.toArray⟩,.int .i64 n,.slice A L.length c]] w _
 rw [hmm.out] at hlen ⊢
 unfold mostZ at hz'
 have hbl:Bz w (w.alloc (.cells #[.int .i64 0,.int .i64 p,.string ⟨f.toArray⟩,.string ⟨x.toArray⟩,.int .i64 n,.slice A m c] 24)):=(Below.refl _ w).alloc leZ _
 have hbx:=hdZ (Blk.new w 24 #[.int .i64 0,.int .i64 p,.string ⟨f.toArray⟩,.string ⟨x.toArray⟩,.int .i64 n,.slice A m c])
 have hBa:Hid (Below B w (w.alloc (.cells #[.int .i64 0,.int .i64 p,.string ⟨f.toArray⟩,.string ⟨x.toArray⟩,.int .i64 n,.slice A m c] 24))):=hbl.mono hB
 have hbda:=hdZ (hbd.out.below hbl)
 have hKa:=hdZ (kept_below (b:=some b) hbl)
 have hne:Hid (w.heap.size≠b):=by have:=hbd.out.lt;unfold Hid;omega
 have ne1:=hne.out
 have ne2:=hne.out.symm
 have hsza:Hid (B<=(w.alloc (.cells #[.int .i64 0,.int .i64 p,.string ⟨f.toArray⟩,.string ⟨x.toArray⟩,.int .i64 n,.slice A m c] 24)).heap.size):=Nat.le_trans hB hbl.size
 clear hbl hT hR ih hm hz
 have hml:mayL (strips L)=true:=by rw [if_pos (by decide)] at hm';simp only [Bool.and_eq_true] at hm';exact hm'.2
 have hrow:Hid (Writes 183 #[.pointer (some ⟨b,0,none⟩),.agg #[.int .i64 0,.int .i64 p,.string ⟨f.toArray⟩,.string ⟨x.toArray⟩,.int .i64 n,.slice A m c],.string ⟨#[32,97,110,100,32]⟩] (w.alloc (.cells #[.int .i64 0,.int .i64 p,.string ⟨f.toArray⟩,.string ⟨x.toArray⟩,.int .i64 n,.slice A m c] 24)) B b acc (showL 0 [32,97,110,100,32] (strips L))):=by
  have:=row_show 0 p f x n A c L ih'.out [32,97,110,100,32] (by decide) (w.alloc (.cells #[.int .i64 0,.int .i64 p,.string ⟨f.toArray⟩,.string ⟨x.toArray⟩,.int .i64 n,.slice A m c] 24)) B b acc (he.out.low (hBa.out.mono h8)) h8 hsza.out (hR'.out.lowB hBa.out) (by rw [hmm.out];exact hlen) hml (by unfold Hid mostZ;omega) hbda
  unfold Tree.cells at this
  simp only [hmm.out] at this
  exact this
 clear hm' hz' hml
 go_enter Tryz.func132,Tryz.ntmps132
 go_wp2_with fail
 refine hrow.out.mono ?_
 rintro e w1 ⟨rfl,hB1,hK1,hb1⟩
 have hb1':=hdZ hb1
 have hB1':=hdZ hB1
 have hK1':=hdZ hK1
 clear hb1 hB1 hK1 hrow
 go_wp2_with fail
 go_end0
 exact ⟨rfl,hBa.out.trans hB1'.out,hKa.out.trans hK1'.out,hb1'.out⟩
theorem show_row1 (t:Tree) (ih:∀u∈t.sub,ShowC u) (hk:t.kind=1):ShowC t:=by
 intro w B b acc he h8 hB hT hm hz hbd
 obtain ⟨k,p,f,x,n,A,c,L⟩:=t
 replace hk:k=1:=hk
 subst hk
 have hT0:=hT.out
 rw [TreeAt] at hT0
 obtain ⟨hR,hlen⟩:=hT0
 have hR':=hdZ hR
 have hm':=hm.out
 have hz':=hz.out
 rw [strip,mayR] at hm'
 rw [strip,szR] at hz'
 have hsh:Hid (showR (strip (.mk 1 p f x n A c L))=showL 1 [32,111,114,32] (strips L)):=by
  unfold Hid;rw [strip,showR];repeat (first | rw [if_neg (by decide)] | rw [if_pos rfl])
 rw [hsh.out]
 obtain ⟨m,hmm⟩:=nmZ (L.length)
 have ih':Hid (∀u∈L,ShowC u):=ih
 unfold Writes
 show Calls Tryz.prog 132 #[.pointer (some ⟨b,0,none⟩),.agg #[.int .i64 1,.int .i64 p,.string ⟨f.toArray⟩,.string ⟨x.toArray⟩,.int .i64 n,.slice A L.length c]] w _
 rw [hmm.out] at hlen ⊢
 unfold mostZ at hz'
 have hbl:Bz w (w.alloc (.cells #[.int .i64 1,.int .i64 p,.string ⟨f.toArray⟩,.string ⟨x.toArray⟩,.int .i64 n,.slice A m c] 24)):=(Below.refl _ w).alloc leZ _
 have hbx:=hdZ (Blk.new w 24 #[.int .i64 1,.int .i64 p,.string ⟨f.toArray⟩,.string ⟨x.toArray⟩,.int .i64 n,.slice A m c])
 have hBa:Hid (Below B w (w.alloc (.cells #[.int .i64 1,.int .i64 p,.string ⟨f.toArray⟩,.string ⟨x.toArray⟩,.int .i64 n,.slice A m c] 24))):=hbl.mono hB
 have hbda:=hdZ (hbd.out.below hbl)
 have hKa:=hdZ (kept_below (b:=some b) hbl)
 have hne:Hid (w.heap.size≠b):=by have:=hbd.out.lt;unfold Hid;omega
 have ne1:=hne.out
 have ne2:=hne.out.symm
 have hsza:Hid (B<=(w.alloc (.cells #[.int .i64 1,.int .i64 p,.string ⟨f.toArray⟩,.string ⟨x.toArray⟩,.int .i64 n,.slice A m c] 24)).heap.size):=Nat.le_trans hB hbl.size
 clear hbl hT hR ih hm hz
 have hml:mayL (strips L)=true:=by rw [if_pos (by decide)] at hm';simp only [Bool.and_eq_true] at hm';exact hm'.2
 have hrow:Hid (Writes 183 #[.pointer (some ⟨b,0,none⟩),.agg #[.int .i64 1,.int .i64 p,.string ⟨f.toArray⟩,.string ⟨x.toArray⟩,.int .i64 n,.slice A m c],.string ⟨#[32,111,114,32]⟩] (w.alloc (.cells #[.int .i64 1,.int .i64 p,.string ⟨f.toArray⟩,.string ⟨x.toArray⟩,.int .i64 n,.slice A m c] 24)) B b acc (showL 1 [32,111,114,32] (strips L))):=by
  have:=row_show 1 p f x n A c L ih'.out [32,111,114,32] (by decide) (w.alloc (.cells #[.int .i64 1,.int .i64 p,.string ⟨f.toArray⟩,.string ⟨x.toArray⟩,.int .i64 n,.slice A m c] 24)) B b acc (he.out.low (hBa.out.mono h8)) h8 hsza.out (hR'.out.lowB hBa.out) (by rw [hmm.out];exact hlen) hml (by unfold Hid mostZ;omega) hbda
  unfold Tree.cells at this
  simp only [hmm.out] at this
  exact this
 clear hm' hz' hml
 go_enter Tryz.func132,Tryz.ntmps132
 go_wp2_with fail
 refine hrow.out.mono ?_
 rintro e w1 ⟨rfl,hB1,hK1,hb1⟩
 have hb1':=hdZ hb1
 have hB1':=hdZ hB1
 have hK1':=hdZ hK1
 clear hb1 hB1 hK1 hrow
 go_wp2_with fail
 go_end0
 exact ⟨rfl,hBa.out.trans hB1'.out,hKa.out.trans hK1'.out,hb1'.out⟩
theorem show_text3 (t:Tree) (ih:∀u∈t.sub,ShowC u) (hk:t.kind=3):ShowC t:=by
 intro w B b acc he h8 hB hT hm hz hbd
 obtain ⟨k,p,f,x,n,A,c,L⟩:=t
 replace hk:k=3:=hk
 subst hk
 have hT0:=hT.out
 rw [TreeAt] at hT0
 obtain ⟨hR,hlen⟩:=hT0
 have hR':=hdZ hR
 have hm':=hm.out
 have hz':=hz.out
 rw [strip,mayR] at hm'
 rw [strip,szR] at hz'
 have hsh:Hid (showR (strip (.mk 3 p f x n A c L))=f++[32,61,32,34]++x++[34]):=by
  unfold Hid;rw [strip,showR];rw [if_pos rfl];try simp
 rw [hsh.out]
 obtain ⟨m,hmm⟩:=nmZ (L.length)
 have ih':Hid (∀u∈L,ShowC u):=ih
 unfold Writes
 show Calls Tryz.prog 132 #[.pointer (some ⟨b,0,none⟩),.agg #[.int .i64 3,.int .i64 p,.string ⟨f.toArray⟩,.string ⟨x.toArray⟩,.int .i64 n,.slice A L.length c]] w _
 rw [hmm.out] at hlen ⊢
 unfold mostZ at hz'
 have hbl:Bz w (w.alloc (.cells #[.int .i64 3,.int .i64 p,.string ⟨f.toArray⟩,.string ⟨x.toArray⟩,.int .i64 n,.slice A m c] 24)):=(Below.refl _ w).alloc leZ _
 have hbx:=hdZ (Blk.new w 24 #[.int .i64 3,.int .i64 p,.string ⟨f.toArray⟩,.string ⟨x.toArray⟩,.int .i64 n,.slice A m c])
 have hBa:Hid (Below B w (w.alloc (.cells #[.int .i64 3,.int .i64 p,.string ⟨f.toArray⟩,.string ⟨x.toArray⟩,.int .i64 n,.slice A m c] 24))):=hbl.mono hB
 have hbda:=hdZ (hbd.out.below hbl)
 have hKa:=hdZ (kept_below (b:=some b) hbl)
 have hne:Hid (w.heap.size≠b):=by have:=hbd.out.lt;unfold Hid;omega
 have ne1:=hne.out
 have ne2:=hne.out.symm
 have hsza:Hid (B<=(w.alloc (.cells #[.int .i64 3,.int .i64 p,.string ⟨f.toArray⟩,.string ⟨x.toArray⟩,.int .i64 n,.slice A m c] 24)).heap.size):=Nat.le_trans hB hbl.size
 clear hbl hT hR ih hm hz
 have hwr:=hdZ (write_any B b acc (f++[32,61,32,34]++x++[34]) _ hbda (by simp;omega) hsza.out)
 have e0:({ data:=f.toArray }:ByteArray)++{ data:=#[32,61,32,34] }++{ data:=x.toArray }++{ data:=#[34] }=⟨(f++[32,61,32,34]++x++[34]).toArray⟩:=ByteArray.ext (by simp)
 have e0':=hdZ e0
 have z1:¬9223372036854775807<f.length+4:=by omega
 have z2:¬9223372036854775807<f.length+4+x.length:=by omega
 have z3:¬9223372036854775807<f.length+4+x.length+1:=by omega
 clear hm' hz' e0
 go_enter Tryz.func132,Tryz.ntmps132
 go_wp2_with fail
 rw [e0'.out]
 refine hwr.out.mono ?_
 rintro e w1 ⟨⟨n1,rfl⟩,hB1,hK1,hb1⟩
 have hb1':=hdZ hb1
 have hB1':=hdZ hB1
 have hK1':=hdZ hK1
 clear hb1 hB1 hK1 hwr
 go_wp2_with fail
 go_end0
 exact ⟨rfl,hBa.out.trans hB1'.out,hKa.out.trans hK1'.out,hb1'.out⟩
theorem show_text4 (t:Tree) (ih:∀u∈t.sub,ShowC u) (hk:t.kind=4):ShowC t:=by
 intro w B b acc he h8 hB hT hm hz hbd
 obtain ⟨k,p,f,x,n,A,c,L⟩:=t
 replace hk:k=4:=hk
 subst hk
 have hT0:=hT.out
 rw [TreeAt] at hT0
 obtain ⟨hR,hlen⟩:=hT0
 have hR':=hdZ hR
 have hm':=hm.out
 have hz':=hz.out
 rw [strip,mayR] at hm'
 rw [strip,szR] at hz'
 have hsh:Hid (showR (strip (.mk 4 p f x n A c L))=f++[32,126,32,34]++x++[34]):=by
  unfold Hid;rw [strip,showR];rw [if_neg (by decide),if_pos rfl];try simp
 rw [hsh.out]
 obtain ⟨m,hmm⟩:=nmZ (L.length)
 have ih':Hid (∀u∈L,ShowC u):=ih
 unfold Writes
 show Calls Tryz.prog 132 #[.pointer (some ⟨b,0,none⟩),.agg #[.int .i64 4,.int .i64 p,.string ⟨f.toArray⟩,.string ⟨x.toArray⟩,.int .i64 n,.slice A L.length c]] w _
 rw [hmm.out] at hlen ⊢
 unfold mostZ at hz'
 have hbl:Bz w (w.alloc (.cells #[.int .i64 4,.int .i64 p,.string ⟨f.toArray⟩,.string ⟨x.toArray⟩,.int .i64 n,.slice A m c] 24)):=(Below.refl _ w).alloc leZ _
 have hbx:=hdZ (Blk.new w 24 #[.int .i64 4,.int .i64 p,.string ⟨f.toArray⟩,.string ⟨x.toArray⟩,.int .i64 n,.slice A m c])
 have hBa:Hid (Below B w (w.alloc (.cells #[.int .i64 4,.int .i64 p,.string ⟨f.toArray⟩,.string ⟨x.toArray⟩,.int .i64 n,.slice A m c] 24))):=hbl.mono hB
 have hbda:=hdZ (hbd.out.below hbl)
 have hKa:=hdZ (kept_below (b:=some b) hbl)
 have hne:Hid (w.heap.size≠b):=by have:=hbd.out.lt;unfold Hid;omega
 have ne1:=hne.out
 have ne2:=hne.out.symm
 have hsza:Hid (B<=(w.alloc (.cells #[.int .i64 4,.int .i64 p,.string ⟨f.toArray⟩,.string ⟨x.toArray⟩,.int .i64 n,.slice A m c] 24)).heap.size):=Nat.le_trans hB hbl.size
 clear hbl hT hR ih hm hz
 have hwr:=hdZ (write_any B b acc (f++[32,126,32,34]++x++[34]) _ hbda (by simp;omega) hsza.out)
 have e0:({ data:=f.toArray }:ByteArray)++{ data:=#[32,126,32,34] }++{ data:=x.toArray }++{ data:=#[34] }=⟨(f++[32,126,32,34]++x++[34]).toArray⟩:=ByteArray.ext (by simp)
 have e0':=hdZ e0
 have z1:¬9223372036854775807<f.length+4:=by omega
 have z2:¬9223372036854775807<f.length+4+x.length:=by omega
 have z3:¬9223372036854775807<f.length+4+x.length+1:=by omega
 clear hm' hz' e0
 go_enter Tryz.func132,Tryz.ntmps132
 go_wp2_with fail
 rw [e0'.out]
 refine hwr.out.mono ?_
 rintro e w1 ⟨⟨n1,rfl⟩,hB1,hK1,hb1⟩
 have hb1':=hdZ hb1
 have hB1':=hdZ hB1
 have hK1':=hdZ hK1
 clear hb1 hB1 hK1 hwr
 go_wp2_with fail
 go_end0
 exact ⟨rfl,hBa.out.trans hB1'.out,hKa.out.trans hK1'.out,hb1'.out⟩
theorem show_num5 (t:Tree) (ih:∀u∈t.sub,ShowC u) (hk:t.kind=5):ShowC t:=by
 intro w B b acc he h8 hB hT hm hz hbd
 obtain ⟨k,p,f,x,n,A,c,L⟩:=t
 replace hk:k=5:=hk
 subst hk
 have hT0:=hT.out
 rw [TreeAt] at hT0
 obtain ⟨hR,hlen⟩:=hT0
 have hR':=hdZ hR
 have hm':=hm.out
 have hz':=hz.out
 rw [strip,mayR] at hm'
 rw [strip,szR] at hz'
 have hsh:Hid (showR (strip (.mk 5 p f x n A c L))=f++[32,60,61,32]++decN 20 n.toNat):=by
  unfold Hid;rw [strip,showR];rw [if_neg (by decide),if_neg (by decide),if_pos rfl];try simp
 rw [hsh.out]
 obtain ⟨m,hmm⟩:=nmZ (L.length)
 have ih':Hid (∀u∈L,ShowC u):=ih
 unfold Writes
 show Calls Tryz.prog 132 #[.pointer (some ⟨b,0,none⟩),.agg #[.int .i64 5,.int .i64 p,.string ⟨f.toArray⟩,.string ⟨x.toArray⟩,.int .i64 n,.slice A L.length c]] w _
 rw [hmm.out] at hlen ⊢
 unfold mostZ at hz'
 have hbl:Bz w (w.alloc (.cells #[.int .i64 5,.int .i64 p,.string ⟨f.toArray⟩,.string ⟨x.toArray⟩,.int .i64 n,.slice A m c] 24)):=(Below.refl _ w).alloc leZ _
 have hbx:=hdZ (Blk.new w 24 #[.int .i64 5,.int .i64 p,.string ⟨f.toArray⟩,.string ⟨x.toArray⟩,.int .i64 n,.slice A m c])
 have hBa:Hid (Below B w (w.alloc (.cells #[.int .i64 5,.int .i64 p,.string ⟨f.toArray⟩,.string ⟨x.toArray⟩,.int .i64 n,.slice A m c] 24))):=hbl.mono hB
 have hbda:=hdZ (hbd.out.below hbl)
 have hKa:=hdZ (kept_below (b:=some b) hbl)
 have hne:Hid (w.heap.size≠b):=by have:=hbd.out.lt;unfold Hid;omega
 have ne1:=hne.out
 have ne2:=hne.out.symm
 have hsza:Hid (B<=(w.alloc (.cells #[.int .i64 5,.int .i64 p,.string ⟨f.toArray⟩,.string ⟨x.toArray⟩,.int .i64 n,.slice A m c] 24)).heap.size):=Nat.le_trans hB hbl.size
 clear hbl hT hR ih hm hz
 have hn:0<=n/\n<=1099511627776:=by
  rw [if_neg (by decide),if_neg (by decide),if_neg (by decide),if_pos (by decide)] at hm'
  simp only [Bool.and_eq_true,decide_eq_true_eq] at hm'
  exact ⟨hm'.1.2,hm'.2⟩
 have hdl:=dec_len19 (n:=n.toNat)
 have hfi:Hid (∀W,Below (w.alloc (.cells #[.int .i64 5,.int .i64 p,.string ⟨f.toArray⟩,.string ⟨x.toArray⟩,.int .i64 n,.slice A m c] 24)).heap.size (w.alloc (.cells #[.int .i64 5,.int .i64 p,.string ⟨f.toArray⟩,.string ⟨x.toArray⟩,.int .i64 n,.slice A m c] 24)) W->Calls Tryz.prog 157 #[.int .i64 n,.int .i64 10] W fun e w'=>e=.returned (.string ⟨(decN 20 n.toNat).toArray⟩)/\Bz W w'):=fun W hW=>format_any n hn.1 hn.2 W (he.out.low ((hBa.out.trans (hW.mono hsza.out)).mono h8))
 have hwr:Hid (∀W,Below (w.alloc (.cells #[.int .i64 5,.int .i64 p,.string ⟨f.toArray⟩,.string ⟨x.toArray⟩,.int .i64 n,.slice A m c] 24)).heap.size (w.alloc (.cells #[.int .i64 5,.int .i64 p,.string ⟨f.toArray⟩,.string ⟨x.toArray⟩,.int .i64 n,.slice A m c] 24)) W->Calls Tryz.prog 77 #[.pointer (some ⟨b,0,none⟩),.string ⟨(f++[32,60,61,32]++decN 20 n.toNat).toArray⟩] W fun e w'=>(∃n,e=.returned (.tuple #[.int .i64 n,.nilIface]))/\Below B W w'/\Lib.OthersKept 5 (some b) W w'/\Bld w' B b (acc++(f++[32,60,61,32]++decN 20 n.toNat))):=fun W hW=>write_any B b acc (f++[32,60,61,32]++decN 20 n.toNat) W (hbda.out.below hW) (by simp;omega) (Nat.le_trans hsza.out hW.size)
 obtain ⟨dn,hdn⟩:=nmZ (decN 20 n.toNat)
 rw [hdn.out] at hfi hwr hdl ⊢
 have e0:({ data:=f.toArray }:ByteArray)++{ data:=#[32,60,61,32] }++{ data:=dn.toArray }=⟨(f++[32,60,61,32]++dn).toArray⟩:=ByteArray.ext (by simp)
 have e0':=hdZ e0
 have hS:Hid (∀W,Below (w.alloc (.cells #[.int .i64 5,.int .i64 p,.string ⟨f.toArray⟩,.string ⟨x.toArray⟩,.int .i64 n,.slice A m c] 24)).heap.size (w.alloc (.cells #[.int .i64 5,.int .i64 p,.string ⟨f.toArray⟩,.string ⟨x.toArray⟩,.int .i64 n,.slice A m c] 24)) W->W.cell? ⟨w.heap.size,2,none⟩=some (.string ⟨f.toArray⟩)/\W.cell? ⟨w.heap.size,4,none⟩=some (.int .i64 n)):=fun W hW=>⟨by rw [(hbx.out.below hW hbx.out.lt).cell];rfl,by rw [(hbx.out.below hW hbx.out.lt).cell];rfl⟩
 have z1:¬9223372036854775807<f.length+4:=by omega
 have z2:¬9223372036854775807<f.length+4+dn.length:=by omega
 clear hm' hz' e0 hn
 go_enter Tryz.func132,Tryz.ntmps132
 go_wp2_with fail
 have hwa:Hid ((w.alloc (.cells #[.int .i64 5,.int .i64 p,.string ⟨f.toArray⟩,.string ⟨x.toArray⟩,.int .i64 n,.slice A m c] 24))=(w.alloc (.cells #[.int .i64 5,.int .i64 p,.string ⟨f.toArray⟩,.string ⟨x.toArray⟩,.int .i64 n,.slice A m c] 24))):=rfl
 obtain ⟨wa,hwa⟩:=nmZ ((w.alloc (.cells #[.int .i64 5,.int .i64 p,.string ⟨f.toArray⟩,.string ⟨x.toArray⟩,.int .i64 n,.slice A m c] 24)))
 rw [hwa.out] at hfi hwr hS hBa hKa hsza hbx ⊢
 clear hwa
 have hS0:=hS.out _ (Below.refl _ _)
 go_region_held3 (fun W=>W.cell? ⟨w.heap.size,2,none⟩=some (.string ⟨f.toArray⟩)/\W.cell? ⟨w.heap.size,4,none⟩=some (.int .i64 n)) (first | exact hS.out _ (Below.refl _ _).drew | exact hS2) (first | (go_at_call 157;(with_reducible refine (hfi.out _ (Below.refl _ _).drew).mono ?_);rintro e w1 ⟨rfl,hb1⟩;have hq1:Hid (Bz wa w1):=(Below.refl _ wa).drew.trans hb1;have hS2:=hS.out w1 hq1.out;clear hb1) | (go_at_call 77;rw [e0'.out];(with_reducible refine (hwr.out _ hq1.out).mono ?_);rintro e w2 ⟨⟨n1,rfl⟩,hB2,hK2,hb2⟩;have hB9:=hdZ (hBa.out.trans ((hq1.out.mono hsza.out).trans hB2));have hK9:=hdZ (hKa.out.trans ((kept_below hq1.out).trans hK2));have hb9:=hdZ hb2;have hX9:=hdZ (kept_blk hK2 (hbx.out.below hq1.out hbx.out.lt) hne.out (by decide));have hS2:w2.cell? ⟨w.heap.size,2,none⟩=some (.string ⟨f.toArray⟩)/\w2.cell? ⟨w.heap.size,4,none⟩=some (.int .i64 n):=⟨hX9.out.cell 2,hX9.out.cell 4⟩;clear hB2 hK2 hb2))
 all_goals
  go_wp2_with fail
  go_end0
  exact ⟨rfl,hB9.out,hK9.out,hb9.out⟩
theorem show_num6 (t:Tree) (ih:∀u∈t.sub,ShowC u) (hk:t.kind=6):ShowC t:=by
 intro w B b acc he h8 hB hT hm hz hbd
 obtain ⟨k,p,f,x,n,A,c,L⟩:=t
 replace hk:k=6:=hk
 subst hk
 have hT0:=hT.out
 rw [TreeAt] at hT0
 obtain ⟨hR,hlen⟩:=hT0
 have hR':=hdZ hR
 have hm':=hm.out
 have hz':=hz.out
 rw [strip,mayR] at hm'
 rw [strip,szR] at hz'
 have hsh:Hid (showR (strip (.mk 6 p f x n A c L))=f++[32,62,61,32]++decN 20 n.toNat):=by
  unfold Hid;rw [strip,showR];rw [if_neg (by decide),if_neg (by decide),if_neg (by decide),if_pos rfl];try simp
 rw [hsh.out]
 obtain ⟨m,hmm⟩:=nmZ (L.length)
 have ih':Hid (∀u∈L,ShowC u):=ih
 unfold Writes
 show Calls Tryz.prog 132 #[.pointer (some ⟨b,0,none⟩),.agg #[.int .i64 6,.int .i64 p,.string ⟨f.toArray⟩,.string ⟨x.toArray⟩,.int .i64 n,.slice A L.length c]] w _
 rw [hmm.out] at hlen ⊢
 unfold mostZ at hz'
 have hbl:Bz w (w.alloc (.cells #[.int .i64 6,.int .i64 p,.string ⟨f.toArray⟩,.string ⟨x.toArray⟩,.int .i64 n,.slice A m c] 24)):=(Below.refl _ w).alloc leZ _
 have hbx:=hdZ (Blk.new w 24 #[.int .i64 6,.int .i64 p,.string ⟨f.toArray⟩,.string ⟨x.toArray⟩,.int .i64 n,.slice A m c])
 have hBa:Hid (Below B w (w.alloc (.cells #[.int .i64 6,.int .i64 p,.string ⟨f.toArray⟩,.string ⟨x.toArray⟩,.int .i64 n,.slice A m c] 24))):=hbl.mono hB
 have hbda:=hdZ (hbd.out.below hbl)
 have hKa:=hdZ (kept_below (b:=some b) hbl)
 have hne:Hid (w.heap.size≠b):=by have:=hbd.out.lt;unfold Hid;omega
 have ne1:=hne.out
 have ne2:=hne.out.symm
 have hsza:Hid (B<=(w.alloc (.cells #[.int .i64 6,.int .i64 p,.string ⟨f.toArray⟩,.string ⟨x.toArray⟩,.int .i64 n,.slice A m c] 24)).heap.size):=Nat.le_trans hB hbl.size
 clear hbl hT hR ih hm hz
 have hn:0<=n/\n<=1099511627776:=by
  rw [if_neg (by decide),if_neg (by decide),if_neg (by decide),if_pos (by decide)] at hm'
  simp only [Bool.and_eq_true,decide_eq_true_eq] at hm'
  exact ⟨hm'.1.2,hm'.2⟩
 have hdl:=dec_len19 (n:=n.toNat)
 have hfi:Hid (∀W,Below (w.alloc (.cells #[.int .i64 6,.int .i64 p,.string ⟨f.toArray⟩,.string ⟨x.toArray⟩,.int .i64 n,.slice A m c] 24)).heap.size (w.alloc (.cells #[.int .i64 6,.int .i64 p,.string ⟨f.toArray⟩,.string ⟨x.toArray⟩,.int .i64 n,.slice A m c] 24)) W->Calls Tryz.prog 157 #[.int .i64 n,.int .i64 10] W fun e w'=>e=.returned (.string ⟨(decN 20 n.toNat).toArray⟩)/\Bz W w'):=fun W hW=>format_any n hn.1 hn.2 W (he.out.low ((hBa.out.trans (hW.mono hsza.out)).mono h8))
 have hwr:Hid (∀W,Below (w.alloc (.cells #[.int .i64 6,.int .i64 p,.string ⟨f.toArray⟩,.string ⟨x.toArray⟩,.int .i64 n,.slice A m c] 24)).heap.size (w.alloc (.cells #[.int .i64 6,.int .i64 p,.string ⟨f.toArray⟩,.string ⟨x.toArray⟩,.int .i64 n,.slice A m c] 24)) W->Calls Tryz.prog 77 #[.pointer (some ⟨b,0,none⟩),.string ⟨(f++[32,62,61,32]++decN 20 n.toNat).toArray⟩] W fun e w'=>(∃n,e=.returned (.tuple #[.int .i64 n,.nilIface]))/\Below B W w'/\Lib.OthersKept 5 (some b) W w'/\Bld w' B b (acc++(f++[32,62,61,32]++decN 20 n.toNat))):=fun W hW=>write_any B b acc (f++[32,62,61,32]++decN 20 n.toNat) W (hbda.out.below hW) (by simp;omega) (Nat.le_trans hsza.out hW.size)
 obtain ⟨dn,hdn⟩:=nmZ (decN 20 n.toNat)
 rw [hdn.out] at hfi hwr hdl ⊢
 have e0:({ data:=f.toArray }:ByteArray)++{ data:=#[32,62,61,32] }++{ data:=dn.toArray }=⟨(f++[32,62,61,32]++dn).toArray⟩:=ByteArray.ext (by simp)
 have e0':=hdZ e0
 have hS:Hid (∀W,Below (w.alloc (.cells #[.int .i64 6,.int .i64 p,.string ⟨f.toArray⟩,.string ⟨x.toArray⟩,.int .i64 n,.slice A m c] 24)).heap.size (w.alloc (.cells #[.int .i64 6,.int .i64 p,.string ⟨f.toArray⟩,.string ⟨x.toArray⟩,.int .i64 n,.slice A m c] 24)) W->W.cell? ⟨w.heap.size,2,none⟩=some (.string ⟨f.toArray⟩)/\W.cell? ⟨w.heap.size,4,none⟩=some (.int .i64 n)):=fun W hW=>⟨by rw [(hbx.out.below hW hbx.out.lt).cell];rfl,by rw [(hbx.out.below hW hbx.out.lt).cell];rfl⟩
 have z1:¬9223372036854775807<f.length+4:=by omega
 have z2:¬9223372036854775807<f.length+4+dn.length:=by omega
 clear hm' hz' e0 hn
 go_enter Tryz.func132,Tryz.ntmps132
 go_wp2_with fail
 have hwa:Hid ((w.alloc (.cells #[.int .i64 6,.int .i64 p,.string ⟨f.toArray⟩,.string ⟨x.toArray⟩,.int .i64 n,.slice A m c] 24))=(w.alloc (.cells #[.int .i64 6,.int .i64 p,.string ⟨f.toArray⟩,.string ⟨x.toArray⟩,.int .i64 n,.slice A m c] 24))):=rfl
 obtain ⟨wa,hwa⟩:=nmZ ((w.alloc (.cells #[.int .i64 6,.int .i64 p,.string ⟨f.toArray⟩,.string ⟨x.toArray⟩,.int .i64 n,.slice A m c] 24)))
 rw [hwa.out] at hfi hwr hS hBa hKa hsza hbx ⊢
 clear hwa
 have hS0:=hS.out _ (Below.refl _ _)
 go_region_held3 (fun W=>W.cell? ⟨w.heap.size,2,none⟩=some (.string ⟨f.toArray⟩)/\W.cell? ⟨w.heap.size,4,none⟩=some (.int .i64 n)) (first | exact hS.out _ (Below.refl _ _).drew | exact hS2) (first | (go_at_call 157;(with_reducible refine (hfi.out _ (Below.refl _ _).drew).mono ?_);rintro e w1 ⟨rfl,hb1⟩;have hq1:Hid (Bz wa w1):=(Below.refl _ wa).drew.trans hb1;have hS2:=hS.out w1 hq1.out;clear hb1) | (go_at_call 77;rw [e0'.out];(with_reducible refine (hwr.out _ hq1.out).mono ?_);rintro e w2 ⟨⟨n1,rfl⟩,hB2,hK2,hb2⟩;have hB9:=hdZ (hBa.out.trans ((hq1.out.mono hsza.out).trans hB2));have hK9:=hdZ (hKa.out.trans ((kept_below hq1.out).trans hK2));have hb9:=hdZ hb2;have hX9:=hdZ (kept_blk hK2 (hbx.out.below hq1.out hbx.out.lt) hne.out (by decide));have hS2:w2.cell? ⟨w.heap.size,2,none⟩=some (.string ⟨f.toArray⟩)/\w2.cell? ⟨w.heap.size,4,none⟩=some (.int .i64 n):=⟨hX9.out.cell 2,hX9.out.cell 4⟩;clear hB2 hK2 hb2))
 all_goals
  go_wp2_with fail
  go_end0
  exact ⟨rfl,hB9.out,hK9.out,hb9.out⟩
theorem show_like (t:Tree) (ih:∀u∈t.sub,ShowC u) (hk:t.kind=7):ShowC t:=by
 intro w B b acc he h8 hB hT hm hz hbd
 obtain ⟨k,p,f,x,n,A,c,L⟩:=t
 replace hk:k=7:=hk
 subst hk
 have hT0:=hT.out
 rw [TreeAt] at hT0
 obtain ⟨hR,hlen⟩:=hT0
 have hR':=hdZ hR
 have hm':=hm.out
 have hz':=hz.out
 rw [strip,mayR] at hm'
 rw [strip,szR] at hz'
 have hsh:Hid (showR (strip (.mk 7 p f x n A c L))=f++[32,61,32]++paperT p++[46]++x):=by
  unfold Hid;rw [strip,showR];rw [if_neg (by decide),if_neg (by decide),if_neg (by decide),if_neg (by decide),if_pos rfl];try simp
 rw [hsh.out]
 obtain ⟨m,hmm⟩:=nmZ (L.length)
 have ih':Hid (∀u∈L,ShowC u):=ih
 unfold Writes
 show Calls Tryz.prog 132 #[.pointer (some ⟨b,0,none⟩),.agg #[.int .i64 7,.int .i64 p,.string ⟨f.toArray⟩,.string ⟨x.toArray⟩,.int .i64 n,.slice A L.length c]] w _
 rw [hmm.out] at hlen ⊢
 unfold mostZ at hz'
 have hbl:Bz w (w.alloc (.cells #[.int .i64 7,.int .i64 p,.string ⟨f.toArray⟩,.string ⟨x.toArray⟩,.int .i64 n,.slice A m c] 24)):=(Below.refl _ w).alloc leZ _
 have hbx:=hdZ (Blk.new w 24 #[.int .i64 7,.int .i64 p,.string ⟨f.toArray⟩,.string ⟨x.toArray⟩,.int .i64 n,.slice A m c])
 have hBa:Hid (Below B w (w.alloc (.cells #[.int .i64 7,.int .i64 p,.string ⟨f.toArray⟩,.string ⟨x.toArray⟩,.int .i64 n,.slice A m c] 24))):=hbl.mono hB
 have hbda:=hdZ (hbd.out.below hbl)
 have hKa:=hdZ (kept_below (b:=some b) hbl)
 have hne:Hid (w.heap.size≠b):=by have:=hbd.out.lt;unfold Hid;omega
 have ne1:=hne.out
 have ne2:=hne.out.symm
 have hsza:Hid (B<=(w.alloc (.cells #[.int .i64 7,.int .i64 p,.string ⟨f.toArray⟩,.string ⟨x.toArray⟩,.int .i64 n,.slice A m c] 24)).heap.size):=Nat.le_trans hB hbl.size
 clear hbl hT hR ih hm hz
 have hn:0<=p/\p<6:=by
  rw [if_neg (by decide),if_neg (by decide),if_neg (by decide),if_neg (by decide),if_pos rfl] at hm'
  simp only [Bool.and_eq_true,decide_eq_true_eq] at hm'
  exact ⟨hm'.1.2,hm'.2⟩
 obtain ⟨pn,hpn⟩:∃pn:Nat,p=(pn:Int):=⟨p.toNat,by omega⟩
 have hp6:pn<6:=by omega
 have hpl:=paper_len p
 obtain ⟨pt,hpt⟩:=nmZ (paperT p)
 have hgl:Hid (papersA[pn]?=some (.string ⟨pt.toArray⟩)):=by
  unfold Hid
  rw [<-hpt.out,hpn]
  show papersA[pn]?=some (.string ⟨(papersL.getD ((pn:Int)).toNat []).toArray⟩)
  rw [show ((pn:Int)).toNat=pn by omega]
  obtain rfl | rfl | rfl | rfl | rfl | rfl:pn=0\/pn=1\/pn=2\/pn=3\/pn=4\/pn=5:=by omega
  all_goals rfl
 rw [hpt.out] at hpl ⊢
 have hwr:Hid (∀W,Below (w.alloc (.cells #[.int .i64 7,.int .i64 p,.string ⟨f.toArray⟩,.string ⟨x.toArray⟩,.int .i64 n,.slice A m c] 24)).heap.size (w.alloc (.cells #[.int .i64 7,.int .i64 p,.string ⟨f.toArray⟩,.string ⟨x.toArray⟩,.int .i64 n,.slice A m c] 24)) W->Calls Tryz.prog 77 #[.pointer (some ⟨b,0,none⟩),.string ⟨(f++[32,61,32]++pt++[46]++x).toArray⟩] W fun e w'=>(∃n,e=.returned (.tuple #[.int .i64 n,.nilIface]))/\Below B W w'/\Lib.OthersKept 5 (some b) W w'/\Bld w' B b (acc++(f++[32,61,32]++pt++[46]++x))):=fun W hW=>write_any B b acc (f++[32,61,32]++pt++[46]++x) W (hbda.out.below hW) (by simp;omega) (Nat.le_trans hsza.out hW.size)
 have e0:({ data:=f.toArray }:ByteArray)++{ data:=#[32,61,32] }++{ data:=pt.toArray }++{ data:=#[46] }++{ data:=x.toArray }=⟨(f++[32,61,32]++pt++[46]++x).toArray⟩:=ByteArray.ext (by simp)
 have e0':=hdZ e0
 subst hpn
 have hS:Hid (∀W,Below (w.alloc (.cells #[.int .i64 7,.int .i64 pn,.string ⟨f.toArray⟩,.string ⟨x.toArray⟩,.int .i64 n,.slice A m c] 24)).heap.size (w.alloc (.cells #[.int .i64 7,.int .i64 pn,.string ⟨f.toArray⟩,.string ⟨x.toArray⟩,.int .i64 n,.slice A m c] 24)) W->W.cell? ⟨w.heap.size,1,none⟩=some (.int .i64 pn)/\W.cell? ⟨w.heap.size,2,none⟩=some (.string ⟨f.toArray⟩)/\W.cell? ⟨w.heap.size,3,none⟩=some (.string ⟨x.toArray⟩)/\W.cell? ⟨4,pn,none⟩=some (.string ⟨pt.toArray⟩)):=fun W hW=>⟨by rw [(hbx.out.below hW hbx.out.lt).cell];rfl,by rw [(hbx.out.below hW hbx.out.lt).cell];rfl,by rw [(hbx.out.below hW hbx.out.lt).cell];rfl,by rw [(he.out.low ((hBa.out.trans (hW.mono hsza.out)).mono h8)).papers pn hp6];exact hgl.out⟩
 have z1:¬9223372036854775807<f.length+3:=by omega
 have z2:¬9223372036854775807<f.length+3+pt.length:=by omega
 have z3:¬9223372036854775807<f.length+3+pt.length+1:=by omega
 have z4:¬9223372036854775807<f.length+3+pt.length+1+x.length:=by omega
 have i1:(0:Int)<=(pn:Int):=by omega
 have i2:(pn:Int)<6:=by omega
 clear hm' hz' e0 hn
 go_enter Tryz.func132,Tryz.ntmps132
 go_wp2_with fail
 obtain ⟨wa,hwa⟩:=nmZ ((w.alloc (.cells #[.int .i64 7,.int .i64 pn,.string ⟨f.toArray⟩,.string ⟨x.toArray⟩,.int .i64 n,.slice A m c] 24)))
 rw [hwa.out] at hwr hS hBa hKa hsza hbx ⊢
 clear hwa
 have hS0:=hS.out _ (Below.refl _ _)
 go_region_held3 (fun W=>W.cell? ⟨w.heap.size,1,none⟩=some (.int .i64 pn)/\W.cell? ⟨w.heap.size,2,none⟩=some (.string ⟨f.toArray⟩)/\W.cell? ⟨w.heap.size,3,none⟩=some (.string ⟨x.toArray⟩)/\W.cell? ⟨4,pn,none⟩=some (.string ⟨pt.toArray⟩)) (first | exact hS.out _ (Below.refl _ _).drew | exact hS2) (first | (go_at_call 77;rw [e0'.out];(with_reducible refine (hwr.out _ (Below.refl _ _).drew).mono ?_);rintro e w2 ⟨⟨n1,rfl⟩,hB2,hK2,hb2⟩;have hB9:=hdZ (hBa.out.trans (((Below.refl _ wa).drew.mono hsza.out).trans hB2));have hK9:=hdZ (hKa.out.trans ((kept_below (Below.refl _ wa).drew).trans hK2));have hb9:=hdZ hb2;have hX9:=hdZ (kept_blk hK2 (hbx.out.drew) hne.out (by decide));have hS2:w2.cell? ⟨w.heap.size,1,none⟩=some (.int .i64 pn)/\w2.cell? ⟨w.heap.size,2,none⟩=some (.string ⟨f.toArray⟩)/\w2.cell? ⟨w.heap.size,3,none⟩=some (.string ⟨x.toArray⟩)/\w2.cell? ⟨4,pn,none⟩=some (.string ⟨pt.toArray⟩):=⟨hX9.out.cell 1,hX9.out.cell 2,hX9.out.cell 3,by rw [(he.out.low (hB9.out.mono h8)).papers pn hp6];exact hgl.out⟩;clear hB2 hK2 hb2))
 all_goals
  go_wp2_with fail
  go_end0
  exact ⟨rfl,hB9.out,hK9.out,hb9.out⟩
theorem show_not (t:Tree) (ih:∀u∈t.sub,ShowC u) (hk:t.kind=2):ShowC t:=by
 intro w B b acc he h8 hB hT hm hz hbd
 obtain ⟨k,p,f,x,n,A,c,L⟩:=t
 replace hk:k=2:=hk
 subst hk
 have hT0:=hT.out
 rw [TreeAt] at hT0
 obtain ⟨hR,hlen⟩:=hT0
 have hR':=hdZ hR
 have hm':=hm.out
 have hz':=hz.out
 rw [strip,mayR] at hm'
 rw [strip,szR] at hz'
 have hsh:Hid (showR (strip (.mk 2 p f x n A c L))=[110,111,116,32]++showL 2 [] (strips L)):=by
  unfold Hid;rw [strip,showR];rw [if_neg (by decide),if_neg (by decide),if_neg (by decide),if_neg (by decide),if_neg (by decide),if_pos rfl];try simp
 rw [hsh.out]
 obtain ⟨m,hmm⟩:=nmZ (L.length)
 have ih':Hid (∀u∈L,ShowC u):=ih
 unfold Writes
 show Calls Tryz.prog 132 #[.pointer (some ⟨b,0,none⟩),.agg #[.int .i64 2,.int .i64 p,.string ⟨f.toArray⟩,.string ⟨x.toArray⟩,.int .i64 n,.slice A L.length c]] w _
 rw [hmm.out] at hlen ⊢
 unfold mostZ at hz'
 have hbl:Bz w (w.alloc (.cells #[.int .i64 2,.int .i64 p,.string ⟨f.toArray⟩,.string ⟨x.toArray⟩,.int .i64 n,.slice A m c] 24)):=(Below.refl _ w).alloc leZ _
 have hbx:=hdZ (Blk.new w 24 #[.int .i64 2,.int .i64 p,.string ⟨f.toArray⟩,.string ⟨x.toArray⟩,.int .i64 n,.slice A m c])
 have hBa:Hid (Below B w (w.alloc (.cells #[.int .i64 2,.int .i64 p,.string ⟨f.toArray⟩,.string ⟨x.toArray⟩,.int .i64 n,.slice A m c] 24))):=hbl.mono hB
 have hbda:=hdZ (hbd.out.below hbl)
 have hKa:=hdZ (kept_below (b:=some b) hbl)
 have hne:Hid (w.heap.size≠b):=by have:=hbd.out.lt;unfold Hid;omega
 have ne1:=hne.out
 have ne2:=hne.out.symm
 have hsza:Hid (B<=(w.alloc (.cells #[.int .i64 2,.int .i64 p,.string ⟨f.toArray⟩,.string ⟨x.toArray⟩,.int .i64 n,.slice A m c] 24)).heap.size):=Nat.le_trans hB hbl.size
 clear hbl hT hR ih hm hz
 have hml:L.length=1/\mayL (strips L)=true:=by
  rw [if_neg (by decide),if_pos rfl] at hm'
  simp only [Bool.and_eq_true,decide_eq_true_eq,strips_map,List.length_map] at hm'
  exact ⟨hm'.1.2,by rw [strips_map];exact hm'.2⟩
 obtain ⟨hl1,hml⟩:=hml
 obtain rfl:1=m:=by rw [<-hmm.out,hl1]
 obtain ⟨t,rfl⟩:∃t,L=[t]:=by
  match L,hl1 with
  | [t],_=>exact ⟨t,rfl⟩
 have hmt:Hid (mayR (strip t)=true):=mayL_mem' hml (by simp)
 rw [strips,strips,szL,szL] at hz'
 have hsl:Hid (showL 2 [] (strips [t])=inPar (parB 2 t.kind) (showR (strip t))):=by unfold Hid;rw [strips,strips,showL,showL,strip_kind];simp
 rw [hsl.out]
 have hw1:=hdZ (write_any B b acc [110,111,116,32] _ hbda (by simp;omega) hsza.out)
 obtain ⟨hcw,hTt⟩:=(hR'.out).get 0 t rfl
 have hTt':=hdZ hTt
 have iht:=hdZ (ih'.out t (by simp))
 have hzt:Hid (acc.length+4+2+szR (strip t)<=mostZ):=by unfold Hid mostZ;omega
 clear hm' hz' hml hTt hl1 hR' ih' hsh hsl
 obtain ⟨tk,tp,tf,tx,tn,tA,tc,tL⟩:=t
 obtain ⟨bb,off,rfl,hbb,k0,k1,k2,k3,k4,k5⟩:=hcw
 rw [Nat.zero_add,Nat.zero_mul,Nat.add_zero] at k0 k1 k2 k3 k4 k5
 have hS:Hid (∀W,Below B w W->Blk W w.heap.size 24 #[.int .i64 2,.int .i64 p,.string ⟨f.toArray⟩,.string ⟨x.toArray⟩,.int .i64 n,.slice (some ⟨bb,off,none⟩) 1 c]->W.cell? ⟨w.heap.size,0,none⟩=some (.int .i64 2)/\W.cell? ⟨w.heap.size,5,none⟩=some (.slice (some ⟨bb,off,none⟩) 1 c)/\W.cell? ⟨bb,off,none⟩=some (.int .i64 tk)/\W.cell? ⟨bb,off+1,none⟩=some (.int .i64 tp)/\W.cell? ⟨bb,off+2,none⟩=some (.string ⟨tf.toArray⟩)/\W.cell? ⟨bb,off+3,none⟩=some (.string ⟨tx.toArray⟩)/\W.cell? ⟨bb,off+4,none⟩=some (.int .i64 tn)/\W.cell? ⟨bb,off+5,none⟩=some (.slice tA tL.length tc)):=fun W hW hX=>⟨hX.cell 0,hX.cell 5,(hW.cell (p:=⟨bb,_,none⟩) hbb).trans k0,(hW.cell (p:=⟨bb,_,none⟩) hbb).trans k1,(hW.cell (p:=⟨bb,_,none⟩) hbb).trans k2,(hW.cell (p:=⟨bb,_,none⟩) hbb).trans k3,(hW.cell (p:=⟨bb,_,none⟩) hbb).trans k4,(hW.cell (p:=⟨bb,_,none⟩) hbb).trans k5⟩
 clear k0 k1 k2 k3 k4 k5
 go_enter Tryz.func132,Tryz.ntmps132
 go_wp2_with fail
 refine hw1.out.mono ?_
 rintro e w1 ⟨⟨n1,rfl⟩,hB1,hK1,hb1⟩
 have hBx:=hdZ (hBa.out.trans hB1)
 have hKx:=hdZ (hKa.out.trans hK1)
 have hXx:=hdZ (kept_blk hK1 hbx.out hne.out (by decide))
 have hDx:=hdZ hb1
 have hbk:Hid (∀W,Bz w1 W->Calls Tryz.prog 184 #[.pointer (some ⟨b,0,none⟩),.int .i64 2,.agg #[.int .i64 tk,.int .i64 tp,.string ⟨tf.toArray⟩,.string ⟨tx.toArray⟩,.int .i64 tn,.slice tA tL.length tc]] W fun e w'=>e=.returned (.tuple #[])/\Below B W w'/\Lib.OthersKept 5 (some b) W w'/\Bld w' B b (acc++[110,111,116,32]++(inPar (parB 2 tk) (showR (strip (.mk tk tp tf tx tn tA tc tL)))))):=fun W hW=>bracket_any _ iht.out 2 W B b _ (he.out.low ((hBx.out.trans (hW.mono (Nat.le_trans hB hBx.out.size))).mono h8)) h8 (Nat.le_trans hB (Nat.le_trans hBx.out.size hW.size)) ((hTt'.out.lowB hBx.out).lowB (hW.mono (Nat.le_trans hB hBx.out.size))) hmt (by have:=hzt.out;unfold Hid;simp;omega) (hDx.out.below hW)
 clear hB1 hK1 hb1 hw1
 have hS0:=hS.out w1 hBx.out hXx.out
 go_wp2_with fail
 go_region_held3 (fun W=>W.cell? ⟨w.heap.size,0,none⟩=some (.int .i64 2)/\W.cell? ⟨w.heap.size,5,none⟩=some (.slice (some ⟨bb,off,none⟩) 1 c)/\W.cell? ⟨bb,off,none⟩=some (.int .i64 tk)/\W.cell? ⟨bb,off+1,none⟩=some (.int .i64 tp)/\W.cell? ⟨bb,off+2,none⟩=some (.string ⟨tf.toArray⟩)/\W.cell? ⟨bb,off+3,none⟩=some (.string ⟨tx.toArray⟩)/\W.cell? ⟨bb,off+4,none⟩=some (.int .i64 tn)/\W.cell? ⟨bb,off+5,none⟩=some (.slice tA tL.length tc)) (first | exact hS0 | exact hS2) (first | (go_at_call 184;(with_reducible refine Calls.mono (hbk.out _ (Below.refl _ _).drew) ?_);rintro e w2 ⟨rfl,hB2,hK2,hb2⟩;have hB9:=hdZ (hBx.out.trans (((Below.refl _ w1).drew.mono (Nat.le_trans hB hBx.out.size)).trans hB2));have hK9:=hdZ (hKx.out.trans ((kept_below (Below.refl _ w1).drew).trans hK2));have hb9:=hdZ hb2;have hX9:=hdZ (kept_blk hK2 hXx.out.drew hne.out (by decide));have hS2:=hS.out w2 hB9.out hX9.out;clear hB2 hK2 hb2))
 all_goals
  go_wp2_with fail
  go_end0
  exact ⟨rfl,hB9.out,hK9.out,by have:=hb9.out;rw [List.append_assoc] at this;exact this⟩
theorem show_any:∀t:Tree,ShowC t:=Tree.every fun t ih=>by
 rcases (by omega:t.kind=0\/t.kind=1\/t.kind=2\/t.kind=3\/t.kind=4\/t.kind=5\/t.kind=6\/t.kind=7\/(t.kind<0\/7<t.kind)) with h | h | h | h | h | h | h | h | h
 ·exact show_row0 t ih h
 ·exact show_row1 t ih h
 ·exact show_not t ih h
 ·exact show_text3 t ih h
 ·exact show_text4 t ih h
 ·exact show_num5 t ih h
 ·exact show_num6 t ih h
 ·exact show_like t ih h
 ·intro w B b acc he h8 hB hT hm hz hbd
  have:=kind7 hm.out
  rw [strip_kind] at this
  omega
def shownR (r:Rul):Txt:=if mayR r=true then showR r else []
theorem showR_any (t:Tree) (w:World) (ok:Nat->Prop) (he:Hid (Env w)) (hT:Hid (TreeAt w ok t)) (hz:Hid (szR (strip t)<=mostZ)) :
  Calls Tryz.prog 80 #[.agg t.cells] w fun e w'=>e=.returned (.string ⟨(shownR (strip t)).toArray⟩)/\Bz w w':=by
 have h8:=he.out.size
 have hmay:=hdZ (may_any t)
 have hshow:=hdZ (show_any t)
 obtain ⟨bm,hbm⟩:=nmZ (mayR (strip t))
 obtain ⟨sh,hsh⟩:=nmZ (showR (strip t))
 have hres:Hid (shownR (strip t)=if bm=true then sh else []):=by unfold Hid shownR;rw [hbm.out,hsh.out]
 obtain ⟨k,p,f,x,n,A,c,L⟩:=t
 have hlen:L.length<=maxLen:=by have h:=hT.out;rw [TreeAt] at h;exact h.2
 have hbl:Bz w (w.alloc (.cells #[.int .i64 k,.int .i64 p,.string ⟨f.toArray⟩,.string ⟨x.toArray⟩,.int .i64 n,.slice A L.length c] 24)):=(Below.refl _ w).alloc leZ _
 have hba:=hdZ hbl
 have hbx:=hdZ (Blk.new w 24 #[.int .i64 k,.int .i64 p,.string ⟨f.toArray⟩,.string ⟨x.toArray⟩,.int .i64 n,.slice A L.length c])
 have hTw:Hid (TreeAt w (fun b=>b<w.heap.size) (.mk k p f x n A c L)):=hT.out.mono fun b h _=>h
 have hc1:Hid (Calls Tryz.prog 131 #[.agg #[.int .i64 k,.int .i64 p,.string ⟨f.toArray⟩,.string ⟨x.toArray⟩,.int .i64 n,.slice A L.length c]] (w.alloc (.cells #[.int .i64 k,.int .i64 p,.string ⟨f.toArray⟩,.string ⟨x.toArray⟩,.int .i64 n,.slice A L.length c] 24)) fun e w'=>e=.returned (.bool bm)/\Below (w.alloc (.cells #[.int .i64 k,.int .i64 p,.string ⟨f.toArray⟩,.string ⟨x.toArray⟩,.int .i64 n,.slice A L.length c] 24)).heap.size (w.alloc (.cells #[.int .i64 k,.int .i64 p,.string ⟨f.toArray⟩,.string ⟨x.toArray⟩,.int .i64 n,.slice A L.length c] 24)) w'):=by
  rw [<-hbm.out];exact hmay.out _ ok (he.out.below hbl) (hT.out.below hbl) hz
 clear hbl hmay hT
 show Calls Tryz.prog 80 #[.agg #[.int .i64 k,.int .i64 p,.string ⟨f.toArray⟩,.string ⟨x.toArray⟩,.int .i64 n,.slice A L.length c]] w _
 obtain ⟨m,hmm⟩:=nmZ (L.length)
 rw [hmm.out] at hba hbx hc1 ⊢
 go_enter Tryz.func80,Tryz.ntmps80
 go_wp2_with fail
 obtain ⟨wa,hwa⟩:=nmZ (w.alloc (.cells #[.int .i64 k,.int .i64 p,.string ⟨f.toArray⟩,.string ⟨x.toArray⟩,.int .i64 n,.slice A m c] 24))
 rw [hwa.out] at hba hbx hc1 ⊢
 clear hwa
 refine hc1.out.mono ?_
 rintro e w1 ⟨rfl,hb1⟩
 have hB1:=hdZ (hba.out.trans (hb1.mono hba.out.size))
 have hX1:=kbY hbx hb1
 clear hb1 hc1 hba hbx
 cases bm with
 | false =>
  go_wp2_with fail
  go_ret
  exact ⟨by rw [hres.out];rfl,hB1.out⟩
 | true =>
  obtain ⟨x0,x1,x2,x3,x4,x5⟩:=cs6 hX1.out
  have xlt:=hX1.out.lt
  have hbln:Bz w1 (w1.alloc (.cells #[.pointer none,.slice none 0 0] 115)):=(Below.refl _ w1).alloc leZ _
  have hBn:=hdZ (hB1.out.trans (hbln.mono hB1.out.size))
  have hsw:Hid (Writes 132 #[.pointer (some ⟨w1.heap.size,0,none⟩),.agg #[.int .i64 k,.int .i64 p,.string ⟨f.toArray⟩,.string ⟨x.toArray⟩,.int .i64 n,.slice A m c]] (w1.alloc (.cells #[.pointer none,.slice none 0 0] 115)) w1.heap.size w1.heap.size [] sh):=by
   have:=hshow.out (w1.alloc (.cells #[.pointer none,.slice none 0 0] 115)) w1.heap.size w1.heap.size [] (he.out.below hBn.out) (Nat.le_trans h8 hB1.out.size) hbln.size (((hTw.out.below hB1.out).mono fun b h _=>h).below hbln) hbm (by have:=hz.out;unfold Hid;simpa using this) (builder_new w1)
   unfold Tree.cells at this
   simp only [hmm.out] at this
   rw [hsh.out] at this
   exact this
  have hss:Hid (w.heap.size<=w1.heap.size):=hB1.out.size
  clear hbln
  go_wp2_with fail
  refine hsw.out.mono ?_
  rintro e w2 ⟨rfl,hB2,_,hb2⟩
  have hB2':=hdZ (hBn.out.trans (hB2.mono hss.out))
  have hsz2:=hdZ hB2.size
  have hb2':=hdZ hb2
  clear hB2 hb2 hsw x0 x1 x2 x3 x4 x5 xlt
  go_wp2_with fail
  refine (Tryz.Builder_String_any_k w1.heap.size w1.heap.size sh w2 hb2'.out (Nat.le_trans (by simp) hsz2.out)).mono ?_
  rintro e w3 ⟨rfl,_,hB3,_⟩
  go_wp2_with fail
  go_ret
  exact ⟨by rw [hres.out];rfl,hB2'.out.trans (hB3.mono hss.out)⟩
end Go.Proofs.YtdjmckjbibfecaaGreatDoor.Sh

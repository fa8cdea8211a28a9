import Derived.BigRegion
import Derived.Test.YtdjmckjbibfecaaGreatDoorQJ
namespace Go.Proofs.YtdjmckjbibfecaaGreatDoor.Sh
open Go Go.RowKit Go.BigFrame Go.Maps
set_option maxRecDepth 100000
set_option maxHeartbeats 3200000
theorem drop_head {s:ByteArray} {k:Nat} (h:k<s.size):s.data.toList.drop k=s[k]::s.data.toList.drop (k+1):=drop_byte h
theorem drop_drop2 (s:ByteArray) (k m:Nat):(s.data.toList.drop k).drop m=s.data.toList.drop (k+m):=by rw [List.drop_drop]
theorem one_small {s:ByteArray} {k:Nat} (h:k<s.size) (hc:smallB s[k]=true) :
  oneM (s.data.toList.drop k)=if (rankM ((s.extract k (endP smallB s k)).data.toList)).2=0 then .ok ((rankM ((s.extract k (endP smallB s k)).data.toList)).1,(s.extract k (endP smallB s k)).data.toList,endP smallB s k-k) else .error (rankM ((s.extract k (endP smallB s k)).data.toList)).2:=by
 rw [extract_run,drop_head h,oneM,if_pos hc,<-drop_head h]
 have:endP smallB s k-k=((s.data.toList.drop k).takeWhile smallB).length:=by unfold endP;omega
 rw [this]
theorem one_large {s:ByteArray} {k:Nat} (h:k<s.size) (hs:smallB s[k]=false) (hc:largeB s[k]=true) :
  oneM (s.data.toList.drop k)=if endP largeB s k-k=3 then .ok (4,(s.extract k (endP largeB s k)).data.toList,3) else .error 2:=by
 have e:endP largeB s k-k=((s.data.toList.drop k).takeWhile largeB).length:=by unfold endP;omega
 rw [extract_run,e,drop_head h,oneM,if_neg (by rw [hs];simp),if_pos hc]
theorem one_quote_yes {s:ByteArray} {k j:Nat} (h:k<s.size) (hc:s[k]=34) (hj:endP plainB s (k+1)=j) (hlt:j<s.size) (hq:s[j]=34) :
  oneM (s.data.toList.drop k)=.ok (3,(s.extract (k+1) j).data.toList,j+1-k):=by
 have hge:=end_ge plainB s (k+1)
 have e:((s.data.toList.drop (k+1)).takeWhile plainB).length=j-(k+1):=by rw [<-hj];unfold endP;omega
 rw [<-hj,extract_run,hj,drop_head h,oneM,if_neg (by rw [hc];decide),if_neg (by rw [hc];decide),if_pos hc,e,drop_drop2,show k+1+(j-(k+1))=j by omega,drop_head hlt,hq,if_pos (by rfl)]
 congr 3
 omega
theorem one_quote_no {s:ByteArray} {k j:Nat} (h:k<s.size) (hc:s[k]=34) (hj:endP plainB s (k+1)=j) (hq:∀hlt:j<s.size,s[j]≠34):oneM (s.data.toList.drop k)=.error 2:=by
 have hge:=end_ge plainB s (k+1)
 have e:((s.data.toList.drop (k+1)).takeWhile plainB).length=j-(k+1):=by rw [<-hj];unfold endP;omega
 rw [drop_head h,oneM,if_neg (by rw [hc];decide),if_neg (by rw [hc];decide),if_pos hc,e,drop_drop2,show k+1+(j-(k+1))=j by omega,if_neg]
 intro hh
 by_cases hlt:j<s.size
 ·rw [drop_head hlt] at hh
  exact hq hlt (Option.some.inj hh)
 ·rw [List.drop_eq_nil_of_le (by simp;omega)] at hh
  cases hh
theorem one_sign {s:ByteArray} {k:Nat} (h:k<s.size) (h1:smallB s[k]=false) (h2:largeB s[k]=false) (h3:s[k]≠34) :
  oneM (s.data.toList.drop k)=match signN s[k] (s.data.toList[k+1]?) with | some m=>.ok (5,(s.extract k (k+m)).data.toList,m) | none=>.error 2:=by
 have hd:(s.data.toList.drop (k+1)).head?=s.data.toList[k+1]?:=by rw [List.head?_drop]
 rw [drop_head h,oneM,if_neg (by rw [h1];simp),if_neg (by rw [h2];simp),if_neg h3,hd]
 change (if s[k]=60\/s[k]=62 then _ else if oneSigns.contains s[k]=true then _ else _)=_
 unfold signN
 by_cases ho:oneSigns.contains s[k]=true
 ·have hne:¬(s[k]=60\/s[k]=62):=by
   rintro (e | e)<;>rw [e] at ho<;>revert ho<;>decide
  rw [if_neg hne,if_pos ho,if_pos ho]
  simp only
  rw [extract_list,drop_head h]
  simp
 ·simp only [if_neg ho]
  by_cases hg:s[k]=60\/s[k]=62
  ·rw [if_pos hg]
   by_cases hn:s.data.toList[k+1]?=some 61
   ·rw [if_pos hn,if_pos ⟨hg,hn⟩]
    simp only
    rw [extract_list,drop_head h]
    have hk1:k+1<s.size:=by have:=(gsZ.1 hn).1;simpa using this
    have h61:s[k+1]=61:=by rw [next_byte hk1] at hn;exact Option.some.inj hn
    rw [drop_head hk1,h61]
    simp
   ·rw [if_neg hn,if_neg (fun h=>hn h.2)]
  ·rw [if_neg hg,if_neg (fun h=>hg h.1)]
theorem Env.low {w w':World} (h:Env w) (hb:Below 12 w w'):Env w':=by
 have hs:=h.size
 have hc:∀b n,b<12->w'.cell? ⟨b,n,none⟩=w.cell? ⟨b,n,none⟩:=fun b n hn=>hb.cell hn
 refine ⟨var?_below hb (g:=8) (by kernel_rfl) (by omega) h.tab,?_,fun n hn=>?_,fun n hn=>?_,Nat.le_trans hs hb.size⟩
 ·obtain ⟨m,hm⟩:=h.most
  exact ⟨m,by rw [hc _ _ (by omega)];exact hm⟩
 ·rw [hc _ _ (by omega)];exact h.papers n hn
 ·rw [hc _ _ (by omega)];exact h.words n hn
theorem Env.but {w w':World} {z:Nat} (h:Env w) (hb:But z w w') (hz:12<=z):Env w':=h.low (hb.to_below (Below.refl 12 w) hz h.size)
theorem next_any (s:ByteArray) (k sb:Nat) (w:World) (hk:k<s.size) (hs:s.size<=maxLen) (hb:Hid (ScanAt w sb s k)) (he:Hid (Env w)) (h8:12<=sb) :
  Calls Tryz.prog 228 #[.pointer (some ⟨sb,0,none⟩)] w fun e w'=>But sb w w' /\
   ((∃kd tx n,oneM (s.data.toList.drop k)=.ok (kd,tx,n)/\0<n/\k+n<=s.size/\e=.returned (.tuple #[.agg (tokC kd k ⟨tx.toArray⟩),.int .i64 0])/\ScanAt w' sb s (k+n)) \/
    (∃cd a b t,oneM (s.data.toList.drop k)=.error cd/\cd≠0/\e=.returned (.tuple #[.agg #[.int .i64 a,.int .i64 b,.string t],.int .i64 cd]))):=by
 have hs':=hdZ hs
 unfold maxLen at hs
 have hsb:=hb.out.lt
 have hne:sb≠w.heap.size:=by omega
 obtain ⟨c0,c1⟩:=cs2 hb.out
 have i1:(k:Int)<(s.size:Int):=by omega
 have i2:(0:Int)<=(k:Int):=by omega
 have hbA:Hid (ScanAt (w.alloc (.cells #[.int .i64 0,.int .i64 0,.string ⟨#[]⟩] 212)) sb s k):=hb.out.alloc _
 have huA:Hid (But sb w (w.alloc (.cells #[.int .i64 0,.int .i64 0,.string ⟨#[]⟩] 212))):=(But.refl sb w).below ((Below.refl _ w).alloc leZ _)
 have hrA:Hid (Blk (w.alloc (.cells #[.int .i64 0,.int .i64 0,.string ⟨#[]⟩] 212)) w.heap.size 212 #[.int .i64 0,.int .i64 0,.string ⟨#[]⟩]):=Blk.new w 212 #[.int .i64 0,.int .i64 0,.string ⟨#[]⟩]
 cases h1:smallB s[k] with
 | true =>
  have h1':=hdZ h1
  have hone:=hdZ (one_small hk h1)
  clear h1
  go_enter Tryz.func228,Tryz.ntmps228
  go_wp2_with fail
  refine (isSmall_any s[k] _).mono ?_
  rintro e w1 ⟨rfl,rfl⟩
  rw [h1'.out]
  go_wp2_with fail
  obtain ⟨wa,hwa⟩:=nmZ (w.alloc (.cells #[.int .i64 0,.int .i64 0,.string ⟨#[]⟩] 212))
  rw [hwa.out] at hbA huA hrA ⊢
  clear hwa c0 c1
  refine (run108_any s k sb wa (by omega) hs'.out hbA).mono ?_
  rintro e w2 ⟨rfl,hu2,hb2⟩
  have hB2:Hid (But sb w w2):=huA.out.trans hu2
  have hr2:Hid (Blk w2 w.heap.size 212 #[.int .i64 0,.int .i64 0,.string ⟨#[]⟩]):=hu2.blk hrA.out (by omega)
  have hb2':=hdZ hb2
  have he2:Hid (Env w2):=he.out.but hB2.out h8
  obtain ⟨j,hj⟩:=nmZ (endP smallB s k)
  have hjle:j<=s.size:=by rw [<-hj.out];exact end_le (by omega)
  have hjk:k+1<=j:=by rw [<-hj.out,end_yes hk h1'.out];exact end_ge _ _ _
  have hall:Hid ((s.extract k j).data.toList.all smallB=true):=by
   unfold Hid;rw [<-hj.out,extract_run];exact List.all_takeWhile
  rw [hj.out] at hb2' hone ⊢
  have hxs:(s.extract k j).size=j-k:=by simp;omega
  obtain ⟨x,hx⟩:=nmZ (s.extract k j)
  rw [hx.out] at hall hone hxs ⊢
  clear hu2 hb2
  go_wp2_with fail
  refine (ranked_any x w2 (by rw [hxs];have:=hs'.out;omega) (by omega) hall he2).mono ?_
  rintro e w3 ⟨rfl,hb3⟩
  have hB3:Hid (But sb w w3):=hB2.out.below hb3
  have hr3:Hid (Blk w3 w.heap.size 212 #[.int .i64 0,.int .i64 0,.string ⟨#[]⟩]):=hr2.out.below hb3 hr2.out.lt
  have hb3':Hid (ScanAt w3 sb s j):=hb2'.out.below hb3 hb2'.out.lt
  obtain ⟨⟨rk,rc⟩,hrk⟩:∃r,Hid (rankM x.data.toList=r):=⟨_,hdZ rfl⟩
  rw [hrk.out] at hone ⊢
  clear hb3 hb2' hr2 he2 hall
  go_wp2_with fail
  obtain ⟨d0,d1⟩:=cs2 hb3'.out
  have f0:=hr3.out.frozen 0
  have f1:=hr3.out.frozen 1
  have f2:=hr3.out.frozen 2
  obtain ⟨r0,r1,r2⟩:=cs3 hr3.out
  have i3:(j:Int)<=(s.size:Int):=by omega
  have i4:(k:Int)<=(j:Int):=by omega
  go_region
  all_goals
   go_wp2_with fail
   refine bodyPost_ret (results_row_tmp rfl _ _ w.heap.size 212 _ _ rfl (Blk.drew (((hr3.out.set_ 0 _).set_ 1 _).set_ 2 _)) Tryz.underlying212 rfl (by kernel_rfl)) rfl ?_
   refine ⟨But.drew (((hB3.out.far leZ _ _).far leZ _ _).far leZ _ _),?_⟩
   by_cases hc:rc=0
   ·subst hc
    refine .inl ⟨rk,x.data.toList,j-k,by rw [hone.out,if_pos rfl],by omega,by omega,by rw [hx.out];rfl,?_⟩
    rw [show k+(j-k)=j by omega]
    refine Blk.drew ?_
    exact ((hb3'.out.far (p:=⟨w.heap.size,0,none⟩) hne _).far (p:=⟨w.heap.size,1,none⟩) hne _).far (p:=⟨w.heap.size,2,none⟩) hne _
   ·exact .inr ⟨rc,rk,k,x,by rw [hone.out,if_neg hc],hc,by rw [hx.out];rfl⟩
 | false =>
  have h1':=hdZ h1
  cases h2:largeB s[k] with
  | true =>
   have h2':=hdZ h2
   have hone:=hdZ (one_large hk h1 h2)
   clear h1 h2
   go_enter Tryz.func228,Tryz.ntmps228
   go_wp2_with fail
   refine (isSmall_any s[k] _).mono ?_
   rintro e w1 ⟨rfl,rfl⟩
   rw [h1'.out]
   go_wp2_with fail
   refine (isLarge_any s[k] _).mono ?_
   rintro e w1 ⟨rfl,rfl⟩
   rw [h2'.out]
   go_wp2_with fail
   obtain ⟨wa,hwa⟩:=nmZ (w.alloc (.cells #[.int .i64 0,.int .i64 0,.string ⟨#[]⟩] 212))
   rw [hwa.out] at hbA huA hrA ⊢
   clear hwa c0 c1
   refine (run110_any s k sb wa (by omega) hs'.out hbA).mono ?_
   rintro e w2 ⟨rfl,hu2,hb2⟩
   have hB2:Hid (But sb w w2):=huA.out.trans hu2
   have hr2:Hid (Blk w2 w.heap.size 212 #[.int .i64 0,.int .i64 0,.string ⟨#[]⟩]):=hu2.blk hrA.out (by omega)
   have hb2':=hdZ hb2
   obtain ⟨j,hj⟩:=nmZ (endP largeB s k)
   have hjle:j<=s.size:=by rw [<-hj.out];exact end_le (by omega)
   have hjk:k+1<=j:=by rw [<-hj.out,end_yes hk h2'.out];exact end_ge _ _ _
   rw [hj.out] at hb2' hone ⊢
   have hxs:(s.extract k j).size=j-k:=by simp;omega
   obtain ⟨x,hx⟩:=nmZ (s.extract k j)
   rw [hx.out] at hone hxs ⊢
   clear hu2 hb2
   have f0:=hr2.out.frozen 0
   have f1:=hr2.out.frozen 1
   have f2:=hr2.out.frozen 2
   obtain ⟨r0,r1,r2⟩:=cs3 hr2.out
   by_cases h3:j-k=3
   ·have b1:((x.size:Int) != 3)=false:=by simp;omega
    go_wp2_with fail
    refine bodyPost_ret (results_row_tmp rfl _ _ w.heap.size 212 _ _ rfl (((hr2.out.set_ 0 _).set_ 1 _).set_ 2 _) Tryz.underlying212 rfl (by kernel_rfl)) rfl ?_
    refine ⟨((hB2.out.far leZ _ _).far leZ _ _).far leZ _ _,.inl ⟨4,x.data.toList,3,by rw [hone.out,if_pos h3],by omega,by omega,rfl,?_⟩⟩
    rw [show k+3=j by omega]
    exact ((hb2'.out.far (p:=⟨w.heap.size,0,none⟩) hne _).far (p:=⟨w.heap.size,1,none⟩) hne _).far (p:=⟨w.heap.size,2,none⟩) hne _
   ·have b1:((x.size:Int) != 3)=true:=by simp only [bne_iff_ne,ne_eq];omega
    go_wp2_with fail
    refine bodyPost_ret (results_row_tmp rfl _ _ w.heap.size 212 _ _ rfl (((hr2.out.set_ 0 _).set_ 1 _).set_ 2 _) Tryz.underlying212 rfl (by kernel_rfl)) rfl ?_
    exact ⟨((hB2.out.far leZ _ _).far leZ _ _).far leZ _ _,.inr ⟨2,0,0,⟨#[]⟩,by rw [hone.out,if_neg h3],by decide,rfl⟩⟩
  | false =>
   have h2':=hdZ h2
   by_cases h3:s[k]=34
   ·have q1:((s[k].toNat:Int)==34)=true:=by rw [h3];rfl
    have h3':=hdZ h3
    clear h1 h2 h3
    go_enter Tryz.func228,Tryz.ntmps228
    go_wp2_with fail
    refine (isSmall_any s[k] _).mono ?_
    rintro e w1 ⟨rfl,rfl⟩
    rw [h1'.out]
    go_wp2_with fail
    refine (isLarge_any s[k] _).mono ?_
    rintro e w1 ⟨rfl,rfl⟩
    rw [h2'.out]
    go_wp2_with fail
    obtain ⟨wa,hwa⟩:=nmZ (w.alloc (.cells #[.int .i64 0,.int .i64 0,.string ⟨#[]⟩] 212))
    rw [hwa.out] at hbA huA hrA ⊢
    clear hwa c0 c1
    refine (quoted_any s k sb wa hk hs'.out hbA).mono ?_
    rintro e w2 ⟨j,hj,hu2,hcase⟩
    have hB2:Hid (But sb w w2):=huA.out.trans hu2
    have hr2:Hid (Blk w2 w.heap.size 212 #[.int .i64 0,.int .i64 0,.string ⟨#[]⟩]):=hu2.blk hrA.out (by omega)
    have hjk:k+1<=j:=by rw [<-hj];exact end_ge _ _ _
    have f0:=hr2.out.frozen 0
    have f1:=hr2.out.frozen 1
    have f2:=hr2.out.frozen 2
    obtain ⟨r0,r1,r2⟩:=cs3 hr2.out
    rcases hcase with ⟨hlt,hq,rfl,hb2⟩ | ⟨hq,rfl⟩
    ·have hone:=hdZ (one_quote_yes hk h3'.out hj hlt hq)
     have hb2':=hdZ hb2
     clear hu2 hb2 hq hj
     unfold tokC
     go_wp2_with fail
     refine bodyPost_ret (results_row_tmp rfl _ _ w.heap.size 212 _ _ rfl (((hr2.out.set_ 0 _).set_ 1 _).set_ 2 _) Tryz.underlying212 rfl (by kernel_rfl)) rfl ?_
     refine ⟨((hB2.out.far leZ _ _).far leZ _ _).far leZ _ _,.inl ⟨3,_,j+1-k,hone.out,by omega,by omega,rfl,?_⟩⟩
     rw [show k+(j+1-k)=j+1 by omega]
     exact ((hb2'.out.far (p:=⟨w.heap.size,0,none⟩) hne _).far (p:=⟨w.heap.size,1,none⟩) hne _).far (p:=⟨w.heap.size,2,none⟩) hne _
    ·have hone:=hdZ (one_quote_no hk h3'.out hj hq)
     clear hu2 hq hj
     unfold noTok
     go_wp2_with fail
     refine bodyPost_ret (results_row_tmp rfl _ _ w.heap.size 212 _ _ rfl (((hr2.out.set_ 0 _).set_ 1 _).set_ 2 _) Tryz.underlying212 rfl (by kernel_rfl)) rfl ?_
     exact ⟨((hB2.out.far leZ _ _).far leZ _ _).far leZ _ _,.inr ⟨2,0,0,⟨#[]⟩,hone.out,by decide,rfl⟩⟩
   ·have q1:((s[k].toNat:Int)==34)=false:=byte_no (n:=34) (by omega) h3
    have hone:=hdZ (one_sign hk h1 h2 h3)
    clear h1 h2 h3
    go_enter Tryz.func228,Tryz.ntmps228
    go_wp2_with fail
    refine (isSmall_any s[k] _).mono ?_
    rintro e w1 ⟨rfl,rfl⟩
    rw [h1'.out]
    go_wp2_with fail
    refine (isLarge_any s[k] _).mono ?_
    rintro e w1 ⟨rfl,rfl⟩
    rw [h2'.out]
    go_wp2_with fail
    obtain ⟨wa,hwa⟩:=nmZ (w.alloc (.cells #[.int .i64 0,.int .i64 0,.string ⟨#[]⟩] 212))
    rw [hwa.out] at hbA huA hrA ⊢
    clear hwa c0 c1
    refine (sign_any s k sb wa hk hs'.out hbA).mono ?_
    rintro e w2 ⟨hu2,hcase⟩
    have hB2:Hid (But sb w w2):=huA.out.trans hu2
    have hr2:Hid (Blk w2 w.heap.size 212 #[.int .i64 0,.int .i64 0,.string ⟨#[]⟩]):=hu2.blk hrA.out (by omega)
    have f0:=hr2.out.frozen 0
    have f1:=hr2.out.frozen 1
    have f2:=hr2.out.frozen 2
    obtain ⟨r0,r1,r2⟩:=cs3 hr2.out
    rcases hcase with ⟨m,hsn,hle,rfl,hb2⟩ | ⟨hsn,rfl⟩
    ·rw [hsn] at hone
     have hm:0<m:=by
      unfold signN at hsn
      split at hsn
      ·cases hsn;omega
      ·split at hsn
       ·cases hsn;omega
       ·cases hsn
     have hb2':=hdZ hb2
     clear hu2 hb2 hsn
     unfold tokC
     go_wp2_with fail
     refine bodyPost_ret (results_row_tmp rfl _ _ w.heap.size 212 _ _ rfl (((hr2.out.set_ 0 _).set_ 1 _).set_ 2 _) Tryz.underlying212 rfl (by kernel_rfl)) rfl ?_
     refine ⟨((hB2.out.far leZ _ _).far leZ _ _).far leZ _ _,.inl ⟨5,_,m,hone.out,hm,hle,rfl,?_⟩⟩
     exact ((hb2'.out.far (p:=⟨w.heap.size,0,none⟩) hne _).far (p:=⟨w.heap.size,1,none⟩) hne _).far (p:=⟨w.heap.size,2,none⟩) hne _
    ·rw [hsn] at hone
     clear hu2 hsn
     unfold noTok
     go_wp2_with fail
     refine bodyPost_ret (results_row_tmp rfl _ _ w.heap.size 212 _ _ rfl (((hr2.out.set_ 0 _).set_ 1 _).set_ 2 _) Tryz.underlying212 rfl (by kernel_rfl)) rfl ?_
     exact ⟨((hB2.out.far leZ _ _).far leZ _ _).far leZ _ _,.inr ⟨2,0,0,⟨#[]⟩,hone.out,by decide,rfl⟩⟩
theorem dropWhile_take (p:UInt8->Bool):∀l:Txt,l.dropWhile p=l.drop (l.takeWhile p).length
 | []=>rfl
 | c::l=>by
  rw [List.dropWhile_cons,List.takeWhile_cons]
  cases h:p c with
  | true=>simp [dropWhile_take p l]
  | false=>simp
theorem skip_drop (s:ByteArray) (k:Nat):(s.data.toList.drop k).dropWhile blankB=s.data.toList.drop (endP blankB s k):=by
 rw [dropWhile_take,List.drop_drop];rfl
theorem skip_len (s:ByteArray) (k:Nat):k+((s.data.toList.drop k).takeWhile blankB).length=endP blankB s k:=rfl
theorem scan_end {s:ByteArray} {k j n f:Nat} (hj:endP blankB s k=j) (h:s.size<=j):scanM (f+1) n k (s.data.toList.drop k)=.ok []:=by
 rw [scanM,if_pos]
 rw [skip_drop,hj]
 exact List.drop_eq_nil_of_le (by simpa using h)
theorem skip_more {s:ByteArray} {k j:Nat} (hj:endP blankB s k=j) (h:j<s.size):¬(s.data.toList.drop k).dropWhile blankB=[]:=by
 rw [skip_drop,hj,drop_head h];simp
theorem scan_full {s:ByteArray} {k j n f:Nat} (hj:endP blankB s k=j) (h:j<s.size) (hn:4096<=n):scanM (f+1) n k (s.data.toList.drop k)=.error (j,7):=by
 rw [scanM,if_neg (skip_more hj h),if_pos hn,skip_len,hj]
theorem scan_bad {s:ByteArray} {k j n f:Nat} {cd:Int} (hj:endP blankB s k=j) (h:j<s.size) (hn:n<4096) (ho:oneM (s.data.toList.drop j)=.error cd):scanM (f+1) n k (s.data.toList.drop k)=.error (j,cd):=by
 rw [scanM,if_neg (skip_more hj h),if_neg (by omega),skip_drop,hj,ho]
 simp only [skip_len,hj]
theorem scan_good {s:ByteArray} {k j n f m:Nat} {kd:Int} {t:Txt} (hj:endP blankB s k=j) (h:j<s.size) (hn:n<4096) (ho:oneM (s.data.toList.drop j)=.ok (kd,t,m)) :
  scanM (f+1) n k (s.data.toList.drop k)=match scanM f (n+1) (j+m) (s.data.toList.drop (j+m)) with | .error e=>.error e | .ok l=>.ok (⟨kd,j,t⟩::l):=by
 rw [scanM,if_neg (skip_more hj h),if_neg (by omega),skip_drop,hj,ho]
 simp only [skip_len,hj,List.drop_drop]
 rfl
def preX (l:List Tok) (r:Except (Nat × Int) (List Tok)):Except (Nat × Int) (List Tok):=match r with
 | .error e=>.error e
 | .ok m=>.ok (l++m)
theorem preX_cons (l:List Tok) (x:Tok) (r:Except (Nat × Int) (List Tok)):preX l (match r with | .error e=>.error e | .ok l=>.ok (x::l))=preX (l++[x]) r:=by
 cases r with
 | error e=>rfl
 | ok m=>simp [preX]
def Tok.cells (t:Tok):Array Value:=tokC t.kind t.place ⟨t.text.toArray⟩
def tokL (l:List Tok):List Value:=l.flatMap fun t=>t.cells.toList
theorem tokL_snoc (l:List Tok) (x:Tok):tokL (l++[x])=tokL l++x.cells.toList:=by simp [tokL]
theorem tokC_one (kd:Int) (k:Int) (t:ByteArray):∀u∈(#[.int .i64 kd,.int .i64 k,.string t]:Array Value).toList,u.oneCell'=true:=by
 intro u hu
 simp at hu
 rcases hu with rfl | rfl | rfl<;>rfl
theorem own_but {w w':World} {B z:Nat} {e:TypeId} {size n:Nat} {v:Value} {xs:List Value} (h:w.ownsRow B e size v n xs) (hb:But z w w') (hz:z<B):w'.ownsRow B e size v n xs:=by
 obtain ⟨h1,h0 | ⟨g,cap,cur,hv,hg,hh,r⟩⟩:=h
 ·exact ⟨h1,.inl h0⟩
 ·have hlt:g<w.heap.size:=by
   rcases Nat.lt_or_ge g w.heap.size with h | h
   ·exact h
   ·rw [Array.getElem?_eq_none h] at hh;cases hh
  exact ⟨h1,.inr ⟨g,cap,cur,hv,hg,(hb.block g hlt (by omega)).trans hh,r⟩⟩
theorem own_slice {w:World} {B:Nat} {e:TypeId} {size n:Nat} {v:Value} {xs:List Value} (h:w.ownsRow B e size v n xs):∃p c,v=.slice p n c:=by
 obtain ⟨h1,⟨rfl,rfl⟩ | ⟨g,cap,cur,hv,hg,hh,r⟩⟩:=h
 ·exact ⟨_,_,rfl⟩
 ·exact ⟨_,_,hv⟩
theorem own_empty {w:World} {B:Nat} {e:TypeId} {size:Nat}:w.ownsRow B e size (.slice none 0 0) 0 []:=⟨by simp,.inl ⟨rfl,rfl⟩⟩
theorem scan_any (s:ByteArray) (w:World) (hs:s.size<=maxLen) (he:Hid (Env w)) :
  Calls Tryz.prog 204 #[.string s] w fun e w'=>Bz w w' /\
   ((∃l v,scanT s.data.toList=.ok l/\e=.returned (.tuple #[v,.int .i64 s.size,.int .i64 0])/\l.length<=4096/\w'.ownsRow (w.heap.size+1) 212 3 v l.length (tokL l)) \/
    (∃k cd,scanT s.data.toList=.error (k,cd)/\cd≠0/\e=.returned (.tuple #[.slice none 0 0,.int .i64 (k:Nat),.int .i64 cd]))):=by
 have hs':=hdZ hs
 unfold maxLen at hs
 have h8:=he.out.size
 obtain ⟨i0,hi,hz0,hz1,hz2⟩:=info_parts (P:=Tryz.prog) (e:=212) (z:=.agg #[.int .i64 0,.int .i64 0,.string ⟨#[]⟩]) (size:=3) (bytes:=32) (by kernel_rfl)
 go_enter Tryz.func204,Tryz.ntmps204
 go_wp2_with fail
 have hb0:Hid (ScanAt (w.alloc (.cells #[.string s,.int .i64 0] 231)) w.heap.size s 0):=Blk.new w 231 #[.string s,.int .i64 0]
 have hB0:Hid (Bz w (w.alloc (.cells #[.string s,.int .i64 0] 231))):=(Below.refl _ w).alloc leZ _
 obtain ⟨wa,hwa⟩:=nmZ (w.alloc (.cells #[.string s,.int .i64 0] 231))
 have hsa:Hid (wa.heap.size=w.heap.size+1):=by unfold Hid;rw [<-hwa.out];simp
 rw [hwa.out] at hb0 hB0 ⊢
 clear hwa
 go_loopg [5,7,8,9] (s.size+1) (fun gg v _ _ _ wr=>∃(l:List Tok) (k f:Nat),k<=s.size/\gg=s.size+1-k/\s.size-k<f/\l.length<=4096/\Hid (scanT s.data.toList=preX l (scanM f l.length k (s.data.toList.drop k)))/\Hid (wr.ownsRow (w.heap.size+1) 212 3 v l.length (tokL l))/\Hid (ScanAt wr w.heap.size s k)/\Hid (Bz w wr)/\Hid (w.heap.size+1<=wr.heap.size))
 case atStart=>
  refine ⟨[],0,s.size+1,by omega,by omega,by omega,by simp,?_,own_empty,hb0,hB0,by have:=hsa.out;unfold Hid;omega⟩
  unfold Hid scanT
  rw [List.drop_zero,show s.data.toList.length=s.size by simp]
  show _=preX [] (scanM (s.size+1) 0 0 s.data.toList)
  cases scanM (s.size+1) 0 0 s.data.toList<;>rfl
 case round =>
  obtain ⟨l,k,f,hk,hgg,hf,hl,hsc,hown,hbr,hBr,hsz⟩:=hrel
  have hgg':=hdZ hgg
  clear hgg
  obtain ⟨f,rfl⟩:∃f',f=f'+1:=⟨f-1,by omega⟩
  obtain ⟨j,hj⟩:=nmZ (endP blankB s k)
  have hjle:j<=s.size:=by rw [<-hj.out];exact end_le hk
  have hjk:k<=j:=by rw [<-hj.out];exact end_ge _ _ _
  go_wp2_with fail
  refine (run63_any s k w.heap.size wr hk hs'.out hbr).mono ?_
  rintro e w2 ⟨rfl,hu2,hb2⟩
  rw [hj.out] at hb2
  try rw [hj.out]
  have hb2':=hdZ hb2
  have hown2:=hdZ (own_but hown.out hu2 (by omega))
  have hB2:Hid (Bz w w2):=hu2.to_below hBr.out leZ (by have:=hsz.out;omega)
  have hsz2:Hid (w.heap.size+1<=w2.heap.size):=Nat.le_trans hsz.out hu2.size
  clear hu2 hb2 hown hbr hBr hsz
  have d1:w2.cell? ⟨w.heap.size,1,none⟩=some (.int .i64 j):=hb2'.out.cell 1
  obtain ⟨p,c,rfl⟩:=own_slice hown2.out
  by_cases hlt:j<s.size
  ·have b1:decide ((s.size:Int)<=(j:Int))=false:=by simp;omega
   by_cases hfull:4096<=l.length
   ·have b2:decide ((4096:Int)<=(l.length:Int))=true:=by simp;omega
    have hst:=hdZ (scan_full (f:=f) hj.out hlt hfull)
    go_wp2_with fail
    go_ret3
    exact ⟨hB2.out,.inr ⟨j,7,by rw [hsc.out,hst.out];rfl,by decide,rfl⟩⟩
   ·have b2:decide ((4096:Int)<=(l.length:Int))=false:=by simp;omega
    have he2:=hdZ (he.out.below hB2.out)
    go_wp2_with fail
    clear d1
    refine (next_any s j w.heap.size w2 hlt hs'.out hb2' he2 (by omega)).mono ?_
    rintro e w3 ⟨hu3,hcase⟩
    have hown3:=hdZ (own_but hown2.out hu3 (by omega))
    have hB3:Hid (Bz w w3):=hu3.to_below hB2.out leZ (by have:=hsz2.out;omega)
    have hsz3:Hid (w.heap.size+1<=w3.heap.size):=Nat.le_trans hsz2.out hu3.size
    rcases hcase with ⟨kd,tx,m,hone,hm,hle,rfl,hb3⟩ | ⟨cd,a,b,t,hone,hcd,rfl⟩
    ·have hst:=hdZ (scan_good (f:=f) (n:=l.length) hj.out hlt (by omega) hone)
     have hb3':=hdZ hb3
     have hq1:Hid (l.length+1<=maxLen):=by unfold Hid maxLen;omega
     have hq2:Hid ((l.length+1)*32<=140737488355328):=by unfold Hid;omega
     clear hu3 hb3 hone hown2 hB2 he2 hb2'
     unfold tokC
     go_wp2_with (at_builtin;go_must (refine wpList_app3 (w.heap.size+1) rfl (.tmp 42) (.tmp 44) 207 rfl 212 i0 _ 3 32 Tryz.underlying207 hi hz0 hz1 hz2 rfl (by decide) _ l.length (tokL l) rfl (w3.heap.size+1) 1 #[.int .i64 kd,.int .i64 j,.string ⟨tx.toArray⟩] rfl ((hown3.out.alloc _).alloc _) (blk_second w3 _ 212 _) rfl (tokC_one _ _ _) hq1.out hq2.out (Nat.le_trans hsz3.out (by simp;omega)) ?_);intro v5 w5 ho5 hb5 hg5)
     have hB5:Hid (Bz w w5):=((hB3.out.alloc hB3.out.size _).alloc (by have:=hB3.out.size;simp;omega) _).trans (hb5.mono (Nat.le_succ _))
     have hb5':Hid (ScanAt w5 w.heap.size s (j+m)):=((hb3'.out.alloc _).alloc _).grown hg5 (fun h=>own_blk_ne ((hown3.out.alloc (.cells #[.int .i64 kd,.int .i64 j,.string ⟨tx.toArray⟩] 212)).alloc (.cells #[.int .i64 kd,.int .i64 j,.string ⟨tx.toArray⟩] 212)) ((hb3'.out.alloc _).alloc _) (by decide) h.symm)
     have ho5':=hdZ ho5
     have hsz5:Hid (w.heap.size+1<=w5.heap.size):=by
      have h1:=hsz3.out
      have h2:=hb5.size
      simp at h2
      unfold Hid;omega
     clear ho5 hg5 hb5
     go_roundg (s.size+1-(j+m))
     case measure=>have:=hgg'.out;omega
     case rel =>
      refine ⟨l++[⟨kd,j,tx⟩],j+m,f,hle,rfl,by omega,by simp;omega,?_,?_,hb5',hB5,hsz5⟩
      ·rw [hsc.out,hst.out,List.length_append,List.length_singleton]
       exact preX_cons _ _ _
      ·rw [tokL_snoc,List.length_append,List.length_singleton]
       exact ho5'.out
    ·have hst:=hdZ (scan_bad (f:=f) (n:=l.length) hj.out hlt (by omega) hone)
     have b3:(cd != 0)=true:=by simp [hcd]
     clear hu3 hone
     go_wp2_with fail
     go_ret3
     exact ⟨hB3.out.alloc hB3.out.size _,.inr ⟨j,cd,by rw [hsc.out,hst.out];rfl,hcd,rfl⟩⟩
  ·have b1:decide ((s.size:Int)<=(j:Int))=true:=by simp;omega
   have hst:=hdZ (scan_end (f:=f) (n:=l.length) hj.out (by omega))
   go_wp2_with fail
   go_ret3
   exact ⟨hB2.out,.inl ⟨l,_,by rw [hsc.out,hst.out];simp [preX],rfl,hl,hown2.out⟩⟩
end Go.Proofs.YtdjmckjbibfecaaGreatDoor.Sh

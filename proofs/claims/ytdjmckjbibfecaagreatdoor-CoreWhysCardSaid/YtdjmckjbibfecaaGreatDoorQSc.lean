import Derived.Test.YtdjmckjbibfecaaGreatDoorQSb
namespace Go.Proofs.YtdjmckjbibfecaaGreatDoor.Sh
open Go Go.RowKit Go.BigFrame Go.Maps
set_option maxRecDepth 100000
set_option maxHeartbeats 3200000
theorem large_parts {c:UInt8} (h:largeB c=true):decide (65<=(c.toNat:Int))=true/\decide ((c.toNat:Int)<=90)=true:=by
 rw [large_eq,Bool.and_eq_true] at h;exact h
theorem rone_large (s:ByteArray) (k:Nat) (w:World) (hk:k<s.size) (hs:s.size<=maxLen) (h1:Hid (smallB s[k]=false)) (h2:Hid (largeB s[k]=true)):Calls Tryz.prog 229 #[.string s,.int .i64 k] w (OneOut w s k):=by
 unfold maxLen at hs
 have hT:Hid (Blk (w.alloc (.cells #[.int .i64 0,.int .i64 0,.string ⟨#[]⟩] 212)) w.heap.size 212 #[.int .i64 0,.int .i64 0,.string ⟨#[]⟩]):=Blk.new w 212 _
 have hB:Hid (Bz w (w.alloc (.cells #[.int .i64 0,.int .i64 0,.string ⟨#[]⟩] 212))):=(Below.refl _ w).alloc leZ _
 have i1:(k:Int)<(s.size:Int):=by omega
 have i2:(0:Int)<=(k:Int):=by omega
 have w1:IntKind.i64.wrap ((k:Int)+1)=((k+1:Nat):Int):=by rw [IntWalk.i64_in _ (by omega)];omega
 have hone:=hdZ (one_large hk h1.out h2.out)
 obtain ⟨l1,l2⟩:=large_parts h2.out
 go_enter Tryz.func229,Tryz.ntmps229
 go_wp2_with fail
 refine (rrun_any s[k] _).mono ?_
 rintro x w1 ⟨rfl,rfl⟩
 rw [h1.out]
 obtain ⟨wa,hwa⟩:=nmZ (w.alloc (.cells #[.int .i64 0,.int .i64 0,.string ⟨#[]⟩] 212))
 rw [hwa.out] at hT hB ⊢
 clear hwa
 go_wp2_with fail
 go_loopg [8] (s.size-(k+1)) (fun gg v wr=>∃j:Nat,k+1<=j/\j<=s.size/\gg=s.size-j/\v=.int .i64 j/\Hid (endP largeB s k=endP largeB s j)/\wa=wr)
 case atStart=>exact ⟨k+1,Nat.le_refl _,hk,rfl,rfl,end_yes hk h2.out,rfl⟩
 case round =>
  clear l1 l2
  obtain ⟨j,hkj,hj,hg,rfl,he,rfl⟩:=hrel
  have hg':=hdZ hg
  clear hg
  have i4:(0:Int)<=(j:Int):=by omega
  by_cases hlt:j<s.size
  ·have hl1:decide ((j:Int)<(s.size:Int))=true:=by simp;omega
   have i3:(j:Int)<(s.size:Int):=by omega
   have w2:IntKind.i64.wrap ((j:Int)+1)=((j+1:Nat):Int):=by rw [IntWalk.i64_in _ (by omega)];omega
   have hle:=hdZ (large_eq s[j])
   cases g1:decide (65<=(s[j].toNat:Int)) with
   | false =>
    have hj':Hid (endP largeB s k=j):=by unfold Hid;rw [he.out,end_no hlt (by rw [hle.out,g1];rfl)]
    have hjle:j<=s.size:=by omega
    rw [hj'.out] at hone
    have f0:=hT.out.frozen 0
    have f1:=hT.out.frozen 1
    have f2:=hT.out.frozen 2
    obtain ⟨r0,r1,r2⟩:=cs3 hT.out
    have rlt:=hT.out.lt
    have w3:IntKind.i64.wrap ((j:Int)-(k:Int))=((j-k:Nat):Int):=by rw [IntWalk.i64_in _ (by omega)];omega
    have i5:(j:Int)<=(s.size:Int):=by omega
    have i6:(k:Int)<=(j:Int):=by omega
    by_cases h3:j-k=3
    ·rw [if_pos h3] at hone
     have b9:(((j-k:Nat):Int) != 3)=false:=by rw [h3];rfl
     go_wp2_with fail
     refine bodyPost_ret (results_row_tmp2 rfl _ _ w.heap.size 212 _ _ rfl (((hT.out.set_ 0 _).set_ 1 _).set_ 2 _) Tryz.underlying212 rfl (by kernel_rfl)) rfl ?_
     exact .ok (((hB.out.setCell leZ _).setCell leZ _).setCell leZ _) hone.out (by omega) (by omega) (by rw [show k+3=j by omega];rfl)
    ·rw [if_neg h3] at hone
     have b9:(((j-k:Nat):Int) != 3)=true:=by simp only [bne_iff_ne,ne_eq];omega
     go_wp2_with fail
     refine bodyPost_ret (results_row_tmp2 rfl _ _ w.heap.size 212 _ _ rfl (((hT.out.set_ 0 _).set_ 1 _).set_ 2 _) Tryz.underlying212 rfl (by kernel_rfl)) rfl ?_
     exact .bad (((hB.out.setCell leZ _).setCell leZ _).setCell leZ _) hone.out (by decide) rfl
   | true =>
    cases g2:decide ((s[j].toNat:Int)<=90) with
    | false =>
     have hj':Hid (endP largeB s k=j):=by unfold Hid;rw [he.out,end_no hlt (by rw [hle.out,g1,g2];rfl)]
     have hjle:j<=s.size:=by omega
     rw [hj'.out] at hone
     have f0:=hT.out.frozen 0
     have f1:=hT.out.frozen 1
     have f2:=hT.out.frozen 2
     obtain ⟨r0,r1,r2⟩:=cs3 hT.out
     have rlt:=hT.out.lt
     have w3:IntKind.i64.wrap ((j:Int)-(k:Int))=((j-k:Nat):Int):=by rw [IntWalk.i64_in _ (by omega)];omega
     have i5:(j:Int)<=(s.size:Int):=by omega
     have i6:(k:Int)<=(j:Int):=by omega
     by_cases h3:j-k=3
     ·rw [if_pos h3] at hone
      have b9:(((j-k:Nat):Int) != 3)=false:=by rw [h3];rfl
      go_wp2_with fail
      refine bodyPost_ret (results_row_tmp2 rfl _ _ w.heap.size 212 _ _ rfl (((hT.out.set_ 0 _).set_ 1 _).set_ 2 _) Tryz.underlying212 rfl (by kernel_rfl)) rfl ?_
      exact .ok (((hB.out.setCell leZ _).setCell leZ _).setCell leZ _) hone.out (by omega) (by omega) (by rw [show k+3=j by omega];rfl)
     ·rw [if_neg h3] at hone
      have b9:(((j-k:Nat):Int) != 3)=true:=by simp only [bne_iff_ne,ne_eq];omega
      go_wp2_with fail
      refine bodyPost_ret (results_row_tmp2 rfl _ _ w.heap.size 212 _ _ rfl (((hT.out.set_ 0 _).set_ 1 _).set_ 2 _) Tryz.underlying212 rfl (by kernel_rfl)) rfl ?_
      exact .bad (((hB.out.setCell leZ _).setCell leZ _).setCell leZ _) hone.out (by decide) rfl
    | true =>
     have hst:Hid (endP largeB s k=endP largeB s (j+1)):=by unfold Hid;rw [he.out,end_yes hlt (by rw [hle.out,g1,g2];rfl)]
     go_wp2_with fail
     go_roundg (s.size-(j+1))
     case measure=>have:=hg'.out;omega
     case rel=>exact ⟨j+1,by omega,hlt,rfl,rfl,hst,rfl⟩
  ·have hl1:decide ((j:Int)<(s.size:Int))=false:=by simp;omega
   have hj':Hid (endP largeB s k=j):=by unfold Hid;rw [he.out,end_end (by omega)]
   have hjle:j<=s.size:=by omega
   rw [hj'.out] at hone
   have f0:=hT.out.frozen 0
   have f1:=hT.out.frozen 1
   have f2:=hT.out.frozen 2
   obtain ⟨r0,r1,r2⟩:=cs3 hT.out
   have rlt:=hT.out.lt
   have w3:IntKind.i64.wrap ((j:Int)-(k:Int))=((j-k:Nat):Int):=by rw [IntWalk.i64_in _ (by omega)];omega
   have i5:(j:Int)<=(s.size:Int):=by omega
   have i6:(k:Int)<=(j:Int):=by omega
   by_cases h3:j-k=3
   ·rw [if_pos h3] at hone
    have b9:(((j-k:Nat):Int) != 3)=false:=by rw [h3];rfl
    go_wp2_with fail
    refine bodyPost_ret (results_row_tmp2 rfl _ _ w.heap.size 212 _ _ rfl (((hT.out.set_ 0 _).set_ 1 _).set_ 2 _) Tryz.underlying212 rfl (by kernel_rfl)) rfl ?_
    exact .ok (((hB.out.setCell leZ _).setCell leZ _).setCell leZ _) hone.out (by omega) (by omega) (by rw [show k+3=j by omega];rfl)
   ·rw [if_neg h3] at hone
    have b9:(((j-k:Nat):Int) != 3)=true:=by simp only [bne_iff_ne,ne_eq];omega
    go_wp2_with fail
    refine bodyPost_ret (results_row_tmp2 rfl _ _ w.heap.size 212 _ _ rfl (((hT.out.set_ 0 _).set_ 1 _).set_ 2 _) Tryz.underlying212 rfl (by kernel_rfl)) rfl ?_
    exact .bad (((hB.out.setCell leZ _).setCell leZ _).setCell leZ _) hone.out (by decide) rfl
theorem large_not {c:UInt8} (h:largeB c=false):decide (65<=(c.toNat:Int))=false\/decide (65<=(c.toNat:Int))=true/\decide ((c.toNat:Int)<=90)=false:=by
 rw [large_eq,Bool.and_eq_false_iff] at h
 cases g:decide (65<=(c.toNat:Int)) with
 | false=>exact .inl rfl
 | true=>rw [g] at h;exact .inr ⟨rfl,h.resolve_left (by simp)⟩
theorem rone_quote (s:ByteArray) (k:Nat) (w:World) (hk:k<s.size) (hs:s.size<=maxLen) (h1:Hid (smallB s[k]=false)) (h3:Hid (s[k]=34)):Calls Tryz.prog 229 #[.string s,.int .i64 k] w (OneOut w s k):=by
 unfold maxLen at hs
 have hT:Hid (Blk (w.alloc (.cells #[.int .i64 0,.int .i64 0,.string ⟨#[]⟩] 212)) w.heap.size 212 #[.int .i64 0,.int .i64 0,.string ⟨#[]⟩]):=Blk.new w 212 _
 have hB:Hid (Bz w (w.alloc (.cells #[.int .i64 0,.int .i64 0,.string ⟨#[]⟩] 212))):=(Below.refl _ w).alloc leZ _
 have i1:(k:Int)<(s.size:Int):=by omega
 have i2:(0:Int)<=(k:Int):=by omega
 have w1:IntKind.i64.wrap ((k:Int)+1)=((k+1:Nat):Int):=by rw [IntWalk.i64_in _ (by omega)];omega
 have l1:decide (65<=(s[k].toNat:Int))=false:=by rw [h3.out];rfl
 have l2:((s[k].toNat:Int)==34)=true:=by rw [h3.out];rfl
 go_enter Tryz.func229,Tryz.ntmps229
 go_wp2_with fail
 refine (rrun_any s[k] _).mono ?_
 rintro x w1 ⟨rfl,rfl⟩
 rw [h1.out]
 obtain ⟨wa,hwa⟩:=nmZ (w.alloc (.cells #[.int .i64 0,.int .i64 0,.string ⟨#[]⟩] 212))
 rw [hwa.out] at hT hB ⊢
 clear hwa
 go_wp2_with fail
 go_loopg [8] (s.size-(k+1)) (fun gg v wr=>∃j:Nat,k+1<=j/\j<=s.size/\gg=s.size-j/\v=.int .i64 j/\Hid (endP plainB s (k+1)=endP plainB s j)/\wa=wr)
 case atStart=>exact ⟨k+1,Nat.le_refl _,hk,rfl,rfl,rfl,rfl⟩
 case round =>
  clear l1 l2
  obtain ⟨j,hkj,hj,hg,rfl,he,rfl⟩:=hrel
  have hg':=hdZ hg
  clear hg
  have i4:(0:Int)<=(j:Int):=by omega
  by_cases hlt:j<s.size
  ·have hl1:decide ((j:Int)<(s.size:Int))=true:=by simp;omega
   have i3:(j:Int)<(s.size:Int):=by omega
   have w2:IntKind.i64.wrap ((j:Int)+1)=((j+1:Nat):Int):=by rw [IntWalk.i64_in _ (by omega)];omega
   have hpe:=hdZ (plain_eq s[j])
   by_cases hq:s[j]=34
   ·have g1:((s[j].toNat:Int) != 34)=false:=by rw [hq];rfl
    have hj':endP plainB s (k+1)=j:=by rw [he.out,end_no hlt (by rw [hpe.out,g1];rfl)]
    have hone:=hdZ (one_quote_yes hk h3.out hj' hlt hq)
    have i5:(j:Int)<=(s.size:Int):=by omega
    have i6:((k+1:Nat):Int)<=(j:Int):=by omega
    have i7:(0:Int)<=((k+1:Nat):Int):=by omega
    have b9:((j:Int)==(s.size:Int))=false:=by simp;omega
    clear hq hj'
    have f0:=hT.out.frozen 0
    have f1:=hT.out.frozen 1
    have f2:=hT.out.frozen 2
    obtain ⟨r0,r1,r2⟩:=cs3 hT.out
    have rlt:=hT.out.lt
    have w4:IntKind.i64.wrap ((j:Int)+1)=((j+1:Nat):Int):=w2
    go_wp2_with fail
    refine bodyPost_ret (results_row_tmp2 rfl _ _ w.heap.size 212 _ _ rfl (((hT.out.set_ 0 _).set_ 1 _).set_ 2 _) Tryz.underlying212 rfl (by kernel_rfl)) rfl ?_
    exact .ok (((hB.out.setCell leZ _).setCell leZ _).setCell leZ _) hone.out (by omega) (by omega) (by rw [show k+(j+1-k)=j+1 by omega];rfl)
   ·have g1:((s[j].toNat:Int) != 34)=true:=by have this:((s[j].toNat:Int)==34)=false:=byte_no (n:=34) (by omega) hq;simp only [bne];rw [this];rfl
    have hno:plainB s[j]=false->Hid (oneM (s.data.toList.drop k)=.error 2):=fun hp=>one_quote_no hk h3.out (by rw [he.out,end_no hlt hp]) (fun _=>hq)
    have hno':=hdZ hno
    clear hno hq
    cases g2:decide (32<=(s[j].toNat:Int)) with
    | false =>
     have hone:=hno'.out (by rw [hpe.out,g1,g2];rfl)
     have g3:decide ((s[j].toNat:Int)<32)=true:=by simp at g2 ⊢;omega
     have f0:=hT.out.frozen 0
     have f1:=hT.out.frozen 1
     have f2:=hT.out.frozen 2
     obtain ⟨r0,r1,r2⟩:=cs3 hT.out
     have rlt:=hT.out.lt
     go_wp2_with fail
     refine bodyPost_ret (results_row_tmp2 rfl _ _ w.heap.size 212 _ _ rfl (((hT.out.set_ 0 _).set_ 1 _).set_ 2 _) Tryz.underlying212 rfl (by kernel_rfl)) rfl ?_
     exact .bad (((hB.out.setCell leZ _).setCell leZ _).setCell leZ _) hone.out (by decide) rfl
    | true =>
     have g3:decide ((s[j].toNat:Int)<32)=false:=by simp at g2 ⊢;omega
     cases g4:decide ((s[j].toNat:Int)<=126) with
     | false =>
      have hone:=hno'.out (by rw [hpe.out,g1,g2,g4];rfl)
      have g5:decide (126<(s[j].toNat:Int))=true:=by simp at g4 ⊢;omega
      have f0:=hT.out.frozen 0
      have f1:=hT.out.frozen 1
      have f2:=hT.out.frozen 2
      obtain ⟨r0,r1,r2⟩:=cs3 hT.out
      have rlt:=hT.out.lt
      go_wp2_with fail
      refine bodyPost_ret (results_row_tmp2 rfl _ _ w.heap.size 212 _ _ rfl (((hT.out.set_ 0 _).set_ 1 _).set_ 2 _) Tryz.underlying212 rfl (by kernel_rfl)) rfl ?_
      exact .bad (((hB.out.setCell leZ _).setCell leZ _).setCell leZ _) hone.out (by decide) rfl
     | true =>
      have g5:decide (126<(s[j].toNat:Int))=false:=by simp at g4 ⊢;omega
      have hst:Hid (endP plainB s (k+1)=endP plainB s (j+1)):=by unfold Hid;rw [he.out,end_yes hlt (by rw [hpe.out,g1,g2,g4];rfl)]
      go_wp2_with fail
      go_roundg (s.size-(j+1))
      case measure=>have:=hg'.out;omega
      case rel=>exact ⟨j+1,by omega,hlt,rfl,rfl,hst,rfl⟩
  ·have hl1:decide ((j:Int)<(s.size:Int))=false:=by simp;omega
   have b9:((j:Int)==(s.size:Int))=true:=by simp;omega
   have hone:=hdZ (one_quote_no hk h3.out (by rw [he.out,end_end (by omega)]) (fun h=>absurd h hlt))
   have f0:=hT.out.frozen 0
   have f1:=hT.out.frozen 1
   have f2:=hT.out.frozen 2
   obtain ⟨r0,r1,r2⟩:=cs3 hT.out
   have rlt:=hT.out.lt
   go_wp2_with fail
   refine bodyPost_ret (results_row_tmp2 rfl _ _ w.heap.size 212 _ _ rfl (((hT.out.set_ 0 _).set_ 1 _).set_ 2 _) Tryz.underlying212 rfl (by kernel_rfl)) rfl ?_
   exact .bad (((hB.out.setCell leZ _).setCell leZ _).setCell leZ _) hone.out (by decide) rfl
set_option maxHeartbeats 6400000
theorem rone_sign2 (s:ByteArray) (k:Nat) (w:World) (hk:k<s.size) (hs:s.size<=maxLen) (h1:Hid (smallB s[k]=false)) (h3:Hid (s[k]=60\/s[k]=62)) (hk2:k+1<s.size) (h4:Hid (s[k+1]=61)):Calls Tryz.prog 229 #[.string s,.int .i64 k] w (OneOut w s k):=by
 unfold maxLen at hs
 have hT:Hid (Blk (w.alloc (.cells #[.int .i64 0,.int .i64 0,.string ⟨#[]⟩] 212)) w.heap.size 212 #[.int .i64 0,.int .i64 0,.string ⟨#[]⟩]):=Blk.new w 212 _
 have hB:Hid (Bz w (w.alloc (.cells #[.int .i64 0,.int .i64 0,.string ⟨#[]⟩] 212))):=(Below.refl _ w).alloc leZ _
 have i1:(k:Int)<(s.size:Int):=by omega
 have i2:(0:Int)<=(k:Int):=by omega
 have w1:IntKind.i64.wrap ((k:Int)+1)=((k+1:Nat):Int):=by rw [IntWalk.i64_in _ (by omega)];omega
 have hone:Hid (oneM (s.data.toList.drop k)=.ok (5,(s.extract k (k+2)).data.toList,2)):=by
  have h2:largeB s[k]=false:=by rcases h3.out with h | h<;>rw [h]<;>rfl
  have h5:s[k]≠34:=by rcases h3.out with h | h<;>rw [h]<;>decide
  have h6:oneSigns.contains s[k]=false:=by rcases h3.out with h | h<;>rw [h]<;>rfl
  unfold Hid
  rw [one_sign hk h1.out h2 h5,next_byte hk2,signN,if_neg (by rw [h6];simp),if_pos ⟨h3.out,by rw [h4.out]⟩]
 have l1:decide (65<=(s[k].toNat:Int))=false:=by rcases h3.out with h | h<;>rw [h]<;>rfl
 have l2:((s[k].toNat:Int)==34)=false:=by rcases h3.out with h | h<;>rw [h]<;>rfl
 have l3:(((s[k].toNat:Int)==60)||((s[k].toNat:Int)==62))=true:=by rcases h3.out with h | h<;>rw [h]<;>rfl
 have l4:((s[k+1].toNat:Int)==61)=true:=by rw [h4.out];rfl
 have i3:((k+1:Nat):Int)<(s.size:Int):=by omega
 have i4:(0:Int)<=((k+1:Nat):Int):=by omega
 have b3:decide (((k+1:Nat):Int)<(s.size:Int))=true:=by simp;omega
 have w2:IntKind.i64.wrap (((k+1:Nat):Int)+1)=((k+2:Nat):Int):=by rw [IntWalk.i64_in _ (by omega)];omega
 have i5:((k+2:Nat):Int)<=(s.size:Int):=by omega
 have i6:(k:Int)<=((k+2:Nat):Int):=by omega
 have key:∀b:Bool,((s[k].toNat:Int)==60)=b->(b=false->((s[k].toNat:Int)==62)=true)->Calls Tryz.prog 229 #[.string s,.int .i64 k] w (OneOut w s k):=by
  intro b hb hb2
  cases b with
  | true =>
   clear hb2 l3
   go_enter Tryz.func229,Tryz.ntmps229
   go_wp2_with fail
   refine (rrun_any s[k] _).mono ?_
   rintro x w1 ⟨rfl,rfl⟩
   rw [h1.out]
   obtain ⟨wa,hwa⟩:=nmZ (w.alloc (.cells #[.int .i64 0,.int .i64 0,.string ⟨#[]⟩] 212))
   rw [hwa.out] at hT hB ⊢
   clear hwa
   have f0:=hT.out.frozen 0
   have f1:=hT.out.frozen 1
   have f2:=hT.out.frozen 2
   obtain ⟨r0,r1,r2⟩:=cs3 hT.out
   have rlt:=hT.out.lt
   go_wp2_with fail
   refine bodyPost_ret (results_row_tmp2 rfl _ _ w.heap.size 212 _ _ rfl (((hT.out.set_ 0 _).set_ 1 _).set_ 2 _) Tryz.underlying212 rfl (by kernel_rfl)) rfl ?_
   exact .ok (((hB.out.setCell leZ _).setCell leZ _).setCell leZ _) hone.out (by omega) (by omega) rfl
  | false =>
   have hb3:=hb2 rfl
   clear hb2 l3
   go_enter Tryz.func229,Tryz.ntmps229
   go_wp2_with fail
   refine (rrun_any s[k] _).mono ?_
   rintro x w1 ⟨rfl,rfl⟩
   rw [h1.out]
   obtain ⟨wa,hwa⟩:=nmZ (w.alloc (.cells #[.int .i64 0,.int .i64 0,.string ⟨#[]⟩] 212))
   rw [hwa.out] at hT hB ⊢
   clear hwa
   have f0:=hT.out.frozen 0
   have f1:=hT.out.frozen 1
   have f2:=hT.out.frozen 2
   obtain ⟨r0,r1,r2⟩:=cs3 hT.out
   have rlt:=hT.out.lt
   go_wp2_with fail
   refine bodyPost_ret (results_row_tmp2 rfl _ _ w.heap.size 212 _ _ rfl (((hT.out.set_ 0 _).set_ 1 _).set_ 2 _) Tryz.underlying212 rfl (by kernel_rfl)) rfl ?_
   exact .ok (((hB.out.setCell leZ _).setCell leZ _).setCell leZ _) hone.out (by omega) (by omega) rfl
 exact key _ rfl (fun h=>by rw [h] at l3;simpa using l3)
theorem rone_rest (s:ByteArray) (k:Nat) (w:World) (hk:k<s.size) (hs:s.size<=maxLen) (h1:Hid (smallB s[k]=false)) (h2:Hid (largeB s[k]=false)) (h3:Hid (s[k]≠34)) (h4:Hid (¬((s[k]=60\/s[k]=62)/\∃h:k+1<s.size,s[k+1]=61))):Calls Tryz.prog 229 #[.string s,.int .i64 k] w (OneOut w s k):=by
 unfold maxLen at hs
 have hT:Hid (Blk (w.alloc (.cells #[.int .i64 0,.int .i64 0,.string ⟨#[]⟩] 212)) w.heap.size 212 #[.int .i64 0,.int .i64 0,.string ⟨#[]⟩]):=Blk.new w 212 _
 have hB:Hid (Bz w (w.alloc (.cells #[.int .i64 0,.int .i64 0,.string ⟨#[]⟩] 212))):=(Below.refl _ w).alloc leZ _
 have i1:(k:Int)<(s.size:Int):=by omega
 have i2:(0:Int)<=(k:Int):=by omega
 have w1:IntKind.i64.wrap ((k:Int)+1)=((k+1:Nat):Int):=by rw [IntWalk.i64_in _ (by omega)];omega
 have hone:Hid (oneM (s.data.toList.drop k)=if oneSigns.contains s[k]=true then .ok (5,(s.extract k (k+1)).data.toList,1) else .error 2):=by
  unfold Hid
  rw [one_sign hk h1.out h2.out h3.out,signN]
  by_cases hc:oneSigns.contains s[k]=true
  ·rw [if_pos hc,if_pos hc]
  ·rw [if_neg hc,if_neg hc,if_neg]
   rintro ⟨g1,g2⟩
   refine h4.out ⟨g1,?_⟩
   have hlt:k+1<s.size:=by
    have:=(gsZ.1 g2).1
    simpa using this
   refine ⟨hlt,?_⟩
   rw [next_byte hlt] at g2
   exact Option.some.inj g2
 have hq:((s[k].toNat:Int)==34)=false:=byte_no (n:=34) (by omega) h3.out
 have hcs:(((s[k].toNat:Int)==60)=false/\((s[k].toNat:Int)==62)=false)\/((((s[k].toNat:Int)==60)=true\/((s[k].toNat:Int)==60)=false/\((s[k].toNat:Int)==62)=true)/\((¬k+1<s.size/\decide (((k+1:Nat):Int)<(s.size:Int))=false)\/∃h:k+1<s.size,decide (((k+1:Nat):Int)<(s.size:Int))=true/\((k+1:Nat):Int)<(s.size:Int)/\((s[k+1].toNat:Int)==61)=false)):=by
  by_cases g1:s[k]=60
  ·refine .inr ⟨.inl (by rw [g1];rfl),?_⟩
   by_cases g2:k+1<s.size
   ·exact .inr ⟨g2,by simp;omega,by omega,byte_no (n:=61) (by omega) (fun g3=>h4.out ⟨.inl g1,g2,g3⟩)⟩
   ·exact .inl ⟨g2,by simp;omega⟩
  ·by_cases g1':s[k]=62
   ·refine .inr ⟨.inr ⟨byte_no (n:=60) (by omega) g1,by rw [g1'];rfl⟩,?_⟩
    by_cases g2:k+1<s.size
    ·exact .inr ⟨g2,by simp;omega,by omega,byte_no (n:=61) (by omega) (fun g3=>h4.out ⟨.inr g1',g2,g3⟩)⟩
    ·exact .inl ⟨g2,by simp;omega⟩
   ·exact .inl ⟨byte_no (n:=60) (by omega) g1,byte_no (n:=62) (by omega) g1'⟩
 have hln:=hdZ (large_not h2.out)
 have hb0:Hid (Blk ((w.alloc (.cells #[.int .i64 0,.int .i64 0,.string ⟨#[]⟩] 212)).alloc (.cells #[.string ⟨#[40]⟩,.string ⟨#[41]⟩,.string ⟨#[44]⟩,.string ⟨#[59]⟩,.string ⟨#[58]⟩,.string ⟨#[46]⟩,.string ⟨#[61]⟩,.string ⟨#[126]⟩] 9)) (w.heap.size+1) 9 signsA):=blk_second w _ 9 _
 have hb1:Hid (∀(W:World),Blk (W.alloc (.cells #[.int .u8 s[k].toNat] 5)) W.heap.size 5 #[.int .u8 s[k].toNat]):=fun W=>Blk.new W 5 _
 have hcv:(convert 33 9 (.slice (some ⟨w.heap.size+1+1,0,none⟩) 1 1)).run Tryz.prog (((w.alloc (.cells #[.int .i64 0,.int .i64 0,.string ⟨#[]⟩] 212)).alloc (.cells #[.string ⟨#[40]⟩,.string ⟨#[41]⟩,.string ⟨#[44]⟩,.string ⟨#[59]⟩,.string ⟨#[58]⟩,.string ⟨#[46]⟩,.string ⟨#[61]⟩,.string ⟨#[126]⟩] 9)).alloc (.cells #[.int .u8 s[k].toNat] 5))=.ok (.string ⟨[s[k]].toArray⟩) (((w.alloc (.cells #[.int .i64 0,.int .i64 0,.string ⟨#[]⟩] 212)).alloc (.cells #[.string ⟨#[40]⟩,.string ⟨#[41]⟩,.string ⟨#[44]⟩,.string ⟨#[59]⟩,.string ⟨#[58]⟩,.string ⟨#[46]⟩,.string ⟨#[61]⟩,.string ⟨#[126]⟩] 9)).alloc (.cells #[.int .u8 s[k].toNat] 5)):=by
  have hh:=hb1.out ((w.alloc (.cells #[.int .i64 0,.int .i64 0,.string ⟨#[]⟩] 212)).alloc (.cells #[.string ⟨#[40]⟩,.string ⟨#[41]⟩,.string ⟨#[44]⟩,.string ⟨#[59]⟩,.string ⟨#[58]⟩,.string ⟨#[46]⟩,.string ⟨#[61]⟩,.string ⟨#[126]⟩] 9))
  have e0:((w.alloc (.cells #[.int .i64 0,.int .i64 0,.string ⟨#[]⟩] 212)).alloc (.cells #[.string ⟨#[40]⟩,.string ⟨#[41]⟩,.string ⟨#[44]⟩,.string ⟨#[59]⟩,.string ⟨#[58]⟩,.string ⟨#[46]⟩,.string ⟨#[61]⟩,.string ⟨#[126]⟩] 9)).heap.size=w.heap.size+1+1:=by simp
  rw [e0] at hh
  rw [conv_at _ _ _ hh]
  simp
 have hT3:Hid (Blk (((w.alloc (.cells #[.int .i64 0,.int .i64 0,.string ⟨#[]⟩] 212)).alloc (.cells #[.string ⟨#[40]⟩,.string ⟨#[41]⟩,.string ⟨#[44]⟩,.string ⟨#[59]⟩,.string ⟨#[58]⟩,.string ⟨#[46]⟩,.string ⟨#[61]⟩,.string ⟨#[126]⟩] 9)).alloc (.cells #[.int .u8 s[k].toNat] 5)) w.heap.size 212 #[.int .i64 0,.int .i64 0,.string ⟨#[]⟩]):=(hT.out.alloc _).alloc _
 have hB3:Hid (Bz w (((w.alloc (.cells #[.int .i64 0,.int .i64 0,.string ⟨#[]⟩] 212)).alloc (.cells #[.string ⟨#[40]⟩,.string ⟨#[41]⟩,.string ⟨#[44]⟩,.string ⟨#[59]⟩,.string ⟨#[58]⟩,.string ⟨#[46]⟩,.string ⟨#[61]⟩,.string ⟨#[126]⟩] 9)).alloc (.cells #[.int .u8 s[k].toNat] 5))):=(hB.out.alloc (by simp) _).alloc (by simp;omega) _
 have hin:=hdZ (rin_any (some ⟨w.heap.size+1,0,none⟩) 8 8 signsT [s[k]] (((w.alloc (.cells #[.int .i64 0,.int .i64 0,.string ⟨#[]⟩] 212)).alloc (.cells #[.string ⟨#[40]⟩,.string ⟨#[41]⟩,.string ⟨#[44]⟩,.string ⟨#[59]⟩,.string ⟨#[58]⟩,.string ⟨#[46]⟩,.string ⟨#[61]⟩,.string ⟨#[126]⟩] 9)).alloc (.cells #[.int .u8 s[k].toNat] 5)) (by unfold maxLen;omega) rfl (txts_blk (hb0.out.alloc _)))
 rw [signs_one] at hin
 have i5:((k+1:Nat):Int)<=(s.size:Int):=by omega
 have i6:(k:Int)<=((k+1:Nat):Int):=by omega
 have i4:(0:Int)<=((k+1:Nat):Int):=by omega
 obtain ⟨sg,hsg⟩:=nmZ (oneSigns.contains s[k])
 rw [hsg.out] at hin hone
 clear hT hB hb0 hb1
 have hfin:∀wa:World,Hid (Blk wa w.heap.size 212 #[.int .i64 0,.int .i64 0,.string ⟨#[]⟩])->Hid (Bz w wa)->True:=fun _ _ _=>trivial
 clear hfin
 rcases hln.out with l1 | ⟨l1,l2⟩<;>rcases hcs with ⟨q1,q2⟩ | ⟨q1 | ⟨q1,q2⟩,⟨q3,q4⟩ | ⟨q3,b4,b5,q4⟩⟩
 all_goals
  go_enter Tryz.func229,Tryz.ntmps229
  go_wp2_with fail
  refine (rrun_any s[k] _).mono ?_
  rintro x w1 ⟨rfl,rfl⟩
  rw [h1.out]
  go_wp2_with fail
  refine hin.out.mono ?_
  rintro x w1 ⟨rfl,rfl⟩
  clear hcv hin
  obtain ⟨wa,hwa⟩:∃x,Hid (((w.alloc (.cells #[.int .i64 0,.int .i64 0,.string ⟨#[]⟩] 212)).alloc (.cells #[.string ⟨#[40]⟩,.string ⟨#[41]⟩,.string ⟨#[44]⟩,.string ⟨#[59]⟩,.string ⟨#[58]⟩,.string ⟨#[46]⟩,.string ⟨#[61]⟩,.string ⟨#[126]⟩] 9)).alloc (.cells #[.int .u8 s[k].toNat] 5)=x):=⟨_,hdZ rfl⟩
  rw [hwa.out] at hT3 hB3 ⊢
  clear hwa
  have hT:=hT3
  have hB:=hB3
  have f0:=hT.out.frozen 0
  have f1:=hT.out.frozen 1
  have f2:=hT.out.frozen 2
  obtain ⟨r0,r1,r2⟩:=cs3 hT.out
  have rlt:=hT.out.lt
  cases sg with
  | true =>
   go_wp2_with fail
   refine bodyPost_ret (results_row_tmp2 rfl _ _ w.heap.size 212 _ _ rfl (((hT.out.set_ 0 _).set_ 1 _).set_ 2 _) Tryz.underlying212 rfl (by kernel_rfl)) rfl ?_
   exact .ok (((hB.out.setCell leZ _).setCell leZ _).setCell leZ _) hone.out (by omega) (by omega) rfl
  | false =>
   go_wp2_with fail
   refine bodyPost_ret (results_row_tmp2 rfl _ _ w.heap.size 212 _ _ rfl (((hT.out.set_ 0 _).set_ 1 _).set_ 2 _) Tryz.underlying212 rfl (by kernel_rfl)) rfl ?_
   exact .bad (((hB.out.setCell leZ _).setCell leZ _).setCell leZ _) hone.out (by decide) rfl
theorem rone_any (s:ByteArray) (k:Nat) (w:World) (hk:k<s.size) (hs:s.size<=maxLen):Calls Tryz.prog 229 #[.string s,.int .i64 k] w (OneOut w s k):=by
 by_cases h1:smallB s[k]=true
 ·exact rone_small s k w hk hs (hdZ h1)
 ·have h1':smallB s[k]=false:=by simpa using h1
  by_cases h2:largeB s[k]=true
  ·exact rone_large s k w hk hs (hdZ h1') (hdZ h2)
  ·have h2':largeB s[k]=false:=by simpa using h2
   by_cases h3:s[k]=34
   ·exact rone_quote s k w hk hs (hdZ h1') (hdZ h3)
   ·by_cases h4:(s[k]=60\/s[k]=62)/\∃h:k+1<s.size,s[k+1]=61
    ·obtain ⟨g1,g2,g3⟩:=h4
     exact rone_sign2 s k w hk hs (hdZ h1') (hdZ g1) g2 (hdZ g3)
    ·exact rone_rest s k w hk hs (hdZ h1') (hdZ h2') (hdZ h3) (hdZ h4)
theorem rscan_any (s:ByteArray) (w:World) (hs:s.size<=maxLen) :
  Calls Tryz.prog 206 #[.string s] w fun e w'=>Bz w w' /\
   ((∃l v,scanT s.data.toList=.ok l/\e=.returned (.tuple #[v,.int .i64 s.size,.int .i64 0])/\l.length<=4096/\w'.ownsRow w.heap.size 212 3 v l.length (tokL l)) \/
    (∃k cd,scanT s.data.toList=.error (k,cd)/\cd≠0/\e=.returned (.tuple #[.slice none 0 0,.int .i64 (k:Nat),.int .i64 cd]))):=by
 have hs':=hdZ hs
 unfold maxLen at hs
 obtain ⟨i0,hi,hz0,hz1,hz2⟩:=info_parts (P:=Tryz.prog) (e:=212) (z:=.agg #[.int .i64 0,.int .i64 0,.string ⟨#[]⟩]) (size:=3) (bytes:=32) (by kernel_rfl)
 have hB0:Hid (Bz w (w.alloc (.cells #[] 212))):=(Below.refl _ w).alloc leZ _
 have ho0:Hid ((w.alloc (.cells #[] 212)).ownsRow w.heap.size 212 3 (.slice (some ⟨w.heap.size,0,none⟩) 0 0) 0 []):=own_new w 212 3
 go_enter Tryz.func206,Tryz.ntmps206
 go_wp2_with fail
 obtain ⟨wa,hwa⟩:=nmZ (w.alloc (.cells #[] 212))
 rw [hwa.out] at hB0 ho0 ⊢
 clear hwa
 go_loopg [5,6,7,8,9] (s.size+1) (fun gg v a _ _ _ wr=>∃(l:List Tok) (k f:Nat),k<=s.size/\gg=s.size+1-k/\a=.int .i64 k/\s.size-k<f/\l.length<=4096/\Hid (scanT s.data.toList=preX l (scanM f l.length k (s.data.toList.drop k)))/\Hid (wr.ownsRow w.heap.size 212 3 v l.length (tokL l))/\Hid (Bz w wr))
 case atStart =>
  refine ⟨[],0,s.size+1,by omega,by omega,rfl,by omega,by simp,?_,ho0,hB0⟩
  unfold Hid scanT
  rw [List.drop_zero,show s.data.toList.length=s.size by simp]
  show _=preX [] (scanM (s.size+1) 0 0 s.data.toList)
  cases scanM (s.size+1) 0 0 s.data.toList<;>rfl
 case round =>
  obtain ⟨l,k,f,hk,hgg,rfl,hf,hl,hsc,hown,hBr⟩:=hrel
  have hgg':=hdZ hgg
  clear hgg
  obtain ⟨f,rfl⟩:∃f',f=f'+1:=⟨f-1,by omega⟩
  obtain ⟨p,c,rfl⟩:=own_slice hown.out
  obtain ⟨wo,hwo⟩:∃wo:World,wo=wr:=⟨_,rfl⟩
  go_wp2_with fail
  go_loopg [6] (s.size-k) (fun gg a wx=>∃j:Nat,k<=j/\j<=s.size/\gg=s.size-j/\a=.int .i64 j/\Hid (endP blankB s k=endP blankB s j)/\wo=wx)
  case atStart=>exact ⟨k,Nat.le_refl _,hk,rfl,rfl,rfl,hwo⟩
  case round =>
   rw [<-hwo] at hown hBr
   clear hwo
   obtain ⟨j,hkj,hj,hg,rfl,he,rfl⟩:=hrel
   have hg':=hdZ hg
   clear hg
   have i4:(0:Int)<=(j:Int):=by omega
   by_cases hlt:j<s.size
   ·have hl1:decide ((j:Int)<(s.size:Int))=true:=by simp;omega
    have i3:(j:Int)<(s.size:Int):=by omega
    have w2:IntKind.i64.wrap ((j:Int)+1)=((j+1:Nat):Int):=by rw [IntWalk.i64_in _ (by omega)];omega
    have hbe:=hdZ (blank_eq s[j])
    have b1:((j:Int)==(s.size:Int))=false:=by simp;omega
    cases g1:((s[j].toNat:Int)==32) with
    | true =>
     have hst:Hid (endP blankB s k=endP blankB s (j+1)):=by unfold Hid;rw [he.out,end_yes hlt (by rw [hbe.out,g1];rfl)]
     go_wp2_with fail
     go_roundg (s.size-(j+1))
     case measure=>have:=hg'.out;omega
     case rel=>exact ⟨j+1,by omega,hlt,rfl,rfl,hst,rfl⟩
    | false =>
     cases g2:((s[j].toNat:Int)==10) with
     | true =>
      have hst:Hid (endP blankB s k=endP blankB s (j+1)):=by unfold Hid;rw [he.out,end_yes hlt (by rw [hbe.out,g1,g2];rfl)]
      go_wp2_with fail
      go_roundg (s.size-(j+1))
      case measure=>have:=hg'.out;omega
      case rel=>exact ⟨j+1,by omega,hlt,rfl,rfl,hst,rfl⟩
     | false =>
      have hj:Hid (endP blankB s k=j):=by unfold Hid;rw [he.out,end_no hlt (by rw [hbe.out,g1,g2];rfl)]
      by_cases hfull:4096<=l.length
      ·have b2:decide ((4096:Int)<=(l.length:Int))=true:=by simp;omega
       have hst:=hdZ (scan_full (f:=f) hj.out hlt hfull)
       go_wp2_with fail
       go_ret3
       exact ⟨hBr.out,.inr ⟨j,7,by rw [hsc.out,hst.out];rfl,by decide,rfl⟩⟩
      ·have b2:decide ((4096:Int)<=(l.length:Int))=false:=by simp;omega
       go_wp2_with fail
       refine (rone_any s j wo hlt hs'.out).mono ?_
       rintro e w3 ⟨hb3,hcase⟩
       have hown3:=hdZ (own_below hown.out hb3)
       have hB3:=btY hBr hb3
       rcases hcase with ⟨kd,tx,m,hone,hm,hle,rfl⟩ | ⟨cd,hone,hcd,rfl⟩
       ·have hst:=hdZ (scan_good (f:=f) (n:=l.length) hj.out hlt (by omega) hone)
        have hq1:Hid (l.length+1<=maxLen):=by unfold Hid maxLen;omega
        have hq2:Hid ((l.length+1)*32<=140737488355328):=by unfold Hid;omega
        clear hb3 hone hown hBr
        unfold tokC
        go_wp2_with (at_builtin;go_must (refine wpList_app3 w.heap.size rfl (.tmp 50) (.tmp 52) 207 rfl 212 i0 _ 3 32 Tryz.underlying207 hi hz0 hz1 hz2 rfl (by decide) _ l.length (tokL l) rfl (w3.heap.size+1) 1 #[.int .i64 kd,.int .i64 j,.string ⟨tx.toArray⟩] rfl ((hown3.out.alloc _).alloc _) (blk_second w3 _ 212 _) rfl (tokC_one _ _ _) hq1.out hq2.out (Nat.le_trans hB3.out.size (by simp;omega)) ?_);intro v5 w5 ho5 hb5 hg5)
        have hB5:Hid (Bz w w5):=((hB3.out.alloc hB3.out.size _).alloc (by have:=hB3.out.size;simp;omega) _).trans hb5
        have ho5':=hdZ ho5
        clear ho5 hg5 hb5
        go_roundg (s.size+1-(j+m))
        case measure=>have:=hgg'.out;omega
        case rel =>
         refine ⟨l++[⟨kd,j,tx⟩],j+m,f,hle,rfl,rfl,by omega,by simp;omega,?_,?_,hB5⟩
         ·rw [hsc.out,hst.out,List.length_append,List.length_singleton]
          exact preX_cons _ _ _
         ·rw [tokL_snoc,List.length_append,List.length_singleton]
          exact ho5'.out
       ·have hst:=hdZ (scan_bad (f:=f) (n:=l.length) hj.out hlt (by omega) hone)
        have b3:(cd != 0)=true:=by simp [hcd]
        clear hb3 hone
        unfold noTok
        go_wp2_with fail
        go_ret3
        exact ⟨hB3.out.alloc hB3.out.size _,.inr ⟨j,cd,by rw [hsc.out,hst.out];rfl,hcd,rfl⟩⟩
   ·have hl1:decide ((j:Int)<(s.size:Int))=false:=by simp;omega
    have b1:((j:Int)==(s.size:Int))=true:=by simp;omega
    have hj:Hid (endP blankB s k=j):=by unfold Hid;rw [he.out,end_end (by omega)]
    have hst:=hdZ (scan_end (f:=f) (n:=l.length) hj.out (by omega))
    have hjs:Hid (j=s.size):=by unfold Hid;omega
    go_wp2_with fail
    go_ret3
    exact ⟨hBr.out,.inl ⟨l,_,by rw [hsc.out,hst.out];simp [preX],by rw [hjs.out];rfl,hl,hown.out⟩⟩
end Go.Proofs.YtdjmckjbibfecaaGreatDoor.Sh

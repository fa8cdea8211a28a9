import Derived.StillTailTactics
import Derived.Test.YtdjmckjbibfecaaGreatDoorQI
namespace Go.Proofs.YtdjmckjbibfecaaGreatDoor.Sh
open Go Go.RowKit Go.BigFrame Go.Maps
set_option maxRecDepth 100000
set_option maxHeartbeats 25600000
def oneSigns:List UInt8:=[40,41,44,59,58,46,61,126]
def signN (c:UInt8) (nx:Option UInt8):Option Nat:=if oneSigns.contains c=true then some 1 else if (c=60\/c=62)/\nx=some 61 then some 2 else none
theorem next_byte {s:ByteArray} {k:Nat} (h:k<s.size):s.data.toList[k]?=some s[k]:=by
 have hk:k<s.data.toList.length:=by simpa using h
 rw [gZ hk];rfl
theorem byte_no {c:UInt8} {n:Nat} (hn:n<256) (h:¬c=UInt8.ofNat n):((c.toNat:Int)==(n:Int))=false:=by
 simp only [beq_eq_false_iff_ne,ne_eq]
 intro e
 apply h
 apply UInt8.toNat_inj.1
 rw [UInt8.toNat_ofNat_of_lt' (by simpa using hn)]
 omega
theorem sign_any (s:ByteArray) (k sb:Nat) (w:World) (hk:k<s.size) (hs:s.size<=maxLen) (hb:Hid (ScanAt w sb s k)) :
  Calls Tryz.prog 246 #[.pointer (some ⟨sb,0,none⟩),.int .i64 k] w fun e w'=>But sb w w' /\
   ((∃m,signN s[k] (s.data.toList[k+1]?)=some m/\k+m<=s.size/\e=.returned (.tuple #[.agg (tokC 5 k (s.extract k (k+m))),.int .i64 0])/\ScanAt w' sb s (k+m)) \/
    (signN s[k] (s.data.toList[k+1]?)=none/\e=.returned (.tuple #[.agg noTok,.int .i64 2]))):=by
 unfold maxLen at hs
 have hsb:=hb.out.lt
 have c0:w.cell? ⟨sb,0,none⟩=some (.string s):=hb.out.cell 0
 have c1:w.cell? ⟨sb,1,none⟩=some (.int .i64 k):=hb.out.cell 1
 have y1:=hb.out.frozen 1
 have i1:(k:Int)<(s.size:Int):=by omega
 have i2:(0:Int)<=(k:Int):=by omega
 have w1:IntKind.i64.wrap ((k:Int)+1)=(k:Int)+1:=IntWalk.i64_in _ (by omega)
 obtain ⟨c,hc⟩:=nmZ (s[k])
 obtain ⟨nx,hnx⟩:=nmZ (s.data.toList[k+1]?)
 by_cases hcc:c=40
 ·have q40:((s[k].toNat:Int)==40)=true:=by rw [hc.out,hcc];rfl
  have hsn:Hid (signN s[k] (s.data.toList[k+1]?)=some 1):=by unfold Hid;rw [hc.out,hcc];rfl
  clear hcc
  go_enter Tryz.func246,Tryz.ntmps246
  go_upto_region 17 with fail
  obtain ⟨wa,hwa⟩:=nmZ (w.setCell ⟨sb,1,none⟩ (.int .i64 ((k:Int)+1)))
  have hba:Hid (ScanAt wa sb s (k+1)):=by unfold Hid;rw [<-hwa.out];exact hb.out.set_ 1 (.int .i64 ((k:Int)+1))
  have hua:Hid (But sb w wa):=by unfold Hid;rw [<-hwa.out];exact (But.refl sb w).setCell 1 _
  have hsz:Hid (wa.heap.size=w.heap.size):=by unfold Hid;rw [<-hwa.out];simp
  rw [hwa.out]
  have hrb:Hid (Blk (wa.alloc (.cells #[.int .i64 0,.int .i64 0,.string ⟨#[]⟩] 212)) w.heap.size 212 #[.int .i64 0,.int .i64 0,.string ⟨#[]⟩]):=by have:=Blk.new wa 212 #[.int .i64 0,.int .i64 0,.string ⟨#[]⟩];unfold Hid;rwa [hsz.out] at this
  have hbb:Hid (ScanAt (wa.alloc (.cells #[.int .i64 0,.int .i64 0,.string ⟨#[]⟩] 212)) sb s (k+1)):=hba.out.alloc _
  have hub:Hid (But sb w (wa.alloc (.cells #[.int .i64 0,.int .i64 0,.string ⟨#[]⟩] 212))):=hua.out.below ((Below.refl _ wa).alloc leZ _)
  obtain ⟨wb,hwb⟩:=nmZ (wa.alloc (.cells #[.int .i64 0,.int .i64 0,.string ⟨#[]⟩] 212))
  rw [hwb.out] at hrb hbb hub ⊢
  clear hwb hba hua hwa c0 c1 y1
  obtain ⟨c0,c1⟩:=cs2 hbb.out
  have f0:=hrb.out.frozen 0
  have f1:=hrb.out.frozen 1
  have f2:=hrb.out.frozen 2
  obtain ⟨r0,r1,r2⟩:=cs3 hrb.out
  have i3:(k:Int)+1<=(s.size:Int):=by omega
  have i4:(k:Int)<=(k:Int)+1:=by omega
  have hne:sb≠w.heap.size:=by omega
  go_still_tail 12,(by kernel_rfl)
  change wpList _ _ _ _ _ wb.drew
  obtain ⟨wd,hwd⟩:=nmZ (wb.drew)
  have hrd:Hid (Blk wd w.heap.size 212 #[.int .i64 0,.int .i64 0,.string ⟨#[]⟩]):=by unfold Hid;rw [<-hwd.out];exact hrb.out.drew
  have hbd:Hid (ScanAt wd sb s (k+1)):=by unfold Hid;rw [<-hwd.out];exact hbb.out.drew
  have hud:Hid (But sb w wd):=by unfold Hid;rw [<-hwd.out];exact hub.out.below ((Below.refl _ wb).drew)
  rw [hwd.out]
  clear c0 c1 f0 f1 f2 r0 r1 r2
  have f0:=hrd.out.frozen 0
  have f1:=hrd.out.frozen 1
  have f2:=hrd.out.frozen 2
  obtain ⟨r0,r1,r2⟩:=cs3 hrd.out
  go_wp2_with fail
  refine bodyPost_ret (results_row_tmp rfl _ _ w.heap.size 212 _ _ rfl (((hrd.out.set_ 0 _).set_ 1 _).set_ 2 _) Tryz.underlying212 rfl (by kernel_rfl)) rfl ?_
  refine ⟨((hud.out.far leZ _ _).far leZ _ _).far leZ _ _,.inl ⟨1,hsn.out,by omega,rfl,?_⟩⟩
  exact ((hbd.out.far (p:=⟨w.heap.size,0,none⟩) hne _).far (p:=⟨w.heap.size,1,none⟩) hne _).far (p:=⟨w.heap.size,2,none⟩) hne _
 have q40:((s[k].toNat:Int)==40)=false:=by rw [hc.out];exact byte_no (n:=40) (by omega) hcc
 have n40:=hcc
 clear hcc
 by_cases hcc:c=41
 ·have q41:((s[k].toNat:Int)==41)=true:=by rw [hc.out,hcc];rfl
  have hsn:Hid (signN s[k] (s.data.toList[k+1]?)=some 1):=by unfold Hid;rw [hc.out,hcc];rfl
  clear hcc
  go_enter Tryz.func246,Tryz.ntmps246
  go_upto_region 17 with fail
  obtain ⟨wa,hwa⟩:=nmZ (w.setCell ⟨sb,1,none⟩ (.int .i64 ((k:Int)+1)))
  have hba:Hid (ScanAt wa sb s (k+1)):=by unfold Hid;rw [<-hwa.out];exact hb.out.set_ 1 (.int .i64 ((k:Int)+1))
  have hua:Hid (But sb w wa):=by unfold Hid;rw [<-hwa.out];exact (But.refl sb w).setCell 1 _
  have hsz:Hid (wa.heap.size=w.heap.size):=by unfold Hid;rw [<-hwa.out];simp
  rw [hwa.out]
  have hrb:Hid (Blk (wa.alloc (.cells #[.int .i64 0,.int .i64 0,.string ⟨#[]⟩] 212)) w.heap.size 212 #[.int .i64 0,.int .i64 0,.string ⟨#[]⟩]):=by have:=Blk.new wa 212 #[.int .i64 0,.int .i64 0,.string ⟨#[]⟩];unfold Hid;rwa [hsz.out] at this
  have hbb:Hid (ScanAt (wa.alloc (.cells #[.int .i64 0,.int .i64 0,.string ⟨#[]⟩] 212)) sb s (k+1)):=hba.out.alloc _
  have hub:Hid (But sb w (wa.alloc (.cells #[.int .i64 0,.int .i64 0,.string ⟨#[]⟩] 212))):=hua.out.below ((Below.refl _ wa).alloc leZ _)
  obtain ⟨wb,hwb⟩:=nmZ (wa.alloc (.cells #[.int .i64 0,.int .i64 0,.string ⟨#[]⟩] 212))
  rw [hwb.out] at hrb hbb hub ⊢
  clear hwb hba hua hwa c0 c1 y1
  obtain ⟨c0,c1⟩:=cs2 hbb.out
  have f0:=hrb.out.frozen 0
  have f1:=hrb.out.frozen 1
  have f2:=hrb.out.frozen 2
  obtain ⟨r0,r1,r2⟩:=cs3 hrb.out
  have i3:(k:Int)+1<=(s.size:Int):=by omega
  have i4:(k:Int)<=(k:Int)+1:=by omega
  have hne:sb≠w.heap.size:=by omega
  go_still_tail 12,(by kernel_rfl)
  change wpList _ _ _ _ _ wb.drew
  obtain ⟨wd,hwd⟩:=nmZ (wb.drew)
  have hrd:Hid (Blk wd w.heap.size 212 #[.int .i64 0,.int .i64 0,.string ⟨#[]⟩]):=by unfold Hid;rw [<-hwd.out];exact hrb.out.drew
  have hbd:Hid (ScanAt wd sb s (k+1)):=by unfold Hid;rw [<-hwd.out];exact hbb.out.drew
  have hud:Hid (But sb w wd):=by unfold Hid;rw [<-hwd.out];exact hub.out.below ((Below.refl _ wb).drew)
  rw [hwd.out]
  clear c0 c1 f0 f1 f2 r0 r1 r2
  have f0:=hrd.out.frozen 0
  have f1:=hrd.out.frozen 1
  have f2:=hrd.out.frozen 2
  obtain ⟨r0,r1,r2⟩:=cs3 hrd.out
  go_wp2_with fail
  refine bodyPost_ret (results_row_tmp rfl _ _ w.heap.size 212 _ _ rfl (((hrd.out.set_ 0 _).set_ 1 _).set_ 2 _) Tryz.underlying212 rfl (by kernel_rfl)) rfl ?_
  refine ⟨((hud.out.far leZ _ _).far leZ _ _).far leZ _ _,.inl ⟨1,hsn.out,by omega,rfl,?_⟩⟩
  exact ((hbd.out.far (p:=⟨w.heap.size,0,none⟩) hne _).far (p:=⟨w.heap.size,1,none⟩) hne _).far (p:=⟨w.heap.size,2,none⟩) hne _
 have q41:((s[k].toNat:Int)==41)=false:=by rw [hc.out];exact byte_no (n:=41) (by omega) hcc
 have n41:=hcc
 clear hcc
 by_cases hcc:c=44
 ·have q44:((s[k].toNat:Int)==44)=true:=by rw [hc.out,hcc];rfl
  have hsn:Hid (signN s[k] (s.data.toList[k+1]?)=some 1):=by unfold Hid;rw [hc.out,hcc];rfl
  clear hcc
  go_enter Tryz.func246,Tryz.ntmps246
  go_upto_region 17 with fail
  obtain ⟨wa,hwa⟩:=nmZ (w.setCell ⟨sb,1,none⟩ (.int .i64 ((k:Int)+1)))
  have hba:Hid (ScanAt wa sb s (k+1)):=by unfold Hid;rw [<-hwa.out];exact hb.out.set_ 1 (.int .i64 ((k:Int)+1))
  have hua:Hid (But sb w wa):=by unfold Hid;rw [<-hwa.out];exact (But.refl sb w).setCell 1 _
  have hsz:Hid (wa.heap.size=w.heap.size):=by unfold Hid;rw [<-hwa.out];simp
  rw [hwa.out]
  have hrb:Hid (Blk (wa.alloc (.cells #[.int .i64 0,.int .i64 0,.string ⟨#[]⟩] 212)) w.heap.size 212 #[.int .i64 0,.int .i64 0,.string ⟨#[]⟩]):=by have:=Blk.new wa 212 #[.int .i64 0,.int .i64 0,.string ⟨#[]⟩];unfold Hid;rwa [hsz.out] at this
  have hbb:Hid (ScanAt (wa.alloc (.cells #[.int .i64 0,.int .i64 0,.string ⟨#[]⟩] 212)) sb s (k+1)):=hba.out.alloc _
  have hub:Hid (But sb w (wa.alloc (.cells #[.int .i64 0,.int .i64 0,.string ⟨#[]⟩] 212))):=hua.out.below ((Below.refl _ wa).alloc leZ _)
  obtain ⟨wb,hwb⟩:=nmZ (wa.alloc (.cells #[.int .i64 0,.int .i64 0,.string ⟨#[]⟩] 212))
  rw [hwb.out] at hrb hbb hub ⊢
  clear hwb hba hua hwa c0 c1 y1
  obtain ⟨c0,c1⟩:=cs2 hbb.out
  have f0:=hrb.out.frozen 0
  have f1:=hrb.out.frozen 1
  have f2:=hrb.out.frozen 2
  obtain ⟨r0,r1,r2⟩:=cs3 hrb.out
  have i3:(k:Int)+1<=(s.size:Int):=by omega
  have i4:(k:Int)<=(k:Int)+1:=by omega
  have hne:sb≠w.heap.size:=by omega
  go_still_tail 12,(by kernel_rfl)
  change wpList _ _ _ _ _ wb.drew
  obtain ⟨wd,hwd⟩:=nmZ (wb.drew)
  have hrd:Hid (Blk wd w.heap.size 212 #[.int .i64 0,.int .i64 0,.string ⟨#[]⟩]):=by unfold Hid;rw [<-hwd.out];exact hrb.out.drew
  have hbd:Hid (ScanAt wd sb s (k+1)):=by unfold Hid;rw [<-hwd.out];exact hbb.out.drew
  have hud:Hid (But sb w wd):=by unfold Hid;rw [<-hwd.out];exact hub.out.below ((Below.refl _ wb).drew)
  rw [hwd.out]
  clear c0 c1 f0 f1 f2 r0 r1 r2
  have f0:=hrd.out.frozen 0
  have f1:=hrd.out.frozen 1
  have f2:=hrd.out.frozen 2
  obtain ⟨r0,r1,r2⟩:=cs3 hrd.out
  go_wp2_with fail
  refine bodyPost_ret (results_row_tmp rfl _ _ w.heap.size 212 _ _ rfl (((hrd.out.set_ 0 _).set_ 1 _).set_ 2 _) Tryz.underlying212 rfl (by kernel_rfl)) rfl ?_
  refine ⟨((hud.out.far leZ _ _).far leZ _ _).far leZ _ _,.inl ⟨1,hsn.out,by omega,rfl,?_⟩⟩
  exact ((hbd.out.far (p:=⟨w.heap.size,0,none⟩) hne _).far (p:=⟨w.heap.size,1,none⟩) hne _).far (p:=⟨w.heap.size,2,none⟩) hne _
 have q44:((s[k].toNat:Int)==44)=false:=by rw [hc.out];exact byte_no (n:=44) (by omega) hcc
 have n44:=hcc
 clear hcc
 by_cases hcc:c=59
 ·have q59:((s[k].toNat:Int)==59)=true:=by rw [hc.out,hcc];rfl
  have hsn:Hid (signN s[k] (s.data.toList[k+1]?)=some 1):=by unfold Hid;rw [hc.out,hcc];rfl
  clear hcc
  go_enter Tryz.func246,Tryz.ntmps246
  go_upto_region 17 with fail
  obtain ⟨wa,hwa⟩:=nmZ (w.setCell ⟨sb,1,none⟩ (.int .i64 ((k:Int)+1)))
  have hba:Hid (ScanAt wa sb s (k+1)):=by unfold Hid;rw [<-hwa.out];exact hb.out.set_ 1 (.int .i64 ((k:Int)+1))
  have hua:Hid (But sb w wa):=by unfold Hid;rw [<-hwa.out];exact (But.refl sb w).setCell 1 _
  have hsz:Hid (wa.heap.size=w.heap.size):=by unfold Hid;rw [<-hwa.out];simp
  rw [hwa.out]
  have hrb:Hid (Blk (wa.alloc (.cells #[.int .i64 0,.int .i64 0,.string ⟨#[]⟩] 212)) w.heap.size 212 #[.int .i64 0,.int .i64 0,.string ⟨#[]⟩]):=by have:=Blk.new wa 212 #[.int .i64 0,.int .i64 0,.string ⟨#[]⟩];unfold Hid;rwa [hsz.out] at this
  have hbb:Hid (ScanAt (wa.alloc (.cells #[.int .i64 0,.int .i64 0,.string ⟨#[]⟩] 212)) sb s (k+1)):=hba.out.alloc _
  have hub:Hid (But sb w (wa.alloc (.cells #[.int .i64 0,.int .i64 0,.string ⟨#[]⟩] 212))):=hua.out.below ((Below.refl _ wa).alloc leZ _)
  obtain ⟨wb,hwb⟩:=nmZ (wa.alloc (.cells #[.int .i64 0,.int .i64 0,.string ⟨#[]⟩] 212))
  rw [hwb.out] at hrb hbb hub ⊢
  clear hwb hba hua hwa c0 c1 y1
  obtain ⟨c0,c1⟩:=cs2 hbb.out
  have f0:=hrb.out.frozen 0
  have f1:=hrb.out.frozen 1
  have f2:=hrb.out.frozen 2
  obtain ⟨r0,r1,r2⟩:=cs3 hrb.out
  have i3:(k:Int)+1<=(s.size:Int):=by omega
  have i4:(k:Int)<=(k:Int)+1:=by omega
  have hne:sb≠w.heap.size:=by omega
  go_still_tail 12,(by kernel_rfl)
  change wpList _ _ _ _ _ wb.drew
  obtain ⟨wd,hwd⟩:=nmZ (wb.drew)
  have hrd:Hid (Blk wd w.heap.size 212 #[.int .i64 0,.int .i64 0,.string ⟨#[]⟩]):=by unfold Hid;rw [<-hwd.out];exact hrb.out.drew
  have hbd:Hid (ScanAt wd sb s (k+1)):=by unfold Hid;rw [<-hwd.out];exact hbb.out.drew
  have hud:Hid (But sb w wd):=by unfold Hid;rw [<-hwd.out];exact hub.out.below ((Below.refl _ wb).drew)
  rw [hwd.out]
  clear c0 c1 f0 f1 f2 r0 r1 r2
  have f0:=hrd.out.frozen 0
  have f1:=hrd.out.frozen 1
  have f2:=hrd.out.frozen 2
  obtain ⟨r0,r1,r2⟩:=cs3 hrd.out
  go_wp2_with fail
  refine bodyPost_ret (results_row_tmp rfl _ _ w.heap.size 212 _ _ rfl (((hrd.out.set_ 0 _).set_ 1 _).set_ 2 _) Tryz.underlying212 rfl (by kernel_rfl)) rfl ?_
  refine ⟨((hud.out.far leZ _ _).far leZ _ _).far leZ _ _,.inl ⟨1,hsn.out,by omega,rfl,?_⟩⟩
  exact ((hbd.out.far (p:=⟨w.heap.size,0,none⟩) hne _).far (p:=⟨w.heap.size,1,none⟩) hne _).far (p:=⟨w.heap.size,2,none⟩) hne _
 have q59:((s[k].toNat:Int)==59)=false:=by rw [hc.out];exact byte_no (n:=59) (by omega) hcc
 have n59:=hcc
 clear hcc
 by_cases hcc:c=58
 ·have q58:((s[k].toNat:Int)==58)=true:=by rw [hc.out,hcc];rfl
  have hsn:Hid (signN s[k] (s.data.toList[k+1]?)=some 1):=by unfold Hid;rw [hc.out,hcc];rfl
  clear hcc
  go_enter Tryz.func246,Tryz.ntmps246
  go_upto_region 17 with fail
  obtain ⟨wa,hwa⟩:=nmZ (w.setCell ⟨sb,1,none⟩ (.int .i64 ((k:Int)+1)))
  have hba:Hid (ScanAt wa sb s (k+1)):=by unfold Hid;rw [<-hwa.out];exact hb.out.set_ 1 (.int .i64 ((k:Int)+1))
  have hua:Hid (But sb w wa):=by unfold Hid;rw [<-hwa.out];exact (But.refl sb w).setCell 1 _
  have hsz:Hid (wa.heap.size=w.heap.size):=by unfold Hid;rw [<-hwa.out];simp
  rw [hwa.out]
  have hrb:Hid (Blk (wa.alloc (.cells #[.int .i64 0,.int .i64 0,.string ⟨#[]⟩] 212)) w.heap.size 212 #[.int .i64 0,.int .i64 0,.string ⟨#[]⟩]):=by have:=Blk.new wa 212 #[.int .i64 0,.int .i64 0,.string ⟨#[]⟩];unfold Hid;rwa [hsz.out] at this
  have hbb:Hid (ScanAt (wa.alloc (.cells #[.int .i64 0,.int .i64 0,.string ⟨#[]⟩] 212)) sb s (k+1)):=hba.out.alloc _
  have hub:Hid (But sb w (wa.alloc (.cells #[.int .i64 0,.int .i64 0,.string ⟨#[]⟩] 212))):=hua.out.below ((Below.refl _ wa).alloc leZ _)
  obtain ⟨wb,hwb⟩:=nmZ (wa.alloc (.cells #[.int .i64 0,.int .i64 0,.string ⟨#[]⟩] 212))
  rw [hwb.out] at hrb hbb hub ⊢
  clear hwb hba hua hwa c0 c1 y1
  obtain ⟨c0,c1⟩:=cs2 hbb.out
  have f0:=hrb.out.frozen 0
  have f1:=hrb.out.frozen 1
  have f2:=hrb.out.frozen 2
  obtain ⟨r0,r1,r2⟩:=cs3 hrb.out
  have i3:(k:Int)+1<=(s.size:Int):=by omega
  have i4:(k:Int)<=(k:Int)+1:=by omega
  have hne:sb≠w.heap.size:=by omega
  go_still_tail 12,(by kernel_rfl)
  change wpList _ _ _ _ _ wb.drew
  obtain ⟨wd,hwd⟩:=nmZ (wb.drew)
  have hrd:Hid (Blk wd w.heap.size 212 #[.int .i64 0,.int .i64 0,.string ⟨#[]⟩]):=by unfold Hid;rw [<-hwd.out];exact hrb.out.drew
  have hbd:Hid (ScanAt wd sb s (k+1)):=by unfold Hid;rw [<-hwd.out];exact hbb.out.drew
  have hud:Hid (But sb w wd):=by unfold Hid;rw [<-hwd.out];exact hub.out.below ((Below.refl _ wb).drew)
  rw [hwd.out]
  clear c0 c1 f0 f1 f2 r0 r1 r2
  have f0:=hrd.out.frozen 0
  have f1:=hrd.out.frozen 1
  have f2:=hrd.out.frozen 2
  obtain ⟨r0,r1,r2⟩:=cs3 hrd.out
  go_wp2_with fail
  refine bodyPost_ret (results_row_tmp rfl _ _ w.heap.size 212 _ _ rfl (((hrd.out.set_ 0 _).set_ 1 _).set_ 2 _) Tryz.underlying212 rfl (by kernel_rfl)) rfl ?_
  refine ⟨((hud.out.far leZ _ _).far leZ _ _).far leZ _ _,.inl ⟨1,hsn.out,by omega,rfl,?_⟩⟩
  exact ((hbd.out.far (p:=⟨w.heap.size,0,none⟩) hne _).far (p:=⟨w.heap.size,1,none⟩) hne _).far (p:=⟨w.heap.size,2,none⟩) hne _
 have q58:((s[k].toNat:Int)==58)=false:=by rw [hc.out];exact byte_no (n:=58) (by omega) hcc
 have n58:=hcc
 clear hcc
 by_cases hcc:c=46
 ·have q46:((s[k].toNat:Int)==46)=true:=by rw [hc.out,hcc];rfl
  have hsn:Hid (signN s[k] (s.data.toList[k+1]?)=some 1):=by unfold Hid;rw [hc.out,hcc];rfl
  clear hcc
  go_enter Tryz.func246,Tryz.ntmps246
  go_upto_region 17 with fail
  obtain ⟨wa,hwa⟩:=nmZ (w.setCell ⟨sb,1,none⟩ (.int .i64 ((k:Int)+1)))
  have hba:Hid (ScanAt wa sb s (k+1)):=by unfold Hid;rw [<-hwa.out];exact hb.out.set_ 1 (.int .i64 ((k:Int)+1))
  have hua:Hid (But sb w wa):=by unfold Hid;rw [<-hwa.out];exact (But.refl sb w).setCell 1 _
  have hsz:Hid (wa.heap.size=w.heap.size):=by unfold Hid;rw [<-hwa.out];simp
  rw [hwa.out]
  have hrb:Hid (Blk (wa.alloc (.cells #[.int .i64 0,.int .i64 0,.string ⟨#[]⟩] 212)) w.heap.size 212 #[.int .i64 0,.int .i64 0,.string ⟨#[]⟩]):=by have:=Blk.new wa 212 #[.int .i64 0,.int .i64 0,.string ⟨#[]⟩];unfold Hid;rwa [hsz.out] at this
  have hbb:Hid (ScanAt (wa.alloc (.cells #[.int .i64 0,.int .i64 0,.string ⟨#[]⟩] 212)) sb s (k+1)):=hba.out.alloc _
  have hub:Hid (But sb w (wa.alloc (.cells #[.int .i64 0,.int .i64 0,.string ⟨#[]⟩] 212))):=hua.out.below ((Below.refl _ wa).alloc leZ _)
  obtain ⟨wb,hwb⟩:=nmZ (wa.alloc (.cells #[.int .i64 0,.int .i64 0,.string ⟨#[]⟩] 212))
  rw [hwb.out] at hrb hbb hub ⊢
  clear hwb hba hua hwa c0 c1 y1
  obtain ⟨c0,c1⟩:=cs2 hbb.out
  have f0:=hrb.out.frozen 0
  have f1:=hrb.out.frozen 1
  have f2:=hrb.out.frozen 2
  obtain ⟨r0,r1,r2⟩:=cs3 hrb.out
  have i3:(k:Int)+1<=(s.size:Int):=by omega
  have i4:(k:Int)<=(k:Int)+1:=by omega
  have hne:sb≠w.heap.size:=by omega
  go_still_tail 12,(by kernel_rfl)
  change wpList _ _ _ _ _ wb.drew
  obtain ⟨wd,hwd⟩:=nmZ (wb.drew)
  have hrd:Hid (Blk wd w.heap.size 212 #[.int .i64 0,.int .i64 0,.string ⟨#[]⟩]):=by unfold Hid;rw [<-hwd.out];exact hrb.out.drew
  have hbd:Hid (ScanAt wd sb s (k+1)):=by unfold Hid;rw [<-hwd.out];exact hbb.out.drew
  have hud:Hid (But sb w wd):=by unfold Hid;rw [<-hwd.out];exact hub.out.below ((Below.refl _ wb).drew)
  rw [hwd.out]
  clear c0 c1 f0 f1 f2 r0 r1 r2
  have f0:=hrd.out.frozen 0
  have f1:=hrd.out.frozen 1
  have f2:=hrd.out.frozen 2
  obtain ⟨r0,r1,r2⟩:=cs3 hrd.out
  go_wp2_with fail
  refine bodyPost_ret (results_row_tmp rfl _ _ w.heap.size 212 _ _ rfl (((hrd.out.set_ 0 _).set_ 1 _).set_ 2 _) Tryz.underlying212 rfl (by kernel_rfl)) rfl ?_
  refine ⟨((hud.out.far leZ _ _).far leZ _ _).far leZ _ _,.inl ⟨1,hsn.out,by omega,rfl,?_⟩⟩
  exact ((hbd.out.far (p:=⟨w.heap.size,0,none⟩) hne _).far (p:=⟨w.heap.size,1,none⟩) hne _).far (p:=⟨w.heap.size,2,none⟩) hne _
 have q46:((s[k].toNat:Int)==46)=false:=by rw [hc.out];exact byte_no (n:=46) (by omega) hcc
 have n46:=hcc
 clear hcc
 by_cases hcc:c=61
 ·have q61:((s[k].toNat:Int)==61)=true:=by rw [hc.out,hcc];rfl
  have hsn:Hid (signN s[k] (s.data.toList[k+1]?)=some 1):=by unfold Hid;rw [hc.out,hcc];rfl
  clear hcc
  go_enter Tryz.func246,Tryz.ntmps246
  go_upto_region 17 with fail
  obtain ⟨wa,hwa⟩:=nmZ (w.setCell ⟨sb,1,none⟩ (.int .i64 ((k:Int)+1)))
  have hba:Hid (ScanAt wa sb s (k+1)):=by unfold Hid;rw [<-hwa.out];exact hb.out.set_ 1 (.int .i64 ((k:Int)+1))
  have hua:Hid (But sb w wa):=by unfold Hid;rw [<-hwa.out];exact (But.refl sb w).setCell 1 _
  have hsz:Hid (wa.heap.size=w.heap.size):=by unfold Hid;rw [<-hwa.out];simp
  rw [hwa.out]
  have hrb:Hid (Blk (wa.alloc (.cells #[.int .i64 0,.int .i64 0,.string ⟨#[]⟩] 212)) w.heap.size 212 #[.int .i64 0,.int .i64 0,.string ⟨#[]⟩]):=by have:=Blk.new wa 212 #[.int .i64 0,.int .i64 0,.string ⟨#[]⟩];unfold Hid;rwa [hsz.out] at this
  have hbb:Hid (ScanAt (wa.alloc (.cells #[.int .i64 0,.int .i64 0,.string ⟨#[]⟩] 212)) sb s (k+1)):=hba.out.alloc _
  have hub:Hid (But sb w (wa.alloc (.cells #[.int .i64 0,.int .i64 0,.string ⟨#[]⟩] 212))):=hua.out.below ((Below.refl _ wa).alloc leZ _)
  obtain ⟨wb,hwb⟩:=nmZ (wa.alloc (.cells #[.int .i64 0,.int .i64 0,.string ⟨#[]⟩] 212))
  rw [hwb.out] at hrb hbb hub ⊢
  clear hwb hba hua hwa c0 c1 y1
  obtain ⟨c0,c1⟩:=cs2 hbb.out
  have f0:=hrb.out.frozen 0
  have f1:=hrb.out.frozen 1
  have f2:=hrb.out.frozen 2
  obtain ⟨r0,r1,r2⟩:=cs3 hrb.out
  have i3:(k:Int)+1<=(s.size:Int):=by omega
  have i4:(k:Int)<=(k:Int)+1:=by omega
  have hne:sb≠w.heap.size:=by omega
  go_still_tail 12,(by kernel_rfl)
  change wpList _ _ _ _ _ wb.drew
  obtain ⟨wd,hwd⟩:=nmZ (wb.drew)
  have hrd:Hid (Blk wd w.heap.size 212 #[.int .i64 0,.int .i64 0,.string ⟨#[]⟩]):=by unfold Hid;rw [<-hwd.out];exact hrb.out.drew
  have hbd:Hid (ScanAt wd sb s (k+1)):=by unfold Hid;rw [<-hwd.out];exact hbb.out.drew
  have hud:Hid (But sb w wd):=by unfold Hid;rw [<-hwd.out];exact hub.out.below ((Below.refl _ wb).drew)
  rw [hwd.out]
  clear c0 c1 f0 f1 f2 r0 r1 r2
  have f0:=hrd.out.frozen 0
  have f1:=hrd.out.frozen 1
  have f2:=hrd.out.frozen 2
  obtain ⟨r0,r1,r2⟩:=cs3 hrd.out
  go_wp2_with fail
  refine bodyPost_ret (results_row_tmp rfl _ _ w.heap.size 212 _ _ rfl (((hrd.out.set_ 0 _).set_ 1 _).set_ 2 _) Tryz.underlying212 rfl (by kernel_rfl)) rfl ?_
  refine ⟨((hud.out.far leZ _ _).far leZ _ _).far leZ _ _,.inl ⟨1,hsn.out,by omega,rfl,?_⟩⟩
  exact ((hbd.out.far (p:=⟨w.heap.size,0,none⟩) hne _).far (p:=⟨w.heap.size,1,none⟩) hne _).far (p:=⟨w.heap.size,2,none⟩) hne _
 have q61:((s[k].toNat:Int)==61)=false:=by rw [hc.out];exact byte_no (n:=61) (by omega) hcc
 have n61:=hcc
 clear hcc
 by_cases hcc:c=126
 ·have q126:((s[k].toNat:Int)==126)=true:=by rw [hc.out,hcc];rfl
  have hsn:Hid (signN s[k] (s.data.toList[k+1]?)=some 1):=by unfold Hid;rw [hc.out,hcc];rfl
  clear hcc
  go_enter Tryz.func246,Tryz.ntmps246
  go_upto_region 17 with fail
  obtain ⟨wa,hwa⟩:=nmZ (w.setCell ⟨sb,1,none⟩ (.int .i64 ((k:Int)+1)))
  have hba:Hid (ScanAt wa sb s (k+1)):=by unfold Hid;rw [<-hwa.out];exact hb.out.set_ 1 (.int .i64 ((k:Int)+1))
  have hua:Hid (But sb w wa):=by unfold Hid;rw [<-hwa.out];exact (But.refl sb w).setCell 1 _
  have hsz:Hid (wa.heap.size=w.heap.size):=by unfold Hid;rw [<-hwa.out];simp
  rw [hwa.out]
  have hrb:Hid (Blk (wa.alloc (.cells #[.int .i64 0,.int .i64 0,.string ⟨#[]⟩] 212)) w.heap.size 212 #[.int .i64 0,.int .i64 0,.string ⟨#[]⟩]):=by have:=Blk.new wa 212 #[.int .i64 0,.int .i64 0,.string ⟨#[]⟩];unfold Hid;rwa [hsz.out] at this
  have hbb:Hid (ScanAt (wa.alloc (.cells #[.int .i64 0,.int .i64 0,.string ⟨#[]⟩] 212)) sb s (k+1)):=hba.out.alloc _
  have hub:Hid (But sb w (wa.alloc (.cells #[.int .i64 0,.int .i64 0,.string ⟨#[]⟩] 212))):=hua.out.below ((Below.refl _ wa).alloc leZ _)
  obtain ⟨wb,hwb⟩:=nmZ (wa.alloc (.cells #[.int .i64 0,.int .i64 0,.string ⟨#[]⟩] 212))
  rw [hwb.out] at hrb hbb hub ⊢
  clear hwb hba hua hwa c0 c1 y1
  obtain ⟨c0,c1⟩:=cs2 hbb.out
  have f0:=hrb.out.frozen 0
  have f1:=hrb.out.frozen 1
  have f2:=hrb.out.frozen 2
  obtain ⟨r0,r1,r2⟩:=cs3 hrb.out
  have i3:(k:Int)+1<=(s.size:Int):=by omega
  have i4:(k:Int)<=(k:Int)+1:=by omega
  have hne:sb≠w.heap.size:=by omega
  go_still_tail 12,(by kernel_rfl)
  change wpList _ _ _ _ _ wb.drew
  obtain ⟨wd,hwd⟩:=nmZ (wb.drew)
  have hrd:Hid (Blk wd w.heap.size 212 #[.int .i64 0,.int .i64 0,.string ⟨#[]⟩]):=by unfold Hid;rw [<-hwd.out];exact hrb.out.drew
  have hbd:Hid (ScanAt wd sb s (k+1)):=by unfold Hid;rw [<-hwd.out];exact hbb.out.drew
  have hud:Hid (But sb w wd):=by unfold Hid;rw [<-hwd.out];exact hub.out.below ((Below.refl _ wb).drew)
  rw [hwd.out]
  clear c0 c1 f0 f1 f2 r0 r1 r2
  have f0:=hrd.out.frozen 0
  have f1:=hrd.out.frozen 1
  have f2:=hrd.out.frozen 2
  obtain ⟨r0,r1,r2⟩:=cs3 hrd.out
  go_wp2_with fail
  refine bodyPost_ret (results_row_tmp rfl _ _ w.heap.size 212 _ _ rfl (((hrd.out.set_ 0 _).set_ 1 _).set_ 2 _) Tryz.underlying212 rfl (by kernel_rfl)) rfl ?_
  refine ⟨((hud.out.far leZ _ _).far leZ _ _).far leZ _ _,.inl ⟨1,hsn.out,by omega,rfl,?_⟩⟩
  exact ((hbd.out.far (p:=⟨w.heap.size,0,none⟩) hne _).far (p:=⟨w.heap.size,1,none⟩) hne _).far (p:=⟨w.heap.size,2,none⟩) hne _
 have q126:((s[k].toNat:Int)==126)=false:=by rw [hc.out];exact byte_no (n:=126) (by omega) hcc
 have n126:=hcc
 clear hcc
 have hone:Hid (oneSigns.contains c=false):=by
  unfold Hid oneSigns
  simp [n40,n41,n44,n59,n58,n46,n61,n126]
 by_cases hcc:c=60
 ·have q60:((s[k].toNat:Int)==60)=true:=by rw [hc.out,hcc];rfl
  by_cases hlt:k+1<s.size
  ·by_cases h61:s[k+1]=61
   ·have hk1:k+1<s.size:=hlt
    have w2:IntKind.i64.wrap ((k:Int)+2)=(k:Int)+2:=IntWalk.i64_in _ (by omega)
    have j1:decide ((s.size:Int)<=(k:Int)+1)=false:=by simp;omega
    have j2:(k:Int)+1<(s.size:Int):=by omega
    have j3:(0:Int)<=(k:Int)+1:=by omega
    have q61:((s[k+1].toNat:Int) != 61)=false:=by rw [h61];rfl
    have hsn:Hid (signN s[k] (s.data.toList[k+1]?)=some 2):=by
     unfold Hid signN
     rw [hc.out,if_neg (by rw [hone.out];simp),if_pos ⟨by simp [hcc],by rw [next_byte hlt,h61]⟩]
    clear hcc h61
    go_enter Tryz.func246,Tryz.ntmps246
    go_upto_region 17 with fail
    obtain ⟨wa,hwa⟩:=nmZ (w.setCell ⟨sb,1,none⟩ (.int .i64 ((k:Int)+2)))
    have hba:Hid (ScanAt wa sb s (k+2)):=by unfold Hid;rw [<-hwa.out];exact hb.out.set_ 1 (.int .i64 ((k:Int)+2))
    have hua:Hid (But sb w wa):=by unfold Hid;rw [<-hwa.out];exact (But.refl sb w).setCell 1 _
    have hsz:Hid (wa.heap.size=w.heap.size):=by unfold Hid;rw [<-hwa.out];simp
    rw [hwa.out]
    have hrb:Hid (Blk (wa.alloc (.cells #[.int .i64 0,.int .i64 0,.string ⟨#[]⟩] 212)) w.heap.size 212 #[.int .i64 0,.int .i64 0,.string ⟨#[]⟩]):=by have:=Blk.new wa 212 #[.int .i64 0,.int .i64 0,.string ⟨#[]⟩];unfold Hid;rwa [hsz.out] at this
    have hbb:Hid (ScanAt (wa.alloc (.cells #[.int .i64 0,.int .i64 0,.string ⟨#[]⟩] 212)) sb s (k+2)):=hba.out.alloc _
    have hub:Hid (But sb w (wa.alloc (.cells #[.int .i64 0,.int .i64 0,.string ⟨#[]⟩] 212))):=hua.out.below ((Below.refl _ wa).alloc leZ _)
    obtain ⟨wb,hwb⟩:=nmZ (wa.alloc (.cells #[.int .i64 0,.int .i64 0,.string ⟨#[]⟩] 212))
    rw [hwb.out] at hrb hbb hub ⊢
    clear hwb hba hua hwa c0 c1 y1
    obtain ⟨c0,c1⟩:=cs2 hbb.out
    have f0:=hrb.out.frozen 0
    have f1:=hrb.out.frozen 1
    have f2:=hrb.out.frozen 2
    obtain ⟨r0,r1,r2⟩:=cs3 hrb.out
    have i3:(k:Int)+2<=(s.size:Int):=by omega
    have i4:(k:Int)<=(k:Int)+2:=by omega
    have hne:sb≠w.heap.size:=by omega
    go_still_tail 12,(by kernel_rfl)
    change wpList _ _ _ _ _ wb.drew
    obtain ⟨wd,hwd⟩:=nmZ (wb.drew)
    have hrd:Hid (Blk wd w.heap.size 212 #[.int .i64 0,.int .i64 0,.string ⟨#[]⟩]):=by unfold Hid;rw [<-hwd.out];exact hrb.out.drew
    have hbd:Hid (ScanAt wd sb s (k+2)):=by unfold Hid;rw [<-hwd.out];exact hbb.out.drew
    have hud:Hid (But sb w wd):=by unfold Hid;rw [<-hwd.out];exact hub.out.below ((Below.refl _ wb).drew)
    rw [hwd.out]
    clear c0 c1 f0 f1 f2 r0 r1 r2
    have f0:=hrd.out.frozen 0
    have f1:=hrd.out.frozen 1
    have f2:=hrd.out.frozen 2
    obtain ⟨r0,r1,r2⟩:=cs3 hrd.out
    go_wp2_with fail
    refine bodyPost_ret (results_row_tmp rfl _ _ w.heap.size 212 _ _ rfl (((hrd.out.set_ 0 _).set_ 1 _).set_ 2 _) Tryz.underlying212 rfl (by kernel_rfl)) rfl ?_
    refine ⟨((hud.out.far leZ _ _).far leZ _ _).far leZ _ _,.inl ⟨2,hsn.out,by omega,rfl,?_⟩⟩
    exact ((hbd.out.far (p:=⟨w.heap.size,0,none⟩) hne _).far (p:=⟨w.heap.size,1,none⟩) hne _).far (p:=⟨w.heap.size,2,none⟩) hne _
   ·have j1:decide ((s.size:Int)<=(k:Int)+1)=false:=by simp;omega
    have j2:(k:Int)+1<(s.size:Int):=by omega
    have j3:(0:Int)<=(k:Int)+1:=by omega
    have q61:((s[k+1].toNat:Int) != 61)=true:=by
     simp only [bne_iff_ne,ne_eq];intro h;exact h61 (UInt8.toNat_inj.1 (by simpa using (by omega:s[k+1].toNat=61)))
    have hsn:Hid (signN s[k] (s.data.toList[k+1]?)=none):=by
     unfold Hid signN
     rw [hc.out,if_neg (by rw [hone.out];simp),if_neg (fun h=>h61 (by have:=h.2;rw [next_byte hlt] at this;exact Option.some.inj this))]
    clear hcc h61
    go_enter Tryz.func246,Tryz.ntmps246
    go_wp2_with fail
    have hrb:Hid (Blk (w.alloc (.cells #[.int .i64 0,.int .i64 0,.string ⟨#[]⟩] 212)) w.heap.size 212 #[.int .i64 0,.int .i64 0,.string ⟨#[]⟩]):=Blk.new w 212 _
    have hub:Hid (But sb w (w.alloc (.cells #[.int .i64 0,.int .i64 0,.string ⟨#[]⟩] 212))):=(But.refl sb w).below ((Below.refl _ w).alloc leZ _)
    refine bodyPost_ret (results_row_tmp rfl _ _ w.heap.size 212 _ _ rfl hrb.out Tryz.underlying212 rfl (by kernel_rfl)) rfl ?_
    exact ⟨hub.out,.inr ⟨hsn.out,rfl⟩⟩
  ·have j1:decide ((s.size:Int)<=(k:Int)+1)=true:=by simp;omega
   have hsn:Hid (signN s[k] (s.data.toList[k+1]?)=none):=by
    unfold Hid signN
    rw [hc.out,if_neg (by rw [hone.out];simp),if_neg (fun h=>by have:=h.2;rw [List.getElem?_eq_none (by simp;omega)] at this;cases this)]
   clear hcc
   go_enter Tryz.func246,Tryz.ntmps246
   go_wp2_with fail
   have hrb:Hid (Blk (w.alloc (.cells #[.int .i64 0,.int .i64 0,.string ⟨#[]⟩] 212)) w.heap.size 212 #[.int .i64 0,.int .i64 0,.string ⟨#[]⟩]):=Blk.new w 212 _
   have hub:Hid (But sb w (w.alloc (.cells #[.int .i64 0,.int .i64 0,.string ⟨#[]⟩] 212))):=(But.refl sb w).below ((Below.refl _ w).alloc leZ _)
   refine bodyPost_ret (results_row_tmp rfl _ _ w.heap.size 212 _ _ rfl hrb.out Tryz.underlying212 rfl (by kernel_rfl)) rfl ?_
   exact ⟨hub.out,.inr ⟨hsn.out,rfl⟩⟩
 have q60:((s[k].toNat:Int)==60)=false:=by rw [hc.out];exact byte_no (n:=60) (by omega) hcc
 have n60:=hcc
 clear hcc
 by_cases hcc:c=62
 ·have q62:((s[k].toNat:Int)==62)=true:=by rw [hc.out,hcc];rfl
  by_cases hlt:k+1<s.size
  ·by_cases h61:s[k+1]=61
   ·have hk1:k+1<s.size:=hlt
    have w2:IntKind.i64.wrap ((k:Int)+2)=(k:Int)+2:=IntWalk.i64_in _ (by omega)
    have j1:decide ((s.size:Int)<=(k:Int)+1)=false:=by simp;omega
    have j2:(k:Int)+1<(s.size:Int):=by omega
    have j3:(0:Int)<=(k:Int)+1:=by omega
    have q61:((s[k+1].toNat:Int) != 61)=false:=by rw [h61];rfl
    have hsn:Hid (signN s[k] (s.data.toList[k+1]?)=some 2):=by
     unfold Hid signN
     rw [hc.out,if_neg (by rw [hone.out];simp),if_pos ⟨by simp [hcc],by rw [next_byte hlt,h61]⟩]
    clear hcc h61
    go_enter Tryz.func246,Tryz.ntmps246
    go_upto_region 17 with fail
    obtain ⟨wa,hwa⟩:=nmZ (w.setCell ⟨sb,1,none⟩ (.int .i64 ((k:Int)+2)))
    have hba:Hid (ScanAt wa sb s (k+2)):=by unfold Hid;rw [<-hwa.out];exact hb.out.set_ 1 (.int .i64 ((k:Int)+2))
    have hua:Hid (But sb w wa):=by unfold Hid;rw [<-hwa.out];exact (But.refl sb w).setCell 1 _
    have hsz:Hid (wa.heap.size=w.heap.size):=by unfold Hid;rw [<-hwa.out];simp
    rw [hwa.out]
    have hrb:Hid (Blk (wa.alloc (.cells #[.int .i64 0,.int .i64 0,.string ⟨#[]⟩] 212)) w.heap.size 212 #[.int .i64 0,.int .i64 0,.string ⟨#[]⟩]):=by have:=Blk.new wa 212 #[.int .i64 0,.int .i64 0,.string ⟨#[]⟩];unfold Hid;rwa [hsz.out] at this
    have hbb:Hid (ScanAt (wa.alloc (.cells #[.int .i64 0,.int .i64 0,.string ⟨#[]⟩] 212)) sb s (k+2)):=hba.out.alloc _
    have hub:Hid (But sb w (wa.alloc (.cells #[.int .i64 0,.int .i64 0,.string ⟨#[]⟩] 212))):=hua.out.below ((Below.refl _ wa).alloc leZ _)
    obtain ⟨wb,hwb⟩:=nmZ (wa.alloc (.cells #[.int .i64 0,.int .i64 0,.string ⟨#[]⟩] 212))
    rw [hwb.out] at hrb hbb hub ⊢
    clear hwb hba hua hwa c0 c1 y1
    obtain ⟨c0,c1⟩:=cs2 hbb.out
    have f0:=hrb.out.frozen 0
    have f1:=hrb.out.frozen 1
    have f2:=hrb.out.frozen 2
    obtain ⟨r0,r1,r2⟩:=cs3 hrb.out
    have i3:(k:Int)+2<=(s.size:Int):=by omega
    have i4:(k:Int)<=(k:Int)+2:=by omega
    have hne:sb≠w.heap.size:=by omega
    go_still_tail 12,(by kernel_rfl)
    change wpList _ _ _ _ _ wb.drew
    obtain ⟨wd,hwd⟩:=nmZ (wb.drew)
    have hrd:Hid (Blk wd w.heap.size 212 #[.int .i64 0,.int .i64 0,.string ⟨#[]⟩]):=by unfold Hid;rw [<-hwd.out];exact hrb.out.drew
    have hbd:Hid (ScanAt wd sb s (k+2)):=by unfold Hid;rw [<-hwd.out];exact hbb.out.drew
    have hud:Hid (But sb w wd):=by unfold Hid;rw [<-hwd.out];exact hub.out.below ((Below.refl _ wb).drew)
    rw [hwd.out]
    clear c0 c1 f0 f1 f2 r0 r1 r2
    have f0:=hrd.out.frozen 0
    have f1:=hrd.out.frozen 1
    have f2:=hrd.out.frozen 2
    obtain ⟨r0,r1,r2⟩:=cs3 hrd.out
    go_wp2_with fail
    refine bodyPost_ret (results_row_tmp rfl _ _ w.heap.size 212 _ _ rfl (((hrd.out.set_ 0 _).set_ 1 _).set_ 2 _) Tryz.underlying212 rfl (by kernel_rfl)) rfl ?_
    refine ⟨((hud.out.far leZ _ _).far leZ _ _).far leZ _ _,.inl ⟨2,hsn.out,by omega,rfl,?_⟩⟩
    exact ((hbd.out.far (p:=⟨w.heap.size,0,none⟩) hne _).far (p:=⟨w.heap.size,1,none⟩) hne _).far (p:=⟨w.heap.size,2,none⟩) hne _
   ·have j1:decide ((s.size:Int)<=(k:Int)+1)=false:=by simp;omega
    have j2:(k:Int)+1<(s.size:Int):=by omega
    have j3:(0:Int)<=(k:Int)+1:=by omega
    have q61:((s[k+1].toNat:Int) != 61)=true:=by
     simp only [bne_iff_ne,ne_eq];intro h;exact h61 (UInt8.toNat_inj.1 (by simpa using (by omega:s[k+1].toNat=61)))
    have hsn:Hid (signN s[k] (s.data.toList[k+1]?)=none):=by
     unfold Hid signN
     rw [hc.out,if_neg (by rw [hone.out];simp),if_neg (fun h=>h61 (by have:=h.2;rw [next_byte hlt] at this;exact Option.some.inj this))]
    clear hcc h61
    go_enter Tryz.func246,Tryz.ntmps246
    go_wp2_with fail
    have hrb:Hid (Blk (w.alloc (.cells #[.int .i64 0,.int .i64 0,.string ⟨#[]⟩] 212)) w.heap.size 212 #[.int .i64 0,.int .i64 0,.string ⟨#[]⟩]):=Blk.new w 212 _
    have hub:Hid (But sb w (w.alloc (.cells #[.int .i64 0,.int .i64 0,.string ⟨#[]⟩] 212))):=(But.refl sb w).below ((Below.refl _ w).alloc leZ _)
    refine bodyPost_ret (results_row_tmp rfl _ _ w.heap.size 212 _ _ rfl hrb.out Tryz.underlying212 rfl (by kernel_rfl)) rfl ?_
    exact ⟨hub.out,.inr ⟨hsn.out,rfl⟩⟩
  ·have j1:decide ((s.size:Int)<=(k:Int)+1)=true:=by simp;omega
   have hsn:Hid (signN s[k] (s.data.toList[k+1]?)=none):=by
    unfold Hid signN
    rw [hc.out,if_neg (by rw [hone.out];simp),if_neg (fun h=>by have:=h.2;rw [List.getElem?_eq_none (by simp;omega)] at this;cases this)]
   clear hcc
   go_enter Tryz.func246,Tryz.ntmps246
   go_wp2_with fail
   have hrb:Hid (Blk (w.alloc (.cells #[.int .i64 0,.int .i64 0,.string ⟨#[]⟩] 212)) w.heap.size 212 #[.int .i64 0,.int .i64 0,.string ⟨#[]⟩]):=Blk.new w 212 _
   have hub:Hid (But sb w (w.alloc (.cells #[.int .i64 0,.int .i64 0,.string ⟨#[]⟩] 212))):=(But.refl sb w).below ((Below.refl _ w).alloc leZ _)
   refine bodyPost_ret (results_row_tmp rfl _ _ w.heap.size 212 _ _ rfl hrb.out Tryz.underlying212 rfl (by kernel_rfl)) rfl ?_
   exact ⟨hub.out,.inr ⟨hsn.out,rfl⟩⟩
 have q62:((s[k].toNat:Int)==62)=false:=by rw [hc.out];exact byte_no (n:=62) (by omega) hcc
 have n62:=hcc
 clear hcc
 have hsn:Hid (signN s[k] (s.data.toList[k+1]?)=none):=by
  unfold Hid signN
  rw [hc.out,if_neg (by rw [hone.out];simp),if_neg (fun h=>by rcases h.1 with h | h;exact n60 h;exact n62 h)]
 go_enter Tryz.func246,Tryz.ntmps246
 go_wp2_with fail
 have hrb:Hid (Blk (w.alloc (.cells #[.int .i64 0,.int .i64 0,.string ⟨#[]⟩] 212)) w.heap.size 212 #[.int .i64 0,.int .i64 0,.string ⟨#[]⟩]):=Blk.new w 212 _
 have hub:Hid (But sb w (w.alloc (.cells #[.int .i64 0,.int .i64 0,.string ⟨#[]⟩] 212))):=(But.refl sb w).below ((Below.refl _ w).alloc leZ _)
 refine bodyPost_ret (results_row_tmp rfl _ _ w.heap.size 212 _ _ rfl hrb.out Tryz.underlying212 rfl (by kernel_rfl)) rfl ?_
 exact ⟨hub.out,.inr ⟨hsn.out,rfl⟩⟩
end Go.Proofs.YtdjmckjbibfecaaGreatDoor.Sh

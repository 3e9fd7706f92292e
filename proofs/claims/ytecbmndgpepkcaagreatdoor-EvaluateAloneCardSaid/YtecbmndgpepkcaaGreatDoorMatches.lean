/- Contracts that the law rests on, each under the premises that it names. -/
import Derived.Test.YtecbmndgpepkcaaGreatDoorG01
namespace Go.Proofs.YtecbmndgpepkcaaGreatDoor
open Tryz
set_option maxHeartbeats 8000000
set_option maxRecDepth 100000
open Go.RowKit
theorem zhh{w0 w:World}{b n p d:Nat}(h:qr w0 b n p d w)(h3:p+d<=100000):
 Calls prog 41 #[.pointer (some ⟨b,0,none⟩)] w (zcM 60 (zA w0 b n p (d+10) w)):=by
 have hwb:w.heap.size≠b:=IG;have hws:=h.size;have H:=za h;clear h;go_enter func41,ntmps41;go_wp2_with fail
 with_reducible refine(QO (n:=n) (p:=p) _ (H.out.alloc _) zb zb zb).mono ?_
 rintro e w1 ⟨r,r0,r1,rfl,hT1⟩;have H1:=za hT1;clear hT1
 go_upto_if 6 with fail
 go_cut [3]from 4 to 6 (fun s3 wx=>∃o:Int,s3=.int .i64 o/\1<=o/\o<=2/\w1=wx)
 case first=>
  go_wp2
  · go_meet;exact⟨2,rfl,zb,zb,rfl⟩
  · go_meet;exact⟨1,rfl,zb,zb,rfl⟩
 case rest=>
 obtain⟨o,rfl,ho1,ho2,rfl⟩:=hcut;clear r0 r1;go_wp2_with fail
 with_reducible refine(QO (n:=n) (p:=p) _ H1.out.st zb zb zb).mono ?_
 rintro e w2 ⟨r2,r0,r1,rfl,hT2⟩;have HT:=za (H1.out.trans hT2);clear hT2;have hr:r2=0∨r2=1∨r2=2∨r2=3∨r2=4∨r2=5∨r2=6∨r2=7∨r2=8∨r2=9∨r2=10∨r2=11∨r2=12∨r2=13∨r2=14∨r2=15:=zb;clear r0 r1;rcases hr with rfl|rfl|rfl|rfl|rfl|rfl|rfl|rfl|rfl|rfl|rfl|rfl|rfl|rfl|rfl|rfl
 all_goals
  go_wp2_with (first|(go_at_call 17;(with_reducible refine(QO (n:=n) (p:=p) _ HT.out.st zb zb zb).mono ?_);rintro e wN ⟨q,q0,q1,rfl,hT⟩;have HT:=za (HT.out.trans hT);clear hT)|(go_at_call 18;(with_reducible refine(VW (n:=n) (p:=p) 60 _ _ _ _ _ HT.out.st zi zl zi zi zl zb).mono ?_);rintro e wN ⟨s,hs,rfl,hT⟩;have HT:=za (HT.out.trans hT);clear hT)|(refine wpList_store_row rfl 52 _ _ rfl _ _ rfl rfl _ _ (HT.out.blk (i5 w _) hwb) Ok rfl qP ?_))
 all_goals
  refine Yx rfl zk (HT.out.blk (i5 w _) hwb) underlying52 rfl Ok zk ?_;exact⟨⟨_,_,_,_⟩,⟨Mz,Mz,zl,zl,JD,JD⟩,rfl,((zA.alloc HT.out).more zb).setRow zo hws _⟩
end Go.Proofs.YtecbmndgpepkcaaGreatDoor

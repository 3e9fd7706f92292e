/- Contracts that the law rests on, each under the premises that it names. -/
import Derived.Test.YtecbmndgpepkcaaGreatDoorG01
namespace Go.Proofs.YtecbmndgpepkcaaGreatDoor
open Tryz
set_option maxHeartbeats 8000000
set_option maxRecDepth 100000
open Go.RowKit
theorem zdQ{w0 w:World}{b n p d:Nat}(h:qr w0 b n p d w)(h3:p+d<=100000)
 (hF0:∀W1,Below w.heap.size w W1->Calls prog 17 #[.pointer (some ⟨b,0,none⟩),.int .i64 14] W1 fun e w'=>e=.returned (.int .i64 4)/\zA w0 b n p (d+1) W1 w'):
 Calls prog 14 #[.pointer (some ⟨b,0,none⟩)] w (Oe 60 (zA w0 b n p (d+10) w)):=by
 have hwb:w.heap.size≠b:=IG;have hws:=h.size;have HF0:=za hF0;clear h hF0;go_enter func14,ntmps14;go_wp2_with fail
 with_reducible refine(HF0.out _ Zc).mono ?_
 rintro e w2 ⟨rfl,hT2⟩;have HT:=za hT2;clear hT2;have hb2:b<w2.heap.size:=yb;have hw2c:w2.heap.size+1≠b:=zb;have hw2b:w2.heap.size≠b:=zb;obtain⟨q,q0,q1,hF⟩:=J9 2 HT.out.st zb zb zb;obtain⟨j,rfl⟩:=Int.eq_ofNat_of_zero_le q0;have hj:j<2:=zb;obtain⟨v,v0,v1,hA⟩:=jW (lo:=3) (hi:=6) (A:=#[.int .i64 3,.int .i64 6]) (j:=j) zi hj;have hA3:([.int .i64 3,.int .i64 6]:List Value)[j]'hj=.int .i64 v:=jc;have HF:=za hF;clear hF q0;go_wp2
 go_region_with (first
  |(go_at_call 17;(with_reducible refine(HF.out _ Zc).mono ?_);rintro e wN ⟨rfl,hT⟩;have hzN:=hT.gr.size;have hzn:w2.heap.size<=wN.heap.size:=(by(try simp at hzN);omega);(first
      |(have hv:=zd (j:=j) (u:=.int .i64 v) (hT.stay _ _ (i5 w2 _) hw2b) hA;have hz:=zh (hT.stay _ _ (i5 w2 _) hw2b))
      |(have hv:=zd (j:=j) (u:=.int .i64 v) (hT.stay _ _ (heap_alloc2_old w2 _ _) hw2b) hA;have hz:=zh (hT.stay _ _ (heap_alloc2_old w2 _ _) hw2b);have HR:=za (hT.stay _ _ (heap_alloc2_new w2 _ _) hw2c))
      |(have hv:=zd (j:=j) (u:=.int .i64 v) (hT.stay _ _ (heap_alloc2_new w2 _ _) hw2c) hA;have hz:=zh (hT.stay _ _ (heap_alloc2_new w2 _ _) hw2c);have HR:=za (hT.stay _ _ (heap_alloc2_old w2 _ _) hw2b))
      |(have HR:=za (hT.stay _ _ (i5 w2 _) hw2b))
      |skip);have HT:=za (HT.out.trans (hT.of_below Zc));clear hT)
  |(go_at_call 18;(with_reducible refine(IU (n:=n) (p:=p) 60 _ _ _ _ _ (HT.out.st.below Zc) Tw zi zl zi zi yj zb).mono ?_);rintro e wM ⟨s,hs,rfl,hT⟩;(first
      |have hv:=(hT.of_below (W:=wN) Zc).gr.cell hv (fun e=>P2)
      |have hv:=zd (j:=j) (u:=.int .i64 v) (hT.stay _ _ (i5 wN _) zb) hA
      |have hv:=zd (j:=j) (u:=.int .i64 v) (hT.stay _ _ (heap_alloc2_old wN _ _) zb) hA
      |have hv:=zd (j:=j) (u:=.int .i64 v) (hT.stay _ _ (heap_alloc2_new wN _ _) zb) hA
      |skip);have HT:=za (HT.out.trans (hT.of_below Zc));clear hT;have hzw:=zh (HT.out.blk (i5 w _) hwb);obtain⟨⟨c0,c1,c2,c3⟩,f0,f1,f2,f3⟩:=JP (HT.out.blk (i5 w _) hwb)))
 all_goals
  go_wp2;refine bodyPost_ret (v:=.agg #[.int .i64 15,.string ⟨#[]⟩,.int .i64 v,.string s]) yJ rfl ?_;exact⟨⟨_,_,_,_⟩,⟨Xb,P3,zl,zl,QW,QW⟩,Xb,rfl,by
   repeat (first|exact(zA.alloc HT.out).more zb|refine zA.setCellR ?_ zo hws|refine zA.allocR ?_|refine zA.drewR ?_)⟩
end Go.Proofs.YtecbmndgpepkcaaGreatDoor

/- Contracts of functions that the law reaches, and what they rest on; each under the premises that it names. Shortened by a program. -/
import Derived.Test.YtobcmlmbblgcdaaGreatDoorG01
namespace Go.Proofs.YtobcmlmbblgcdaaGreatDoor
open Tryz
set_option maxHeartbeats 8000000
set_option maxRecDepth 100000
open Go.RowKit
theorem zdF{w0 w:World}{b n p d:Nat}(h:qq w0 b n p d w)(h3:p+d<=100000)
 (hF0:∀W1,Below w.heap.size w W1->Calls prog 13 #[.pointer (some ⟨b,0,none⟩),.int .i64 14] W1 fun e w'=>e=.returned (.int .i64 4)/\zB w0 b n p (d+1) W1 w'):
 Calls prog 39 #[.pointer (some ⟨b,0,none⟩)] w (GU 60 (zB w0 b n p (d+10) w)):=by
 have hwb:w.heap.size≠b:=Ik;have hws:=h.size;have HF0:=za hF0;clear h hF0;go_enter func39,ntmps39;go_wp2_with fail
 with_reducible refine(HF0.out _ qZ).mono ?_
 rintro e w2 ⟨rfl,hT2⟩;have HT:=za hT2;clear hT2;have hb2:b<w2.heap.size:=TS;have hw2c:w2.heap.size+1≠b:=zb;have hw2b:w2.heap.size≠b:=zb;obtain⟨q,q0,q1,hF⟩:=JH 2 HT.out.st zb zb zb;obtain⟨j,rfl⟩:=Int.eq_ofNat_of_zero_le q0;have hj:j<2:=zb;obtain⟨v,v0,v1,hA⟩:=TR (lo:=3) (hi:=6) (A:=#[.int .i64 3,.int .i64 6]) (j:=j) zi hj;have hA3:([.int .i64 3,.int .i64 6]:List Value)[j]'hj=.int .i64 v:=PZ;have HF:=za hF;clear hF q0;go_wp2
 go_region_with (first
  |(go_at_call 13;(with_reducible refine(HF.out _ qZ).mono ?_);rintro e wN ⟨rfl,hT⟩;have hzN:=hT.gr.size;have hzn:w2.heap.size<=wN.heap.size:=(by(try simp at hzN);omega);(first
      |(have hv:=zd (j:=j) (u:=.int .i64 v) (hT.stay _ _ (heap_alloc_new w2 _) hw2b) hA;have hz:=zh (hT.stay _ _ (heap_alloc_new w2 _) hw2b))
      |(have hv:=zd (j:=j) (u:=.int .i64 v) (hT.stay _ _ (heap_alloc2_old w2 _ _) hw2b) hA;have hz:=zh (hT.stay _ _ (heap_alloc2_old w2 _ _) hw2b);have HR:=za (hT.stay _ _ (heap_alloc2_new w2 _ _) hw2c))
      |(have hv:=zd (j:=j) (u:=.int .i64 v) (hT.stay _ _ (heap_alloc2_new w2 _ _) hw2c) hA;have hz:=zh (hT.stay _ _ (heap_alloc2_new w2 _ _) hw2c);have HR:=za (hT.stay _ _ (heap_alloc2_old w2 _ _) hw2b))
      |(have HR:=za (hT.stay _ _ (heap_alloc_new w2 _) hw2b))
      |skip);have HT:=za (HT.out.trans (hT.of_below qZ));clear hT)
  |(go_at_call 14;(with_reducible refine(IB (n:=n) (p:=p) 60 _ _ _ _ _ (HT.out.st.below qZ) RH zi zl zi zi OI zb).mono ?_);rintro e wM ⟨s,hs,rfl,hT⟩;(first
      |have hv:=(hT.of_below (W:=wN) qZ).gr.cell hv (fun e=>Rt)
      |have hv:=zd (j:=j) (u:=.int .i64 v) (hT.stay _ _ (heap_alloc_new wN _) zb) hA
      |have hv:=zd (j:=j) (u:=.int .i64 v) (hT.stay _ _ (heap_alloc2_old wN _ _) zb) hA
      |have hv:=zd (j:=j) (u:=.int .i64 v) (hT.stay _ _ (heap_alloc2_new wN _ _) zb) hA
      |skip);have HT:=za (HT.out.trans (hT.of_below qZ));clear hT;have hzw:=zh (HT.out.blk (heap_alloc_new w _) hwb);obtain⟨⟨c0,c1,c2,c3⟩,f0,f1,f2,f3⟩:=JB (HT.out.blk (heap_alloc_new w _) hwb)))
 all_goals
  go_wp2;refine bodyPost_ret (v:=.agg #[.int .i64 15,.string ⟨#[]⟩,.int .i64 v,.string s]) PX rfl ?_;exact⟨⟨_,_,_,_⟩,⟨Vn,by dsimp only;assumption,zl,zl,Xs,Xs⟩,rfl,by
   repeat (first|exact(zB.alloc HT.out).more zb|refine zB.setCellR ?_ zo hws|refine zB.allocR ?_|refine zB.drewR ?_)⟩
end Go.Proofs.YtobcmlmbblgcdaaGreatDoor

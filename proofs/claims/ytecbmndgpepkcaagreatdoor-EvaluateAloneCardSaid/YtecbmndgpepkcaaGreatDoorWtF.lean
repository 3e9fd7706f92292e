/- Contracts that the law rests on, each under the premises that it names. -/
import Derived.Test.YtecbmndgpepkcaaGreatDoorWtE
namespace Go.Proofs.YtecbmndgpepkcaaGreatDoor
open Tryz
set_option maxHeartbeats 8000000
set_option maxRecDepth 100000
open Go.RowKit
def zep(w:World)(e:Ending)(w':World):Prop:=∃z:Int,e=.returned (.int .i64 z)/\Below w.heap.size w w'
structure RQ(d:Dv):Prop where
 nam:d.nam.size<=1000
 og:d.og.size<=1000
 sb:d.sb.size<=1000
 dr:d.dr.size<=1000
 al:d.al.size<=1000
 len:d.ats.l.length<=24
 an:∀y∈d.ats.l,y.name.size<=1000
 av:∀y∈d.ats.l,y.val.size<=1000
theorem zgI (d:Dv)(w:World)(hE:Env0 w)(hd:ZM w d)(hz:RQ d):
 Calls prog 59 #[zY d] w (zep w):=by
 have HNd:=za (fun(ix pa:Int) (nam og sb dr al:ByteArray) (kd nb:Int) (A:Option Addr) (n c:Nat) (W:World) (hW:Below w.heap.size w W) (hs:og.size<=1000)=>PI ix pa nam og sb dr al kd nb A n c W (hE.go hW) hs);have HVd:=za (fun(s:ByteArray) (W:World) (hs:s.size<=2000)=>Bu s W zb);have HTx:=za (fun(s:ByteArray) (W:World) (hs:s.size<=2000)=>zdW s W zb);have HIf:=za (fun(s:ByteArray) (W:World) (hs:s.size<=2000)=>ziD s W zb);have HLk:=za (fun(s:ByteArray) (W:World) (hW:Below w.heap.size w W) (hs:s.size<=2000)=>zdO s W (hE.go hW) zb);have HSo:=za (fun(W:World) (hW:Below w.heap.size w W)=>zdH d.ats.A d.ats.c d.ats.l W (i3 hz.len zi) (hd.keep hW).row);have HRw:=za (fun(W:World) (hW:Below w.heap.size w W)=>(hd.keep hW).row);have HZ:=za hz;obtain⟨w1,hw1⟩:∃w1,w.alloc (.cells (zq d) zp)=w1:=⟨_,rfl⟩;have hb1:Below w.heap.size w w1:=ZX;have hr1:w1.heap[w.heap.size]? =some (.cells (zq d) zp (0,0)):=Qo;have HC:Hid (∀W:World,Below w1.heap.size w1 W->(W.cell? ⟨w.heap.size,0,none⟩=some (.int .i64 d.ix)/\W.cell? ⟨w.heap.size,1,none⟩=some (.int .i64 d.pa)/\W.cell? ⟨w.heap.size,2,none⟩=some (.string d.nam)/\W.cell? ⟨w.heap.size,3,none⟩=some (.string d.og)/\W.cell? ⟨w.heap.size,4,none⟩=some (.string d.sb)/\W.cell? ⟨w.heap.size,5,none⟩=some (.string d.dr)/\W.cell? ⟨w.heap.size,6,none⟩=some (.string d.al)/\W.cell? ⟨w.heap.size,7,none⟩=some (.int .i64 d.kd)/\W.cell? ⟨w.heap.size,8,none⟩=some (.int .i64 d.nb)/\W.cell? ⟨w.heap.size,9,none⟩=some (.slice d.ats.A d.ats.l.length d.ats.c))):=za fun W hW=>
  (Xq ((hW.block _ (zh hr1)).trans hr1)).1
 have HB1:=za hb1;have HW1:=za hw1;have hl1:w.heap.size<w1.heap.size:=zh hr1;clear hE hb1 hr1 hw1 hd hz;unfold zY zq at*;obtain⟨ix,pa,nam,og,sb,dr,al,kd,nb,⟨SA,sc,l⟩⟩:=d;dsimp only at*;have hzn:=HZ.out.nam;have hzo:=HZ.out.og;have hzs:=HZ.out.sb;have hzd:=HZ.out.dr;have hza:=HZ.out.al;have hzl:=HZ.out.len;have HAn:=za HZ.out.an;have HAv:=za HZ.out.av;dsimp only at hzn hzo hzs hzd hza hzl HAn HAv;clear HZ;obtain⟨N,hN⟩:∃N,l.length=N:=⟨_,rfl⟩;have HN:=za hN;rw[hN]at hzl HSo HC HW1⊢;clear hN;go_enter func59,ntmps59;go_upto_region 1 with fail
 rw[HW1.out];obtain⟨c0,c1,c2,c3,c4,c5,c6,c7,c8,c9⟩:=HC.out w1 zj;go_upto_region 14 with(first
  |(go_at_call 77;refine(HVd.out _ _ zb).mono ?_;rintro e w3 ⟨rfl,rfl⟩)
  |(go_at_call 78;refine(HTx.out _ _ zb).mono ?_;rintro e w3 ⟨rfl,rfl⟩)
  |(go_at_call 79;refine(HIf.out _ _ zb).mono ?_;rintro e w3 ⟨bi,rfl,rfl⟩)
  |(go_at_call 47;refine(HNd.out _ _ _ _ _ _ _ _ _ _ _ _ _ HB1.out hzo).mono ?_;rintro e w2 ⟨s1,b1,rfl,hs1,hb2⟩;have HB2:=za hb2;obtain⟨e0,e1,e2,e3,e4,e5,e6,e7,e8,e9⟩:=HC.out w2 hb2;(have hl3:w.heap.size<w2.heap.size:=i4 hl1 hb2.size);clear hb2 c0 c1 c2 c3 c4 c5 c6 c7 c8 c9))
 all_goals first
  | (go_ret
     first
      |exact⟨_,rfl,bt HB1.out HB2.out⟩
      |exact⟨_,rfl,HB1.out⟩)
  | (go_cut [5]from 6 to 127 (fun s5 wx=>s5=.int .i64 0/\w2=wx)
     case first=>
      go_wp2;go_meet;exact kS
     case rest=>
      obtain⟨rfl,rfl⟩:=hcut;go_wp2_with fail
      go_loopg [5] (N+1) (fun gk s5 wr=>∃k:Nat,s5=.int .i64 k/\k+gk=N+1/\k<=N/\wr=w2)
      case atStart=>exact⟨0,rfl,zb,X1 _,rfl⟩
      case round=>
       obtain⟨k,rfl,hkg,hkN,rfl⟩:=hrel;by_cases hlt:k<N
       · have hk1:k<l.length:=by rw[HN.out];exact hlt
         have hkI:(k:Int)<(N:Int):=zb;have hrow:=HRw.out wr (bt HB1.out HB2.out);obtain⟨ba,off,rfl,d0,d1⟩:=Jd hrow zj hk1;have hs1:=HAn.out _ (X8 hk1);have hs2:=HAv.out _ (X8 hk1);generalize l[k].name=an at*;generalize l[k].val=av at*;clear hrow hk1;go_wp2_with (first
          |(go_at_call 77;refine(HVd.out _ _ zb).mono ?_;rintro e w3 ⟨rfl,rfl⟩)
          |(go_at_call 78;refine(HTx.out _ _ zb).mono ?_;rintro e w3 ⟨rfl,rfl⟩))
         all_goals first
          | (go_ret
             exact⟨_,rfl,bt HB1.out HB2.out⟩)
          | (go_roundg (gk - 1)
             case measure=>omega
             case rel=>exact⟨k+1,zU,zb,zb,rfl⟩)
       · go_wp2_with (first
          |(go_at_call 80;refine(HSo.out _ (bt HB1.out HB2.out)).mono ?_;rintro e w4 ⟨b4,rfl,hb4⟩;have HB4:=za (bt (bt HB1.out HB2.out) hb4);clear hb4)
          |(go_at_call 81;refine(HLk.out _ _ HB4.out zb).mono ?_;rintro e w5 ⟨b5,rfl,hb5⟩;have HB5:=za (bt HB4.out hb5);clear hb5))
         all_goals
          go_ret
          first
           |exact⟨_,rfl,HB5.out⟩
           |exact⟨_,rfl,HB4.out⟩)
end Go.Proofs.YtecbmndgpepkcaaGreatDoor

/- Contracts that the law rests on, each under the premises that it names. -/
import Derived.Test.YtecbmndgpepkcaaGreatDoorG29
namespace Go.Proofs.YtecbmndgpepkcaaGreatDoor
open Tryz
set_option maxHeartbeats 8000000
set_option maxRecDepth 100000
open Go.RowKit
theorem CZ{w wr:World}{B:Nat}{A:Option Addr}{xs:List ze}(h:zr w B A 1 xs.length (cellsOf zD xs))(hb:Below B w wr){k:Nat}(hk:k<xs.length):∃ba off,A=some ⟨ba,off,none⟩/\wr.cell? ⟨ba,off+k,none⟩=some (.string (bs xs[k])):=by
 obtain⟨ba,off,e,hB,hc⟩:=h.cell (enc:=zD) (fun _=>rfl) hk;refine⟨ba,off,e,?_⟩;rw[hb.cell (p:=⟨ba,off+k,none⟩) hB];have:=hc k xs[k] (l0 hk) 0 _ rfl;rw[zk2,zk3]at this;exact this
def Db(xs bs':List ze)(w:World)(e:Ending)(w':World):Prop:=∃z:Int,e=.returned (.int .i64 z)/\(∀x,bs'=xs++[x]->z= -1)/\Below w.heap.size w w'
theorem zhp(A:Option Addr)(ac:Nat)(xs:List ze)(B:Option Addr)(bc:Nat)(cs:List ze)(w:World)(ha:zr w w.heap.size A 1 xs.length (cellsOf zD xs))(hb:zr w w.heap.size B 1 cs.length (cellsOf zD cs))(hal:xs.length<=1000)(hbl:cs.length<=1001):
 Calls prog 60 #[.slice A xs.length ac,.slice B cs.length bc] w (Db xs cs w):=by
 have HA:=za ha;have HB:=za hb;have HC:=za (fun(a b:ByteArray) (W:World)=>strings_Compare a b W);clear ha hb;obtain⟨N,hN⟩:∃N,xs.length=N:=⟨_,rfl⟩;obtain⟨M,hM⟩:∃M,cs.length=M:=⟨_,rfl⟩;have HN:=za hN;have HM:=za hM;rw[hN]at hal⊢;rw[hM]at hbl⊢;clear hN hM;go_enter func60,ntmps60;go_wp2;go_loopg [5] (N+1) (fun gk s5 wr=>∃k:Nat,s5=.int .i64 k/\k+gk=N+1/\k<=N/\Hid (Below w.heap.size w wr))
 case atStart=>exact⟨0,rfl,zb,X1 _,za zj⟩
 case round=>
  obtain⟨k,rfl,hkg,hkN,HL⟩:=hrel;by_cases hlt:k<N
  · have hk1:k<xs.length:=by rw[HN.out];exact hlt
    have hkI:(k:Int)<(N:Int):=zb;by_cases hlt2:k<M
    · have hk2:k<cs.length:=by rw[HM.out];exact hlt2
      have hkJ:(k:Int)<(M:Int):=zb;have hra:=HA.out;have hrb:=HB.out;obtain⟨ba,off,rfl,c0⟩:=CZ hra HL.out hk1;obtain⟨bb,off2,rfl,d0⟩:=CZ hrb HL.out hk2;have HP:=za (fun(x:ze) (e:cs=xs++[x])=>show xs[k]=cs[k] by
       subst e;rw[List.getElem_append_left hk1])
      generalize xs[k]=ak at*;generalize cs[k]=bk at*;have hz0:(0:Int)<=(k:Int):=zb;have c0n:∀n,(wr.drewN n).cell? ⟨ba,off+k,none⟩=some (.string (bs ak)):=fun n=>((ZO (Below.refl wr.heap.size wr) n).cell (p:=⟨ba,off+k,none⟩) (block_lt_of_cell c0)).trans c0;have d0n:∀n,(wr.drewN n).cell? ⟨bb,off2+k,none⟩=some (.string (bs bk)):=fun n=>((ZO (Below.refl wr.heap.size wr) n).cell (p:=⟨bb,off2+k,none⟩) (block_lt_of_cell d0)).trans d0;clear hra hrb hk1 hk2;cases hq:((bs ak).toList==(bs bk).toList)with
      | true=>
        go_wp2;go_quiet (fail)
        go_wp2;go_roundg (gk - 1)
        case measure=>omega
        case rel=>exact⟨k+1,zU,zb,zb,za (ZO HL.out _)⟩
      | false=>
        have HNo:Hid (∀x,cs≠xs++[x]):=za fun x e=>by
         have h1:=HP.out x e;rw[h1]at hq;simp at hq
        go_wp2;go_quiet (fail)
        go_wp2;have cq:=c0n nq;have dq:=d0n nq;have Hq:=za (ZO HL.out nq);generalize wr.drewN nq=wq at*;clear c0n d0n c0 d0;go_quiet (first|(go_at_call 82;exact Calls.quiet_of_same (HC.out _ _ _)))
        go_wp2;go_ret;exact⟨_,rfl,fun x e=>absurd e (HNo.out x),ZO Hq.out _⟩
    · exact Fo
  · obtain rfl:k=N:=by omega
    by_cases hM1:k<M
    · have hkJ:(k:Int)<(M:Int):=by omega
      go_wp2;go_ret;exact⟨_,rfl,fun x e=>rfl,HL.out⟩
    · exact Fo
theorem PI(ix pa:Int)(nam og sb dr al:ByteArray)(kd nb:Int)(A:Option Addr)(n c:Nat)(w:World)(hE:Env0 w)(hs:og.size<=1000):
 Calls prog 47 #[.agg #[.int .i64 ix,.int .i64 pa,.string nam,.string og,.string sb,.string dr,.string al,.int .i64 kd,.int .i64 nb,.slice A n c]] w fun e w'=>∃s b,e=.returned (.tuple #[.string s,.bool b])/\s.size<=2000/\Below w.heap.size w w':=by
 have h:=zgr ⟨ix,pa,nam,og,sb,dr,al,kd,nb,⟨A,c,List.replicate n ⟨⟨#[]⟩,⟨#[]⟩⟩⟩⟩ w hE hs;unfold zY at h;dsimp only at h;rw[List.length_replicate]at h;exact h
theorem zkl(a b:Dv)(w:World)(hE:Env0 w)(h1:a.og.size<=1000)(h2:b.og.size<=1000):
 Calls prog 61 #[zY a,zY b] w (MB w):=by
 have HNd:=za (fun(ix pa:Int) (nam og sb dr al:ByteArray) (kd nb:Int) (A:Option Addr) (n c:Nat) (W:World) (hW:Below w.heap.size w W) (hs:og.size<=1000)=>PI ix pa nam og sb dr al kd nb A n c W (hE.go hW) hs);have HBn:=za (fun(x y:ByteArray) (W:World) (hx:x.size<=2000)=>zfV x y W zb);obtain⟨w1,hw1⟩:∃w1,(w.alloc (.cells (zq a) zp)).alloc (.cells (zq b) zp)=w1:=⟨_,rfl⟩;have hb1:Below w.heap.size w w1:=Vl;have hr1:w1.heap[w.heap.size]? =some (.cells (zq a) zp (0,0)):=kh;have hr2:w1.heap[w.heap.size+1]? =some (.cells (zq b) zp (0,0)):=by
  rw[<-hw1];have:=i5 (w.alloc (.cells (zq a) zp)) (.cells (zq b) zp);exact QN
 have HC:Hid (∀W:World,Below w1.heap.size w1 W->(W.cell? ⟨w.heap.size,0,none⟩=some (.int .i64 a.ix)/\W.cell? ⟨w.heap.size,1,none⟩=some (.int .i64 a.pa)/\W.cell? ⟨w.heap.size,2,none⟩=some (.string a.nam)/\W.cell? ⟨w.heap.size,3,none⟩=some (.string a.og)/\W.cell? ⟨w.heap.size,4,none⟩=some (.string a.sb)/\W.cell? ⟨w.heap.size,5,none⟩=some (.string a.dr)/\W.cell? ⟨w.heap.size,6,none⟩=some (.string a.al)/\W.cell? ⟨w.heap.size,7,none⟩=some (.int .i64 a.kd)/\W.cell? ⟨w.heap.size,8,none⟩=some (.int .i64 a.nb)/\W.cell? ⟨w.heap.size,9,none⟩=some (.slice a.ats.A a.ats.l.length a.ats.c))/\(W.cell? ⟨w.heap.size+1,0,none⟩=some (.int .i64 b.ix)/\W.cell? ⟨w.heap.size+1,1,none⟩=some (.int .i64 b.pa)/\W.cell? ⟨w.heap.size+1,2,none⟩=some (.string b.nam)/\W.cell? ⟨w.heap.size+1,3,none⟩=some (.string b.og)/\W.cell? ⟨w.heap.size+1,4,none⟩=some (.string b.sb)/\W.cell? ⟨w.heap.size+1,5,none⟩=some (.string b.dr)/\W.cell? ⟨w.heap.size+1,6,none⟩=some (.string b.al)/\W.cell? ⟨w.heap.size+1,7,none⟩=some (.int .i64 b.kd)/\W.cell? ⟨w.heap.size+1,8,none⟩=some (.int .i64 b.nb)/\W.cell? ⟨w.heap.size+1,9,none⟩=some (.slice b.ats.A b.ats.l.length b.ats.c))):=za fun W hW=>
  ⟨(Xq ((hW.block _ (zh hr1)).trans hr1)).1,(Xq ((hW.block _ (zh hr2)).trans hr2)).1⟩
 have HB1:=za hb1;have HW1:=za hw1;have hl1:w.heap.size<w1.heap.size:=zh hr1;have hl2:w.heap.size+1<w1.heap.size:=zh hr2;clear hE hb1 hr1 hr2 hw1;unfold zY zq at*;go_enter func61,ntmps61;go_upto_region 1 with fail
 rw[HW1.out];obtain⟨⟨c0,c1,c2,c3,c4,c5,c6,c7,c8,c9⟩,⟨d0,d1,d2,d3,d4,d5,d6,d7,d8,d9⟩⟩:=HC.out w1 zj;go_upto_region 4 with(go_at_call 47;refine(HNd.out _ _ _ _ _ _ _ _ _ _ _ _ _ HB1.out h1).mono ?_;rintro e w2 ⟨s1,b1,rfl,hs1,hb2⟩;have HB2:=za hb2;have HS1:=za hs1;obtain⟨⟨e0,e1,e2,e3,e4,e5,e6,e7,e8,e9⟩,⟨f0,f1,f2,f3,f4,f5,f6,f7,f8,f9⟩⟩:=HC.out w2 hb2;(have hl3:w.heap.size<w2.heap.size:=i4 hl1 hb2.size);(have hl4:w.heap.size+1<w2.heap.size:=i4 hl2 hb2.size);clear hs1 hb2 c0 c1 c2 c3 c4 c5 c6 c7 c8 c9 d0 d1 d2 d3 d4 d5 d6 d7 d8 d9)
 all_goals first
  | (go_ret
     exact⟨_,rfl,HB1.out⟩)
  | (go_wp2_with (first
      |(go_at_call 47;refine(HNd.out _ _ _ _ _ _ _ _ _ _ _ _ _ (bt HB1.out HB2.out) h2).mono ?_;rintro e w3 ⟨s2,b2,rfl,hs2,hb3⟩;have HB3:=za (bt HB2.out hb3);have HS2:=za hs2;obtain⟨⟨c0,c1,c2,c3,c4,c5,c6,c7,c8,c9⟩,⟨d0,d1,d2,d3,d4,d5,d6,d7,d8,d9⟩⟩:=HC.out w3 HB3.out;(have hl5:w.heap.size<w3.heap.size:=i4 hl3 hb3.size);(have hl6:w.heap.size+1<w3.heap.size:=i4 hl4 hb3.size);clear hs2 hb3 e0 e1 e2 e3 e4 e5 e6 e7 e8 e9 f0 f1 f2 f3 f4 f5 f6 f7 f8 f9)
      |(go_at_call 83;refine(HBn.out _ _ _ (by first|exact HS1.out|exact HS2.out)).mono ?_;rintro e w4 ⟨b4,rfl,hb4⟩;have HB4:=za (bt (by first|exact HB4.out|exact HB3.out) hb4:Below w1.heap.size w1 w4);clear hb4))
     all_goals
      go_ret
      first
       |exact⟨_,rfl,bt HB1.out HB4.out⟩
       |exact⟨_,rfl,bt HB1.out HB3.out⟩)
end Go.Proofs.YtecbmndgpepkcaaGreatDoor

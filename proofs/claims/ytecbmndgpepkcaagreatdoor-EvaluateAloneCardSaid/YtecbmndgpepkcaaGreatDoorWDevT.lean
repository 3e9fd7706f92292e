/- Contracts that the law rests on, each under the premises that it names. -/
import Derived.Test.YtecbmndgpepkcaaGreatDoorG36
namespace Go.Proofs.YtecbmndgpepkcaaGreatDoor
open Tryz
set_option maxHeartbeats 8000000
set_option maxRecDepth 100000
open Go.RowKit
abbrev GV:Array Value:=#[.int .i64 0,.int .i64 0,.string ⟨#[]⟩,.string ⟨#[]⟩,.string ⟨#[]⟩,.string ⟨#[]⟩,.string ⟨#[]⟩,.int .i64 0,.int .i64 0,.slice none 0 0]
theorem zgs:(prog.info? 43).map (·.size)=some 10:=zg
structure Zz(w0:World)(b n p d:Nat)(w:World)(R:Nat)(v:Value)(l:List At)(B:Nat)(cs:Array Value)(W:World):Prop where
 row:VF w0 b n p d w v l W
 bx:W.heap[B]? =some (.cells cs 43 (0,0))
 rs:W.heap[R]? =some (.cells GV 43 (0,0))
 nB:v.ownBlock≠some B
 lB:w.heap.size<=B
 lR:R<w.heap.size
 nR:R≠b
section
variable{w0 w W W1:World}{b n p d d' B R:Nat}{v v':Value}{l m:List At}{cs:Array Value}
theorem Zz.bne(h:Zz w0 b n p d w R v l B cs W):b<w.heap.size:=by have:=h.row.nx.st.lt;have:=h.row.lo;omega
theorem Zz.go(h:Zz w0 b n p d w R v l B cs W)(hT:zA w0 b n p d' W W1):Zz w0 b n p d' w R v l B cs W1:=by
 have hb:=h.bne;have hl:=h.lB;exact⟨h.row.go hT,hT.blk h.bx zb,hT.blk h.rs h.nR,h.nB,hl,h.lR,h.nR⟩
theorem Zz.set(h:Zz w0 b n p d w R v l B cs W)(i:Nat)(u:Value):Zz w0 b n p d w R v l B (cs.setIfInBounds i u) (W.setCell ⟨B,i,none⟩ u):=by
 have hl:=h.lB;have hr:=h.lR;have hw:=h.row.lo;exact⟨⟨h.row.nx.grownR (qE W B i u) (fun j e=>ZD),h.row.own.kept (qE W B i u) (Or.inr h.nB),hw⟩,by rw[heap_setCell_same _ _ _ _ _ _ h.bx],(heap_setCell_other W ⟨B,i,none⟩ _ u (by show _≠B;omega)).trans h.rs,h.nB,hl,hr,h.nR⟩
theorem Zz.below(h:Zz w0 b n p d w R v l B cs W)(hb:Below W.heap.size W W1):Zz w0 b n p d w R v l B cs W1:=
 ⟨h.row.below hb,(hb.block _ (zh h.bx)).trans h.bx,(hb.block _ (zh h.rs)).trans h.rs,h.nB,h.lB,h.lR,h.nR⟩
theorem Zz.attrs(h:Zz w0 b n p d w R v l B cs W)(hown:W1.ownsRow W.heap.size 114 2 v' m.length (cellsOf zw m))(hb:Below W.heap.size W W1):Zz w0 b n p d w R v' m B cs W1:=
 ⟨VF.set h.row hown hb,(hb.block _ (zh h.bx)).trans h.bx,(hb.block _ (zh h.rs)).trans h.rs,fun e=>by have h1:=(hown.lt B e).1;have:=zh h.bx;omega,h.lB,h.lR,h.nR⟩
theorem Zz.start(h:VF w0 b n p d w v l W)(hr:W.heap[R]? =some (.cells GV 43 (0,0)))(hR:R<w.heap.size)(hb:R≠b)(cs:Array Value):Zz w0 b n p d w R v l W.heap.size cs (W.alloc (.cells cs 43)):=
 ⟨h.alloc _,qt,(heap_alloc_old _ _ (zh hr)).trans hr,fun e=>by have:=(h.own.lt _ e).2;omega,h.nx.gr.size,hR,hb⟩
theorem Zz.cl(h:Zz w0 b n p d w R v l B cs W){j:Nat}{u:Value}(hj:cs[j]? =some u):W.cell? ⟨B,j,none⟩=some u:=zd h.bx hj
theorem Zz.fz(h:Zz w0 b n p d w R v l B cs W)(j:Nat):W.frozen? ⟨B,j,none⟩=false:=frozen_of_row _ _ _ _ _ h.bx
end
structure UB(K:Int)(ds:List Dv)(x:Dv):Prop where
 nam:x.nam.size<=200
 og:x.og.size<=200
 sb:x.sb.size<=200
 dr:x.dr.size<=200
 al:x.al.size<=200
 ats:∀y∈x.ats.l,KB y
 len:x.ats.l.length<=4
 ix1:1<=x.ix
 ix2:x.ix<=K+1
 pa:x.pa=0∨∃y∈ds,x.pa=y.ix
 nb1:0<=x.nb
 nb2:x.nb<=100
 og1:1<=x.og.size
def ye(K:Int)(ds:List Dv)(w0:World)(b n p d:Nat)(w:World)(e:Ending)(w':World):Prop:=∃x:Dv,UB K ds x/\e=.returned (zY x)/\ZM w' x/\zA w0 b n p d w w'/\qV w.heap.size x.ats.A
def Iu:Array Value:=#[.string ⟨#[]⟩,.string ⟨#[102,115,58,117,49,58,114,111,111,116]⟩,.string ⟨#[102,115,58,117,50,58]⟩,.string ⟨#[114,97,105,100,58,114,49,58,49,47,50,47,49,40,102,115,58,117,51,58,100,97,116,97,41]⟩,.string ⟨#[114,97,105,100,58,114,49,58,50,47,50,47,49,40,102,115,58,117,51,58,100,97,116,97,41]⟩,.string ⟨#[99,114,121,112,116,58,99,49,40,102,115,58,117,52,58,41]⟩,.string ⟨#[112,118,58,103,49,58,49,47,49,40,102,115,58,117,53,58,44,41]⟩,.string ⟨#[116,97,98,108,101,58,116,49,40,102,115,58,117,54,58,98,111,111,116,44,114,97,105,100,58,114,49,58,50,47,50,47,49,40,102,115,58,117,51,58,100,97,116,97,41,41]⟩,.string ⟨#[98,97,100,40]⟩]
theorem zht:zfe Iu=true:=zi
theorem zay(w:World):Calls prog 63 #[] w fun e w'=>e=.returned (.slice (some ⟨w.heap.size,0,none⟩) 9 9)/\w'=w.alloc (.cells Iu 9):=by
 go_enter func63,ntmps63;exact kl
theorem zfW{s:ByteArray}(h:s.size<=60):MR 60 #[.string s,.string s,.string ⟨#[108,97,110,48]⟩,.string ⟨#[101,116,104,49]⟩]=true:=by simp[MR,h];decide
theorem zdw:Iu.size=9:=rfl
theorem Ys{s:ByteArray}(h:s.size<=60):s.size<=200:=zb
theorem zc4{A B:Type}{l:List A}{m:List B}(h:m.length<=l.length+1)(h1:l.length<=3):m.length<=4:=zb
theorem Rh{A:Type}{l:List A}(h:l.length<=3):l.length<=4:=zb
theorem zdq{K:Int}{ds:List Dv}{w0 w wS W:World}{b n p d D B R:Nat}{VA:Option Addr}{vc:Nat}{l:List At}{x:Dv}(h:Zz w0 b n p d wS R (.slice VA l.length vc) l B (zM x).toArray W)(hx:x.ats=⟨VA,vc,l⟩)(hsm:UB K ds x)(hb:Below w.heap.size w wS)(hR:w.heap.size<=R)(hw:w0.heap.size<=w.heap.size)(hd:d<=D):∃y:Dv,UB K ds y/\Ending.returned (zY x)=.returned (zY y)/\ZM (W.setRow R (zM x).toArray) y/\zA w0 b n p D w (W.setRow R (zM x).toArray)/\qV w.heap.size y.ats.A:=by
 have hlR:=h.lR;refine⟨x,hsm,rfl,?_,?_,fun a ha=>?_⟩
 · have h1:(W.setRow R (zM x).toArray).ownsRow wS.heap.size 114 2 (.slice VA l.length vc) l.length (cellsOf zw l):=h.row.own.kept (qR W R _) (by
    cases hv:(Value.slice VA l.length vc).ownBlock with
    |none=>exact Or.inl rfl
    |some g=>right;intro e;have:=(h.row.own.lt g hv).1;injection e with e;omega)
   have h2:=(zE.of_own h1).1;show zE _ x.ats.A 2 x.ats.l.length (cellsOf zw x.ats.l);rw[hx];exact h2
 · exact((zA.of_below h.row.nx hb).more hd).setRow hR hw _
 · rw[hx]at ha;have h3:=(h.row.own.lt a.block (by rw[show VA=some a from ha];rfl)).1;have h4:=hb.size;omega
theorem BE{w0 w:World}{b n p d:Nat}(h:qr w0 b n p d w)(h3:p+d<=80000)(A:Option Addr)(c:Nat)(ds:List Dv)(K:Int)(hD:qj w A ds)(hF:qV w0.heap.size A)(hK0:0<=K)(hK:K<=1000000)(hKd:∀x∈ds,1<=x.ix/\x.ix<=K):
 Calls prog 43 #[.pointer (some ⟨b,0,none⟩),zV A ds c] w (ye K ds w0 b n p (d+50) w):=by
 have HKd:=za hKd;obtain⟨N,hN⟩:∃N,ds.length=N:=⟨_,rfl⟩;have HN:=za hN;have hlen:=hD.len;unfold zV;rw[hN]at hlen⊢;have HD0:=za hD.row;have HFr:=za hF;clear hD hF hKd hN;have H:=za h;have hlb:=h.lt;have hws:=h.size;clear h;obtain⟨w1,hw1⟩:∃w1,(w.alloc (.cells #[.slice A N c] 30)).alloc (.cells GV 43)=w1:=⟨_,rfl⟩;have hrs:w1.heap[w.heap.size+1]? =some (.cells GV 43 (0,0)):=by rw[<-hw1];have:=i5 (w.alloc (.cells #[.slice A N c] 30)) (.cells GV 43);simpa using this
 have htr:w1.heap[w.heap.size]? =some (.cells #[.slice A N c] 30 (0,0)):=K7;have hb1:Below w.heap.size w w1:=OK;have hs1:w1.heap.size=w.heap.size+2:=YO;have HU1:Hid (zA w0 b n p d w1 w1):=za (zA.refl (H.out.below hb1));have HRs:=za hrs;have HTr:=za htr;have HB1:=za hb1;have HW1:=za hw1;have HEnd:=za (fun(B:Nat) (VA:Option Addr) (vc:Nat) (l:List At) (x:Dv) (W:World) (D:Nat) (h:Zz w0 b n p D w1 (w.heap.size+1) (.slice VA l.length vc) l B (zM x).toArray W) (hx:x.ats=⟨VA,vc,l⟩) (hsm:UB K ds x) (hd:D<=d+50)=>zdq (w:=w) h hx hsm hb1 (X2 _) hws hd);clear hw1 hrs htr hb1;unfold ye;go_enter func43,ntmps43;go_upto_region 1 with fail
 rw[HW1.out];go_wp2_with fail
 (with_reducible refine(VW (n:=n) (p:=p) 60 _ _ _ _ _ HU1.out.st zi zl zi zi Km zb).mono ?_)
 rintro e w2 ⟨s1,hs1,rfl,hT⟩;have HU2:=za (HU1.out.trans hT);clear hT;go_wp2_with fail
 (with_reducible refine(QO (n:=n) (p:=p) _ HU2.out.st zb zb zb).mono ?_)
 rintro e w3 ⟨r,r0,r1,rfl,hT⟩;have HU3:=za (HU2.out.trans hT);clear hT;go_wp2_with fail
 (with_reducible refine(VW (n:=n) (p:=p) 60 _ _ _ _ _ HU3.out.st zi zl zi zi Km zb).mono ?_)
 rintro e w4 ⟨s2,hs2,rfl,hT⟩;have HU4:=za (HU3.out.trans hT);clear hT;go_wp2_with fail
 (with_reducible refine(VW (n:=n) (p:=p) 60 _ _ _ _ _ HU4.out.st zi zl zi zi Km zb).mono ?_)
 rintro e w5 ⟨s3,hs3,rfl,hT⟩;have HU5:=za (HU4.out.trans hT);clear hT;go_wp2_with fail
 (with_reducible refine(zi3 (n:=n) (p:=p) HU5.out.st zb).mono ?_)
 rintro e w6 ⟨v,l,rfl,hll,hlz,hAR⟩;obtain⟨VA,vc,rfl⟩:=Qf hAR.own;have hU6:=HU5.out.trans hAR.nx;have hA6:VF w0 b n p (d+1+1+1+1+10) w1 (.slice VA l.length vc) l w6:=⟨hU6,Qq hAR.own HU5.out.gr.size,zb⟩;have hS7:=Zz.start hA6 (hU6.blk HRs.out zb) zb (by omega:w.heap.size+1≠b) #[.int .i64 1,.int .i64 0,.string ⟨#[]⟩,.string ⟨#[]⟩,.string s1,.string s2,.string s3,.int .i64 (1+r),.int .i64 0,.slice VA l.length vc];have htr7:(w6.alloc (.cells #[.int .i64 1,.int .i64 0,.string ⟨#[]⟩,.string ⟨#[]⟩,.string s1,.string s2,.string s3,.int .i64 (1+r),.int .i64 0,.slice VA l.length vc] 43)).heap[w.heap.size]? =some (.cells #[.slice A N c] 30 (0,0)):=(heap_alloc_old _ _ (zh (hU6.blk HTr.out zb))).trans (hU6.blk HTr.out zb);have HTr7:=za htr7;have HD7:Hid (zE (w6.alloc (.cells #[.int .i64 1,.int .i64 0,.string ⟨#[]⟩,.string ⟨#[]⟩,.string s1,.string s2,.string s3,.int .i64 (1+r),.int .i64 0,.slice VA l.length vc] 43)) A 10 ds.length (cellsOf zM ds)):=za (((HD0.out.keep HB1.out).grown hU6.gr (fun a ha e=>TE)).keep zu);have HZl:=za hlz;have HS7:=za hS7;clear hAR hU6 hA6 hS7 htr7 hlz;go_upto_region 2 with fail
 obtain⟨w7,hw7⟩:∃w7,w6.alloc (.cells #[.int .i64 1,.int .i64 0,.string ⟨#[]⟩,.string ⟨#[]⟩,.string s1,.string s2,.string s3,.int .i64 (1+r),.int .i64 0,.slice VA l.length vc] 43)=w7:=⟨_,rfl⟩;rw[hw7]at HS7 HTr7 HD7⊢;clear hw7;generalize w6.heap.size=B at*;have hwB:w.heap.size≠B:=by have:=HS7.out.lB;omega
 go_wp2_with fail
 go_loopg [6] (N+1) (fun gk s6 wr=>∃(k:Nat) (ix:Int),s6=.int .i64 k/\k+gk=N+1/\k<=N/\1<=ix/\ix<=K+1/\Hid (Zz w0 b n p (d+1+1+1+1+10) w1 (w.heap.size+1) (.slice VA l.length vc) l B #[.int .i64 ix,.int .i64 0,.string ⟨#[]⟩,.string ⟨#[]⟩,.string s1,.string s2,.string s3,.int .i64 (1+r),.int .i64 0,.slice VA l.length vc] wr)/\Hid (wr.heap[w.heap.size]? =some (.cells #[.slice A N c] 30 (0,0)))/\Hid (zE wr A 10 ds.length (cellsOf zM ds)))
 case atStart=>exact⟨0,1,rfl,zb,X1 _,Int.le_refl _,zb,HS7.out,HTr7.out,HD7.out⟩
 case round=>
 obtain⟨k,ix,rfl,hkg,hkN,hx1,hx2,HSk,HTk,HDk⟩:=hrel;have t0:=zd (j:=0) HTk.out rfl;by_cases hlt:k<N
 · have hltI:(k:Int)<(N:Int):=by omega
   have hk1:k<ds.length:=kz;obtain⟨ba,off,rfl,hba,hcx⟩:=HDk.out.row.cell Xl zb;have hcx0:=hcx k ds[k] (l0 hk1) 0 _ rfl;rw[zk3]at hcx0;have hyK:=HKd.out _ (X8 hk1);obtain⟨yi,hyi⟩:∃yi,ds[k].ix=yi:=⟨_,rfl⟩;rw[hyi]at hcx0 hyK;obtain⟨hy1,hy2⟩:=hyK;have HFk:=za (HFr.out _ rfl);have x0:=HSk.out.cl (j:=0) rfl;have z0:=HSk.out.fz 0;have hbn:ba≠b:=R7;clear hcx hyi hk1;have HNew:Hid (∀v:Int,1<=v->v<=K+1->∃(k':Nat) (ix:Int),Value.int .i64 ((k:Int)+1)=.int .i64 k'/\k'+(gk - 1)=N+1/\k'<=N/\1<=ix/\ix<=K+1/\Hid (Zz w0 b n p (d+1+1+1+1+10) w1 (w.heap.size+1) (.slice VA l.length vc) l B #[.int .i64 ix,.int .i64 0,.string ⟨#[]⟩,.string ⟨#[]⟩,.string s1,.string s2,.string s3,.int .i64 (1+r),.int .i64 0,.slice VA l.length vc] (wr.setCell ⟨B,0,none⟩ (.int .i64 v)).drew)/\Hid ((wr.setCell ⟨B,0,none⟩ (.int .i64 v)).drew.heap[w.heap.size]? =some (.cells #[.slice (some ⟨ba,off,none⟩) N c] 30 (0,0)))/\Hid (zE (wr.setCell ⟨B,0,none⟩ (.int .i64 v)).drew (some ⟨ba,off,none⟩) 10 ds.length (cellsOf zM ds))):=za fun v hv1 hv2=>by
    have hS:=(HSk.out.set 0 (.int .i64 v)).below zj.drew;refine⟨k+1,v,zU,zb,zb,hv1,hv2,za hS,za ((heap_setCell_other wr ⟨B,0,none⟩ _ _ hwB).trans HTk.out),za ((HDk.out.grown (qE wr B 0 _) (fun a ha e=>?_)).keep zj.drew)⟩;have h1:=(HD0.out.pl a ha).2;have h2:=HSk.out.lB;have h3:=HB1.out.size;have h4:=zx e;omega
   go_wp2;go_region
   all_goals
    go_wp2;go_roundg (gk - 1)
    case measure=>omega
    case rel=>exact HNew.out _ zb zb
 · obtain rfl:k=N:=by omega
   have hltI:¬(k:Int)<(k:Int):=zb;go_upto_region 7 with fail
   go_cut [50]from 44 to 50 (fun s50 wx=>∃(bb:Bool) (D:Nat),s50=.bool bb/\D<=(d+1+1+1+1+10)+1/\Hid (bb=true->0<k)/\Hid (Zz w0 b n p D w1 (w.heap.size+1) (.slice VA l.length vc) l B #[.int .i64 ix,.int .i64 0,.string ⟨#[]⟩,.string ⟨#[]⟩,.string s1,.string s2,.string s3,.int .i64 (1+r),.int .i64 0,.slice VA l.length vc] wx)/\Hid (wx.heap[w.heap.size]? =some (.cells #[.slice A k c] 30 (0,0)))/\Hid (zE wx A 10 ds.length (cellsOf zM ds)))
   case first=>
    by_cases hk0:k=0
    · subst hk0;go_wp2
      all_goals
       go_meet;exact⟨false,_,rfl,X2 _,za (fun e=>ZK),HSk,HTk,HDk⟩
    · have hkp:(0:Int)<(k:Int):=by omega
      go_wp2_with fail
      (with_reducible refine(QO (n:=n) (p:=p) _ HSk.out.row.nx.st zb zb zb).mono ?_)
      rintro e w8 ⟨r8,_,_,rfl,hT⟩;have HS8:=za (HSk.out.go hT);have HT8:=za (hT.blk HTk.out zb);have HD8:=za (HDk.out.grown hT.gr (fun a ha e=>TE));clear hT;go_wp2
      all_goals
       go_meet;exact⟨_,_,rfl,zo,za (fun e=>zb),HS8,HT8,HD8⟩
   case rest=>
   obtain⟨bb,D,rfl,hD,HBb,HSc,HTc,HDc⟩:=hcut
   go_upto_if 50 with fail
   go_cut [7]from 51 to 59 (fun s7 wx=>∃(pa:Int) (D:Nat),s7=.int .i64 k/\D<=(d+1+1+1+1+10)+2/\(pa=0∨∃y∈ds,pa=y.ix)/\Hid (Zz w0 b n p D w1 (w.heap.size+1) (.slice VA l.length vc) l B #[.int .i64 ix,.int .i64 pa,.string ⟨#[]⟩,.string ⟨#[]⟩,.string s1,.string s2,.string s3,.int .i64 (1+r),.int .i64 0,.slice VA l.length vc] wx))
   case first=>
    cases bb with
    | false=>
      go_wp2
      all_goals
       go_meet;exact⟨0,D,rfl,zb,Or.inl rfl,HSc⟩
    | true=>
      have hkp:=HBb.out rfl;have t1:=zd (j:=0) HTc.out rfl;have z1:=HSc.out.fz 1;obtain⟨ba,off,rfl,hba,hcx⟩:=HDc.out.row.cell Xl (by rw[HN.out];exact hkp);obtain⟨rr,r0,r1,hNx⟩:=J9 (n:=n) (p:=p) (k:Int) HSc.out.row.nx.st zb zb zb;obtain⟨rn,rfl⟩:=Int.eq_ofNat_of_zero_le r0;have hrn:rn<ds.length:=VK;have hcx0:=hcx rn ds[rn] (l0 hrn) 0 _ rfl;rw[zk3]at hcx0;obtain⟨yi,hyi⟩:∃yi,ds[rn].ix=yi:=⟨_,rfl⟩;rw[hyi]at hcx0;have HYi:Hid (∃y∈ds,yi=y.ix):=za ⟨ds[rn],X8 hrn,hyi.symm⟩;have HFk:=za (HFr.out _ rfl);have hbn:ba≠b:=R7;have HNx:=za hNx;have HX0:=za hcx0;have hrk:(rn:Int)<(k:Int):=r1;clear hcx hyi hrn hNx;obtain⟨wd,hwd⟩:∃wd,wc.drew=wd:=⟨_,rfl⟩;have HBd:Hid (Below wc.heap.size wc wd):=za (by rw[<-hwd];exact zj.drew);have HWd:=za hwd;clear hwd;go_upto_region 8 with fail
      go_region_with (go_at_call 17;go_loud (rw[HWd.out]);go_loud ((with_reducible refine(HNx.out _ HBd.out).mono ?_));rintro e w9 ⟨rfl,hT⟩;have HS9:=za (Zz.go (Zz.below HSc.out HBd.out) hT);have t9:=zd (j:=0) (hT.blk ((HBd.out.block _ (zh HTc.out)).trans HTc.out) zb) rfl;have x9:=(hT.cell ba (off+rn*10) (i4 hba HBd.out.size) hbn).trans ((HBd.out.cell (p:=⟨ba,off+rn*10,none⟩) hba).trans HX0.out);have z9:=HS9.out.fz 1;have y9:=HS9.out.cl (j:=1) rfl;clear hT)
      all_goals
       go_wp2;go_meet;exact⟨yi,_,rfl,zb,Or.inr HYi.out,za (HS9.out.set 1 (.int .i64 yi))⟩
   case rest=>
   obtain⟨pa,D,rfl,hD,hpa,HS7⟩:=hcut;have hr:r=0∨r=1∨r=2∨r=3:=zb;clear r0 r1;rcases hr with rfl|rfl|rfl|rfl
   · have k7:=HS7.out.cl (j:=7) rfl;have z3:=HS7.out.fz 3;have z2:=HS7.out.fz 2;have q3:=HS7.out.cl (j:=3) rfl;have q2:=HS7.out.cl (j:=2) rfl;go_wp2_with fail
     (with_reducible refine(Iy (q:=sN) (n:=n) (p:=p) _ _ _ _ _ HS7.out.row.nx.st zi zl zi zi Km zb).mono ?_)
     rintro e w8 ⟨s4,hs4,rfl,hT⟩;obtain⟨hs4,hn4⟩:=OM hs4;have HS8:=za (HS7.out.go hT);have HS9:=za ((HS8.out.set 3 (.string s4)).set 2 (.string s4));clear hT q3 q2 z3 z2 k7;have q0:=HS8.out.cl (j:=0) rfl;have q1:=HS8.out.cl (j:=1) rfl;have q2:=HS8.out.cl (j:=2) rfl;have q3:=HS8.out.cl (j:=3) rfl;have q4:=HS8.out.cl (j:=4) rfl;have q5:=HS8.out.cl (j:=5) rfl;have q6:=HS8.out.cl (j:=6) rfl;have q7:=HS8.out.cl (j:=7) rfl;have q8:=HS8.out.cl (j:=8) rfl;have q9:=HS8.out.cl (j:=9) rfl;have z3:=HS8.out.fz 3;have z2:=HS8.out.fz 2;go_wp2_with (refine wpList_store_row rfl 43 _ _ rfl _ _ rfl rfl _ _ HS9.out.rs Kn rfl qP ?_)
     all_goals
      refine Yx rfl zk HS9.out.rs underlying43 rfl Kn zk ?_;exact HEnd.out B VA vc l ⟨ix,pa,s4,s4,s1,s2,s3,1,0,⟨VA,vc,l⟩⟩ _ _ HS9.out rfl ⟨Ys hs4,Ys hs4,Ys hs1,Ys hs2,Ys hs3,HZl.out,Rh hll,hx1,hx2,hpa,QW,QW,hn4⟩ zb
   · have k7:=HS7.out.cl (j:=7) rfl;have HS7b:=za (HS7.out.set 4 (.string ⟨#[98,108,111,99,107]⟩));have q4:=HS7.out.cl (j:=4) rfl;have z4:=HS7.out.fz 4;go_wp2_with fail
     (with_reducible refine(Iy (q:=sN) (n:=n) (p:=p) _ _ _ _ _ HS7b.out.row.nx.st zi zl zi zi Km zb).mono ?_)
     rintro e w8 ⟨s4,hs4,rfl,hT⟩;obtain⟨hs4,hn4⟩:=OM hs4;have HS8:=za (HS7b.out.go hT);have HSa:=za (HS8.out.set 3 (.string s4));clear hT k7 q4 z4;have q3:=HS8.out.cl (j:=3) rfl;have z3:=HS8.out.fz 3;go_wp2_with fail
     (with_reducible refine(QO (n:=n) (p:=p) _ HSa.out.row.nx.st zb zb zb).mono ?_)
     rintro e w9 ⟨r9,_,_,rfl,hT⟩;have HSb:=za (HSa.out.go hT);have HSc:=za (HSb.out.set 8 (.int .i64 (1+r9)));clear hT q3 z3;have q8:=HSb.out.cl (j:=8) rfl;have z8:=HSb.out.fz 8;go_upto_region 20 with fail
     obtain⟨wa,hwa⟩:∃wa,w9.setCell ⟨B,8,none⟩ (.int .i64 (1+r9))=wa:=⟨_,rfl⟩;rw[hwa]at HSc⊢;have HWa:=za hwa;have q9:=HSc.out.cl (j:=9) rfl;clear hwa q8 z8;have hwd:∃wd,wa.drew=wd:=⟨_,rfl⟩;obtain⟨wd,hwd⟩:=hwd;have HWd:=za hwd;have HSd:=za (by rw[<-hwd];exact HSc.out.below zj.drew:Zz w0 b n p _ w1 (w.heap.size+1) (.slice VA l.length vc) l B #[.int .i64 ix,.int .i64 pa,.string ⟨#[]⟩,.string s4,.string ⟨#[98,108,111,99,107]⟩,.string s2,.string s3,.int .i64 2,.int .i64 (1+r9),.slice VA l.length vc] wd);have hgb:wd.heap.size≠b:=by have:=HSd.out.bne;have:=HSd.out.lB;have:=zh HSd.out.bx;omega
     clear hwd
     go_region_with (first
      |(go_at_call 63;go_loud (rw[HWd.out]);refine(zay _).mono ?_;rintro e wc ⟨rfl,rfl⟩;have HSe:=za (HSd.out.below (zL _ (.cells Iu 9)));have q9e:=HSe.out.cl (j:=9) rfl)
      |(go_at_call 18;go_loud ((with_reducible refine(EU (n:=n) (p:=p) Iu 9 _ _ _ HSe.out.row.nx.st (i5 wd _) zht zdw zi zi hgb zb).mono ?_));rintro e wf ⟨s5,hs5a,rfl,hT⟩;have hs5:=(Of hs5a).1;have HS5:=za (Of hs5a).2;clear hs5a;have HSf:=za (HSe.out.go hT);have q9f:=HSf.out.cl (j:=9) rfl;clear hT)
      |(go_at_call 27;go_loud (refine(I6 VA vc l ⟨#[99,111,110,116,101,110,116]⟩ s5 wf zb (zr.of_own HSf.out.row.own)).mono ?_);rintro e wg ⟨v6,m,rfl,hown6,hml,hat6,hb6⟩;obtain⟨MA,mc,rfl⟩:=Qf hown6;have HSg:=za (HSf.out.below hb6);have HSh:=za (HSf.out.attrs hown6 hb6);have HZm:=za (vX HZl.out (y:=⟨⟨#[99,111,110,116,101,110,116]⟩,s5⟩) ⟨by show s5.size<=200;omega,(by decide:ByteArray.size (⟨#[99,111,110,116,101,110,116]⟩:ByteArray)<=200),HS5.out⟩ hat6);clear hown6 hb6 hat6;have z9:=HSh.out.fz 9;have y9:=HSh.out.cl (j:=9) rfl))
     all_goals
      have HS9:=za ((HSh.out.set 9 (.slice MA m.length mc)).set 2 (.string s4));have q0:=HSh.out.cl (j:=0) rfl;have q1:=HSh.out.cl (j:=1) rfl;have q2:=HSh.out.cl (j:=2) rfl;have q3:=HSh.out.cl (j:=3) rfl;have q4:=HSh.out.cl (j:=4) rfl;have q5:=HSh.out.cl (j:=5) rfl;have q6:=HSh.out.cl (j:=6) rfl;have q7:=HSh.out.cl (j:=7) rfl;have q8:=HSh.out.cl (j:=8) rfl;have z2:=HSh.out.fz 2;go_wp2_with (refine wpList_store_row rfl 43 _ _ rfl _ _ rfl rfl _ _ HS9.out.rs Kn rfl qP ?_)
     all_goals
      refine Yx rfl zk HS9.out.rs underlying43 rfl Kn zk ?_;exact HEnd.out B MA mc m ⟨ix,pa,s4,s4,(⟨#[98,108,111,99,107]⟩:ByteArray),s2,s3,2,(1+r9),⟨MA,mc,m⟩⟩ _ _ HS9.out rfl ⟨Ys hs4,Ys hs4,(by decide:ByteArray.size (⟨#[98,108,111,99,107]⟩:ByteArray)<=200),Ys hs2,Ys hs3,HZm.out,zc4 hml hll,hx1,hx2,hpa,QW,QW,hn4⟩ zb
   · have k7:=HS7.out.cl (j:=7) rfl;go_wp2_with fail
     (with_reducible refine(Iy (q:=sN) (n:=n) (p:=p) _ _ _ _ _ HS7.out.row.nx.st zi zl zi zi Km zb).mono ?_)
     rintro e w8 ⟨s4,hs4,rfl,hT⟩;obtain⟨hs4,hn4⟩:=OM hs4;have HS8:=za (HS7.out.go hT);have HSa:=za (HS8.out.set 3 (.string s4));clear hT k7;have q3:=HS8.out.cl (j:=3) rfl;have z3:=HS8.out.fz 3;go_wp2_with fail
     (with_reducible refine(QO (n:=n) (p:=p) _ HSa.out.row.nx.st zb zb zb).mono ?_)
     rintro e w9 ⟨r9,_,_,rfl,hT⟩;have HSb:=za (HSa.out.go hT);have HS9:=za ((HSb.out.set 8 (.int .i64 (1+r9))).set 2 (.string s4));clear hT q3 z3;have q0:=HSb.out.cl (j:=0) rfl;have q1:=HSb.out.cl (j:=1) rfl;have q2:=HSb.out.cl (j:=2) rfl;have q3:=HSb.out.cl (j:=3) rfl;have q4:=HSb.out.cl (j:=4) rfl;have q5:=HSb.out.cl (j:=5) rfl;have q6:=HSb.out.cl (j:=6) rfl;have q7:=HSb.out.cl (j:=7) rfl;have q8:=HSb.out.cl (j:=8) rfl;have q9:=HSb.out.cl (j:=9) rfl;have z8:=HSb.out.fz 8;have z2:=HSb.out.fz 2;go_wp2_with (refine wpList_store_row rfl 43 _ _ rfl _ _ rfl rfl _ _ HS9.out.rs Kn rfl qP ?_)
     all_goals
      refine Yx rfl zk HS9.out.rs underlying43 rfl Kn zk ?_;exact HEnd.out B VA vc l ⟨ix,pa,s4,s4,s1,s2,s3,3,(1+r9),⟨VA,vc,l⟩⟩ _ _ HS9.out rfl ⟨Ys hs4,Ys hs4,Ys hs1,Ys hs2,Ys hs3,HZl.out,Rh hll,hx1,hx2,hpa,QW,QW,hn4⟩ zb
   · have k7:=HS7.out.cl (j:=7) rfl;have HS7b:=za (HS7.out.set 4 (.string ⟨#[110,101,116]⟩));have q4:=HS7.out.cl (j:=4) rfl;have z4:=HS7.out.fz 4;go_wp2_with fail
     (with_reducible refine(Iy (q:=sN) (n:=n) (p:=p) _ _ _ _ _ HS7b.out.row.nx.st zi zl zi zi Km zb).mono ?_)
     rintro e w8 ⟨s4,hs4,rfl,hT⟩;obtain⟨hs4,hn4⟩:=OM hs4;have HS8:=za (HS7b.out.go hT);have HSa:=za (HS8.out.set 3 (.string s4));clear hT k7 q4 z4;have q3:=HS8.out.cl (j:=3) rfl;have z3:=HS8.out.fz 3;go_wp2_with fail
     (with_reducible refine(VW (n:=n) (p:=p) 60 _ _ _ _ _ HSa.out.row.nx.st (zfW hs4) zl zi zi Km zb).mono ?_)
     rintro e w9 ⟨s5,hs5,rfl,hT⟩;have HSb:=za (HSa.out.go hT);have HS9:=za (HSb.out.set 2 (.string s5));clear hT q3 z3;have q0:=HSb.out.cl (j:=0) rfl;have q1:=HSb.out.cl (j:=1) rfl;have q2:=HSb.out.cl (j:=2) rfl;have q3:=HSb.out.cl (j:=3) rfl;have q4:=HSb.out.cl (j:=4) rfl;have q5:=HSb.out.cl (j:=5) rfl;have q6:=HSb.out.cl (j:=6) rfl;have q7:=HSb.out.cl (j:=7) rfl;have q8:=HSb.out.cl (j:=8) rfl;have q9:=HSb.out.cl (j:=9) rfl;have z2:=HSb.out.fz 2;go_wp2_with (refine wpList_store_row rfl 43 _ _ rfl _ _ rfl rfl _ _ HS9.out.rs Kn rfl qP ?_)
     all_goals
      refine Yx rfl zk HS9.out.rs underlying43 rfl Kn zk ?_;exact HEnd.out B VA vc l ⟨ix,pa,s5,s4,(⟨#[110,101,116]⟩:ByteArray),s2,s3,4,0,⟨VA,vc,l⟩⟩ _ _ HS9.out rfl ⟨Ys hs5,Ys hs4,(by decide:ByteArray.size (⟨#[110,101,116]⟩:ByteArray)<=200),Ys hs2,Ys hs3,HZl.out,Rh hll,hx1,hx2,hpa,QW,QW,hn4⟩ zb
end Go.Proofs.YtecbmndgpepkcaaGreatDoor

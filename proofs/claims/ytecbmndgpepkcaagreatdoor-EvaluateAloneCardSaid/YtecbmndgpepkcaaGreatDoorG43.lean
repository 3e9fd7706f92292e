/- Contracts that the law rests on, each under the premises that it names. -/
import Derived.Test.YtecbmndgpepkcaaGreatDoorWDevT
import Derived.Test.YtecbmndgpepkcaaGreatDoorWtG
namespace Go.Proofs.YtecbmndgpepkcaaGreatDoor
open Tryz
set_option maxHeartbeats 8000000
set_option maxRecDepth 100000
section
open Go.RowKit
theorem UB.w{K:Int}{ds:List Dv}{x:Dv}(h:UB K ds x):RQ x:=⟨by have:=h.nam;omega,by have:=h.og;omega,by have:=h.sb;omega,by have:=h.dr;omega,by have:=h.al;omega,NL,fun y hy=>by have:=(h.ats y hy).2;omega,fun y hy=>by have:=(h.ats y hy).1;omega⟩
theorem UB.y{K:Int}{ds:List Dv}{x:Dv}(h:UB K ds x)(hd:∀d∈ds,UO K d)(hk:0<=K):UO (K+1) x:=by
 have hp:0<=x.pa/\x.pa<=K:=by
  rcases h.pa with e|⟨y,hy,e⟩
  · omega
  · have h1:=(hd y hy).ix1;have h2:=(hd y hy).ix2;omega
 exact⟨h.nam,h.og,h.sb,h.dr,h.al,h.ats,h.len,h.ix1,h.ix2,hp.1,zb,h.nb1,h.nb2,h.og1⟩
theorem kI.ins{K:Int}{ds:List Dv}{x:Dv}{m:Nat}(h:kI K ds)(hx:UB K ds x)(hk:0<=K)(hn:YE ds x.ix=none)(hp:x.pa=0∨∃y∈ds.take m,y.ix=x.pa):kI (K+1) (ds.take m++x::ds.drop m):=by
 refine⟨?_,fun d hd=>?_⟩
 · have e:zm (ds.take m++x::ds.drop m)=(zm ds).take m++x.d::(zm ds).drop m:=by
    unfold zm;exact ET
   rw[e];refine za5 h.wf hx.ix1 (Io.2 fun y hy=>?_) ?_
   · obtain⟨z,hz,rfl⟩:=List.mem_map.1 hy;unfold YE at hn;rw[List.find?_eq_none]at hn;have:=hn z hz;show z.ix≠x.ix;exact QN
   · rcases hp with e|⟨y,hy,e⟩
     · exact Or.inl e
     · refine Or.inr ⟨y.d,?_,e⟩;show y.d∈(zm ds).take m;unfold zm;rw[<-List.map_take];exact List.mem_map.2 ⟨y,hy,rfl⟩
 · rcases Gs hd with rfl|hd
   · exact hx.y h.dv hk
   · exact(h.dv d hd).mono zb
structure Y7(w0:World)(b n p d:Nat)(K:Int)(w:World)(R B:Nat)(A:Option Addr)(c:Nat)(ds:List Dv)(W:World):Prop where
 nx:zA w0 b n p d w W
 bx:W.heap[B]? =some (.cells #[.slice A ds.length c] Q9 (0,0))
 rs:W.heap[R]? =some (.cells #[.slice none 0 0] Q9 (0,0))
 tr:qj W A ds
 fr:qV (B+1) A
 fi:∀x∈ds,qV (B+1) x.ats.A
 cp:ds.length<=c
 tw:kI K ds
 lB:w.heap.size<=B
 lR:w.heap.size<=R
 ne:R<B
 lo:w0.heap.size<=w.heap.size
section
variable{w0 w W W1:World}{b n p d d' R B:Nat}{K:Int}{A:Option Addr}{c:Nat}{ds:List Dv}
theorem Y7.bne(h:Y7 w0 b n p d K w R B A c ds W):b<w.heap.size:=E6
theorem Y7.off(h:Y7 w0 b n p d K w R B A c ds W):b<R:=by have:=h.bne;have:=h.lR;omega
theorem Y7.go(h:Y7 w0 b n p d K w R B A c ds W)(hT:zA w0 b n p d' W W1):Y7 w0 b n p d' K w R B A c ds W1:=by
 have h1:=h.off;have h2:=h.ne;exact⟨h.nx.trans hT,hT.blk h.bx zb,hT.blk h.rs zb,h.tr.grown hT.gr (fun a ha=>by have:=h.fr a ha;omega) (fun x hx a ha=>by have:=h.fi x hx a ha;omega),h.fr,h.fi,h.cp,h.tw,h.lB,h.lR,h.ne,h.lo⟩
theorem Y7.up{K':Int}(h:Y7 w0 b n p d K w R B A c ds W)(hk:K<=K'):Y7 w0 b n p d K' w R B A c ds W:=⟨h.nx,h.bx,h.rs,h.tr,h.fr,h.fi,h.cp,⟨h.tw.wf,fun x hx=>(h.tw.dv x hx).mono hk⟩,h.lB,h.lR,h.ne,h.lo⟩
structure kf(K:Int)(ds:List Dv)(B q:Nat)(A':Option Addr)(n' c':Nat)(W:World):Prop where
 ex:∃x m,n'=(ds.take m++x::ds.drop m).length/\UB K ds x/\qV (B+1) x.ats.A/\ZM W x/\zE W A' 10 n' (cellsOf zM (ds.take m++x::ds.drop m))/\qV (B+1) A'/\n'<=c'/\ds.length<256/\YE ds x.ix=none/\(x.pa=0∨∃y∈ds.take m,y.ix=x.pa)/\(∀a,x.ats.A=some a->a.block≠q)/\∀a,A'=some a->a.block≠q
theorem kf.keep{A':Option Addr}{n' c' q:Nat}(h:kf K ds B q A' n' c' W)(hb:Below W.heap.size W W1):kf K ds B q A' n' c' W1:=by
 obtain⟨x,m,h1,h2,h3,h4,h5,h6⟩:=h.ex;exact⟨x,m,h1,h2,h3,h4.keep hb,h5.keep hb,h6⟩
theorem Y7.ins{A':Option Addr}{n' c' q:Nat}(h:Y7 w0 b n p d K w R B A c ds W)(hk:0<=K)(h1:kf K ds B q A' n' c' W):∃ds',n'=ds'.length/\ds'.length=ds.length+1/\Y7 w0 b n p d (K+1) w R B A' c' ds' (W.setCell ⟨B,0,none⟩ (.slice A' n' c')):=by
 obtain⟨x,m,e,hx,hfx,hdx,hrow,hfA,hc,hl,hno,hpa,_⟩:=h1.ex;have hne:=h.ne;have hlB:=h.lB;have hlo:=h.lo;have hg:=qE W B 0 (.slice A' n' c');have hlen:(ds.take m++x::ds.drop m).length=ds.length+1:=by
  rw[r7,u0,<-zk5,<-r7,List.take_append_drop]
 refine⟨ds.take m++x::ds.drop m,e,hlen,⟨h.nx.setCellR hlB hlo,?_,?_,?_,hfA,fun y hy=>?_,zb,h.tw.ins hx hk hno hpa,hlB,h.lR,hne,hlo⟩⟩
 · rw[heap_setCell_same _ _ _ _ _ _ h.bx,e];rfl
 · exact(heap_setCell_other W ⟨B,0,none⟩ _ _ (by show R≠B;omega)).trans h.rs
 · refine⟨?_,fun y hy=>?_,zb,fun y hy=>?_⟩
   · rw[<-e];exact hrow.grown hg (fun a ha k=>by have:=hfA a ha;have:=zx k;omega)
   · rcases Gs hy with rfl|hy
     · exact zE.grown hdx hg (fun a ha k=>by have:=hfx a ha;have:=zx k;omega)
     · exact zE.grown (h.tr.inn y hy) hg (fun a ha k=>by have:=h.fi y hy a ha;have:=zx k;omega)
   · rcases Gs hy with rfl|hy
     · have:=hx.len;omega
     · exact h.tr.al y hy
 · rcases Gs hy with rfl|hy
   · exact hfx
   · exact h.fi y hy
theorem kf.box{A':Option Addr}{n' c' q:Nat}{v:Value}(h:kf K ds B q A' n' c' W):kf K ds B q A' n' c' (W.setCell ⟨q,0,none⟩ v):=by
 obtain⟨x,m,h1,h2,h3,h4,h5,h6,h7,h8,h9,h10,h11,h12⟩:=h.ex;have hg:=qE W q 0 v;exact⟨x,m,h1,h2,h3,zE.grown h4 hg (fun a ha k=>h11 a ha (zx k)),h5.grown hg (fun a ha k=>h12 a ha (zx k)),h6,h7,h8,h9,h10,h11,h12⟩
theorem yO{A':Option Addr}{n' c' q Lo:Nat}{z:Int}{x:Dv}(hz:z=0->n'<=c'/\qV Lo A'/\∃m,n'=(ds.take m++x::ds.drop m).length/\zE W A' 10 n' (cellsOf zM (ds.take m++x::ds.drop m))/\ds.length<256/\YE ds x.ix=none/\(x.pa=0∨∃y∈ds.take m,y.ix=x.pa))
 (hX:UB K ds x)(hD:ZM W x)(hf:qV (B+1) x.ats.A)(hL:B+1<=Lo)(hq:∀a,x.ats.A=some a->a.block≠q)(hA:z=0->∀a,A'=some a->a.block<W.heap.size->a.block≠q):z=0->kf K ds B q A' n' c' W:=fun e=>by
 obtain⟨h1,h2,m,h3,h4,h5,h6,h7⟩:=hz e;exact⟨x,m,h3,hX,hf,hD,h4,qV.mono h2 hL,h1,h5,h6,h7,hq,fun a ha=>hA e a ha (h4.pl a ha).2⟩
end
def SE(m:Nat)(w0:World)(b n p d:Nat)(w:World)(e:Ending)(w':World):Prop:=∃A c ds,e=.returned (zV A ds c)/\qj w' A ds/\qV w.heap.size A/\(∀x∈ds,qV w.heap.size x.ats.A)/\ds.length<=c/\ds.length<=m/\kI m ds/\zA w0 b n p d w w'
theorem zjR {w0 w:World}{b n p d:Nat}(h:qr w0 b n p d w)(hE:Env0 w)(hb:nG<=b)(m:Nat)(hm:m<=20)(h3:p+d<=70000):
 Calls prog 21 #[.pointer (some ⟨b,0,none⟩),.int .i64 m] w (SE m w0 b n p (d+2000) w):=by
 have hlb:=h.lt;have hws:=h.size;have HE:=za hE;obtain⟨w1,hw1⟩:∃w1,(w.alloc (.cells #[.slice none 0 0] Q9)).alloc (.cells #[.slice none 0 0] Q9)=w1:=⟨_,rfl⟩;have hb1:Below w.heap.size w w1:=Vl;have hr1:w1.heap[w.heap.size]? =some (.cells #[.slice none 0 0] Q9 (0,0)):=kh;have hx1:w1.heap[w.heap.size+1]? =some (.cells #[.slice none 0 0] Q9 (0,0)):=by
  rw[<-hw1];have:=i5 (w.alloc (.cells #[.slice none 0 0] Q9)) (.cells #[.slice none 0 0] Q9);exact QN
 have HS1:Hid (Y7 w0 b n p d 0 w w.heap.size (w.heap.size+1) none 0 [] w1):=za ⟨(zA.refl h).belowW hb1,hx1,hr1,⟨zE.nil,(fun d hd=>by cases hd),X1 _,(fun d hd=>by cases hd)⟩,(fun a e=>ZK),(fun d hd=>by cases hd),zo,kI.nil,X2 _,zo,zd2 _,hws⟩;have HW1:=za hw1;have hRB:w.heap.size≠w.heap.size+1:=zb;clear hE h hb1 hr1 hx1 hw1;unfold SE;go_enter func21,ntmps21;go_upto_region 2 with fail
 rw[HW1.out];go_wp2_with fail
 (with_reducible refine(QO (n:=n) (p:=p) _ HS1.out.nx.st zb zb zb).mono ?_)
 rintro e w2 ⟨r,r0,r1,rfl,hT⟩;obtain⟨rn,rfl⟩:=Int.eq_ofNat_of_zero_le r0;have hrn:rn<=m:=zb;have HS2:=za (HS1.out.go hT);clear hT r0 r1;go_wp2_with fail
 go_loopg [6] (m+1) (fun gk s6 wr=>∃(k:Nat) (A:Option Addr) (c:Nat) (ds:List Dv) (D:Nat),s6=.int .i64 k/\k+1<=gk/\k<=m/\ds.length+k<=m/\D+51*k<=d+1+51*m/\Hid (Y7 w0 b n p D ((m - k:Nat):Int) w w.heap.size (w.heap.size+1) A c ds wr))
 case atStart=>exact⟨rn,none,0,[],d+1,rfl,zb,hrn,by simpa using hrn,zb,za (HS2.out.up zb)⟩
 case round=>
 obtain⟨k,A,c,ds,D,rfl,hkg,hkm,hlk,hD,HS⟩:=hrel;have c5:=zd (j:=0) HS.out.bx rfl;by_cases hk:0<k
 · have hkI : (0:Int)<(k:Int):=by omega
   obtain⟨N,hN⟩:∃N,ds.length=N:=⟨_,rfl⟩;have HN:=za hN;have HDv:Hid (∀W:World,Below wr.heap.size wr W->Calls prog 43 #[.pointer (some ⟨b,0,none⟩),.agg #[.slice A N c]] W (ye ((m - k:Nat):Int) ds w0 b n p (D+50) W)):=za fun W hW=>by
    have q:=BE (HS.out.nx.st.below hW) zb A c ds ((m - k:Nat):Int) (HS.out.tr.keep hW) (qV.mono HS.out.fr (by have:=HS.out.lB;omega)) zb zb (fun x hx=>⟨(HS.out.tw.dv x hx).ix1,(HS.out.tw.dv x hx).ix2⟩);unfold zV at q;rw[hN]at q;exact q
   have HIn:Hid (∀(x:Dv) (W:World),qj W A ds->Env0 W->ZM W x->UB ((m - k:Nat):Int) ds x->Calls prog 42 #[.agg #[.slice A N c],zY x] W (Ib ds x W)):=za fun x W hW hE hx hX=>by
    have q:=zf6 A c ds x W hE hW HS.out.cp hx hX.w (fun y hy=>by have:=(HS.out.tw.dv y hy).og;omega);unfold zV at q;rw[hN]at q;exact q
   have HEr:=za (HE.out.nxW HS.out.nx hb);rw[hN]at c5 hlk;clear hN;go_upto_region 5 with fail
   go_cut [7,8]from 17 to 24 (fun s7 s8 wx=>∃(q:Nat) (A':Option Addr) (n' c':Nat) (z:Int),s7=.pointer (some ⟨q,0,none⟩)/\s8=.int .i64 z/\Hid (wx.heap[q]? =some (.cells #[.slice A' n' c'] Q9 (0,0)))/\Hid (Y7 w0 b n p (D+50) ((m - k:Nat):Int) w w.heap.size (w.heap.size+1) A c ds wx)/\Hid (w.heap.size+1<q)/\Hid (z=0->kf ((m - k:Nat):Int) ds (w.heap.size+1) q A' n' c' wx))
   case first=>
    have HSa:Hid (∀W:World,Below wr.heap.size wr W->W.cell? ⟨w.heap.size+1,0,none⟩=some (.slice A N c)):=za fun W hW=>by
     have:=zd (j:=0) ((hW.block _ (zh HS.out.bx)).trans HS.out.bx) rfl;rw[HN.out]at this;exact this
    clear c5;have hBl:w.heap.size+1<wr.heap.size:=zh HS.out.bx;have hwb:wr.heap.size≠b:=by have:=HS.out.off;have:=zh HS.out.bx;omega
    go_region_held3 (fun W'=>W'.cell? ⟨w.heap.size+1,0,none⟩=some (.slice A N c)) (first|exact HSa.out _ (by first|exact zN zj|exact zP (zN zj))|exact HSb.out _ (by first|exact zj|exact zu|exact HB3.out|exact zP HB3.out)|exact HSs.out _ _ _ HB3.out (Nat.ne_of_lt hBl)|exact HSs.out _ _ _ HB3.out (by have:=HTd.out.gr.size;omega)) ((first
     | (go_at_call 43
        first
        | (refine(HDv.out _ (zN zj)).mono ?_
           rintro e w2 ⟨x,hx,rfl,hDN,hT,hFx⟩;have HX:=za hx;have HDN:=za hDN;have HTd:=za (zA.of_below hT (zN (Below.refl wr.heap.size wr)));have HFx:=za hFx;have HSb:Hid (∀W:World,Below w2.heap.size w2 W->W.cell? ⟨w.heap.size+1,0,none⟩=some (.slice A N c)):=za fun W hW=>ED;have HSs:Hid (∀(W:World) (q:Nat) (v:Value),Below w2.heap.size w2 W->w.heap.size+1≠q->(W.setCell ⟨q,0,none⟩ v).cell? ⟨w.heap.size+1,0,none⟩=some (.slice A N c)):=za fun W q v hW hq=>EP;clear hx hDN hT hFx)
        | (refine(HDv.out _ (zP (zN zj))).mono ?_
           rintro e w2 ⟨x,hx,rfl,hDN,hT,hFx⟩;have HX:=za hx;have HDN:=za hDN;have HTd:=za (zA.of_below hT (zP (zN (Below.refl wr.heap.size wr))));have HFx:=za hFx;have HSb:Hid (∀W:World,Below w2.heap.size w2 W->W.cell? ⟨w.heap.size+1,0,none⟩=some (.slice A N c)):=za fun W hW=>ED;have HSs:Hid (∀(W:World) (q:Nat) (v:Value),Below w2.heap.size w2 W->w.heap.size+1≠q->(W.setCell ⟨q,0,none⟩ v).cell? ⟨w.heap.size+1,0,none⟩=some (.slice A N c)):=za fun W q v hW hq=>EP;have HQ1:=za (hT.blk (i5 wr.drew (.cells #[.slice none 0 0] Q9)) (show wr.drew.heap.size≠b from hwb));clear hx hDN hT hFx))
     | (go_at_call 42
        first
        | (refine(HIn.out x _ (HS.out.go HTd.out).tr (HEr.out.nxW HTd.out hb) HDN.out HX.out).mono ?_
           rintro e w3 ⟨A',n',c',z,rfl,hb3,hz⟩;have HB3:=za (hb3:Below w2.heap.size w2 w3);have HZ:=za hz
           first
            | (have HQ3:Hid (w3.heap[wr.heap.size]? =some (.cells #[.slice none 0 0] Q9 (0,0))):=za ((hb3.block _ (zh HQ1.out)).trans HQ1.out)
               have t3:w3.cell? ⟨wr.heap.size,0,none⟩=some (.slice none 0 0):=zd (j:=0) HQ3.out rfl;have f3:w3.frozen? ⟨wr.heap.size,0,none⟩=false:=frozen_of_row _ _ _ _ _ HQ3.out)
            |skip
           clear hb3 hz)
        | (refine(HIn.out x _ ((HS.out.go HTd.out).tr.keep zu) ((HEr.out.nxW HTd.out hb).go zu) (zE.keep HDN.out zu) HX.out).mono ?_
           rintro e w3 ⟨A',n',c',z,rfl,hb3,hz⟩;have HB3:=za (bt zu hb3:Below w2.heap.size w2 w3);have HZ:=za hz;have HQ4:=za ((hb3.block _ zl).trans (i5 w2 (.cells #[.slice none 0 0] Q9)));have t3:w3.cell? ⟨w2.heap.size,0,none⟩=some (.slice none 0 0):=zd (j:=0) HQ4.out rfl;have f3:w3.frozen? ⟨w2.heap.size,0,none⟩=false:=frozen_of_row _ _ _ _ _ HQ4.out;clear hb3 hz))))
    all_goals
     have hx0:wr.heap.size<=w2.heap.size:=HTd.out.gr.size;have hx1:w2.heap.size<=w3.heap.size:=HB3.out.size;have hT3:=HTd.out.belowW HB3.out;have hD3:=zE.keep HDN.out HB3.out;have hB:w.heap.size+1<wr.heap.size:=zh HS.out.bx;have hlo:=HS.out.lo;have hwr:=HS.out.nx.gr.size;go_wp2;go_meet
    · have h1:∀a,x.ats.A=some a->wr.heap.size<=a.block:=fun a ha=>HFx.out a ha;exact⟨_,A',n',c',z,rfl,rfl,za (i5 w3 _),za (HS.out.go (hT3.belowW zu)),za zb,za (fun e=>(yO (q:=w3.heap.size) HZ.out HX.out hD3 (fun a ha=>O0) zb (fun a ha=>Al) (fun e a ha hl=>zb) e).keep zu)⟩
    · have h1:∀a,x.ats.A=some a->wr.heap.size<=a.block:=fun a ha=>HFx.out a ha;have h2:z=0->∀a,A'=some a->w2.heap.size+1<=a.block:=fun e a ha=>by simpa using (HZ.out e).2.1 a ha
      exact⟨_,A',n',c',z,rfl,rfl,za (by rw[heap_setCell_same _ _ _ _ _ _ HQ4.out];rfl),za (HS.out.go (hT3.setCellR zb zb)),za zb,za (fun e=>(yO (q:=w2.heap.size) HZ.out HX.out hD3 (fun a ha=>O0) zK (fun a ha=>Al) (fun e a ha _=>by have:=h2 e a ha;omega) e).box)⟩
    · have h1:∀a,x.ats.A=some a->wr.heap.size+1<=a.block:=fun a ha=>by simpa using HFx.out a ha
      have h2:wr.heap.size<w2.heap.size:=zh HQ1.out;exact⟨_,A',n',c',z,rfl,rfl,za (by rw[heap_setCell_same _ _ _ _ _ _ HQ3.out];rfl),za (HS.out.go (hT3.setCellR zo zb)),za hBl,za (fun e=>(yO (q:=wr.heap.size) HZ.out HX.out hD3 (fun a ha=>O0) zb (fun a ha=>O0) (fun e a ha _=>by have:=(HZ.out e).2.1 a ha;omega) e).box)⟩
   case rest=>
    obtain⟨q,A',n',c',z,rfl,rfl,HQ,HSx,Hq,HNw⟩:=hcut;have hqB:=Hq.out;have hn:=HN.out;have t7:=zd (j:=0) HQ.out rfl;have t5:=zd (j:=0) HSx.out.bx rfl;have f5:wc.frozen? ⟨w.heap.size+1,0,none⟩=false:=frozen_of_row _ _ _ _ _ HSx.out.bx;by_cases hz:z=0
    · subst hz;obtain⟨ds',hn',hl',hS'⟩:=HSx.out.ins zb (HNw.out rfl);have HS':=za (hS'.up (show((m - k:Nat):Int)+1<=((m - (k - 1):Nat):Int) by omega));have hd':ds'.length+(k - 1)<=m:=zb;clear hS' hn' hl' hn;go_wp2;go_roundg (gk - 1)
      case measure=>omega
      case rel=>exact⟨k - 1,A',c',ds',D+50,zU,zb,zb,zb,zb,HS'⟩
    · have hd':ds.length+(k - 1)<=m:=by omega
      clear hn;go_wp2;go_roundg (gk - 1)
      case measure=>omega
      case rel=>exact⟨k - 1,A,c,ds,D+50,zU,zb,zb,zb,zb,za (HSx.out.up zb)⟩
 · obtain rfl:k=0:=by omega
   have hkI:¬(0:Int)<((0:Nat):Int):=zb;have c4:=zd (j:=0) HS.out.rs rfl;have f4:wr.frozen? ⟨w.heap.size,0,none⟩=false:=frozen_of_row _ _ _ _ _ HS.out.rs;go_wp2;have HR9:Hid (∀v,(wr.setCell ⟨w.heap.size,0,none⟩ v).heap[w.heap.size]? =some (.cells #[v] Q9 (0,0))):=za fun v=>heap_setCell_same _ _ _ _ _ _ HS.out.rs;refine Vf rfl zk (HR9.out _) underlying30 rfl JC zk ?_;have hg:=qE wr w.heap.size 0 (.slice A ds.length c);refine⟨A,c,ds,rfl,HS.out.tr.grown hg (fun a ha=>?_) (fun x hx a ha=>?_),fun a ha=>?_,fun x hx a ha=>?_,HS.out.cp,zb,⟨HS.out.tw.wf,fun x hx=>(HS.out.tw.dv x hx).mono zb⟩,(HS.out.nx.setCellR zo HS.out.lo).more zb⟩
   · have:=HS.out.fr a ha;omega
   · have:=HS.out.fi x hx a ha;omega
   · have:=HS.out.fr a ha;omega
   · have:=HS.out.fi x hx a ha;omega
end
section
open Go.RowKit
def P9(s:ByteArray)(w:World)(e:Ending)(w':World):Prop:=∃(f:Fq) (A:Option Addr) (c:Nat) (er:Int),e=.returned (.tuple #[Uj f A c,.int .i64 er])/\((er=0/\V7 (L s)=some (f.kd,f.id,f.lab))∨(er≠0/\V7 (L s)=none))/\Below w.heap.size w w'
theorem zbf{g:Nat}{s:ByteArray}{w w':World}{a:Nat}{r:Cs×zZ}{e:Ending}(h:Gb g s w a r e w'):∃(f:Fq) (A:Option Addr) (c:Nat),e=.returned (Uj f A c)/\(f.kd,f.id,f.lab)=(r.1.kd,r.1.id,r.1.lab)/\Zm w g s r.2 w'/\(r.2.a<=1000->∀W,Below w'.heap.size w' W->Calls prog 260 #[Uj f A c] W fun e W'=>e=.returned (.int .i64 (if r.1.dep<=6/\r.1.ok=true then 0 else 70))/\Below W.heap.size W W'):=by
 obtain⟨m,rfl,hm,hc,hq,hn⟩:=h;have h1:m.dep=r.1.dep/\m.ok=r.1.ok/\m.fl.kd=r.1.kd/\m.fl.id=r.1.id/\m.fl.lab=r.1.lab:=by rw[<-hm];exact⟨rfl,rfl,rfl,rfl,rfl⟩
 have hK:r.2.a<=1000->∀W,Below w'.heap.size w' W->Calls prog 260 #[.agg (ZN m).toArray] W fun e W'=>e=.returned (.int .i64 (if r.1.dep<=6/\r.1.ok=true then 0 else 70))/\Below W.heap.size W W':=fun ha W hW=>by
  rw[<-h1.1,<-h1.2.1];exact zbT (hn.keep hW fun _ _ h=>h) zb
 cases m with
 |mk k i b s t e A c l=>exact⟨⟨k,i,b,s,t,e,l.length⟩,A,c,rfl,by rw[<-h1.2.2.1,<-h1.2.2.2.1,<-h1.2.2.2.2];rfl,hq,hK⟩
theorem zjw(s:ByteArray)(w:World)(hE:Env w)(ha:s.size<=256->∀b∈L s,b.toNat<128)(hs:s.size<=1000000):Calls prog 229 #[.string s] w (P9 s w):=by
 by_cases hz:s.size<=256
 · have hbp:Below w.heap.size w ((w.alloc (.cells qL zy)).alloc (.cells #[.string s,.int .i64 0,.bool false] 325)):=bt zu zu;have hbx:((w.alloc (.cells qL zy)).alloc (.cells #[.string s,.int .i64 0,.bool false] 325)).heap[w.heap.size+1]? =some (.cells #[.string s,.int .i64 0,.bool false] 325 (0,0)):=by have:=i5 (w.alloc (.cells qL zy)) (.cells #[.string s,.int .i64 0,.bool false] 325);simpa using this
   have hP:Qg _ (w.heap.size+1) s ⟨0,false⟩:=⟨hbx,X1 _,zb,ha hz⟩;have HC:=za (Calls.mono (zjr (w.heap.size+1) s (by have:=hE.toEnv0.size;omega) 800 zi ⟨0,false⟩ _ hP (hE.go hbp) (by show 3*(s.size - 0)+1<=800;omega)) fun _ _ h=>zbf h);have hR:(⟨0,false⟩:zZ).a=0:=rfl;obtain⟨r,hr⟩:∃r,V7 (L s)=r:=⟨_,rfl⟩;unfold P9;rw[hr];unfold V7 at hr;dsimp only at hr;rw[zF]at hr;generalize Yc (L s) 800 ⟨0,false⟩=x at*;obtain⟨y,a,b⟩:=x;dsimp only at*;have HB:=za hbp;have hR0:((w.alloc (.cells qL zy)).alloc (.cells #[.string s,.int .i64 0,.bool false] 325)).heap[w.heap.size]? =some (.cells qL zy (0,0)):=(zu.block _ zl).trans (i5 w _);have HR0:=za hR0;have hG:∀(f:Fq) (A:Option Addr) (c:Nat) (W:World),Hid (s.size<=256/\b=false/\a=s.size/\y.dep<=6/\y.ok=true)->(f.kd,f.id,f.lab)=(y.kd,y.id,y.lab)->Below w.heap.size w W->∃(f':Fq) (A':Option Addr) (c':Nat) (er:Int),Ending.returned (.tuple #[Uj f A c,.int .i64 0])=.returned (.tuple #[Uj f' A' c',.int .i64 er])/\((er=0/\r=some (f'.kd,f'.id,f'.lab))∨(er≠0/\r=none))/\Below w.heap.size w W:=fun f A c W h hf hW=>⟨f,A,c,0,rfl,Or.inl ⟨rfl,by rw[<-hr,if_pos h.out,hf]⟩,hW⟩;have hB:∀(er:Int) (W:World),Hid (¬(s.size<=256/\b=false/\a=s.size/\y.dep<=6/\y.ok=true))->er≠0->Below w.heap.size w W->∃(f':Fq) (A':Option Addr) (c':Nat) (er':Int),Ending.returned (.tuple #[.agg qL,.int .i64 er])=.returned (.tuple #[Uj f' A' c',.int .i64 er'])/\((er'=0/\r=some (f'.kd,f'.id,f'.lab))∨(er'≠0/\r=none))/\Below w.heap.size w W:=fun er W h he hW=>⟨⟨0,⟨#[]⟩,⟨#[]⟩,0,0,0,0⟩,none,0,er,rfl,Or.inr ⟨he,by rw[<-hr,if_neg h.out]⟩,hW⟩;have HG:=za hG;have HBd:=za hB;clear hr hP hbx hbp hE ha hs hG hB hR0;generalize hQ:(fun(e:Ending) (w':World)=>∃(f:Fq) (A:Option Addr) (c:Nat) (er:Int),e=.returned (.tuple #[Uj f A c,.int .i64 er])/\((er=0/\r=some (f.kd,f.id,f.lab))∨(er≠0/\r=none))/\Below w.heap.size w w')=Q;have HQ:=za hQ;clear hQ;have hk:(b=true/\Hid (¬(s.size<=256/\b=false/\a=s.size/\y.dep<=6/\y.ok=true)))∨(b=false/\((a≠s.size/\Hid (¬(s.size<=256/\b=false/\a=s.size/\y.dep<=6/\y.ok=true)))∨(a=s.size/\∃z:Int,(if y.dep<=6/\y.ok=true then(0:Int)else 70)=z/\((z=0/\Hid (s.size<=256/\b=false/\a=s.size/\y.dep<=6/\y.ok=true))∨(z=70/\Hid (¬(s.size<=256/\b=false/\a=s.size/\y.dep<=6/\y.ok=true))))))):=by
    cases b with
    |true=>exact Or.inl ⟨rfl,fun h=>by cases h.2.1⟩
    | false=>
      refine Or.inr ⟨rfl,?_⟩;by_cases h1:a=s.size
      · refine Or.inr ⟨h1,_,rfl,?_⟩;by_cases h2:y.dep<=6/\y.ok=true
        · rw[if_pos h2];exact Or.inl ⟨rfl,hz,rfl,h1,h2⟩
        · rw[if_neg h2];exact Or.inr ⟨rfl,fun h=>h2 h.2.2.2⟩
      · exact Or.inl ⟨h1,fun h=>h1 h.2.2.1⟩
   rcases hk with⟨rfl,hX⟩|⟨rfl,⟨ha,hX⟩|⟨rfl,z,hzz,⟨rfl,hX⟩|⟨rfl,hX⟩⟩⟩
   all_goals
    go_enter func229,ntmps229;go_wp2_with (first
     |(go_at_call 260;refine(HK.out zb _ zu).mono ?_;rw[hzz];rintro e w5 ⟨rfl,hb5⟩;have hbb:=(zL w3 (.cells #[.int .i64 f.kd,.string f.id,.string f.lab,.int .i64 f.s,.int .i64 f.t,.int .i64 f.e,.slice A f.n c] zy)).trans (hb5.mono zu.size);obtain⟨p0,p1,p2,p3,p4,p5,p6,pf,pl⟩:=kZ ((hb5.block _ zl).trans (i5 w3 _));have hr5:=(hbb.block _ (zh HR3.out)).trans HR3.out;have HR5:=za hr5;have HB5:=za (bt HB3.out hbb);clear hb5 hbb hr5)
     |(refine wpList_store_row rfl zy _ _ rfl _ _ rfl rfl _ _ HR5.out (by exact Xe) rfl qP ?_)
     |(refine wpList_store_row rfl zy _ _ rfl _ _ rfl rfl _ _ (((zL w3 _).block _ (zh HR3.out)).trans HR3.out) (by exact Xe) rfl qP ?_)
     |(go_at_call 259;refine HC.out.mono ?_;rintro e w3 ⟨f,A,c,rfl,hf,hq,hk⟩;have HK:=za hk;have HF:=za hf;obtain⟨c0,c1,c2,_,hgl⟩:=hq.ps.cells;have hr3:=(hq.gr.block _ zK (fun e=>ZD)).trans HR0.out;have HR3:=za hr3;have HB3:Hid (Below w.heap.size w w3):=za (HB.out.grown hq.gr HB.out.size (fun j e=>ZD));clear hk hf hq hr3))
    (try clear hzz)
   · exact AW
   · exact AW
   · refine Qx rfl zk zk (setRow_heap _ _ _ _ _ _ HR5.out) underlying290 rfl Xe zk ?_;rw[<-HQ.out];exact HG.out f A c _ hX HF.out (qB HB5.out zo)
   · refine Qx rfl zk zk (setRow_heap _ _ _ _ _ _ HR5.out) underlying290 rfl Xe zk ?_;rw[<-HQ.out];exact HBd.out 70 _ hX zi (qB HB5.out zo)
 · have hr:V7 (L s)=none:=by
    unfold V7;dsimp only;rw[if_neg (by rw[zF];exact fun h=>hz h.1)]
   have HR:=za hr;have hzI:(256:Int)<(s.size:Int):=zb;have HR0:=za (i5 w (.cells qL zy));have HB:=za (zL w (.cells qL zy));clear hr ha hE;go_enter func229,ntmps229;go_wp2;refine Qx rfl zk zk HR0.out underlying290 rfl Xe zk ?_;exact⟨⟨0,⟨#[]⟩,⟨#[]⟩,0,0,0,0⟩,none,0,71,rfl,Or.inr ⟨zi,HR.out⟩,HB.out⟩
end
section
open Go.RowKit Go.Shelf Go.Maps
theorem EG{o:Option Dd}{w w':World}{e:Ending}(h:YC o w e w'):∃(x:Dv) (b:Bool),e=.returned (.tuple #[zY x,.bool b])/\x.d=o.getD qd.d/\ZM w' x/\Below w.heap.size w w':=by
 unfold YC at h;cases o with
 |none=>exact⟨qd,false,h.1,rfl,zE.nil,h.2⟩
 | some d=>
   obtain⟨x,h1,h2,h3,_,h5⟩:=h;exact⟨x,true,h1,h2,h3,h5⟩
theorem Na{l:List At}{n:ze}{w w':World}{e:Ending}(h:VB (zX l n) w e w'):e=.returned (.tuple #[.string (qQ l n),.bool (zX l n).isSome])/\Below w.heap.size w w':=by
 unfold VB JE at h;unfold qQ;cases hf:zX l n with
 |none=>rw[hf]at h;exact h
 |some y=>rw[hf]at h;exact h
theorem zgS(s:ze)(f:Nat)(p:zZ):0<=(Yc s f p).1.kd/\(Yc s f p).1.kd<=5:=by
 cases f with
 |zero=>rw[Yc];show(0:Int)<=0/\(0:Int)<=5;decide
 | succ f=>
   rw[Yc];dsimp only
   split
   · show(0:Int)<=0/\(0:Int)<=5;decide
   · split
     · show(0:Int)<=1/\(1:Int)<=5;decide
     · show 0<=(UN s _ _).1.1/\(UN s _ _).1.1<=5;unfold UN
       repeat' split
       all_goals dsimp only;decide
theorem zca{s:ze}{k:Int}{i l:ByteArray}(h:V7 s=some (k,i,l)):0<=k/\k<=5:=by
 unfold V7 at h;dsimp only at h
 split at h
 · injection h with h
   injection h with h _
   rw[<-h];exact zgS _ _ _
 · cases h
theorem zew(A:Option Addr)(c:Nat)(ds:List Dv)(n:Int)(w:World)(h:qj w A ds)(hE:Env w)(ha:∀d∈zm ds,∀y∈d.ats,y.val.size<=1000000/\∀b∈L y.val,b.toNat<128):
 Calls prog 192 #[zV A ds c,.int .i64 n] w (Yv w (match zC (zm ds) n with|some d=>UQ d|none=>[])):=by
 obtain⟨w1,hw1⟩:∃w1,w.alloc (.cells #[.slice A ds.length c] 30)=w1:=⟨_,rfl⟩;have hb1:Below w.heap.size w w1:=ZX;have HF:=za (Calls.mono (VD A c ds n w1 (h.keep hb1)) fun _ _ h=>EG h);have HB1:=za hb1;have HE:=za hE;have HW:=za hw1;have h0:w1.heap[w.heap.size]? =some (.cells #[.slice A ds.length c] 30 (0,0)):=Qo;have H0:=za h0;have hX:∀x:Dv,x.d=(zC (zm ds) n).getD qd.d->(match zC (zm ds) n with|some d=>UQ d|none=>[])=UQ x.d/\(qQ x.ats.l (L U5)).size<=1000000/\(∀b∈L (qQ x.ats.l (L U5)),b.toNat<128)/\x.ats.l.length<=1000:=fun x hx=>by
  have hat:∀l:List At,(∀y∈l,y.val.size<=1000000/\∀b∈L y.val,b.toNat<128)->(qQ l (L U5)).size<=1000000/\∀b∈L (qQ l (L U5)),b.toNat<128:=fun l hl=>by
   unfold qQ;cases hf:zX l (L U5)with
   |none=>exact⟨X1 _,fun b hb=>by cases hb⟩
   |some y=>exact hl y (List.mem_of_find?_eq_some hf)
  cases hf:zC (zm ds) n with
  | none=>
    rw[hf]at hx;have e1:x.ats.l=[]:=congrArg Dd.ats hx;rw[hx,e1];exact⟨rfl,(hat [] (fun y hy=>II)).1,(hat [] (fun y hy=>II)).2,X1 _⟩
  | some d=>
    rw[hf]at hx;have hm:=(Xz hf).1;obtain⟨z,hz,e2⟩:=List.mem_map.1 hm;have e1:x.ats.l=d.ats:=congrArg Dd.ats hx;rw[hx,e1];exact⟨rfl,(hat _ (ha d hm)).1,(hat _ (ha d hm)).2,by rw[<-e2];exact h.al z hz⟩
 generalize (match zC (zm ds) n with|some d=>UQ d|none=>[])=R at*;generalize (zC (zm ds) n).getD qd.d=d0 at*;have HX:=za hX;clear hX ha h hb1 h0 hw1 hE;unfold zV at*;generalize ds.length=N at*;go_enter func192,ntmps192;go_upto_region 1 with fail
 rw[HW.out];go_upto_region 2 with(first
  |(go_at_call 9;refine HF.out.mono ?_;rintro e w2 ⟨x,b,rfl,hx,hn,hb2⟩;have Hx:=za hx;have HDn:=za hn;clear hx hn;have HB2:=za (bt HB1.out hb2);have hrow:=i5 w2 (.cells (zq qd) zp);have HL:=za (Vi w2 x);clear hb2)
  |(refine wpList_load_row rfl 30 _ rfl _ rfl _ _ _ _ H0.out underlying30 rfl J4 ?_)
  |(refine wpList_store_row rfl 43 _ _ rfl _ _ rfl rfl _ _ hrow Zf rfl qP ?_))
 obtain⟨hL1,hL2⟩:=HL.out;change Code.wp _ _ _ _ ((w2.alloc (.cells (zq qd) zp)).setRow w2.heap.size (zq x));generalize (w2.alloc (.cells (zq qd) zp)).setRow w2.heap.size (zq x)=W3 at*;obtain⟨hR,hz,hasc,hlen⟩:=HX.out x Hx.out;have HB3:=za (bt HB2.out hL1);have HBx:Hid (∀W,Below W3.heap.size W3 W->W.heap[w2.heap.size]? =some (.cells (zq x) zp (0,0))):=za fun W hW=>(hW.block _ (zh hL2)).trans hL2;have HG:=za (Calls.mono (KR x.ats.A x.ats.c x.ats.l U5 W3 ((HDn.out.keep hL1).row) zb) fun _ _ h=>Na h);have HPa:Hid (∀W,Below W3.heap.size W3 W->Calls prog 229 #[.string (qQ x.ats.l (L U5))] W (P9 (qQ x.ats.l (L U5)) W)):=za fun W hW=>zjw _ W (HE.out.go (bt HB3.out hW)) (fun _=>hasc) hz;have hcS:UQ x.d=if x.kd=2 then(match IK (qQ x.ats.l (L U5))with
  |some (u,i,l)=>zO (zO (zO [] C1 u) Hg i) S7 l
  |none=>[])else []:=rfl
 have hRe:=hR.trans hcS;unfold IK at hRe;generalize qQ x.ats.l (L U5)=v at*;have hwl:w2.heap.size<W3.heap.size:=zh hL2;obtain⟨⟨c0,c1,c2,c3,c4,c5,c6,c7,c8,c9⟩,_⟩:=Xq hL2;have HRe:=za hRe;clear hRe;clear hL1 hL2 HX hR hz hasc hlen hrow HF H0 hcS c0 c1 c2 c3 c4 c5 c6 c8;go_upto_region 4 with(first
  |(go_at_call 33;refine HG.out.mono ?_;rintro e w4 ⟨rfl,hb4⟩;have HB4:=za hb4;clear hb4)
  |(go_at_call 229;refine(HPa.out _ HB4.out).mono ?_;rintro e w5 ⟨f,CA,cc,er,rfl,hp,hb5⟩;have hb6:=bt HB4.out hb5;have hwl5:=i4 hwl hb6.size;obtain⟨⟨_,_,_,_,_,_,_,k7,_,_⟩,_⟩:=Xq (HBx.out _ hb6);have HB5:=za hb6;have HPp:=za hp;clear hb5 hb6 hp))
 have hBe:=zP (o:=.cells #[.int .i64 f.kd,.string f.id,.string f.lab,.int .i64 f.s,.int .i64 f.t,.int .i64 f.e,.slice CA f.n cc] zy) (bt HB3.out HB5.out);have hNil:R=[]->Yv w R (.returned (.slice none 0 0)) (w5.alloc (.cells #[.int .i64 f.kd,.string f.id,.string f.lab,.int .i64 f.s,.int .i64 f.t,.int .i64 f.e,.slice CA f.n cc] zy)):=fun e=>by rw[e];exact⟨none,0,rfl,zB.empty,hBe⟩
 have HNil:=za hNil;have HBe:=za hBe;clear hNil hBe c7 c9;by_cases hk:x.kd=2
 · have hr:=HRe.out;rw[if_pos hk]at hr;rcases HPp.out with⟨rfl,hp⟩|⟨he,hp⟩
   · rw [hp]at hr;dsimp only at hr;have hrg:=zca hp;obtain⟨fk,fi,fl,fs,ft,fe,fn⟩:=f;dsimp only at*;by_cases h0:fk=0
     · subst h0;rw[if_pos rfl]at hr;have HE2:=za (HNil.out hr);clear hr hp;exact MC
     · rw[if_neg h0]at hr;dsimp only at hr;have h0b:(fk==0)=false:=beq_eq_false_iff_ne.2 h0;have HR2:=za hr;clear hr hp HRe HPp;go_upto_region 6 with fail
       have hcb:=i5 w5 (.cells #[.int .i64 fk,.string fi,.string fl,.int .i64 fs,.int .i64 ft,.int .i64 fe,.slice CA fn cc] zy);change Code.wp _ _ _ _ (w5.alloc (.cells #[.int .i64 fk,.string fi,.string fl,.int .i64 fs,.int .i64 ft,.int .i64 fe,.slice CA fn cc] zy));generalize w5.alloc (.cells #[.int .i64 fk,.string fi,.string fl,.int .i64 fs,.int .i64 ft,.int .i64 fe,.slice CA fn cc] zy)=W6 at*;have HCl:Hid (∀W,Below W6.heap.size W6 W->W.cell? ⟨w5.heap.size,0,none⟩=some (.int .i64 fk)/\W.cell? ⟨w5.heap.size,1,none⟩=some (.string fi)/\W.cell? ⟨w5.heap.size,2,none⟩=some (.string fl)):=za fun W hW=>by
        have h2:=(hW.block _ (zh hcb)).trans hcb;exact⟨zd h2 rfl,zd h2 rfl,zd h2 rfl⟩
       have hl6:=zh hcb;obtain⟨q0,q1,q2⟩:=HCl.out W6 zj;clear hcb
       go_region_held3 (fun W'=>W'.cell? ⟨w5.heap.size,0,none⟩=some (.int .i64 fk)/\W'.cell? ⟨w5.heap.size,1,none⟩=some (.string fi)/\W'.cell? ⟨w5.heap.size,2,none⟩=some (.string fl)) ((refine HCl.out _ ?_;first|exact hB9|exact hB8|exact hB7|exact hBa|exact zN zj)) (first
        |(go_at_call 89;refine(YV (n:=2) _ _ _ (by first|exact l8|exact l8.dr) zb).mono ?_;rintro e w9 ⟨A9,c9,N9,rfl,l9,hb9⟩;have hB9:=bt hB8 hb9)
        |(go_at_call 89;refine(YV (n:=1) _ _ _ (by first|exact l7|exact l7.dr) zb).mono ?_;rintro e w8 ⟨A8,c8,N8,rfl,l8,hb8⟩;have hB8:=bt hB7 hb8)
        |(go_at_call 89;refine(YV (n:=0) _ _ _ (QB.nil _) zb).mono ?_;rintro e w7 ⟨A7,c7,N7,rfl,l7,hb7⟩;have hB7:=bt hBa hb7)
        |(go_at_call 230;refine(zce _).mono ?_;rintro e wa ⟨M,mn,rfl,hM,hba⟩;have hBa:Below W6.heap.size W6 wa:=bt (zN zj) hba;have hlk:=zkI hM (z:=fk) zb zb))
       have HEnd:Hid (Yv w R (.returned (.slice A9 N9 c9)) w9):=za (by rw[HR2.out];exact l9.outL (bt HBe.out hB9));clear l9 l8 l7 hb9 hb8 hb7 hB9 hB8 hB7 hBa hba hM hlk;go_wp2;go_ret;exact HEnd.out
   · rw[hp]at hr;have HE2:=za (HNil.out hr);have heb:(er==0)=false:=beq_eq_false_iff_ne.2 he;clear hr hp;exact MC
 · have hr:=HRe.out;rw[if_neg hk]at hr;have HE2:=za (HNil.out hr);have hkb:(x.kd==2)=false:=beq_eq_false_iff_ne.2 hk;clear hr;exact MC
end
section
open Go.RowKit Go.Shelf Go.Maps
abbrev ID:Array Value:=#[.string Vn,.string Xj,.string Uw,.string VZ,.string XO,.string UP,.string kC,.string Uh,.string Uz]
def Ge(a:List At):Nat->Option ByteArray
 |0=>(zX a (L Uw)).map (·.val)
 |1=>(zX a (L UP)).map (·.val)
 |_=>(zX a (L Uz)).map fun x=>bs (Lib.replaceAll (L x.val) [58] [])
def Vc(a:List At):Nat->List At
 |0=>[]
 |1=>YX [] Vn Xj (Ge a 0)
 |2=>YX (YX [] Vn Xj (Ge a 0)) VZ XO (Ge a 1)
 |_=>YX (YX (YX [] Vn Xj (Ge a 0)) VZ XO (Ge a 1)) kC Uh (Ge a 2)
theorem Rw(l:List At)(k p:ByteArray)(a:List At)(n:ze)(F:ByteArray->ByteArray):YX l k p ((zX a n).map fun x=>F x.val)=if(zX a n).isSome&&X0 (L (p++F (qQ a n)))then zO l k (p++F (qQ a n))else l:=by
 unfold YX qQ;cases zX a n with
 |none=>rfl
 |some y=>rfl
theorem Rg{a:List At}(h:∀y∈a,y.val.size<=1000)(n:ze):(qQ a n).size<=1000:=by
 unfold qQ;cases hf:zX a n with
 |none=>exact X1 _
 |some y=>exact h y (List.mem_of_find?_eq_some hf)
theorem QB.up{w:World}{A:Option Addr}{c N n:Nat}{l:List At}(h:QB w A c N n l):QB w A c N (n+1) l:=⟨h.len,h.row,h.asc,Nat.le_succ_of_le h.le⟩
theorem ym{wr W:World}{a b c:Value}{T:TypeId}(hW:Below (wr.alloc (.cells #[a,b,c] T)).heap.size (wr.alloc (.cells #[a,b,c] T)) W):W.cell? ⟨wr.heap.size,0,none⟩=some a/\W.cell? ⟨wr.heap.size,1,none⟩=some b/\W.cell? ⟨wr.heap.size,2,none⟩=some c/\wr.heap.size<W.heap.size:=by
 have h:=(hW.block _ (zh (i5 wr (.cells #[a,b,c] T)))).trans (i5 wr (.cells #[a,b,c] T));exact⟨zd h rfl,zd h rfl,zd h rfl,zh h⟩
theorem zgk(v:ByteArray)(h:v.size<=1000):(bs (Lib.replaceAll (L v) [58] [])).size<=1000:=by
 rw[Zg,jr (L v) 58 [] zi];have h1:∀s:ze,(s.flatMap fun b=>if b=58 then []else [b]).length<=s.length:=fun s=>by
  induction s with
  |nil=>exact zo
  | cons b s ih=>
    have h2:(if b=58 then([]:ze)else [b]).length<=1:=by split<;>simp
    rw[List.flatMap_cons,r7,u0];omega
 have:=h1 (L v);rw[zF]at this;omega
theorem zgT(A:Option Addr)(c:Nat)(ds:List Dv)(n:Int)(w:World)(h:qj w A ds)(hE:Env w)(ha:∀d∈zm ds,∀y∈d.ats,y.val.size<=1000):
 Calls prog 193 #[zV A ds c,.int .i64 n] w (Yv w (match zC (zm ds) n with|some d=>Vw d|none=>[])):=by
 obtain⟨w1,hw1⟩:∃w1,w.alloc (.cells #[.slice A ds.length c] 30)=w1:=⟨_,rfl⟩;have hb1:Below w.heap.size w w1:=ZX;have HF:=za (Calls.mono (VD A c ds n w1 (h.keep hb1)) fun _ _ h=>EG h);have HB1:=za hb1;have HE:=za hE;have HW:=za hw1;have h0:w1.heap[w.heap.size]? =some (.cells #[.slice A ds.length c] 30 (0,0)):=Qo;have H0:=za h0;have hX:∀x:Dv,x.d=(zC (zm ds) n).getD qd.d->(match zC (zm ds) n with|some d=>Vw d|none=>[])=(if x.kd=4 then Vc x.ats.l 3 else [])/\(∀y∈x.ats.l,y.val.size<=1000)/\x.ats.l.length<=1000:=fun x hx=>by
  cases hf:zC (zm ds) n with
  | none=>
    rw[hf]at hx;have e1:x.ats.l=[]:=congrArg Dd.ats hx;have e2:x.kd=0:=congrArg Dd.kd hx;rw[e1,e2];exact⟨rfl,(fun y hy=>II),X1 _⟩
  | some d=>
    rw[hf]at hx;have hm:=(Xz hf).1;obtain⟨z,hz,e2⟩:=List.mem_map.1 hm;have e1:x.ats.l=d.ats:=congrArg Dd.ats hx;have e3:x.kd=d.kd:=congrArg Dd.kd hx;rw[e1,e3];exact⟨rfl,ha d hm,by rw[<-e2];exact h.al z hz⟩
 generalize (match zC (zm ds) n with|some d=>Vw d|none=>[])=R at*;generalize (zC (zm ds) n).getD qd.d=d0 at*;have HX:=za hX;clear hX ha h hb1 h0 hw1 hE;unfold zV at*;generalize ds.length=N at*;go_enter func193,ntmps193;go_upto_region 1 with fail
 rw[HW.out];go_upto_region 2 with(first
  |(go_at_call 9;refine HF.out.mono ?_;rintro e w2 ⟨x,b,rfl,hx,hn,hb2⟩;have Hx:=za hx;have HDn:=za hn;clear hx hn;have HB2:=za (bt HB1.out hb2);have hrow:=i5 w2 (.cells (zq qd) zp);have HL:=za (Vi w2 x);clear hb2)
  |(refine wpList_load_row rfl 30 _ rfl _ rfl _ _ _ _ H0.out underlying30 rfl J4 ?_)
  |(refine wpList_store_row rfl 43 _ _ rfl _ _ rfl rfl _ _ hrow Zf rfl qP ?_))
 obtain⟨hL1,hL2⟩:=HL.out;change Code.wp _ _ _ _ ((w2.alloc (.cells (zq qd) zp)).setRow w2.heap.size (zq x));generalize (w2.alloc (.cells (zq qd) zp)).setRow w2.heap.size (zq x)=W3 at*;obtain⟨hR,hz,hlen⟩:=HX.out x Hx.out;have HB3:=za (bt HB2.out hL1);have HBx:Hid (∀W,Below W3.heap.size W3 W->W.heap[w2.heap.size]? =some (.cells (zq x) zp (0,0))):=za fun W hW=>(hW.block _ (zh hL2)).trans hL2;have HG:Hid (∀nm W,Below W3.heap.size W3 W->Calls prog 33 #[.slice x.ats.A x.ats.l.length x.ats.c,.string nm] W (VB (zX x.ats.l (L nm)) W)):=za fun nm W hW=>KR x.ats.A x.ats.c x.ats.l nm W ((HDn.out.keep (bt hL1 hW)).row) zb;have hwl:w2.heap.size<W3.heap.size:=zh hL2;obtain⟨⟨c0,c1,c2,c3,c4,c5,c6,c7,c8,c9⟩,_⟩:=Xq hL2;clear hL1 hL2 HX hlen hrow HF H0 c0 c1 c2 c3 c4 c5 c6 c8;by_cases hk:x.kd=4
 · rw [if_pos hk]at hR;have HR:=za hR;have HZ:=za hz;clear hR hz;go_upto_region 6 with fail
   have hcb:=i5 W3 (.cells ID 294);have hb4:=zL W3 (.cells ID 294);change Code.wp _ _ _ _ (W3.alloc (.cells ID 294));generalize W3.alloc (.cells ID 294)=W4 at*;have HN:Hid (∀W,Below W4.heap.size W4 W->(W.heap[W3.heap.size]? =some (.cells ID 294 (0,0)))/\W.heap[w2.heap.size]? =some (.cells (zq x) zp (0,0))/\Below W3.heap.size W3 W):=za fun W hW=>⟨(hW.block _ (zh hcb)).trans hcb,HBx.out W (bt hb4 hW),bt hb4 hW⟩;have HE4:=za (fun W (hW:Below W4.heap.size W4 W)=>HE.out.go (bt HB3.out (bt hb4 hW)));have HB4:=za (bt HB3.out hb4);have hwl4:w2.heap.size<W4.heap.size:=i4 hwl hb4.size;have hgl4:W3.heap.size<W4.heap.size:=zh hcb;clear hcb hb4 c7 c9 hwl hk;go_loopg [7,26] 3 (fun gk s7 s26 wr=>∃(k:Nat) (LA:Option Addr) (lc LN:Nat),s26=.int .i64 k/\s7=.slice LA LN lc/\k+gk=3/\Hid (QB wr LA lc LN k (Vc x.ats.l k))/\Hid (Below W4.heap.size W4 wr))
   case atStart=>exact⟨0,none,0,0,rfl,rfl,rfl,za (QB.nil _),za zj⟩
   case round=>
    obtain⟨k,LA,lc,LN,rfl,rfl,hkg,HL,HB⟩:=hrel;obtain⟨h1,h2,hb3⟩:=HN.out wr HB.out;have hz1:=HB.out.size;obtain⟨⟨_,_,_,_,_,_,_,_,_,d9⟩,_⟩:=Xq h2;have q0:wr.cell? ⟨W3.heap.size,0,none⟩=some (.string Vn):=zd h1 rfl;have q1:wr.cell? ⟨W3.heap.size,1,none⟩=some (.string Xj):=zd h1 rfl;have q2:wr.cell? ⟨W3.heap.size,2,none⟩=some (.string Uw):=zd h1 rfl;have q3:wr.cell? ⟨W3.heap.size,3,none⟩=some (.string VZ):=zd h1 rfl;have q4:wr.cell? ⟨W3.heap.size,4,none⟩=some (.string XO):=zd h1 rfl;have q5:wr.cell? ⟨W3.heap.size,5,none⟩=some (.string UP):=zd h1 rfl;have q6:wr.cell? ⟨W3.heap.size,6,none⟩=some (.string kC):=zd h1 rfl;have q7:wr.cell? ⟨W3.heap.size,7,none⟩=some (.string Uh):=zd h1 rfl;have q8:wr.cell? ⟨W3.heap.size,8,none⟩=some (.string Uz):=zd h1 rfl;have hl1:w2.heap.size<wr.heap.size:=zb;have hl2:W3.heap.size<wr.heap.size:=zb;have HB3r:=za hb3;clear h1 h2 hb3;have hk3:k<=3:=zb;rcases(show k=0∨k=1∨k=2∨k=3 by omega)with rfl|rfl|rfl|rfl
    · have hg:=fun W hW=>Calls.mono (HG.out Uw W hW) fun _ _ h=>Na h;have hnx:=Rw (Vc x.ats.l 0) Vn Xj x.ats.l (L Uw) id;have hvz:=Rg HZ.out (L Uw);generalize qQ x.ats.l (L Uw)=v at*;generalize (zX x.ats.l (L Uw)).isSome=ok at*;have hvz2:=hvz;have HRp:True:=trivial;obtain⟨u,hu⟩:∃u,u=v:=⟨_,rfl⟩;rw[id_eq,<-hu]at hnx;rw[<-hu]at hvz2;subst hu;have hsz:(Xj++u).size<=1000000:=jo;have HI:=za fun W=>NZ (Xj++u) W hsz;have HS:=za fun(W:World) (A:Option Addr) (c N:Nat) (h:QB W A c N 0 (Vc x.ats.l 0))=>YV Vn (Xj++u) W h zb;have hadd:(9223372036854775807<(Xj:ByteArray).size+u.size)=False:=eq_false j1;change Vc x.ats.l 1=_ at hnx;generalize X0 (L (Xj++u))=bI at*;have HBo:Hid (∀W,Below (wr.alloc (.cells #[.string Vn,.string Xj,.string Uw] 294)).heap.size (wr.alloc (.cells #[.string Vn,.string Xj,.string Uw] 294)) W->W.cell? ⟨wr.heap.size,0,none⟩=some (.string Vn)/\W.cell? ⟨wr.heap.size,1,none⟩=some (.string Xj)/\W.cell? ⟨wr.heap.size,2,none⟩=some (.string Uw)/\wr.heap.size<W.heap.size):=za fun W hW=>ym hW;have HNx:=za hnx;have HGk:=za hg;clear hg hnx hvz hsz;cases ok<;>cases bI
      all_goals
       go_wp2_with (first
        |(go_at_call 89;refine(HS.out _ _ _ _ (HL.out.keep HBq.out)).mono ?_;rintro e w9 ⟨A9,c9,N9,rfl,l9,hb9⟩;have HL9:=za l9;have HBq:=za (bt HBq.out hb9);clear l9 hb9)
        |(go_at_call 167;refine(HI.out _).mono ?_;rintro e w8 ⟨rfl,hb8⟩;obtain⟨z0,z1,z2,z3⟩:=HBo.out _ (bt HBb.out hb8);have HBb:=za (bt HBb.out hb8);have HBq:=za (bt HBq.out hb8);clear hb8)
        |(go_at_call 66;refine(HRp.out _ (HE4.out _ (bt HB.out HBq.out))).mono ?_;rintro e w7 ⟨rfl,hb7⟩;obtain⟨z0,z1,z2,z3⟩:=HBo.out _ (bt HBb.out hb7);have HBb:=za (bt HBb.out hb7);have HBq:=za (bt HBq.out hb7);clear hb7)
        |(go_at_call 33;refine(HGk.out _ (bt HB3r.out zu)).mono ?_;rintro e w6 ⟨rfl,hb6⟩;obtain⟨z0,z1,z2,z3⟩:=HBo.out _ hb6;have HBb:=za hb6;have HBq:=za (bt zu hb6);clear hb6))
       go_roundg (gk - 1)
       case measure=>omega
       case rel=>first
        |exact⟨1,A9,c9,N9,kE,rfl,zb,za P8,za (bt HB.out HBq.out)⟩
        |exact⟨1,LA,lc,LN,kE,rfl,zb,za jB,za (bt HB.out HBq.out)⟩
    · have hg:=fun W hW=>Calls.mono (HG.out UP W hW) fun _ _ h=>Na h;have hnx:=Rw (Vc x.ats.l 1) VZ XO x.ats.l (L UP) id;have hvz:=Rg HZ.out (L UP);generalize qQ x.ats.l (L UP)=v at*;generalize (zX x.ats.l (L UP)).isSome=ok at*;have hvz2:=hvz;have HRp:True:=trivial;obtain⟨u,hu⟩:∃u,u=v:=⟨_,rfl⟩;rw[id_eq,<-hu]at hnx;rw[<-hu]at hvz2;subst hu;have hsz:(XO++u).size<=1000000:=jo;have HI:=za fun W=>NZ (XO++u) W hsz;have HS:=za fun(W:World) (A:Option Addr) (c N:Nat) (h:QB W A c N 1 (Vc x.ats.l 1))=>YV VZ (XO++u) W h zb;have hadd:(9223372036854775807<(XO:ByteArray).size+u.size)=False:=eq_false j1;change Vc x.ats.l 2=_ at hnx;generalize X0 (L (XO++u))=bI at*;have HBo:Hid (∀W,Below (wr.alloc (.cells #[.string VZ,.string XO,.string UP] 294)).heap.size (wr.alloc (.cells #[.string VZ,.string XO,.string UP] 294)) W->W.cell? ⟨wr.heap.size,0,none⟩=some (.string VZ)/\W.cell? ⟨wr.heap.size,1,none⟩=some (.string XO)/\W.cell? ⟨wr.heap.size,2,none⟩=some (.string UP)/\wr.heap.size<W.heap.size):=za fun W hW=>ym hW;have HNx:=za hnx;have HGk:=za hg;clear hg hnx hvz hsz;cases ok<;>cases bI
      all_goals
       go_wp2_with (first
        |(go_at_call 89;refine(HS.out _ _ _ _ (HL.out.keep HBq.out)).mono ?_;rintro e w9 ⟨A9,c9,N9,rfl,l9,hb9⟩;have HL9:=za l9;have HBq:=za (bt HBq.out hb9);clear l9 hb9)
        |(go_at_call 167;refine(HI.out _).mono ?_;rintro e w8 ⟨rfl,hb8⟩;obtain⟨z0,z1,z2,z3⟩:=HBo.out _ (bt HBb.out hb8);have HBb:=za (bt HBb.out hb8);have HBq:=za (bt HBq.out hb8);clear hb8)
        |(go_at_call 66;refine(HRp.out _ (HE4.out _ (bt HB.out HBq.out))).mono ?_;rintro e w7 ⟨rfl,hb7⟩;obtain⟨z0,z1,z2,z3⟩:=HBo.out _ (bt HBb.out hb7);have HBb:=za (bt HBb.out hb7);have HBq:=za (bt HBq.out hb7);clear hb7)
        |(go_at_call 33;refine(HGk.out _ (bt HB3r.out zu)).mono ?_;rintro e w6 ⟨rfl,hb6⟩;obtain⟨z0,z1,z2,z3⟩:=HBo.out _ hb6;have HBb:=za hb6;have HBq:=za (bt zu hb6);clear hb6))
       go_roundg (gk - 1)
       case measure=>omega
       case rel=>first
        |exact⟨2,A9,c9,N9,kE,rfl,zb,za P8,za (bt HB.out HBq.out)⟩
        |exact⟨2,LA,lc,LN,kE,rfl,zb,za jB,za (bt HB.out HBq.out)⟩
    · have hg:=fun W hW=>Calls.mono (HG.out Uz W hW) fun _ _ h=>Na h;have hnx:=Rw (Vc x.ats.l 2) kC Uh x.ats.l (L Uz) (fun v=>bs (Lib.replaceAll (L v) [58] []));have hvz:=Rg HZ.out (L Uz);generalize qQ x.ats.l (L Uz)=v at*;generalize (zX x.ats.l (L Uz)).isSome=ok at*;have HRp:=za fun W (hW:Env W)=>Tr v ⟨#[]⟩ 58 W hW.toEnv0 zb zi;have hvz2:=zgk v hvz;change Hid (∀W,_->Calls _ _ _ W fun e w'=>e=.returned (.string (bs (Lib.replaceAll (L v) [58] [])))/\_)at HRp;generalize bs (Lib.replaceAll (L v) [58] [])=u at*;have hsz:(Uh++u).size<=1000000:=jo;have HI:=za fun W=>NZ (Uh++u) W hsz;have HS:=za fun(W:World) (A:Option Addr) (c N:Nat) (h:QB W A c N 2 (Vc x.ats.l 2))=>YV kC (Uh++u) W h zb;have hadd:(9223372036854775807<(Uh:ByteArray).size+u.size)=False:=eq_false j1;change Vc x.ats.l 3=_ at hnx;generalize X0 (L (Uh++u))=bI at*;have HBo:Hid (∀W,Below (wr.alloc (.cells #[.string kC,.string Uh,.string Uz] 294)).heap.size (wr.alloc (.cells #[.string kC,.string Uh,.string Uz] 294)) W->W.cell? ⟨wr.heap.size,0,none⟩=some (.string kC)/\W.cell? ⟨wr.heap.size,1,none⟩=some (.string Uh)/\W.cell? ⟨wr.heap.size,2,none⟩=some (.string Uz)/\wr.heap.size<W.heap.size):=za fun W hW=>ym hW;have HNx:=za hnx;have HGk:=za hg;clear hg hnx hvz hsz;cases ok<;>cases bI
      all_goals
       go_wp2_with (first
        |(go_at_call 89;refine(HS.out _ _ _ _ (HL.out.keep HBq.out)).mono ?_;rintro e w9 ⟨A9,c9,N9,rfl,l9,hb9⟩;have HL9:=za l9;have HBq:=za (bt HBq.out hb9);clear l9 hb9)
        |(go_at_call 167;refine(HI.out _).mono ?_;rintro e w8 ⟨rfl,hb8⟩;obtain⟨z0,z1,z2,z3⟩:=HBo.out _ (bt HBb.out hb8);have HBb:=za (bt HBb.out hb8);have HBq:=za (bt HBq.out hb8);clear hb8)
        |(go_at_call 66;refine(HRp.out _ (HE4.out _ (bt HB.out HBq.out))).mono ?_;rintro e w7 ⟨rfl,hb7⟩;obtain⟨z0,z1,z2,z3⟩:=HBo.out _ (bt HBb.out hb7);have HBb:=za (bt HBb.out hb7);have HBq:=za (bt HBq.out hb7);clear hb7)
        |(go_at_call 33;refine(HGk.out _ (bt HB3r.out zu)).mono ?_;rintro e w6 ⟨rfl,hb6⟩;obtain⟨z0,z1,z2,z3⟩:=HBo.out _ hb6;have HBb:=za hb6;have HBq:=za (bt zu hb6);clear hb6))
       go_roundg (gk - 1)
       case measure=>omega
       case rel=>first
        |exact⟨3,A9,c9,N9,kE,rfl,zb,za P8,za (bt HB.out HBq.out)⟩
        |exact⟨3,LA,lc,LN,kE,rfl,zb,za jB,za (bt HB.out HBq.out)⟩
    · have HEnd:Hid (Yv w R (.returned (.slice LA LN lc)) wr):=za (by rw[HR.out];exact HL.out.outL (bt HB4.out HB.out));clear q0 q1 q2 q3 q4 q5 q6 q7 q8 d9;go_wp2;go_ret;exact HEnd.out
 · rw[if_neg hk]at hR;have hkb:(x.kd==4)=false:=beq_eq_false_iff_ne.2 hk;have HE2:Hid (Yv w R (.returned (.slice none 0 0)) W3):=za (by rw[hR];exact⟨none,0,rfl,zB.empty,HB3.out⟩);clear hR;exact MC
end
section
open Go.RowKit Go.Shelf Go.Maps
abbrev jh:TypeId:=225
abbrev fP:Value:=.func (.func 191) #[] #[]
abbrev fC:Value:=.func (.func 192) #[] #[]
abbrev fN:Value:=.func (.func 193) #[] #[]
open Classical in
noncomputable def Uo(v:Value):Option (DW×List MemPlace):=if v=fP then some (.lit (.int .i64 1),[])else if v=fC then some (.lit (.int .i64 2),[])else if v=fN then some (.lit (.int .i64 3),[])else if v=.nilFunc then some (.lit (.int .i64 0),[])else none
theorem zje:Uo fP=some (.lit (.int .i64 1),[]):=by unfold Uo;rw[if_pos rfl]
theorem zcU:Uo fC=some (.lit (.int .i64 2),[]):=by unfold Uo;rw[if_neg zl,if_pos rfl]
theorem zdc:Uo fN=some (.lit (.int .i64 3),[]):=by unfold Uo;rw[if_neg zl,if_neg zl,if_pos rfl]
theorem zcv:Uo .nilFunc=some (.lit (.int .i64 0),[]):=by unfold Uo;rw[if_neg zl,if_neg zl,if_neg zl,if_pos rfl]
theorem OT{v:Value}{k:Int}{ps:List MemPlace}(h:Uo v=some (.lit (.int .i64 k),ps)):(k=1->v=fP)/\(k=2->v=fC)/\(k=3->v=fN)/\(k=0->v=.nilFunc):=by
 unfold Uo at h
 split at h
 · rename_i e;simp at h;subst e;refine⟨fun _=>rfl,fun e=>?_,fun e=>?_,fun e=>?_⟩<;>omega
 split at h
 · rename_i e;simp at h;subst e;refine⟨fun e=>?_,fun _=>rfl,fun e=>?_,fun e=>?_⟩<;>omega
 split at h
 · rename_i e;simp at h;subst e;refine⟨fun e=>?_,fun e=>?_,fun _=>rfl,fun e=>?_⟩<;>omega
 split at h
 · rename_i e;simp at h;subst e;refine⟨fun e=>?_,fun e=>?_,fun e=>?_,fun _=>rfl⟩<;>omega
 · cases h
abbrev Jf(W:World)(b n:Nat)(D:DW):Prop:=W.ownsMap prog 9 Uo b n D
abbrev ku:ze:=[112,97,116,104]
abbrev kU:ze:=[99,111,110,116,101,110,116]
abbrev K9:ze:=[110,101,116]
abbrev K1:DW:=(((DataW.map []).put (.string ku) (.lit (.int .i64 1))).put (.string kU) (.lit (.int .i64 2))).put (.string K9) (.lit (.int .i64 3))
theorem zih(n:ze)(z:DW):K1.atKey (.string n) z=if n=K9 then .lit (.int .i64 3)else if n=kU then .lit (.int .i64 2)else if n=ku then .lit (.int .i64 1)else z:=by
 have t1:Tidy ((DataW.map []:DW).put (.string ku) (.lit (.int .i64 1))):=tidy_empty.put (IS _) _;have t2:=t1.put (IS kU) (.lit (.int .i64 2));by_cases h3:n=K9
 · rw[if_pos h3,h3];exact atKey_put_same t2.isMap (IS _) _ _
 rw[if_neg h3];refine(atKey_put_other (j2 h3) _ _).trans ?_;by_cases h2:n=kU
 · rw[if_pos h2,h2];exact atKey_put_same t1.isMap (IS _) _ _
 rw[if_neg h2];refine(atKey_put_other (j2 h2) _ _).trans ?_;by_cases h1:n=ku
 · rw[if_pos h1,h1];exact atKey_put_same tidy_empty.isMap (IS _) _ _
 rw[if_neg h1];exact atKey_put_other (j2 h1) _ _
theorem yd{W:World}{M n:Nat}{D:DW}(h:Jf W M n D)(hn:n<100)(s:ByteArray)(hs:s.size<=1000)(v:Value)(k:Int)(hv:Uo v=some (.lit (.int .i64 k),[])):
 ∃W',(Instr.mapUpdate jh (.map (some M)) (.string s) v).run prog W=.ok () W'/\Jf W' M (n+1) (D.put (.string (L s)) (.lit (.int .i64 k)))/\W.grownBy W' (some M):=
 World.ownsMap.update h (string_keyed underlying9) underlying225 ql (WideMaps.keyOf_string_mk (P:=prog) underlying9 (s:=s) ql) hv
theorem zgq(w:World):Calls prog 158 #[] w fun e w'=>∃M n,e=.returned (.map (some M))/\Jf w' M n K1/\Below w.heap.size w w':=by
 have hm:=run_makeMap (P:=prog) jh w;have h0:Jf (w.alloc (.map #[] 0)) w.heap.size 0 (.map []):=World.ownsMap_made _ _ _ _;obtain⟨w1,e1,h1,g1⟩:=yd h0 zi ⟨#[112,97,116,104]⟩ zi fP 1 zje;obtain⟨w2,e2,h2,g2⟩:=yd h1 zi ⟨#[99,111,110,116,101,110,116]⟩ zi fC 2 zcU;obtain⟨w3,e3,h3,g3⟩:=yd h2 zi ⟨#[110,101,116]⟩ zi fN 3 zdc;have HEnd:Hid (Jf w3 w.heap.size 3 K1/\Below w.heap.size w w3):=za ⟨h3,by
  have g:=(g1.trans g2).trans g3;exact(zL w (.map #[] 0)).grown g (zL w (.map #[] 0)).size (fun j e=>ZD)⟩
 clear h0 h1 h2 h3 g1 g2 g3;go_enter func158,ntmps158;go_wp2;go_ret;exact⟨_,3,rfl,HEnd.out⟩
theorem zeA{W:World}{M n:Nat}(h:Jf W M n K1)(s:ByteArray)(hs:s.size<=1000000):
 ∃v b,(Instr.lookup jh (.map (some M)) (.string s) true).run prog W=.ok (.tuple #[v,.bool b]) W/\((L s=ku/\v=fP/\b=true)∨(L s≠ku/\L s=kU/\v=fC/\b=true)∨(L s≠ku/\L s≠kU/\L s=K9/\v=fN/\b=true)∨(L s≠ku/\L s≠kU/\L s≠K9/\v=.nilFunc/\b=false)):=by
 obtain⟨v,ps,hrun,hv⟩:=World.ownsMap.look_ok h (string_keyed underlying9) underlying225 (zeroValue223 W) zcv (WideMaps.keyOf_string_mk (P:=prog) underlying9 (s:=s) ql);change Uo v=some (K1.atKey (.string (L s)) (.lit (.int .i64 0)),ps)at hv;refine⟨v,_,hrun,?_⟩;have hat:=zih (L s);have hh:∀(y:DW),(∀z,K1.atKey (.string (L s)) z=y)->Maps.has K1 (.string (L s))=true:=fun y h=>has_true_of_atKey h;rw[hat]at hv;by_cases h1:L s=ku
 · rw[h1,if_neg zi,if_neg zi,if_pos rfl]at hv;exact Or.inl ⟨h1,(OT hv).1 rfl,hh _ fun z=>by rw[hat,h1,if_neg zi,if_neg zi,if_pos rfl]⟩
 by_cases h2:L s=kU
 · rw[h2,if_neg zi,if_pos rfl]at hv;exact Or.inr (Or.inl ⟨h1,h2,(OT hv).2.1 rfl,hh _ fun z=>by rw[hat,h2,if_neg zi,if_pos rfl]⟩)
 by_cases h3:L s=K9
 · rw[h3,if_pos rfl]at hv;exact Or.inr (Or.inr (Or.inl ⟨h1,h2,h3,(OT hv).2.2.1 rfl,hh _ fun z=>by rw[hat,h3,if_pos rfl]⟩))
 · rw[if_neg h3,if_neg h2,if_neg h1]at hv;exact Or.inr (Or.inr (Or.inr ⟨h1,h2,h3,(OT hv).2.2.2 rfl,has_false_of_atKey fun z=>by rw[hat,if_neg h3,if_neg h2,if_neg h1]⟩))
theorem zgR(A:Option Addr)(c:Nat)(ds:List Dv)(n:Int)(nm:ByteArray)(w:World)(h:qj w A ds)(hi:∀d∈zm ds,Xh d/\d.sb.size<=1000)(hwf:Z8 (zm ds))(r1: -9223372036854775808<=n)(r2:n<=9223372036854775807)(hE:Env w)(hU:K3 w)(ha:∀d∈zm ds,∀y∈d.ats,y.val.size<=1000/\∀b∈L y.val,b.toNat<128)(hs:nm.size<=1000000):
 Calls prog 123 #[.string nm,zV A ds c,.int .i64 n] w (Yv w (QM nm (zm ds) n)):=by
 obtain⟨w1,hw1⟩:∃w1,w.alloc (.cells #[.slice A ds.length c] 30)=w1:=⟨_,rfl⟩;have hb1:Below w.heap.size w w1:=ZX;have h0:w1.heap[w.heap.size]? =some (.cells #[.slice A ds.length c] 30 (0,0)):=Qo;have hEu:∀W,Below w.heap.size w W->K3 W:=fun W hW=>hU.go hW;have HP:=za fun W (hW:Below w.heap.size w W)=>zh9 A c ds n W (h.keep hW) hi hwf r1 r2 (hEu W hW);obtain⟨RC,hRC⟩:∃X,(match zC (zm ds) n with|some d=>UQ d|none=>[])=X:=⟨_,rfl⟩;obtain⟨RN,hRN⟩:∃X,(match zC (zm ds) n with|some d=>Vw d|none=>[])=X:=⟨_,rfl⟩;have hC:∀W,Below w.heap.size w W->Calls prog 192 #[zV A ds c,.int .i64 n] W (Yv W RC):=fun W hW=>by rw[<-hRC];exact zew A c ds n W (h.keep hW) (hE.go hW) (fun d hd y hy=>⟨i3 (ha d hd y hy).1 zi,(ha d hd y hy).2⟩)
 have hN:∀W,Below w.heap.size w W->Calls prog 193 #[zV A ds c,.int .i64 n] W (Yv W RN):=fun W hW=>by rw[<-hRN];exact zgT A c ds n W (h.keep hW) (hE.go hW) (fun d hd y hy=>(ha d hd y hy).1)
 have HC:=za hC;have HN:=za hN;have HB1:=za hb1;have H0:=za h0;have HW:=za hw1;obtain⟨R,hR⟩:∃R,QM nm (zm ds) n=R:=⟨_,rfl⟩;rw[hR];unfold QM at hR;have HR:=za hR;have HRC:=za hRC;have HRN:=za hRN;clear hC hN hRC hRN hR h hi hwf r1 r2 hE hU ha hb1 h0 hw1 hEu;unfold zV at*;generalize ds.length=N at*;go_enter func123,ntmps123;go_upto_region 1 with fail
 rw[HW.out];go_wp2_with (first
  |(go_at_call 191;refine(HP.out _ HB2.out).mono ?_;rintro e w3 ⟨A3,c3,rfl,h3,hb3⟩;have hr:=HR.out;rw[if_pos q1]at hr;have HO:Hid (Yv w R (.returned (.slice A3 (Uv (zm ds) n).length c3)) w3):=za (by rw[<-hr];exact⟨A3,c3,rfl,h3,bt HB2.out hb3⟩);clear hr h3 hb3)
  |(go_at_call 192;refine(HC.out _ HB2.out).mono ?_;rintro e w3 ⟨A3,c3,rfl,h3,hb3⟩;have hr:=HR.out;rw[if_neg q1,if_pos q2]at hr;have hr2:RC=R:=HRC.out.symm.trans hr;have HO:Hid (Yv w R (.returned (.slice A3 RC.length c3)) w3):=za EX;clear hr hr2 h3 hb3)
  |(go_at_call 193;refine(HN.out _ HB2.out).mono ?_;rintro e w3 ⟨A3,c3,rfl,h3,hb3⟩;have hr:=HR.out;rw[if_neg q1,if_neg q2,if_pos q3]at hr;have hr2:RN=R:=HRN.out.symm.trans hr;have HO:Hid (Yv w R (.returned (.slice A3 RN.length c3)) w3):=za EX;clear hr hr2 h3 hb3)
  |(go_at_call 158;refine(zgq w1).mono ?_;rintro e w2 ⟨M,mn,rfl,hM,hb2⟩;obtain⟨v,b,hlk,hv⟩:=zeA hM nm hs;have HB2:=za (bt HB1.out hb2);have hbx:=(hb2.block _ (zh H0.out)).trans H0.out;have c0:w2.cell? ⟨w.heap.size,0,none⟩=some (.slice A N c):=zd hbx rfl;have hl0:=zh hbx;have HBx:=za hbx;clear hM hb2 hbx;obtain⟨q1,rfl,rfl⟩|⟨q1,q2,rfl,rfl⟩|⟨q1,q2,q3,rfl,rfl⟩|⟨q1,q2,q3,rfl,rfl⟩:=hv))
 · go_ret;exact HO.out
 · go_ret;exact HO.out
 · go_ret;exact HO.out
 · have hr:=HR.out;rw[if_neg q1,if_neg q2,if_neg q3]at hr;go_ret;rw[<-hr];exact⟨none,0,rfl,zB.empty,HB2.out⟩
end
end Go.Proofs.YtecbmndgpepkcaaGreatDoor

/- Contracts of functions that the law reaches, and what they rest on; each under the premises that it names. Shortened by a program. -/
import Derived.Test.YtecbmndgpepkcaaGreatDoorWDevT
import Derived.Test.YtecbmndgpepkcaaGreatDoorWtG
namespace Go.Proofs.YtecbmndgpepkcaaGreatDoor
open Tryz
set_option maxHeartbeats 8000000
set_option maxRecDepth 100000
open Go.RowKit
theorem Ux.w{K:Int}{ds:List Dv}{x:Dv}(h:Ux K ds x):RH x:=⟨by have:=h.nam;omega,by have:=h.og;omega,by have:=h.sb;omega,by have:=h.dr;omega,by have:=h.al;omega,Nv,fun y hy=>by have:=(h.ats y hy).2;omega,fun y hy=>by have:=(h.ats y hy).1;omega⟩
theorem Ux.y{K:Int}{ds:List Dv}{x:Dv}(h:Ux K ds x)(hd:∀d∈ds,ka K d)(hk:0<=K):ka (K+1) x:=by
 have hp:0<=x.pa/\x.pa<=K:=by
  rcases h.pa with e|⟨y,hy,e⟩
  · omega
  · have h1:=(hd y hy).ix1;have h2:=(hd y hy).ix2;omega
 exact⟨h.nam,h.og,h.sb,h.dr,h.al,h.ats,h.len,h.ix1,h.ix2,hp.1,zb,h.nb1,h.nb2,h.og1⟩
theorem kc.ins{K:Int}{ds:List Dv}{x:Dv}{m:Nat}(h:kc K ds)(hx:Ux K ds x)(hk:0<=K)(hn:Yo ds x.ix=none)(hp:x.pa=0∨∃y∈ds.take m,y.ix=x.pa):kc (K+1) (ds.take m++x::ds.drop m):=by
 refine⟨?_,fun d hd=>?_⟩
 · have e:zm (ds.take m++x::ds.drop m)=(zm ds).take m++x.d::(zm ds).drop m:=by
    unfold zm;rw[List.map_append,List.map_cons,List.map_take,List.map_drop]
   rw[e];refine zfa h.wf hx.ix1 (Gu.2 fun y hy=>?_) ?_
   · obtain⟨z,hz,rfl⟩:=List.mem_map.1 hy;unfold Yo at hn;rw[List.find?_eq_none]at hn;have:=hn z hz;show z.ix≠x.ix;exact Q2
   · rcases hp with e|⟨y,hy,e⟩
     · exact Or.inl e
     · refine Or.inr ⟨y.d,?_,e⟩;show y.d∈(zm ds).take m;unfold zm;rw[<-List.map_take];exact List.mem_map.2 ⟨y,hy,rfl⟩
 · rcases NN hd with rfl|hd
   · exact hx.y h.dv hk
   · exact(h.dv d hd).mono zb
structure YH(w0:World)(b n p d:Nat)(K:Int)(w:World)(R B:Nat)(A:Option Addr)(c:Nat)(ds:List Dv)(W:World):Prop where
 nx:zA w0 b n p d w W
 bx:W.heap[B]? =some (.cells #[.slice A ds.length c] Yv (0,0))
 rs:W.heap[R]? =some (.cells #[.slice none 0 0] Yv (0,0))
 tr:qk W A ds
 fr:Zc (B+1) A
 fi:∀x∈ds,Zc (B+1) x.ats.A
 cp:ds.length<=c
 tw:kc K ds
 lB:w.heap.size<=B
 lR:w.heap.size<=R
 ne:R<B
 lo:w0.heap.size<=w.heap.size
section
variable{w0 w W W1:World}{b n p d d' R B:Nat}{K:Int}{A:Option Addr}{c:Nat}{ds:List Dv}
theorem YH.bne(h:YH w0 b n p d K w R B A c ds W):b<w.heap.size:=AQ
theorem YH.off(h:YH w0 b n p d K w R B A c ds W):b<R:=by have:=h.bne;have:=h.lR;omega
theorem YH.go(h:YH w0 b n p d K w R B A c ds W)(hT:zA w0 b n p d' W W1):YH w0 b n p d' K w R B A c ds W1:=by
 have h1:=h.off;have h2:=h.ne;exact⟨h.nx.trans hT,hT.blk h.bx zb,hT.blk h.rs zb,h.tr.grown hT.gr (fun a ha=>by have:=h.fr a ha;omega) (fun x hx a ha=>by have:=h.fi x hx a ha;omega),h.fr,h.fi,h.cp,h.tw,h.lB,h.lR,h.ne,h.lo⟩
theorem YH.up{K':Int}(h:YH w0 b n p d K w R B A c ds W)(hk:K<=K'):YH w0 b n p d K' w R B A c ds W:=⟨h.nx,h.bx,h.rs,h.tr,h.fr,h.fi,h.cp,⟨h.tw.wf,fun x hx=>(h.tw.dv x hx).mono hk⟩,h.lB,h.lR,h.ne,h.lo⟩
structure VN(K:Int)(ds:List Dv)(B q:Nat)(A':Option Addr)(n' c':Nat)(W:World):Prop where
 ex:∃x m,n'=(ds.take m++x::ds.drop m).length/\Ux K ds x/\Zc (B+1) x.ats.A/\ZQ W x/\zD W A' 10 n' (cellsOf zK (ds.take m++x::ds.drop m))/\Zc (B+1) A'/\n'<=c'/\ds.length<256/\Yo ds x.ix=none/\(x.pa=0∨∃y∈ds.take m,y.ix=x.pa)/\(∀a,x.ats.A=some a->a.block≠q)/\∀a,A'=some a->a.block≠q
theorem VN.keep{A':Option Addr}{n' c' q:Nat}(h:VN K ds B q A' n' c' W)(hb:Below W.heap.size W W1):VN K ds B q A' n' c' W1:=by
 obtain⟨x,m,h1,h2,h3,h4,h5,h6⟩:=h.ex;exact⟨x,m,h1,h2,h3,h4.keep hb,h5.keep hb,h6⟩
theorem YH.ins{A':Option Addr}{n' c' q:Nat}(h:YH w0 b n p d K w R B A c ds W)(hk:0<=K)(h1:VN K ds B q A' n' c' W):∃ds',n'=ds'.length/\ds'.length=ds.length+1/\YH w0 b n p d (K+1) w R B A' c' ds' (W.setCell ⟨B,0,none⟩ (.slice A' n' c')):=by
 obtain⟨x,m,e,hx,hfx,hdx,hrow,hfA,hc,hl,hno,hpa,_⟩:=h1.ex;have hne:=h.ne;have hlB:=h.lB;have hlo:=h.lo;have hg:=qu W B 0 (.slice A' n' c');have hlen:(ds.take m++x::ds.drop m).length=ds.length+1:=by
  rw[List.length_append,List.length_cons,<-Nat.add_assoc,<-List.length_append,List.take_append_drop]
 refine⟨ds.take m++x::ds.drop m,e,hlen,⟨h.nx.setCellR hlB hlo,?_,?_,?_,hfA,fun y hy=>?_,zb,h.tw.ins hx hk hno hpa,hlB,h.lR,hne,hlo⟩⟩
 · rw[heap_setCell_same _ _ _ _ _ _ h.bx,e];rfl
 · exact(heap_setCell_other W ⟨B,0,none⟩ _ _ (by show R≠B;omega)).trans h.rs
 · refine⟨?_,fun y hy=>?_,zb,fun y hy=>?_⟩
   · rw[<-e];exact hrow.grown hg (fun a ha k=>by have:=hfA a ha;have:=zx k;omega)
   · rcases NN hy with rfl|hy
     · exact zD.grown hdx hg (fun a ha k=>by have:=hfx a ha;have:=zx k;omega)
     · exact zD.grown (h.tr.inn y hy) hg (fun a ha k=>by have:=h.fi y hy a ha;have:=zx k;omega)
   · rcases NN hy with rfl|hy
     · have:=hx.len;omega
     · exact h.tr.al y hy
 · rcases NN hy with rfl|hy
   · exact hfx
   · exact h.fi y hy
theorem VN.box{A':Option Addr}{n' c' q:Nat}{v:Value}(h:VN K ds B q A' n' c' W):VN K ds B q A' n' c' (W.setCell ⟨q,0,none⟩ v):=by
 obtain⟨x,m,h1,h2,h3,h4,h5,h6,h7,h8,h9,h10,h11,h12⟩:=h.ex;have hg:=qu W q 0 v;exact⟨x,m,h1,h2,h3,zD.grown h4 hg (fun a ha k=>h11 a ha (zx k)),h5.grown hg (fun a ha k=>h12 a ha (zx k)),h6,h7,h8,h9,h10,h11,h12⟩
theorem Tt{A':Option Addr}{n' c' q Lo:Nat}{z:Int}{x:Dv}(hz:z=0->n'<=c'/\Zc Lo A'/\∃m,n'=(ds.take m++x::ds.drop m).length/\zD W A' 10 n' (cellsOf zK (ds.take m++x::ds.drop m))/\ds.length<256/\Yo ds x.ix=none/\(x.pa=0∨∃y∈ds.take m,y.ix=x.pa))
 (hX:Ux K ds x)(hD:ZQ W x)(hf:Zc (B+1) x.ats.A)(hL:B+1<=Lo)(hq:∀a,x.ats.A=some a->a.block≠q)(hA:z=0->∀a,A'=some a->a.block<W.heap.size->a.block≠q):z=0->VN K ds B q A' n' c' W:=fun e=>by
 obtain⟨h1,h2,m,h3,h4,h5,h6,h7⟩:=hz e;exact⟨x,m,h3,hX,hf,hD,h4,Zc.mono h2 hL,h1,h5,h6,h7,hq,fun a ha=>hA e a ha (h4.pl a ha).2⟩
end
def DP(m:Nat)(w0:World)(b n p d:Nat)(w:World)(e:Ending)(w':World):Prop:=∃A c ds,e=.returned (zT A ds c)/\qk w' A ds/\Zc w.heap.size A/\(∀x∈ds,Zc w.heap.size x.ats.A)/\ds.length<=c/\ds.length<=m/\kc m ds/\zA w0 b n p d w w'
theorem zcw {w0 w:World}{b n p d:Nat}(h:qp w0 b n p d w)(hE:Env0 w)(hb:nG<=b)(m:Nat)(hm:m<=20)(h3:p+d<=70000):
 Calls prog 21 #[.pointer (some ⟨b,0,none⟩),.int .i64 m] w (DP m w0 b n p (d+2000) w):=by
 have hlb:=h.lt;have hws:=h.size;have HE:=za hE;obtain⟨w1,hw1⟩:∃w1,(w.alloc (.cells #[.slice none 0 0] Yv)).alloc (.cells #[.slice none 0 0] Yv)=w1:=⟨_,rfl⟩;have hb1:Below w.heap.size w w1:=Vb;have hr1:w1.heap[w.heap.size]? =some (.cells #[.slice none 0 0] Yv (0,0)):=kB;have hx1:w1.heap[w.heap.size+1]? =some (.cells #[.slice none 0 0] Yv (0,0)):=by
  rw[<-hw1];have:=heap_alloc_new (w.alloc (.cells #[.slice none 0 0] Yv)) (.cells #[.slice none 0 0] Yv);exact Q2
 have HS1:Hid (YH w0 b n p d 0 w w.heap.size (w.heap.size+1) none 0 [] w1):=za ⟨(zA.refl h).belowW hb1,hx1,hr1,⟨zD.nil,(fun d hd=>by cases hd),Nat.zero_le _,(fun d hd=>by cases hd)⟩,(fun a e=>Zp),(fun d hd=>by cases hd),zo,kc.nil,Nat.le_succ _,zo,Nat.lt_succ_self _,hws⟩;have HW1:=za hw1;have hRB:w.heap.size≠w.heap.size+1:=zb;clear hE h hb1 hr1 hx1 hw1;unfold DP;go_enter func21,ntmps21;go_upto_region 2 with fail
 rw[HW1.out];go_wp2_with fail
 (with_reducible refine(QL (n:=n) (p:=p) _ HS1.out.nx.st zb zb zb).mono ?_)
 rintro e w2 ⟨r,r0,r1,rfl,hT⟩;obtain⟨rn,rfl⟩:=Int.eq_ofNat_of_zero_le r0;have hrn:rn<=m:=zb;have HS2:=za (HS1.out.go hT);clear hT r0 r1;go_wp2_with fail
 go_loopg [6] (m+1) (fun gk s6 wr=>∃(k:Nat) (A:Option Addr) (c:Nat) (ds:List Dv) (D:Nat),s6=.int .i64 k/\k+1<=gk/\k<=m/\ds.length+k<=m/\D+51*k<=d+1+51*m/\Hid (YH w0 b n p D ((m - k:Nat):Int) w w.heap.size (w.heap.size+1) A c ds wr))
 case atStart=>exact⟨rn,none,0,[],d+1,rfl,zb,hrn,by simpa using hrn,zb,za (HS2.out.up zb)⟩
 case round=>
 obtain⟨k,A,c,ds,D,rfl,hkg,hkm,hlk,hD,HS⟩:=hrel;have c5:=zd (j:=0) HS.out.bx rfl;by_cases hk:0<k
 · have hkI : (0:Int)<(k:Int):=by omega
   obtain⟨N,hN⟩:∃N,ds.length=N:=⟨_,rfl⟩;have HN:=za hN;have HDv:Hid (∀W:World,Below wr.heap.size wr W->Calls prog 43 #[.pointer (some ⟨b,0,none⟩),.agg #[.slice A N c]] W (RM ((m - k:Nat):Int) ds w0 b n p (D+50) W)):=za fun W hW=>by
    have q:=zdg (HS.out.nx.st.below hW) zb A c ds ((m - k:Nat):Int) (HS.out.tr.keep hW) (Zc.mono HS.out.fr (by have:=HS.out.lB;omega)) zb zb (fun x hx=>⟨(HS.out.tw.dv x hx).ix1,(HS.out.tw.dv x hx).ix2⟩);unfold zT at q;rw[hN]at q;exact q
   have HIn:Hid (∀(x:Dv) (W:World),qk W A ds->Env0 W->ZQ W x->Ux ((m - k:Nat):Int) ds x->Calls prog 42 #[.agg #[.slice A N c],zY x] W (J9 ds x W)):=za fun x W hW hE hx hX=>by
    have q:=Bl A c ds x W hE hW HS.out.cp hx hX.w (fun y hy=>by have:=(HS.out.tw.dv y hy).og;omega);unfold zT at q;rw[hN]at q;exact q
   have HEr:=za (HE.out.nxW HS.out.nx hb);rw[hN]at c5 hlk;clear hN;go_upto_region 5 with fail
   go_cut [7,8]from 17 to 24 (fun s7 s8 wx=>∃(q:Nat) (A':Option Addr) (n' c':Nat) (z:Int),s7=.pointer (some ⟨q,0,none⟩)/\s8=.int .i64 z/\Hid (wx.heap[q]? =some (.cells #[.slice A' n' c'] Yv (0,0)))/\Hid (YH w0 b n p (D+50) ((m - k:Nat):Int) w w.heap.size (w.heap.size+1) A c ds wx)/\Hid (w.heap.size+1<q)/\Hid (z=0->VN ((m - k:Nat):Int) ds (w.heap.size+1) q A' n' c' wx))
   case first=>
    have HSa:Hid (∀W:World,Below wr.heap.size wr W->W.cell? ⟨w.heap.size+1,0,none⟩=some (.slice A N c)):=za fun W hW=>by
     have:=zd (j:=0) ((hW.block _ (zh HS.out.bx)).trans HS.out.bx) rfl;rw[HN.out]at this;exact this
    clear c5;have hBl:w.heap.size+1<wr.heap.size:=zh HS.out.bx;have hwb:wr.heap.size≠b:=by have:=HS.out.off;have:=zh HS.out.bx;omega
    go_region_held3 (fun W'=>W'.cell? ⟨w.heap.size+1,0,none⟩=some (.slice A N c)) (first|exact HSa.out _ (by first|exact zU zk|exact zV (zU zk))|exact HSb.out _ (by first|exact zk|exact zw|exact HB3.out|exact zV HB3.out)|exact HSs.out _ _ _ HB3.out (Nat.ne_of_lt hBl)|exact HSs.out _ _ _ HB3.out (by have:=HTd.out.gr.size;omega)) ((first
     | (go_at_call 43
        first
        | (refine(HDv.out _ (zU zk)).mono ?_
           rintro e w2 ⟨x,hx,rfl,hDN,hT,hFx⟩;have HX:=za hx;have HDN:=za hDN;have HTd:=za (zA.of_below hT (zU (Below.refl wr.heap.size wr)));have HFx:=za hFx;have HSb:Hid (∀W:World,Below w2.heap.size w2 W->W.cell? ⟨w.heap.size+1,0,none⟩=some (.slice A N c)):=za fun W hW=>Dz;have HSs:Hid (∀(W:World) (q:Nat) (v:Value),Below w2.heap.size w2 W->w.heap.size+1≠q->(W.setCell ⟨q,0,none⟩ v).cell? ⟨w.heap.size+1,0,none⟩=some (.slice A N c)):=za fun W q v hW hq=>Av;clear hx hDN hT hFx)
        | (refine(HDv.out _ (zV (zU zk))).mono ?_
           rintro e w2 ⟨x,hx,rfl,hDN,hT,hFx⟩;have HX:=za hx;have HDN:=za hDN;have HTd:=za (zA.of_below hT (zV (zU (Below.refl wr.heap.size wr))));have HFx:=za hFx;have HSb:Hid (∀W:World,Below w2.heap.size w2 W->W.cell? ⟨w.heap.size+1,0,none⟩=some (.slice A N c)):=za fun W hW=>Dz;have HSs:Hid (∀(W:World) (q:Nat) (v:Value),Below w2.heap.size w2 W->w.heap.size+1≠q->(W.setCell ⟨q,0,none⟩ v).cell? ⟨w.heap.size+1,0,none⟩=some (.slice A N c)):=za fun W q v hW hq=>Av;have HQ1:=za (hT.blk (heap_alloc_new wr.drew (.cells #[.slice none 0 0] Yv)) (show wr.drew.heap.size≠b from hwb));clear hx hDN hT hFx))
     | (go_at_call 42
        first
        | (refine(HIn.out x _ (HS.out.go HTd.out).tr (HEr.out.nxW HTd.out hb) HDN.out HX.out).mono ?_
           rintro e w3 ⟨A',n',c',z,rfl,hb3,hz⟩;have HB3:=za (hb3:Below w2.heap.size w2 w3);have HZ:=za hz
           first
            | (have HQ3:Hid (w3.heap[wr.heap.size]? =some (.cells #[.slice none 0 0] Yv (0,0))):=za ((hb3.block _ (zh HQ1.out)).trans HQ1.out)
               have t3:w3.cell? ⟨wr.heap.size,0,none⟩=some (.slice none 0 0):=zd (j:=0) HQ3.out rfl;have f3:w3.frozen? ⟨wr.heap.size,0,none⟩=false:=frozen_of_row _ _ _ _ _ HQ3.out)
            |skip
           clear hb3 hz)
        | (refine(HIn.out x _ ((HS.out.go HTd.out).tr.keep zw) ((HEr.out.nxW HTd.out hb).go zw) (zD.keep HDN.out zw) HX.out).mono ?_
           rintro e w3 ⟨A',n',c',z,rfl,hb3,hz⟩;have HB3:=za (bt zw hb3:Below w2.heap.size w2 w3);have HZ:=za hz;have HQ4:=za ((hb3.block _ zl).trans (heap_alloc_new w2 (.cells #[.slice none 0 0] Yv)));have t3:w3.cell? ⟨w2.heap.size,0,none⟩=some (.slice none 0 0):=zd (j:=0) HQ4.out rfl;have f3:w3.frozen? ⟨w2.heap.size,0,none⟩=false:=frozen_of_row _ _ _ _ _ HQ4.out;clear hb3 hz))))
    all_goals
     have hx0:wr.heap.size<=w2.heap.size:=HTd.out.gr.size;have hx1:w2.heap.size<=w3.heap.size:=HB3.out.size;have hT3:=HTd.out.belowW HB3.out;have hD3:=zD.keep HDN.out HB3.out;have hB:w.heap.size+1<wr.heap.size:=zh HS.out.bx;have hlo:=HS.out.lo;have hwr:=HS.out.nx.gr.size;go_wp2;go_meet
    · have h1:∀a,x.ats.A=some a->wr.heap.size<=a.block:=fun a ha=>HFx.out a ha;exact⟨_,A',n',c',z,rfl,rfl,za (heap_alloc_new w3 _),za (HS.out.go (hT3.belowW zw)),za zb,za (fun e=>(Tt (q:=w3.heap.size) HZ.out HX.out hD3 (fun a ha=>MB) zb (fun a ha=>Au) (fun e a ha hl=>zb) e).keep zw)⟩
    · have h1:∀a,x.ats.A=some a->wr.heap.size<=a.block:=fun a ha=>HFx.out a ha;have h2:z=0->∀a,A'=some a->w2.heap.size+1<=a.block:=fun e a ha=>by simpa using (HZ.out e).2.1 a ha
      exact⟨_,A',n',c',z,rfl,rfl,za (by rw[heap_setCell_same _ _ _ _ _ _ HQ4.out];rfl),za (HS.out.go (hT3.setCellR zb zb)),za zb,za (fun e=>(Tt (q:=w2.heap.size) HZ.out HX.out hD3 (fun a ha=>MB) zH (fun a ha=>Au) (fun e a ha _=>by have:=h2 e a ha;omega) e).box)⟩
    · have h1:∀a,x.ats.A=some a->wr.heap.size+1<=a.block:=fun a ha=>by simpa using HFx.out a ha
      have h2:wr.heap.size<w2.heap.size:=zh HQ1.out;exact⟨_,A',n',c',z,rfl,rfl,za (by rw[heap_setCell_same _ _ _ _ _ _ HQ3.out];rfl),za (HS.out.go (hT3.setCellR zo zb)),za hBl,za (fun e=>(Tt (q:=wr.heap.size) HZ.out HX.out hD3 (fun a ha=>MB) zb (fun a ha=>MB) (fun e a ha _=>by have:=(HZ.out e).2.1 a ha;omega) e).box)⟩
   case rest=>
    obtain⟨q,A',n',c',z,rfl,rfl,HQ,HSx,Hq,HNw⟩:=hcut;have hqB:=Hq.out;have hn:=HN.out;have t7:=zd (j:=0) HQ.out rfl;have t5:=zd (j:=0) HSx.out.bx rfl;have f5:wc.frozen? ⟨w.heap.size+1,0,none⟩=false:=frozen_of_row _ _ _ _ _ HSx.out.bx;by_cases hz:z=0
    · subst hz;obtain⟨ds',hn',hl',hS'⟩:=HSx.out.ins zb (HNw.out rfl);have HS':=za (hS'.up (show((m - k:Nat):Int)+1<=((m - (k - 1):Nat):Int) by omega));have hd':ds'.length+(k - 1)<=m:=zb;clear hS' hn' hl' hn;go_wp2;go_roundg (gk - 1)
      case measure=>omega
      case rel=>exact⟨k - 1,A',c',ds',D+50,zP,zb,zb,zb,zb,HS'⟩
    · have hd':ds.length+(k - 1)<=m:=by omega
      clear hn;go_wp2;go_roundg (gk - 1)
      case measure=>omega
      case rel=>exact⟨k - 1,A,c,ds,D+50,zP,zb,zb,zb,zb,za (HSx.out.up zb)⟩
 · obtain rfl:k=0:=by omega
   have hkI:¬(0:Int)<((0:Nat):Int):=zb;have c4:=zd (j:=0) HS.out.rs rfl;have f4:wr.frozen? ⟨w.heap.size,0,none⟩=false:=frozen_of_row _ _ _ _ _ HS.out.rs;go_wp2;have HR9:Hid (∀v,(wr.setCell ⟨w.heap.size,0,none⟩ v).heap[w.heap.size]? =some (.cells #[v] Yv (0,0))):=za fun v=>heap_setCell_same _ _ _ _ _ _ HS.out.rs;refine UK rfl zj (HR9.out _) underlying30 rfl K1 zj ?_;have hg:=qu wr w.heap.size 0 (.slice A ds.length c);refine⟨A,c,ds,rfl,HS.out.tr.grown hg (fun a ha=>?_) (fun x hx a ha=>?_),fun a ha=>?_,fun x hx a ha=>?_,HS.out.cp,zb,⟨HS.out.tw.wf,fun x hx=>(HS.out.tw.dv x hx).mono zb⟩,(HS.out.nx.setCellR zo HS.out.lo).more zb⟩
   · have:=HS.out.fr a ha;omega
   · have:=HS.out.fi x hx a ha;omega
   · have:=HS.out.fr a ha;omega
   · have:=HS.out.fi x hx a ha;omega
end Go.Proofs.YtecbmndgpepkcaaGreatDoor

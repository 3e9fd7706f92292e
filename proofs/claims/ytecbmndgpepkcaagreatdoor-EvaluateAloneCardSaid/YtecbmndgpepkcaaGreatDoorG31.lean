/- Contracts that the law rests on, each under the premises that it names. -/
import Derived.Test.YtecbmndgpepkcaaGreatDoorG29
namespace Go.Proofs.YtecbmndgpepkcaaGreatDoor
open Tryz
set_option maxHeartbeats 8000000
set_option maxRecDepth 100000
section
open Go.RowKit Go.Shelf
theorem zea(n:Nat)(parts:Array (Nat×Value)):Instr.buildSlice 28 n parts=Yy 28 n parts:=K6
attribute [local go_sem ↓] zea ZU
theorem zcw(lA:Option Addr)(lc:Nat)(l:List Tm)(A:Option Addr)(c:Nat)(ds:List Dv)(n:Int)(d:Dd)(w:World)(hr:zE w lA 4 l.length (cellsOf zQ l))(hnil:lA=none->lc=0)(hl:l.length<=1000000)(hv:∀t∈l,t.value.size<=1000000)(h:qj w A ds)(hi:∀d∈zm ds,Xh d)(hok:∀z∈ds,VJ z)(hwf:Z8 (zm ds))(r1: -9223372036854775808<=n)(r2:n<=9223372036854775807)(hf:zC (zm ds) n=some d):
 Calls prog 94 #[.slice lA l.length lc,zV A ds c,.int .i64 n] w (Nc (Q1 l (zm ds) n) w):=by
 obtain⟨w1,hw1⟩:∃w1,w.alloc (.cells #[.slice A ds.length c] 30)=w1:=⟨_,rfl⟩;have hb1:Below w.heap.size w w1:=ZX;have HF:=za (VD A c ds n w1 (h.keep hb1));have HO:=za (fun(W:World) (hb:Below w.heap.size w W)=>jK A c ds n W (h.keep hb) hi hwf r1 r2);have HB1:=za hb1;have HW:=za hw1;have h0:w1.heap[w.heap.size]? =some (.cells #[.slice A ds.length c] 30 (0,0)):=Qo;have H0:=za h0;obtain⟨rs,hch,hrs⟩:=RF hwf hf;have hrl:rs.length+1<=1000:=EL;have HZ:Hid (∀y∈d::rs,∃z∈ds,z.d=y):=za fun y hy=>by
  have hm:=Jj (l:=zm ds) (n:=n) (by rw[hch];exact hy);obtain⟨z,hz,e⟩:=List.mem_map.1 hm;exact⟨z,hz,e⟩
 have HAl:Hid (∀y:Dv,y.d∈d::rs->y.ats.l.length<=1000):=za fun y hy=>by
  obtain⟨z,hz,e⟩:=HZ.out _ hy;have e2:z.ats.l=y.ats.l:=congrArg Dd.ats e;rw[<-e2];exact h.al z hz
 have HOk:Hid (∀y:Dv,y.d∈d::rs->VJ y):=za fun y hy=>by
  obtain⟨z,hz,e⟩:=HZ.out _ hy;exact zgB (hok z hz) e.symm
 have HTail:Hid (∀(x:Dv) (V:World) (A5:Option Addr) (c5:Nat) (ms:List Dv) (g:Nat),x.d=d->V.heap[g]? =some (.cells (zq x) zp (0,0))->zE V A5 10 ms.length (cellsOf zM ms)->(∀y∈ms,ZM V y)->ZM V x->ms.map Dv.d=rs->w.heap.size<=V.heap.size->∃(A6:Option Addr) (c6:Nat) (w6:World),(Zv #[28,28] 28 #[.slice (some ⟨g,0,none⟩) 1 1,.slice A5 ms.length c5]).run prog V=.ok (.slice A6 (ms.length+1) c6) w6/\qj w6 A6 (x::ms)/\Below w.heap.size V w6/\Below V.heap.size V w6):=za fun x V A5 c5 ms g hx hg hrow hin hxn hms hsz=>by
  have hml:ms.length=rs.length:=by rw[<-hms,W7]
  obtain⟨A6,c6,w6,k1,k2,k3⟩:=Ba x ms A5 c5 g V.heap.size V hg hrow zb zo;refine⟨A6,c6,w6,k1,⟨k2,?_,GX,?_⟩,k3.mono hsz,k3⟩
  · intro y hy;rcases List.mem_cons.1 hy with rfl|hy
    · exact hxn.keep k3
    · exact(hin y hy).keep k3
  · intro y hy;refine HAl.out y ?_;rw[<-hx,<-hms,<-zl3];exact zd8 hy
 have HAnc:Hid (Q1 l (zm ds) n=(d::rs).find? fun x=> !(l.any fun t=>qT t&& !XN t x)):=za (by unfold Q1;rw[hch]);have HCt:=za (fun(y:Dv) (g:Nat) (V:World) (hb:Below w.heap.size w V) (hy:y.d∈d::rs) (hn:ZM V y) (hg:V.heap[g]? =some (.cells (zq y) zp (0,0)))=>zec y g V (HOk.out y hy) hn hg lA lc l (hr.keep hb) hnil zb hv);rw[hf]at HF;unfold YC at HF;unfold G2 at HO;rw[hrs]at HO;clear hf h hi r1 r2 hb1 h0 hw1 hwf hch hrs hr hnil hl hv hok;generalize Q1 l (zm ds) n=res at*;unfold zV at*;generalize ds.length=N at*;generalize l.length=M0 at*;go_enter func94,ntmps94;go_upto_region 1 with fail
 rw[HW.out];go_upto_region 4 with(first
  |(refine wpList_load_row rfl 30 _ rfl _ rfl _ _ _ _ H0.out underlying30 rfl J4 ?_)
  |(go_at_call 9;refine HF.out.mono ?_;rintro e w2 ⟨x,rfl,hx,hxn,-,hb2⟩;have Hx:=za hx;have HXn:=za hxn;have HB2:=za (bt HB1.out hb2);have hc0:=za ((hb2.block _ (zh H0.out)).trans H0.out);have hrow:=i5 w2 (.cells (zq qd) zp);clear hb2 hx hxn)
  |(refine wpList_store_row rfl 43 _ _ rfl _ _ rfl rfl _ _ hrow Zf rfl qP ?_))
 clear hrow;obtain⟨w3,hw3⟩:∃w3,(w2.alloc (.cells #[.int .i64 0,.int .i64 0,.string ⟨#[]⟩,.string ⟨#[]⟩,.string ⟨#[]⟩,.string ⟨#[]⟩,.string ⟨#[]⟩,.int .i64 0,.int .i64 0,.slice none 0 0] 43)).setRow w2.heap.size #[.int .i64 x.ix,.int .i64 x.pa,.string x.nam,.string x.og,.string x.sb,.string x.dr,.string x.al,.int .i64 x.kd,.int .i64 x.nb,.slice x.ats.A x.ats.l.length x.ats.c]=w3:=⟨_,rfl⟩;have hL:Below w2.heap.size w2 w3/\w3.heap[w2.heap.size]? =some (.cells (zq x) zp (0,0)):=by rw[<-hw3];exact Vi w2 x
 rw[hw3];clear hw3;have HB3:=za (bt HB2.out hL.1);have HX3:=za (HXn.out.keep hL.1);have HC3:=za (((hL.1.block _ (zh hc0.out)).trans hc0.out));have HBx:=za hL.2;have hsg:w.heap.size<=w2.heap.size:=HB2.out.size;obtain⟨gx,hgx⟩:∃gx,w2.heap.size=gx:=⟨_,rfl⟩;rw[hgx]at HBx hsg⊢;clear hL hc0 HB2 HXn hgx HF;have HCl:Hid (∀V,Below w3.heap.size w3 V->(V.cell? ⟨gx,0,none⟩=some (.int .i64 x.ix)/\V.cell? ⟨gx,1,none⟩=some (.int .i64 x.pa)/\V.cell? ⟨gx,2,none⟩=some (.string x.nam)/\V.cell? ⟨gx,3,none⟩=some (.string x.og)/\V.cell? ⟨gx,4,none⟩=some (.string x.sb)/\V.cell? ⟨gx,5,none⟩=some (.string x.dr)/\V.cell? ⟨gx,6,none⟩=some (.string x.al)/\V.cell? ⟨gx,7,none⟩=some (.int .i64 x.kd)/\V.cell? ⟨gx,8,none⟩=some (.int .i64 x.nb)/\V.cell? ⟨gx,9,none⟩=some (.slice x.ats.A x.ats.l.length x.ats.c))/\V.cell? ⟨w.heap.size,0,none⟩=some (.slice A N c)):=za fun V hV=>by
  have h1:=(hV.block _ (zh HBx.out)).trans HBx.out;have h2:=(hV.block _ (zh HC3.out)).trans HC3.out;exact⟨⟨zd h1 rfl,zd h1 rfl,zd h1 rfl,zd h1 rfl,zd h1 rfl,zd h1 rfl,zd h1 rfl,zd h1 rfl,zd h1 rfl,zd h1 rfl⟩,zd h2 rfl⟩
 have hbs:∀V:World,(Yy 28 1 #[(0,.agg #[.int .i64 x.ix,.int .i64 x.pa,.string x.nam,.string x.og,.string x.sb,.string x.dr,.string x.al,.int .i64 x.kd,.int .i64 x.nb,.slice x.ats.A x.ats.l.length x.ats.c])]).run prog V=.ok (.slice (some ⟨V.heap.size,0,none⟩) 1 1) (V.alloc (.cells #[.int .i64 x.ix,.int .i64 x.pa,.string x.nam,.string x.og,.string x.sb,.string x.dr,.string x.al,.int .i64 x.kd,.int .i64 x.nb,.slice x.ats.A x.ats.l.length x.ats.c] 43)):=fun V=>VE (P:=prog) underlying28 Jl zi zi (zq x) rfl V;obtain⟨⟨m0,m1,m2,m3,m4,m5,m6,m7,m8,m9⟩,mt⟩:=HCl.out w3 zj;have hgl:gx<w3.heap.size:=zh HBx.out;have hwl:w.heap.size<w3.heap.size:=zh HC3.out;have HA1:Hid (∀(V w5:World) (A5:Option Addr) (c5:Nat) (ms:List Dv),Below w3.heap.size w3 V->ms.map Dv.d=rs->w5.ownsRow V.heap.size zp 10 (.slice A5 ms.length c5) ms.length (cellsOf zM ms)->(∀y∈ms,ZM w5 y/\qV V.heap.size y.ats.A)->Below V.heap.size V w5->Hid (Below w.heap.size w w5)/\(∀g,V.heap[g]? =some (.cells (zq x) zp (0,0))->∃(A6:Option Addr) (c6:Nat) (w6:World),(Zv #[28,28] 28 #[.slice (some ⟨g,0,none⟩) 1 1,.slice A5 ms.length c5]).run prog w5=.ok (.slice A6 (ms.length+1) c6) w6/\Hid (qj w6 A6 (x::ms))/\Hid (Below w.heap.size w w6))/\(∃(A6:Option Addr) (c6:Nat) (w6:World),(Zv #[28,28] 28 #[.slice (some ⟨w5.heap.size,0,none⟩) 1 1,.slice A5 ms.length c5]).run prog (w5.alloc (.cells #[.int .i64 x.ix,.int .i64 x.pa,.string x.nam,.string x.og,.string x.sb,.string x.dr,.string x.al,.int .i64 x.kd,.int .i64 x.nb,.slice x.ats.A x.ats.l.length x.ats.c] 43))=.ok (.slice A6 (ms.length+1) c6) w6/\Hid (qj w6 A6 (x::ms))/\Hid (Below w.heap.size w w6))):=za fun V w5 A5 c5 ms hV hms hown hin hb5=>by
  have hw5:Below w.heap.size w w5:=bt HB3.out (bt hV hb5);have hrow:=(zE.of_own hown).1;have hx5:=(HX3.out.keep hV).keep hb5;refine⟨hw5,fun g hg=>?_,?_⟩
  · obtain⟨A6,c6,w6,q1,q2,q3,q4⟩:=HTail.out x w5 A5 c5 ms g Hx.out ((hb5.block _ (zh hg)).trans hg) hrow (fun y hy=>(hin y hy).1) hx5 hms hw5.size;exact⟨A6,c6,w6,q1,q2,bt hw5 q4⟩
  · have hba:=zL w5 (.cells (zq x) zp);obtain⟨A6,c6,w6,q1,q2,q3,q4⟩:=HTail.out x (w5.alloc (.cells (zq x) zp)) A5 c5 ms w5.heap.size Hx.out qt (hrow.keep hba) (fun y hy=>((hin y hy).1).keep hba) (hx5.keep hba) hms (i3 hw5.size hba.size);exact⟨A6,c6,w6,q1,q2,bt hw5 (bt hba q4)⟩
 clear HTail
 go_region_with (first
  |(go_at_call 11;refine(HO.out (w3.drew.alloc (.cells (zq x) zp)) (bt HB3.out (zP (zN zj)))).mono ?_;rintro e w5 ⟨A5,c5,ms,rfl,hms,hown,hin,hb5⟩;obtain⟨HB5,q1,-⟩:=HA1.out _ w5 A5 c5 ms (zP (zN zj)) hms hown hin hb5;obtain⟨A6,c6,w6,hap,HT6,HB6⟩:=q1 w3.heap.size (i5 w3.drew _);have HMs:=za hms;clear hms hown hin hb5 q1)
  |(go_at_call 11;go_loud (refine(HO.out w3.drew (bt HB3.out (zN zj))).mono ?_;rintro e w5 ⟨A5,c5,ms,rfl,hms,hown,hin,hb5⟩;obtain⟨HB5,-,q1⟩:=HA1.out _ w5 A5 c5 ms (zN zj) hms hown hin hb5;obtain⟨A6,c6,w6,hap,HT6,HB6⟩:=q1;have HMs:=za hms;obtain⟨⟨d0,d1,d2,d3,d4,d5,d6,d7,d8,d9⟩,dt⟩:=HCl.out w5 (bt (zN zj) hb5);clear hms hown hin hb5)))
 all_goals
  clear hap;have HRes:=za (show res=((x::ms).map Dv.d).find? (fun z=> !(l.any fun t=>qT t&& !XN t z)) by rw[zl3,Hx.out,HMs.out];exact HAnc.out);have HMem:=za (show∀y∈x::ms,y.d∈d::rs from fun y hy=>by rw[<-Hx.out,<-HMs.out,<-zl3];exact zd8 hy);obtain⟨ys,hys⟩:∃ys,x::ms=ys:=⟨_,rfl⟩;have hM:ms.length+1=ys.length:=by rw[<-hys];rfl
  have hM1:ys.length<=1000:=by rw[<-hys];exact HT6.out.len
  rw[hys]at HRes HMem HT6;have hMi:((ms.length:Int)+1)=(ys.length:Int):=zb;rw[hM,hMi];clear hMi hys hM m0 m1 m2 m3 m4 m5 m6 m7 m8 m9 mt HA1 hbs HCl HX3 HC3 HBx HB3 HO
  try clear d0 d1 d2 d3 d4 d5 d6 d7 d8 d9 dt
  obtain⟨M,hM⟩:∃M,ys.length=M:=⟨_,rfl⟩;have HM:=za hM;rw[hM]at hM1⊢;clear hM;go_wp2;simp only[go_sem,List.getElem_toArray,List.getElem_cons_zero,List.getElem_cons_succ,i6,i8,i7];go_loopg [27,11] (M+1) (fun gk s27 _ wr=>∃(k:Nat),s27=.int .i64 k/\k+gk=M+1/\k<=M/\Hid (res=((ys.map Dv.d).drop k).find? (fun z=> !(l.any fun t=>qT t&& !XN t z)))/\Hid (Below w6.heap.size w6 wr))
  case atStart=>exact⟨0,rfl,zb,X1 _,HRes.out,zj⟩
  case round=>
   obtain⟨k,rfl,hkg,hkM,HP,HL⟩:=hrel;by_cases hlt:k<M
   · have hltI:(k:Int)<(M:Int):=by omega
     obtain⟨y,hy⟩:∃y,ys[k]? =some y:=⟨_,l0 PC⟩;have hym:=X7 hy;have hdr:(ys.map Dv.d).drop k=y.d::(ys.map Dv.d).drop (k+1):=by
      have e1:(ys.map Dv.d)[k]? =some y.d:=by rw[zd4,hy];rfl
      obtain⟨e2,e3⟩:=List.getElem?_eq_some_iff.1 e1;rw[zd7 e2,e3]
     have HD:=za hdr;have hLd:=Vi wr y;have HLd:=za hLd;have HC1:=za (HCt.out y wr.heap.size ((wr.alloc (.cells (zq qd) zp)).setRow wr.heap.size (zq y)) (bt HB6.out (bt HL.out hLd.1)) (HMem.out y hym) ((HT6.out.inn y hym).keep (bt HL.out hLd.1)) hLd.2);have hrow:=i5 wr (.cells (zq qd) zp);obtain⟨b,off,rfl,hb,hten⟩:=HT6.out.ten hy;obtain⟨e0,e1,e2,e3,e4,e5,e6,e7,e8,e9⟩:=hten wr HL.out;have hp:∀b,(l.any fun t=>qT t&& !YK t y)=b->(!(l.any fun t=>qT t&& !XN t y.d))= !b:=fun b h=>by rw[<-h];rfl
     clear hLd hy hdr hten hym;cases hbv:(l.any fun t=>qT t&& !YK t y)with
     | false=>
       rw[hbv]at HC1;have hr1:res=some y.d:=by rw[HP.out,HD.out,zm1 (p:=fun z=> !(l.any fun t=>qT t&& !XN t z)) (hp _ hbv)]
       have HR1:=za hr1;clear hr1 hp hbv;go_wp2_with (first
        |(refine wpList_store_row rfl 43 _ _ rfl _ _ rfl rfl _ _ hrow Zf rfl qP ?_)
        |(go_at_call 118;refine HC1.out.mono ?_;rintro e w7 ⟨rfl,hb7⟩;have HB7:=za (bt HL.out (bt HLd.out.1 hb7));have f0:w7.cell? ⟨wr.heap.size,0,none⟩=some (.int .i64 y.ix):=zd ((hb7.block _ (zh HLd.out.2)).trans HLd.out.2) rfl;clear hb7))
       refine bodyPost_ret (v:=.tuple #[.int .i64 y.ix,.bool true]) Pj rfl ?_;exact⟨by rw[HR1.out];rfl,bt HB6.out HB7.out⟩
     | true=>
       rw[hbv]at HC1;have hr1:res=((ys.map Dv.d).drop (k+1)).find? (fun z=> !(l.any fun t=>qT t&& !XN t z)):=by rw[HP.out,HD.out,zm0 (by rw[hp _ hbv];decide)]
       have HR1:=za hr1;clear hr1 hp hbv;go_wp2_with (first
        |(refine wpList_store_row rfl 43 _ _ rfl _ _ rfl rfl _ _ hrow Zf rfl qP ?_)
        |(go_at_call 118;refine HC1.out.mono ?_;rintro e w7 ⟨rfl,hb7⟩;have HB7:=za (bt HL.out (bt HLd.out.1 hb7));clear hb7))
       go_roundg (gk - 1)
       case measure=>omega
       case rel=>exact⟨k+1,zU,zb,zb,HR1,HB7⟩
   · obtain rfl:k=M:=by omega
     have hr1:res=none:=by rw[HP.out,List.drop_eq_nil_of_le (by rw[W7,HM.out];exact zo)];rfl
     have HR1:=za hr1;clear hr1;go_wp2;refine bodyPost_ret (v:=.tuple #[.int .i64 0,.bool false]) Pj rfl ?_;exact⟨by rw[HR1.out];rfl,bt HB6.out HL.out⟩
end
section
open Go.RowKit Go.Shelf
theorem zhH(lA:Option Addr)(lc:Nat)(l:List Tm)(A:Option Addr)(c:Nat)(ds:List Dv)(n:Int)(w:World)(hr:zE w lA 4 l.length (cellsOf zQ l))(hnil:lA=none->lc=0)(hl:l.length<=1000000)(hv:∀t∈l,t.value.size<=1000000)(h:qj w A ds)(hi:∀d∈zm ds,Xh d)(hok:∀z∈ds,VJ z)(hwf:Z8 (zm ds))(r1: -9223372036854775808<=n)(r2:n<=9223372036854775807):
 Calls prog 94 #[.slice lA l.length lc,zV A ds c,.int .i64 n] w (Nc (Q1 l (zm ds) n) w):=by
 cases hf:zC (zm ds) n with
 | none=>
   have e:Q1 l (zm ds) n=none:=by unfold Q1;rw[yG hf];rfl
   rw[e];exact zjy lA lc l.length A c ds n w h hf
 |some d=>exact zcw lA lc l A c ds n d w hr hnil hl hv h hi hok hwf r1 r2 hf
end
end Go.Proofs.YtecbmndgpepkcaaGreatDoor

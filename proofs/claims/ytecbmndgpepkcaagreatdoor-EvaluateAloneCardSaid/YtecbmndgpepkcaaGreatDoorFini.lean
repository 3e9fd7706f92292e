/- Contracts that the law rests on, each under the premises that it names. -/
import Derived.Test.YtecbmndgpepkcaaGreatDoorG29
namespace Go.Proofs.YtecbmndgpepkcaaGreatDoor
open Tryz
set_option maxHeartbeats 8000000
set_option maxRecDepth 100000
open Go.RowKit
abbrev Zx:Rm:=⟨⟨#[]⟩,0,⟨none,0,[]⟩,⟨none,0,[]⟩,⟨none,0,[]⟩,⟨none,0,[]⟩,⟨none,0,[]⟩,⟨#[]⟩,0,⟨#[]⟩,⟨#[]⟩,0⟩
def Rm.as(r:Rm):List (Option Addr):=[r.props.A,r.tags.A,r.links.A,r.run.A,r.load.A]
def Ro(w:World)(o:Option Dd)(d:Dr)(g:ByteArray)(e:Ending)(w':World):Prop:=match o with
 |none=>e=.returned (.tuple #[.agg (qb Zx),.bool false])/\Below w.heap.size w w'
 |some x=>∃r:Rm,e=.returned (.tuple #[.agg (qb r),.bool true])/\r.d=Ym d x g/\Z3 w' r/\(∀a∈r.as,∀p,a=some p->w.heap.size<=p.block)/\Below w.heap.size w w'
def XS(w4:World)(r:Rm)(W:World):Prop:=W.heap[w4.heap.size]? =some (.cells (qb r) qf (0,0))/\Below w4.heap.size w4 W
theorem XS.keep{w4 W W':World}{r:Rm}(h:XS w4 r W)(hb:Below W.heap.size W W'):XS w4 r W':=⟨(hb.block _ (zh h.1)).trans h.1,bt h.2 hb⟩
theorem XS.set{w4 W:World}{r:Rm}(h:XS w4 r W)(i:Nat)(v:Value)(r':Rm)(e:(qb r).setIfInBounds i v=qb r'):XS w4 r' (W.setCell ⟨w4.heap.size,i,none⟩ v):=by
 have h1:=setCell_eq_setRow W w4.heap.size i _ _ _ v h.1;rw[h1,e];exact⟨setRow_heap _ _ _ _ _ _ h.1,h.2.grown (qR _ _ _) h.2.size (fun j ej=>by rw[<-zx ej];exact zo)⟩
theorem XS.drew{w4 W:World}{r:Rm}(h:XS w4 r W):XS w4 r W.drew:=⟨h.1,h.2.drew⟩
def V6(n:Int)(z:Dm)(p:ByteArray):Rm:=⟨p,n,z.props,z.tags,⟨none,0,[]⟩,z.run,z.load,⟨#[]⟩,z.prio,⟨#[]⟩,⟨#[]⟩,0⟩
def Jx(n:Int)(z:Dm)(p:ByteArray):Rm:=⟨p,n,z.props,z.tags,z.links,z.run,z.load,⟨#[]⟩,z.prio,z.own,z.grp,z.mode⟩
def Gu(n:Int)(z:Dm)(p:ByteArray):Rm:=⟨p,n,z.props,z.tags,⟨none,0,[]⟩,z.run,z.load,z.nam,z.prio,⟨#[]⟩,⟨#[]⟩,0⟩
theorem XS.two{w4 W:World}{n:Int}{z:Dm}{p:ByteArray}(h:XS w4 (V6 n z p) W):XS w4 (Jx n z p) ((((W.setCell ⟨w4.heap.size,4,none⟩ (.slice z.links.A z.links.l.length z.links.c)).setCell ⟨w4.heap.size,9,none⟩ (.string z.own)).setCell ⟨w4.heap.size,10,none⟩ (.string z.grp)).setCell ⟨w4.heap.size,11,none⟩ (.int .i64 z.mode)).drew:=
 ((((h.set 4 _ ⟨p,n,z.props,z.tags,z.links,z.run,z.load,⟨#[]⟩,z.prio,⟨#[]⟩,⟨#[]⟩,0⟩ rfl).set 9 _ ⟨p,n,z.props,z.tags,z.links,z.run,z.load,⟨#[]⟩,z.prio,z.own,⟨#[]⟩,0⟩ rfl).set 10 _ ⟨p,n,z.props,z.tags,z.links,z.run,z.load,⟨#[]⟩,z.prio,z.own,z.grp,0⟩ rfl).set 11 _ (Jx n z p) rfl).drew
theorem IN{β:Type}{k q:Nat}{enc:β->List Value}{w4 W:World}{base:Nat}{T:TypeId}{y:Ls β}{cs:Array Value}(h:w4.ownsRow base T k (.slice y.A y.l.length y.c) y.l.length (cellsOf enc y.l))(hW:Below w4.heap.size w4 W)(hq:q<base):zB k enc (W.setRow q cs) y:=by
 have h1:=zB.of_own (qi h hW);exact h1.1.grown (qR _ _ _) (fun a e=>by have h2:=h1.2 a e;intro h3;have:=zx h3;omega)
theorem jS{w4 W:World}{base g q:Nat}{z:Dm}{cs:Array Value}(h:qx base w4 g z)(hW:Below w4.heap.size w4 W)(hq:q<base)(p:ByteArray)(n:Int):Z3 (W.setRow q cs) (V6 n z p)/\Z3 (W.setRow q cs) (Jx n z p)/\Z3 (W.setRow q cs) (Gu n z p):=
 have a:=IN (cs:=cs) h.rows.pr hW hq;have b:=IN (cs:=cs) h.rows.tg hW hq;have c:=IN (cs:=cs) h.rows.lk hW hq;have d:=IN (cs:=cs) h.rows.rn hW hq;have e:=IN (cs:=cs) h.rows.ld hW hq
 ⟨⟨a,b,zB.empty,d,e⟩,⟨a,b,c,d,e⟩,⟨a,b,zB.empty,d,e⟩⟩
theorem yC{w4:World}{base g b:Nat}{z:Dm}(h:qx base w4 g z)(hb:b<=base)(p:ByteArray)(n:Int):(∀a∈(V6 n z p).as,∀q,a=some q->b<=q.block)/\(∀a∈(Jx n z p).as,∀q,a=some q->b<=q.block)/\(∀a∈(Gu n z p).as,∀q,a=some q->b<=q.block):=by
 have a:=fun q e=>i3 hb (qu h.rows.pr q e).1;have b:=fun q e=>i3 hb (qu h.rows.tg q e).1;have c:=fun q e=>i3 hb (qu h.rows.lk q e).1;have d:=fun q e=>i3 hb (qu h.rows.rn q e).1;have e:=fun q e=>i3 hb (qu h.rows.ld q e).1;refine⟨fun x hx q hq=>?_,fun x hx q hq=>?_,fun x hx q hq=>?_⟩
 all_goals
  simp only[Rm.as,V6,Jx,Gu,List.mem_cons,List.not_mem_nil,or_false]at hx;rcases hx with rfl|rfl|rfl|rfl|rfl
  all_goals first
   |exact a q hq
   |exact b q hq
   |exact c q hq
   |exact d q hq
   |exact e q hq
   |cases hq
theorem zc2(parts:Array (Nat×Value)):Instr.build 34 parts=ZI 34 parts:=U7
theorem zag(W:World):(ZI 34 #[]).run prog W=.ok (.agg (qb Zx)) W:=Xr
theorem ziF(n:Int)(z:Dm)(W:World):(ZI 34 #[(1,.int .i64 n),(2,.slice z.props.A z.props.l.length z.props.c),(3,.slice z.tags.A z.tags.l.length z.tags.c),(5,.slice z.run.A z.run.l.length z.run.c),(6,.slice z.load.A z.load.l.length z.load.c),(8,.int .i64 z.prio)]).run prog W=.ok (.agg (qb (V6 n z ⟨#[]⟩))) W:=Xr
theorem zaw(v u:Value):Instr.storeAt 34 v u=Zo 34 v u:=kQ
theorem zeX(W:World)(r:Rm):(Zo 34 (.pointer (some ⟨W.heap.size,0,none⟩)) (.agg (qb r))).run prog (W.alloc (.cells #[.string ⟨#[]⟩,.int .i64 0,.slice none 0 0,.slice none 0 0,.slice none 0 0,.slice none 0 0,.slice none 0 0,.string ⟨#[]⟩,.int .i64 0,.string ⟨#[]⟩,.string ⟨#[]⟩,.int .i64 0] 34)).drew=.ok () ((W.alloc (.cells #[.string ⟨#[]⟩,.int .i64 0,.slice none 0 0,.slice none 0 0,.slice none 0 0,.slice none 0 0,.slice none 0 0,.string ⟨#[]⟩,.int .i64 0,.string ⟨#[]⟩,.string ⟨#[]⟩,.int .i64 0] 34)).drew.setRow W.heap.size (qb r)):=by
 have h:=XU (P:=prog) (w:=(W.alloc (.cells #[.string ⟨#[]⟩,.int .i64 0,.slice none 0 0,.slice none 0 0,.slice none 0 0,.slice none 0 0,.slice none 0 0,.string ⟨#[]⟩,.int .i64 0,.string ⟨#[]⟩,.string ⟨#[]⟩,.int .i64 0] 34)).drew) (T:=34) (g:=W.heap.size) (o:=0) (cs:=#[.string ⟨#[]⟩,.int .i64 0,.slice none 0 0,.slice none 0 0,.slice none 0 0,.slice none 0 0,.slice none 0 0,.string ⟨#[]⟩,.int .i64 0,.string ⟨#[]⟩,.string ⟨#[]⟩,.int .i64 0]) (vs:=qb r) (t:=34) (i5 W _) (by exact zo) PL YP (Mm r);rw[UL (#[.string ⟨#[]⟩,.int .i64 0,.slice none 0 0,.slice none 0 0,.slice none 0 0,.slice none 0 0,.slice none 0 0,.string ⟨#[]⟩,.int .i64 0,.string ⟨#[]⟩,.string ⟨#[]⟩,.int .i64 0]) (qb r) rfl]at h;exact h
attribute [local go_sem ↓] zc2 zaw
theorem zjz(x:Dm)(A:Option Addr)(c:Nat)(ds:List Dv)(n:Int)(k:Nat)(w:World)(hN:Yg w x)(hG:zH x.d k)(hk:k<=100000)(h:qj w A ds)(hi:∀d∈zm ds,Xh d)(r1: -9223372036854775808<=n)(r2:n<=9223372036854775807)(hE:Env0 w):
 Calls prog 29 #[.agg (zI x),zV A ds c,.int .i64 n] w (Ro w (zC (zm ds) n) x.d (qK (zm ds) n)):=by
 obtain⟨w1,hw1⟩:∃w1,((w.alloc (.cells (zI x) qn)).alloc (.cells #[.slice A ds.length c] 30)).alloc (.cells (qb Zx) qf)=w1:=⟨_,rfl⟩;obtain⟨hs1,k0,k1,k2,hb1⟩:=Ka w (.cells (zI x) qn) (.cells #[.slice A ds.length c] 30) (.cells (qb Zx) qf);rw[hw1]at hs1 k0 k1 k2 hb1;have HFd:=za (VD A c ds n w1 (h.keep hb1));have HEd:=za (fun(W:World) (hW:Below w1.heap.size w1 W)=>Mp x W ((hN.keep hb1).keep hW) (hG.dmz hk));have HOg:=za (fun(W:World) (hW:Below w1.heap.size w1 W)=>TS A c ds n W ((h.keep hb1).keep hW) hi r1 r2);have HW:=za hw1;have HB1:=za hb1;have HK0:=za k0;have HK1:=za k1;have HK2:=za k2;have HS1:=za hs1;have HEn:=za hE;have HI:=za hi;have hx:qb Zx=#[.string ⟨#[]⟩,.int .i64 0,.slice none 0 0,.slice none 0 0,.slice none 0 0,.slice none 0 0,.slice none 0 0,.string ⟨#[]⟩,.int .i64 0,.string ⟨#[]⟩,.string ⟨#[]⟩,.int .i64 0]:=rfl;rw[hx]at HW;have hb0:=zag;have t0:w1.cell? ⟨w.heap.size+1,0,none⟩=some (.slice A ds.length c):=zd k1 rfl;clear hx hw1 hs1 k0 k1 k2 hb1 hG hE hN h hi;unfold YC at HFd;unfold Ro;unfold zV at*;cases hf:zC (zm ds) n with
 | none=>
   rw[hf]at HFd;have HFd2:=za HFd.out;clear HFd hf;dsimp only;go_enter func29,ntmps29;go_upto_region 1 with fail
   rw[HW.out];go_upto_region 2 with(first
    |(go_at_call 9;refine HFd2.out.mono ?_;rintro e w2 ⟨rfl,hb2⟩;have HB2:=za hb2;clear hb2)
    |(refine wpList_store_row rfl 43 _ _ rfl _ _ rfl rfl _ _ qt Zf rfl (by exact O2 _) ?_))
   obtain⟨w3,hw3⟩:∃w3,w3=(w2.alloc (.cells (zq qd) zp)).setRow w2.heap.size (zq qd):=⟨_,rfl⟩;have hb3:Below w1.heap.size w1 w3:=by rw[hw3];exact bt HB2.out (qB zu zo)
   unfold zq at hw3;dsimp only[List.length_nil]at hw3
   try rw[<-hw3]
   have HX:=za ((hb3.block _ (zh HK2.out)).trans HK2.out);have HB3:=za hb3;clear hw3 hb3;go_wp2_with (refine wpList_store_row rfl 34 _ _ rfl _ _ rfl rfl _ _ HX.out YP rfl M8 ?_)
   refine Qx rfl zk zk (setRow_heap _ _ _ _ _ _ HX.out) underlying34 rfl YP zk ?_;exact⟨rfl,qB (bt HB1.out HB3.out) zb⟩
 | some dd=>
   rw[hf]at HFd;have HFd2:=za HFd.out;have HDd:=za (Xz hf);clear HFd hf;dsimp only;go_enter func29,ntmps29;go_upto_region 1 with fail
   rw[HW.out];go_upto_region 2 with(first
    |(go_at_call 9;refine HFd2.out.mono ?_;rintro e w2 ⟨y,rfl,hy⟩;have HY:=za hy;clear hy)
    |(refine wpList_store_row rfl 43 _ _ rfl _ _ rfl rfl _ _ qt Zf rfl (by exact O2 _) ?_))
   obtain⟨w3,hw3⟩:∃w3,w3=(w2.alloc (.cells (zq qd) zp)).setRow w2.heap.size (zq y):=⟨_,rfl⟩;have hb23:Below w2.heap.size w2 w3:=by rw[hw3];exact qB zu zo
   have hb3:Below w1.heap.size w1 w3:=bt HY.out.2.2.2 hb23;have hd3:w3.heap[w2.heap.size]? =some (.cells (zq y) zp (0,0)):=by rw[hw3];exact setRow_heap _ _ _ _ _ _ (i5 w2 _)
   unfold zq at hw3;dsimp only[List.length_nil]at hw3
   try rw[<-hw3]
   have HB3:=za hb3;have HD3:=za hd3;have hx0:=(hb3.block _ (zh HK0.out)).trans HK0.out;have HX0:=za hx0;clear hw3 hb3 hb23 hd3 hx0;go_upto_region 5 with(first
    |(go_at_call 49;refine(HEd.out _ HB3.out).mono ?_;rintro e w4 ⟨z,g,rfl,hzd,hE,hb4⟩;have HE:=za hE;have HB34:=za hb4;have HB4:=za (bt HB3.out hb4);have HZ:=za hzd;clear hE hb4 hzd)
    |(refine wpList_load_row rfl 76 _ rfl _ rfl _ _ _ _ HX0.out underlying76 rfl QD ?_))
   have hE4:=HE.out;have q0:w4.cell? ⟨g,0,none⟩=some (.slice z.props.A z.props.l.length z.props.c):=zd hE4.box rfl;have q1:w4.cell? ⟨g,1,none⟩=some (.slice z.tags.A z.tags.l.length z.tags.c):=zd hE4.box rfl;have q3:w4.cell? ⟨g,3,none⟩=some (.slice z.run.A z.run.l.length z.run.c):=zd hE4.box rfl;have q4:w4.cell? ⟨g,4,none⟩=some (.slice z.load.A z.load.l.length z.load.c):=zd hE4.box rfl;have q6:w4.cell? ⟨g,6,none⟩=some (.int .i64 z.prio):=zd hE4.box rfl;have hglt:g<w4.heap.size:=zh hE4.box;have hbd:=ziF n z;have hst:=zeX w4 (V6 n z ⟨#[]⟩);go_region
   obtain⟨w5,hw5⟩:∃w5,(w4.alloc (.cells #[.string ⟨#[]⟩,.int .i64 0,.slice none 0 0,.slice none 0 0,.slice none 0 0,.slice none 0 0,.slice none 0 0,.string ⟨#[]⟩,.int .i64 0,.string ⟨#[]⟩,.string ⟨#[]⟩,.int .i64 0] 34)).drew.setRow w4.heap.size (qb (V6 n z ⟨#[]⟩))=w5:=⟨_,rfl⟩;rw[hw5];have hb5:Below w4.heap.size w4 w5:=by rw[<-hw5];exact qB ((zL w4 _).drew) zo
   have hs5:w5.heap.size=w4.heap.size+1:=by rw[<-hw5];simp
   have hr5:w5.heap[w4.heap.size]? =some (.cells (qb (V6 n z ⟨#[]⟩)) 34 (0,0)):=by rw[<-hw5];exact setRow_heap _ _ _ _ _ _ (i5 w4 _)
   have hB15:=bt HB4.out hb5;have HB15:=za hB15;have HB35:=za (bt HB34.out hb5);have HB5:=za hb5;have HR5:=za hr5;have HS5:=za hs5;have ht5:=(hB15.block _ (zh HK1.out)).trans HK1.out;have t5:w5.cell? ⟨w.heap.size+1,0,none⟩=some (.slice A ds.length c):=zd ht5 rfl;clear hw5 hb5 hs5 hr5 hB15 ht5 q0 q1 q3 q4 q6 hst hbd hglt hE4;have HOg5:=za (HOg.out w5 HB15.out);go_upto_region 7 with(go_at_call 50;refine HOg5.out.mono ?_;rintro e w6 ⟨rfl,hb6⟩;have hr6:=(hb6.block _ (zh HR5.out)).trans HR5.out;have q0:=zd (j:=0) hr6 rfl;have f0:=qe hr6 0;have HR6:=za hr6;have HB56:=za hb6;clear hb6 hr6)
   obtain⟨w7,hw7⟩:∃w7,w6.setCell ⟨w4.heap.size,0,none⟩ (.string (qK (zm ds) n))=w7:=⟨_,rfl⟩;rw[hw7];have hS7:XS w4 (V6 n z (qK (zm ds) n)) w7:=by
    rw[<-hw7,setCell_eq_setRow _ _ _ _ _ _ _ HR6.out];exact⟨setRow_heap _ _ _ _ _ _ HR6.out,qB (bt HB5.out HB56.out) zo⟩
   clear hw7 q0 f0;generalize hog:qK (zm ds) n=og at*;have HOG:=za hog;clear hog;have HS7:=za hS7;have HB14:=za (bt HB3.out HB34.out);have HD4:=za ((HB34.out.block _ (zh HD3.out)).trans HD3.out);have HD7:=za ((hS7.2.block _ (zh HD4.out)).trans HD4.out);have HEn7:=za (((HEn.out.go HB1.out).go HB14.out).go hS7.2);have HNd:=za (Te y w7 HEn7.out (by have h1:=HDd.out.1;have h2:=(HI.out _ h1).og;rw[<-HY.out.1]at h2;exact h2));have hyd:y.d=dd:=HY.out.1;rw[hyd]at HNd;have hkd:y.kd=dd.kd:=congrArg Dd.kd hyd;clear hS7;have hX4:=(HB14.out.block _ (zh HK2.out)).trans HK2.out;have HX4:=za hX4;clear hX4;cases hnb:QH dd with
   | some v=>
     rw[hnb]at HNd;have HNd2:Hid (Calls prog 51 #[.agg (zq y)] w7 fun e w'=>e=.returned (.tuple #[.string v,.bool true])/\Below w7.heap.size w7 w'):=za HNd.out;clear HNd;go_upto_region 9 with(first
      |(go_at_call 51;refine HNd2.out.mono ?_;rintro e w8 ⟨rfl,hb8⟩;have HS8:=za (HS7.out.keep hb8);clear hb8)
      |(refine wpList_load_row rfl 43 _ rfl _ rfl _ _ _ _ HD7.out underlying43 rfl Zf ?_))
     have hgl:=zh HE.out.box;have hne:g≠w4.heap.size:=zb;have hg8:=(HS8.out.2.block _ hgl).trans HE.out.box;have hR8:=HS8.out.1;have q2:w8.cell? ⟨g,2,none⟩=some (.slice z.links.A z.links.l.length z.links.c):=zd hg8 rfl;have q7:w8.cell? ⟨g,7,none⟩=some (.string z.own):=zd hg8 rfl;have q8:w8.cell? ⟨g,8,none⟩=some (.string z.grp):=zd hg8 rfl;have q9:w8.cell? ⟨g,9,none⟩=some (.int .i64 z.mode):=zd hg8 rfl;have u4:w8.cell? ⟨w4.heap.size,4,none⟩=some (.slice none 0 0):=zd hR8 rfl;have u9:w8.cell? ⟨w4.heap.size,9,none⟩=some (.string ⟨#[]⟩):=zd hR8 rfl;have u10:w8.cell? ⟨w4.heap.size,10,none⟩=some (.string ⟨#[]⟩):=zd hR8 rfl;have u11:w8.cell? ⟨w4.heap.size,11,none⟩=some (.int .i64 0):=zd hR8 rfl;have f4:=qe hR8 4;have f9:=qe hR8 9;have f10:=qe hR8 10;have f11:=qe hR8 11;have HGq:Hid (∀W,Below w4.heap.size w4 W->W.cell? ⟨g,2,none⟩=some (.slice z.links.A z.links.l.length z.links.c)/\W.cell? ⟨g,7,none⟩=some (.string z.own)/\W.cell? ⟨g,8,none⟩=some (.string z.grp)/\W.cell? ⟨g,9,none⟩=some (.int .i64 z.mode)):=za fun W hW=>by
      have h1:=(hW.block _ hgl).trans HE.out.box;exact PQ
     clear hg8 hR8 hgl
     go_region_held3 (fun W'=>W'.cell? ⟨g,2,none⟩=some (.slice z.links.A z.links.l.length z.links.c)/\W'.cell? ⟨g,7,none⟩=some (.string z.own)/\W'.cell? ⟨g,8,none⟩=some (.string z.grp)/\W'.cell? ⟨g,9,none⟩=some (.int .i64 z.mode)) ((refine HGq.out _ ?_;repeat (first|exact HS8.out.2|refine Below.drew ?_|refine ZF ?_ zo))) (fail)
     have hkn:¬dd.kd=4:=fun e=>by
      unfold QH at hnb;rw[if_neg zb]at hnb;cases hnb
     have hkb:(y.kd==4)=false:=by rw[hkd];simpa using hkn
     have HSF:=za (XS.two HS8.out);generalize ((((w8.setCell ⟨w4.heap.size,4,none⟩ (.slice z.links.A z.links.l.length z.links.c)).setCell ⟨w4.heap.size,9,none⟩ (.string z.own)).setCell ⟨w4.heap.size,10,none⟩ (.string z.grp)).setCell ⟨w4.heap.size,11,none⟩ (.int .i64 z.mode)).drew=wf at*;have hdf:=(HSF.out.2.block _ (zh HD4.out)).trans HD4.out;have d7:wf.cell? ⟨w2.heap.size,7,none⟩=some (.int .i64 y.kd):=zd hdf rfl;have hkx:¬y.kd=4:=by rw[hkd];exact hkn
     clear hdf q2 q7 q8 q9 u4 u9 u10 u11 f4 f9 f10 f11 hkd;have hR:=HSF.out.1;have HRF:=za hR;have HXF:=za ((HSF.out.2.block _ (zh HX4.out)).trans HX4.out);clear hR;go_wp2_with (first
      |(refine wpList_load_row rfl 34 _ rfl _ rfl _ _ _ _ HRF.out underlying34 rfl YP ?_)
      |(refine wpList_store_row rfl 34 _ _ rfl _ _ rfl rfl _ _ HXF.out YP rfl M8 ?_))
     refine Qx rfl zk zk (setRow_heap _ _ _ _ _ _ HXF.out) underlying34 rfl YP zk ?_;have hs:=HS1.out;have hs3:=HB3.out.size;refine⟨Jx n z og,rfl,?_,(jS (q:=w.heap.size+2) HE.out HSF.out.2 JM og n).2.1,(yC HE.out JM og n).2.1,qB (bt HB1.out (bt HB14.out HSF.out.2)) zb⟩;rw[HOG.out,<-HZ.out,<-HDd.out.2];unfold Ym;rw[hnb];rw[if_neg hkn];rfl
   | none=>
     rw[hnb]at HNd;have HNd2:Hid (Calls prog 51 #[.agg (zq y)] w7 fun e w'=>e=.returned (.tuple #[.string ⟨#[]⟩,.bool false])/\Below w7.heap.size w7 w'):=za HNd.out;clear HNd;go_upto_region 10 with(first
      |(go_at_call 51;refine HNd2.out.mono ?_;rintro e w8 ⟨rfl,hb8⟩;have HS8:=za (HS7.out.keep hb8);clear hb8)
      |(refine wpList_load_row rfl 43 _ rfl _ rfl _ _ _ _ HD7.out underlying43 rfl Zf ?_))
     have hdf:=(HS8.out.2.block _ (zh HD4.out)).trans HD4.out;have d7:w8.cell? ⟨w2.heap.size,7,none⟩=some (.int .i64 y.kd):=zd hdf rfl;clear hdf;by_cases hk4:dd.kd=4
     · have hkx:y.kd=4:=by rw[hkd];exact hk4
       rw[hkx]at d7;have hg8:=(HS8.out.2.block _ (zh HE.out.box)).trans HE.out.box;have hR8:=HS8.out.1;have q5:w8.cell? ⟨g,5,none⟩=some (.string z.nam):=zd hg8 rfl;have u7:w8.cell? ⟨w4.heap.size,7,none⟩=some (.string ⟨#[]⟩):=zd hR8 rfl;have f7:=qe hR8 7;clear hg8 hR8 hkd hkx;go_upto_region 12 with fail
       have HSF:=za (HS8.out.set 7 (.string z.nam) (Gu n z og) rfl);generalize w8.setCell ⟨w4.heap.size,7,none⟩ (.string z.nam)=wf at*;clear q5 u7 f7 d7;have hR:=HSF.out.1;have HRF:=za hR;have HXF:=za ((HSF.out.2.block _ (zh HX4.out)).trans HX4.out);clear hR;go_wp2_with (first
        |(refine wpList_load_row rfl 34 _ rfl _ rfl _ _ _ _ HRF.out underlying34 rfl YP ?_)
        |(refine wpList_store_row rfl 34 _ _ rfl _ _ rfl rfl _ _ HXF.out YP rfl M8 ?_))
       refine Qx rfl zk zk (setRow_heap _ _ _ _ _ _ HXF.out) underlying34 rfl YP zk ?_;have hs:=HS1.out;have hs3:=HB3.out.size;refine⟨Gu n z og,rfl,?_,(jS (q:=w.heap.size+2) HE.out HSF.out.2 JM og n).2.2,(yC HE.out JM og n).2.2,qB (bt HB1.out (bt HB14.out HSF.out.2)) zb⟩;rw[HOG.out,<-HZ.out,<-HDd.out.2];unfold Ym;rw[hnb];rw[if_pos hk4];rfl
     · have hkx:¬y.kd=4:=by rw[hkd];exact hk4
       have hkb:(y.kd==4)=false:=by simpa using hkx
       have HSF:=HS8;clear hkd;have hR:=HSF.out.1;have HRF:=za hR;have HXF:=za ((HSF.out.2.block _ (zh HX4.out)).trans HX4.out);clear hR;go_wp2_with (first
        |(refine wpList_load_row rfl 34 _ rfl _ rfl _ _ _ _ HRF.out underlying34 rfl YP ?_)
        |(refine wpList_store_row rfl 34 _ _ rfl _ _ rfl rfl _ _ HXF.out YP rfl M8 ?_))
       refine Qx rfl zk zk (setRow_heap _ _ _ _ _ _ HXF.out) underlying34 rfl YP zk ?_;have hs:=HS1.out;have hs3:=HB3.out.size;refine⟨V6 n z og,rfl,?_,(jS (q:=w.heap.size+2) HE.out HSF.out.2 JM og n).1,(yC HE.out JM og n).1,qB (bt HB1.out (bt HB14.out HSF.out.2)) zb⟩;rw[HOG.out,<-HZ.out,<-HDd.out.2];unfold Ym;rw[hnb];rw[if_neg hk4];rfl
end Go.Proofs.YtecbmndgpepkcaaGreatDoor

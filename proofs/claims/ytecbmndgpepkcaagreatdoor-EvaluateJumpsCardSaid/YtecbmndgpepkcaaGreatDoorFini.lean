/- Contracts of functions that the law reaches, and what they rest on; each under the premises that it names. Shortened by a program. -/
import Derived.Test.YtecbmndgpepkcaaGreatDoorG31
namespace Go.Proofs.YtecbmndgpepkcaaGreatDoor
open Tryz
set_option maxHeartbeats 8000000
set_option maxRecDepth 100000
open Go.RowKit
abbrev ZE:Rm:=⟨⟨#[]⟩,0,⟨none,0,[]⟩,⟨none,0,[]⟩,⟨none,0,[]⟩,⟨none,0,[]⟩,⟨none,0,[]⟩,⟨#[]⟩,0,⟨#[]⟩,⟨#[]⟩,0⟩
def Rm.as(r:Rm):List (Option Addr):=[r.props.A,r.tags.A,r.links.A,r.run.A,r.load.A]
def P1(w:World)(o:Option Dd)(d:Dr)(g:ByteArray)(e:Ending)(w':World):Prop:=match o with
 |none=>e=.returned (.tuple #[.agg (qm ZE),.bool false])/\Below w.heap.size w w'
 |some x=>∃r:Rm,e=.returned (.tuple #[.agg (qm r),.bool true])/\r.d=Vi d x g/\Xg w' r/\(∀a∈r.as,∀p,a=some p->w.heap.size<=p.block)/\Below w.heap.size w w'
def XG(w4:World)(r:Rm)(W:World):Prop:=W.heap[w4.heap.size]? =some (.cells (qm r) qM (0,0))/\Below w4.heap.size w4 W
theorem XG.keep{w4 W W':World}{r:Rm}(h:XG w4 r W)(hb:Below W.heap.size W W'):XG w4 r W':=⟨(hb.block _ (zh h.1)).trans h.1,bt h.2 hb⟩
theorem XG.set{w4 W:World}{r:Rm}(h:XG w4 r W)(i:Nat)(v:Value)(r':Rm)(e:(qm r).setIfInBounds i v=qm r'):XG w4 r' (W.setCell ⟨w4.heap.size,i,none⟩ v):=by
 have h1:=setCell_eq_setRow W w4.heap.size i _ _ _ v h.1;rw[h1,e];exact⟨setRow_heap _ _ _ _ _ _ h.1,h.2.grown (qK _ _ _) h.2.size (fun j ej=>by rw[<-zx ej];exact zo)⟩
theorem XG.drew{w4 W:World}{r:Rm}(h:XG w4 r W):XG w4 r W.drew:=⟨h.1,h.2.drew⟩
def Vh(n:Int)(z:Dm)(p:ByteArray):Rm:=⟨p,n,z.props,z.tags,⟨none,0,[]⟩,z.run,z.load,⟨#[]⟩,z.prio,⟨#[]⟩,⟨#[]⟩,0⟩
def JS(n:Int)(z:Dm)(p:ByteArray):Rm:=⟨p,n,z.props,z.tags,z.links,z.run,z.load,⟨#[]⟩,z.prio,z.own,z.grp,z.mode⟩
def Ga(n:Int)(z:Dm)(p:ByteArray):Rm:=⟨p,n,z.props,z.tags,⟨none,0,[]⟩,z.run,z.load,z.nam,z.prio,⟨#[]⟩,⟨#[]⟩,0⟩
theorem XG.two{w4 W:World}{n:Int}{z:Dm}{p:ByteArray}(h:XG w4 (Vh n z p) W):XG w4 (JS n z p) ((((W.setCell ⟨w4.heap.size,4,none⟩ (.slice z.links.A z.links.l.length z.links.c)).setCell ⟨w4.heap.size,9,none⟩ (.string z.own)).setCell ⟨w4.heap.size,10,none⟩ (.string z.grp)).setCell ⟨w4.heap.size,11,none⟩ (.int .i64 z.mode)).drew:=
 ((((h.set 4 _ ⟨p,n,z.props,z.tags,z.links,z.run,z.load,⟨#[]⟩,z.prio,⟨#[]⟩,⟨#[]⟩,0⟩ rfl).set 9 _ ⟨p,n,z.props,z.tags,z.links,z.run,z.load,⟨#[]⟩,z.prio,z.own,⟨#[]⟩,0⟩ rfl).set 10 _ ⟨p,n,z.props,z.tags,z.links,z.run,z.load,⟨#[]⟩,z.prio,z.own,z.grp,0⟩ rfl).set 11 _ (JS n z p) rfl).drew
theorem G2{β:Type}{k q:Nat}{enc:β->List Value}{w4 W:World}{base:Nat}{T:TypeId}{y:Ls β}{cs:Array Value}(h:w4.ownsRow base T k (.slice y.A y.l.length y.c) y.l.length (cellsOf enc y.l))(hW:Below w4.heap.size w4 W)(hq:q<base):zB k enc (W.setRow q cs) y:=by
 have h1:=zB.of_own (qg h hW);exact h1.1.grown (qK _ _ _) (fun a e=>by have h2:=h1.2 a e;intro h3;have:=zx h3;omega)
theorem To{w4 W:World}{base g q:Nat}{z:Dm}{cs:Array Value}(h:qq base w4 g z)(hW:Below w4.heap.size w4 W)(hq:q<base)(p:ByteArray)(n:Int):Xg (W.setRow q cs) (Vh n z p)/\Xg (W.setRow q cs) (JS n z p)/\Xg (W.setRow q cs) (Ga n z p):=
 have a:=G2 (cs:=cs) h.rows.pr hW hq;have b:=G2 (cs:=cs) h.rows.tg hW hq;have c:=G2 (cs:=cs) h.rows.lk hW hq;have d:=G2 (cs:=cs) h.rows.rn hW hq;have e:=G2 (cs:=cs) h.rows.ld hW hq
 ⟨⟨a,b,zB.empty,d,e⟩,⟨a,b,c,d,e⟩,⟨a,b,zB.empty,d,e⟩⟩
theorem R5{w4:World}{base g b:Nat}{z:Dm}(h:qq base w4 g z)(hb:b<=base)(p:ByteArray)(n:Int):(∀a∈(Vh n z p).as,∀q,a=some q->b<=q.block)/\(∀a∈(JS n z p).as,∀q,a=some q->b<=q.block)/\(∀a∈(Ga n z p).as,∀q,a=some q->b<=q.block):=by
 have a:=fun q e=>Nat.le_trans hb (qo h.rows.pr q e).1;have b:=fun q e=>Nat.le_trans hb (qo h.rows.tg q e).1;have c:=fun q e=>Nat.le_trans hb (qo h.rows.lk q e).1;have d:=fun q e=>Nat.le_trans hb (qo h.rows.rn q e).1;have e:=fun q e=>Nat.le_trans hb (qo h.rows.ld q e).1;refine⟨fun x hx q hq=>?_,fun x hx q hq=>?_,fun x hx q hq=>?_⟩
 all_goals
  simp only[Rm.as,Vh,JS,Ga,List.mem_cons,List.not_mem_nil,or_false]at hx;rcases hx with rfl|rfl|rfl|rfl|rfl
  all_goals first
   |exact a q hq
   |exact b q hq
   |exact c q hq
   |exact d q hq
   |exact e q hq
   |cases hq
theorem zfV(parts:Array (Nat×Value)):Instr.build 34 parts=Zu 34 parts:=UV
theorem zeX(W:World):(Zu 34 #[]).run prog W=.ok (.agg (qm ZE)) W:=Xl
theorem zhz(n:Int)(z:Dm)(W:World):(Zu 34 #[(1,.int .i64 n),(2,.slice z.props.A z.props.l.length z.props.c),(3,.slice z.tags.A z.tags.l.length z.tags.c),(5,.slice z.run.A z.run.l.length z.run.c),(6,.slice z.load.A z.load.l.length z.load.c),(8,.int .i64 z.prio)]).run prog W=.ok (.agg (qm (Vh n z ⟨#[]⟩))) W:=Xl
theorem zis(v u:Value):Instr.storeAt 34 v u=Zo 34 v u:=kN
theorem zdD(W:World)(r:Rm):(Zo 34 (.pointer (some ⟨W.heap.size,0,none⟩)) (.agg (qm r))).run prog (W.alloc (.cells #[.string ⟨#[]⟩,.int .i64 0,.slice none 0 0,.slice none 0 0,.slice none 0 0,.slice none 0 0,.slice none 0 0,.string ⟨#[]⟩,.int .i64 0,.string ⟨#[]⟩,.string ⟨#[]⟩,.int .i64 0] 34)).drew=.ok () ((W.alloc (.cells #[.string ⟨#[]⟩,.int .i64 0,.slice none 0 0,.slice none 0 0,.slice none 0 0,.slice none 0 0,.slice none 0 0,.string ⟨#[]⟩,.int .i64 0,.string ⟨#[]⟩,.string ⟨#[]⟩,.int .i64 0] 34)).drew.setRow W.heap.size (qm r)):=by
 have h:=XC (P:=prog) (w:=(W.alloc (.cells #[.string ⟨#[]⟩,.int .i64 0,.slice none 0 0,.slice none 0 0,.slice none 0 0,.slice none 0 0,.slice none 0 0,.string ⟨#[]⟩,.int .i64 0,.string ⟨#[]⟩,.string ⟨#[]⟩,.int .i64 0] 34)).drew) (T:=34) (g:=W.heap.size) (o:=0) (cs:=#[.string ⟨#[]⟩,.int .i64 0,.slice none 0 0,.slice none 0 0,.slice none 0 0,.slice none 0 0,.slice none 0 0,.string ⟨#[]⟩,.int .i64 0,.string ⟨#[]⟩,.string ⟨#[]⟩,.int .i64 0]) (vs:=qm r) (t:=34) (heap_alloc_new W _) (by exact zo) TY YC (Nl r);rw[Un (#[.string ⟨#[]⟩,.int .i64 0,.slice none 0 0,.slice none 0 0,.slice none 0 0,.slice none 0 0,.slice none 0 0,.string ⟨#[]⟩,.int .i64 0,.string ⟨#[]⟩,.string ⟨#[]⟩,.int .i64 0]) (qm r) rfl]at h;exact h
attribute [local go_sem ↓] zfV zis
theorem zac(x:Dm)(A:Option Addr)(c:Nat)(ds:List Dv)(n:Int)(k:Nat)(w:World)(hN:Yc w x)(hG:zJ x.d k)(hk:k<=100000)(h:qk w A ds)(hi:∀d∈zm ds,Xb d)(r1: -9223372036854775808<=n)(r2:n<=9223372036854775807)(hE:Env0 w):
 Calls prog 29 #[.agg (zE x),zT A ds c,.int .i64 n] w (P1 w (qa (zm ds) n) x.d (ZP (zm ds) n)):=by
 obtain⟨w1,hw1⟩:∃w1,((w.alloc (.cells (zE x) qh)).alloc (.cells #[.slice A ds.length c] 30)).alloc (.cells (qm ZE) qM)=w1:=⟨_,rfl⟩;obtain⟨hs1,k0,k1,k2,hb1⟩:=kV w (.cells (zE x) qh) (.cells #[.slice A ds.length c] 30) (.cells (qm ZE) qM);rw[hw1]at hs1 k0 k1 k2 hb1;have HFd:=za (V0 A c ds n w1 (h.keep hb1));have HEd:=za (fun(W:World) (hW:Below w1.heap.size w1 W)=>Nb x W ((hN.keep hb1).keep hW) (hG.dmz hk));have HOg:=za (fun(W:World) (hW:Below w1.heap.size w1 W)=>Pr A c ds n W ((h.keep hb1).keep hW) hi r1 r2);have HW:=za hw1;have HB1:=za hb1;have HK0:=za k0;have HK1:=za k1;have HK2:=za k2;have HS1:=za hs1;have HEn:=za hE;have HI:=za hi;have hx:qm ZE=#[.string ⟨#[]⟩,.int .i64 0,.slice none 0 0,.slice none 0 0,.slice none 0 0,.slice none 0 0,.slice none 0 0,.string ⟨#[]⟩,.int .i64 0,.string ⟨#[]⟩,.string ⟨#[]⟩,.int .i64 0]:=rfl;rw[hx]at HW;have hb0:=zeX;have t0:w1.cell? ⟨w.heap.size+1,0,none⟩=some (.slice A ds.length c):=zd k1 rfl;clear hx hw1 hs1 k0 k1 k2 hb1 hG hE hN h hi;unfold YP at HFd;unfold P1;unfold zT at*;cases hf:qa (zm ds) n with
 | none=>
   rw[hf]at HFd;have HFd2:=za HFd.out;clear HFd hf;dsimp only;go_enter func29,ntmps29;go_upto_region 1 with fail
   rw[HW.out];go_upto_region 2 with(first
    |(go_at_call 9;refine HFd2.out.mono ?_;rintro e w2 ⟨rfl,hb2⟩;have HB2:=za hb2;clear hb2)
    |(refine wpList_store_row rfl 43 _ _ rfl _ _ rfl rfl _ _ qv Zh rfl (by exact Mp _) ?_))
   obtain⟨w3,hw3⟩:∃w3,w3=(w2.alloc (.cells (zq qc) zp)).setRow w2.heap.size (zq qc):=⟨_,rfl⟩;have hb3:Below w1.heap.size w1 w3:=by rw[hw3];exact bt HB2.out (qz zw zo)
   unfold zq at hw3;dsimp only[List.length_nil]at hw3
   try rw[<-hw3]
   have HX:=za ((hb3.block _ (zh HK2.out)).trans HK2.out);have HB3:=za hb3;clear hw3 hb3;go_wp2_with (refine wpList_store_row rfl 34 _ _ rfl _ _ rfl rfl _ _ HX.out YC rfl NM ?_)
   refine Qs rfl zj zj (setRow_heap _ _ _ _ _ _ HX.out) underlying34 rfl YC zj ?_;exact⟨rfl,qz (bt HB1.out HB3.out) zb⟩
 | some dd=>
   rw[hf]at HFd;have HFd2:=za HFd.out;have HDd:=za (XE hf);clear HFd hf;dsimp only;go_enter func29,ntmps29;go_upto_region 1 with fail
   rw[HW.out];go_upto_region 2 with(first
    |(go_at_call 9;refine HFd2.out.mono ?_;rintro e w2 ⟨y,rfl,hy⟩;have HY:=za hy;clear hy)
    |(refine wpList_store_row rfl 43 _ _ rfl _ _ rfl rfl _ _ qv Zh rfl (by exact Mp _) ?_))
   obtain⟨w3,hw3⟩:∃w3,w3=(w2.alloc (.cells (zq qc) zp)).setRow w2.heap.size (zq y):=⟨_,rfl⟩;have hb23:Below w2.heap.size w2 w3:=by rw[hw3];exact qz zw zo
   have hb3:Below w1.heap.size w1 w3:=bt HY.out.2.2.2 hb23;have hd3:w3.heap[w2.heap.size]? =some (.cells (zq y) zp (0,0)):=by rw[hw3];exact setRow_heap _ _ _ _ _ _ (heap_alloc_new w2 _)
   unfold zq at hw3;dsimp only[List.length_nil]at hw3
   try rw[<-hw3]
   have HB3:=za hb3;have HD3:=za hd3;have hx0:=(hb3.block _ (zh HK0.out)).trans HK0.out;have HX0:=za hx0;clear hw3 hb3 hb23 hd3 hx0;go_upto_region 5 with(first
    |(go_at_call 49;refine(HEd.out _ HB3.out).mono ?_;rintro e w4 ⟨z,g,rfl,hzd,hE,hb4⟩;have HE:=za hE;have HB34:=za hb4;have HB4:=za (bt HB3.out hb4);have HZ:=za hzd;clear hE hb4 hzd)
    |(refine wpList_load_row rfl 76 _ rfl _ rfl _ _ _ _ HX0.out underlying76 rfl Qu ?_))
   have hE4:=HE.out;have q0:w4.cell? ⟨g,0,none⟩=some (.slice z.props.A z.props.l.length z.props.c):=zd hE4.box rfl;have q1:w4.cell? ⟨g,1,none⟩=some (.slice z.tags.A z.tags.l.length z.tags.c):=zd hE4.box rfl;have q3:w4.cell? ⟨g,3,none⟩=some (.slice z.run.A z.run.l.length z.run.c):=zd hE4.box rfl;have q4:w4.cell? ⟨g,4,none⟩=some (.slice z.load.A z.load.l.length z.load.c):=zd hE4.box rfl;have q6:w4.cell? ⟨g,6,none⟩=some (.int .i64 z.prio):=zd hE4.box rfl;have hglt:g<w4.heap.size:=zh hE4.box;have hbd:=zhz n z;have hst:=zdD w4 (Vh n z ⟨#[]⟩);go_region
   obtain⟨w5,hw5⟩:∃w5,(w4.alloc (.cells #[.string ⟨#[]⟩,.int .i64 0,.slice none 0 0,.slice none 0 0,.slice none 0 0,.slice none 0 0,.slice none 0 0,.string ⟨#[]⟩,.int .i64 0,.string ⟨#[]⟩,.string ⟨#[]⟩,.int .i64 0] 34)).drew.setRow w4.heap.size (qm (Vh n z ⟨#[]⟩))=w5:=⟨_,rfl⟩;rw[hw5];have hb5:Below w4.heap.size w4 w5:=by rw[<-hw5];exact qz ((zI w4 _).drew) zo
   have hs5:w5.heap.size=w4.heap.size+1:=by rw[<-hw5];simp
   have hr5:w5.heap[w4.heap.size]? =some (.cells (qm (Vh n z ⟨#[]⟩)) 34 (0,0)):=by rw[<-hw5];exact setRow_heap _ _ _ _ _ _ (heap_alloc_new w4 _)
   have hB15:=bt HB4.out hb5;have HB15:=za hB15;have HB35:=za (bt HB34.out hb5);have HB5:=za hb5;have HR5:=za hr5;have HS5:=za hs5;have ht5:=(hB15.block _ (zh HK1.out)).trans HK1.out;have t5:w5.cell? ⟨w.heap.size+1,0,none⟩=some (.slice A ds.length c):=zd ht5 rfl;clear hw5 hb5 hs5 hr5 hB15 ht5 q0 q1 q3 q4 q6 hst hbd hglt hE4;have HOg5:=za (HOg.out w5 HB15.out);go_upto_region 7 with(go_at_call 50;refine HOg5.out.mono ?_;rintro e w6 ⟨rfl,hb6⟩;have hr6:=(hb6.block _ (zh HR5.out)).trans HR5.out;have q0:=zd (j:=0) hr6 rfl;have f0:=qb hr6 0;have HR6:=za hr6;have HB56:=za hb6;clear hb6 hr6)
   obtain⟨w7,hw7⟩:∃w7,w6.setCell ⟨w4.heap.size,0,none⟩ (.string (ZP (zm ds) n))=w7:=⟨_,rfl⟩;rw[hw7];have hS7:XG w4 (Vh n z (ZP (zm ds) n)) w7:=by
    rw[<-hw7,setCell_eq_setRow _ _ _ _ _ _ _ HR6.out];exact⟨setRow_heap _ _ _ _ _ _ HR6.out,qz (bt HB5.out HB56.out) zo⟩
   clear hw7 q0 f0;generalize hog:ZP (zm ds) n=og at*;have HOG:=za hog;clear hog;have HS7:=za hS7;have HB14:=za (bt HB3.out HB34.out);have HD4:=za ((HB34.out.block _ (zh HD3.out)).trans HD3.out);have HD7:=za ((hS7.2.block _ (zh HD4.out)).trans HD4.out);have HEn7:=za (((HEn.out.go HB1.out).go HB14.out).go hS7.2);have HNd:=za (RR y w7 HEn7.out (by have h1:=HDd.out.1;have h2:=(HI.out _ h1).og;rw[<-HY.out.1]at h2;exact h2));have hyd:y.d=dd:=HY.out.1;rw[hyd]at HNd;have hkd:y.kd=dd.kd:=congrArg Dd.kd hyd;clear hS7;have hX4:=(HB14.out.block _ (zh HK2.out)).trans HK2.out;have HX4:=za hX4;clear hX4;cases hnb:Yh dd with
   | some v=>
     rw[hnb]at HNd;have HNd2:Hid (Calls prog 51 #[.agg (zq y)] w7 fun e w'=>e=.returned (.tuple #[.string v,.bool true])/\Below w7.heap.size w7 w'):=za HNd.out;clear HNd;go_upto_region 9 with(first
      |(go_at_call 51;refine HNd2.out.mono ?_;rintro e w8 ⟨rfl,hb8⟩;have HS8:=za (HS7.out.keep hb8);clear hb8)
      |(refine wpList_load_row rfl 43 _ rfl _ rfl _ _ _ _ HD7.out underlying43 rfl Zh ?_))
     have hgl:=zh HE.out.box;have hne:g≠w4.heap.size:=zb;have hg8:=(HS8.out.2.block _ hgl).trans HE.out.box;have hR8:=HS8.out.1;have q2:w8.cell? ⟨g,2,none⟩=some (.slice z.links.A z.links.l.length z.links.c):=zd hg8 rfl;have q7:w8.cell? ⟨g,7,none⟩=some (.string z.own):=zd hg8 rfl;have q8:w8.cell? ⟨g,8,none⟩=some (.string z.grp):=zd hg8 rfl;have q9:w8.cell? ⟨g,9,none⟩=some (.int .i64 z.mode):=zd hg8 rfl;have u4:w8.cell? ⟨w4.heap.size,4,none⟩=some (.slice none 0 0):=zd hR8 rfl;have u9:w8.cell? ⟨w4.heap.size,9,none⟩=some (.string ⟨#[]⟩):=zd hR8 rfl;have u10:w8.cell? ⟨w4.heap.size,10,none⟩=some (.string ⟨#[]⟩):=zd hR8 rfl;have u11:w8.cell? ⟨w4.heap.size,11,none⟩=some (.int .i64 0):=zd hR8 rfl;have f4:=qb hR8 4;have f9:=qb hR8 9;have f10:=qb hR8 10;have f11:=qb hR8 11;have HGq:Hid (∀W,Below w4.heap.size w4 W->W.cell? ⟨g,2,none⟩=some (.slice z.links.A z.links.l.length z.links.c)/\W.cell? ⟨g,7,none⟩=some (.string z.own)/\W.cell? ⟨g,8,none⟩=some (.string z.grp)/\W.cell? ⟨g,9,none⟩=some (.int .i64 z.mode)):=za fun W hW=>by
      have h1:=(hW.block _ hgl).trans HE.out.box;exact TR
     clear hg8 hR8 hgl
     go_region_held3 (fun W'=>W'.cell? ⟨g,2,none⟩=some (.slice z.links.A z.links.l.length z.links.c)/\W'.cell? ⟨g,7,none⟩=some (.string z.own)/\W'.cell? ⟨g,8,none⟩=some (.string z.grp)/\W'.cell? ⟨g,9,none⟩=some (.int .i64 z.mode)) ((refine HGq.out _ ?_;repeat (first|exact HS8.out.2|refine Below.drew ?_|refine Zz ?_ zo))) (fail)
     have hkn:¬dd.kd=4:=fun e=>by
      unfold Yh at hnb;rw[if_neg zb]at hnb;cases hnb
     have hkb:(y.kd==4)=false:=by rw[hkd];simpa using hkn
     have HSF:=za (XG.two HS8.out);generalize ((((w8.setCell ⟨w4.heap.size,4,none⟩ (.slice z.links.A z.links.l.length z.links.c)).setCell ⟨w4.heap.size,9,none⟩ (.string z.own)).setCell ⟨w4.heap.size,10,none⟩ (.string z.grp)).setCell ⟨w4.heap.size,11,none⟩ (.int .i64 z.mode)).drew=wf at*;have hdf:=(HSF.out.2.block _ (zh HD4.out)).trans HD4.out;have d7:wf.cell? ⟨w2.heap.size,7,none⟩=some (.int .i64 y.kd):=zd hdf rfl;have hkx:¬y.kd=4:=by rw[hkd];exact hkn
     clear hdf q2 q7 q8 q9 u4 u9 u10 u11 f4 f9 f10 f11 hkd;have hR:=HSF.out.1;have HRF:=za hR;have HXF:=za ((HSF.out.2.block _ (zh HX4.out)).trans HX4.out);clear hR;go_wp2_with (first
      |(refine wpList_load_row rfl 34 _ rfl _ rfl _ _ _ _ HRF.out underlying34 rfl YC ?_)
      |(refine wpList_store_row rfl 34 _ _ rfl _ _ rfl rfl _ _ HXF.out YC rfl NM ?_))
     refine Qs rfl zj zj (setRow_heap _ _ _ _ _ _ HXF.out) underlying34 rfl YC zj ?_;have hs:=HS1.out;have hs3:=HB3.out.size;refine⟨JS n z og,rfl,?_,(To (q:=w.heap.size+2) HE.out HSF.out.2 JO og n).2.1,(R5 HE.out JO og n).2.1,qz (bt HB1.out (bt HB14.out HSF.out.2)) zb⟩;rw[HOG.out,<-HZ.out,<-HDd.out.2];unfold Vi;rw[hnb];rw[if_neg hkn];rfl
   | none=>
     rw[hnb]at HNd;have HNd2:Hid (Calls prog 51 #[.agg (zq y)] w7 fun e w'=>e=.returned (.tuple #[.string ⟨#[]⟩,.bool false])/\Below w7.heap.size w7 w'):=za HNd.out;clear HNd;go_upto_region 10 with(first
      |(go_at_call 51;refine HNd2.out.mono ?_;rintro e w8 ⟨rfl,hb8⟩;have HS8:=za (HS7.out.keep hb8);clear hb8)
      |(refine wpList_load_row rfl 43 _ rfl _ rfl _ _ _ _ HD7.out underlying43 rfl Zh ?_))
     have hdf:=(HS8.out.2.block _ (zh HD4.out)).trans HD4.out;have d7:w8.cell? ⟨w2.heap.size,7,none⟩=some (.int .i64 y.kd):=zd hdf rfl;clear hdf;by_cases hk4:dd.kd=4
     · have hkx:y.kd=4:=by rw[hkd];exact hk4
       rw[hkx]at d7;have hg8:=(HS8.out.2.block _ (zh HE.out.box)).trans HE.out.box;have hR8:=HS8.out.1;have q5:w8.cell? ⟨g,5,none⟩=some (.string z.nam):=zd hg8 rfl;have u7:w8.cell? ⟨w4.heap.size,7,none⟩=some (.string ⟨#[]⟩):=zd hR8 rfl;have f7:=qb hR8 7;clear hg8 hR8 hkd hkx;go_upto_region 12 with fail
       have HSF:=za (HS8.out.set 7 (.string z.nam) (Ga n z og) rfl);generalize w8.setCell ⟨w4.heap.size,7,none⟩ (.string z.nam)=wf at*;clear q5 u7 f7 d7;have hR:=HSF.out.1;have HRF:=za hR;have HXF:=za ((HSF.out.2.block _ (zh HX4.out)).trans HX4.out);clear hR;go_wp2_with (first
        |(refine wpList_load_row rfl 34 _ rfl _ rfl _ _ _ _ HRF.out underlying34 rfl YC ?_)
        |(refine wpList_store_row rfl 34 _ _ rfl _ _ rfl rfl _ _ HXF.out YC rfl NM ?_))
       refine Qs rfl zj zj (setRow_heap _ _ _ _ _ _ HXF.out) underlying34 rfl YC zj ?_;have hs:=HS1.out;have hs3:=HB3.out.size;refine⟨Ga n z og,rfl,?_,(To (q:=w.heap.size+2) HE.out HSF.out.2 JO og n).2.2,(R5 HE.out JO og n).2.2,qz (bt HB1.out (bt HB14.out HSF.out.2)) zb⟩;rw[HOG.out,<-HZ.out,<-HDd.out.2];unfold Vi;rw[hnb];rw[if_pos hk4];rfl
     · have hkx:¬y.kd=4:=by rw[hkd];exact hk4
       have hkb:(y.kd==4)=false:=by simpa using hkx
       have HSF:=HS8;clear hkd;have hR:=HSF.out.1;have HRF:=za hR;have HXF:=za ((HSF.out.2.block _ (zh HX4.out)).trans HX4.out);clear hR;go_wp2_with (first
        |(refine wpList_load_row rfl 34 _ rfl _ rfl _ _ _ _ HRF.out underlying34 rfl YC ?_)
        |(refine wpList_store_row rfl 34 _ _ rfl _ _ rfl rfl _ _ HXF.out YC rfl NM ?_))
       refine Qs rfl zj zj (setRow_heap _ _ _ _ _ _ HXF.out) underlying34 rfl YC zj ?_;have hs:=HS1.out;have hs3:=HB3.out.size;refine⟨Vh n z og,rfl,?_,(To (q:=w.heap.size+2) HE.out HSF.out.2 JO og n).1,(R5 HE.out JO og n).1,qz (bt HB1.out (bt HB14.out HSF.out.2)) zb⟩;rw[HOG.out,<-HZ.out,<-HDd.out.2];unfold Vi;rw[hnb];rw[if_neg hk4];rfl
end Go.Proofs.YtecbmndgpepkcaaGreatDoor

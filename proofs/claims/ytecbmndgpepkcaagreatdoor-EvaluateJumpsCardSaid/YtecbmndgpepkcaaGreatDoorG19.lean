/- Contracts of functions that the law reaches, and what they rest on; each under the premises that it names. Shortened by a program. -/
import Derived.Test.YtecbmndgpepkcaaGreatDoorG18
namespace Go.Proofs.YtecbmndgpepkcaaGreatDoor
open Tryz
set_option maxHeartbeats 8000000
set_option maxRecDepth 100000
section
open Go.RowKit Go.Shelf Go.Maps
structure Qy(w:World)(A:Option Addr)(c N n:Nat)(l:List At):Prop where
 len:l.length=N
 row:zB 2 zu w ⟨A,c,l⟩
 asc:ZR l
 le:N<=n
theorem Qy.nil(w:World):Qy w none 0 0 0 []:=⟨rfl,zB.empty,List.Pairwise.nil,zo⟩
theorem Qy.keep{w w':World}{A:Option Addr}{c N n:Nat}{l:List At}(h:Qy w A c N n l)(hb:Below w.heap.size w w'):Qy w' A c N n l:=⟨h.len,h.row.keep hb,h.asc,h.le⟩
theorem Qy.dr{w:World}{A:Option Addr}{c N n:Nat}{l:List At}(h:Qy w A c N n l):Qy w.drew A c N n l:=h.keep (zU zk)
theorem Qy.outL{w w':World}{A:Option Addr}{c N n:Nat}{l:List At}(h:Qy w' A c N n l)(hb:Below w.heap.size w w'):Yl w l (.returned (.slice A N c)) w':=⟨A,c,by rw[h.len],h.row,hb⟩
theorem zbV{l:List At}(h:ZR l)(k v:ByteArray):ZR (zL l k v):=by
 unfold zL
 split
 · exact h
 · exact Rs h _
theorem zbU(l:List At)(k v:ByteArray):(zL l k v).length<=l.length+1:=by
 unfold zL
 split
 · omega
 · exact I5 _ _
theorem YF{A:Option Addr}{c N n:Nat}{l:List At}(k v:ByteArray)(w:World)(h:Qy w A c N n l)(hn:n<=10000):
 Calls prog 89 #[.slice A N c,.string k,.string v] w fun e w'=>∃A' c' N',e=.returned (.slice A' N' c')/\Qy w' A' c' N' (n+1) (zL l k v)/\Below w.heap.size w w':=by
 have:=zia ⟨A,c,l⟩ k v w h.row (by have h1:=h.le;have h2:=h.len;show l.length<=10000;omega) h.asc;have e:(⟨A,c,l⟩:Ls At).l.length=N:=h.len;rw[e]at this;refine this.mono ?_;rintro e w' ⟨A',c',rfl,h1,h2⟩;exact⟨A',c',(zL l k v).length,rfl,⟨rfl,h1,zbV h.asc k v,by have h3:=zbU l k v;have h1:=h.le;have h2:=h.len;omega⟩,h2⟩
theorem FC:(prog.info? 30).map (·.size)=some 1:=zg
theorem kD(w:World)(x:Dv):Below w.heap.size w ((w.alloc (.cells (zq qc) zp)).setRow w.heap.size (zq x))/\((w.alloc (.cells (zq qc) zp)).setRow w.heap.size (zq x)).heap[w.heap.size]? =some (.cells (zq x) zp (0,0)):=
 ⟨qz (zV zk) zo,setRow_heap _ _ _ _ _ _ (heap_alloc_new w _)⟩
theorem zfd(A:Option Addr)(c:Nat)(ds:List Dv)(n:Int)(w:World)(h:qk w A ds)(hi:∀d∈zm ds,Xb d)(r1: -9223372036854775808<=n)(r2:n<=9223372036854775807)(hE:Env0 w)(hnb:∀d∈zm ds,-9223372036854775808<=d.nb/\d.nb<=9223372036854775807):
 Calls prog 72 #[zT A ds c,.int .i64 n] w (Yl w (XA (zm ds) n)):=by
 obtain⟨w1,hw1⟩:∃w1,w.alloc (.cells #[.slice A ds.length c] 30)=w1:=⟨_,rfl⟩;have hb1:Below w.heap.size w w1:=ZV;have HF:=za (V0 A c ds n w1 (h.keep hb1));have HO:=za (fun(W:World) (hb:Below w.heap.size w W)=>Pr A c ds n W (h.keep hb) hi r1 r2);have HB1:=za hb1;have HE:=za hE;have HW:=za hw1;have h0:w1.heap[w.heap.size]? =some (.cells #[.slice A ds.length c] 30 (0,0)):=Qc;have H0:=za h0;cases hf:qa (zm ds) n with
 | none=>
   have hr:XA (zm ds) n=[]:=by unfold XA;rw[hf]
   rw[hr];rw[hf]at HF;unfold YP at HF;clear hr hf h hi r1 r2 hE hnb hb1 HO h0 hw1;unfold zT at*;generalize ds.length=N at*;go_enter func72,ntmps72;exact L5
 | some d=>
   have hr:XA (zm ds) n=kp d (ZP (zm ds) n):=by unfold XA;rw[hf]
   rw[hr];rw[hf]at HF;have hnbd:=hnb d (XE hf).1;have hogd:=(hi d (XE hf).1).og;unfold YP at HF;generalize ZP (zm ds) n=og at*;generalize (!(qI (zm ds) n).isEmpty)=okb at*;clear hr hf h hi r1 r2 hE hnb hb1 h0 hw1;unfold zT at*;generalize ds.length=N at*;go_enter func72,ntmps72;go_upto_region 1 with fail
   rw[HW.out];go_upto_region 5 with(first
    |(go_at_call 9;refine HF.out.mono ?_;rintro e w2 ⟨x,rfl,hx,-,-,hb2⟩;have Hx:=za hx;clear hx;have HB2:=za (bt HB1.out hb2);have hc0:=(hb2.block _ (zh H0.out)).trans H0.out;have hrow:=heap_alloc_new w2 (.cells (zq qc) zp);have hc1:=za (((kD w2 x).1.block _ (zh hc0)).trans hc0);have HL:=za (kD w2 x);clear hb2 hc0)
    |(refine wpList_load_row rfl 30 _ rfl _ rfl _ _ _ _ (by first|exact hc1.out|exact H0.out) underlying30 rfl Jx ?_)
    |(refine wpList_store_row rfl 43 _ _ rfl _ _ rfl rfl _ _ hrow Zh rfl qJ ?_)
    |(go_at_call 50;refine(HO.out _ (qz (zV HB2.out) (HB2.out.size))).mono ?_;rintro e w4 ⟨rfl,hb4⟩))
   have hrow4:w4.heap[w2.heap.size]? =some (.cells (zq x) zp (0,0)):=(hb4.block _ (zh HL.out.2)).trans HL.out.2;have HB4:=za (bt HB2.out (bt HL.out.1 hb4));have HSc:Hid (∀W,Below w4.heap.size w4 W->W.heap[w2.heap.size]? =some (.cells (zq x) zp (0,0))):=za fun W hW=>(hW.block _ (zh hrow4)).trans hrow4;have HCl:Hid (∀W,Below w4.heap.size w4 W->W.cell? ⟨w2.heap.size,4,none⟩=some (.string x.sb)/\W.cell? ⟨w2.heap.size,5,none⟩=some (.string x.dr)/\W.cell? ⟨w2.heap.size,6,none⟩=some (.string x.al)):=za fun W hW=>by
    obtain⟨⟨c0,c1,c2,c3,c4,c5,c6,c7,c8,c9⟩,_⟩:=Xi (HSc.out W hW);exact⟨c4,c5,c6⟩
   have HCr:Hid (∀W,Below w4.heap.size w4 W->W.cell? ⟨w2.heap.size,3,none⟩=some (.string x.og)/\W.cell? ⟨w2.heap.size,7,none⟩=some (.int .i64 x.kd)):=za fun W hW=>by
    obtain⟨⟨c0,c1,c2,c3,c4,c5,c6,c7,c8,c9⟩,_⟩:=Xi (HSc.out W hW);exact⟨c3,c7⟩
   have HCn:Hid (∀W,Below w4.heap.size w4 W->W.cell? ⟨w2.heap.size,8,none⟩=some (.int .i64 x.nb)):=za fun W hW=>by
    obtain⟨⟨c0,c1,c2,c3,c4,c5,c6,c7,c8,c9⟩,_⟩:=Xi (HSc.out W hW);exact c8
   have hxd:x.d=d:=Hx.out;subst hxd;have HN:=za (fun(W:World) (h:Env0 W)=>RR x W h hogd);have HI:=za (fun(W:World) (h:Env0 W)=>JW x.nb hnbd.1 hnbd.2 W h);clear hrow4 hb4 hogd hnbd hc1 HL hrow;obtain⟨q4,q5,q6⟩:=HCl.out w4 zk
   go_region_held3 (fun W'=>W'.cell? ⟨w2.heap.size,4,none⟩=some (.string x.sb)/\W'.cell? ⟨w2.heap.size,5,none⟩=some (.string x.dr)/\W'.cell? ⟨w2.heap.size,6,none⟩=some (.string x.al)) ((refine HCl.out _ ?_;first|exact hB8|exact hB7|exact hB6|exact hB5|exact zU zk)) (first
    |(go_at_call 89;refine(YF (n:=3) _ _ _ (by first|exact l7|exact l7.dr) zb).mono ?_;rintro e w8 ⟨A8,c8,N8,rfl,l8,hb8⟩;have hB8:=bt hB7 hb8)
    |(go_at_call 89;refine(YF (n:=2) _ _ _ (by first|exact l6|exact l6.dr) zb).mono ?_;rintro e w7 ⟨A7,c7,N7,rfl,l7,hb7⟩;have hB7:=bt hB6 hb7)
    |(go_at_call 89;refine(YF (n:=1) _ _ _ (by first|exact l5|exact l5.dr) zb).mono ?_;rintro e w6 ⟨A6,c6,N6,rfl,l6,hb6⟩;have hB6:=bt hB5 hb6)
    |(go_at_call 89;refine(YF (n:=0) _ _ _ (Qy.nil _) zb).mono ?_;rintro e w5 ⟨A5,c5,N5,rfl,l5,hb5⟩;have hB5:Below w4.heap.size w4 w5:=bt (zU zk) hb5))
   obtain⟨L8,hL8⟩:∃L8,zL (zL (zL (zL [] Jv og) Jr x.sb) Jn x.dr) JT x.al=L8:=⟨_,rfl⟩;have HL8:=za hL8;have H8:Hid (Qy w8 A8 c8 N8 4 L8):=za (by rw[<-hL8];exact l8);have HB8:=za hB8;clear hL8 l8 l7 l6 l5 hb8 hb7 hb6 hb5 hB8 hB7 hB6 hB5;cases hnd:Yh x.d with
   | none=>
     rw[hnd]at HN;simp only[Option.getD_none,Option.isSome_none]at HN;by_cases hk:x.kd=4
     · skip
       have hbase:kp x.d og=zL (L8) V5 x.og:=Dj;have HBs:=za hbase;clear hbase hnd;obtain⟨q3,q7⟩:=HCr.out w8 HB8.out;go_wp2_with (first
        |(refine wpList_load_row rfl 43 _ rfl _ rfl _ _ _ _ (HSc.out _ HB8.out) underlying43 rfl Zh ?_)
        |(go_at_call 51;refine(HN.out _ (HE.out.go (bt HB4.out HB8.out))).mono ?_;rintro e w9 ⟨rfl,hb9⟩;have HB9:=za (bt HB8.out hb9);have H9:=za (H8.out.keep hb9);clear hb9;obtain⟨q3,q7⟩:=HCr.out w9 HB9.out)
        |(go_at_call 89;refine(YF (n:=4) _ _ _ H9.out zb).mono ?_;rintro e wz ⟨Az,cz,Nz,rfl,lz,hbz⟩;have HBz:=za (bt HB9.out hbz);have Hz:=za lz;clear hbz lz))
       exact Lt
     · skip
       have hbase:kp x.d og=L8:=Fm;have HBs:=za hbase;clear hbase hnd;obtain⟨q3,q7⟩:=HCr.out w8 HB8.out;go_wp2_with (first
        |(refine wpList_load_row rfl 43 _ rfl _ rfl _ _ _ _ (HSc.out _ HB8.out) underlying43 rfl Zh ?_)
        |(go_at_call 51;refine(HN.out _ (HE.out.go (bt HB4.out HB8.out))).mono ?_;rintro e w9 ⟨rfl,hb9⟩;have HB9:=za (bt HB8.out hb9);have H9:=za (H8.out.keep hb9);clear hb9;obtain⟨q3,q7⟩:=HCr.out w9 HB9.out))
       go_ret;rw[HBs.out];exact H9.out.outL (bt HB4.out HB9.out)
   | some nv=>
     rw[hnd]at HN;simp only[Option.getD_some,Option.isSome_some]at HN;by_cases hk:x.kd=4
     · skip
       have hbase:kp x.d og=zL (zL (zL L8 U0 nv) Vn (bs (Lib.itoa x.nb))) V5 x.og:=Dj;have HBs:=za hbase;clear hbase hnd;go_upto_region 8 with(first
        |(refine wpList_load_row rfl 43 _ rfl _ rfl _ _ _ _ (HSc.out _ HB8.out) underlying43 rfl Zh ?_)
        |(go_at_call 51;refine(HN.out _ (HE.out.go (bt HB4.out HB8.out))).mono ?_;rintro e w9 ⟨rfl,hb9⟩;have HB9:=za (bt HB8.out hb9);have H9:=za (H8.out.keep hb9);clear hb9;have q8:=HCn.out w9 HB9.out))
       clear q4 q5 q6
       go_region_held3 (fun W'=>W'.cell? ⟨w2.heap.size,8,none⟩=some (.int .i64 x.nb)) ((refine HCn.out _ ?_;first|exact hB12|exact hB11|exact hB10|exact zU HB9.out)) (first
        |(go_at_call 89;refine(YF (n:=5) _ _ _ (l10.keep hb11) zb).mono ?_;rintro e w12 ⟨A12,c12,N12,rfl,l12,hb12⟩;have hB12:=bt hB11 hb12)
        |(go_at_call 48;refine(HI.out _ (HE.out.go (bt HB4.out hB10))).mono ?_;rintro e w11 ⟨rfl,hb11⟩;have hB11:=bt hB10 hb11)
        |(go_at_call 89;refine(YF (n:=4) _ _ _ FI zb).mono ?_;rintro e w10 ⟨A10,c10,N10,rfl,l10,hb10⟩;have hB10:Below w4.heap.size w4 w10:=bt (zU HB9.out) hb10))
       obtain⟨q3,q7⟩:=HCr.out w12 hB12;have H12:=za l12;have HB12:=za hB12;clear l12 hB12 l10 hb10 hb11 hb12 hB10 hB11;go_wp2_with (go_at_call 89;refine(YF (n:=6) _ _ _ H12.out zb).mono ?_;rintro e wz ⟨Az,cz,Nz,rfl,lz,hbz⟩;have HBz:=za (bt HB12.out hbz);have Hz:=za lz;clear hbz lz)
       exact Lt
     · skip
       have hbase:kp x.d og=zL (zL L8 U0 nv) Vn (bs (Lib.itoa x.nb)):=Fm;have HBs:=za hbase;clear hbase hnd;go_upto_region 8 with(first
        |(refine wpList_load_row rfl 43 _ rfl _ rfl _ _ _ _ (HSc.out _ HB8.out) underlying43 rfl Zh ?_)
        |(go_at_call 51;refine(HN.out _ (HE.out.go (bt HB4.out HB8.out))).mono ?_;rintro e w9 ⟨rfl,hb9⟩;have HB9:=za (bt HB8.out hb9);have H9:=za (H8.out.keep hb9);clear hb9;have q8:=HCn.out w9 HB9.out))
       clear q4 q5 q6
       go_region_held3 (fun W'=>W'.cell? ⟨w2.heap.size,8,none⟩=some (.int .i64 x.nb)) ((refine HCn.out _ ?_;first|exact hB12|exact hB11|exact hB10|exact zU HB9.out)) (first
        |(go_at_call 89;refine(YF (n:=5) _ _ _ (l10.keep hb11) zb).mono ?_;rintro e w12 ⟨A12,c12,N12,rfl,l12,hb12⟩;have hB12:=bt hB11 hb12)
        |(go_at_call 48;refine(HI.out _ (HE.out.go (bt HB4.out hB10))).mono ?_;rintro e w11 ⟨rfl,hb11⟩;have hB11:=bt hB10 hb11)
        |(go_at_call 89;refine(YF (n:=4) _ _ _ FI zb).mono ?_;rintro e w10 ⟨A10,c10,N10,rfl,l10,hb10⟩;have hB10:Below w4.heap.size w4 w10:=bt (zU HB9.out) hb10))
       obtain⟨q3,q7⟩:=HCr.out w12 hB12;have H12:=za l12;have HB12:=za hB12;clear l12 hB12 l10 hb10 hb11 hb12 hB10 hB11;go_wp2_with fail
       go_ret;rw[HBs.out];exact H12.out.outL (bt HB4.out HB12.out)
end
section
open Go.RowKit Go.Shelf Go.Maps
theorem zam(x:Nat)(W:World)(h:x<=1114111):
 Calls prog 228 #[.int .i32 (x:Int)] W fun e w'=>e=.returned (.int .i32 (YU x))/\∃q,w'=W.drewN q:=by
 have hw:∀q,YU x=q->YU (x:Int)=q:=fun _ h=>h;rcases(by omega:x<48∨(48<=x/\x<=57)∨(57<x/\x<65)∨(65<=x/\x<=90)∨(90<x/\x<97)∨(97<=x/\x<=122)∨122<x)with k|k|k|k|k|k|k
 · have a1:¬(65:Int)<=x:=by omega
   have a2:¬(97:Int)<=x:=zb;have a3:¬(48:Int)<=x:=zb;exact Nx
 · have a1:¬(65:Int)<=x:=by omega
   have a2:¬(97:Int)<=x:=zb;have a3:(48:Int)<=x:=zb;have a4:(x:Int)<=57:=zb;exact jG
 · have a1:¬(65:Int)<=x:=by omega
   have a2:¬(97:Int)<=x:=zb;have a3:(48:Int)<=x:=zb;have a4:¬(x:Int)<=57:=zb;exact Nx
 · have a1:(65:Int)<=x:=by omega
   have a2:(x:Int)<=90:=zb;exact jG
 · have a1:(65:Int)<=x:=by omega
   have a2:¬(x:Int)<=90:=zb;have a3:¬(97:Int)<=x:=zb;have a5:(48:Int)<=x:=zb;have a4:¬(x:Int)<=57:=zb;exact Nx
 · have a1:(65:Int)<=x:=by omega
   have a2:¬(x:Int)<=90:=zb;have a3:(97:Int)<=x:=zb;have a4:(x:Int)<=122:=zb;exact jG
 · have a1:(65:Int)<=x:=by omega
   have a2:¬(x:Int)<=90:=zb;have a3:(97:Int)<=x:=zb;have a4:¬(x:Int)<=122:=zb;have a5:(48:Int)<=x:=zb;have a6:¬(x:Int)<=57:=zb;exact Nx
theorem vY(d:Dv)(w:World)(h1:d.sb.size<=1000)(h2:d.og.size<=1000):
 Calls prog 226 #[.agg (zq d)] w fun e w'=>e=.returned (.string (UQ d.d))/\Below w.heap.size w w':=by
 have hb:=zI w (.cells (zq d) zp);have HB:=za hb;clear hb;have e:UQ d.d=d.sb++⟨#[58]⟩++d.og:=rfl;rw[e];clear e;have q1:(9223372036854775807<d.sb.size+1)=False:=zH;have q2:(9223372036854775807<d.sb.size+1+d.og.size)=False:=zH;unfold zq at*;go_enter func226,ntmps226;go_wp2;go_ret;exact⟨rfl,HB.out⟩
theorem j5:∀{r:List Dd},kC r->∀n,∀y∈(qH r n).tail,y.ix≠n
 | [],_,_,y,h=>qD
 | d ::r,hw,n,y,h=>by
   rw[qH]at h
   split at h
   · rename_i hd;have hy:=Ix _ _ _ h;rw[<-hd];exact hw.2.1 y hy
   · exact j5 hw.2.2.2 n y h
theorem ym{l:List Dd}{n:Int}{x:Dd}(hw:QM l)(h:qa l n=some x):∃r,qI l n=x::r/\(qI l n).filter (fun d=> !(d.ix==n))=r:=by
 have h1:=Pk hw h;refine⟨qI l x.pa,h1,?_⟩;have h2:∀y∈qI l x.pa,y.ix≠n:=fun y hy=>j5 hw n y (by show y∈(qI l n).tail;rw[h1];exact hy);rw[h1,List.filter_cons_of_neg (by simp[(XE h).2]),List.filter_eq_self.2 (fun y hy=>by simp[h2 y hy])]
structure KA(w:World):Prop extends Env0 w where
 u8:Lib.Utf8Tabs 2 3 w
theorem KA.go{w w':World}(h:KA w)(hb:Below w.heap.size w w'):KA w':=⟨h.toEnv0.go hb,Utf8Tabs_below h.u8 hb⟩
theorem yV(W:World)(cs:Array Value)(T:TypeId)(k n:Nat)(h:cs.size=n*k):zD (W.alloc (.cells cs T)) (some ⟨W.heap.size,0,none⟩) k n cs.toList:=
 ⟨⟨by simp[h],fun _=>⟨W.heap.size,0,rfl,zl,fun j u hu=>by
   rw[Nat.zero_add];exact zd (heap_alloc_new W _) yz⟩⟩,fun a e=>by cases e;exact⟨rfl,zl⟩⟩
theorem zid(n:Nat)(parts:Array (Nat×Value)):Instr.buildSlice 31 n parts=Xt 31 n parts:=GF
theorem zau(a0 a1 b0 b1:Value)(cells:Array Value)(h:cells.size=4):Instr.fill (fun i=>some (i*2,2)) cells [(0,.agg #[a0,a1]),(1,.agg #[b0,b1])]=some #[a0,a1,b0,b1]:=by
 obtain⟨l⟩:=cells
 match l,h with
 | [c0,c1,c2,c3],_=>rfl
theorem Aj{t e:TypeId}{z:Value}{k b:Nat}(hu:prog.underlying t=some (.slice e))(hi:(prog.info? e).map (fun i=>(i.zero,i.size,i.bytes))=some (some z,k,b))(a0 a1 b0 b1:Value)(hk:k=2)(w:World):
 (Xt t 2 #[(0,.agg #[a0,a1]),(1,.agg #[b0,b1])]).run prog w=.ok (.slice (some ⟨w.heap.size,0,none⟩) 2 2) (w.alloc (.cells #[a0,a1,b0,b1] e)):=by
 subst hk;obtain⟨i0,hi0,hz0,hz1,hz2⟩:=info_parts hi;unfold Xt;refine run_buildSlice w _ _ 2 _ #[a0,a1,b0,b1] i0 z hu hi0 hz0 Gl Gl ?_;rw[hz1];exact zau _ _ _ _ _ zl
theorem vo{s:ByteArray}(h:s.size<=256):s.extract 0 256=s:=by
 have:L (s.extract 0 256)=L s:=vd;have e:=congrArg bs this;rwa [Ya,Ya]at e
attribute [local go_sem ↓] zid
theorem zer(A:Option Addr)(c:Nat)(ds:List Dv)(n:Int)(w:World)(h:qk w A ds)(hi:∀d∈zm ds,Xb d/\d.sb.size<=1000)(hwf:QM (zm ds))(r1: -9223372036854775808<=n)(r2:n<=9223372036854775807)(hE:KA w):
 Calls prog 191 #[zT A ds c,.int .i64 n] w (Yl w (kb (zm ds) n)):=by
 obtain⟨w1,hw1⟩:∃w1,w.alloc (.cells #[.slice A ds.length c] 30)=w1:=⟨_,rfl⟩;have hb1:Below w.heap.size w w1:=ZV;have HF:=za (V0 A c ds n w1 (h.keep hb1));have HO:=za (fun(W:World) (hb:Below w.heap.size w W)=>Fj A c ds n W (h.keep hb) (fun d hd=>(hi d hd).1) hwf r1 r2);have HB1:=za hb1;have HE:=za hE;have HW:=za hw1;have h0:w1.heap[w.heap.size]? =some (.cells #[.slice A ds.length c] 30 (0,0)):=Qc;have H0:=za h0;cases hf:qa (zm ds) n with
 | none=>
   have hr:kb (zm ds) n=[]:=by unfold kb;rw[hf]
   rw[hr];rw[hf]at HF;unfold YP at HF;clear hr hf h hi r1 r2 hE hb1 HO h0 hw1 hwf;unfold zT at*;generalize ds.length=N at*;go_enter func191,ntmps191;exact L5
 | some d=>
   obtain⟨rs,hch,hrs⟩:=ym hwf hf;have hr:kb (zm ds) n=[⟨GV,Vl (d::rs)⟩,⟨Iq,bs (Lib.mapD YU (L (Vl (d::rs))))⟩]:=by unfold kb;rw[hf,hch]
   rw[hr];rw[hf]at HF;have hd:=hi d (XE hf).1;have hsbd:=hd.2;have hogd:=hd.1.og;have HRs:=za (fun y (hy:y∈rs)=>hi y (Mv (l:=zm ds) (n:=n) Lb));have hrl:rs.length<1000:=AH;have HAl:=za (fun y (hy:y∈rs)=>(show y.ats.length<=1000 from by
    have:=Mv (l:=zm ds) (n:=n) Lb;obtain⟨z,hz,rfl⟩:=List.mem_map.1 this;exact h.al z hz))
   unfold YP at HF;unfold No at HO;rw[hrs]at HO;clear hr hf h hi r1 r2 hE hb1 h0 hw1 hwf hd hch hrs;unfold zT at*;generalize ds.length=N at*;go_enter func191,ntmps191;go_upto_region 1 with fail
   rw[HW.out];go_wp2_with (first
    |(go_at_call 9;refine HF.out.mono ?_;rintro e w2 ⟨x,rfl,hx,-,-,hb2⟩;have Hx:=za hx;clear hx;have HB2:=za (bt HB1.out hb2);have hc0:=(hb2.block _ (zh H0.out)).trans H0.out;have hrow:=heap_alloc_new w2 (.cells (zq qc) zp);have hc1:=za (((kD w2 x).1.block _ (zh hc0)).trans hc0);have HL:=za (kD w2 x);have HPt:=za (fun W=>vY x W (by have:=congrArg Dd.sb Hx.out;have e:x.sb=d.sb:=this;rw[e];exact hsbd) (by have:=congrArg Dd.og Hx.out;have e:x.og=d.og:=this;rw[e];exact hogd));clear hb2 hc0)
    |(refine wpList_load_row rfl 30 _ rfl _ rfl _ _ _ _ (by first|exact hc2.out|exact hc1.out|exact H0.out) underlying30 rfl Jx ?_)
    |(refine wpList_load_row rfl 43 _ rfl _ rfl _ _ _ _ HL.out.2 underlying43 rfl Zh ?_)
    |(refine wpList_store_row rfl 43 _ _ rfl _ _ rfl rfl _ _ hrow Zh rfl qJ ?_)
    |(go_at_call 226;refine(HPt.out _).mono ?_;rintro e w3 ⟨rfl,hb3⟩;have HB3:=za (bt HB2.out (bt HL.out.1 hb3));have hc2:=za ((hb3.block _ (zh hc1.out)).trans hc1.out);clear hb3)
    |(go_at_call 11;refine(HO.out _ HB3.out).mono ?_;rintro e w5 ⟨A5,c5,ms,rfl,hms,hown,hin,hb5⟩;have HB5:=za (bt HB3.out hb5);have HMs:=za hms;have hT:qk w5 A5 ms:=⟨(zD.of_own hown).1,fun y hy=>(hin y hy).1,(by have:=congrArg List.length hms;rw[List.length_map]at this;omega),(fun y hy=>HAl.out y.d (by rw[<-HMs.out];exact List.mem_map_of_mem hy))⟩;have HT:=za hT;clear hms hown hin hb5 hT))
   have hM:ms.length=rs.length:=by rw[<-HMs.out,List.length_map]
   obtain⟨M,hMM⟩:∃M,ms.length=M:=⟨_,rfl⟩;have HM:=za hMM;have HRl:=za (show rs.length=M from by rw[<-hM];exact hMM);have hM1:M<1000:=by rw[<-hMM,hM];exact hrl
   rw[hMM];clear hrl hM hMM hc1 hc2 hrow HF HO H0 HPt HAl;go_loopg [25,7,9] (M+1) (fun gk s25 s7 _ wr=>∃(k:Nat) (p:ByteArray),s25=.int .i64 k/\s7=.string p/\k+gk=M+1/\k<=M/\p.size<=2001+k*2002/\Hid (p=(rs.take k).foldl (fun p a=>UQ a++Oe++p) (UQ x.d))/\Hid (Below w5.heap.size w5 wr))
   case atStart=>
    refine⟨0,UQ x.d,rfl,rfl,zb,Nat.zero_le _,?_,rfl,zk⟩;rw[Hx.out];show(d.sb++jm++d.og).size<=_;simp only[ByteArray.size_append];show d.sb.size+1+d.og.size<=_;omega
   case round=>
    obtain⟨k,p,rfl,rfl,hkg,hkM,hpz,HP,HL⟩:=hrel;by_cases hlt:k<M
    · have hltI:(k:Int)<(M:Int):=by omega
      obtain⟨y,hy⟩:∃y,ms[k]? =some y:=⟨_,List.getElem?_eq_getElem R1⟩;have hyd:rs[k]? =some y.d:=by rw[<-HMs.out,List.getElem?_map,hy];rfl
      obtain⟨g1,g2⟩:=HRs.out y.d (List.mem_of_getElem? hyd);have g3:=g1.og;have hte:(rs.take (k+1)).foldl (fun p a=>UQ a++Oe++p) (UQ x.d)=UQ y.d++Oe++p:=by
       rw[HP.out,List.take_add_one,hyd,List.foldl_append];rfl
      obtain⟨q,hq⟩:∃q,UQ y.d=q:=⟨_,rfl⟩;have HPy:=za (fun W=>vY y W g2 g3);have hqz:q.size<=2001:=by
       rw[<-hq];show(y.sb++jm++y.og).size<=_;simp only[ByteArray.size_append];have g2:y.sb.size<=1000:=g2;have g3:y.og.size<=1000:=g3;show y.sb.size+1+y.og.size<=_;omega
      rw[hq]at HPy hte;have HTE:=za hte;obtain⟨b,off,rfl,hb,hten⟩:=HT.out.ten hy;obtain⟨e0,e1,e2,e3,e4,e5,e6,e7,e8,e9⟩:=hten wr HL.out;have z1:(9223372036854775807<q.size+1)=False:=zH;have z2:(9223372036854775807<q.size+1+p.size)=False:=zH;clear hy hyd g1 g2 g3 hte hq hten;go_wp2_with (go_at_call 226;refine(HPy.out _).mono ?_;rintro e w7 ⟨rfl,hb7⟩;have HB7:=za (bt (zV HL.out) hb7);clear hb7)
      go_roundg (gk - 1)
      case measure=>omega
      case rel=>
       refine⟨k+1,q++⟨#[45]⟩++p,zP,rfl,zb,zb,?_,za HTE.out.symm,HB7⟩;simp only[ByteArray.size_append];show q.size+1+p.size<=_;omega
    · obtain rfl:k=M:=by omega
      have XI:Vl (d::rs)=p.extract 0 256:=by
       rw[HP.out,List.take_of_length_le (by rw[HRl.out];exact zo),Hx.out];rfl
      have HpT:=za XI;clear XI;have hEw:=HE.out.go (bt HB5.out HL.out);have HMap:=za (fun(s:ByteArray) (hs:s.size<=100000000)=>strings_Map_runes 228 #[] (fun _ _=>rfl) YU s wr zb (fun W x hx _=>zam x W hx) (fun x hx=>by unfold YU;split<;>omega) hEw.u8);have HLw:=za (bt HB5.out HL.out);by_cases hq:p.size<=256
      · have hqi:(p.size:Int)<=256:=by omega
        have hmi:min (p.size:Int) 256=(p.size:Int):=zb;obtain⟨m,hm⟩:∃m:ByteArray,(⟨(Lib.mapD YU p.data.toList).toArray⟩:ByteArray)=m:=⟨_,rfl⟩;have HMm:=za hm;have HMp:=za (HMap.out p zb);rw[hm]at HMp;clear hm;go_wp2_with (go_at_call 227;refine HMp.out.mono ?_;rintro e w7 ⟨rfl,hb7⟩;have HB7:=za hb7;have hbs:=Aj underlying31 Vy (.string ⟨#[73,68,95,80,65,84,72]⟩) (.string p) (.string ⟨#[73,68,95,80,65,84,72,95,84,65,71]⟩) (.string m) rfl w7;clear hb7)
        go_ret;rw[HpT.out,vo hq];have em:bs (Lib.mapD YU (L p))=m:=HMm.out;rw[em];exact⟨some ⟨w7.heap.size,0,none⟩,2,rfl,⟨yV w7 #[.string GV,.string p,.string Iq,.string m] _ 2 2 rfl,zo,D2,fun e=>Zp⟩,zV (bt HLw.out HB7.out)⟩
      · have hqi:¬(p.size:Int)<=256:=by omega
        have hmi:min (p.size:Int) 256=256:=zb;have hqn:256<=p.size:=zb;have hqj:(256:Int)<=(p.size:Int):=zb;obtain⟨m,hm⟩:∃m:ByteArray,(⟨(Lib.mapD YU (p.extract 0 256).data.toList).toArray⟩:ByteArray)=m:=⟨_,rfl⟩;have HMm:=za hm;have HMp:=za (HMap.out (p.extract 0 256) Ib);rw[hm]at HMp;clear hm;go_wp2_with (go_at_call 227;refine HMp.out.mono ?_;rintro e w7 ⟨rfl,hb7⟩;have HB7:=za hb7;have hbs:=Aj underlying31 Vy (.string ⟨#[73,68,95,80,65,84,72]⟩) (.string (p.extract 0 256)) (.string ⟨#[73,68,95,80,65,84,72,95,84,65,71]⟩) (.string m) rfl w7;clear hb7)
        go_ret;rw[HpT.out];have em:bs (Lib.mapD YU (L (p.extract 0 256)))=m:=HMm.out;rw[em];exact⟨some ⟨w7.heap.size,0,none⟩,2,rfl,⟨yV w7 #[.string GV,.string (p.extract 0 256),.string Iq,.string m] _ 2 2 rfl,zo,D2,fun e=>Zp⟩,zV (bt HLw.out HB7.out)⟩
end
section
open Go.RowKit Go.Maps
theorem Gy{W:World}{M n:Nat}{D:DW}(h:UR W M n D)(hn:n<100)(k:Int)(h1: -9223372036854775808<=k)(h2:k<=9223372036854775807)(v:ByteArray)(hv:v.size<=1000):
 ∃W',(Instr.mapUpdate 90 (.map (some M)) (.int .i64 k) (.string v)).run prog W=.ok () W'/\UR W' M (n+1) (D.put (.int .i64 k) (.lit (.string (L v))))/\W.grownBy W' (some M):=
 World.ownsMap.update h Ky underlying90 qi (KG h1 h2) (plainElem_string underlying9 qi)
abbrev Kk:List (Int×DW):=[(5,.lit (.string (L (QR 5)))),(4,.lit (.string (L (QR 4)))),(3,.lit (.string (L (QR 3)))),(2,.lit (.string (L (QR 2)))),(1,.lit (.string (L (QR 1))))]
theorem zjb(k:Int):(Q6 Kk k).getD (.lit (.string []))=.lit (.string (L (QR k))):=by
 unfold Q6 Kk;by_cases h5:k=5
 · subst h5;rfl
 by_cases h4:k=4
 · subst h4;rfl
 by_cases h3:k=3
 · subst h3;rfl
 by_cases h2:k=2
 · subst h2;rfl
 by_cases h1:k=1
 · subst h1;rfl
 have e:∀m:Int,k≠m->(m==k)=false:=fun m h=>by simpa using fun e=>h e.symm
 simp only[List.find?_cons,e 5 h5,e 4 h4,e 3 h3,e 2 h2,e 1 h1];unfold QR;rw[if_neg h1,if_neg h2,if_neg h3,if_neg h4,if_neg h5];rfl
theorem zin{W:World}{m n:Nat}(h:UR W m n (Qh Kk)){z:Int}(h1: -9223372036854775808<=z)(h2:z<=9223372036854775807):
 (Instr.lookup 90 (.map (some m)) (.int .i64 z) false).run prog W=.ok (.string (QR z)) W:=by
 obtain⟨v,ps,hrun,hv⟩:=World.ownsMap.lookup h Ky underlying90 (zeroValue9 W) (plainElem_string (H:=Unit) underlying9 (s:=⟨#[]⟩) zi) (KG h1 h2);have hat:(Qh Kk).atKey (.int .i64 z) (.lit (.string []))=.lit (.string (L (QR z))):=by rw[GM,zjb]
 change plainElem prog 9 v=some ((Qh Kk).atKey (.int .i64 z) (.lit (.string [])),ps)at hv;rw[hat]at hv;obtain⟨t,rfl,ht,_⟩:=plainElem_string_inv underlying9 hv;have e:L (QR z)=L t:=yu;have e2:QR z=t:=by rw[<-Ya (QR z),e,Ya]
 rw[hrun,e2]
theorem Bq(w:World):Calls prog 230 #[] w fun e w'=>∃M n,e=.returned (.map (some M))/\UR w' M n (Qh Kk)/\Below w.heap.size w w':=by
 have hm:=run_makeMap (P:=prog) 90 w;have h0:UR (w.alloc (.map #[] 0)) w.heap.size 0 (Qh []):=World.ownsMap_made _ _ _ _;obtain⟨w1,e1,h1,g1⟩:=Gy h0 zi 1 zi zi (QR 1) zi;obtain⟨w2,e2,h2,g2⟩:=Gy h1 zi 2 zi zi (QR 2) zi;obtain⟨w3,e3,h3,g3⟩:=Gy h2 zi 3 zi zi (QR 3) zi;obtain⟨w4,e4,h4,g4⟩:=Gy h3 zi 4 zi zi (QR 4) zi;obtain⟨w5,e5,h5,g5⟩:=Gy h4 zi 5 zi zi (QR 5) zi;have HEnd:Hid (UR w5 w.heap.size 5 (Qh Kk)/\Below w.heap.size w w5):=za ⟨h5,by
  have g:=(((g1.trans g2).trans g3).trans g4).trans g5;exact(zI w (.map #[] 0)).grown g (zI w (.map #[] 0)).size (fun j e=>Zr)⟩
 change (Instr.mapUpdate _ _ _ (.string ⟨#[102,105,108,101,115,121,115,116,101,109]⟩)).run _ _=_ at e1;change (Instr.mapUpdate _ _ _ (.string ⟨#[114,97,105,100]⟩)).run _ _=_ at e2;change (Instr.mapUpdate _ _ _ (.string ⟨#[99,114,121,112,116,111]⟩)).run _ _=_ at e3;change (Instr.mapUpdate _ _ _ (.string ⟨#[109,101,109,98,101,114]⟩)).run _ _=_ at e4;change (Instr.mapUpdate _ _ _ (.string ⟨#[116,97,98,108,101]⟩)).run _ _=_ at e5;clear h0 h1 h2 h3 h4 h5 g1 g2 g3 g4 g5;go_enter func230,ntmps230;go_wp2;go_ret;exact⟨_,5,rfl,HEnd.out⟩
end
end Go.Proofs.YtecbmndgpepkcaaGreatDoor

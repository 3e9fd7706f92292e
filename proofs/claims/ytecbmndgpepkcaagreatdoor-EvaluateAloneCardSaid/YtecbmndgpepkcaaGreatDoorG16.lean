/- Contracts that the law rests on, each under the premises that it names. -/
import Derived.Test.YtecbmndgpepkcaaGreatDoorG15
namespace Go.Proofs.YtecbmndgpepkcaaGreatDoor
open Tryz
set_option maxHeartbeats 8000000
set_option maxRecDepth 100000
section
open Go.RowKit Go.Shelf Go.Maps
structure QB(w:World)(A:Option Addr)(c N n:Nat)(l:List At):Prop where
 len:l.length=N
 row:zB 2 zw w ⟨A,c,l⟩
 asc:Z1 l
 le:N<=n
theorem QB.nil(w:World):QB w none 0 0 0 []:=⟨rfl,zB.empty,List.Pairwise.nil,zo⟩
theorem QB.keep{w w':World}{A:Option Addr}{c N n:Nat}{l:List At}(h:QB w A c N n l)(hb:Below w.heap.size w w'):QB w' A c N n l:=⟨h.len,h.row.keep hb,h.asc,h.le⟩
theorem QB.dr{w:World}{A:Option Addr}{c N n:Nat}{l:List At}(h:QB w A c N n l):QB w.drew A c N n l:=h.keep (zN zj)
theorem QB.outL{w w':World}{A:Option Addr}{c N n:Nat}{l:List At}(h:QB w' A c N n l)(hb:Below w.heap.size w w'):Yv w l (.returned (.slice A N c)) w':=⟨A,c,by rw[h.len],h.row,hb⟩
theorem ze9{l:List At}(h:Z1 l)(k v:ByteArray):Z1 (zO l k v):=by
 unfold zO
 split
 · exact h
 · exact Pp h _
theorem zb8(l:List At)(k v:ByteArray):(zO l k v).length<=l.length+1:=by
 unfold zO
 split
 · omega
 · exact Np _ _
theorem YV{A:Option Addr}{c N n:Nat}{l:List At}(k v:ByteArray)(w:World)(h:QB w A c N n l)(hn:n<=10000):
 Calls prog 89 #[.slice A N c,.string k,.string v] w fun e w'=>∃A' c' N',e=.returned (.slice A' N' c')/\QB w' A' c' N' (n+1) (zO l k v)/\Below w.heap.size w w':=by
 have:=zkn ⟨A,c,l⟩ k v w h.row (by have h1:=h.le;have h2:=h.len;show l.length<=10000;omega) h.asc;have e:(⟨A,c,l⟩:Ls At).l.length=N:=h.len;rw[e]at this;refine this.mono ?_;rintro e w' ⟨A',c',rfl,h1,h2⟩;exact⟨A',c',(zO l k v).length,rfl,⟨rfl,h1,ze9 h.asc k v,by have h3:=zb8 l k v;have h1:=h.le;have h2:=h.len;omega⟩,h2⟩
theorem Am:(prog.info? 30).map (·.size)=some 1:=zg
theorem Vi(w:World)(x:Dv):Below w.heap.size w ((w.alloc (.cells (zq qd) zp)).setRow w.heap.size (zq x))/\((w.alloc (.cells (zq qd) zp)).setRow w.heap.size (zq x)).heap[w.heap.size]? =some (.cells (zq x) zp (0,0)):=
 ⟨qB (zP zj) zo,setRow_heap _ _ _ _ _ _ (i5 w _)⟩
theorem zfr(A:Option Addr)(c:Nat)(ds:List Dv)(n:Int)(w:World)(h:qj w A ds)(hi:∀d∈zm ds,Xh d)(r1: -9223372036854775808<=n)(r2:n<=9223372036854775807)(hE:Env0 w)(hnb:∀d∈zm ds,-9223372036854775808<=d.nb/\d.nb<=9223372036854775807):
 Calls prog 72 #[zV A ds c,.int .i64 n] w (Yv w (YG (zm ds) n)):=by
 obtain⟨w1,hw1⟩:∃w1,w.alloc (.cells #[.slice A ds.length c] 30)=w1:=⟨_,rfl⟩;have hb1:Below w.heap.size w w1:=ZX;have HF:=za (VD A c ds n w1 (h.keep hb1));have HO:=za (fun(W:World) (hb:Below w.heap.size w W)=>TS A c ds n W (h.keep hb) hi r1 r2);have HB1:=za hb1;have HE:=za hE;have HW:=za hw1;have h0:w1.heap[w.heap.size]? =some (.cells #[.slice A ds.length c] 30 (0,0)):=Qo;have H0:=za h0;cases hf:zC (zm ds) n with
 | none=>
   have hr:YG (zm ds) n=[]:=by unfold YG;rw[hf]
   rw[hr];rw[hf]at HF;unfold YC at HF;clear hr hf h hi r1 r2 hE hnb hb1 HO h0 hw1;unfold zV at*;generalize ds.length=N at*;go_enter func72,ntmps72;exact Bk
 | some d=>
   have hr:YG (zm ds) n=kK d (qK (zm ds) n):=by unfold YG;rw[hf]
   rw[hr];rw[hf]at HF;have hnbd:=hnb d (Xz hf).1;have hogd:=(hi d (Xz hf).1).og;unfold YC at HF;generalize qK (zm ds) n=og at*;generalize (!(zW (zm ds) n).isEmpty)=okb at*;clear hr hf h hi r1 r2 hE hnb hb1 h0 hw1;unfold zV at*;generalize ds.length=N at*;go_enter func72,ntmps72;go_upto_region 1 with fail
   rw[HW.out];go_upto_region 5 with(first
    |(go_at_call 9;refine HF.out.mono ?_;rintro e w2 ⟨x,rfl,hx,-,-,hb2⟩;have Hx:=za hx;clear hx;have HB2:=za (bt HB1.out hb2);have hc0:=(hb2.block _ (zh H0.out)).trans H0.out;have hrow:=i5 w2 (.cells (zq qd) zp);have hc1:=za (((Vi w2 x).1.block _ (zh hc0)).trans hc0);have HL:=za (Vi w2 x);clear hb2 hc0)
    |(refine wpList_load_row rfl 30 _ rfl _ rfl _ _ _ _ (by first|exact hc1.out|exact H0.out) underlying30 rfl J4 ?_)
    |(refine wpList_store_row rfl 43 _ _ rfl _ _ rfl rfl _ _ hrow Zf rfl qP ?_)
    |(go_at_call 50;refine(HO.out _ (qB (zP HB2.out) (HB2.out.size))).mono ?_;rintro e w4 ⟨rfl,hb4⟩))
   have hrow4:w4.heap[w2.heap.size]? =some (.cells (zq x) zp (0,0)):=(hb4.block _ (zh HL.out.2)).trans HL.out.2;have HB4:=za (bt HB2.out (bt HL.out.1 hb4));have HSc:Hid (∀W,Below w4.heap.size w4 W->W.heap[w2.heap.size]? =some (.cells (zq x) zp (0,0))):=za fun W hW=>(hW.block _ (zh hrow4)).trans hrow4;have HCl:Hid (∀W,Below w4.heap.size w4 W->W.cell? ⟨w2.heap.size,4,none⟩=some (.string x.sb)/\W.cell? ⟨w2.heap.size,5,none⟩=some (.string x.dr)/\W.cell? ⟨w2.heap.size,6,none⟩=some (.string x.al)):=za fun W hW=>by
    obtain⟨⟨c0,c1,c2,c3,c4,c5,c6,c7,c8,c9⟩,_⟩:=Xq (HSc.out W hW);exact⟨c4,c5,c6⟩
   have HCr:Hid (∀W,Below w4.heap.size w4 W->W.cell? ⟨w2.heap.size,3,none⟩=some (.string x.og)/\W.cell? ⟨w2.heap.size,7,none⟩=some (.int .i64 x.kd)):=za fun W hW=>by
    obtain⟨⟨c0,c1,c2,c3,c4,c5,c6,c7,c8,c9⟩,_⟩:=Xq (HSc.out W hW);exact⟨c3,c7⟩
   have HCn:Hid (∀W,Below w4.heap.size w4 W->W.cell? ⟨w2.heap.size,8,none⟩=some (.int .i64 x.nb)):=za fun W hW=>by
    obtain⟨⟨c0,c1,c2,c3,c4,c5,c6,c7,c8,c9⟩,_⟩:=Xq (HSc.out W hW);exact c8
   have hxd:x.d=d:=Hx.out;subst hxd;have HN:=za (fun(W:World) (h:Env0 W)=>Te x W h hogd);have HI:=za (fun(W:World) (h:Env0 W)=>If x.nb hnbd.1 hnbd.2 W h);clear hrow4 hb4 hogd hnbd hc1 HL hrow;obtain⟨q4,q5,q6⟩:=HCl.out w4 zj
   go_region_held3 (fun W'=>W'.cell? ⟨w2.heap.size,4,none⟩=some (.string x.sb)/\W'.cell? ⟨w2.heap.size,5,none⟩=some (.string x.dr)/\W'.cell? ⟨w2.heap.size,6,none⟩=some (.string x.al)) ((refine HCl.out _ ?_;first|exact hB8|exact hB7|exact hB6|exact hB5|exact zN zj)) (first
    |(go_at_call 89;refine(YV (n:=3) _ _ _ (by first|exact l7|exact l7.dr) zb).mono ?_;rintro e w8 ⟨A8,c8,N8,rfl,l8,hb8⟩;have hB8:=bt hB7 hb8)
    |(go_at_call 89;refine(YV (n:=2) _ _ _ (by first|exact l6|exact l6.dr) zb).mono ?_;rintro e w7 ⟨A7,c7,N7,rfl,l7,hb7⟩;have hB7:=bt hB6 hb7)
    |(go_at_call 89;refine(YV (n:=1) _ _ _ (by first|exact l5|exact l5.dr) zb).mono ?_;rintro e w6 ⟨A6,c6,N6,rfl,l6,hb6⟩;have hB6:=bt hB5 hb6)
    |(go_at_call 89;refine(YV (n:=0) _ _ _ (QB.nil _) zb).mono ?_;rintro e w5 ⟨A5,c5,N5,rfl,l5,hb5⟩;have hB5:Below w4.heap.size w4 w5:=bt (zN zj) hb5))
   obtain⟨L8,hL8⟩:∃L8,zO (zO (zO (zO [] Jq og) Jb x.sb) Jk x.dr) JH x.al=L8:=⟨_,rfl⟩;have HL8:=za hL8;have H8:Hid (QB w8 A8 c8 N8 4 L8):=za (by rw[<-hL8];exact l8);have HB8:=za hB8;clear hL8 l8 l7 l6 l5 hb8 hb7 hb6 hb5 hB8 hB7 hB6 hB5;cases hnd:QH x.d with
   | none=>
     rw[hnd]at HN;simp only[Option.getD_none,Option.isSome_none]at HN;by_cases hk:x.kd=4
     · skip
       have hbase:kK x.d og=zO (L8) kn x.og:=EI;have HBs:=za hbase;clear hbase hnd;obtain⟨q3,q7⟩:=HCr.out w8 HB8.out;go_wp2_with (first
        |(refine wpList_load_row rfl 43 _ rfl _ rfl _ _ _ _ (HSc.out _ HB8.out) underlying43 rfl Zf ?_)
        |(go_at_call 51;refine(HN.out _ (HE.out.go (bt HB4.out HB8.out))).mono ?_;rintro e w9 ⟨rfl,hb9⟩;have HB9:=za (bt HB8.out hb9);have H9:=za (H8.out.keep hb9);clear hb9;obtain⟨q3,q7⟩:=HCr.out w9 HB9.out)
        |(go_at_call 89;refine(YV (n:=4) _ _ _ H9.out zb).mono ?_;rintro e wz ⟨Az,cz,Nz,rfl,lz,hbz⟩;have HBz:=za (bt HB9.out hbz);have Hz:=za lz;clear hbz lz))
       exact Ex
     · skip
       have hbase:kK x.d og=L8:=SL;have HBs:=za hbase;clear hbase hnd;obtain⟨q3,q7⟩:=HCr.out w8 HB8.out;go_wp2_with (first
        |(refine wpList_load_row rfl 43 _ rfl _ rfl _ _ _ _ (HSc.out _ HB8.out) underlying43 rfl Zf ?_)
        |(go_at_call 51;refine(HN.out _ (HE.out.go (bt HB4.out HB8.out))).mono ?_;rintro e w9 ⟨rfl,hb9⟩;have HB9:=za (bt HB8.out hb9);have H9:=za (H8.out.keep hb9);clear hb9;obtain⟨q3,q7⟩:=HCr.out w9 HB9.out))
       go_ret;rw[HBs.out];exact H9.out.outL (bt HB4.out HB9.out)
   | some nv=>
     rw[hnd]at HN;simp only[Option.getD_some,Option.isSome_some]at HN;by_cases hk:x.kd=4
     · skip
       have hbase:kK x.d og=zO (zO (zO L8 UY nv) Vz (bs (Lib.itoa x.nb))) kn x.og:=EI;have HBs:=za hbase;clear hbase hnd;go_upto_region 8 with(first
        |(refine wpList_load_row rfl 43 _ rfl _ rfl _ _ _ _ (HSc.out _ HB8.out) underlying43 rfl Zf ?_)
        |(go_at_call 51;refine(HN.out _ (HE.out.go (bt HB4.out HB8.out))).mono ?_;rintro e w9 ⟨rfl,hb9⟩;have HB9:=za (bt HB8.out hb9);have H9:=za (H8.out.keep hb9);clear hb9;have q8:=HCn.out w9 HB9.out))
       clear q4 q5 q6
       go_region_held3 (fun W'=>W'.cell? ⟨w2.heap.size,8,none⟩=some (.int .i64 x.nb)) ((refine HCn.out _ ?_;first|exact hB12|exact hB11|exact hB10|exact zN HB9.out)) (first
        |(go_at_call 89;refine(YV (n:=5) _ _ _ (l10.keep hb11) zb).mono ?_;rintro e w12 ⟨A12,c12,N12,rfl,l12,hb12⟩;have hB12:=bt hB11 hb12)
        |(go_at_call 48;refine(HI.out _ (HE.out.go (bt HB4.out hB10))).mono ?_;rintro e w11 ⟨rfl,hb11⟩;have hB11:=bt hB10 hb11)
        |(go_at_call 89;refine(YV (n:=4) _ _ _ Sf zb).mono ?_;rintro e w10 ⟨A10,c10,N10,rfl,l10,hb10⟩;have hB10:Below w4.heap.size w4 w10:=bt (zN HB9.out) hb10))
       obtain⟨q3,q7⟩:=HCr.out w12 hB12;have H12:=za l12;have HB12:=za hB12;clear l12 hB12 l10 hb10 hb11 hb12 hB10 hB11;go_wp2_with (go_at_call 89;refine(YV (n:=6) _ _ _ H12.out zb).mono ?_;rintro e wz ⟨Az,cz,Nz,rfl,lz,hbz⟩;have HBz:=za (bt HB12.out hbz);have Hz:=za lz;clear hbz lz)
       exact Ex
     · skip
       have hbase:kK x.d og=zO (zO L8 UY nv) Vz (bs (Lib.itoa x.nb)):=SL;have HBs:=za hbase;clear hbase hnd;go_upto_region 8 with(first
        |(refine wpList_load_row rfl 43 _ rfl _ rfl _ _ _ _ (HSc.out _ HB8.out) underlying43 rfl Zf ?_)
        |(go_at_call 51;refine(HN.out _ (HE.out.go (bt HB4.out HB8.out))).mono ?_;rintro e w9 ⟨rfl,hb9⟩;have HB9:=za (bt HB8.out hb9);have H9:=za (H8.out.keep hb9);clear hb9;have q8:=HCn.out w9 HB9.out))
       clear q4 q5 q6
       go_region_held3 (fun W'=>W'.cell? ⟨w2.heap.size,8,none⟩=some (.int .i64 x.nb)) ((refine HCn.out _ ?_;first|exact hB12|exact hB11|exact hB10|exact zN HB9.out)) (first
        |(go_at_call 89;refine(YV (n:=5) _ _ _ (l10.keep hb11) zb).mono ?_;rintro e w12 ⟨A12,c12,N12,rfl,l12,hb12⟩;have hB12:=bt hB11 hb12)
        |(go_at_call 48;refine(HI.out _ (HE.out.go (bt HB4.out hB10))).mono ?_;rintro e w11 ⟨rfl,hb11⟩;have hB11:=bt hB10 hb11)
        |(go_at_call 89;refine(YV (n:=4) _ _ _ Sf zb).mono ?_;rintro e w10 ⟨A10,c10,N10,rfl,l10,hb10⟩;have hB10:Below w4.heap.size w4 w10:=bt (zN HB9.out) hb10))
       obtain⟨q3,q7⟩:=HCr.out w12 hB12;have H12:=za l12;have HB12:=za hB12;clear l12 hB12 l10 hb10 hb11 hb12 hB10 hB11;go_wp2_with fail
       go_ret;rw[HBs.out];exact H12.out.outL (bt HB4.out HB12.out)
end
section
open Go.RowKit Go.Shelf Go.Maps
theorem zbR(x:Nat)(W:World)(h:x<=1114111):
 Calls prog 228 #[.int .i32 (x:Int)] W fun e w'=>e=.returned (.int .i32 (YZ x))/\∃q,w'=W.drewN q:=by
 have hw:∀q,YZ x=q->YZ (x:Int)=q:=fun _ h=>h;rcases(by omega:x<48∨(48<=x/\x<=57)∨(57<x/\x<65)∨(65<=x/\x<=90)∨(90<x/\x<97)∨(97<=x/\x<=122)∨122<x)with k|k|k|k|k|k|k
 · have a1:¬(65:Int)<=x:=by omega
   have a2:¬(97:Int)<=x:=zb;have a3:¬(48:Int)<=x:=zb;exact O1
 · have a1:¬(65:Int)<=x:=by omega
   have a2:¬(97:Int)<=x:=zb;have a3:(48:Int)<=x:=zb;have a4:(x:Int)<=57:=zb;exact Td
 · have a1:¬(65:Int)<=x:=by omega
   have a2:¬(97:Int)<=x:=zb;have a3:(48:Int)<=x:=zb;have a4:¬(x:Int)<=57:=zb;exact O1
 · have a1:(65:Int)<=x:=by omega
   have a2:(x:Int)<=90:=zb;exact Td
 · have a1:(65:Int)<=x:=by omega
   have a2:¬(x:Int)<=90:=zb;have a3:¬(97:Int)<=x:=zb;have a5:(48:Int)<=x:=zb;have a4:¬(x:Int)<=57:=zb;exact O1
 · have a1:(65:Int)<=x:=by omega
   have a2:¬(x:Int)<=90:=zb;have a3:(97:Int)<=x:=zb;have a4:(x:Int)<=122:=zb;exact Td
 · have a1:(65:Int)<=x:=by omega
   have a2:¬(x:Int)<=90:=zb;have a3:(97:Int)<=x:=zb;have a4:¬(x:Int)<=122:=zb;have a5:(48:Int)<=x:=zb;have a6:¬(x:Int)<=57:=zb;exact O1
theorem AU(d:Dv)(w:World)(h1:d.sb.size<=1000)(h2:d.og.size<=1000):
 Calls prog 226 #[.agg (zq d)] w fun e w'=>e=.returned (.string (Ue d.d))/\Below w.heap.size w w':=by
 have hb:=zL w (.cells (zq d) zp);have HB:=za hb;clear hb;have e:Ue d.d=d.sb++⟨#[58]⟩++d.og:=rfl;rw[e];clear e;have q1:(9223372036854775807<d.sb.size+1)=False:=zK;have q2:(9223372036854775807<d.sb.size+1+d.og.size)=False:=zK;unfold zq at*;go_enter func226,ntmps226;go_wp2;go_ret;exact⟨rfl,HB.out⟩
theorem Sm:∀{r:List Dd},UF r->∀n,∀y∈(qv r n).tail,y.ix≠n
 | [],_,_,y,h=>qI
 | d ::r,hw,n,y,h=>by
   rw[qv]at h
   split at h
   · rename_i hd;have hy:=Jh _ _ _ h;rw[<-hd];exact hw.2.1 y hy
   · exact Sm hw.2.2.2 n y h
theorem RF{l:List Dd}{n:Int}{x:Dd}(hw:Z8 l)(h:zC l n=some x):∃r,zW l n=x::r/\(zW l n).filter (fun d=> !(d.ix==n))=r:=by
 have h1:=Gr hw h;refine⟨zW l x.pa,h1,?_⟩;have h2:∀y∈zW l x.pa,y.ix≠n:=fun y hy=>Sm hw n y (by show y∈(zW l n).tail;rw[h1];exact hy);rw[h1,List.filter_cons_of_neg (by simp[(Xz h).2]),List.filter_eq_self.2 (fun y hy=>by simp[h2 y hy])]
structure K3(w:World):Prop extends Env0 w where
 u8:Lib.Utf8Tabs 2 3 w
theorem K3.go{w w':World}(h:K3 w)(hb:Below w.heap.size w w'):K3 w':=⟨h.toEnv0.go hb,Utf8Tabs_below h.u8 hb⟩
theorem S6(W:World)(cs:Array Value)(T:TypeId)(k n:Nat)(h:cs.size=n*k):zE (W.alloc (.cells cs T)) (some ⟨W.heap.size,0,none⟩) k n cs.toList:=
 ⟨⟨by simp[h],fun _=>⟨W.heap.size,0,rfl,zl,fun j u hu=>by
   rw[zk4];exact zd (i5 W _) L3⟩⟩,fun a e=>by cases e;exact⟨rfl,zl⟩⟩
theorem zfb(n:Nat)(parts:Array (Nat×Value)):Instr.buildSlice 31 n parts=Yy 31 n parts:=K6
theorem ziq(a0 a1 b0 b1:Value)(cells:Array Value)(h:cells.size=4):Instr.fill (fun i=>some (i*2,2)) cells [(0,.agg #[a0,a1]),(1,.agg #[b0,b1])]=some #[a0,a1,b0,b1]:=by
 obtain⟨l⟩:=cells
 match l,h with
 | [c0,c1,c2,c3],_=>rfl
theorem E2{t e:TypeId}{z:Value}{k b:Nat}(hu:prog.underlying t=some (.slice e))(hi:(prog.info? e).map (fun i=>(i.zero,i.size,i.bytes))=some (some z,k,b))(a0 a1 b0 b1:Value)(hk:k=2)(w:World):
 (Yy t 2 #[(0,.agg #[a0,a1]),(1,.agg #[b0,b1])]).run prog w=.ok (.slice (some ⟨w.heap.size,0,none⟩) 2 2) (w.alloc (.cells #[a0,a1,b0,b1] e)):=by
 subst hk;obtain⟨i0,hi0,hz0,hz1,hz2⟩:=info_parts hi;unfold Yy;refine run_buildSlice w _ _ 2 _ #[a0,a1,b0,b1] i0 z hu hi0 hz0 IT IT ?_;rw[hz1];exact ziq _ _ _ _ _ zl
theorem Sv{s:ByteArray}(h:s.size<=256):s.extract 0 256=s:=by
 have:L (s.extract 0 256)=L s:=Ff;have e:=congrArg bs this;rwa [Yl,Yl]at e
attribute [local go_sem ↓] zfb
theorem zh9(A:Option Addr)(c:Nat)(ds:List Dv)(n:Int)(w:World)(h:qj w A ds)(hi:∀d∈zm ds,Xh d/\d.sb.size<=1000)(hwf:Z8 (zm ds))(r1: -9223372036854775808<=n)(r2:n<=9223372036854775807)(hE:K3 w):
 Calls prog 191 #[zV A ds c,.int .i64 n] w (Yv w (Uv (zm ds) n)):=by
 obtain⟨w1,hw1⟩:∃w1,w.alloc (.cells #[.slice A ds.length c] 30)=w1:=⟨_,rfl⟩;have hb1:Below w.heap.size w w1:=ZX;have HF:=za (VD A c ds n w1 (h.keep hb1));have HO:=za (fun(W:World) (hb:Below w.heap.size w W)=>jK A c ds n W (h.keep hb) (fun d hd=>(hi d hd).1) hwf r1 r2);have HB1:=za hb1;have HE:=za hE;have HW:=za hw1;have h0:w1.heap[w.heap.size]? =some (.cells #[.slice A ds.length c] 30 (0,0)):=Qo;have H0:=za h0;cases hf:zC (zm ds) n with
 | none=>
   have hr:Uv (zm ds) n=[]:=by unfold Uv;rw[hf]
   rw[hr];rw[hf]at HF;unfold YC at HF;clear hr hf h hi r1 r2 hE hb1 HO h0 hw1 hwf;unfold zV at*;generalize ds.length=N at*;go_enter func191,ntmps191;exact Bk
 | some d=>
   obtain⟨rs,hch,hrs⟩:=RF hwf hf;have hr:Uv (zm ds) n=[⟨I0,Xp (d::rs)⟩,⟨I1,bs (Lib.mapD YZ (L (Xp (d::rs))))⟩]:=by unfold Uv;rw[hf,hch]
   rw[hr];rw[hf]at HF;have hd:=hi d (Xz hf).1;have hsbd:=hd.2;have hogd:=hd.1.og;have HRs:=za (fun y (hy:y∈rs)=>hi y (Jj (l:=zm ds) (n:=n) Dg));have hrl:rs.length<1000:=EL;have HAl:=za (fun y (hy:y∈rs)=>(show y.ats.length<=1000 from by
    have:=Jj (l:=zm ds) (n:=n) Dg;obtain⟨z,hz,rfl⟩:=List.mem_map.1 this;exact h.al z hz))
   unfold YC at HF;unfold G2 at HO;rw[hrs]at HO;clear hr hf h hi r1 r2 hE hb1 h0 hw1 hwf hd hch hrs;unfold zV at*;generalize ds.length=N at*;go_enter func191,ntmps191;go_upto_region 1 with fail
   rw[HW.out];go_wp2_with (first
    |(go_at_call 9;refine HF.out.mono ?_;rintro e w2 ⟨x,rfl,hx,-,-,hb2⟩;have Hx:=za hx;clear hx;have HB2:=za (bt HB1.out hb2);have hc0:=(hb2.block _ (zh H0.out)).trans H0.out;have hrow:=i5 w2 (.cells (zq qd) zp);have hc1:=za (((Vi w2 x).1.block _ (zh hc0)).trans hc0);have HL:=za (Vi w2 x);have HPt:=za (fun W=>AU x W (by have:=congrArg Dd.sb Hx.out;have e:x.sb=d.sb:=this;rw[e];exact hsbd) (by have:=congrArg Dd.og Hx.out;have e:x.og=d.og:=this;rw[e];exact hogd));clear hb2 hc0)
    |(refine wpList_load_row rfl 30 _ rfl _ rfl _ _ _ _ (by first|exact hc2.out|exact hc1.out|exact H0.out) underlying30 rfl J4 ?_)
    |(refine wpList_load_row rfl 43 _ rfl _ rfl _ _ _ _ HL.out.2 underlying43 rfl Zf ?_)
    |(refine wpList_store_row rfl 43 _ _ rfl _ _ rfl rfl _ _ hrow Zf rfl qP ?_)
    |(go_at_call 226;refine(HPt.out _).mono ?_;rintro e w3 ⟨rfl,hb3⟩;have HB3:=za (bt HB2.out (bt HL.out.1 hb3));have hc2:=za ((hb3.block _ (zh hc1.out)).trans hc1.out);clear hb3)
    |(go_at_call 11;refine(HO.out _ HB3.out).mono ?_;rintro e w5 ⟨A5,c5,ms,rfl,hms,hown,hin,hb5⟩;have HB5:=za (bt HB3.out hb5);have HMs:=za hms;have hT:qj w5 A5 ms:=⟨(zE.of_own hown).1,fun y hy=>(hin y hy).1,(by have:=congrArg List.length hms;rw[W7]at this;omega),(fun y hy=>HAl.out y.d (by rw[<-HMs.out];exact zd8 hy))⟩;have HT:=za hT;clear hms hown hin hb5 hT))
   have hM:ms.length=rs.length:=by rw[<-HMs.out,W7]
   obtain⟨M,hMM⟩:∃M,ms.length=M:=⟨_,rfl⟩;have HM:=za hMM;have HRl:=za (show rs.length=M from by rw[<-hM];exact hMM);have hM1:M<1000:=by rw[<-hMM,hM];exact hrl
   rw[hMM];clear hrl hM hMM hc1 hc2 hrow HF HO H0 HPt HAl;go_loopg [25,7,9] (M+1) (fun gk s25 s7 _ wr=>∃(k:Nat) (p:ByteArray),s25=.int .i64 k/\s7=.string p/\k+gk=M+1/\k<=M/\p.size<=2001+k*2002/\Hid (p=(rs.take k).foldl (fun p a=>Ue a++JF++p) (Ue x.d))/\Hid (Below w5.heap.size w5 wr))
   case atStart=>
    refine⟨0,Ue x.d,rfl,rfl,zb,X1 _,?_,rfl,zj⟩;rw[Hx.out];show(d.sb++T3++d.og).size<=_;simp only[ByteArray.size_append];show d.sb.size+1+d.og.size<=_;omega
   case round=>
    obtain⟨k,p,rfl,rfl,hkg,hkM,hpz,HP,HL⟩:=hrel;by_cases hlt:k<M
    · have hltI:(k:Int)<(M:Int):=by omega
      obtain⟨y,hy⟩:∃y,ms[k]? =some y:=⟨_,l0 PC⟩;have hyd:rs[k]? =some y.d:=by rw[<-HMs.out,zd4,hy];rfl
      obtain⟨g1,g2⟩:=HRs.out y.d (X7 hyd);have g3:=g1.og;have hte:(rs.take (k+1)).foldl (fun p a=>Ue a++JF++p) (Ue x.d)=Ue y.d++JF++p:=by
       rw[HP.out,List.take_add_one,hyd,List.foldl_append];rfl
      obtain⟨q,hq⟩:∃q,Ue y.d=q:=⟨_,rfl⟩;have HPy:=za (fun W=>AU y W g2 g3);have hqz:q.size<=2001:=by
       rw[<-hq];show(y.sb++T3++y.og).size<=_;simp only[ByteArray.size_append];have g2:y.sb.size<=1000:=g2;have g3:y.og.size<=1000:=g3;show y.sb.size+1+y.og.size<=_;omega
      rw[hq]at HPy hte;have HTE:=za hte;obtain⟨b,off,rfl,hb,hten⟩:=HT.out.ten hy;obtain⟨e0,e1,e2,e3,e4,e5,e6,e7,e8,e9⟩:=hten wr HL.out;have z1:(9223372036854775807<q.size+1)=False:=zK;have z2:(9223372036854775807<q.size+1+p.size)=False:=zK;clear hy hyd g1 g2 g3 hte hq hten;go_wp2_with (go_at_call 226;refine(HPy.out _).mono ?_;rintro e w7 ⟨rfl,hb7⟩;have HB7:=za (bt (zP HL.out) hb7);clear hb7)
      go_roundg (gk - 1)
      case measure=>omega
      case rel=>
       refine⟨k+1,q++⟨#[45]⟩++p,zU,rfl,zb,zb,?_,za HTE.out.symm,HB7⟩;simp only[ByteArray.size_append];show q.size+1+p.size<=_;omega
    · obtain rfl:k=M:=by omega
      have XR:Xp (d::rs)=p.extract 0 256:=by
       rw[HP.out,List.take_of_length_le (by rw[HRl.out];exact zo),Hx.out];rfl
      have HpT:=za XR;clear XR;have hEw:=HE.out.go (bt HB5.out HL.out);have HMap:=za (fun(s:ByteArray) (hs:s.size<=100000000)=>strings_Map_runes 228 #[] (fun _ _=>rfl) YZ s wr zb (fun W x hx _=>zbR x W hx) (fun x hx=>by unfold YZ;split<;>omega) hEw.u8);have HLw:=za (bt HB5.out HL.out);by_cases hq:p.size<=256
      · have hqi:(p.size:Int)<=256:=by omega
        have hmi:min (p.size:Int) 256=(p.size:Int):=zb;obtain⟨m,hm⟩:∃m:ByteArray,(⟨(Lib.mapD YZ p.data.toList).toArray⟩:ByteArray)=m:=⟨_,rfl⟩;have HMm:=za hm;have HMp:=za (HMap.out p zb);rw[hm]at HMp;clear hm;go_wp2_with (go_at_call 227;refine HMp.out.mono ?_;rintro e w7 ⟨rfl,hb7⟩;have HB7:=za hb7;have hbs:=E2 underlying31 V0 (.string ⟨#[73,68,95,80,65,84,72]⟩) (.string p) (.string ⟨#[73,68,95,80,65,84,72,95,84,65,71]⟩) (.string m) rfl w7;clear hb7)
        go_ret;rw[HpT.out,Sv hq];have em:bs (Lib.mapD YZ (L p))=m:=HMm.out;rw[em];exact⟨some ⟨w7.heap.size,0,none⟩,2,rfl,⟨S6 w7 #[.string I0,.string p,.string I1,.string m] _ 2 2 rfl,zo,Fg,fun e=>ZK⟩,zP (bt HLw.out HB7.out)⟩
      · have hqi:¬(p.size:Int)<=256:=by omega
        have hmi:min (p.size:Int) 256=256:=zb;have hqn:256<=p.size:=zb;have hqj:(256:Int)<=(p.size:Int):=zb;obtain⟨m,hm⟩:∃m:ByteArray,(⟨(Lib.mapD YZ (p.extract 0 256).data.toList).toArray⟩:ByteArray)=m:=⟨_,rfl⟩;have HMm:=za hm;have HMp:=za (HMap.out (p.extract 0 256) Ic);rw[hm]at HMp;clear hm;go_wp2_with (go_at_call 227;refine HMp.out.mono ?_;rintro e w7 ⟨rfl,hb7⟩;have HB7:=za hb7;have hbs:=E2 underlying31 V0 (.string ⟨#[73,68,95,80,65,84,72]⟩) (.string (p.extract 0 256)) (.string ⟨#[73,68,95,80,65,84,72,95,84,65,71]⟩) (.string m) rfl w7;clear hb7)
        go_ret;rw[HpT.out];have em:bs (Lib.mapD YZ (L (p.extract 0 256)))=m:=HMm.out;rw[em];exact⟨some ⟨w7.heap.size,0,none⟩,2,rfl,⟨S6 w7 #[.string I0,.string (p.extract 0 256),.string I1,.string m] _ 2 2 rfl,zo,Fg,fun e=>ZK⟩,zP (bt HLw.out HB7.out)⟩
end
section
open Go.RowKit Go.Maps
theorem GU{W:World}{M n:Nat}{D:DW}(h:U3 W M n D)(hn:n<100)(k:Int)(h1: -9223372036854775808<=k)(h2:k<=9223372036854775807)(v:ByteArray)(hv:v.size<=1000):
 ∃W',(Instr.mapUpdate 90 (.map (some M)) (.int .i64 k) (.string v)).run prog W=.ok () W'/\U3 W' M (n+1) (D.put (.int .i64 k) (.lit (.string (L v))))/\W.grownBy W' (some M):=
 World.ownsMap.update h KJ underlying90 ql (KE h1 h2) (plainElem_string underlying9 ql)
abbrev Kx:List (Int×DW):=[(5,.lit (.string (L (Yb 5)))),(4,.lit (.string (L (Yb 4)))),(3,.lit (.string (L (Yb 3)))),(2,.lit (.string (L (Yb 2)))),(1,.lit (.string (L (Yb 1))))]
theorem zfs(k:Int):(Yh Kx k).getD (.lit (.string []))=.lit (.string (L (Yb k))):=by
 unfold Yh Kx;by_cases h5:k=5
 · subst h5;rfl
 by_cases h4:k=4
 · subst h4;rfl
 by_cases h3:k=3
 · subst h3;rfl
 by_cases h2:k=2
 · subst h2;rfl
 by_cases h1:k=1
 · subst h1;rfl
 have e:∀m:Int,k≠m->(m==k)=false:=fun m h=>by simpa using fun e=>h e.symm
 simp only[List.find?_cons,e 5 h5,e 4 h4,e 3 h3,e 2 h2,e 1 h1];unfold Yb;rw[if_neg h1,if_neg h2,if_neg h3,if_neg h4,if_neg h5];rfl
theorem zkI{W:World}{m n:Nat}(h:U3 W m n (Qk Kx)){z:Int}(h1: -9223372036854775808<=z)(h2:z<=9223372036854775807):
 (Instr.lookup 90 (.map (some m)) (.int .i64 z) false).run prog W=.ok (.string (Yb z)) W:=by
 obtain⟨v,ps,hrun,hv⟩:=World.ownsMap.lookup h KJ underlying90 (zeroValue9 W) (plainElem_string (H:=Unit) underlying9 (s:=⟨#[]⟩) zi) (KE h1 h2);have hat:(Qk Kx).atKey (.int .i64 z) (.lit (.string []))=.lit (.string (L (Yb z))):=by rw[Ih,zfs]
 change plainElem prog 9 v=some ((Qk Kx).atKey (.int .i64 z) (.lit (.string [])),ps)at hv;rw[hat]at hv;obtain⟨t,rfl,ht,_⟩:=plainElem_string_inv underlying9 hv;have e:L (Yb z)=L t:=Dt;have e2:Yb z=t:=by rw[<-Yl (Yb z),e,Yl]
 rw[hrun,e2]
theorem zce(w:World):Calls prog 230 #[] w fun e w'=>∃M n,e=.returned (.map (some M))/\U3 w' M n (Qk Kx)/\Below w.heap.size w w':=by
 have hm:=run_makeMap (P:=prog) 90 w;have h0:U3 (w.alloc (.map #[] 0)) w.heap.size 0 (Qk []):=World.ownsMap_made _ _ _ _;obtain⟨w1,e1,h1,g1⟩:=GU h0 zi 1 zi zi (Yb 1) zi;obtain⟨w2,e2,h2,g2⟩:=GU h1 zi 2 zi zi (Yb 2) zi;obtain⟨w3,e3,h3,g3⟩:=GU h2 zi 3 zi zi (Yb 3) zi;obtain⟨w4,e4,h4,g4⟩:=GU h3 zi 4 zi zi (Yb 4) zi;obtain⟨w5,e5,h5,g5⟩:=GU h4 zi 5 zi zi (Yb 5) zi;have HEnd:Hid (U3 w5 w.heap.size 5 (Qk Kx)/\Below w.heap.size w w5):=za ⟨h5,by
  have g:=(((g1.trans g2).trans g3).trans g4).trans g5;exact(zL w (.map #[] 0)).grown g (zL w (.map #[] 0)).size (fun j e=>ZD)⟩
 change (Instr.mapUpdate _ _ _ (.string ⟨#[102,105,108,101,115,121,115,116,101,109]⟩)).run _ _=_ at e1;change (Instr.mapUpdate _ _ _ (.string ⟨#[114,97,105,100]⟩)).run _ _=_ at e2;change (Instr.mapUpdate _ _ _ (.string ⟨#[99,114,121,112,116,111]⟩)).run _ _=_ at e3;change (Instr.mapUpdate _ _ _ (.string ⟨#[109,101,109,98,101,114]⟩)).run _ _=_ at e4;change (Instr.mapUpdate _ _ _ (.string ⟨#[116,97,98,108,101]⟩)).run _ _=_ at e5;clear h0 h1 h2 h3 h4 h5 g1 g2 g3 g4 g5;go_enter func230,ntmps230;go_wp2;go_ret;exact⟨_,5,rfl,HEnd.out⟩
end
end Go.Proofs.YtecbmndgpepkcaaGreatDoor

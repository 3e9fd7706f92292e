/- Contracts that the law rests on, each under the premises that it names. -/
import Derived.Test.YtecbmndgpepkcaaGreatDoorG35
import Derived.Lib.ItoaLen
import Derived.Test.YtecbmndgpepkcaaGreatDoorFini
namespace Go.Proofs.YtecbmndgpepkcaaGreatDoor
open Tryz
set_option maxHeartbeats 8000000
set_option maxRecDepth 100000
section
open Go.RowKit
attribute [local go_sem ↓] JS GP ZU
theorem ziC (g:Nat)(c:zt)(x:Em)(kd:Nat)(y:Rl)(w:World)(h:zR w g c x)(hz:KK c)(hgd:zH x.e.dr kd)(hkd:kd+2*y.tms.l.length<=100000)(hE:Z2 w)(hg:nG<=g)(hr:zE w y.tms.A 4 y.tms.l.length (cellsOf zQ y.tms.l))(hnil:y.tms.A=none->y.tms.c=0)(hoff:∀p,y.tms.A=some p->p.block≠g)(hl:y.tms.l.length<=1000)(hv:∀t∈y.tms.l,t.value.size<=1000000)(hR:∀t∈y.tms.l,t.key=14->kx c):
 Calls prog 57 #[.pointer (some ⟨g,0,none⟩),.agg #[.string y.file,.int .i64 y.line,.slice y.tms.A y.tms.l.length y.tms.c]] w (EvR w g c x (qw c.c x.e y.tms.l).1 (.bool (qw c.c x.e y.tms.l).2)):=by
 obtain⟨fl,ln,⟨TA,tc,tl⟩⟩:=y;dsimp only at hkd hr hnil hoff hl hv hR⊢;obtain⟨w1,hw1⟩:∃w1,w.alloc (.cells #[.string fl,.int .i64 ln,.slice TA tl.length tc] 56)=w1:=⟨_,rfl⟩;have hb1:Below w.heap.size w w1:=ZX;have hr1:w1.heap[w.heap.size]? =some (.cells #[.string fl,.int .i64 ln,.slice TA tl.length tc] 56 (0,0)):=Qo;have h1:=h.keep hb1;have hld:=EZ h1.box;have hst:=LD h1.box c.dev;have hdo:∀p,c.dev.ats.A=some p->p.block≠g:=fun p e=>h.offc c.dev.ats.A (List.mem_append_left _ zl) p e;obtain⟨h2,g2⟩:=h1.abS zj c.dev h1.dev hdo;obtain⟨h3,g3⟩:=h2.reS false;have q53:=zd (j:=53) h2.box rfl;have f53:=qe h2.box 53;have hgl:g<w.heap.size:=zh h.box;obtain⟨W2,hW2⟩:∃W2,(w1.setRow g (qW c {x with ab:=c.dev})).setCell ⟨g,53,none⟩ (.bool false)=W2:=⟨_,rfl⟩;have hs2:W2.heap.size=w1.heap.size:=by rw[<-hW2];simp[World.setCell,World.setRow]
 have hs1:w1.heap.size=w.heap.size+1:=YO;rw[hW2]at h3 g3;obtain⟨x0,hx0⟩:∃x0:Em,x0={x with ab:=c.dev,re:=false}:=⟨_,rfl⟩;have HO2:Hid (zR W2 g c x0):=za (by rw[hx0];exact h3);have HG2:Hid (w.grownBy W2 (some g)):=za ((zG hb1 _).trans (g2.trans g3));have HX0:Hid (x0.e={x.e with ab:=c.c.dev,re:=false}):=za (by rw[hx0];rfl);have HF2:Hid (Uk c w x x0):=za ⟨fun a ha _ _=>Or.inr (by rw[hx0]at ha;exact ha),fun a ha p e=>by
  rw[hx0]at ha;rcases List.mem_append.1 ha with k1|k1
  · exact Or.inr (Or.inl (List.mem_append_left _ k1))
  · rw[List.mem_singleton.1 k1];exact Or.inr (Or.inr (List.mem_append_left _ zl))⟩
 have HRu:Hid (∀W:World,W2.grownBy W (some g)->W.cell? ⟨w.heap.size,0,none⟩=some (.string fl)/\W.cell? ⟨w.heap.size,1,none⟩=some (.int .i64 ln)/\W.cell? ⟨w.heap.size,2,none⟩=some (.slice TA tl.length tc)):=za fun W hW=>by
  have k1:w1.grownBy W2 (some g):=g2.trans g3;have k2:=((k1.trans hW).block w.heap.size (zh hr1) (fun e=>Vg)).trans hr1;exact⟨zd k2 rfl,zd k2 rfl,zd k2 rfl⟩
 have HRw:Hid (∀W:World,W2.grownBy W (some g)->zE W TA 4 tl.length (cellsOf zQ tl)):=za fun W hW=>(hr.keep hb1).grown ((g2.trans g3).trans hW) (fun p e k=>hoff p e (zx k));have HEn:Hid (∀W:World,W2.grownBy W (some g)->Z2 W):=za fun W hW=>hE.grown (HG2.out.trans hW) hg;have HZt:Hid (∀(z:Em) (k:Nat),zH z.e.dr k->k<=100000->z.e.ab∈zm c.tds->Xa c z k):=za fun z k k1 k2 k3=>hz.z z k k1 k2 k3;have HGd:Hid (zH x0.e.dr kd):=za (by rw[HX0.out];exact hgd);have HAb:Hid (x0.e.ab∈zm c.tds):=za (by rw[HX0.out];exact hz.dev);have HOk:=za hz.ok;have HV:=za hv;have hho:=(fun(W:World) (z:Em) (k:Nat) (t:Tm) (ht:t∈tl) (hW:W2.grownBy W (some g)) (ho:zR W g c z) (k1:zH z.e.dr k) (k2:k+1<=100000) (k3:z.e.ab∈zm c.tds)=>zh7 g c z k t ⟨fl,ln,⟨TA,tc,tl⟩⟩ W ho (HZt.out z k k1 zb k3) k2 (HEn.out W hW) hg (hv t ht) (HRw.out W hW) hnil hoff QW hv (hR t ht));dsimp only at hho;have HHo:=za hho;clear hho;have HAs:=za (fun(W:World) (z:Em) (k:Nat) (t:Tm) (ht:t∈tl) (hW:W2.grownBy W (some g)) (ho:zR W g c z) (k1:zH z.e.dr k) (k2:k+1<=100000) (k3:z.e.ab∈zm c.tds)=>zkc g c z k t W ho (HZt.out z k k1 zb k3) (HEn.out W hW).toEnv (hv t ht));have hlt2:w.heap.size<W2.heap.size:=zb;have HS2:=za hs2;have HS1:=za hs1;have HW1:=za hw1;have HW2:=za hW2;have HR1:=za hr1;clear h hz hgd hE hr hnil hoff hv hR hw1 hb1 h1 hdo h2 g2 h3 g3 hs2 hs1 hx0 hW2;generalize hres:qw c.c x.e tl=RES;have HRes:=za hres;clear hres;obtain⟨N,hN⟩:∃N,tl.length=N:=⟨_,rfl⟩;have HN:=za hN;rw[hN]at hkd hl⊢;rw[hN]at HRu HR1 HW1;clear hN;obtain⟨q0,q1,q2,q3,q4,q5,q6,q7,q8,q9⟩:True/\True/\True/\True/\True/\True/\True/\True/\True/\True:=zl;go_enter func57,ntmps57;go_upto_region 1 with fail
 rw[HW1.out];clear q0 q1 q2 q3 q4 q5 q6 q7 q8 q9;unfold zY at hld hst;go_upto_region 3 with fail
 rw[HW2.out];clear hld hst q53 f53;obtain⟨r0,r1,r2⟩:=HRu.out W2 (World.grownBy.refl _ _);go_wp2;clear r0 r1 r2;go_loopg [5,7,8,9,25] N (fun gk s5 _ _ _ s25 wr=>∃(k:Nat) (A:Option Addr) (cc:Nat) (xk:Em),s25=.int .i64 k/\k<=N/\k+gk=N/\s5=.slice A (Q7 tl k).length cc/\Hid (wr.ownsRow W2.heap.size Yi 4 (.slice A (Q7 tl k).length cc) (Q7 tl k).length (cellsOf zQ (Q7 tl k)))/\Hid (zR wr g c xk)/\Hid (W2.grownBy wr (some g))/\Hid (Zw c.c tl (tl.drop k) xk.e=Zw c.c tl tl x0.e)/\Hid (zH xk.e.dr (kd+k))/\Hid (xk.e.ab∈zm c.tds)/\Hid (Uk c W2 x0 xk)/\Hid (∀p,A=some p->Xn p.block xk.as))
 case atStart=>exact⟨0,none,0,x0,rfl,X1 _,zb,rfl,za (World.ownsRow_nil _ _ _ _),HO2,za (World.grownBy.refl _ _),za rfl,za HGd.out,HAb,za (Fr.same rfl rfl).c,za (fun p e=>ZK)⟩
 case round=>
  obtain⟨k,A,cc,xk,rfl,hk,hkg,rfl,HO,HX,HG,HM,HGk,HAk,HFk,HAp⟩:=hrel;by_cases hlt:k<N
  · have hlt':k<tl.length:=by rw[HN.out];exact hlt
    have hrow:=HRw.out wr HG.out;obtain⟨ba,off,rfl,c0,c1,c2,c3⟩:=hrow.row.tm zj hlt';have hbl:ba<wr.heap.size:=by have:=(hrow.pl _ rfl).2;exact this
    have hMk:=zkw c.c tl hlt' xk.e;rw[HM.out]at hMk;have hck:=zdD tl hlt';have hkt:=X8 hlt';have HHk:=za (fun(W:World) (hW:Below wr.heap.size wr W)=>HHo.out W xk (kd+k) tl[k] hkt (HG.out.trans (zG hW _)) (HX.out.keep hW) HGk.out zb HAk.out);rw[HN.out]at HHk;have HKd:=za (fun(W:World)=>zkd tl[k] W);have hgood:=vG (c:=c.c) HOk.out tl HGk.out tl[k];have habk:=zhr (c:=c.c) (l:=tl) (t:=tl[k]) (x:=xk.e) HAk.out;have hcl:=Ep tl k;generalize tl[k]=t at*;obtain⟨ky,nmm,op,vl⟩:=t;dsimp only at hMk hck HHk hgood habk;unfold qk at*;cases hm:qH op with
    | true =>
      rw[hm,if_pos rfl]at hMk hck;have hkv:J3 ⟨ky,nmm,op,vl⟩=.iface Ug (.agg #[.int .i64 ky,.string nmm,.int .i64 op,.string vl]):=by unfold J3;rw[hm];rfl
      rw[hkv]at HKd;clear hkv hm;generalize hhd:qJ c.c tl xk.e ⟨ky,nmm,op,vl⟩=hd at*;obtain⟨ev,bb⟩:=hd;dsimp only at hMk HHk hgood habk;have HMk:=za hMk;have HCk:=za hck;have HGo:=za hgood;have HAb2:=za habk;clear hMk hck hgood habk hhd hkt hrow hlt' HHo HAs HZt HEn;cases bb with
      | false=>
        go_wp2_with (first
         |(go_at_call 73;refine(HKd.out _).mono ?_;rintro e w3 ⟨rfl,hb3⟩;have HB3:=za (bt (zL wr _) hb3:Below wr.heap.size wr w3);have HG3:=za (HG.out.trans (zG HB3.out (some g)));have ha:=DR w3 (.agg #[.int .i64 ky,.string nmm,.int .i64 op,.string vl]);obtain⟨r0,r1,r2⟩:=HRu.out w3 HG3.out;(have hlw3:w.heap.size<w3.heap.size:=i4 hlt2 HG3.out.size);clear hb3)
         |(go_at_call 74;refine(HHk.out _ (zP HB3.out)).mono ?_;rintro e w4 ⟨x4,rfl,hx4,h4,g4,f4⟩;have HX4:=za hx4;have HO4:=za h4;have HG4:=za (HG2.out.trans (HG3.out.trans ((zG (zL w3 _) _).trans g4)));have HF4:=za (HF2.out.trans (HFk.out.trans (Uk.trans (Fr.same rfl rfl).c f4.c (i3 HG.out.size (i3 HB3.out.size (zL w3 _).size))) zo) HG2.out.size);clear hx4 h4 g4 f4))
        go_ret;have e9:=HMk.out;rw[if_neg zl]at e9;rw[HX0.out]at e9;have e8:=zfy e9;rw[HRes.out]at e8;rw[e8];exact⟨x4,rfl,HX4.out,HO4.out,HG4.out,HF4.out⟩
      | true =>
        go_wp2_with (first
         |(go_at_call 73;refine(HKd.out _).mono ?_;rintro e w3 ⟨rfl,hb3⟩;have HB3:=za (bt (zL wr _) hb3:Below wr.heap.size wr w3);have HG3:=za (HG.out.trans (zG HB3.out (some g)));have ha:=DR w3 (.agg #[.int .i64 ky,.string nmm,.int .i64 op,.string vl]);obtain⟨r0,r1,r2⟩:=HRu.out w3 HG3.out;(have hlw3:w.heap.size<w3.heap.size:=i4 hlt2 HG3.out.size);clear hb3)
         |(go_at_call 74;refine(HHk.out _ (zP HB3.out)).mono ?_;rintro e w4 ⟨x4,rfl,hx4,h4,g4,f4⟩;have HX4:=za hx4;have HO4:=za h4;have HG4:=za (HG3.out.trans ((zG (zL w3 _) _).trans g4));have HGr:=za ((zG (zP HB3.out) (some g)).trans g4);have HF4:=za f4;clear hx4 h4 g4 f4))
        go_roundg (gk - 1)
        case measure=>omega
        case rel=>
         have e9:=HMk.out;rw[if_pos trivial,<-HX4.out]at e9;have hsz:wr.heap.size<=(w3.alloc (.cells #[.int .i64 ky,.string nmm,.int .i64 op,.string vl] Ug)).heap.size:=i3 HB3.out.size (zL w3 _).size;refine⟨k+1,A,cc,x4,zU,zb,zb,by rw[HCk.out],?_,HO4,HG4,za e9.symm,za (by rw[HX4.out,<-zk5];exact HGo.out),za (by rw[HX4.out];exact HAb2.out),za (HFk.out.trans HF4.out.c (i3 HG.out.size hsz)),za (fun p e b hb q eq=>?_)⟩
         · rw[HCk.out];refine za (Xw HO.out HGr.out (fun j ej hv=>?_));have k1:=(HO.out.lt _ hv).1;have k2:=zx ej;omega
         · have hp:=qu HO.out p e;rcases HF4.out.a b hb q eq with k1|k1
           · have k2:=i3 hsz k1;omega
           · exact HAp.out p e b k1 q eq
    | false=>
      rw[hm,if_neg zl]at hMk hck;have hkv:J3 ⟨ky,nmm,op,vl⟩=.iface Yi (.agg #[.int .i64 ky,.string nmm,.int .i64 op,.string vl]):=by unfold J3;rw[hm];rfl
      rw[hkv]at HKd;have HMk:=za hMk;have HCk:=za hck;have HAp2:=za (fun(W:World) (hW:Below wr.heap.size wr W)=>zg7 (B:=W2.heap.size) (A:=A) (c:=cc) (l:=Q7 tl k) ⟨ky,nmm,op,vl⟩ W (qi HO.out hW) zb (i3 HG.out.size hW.size));clear hkv hm hMk hck hgood habk hkt hrow hlt' HHo HAs HZt HEn HHk;go_upto_region 13 with(go_at_call 73;refine(HKd.out _).mono ?_;rintro e w3 ⟨rfl,hb3⟩;have HB3:=za (bt (zL wr _) hb3:Below wr.heap.size wr w3);have HG3:=za (HG.out.trans (zG HB3.out (some g)));have ha:=zb6 w3 (.agg #[.int .i64 ky,.string nmm,.int .i64 op,.string vl]);have hb:=zaA w3 (.agg #[.int .i64 ky,.string nmm,.int .i64 op,.string vl]);obtain⟨r0,r1,r2⟩:=HRu.out w3 HG3.out;(have hlw3:w.heap.size<w3.heap.size:=i4 hlt2 HG3.out.size);clear hb3)
      obtain⟨A6,c6,w6,hap,hown,hgr,hat⟩:=HAp2.out (w3.alloc (.cells #[.int .i64 ky,.string nmm,.int .i64 op,.string vl] Yi)) (zP HB3.out);simp only[World.size_alloc]at hap;have HO6:=za hown;have HGr:=za hgr;have HAt:=za hat;clear hown hgr hat HAp2;go_wp2;go_roundg (gk - 1)
      case measure=>omega
      case rel=>
       have e9:=HMk.out;have hl9:(Q7 tl (k+1)).length=(Q7 tl k).length+1:=by rw[HCk.out];simp
       have hB3:Below wr.heap.size wr (w3.alloc (.cells #[.int .i64 ky,.string nmm,.int .i64 op,.string vl] Yi)):=zP HB3.out;have hX3:=HX.out.keep hB3;have hown9:∀b,(Value.slice A (Q7 tl k).length cc).ownBlock=some b->W2.heap.size<=b/\b<wr.heap.size/\∃p,A=some p/\p.block=b:=fun b hb=>Eo;have hgW2:g<W2.heap.size:=Lp;have hX6:zR w6 g c xk:=hX3.away HGr.out (fun b hb=>by
        obtain⟨k1,k2,p,k3,k4⟩:=hown9 b hb;refine⟨zb,fun a ha q e k5=>?_,?_⟩
        · have:=HO2.out.lowc a ha q e;omega
        · rw[<-k4];exact HAp.out p k3)
       refine⟨k+1,A6,c6,xk,zU,zb,zb,by rw[hl9],?_,hX6,?_,za e9.symm,za (HGk.out.mono zb),HAk,HFk,za (fun p e b hb q eq=>?_)⟩
       · rw[hl9,HCk.out];exact HO6
       · exact za (YL (HG.out.trans (zG hB3 _)) HGr.out (fun j ej=>Or.inl (hown9 j ej).1))
       · rcases HAt.out p e with k1|⟨q0,k1,k2⟩
         · have k3:=HX.out.lowx b hb q eq;have k4:=hB3.size;omega
         · rw[<-k2];exact HAp.out q0 k1 b hb q eq
  · obtain rfl:k=N:=by omega
    have hMe:=HM.out;rw[show tl.drop k=tl.drop tl.length by rw[HN.out],zjf]at hMe;have hcs:Q7 tl k=Q7 tl tl.length:=by rw[HN.out]
    have HYes:=za (zdF (c:=c.c) (x:=x.e) (l:=tl) (z:=xk.e) (by rw[<-HX0.out];exact hMe.symm));rw[HRes.out,<-hcs]at HYes;have hcl:=Ep tl k;have HMem:=za (fun t (ht:t∈Q7 tl k)=>zi7 ht);generalize Q7 tl k=cs at*;clear hMe hcs HM HHo;obtain⟨M,hM⟩:∃M,cs.length=M:=⟨_,rfl⟩;have HMl:=za hM;rw[hM]at hcl⊢;clear hM;obtain⟨wm,rfl⟩:∃wm:World,wm=wr:=⟨_,rfl⟩;have hgW2:g<W2.heap.size:=Lp;have hown9:∀b,(Value.slice A cs.length cc).ownBlock=some b->g<b:=fun b hb=>by
     obtain⟨p,e1,e2⟩:=ZQ hb;have:=qu HO.out p e1;rw[<-e2];omega
    have HOw:Hid (∀W:World,wm.grownBy W (some g)->W.ownsRow W2.heap.size Yi 4 (.slice A cs.length cc) cs.length (cellsOf zQ cs)):=za fun W hW=>Xw HO.out hW (fun j ej hv=>by
     have k1:=hown9 _ hv;have k2:=zx ej;omega)
    clear hown9;unfold qk at HAs;go_wp2;go_loopg [11,49] M (fun gk _ s49 wr=>∃(j:Nat) (xj:Em),s49=.int .i64 j/\j<=M/\j+gk=M/\Hid (zR wr g c xj)/\Hid (wm.grownBy wr (some g))/\Hid (xj.e=(cs.take j).foldl (Qa c.c) xk.e)/\Hid (zH xj.e.dr (kd+k+j))/\Hid (Uk c W2 x0 xj))
    case atStart=>exact⟨0,xk,rfl,X1 _,zb,HX,za (World.grownBy.refl _ _),za rfl,HGk,HFk⟩
    case round=>
     obtain⟨j,xj,rfl,hj,hjg,HXj,HGj,HEj,HDj,HFj⟩:=hrel;by_cases hjt:j<M
     · have hj':j<cs.length:=by rw[HMl.out];exact hjt
       have hown:=HOw.out wr HGj.out;obtain⟨ba,off,rfl,c0,c1,c2,c3⟩:=(zr.of_own hown).tm zj hj';have hbl:ba<wr.heap.size:=(qu hown _ rfl).2;have hjI:(j:Int)<(M:Int):=zb;have hAb:xj.e.ab∈zm c.tds:=by rw[HEj.out,FP];exact HAk.out
       have HAt:=za (fun(W:World) (hW:Below wr.heap.size wr W)=>HAs.out W xj (kd+k+j) cs[j] (HMem.out _ (X8 hj')) ((HG.out.trans HGj.out).trans (zG hW _)) (HXj.out.keep hW) HDj.out zb hAb);have HNx:=za (zkF c.c cs xk.e hj');have HGd2:=za (SB (c:=c.c) HDj.out cs[j] (HV.out _ (HMem.out _ (X8 hj'))));rw[<-HEj.out]at HNx;generalize cs[j]=t at*;obtain⟨ky,nmm,op,vl⟩:=t;dsimp only at c0 c1 c2 c3 HAt;clear hown hj' hAb HAs;go_wp2_with (go_at_call 75;refine(HAt.out _ zu).mono ?_;rintro e w4 ⟨x4,rfl,hx4,h4,g4,f4⟩;have HX4:=za hx4;have HO4:=za h4;have HG4:=za ((zG (zL wr _) (some g)).trans g4);have HF4:=za (Uk.trans (Fr.same rfl rfl).c f4.c (zL wr _).size:Uk c wr xj x4);clear hx4 h4 g4 f4)
       go_roundg (gk - 1)
       case measure=>omega
       case rel=>
        exact⟨j+1,x4,zU,zb,zb,HO4,za (HGj.out.trans HG4.out),za (by rw[HX4.out,HNx.out]),za jy,za (HFj.out.trans HF4.out (HG.out.trans HGj.out).size)⟩
     · obtain rfl:j=M:=by omega
       go_wp2;go_ret;have e9:=HEj.out;rw[show cs.take j=cs by rw[<-HMl.out,List.take_length]]at e9;rw[HYes.out];exact⟨xj,rfl,e9,HXj.out,HG2.out.trans (HG.out.trans HGj.out),HF2.out.trans HFj.out HG2.out.size⟩
end
section
open Go.RowKit
structure Vk(c:zt):Prop where
 ok:KS c.i
 dv:∀d∈zm c.tds,Xh d/\d.sb.size<=1000/\d.dr.size<=1000 /\ -9223372036854775808<=d.nb/\d.nb<=9223372036854775807/\∀a∈d.ats,a.val.size<=1000000
 wf:Z8 (zm c.tds)
 tl:c.tds.length<=100
 ix1: -9223372036854775808<=c.ix
 ix2:c.ix<=9223372036854775807
 hl:c.hs.l.length<=1000
 hc:∀y∈c.hs.l,y.cmd.size<=1000000
 act:c.act.size<=1000000
 pl:c.r.props.l.length<=1000
 pz:∀y∈c.r.props.l,y.name.size<=1000000
 al:∀d∈zm c.tds,d.al.size<=1000000
def zt.w(c:zt)(d:Dv)(o p:ByteArray):zt:={c with dev:=d,org:=o,pnt:=p}
theorem zkE(c d:UInt8)(s:ze):(s.flatMap fun b=>if b=c then [d]else [b]).length=s.length:=by
 induction s with
 |nil=>rfl
 | cons b r ih=>
   rw[List.flatMap_cons,r7,ih,u0]
   split<;>simp<;>omega
theorem y0{d:Dd}{s:ByteArray}(h:QH d=some s):s.size=d.og.size:=by
 unfold QH at h
 split at h
 · rw[<-zx h,Zg,jr _ _ _ zi,zkE,zF]
 · cases h
theorem zfQ{l:List Dd}{d:Dd}(h:∀x∈l,x.og.size<=1000):(pntS l d).size<=1000:=by
 unfold pntS
 split
 · rename_i p hp;cases hn:QH p with
   |none=>exact X1 _
   |some s=>show s.size<=1000;rw[y0 hn];exact h p (Xz hp).1
 · exact KP
def jv(c:zt)(w:World)(e:Ending)(w':World):Prop:=match zC (zm c.tds) c.ix with
 |none=>e=.returned (.tuple #[.pointer none,.int .i64 150])/\Below w.heap.size w w'
 |some d=>∃g dv x0,e=.returned (.tuple #[.pointer (some ⟨g,0,none⟩),.int .i64 0])/\dv.d=d/\x0.e=Q6 ⟨c.i,d,qK (zm c.tds) c.ix,pntS (zm c.tds) d⟩/\zR w' g (c.w dv (qK (zm c.tds) c.ix) (pntS (zm c.tds) d)) x0/\w.heap.size<=g/\(∀a∈x0.dr.as,∀p,a=some p->w.heap.size<=p.block)/\Below w.heap.size w w'
theorem zhn(parts:Array (Nat×Value)):Instr.build Ve parts=ZI Ve parts:=U7
theorem zhc(c:zt)(x:Dm)(d:Dv)(W:World):(ZI Ve #[(0,.agg (zI x)),(1,.agg (zJ c)),(2,.agg (zq d))]).run prog W=.ok (.agg (qW (c.w d ⟨#[]⟩ ⟨#[]⟩) ⟨x,qd,false⟩)) W:=Xr
theorem Jn(v:Value):Instr.loadAt qh v=qD qh v:=Kg
theorem km{w:World}{g:Nat}{c:zt}(h:w.heap[g]? =some (.cells (zJ c) qh (0,0))):(qD qh (.pointer (some ⟨g,0,none⟩))).run prog w=.ok (.agg (zJ c)) w:=by
 have h1:=UI (P:=prog) (w:=w) (T:=qh) (n:=17) (g:=g) (o:=0) (cs:=zJ c) (by exact isAgg37) (by exact sizeOf37) h (by show 0+17<=17;omega);rw[show(zJ c).extract 0 (0+17)=zJ c from by kernel_rfl]at h1;exact h1
theorem zR.orgS{w:World}{g:Nat}{c:zt}{x:Em}(h:zR w g c x)(s:ByteArray):zR (w.setCell ⟨g,41,none⟩ (.string s)) g (c.w c.dev s c.pnt) x/\w.grownBy (w.setCell ⟨g,41,none⟩ (.string s)) (some g):=by
 have gs:=qE w g 41 (.string s);have h2:=h.inp.grown gs h.offc;have h1:=(zt.mem h.offc).1;refine⟨⟨?_,⟨h2.tr,h2.rc,h2.hp⟩,h.dev.grown gs (Q8 h1 zl),h.dr.grown gs (fun a ha=>h.offx a (List.mem_append_left _ ha)),h.ab.grown gs (Q8 h.offx (List.mem_append_right _ zl)),h.offc,h.offx⟩,gs⟩;rw[NN h.box,show(qW c x).setIfInBounds 41 (.string s)=qW (c.w c.dev s c.pnt) x from by kernel_rfl];exact setRow_heap _ _ _ _ _ _ h.box
theorem zR.pntS{w:World}{g:Nat}{c:zt}{x:Em}(h:zR w g c x)(s:ByteArray):zR (w.setCell ⟨g,42,none⟩ (.string s)) g (c.w c.dev c.org s) x/\w.grownBy (w.setCell ⟨g,42,none⟩ (.string s)) (some g):=by
 have gs:=qE w g 42 (.string s);have h2:=h.inp.grown gs h.offc;have h1:=(zt.mem h.offc).1;refine⟨⟨?_,⟨h2.tr,h2.rc,h2.hp⟩,h.dev.grown gs (Q8 h1 zl),h.dr.grown gs (fun a ha=>h.offx a (List.mem_append_left _ ha)),h.ab.grown gs (Q8 h.offx (List.mem_append_right _ zl)),h.offc,h.offx⟩,gs⟩;rw[NN h.box,show(qW c x).setIfInBounds 42 (.string s)=qW (c.w c.dev c.org s) x from by kernel_rfl];exact setRow_heap _ _ _ _ _ _ h.box
theorem zek{w:World}{c:zt}{d:Dv}{x:Dm}(hi:Zu w c)(hd:ZM w d){B:Nat}(hx:ZG B w x):zR (w.alloc (.cells (qW (c.w d ⟨#[]⟩ ⟨#[]⟩) ⟨x,qd,false⟩) Ve)) w.heap.size (c.w d ⟨#[]⟩ ⟨#[]⟩) ⟨x,qd,false⟩:=by
 have hb:=zL w (.cells (qW (c.w d ⟨#[]⟩ ⟨#[]⟩) ⟨x,qd,false⟩) Ve);have hn:=hx.n;refine⟨qt,⟨(hi.keep hb).tr,(hi.keep hb).rc,(hi.keep hb).hp⟩,hd.keep hb,hn.keep hb,zE.nil,fun a ha p e=>?_,fun a ha p e=>?_⟩
 · subst e;refine Nat.ne_of_lt ?_;rcases List.mem_append.1 ha with h1|h1
   · simp only[List.mem_cons,List.not_mem_nil,or_false]at h1;rcases h1 with h1|h1|h1|h1|h1|h1|h1|h1
     · exact(hi.tr.row.pl p h1.symm).2
     · exact(hi.rc.pr.row.pl p h1.symm).2
     · exact(hi.rc.tg.row.pl p h1.symm).2
     · exact(hi.rc.lk.row.pl p h1.symm).2
     · exact(hi.rc.rn.row.pl p h1.symm).2
     · exact(hi.rc.ld.row.pl p h1.symm).2
     · exact(hi.hp.row.pl p h1.symm).2
     · exact(hd.pl p h1.symm).2
   · obtain⟨z,hz,h2⟩:=List.mem_map.1 h1;exact((hi.tr.inn z hz).pl p h2).2
 · subst e;refine Nat.ne_of_lt ?_;rcases List.mem_append.1 ha with h1|h1
   · simp only[Dm.as,List.mem_cons,List.not_mem_nil,or_false]at h1;rcases h1 with h1|h1|h1|h1|h1|h1
     · exact(hn.pr.row.pl p h1.symm).2
     · exact(hn.tg.row.pl p h1.symm).2
     · exact(hn.lk.row.pl p h1.symm).2
     · exact(hn.rn.row.pl p h1.symm).2
     · exact(hn.ld.row.pl p h1.symm).2
     · exact(hn.cl.row.pl p h1.symm).2
   · cases(List.mem_singleton.1 h1)
theorem kq(l:List At)(k v:ByteArray):(zO l k v).length<=l.length+1:=by
 unfold zO
 split
 · omega
 · exact Np _ _
theorem zer(l:List Dd)(n:Int):(YG l n).length<=1000:=by
 unfold YG
 split
 · rename_i d _;have key:∀(a:List At) (o:Option ByteArray),a.length<=4->(if d.kd=4 then zO (match o with|some v=>zO (zO a UY v) Vz (bs (Lib.itoa d.nb))|none=>a) kn d.og else(match o with|some v=>zO (zO a UY v) Vz (bs (Lib.itoa d.nb))|none=>a)).length<=7:=by
    intro a o ha;cases o with
    | none=>
      dsimp only
      split
      · have:=kq a kn d.og;omega
      · omega
    | some v=>
      dsimp only;have h1:=kq a UY v;have h2:=kq (zO a UY v) Vz (bs (Lib.itoa d.nb))
      split
      · have:=kq (zO (zO a UY v) Vz (bs (Lib.itoa d.nb))) kn d.og;omega
      · omega
   have h4:(zO (zO (zO (zO [] Jq (qK l n)) Jb d.sb) Jk d.dr) JH d.al).length<=4:=
    i3 (kq _ _ _) (Nat.succ_le_succ (i3 (kq _ _ _) (Nat.succ_le_succ (i3 (kq _ _ _) (Nat.succ_le_succ (kq _ _ _))))))
   exact i3 (key _ (QH d) h4) zi
 · exact KP
theorem Br{w:World}{g:Nat}{d:Dv}(h:w.heap[g]? =some (.cells (zq d) zp (0,0))):(qD zp (.pointer (some ⟨g,0,none⟩))).run prog w=.ok (.agg (zq d)) w:=
 UI (P:=prog) (w:=w) (T:=zp) (n:=10) (g:=g) (o:=0) (cs:=zq d) JJ Jp h (by show 0+10<=10;omega)
attribute [local go_sem ↓] zhn Jn JS
theorem zbO(c:zt)(w:World)(h:Zu w c)(hz:Vk c)(hE:Env0 w):
 Calls prog 56 #[.agg (zJ c)] w (jv c w):=by
 obtain⟨w1,hw1⟩:∃w1,w.alloc (.cells (zJ c) qh)=w1:=⟨_,rfl⟩;have hb1:Below w.heap.size w w1:=ZX;have hr1:w1.heap[w.heap.size]? =some (.cells (zJ c) qh (0,0)):=Qo;have hs1:w1.heap.size=w.heap.size+1:=YO;have HIn:Hid (∀W:World,Below w1.heap.size w1 W->W.cell? ⟨w.heap.size,1,none⟩=some (.slice c.tA c.tds.length c.tc)/\W.cell? ⟨w.heap.size,2,none⟩=some (.int .i64 c.ix)/\(qD qh (.pointer (some ⟨w.heap.size,0,none⟩))).run prog W=.ok (.agg (zJ c)) W):=za fun W hW=>by
  have h2:=(hW.block _ (zh hr1)).trans hr1;exact⟨zd h2 rfl,zd h2 rfl,km h2⟩
 have HFd:=za (fun(n:Int) (W:World) (hW:Below w.heap.size w W)=>VD c.tA c.tc c.tds n W (h.tr.keep hW));have hlW:w.heap.size<w1.heap.size:=zb;have HW1:=za hw1;have HB1:=za hb1;have HR1:=za hr1;have HH:=za h;have HZ:=za hz;have HE:=za hE;clear h hz hE hw1 hb1 hr1 hs1;unfold jv;have hx:zJ c=#[.string c.act,.slice c.tA c.tds.length c.tc,.int .i64 c.ix,.string c.r.path,.int .i64 c.r.ix,.slice c.r.props.A c.r.props.l.length c.r.props.c,.slice c.r.tags.A c.r.tags.l.length c.r.tags.c,.slice c.r.links.A c.r.links.l.length c.r.links.c,.slice c.r.run.A c.r.run.l.length c.r.run.c,.slice c.r.load.A c.r.load.l.length c.r.load.c,.string c.r.nam,.int .i64 c.r.prio,.string c.r.own,.string c.r.grp,.int .i64 c.r.mode,.slice c.hs.A c.hs.l.length c.hs.c,.int .i64 c.lim]:=rfl;rw[hx]at HW1⊢;clear hx;cases hf:zC (zm c.tds) c.ix with
 | none=>
   have HF1:=za (HFd.out c.ix w1 HB1.out);rw[hf]at HF1;unfold YC zV zY at HF1;dsimp only at HF1;clear HFd hf;go_enter func56,ntmps56;go_upto_region 1 with fail
   rw[HW1.out];obtain⟨c1,c2,_⟩:=HIn.out w1 zj;go_wp2_with (go_at_call 9;refine HF1.out.mono ?_;rintro e w2 ⟨rfl,hb2⟩)
   go_ret2;exact⟨rfl,bt HB1.out (zP hb2)⟩
 | some d=>
   have HF1:=za (HFd.out c.ix w1 HB1.out);rw[hf]at HF1;have HFs:=za hf;unfold YC zV at HF1;dsimp only at HF1;clear hf;go_enter func56,ntmps56;go_upto_region 1 with fail
   rw[HW1.out];obtain⟨c1,c2,_⟩:=HIn.out w1 zj;go_upto_region 4 with(go_at_call 9;refine HF1.out.mono ?_;rintro e w2 ⟨dv,rfl,hd1,hd2,hd3,hb2⟩;unfold zY)
   obtain⟨w3,hw3⟩:∃w3,w2.alloc (.cells (zq dv) zp)=w3:=⟨_,rfl⟩;have hr3:w3.heap[w2.heap.size]? =some (.cells (zq dv) zp (0,0)):=Pz;have hb3:Below w2.heap.size w2 w3:=Pd;have HW3:=za hw3;unfold zq at HW3;rw[HW3.out];have HB3:=za (bt hb2 hb3:Below w1.heap.size w1 w3);have HR3:=za hr3;have HD1:=za hd1;have HD2:=za (hd2.keep hb3);have HQ:Hid (∀W:World,Below w3.heap.size w3 W->(W.cell? ⟨w.heap.size,1,none⟩=some (.slice c.tA c.tds.length c.tc)/\W.cell? ⟨w.heap.size,2,none⟩=some (.int .i64 c.ix)/\(qD qh (.pointer (some ⟨w.heap.size,0,none⟩))).run prog W=.ok (.agg (zJ c)) W)/\(qD zp (.pointer (some ⟨w2.heap.size,0,none⟩))).run prog W=.ok (.agg (zq dv)) W):=za fun W hW=>⟨HIn.out W (bt HB3.out hW),Br ((hW.block _ (zh hr3)).trans hr3)⟩;have HBs:=za (fun(W:World) (hW:Below w.heap.size w W)=>zfr c.tA c.tc c.tds c.ix W (HH.out.tr.keep hW) (fun d hd=>(HZ.out.dv d hd).1) HZ.out.ix1 HZ.out.ix2 (HE.out.go hW) (fun d hd=>⟨(HZ.out.dv d hd).2.2.2.1,(HZ.out.dv d hd).2.2.2.2.1⟩));have hBl:=zer (zm c.tds) c.ix;unfold zV at HBs;have hbd:=fun(x:Dm) (W:World)=>zhc c x dv W;clear hw3 hr3 hb3 hd1 hd2 hd3 hb2 c1 c2
   go_region_held3 (fun W=>(W.cell? ⟨w.heap.size,1,none⟩=some (.slice c.tA c.tds.length c.tc)/\W.cell? ⟨w.heap.size,2,none⟩=some (.int .i64 c.ix)/\(qD qh (.pointer (some ⟨w.heap.size,0,none⟩))).run prog W=.ok (.agg (zJ c)) W)/\(qD zp (.pointer (some ⟨w2.heap.size,0,none⟩))).run prog W=.ok (.agg (zq dv)) W) ((refine HQ.out _ ?_;first|exact zj.drew|exact zP hB5|exact hB5|exact hB4)) ((first
    |(go_at_call 72;refine(HBs.out w3.drew (bt HB1.out (bt HB3.out zj.drew))).mono ?_;rintro e w4 ⟨BA,bc,rfl,hls,hb4⟩;(have hB4:Below w3.heap.size w3 w4:=bt zj.drew hb4))
    |(go_at_call 71;refine(zkz ⟨BA,bc,YG (zm c.tds) c.ix⟩ w4 hls hBl).mono ?_;rintro e w5 ⟨x,rfl,hxd,hxo,hb5⟩;(have hB5:Below w3.heap.size w3 w5:=bt hB4 hb5))))
   have H6:=za (zek (HH.out.keep (bt HB1.out (bt HB3.out hB5))) (HD2.out.keep hB5) hxo);have HB6:=za (zP hB5:Below w3.heap.size w3 (w5.alloc (.cells (qW (c.w dv ⟨#[]⟩ ⟨#[]⟩) ⟨x,qd,false⟩) Ve)));have HXd:=za hxd;have HLo:Hid (∀a∈x.as,∀p,a=some p->w.heap.size<=p.block):=za fun a ha p e=>by
    have k1:=hxo.lo a ha p e;have k2:=hB4.size;have k3:=HB3.out.size;have k4:=HB1.out.size;omega
   obtain⟨w6,hw6⟩:∃w6,w5.alloc (.cells (qW (c.w dv ⟨#[]⟩ ⟨#[]⟩) ⟨x,qd,false⟩) Ve)=w6:=⟨_,rfl⟩;rw[hw6]at H6 HB6⊢;have hg6:w3.heap.size<=w5.heap.size:=hB5.size;have HG6:=za hg6;generalize w5.heap.size=g at*;clear hw6 hbd hB5 hB4 hb5 hb4 hxo hxd hls hg6;obtain⟨⟨c1,c2,_⟩,_⟩:=HQ.out w6 HB6.out;have hlw6:w.heap.size<w6.heap.size:=i4 hlW (bt HB3.out HB6.out).size;have HK:Hid (∀W:World,w6.grownBy W (some g)->W.cell? ⟨w.heap.size,1,none⟩=some (.slice c.tA c.tds.length c.tc)/\W.cell? ⟨w.heap.size,2,none⟩=some (.int .i64 c.ix)/\W.cell? ⟨w2.heap.size,1,none⟩=some (.int .i64 dv.pa)):=za fun W hW=>by
    have k0:=zh HR3.out;have k1:w1.heap.size<=w3.heap.size:=HB3.out.size;have k2:w3.heap.size<=w6.heap.size:=HB6.out.size;have k3:=HG6.out;have h1:=((hW.block w.heap.size hlw6 (fun e=>Vg)).trans ((bt HB3.out HB6.out).block _ hlW)).trans HR1.out;have h2:=((hW.block w2.heap.size zb (fun e=>Vg)).trans (HB6.out.block _ k0)).trans HR3.out;exact⟨zd h1 rfl,zd h1 rfl,zd h2 rfl⟩
   have HOr:=za (TS c.tA c.tc c.tds c.ix w6 (HH.out.tr.keep (bt HB1.out (bt HB3.out HB6.out))) (fun d hd=>(HZ.out.dv d hd).1) HZ.out.ix1 HZ.out.ix2);unfold zV at HOr;obtain⟨on,hon⟩:∃on,qK (zm c.tds) c.ix=on:=⟨_,rfl⟩;rw[hon]at HOr;have HOn:=za hon;clear hon;go_upto_region 6 with(go_at_call 50;refine HOr.out.mono ?_;rintro e w7 ⟨rfl,hb7⟩;have h7:=H6.out.keep hb7;have HB7:=za hb7;have q41:=zd (j:=41) h7.box rfl;have f41:=qe h7.box 41;obtain⟨h8,g8⟩:=h7.orgS on;have H8:=za h8;have HG8:=za ((zG hb7 (some g)).trans g8);clear h7 h8 g8 hb7)
   obtain⟨w8,hw8⟩:∃w8,w7.setCell ⟨g,41,none⟩ (.string on)=w8:=⟨_,rfl⟩;rw[hw8]at H8 HG8⊢;clear hw8 q41 f41 c1 c2;obtain⟨c1,c2,c3⟩:=HK.out w8 HG8.out;have hlw8:w.heap.size<w8.heap.size:=i4 hlw6 HG8.out.size;have hgw:w.heap.size<=g:=by
    have k1:w1.heap.size<=w3.heap.size:=HB3.out.size;have k3:=HG6.out;omega
   have HLow:Hid (∀W:World,w6.grownBy W (some g)->Below w.heap.size w W):=za fun W hW=>(bt HB1.out (bt HB3.out HB6.out)).grown hW (bt HB1.out (bt HB3.out HB6.out)).size (fun j e=>Vg);have hdp:dv.pa=d.pa:=by rw[<-HD1.out];rfl
   have HP1:=HFd.out dv.pa w8 (HLow.out w8 HG8.out);rw[hdp]at HP1;have HX0:Hid ((⟨x,qd,false⟩:Em).e=Q6 ⟨c.i,d,on,pntS (zm c.tds) d⟩):=za (by unfold Em.e Q6;rw[HXd.out];rfl);cases hp:zC (zm c.tds) d.pa with
   | none=>
     rw[hp]at HP1;have hpn:pntS (zm c.tds) d=⟨#[]⟩:=by unfold pntS;rw[hp]
     rw[hpn]at HX0;have HPn:=za hpn;unfold YC zV zY at HP1;dsimp only at HP1;rw[<-hdp]at HP1;have HP:=za HP1;clear HP1 hp hpn hdp;go_wp2_with (go_at_call 9;refine HP.out.mono ?_;rintro e w9 ⟨rfl,hb9⟩;have HB9:=za (zP hb9:Below w8.heap.size w8 (w9.alloc (.cells #[.int .i64 0,.int .i64 0,.string ⟨#[]⟩,.string ⟨#[]⟩,.string ⟨#[]⟩,.string ⟨#[]⟩,.string ⟨#[]⟩,.int .i64 0,.int .i64 0,.slice none 0 0] zp)));clear hb9)
     go_ret2;refine⟨g,dv,⟨x,qd,false⟩,rfl,HD1.out,?_,?_,hgw,HLo.out,HLow.out _ (HG8.out.trans (zG HB9.out _))⟩
     · rw[HOn.out,HPn.out];exact HX0.out
     · rw[HOn.out,HPn.out];exact H8.out.keep HB9.out
   | some p=>
     rw[hp]at HP1;have hpn:pntS (zm c.tds) d=(QH p).getD ⟨#[]⟩:=by unfold pntS;rw[hp]
     rw[hpn]at HX0;have HPn:=za hpn;unfold YC zV zY at HP1;dsimp only at HP1;rw[<-hdp]at HP1;have HP:=za HP1;have HNd:=za (fun(pv:Dv) (hpv:pv.d=p) (W:World) (hW:Below w.heap.size w W)=>Te pv W (HE.out.go hW) (by have:=(HZ.out.dv p (Xz hp).1).1.og;rw[<-hpv]at this;exact this));unfold zq at HNd;clear HP1 hp hpn hdp;go_wp2_with (first
      |(go_at_call 9;refine HP.out.mono ?_;rintro e w9 ⟨pv,rfl,hp1,hp2,hp3,hb9⟩;have HP1:=za hp1;have HB9:=za (zP hb9:Below w8.heap.size w8 (w9.alloc (.cells #[.int .i64 pv.ix,.int .i64 pv.pa,.string pv.nam,.string pv.og,.string pv.sb,.string pv.dr,.string pv.al,.int .i64 pv.kd,.int .i64 pv.nb,.slice pv.ats.A pv.ats.l.length pv.ats.c] zp)));have hld9:=Br (w:=w9.alloc (.cells (zq pv) zp)) (g:=w9.heap.size) (d:=pv) qt;unfold zq at hld9;clear hb9 hp1 hp2 hp3)
      |(go_at_call 51;refine(HNd.out pv HP1.out _ (HLow.out _ (HG8.out.trans (zG HB9.out _)))).mono ?_;rintro e w10 ⟨rfl,hb10⟩;have h10:=(H8.out.keep HB9.out).keep hb10;have q42:=zd (j:=42) h10.box rfl;have f42:=qe h10.box 42;obtain⟨h11,g11⟩:=h10.pntS ((QH pv.d).getD ⟨#[]⟩);have H11:=za h11;have HG11:=za (HG8.out.trans ((zG (bt HB9.out hb10) _).trans g11));clear hb10 h10 h11 g11))
     go_ret2;refine⟨g,dv,⟨x,qd,false⟩,rfl,HD1.out,?_,?_,hgw,HLo.out,HLow.out _ HG11.out⟩
     · rw[HOn.out,HPn.out];exact HX0.out
     · rw[HOn.out,HPn.out,<-HP1.out];exact H11.out
end
section
open Go.RowKit
def XT(z:Int):List Value:=[.int .i64 z]
theorem zhG{B:Nat}{A:Option Addr}{c:Nat}{l:List Int}(t:Int)(w:World)(h:w.ownsRow B 3 1 (.slice A l.length c) l.length (cellsOf XT l))(hl:l.length<=1000000)(hB:B<=w.heap.size):
 ∃A' c' w',(Zv #[22,22] 22 #[.slice A l.length c,.slice (some ⟨w.heap.size,0,none⟩) 1 1]).run prog (w.alloc (.cells #[.int .i64 t] 3))=.ok (.slice A' (l.length+1) c') w'/\w'.ownsRow B 3 1 (.slice A' (l.length+1) c') (l.length+1) (cellsOf XT (l++[t]))/\w.grownBy w' (Value.slice A l.length c).ownBlock/\∀p,A'=some p->w.heap.size<=p.block∨∃q,A=some q/\q.block=p.block:=by
 obtain⟨i0,hi0,hz0,hz1,hz2⟩:=info_parts BP;obtain⟨v',w',h1,h2,h3,_,h5⟩:=run_append_own_at (P:=prog) (w.alloc (.cells #[.int .i64 t] 3)) B 22 22 3 i0 _ 1 8 underlying22 hi0 hz0 hz1 hz2 rfl zi (.slice A l.length c) l.length _ (qi h zu) ⟨w.heap.size,0,none⟩ 1 1 (XT t) rfl (fun j u hu=>by
  rw[Ua,zk4];exact zd (i5 w _) Gh) (by simp[XT,Value.oneCell']) ql zb (i3 hB (zL w _).size)
 rw[ZU]at h1;obtain⟨NA,nc,rfl⟩:=Qf h2;have hc:cellsOf XT (l++[t])=cellsOf XT l++XT t:=J7;refine⟨NA,nc,w',h1,K8,(zG (zL w _) _).trans h3,fun p hp=>?_⟩;have hpb:(Value.slice NA (l.length+1) nc).ownBlock=some p.block:=Ks;rcases h5 with k|k
 · exact JZ
 · rw[hpb]at k;have:=zx k;have:=(zL w (.cells #[.int .i64 t] 3)).size;exact Kb
theorem Ko{l:List At}{k v:ByteArray}{n:Nat}(h:Z1 l/\l.length<=n/\∀x∈l,x.val.size<=1000000)(hv:v.size<=1000000):Z1 (zO l k v)/\(zO l k v).length<=n+1/\∀x∈zO l k v,x.val.size<=1000000:=by
 refine⟨?_,i3 (kq _ _ _) (Nat.succ_le_succ h.2.1),?_⟩
 · unfold zO
   split
   · exact h.1
   · exact Pp h.1 _
 · intro x hx;unfold zO at hx
   split at hx
   · exact h.2.2 x hx
   · rcases Mg hx with h1|⟨rfl,_⟩
     · exact h.2.2 x h1
     · exact hv
theorem Ai{l:List Dd}(h:∀d∈l,d.og.size<=1000)(hl:l.length<=100)(n:Int)(_hw:Z8 l):(qK l n).size<=1000000:=by
 unfold qK;rw[Zg];have h1:=LV (r:=l.reverse) (fun d hd=>h d (List.mem_reverse.1 hd)) n;have h2:(qv l.reverse n).length<=l.reverse.length:=G5 _ _;rw[List.length_reverse]at h2;have:(orgS (zW l n)).length<=(zW l n).length*1001:=h1;have h3:(zW l n).length<=l.length:=h2;omega
theorem zfw{c:zt}(hz:Vk c):Z1 (YG (zm c.tds) c.ix)/\(YG (zm c.tds) c.ix).length<=64/\∀x∈YG (zm c.tds) c.ix,x.val.size<=1000000:=by
 unfold YG
 split
 · rename_i d hd;have hdm:=(Xz hd).1;have h1:=hz.dv d hdm;have hog:=h1.1.og;have ho:=Ai (fun x hx=>(hz.dv x hx).1.og) (by rw[VS];exact hz.tl) c.ix hz.wf;have h4:Z1 (zO (zO (zO (zO [] Jq (qK (zm c.tds) c.ix)) Jb d.sb) Jk d.dr) JH d.al)/\(zO (zO (zO (zO [] Jq (qK (zm c.tds) c.ix)) Jb d.sb) Jk d.dr) JH d.al).length<=4/\∀x∈zO (zO (zO (zO [] Jq (qK (zm c.tds) c.ix)) Jb d.sb) Jk d.dr) JH d.al,x.val.size<=1000000:=
    Ko (Ko (Ko (Ko ⟨List.Pairwise.nil,Nat.le_refl 0,fun _ h=>qI⟩ ho) zb) zb) (hz.al d hdm)
   have key:∀(a:List At) (o:Option ByteArray),(∀v,o=some v->v.size<=1000000)->(Z1 a/\a.length<=4/\∀x∈a,x.val.size<=1000000)->∀r,r=(if d.kd=4 then zO (match o with|some v=>zO (zO a UY v) Vz (bs (Lib.itoa d.nb))|none=>a) kn d.og else(match o with|some v=>zO (zO a UY v) Vz (bs (Lib.itoa d.nb))|none=>a))->Z1 r/\r.length<=64/\∀x∈r,x.val.size<=1000000:=by
    intro a o hv ha r hr;cases o with
    | none=>
      dsimp only at hr;rw[hr]
      split
      · have h5:=Ko (k:=kn) ha (show d.og.size<=1000000 by omega);exact⟨h5.1,zb,h5.2.2⟩
      · exact⟨ha.1,zb,ha.2.2⟩
    | some v=>
      dsimp only at hr;rw[hr];have hb:=Ko (k:=Vz) (Ko (k:=UY) ha (hv v rfl)) (show(bs (Lib.itoa d.nb)).size<=1000000 by rw[Zg];exact i3 (Lib.itoa_length_le d.nb h1.2.2.2.1 h1.2.2.2.2.1) zi)
      split
      · have h5:=Ko (k:=kn) hb (show d.og.size<=1000000 by omega);exact⟨h5.1,zb,h5.2.2⟩
      · exact⟨hb.1,zb,hb.2.2⟩
   exact key _ (QH d) (fun v hv=>by rw[y0 hv];omega) h4 _ rfl
 · exact⟨List.Pairwise.nil,X1 _,fun _ h=>qI⟩
theorem Ld{c:zt}(hz:Vk c):zH (RU (YG (zm c.tds) c.ix)) 0:=by
 have h:=zfw hz;refine⟨h.1,h.2.1,h.2.2,List.Pairwise.nil,X1 _,List.Pairwise.nil,X1 _,X1 _,List.Pairwise.nil,X1 _,X1 _,X1 _,X1 _,⟨Int.le_refl _,Int.le_refl _⟩,⟨Int.le_refl _,by show(0:Int)<=1000*((0:Nat):Int);omega⟩,fun _ h=>qI⟩
theorem KK.of{c:zt}(hz:Vk c){d:Dd}(hd:zC (zm c.tds) c.ix=some d){dv:Dv}(he:dv.d=d):KK (c.w dv (qK (zm c.tds) c.ix) (pntS (zm c.tds) d)):=by
 refine⟨hz.ok,hz.dv,hz.wf,hz.ix1,hz.ix2,by show dv.d∈_;rw[he];exact(Xz hd).1,Ai (fun x hx=>(hz.dv x hx).1.og) (by rw[VS];exact hz.tl) c.ix hz.wf,i3 (zfQ fun x hx=>(hz.dv x hx).1.og) zi,hz.hl,hz.hc,hz.act,hz.pl,hz.pz⟩
structure Zt(w:World)(A:Option Addr)(rl:List Rl):Prop where
 row:zr w w.heap.size A 3 rl.length (cellsOf Zi rl)
 inn:∀y∈rl,zE w y.tms.A 4 y.tms.l.length (cellsOf zQ y.tms.l)
 nil:∀y∈rl,y.tms.A=none->y.tms.c=0
theorem Zt.keep{w w':World}{A:Option Addr}{rl:List Rl}(h:Zt w A rl)(hb:Below w.heap.size w w'):Zt w' A rl:=⟨(h.row.keep hb).up hb.size,fun y hy=>(h.inn y hy).keep hb,h.nil⟩
theorem Zt.grown{w w':World}{A:Option Addr}{rl:List Rl}{g:Nat}(h:Zt w A rl)(hg:w.grownBy w' (some g))(h1:0<rl.length->∀p,A=some p->p.block≠g)(h2:∀y∈rl,∀p,y.tms.A=some p->p.block≠g):Zt w' A rl:=
 ⟨(h.row.grown zo hg (fun hn p e k=>h1 hn p e (zx k))).up hg.size,fun y hy=>(h.inn y hy).grown hg (fun p e k=>h2 y hy p e (zx k)),h.nil⟩
theorem Zt.n{w:World}{A:Option Addr}{rl:List Rl}(h:Zt w A rl):IE w A rl:=⟨h.row,fun y hy=>(h.inn y hy).row⟩
structure kv(rl:List Rl):Prop where
 len:rl.length<=40
 tms:∀y∈rl,y.tms.l.length<=1000/\∀t∈y.tms.l,t.value.size<=1000000
theorem zcb{c:qp}{ls:List (List Tm)}{f k:Nat}{x:Ev}{held:List Int}{l:List Tm}(h:ls[k]? =some l):qS c ls (f+1) k x held=if(qw c x l).2 then qS c ls f (Qy ls k l) (qw c x l).1 (held++[(k:Int)])else qS c ls f (k+1) (qw c x l).1 held:=by
 rw[qS,h]
theorem zgP{c:qp}{ls:List (List Tm)}{f k:Nat}{x:Ev}{held:List Int}(h:ls[k]? =none):qS c ls f k x held=(x,held):=by
 cases f with
 |zero=>rfl
 |succ f=>rw[qS,h]
def Gl(c:zt)(d:Dd):qp:=⟨c.i,d,qK (zm c.tds) c.ix,pntS (zm c.tds) d⟩
def Y0(c:zt)(d:Dd)(rl:List Rl):Ev×List Int:=qS (Gl c d) (Zy rl) (rl.length+1) 0 (Q6 (Gl c d)) []
def OO(c:zt)(rl:List Rl)(w:World)(e:Ending)(w':World):Prop:=match zC (zm c.tds) c.ix with
 |none=>e=.returned (.tuple #[.pointer none,.slice none 0 0,.int .i64 150])/\Below w.heap.size w w'
 |some d=>∃g dv x' HA hc,e=.returned (.tuple #[.pointer (some ⟨g,0,none⟩),.slice HA (Y0 c d rl).2.length hc,.int .i64 0])/\x'.e.dr=(Y0 c d rl).1.dr/\zR w' g (c.w dv (qK (zm c.tds) c.ix) (pntS (zm c.tds) d)) x'/\zE w' HA 1 (Y0 c d rl).2.length (cellsOf XT (Y0 c d rl).2)/\zH x'.dr.d 100000/\(∀a∈x'.dr.as,∀p,a=some p->w.heap.size<=p.block)/\Below w.heap.size w w'
end
section
open Go.RowKit
attribute [local go_sem ↓] Jn ZU
theorem FK (A:Option Addr)(ac:Nat)(rl:List Rl)(c:zt)(w:World)(h:Zu w c)(hz:Vk c)(hE:Z2 w)(hr:Zt w A rl)(hrz:kv rl)(hR:∀y∈rl,∀t∈y.tms.l,t.key=14->kx c):
 Calls prog 40 #[.slice A rl.length ac,.agg (zJ c)] w (OO c rl w):=by
 obtain⟨w1,hw1⟩:∃w1,w.alloc (.cells (zJ c) qh)=w1:=⟨_,rfl⟩;have hb1:Below w.heap.size w w1:=ZX;have hr1:w1.heap[w.heap.size]? =some (.cells (zJ c) qh (0,0)):=Qo;have hld:=km hr1;have HBg:=za (zbO c w1 (h.keep hb1) hz ((hE.go hb1).toEnv.toEnv0));unfold jv at HBg;unfold OO;cases hf:zC (zm c.tds) c.ix with
 | none=>
   rw[hf]at HBg;dsimp only at HBg;have HB1:=za hb1;have HW1:=za hw1;clear h hz hE hr hrz hR hb1 hr1 hw1 hf;unfold zJ at*;go_enter func40,ntmps40;go_upto_region 1 with fail
   rw[HW1.out];go_wp2_with (go_at_call 56;refine HBg.out.mono ?_;rintro e w2 ⟨rfl,hb2⟩)
   go_ret3
   exact⟨rfl,bt HB1.out hb2⟩
 | some d=>
   rw[hf]at HBg;dsimp only at HBg;have HW0:=za (fun(dv:Dv) (he:dv.d=d)=>KK.of hz hf he);have HGd0:=za (Ld hz);have HB1:=za hb1;have HW1:=za hw1;have HR1:=za (hr.keep hb1);have HE1:=za (hE.go hb1);have HRz:=za hrz;have HRk:=za hR;have hng:nG<=w1.heap.size:=i3 hE.toEnv.toEnv0.size hb1.size;have hlen:=hrz.len;clear h hz hE hr hrz hR hb1 hr1 hw1 hf;dsimp only;generalize hrd:Y0 c d rl=RD;have HRd:=za hrd;clear hrd;unfold zJ at*;obtain⟨N,hN⟩:∃N,rl.length=N:=⟨_,rfl⟩;have HN:=za hN;rw[hN]at hlen⊢;clear hN;go_enter func40,ntmps40;go_upto_region 1 with fail
   rw[HW1.out];go_wp2_with (go_at_call 56;refine HBg.out.mono ?_;rintro e w2 ⟨g,dv,x0,rfl,hdv,hx0,hO,hgw,hlo,hb2⟩;have HDv:=za hdv;have HX0:=za hx0;have HO2:=za hO;have HB2:=za hb2;have HLo:=za hlo;clear hdv hx0 hO hb2 hlo hld)
   obtain⟨c',hc'⟩:∃c',c'=c.w dv (qK (zm c.tds) c.ix) (pntS (zm c.tds) d):=⟨_,rfl⟩;have HC:=za hc';rw[<-hc']at HO2;have hcc:c'.c=Gl c d:=by rw[hc'];unfold zt.c zt.w Gl;dsimp only;rw[HDv.out];rfl
   have HCc:=za hcc;have HEw:Hid (KK c'):=za (by rw[hc'];exact HW0.out dv HDv.out);have HR2:=za (HR1.out.keep HB2.out);have hg2:g<w2.heap.size:=zh HO2.out.box;have hAg:0<rl.length->∀p,A=some p->p.block≠g:=fun hn p e=>by obtain⟨ba,off,e',hb,_⟩:=HR1.out.row.at_ hn;rw[e']at e;cases e;dsimp only;omega
   have hTg:∀y∈rl,∀p,y.tms.A=some p->p.block≠g:=fun y hy p e=>by have:=((HR1.out.inn y hy).pl p e).2;omega
   have HRg:=za (fun(W:World) (hW:w2.grownBy W (some g))=>HR2.out.grown hW hAg hTg);have HTg:=za hTg;have HEg:=za (fun(W:World) (hW:w2.grownBy W (some g))=>(HE1.out.go HB2.out).grown hW (i3 hng hgw));have hgn:nG<=g:=i3 hng hgw;have hx0d:zH x0.e.dr 0:=by rw[HX0.out];exact HGd0.out
   have HGd:=za hx0d;have HXe:Hid (x0.e=Q6 c'.c):=za (by rw[HX0.out,hcc];rfl);have HRun:Hid (RD=qS c'.c (Zy rl) (N+1) 0 x0.e []):=za (by rw[HXe.out,hcc,<-HRd.out,<-HN.out];rfl);clear hc' hcc hAg hTg hx0d;go_loopg [9,10] (N+1) (fun gk s9 s10 wr=>∃(k:Nat) (HA:Option Addr) (hc:Nat) (hs:List Int) (xk:Em),s10=.int .i64 k/\gk<=N+1/\N+1<=gk+k/\s9=.slice HA hs.length hc/\hs.length+gk<=N+1/\Hid (wr.ownsRow w2.heap.size 3 1 (.slice HA hs.length hc) hs.length (cellsOf XT hs))/\Hid (zR wr g c' xk)/\Hid (w2.grownBy wr (some g))/\Hid (RD=qS c'.c (Zy rl) gk k xk.e hs)/\Hid (zH xk.e.dr (2000*(N+1 - gk)))/\Hid (Uk c' w2 x0 xk)/\Hid (∀p,HA=some p->Xn p.block xk.as))
   case atStart=>exact⟨0,none,0,[],x0,rfl,zo,zb,rfl,zl,za (World.ownsRow_nil _ _ _ _),HO2,za (World.grownBy.refl _ _),HRun,za (HGd.out.mono (X1 _)),za (Fr.same rfl rfl).c,za (fun p e=>ZK)⟩
   case round=>
    obtain⟨k,HA,hc,hs,xk,rfl,hgk,hgk2,rfl,hsl,HO,HX,HG,HM,HGk,HFk,HAp⟩:=hrel;by_cases hlt:k<N
    · have hlt':k<rl.length:=by rw[HN.out];exact hlt
      have hru:=HRg.out wr HG.out;obtain⟨ba,off,rfl,c0,c1,c2⟩:=RX hru.row zj hlt';have hbl:ba<wr.heap.size:=by obtain⟨b2,o2,e2,h2,_⟩:=hru.row.at_ (Nat.lt_of_le_of_lt (X1 _) hlt');cases e2;exact h2
      have hkI:(k:Int)<(N:Int):=zb;obtain⟨f,rfl⟩:∃f,gk=f+1:=⟨gk - 1,zb⟩;have hym:=X8 hlt';have hyz:=HRz.out.tms rl[k] hym;have HRc:=za (ziC g c' xk (2000*(N+1 - (f+1))) rl[k] wr HX.out HEw.out HGk.out (by have:=hyz.1;omega) (HEg.out wr HG.out) hgn (hru.inn _ hym) (hru.nil _ hym) (HTg.out _ hym) hyz.1 hyz.2 (fun t ht h14=>by rw[HC.out];exact HRk.out _ hym t ht h14));have hstep:=zcb (c:=c'.c) (f:=f) (x:=xk.e) (held:=hs) (Ef rl hlt');rw[<-HM.out]at hstep;have hgd:=Fi (c:=c'.c) HEw.out.ok hyz.2 HGk.out;have hgd2:zH (qw c'.c xk.e rl[k].tms.l).1.dr (2000*(N+1 - f)):=hgd.mono (by have:=hyz.1;omega);have HNx:=za (fun(W:World) (hW:w2.grownBy W (some g))=>zjD (some ⟨ba,off,none⟩) ac rl k W (HRg.out W hW).n hlt' VK (fun y hy=>by have:=(HRz.out.tms y hy).1;omega));have hng2:=DZ (Zy rl) k rl[k].tms.l;rw[HN.out]at HNx;generalize Qy (Zy rl) k rl[k].tms.l=nx at*;generalize qw c'.c xk.e rl[k].tms.l=RE at*;obtain⟨ev,bb⟩:=RE;dsimp only at hstep hgd2 HRc;have HSt:=za hstep;have HGd2:=za hgd2;have HAI:=za (fun(W:World) (hW:wr.grownBy W (some g))=>zhG (B:=w2.heap.size) (A:=HA) (c:=hc) (l:=hs) (k:Int) W (Xw HO.out hW (fun j ej hv=>by
       have k1:=(HO.out.lt _ hv).1;have k2:=zx ej;omega)) zb (i3 HG.out.size hW.size))
      generalize rl[k].tms.l.length=n9 at*;generalize rl[k].file=ff at*;generalize rl[k].line=ll at*;generalize rl[k].tms.A=ttA at*;generalize rl[k].tms.c=ttc at*;clear hstep hgd hgd2 hym hyz hru HTg HRz HRk HEg HEw;cases bb with
      | false=>
        go_wp2_with (go_at_call 57;refine HRc.out.mono ?_;rintro e w4 ⟨x4,rfl,hx4,h4,g4,f4⟩;have HX4:=za hx4;have HO4:=za h4;have HG4:=za g4;have HF4:=za f4;clear hx4 h4 g4 f4)
        go_roundg f
        case measure=>omega
        case rel=>
         have e9:=HSt.out;rw[if_neg zl,<-HX4.out]at e9;refine⟨k+1,HA,hc,hs,x4,zU,zb,zb,rfl,zb,?_,HO4,za (HG.out.trans HG4.out),za e9,za jy,za (HFk.out.trans HF4.out HG.out.size),za (fun p e b hb q eq=>?_)⟩
         · exact za (Xw HO.out HG4.out (fun j ej hv=>by
            have k1:=(HO.out.lt _ hv).1;have k2:=zx ej;omega))
         · have hp:=qu HO.out p e;rcases HF4.out.a b hb q eq with k1|k1|k1
           · omega
           · exact HAp.out p e b k1 q eq
           · have:=HO2.out.lowc b k1 q eq;omega
      | true=>
        go_upto_region 9 with(go_at_call 57;refine HRc.out.mono ?_;rintro e w4 ⟨x4,rfl,hx4,h4,g4,f4⟩;have HX4:=za hx4;have HO4:=za h4;have HG4:=za g4;have HF4:=za f4;obtain⟨A6,c6,w6,hap,hown,hgr,hat⟩:=HAI.out w4 g4;have HO6:=za hown;have HGr:=za hgr;have HAt:=za hat;clear hown hgr hat;clear hx4 h4 g4 f4)
        have hown9:∀b,(Value.slice HA hs.length hc).ownBlock=some b->w2.heap.size<=b/\b<wr.heap.size/\∃p,HA=some p/\p.block=b:=fun b hb=>Eo;have hX6:zR w6 g c' x4:=HO4.out.away HGr.out (fun b hb=>by
         obtain⟨k1,k2,p,k3,k4⟩:=hown9 b hb;refine⟨zb,fun a ha q e k5=>?_,fun a ha q e k5=>?_⟩
         · have:=HO2.out.lowc a ha q e;omega
         · rcases HF4.out.a a ha q e with k6|k6|k6
           · omega
           · exact HAp.out p k3 a k6 q e zb
           · have:=HO2.out.lowc a k6 q e;omega)
        have hG6:w2.grownBy w6 (some g):=YL (HG.out.trans HG4.out) HGr.out (fun j ej=>Or.inl (hown9 j ej).1);have HX6:=za hX6;have HG6:=za hG6;have HN6:=za (HNx.out w6 hG6);have HLw:=za (fun(p:Addr) (e:A6=some p) (b:Option Addr) (hb:b∈x4.as) (q:Addr) (eq:b=some q)=>show q.block≠p.block by
         rcases HAt.out p e with k1|⟨q0,k1,k2⟩
         · have k3:=HO4.out.lowx b hb q eq;omega
         · obtain⟨m1,m2⟩:=qu HO.out q0 k1;rcases HF4.out.a b hb q eq with k6|k6|k6
           · omega
           · have:=HAp.out q0 k1 b k6 q eq;omega
           · have:=HO2.out.lowc b k6 q eq;omega)
        clear hown9 hX6 hG6 HNx HAI;go_wp2_with (go_at_call 58;refine HN6.out.mono ?_;rintro e w7 ⟨rfl,hb7⟩;have HB7:=za hb7;clear hb7)
        go_roundg f
        case measure=>omega
        case rel=>
         have e9:=HSt.out;rw[if_pos trivial,<-HX4.out]at e9;have hl9:(hs++[(k:Int)]).length=hs.length+1:=zl;refine⟨nx,A6,c6,hs++[(k:Int)],x4,kE,zb,zb,by rw[hl9],by rw[hl9];omega,?_,za (HX6.out.keep HB7.out),za (HG6.out.trans (zG HB7.out _)),za e9,za jy,za (HFk.out.trans HF4.out HG.out.size),za HLw.out⟩;rw[hl9];exact za (qi HO6.out HB7.out)
    · have hget:(Zy rl)[k]? =none:=by rw[List.getElem?_eq_none_iff,Ol,HN.out];omega
      have hre:=HM.out;rw[zgP hget]at hre;have HRe:=za hre;clear hget hre;go_wp2
      go_ret3
      have e9:=HRe.out;rw[e9];refine⟨g,dv,xk,HA,hc,rfl,rfl,?_,(zE.of_own HO.out).1,HGk.out.mono zb,fun a ha p e=>?_,?_⟩
      · rw[<-HC.out];exact HX.out
      · have k0:=HB1.out.size;have k2:=HB2.out.size;rcases HFk.out.d a ha p e with k1|k1
        · omega
        · have:=HLo.out a k1 p e;omega
      · exact bt HB1.out (zhl HB2.out HG.out hgw)
end
section
open Go.RowKit
theorem zjl(W:World):(ZI qn #[]).run prog W=.ok (.agg (zI YR)) W:=Xr
theorem BI(parts:Array (Nat×Value)):Instr.build qn parts=ZI qn parts:=U7
theorem Mt{w:World}{q:Nat}{cs:Array Value}(h:w.heap[q]? =some (.cells cs qn (0,0)))(hs:cs.size=14)(d:Dm):(Zo qn (.pointer (some ⟨q,0,none⟩)) (.agg (zI d))).run prog w=.ok () (w.setRow q (zI d)):=by
 have h1:=XU (P:=prog) (w:=w) (T:=qn) (g:=q) (o:=0) (cs:=cs) (vs:=zI d) h (by rw[hs];show 0+14<=14;omega) (by show 0<14;omega) QD (Pf d);rw[UL cs (zI d) ML]at h1;exact h1
def TY(c:zt)(rl:List Rl)(w:World)(e:Ending)(w':World):Prop:=match zC (zm c.tds) c.ix with
 |none=>e=.returned (.tuple #[.agg (zI YR),.int .i64 150])/\Below w.heap.size w w'
 |some d=>∃x:Dm,e=.returned (.tuple #[.agg (zI x),.int .i64 0])/\x.d=(Y0 c d rl).1.dr/\Yg w' x/\zH x.d 100000/\(∀a∈x.as,∀p,a=some p->w.heap.size<=p.block)/\Below w.heap.size w w'
attribute [local go_sem ↓] Jn kR Kd BI
theorem zkB(A:Option Addr)(ac:Nat)(rl:List Rl)(c:zt)(w:World)(h:Zu w c)(hz:Vk c)(hE:Z2 w)(hr:Zt w A rl)(hrz:kv rl)(hR:∀y∈rl,∀t∈y.tms.l,t.key=14->kx c):
 Calls prog 28 #[.slice A rl.length ac,.agg (zJ c)] w (TY c rl w):=by
 obtain⟨w1,hw1⟩:∃w1,(w.alloc (.cells (zJ c) qh)).alloc (.cells (zI YR) qn)=w1:=⟨_,rfl⟩;have hb1:Below w.heap.size w w1:=Vl;have hr1:w1.heap[w.heap.size]? =some (.cells (zJ c) qh (0,0)):=kh;have hq1:w1.heap[w.heap.size+1]? =some (.cells (zI YR) qn (0,0)):=by
  rw[<-hw1];have:=i5 (w.alloc (.cells (zJ c) qh)) (.cells (zI YR) qn);exact QN
 have hs1:w1.heap.size=w.heap.size+2:=YO;have hld:=km hr1;have HRn:=za (FK A ac rl c w1 (h.keep hb1) hz (hE.go hb1) (hr.keep hb1) hrz hR);unfold OO at HRn;unfold TY;have HB1:=za hb1;have HW1:=za hw1;have HQ1:=za hq1;have HS1:=za hs1;have hdz:zI YR=#[.slice none 0 0,.slice none 0 0,.slice none 0 0,.slice none 0 0,.slice none 0 0,.string ⟨#[]⟩,.int .i64 0,.string ⟨#[]⟩,.string ⟨#[]⟩,.int .i64 0,.string ⟨#[]⟩,.int .i64 0,.int .i64 0,.slice none 0 0]:=rfl;clear h hz hE hr hrz hR hb1 hr1 hq1 hs1 hw1;unfold zJ at*;rw[hdz]at HW1;clear hdz;cases hf:zC (zm c.tds) c.ix with
 | none=>
   rw[hf]at HRn;dsimp only at HRn⊢;clear hf;have hbd:=zjl;go_enter func28,ntmps28;go_upto_region 1 with fail
   rw[HW1.out];go_wp2_with (go_at_call 40;refine HRn.out.mono ?_;rintro e w2 ⟨rfl,hb2⟩;have HB2:=za hb2;(have hx2:=(hb2.block _ (zh HQ1.out)).trans HQ1.out);have HX2:=za hx2;have hst:=Mt hx2 rfl YR;clear hb2 hx2 hld)
   refine Qx rfl zk zk (setRow_heap _ _ _ _ _ _ HX2.out) underlying76 rfl QD zk ?_;exact⟨rfl,qB (bt HB1.out HB2.out) zb⟩
 | some d=>
   rw[hf]at HRn;dsimp only at HRn⊢;clear hf;go_enter func28,ntmps28;go_upto_region 1 with fail
   rw[HW1.out];go_wp2_with (go_at_call 40;refine HRn.out.mono ?_;rintro e w2 ⟨g,dv,x',HA,hc,rfl,hx,hO,hH,hgd,hlo,hb2⟩;have HB2:=za hb2;(have hx2:=(hb2.block _ (zh HQ1.out)).trans HQ1.out);have HX2:=za hx2;have hst:=Mt hx2 rfl x'.dr;have hld2:=Kc hO;have HX:=za hx;have HN2:=za hO.dr;have HG:=za hgd;have HLo:=za hlo;clear hb2 hx2 hld hx hO hH hgd hlo)
   refine Qx rfl zk zk (setRow_heap _ _ _ _ _ _ HX2.out) underlying76 rfl QD zk ?_;refine⟨x'.dr,rfl,HX.out,HN2.out.grown (qR _ _ _) (fun a ha p e=>?_),HG.out,fun a ha p e=>i3 HB1.out.size (HLo.out a ha p e),qB (bt HB1.out HB2.out) zb⟩;have k1:=HLo.out a ha p e;have k2:=HS1.out;omega
def jO(c:zt)(rl:List Rl)(w:World)(e:Ending)(w':World):Prop:=match zC (zm c.tds) c.ix with
 |none=>e=.returned (.tuple #[.slice none 0 0,.int .i64 150])/\Below w.heap.size w w'
 |some d=>∃HA hc,e=.returned (.tuple #[.slice HA (Y0 c d rl).2.length hc,.int .i64 0])/\zE w' HA 1 (Y0 c d rl).2.length (cellsOf XT (Y0 c d rl).2)/\Below w.heap.size w w'
theorem zjk(A:Option Addr)(ac:Nat)(rl:List Rl)(c:zt)(w:World)(h:Zu w c)(hz:Vk c)(hE:Z2 w)(hr:Zt w A rl)(hrz:kv rl)(hR:∀y∈rl,∀t∈y.tms.l,t.key=14->kx c):
 Calls prog 15 #[.slice A rl.length ac,.agg (zJ c)] w (jO c rl w):=by
 obtain⟨w1,hw1⟩:∃w1,w.alloc (.cells (zJ c) qh)=w1:=⟨_,rfl⟩;have hb1:Below w.heap.size w w1:=ZX;have hr1:w1.heap[w.heap.size]? =some (.cells (zJ c) qh (0,0)):=Qo;have hld:=km hr1;have HRn:=za (FK A ac rl c w1 (h.keep hb1) hz (hE.go hb1) (hr.keep hb1) hrz hR);unfold OO at HRn;unfold jO;have HB1:=za hb1;have HW1:=za hw1;clear h hz hE hr hrz hR hb1 hr1 hw1;unfold zJ at*;cases hf:zC (zm c.tds) c.ix with
 | none=>
   rw[hf]at HRn;dsimp only at HRn⊢;clear hf;go_enter func15,ntmps15;go_upto_region 1 with fail
   rw[HW1.out];go_wp2_with (go_at_call 40;refine HRn.out.mono ?_;rintro e w2 ⟨rfl,hb2⟩)
   go_ret2;exact⟨rfl,bt HB1.out hb2⟩
 | some d=>
   rw[hf]at HRn;dsimp only at HRn⊢;clear hf;go_enter func15,ntmps15;go_upto_region 1 with fail
   rw[HW1.out];go_wp2_with (go_at_call 40;refine HRn.out.mono ?_;rintro e w2 ⟨g,dv,x',HA,hc,rfl,hx,hO,hH,hgd,hlo,hb2⟩)
   go_ret2;exact⟨HA,hc,rfl,hH,bt HB1.out hb2⟩
def GZ(c:zt)(rl:List Rl)(w:World)(e:Ending)(w':World):Prop:=match zC (zm c.tds) c.ix with
 |none=>e=.returned (.tuple #[.agg (qb Zx),.int .i64 0,.int .i64 150])/\Below w.heap.size w w'
 |some d=>∃r:Rm,e=.returned (.tuple #[.agg (qb r),.int .i64 (Y0 c d rl).1.dr.ticks,.int .i64 0])/\r.d=Ym (Y0 c d rl).1.dr d (qK (zm c.tds) c.ix)/\Z3 w' r/\(∀a∈r.as,∀p,a=some p->w.heap.size<=p.block)/\Below w.heap.size w w'
end
section
open Go.RowKit
theorem Pw(v:Value):Instr.loadAt qf v=qD qf v:=Kg
theorem OR(v u:Value):Instr.storeAt qf v u=Zo qf v u:=kQ
theorem zaE(parts:Array (Nat×Value)):Instr.build qf parts=ZI qf parts:=U7
theorem zcn(W:World):(ZI qf #[]).run prog W=.ok (.agg (qb Zx)) W:=Xr
theorem Ju{w:World}{g:Nat}{r:Rm}(h:w.heap[g]? =some (.cells (qb r) qf (0,0))):(qD qf (.pointer (some ⟨g,0,none⟩))).run prog w=.ok (.agg (qb r)) w:=by
 have h1:=UI (P:=prog) (w:=w) (T:=qf) (n:=12) (g:=g) (o:=0) (cs:=qb r) (by exact isAgg34) (by exact sizeOf34) h (by show 0+12<=12;omega);rw[show(qb r).extract 0 (0+12)=qb r from by kernel_rfl]at h1;exact h1
theorem KC{w:World}{q:Nat}{cs:Array Value}(h:w.heap[q]? =some (.cells cs qf (0,0)))(hs:cs.size=12)(r:Rm):(Zo qf (.pointer (some ⟨q,0,none⟩)) (.agg (qb r))).run prog w=.ok () (w.setRow q (qb r)):=by
 have h1:=XU (P:=prog) (w:=w) (T:=qf) (g:=q) (o:=0) (cs:=cs) (vs:=qb r) h (by rw[hs];show 0+12<=12;omega) PL YP (Mm r);rw[UL cs (qb r) ML]at h1;exact h1
theorem S3{P:Program}{fn:Func}{R:Ending->World->Prop}{a:Act}{W:World}{g:Nat}{p q s:Tmp}{ty t:TypeId}{cs:Array Value}{u v:Value}{fr:Nat×Nat}{d:TypeDesc}(h:fn.results=#[.cell p ty,.tmp q,.tmp s])(hp:a.tmps.getD p undef=.pointer (some ⟨g,0,none⟩))(hq:a.tmps.getD q undef=u)(hs:a.tmps.getD s undef=v)
 (hg:W.heap[g]? =some (.cells cs t fr))(hu:P.underlying ty=some d)(hd:(match d with| .struct _| .array _ _=>true|_=>false)=true)(hi:(P.info? ty).map (·.size)=some cs.size)(hdef:a.defers=[])
 (hR:R (.returned (.tuple #[.agg cs,u,v])) W):bodyPost P fn R .ret a W:=by
 have hp':a.tmps[p]?.getD undef=.pointer (some ⟨g,0,none⟩):=by simpa using hp
 have hq':a.tmps[q]?.getD undef=u:=by simpa using hq
 have hs':a.tmps[s]?.getD undef=v:=by simpa using hs
 refine bodyPost_ret (v:=.tuple #[.agg cs,u,v]) ?_ hdef hR;simp[results,h,hp',hq',hs',asAddr,run_loadVar_row W g t ty cs fr d hg hu hd hi]
theorem zfv{w:World}{q:Nat}{d:Dm}(h:w.heap[q]? =some (.cells (zI d) qn (0,0))):(qD qn (.pointer (some ⟨q,0,none⟩))).run prog w=.ok (.agg (zI d)) w:=by
 have h1:=UI (P:=prog) (w:=w) (T:=qn) (n:=14) (g:=q) (o:=0) (cs:=zI d) (by exact isAgg76) (by exact sizeOf76) h (by show 0+14<=14;omega);rw[show(zI d).extract 0 (0+14)=zI d from by kernel_rfl]at h1;exact h1
theorem Z3.grown{w w':World}{r:Rm}{g:Nat}(h:Z3 w r)(hg:w.grownBy w' (some g))(ho:∀a∈r.as,∀p,a=some p->p.block≠g):Z3 w' r:=
 ⟨h.pr.grown hg (fun p e k=>ho _ Gd p e (zx k)),h.tg.grown hg (fun p e k=>ho _ Gd p e (zx k)),h.lk.grown hg (fun p e k=>ho _ Gd p e (zx k)),h.rn.grown hg (fun p e k=>ho _ Gd p e (zx k)),h.ld.grown hg (fun p e k=>ho _ Gd p e (zx k))⟩
attribute [local go_sem ↓] Jn Pw OR zaE kR Kd
theorem Gt(A:Option Addr)(ac:Nat)(rl:List Rl)(c:zt)(w:World)(h:Zu w c)(hz:Vk c)(hE:Z2 w)(hr:Zt w A rl)(hrz:kv rl)(hR:∀y∈rl,∀t∈y.tms.l,t.key=14->kx c):
 Calls prog 8 #[.slice A rl.length ac,.agg (zJ c)] w (GZ c rl w):=by
 obtain⟨w1,hw1⟩:∃w1,(w.alloc (.cells (zJ c) qh)).alloc (.cells (qb Zx) qf)=w1:=⟨_,rfl⟩;have hb1:Below w.heap.size w w1:=Vl;have hr1:w1.heap[w.heap.size]? =some (.cells (zJ c) qh (0,0)):=kh;have hq1:w1.heap[w.heap.size+1]? =some (.cells (qb Zx) qf (0,0)):=by
  rw[<-hw1];have:=i5 (w.alloc (.cells (zJ c) qh)) (.cells (qb Zx) qf);exact QN
 have hs1:w1.heap.size=w.heap.size+2:=YO;have hld:=km hr1;have HDr:=za (zkB A ac rl c w1 (h.keep hb1) hz (hE.go hb1) (hr.keep hb1) hrz hR);have HIn:Hid (∀W:World,Below w1.heap.size w1 W->W.cell? ⟨w.heap.size,1,none⟩=some (.slice c.tA c.tds.length c.tc)/\W.cell? ⟨w.heap.size,2,none⟩=some (.int .i64 c.ix)):=za fun W hW=>by
  have h2:=(hW.block _ (zh hr1)).trans hr1;exact⟨zd h2 rfl,zd h2 rfl⟩
 have HFi:=za (fun(x:Dm) (W:World) (hW:Below w.heap.size w W) (hN:Yg W x) (hG:zH x.d 100000)=>zjz x c.tA c.tc c.tds c.ix 100000 W hN hG zo (h.tr.keep hW) (fun d hd=>(hz.dv d hd).1) hz.ix1 hz.ix2 (hE.go hW).toEnv.toEnv0);unfold zV at HFi;unfold TY at HDr;unfold GZ;have hlW:w.heap.size<w1.heap.size:=zb;have HB1:=za hb1;have HW1:=za hw1;have HQ1:=za hq1;have HS1:=za hs1;have hrz0:qb Zx=#[.string ⟨#[]⟩,.int .i64 0,.slice none 0 0,.slice none 0 0,.slice none 0 0,.slice none 0 0,.slice none 0 0,.string ⟨#[]⟩,.int .i64 0,.string ⟨#[]⟩,.string ⟨#[]⟩,.int .i64 0]:=rfl;clear h hz hE hr hrz hR hb1 hr1 hq1 hs1 hw1;unfold zJ at*;rw[hrz0]at HW1;clear hrz0;cases hf:zC (zm c.tds) c.ix with
 | none=>
   rw[hf]at HDr;dsimp only at HDr⊢;clear hf HFi;have hbd:=zcn;go_enter func8,ntmps8;go_upto_region 1 with fail
   rw[HW1.out];go_wp2_with (go_at_call 28;refine HDr.out.mono ?_;rintro e w2 ⟨rfl,hb2⟩;(have hb3:=(zP hb2:Below w1.heap.size w1 (w2.alloc (.cells #[.slice none 0 0,.slice none 0 0,.slice none 0 0,.slice none 0 0,.slice none 0 0,.string ⟨#[]⟩,.int .i64 0,.string ⟨#[]⟩,.string ⟨#[]⟩,.int .i64 0,.string ⟨#[]⟩,.int .i64 0,.int .i64 0,.slice none 0 0] qn))));have HB3:=za (qB (cs:=zI YR) hb3 hb2.size);have hst0:=Mt (i5 w2 (.cells #[.slice none 0 0,.slice none 0 0,.slice none 0 0,.slice none 0 0,.slice none 0 0,.string ⟨#[]⟩,.int .i64 0,.string ⟨#[]⟩,.string ⟨#[]⟩,.int .i64 0,.string ⟨#[]⟩,.int .i64 0,.int .i64 0,.slice none 0 0] qn)) rfl YR;(have hx2:=(HB3.out.block _ (zh HQ1.out)).trans HQ1.out);have HX2:=za hx2;have hst:=KC hx2 rfl Zx;clear hb2 hb3 hx2 hld)
   refine S3 rfl zk zk zk (setRow_heap _ _ _ _ _ _ HX2.out) underlying34 rfl YP zk ?_;exact⟨rfl,qB (bt HB1.out HB3.out) zb⟩
 | some d=>
   rw[hf]at HDr;dsimp only at HDr⊢;have HFi2:=za (fun(x:Dm) (W:World) (hW:Below w.heap.size w W) (hN:Yg W x) (hG:zH x.d 100000)=>by
    have h9:=HFi.out x W hW hN hG;unfold Ro at h9;rw[hf]at h9;exact h9)
   clear hf HFi;go_enter func8,ntmps8;go_upto_region 1 with fail
   rw[HW1.out];go_upto_region 2 with(go_at_call 28;refine HDr.out.mono ?_;rintro e w2 ⟨x,rfl,hx,hN,hG,_,hb2⟩;have hst0:=Mt (i5 w2 (.cells #[.slice none 0 0,.slice none 0 0,.slice none 0 0,.slice none 0 0,.slice none 0 0,.string ⟨#[]⟩,.int .i64 0,.string ⟨#[]⟩,.string ⟨#[]⟩,.int .i64 0,.string ⟨#[]⟩,.int .i64 0,.int .i64 0,.slice none 0 0] qn)) rfl x;have HX:=za hx;have HN2:=za hN;have HG2:=za hG;have HB2:=za hb2;clear hx hN hG hb2 hld)
   clear hst0;obtain⟨w3,hw3⟩:∃w3,(w2.alloc (.cells #[.slice none 0 0,.slice none 0 0,.slice none 0 0,.slice none 0 0,.slice none 0 0,.string ⟨#[]⟩,.int .i64 0,.string ⟨#[]⟩,.string ⟨#[]⟩,.int .i64 0,.string ⟨#[]⟩,.int .i64 0,.int .i64 0,.slice none 0 0] qn)).setRow w2.heap.size (zI x)=w3:=⟨_,rfl⟩;rw[hw3];have hb3:Below w2.heap.size w2 w3:=by rw[<-hw3];exact qB zu zo
   have hr3:w3.heap[w2.heap.size]? =some (.cells (zI x) qn (0,0)):=by rw[<-hw3];exact setRow_heap _ _ _ _ _ _ qt
   have HB3:=za (bt HB2.out hb3:Below w1.heap.size w1 w3);have HR3:=za hr3;have HN3:=za (HN2.out.keep hb3);have hld3:=zfv hr3;obtain⟨c1,c2⟩:=HIn.out w3 HB3.out;have hlw3:w.heap.size<w3.heap.size:=i4 hlW HB3.out.size;have HFi3:=za (HFi2.out x w3 (bt HB1.out HB3.out) HN3.out HG2.out);clear hw3 hb3 hr3;go_upto_region 5 with(go_at_call 29;refine HFi3.out.mono ?_;rintro e w4 ⟨r,rfl,hrd,hrn,hrl,hb4⟩;have hst4:=KC (i5 w4 (.cells #[.string ⟨#[]⟩,.int .i64 0,.slice none 0 0,.slice none 0 0,.slice none 0 0,.slice none 0 0,.slice none 0 0,.string ⟨#[]⟩,.int .i64 0,.string ⟨#[]⟩,.string ⟨#[]⟩,.int .i64 0] qf)) rfl r;have HRd:=za hrd;have HRn:=za hrn;have HB4:=za hb4;have HRl:=za hrl;clear hrd hrn hrl hb4 c1 c2 hld3)
   clear hst4;obtain⟨w5,hw5⟩:∃w5,(w4.alloc (.cells #[.string ⟨#[]⟩,.int .i64 0,.slice none 0 0,.slice none 0 0,.slice none 0 0,.slice none 0 0,.slice none 0 0,.string ⟨#[]⟩,.int .i64 0,.string ⟨#[]⟩,.string ⟨#[]⟩,.int .i64 0] qf)).setRow w4.heap.size (qb r)=w5:=⟨_,rfl⟩;rw[hw5];have hb5:Below w4.heap.size w4 w5:=by rw[<-hw5];exact qB zu zo
   have hr5:w5.heap[w4.heap.size]? =some (.cells (qb r) qf (0,0)):=by rw[<-hw5];exact setRow_heap _ _ _ _ _ _ qt
   have hb35:Below w3.heap.size w3 w5:=bt HB4.out hb5;have HB5:=za hb35;have HN5:=za (HRn.out.keep hb5);have hq5:=((bt HB3.out hb35).block _ (zh HQ1.out)).trans HQ1.out;have HQ5:=za hq5;have hst:=KC (w:=w5.drew) hq5 rfl r;have hSa:(qD qf (.pointer (some ⟨w4.heap.size,0,none⟩))).run prog w5.drew=.ok (.agg (qb r)) w5.drew/\w5.drew.cell? ⟨w2.heap.size,12,none⟩=some (.int .i64 x.ticks):=⟨Ju hr5,zd ((hb35.block _ (zh HR3.out)).trans HR3.out) rfl⟩;have z2:=zh HR3.out;have z4:=HB4.out.size;have z1:=HS1.out;have z0:=HB2.out.size;have hw2:w.heap.size+1<w2.heap.size:=zb;have hw4:w.heap.size+1<w4.heap.size:=zb;have hSb:(qD qf (.pointer (some ⟨w4.heap.size,0,none⟩))).run prog (w5.drew.setRow (w.heap.size+1) (qb r))=.ok (.agg (qb r)) (w5.drew.setRow (w.heap.size+1) (qb r))/\(w5.drew.setRow (w.heap.size+1) (qb r)).cell? ⟨w2.heap.size,12,none⟩=some (.int .i64 x.ticks):=
    ⟨Ju (((qR w5.drew (w.heap.size+1) (qb r)).block _ (zh hr5) (fun e=>Vg)).trans hr5),zd ((((qR w5.drew (w.heap.size+1) (qb r)).block _ (i4 z2 hb35.size) (fun e=>Vg)).trans (hb35.block _ z2)).trans HR3.out) rfl⟩
   have HSa:=za hSa;have HSb:=za hSb;clear hSa hSb hb35 hb5 hr5 hq5 hw5
   go_region_held3 (fun W=>(qD qf (.pointer (some ⟨w4.heap.size,0,none⟩))).run prog W=.ok (.agg (qb r)) W/\W.cell? ⟨w2.heap.size,12,none⟩=some (.int .i64 x.ticks)) ((first|exact HSa.out|exact HSb.out)) (fail)
   go_wp2;refine S3 rfl zk zk zk (setRow_heap w5.drew (w.heap.size+1) (qb Zx) (qb r) qf (0,0) HQ5.out) underlying34 rfl YP zk ?_;refine⟨r,by rw[<-HX.out];rfl,by rw[HRd.out,HX.out],Z3.grown (HN5.out.keep zj.drew) (qR w5.drew _ _) (fun a ha p e=>?_),fun a ha p e=>(by have k1:=HRl.out a ha p e;have k2:=HB3.out.size;have k3:=HB1.out.size;omega),?_⟩
   · have k1:=HRl.out a ha p e;have k2:=HB3.out.size;omega
   · exact qB ((bt HB1.out (bt HB3.out HB5.out)).drew) zb
end
section
abbrev Oh:zt:=⟨⟨#[]⟩,none,0,[],0,Zx,⟨none,0,[]⟩,0,qd,⟨#[]⟩,⟨#[]⟩⟩
theorem yW(f:Int->Int):∀(n:Nat) (l:List UInt8),(Lib.mapGoD f n l).length<=4*n
 |0,l=>by rw[Lib.mapGoD];simp
 | n +1,l=>by
   rw[Lib.mapGoD]
   split
   · simp
   · rw [r7];have h1:=yW f n (l.drop (Lib.decodeL l).2);have h2:(if 0<=f (Lib.decodeL l).1 then Lib.encodeRune (f (Lib.decodeL l).1)else []).length<=4:=by
      split
      · have:=(Lib.encodeRuneZ_length (f (Lib.decodeL l).1)).2;simpa [Lib.encodeRune]using this
      · simp
     omega
theorem Mu{l:List At}{k v:ByteArray}{n:Nat}(h:∀x∈l,x.val.size<=n)(hv:v.size<=n):∀x∈zO l k v,x.val.size<=n:=by
 intro x hx;unfold zO at hx
 split at hx
 · exact h x hx
 · rcases Mg hx with h1|⟨h1,_⟩
   · exact h x h1
   · rw[h1];exact hv
theorem Pq{l:List At}{k h:ByteArray}{v:Option ByteArray}{n:Nat}(hl:∀x∈l,x.val.size<=n)(hn:15<=n):∀x∈YX l k h v,x.val.size<=n:=by
 unfold YX
 split
 · split
   · rename_i v hi;refine Mu hl ?_;unfold X0 at hi;simp only[zm3,decide_eq_true_eq]at hi;have:=hi.1.2;rw[zF]at this;omega
   · exact hl
 · exact hl
theorem Fd(l:List Dd):(Xp l).size<=256:=by
 cases l with
 |nil=>exact X1 _
 |cons d r=>unfold Xp;rw[IY];omega
theorem yS(s ends:ze)(a:Nat):(bs (qX s ends a)).size<=s.length:=by
 have:=(List.takeWhile_prefix (fun b=> !ends.contains b) (l:=s.drop a)).length_le;rw[W8]at this;rw[Zg];unfold qX;omega
theorem zjo(s:ze)(f:Nat)(p:zZ):(Yc s f p).1.id.size<=s.length/\(Yc s f p).1.lab.size<=s.length:=by
 cases f with
 |zero=>rw[Yc];exact⟨X1 _,X1 _⟩
 | succ f=>
   rw[Yc];dsimp only
   split
   · exact⟨X1 _,X1 _⟩
   · split
     · exact⟨yS _ _ _,yS _ _ _⟩
     · exact⟨yS _ _ _,X1 _⟩
theorem zee(k:Int):(Yb k).size<=256:=by
 unfold Yb
 repeat' split
 all_goals decide
theorem zj5(s:ByteArray):∀u i l,IK s=some (u,i,l)->u.size<=256/\i.size<=256/\l.size<=256:=by
 intro u i l h;unfold IK at h
 split at h
 · rename_i k i' l' hp
   split at h
   · cases h
   · injection h with h;injection h with h1 h2;injection h2 with h2 h3
     subst h1 h2 h3;unfold V7 at hp;dsimp only at hp
     split at hp
     · rename_i hz;injection hp with hp;injection hp with h1 h2;injection h2 with h2 h3
       have:=zjo (L s) 800 ⟨0,false⟩;rw[h2,h3]at this;exact⟨zee k,zb,zb⟩
     · cases hp
 · cases h
theorem F0(nm:ByteArray)(l:List Dd)(n:Int):∀x∈QM nm l n,x.val.size<=1024:=by
 have hnil:∀x∈([]:List At),x.val.size<=1024:=fun x hx=>YT;unfold QM
 split
 · unfold Uv
   split
   · intro x hx;simp only[List.mem_cons,List.not_mem_nil,or_false]at hx;rcases hx with rfl|rfl
     · have:=Fd (zW l n);show(Xp (zW l n)).size<=1024;omega
     · show(bs _).size<=1024;rw[Zg];unfold Lib.mapD;have h1:=yW YZ (L (Xp (zW l n))).length (L (Xp (zW l n)));have h2:=Fd (zW l n);rw[zF]at h1⊢;omega
   · exact hnil
 split
 · split
   · unfold UQ
     split
     · split
       · rename_i u i l' hc;obtain⟨h1,h2,h3⟩:=zj5 _ _ _ _ hc;exact Mu (Mu (Mu hnil zb) zb) zb
       · exact hnil
     · exact hnil
   · exact hnil
 split
 · split
   · unfold Vw
     split
     · exact Pq (Pq (Pq hnil zb) zb) zb
     · exact hnil
   · exact hnil
 · exact hnil
end
end Go.Proofs.YtecbmndgpepkcaaGreatDoor

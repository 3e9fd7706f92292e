/- Contracts that the law rests on, each under the premises that it names. -/
import Derived.Test.YtecbmndgpepkcaaGreatDoorG28
import Derived.Lib.SliceRun
import Derived.Deep.AppendSrc
namespace Go.Proofs.YtecbmndgpepkcaaGreatDoor
open Tryz
set_option maxHeartbeats 8000000
set_option maxRecDepth 100000
section
open Go.RowKit Go.Shelf Go.Maps
instance:Inhabited Tm:=⟨⟨0,⟨#[]⟩,0,⟨#[]⟩⟩⟩
theorem zcE(ky:Int)(nm:ByteArray)(B:Nat)(w:World)(hB:B<w.heap.size)(h0:w.cell? ⟨B,0,none⟩=some (.int .i64 ky))(h1:w.cell? ⟨B,1,none⟩=some (.string nm)):
 PredBelow prog 129 #[.pointer (some ⟨B,0,none⟩)] (fun c=>.agg (zQ c).toArray) (fun c:Tm=>c.key==ky&&L c.name==L nm) w:=fun W c hb=>by
 have c0:W.cell? ⟨B,0,none⟩=some (.int .i64 ky):=(hb.cell (p:=⟨B,0,none⟩) hB).trans h0;have c1:W.cell? ⟨B,1,none⟩=some (.string nm):=(hb.cell (p:=⟨B,1,none⟩) hB).trans h1;have hBW:B<W.heap.size:=i4 hB hb.size;have hne:B≠W.heap.size:=zb;show Calls prog 129 #[.agg #[.int .i64 c.key,.string c.name,.int .i64 c.op,.string c.value],.pointer (some ⟨B,0,none⟩)] W fun e w'=>e=.returned (.bool (c.key==ky&&L c.name==L nm))/\Below w.heap.size w w';have e1:(L c.name==L nm)=(c.name.toList==nm.toList):=by rw[tl,tl]
 rw[e1];clear e1;by_cases hk:c.key=ky
 · exact AE
 · exact AE
theorem zjg(fv:Value)(w:World):Calls prog 150 #[.slice none 0 0,fv] w fun e w'=>e=.returned (.int .i64 (-1))/\w'=w:=by
 go_enter func150,ntmps150;exact OJ
theorem zdR(fv:Value)(w:World):Calls prog 118 #[.slice none 0 0,fv] w fun e w'=>e=.returned (.bool false)/\w'=w:=by
 have HI:=za (zjg fv w);go_enter func118,ntmps118;go_wp2_with (go_at_call 150;refine HI.out.mono ?_;rintro e w2 ⟨rfl,rfl⟩)
 exact jp
theorem zi9(g:Nat)(lb:Array Value)(eg:∀args w,(callFunc g args).run prog w=.ok (.enter g args) w)(p:Tm->Bool)(A:Option Addr)(c:Nat)(l:List Tm)(w:World)(hr:zE w A 4 l.length (cellsOf zQ l))(hnil:A=none->c=0)(hl:l.length<=1000000000)
 (hp:PredBelow prog g lb (fun c=>.agg (zQ c).toArray) p w):
 Calls prog 118 #[.slice A l.length c,.func (.func g) #[] lb] w fun e w'=>e=.returned (.bool (l.any p))/\Below w.heap.size w w':=by
 cases A with
 | none=>
   exact ve
 | some a=>
   obtain⟨ea,hlt⟩:=hr.pl a rfl;rw[ea]at hr⊢;have h:=AnyQ.slices_ContainsFunc (ρ:=RT) (P:=prog) Cy 4 (by exact isAgg52) (by exact sizeOf52) zQ (fun _=>rfl) p g lb eg a.block a.off l.length c l w hp zo zb hlt (fun j hj i v hv=>by
    obtain⟨b,off,e,hb,hc⟩:=hr.row.cell TW (by omega:0<l.length);injection e with e
    injection e with e3 e4
    rw[e3,e4,zk5];refine hc j l[j]! ?_ i v hv;rw[getElem!_pos l j hj,l0 hj])
   rw[List.take_length]at h;exact h
theorem zjd(parts:Array (Nat×Value)):Instr.build 52 parts=ZI 52 parts:=U7
theorem zgY(ky:Int)(nm:ByteArray)(W:World):(ZI 52 #[(0,.int .i64 ky),(1,.string nm)]).run prog W=.ok (.agg #[.int .i64 ky,.string nm,.int .i64 0,.string ⟨#[]⟩]) W:=Xr
theorem zgW{B:Nat}{A:Option Addr}{c:Nat}{l:List Tm}(t:Tm)(w:World)(h:w.ownsRow B NK 4 (.slice A l.length c) l.length (cellsOf zQ l))(hl:l.length<=1000000)(hB:B<=w.heap.size):
 ∃A' c' w',(Zv #[54,54] 54 #[.slice A l.length c,.slice (some ⟨w.heap.size,0,none⟩) 1 1]).run prog (w.alloc (.cells #[.int .i64 t.key,.string t.name,.int .i64 t.op,.string t.value] 52))=.ok (.slice A' (l.length+1) c') w'/\w'.ownsRow B NK 4 (.slice A' (l.length+1) c') (l.length+1) (cellsOf zQ (l++[t]))/\w.grownBy w' (Value.slice A l.length c).ownBlock/\∀p,A'=some p->w.heap.size<=p.block∨∃q,A=some q/\q.block=p.block:=by
 obtain⟨i0,hi0,hz0,hz1,hz2⟩:=info_parts FG;obtain⟨v',w',h1,h2,h3,_,h5⟩:=run_append_own_at (P:=prog) (w.alloc (.cells #[.int .i64 t.key,.string t.name,.int .i64 t.op,.string t.value] 52)) B 54 54 52 i0 _ 4 48 underlying54 hi0 hz0 hz1 hz2 rfl zi (.slice A l.length c) l.length _ (qi h zu) ⟨w.heap.size,0,none⟩ 1 1 (zQ t) rfl (fun j u hu=>by
  rw[Ua,zk4];exact zd (i5 w _) Gh) OH ql zb (i3 hB (zL w _).size)
 rw[ZU]at h1;obtain⟨NA,nc,rfl⟩:=Qf h2;have hc:cellsOf zQ (l++[t])=cellsOf zQ l++zQ t:=J7;refine⟨NA,nc,w',h1,K8,(zG (zL w _) _).trans h3,fun p hp=>?_⟩;have hpb:(Value.slice NA (l.length+1) nc).ownBlock=some p.block:=Ks;rcases h5 with k|k
 · exact JZ
 · rw[hpb]at k;have:=zx k;have:=(zL w (.cells #[.int .i64 t.key,.string t.name,.int .i64 t.op,.string t.value] 52)).size;exact Kb
theorem qG.q{B g:Nat}{y:Dm}{w:World}{d':Dr}{e:Ending}{w':World}(h:qG B g y w d' e w'):e=.returned (.tuple #[])/\∃y',y'.d=d'/\zT B g y w y' w':=by
 obtain⟨h1,y',h2,h3,h4,h5⟩:=h;exact⟨h1,y',h2,h3,h4,h5⟩
theorem RO{B:Nat}{w1 w2 w3:World}(h:Below B w1 w2)(h2:Below B w2 w3):Below B w1 w3:=h.trans h2
def Jr(w:World)(d:Dr)(e:Ending)(w':World):Prop:=∃y,e=.returned (.agg (zI y))/\y.d=d/\ZG w.heap.size w' y/\Below w.heap.size w w'
abbrev YR:Dm:=JU ⟨none,0,[]⟩ ⟨#[]⟩ 0
theorem zH.dmz{d:Dr}{k:Nat}(h:zH d k)(hk:k<=100000):CT d:=⟨Ta,RW,by have:=h.ll;omega,by have:=h.rl;omega,by have:=h.dl;omega,by have:=h.cl;omega⟩
attribute [local go_sem ↓] zjd ZU
theorem zbA(x:Dm)(t:Tm)(v:ByteArray)(k:Nat)(w:World)(hN:Yg w x)(hG:zH x.d k)(hk:k<=100000)(hE:Env w)(hv:v.size<=1000000):
 Calls prog 99 #[.agg (zI x),qk t,.string v] w (Jr w (Vh x.d t v)):=by
 obtain⟨ky,nmm,op,vl⟩:=t;obtain⟨w1,hw1⟩:∃w1,((w.alloc (.cells (zI x) qn)).alloc (.cells #[.int .i64 ky,.string nmm,.int .i64 op,.string vl] 52)).alloc (.cells (zI YR) qn)=w1:=⟨_,rfl⟩;obtain⟨hs1,k0,k1,k2,hb1⟩:=Ka w (.cells (zI x) qn) (.cells #[.int .i64 ky,.string nmm,.int .i64 op,.string vl] 52) (.cells (zI YR) qn);rw[hw1]at hs1 k0 k1 k2 hb1;have HEd:=za (Mp x w1 (hN.keep hb1) (hG.dmz hk));have HW:=za hw1;have HB1:=za hb1;have HK0:=za k0;have HK1:=za k1;have HK2:=za k2;have HS1:=za hs1;have HG:=za hG;have HEn:=za hE;have hx:zI YR=#[.slice none 0 0,.slice none 0 0,.slice none 0 0,.slice none 0 0,.slice none 0 0,.string ⟨#[]⟩,.int .i64 0,.string ⟨#[]⟩,.string ⟨#[]⟩,.int .i64 0,.string ⟨#[]⟩,.int .i64 0,.int .i64 0,.slice none 0 0]:=rfl;have hx2:zI x=#[.slice x.props.A x.props.l.length x.props.c,.slice x.tags.A x.tags.l.length x.tags.c,.slice x.links.A x.links.l.length x.links.c,.slice x.run.A x.run.l.length x.run.c,.slice x.load.A x.load.l.length x.load.c,.string x.nam,.int .i64 x.prio,.string x.own,.string x.grp,.int .i64 x.mode,.string x.res,.int .i64 x.calls,.int .i64 x.ticks,.slice x.closed.A x.closed.l.length x.closed.c]:=rfl;rw[hx]at HW;clear hx hw1 hs1 k0 k1 k2 hb1 hG hE hN hx2;unfold qk;dsimp only;go_enter func99,ntmps99;go_upto_region 1 with fail
 rw[HW.out];have hkb:=zgY ky nmm;go_upto_region 2 with(first
  |(go_at_call 49;refine HEd.out.mono ?_;rintro e w2 ⟨z,g,rfl,hzd,hE,hb2⟩;have HE:=za hE;have HB2:=za hb2;have HZ:=za hzd;clear hE hb2 hzd)
  |(refine wpList_load_row rfl 76 _ rfl _ rfl _ _ _ _ HK0.out underlying76 rfl QD ?_))
 have ht2:=(HB2.out.block _ (zh HK1.out)).trans HK1.out;have c0:w2.cell? ⟨w.heap.size+1,0,none⟩=some (.int .i64 ky):=zd ht2 rfl;have c1:w2.cell? ⟨w.heap.size+1,1,none⟩=some (.string nmm):=zd ht2 rfl;clear ht2;go_upto_region 3 with fail
 clear c0 c1 hkb;obtain⟨w3,hw3⟩:∃w3,w2.alloc (.cells #[.int .i64 ky,.string nmm,.int .i64 0,.string ⟨#[]⟩] 52)=w3:=⟨_,rfl⟩;rw[hw3];have hb3:Below w2.heap.size w2 w3:=Pd;have hk3:w3.heap[w2.heap.size]? =some (.cells #[.int .i64 ky,.string nmm,.int .i64 0,.string ⟨#[]⟩] 52 (0,0)):=Pz;have hE3:=HE.out.below hb3;have hcl:=(zB.of_own hE3.rows.cl).1;have HCl:=za (zi9 129 #[.pointer (some ⟨w2.heap.size,0,none⟩)] (fun _ _=>rfl) (fun c:Tm=>c.key==ky&&L c.name==L nmm) z.closed.A z.closed.c z.closed.l w3 hcl.row hcl.nil (by have h:=HG.out.cl;have e:z.d.closed=z.closed.l:=rfl;rw[<-e,HZ.out];omega) (zcE ky nmm w2.heap.size w3 (zh hk3) (zd hk3 rfl) (zd hk3 rfl)));have hcb:(z.closed.l.any fun c:Tm=>c.key==ky&&L c.name==L nmm)=P6 x.d ⟨ky,nmm,op,vl⟩:=by
  have e:z.d.closed=z.closed.l:=rfl;rw[<-e,HZ.out];rfl
 rw[hcb]at HCl;have q13:w3.cell? ⟨g,13,none⟩=some (.slice z.closed.A z.closed.l.length z.closed.c):=zd hE3.box rfl;have HE3:=za hE3;have HK3:=za hk3;have HB23:=za (bt HB2.out hb3);clear hcl hcb hw3 hb3 hk3 hE3;cases hc:P6 x.d ⟨ky,nmm,op,vl⟩with
 | true=>
   rw[hc]at HCl;have HCl2:=za HCl.out;have HEq:Hid (Vh x.d ⟨ky,nmm,op,vl⟩ v=x.d):=za (by unfold Vh;rw[if_pos hc]);clear HCl hc;go_wp2_with (first
    |(go_at_call 118;refine HCl2.out.mono ?_;rintro e w4 ⟨rfl,hb4⟩;have HE4:=za (HE3.out.below hb4);have HB4:=za (bt HB23.out hb4);have HX4:=za ((HB4.out.block _ (zh HK2.out)).trans HK2.out);clear hb4)
    |(refine wpList_load_row rfl 76 _ rfl _ rfl _ _ _ _ HE4.out.box underlying76 rfl QD ?_)
    |(refine wpList_store_row rfl 76 _ _ rfl _ _ rfl rfl _ _ HX4.out QD rfl Gz ?_))
   refine Vf rfl zk (setRow_heap _ _ _ _ _ _ HX4.out) underlying76 rfl QD zk ?_;have hs:=HS1.out;exact⟨z,rfl,by rw[HEq.out];exact HZ.out,(HE4.out.rows.row zb).base zb,qB (bt HB1.out HB4.out) zb⟩
 | false=>
   rw[hc]at HCl;have HCl2:=za HCl.out;have HEq:Hid (Vh x.d ⟨ky,nmm,op,vl⟩ v=if op=6 then{Qb x.d ⟨ky,nmm,op,vl⟩ v with closed:=(Qb x.d ⟨ky,nmm,op,vl⟩ v).closed++[kO ⟨ky,nmm,op,vl⟩]}else Qb x.d ⟨ky,nmm,op,vl⟩ v):=za (by unfold Vh;rw[hc];rfl);have HT:Hid (∀W,Below w1.heap.size w1 W->W.cell? ⟨w.heap.size+1,0,none⟩=some (.int .i64 ky)/\W.cell? ⟨w.heap.size+1,1,none⟩=some (.string nmm)/\W.cell? ⟨w.heap.size+1,2,none⟩=some (.int .i64 op)/\W.cell? ⟨w.heap.size+1,3,none⟩=some (.string vl)):=za fun W hW=>by
    have h1:=(hW.block _ (zh HK1.out)).trans HK1.out;exact PQ
   have HAs:=za (fun(W:World) (hW:Below w3.heap.size w3 W)=>zfF w1.heap.size g z ⟨ky,nmm,op,vl⟩ v W (HE3.out.below hW) (by rw[HZ.out];exact HG.out.edz) (((HEn.out.go HB1.out).go HB23.out).go hW) (HEn.out.go HB1.out).toEnv0.size hv);clear HCl hc;unfold qk at HAs;dsimp only at HAs;go_upto_region 6 with(first
    |(go_at_call 118;refine HCl2.out.mono ?_;rintro e w4 ⟨rfl,hb4⟩;have HB34:=za hb4;have HB4:=za (bt HB23.out hb4);obtain⟨c0,c1,c2,c3⟩:=HT.out w4 HB4.out;clear hb4)
    |(go_at_call 130;refine(HAs.out _ HB34.out).mono ?_;rintro e w5 hP;obtain⟨rfl,y5,hy5,hq5⟩:=qG.q hP;have HQ5:=za hq5;have HY5:=za hy5;have HB5:=za (RO HB4.out hq5.b);clear hP hq5 hy5 c0 c1 c2 c3))
   have hKlt:w2.heap.size<w4.heap.size:=by have:=HK3.out;have h1:=zh this;exact i4 h1 HB34.out.size
   have hgl:g<w2.heap.size:=zh HE.out.box;have hk5:w5.heap[w2.heap.size]? =some (.cells #[.int .i64 ky,.string nmm,.int .i64 0,.string ⟨#[]⟩] 52 (0,0)):=by
    rw[HQ5.out.r.fr w2.heap.size hKlt zb (fun a ha p e=>by have:=HE.out.rows.lt a ha p e;omega)];exact(HB34.out.block _ (zh HK3.out)).trans HK3.out
   obtain⟨c0,c1,c2,c3⟩:=HT.out w5 HB5.out;have HK5:=za hk5;have HX5:=za ((HB5.out.block _ (zh HK2.out)).trans HK2.out);clear hk5 c0 c1 c3;by_cases h6:op=6
   · subst h6;rw[if_pos rfl]at HEq;go_upto_region 7 with fail
     have hed:=HQ5.out.ed;have hcl5:y5.closed.l.length<=1000000:=by
      have h1:=(HG.out.asg ⟨ky,nmm,6,vl⟩ hv).cl;rw[<-HZ.out,<-HY5.out]at h1;have e:y5.d.closed=y5.closed.l:=rfl;rw[e]at h1;omega
     have hd5:Below w5.heap.size w5 w5.drew:=zj.drew;have hedd:=hed.below hd5;obtain⟨A6,c6,w6,hap,hown,hgr,hA6⟩:=zgW (kO ⟨ky,nmm,6,vl⟩) w5.drew hedd.rows.cl hcl5 (i3 hedd.lo (X3 (zh hedd.box)));have hap1:(Zv #[54,54] 54 #[.slice y5.closed.A y5.closed.l.length y5.closed.c,.slice (some ⟨w5.heap.size,0,none⟩) 1 1]).run prog (w5.alloc (.cells #[.int .i64 ky,.string nmm,.int .i64 0,.string ⟨#[]⟩] 52)).drew=.ok (.slice A6 (y5.closed.l.length+1) c6) w6:=hap;have q13:w5.drew.cell? ⟨g,13,none⟩=some (.slice y5.closed.A y5.closed.l.length y5.closed.c):=zd hedd.box rfl;have ha5:Below w5.heap.size w5 (w5.alloc (.cells #[.int .i64 ky,.string nmm,.int .i64 0,.string ⟨#[]⟩] 52)).drew:=(zL w5 _).drew;have q13b:(w5.alloc (.cells #[.int .i64 ky,.string nmm,.int .i64 0,.string ⟨#[]⟩] 52)).drew.cell? ⟨g,13,none⟩=some (.slice y5.closed.A y5.closed.l.length y5.closed.c):=zd (hed.below ha5).box rfl;have hkd:=(hd5.block _ (zh HK5.out)).trans HK5.out;have k0:w5.drew.cell? ⟨w2.heap.size,0,none⟩=some (.int .i64 ky):=zd hkd rfl;have k1:w5.drew.cell? ⟨w2.heap.size,1,none⟩=some (.string nmm):=zd hkd rfl;have k2:w5.drew.cell? ⟨w2.heap.size,2,none⟩=some (.int .i64 0):=zd hkd rfl;have k3:w5.drew.cell? ⟨w2.heap.size,3,none⟩=some (.string ⟨#[]⟩):=zd hkd rfl;have hbx6:w6.heap[g]? =some (.cells (zI y5) Uc (0,0)):=(hgr.block g (zh hedd.box) (fun e=>by
      obtain⟨p,e1,e2⟩:=ZQ e.symm;exact hedd.off _ YD p e1 e2)).trans hedd.box
     have q6:w6.cell? ⟨g,13,none⟩=some (.slice y5.closed.A y5.closed.l.length y5.closed.c):=zd hbx6 rfl;have f6:=qe hbx6 13;have hEnd:zT w1.heap.size g y5 w5 {y5 with closed:=⟨A6,c6,y5.closed.l++[kO ⟨ky,nmm,6,vl⟩]⟩} (w6.setCell ⟨g,13,none⟩ (.slice A6 (y5.closed.l.length+1) c6)):=by
      have h1:=zT.set_closed (l':=y5.closed.l++[kO ⟨ky,nmm,6,vl⟩]) (A':=A6) (c':=c6) hed ((zG hd5 _).trans hgr) Li hA6;rw[r7,List.length_singleton]at h1;exact h1
     have HEnd:=za (HQ5.out.trans hEnd);have hx6:=(((RO HB5.out hEnd.b).block _ (zh HK2.out)).trans HK2.out);have HX6:=za hx6;have HB6:=za (RO HB5.out hEnd.b);have HYe:Hid (Dm.d {y5 with closed:=⟨A6,c6,y5.closed.l++[kO ⟨ky,nmm,6,vl⟩]⟩}={Qb x.d ⟨ky,nmm,6,vl⟩ v with closed:=(Qb x.d ⟨ky,nmm,6,vl⟩ v).closed++[kO ⟨ky,nmm,6,vl⟩]}):=za (by
      have h1:=HY5.out;rw[HZ.out]at h1;rw[<-h1];rfl)
     clear hap hedd hkd hEnd hx6 hown hgr hA6 hbx6 hed hcl5;go_region
     generalize hw7:w6.setCell ⟨g,13,none⟩ (.slice A6 (y5.closed.l.length+1) c6)=w7 at*;generalize hy7:({y5 with closed:=⟨A6,c6,y5.closed.l++[kO ⟨ky,nmm,6,vl⟩]⟩}:Dm)=y7 at*;clear hw7 hy7 q13 q13b k0 k1 k2 k3 q6 f6 hap1;go_wp2_with (first
      |(refine wpList_load_row rfl 76 _ rfl _ rfl _ _ _ _ HEnd.out.ed.box underlying76 rfl QD ?_)
      |(refine wpList_store_row rfl 76 _ _ rfl _ _ rfl rfl _ _ HX6.out QD rfl Gz ?_))
     refine Vf rfl zk (setRow_heap _ _ _ _ _ _ HX6.out) underlying76 rfl QD zk ?_;have hs:=HS1.out;exact⟨y7,rfl,by rw[HEq.out,HYe.out],(HEnd.out.ed.rows.row zb).base zb,qB (bt HB1.out HB6.out) zb⟩
   · rw[if_neg h6]at HEq;have b6:(op==6)=false:=by simpa using h6
     go_wp2_with (first
      |(refine wpList_load_row rfl 76 _ rfl _ rfl _ _ _ _ HQ5.out.ed.box underlying76 rfl QD ?_)
      |(refine wpList_store_row rfl 76 _ _ rfl _ _ rfl rfl _ _ HX5.out QD rfl Gz ?_))
     refine Vf rfl zk (setRow_heap _ _ _ _ _ _ HX5.out) underlying76 rfl QD zk ?_;have hs:=HS1.out;exact⟨y5,rfl,by rw[HEq.out,HY5.out,HZ.out],(HQ5.out.ed.rows.row zb).base zb,qB (bt HB1.out HB5.out) zb⟩
end
section
open Go.RowKit
theorem za0(d:Dr)(l:List At){k:Nat}(hk:k<l.length):Uy d (l.take (k+1))=(if UA (L l[k].name)&& !(L l[k].val).isEmpty then X5 (Uy d (l.take k)) l[k].name l[k].val else Uy d (l.take k)):=by
 unfold Uy;rw[Mf _ l d hk]
theorem Jd{w wr:World}{B:Nat}{A:Option Addr}{l:List At}(h:zr w B A 2 l.length (cellsOf zw l))(hb:Below B w wr){k:Nat}(hk:k<l.length):∃ba off,A=some ⟨ba,off,none⟩/\wr.cell? ⟨ba,off+k*2,none⟩=some (.string l[k].name)/\wr.cell? ⟨ba,off+k*2+1,none⟩=some (.string l[k].val):=by
 obtain⟨ba,off,e,hB,hc⟩:=h.cell (enc:=zw) (fun _=>rfl) hk;have hx:l[k]? =some l[k]:=l0 hk;refine⟨ba,off,e,?_,?_⟩
 · rw[hb.cell (p:=⟨ba,off+k*2,none⟩) hB];exact hc k _ hx 0 _ rfl
 · rw[hb.cell (p:=⟨ba,off+k*2+1,none⟩) hB];exact hc k _ hx 1 _ rfl
theorem zkL(x:Dm)(A:Option Addr)(c:Nat)(l:List At)(kd:Nat)(w:World)(hN:Yg w x)(hG:zH x.d kd)(hkd:kd<=100000)(hr:zr w w.heap.size A 2 l.length (cellsOf zw l))(hl:l.length<=100000)(hv:∀p∈l,p.name.size<=1000000/\p.val.size<=1000000):
 Calls prog 124 #[.agg (zI x),.slice A l.length c] w (Jr w (Uy x.d l)):=by
 obtain⟨w1,hw1⟩:∃w1,(w.alloc (.cells (zI x) qn)).alloc (.cells (zI YR) qn)=w1:=⟨_,rfl⟩;have hb1:Below w.heap.size w w1:=Vl;have hs1:w1.heap.size=w.heap.size+2:=YO;have k0:w1.heap[w.heap.size]? =some (.cells (zI x) qn):=kh;have k1:w1.heap[w.heap.size+1]? =some (.cells (zI YR) qn):=by
  rw[<-hw1];have:=i5 (w.alloc (.cells (zI x) qn)) (.cells (zI YR) qn);exact QN
 have HEd:=za (Mp x w1 (hN.keep hb1) (hG.dmz hkd));have HW:=za hw1;have HB1:=za hb1;have HK0:=za k0;have HK1:=za k1;have HS1:=za hs1;have HG:=za hG;have HR:=za ((hr.keep hb1).up hb1.size);have HV:=za hv;have hx:zI YR=#[.slice none 0 0,.slice none 0 0,.slice none 0 0,.slice none 0 0,.slice none 0 0,.string ⟨#[]⟩,.int .i64 0,.string ⟨#[]⟩,.string ⟨#[]⟩,.int .i64 0,.string ⟨#[]⟩,.int .i64 0,.int .i64 0,.slice none 0 0]:=rfl;rw[hx]at HW;clear hx hw1 hs1 k0 k1 hb1 hG hN hr hv;obtain⟨N,hN⟩:∃N,l.length=N:=⟨_,rfl⟩;have HN:=za hN;rw[hN]at hl⊢;clear hN;go_enter func124,ntmps124;go_upto_region 1 with fail
 rw[HW.out];go_wp2_with (first
  |(go_at_call 49;refine HEd.out.mono ?_;rintro e w2 ⟨z,g,rfl,hzd,hE,hb2⟩;have HE:=za hE;have HB2:=za hb2;have HZ:=za hzd;clear hE hb2 hzd)
  |(refine wpList_load_row rfl 76 _ rfl _ rfl _ _ _ _ HK0.out underlying76 rfl QD ?_))
 go_loopg [7,12] N (fun gk _ i wr=>∃(k:Nat) (yk:Dm),i=.int .i64 k/\k<=N/\k+gk=N/\Hid (zT w1.heap.size g z w2 yk wr)/\Hid (yk.d=Uy x.d (l.take k)))
 case atStart=>exact⟨0,z,rfl,X1 _,zb,za (zT.same HE.out zj),za HZ.out⟩
 case round=>
  obtain⟨k,yk,rfl,hk,hkg,HQ,HD⟩:=hrel;by_cases hlt:k<N
  · have hlt':k<l.length:=by rw[HN.out];exact hlt
    have hrow:=HR.out;obtain⟨ba,off,rfl,c0,c1⟩:=Jd hrow ((HB2.out.mono zo).trans HQ.out.b) hlt';have hvk:=HV.out _ (X8 hlt');have HIt:=za (za0 x.d l hlt');have hgk:zH yk.d kd:=by rw[HD.out];exact zH.import_ (l.take k) HG.out (fun y hy=>(HV.out y (List.mem_of_mem_take hy)).2)
    have HGk:=za hgk;have hEk:=HQ.out.ed;have HQs:=za (fun(W:World) (hW:Below wr.heap.size wr W)=>HQ.out.trans (zT.same HQ.out.ed hW));have HKy0:=fun(W:World)=>jt l[k].name W (by have:=hvk.1;omega);have HEv:=za (fun(W:World) (hW:Below wr.heap.size wr W)=>Tk w1.heap.size g yk l[k].name l[k].val W (hEk.below hW) (by have:=HGk.out.pl;have e:yk.d.props=yk.props.l:=rfl;rw[e]at this;omega) HGk.out.pa (by have:=hvk.2;omega));clear hgk hEk hvk hrow;generalize l[k].name=nmk at*;generalize l[k].val=vlk at*;cases hky:UA (L nmk)with
    | false=>
      rw[hky]at HIt;simp only[hky]at HKy0;have HKy:=za HKy0;clear HKy0 hky;go_wp2_with (go_at_call 155;refine(HKy.out _).mono ?_;rintro e w4 ⟨rfl,hb4⟩;have HB4:=za (bt zu hb4);clear hb4)
      exact AM
    | true=>
      rw[hky]at HIt;simp only[hky]at HKy0;have HKy:=za HKy0;clear HKy0 hky;by_cases h0:vlk.toList=[]
      · have e0:(L vlk).isEmpty=true:=by rw[JL h0];rfl
        rw[e0]at HIt;go_wp2_with (go_at_call 155;refine(HKy.out _).mono ?_;rintro e w4 ⟨rfl,hb4⟩;have HB4:=za (bt zu hb4);have hq4:=(hb4.block wr.heap.size zl).trans (i5 wr _);have d0:=zd (j:=0) hq4 rfl;have d1:=zd (j:=1) hq4 rfl;clear hb4 hq4)
        exact AM
      · have e0:(L vlk).isEmpty=false:=XC h0;have h0':vlk.toList.isEmpty=false:=by rw[tl];exact e0
        rw[e0]at HIt;go_wp2_with (first
         |(go_at_call 155;refine(HKy.out _).mono ?_;rintro e w4 ⟨rfl,hb4⟩;have HB4:=za (bt zu hb4);have hq4:=(hb4.block wr.heap.size zl).trans (i5 wr _);have d0:=zd (j:=0) hq4 rfl;have d1:=zd (j:=1) hq4 rfl;clear hb4 hq4)
         |(go_at_call 159;refine(HEv.out _ HB4.out).mono ?_;rintro e w5 hP;obtain⟨rfl,y5,hy5,hq5⟩:=qG.q hP;have HQ5:=za hq5;have HY5:=za hy5;clear hP hq5 hy5 d0 d1))
        go_roundg (gk - 1)
        case measure=>omega
        case rel=>exact⟨k+1,y5,zU,zb,zb,za ((HQs.out _ HB4.out).trans HQ5.out),za (by rw[HIt.out,HY5.out,HD.out];rfl)⟩
  · obtain rfl:k=N:=by omega
    have HDe:Hid (yk.d=Uy x.d l):=za (by rw[HD.out,<-HN.out,List.take_length]);have hb:=HQ.out.b;have HX:=za ((((HB2.out.mono zo).trans hb).block _ (zh HK1.out)).trans HK1.out);go_wp2_with (first
     |(refine wpList_load_row rfl 76 _ rfl _ rfl _ _ _ _ HQ.out.ed.box underlying76 rfl QD ?_)
     |(refine wpList_store_row rfl 76 _ _ rfl _ _ rfl rfl _ _ HX.out QD rfl Gz ?_))
    refine Vf rfl zk (setRow_heap _ _ _ _ _ _ HX.out) underlying76 rfl QD zk ?_;have hs:=HS1.out;exact⟨yk,rfl,HDe.out,(HQ.out.ed.rows.row zb).base zb,qB (bt HB1.out ((HB2.out.mono zo).trans hb)) zb⟩
end
section
open Go.RowKit Go.Maps
theorem zgc(s:ByteArray)(w:World)(hE:Env0 w)(hs:s.size<=4000000):
 Calls prog 103 #[.string s,.string ⟨#[59]⟩] w fun e w'=>e=.returned (.slice (some ⟨w.heap.size,0,none⟩) (Zk 59 s).length (Zk 59 s).length)/\w.alloc (.cells ((Zk 59 s).map Value.string).toArray 9)=w':=by
 obtain⟨m,hm⟩:=hE.maxLen;have h:=strings_Split s ⟨#[59]⟩ m w zb hm VG;rw[jN];exact h.mono fun e w' h=>⟨h.1,h.2.symm⟩
theorem zfh{B:Nat}{A:Option Addr}{c:Nat}{l:List At}(t:At)(w:World)(h:w.ownsRow B kc 2 (.slice A l.length c) l.length (cellsOf zw l))(hl:l.length<=100000000)(hB:B<=w.heap.size):
 ∃A' c' w',(Zv #[31,31] 31 #[.slice A l.length c,.slice (some ⟨w.heap.size,0,none⟩) 1 1]).run prog (w.alloc (.cells #[.string t.name,.string t.val] 114))=.ok (.slice A' (l.length+1) c') w'/\w'.ownsRow B kc 2 (.slice A' (l.length+1) c') (l.length+1) (cellsOf zw (l++[t]))/\w.grownBy w' (Value.slice A l.length c).ownBlock/\∀p,A'=some p->w.heap.size<=p.block∨∃q,A=some q/\q.block=p.block:=by
 obtain⟨i0,hi0,hz0,hz1,hz2⟩:=info_parts V0;obtain⟨v',w',h1,h2,h3,_,h5⟩:=run_append_own_at (P:=prog) (w.alloc (.cells #[.string t.name,.string t.val] 114)) B 31 31 114 i0 _ 2 32 underlying31 hi0 hz0 hz1 hz2 rfl zi (.slice A l.length c) l.length _ (qi h zu) ⟨w.heap.size,0,none⟩ 1 1 (zw t) rfl (fun j u hu=>by
  rw[Ua,zk4];exact zd (i5 w _) Gh) T8 ql zb (i3 hB (zL w _).size)
 rw[ZU]at h1;obtain⟨NA,nc,rfl⟩:=Qf h2;have hc:cellsOf zw (l++[t])=cellsOf zw l++zw t:=J7;refine⟨NA,nc,w',h1,K8,(zG (zL w _) _).trans h3,fun p hp=>?_⟩;have hpb:(Value.slice NA (l.length+1) nc).ownBlock=some p.block:=Ks;rcases h5 with k|k
 · exact JZ
 · rw[hpb]at k;have:=zx k;have:=(zL w (.cells #[.string t.name,.string t.val] 114)).size;exact Kb
def YI(ps:List ByteArray)(k:Nat):List At:=(ps.take k).filterMap Jm
theorem zdI(ps:List ByteArray){k:Nat}(hk:k<ps.length):YI ps (k+1)=YI ps k++(match Jm ps[k]with|some a=>[a]|none=>[]):=by
 unfold YI;rw[List.take_succ_eq_append_getElem hk,List.filterMap_append]
 congr 1
 rw[List.filterMap_cons,List.filterMap_nil];cases Jm ps[k]<;>rfl
theorem zfB(ps:List ByteArray)(k:Nat):(YI ps k).length<=k:=by
 unfold YI;refine i3 (List.length_filterMap_le _ _) ?_;exact No
attribute [local go_sem ↓] ZU
theorem zfS(s:ByteArray)(w:World)(hE:Env0 w)(hs:s.size<=1000000):
 Calls prog 121 #[.string s] w fun e w'=>∃A c,e=.returned (.slice A (YU s).length c)/\w'.ownsRow w.heap.size kc 2 (.slice A (YU s).length c) (YU s).length (cellsOf zw (YU s))/\Below w.heap.size w w':=by
 have HSp:=za (zgc s w hE zb);have HpL:=za (GS s 59);have HpM:=za (Ov s 59);have HEn:=za hE;have hI:YU s=YI (Zk 59 s) (Zk 59 s).length:=by unfold YI YU;rw[List.take_length]
 rw[hI];clear hI hE;generalize Zk 59 s=ps at*;go_enter func121,ntmps121;go_wp2_with (go_at_call 103;refine HSp.out.mono ?_;rintro e w6 ⟨rfl,rfl⟩)
 obtain⟨N,hN⟩:∃N,ps.length=N:=⟨_,rfl⟩;rw[hN];have HN:=za hN;clear hN;have hNs:N<=1000001:=by have:=HpL.out;rw[HN.out]at this;omega
 have HR0:=za (NW w ps);generalize hW6:w.alloc (.cells (ps.map Value.string).toArray 9)=W6 at*;have HB6:=za (show Below w.heap.size w W6 by rw[<-hW6];exact zu);have HS6:=za (show W6.heap.size=w.heap.size+1 by rw[<-hW6];simp);clear hW6;go_loopg [3,5,6,7,8,12] N (fun gk v _ _ _ _ i wl=>∃(k:Nat) (A:Option Addr) (c:Nat),i=.int .i64 k/\k<=N/\k+gk=N/\v=.slice A (YI ps k).length c/\Hid (wl.ownsRow W6.heap.size kc 2 (.slice A (YI ps k).length c) (YI ps k).length (cellsOf zw (YI ps k)))/\Hid (Below W6.heap.size W6 wl))
 case atStart=>exact⟨0,none,0,rfl,X1 _,zb,rfl,za (World.ownsRow_nil _ _ _ _),za zj⟩
 case round=>
  obtain⟨k,A,c,rfl,hk,hkg,rfl,HO,HB⟩:=hrel;by_cases hlt:k<N
  · have hlt':k<ps.length:=by rw[HN.out];exact hlt
    have hrow:=HR0.out;rw[<-HS6.out]at hrow;obtain⟨ba,off,ea,hc⟩:=K4 (B:=W6.heap.size) hrow HB.out hlt';injection ea with ea
    injection ea with ea1 ea2
    subst ea1 ea2;rw[zk4]at hc;have hxs:=HpM.out ps[k] (X8 hlt');have hsc:=zdI ps hlt';have HSc:=za hsc;have hkl:(YI ps k).length<=10000000:=by have:=zfB ps k;omega
    clear hsc hrow;generalize ps[k]=x at*;have HCt:=za (RP x ⟨#[61]⟩ wr ((HEn.out.go HB6.out).go HB.out) zb);have hcl:=So (L x) [61];rw[zF]at hcl;have h61:L (⟨#[61]⟩:ByteArray)=[61]:=rfl;rw[h61]at HCt;have hIt:Jm x=if UA (Lib.cut (L x) [61]).1&& !(Lib.cut (L x) [61]).2.1.isEmpty then some ⟨bs (Lib.cut (L x) [61]).1,bs (Lib.cut (L x) [61]).2.1⟩else none:=rfl;generalize (Lib.cut (L x) [61]).2.2=fd at*;generalize (Lib.cut (L x) [61]).1=kk at*;generalize (Lib.cut (L x) [61]).2.1=vv at*;have HKy0:=fun(W:World)=>jt (bs kk) W (by rw[Zg];have:=hcl.1;omega);rw[qz]at HKy0;cases hky:UA kk with
    | false=>
      rw[hky,Bool.false_and,if_neg zi]at hIt;simp only[hky]at HKy0;have HKy:=za HKy0;have HIt:=za hIt;clear HKy0 hky hIt hcl;exact DG
    | true=>
      rw[hky,Bool.true_and]at hIt;simp only[hky]at HKy0;have HKy:=za HKy0;clear HKy0 hky hcl;by_cases h0:(bs vv).toList=[]
      · have e0:vv.isEmpty=true:=by rw[tl,qz]at h0;rw[h0];rfl
        rw[e0,if_neg zi]at hIt;have HIt:=za hIt;clear hIt;exact DG
      · have e0:vv.isEmpty=false:=by
         rw[tl,qz]at h0;cases vv with
         |nil=>exact absurd rfl h0
         |cons=>rfl
        have e1:(bs vv).toList.isEmpty=false:=by rw[tl,qz];exact e0
        rw[e0,if_pos zi]at hIt;have HIt:=za hIt;clear hIt e0;have HAp:=za (fun(W:World) (hW:Below wr.heap.size wr W)=>zfh (A:=A) (c:=c) (l:=YI ps k) ⟨bs kk,bs vv⟩ W (qi HO.out hW) zb (i3 HB.out.size hW.size));go_upto_region 7 with(first
         |(go_at_call 154;refine HCt.out.mono ?_;rintro e w7 ⟨rfl,nd,rfl⟩)
         |(go_at_call 155;refine(HKy.out _).mono ?_;rintro e w8 ⟨rfl,hb8⟩;have HB8:=za (bt (ZO (Below.refl wr.heap.size wr) nd) hb8);clear hb8))
        obtain⟨A5,c5,w5,hap,hown,hgr,_⟩:=HAp.out w8 HB8.out;have e:=HSc.out;rw[HIt.out]at e;dsimp only at e;have HE5:=za e;have hb5:Below W6.heap.size W6 w5:=(HB.out.trans (HB8.out.mono HB.out.size)).grown hgr (i3 HB.out.size HB8.out.size) (fun j ej=>by
         obtain⟨p,e1,e2⟩:=ZQ ej;rw[<-e2];exact(qu HO.out p e1).1)
        have HO5:=za hown;have HB5:=za hb5;clear hown hgr hb5 e HAp;go_wp2;go_roundg (gk - 1)
        case measure=>omega
        case rel=>
         have hl5:(YI ps (k+1)).length=(YI ps k).length+1:=by rw[HE5.out];simp
         exact AY
  · obtain rfl:k=N:=by omega
    have HNe:=za (show YI ps k=YI ps ps.length by rw[HN.out]);go_wp2;go_ret;rw[<-HNe.out];exact⟨A,c,rfl,Qq HO.out (HB6.out.size),bt HB6.out HB.out⟩
end
section
open Go.RowKit
def zaW(w:World)(e:Ending)(w':World):Prop:=∃b:Bool,e=.returned (.bool b)/\w=w'
def MB(w:World)(e:Ending)(w':World):Prop:=∃b:Bool,e=.returned (.bool b)/\Below w.heap.size w w'
theorem zgr(d:Dv)(w:World)(hE:Env0 w)(hs:d.og.size<=1000):
 Calls prog 47 #[zY d] w fun e w'=>∃s b,e=.returned (.tuple #[.string s,.bool b])/\s.size<=2000/\Below w.heap.size w w':=by
 have hb:=zL w (.cells (zq d) zp);have HR:=za (fun(W:World) (hW:Below w.heap.size w W)=>Tr d.og ⟨#[47]⟩ 33 W (hE.go hW) zb VG);have HZ:Hid ((bs (Lib.replaceAll (L d.og) [33] [47])).size<=2000):=za (by
  rw[Zg,jr _ _ _ zi];have:=zba 33 [47] zi (L d.og);rw[zF]at this;omega)
 have hL:L (⟨#[47]⟩:ByteArray)=[47]:=rfl;rw[hL]at HR;have HB:=za hb;clear hb hL hE;generalize bs (Lib.replaceAll (L d.og) [33] [47])=rs at*;unfold zY zq at*;by_cases h2:d.kd=2
 · exact SD
 · by_cases h3:d.kd=3
   · exact SD
   · have b2:(d.kd !=2)=true:=by simpa using h2
     have b3:(d.kd !=3)=true:=by simpa using h3
     go_enter func47,ntmps47;go_wp2;go_ret2;exact⟨_,_,rfl,zi,HB.out⟩
theorem zfV(a b:ByteArray)(w:World)(ha:a.size<=100000):
 Calls prog 83 #[.string a,.string b] w (MB w):=by
 have hsz:(9223372036854775807<a.size+(⟨#[47]⟩:ByteArray).size)=False:=eq_false DC;have HP:=za (fun(p:ByteArray) (W:World)=>Ja b p W);go_enter func83,ntmps83;go_wp2_with (go_at_call 105;refine(HP.out _ _).mono ?_;rintro e w2 ⟨rfl,rfl⟩)
 go_ret;exact⟨_,rfl,zj⟩
theorem zdH(A:Option Addr)(c:Nat)(l:List At)(w:World)(hl:l.length<=1000)(h:zr w w.heap.size A 2 l.length (cellsOf zw l)):
 Calls prog 80 #[.slice A l.length c] w (MB w):=by
 have H:=za h;clear h;obtain⟨N,hN⟩:∃N,l.length=N:=⟨_,rfl⟩;have HN:=za hN;rw[hN]at hl⊢;clear hN;go_enter func80,ntmps80;go_wp2;go_loopg [3] (N+1) (fun gk s3 wr=>∃m:Nat,s3=.int .i64 m/\m+gk=N+2/\1<=m/\m<=N+1/\Hid (Below w.heap.size w wr))
 case atStart=>exact⟨1,rfl,zb,zo,zb,za zj⟩
 case round=>
  obtain⟨m,rfl,hmg,hm1,hmN,HB⟩:=hrel;by_cases hlt:m<N
  · obtain⟨j,hj⟩:∃j,m=j+1:=⟨m - 1,zb⟩;have hk1:j<l.length:=VK;have hk2:m<l.length:=VK;have hrow:=H.out;obtain⟨ba,off,rfl,c0,-⟩:=Jd hrow HB.out hk1;obtain⟨ba2,off2,e2,c1,-⟩:=Jd hrow HB.out hk2;injection e2 with e2
    injection e2 with e3 e4
    subst e3 e4;have h1:(m:Int)<(N:Int):=zb;have h2:((m:Int) - 1)=(j:Int):=zb;have h3:(0:Int)<=(j:Int):=zb;have h4:(j:Int)<(N:Int):=zb;have h5:(0:Int)<=(m:Int):=zb;generalize l[j].name=na at*;generalize l[m].name=nb at*;clear hrow hk1 hk2 hj;go_wp2;go_quiet (fail)
    go_wp2
    all_goals first
     | (go_ret
        exact⟨_,rfl,ZO HB.out _⟩)
     | (go_roundg (gk - 1)
        case measure=>omega
        case rel=>exact⟨m+1,zU,zb,zb,zb,za (ZO HB.out _)⟩)
  · go_wp2;go_ret;exact⟨_,rfl,HB.out⟩
theorem ziD(s:ByteArray)(w:World)(hs:s.size<=100000):Calls prog 79 #[.string s] w (zaW w):=by
 have HV:=za (fun(W:World)=>Bu s W zb);have HC:=za (fun(c:UInt8) (W:World)=>strings_Contains_one s c W);generalize Z4 (L s)=b at*;go_enter func79,ntmps79;go_wp2_with (first
  |(go_at_call 77;refine(HV.out _).mono ?_;rintro e w2 ⟨rfl,rfl⟩)
  |(go_at_call 102;refine(HC.out _ _).mono ?_;rintro e w3 ⟨rfl,rfl⟩))
 all_goals
  go_ret;exact⟨_,rfl,rfl⟩
theorem zdO(s:ByteArray)(w:World)(hE:Env0 w)(hs:s.size<=100000):Calls prog 81 #[.string s] w (MB w):=by
 obtain⟨m,hm⟩:=hE.maxLen;have HSp:Hid (Calls prog 103 #[.string s,.string ⟨#[47]⟩] w fun e w'=>e=.returned (.slice (some ⟨w.heap.size,0,none⟩) (Zk 47 s).length (Zk 47 s).length)/\w.alloc (.cells ((Zk 47 s).map Value.string).toArray 9)=w'):=za (by
  have h:=strings_Split s ⟨#[47]⟩ m w zb hm VG;rw[jN];exact h.mono fun e w' h=>⟨h.1,h.2.symm⟩)
 have HI:=za (fun(x set:ByteArray) (W:World) (hx:x.size<=100000)=>CP x set W zb);have HpL:=GS s 47;have HpM:=za (fun x hx=>i3 (Ov s 47 x hx) hs);have HR0:=za (NW w (Zk 47 s));clear hm hE;generalize Zk 47 s=ps at*;have hpl:ps.length<=100001:=zb;go_enter func81,ntmps81;go_wp2_with (go_at_call 103;refine HSp.out.mono ?_;rintro e w6 ⟨rfl,rfl⟩)
 have HB6:=za (zL w (.cells (ps.map Value.string).toArray 9));have HS6:=za (show(w.alloc (.cells (ps.map Value.string).toArray 9)).heap.size=w.heap.size+1 by simp);generalize w.alloc (.cells (ps.map Value.string).toArray 9)=W6 at*;obtain⟨N,hN⟩:∃N,ps.length=N:=⟨_,rfl⟩;rw[hN]at hpl⊢;have HN:=za hN;clear hN HpL;go_loopg [4] (N+1) (fun gk s4 wr=>∃k:Nat,s4=.int .i64 k/\k+gk=N+1/\k<=N/\wr=W6)
 case atStart=>exact⟨0,rfl,zb,X1 _,rfl⟩
 case round=>
  obtain⟨k,rfl,hkg,hkN,rfl⟩:=hrel;by_cases hlt:k<N
  · have hlt':k<ps.length:=by rw[HN.out];exact hlt
    have hrow:=HR0.out;rw[<-HS6.out]at hrow;obtain⟨ba,off,ea,hc⟩:=K4 (B:=wr.heap.size) hrow zj hlt';injection ea with ea
    injection ea with ea1 ea2
    subst ea1 ea2;rw[zk4]at hc;have hxs:=HpM.out ps[k] (X8 hlt');have hkI:(k:Int)<(N:Int):=zb;have HIx:=za (fun(set:ByteArray) (W:World)=>HI.out ps[k] set W hxs);generalize ps[k]=x at*;clear hrow hxs hlt';go_wp2_with (go_at_call 100;refine(HIx.out _ _).mono ?_;rintro e w3 ⟨rfl,rfl⟩)
    all_goals first
     | (go_ret
        exact⟨_,rfl,HB6.out⟩)
     | (go_roundg (gk - 1)
        case measure=>omega
        case rel=>exact⟨k+1,zU,zb,zb,rfl⟩)
  · go_wp2;go_ret;exact⟨_,rfl,HB6.out⟩
theorem zie(M:Nat):∀(cs:List Dv),(∀d∈cs,d.og.size<=M)->∀x∈QG cs,x.length<=M:=fun cs h x hx=>by
 unfold QG at hx;obtain⟨d,hd,rfl⟩:=List.mem_map.1 hx;rw[zF];exact h d (List.mem_reverse.1 hd)
theorem Fw(A:Option Addr)(c:Nat)(ds:List Dv)(n:Int)(w:World)(h:qj w A ds)(hl:ds.length<=100)(ho:∀d∈ds,d.og.size<=1000):
 Calls prog 25 #[zV A ds c,.int .i64 n] w fun e w'=>∃s,e=.returned (.string s)/\s.size<=200000/\Below w.heap.size w w':=by
 obtain⟨w1,hw1⟩:∃w1,w.alloc (.cells #[.slice A ds.length c] 30)=w1:=⟨_,rfl⟩;have hb1:Below w.heap.size w w1:=ZX;have hr1:w1.heap[w.heap.size]? =some (.cells #[.slice A ds.length c] 30 (0,0)):=Qo;have HC:=za (SO A c ds n w1 (h.keep hb1));unfold zV at HC;have hcl:=GB ds ds.length n;have hcm:=zie 1000 _ (fun d hd=>ho d (CR ds ds.length n d hd));have c0:=zd (j:=0) hr1 rfl;have hlW:w.heap.size<w1.heap.size:=zh hr1;have h100:(QG (Y4 ds ds.length n)).length<=100:=by rw[Nf];omega
 unfold Mx at HC;generalize QG (Y4 ds ds.length n)=os at*;have HJ:=za (fun(base:Nat) (v:Value) (W:World) (hW:W.ownsRow base qg 1 v os.length (cellsOf zD os))=>Ce W base v os 1000 zb zi hcm hW);have hjl:=jX 1000 os hcm;have hjs:(bs (Lib.join os [47])).size<=150000:=by
  rw[Zg];have:os.length*(1000+1)<=100*1001:=Nat.mul_le_mul zb zi;omega
 generalize bs (Lib.join os [47])=js at*;have HB1:=za hb1;have HW1:=za hw1;clear hb1 hr1 hw1 h hcl hcm hjl;unfold zV;have hsz:(9223372036854775807<(⟨#[47]⟩:ByteArray).size+js.size)=False:=eq_false DC;have HJo:Hid (∀(base:Nat) (v:Value) (W:World),W.ownsRow base qg 1 v os.length (cellsOf zD os)->Calls prog 46 #[v] W fun e w'=>e=.returned (.string ((⟨#[47]⟩:ByteArray)++js))/\Below W.heap.size W w'):=za fun base v W hW=>by
  have HJ1:=za (HJ.out base v W hW);clear HJ HC hW;go_enter func46,ntmps46;go_wp2_with (go_at_call 65;refine HJ1.out.mono ?_;rintro e w2 ⟨rfl,hb2⟩)
  exact OW
 have hfin:((⟨#[47]⟩:ByteArray)++js).size<=200000:=by rw[ByteArray.size_append];have:(⟨#[47]⟩:ByteArray).size=1:=rfl;omega
 generalize (⟨#[47]⟩:ByteArray)++js=js2 at*;by_cases h0:0<os.length
 · have h0I:(0:Int)<(os.length:Int):=by omega
   go_enter func25,ntmps25;go_upto_region 1 with fail
   rw[HW1.out];go_wp2_with (first
    |(go_at_call 45;refine HC.out.mono ?_;rintro e w2 ⟨OA,oc,rfl,hown,hb2⟩;have HO2:=za hown;have HB2:=za hb2;clear hown hb2)
    |(go_at_call 46;refine(HJo.out _ _ _ HO2.out).mono ?_;rintro e w3 ⟨rfl,hb3⟩))
   go_ret;exact⟨_,rfl,hfin,bt HB1.out (bt HB2.out hb3)⟩
 · have h0I:¬(0:Int)<(os.length:Int):=by omega
   go_enter func25,ntmps25;go_upto_region 1 with fail
   rw[HW1.out];go_wp2_with (go_at_call 45;refine HC.out.mono ?_;rintro e w2 ⟨OA,oc,rfl,hown,hb2⟩;have HB2:=za hb2;clear hown hb2)
   go_ret;exact⟨_,rfl,zi,bt HB1.out HB2.out⟩
end
section
open Go.RowKit Go.Maps
theorem zdE(v n u:ByteArray)(B:Nat)(w:World)(hp:v.size<=1000000)(hs:n.size<=1000000)(hB:B<w.heap.size)(hc:w.cell? ⟨B,0,none⟩=some (.string v)):
 Calls prog 157 #[.agg #[.string n,.string u],.pointer (some ⟨B,0,none⟩)] w fun e w'=>e=.returned (.bool (!zS (L v) (L n)))/\Below w.heap.size w w':=by
 have HM:=za (fun W=>MM v n W zb zb);generalize zS (L v) (L n)=b at*;go_enter func157,ntmps157;go_wp2_with (go_at_call 127;refine(HM.out _).mono ?_;rintro e w2 ⟨rfl,hb2⟩)
 go_ret;exact⟨rfl,bt zu hb2⟩
def ES(w0:World)(x:Nat)(zs:List At)(q:At->Bool):Prop:=∀z∈zs,∀W,Below w0.heap.size w0 W->Calls prog 157 #[.agg #[.string z.name,.string z.val],.pointer (some ⟨x,0,none⟩)] W fun e w'=>e=.returned (.bool (q z))/\Below W.heap.size W w'
theorem zfJ(A:Option Addr)(c x:Nat)(zs:List At)(q:At->Bool)(w0 w:World)(hn:zs.length<=1000000)(h:zr w w.heap.size A 2 zs.length (cellsOf zw zs))(hb0:Below w0.heap.size w0 w)(hq:ES w0 x zs q):
 Calls prog 190 #[.slice A zs.length c,.func (.func 157) #[] #[.pointer (some ⟨x,0,none⟩)]] w fun e w'=>e=.returned (.int .i64 (YF q zs))/\Below w.heap.size w w':=by
 have H:=za h;have HQ:=za hq;have HB0:=za hb0;clear h hq hb0;generalize hN:zs.length=N at*;have HN:=za hN;clear hN;go_enter func190,ntmps190;go_wp2;go_loopg [8] (N+1) (fun gk s8 wr=>∃k:Nat,s8=.int .i64 k/\k+gk=N+1/\k<=N/\Hid (∀j (h:j<zs.length),j<k->q zs[j]=false)/\Hid (Below w.heap.size w wr))
 case atStart=>exact⟨0,rfl,zb,X1 _,(fun j _ h=>absurd h (Nat.not_lt_zero _)),zj⟩
 case round=>
  obtain⟨k,rfl,hkg,hkN,hno,hB⟩:=hrel;by_cases hlt:k<N
  · have hk':k<zs.length:=by rw[HN.out];exact hlt
    have hrow:=H.out;rw[<-HN.out]at hrow;obtain⟨ba,off,rfl,c0,c1⟩:=Jd hrow hB.out hk';have hltI:(k:Int)<(N:Int):=zb;have HC:=za (HQ.out zs[k] (X8 _) wr (bt HB0.out hB.out));have HHit:=za (fun(h:q zs[k]=true)=>Oa hno.out hk' h);have HNx:Hid (q zs[k]=false->∀j (h:j<zs.length),j<k+1->q zs[j]=false):=za fun hne j h hj=>TK;generalize q zs[k]=b at*;generalize zs[k].name=zn at*;generalize zs[k].val=zv at*;clear hk' hrow;cases b
    · have HA:=za (HNx.out rfl);go_wp2_with (go_at_call 157;refine HC.out.mono ?_;rintro e w2 ⟨rfl,hb2⟩)
      go_roundg (gk - 1)
      case measure=>omega
      case rel=>exact⟨k+1,zU,zb,zb,HA.out,bt hB.out hb2⟩
    · have HV:=za (HHit.out rfl);go_wp2_with (go_at_call 157;refine HC.out.mono ?_;rintro e w2 ⟨rfl,hb2⟩)
      go_ret;rw[HV.out];exact⟨rfl,bt hB.out hb2⟩
  · obtain rfl:k=N:=by omega
    have HV:=za (Nv (l:=zs) (q:=q) fun j h=>hno.out j h GG);go_wp2;go_ret;rw[HV.out];exact⟨rfl,hB.out⟩
end
section
open Go.RowKit Go.Shelf
theorem zbI(v:Value):Instr.loadAt 43 v=qD 43 v:=Kg
attribute [local go_sem ↓] zbI
theorem zdA(y:Dv)(B:Nat)(w:World)(hok:VJ y)(hrow:ZM w y)(hd:w.heap[B]? =some (.cells (zq y) zp (0,0)))(l:List Tm)(hl:∀t∈l,t.value.size<=1000000)(W:World)(hb:Below w.heap.size w W)(t:Tm)(ht:t∈l):
 Calls prog 119 #[.agg #[.int .i64 t.key,.string t.name,.int .i64 t.op,.string t.value],.pointer (some ⟨B,0,none⟩)] W fun e w'=>e=.returned (.bool (qT t&& !YK t y))/\Below w.heap.size w w':=by
 have hdW:=(hb.block _ (zh hd)).trans hd;have hT:=i5 W (.cells #[.int .i64 t.key,.string t.name,.int .i64 t.op,.string t.value] 52);have hbT:=zL W (.cells #[.int .i64 t.key,.string t.name,.int .i64 t.op,.string t.value] 52);obtain⟨w1,hw1⟩:∃w1,W.alloc (.cells #[.int .i64 t.key,.string t.name,.int .i64 t.op,.string t.value] 52)=w1:=⟨_,rfl⟩;rw[hw1]at hT hbT;have HU0:=vf t w1;have HBW:=za hb;have HBT:=za hbT;have HD0:=za (fun(W2:World) (hW2:Below w1.heap.size w1 W2)=>FI t y W2 (by have:=hl t ht;omega) hok (((hrow.keep hb).keep (bt hbT hW2)).row));have HC:Hid (∀W2,Below w1.heap.size w1 W2->W2.cell? ⟨W.heap.size,0,none⟩=some (.int .i64 t.key)/\W2.cell? ⟨W.heap.size,1,none⟩=some (.string t.name)/\W2.cell? ⟨W.heap.size,2,none⟩=some (.int .i64 t.op)/\W2.cell? ⟨W.heap.size,3,none⟩=some (.string t.value)):=za fun W2 hW2=>by
  have h1:=(hW2.block _ (zh hT)).trans hT;exact PQ
 have HDv:Hid (∀W2,Below w1.heap.size w1 W2->(qD 43 (.pointer (some ⟨B,0,none⟩))).run prog W2=.ok (zY y) W2):=za fun W2 hW2=>by
  have h1:=((bt hbT hW2).block _ (zh hdW)).trans hdW;have h2:=UI (P:=prog) (w:=W2) (T:=43) (n:=10) (g:=B) (o:=0) JJ Jp h1 (by exact zo);rw[h2];rfl
 have HW1:=za hw1;clear hb hd hdW hT hbT hw1 hrow hl;unfold qk at HU0 HD0;generalize YK t y=db at*;cases hu:qT t with
 | false=>
   rw[hu]at HU0;have HU:=za HU0;clear HU0 hu;rw[Bool.false_and];go_enter func119,ntmps119;go_upto_region 1 with fail
   rw[HW1.out];obtain⟨c0,c1,c2,c3⟩:=HC.out w1 zj;go_wp2_with (go_at_call 93;refine HU.out.mono ?_;rintro e w2 ⟨rfl,hb2⟩)
   go_ret;exact⟨rfl,bt HBW.out (bt HBT.out hb2)⟩
 | true=>
   rw[hu]at HU0;have HU:=za HU0;clear HU0 hu;rw[Bool.true_and];go_enter func119,ntmps119;go_upto_region 1 with fail
   rw[HW1.out];obtain⟨c0,c1,c2,c3⟩:=HC.out w1 zj;go_wp2_with (first
    |(go_at_call 93;refine HU.out.mono ?_;rintro e w2 ⟨rfl,hb2⟩;have HB2:=za hb2;obtain⟨d0,d1,d2,d3⟩:=HC.out w2 hb2;have hdv:=HDv.out w2 hb2;clear hb2 c0 c1 c2 c3)
    |(go_at_call 92;refine(HD0.out _ HB2.out).mono ?_;rintro e w3 ⟨rfl,hb3⟩))
   go_ret;exact⟨rfl,bt HBW.out (bt HBT.out (bt HB2.out hb3))⟩
end
section
open Go.RowKit Go.Shelf
abbrev Tq:Type:={t:Tm //t.value.size<=1000000}
instance:Inhabited Tq:=⟨⟨⟨0,⟨#[]⟩,0,⟨#[]⟩⟩,zi⟩⟩
theorem vm:∀(l:List Tm),(∀x∈l,x.value.size<=1000000)->∃zs:List Tq,zs.map (fun x=>x.1)=l
 | [],_=>⟨[],rfl⟩
 | x::l,h=>by
   obtain⟨zs,hz⟩:=vm l (fun y hy=>h y (X6 _ hy));exact EE
theorem zec(y:Dv)(B:Nat)(w:World)(hok:VJ y)(hrow:ZM w y)(hd:w.heap[B]? =some (.cells (zq y) zp (0,0)))(A:Option Addr)(c:Nat)(l:List Tm)(hr:zE w A 4 l.length (cellsOf zQ l))(hnil:A=none->c=0)(hl:l.length<=1000000000)(hv:∀t∈l,t.value.size<=1000000):
 Calls prog 118 #[.slice A l.length c,.func (.func 119) #[] #[.pointer (some ⟨B,0,none⟩)]] w fun e w'=>e=.returned (.bool (l.any fun t=>qT t&& !YK t y))/\Below w.heap.size w w':=by
 cases A with
 | none=>
   exact ve
 | some a=>
   obtain⟨ea,hlt⟩:=hr.pl a rfl;rw[ea]at hr⊢;obtain⟨zs,hzs⟩:=vm l hv;have hzl:zs.length=l.length:=by rw[<-hzs,W7]
   have hP:PredBelow prog 119 #[.pointer (some ⟨B,0,none⟩)] (fun x:Tq=>.agg (zQ x.1).toArray) (fun x:Tq=>qT x.1&& !YK x.1 y) w:=fun W x hb=>zdA y B w hok hrow hd [x.1] (fun z hz=>Lh) W hb x.1 (List.mem_singleton.2 rfl);have h:=AnyQ.slices_ContainsFunc (ρ:=RT) (P:=prog) Cy 4 (by exact isAgg52) (by exact sizeOf52) (fun x:Tq=>zQ x.1) (fun _=>rfl) (fun x:Tq=>qT x.1&& !YK x.1 y) 119 #[.pointer (some ⟨B,0,none⟩)] (enters_of func119 zg rfl) a.block a.off l.length c zs w hP zb zb hlt (fun j hj i v hv=>by
    obtain⟨b,off,e,hb,hc⟩:=hr.row.cell TW (by omega:0<l.length);injection e with e
    injection e with e3 e4
    rw[e3,e4,zk5];refine hc j zs[j]!.1 ?_ i v hv;rw[getElem!_pos zs j hj,<-hzs,zd4,l0 hj];rfl)
   have ht:zs.take l.length=zs:=by rw[<-hzl,List.take_length]
   rw[ht]at h;refine h.mono ?_;rintro e w' ⟨h1,h2⟩;refine⟨?_,h2⟩;rw[h1,<-hzs,List.any_map];rfl
end
section
open Go.RowKit Go.Shelf
theorem zkN(W:World)(cs:Array Value)(T:TypeId)(k n:Nat)(xs zs:List Value)(hc:cs.toList=xs++zs)(h:xs.length=n*k):zE (W.alloc (.cells cs T)) (some ⟨W.heap.size,0,none⟩) k n xs:=
 ⟨⟨h,fun _=>⟨W.heap.size,0,rfl,zl,fun j u hu=>by
   rw[zk4];refine zd (i5 W _) ?_;rw[<-zm2,hc,zd9 (List.getElem?_eq_some_iff.1 hu).1];exact hu⟩⟩,fun a e=>by cases e;exact⟨rfl,zl⟩⟩
theorem zam(ms:List Dv):∀u∈cellsOf zM ms,u.oneCell'=true:=by
 intro u hu;obtain⟨x,_,hx⟩:=List.mem_flatMap.1 hu;simp[zM]at hx;rcases hx with rfl|rfl|rfl|rfl|rfl|rfl|rfl|rfl|rfl|rfl<;>rfl
theorem Ba(x:Dv)(ms:List Dv)(A5:Option Addr)(c5:Nat)(g B:Nat)(W:World)(hg:W.heap[g]? =some (.cells (zq x) zp (0,0)))(hr:zE W A5 10 ms.length (cellsOf zM ms))(hl:ms.length<=1000)(hB:B<=W.heap.size):
 ∃(A:Option Addr) (c:Nat) (w':World),(Zv #[28,28] 28 #[.slice (some ⟨g,0,none⟩) 1 1,.slice A5 ms.length c5]).run prog W=.ok (.slice A (ms.length+1) c) w'/\zE w' A 10 (ms.length+1) (cellsOf zM (x::ms))/\Below B W w':=by
 obtain⟨i0,hi0,hz0,hz1,hz2⟩:=info_parts Jl;have hgl:=zh hg;have hx1:∀j u,(zM x)[j]? =some u->W.cell? ((⟨g,0,none⟩:Addr).add j)=some u:=fun j u hu=>EM;rw[<-ZU];have hxc:cellsOf zM (x::ms)=zM x++cellsOf zM ms:=XP;cases ms with
 | nil=>
   have hs:Src prog i0.size 28 (.slice A5 0 c5) 0 [] W:=by
    cases A5 with
    |none=>exact Src.ofNil W underlying28 c5
    |some a=>exact Src.ofSlice W underlying28 a 0 c5 [] zl (fun j u h=>qI) (fun u h=>qI)
   have h:=run_append_room_src W 28 28 28 zp i0 underlying28 hi0 g 0 1 1 (.slice A5 0 c5) 0 [] hs zo (fun j h=>qI) (fun j h=>qI);refine⟨some ⟨g,0,none⟩,1,W,h,?_,zj⟩;rw[hxc];refine⟨⟨rfl,fun _=>⟨g,0,rfl,hgl,fun j u hu=>?_⟩⟩,fun a e=>by cases e;exact⟨rfl,hgl⟩⟩;rw[zk4];exact zd hg L3
 | cons y ms=>
   obtain⟨b,off,rfl,hb,hcc⟩:=hr.row.cell Xl (by simp:0<(y::ms).length);have hra:=hr.row.at_ zl;obtain⟨b',off',e,hb',hcs⟩:=hra;cases e
   have hs:Src prog i0.size 28 (.slice (some ⟨b,off,none⟩) (y::ms).length c5) (y::ms).length (cellsOf zM (y::ms)) W:=by
    refine Src.ofSlice W underlying28 ⟨b,off,none⟩ _ c5 _ ?_ (fun j u h=>?_) (zam _)
    · rw[hz1];exact Kq zM 10 Xl _
    · rw[Ua];exact hcs j u h
   have hold:=run_firstCells_some (P:=prog) W.drew i0.size 1 ⟨g,0,none⟩ 1 1 (zM x) (by rw[hz1];rfl) (by simpa using hx1);have h:=run_append_grow_src W 28 28 28 zp i0 _ underlying28 hi0 hz0 (some ⟨g,0,none⟩) 1 1 (zM x) hold (.slice (some ⟨b,off,none⟩) (y::ms).length c5) (y::ms).length _ hs zl zb (growslice_fits zl (by rw[hz2];omega));rw[zk6 1 (y::ms).length]at h;refine⟨some ⟨W.heap.size,0,none⟩,_,_,h,?_,(zP (zN zj)).mono hB⟩;rw[hxc];refine zkN W.drew _ _ 10 _ _ _ (by rw[Array.toList_append]) ?_;rw[r7,Kq zM 10 Xl];show 10+_=_;omega
end
section
open Go.RowKit Go.Shelf
theorem zgB{y z:Dv}(h:VJ z)(e:y.d=z.d):VJ y:=by
 have e1:y.og=z.og:=congrArg Dd.og e;have e2:y.sb=z.sb:=congrArg Dd.sb e;have e3:y.dr=z.dr:=congrArg Dd.dr e;have e4:y.ats.l=z.ats.l:=congrArg Dd.ats e;exact⟨by rw[e1];exact h.og,by rw[e2];exact h.sb,by rw[e3];exact h.dr,by rw[e4];exact h.ats,by rw[e4];exact h.len⟩
def Nc(o:Option Dd)(w:World)(e:Ending)(w':World):Prop:=e=.returned (.tuple #[.int .i64 (o.elim 0 Dd.ix),.bool o.isSome])/\Below w.heap.size w w'
theorem zjy(lA:Option Addr)(lc k:Nat)(A:Option Addr)(c:Nat)(ds:List Dv)(n:Int)(w:World)(h:qj w A ds)(hf:zC (zm ds) n=none):
 Calls prog 94 #[.slice lA k lc,zV A ds c,.int .i64 n] w (Nc none w):=by
 obtain⟨w1,hw1⟩:∃w1,w.alloc (.cells #[.slice A ds.length c] 30)=w1:=⟨_,rfl⟩;have hb1:Below w.heap.size w w1:=ZX;have HF:=za (VD A c ds n w1 (h.keep hb1));have HB1:=za hb1;have HW:=za hw1;have h0:w1.heap[w.heap.size]? =some (.cells #[.slice A ds.length c] 30 (0,0)):=Qo;have H0:=za h0;rw[hf]at HF;unfold YC at HF;clear hf h hb1 h0 hw1;unfold zV at*;generalize ds.length=N at*;go_enter func94,ntmps94;go_upto_region 1 with fail
 rw[HW.out];go_wp2_with (first
  |(refine wpList_load_row rfl 30 _ rfl _ rfl _ _ _ _ H0.out underlying30 rfl J4 ?_)
  |(go_at_call 9;refine HF.out.mono ?_;rintro e w2 ⟨rfl,hb2⟩;have HB2:=za (bt HB1.out hb2);have hsz:=hb2.size;have hrow:=i5 w2 (.cells (zq qd) zp);clear hb2)
  |(refine wpList_store_row rfl 43 _ _ rfl _ _ rfl rfl _ _ hrow Zf rfl qP ?_))
 refine bodyPost_ret (v:=.tuple #[.int .i64 0,.bool false]) Pj rfl ?_;exact⟨rfl,qB (zP HB2.out) (HB2.out.size)⟩
end
end Go.Proofs.YtecbmndgpepkcaaGreatDoor

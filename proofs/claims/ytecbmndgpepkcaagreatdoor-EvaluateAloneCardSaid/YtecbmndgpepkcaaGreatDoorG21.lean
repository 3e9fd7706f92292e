/- Contracts that the law rests on, each under the premises that it names. -/
import Derived.Test.YtecbmndgpepkcaaGreatDoorG16
import Derived.Test.YtecbmndgpepkcaaGreatDoorG19
namespace Go.Proofs.YtecbmndgpepkcaaGreatDoor
open Tryz
set_option maxHeartbeats 8000000
set_option maxRecDepth 100000
section
open Go.RowKit
theorem Kt{B:Nat}{w W:World}{g i:Nat}{u:Value}(h:Below B w W)(hs:B<=W.heap.size)(hg:B<=g):Below B w (W.setCell ⟨g,i,none⟩ u):=h.grown (qE _ _ _ _) hs (fun j e=>Nn)
theorem qG.setProps{B g:Nat}{y:Dm}{w w1 w2:World}{l':List At}{A':Option Addr}{c':Nat}(h:qx B w g y)(hb:Below w.heap.size w w1)(ho:kb w1 l' (.slice A' l'.length c') w2):qG B g y w {y.d with props:=l'} (.returned (.tuple #[])) (w2.setCell ⟨g,0,none⟩ (.slice A' l'.length c')):=by
 have h1:=h.below hb;refine⟨rfl,{y with props:=⟨A',c',l'⟩},rfl,h1.setProps ho.2 ho.1,⟨fun b hb' hg hn=>?_,?_,fun a ha p e=>?_⟩,?_⟩
 · rw[heap_setCell_other _ _ _ _ hg];exact((bt hb ho.2).block b hb')
 · have:=(bt hb ho.2).size;simp only[World.setCell];exact QN
 · have hs:({y with props:=⟨A',c',l'⟩}:Dm).as=y.as.set 0 A':=rfl;rw[hs]at ha;rcases List.mem_or_eq_of_mem_set ha with hm|rfl
   · exact Or.inr ⟨a,hm,p,e,rfl⟩
   · exact Or.inl (i3 hb.size (qu ho.1 p e).1)
 · have hB:=i3 h.lo (X3 (zh h.box));exact Kt ((bt hb ho.2).mono hB) (i3 hB (bt hb ho.2).size) h.lo
theorem Tk(B g:Nat)(y:Dm)(k v:ByteArray)(w:World)(h:qx B w g y)(hl:y.props.l.length<=1000)(ha:Z1 y.props.l)(hv:v.size<=9223372036854775807):
 Calls prog 159 #[.pointer (some ⟨g,0,none⟩),.string k,.string v] w (qG B g y w (X5 y.d k v)):=by
 have hpr:=(zB.of_own h.rows.pr).1;have HQ:Hid (∀W,Below w.heap.size w W->W.cell? ⟨g,0,none⟩=some (.slice y.props.A y.props.l.length y.props.c)/\W.frozen? ⟨g,0,none⟩=false):=za fun W hW=>by
  have h1:=(h.below hW).box;exact⟨(ZV h1).1,qe h1 0⟩
 have HG0:=KR y.props.A y.props.c y.props.l k w hpr.row.row zb;have HK0:=ziT k;have HT0:=fun W=>OS v W hv;have HS:=za (fun(W:World) (hW:Below w.heap.size w W)=>Bj ⟨y.props.A,y.props.c,y.props.l⟩ k v W (hpr.keep hW) (by show y.props.l.length<=_;omega) ha);have HH:=za h;have hE:X5 y.d k v=if(GA (L k)|| !Y3 (L v)||((zX y.props.l (L k)).isNone&&decide (64<=y.props.l.length)))then y.d else{y.d with props:=XK y.props.l ⟨k,v⟩}:=rfl;rw[hE];clear hE hpr h ha;unfold VB JE at HG0;dsimp only at HS;obtain⟨q0,f0⟩:=HQ.out w zj;cases hk:GA (L k)with
 | true=>
   simp only[Bool.true_or,if_true];simp only[hk]at HK0;clear hk;cases hf:zX y.props.l (L k)with
   | none=>
     exact Bw
   | some z=>
     exact Bw
 | false =>
   simp only[Bool.false_or];simp only[hk]at HK0;clear hk;cases ht:Y3 (L v)with
   | false=>
     simp only[Bool.not_false,Bool.true_or,if_true];simp only[ht]at HT0;clear ht;cases hf:zX y.props.l (L k)with
     | none=>
       rw[hf]at HG0;clear hf;exact jn
     | some z=>
       rw[hf]at HG0;clear hf;exact jn
   | true=>
     simp only[Bool.not_true,Bool.false_or];simp only[ht]at HT0;clear ht;cases hf:zX y.props.l (L k)with
     | some z=>
       simp only[Option.isNone_some,Bool.false_and,zd3,if_false];rw[hf]at HG0;clear hf;exact ER
     | none=>
       simp only[Option.isNone_none,Bool.true_and];rw[hf]at HG0;clear hf;by_cases hn:64<=y.props.l.length
       · rw[if_pos (zl1 hn)];have hni:(64:Int)<=((y.props.l.length:Nat):Int):=zb;exact jn
       · rw[if_neg (by simpa using hn)];have hni:¬(64:Int)<=((y.props.l.length:Nat):Int):=zb;exact ER
end
section
open Go.RowKit
theorem zb0{s:ByteArray}{n:Nat}(h:s.size<=n):s.extract 0 n=s:=by
 have:L (s.extract 0 n)=L s:=Ff;have e:=congrArg bs this;rwa [Yl,Yl]at e
theorem qG.lift{B g:Nat}{y:Dm}{w w2:World}{d':Dr}{e:Ending}{w':World}(h:qx B w g y)(hb:Below w.heap.size w w2)(hp:qG B g y w2 d' e w'):qG B g y w d' e w':=by
 obtain⟨h1,y',h2,h3,h4,h5⟩:=hp;exact⟨h1,y',h2,h3,(Y9.same hb).trans h4,(hb.mono (i3 h.lo (X3 (zh h.box)))).trans h5⟩
theorem zap(B g:Nat)(y:Dm)(k v:ByteArray)(w:World)(h:qx B w g y)(hl:y.props.l.length<=1000)(ha:Z1 y.props.l)(hv:v.size<=1000000)(hz:∀x∈y.props.l,x.val.size<=1000000):
 Calls prog 165 #[.pointer (some ⟨g,0,none⟩),.string k,.string v] w (qG B g y w (ka y.d k v)):=by
 have hpr:=(zB.of_own h.rows.pr).1;have hbox:=h.box;have q0:=(ZV hbox).1;have HG0:=KR y.props.A y.props.c y.props.l k w hpr.row.row zb;have HV:=za (fun(s:ByteArray) (hs:s.size<=9223372036854775807) (W:World) (hW:Below w.heap.size w W)=>(Tk B g y k s W (h.below hW) hl ha hs).mono fun _ _ hp=>qG.lift h hW hp);have HH:=za h;have hE:(L v).isEmpty=false->ka y.d k v=match zX y.props.l (L k)with|some x=>X5 y.d k ((x.val++IC++v).extract 0 256)|none=>X5 y.d k v:=fun e=>by
  unfold ka;rw[e];rfl
 have hE0:(L v).isEmpty=true->ka y.d k v=y.d:=fun e=>by
  unfold ka;rw[e];rfl
 have hfz:∀x,zX y.props.l (L k)=some x->x.val.size<=1000000:=fun x hx=>hz x (List.mem_of_find?_eq_some hx);clear hpr h ha hbox hz;unfold VB JE at HG0;rcases Classical.em (v.toList=[])with n1|n1
 · have n2:v.toList.isEmpty=true:=by rw[n1];rfl
   rw[hE0 Nl];clear hE hE0 hfz;cases hf:zX y.props.l (L k)with
   | none=>
     exact AH
   | some z=>
     exact AH
 · have n2:v.toList.isEmpty=false:=by rw[tl];exact XC n1
   rw[hE Nl];clear hE hE0;cases hf:zX y.props.l (L k)with
   | none=>
     rw[hf]at HG0;clear hf hfz;have HG:=za HG0;clear HG0;generalize hN:y.props.l.length=N at*;have HN:=za hN;clear hN;go_enter func165,ntmps165;go_wp2_with (first|(go_at_call 33;refine HG.out.mono ?_;rintro e w2 ⟨rfl,hb2⟩;have HB2:=za hb2;clear hb2)|(go_at_call 159;refine(HV.out v zb _ HB2.out).mono ?_;rintro e w3 hP;obtain⟨rfl,-⟩:=id hP;have HP:=za hP;clear hP))
     exact MK
   | some z=>
     have hzz:=hfz z hf;rw[hf]at HG0;clear hf hfz;dsimp only;have r1:(9223372036854775807<z.val.size+1)=False:=zK;have r2:(9223372036854775807<z.val.size+1+v.size)=False:=zK;have hsz:(z.val++IC++v).size=z.val.size+1+v.size:=by simp only[ByteArray.size_append];rfl
     by_cases hq:z.val.size+1+v.size<=256
     · have hqi:((z.val.size:Int)+1+(v.size:Int))<=256:=by omega
       have hmi:min ((z.val.size:Int)+1+(v.size:Int)) 256=(z.val.size:Int)+1+(v.size:Int):=zb;rw[(Sv (s:=z.val++IC++v) (by rw[hsz];exact hq)).trans (zb0 (s:=z.val++IC++v) (n:=z.val.size+1+v.size) (by rw[hsz];exact zo)).symm];exact SM
     · have hqi:¬((z.val.size:Int)+1+(v.size:Int))<=256:=by omega
       have hmi:min ((z.val.size:Int)+1+(v.size:Int)) 256=256:=zb;have hqj:(256:Int)<=(z.val.size:Int)+1+(v.size:Int):=zb;have hqn:256<=z.val.size+1+v.size:=zb;exact SM
theorem S9(v:ByteArray)(w:World)(hv:v.size<=9223372036854775807):
 Calls prog 172 #[.string v] w fun e w'=>e=.returned (.bool (UG v))/\w'=w:=by
 have HT0:=OS v w hv;have hE:UG v=(!(L v).isEmpty&&Y3 (L v)):=rfl;rw[hE];rcases Classical.em (v.toList=[])with n1|n1
 · have n2:v.toList.isEmpty=true:=by rw[n1];rfl
   have n3:(L v).isEmpty=true:=Nl;rw[n3];clear n3 hE HT0;go_enter func172,ntmps172;exact kl
 · have n2:v.toList.isEmpty=false:=by rw[tl];exact XC n1
   have n3:(L v).isEmpty=false:=Nl;rw[n3];have HT:=za HT0;clear n3 hE HT0;generalize Y3 (L v)=b at*;go_enter func172,ntmps172;go_wp2_with (go_at_call 195;refine HT.out.mono ?_;rintro e w4 ⟨rfl,rfl⟩)
   go_ret;exact⟨ya,rfl⟩
end
section
open Go.RowKit
structure zT(B g:Nat)(y:Dm)(w:World)(y':Dm)(w':World):Prop where
 ed:qx B w' g y'
 r:Y9 w g y w' y'
 b:Below B w w'
theorem zT.p{B g:Nat}{y y':Dm}{w w':World}{d':Dr}(h:zT B g y w y' w')(e:y'.d=d'):qG B g y w d' (.returned (.tuple #[])) w':=⟨rfl,y',e,h.ed,h.r,h.b⟩
theorem zT.trans{B g:Nat}{y y1 y2:Dm}{w w1 w2:World}(h:zT B g y w y1 w1)(h2:zT B g y1 w1 y2 w2):zT B g y w y2 w2:=⟨h2.ed,h.r.trans h2.r,h.b.trans h2.b⟩
theorem zT.same{B g:Nat}{y:Dm}{w w':World}(h:qx B w g y)(hb:Below w.heap.size w w'):zT B g y w y w':=⟨h.below hb,Y9.same hb,hb.mono (i3 h.lo (X3 (zh h.box)))⟩
theorem zT.scalar{B g:Nat}{y:Dm}{w:World}(h:qx B w g y)(i:Nat)(v:Value)(y':Dm)(hd:zI y'=(zI y).setIfInBounds i v)(e:y'.as=y.as)(hr:ZG B w y'):zT B g y w y' (w.setCell ⟨g,i,none⟩ v):=by
 have hB:=i3 h.lo (X3 (zh h.box));refine⟨h.store i v y' hd hr (by rw[e];exact h.off),⟨fun b _ hg _=>heap_setCell_other _ _ _ _ hg,Oz,fun a ha p ep=>Or.inr ⟨a,by rw[<-e];exact ha,p,ep,rfl⟩⟩,Kt zj hB h.lo⟩
theorem Qn{l:List (Option Addr)}(h:Mq l)(i j:Nat)(hij:i<j)(hj:j<l.length):QX (l[i]' zb) l[j]:=List.pairwise_iff_getElem.1 h i j zb hj hij
theorem Qm{w w5:World}{B k n m c m' c':Nat}{e:TypeId}{A A0:Option Addr}{xs:List Value}(h:w.ownsRow B e k (.slice A m c) n xs)(hg:w.grownBy w5 (Value.slice A0 m' c').ownBlock)(ha:QX A0 A):w5.ownsRow B e k (.slice A m c) n xs:=
 Xw h hg (fun b hb hv=>by
  obtain⟨p,e1,e2⟩:=ZQ hb;obtain⟨q,e3,e4⟩:=ZQ hv;exact ha p q e1 e3 (e2.trans e4.symm))
theorem zT.set_tags{B g:Nat}{y:Dm}{w w5:World}{l':List ze}{A':Option Addr}{c':Nat}(h:qx B w g y)(hg:w.grownBy w5 (Value.slice y.tags.A y.tags.l.length y.tags.c).ownBlock)(ho:w5.ownsRow B qg 1 (.slice A' l'.length c') l'.length (cellsOf zD l'))(hA:∀p,A'=some p->w.heap.size<=p.block∨∃q,y.tags.A=some q/\q.block=p.block):zT B g y w {y with tags:=⟨A',c',l'⟩} (w5.setCell ⟨g,1,none⟩ (.slice A' l'.length c')):=by
 have hlt:=zh h.box;have hmem:y.tags.A∈y.as:=YD;have hbox:w5.heap[g]? =some (.cells (zI y) Uc (0,0)):=(hg.block g hlt (fun e=>by
  obtain⟨p,e1,e2⟩:=ZQ e.symm;exact h.off _ hmem p e1 e2)).trans h.box
 have hA2:∀p,A'=some p->w.heap.size<=p.block∨∃q,y.as[1]? =some (some q)/\q.block=p.block:=fun p e=>(hA p e).imp id fun⟨q,h1,h2⟩=>⟨q,congrArg some h1,h2⟩;have hr:ZG B w5 {y with tags:=⟨A',c',l'⟩}:=⟨Qm h.rows.pr hg (QX.symm (Qn h.rows.ne 0 1 zi (by show 1<6;decide))),ho,Qm h.rows.lk hg (Qn h.rows.ne 1 2 zi Pv),Qm h.rows.rn hg (Qn h.rows.ne 1 3 zi GR),Qm h.rows.ld hg (Qn h.rows.ne 1 4 zi KW),Qm h.rows.cl hg (Qn h.rows.ne 1 5 zi kt),KA w.heap.size A' y.as 1 h.rows.ne h.rows.lt hA2⟩;have hn:∀b,(∀a∈y.as,∀p,a=some p->p.block≠b)->some b≠(Value.slice y.tags.A y.tags.l.length y.tags.c).ownBlock:=fun b hb e=>GH;have hB:=i3 h.lo (X3 hlt);have hb5:Below B w w5:=(Below.refl B w).grown hg hB (fun j e=>by
  obtain⟨p,e1,e2⟩:=ZQ e;rw[<-e2];exact(qu h.rows.tg p e1).1)
 have h5:qx B w5 g y∨True:=Or.inr trivial;clear h5;have hoff:=J6 (i:=1) h.off hlt hA2;refine⟨⟨UU hbox _,⟨Ze hr.pr (hoff _ ?_),Ze hr.tg (hoff _ ?_),Ze hr.lk (hoff _ ?_),Ze hr.rn (hoff _ ?_),Ze hr.ld (hoff _ ?_),Ze hr.cl (hoff _ ?_),hr.ne⟩,hoff,h.lo⟩,⟨fun b hb' hg' hn'=>?_,?_,fun a ha p e=>?_⟩,Kt hb5 (i3 hB hg.size) h.lo⟩
 · exact ZC
 · exact ZC
 · exact ZC
 · exact ZC
 · exact ZC
 · exact ZC
 · exact IP
 · exact GW
 · have hs:({y with tags:=⟨A',c',l'⟩}:Dm).as=y.as.set 1 A':=rfl;exact I3
theorem zT.set_links{B g:Nat}{y:Dm}{w w5:World}{l':List ze}{A':Option Addr}{c':Nat}(h:qx B w g y)(hg:w.grownBy w5 (Value.slice y.links.A y.links.l.length y.links.c).ownBlock)(ho:w5.ownsRow B qg 1 (.slice A' l'.length c') l'.length (cellsOf zD l'))(hA:∀p,A'=some p->w.heap.size<=p.block∨∃q,y.links.A=some q/\q.block=p.block):zT B g y w {y with links:=⟨A',c',l'⟩} (w5.setCell ⟨g,2,none⟩ (.slice A' l'.length c')):=by
 have hlt:=zh h.box;have hmem:y.links.A∈y.as:=YD;have hbox:w5.heap[g]? =some (.cells (zI y) Uc (0,0)):=(hg.block g hlt (fun e=>by
  obtain⟨p,e1,e2⟩:=ZQ e.symm;exact h.off _ hmem p e1 e2)).trans h.box
 have hA2:∀p,A'=some p->w.heap.size<=p.block∨∃q,y.as[2]? =some (some q)/\q.block=p.block:=fun p e=>(hA p e).imp id fun⟨q,h1,h2⟩=>⟨q,congrArg some h1,h2⟩;have hr:ZG B w5 {y with links:=⟨A',c',l'⟩}:=⟨Qm h.rows.pr hg (QX.symm (Qn h.rows.ne 0 2 zi Pv)),Qm h.rows.tg hg (QX.symm (Qn h.rows.ne 1 2 zi Pv)),ho,Qm h.rows.rn hg (Qn h.rows.ne 2 3 zi GR),Qm h.rows.ld hg (Qn h.rows.ne 2 4 zi KW),Qm h.rows.cl hg (Qn h.rows.ne 2 5 zi kt),KA w.heap.size A' y.as 2 h.rows.ne h.rows.lt hA2⟩;have hn:∀b,(∀a∈y.as,∀p,a=some p->p.block≠b)->some b≠(Value.slice y.links.A y.links.l.length y.links.c).ownBlock:=fun b hb e=>GH;have hB:=i3 h.lo (X3 hlt);have hb5:Below B w w5:=(Below.refl B w).grown hg hB (fun j e=>by
  obtain⟨p,e1,e2⟩:=ZQ e;rw[<-e2];exact(qu h.rows.lk p e1).1)
 have h5:qx B w5 g y∨True:=Or.inr trivial;clear h5;have hoff:=J6 (i:=2) h.off hlt hA2;refine⟨⟨UU hbox _,⟨Ze hr.pr (hoff _ ?_),Ze hr.tg (hoff _ ?_),Ze hr.lk (hoff _ ?_),Ze hr.rn (hoff _ ?_),Ze hr.ld (hoff _ ?_),Ze hr.cl (hoff _ ?_),hr.ne⟩,hoff,h.lo⟩,⟨fun b hb' hg' hn'=>?_,?_,fun a ha p e=>?_⟩,Kt hb5 (i3 hB hg.size) h.lo⟩
 · exact ZC
 · exact ZC
 · exact ZC
 · exact ZC
 · exact ZC
 · exact ZC
 · exact IP
 · exact GW
 · have hs:({y with links:=⟨A',c',l'⟩}:Dm).as=y.as.set 2 A':=rfl;exact I3
theorem zT.set_run{B g:Nat}{y:Dm}{w w5:World}{l':List ze}{A':Option Addr}{c':Nat}(h:qx B w g y)(hg:w.grownBy w5 (Value.slice y.run.A y.run.l.length y.run.c).ownBlock)(ho:w5.ownsRow B qg 1 (.slice A' l'.length c') l'.length (cellsOf zD l'))(hA:∀p,A'=some p->w.heap.size<=p.block∨∃q,y.run.A=some q/\q.block=p.block):zT B g y w {y with run:=⟨A',c',l'⟩} (w5.setCell ⟨g,3,none⟩ (.slice A' l'.length c')):=by
 have hlt:=zh h.box;have hmem:y.run.A∈y.as:=YD;have hbox:w5.heap[g]? =some (.cells (zI y) Uc (0,0)):=(hg.block g hlt (fun e=>by
  obtain⟨p,e1,e2⟩:=ZQ e.symm;exact h.off _ hmem p e1 e2)).trans h.box
 have hA2:∀p,A'=some p->w.heap.size<=p.block∨∃q,y.as[3]? =some (some q)/\q.block=p.block:=fun p e=>(hA p e).imp id fun⟨q,h1,h2⟩=>⟨q,congrArg some h1,h2⟩;have hr:ZG B w5 {y with run:=⟨A',c',l'⟩}:=⟨Qm h.rows.pr hg (QX.symm (Qn h.rows.ne 0 3 zi GR)),Qm h.rows.tg hg (QX.symm (Qn h.rows.ne 1 3 zi GR)),Qm h.rows.lk hg (QX.symm (Qn h.rows.ne 2 3 zi GR)),ho,Qm h.rows.ld hg (Qn h.rows.ne 3 4 zi KW),Qm h.rows.cl hg (Qn h.rows.ne 3 5 zi kt),KA w.heap.size A' y.as 3 h.rows.ne h.rows.lt hA2⟩;have hn:∀b,(∀a∈y.as,∀p,a=some p->p.block≠b)->some b≠(Value.slice y.run.A y.run.l.length y.run.c).ownBlock:=fun b hb e=>GH;have hB:=i3 h.lo (X3 hlt);have hb5:Below B w w5:=(Below.refl B w).grown hg hB (fun j e=>by
  obtain⟨p,e1,e2⟩:=ZQ e;rw[<-e2];exact(qu h.rows.rn p e1).1)
 have h5:qx B w5 g y∨True:=Or.inr trivial;clear h5;have hoff:=J6 (i:=3) h.off hlt hA2;refine⟨⟨UU hbox _,⟨Ze hr.pr (hoff _ ?_),Ze hr.tg (hoff _ ?_),Ze hr.lk (hoff _ ?_),Ze hr.rn (hoff _ ?_),Ze hr.ld (hoff _ ?_),Ze hr.cl (hoff _ ?_),hr.ne⟩,hoff,h.lo⟩,⟨fun b hb' hg' hn'=>?_,?_,fun a ha p e=>?_⟩,Kt hb5 (i3 hB hg.size) h.lo⟩
 · exact ZC
 · exact ZC
 · exact ZC
 · exact ZC
 · exact ZC
 · exact ZC
 · exact IP
 · exact GW
 · have hs:({y with run:=⟨A',c',l'⟩}:Dm).as=y.as.set 3 A':=rfl;exact I3
theorem zT.set_load{B g:Nat}{y:Dm}{w w5:World}{l':List ze}{A':Option Addr}{c':Nat}(h:qx B w g y)(hg:w.grownBy w5 (Value.slice y.load.A y.load.l.length y.load.c).ownBlock)(ho:w5.ownsRow B qg 1 (.slice A' l'.length c') l'.length (cellsOf zD l'))(hA:∀p,A'=some p->w.heap.size<=p.block∨∃q,y.load.A=some q/\q.block=p.block):zT B g y w {y with load:=⟨A',c',l'⟩} (w5.setCell ⟨g,4,none⟩ (.slice A' l'.length c')):=by
 have hlt:=zh h.box;have hmem:y.load.A∈y.as:=YD;have hbox:w5.heap[g]? =some (.cells (zI y) Uc (0,0)):=(hg.block g hlt (fun e=>by
  obtain⟨p,e1,e2⟩:=ZQ e.symm;exact h.off _ hmem p e1 e2)).trans h.box
 have hA2:∀p,A'=some p->w.heap.size<=p.block∨∃q,y.as[4]? =some (some q)/\q.block=p.block:=fun p e=>(hA p e).imp id fun⟨q,h1,h2⟩=>⟨q,congrArg some h1,h2⟩;have hr:ZG B w5 {y with load:=⟨A',c',l'⟩}:=⟨Qm h.rows.pr hg (QX.symm (Qn h.rows.ne 0 4 zi KW)),Qm h.rows.tg hg (QX.symm (Qn h.rows.ne 1 4 zi KW)),Qm h.rows.lk hg (QX.symm (Qn h.rows.ne 2 4 zi KW)),Qm h.rows.rn hg (QX.symm (Qn h.rows.ne 3 4 zi KW)),ho,Qm h.rows.cl hg (Qn h.rows.ne 4 5 zi kt),KA w.heap.size A' y.as 4 h.rows.ne h.rows.lt hA2⟩;have hn:∀b,(∀a∈y.as,∀p,a=some p->p.block≠b)->some b≠(Value.slice y.load.A y.load.l.length y.load.c).ownBlock:=fun b hb e=>GH;have hB:=i3 h.lo (X3 hlt);have hb5:Below B w w5:=(Below.refl B w).grown hg hB (fun j e=>by
  obtain⟨p,e1,e2⟩:=ZQ e;rw[<-e2];exact(qu h.rows.ld p e1).1)
 have h5:qx B w5 g y∨True:=Or.inr trivial;clear h5;have hoff:=J6 (i:=4) h.off hlt hA2;refine⟨⟨UU hbox _,⟨Ze hr.pr (hoff _ ?_),Ze hr.tg (hoff _ ?_),Ze hr.lk (hoff _ ?_),Ze hr.rn (hoff _ ?_),Ze hr.ld (hoff _ ?_),Ze hr.cl (hoff _ ?_),hr.ne⟩,hoff,h.lo⟩,⟨fun b hb' hg' hn'=>?_,?_,fun a ha p e=>?_⟩,Kt hb5 (i3 hB hg.size) h.lo⟩
 · exact ZC
 · exact ZC
 · exact ZC
 · exact ZC
 · exact ZC
 · exact ZC
 · exact IP
 · exact GW
 · have hs:({y with load:=⟨A',c',l'⟩}:Dm).as=y.as.set 4 A':=rfl;exact I3
theorem zT.set_closed{B g:Nat}{y:Dm}{w w5:World}{l':List Tm}{A':Option Addr}{c':Nat}(h:qx B w g y)(hg:w.grownBy w5 (Value.slice y.closed.A y.closed.l.length y.closed.c).ownBlock)(ho:w5.ownsRow B NK 4 (.slice A' l'.length c') l'.length (cellsOf zQ l'))(hA:∀p,A'=some p->w.heap.size<=p.block∨∃q,y.closed.A=some q/\q.block=p.block):zT B g y w {y with closed:=⟨A',c',l'⟩} (w5.setCell ⟨g,13,none⟩ (.slice A' l'.length c')):=by
 have hlt:=zh h.box;have hmem:y.closed.A∈y.as:=YD;have hbox:w5.heap[g]? =some (.cells (zI y) Uc (0,0)):=(hg.block g hlt (fun e=>by
  obtain⟨p,e1,e2⟩:=ZQ e.symm;exact h.off _ hmem p e1 e2)).trans h.box
 have hA2:∀p,A'=some p->w.heap.size<=p.block∨∃q,y.as[5]? =some (some q)/\q.block=p.block:=fun p e=>(hA p e).imp id fun⟨q,h1,h2⟩=>⟨q,congrArg some h1,h2⟩;have hr:ZG B w5 {y with closed:=⟨A',c',l'⟩}:=⟨Qm h.rows.pr hg (QX.symm (Qn h.rows.ne 0 5 zi kt)),Qm h.rows.tg hg (QX.symm (Qn h.rows.ne 1 5 zi kt)),Qm h.rows.lk hg (QX.symm (Qn h.rows.ne 2 5 zi kt)),Qm h.rows.rn hg (QX.symm (Qn h.rows.ne 3 5 zi kt)),Qm h.rows.ld hg (QX.symm (Qn h.rows.ne 4 5 zi kt)),ho,KA w.heap.size A' y.as 5 h.rows.ne h.rows.lt hA2⟩;have hn:∀b,(∀a∈y.as,∀p,a=some p->p.block≠b)->some b≠(Value.slice y.closed.A y.closed.l.length y.closed.c).ownBlock:=fun b hb e=>GH;have hB:=i3 h.lo (X3 hlt);have hb5:Below B w w5:=(Below.refl B w).grown hg hB (fun j e=>by
  obtain⟨p,e1,e2⟩:=ZQ e;rw[<-e2];exact(qu h.rows.cl p e1).1)
 have h5:qx B w5 g y∨True:=Or.inr trivial;clear h5;have hoff:=J6 (i:=5) h.off hlt hA2;refine⟨⟨UU hbox _,⟨Ze hr.pr (hoff _ ?_),Ze hr.tg (hoff _ ?_),Ze hr.lk (hoff _ ?_),Ze hr.rn (hoff _ ?_),Ze hr.ld (hoff _ ?_),Ze hr.cl (hoff _ ?_),hr.ne⟩,hoff,h.lo⟩,⟨fun b hb' hg' hn'=>?_,?_,fun a ha p e=>?_⟩,Kt hb5 (i3 hB hg.size) h.lo⟩
 · exact ZC
 · exact ZC
 · exact ZC
 · exact ZC
 · exact ZC
 · exact ZC
 · exact IP
 · exact GW
 · have hs:({y with closed:=⟨A',c',l'⟩}:Dm).as=y.as.set 5 A':=rfl;exact I3
end
section
open Go.RowKit Go.Maps
theorem jL{B:Nat}{A:Option Addr}{c:Nat}{l:List ze}(v:ByteArray)(w:World)(h:w.ownsRow B qg 1 (.slice A l.length c) l.length (cellsOf zD l))(hl:l.length<=10000000)(hB:B<=w.heap.size):
 ∃A' c' w',(Zv #[32,32] 32 #[.slice A l.length c,.slice (some ⟨w.heap.size,0,none⟩) 1 1]).run prog (w.alloc (.cells #[.string v] 9))=.ok (.slice A' (l.length+1) c') w'/\w'.ownsRow B qg 1 (.slice A' (l.length+1) c') (l.length+1) (cellsOf zD (l++[L v]))/\w.grownBy w' (Value.slice A l.length c).ownBlock/\∀p,A'=some p->w.heap.size<=p.block∨∃q,A=some q/\q.block=p.block:=by
 obtain⟨i0,hi0,hz0,hz1,hz2⟩:=info_parts Rb;obtain⟨v',w',h1,h2,h3,_,h5⟩:=run_append_own_at (P:=prog) (w.alloc (.cells #[.string v] 9)) B 32 32 9 i0 _ 1 16 underlying32 hi0 hz0 hz1 hz2 rfl zi (.slice A l.length c) l.length _ (qi h zu) ⟨w.heap.size,0,none⟩ 1 1 [.string v] rfl (fun j u hu=>by
  rw[Ua,zk4];exact zd (i5 w _) Ot) qP ql zb (i3 hB (zL w _).size)
 rw[ZU]at h1;obtain⟨NA,nc,rfl⟩:=Qf h2;have hc:cellsOf zD (l++[L v])=cellsOf zD l++[.string v]:=T6;refine⟨NA,nc,w',h1,K8,(zG (zL w _) _).trans h3,fun p hp=>?_⟩;have hpb:(Value.slice NA (l.length+1) nc).ownBlock=some p.block:=Ks;rcases h5 with k|k
 · exact JZ
 · rw[hpb]at k;have:=zx k;have:=(zL w (.cells #[.string v] 9)).size;exact Kb
attribute [local go_sem ↓] ZU
theorem zeO(B g:Nat)(y:Dm)(op:Int)(v:ByteArray)(w:World)(h:qx B w g y)(hl:y.run.l.length<=1000)(hv:v.size<=1000000):
 Calls prog 171 #[.pointer (some ⟨g,0,none⟩),.int .i64 op,.string v] w (qG B g y w (JT y.d op v)):=by
 have hT:=fun W=>S9 v W zb;have hE:JT y.d op v={y.d with run:=if UG v&&decide ((if op=4 then y.run.l else []).length<16)then(if op=4 then y.run.l else [])++[L v]else(if op=4 then y.run.l else [])}:=rfl;rw[hE];clear hE;have hb0:=h.box;have q0:=(ZV hb0).2.2.2.1;have f0:=qe hb0 3;have HH:=za h;clear h hb0;have hgB:∀{w1:World} {y1:Dm},qx B w1 g y1->B<=w1.heap.size:=fun e=>i3 e.lo (X3 (zh e.box));by_cases ho:op=4
 · subst ho;rw[if_pos rfl];have h:=HH.out;cases hf:UG v with
   | false=>
     simp only[hf]at hT;have HT:=za hT;clear hT hf;rw[Bool.false_and,if_neg zi];exact Lu
   | true=>
     simp only[hf]at hT;have HT:=za hT;clear hT hf;rw[Bool.true_and];by_cases hn:y.run.l.length<16
     · rw[if_pos (zl1 hn)];have hni:((y.run.l.length:Nat):Int)<16:=zb;obtain⟨A5,c5,w5,hap,hown,hgr,hA5⟩:=jL (A:=y.run.A) (c:=y.run.c) (l:=y.run.l) v w h.rows.rn zb (hgB h);have hbx:w5.heap[g]? =some (.cells (zI y) Uc (0,0)):=(hgr.block g (zh h.box) (fun e=>by
        obtain⟨p,e1,e2⟩:=ZQ e.symm;exact h.off _ YD p e1 e2)).trans h.box
       have q5:=(ZV hbx).2.2.2.1;have f5:=qe hbx 3;have HEnd:=za (zT.set_run (l':=y.run.l++[L v]) (A':=A5) (c':=c5) h hgr (by rw[show(y.run.l++[L v]).length=y.run.l.length+1 from by simp];exact hown) hA5);rw[show(y.run.l++[L v]).length=y.run.l.length+1 from by simp]at HEnd;clear hown hgr hA5 hbx;clear h;go_enter func171,ntmps171;go_wp2_with (go_at_call 172;refine(HT.out _).mono ?_;rintro e w2 ⟨rfl,rfl⟩)
       refine bodyPost_ret (v:=.tuple #[]) (results_none rfl _ _ _) rfl ?_;exact HEnd.out.p rfl
     · rw[if_neg (by simpa using hn)];have hni:¬((y.run.l.length:Nat):Int)<16:=zb;clear h;exact Lu
 · rw [if_neg ho];have h1:zT B g y w {y with run:=⟨none,0,[]⟩} (w.setCell ⟨g,3,none⟩ (.slice none 0 0)):=zT.set_run (l':=[]) (A':=none) (c':=0) HH.out (Ga _ _) (World.ownsRow_nil _ _ _ _) (fun p e=>ZK);obtain⟨w1,hw1⟩:∃W,w.setCell ⟨g,3,none⟩ (.slice none 0 0)=W:=⟨_,rfl⟩;rw[hw1]at h1;have h:=h1.ed;have H1:=za h1;have q1:w1.cell? ⟨g,3,none⟩=some (.slice none 0 0):=(ZV h.box).2.2.2.1;clear h1;cases hf:UG v with
   | false=>
     simp only[hf]at hT;have HT:=za hT;clear hT hf h;rw[Bool.false_and,if_neg zi];go_enter func171,ntmps171;go_upto_region 2 with fail
     try rw[hw1]
     clear q0 f0 hw1;go_wp2_with (go_at_call 172;refine(HT.out _).mono ?_;rintro e w2 ⟨rfl,rfl⟩)
     refine bodyPost_ret (v:=.tuple #[]) (results_none rfl _ _ _) rfl ?_;exact H1.out.p rfl
   | true=>
     simp only[hf]at hT;have HT:=za hT;clear hT hf;rw[Bool.true_and,if_pos zi];obtain⟨A5,c5,w5,hap,hown,hgr,hA5⟩:=jL (A:=none) (c:=0) (l:=([]:List ze)) v w1 h.rows.rn zl (hgB h);have hbx:w5.heap[g]? =some (.cells (zI {y with run:=⟨none,0,[]⟩}) Uc (0,0)):=(hgr.block g (zh h.box) (fun e=>by
      obtain⟨p,e1,e2⟩:=ZQ e.symm;exact h.off _ YD p e1 e2)).trans h.box
     have q5:=(ZV hbx).2.2.2.1;have f5:=qe hbx 3;have HEnd:=za (zT.set_run (l':=([]:List ze)++[L v]) (A':=A5) (c':=c5) h hgr (by rw[show(([]:List ze)++[L v]).length=([]:List ze).length+1 from by simp];exact hown) hA5);rw[show(([]:List ze)++[L v]).length=([]:List ze).length+1 from by simp]at HEnd;clear hown hgr hA5 hbx;have hap1:(Zv #[32,32] 32 #[.slice none 0 0,.slice (some ⟨w1.heap.size,0,none⟩) 1 1]).run prog (w1.alloc (.cells #[.string v] 9))=.ok (.slice A5 1 c5) w5:=hap;clear hap h;go_enter func171,ntmps171;go_upto_region 2 with fail
     try rw[hw1]
     clear q0 f0 hw1;go_wp2_with (go_at_call 172;refine(HT.out _).mono ?_;rintro e w2 ⟨rfl,rfl⟩)
     refine bodyPost_ret (v:=.tuple #[]) (results_none rfl _ _ _) rfl ?_;exact(H1.out.trans HEnd.out).p rfl
end
section
open Go.RowKit
def VH(s:ByteArray)(k:Nat):ByteArray:=bs (UW ((L s).take k)++(L s).drop k)
def Vt:Nat->Bool:=qC QI [47]
def O5(b:UInt8):UInt8:=if Vt b.toNat then b else 95
theorem Ke(s:ByteArray)(k:Nat):(VH s k).size=s.size:=by
 unfold VH UW;rw[Zg,r7,W7,<-r7,List.take_append_drop,zF]
theorem L9(s:ByteArray):VH s s.size=bs (UW (L s)):=by
 unfold VH;rw[List.take_of_length_le VQ,List.drop_of_length_le VQ,zk7]
theorem MJ(s:ByteArray){i:Nat}(h:i<s.size):(L s)[i]? =some s[i]:=byte_at s i h
theorem zaY(s:ByteArray)(k i:Nat)(hi:i<s.size):(L (VH s k))[i]? =some (if i<k then O5 s[i]else s[i]):=by
 have hl:i<(L s).length:=by rw[zF];exact hi
 unfold VH UW;rw[qz,List.getElem?_append];by_cases h:i<k
 · rw[if_pos h,if_pos CX,zd4,List.getElem?_take,if_pos h,MJ s hi];rfl
 · rw[if_neg h];have h2:¬i<(((L s).take k).map fun b=>if qC QI [47] b.toNat then b else 95).length:=CX;rw[if_neg h2,W7,W9,zd5];have e:k+(i - min k (L s).length)=i:=zb;rw[e,MJ s hi]
theorem JB(s:ByteArray)(k i:Nat)(hi:i<s.size)(h2:i<(VH s k).size):(VH s k)[i]=if i<k then O5 s[i]else s[i]:=by
 have h1:=zaY s k i hi;rw[MJ _ h2]at h1;exact zx h1
structure VU(W:World)(G B:Nat)(s:ByteArray)(k:Nat)(wr:World):Prop where
 by_:Lib.Bytes wr B 0 (VH s k)
 fr:∀j,j<s.size->wr.frozen? ⟨B,j,none⟩=false
 set_:wr.heap[G]? =some (.cells (setA Vt) 256 (0,0))
 bel:Below W.heap.size W wr
 bs:B<wr.heap.size
theorem VU.cell{W:World}{G B:Nat}{s:ByteArray}{k:Nat}{wr:World}(h:VU W G B s k wr)(hk:k<s.size):wr.cell? ⟨B,k,none⟩=some (.int .u8 (s[k].toNat:Int)):=by
 have h1:=h.by_ k (by rw[Ke];exact hk);rw[zk4,JB s k k hk,if_neg (zd0 k)]at h1;exact h1
theorem VU.keep{W:World}{G B:Nat}{s:ByteArray}{k:Nat}{wr:World}(h:VU W G B s k wr)(hk:k<s.size)(hg:Vt s[k].toNat=true):VU W G B s (k+1) wr:=by
 refine⟨fun i hi=>?_,h.fr,h.set_,h.bel,h.bs⟩;rw[Ke]at hi;have h1:=h.by_ i (by rw[Ke];exact hi);rw[h1,JB s k i hi,JB s (k+1) i hi];by_cases e:i<k
 · rw[if_pos e,if_pos zb]
 · rw[if_neg e];by_cases e2:i=k
   · subst e2;rw[if_pos zb];unfold O5;rw[if_pos hg]
   · rw[if_neg zb]
theorem VU.put{W:World}{G B:Nat}{s:ByteArray}{k:Nat}{wr:World}(h:VU W G B s k wr)(hk:k<s.size)(hg:Vt s[k].toNat=false)(hGB:G≠B)(hB:W.heap.size<=B):VU W G B s (k+1) (wr.setCell ⟨B,k,none⟩ (.int .u8 95)):=by
 have hsz:(wr.setCell ⟨B,k,none⟩ (.int .u8 95)).heap.size=wr.heap.size:=Oz;refine⟨fun i hi=>?_,fun j hj=>?_,?_,ZF h.bel hB,by rw[hsz];exact h.bs⟩
 · rw[Ke]at hi;have h1:=h.by_ i (by rw[Ke];exact hi);rw[zk4]at h1⊢;rw[JB s (k+1) i hi];by_cases e2:i=k
   · subst e2;rw[World.cell?_setCell_same _ _ _ h1,if_pos zb];unfold O5;rw[hg];rfl
   · rw[World.cell?_setCell_other _ _ _ _ (fun e=>e2 (by injection e with _ e;exact e.symm)),h1,JB s k i hi];by_cases e:i<k
     · rw[if_pos e,if_pos zb]
     · rw[if_neg e,if_neg zb]
 · rw[World.frozen?_setCell];exact h.fr j hj
 · rw[heap_setCell_other _ _ _ _ hGB];exact h.set_
theorem S1(w:World)(t:ByteArray):Below w.heap.size w (Lib.bytesWorld w 5 t):=⟨rfl,rfl,rfl,j5,fun k hk=>Lib.bytesWorld_at_old _ _ _ _ hk⟩
theorem zkj(s:ByteArray)(G:Nat)(w W:World)(hb:Below w.heap.size w W)(hG:G<W.heap.size)(hs:W.heap[G]? =some (.cells (setA Vt) 256 (0,0))):VU w G W.heap.size s 0 (Lib.bytesWorld W 5 s):=by
 refine⟨fun i hi=>?_,fun j hj=>?_,((S1 W s).block G hG).trans hs,bt hb (S1 W s),j5⟩
 · rw[Ke]at hi;rw[zk4,Lib.bytesWorld_cell W _ s i hi,JB s 0 i hi,if_neg (Nat.not_lt_zero i)]
   congr 2
   have:=MJ s hi;show(((L s).getD i 0).toNat:Int)=_;rw[List.getD,this];rfl
 · have h1:s.size<=(Lib.bytesCells W 5 s).size:=by unfold Lib.bytesCells;simp
   unfold World.frozen?;rw[Lib.bytesWorld_at_new];simp;omega
theorem zj0{w:World}{G:Nat}{f:Nat->Bool}(h:w.heap[G]? =some (.cells (setA f) 256 (0,0))){c:Nat}(hc:c<256):w.cell? ⟨G,c,none⟩=some (.bool (f c)):=by
 rw[cell_of_row _ _ c _ _ _ h,KI f c hc]
theorem jX(M:Nat)(l:List ze)(h:∀x∈l,x.length<=M):(Lib.join l [47]).length<=l.length*(M+1):=by
 induction l with
 |nil=>simp[Lib.join]
 | cons x l ih=>
   have h1:=h x zl;have h2:=ih (fun y hy=>h y (by simp[hy]));cases l with
   |nil=>simp[Lib.join]at h2⊢;omega
   | cons y l=>
     have hj:Lib.join (x::y::l) [47]=x++([47]++Lib.join (y::l) [47]):=Tl;exact Ao
theorem zeg(l:List ze):cellsOf zD l=(l.map bs).map Value.string:=DY
theorem Ce(W:World)(base:Nat)(v:Value)(xs:List ze)(M:Nat)(hn:xs.length<=M)(hM:M<=4294967)(hx:∀x∈xs,x.length<=M)(h:W.ownsRow base 9 1 v xs.length (cellsOf zD xs)):
 Calls prog 65 #[v,.string ⟨#[47]⟩] W fun e w'=>e=.returned (.string (bs (Lib.join xs [47])))/\Below W.heap.size W w':=by
 rw[zeg]at h;have hjl:=jX M xs hx;have hmul:xs.length*(M+1)<=140737488355328:=i3 (Nat.mul_le_mul hn (Nat.le_refl (M+1))) (i3 (Nat.mul_le_mul hM (Nat.succ_le_succ hM)) zi);cases xs with
 | nil=>
   rcases h.2 with⟨rfl,_⟩|⟨g,cap,cur,rfl,_⟩
   · exact(strings_Join_none none 0 ⟨#[47]⟩ W).mono fun e w' h=>⟨h.1,NE⟩
   · exact(strings_Join_none (some ⟨g,0,none⟩) cap ⟨#[47]⟩ W).mono fun e w' h=>⟨h.1,NE⟩
 | cons x xs=>
   have hl:(((x::xs).map bs).map (·.data.toList))=x::xs:=E7;rcases h.2 with⟨_,h0⟩|⟨g,cap,cur,rfl,hb,hgg,hroom,_,_,_⟩
   · simp at h0
   · have hc:∀(j:Nat) (y:ByteArray),((x::xs).map bs)[j]? =some y->W.cell? ⟨g,0+j,none⟩=some (.string y):=fun j y hy=>Et;have hJ:=strings_Join g 0 cap ((x::xs).map bs) ⟨#[47]⟩ W hc (Xc hgg) (by rw[W7];omega) Bs Di;rw[hl,W7]at hJ;exact hJ
def QP(ps:List ByteArray)(k:Nat):List ze:=((ps.take k).map L).filter kP
theorem zch(ps:List ByteArray){k:Nat}(hk:k<ps.length):QP ps (k+1)=QP ps k++(if kP (L ps[k])then [L ps[k]]else []):=by
 unfold QP;rw[List.take_succ_eq_append_getElem hk,List.map_append,List.filter_append]
 congr 1
 rw[List.map_singleton,List.filter_cons,List.filter_nil]
theorem Ck(ps:List ByteArray)(k:Nat):(QP ps k).length<=k:=by
 unfold QP;refine i3 (List.length_filter_le _ _) ?_;rw[W7,W9];omega
theorem vL{ps:List ByteArray}{M:Nat}(h:∀x∈ps,x.size<=M)(k:Nat):∀x∈QP ps k,x.length<=M:=fun x hx=>by
 obtain⟨h1,_⟩:=List.mem_filter.1 hx;obtain⟨y,hy,rfl⟩:=List.mem_map.1 h1;rw[zF];exact h y (List.mem_of_mem_take hy)
attribute [local go_sem ↓] ZU
def Ii:Option ByteArray->Value
 |some t=>.tuple #[.string t,.bool true]
 |none=>.tuple #[.string ⟨#[]⟩,.bool false]
theorem PF (s:ByteArray)(w:World)(hE:Env0 w)(hs:s.size<=1000000):
 Calls prog 217 #[.string s] w fun e w'=>e=.returned (Ii (JX s))/\Below w.heap.size w w':=by
 have Hi:=za (zero_of_info kL).2;have HSz:=za (Xy Vt);have HS1:=za (IH Vt);have HPt:=za Dn;have HPl:Hid (∀W,Calls prog 188 #[.agg (setA QI),.string ⟨#[47]⟩] W fun e w'=>e=.returned (.agg (setA Vt))/\Below W.heap.size W w'):=za fun W=>kA QI ⟨#[47]⟩ W zi;have HNw:Hid (∀w2:World,_/\_):=za fun w2=>vy (w2:=w2) (f:=Vt);have hcv:=fun W=>Lib.run_convert_string_bytes (P:=prog) W 9 154 5 s (u:=.string) underlying9 underlying154 underlying5;have HEn:=za hE;clear hE;generalize hS:setA Vt=S at*;generalize setA QI=S0 at*;have HSd:=za hS;clear hS;go_enter func217,ntmps217;go_upto_region 2 with(first
  |(go_at_call 245;refine(HPt.out _).mono ?_;rintro e w1 ⟨rfl,hb1⟩;have HB1:=za hb1;clear hb1)
  |(go_at_call 188;refine(HPl.out _).mono ?_;rintro e w2 ⟨rfl,hb2⟩;have HB2:=za (bt HB1.out hb2);clear hb2)
  |(refine wpList_store_row rfl 256 _ _ rfl _ _ rfl rfl _ _ qt G3 Tj HS1.out ?_))
 obtain⟨hG,hbG⟩:=HNw.out w2;generalize hW3:(w2.alloc (.cells zeroCells256 256)).setRow w2.heap.size S=W3 at*;have hs3:w2.heap.size<W3.heap.size:=by rw[<-hW3];simp
 have HG:=za hG;have HS3:=za hs3;have HB3:=za (bt HB2.out hbG);clear hW3 hG hbG hs3;have hcv3:=hcv W3;clear hcv;go_upto_region 3 with fail
 obtain⟨W4,hW4⟩:∃W4,Lib.bytesWorld W3 5 s=W4:=⟨_,rfl⟩;have hT:=zkj s w2.heap.size w W3 HB3.out HS3.out (by rw[HSd.out];exact HG.out);rw[hW4]at hT⊢;have HT:=za hT;have HNe:=za (show w2.heap.size≠W3.heap.size by have:=HS3.out;omega);have HLe:=za (show w.heap.size<=W3.heap.size from HB3.out.size);clear hT hW4 hcv3;obtain⟨cp,hcp⟩:∃cp,grownCap W3 s.size 0 5=cp:=⟨_,rfl⟩;rw[hcp];clear hcp;go_wp2;go_loopg [6,7,18] s.size (fun gk _ _ i wr=>∃k:Nat,i=.int .i64 k/\k<=s.size/\k+gk=s.size/\Hid (VU w w2.heap.size W3.heap.size s k wr))
 case atStart=>exact⟨0,rfl,X1 _,zb,HT⟩
 case round =>
  obtain⟨k,rfl,hk,hkg,HK⟩:=hrel;by_cases hlt:k<s.size
  · have hb:(s[k].toNat:Int)<256:=by have:=s[k].toNat_lt;omega
    have hc:=HK.out.cell hlt;have hf:=HK.out.fr k hlt;have hset:=zj0 HK.out.set_ (c:=s[k].toNat) zb;cases hg:Vt s[k].toNat with
    | true=>
      rw[hg]at hset;have HN:=HK.out.keep hlt hg;exact EH
    | false=>
      rw[hg]at hset;have HN:=HK.out.put hlt hg HNe.out HLe.out;exact EH
  · obtain rfl:k=s.size:=by omega
    have hb0:=HK.out.bel;have hcs:=Lib.run_convert_whole (P:=prog) wr 154 5 9 underlying154 underlying5 underlying9 W3.heap.size 0 (VH s s.size) HK.out.by_ cp;rw[Ke,L9]at hcs;have hTs:(bs (UW (L s))).size=s.size:=by rw[<-L9,Ke]
    have HSp:=za (Ak (bs (UW (L s))) wr (HEn.out.go hb0) zb);have HpL:=za (GS (bs (UW (L s))) 47);have HpM:=za (Ov (bs (UW (L s))) 47);have HTs:=za hTs;have hE3:kG s=bs (Lib.join (QP (Zk 47 (bs (UW (L s)))) (Zk 47 (bs (UW (L s)))).length) [47]):=by
     unfold QP kG;rw[List.take_length]
    have HE3:=za hE3;have HB0:=za hb0;clear hE3 hTs hb0 HK;generalize bs (UW (L s))=T at*;generalize Zk 47 T=ps at*;obtain⟨W5,hW5⟩:∃W5,W5=wr:=⟨_,rfl⟩;subst hW5;go_wp2_with (go_at_call 103;refine HSp.out.mono ?_;rintro e w6 ⟨rfl,rfl⟩)
    generalize hN:ps.length=N at*;have HN:=za hN;clear hN hcs;have HR0:=za (NW W5 ps);generalize hW6:W5.alloc (.cells (ps.map Value.string).toArray 9)=W6 at*;have HB6:=za (show Below w.heap.size w W6 by rw[<-hW6];exact bt HB0.out zu);have HS6:=za (show W6.heap.size=W5.heap.size+1 by rw[<-hW6];simp);clear hW6;go_loopg [8,10,35] N (fun gk v _ i wl=>∃(k:Nat) (A:Option Addr) (c:Nat),i=.int .i64 k/\k<=N/\k+gk=N/\v=.slice A (QP ps k).length c/\Hid (wl.ownsRow W6.heap.size qg 1 (.slice A (QP ps k).length c) (QP ps k).length (cellsOf zD (QP ps k)))/\Hid (Below W6.heap.size W6 wl))
    case atStart=>exact⟨0,none,0,rfl,X1 _,zb,rfl,za (World.ownsRow_nil _ _ _ _),za zj⟩
    case round=>
     obtain⟨k,A,c,rfl,hk,hkg,rfl,HO,HB⟩:=hrel;by_cases hlt:k<N
     · have hlt':k<ps.length:=by rw[HN.out];exact hlt
       have hrow:=HR0.out;rw[<-HS6.out]at hrow;obtain⟨ba,off,ea,hc⟩:=K4 (B:=W6.heap.size) hrow HB.out hlt';have hsc:=zch ps hlt';have hkl:(QP ps k).length<=10000000:=CK;injection ea with ea
       injection ea with ea1 ea2
       subst ea1 ea2;rw[zk4]at hc;have hNs:N<=1000001:=vk;have hwl:W5.heap.size<wr.heap.size:=by have:=HB.out.size;have:=HS6.out;omega
       generalize ps[k]=x at*;have HSc:=za hsc;clear hsc hrow;by_cases h0:x.toList=[]
       · have hkp:kP (L x)=false:=by rw[JL h0];rfl
         exact Er
       · have h0':x.toList.isEmpty=false:=by rw[tl];exact XC h0
         by_cases h1:x.toList=[46]
         · have hkp:kP (L x)=false:=by unfold kP;rw[<-tl,h1];rfl
           exact Er
         · have hkp:kP (L x)=true:=by
            unfold kP;rw[<-tl,h0'];simpa using h1
           obtain⟨A5,c5,w5,hap,hown,hgr,_⟩:=jL (A:=A) (c:=c) (l:=QP ps k) x wr HO.out zb HB.out.size;have e:=HSc.out;rw[hkp,if_pos rfl]at e;have HE5:=za e;have hb5:Below W6.heap.size W6 w5:=(HB.out).grown hgr HB.out.size (fun j ej=>by
            obtain⟨p,e1,e2⟩:=ZQ ej;rw[<-e2];exact(qu HO.out p e1).1)
           have HO5:=za hown;have HB5:=za hb5;clear hown hgr hb5 e hkp;have h1b:(x.toList==[46])=false:=Gi;go_wp2;go_roundg (gk - 1)
           case measure=>omega
           case rel=>
            have hl5:(QP ps (k+1)).length=(QP ps k).length+1:=by rw[HE5.out];simp
            exact AY
     · obtain rfl:k=N:=by omega
       have hO:=HO.out;have HJ:=za (Ce wr W6.heap.size (.slice A (QP ps k).length c) (QP ps k) 1000001 CK zb (fun x hx=>by have:=vL (M:=T.size) HpM.out k x hx;have:=HTs.out;omega) hO);have hE4:=HE3.out;rw[<-hE4]at HJ;have HBf:=za (bt HB6.out HB.out);have hcl:(kG s).size<=4611686018427387904:=by
        rw[hE4,Zg];have hm:=Ck ps k;have h1:=jX T.size (QP ps k) (vL (M:=T.size) HpM.out k);have h2:(QP ps k).length*(T.size+1)<=1000001*1000001:=Nat.mul_le_mul vk (by have:=HTs.out;omega);omega
       have HLk:=za (fun(W:World) (hW:Below w.heap.size w W)=>BZ (kG s) W (HEn.out.go hW) hcl);have HE5:Hid (JX s=if Ig (kG s)then some (kG s)else none):=za rfl;clear hE4 hO HE3 hcl;generalize (QP ps k).length=m at*;cases hlb:Ig (kG s)with
       | true=>
         exact Lg
       | false=>
         exact Lg
end
section
open Go.RowKit
theorem zjG{w wr:World}{B:Nat}{A:Option Addr}{ds:List Dv}(h:zr w B A 10 ds.length (cellsOf zM ds))(hb:Below B w wr){k:Nat}(hk:k<ds.length):∃ba off,A=some ⟨ba,off,none⟩/\ba<B/\∀i v,(zM ds[k])[i]? =some v->wr.cell? ⟨ba,off+k*10+i,none⟩=some v:=by
 obtain⟨b,off,e,hB,hc⟩:=h.cell Xl hk;refine⟨b,off,e,hB,fun i v hv=>?_⟩;rw[hb.cell (p:=⟨b,off+k*10+i,none⟩) hB,zk5];exact hc k ds[k] (l0 hk) i v hv
def QG(cs:List Dv):List ze:=cs.reverse.map fun d=>L d.og
theorem Nf(cs:List Dv):(QG cs).length=cs.length:=by unfold QG;rw[W7,List.length_reverse]
theorem BV(cs:List Dv){k:Nat}(hk:k<cs.length):QG (cs.drop k)=QG (cs.drop (k+1))++[L cs[k].og]:=by
 rw[zd7 hk];unfold QG;rw[List.reverse_cons,List.map_append];rfl
theorem F6:(prog.info? qg).map (fun i=>(i.zero,i.size,i.bytes))=some (some (.string ⟨#[]⟩),1,16):=zg
theorem zbS(s:ze):∀u∈zD s,u.oneCell'=true:=by
 intro u hu;simp only[zD,List.mem_cons,List.not_mem_nil,or_false]at hu;rw[hu];rfl
theorem zjj{B:Nat}{A:Option Addr}{c:Nat}{l:List ze}(t:ByteArray)(w:World)(h:w.ownsRow B qg 1 (.slice A l.length c) l.length (cellsOf zD l))(hl:l.length<=1000000)(hB:B<=w.heap.size):
 ∃A' c' w',(Zv #[32,32] 32 #[.slice A l.length c,.slice (some ⟨w.heap.size,0,none⟩) 1 1]).run prog (w.alloc (.cells #[.string t] qg))=.ok (.slice A' (l.length+1) c') w'/\w'.ownsRow B qg 1 (.slice A' (l.length+1) c') (l.length+1) (cellsOf zD (l++[L t]))/\w.grownBy w' (Value.slice A l.length c).ownBlock/\∀p,A'=some p->w.heap.size<=p.block∨∃q,A=some q/\q.block=p.block:=by
 have h1:=Gq (S:=32) (T:=qg) (k:=1) (b:=16) (enc:=zD) (by exact underlying32) (by exact F6) rfl zi zi (fun _=>rfl) zbS (L t) w h hl hB;have e:(zD (L t)).toArray=#[.string t]:=by unfold zD;rw[Yl]
 rw[e]at h1;exact h1
def Mx(cs:List Dv)(w:World)(e:Ending)(w':World):Prop:=∃A' c',e=.returned (.slice A' (QG cs).length c')/\w'.ownsRow w.heap.size qg 1 (.slice A' (QG cs).length c') (QG cs).length (cellsOf zD (QG cs))/\Below w.heap.size w w'
attribute [local go_sem ↓] ZU
theorem SO(A:Option Addr)(c:Nat)(ds:List Dv)(n:Int)(w:World)(h:qj w A ds):
 Calls prog 45 #[zV A ds c,.int .i64 n] w (Mx (Y4 ds ds.length n) w):=by
 obtain⟨w1,hw1⟩:∃w1,w.alloc (.cells #[.slice A ds.length c] 30)=w1:=⟨_,rfl⟩;have hb1:Below w.heap.size w w1:=ZX;have hr1:w1.heap[w.heap.size]? =some (.cells #[.slice A ds.length c] 30 (0,0)):=Qo;have hlen:=h.len;have HC:=za (zin A c ds n w1 (h.keep hb1));unfold zV at HC;have hcl:=GB ds ds.length n;have c0:=zd (j:=0) hr1 rfl;have hlW:w.heap.size<w1.heap.size:=zh hr1;generalize Y4 ds ds.length n=cs at*;have HB1:=za hb1;have HW1:=za hw1;clear hb1 hr1 hw1 h;unfold zV;have hclb:cs.length<=1000:=i3 hcl hlen;clear hcl hlen;generalize ds.length=N at*;unfold TC at HC;go_enter func45,ntmps45;go_upto_region 1 with fail
 rw[HW1.out];go_wp2_with (go_at_call 64;refine HC.out.mono ?_;rintro e w2 ⟨CA,cc,rfl,hown,hb2⟩;have HO2:=za (zr.of_own hown);have HB2:=za hb2;clear hown hb2 c0)
 go_loopg [5,7] (cs.length+1) (fun gk s5 s7 wr=>∃(k:Nat) (OA:Option Addr) (oc:Nat),s7=.int .i64 ((k:Int) - 1)/\k<=cs.length/\k+1=gk/\s5=.slice OA (QG (cs.drop k)).length oc/\Hid (wr.ownsRow w2.heap.size qg 1 (.slice OA (QG (cs.drop k)).length oc) (QG (cs.drop k)).length (cellsOf zD (QG (cs.drop k))))/\Hid (Below w2.heap.size w2 wr))
 case atStart=>exact⟨cs.length,none,0,rfl,zo,rfl,by rw[List.drop_length];rfl,by rw[List.drop_length];exact za (World.ownsRow_nil _ _ _ _),za zj⟩
 case round=>
  obtain⟨k,OA,oc,rfl,hk,hkg,rfl,HO,HB⟩:=hrel;by_cases hk0:k=0
  · subst hk0;have HO0:=HO.out;rw[zl4]at HO0⊢;have HOe:=za HO0;clear HO0;go_wp2;go_ret;exact⟨OA,oc,rfl,Qq HOe.out (bt HB1.out HB2.out).size,bt HB1.out (bt HB2.out HB.out)⟩
  · obtain⟨j,rfl⟩:∃j,k=j+1:=⟨k - 1,zb⟩;have hj:j<cs.length:=zb;have hji:((j+1:Nat):Int) - 1=(j:Int):=zb;rw[hji];obtain⟨ba,off,rfl,hba,hc⟩:=zjG HO2.out HB.out hj;have c3:=hc 3 _ rfl;have hj0:(0:Int)<=(j:Int):=zb;have hjI:(j:Int)<(cs.length:Int):=zb;have HD:=za (BV cs hj);have hol:(QG (cs.drop (j+1))).length<=1000:=by rw[Nf,W8];omega
    have HAp:=za (fun(W:World) (hW:Below wr.heap.size wr W)=>zjj cs[j].og W (qi HO.out hW) zb (i3 HB.out.size hW.size));obtain⟨A6,c6,w6,hap,hown,hgr,_⟩:=HAp.out wr zj;have HO6:=za hown;have HB6:=za (HB.out.grown hgr HB.out.size (fun i ej=>by
     obtain⟨p,e1,e2⟩:=ZQ ej;have:=qu HO.out p e1;rw[<-e2];exact this.1):Below w2.heap.size w2 w6)
    generalize cs[j].og=og at*;generalize hoo:QG (cs.drop (j+1))=oo at*;clear hc hown hgr HAp hoo;have hbw:ba<wr.heap.size:=i4 hba HB.out.size;go_wp2;go_roundg (j+1)
    case measure=>omega
    case rel=>
     have hl9:(QG (cs.drop j)).length=oo.length+1:=by rw[HD.out];simp
     refine⟨j,A6,c6,zU,zb,zb,by rw[hl9],?_,HB6⟩;rw[hl9,HD.out];exact HO6
end
section
open Go.RowKit
theorem zaB{s:ze}{v:Int}(h:Lib.atoiAll s=.ok v):VR s=if Lib.itoa v==s&&decide (-1000<=v)&&decide (v<=1000)then some v else none:=by unfold VR;rw[h]
theorem zeU{s:ze}(h:∀v,Lib.atoiAll s≠.ok v):VR s=none:=by
 unfold VR
 split
 · rename_i v hv;exact absurd hv (h v)
 · rfl
def VY(d:Dr)(v:ByteArray):Dr:=match VR (L v)with|some n=>{d with prio:=n}|none=>d
theorem B8(B g:Nat)(y:Dm)(s:ByteArray)(w:World)(h:qx B w g y)(hE:Env w)(hs:s.size<=1000000):
 Calls prog 174 #[.pointer (some ⟨g,0,none⟩),.string s] w (qG B g y w (VY y.d s)):=by
 have HH:=za h;by_cases hok:∃v,Lib.atoiAll (L s)=.ok v
 · obtain⟨v,hv⟩:=hok;have hr:=R2 _ v hv;have HA:=za (R4 s v hv hs w);have HI:=za (fun(W:World) (hW:Below w.heap.size w W)=>If v hr.1 hr.2 W (hE.go hW).toEnv0);have hp:=zaB hv;have HF:Hid (∀W,Below w.heap.size w W->W.cell? ⟨g,6,none⟩=some (.int .i64 y.prio)/\W.frozen? ⟨g,6,none⟩=false):=za fun W hW=>by
    have hb:=(HH.out.below hW).box;exact⟨(ZV hb).2.2.2.2.2.2.1,qe hb 6⟩
   have HSame:Hid (VR (L s)=none->∀W,Below w.heap.size w W->qG B g y w (VY y.d s) (.returned (.tuple #[])) W):=za fun e W hW=>(zT.same HH.out hW).p (by unfold VY;rw[e]);have HSome:Hid (VR (L s)=some v->∀W,Below w.heap.size w W->qG B g y w (VY y.d s) (.returned (.tuple #[])) (W.setCell ⟨g,6,none⟩ (.int .i64 v))):=za fun e W hW=>((zT.same HH.out hW).trans (zT.scalar (HH.out.below hW) 6 (.int .i64 v) {y with prio:=v} rfl rfl ⟨(HH.out.below hW).rows.pr,(HH.out.below hW).rows.tg,(HH.out.below hW).rows.lk,(HH.out.below hW).rows.rn,(HH.out.below hW).rows.ld,(HH.out.below hW).rows.cl,(HH.out.below hW).rows.ne⟩)).p (by unfold VY;rw[e];rfl);clear hv h hE;generalize VY y.d s=D at*;cases he:((bs (Lib.itoa v)).toList==s.toList)
   · have e1:(Lib.itoa v==L s)=false:=by rw[tl,tl,qz]at he;exact he
     rw[e1]at hp;have HN:=za (HSame.out Ks);exact Me
   · have e1:(Lib.itoa v==L s)=true:=by rw[tl,tl,qz]at he;exact he
     rw[e1,Bool.true_and]at hp;by_cases h1: -1000<=v
     · by_cases h2:v<=1000
       · have HN:=za (HSome.out (by rw[hp,if_pos M6]));exact Me
       · have HN:=za (HSame.out (by rw[hp,if_neg M6]));exact Me
     · have HN:=za (HSame.out (by rw[hp,if_neg (by simp[h1])]));exact Me
 · have hno:∀v,Lib.atoiAll (L s)≠.ok v:=fun v h=>hok ⟨v,h⟩;have HA:=za (FA s hno hs w hE);have HSame:Hid (∀W,Below w.heap.size w W->qG B g y w (VY y.d s) (.returned (.tuple #[])) W):=za fun W hW=>(zT.same HH.out hW).p (by unfold VY;rw[zeU hno]);clear hno hok h hE;generalize VY y.d s=D at*;go_enter func174,ntmps174;go_wp2_with (go_at_call 223;refine HA.out.mono ?_;rintro e w1 ⟨v,T,x,rfl,hb1⟩)
   exact PO
end
section
open Go.RowKit Go.Shelf
def Qr(B:Nat)(A:Option Addr)(c:Nat)(l l':List ze)(w:World)(e:Ending)(w':World):Prop:=∃A' c',e=.returned (.slice A' l'.length c')/\w'.ownsRow B qg 1 (.slice A' l'.length c') l'.length (cellsOf zD l')/\w.grownBy w' (Value.slice A l.length c).ownBlock/\∀p,A'=some p->w.heap.size<=p.block∨∃q,A=some q/\q.block=p.block
abbrev Zj(w:World)(v:ByteArray):World:=w.alloc (.cells #[.string v] 9)
theorem N2(w:World)(v:ByteArray):∀j u,([.string v]:List Value)[j]? =some u->(Zj w v).cell? ⟨w.heap.size,0+j,none⟩=some u:=fun j u hu=>by
 rw[zk4];exact zd (i5 w _) Ot
theorem O4(l:List ze)(v:ByteArray):cellsOf zD (l++[L v])=cellsOf zD l++[.string v]:=T6
theorem zc9{B:Nat}(A:Option Addr)(c:Nat)(l:List ze)(v:ByteArray)(w:World)(h:w.ownsRow B qg 1 (.slice A l.length c) l.length (cellsOf zD l))(hl:l.length<=10000)(hc:c<l.length+1)(hB:B<=w.heap.size):
 Calls prog 222 #[.slice A l.length c,.int .i64 l.length,.slice (some ⟨w.heap.size,0,none⟩) 1 1] (Zj w v) (Qr B A c l (l++[L v]) w):=by
 have hb:=zL w (.cells #[.string v] 9);have h1:=qi h hb;have hLs:=(zB.of_own h1).1;have hcl:(cellsOf zD l).length=l.length:=by have:=h.1;omega
 have hI:=Any2.slices_Insert_string_end_grow Md A l.length c w.heap.size 0 1 1 (cellsOf zD l) [.string v] (Zj w v) zb hLs.cap hc zb hcl rfl (fun e=>by
  rcases Nat.eq_zero_or_pos l.length with k|k
  · exact k
  · obtain⟨_,_,e2,_⟩:=hLs.row.row.at_ k;rw[e]at e2;cases e2) (fun a ha j u hu=>by
  have hj:0<l.length:=by have:=(List.getElem?_eq_some_iff.1 hu).1;omega
  obtain⟨b,o,e2,_,hcc⟩:=hLs.row.row.at_ hj;rw[ha]at e2;injection e2 with e2
  rw[e2,Ua];exact hcc j u hu) (N2 w v) qP
 refine hI.mono ?_;rintro e w' ⟨rfl,rfl⟩;have hlen:(l++[L v]).length=l.length+1:=zl;refine⟨some ⟨(Zj w v).heap.size,0,none⟩,grownCap (Zj w v) (l.length+1) c qg,by rw[hlen];rfl,?_,zG (zP (zN hb)) _,fun p hp=>Or.inl ?_⟩
 · refine⟨by rw[hlen,O4,r7,hcl,List.length_singleton];omega,Or.inr ⟨(Zj w v).heap.size,_,_,rfl,i3 hB hb.size,i5 (Zj w v).drew _,by rw[hlen];exact grownCap_ge _ _ _ _,grownCap_le_maxLen _ _ _ _ ql,?_,?_⟩⟩
   · have hge:=grownCap_ge (Zj w v) (l.length+1) c qg;have hz:(Value.string ⟨#[]⟩).cells.size=1:=rfl;simp only[Array.size_append,List.size_toArray,r7,List.length_singleton,hcl,Builtin.zeroCells,Array.size_map,Array.size_range,hz];have ht:grownCap (Zj w v) (l.length+1) c (ON.t 9)=grownCap (Zj w v) (l.length+1) c qg:=rfl;omega
   · rw[hlen,O4,Array.toList_append];exact List.take_left' (by simp[hcl])
 · cases hp
   exact hb.size
theorem S2(cur:Array Value)(cs:List Value)(n i:Nat)(x:Value)(hcur:cur.toList.take n=cs)(hl:cs.length=n)(hi:i<=n)(hsz:n+1<=cur.size):(Z5 (Z5 cur (i+1) (cs.drop i)) i [x]).toList.take (n+1)=cs.take i++x::cs.drop i:=by
 have hd:(cs.drop i).length=n - i:=TP;have hc:∀j,j<n->cur[j]? =cs[j]?:=fun j hj=>Ew;apply List.ext_getElem?;intro j;rw[List.getElem?_take,zm2,Jw _ _ _ _ (by rw[KD];simp;omega),Jw _ _ _ _ (by rw[hd];omega),hd,List.getElem?_append,W9,hl];have hm:min i n=i:=Nat.min_eq_left hi;rw[hm];by_cases h1:j<i
 · rw[if_pos zb,if_neg zb,if_neg zb,if_pos h1,List.getElem?_take,if_pos h1,hc j zb]
 · by_cases h2:j=i
   · subst h2;rw[if_pos zb,if_pos zl,if_neg zb];simp
   · by_cases h3:j<n+1
     · obtain⟨k,rfl⟩:∃k,j=i+(k+1):=⟨j - i - 1,zb⟩;rw[if_pos h3,if_neg zl,if_pos zb,if_neg zb];exact CY
     · exact Bp
theorem TG{w:World}{B n c:Nat}{T:TypeId}{A:Option Addr}{xs:List Value}(h:w.ownsRow B T 1 (.slice A n c) n xs)(h0:0<c):∃g cur,A=some ⟨g,0,none⟩/\B<=g/\w.heap[g]? =some (.cells cur T (0,0))/\n<=c/\c<=maxLen/\cur.size=c/\cur.toList.take n=xs/\xs.length=n:=by
 rcases h.2 with⟨e,_⟩|⟨g,cap,cur,e,hb,hg,hn,hc,hs,ht⟩
 · injection e with _ _ e3
   omega
 · injection e with e1 e2 e3
   subst e1 e3;exact⟨g,cur,rfl,hb,hg,hn,hc,zb,by rw[<-ht,zk2],by have:=h.1;omega⟩
theorem zcT{B:Nat}(A:Option Addr)(c:Nat)(l:List ze)(v:ByteArray)(w:World)(h:w.ownsRow B qg 1 (.slice A l.length c) l.length (cellsOf zD l))(hc:l.length+1<=c):
 Calls prog 222 #[.slice A l.length c,.int .i64 l.length,.slice (some ⟨w.heap.size,0,none⟩) 1 1] (Zj w v) (Qr B A c l (l++[L v]) w):=by
 have hb:=zL w (.cells #[.string v] 9);obtain⟨g,cur,rfl,hB,hg,hn,hcm,hsz,htk,hxl⟩:=TG (qi h hb) zb;have hI:=Any2.slices_Insert_string_end_room Md g 0 l.length c w.heap.size 0 1 1 [.string v] (Zj w v) zb hc (by unfold maxLen at hcm;omega) rfl (fun j hj=>by
  rw[cell_of_row _ _ _ _ _ _ hg,Array.getElem?_eq_getElem zb];rfl) (fun j hj=>frozen_of_row _ _ _ _ _ hg) (N2 w v) qP
 refine hI.mono ?_;rintro e w' ⟨rfl,rfl⟩;have hlen:(l++[L v]).length=l.length+1:=zl;rw[zk4,KO g qg (0,0) _ cur l.length _ zl hg];have ht:=S2 cur (cellsOf zD l) l.length l.length (.string v) htk hxl zo zb;have e1:(cellsOf zD l).take l.length=cellsOf zD l:=List.take_of_length_le (by rw[hxl];exact zo);have e2:(cellsOf zD l).drop l.length=[]:=List.drop_of_length_le (by rw[hxl];exact zo);rw[e1,e2]at ht;refine⟨some ⟨g,0,none⟩,c,by rw[hlen],?_,(zG hb _).trans (qR _ g _),fun p hp=>Or.inr ⟨_,rfl,by cases hp;rfl⟩⟩;refine⟨by rw[hlen,O4,r7,hxl,List.length_singleton];omega,Or.inr ⟨g,c,_,rfl,hB,setRow_heap _ _ _ _ _ _ hg,by rw[hlen];exact hc,hcm,by rw[KD];omega,?_⟩⟩;rw[hlen,O4,zk2];exact ht
theorem jI(l:List ze)(i:Nat)(v:ByteArray):cellsOf zD (l.take i++L v::l.drop i)=(cellsOf zD l).take i++.string v::(cellsOf zD l).drop i:=by
 rw[IZ,IZ,List.map_append,zl3,List.map_take,List.map_drop,Yl]
theorem C0{w:World}{g:Nat}{cs:Array Value}{T:TypeId}{fr:Nat×Nat}(h:w.heap[g]? =some (.cells cs T fr)):w.shape? g=some (T,cs.size):=by
 unfold World.shape?;rw[h]
theorem zeb{B:Nat}(A:Option Addr)(c:Nat)(l:List ze)(i:Nat)(v:ByteArray)(w:World)(h:w.ownsRow B qg 1 (.slice A l.length c) l.length (cellsOf zD l))(hi:i<l.length)(hc:l.length+1<=c):
 Calls prog 222 #[.slice A l.length c,.int .i64 i,.slice (some ⟨w.heap.size,0,none⟩) 1 1] (Zj w v) (Qr B A c l (l.take i++L v::l.drop i) w):=by
 have hb:=zL w (.cells #[.string v] 9);have hlt:=qu h;obtain⟨g,cur,rfl,hB,hg,hn,hcm,hsz,htk,hxl⟩:=TG (qi h hb) zb;have hgl:g<w.heap.size:=(hlt _ rfl).2;have h1v:∀u∈([.string v]:List Value),u.oneCell'=true:=qP;have hI:=Any2.slices_Insert_string_shift Md g 0 l.length c i w.heap.size 0 1 1 (cellsOf zD l) [.string v] (Zj w v) hi zb hc (by unfold maxLen at hcm;omega) zb hxl rfl (fun j u hu=>by
  rw[zk4,cell_of_row _ _ _ _ _ _ hg,<-zm2];have hj:=(List.getElem?_eq_some_iff.1 hu).1;rw[<-htk,List.getElem?_take,if_pos zb]at hu;exact hu) (fun j hj=>by
  rw[cell_of_row _ _ _ _ _ _ hg,Array.getElem?_eq_getElem zb];rfl) (fun j hj=>frozen_of_row _ _ _ _ _ hg) (N2 w v) (fun u hu=>by
  rw[IZ]at hu;obtain⟨x,_,rfl⟩:=List.mem_map.1 hu;rfl) h1v qg qg 1 cur.size (C0 (i5 w _)) (C0 hg) zb (frozen_of_row _ _ _ _ _ (i5 w _)) (frozen_of_row _ _ _ _ _ (i5 w _))
 refine hI.mono ?_;rintro e w' ⟨rfl,rfl⟩;have hlen:(l.take i++L v::l.drop i).length=l.length+1:=zK;have hne:(cellsOf zD l).drop i≠[]:=fun e=>FH;have hgd:(Zj w v).drew.heap[g]? =some (.cells cur qg (0,0)):=hg;have hg2:((Zj w v).drew.setRow g (Z5 cur (i+1) ((cellsOf zD l).drop i))).heap[g]? =some (.cells (Z5 cur (i+1) ((cellsOf zD l).drop i)) qg (0,0)):=setRow_heap _ _ _ _ _ _ hgd;rw[show(0:Nat)+(i+1)=i+1 from by omega,zk4,KO g qg (0,0) _ cur (i+1) _ hne hgd,KO g qg (0,0) _ _ i _ zl hg2];have ht:=S2 cur (cellsOf zD l) l.length i (.string v) htk hxl zb zb;refine⟨some ⟨g,0,none⟩,c,by rw[hlen],?_,((zG (zN hb) _).trans (qR _ g _)).trans (qR _ g _),fun p hp=>Or.inr ⟨_,rfl,by cases hp;rfl⟩⟩;refine⟨Cq,Or.inr ⟨g,c,_,rfl,hB,setRow_heap _ _ _ _ _ _ hg2,by rw[hlen];exact hc,hcm,Ec,?_⟩⟩;rw[hlen,jI,zk2];exact ht
theorem zcg(cur:Array Value)(cs:List Value)(n i:Nat)(x:Value)(hcur:cur.toList.take i=cs.take i)(hl:cs.length=n)(hi:i<=n)(hsz:n+1<=cur.size):(Z5 (Z5 cur i [x]) (i+1) (cs.drop i)).toList.take (n+1)=cs.take i++x::cs.drop i:=by
 have hd:(cs.drop i).length=n - i:=TP;have hc:∀j,j<i->cur[j]? =(cs.take i)[j]?:=fun j hj=>Ew;apply List.ext_getElem?;intro j;rw[List.getElem?_take,zm2,Jw _ _ _ _ (by rw[KD,hd];omega),Jw _ _ _ _ zK,hd,List.getElem?_append,W9,hl];have hm:min i n=i:=Nat.min_eq_left hi;rw[hm];by_cases h1:j<i
 · rw[if_pos zb,if_neg zb,if_neg zb,if_pos h1,hc j h1]
 · by_cases h2:j=i
   · subst h2;rw[if_pos zb,if_neg zb,if_pos zl,if_neg zb];simp
   · by_cases h3:j<n+1
     · obtain⟨k,rfl⟩:∃k,j=i+(k+1):=⟨j - i - 1,zb⟩;rw[if_pos h3,if_pos zb,if_neg zb];exact CY
     · exact Bp
theorem zig{B:Nat}(A:Option Addr)(c:Nat)(l:List ze)(i:Nat)(v:ByteArray)(w:World)(h:w.ownsRow B qg 1 (.slice A l.length c) l.length (cellsOf zD l))(hl:l.length<=10000)(hi:i<l.length)(hc:c<l.length+1)(hBw:B<=w.heap.size):
 Calls prog 222 #[.slice A l.length c,.int .i64 i,.slice (some ⟨w.heap.size,0,none⟩) 1 1] (Zj w v) (Qr B A c l (l.take i++L v::l.drop i) w):=by
 have hb:=zL w (.cells #[.string v] 9);have hcap0:=(zB.of_own h).1.cap;have hcap1:l.length<=c:=hcap0;obtain⟨g,cur,rfl,hB,hg,hn,hcm,hsz,htk,hxl⟩:=TG (qi h hb) zb;have hI:=Any2.slices_Insert_string_grow Md g 0 l.length c i w.heap.size 0 1 1 (cellsOf zD l) [.string v] (Zj w v) hi zb hn hc zb hxl rfl (fun j u hu=>by
  rw[zk4,cell_of_row _ _ _ _ _ _ hg,<-zm2];have hj:=(List.getElem?_eq_some_iff.1 hu).1;rw[<-htk,List.getElem?_take,if_pos zb]at hu;exact hu) (N2 w v) (fun u hu=>by
  rw[IZ]at hu;obtain⟨x,_,rfl⟩:=List.mem_map.1 hu;rfl) qP
 refine hI.mono ?_;rintro e w' ⟨rfl,rfl⟩;have hlen:(l.take i++L v::l.drop i).length=l.length+1:=zK;have hne:(cellsOf zD l).drop i≠[]:=fun e=>FH;have hge:=grownCap_ge (Zj w v) (l.length+1) c qg;have hz:(Value.string ⟨#[]⟩).cells.size=1:=rfl;obtain⟨cap,hcp⟩:∃cap,grownCap (Zj w v) (l.length+1) c (ON.t 9)=cap:=⟨_,rfl⟩;have hcp2:grownCap (Zj w v) (l.length+1) c qg=cap:=hcp;rw[hcp2]at hge;have hcmx:cap<=maxLen:=by rw[<-hcp2];exact grownCap_le_maxLen _ _ _ _ ql
 rw[hcp];obtain⟨cur0,hcur0⟩:∃cur0,((cellsOf zD l).take i).toArray++Builtin.zeroCells (Value.string ⟨#[]⟩).cells (l.length+1 - i)++Builtin.zeroCells (Value.string ⟨#[]⟩).cells (cap - (l.length+1))=cur0:=⟨_,rfl⟩;have hs0:cur0.size=cap:=by
  rw[<-hcur0];simp only[Array.size_append,List.size_toArray,W9,hxl,Builtin.zeroCells,Array.size_map,Array.size_range,hz];omega
 have ht0:cur0.toList.take i=(cellsOf zD l).take i:=by
  rw[<-hcur0,Array.toList_append,Array.toList_append,zk9];exact List.take_left' (by simp[hxl];omega)
 rw[hcur0];have hg1:((Zj w v).alloc (.cells cur0 qg)).drew.heap[(Zj w v).heap.size]? =some (.cells cur0 qg (0,0)):=i5 (Zj w v) _;have hg2:(((Zj w v).alloc (.cells cur0 qg)).drew.setRow (Zj w v).heap.size (Z5 cur0 i [.string v])).drew.heap[(Zj w v).heap.size]? =some (.cells (Z5 cur0 i [.string v]) qg (0,0)):=setRow_heap _ _ _ _ _ _ hg1;have e1:((Zj w v).alloc (.cells cur0 (ON.t 9))).drew.setCells (Zj w v).heap.size i [.string v]=((Zj w v).alloc (.cells cur0 qg)).drew.setRow (Zj w v).heap.size (Z5 cur0 i [.string v]):=KO _ qg (0,0) _ cur0 i _ zl hg1;rw[e1,KO _ qg (0,0) _ _ (i+1) _ hne hg2];have ht:=zcg cur0 (cellsOf zD l) l.length i (.string v) ht0 hxl zb zb;refine⟨some ⟨(Zj w v).heap.size,0,none⟩,cap,by rw[hlen],?_,zG (qB (zN (qB (zN (zP hb)) hb.size)) hb.size) _,fun p hp=>Or.inl (by cases hp;exact hb.size)⟩;refine⟨Cq,Or.inr ⟨_,cap,_,rfl,i3 hBw hb.size,setRow_heap _ _ _ _ _ _ hg2,by rw[hlen];exact hge,hcmx,Ec,?_⟩⟩;rw[hlen,jI,zk2];exact ht
end
section
open Go.RowKit
theorem Qr.lift{B:Nat}{A:Option Addr}{c:Nat}{l l':List ze}{w w2:World}{e:Ending}{w':World}(hb:Below w.heap.size w w2)(h:Qr B A c l l' w2 e w'):Qr B A c l l' w e w':=by
 obtain⟨A',c',h1,h2,h3,h4⟩:=h;exact⟨A',c',h1,h2,(zG hb _).trans h3,fun p hp=>(h4 p hp).imp (fun k=>i3 hb.size k) id⟩
theorem zks{B:Nat}(A:Option Addr)(c:Nat)(l:List ze)(v:ByteArray)(w:World)(h:w.ownsRow B qg 1 (.slice A l.length c) l.length (cellsOf zD l))(hl:l.length<=10000)(hBw:B<=w.heap.size)(hs:l.Pairwise (· < ·))(hn:L v∉l):
 Calls prog 222 #[.slice A l.length c,.int .i64 (Zr l (L v):Nat),.slice (some ⟨w.heap.size,0,none⟩) 1 1] (Zj w v) (Qr B A c l (Xi l (L v)) w):=by
 rw[AG hs hn];have hp:=PT l (L v);by_cases h1:Zr l (L v)<l.length
 · by_cases h2:l.length+1<=c
   · exact zeb A c l _ v w h h1 h2
   · exact zig A c l _ v w h hl h1 zb hBw
 · have e:Zr l (L v)=l.length:=by omega
   rw[e,List.take_of_length_le zo,List.drop_of_length_le zo];by_cases h2:l.length+1<=c
   · exact zcT A c l v w h h2
   · exact zc9 A c l v w h hl zb hBw
theorem P7{B:Nat}(A:Option Addr)(c:Nat)(l:List ze)(v:ByteArray)(m:Nat)(w:World)(h:w.ownsRow B qg 1 (.slice A l.length c) l.length (cellsOf zD l))(hl:l.length<=10000)(_hm:m<=10000)(hBw:B<=w.heap.size)(hs:l.Pairwise (· < ·)):
 Calls prog 173 #[.slice A l.length c,.string v,.int .i64 m] w (Qr B A c l (QA l (L v) m) w):=by
 have HB0:=zev A c l v w h hl hs;have HSame:Hid (∀W,Below w.heap.size w W->Qr B A c l l w (.returned (.slice A l.length c)) W):=za fun W hW=>⟨A,c,rfl,qi h hW,zG hW _,fun p hp=>Or.inr ⟨p,hp,rfl⟩⟩;have HI:=za (fun(W:World) (hW:Below w.heap.size w W) (hn:L v∉l)=>(zks A c l v W (qi h hW) hl (i3 hBw hW.size) hs hn).mono fun _ _ hp=>hp.lift hW);by_cases hmem:L v∈l
 · have e:QA l (L v) m=l:=by unfold QA;rw[if_pos (Or.inl hmem)]
   rw[e];rw[zl1 hmem]at HB0;have HB:=za HB0;clear HB0 e hmem h hs HI;exact DM
 · rw[zl0 hmem]at HB0;have HB:=za HB0;have HIn:=za (fun W hW=>HI.out W hW hmem);by_cases hc:m<=l.length
   · have e:QA l (L v) m=l:=by unfold QA;rw[if_pos (Or.inr hc)]
     rw[e];have hci:(m:Int)<=((l.length:Nat):Int):=zb;clear HB0 e hmem h hs HI HIn;exact DM
   · have e:QA l (L v) m=Xi l (L v):=by unfold QA;rw[if_neg (fun k=>k.elim hmem hc)]
     rw[e];have hci:¬(m:Int)<=((l.length:Nat):Int):=zb;clear HB0 e hmem h hs HI HSame;generalize hN:l.length=N at*;clear hN;generalize Zr l (L v)=i at*;go_enter func173,ntmps173;go_wp2_with (first|(go_at_call 221;refine HB.out.mono ?_;rintro e w2 ⟨rfl,hb2⟩)|(go_at_call 222;refine(HIn.out _ hb2).mono ?_;rintro e w3 hP;obtain⟨A',c',rfl,-⟩:=id hP))
     go_ret;exact hP
end
section
open Go.RowKit Go.Shelf Go.Lib Go.Sort
def XA(s:ze):Value:=.string (bs s)
theorem zf7:OneCell XA:=fun _=>rfl
theorem yH(l:List ze):cellsOf zD l=l.map XA:=by
 induction l with
 |nil=>rfl
 |cons x l ih=>rw[zl3,<-ih];rfl
theorem zgE{w:World}{g q:Nat}{cur:Array Value}{T:TypeId}{fr:Nat×Nat}(h:w.heap[g]? =some (.cells cur T fr))(d:Array ze):(putRow XA (Sort.ahead w q) g 0 d).heap[g]? =some (.cells (putCells XA 0 d cur) T fr):=by
 show((Sort.ahead w q).heap.modify g _)[g]? =_;rw[Array.getElem?_modify,if_pos rfl];show(w.heap[g]?).map _=_;rw[h];rfl
theorem jd(w:World)(g q:Nat)(d:Array ze):w.grownBy (putRow XA (Sort.ahead w q) g 0 d) (some g):=by
 refine⟨rfl,rfl,rfl,?_,fun k _ hk=>?_⟩
 · show w.heap.size<=(w.heap.modify g _).size;simp
 · show(w.heap.modify g _)[k]? =_;rw[Array.getElem?_modify,if_neg (fun e=>hk (by rw[e]))]
theorem zcD{W:World}{base n cap g q:Nat}{T:TypeId}{xs:List Value}(h:W.ownsRow base T 1 (.slice (some ⟨g,0,none⟩) n cap) n xs)(d:Array ze)(hd:d.size=n)(m:Nat)(hm:m<=n)(ys:List ze)(hy:d.toList.take m=ys):
 (putRow XA (Sort.ahead W q) g 0 d).ownsRow base T 1 (.slice (some ⟨g,0,none⟩) m cap) m (cellsOf zD ys):=by
 have hl:ys.length=m:=by rw[<-hy,W9,Array.length_toList];omega
 rcases h.2 with⟨e,_⟩|⟨g',cap',cur,e,hb,hg,hn,hc,hs,ht⟩
 · cases e
 · injection e with e1 e2 e3
   injection e1 with e1
   injection e1 with e1
   subst e1 e3;refine⟨by rw[yH,W7,hl];omega,Or.inr ⟨g,cap,putCells XA 0 d cur,rfl,hb,zgE hg d,i3 hm hn,hc,by rw[<-hs];simp[putCells],?_⟩⟩;rw[yH,<-hy,zk2];apply List.ext_getElem?;intro j;rw[List.getElem?_take,zd4,List.getElem?_take];by_cases hj:j<m
   · rw[if_pos hj,if_pos hj,zm2,zm2];unfold putCells;rw[Array.getElem?_mapIdx];have h1:j<cur.size:=by rw[hs];omega
     have h2:j<d.size:=zb;rw[Array.getElem?_eq_getElem h1,Array.getElem?_eq_getElem h2];simp only[zd6,zk4,Nat.sub_zero];rw[if_pos ⟨X1 _,h2⟩,getElem!_pos d j h2]
   · rw[if_neg hj,if_neg hj];rfl
theorem Aw(x s:ze)(B:Nat)(W:World)(hc:W.cell? ⟨B,0,none⟩=some (.string (bs s))):
 Calls prog 244 #[XA x,.pointer (some ⟨B,0,none⟩)] W fun e w'=>e=.returned (.bool (x==s))/\∃q,w'=W.drewN q:=by
 unfold XA;have hb:((bs x).toList==(bs s).toList)=(x==s):=by rw[tl,tl,qz,qz]
 rw[<-hb];clear hb;go_enter func244,ntmps244;go_wp2;go_ret;exact⟨ZP zk,0,rfl⟩
theorem zcL(fv:Value)(w:World):Calls prog 160 #[.slice none 0 0,fv] w fun e w'=>e=.returned (.int .i64 (-1))/\w'=w:=by
 go_enter func160,ntmps160;exact OJ
theorem zbp(fv:Value)(w:World):Calls prog 243 #[.slice none 0 0,fv] w fun e w'=>e=.returned (.slice none 0 0)/\w'=w:=by
 have HI:=za (zcL fv w);go_enter func243,ntmps243;go_wp2_with (go_at_call 160;refine HI.out.mono ?_;rintro e w2 ⟨rfl,rfl⟩)
 exact jp
def Nt(B:Nat)(A:Option Addr)(c:Nat)(l:List ze)(s:ze)(w:World)(e:Ending)(w':World):Prop:=∃A' c',e=.returned (.slice A' (YS l s).length c')/\w'.ownsRow B qg 1 (.slice A' (YS l s).length c') (YS l s).length (cellsOf zD (YS l s))/\w.grownBy w' (Value.slice A l.length c).ownBlock/\∀p,A'=some p->∃q,A=some q/\q.block=p.block
theorem BM{w:World}{blk q B:Nat}{d:Array ze}{os:Array Obj}{v:Value}(hB:B≠blk)(hc:w.cell? ⟨B,0,none⟩=some v)(hlt:B<w.heap.size):(sortWorld XA w blk 0 q d os).cell? ⟨B,0,none⟩=some v:=by
 rw[<-hc];refine World.cell?_of_block (w:=w) ?_;show(grow (putRow XA (Sort.ahead w q) blk 0 d) os).heap[B]? =_;rw[Sort.heap_grow_old _ _ (i4 hlt (jd w blk q d).size)];exact(jd w blk q d).block B hlt (fun e=>hB (zx e))
theorem AZ{B:Nat}(A:Option Addr)(c:Nat)(l:List ze)(v:ByteArray)(w:World)(h:w.ownsRow B qg 1 (.slice A l.length c) l.length (cellsOf zD l))(hl:l.length<=10000):
 Calls prog 213 #[.slice A l.length c,.string v] w (Nt B A c l (L v) w):=by
 have hb1:=zL w (.cells #[.string v] 9);have HB1:=za hb1;cases A with
 | none=>
   obtain⟨rfl,rfl⟩:l=[]/\c=0:=by
    rcases h.2 with⟨e,e2⟩|⟨g',cap',cur,e,_⟩
    · injection e with _ _ e3
      exact⟨List.length_eq_zero_iff.1 e2,e3⟩
    · cases e
   have HD:=za (fun fv=>zbp fv (w.alloc (.cells #[.string v] 9)));clear hb1 h;go_enter func213,ntmps213;go_wp2_with (go_at_call 243;refine(HD.out _).mono ?_;rintro e w2 ⟨rfl,rfl⟩)
   go_ret;exact⟨none,0,rfl,World.ownsRow_nil _ _ _ _,zG HB1.out _,fun p e=>ZK⟩
 | some a=>
   obtain⟨g,rfl⟩:∃g,a=⟨g,0,none⟩:=by
    rcases h.2 with⟨e,e2⟩|⟨g',cap',cur,e,_⟩
    · cases e
    · injection e with e1
      injection e1 with e1
      exact⟨g',e1⟩
   have hlt:=(qu h _ rfl).2;have hB:w.heap.size≠g:=by have:g<w.heap.size:=hlt;omega
   have h1:=qi h hb1;have hc0:(w.alloc (.cells #[.string v] 9)).cell? ⟨w.heap.size,0,none⟩=some (.string (bs (L v))):=by rw[Yl];exact zd (i5 w _) rfl
   have hlt0:w.heap.size<(w.alloc (.cells #[.string v] 9)).heap.size:=zl;have hparts:∃cur,(w.alloc (.cells #[.string v] 9)).heap[g]? =some (.cells cur qg (0,0))/\l.length<=c/\c<=maxLen/\cur.size=c/\cur.toList.take l.length=l.map XA:=by
    rcases h1.2 with⟨e,e2⟩|⟨g',cap',cur,e,hbb,hg,hn,hc,hs,ht⟩
    · cases e
    · injection e with e1 e2 e3
      injection e1 with e1
      injection e1 with e1
      subst e1 e3;exact⟨cur,hg,hn,hc,zb,by rw[<-yH,<-ht,zk2]⟩
   obtain⟨cur,hg,hcap,hcm,hsz,htk⟩:=hparts;have hH:Holds XA (w.alloc (.cells #[.string v] 9)) g 0 l.toArray:=fun j hj=>by
    have hj':j<l.length:=GK;rw[zk4];refine⟨?_,frozen_of_row _ _ _ _ _ hg⟩;rw[cell_of_row _ _ j _ _ _ hg,<-zm2];have:=congrArg (fun z=>z[j]?) htk;simp only[List.getElem?_take,if_pos hj',zd4,l0 hj',zd6]at this;rw[this,getElem!_pos l.toArray j hj];rfl
   have hd:=slices_DeleteFunc XA zf7 (fun x=>x==L v) 244 #[.pointer (some ⟨w.heap.size,0,none⟩)] (fun _ _=>rfl) [] (fun w=>zeroValue9 w) g 0 c l.toArray (w.alloc (.cells #[.string v] 9)) (fun W x hW=>Aw x (L v) w.heap.size W ((hW.cell (p:=⟨w.heap.size,0,none⟩) hlt0).trans hc0)) (fun n os dk x _=>Aw x (L v) w.heap.size _ (BM hB hc0 hlt0)) hH zK (by simpa using hcap);have hfl:(l.toArray.toList.filter fun x=> !(x==L v))=YS l (L v):=rfl;rw[hfl]at hd;have hsz2:l.toArray.size=l.length:=zl;rw[hsz2]at hd;have hle:=Tf l (L v);have HEnd:Hid (∀q,Nt B (some ⟨g,0,none⟩) c l (L v) w (.returned (.slice (some ⟨g,0,none⟩) (YS l (L v)).length c)) (putRow XA (Sort.ahead (w.alloc (.cells #[.string v] 9)) q) g 0 (YS l (L v)++List.replicate (l.length - (YS l (L v)).length) []).toArray)):=za fun q=>by
    refine⟨some ⟨g,0,none⟩,c,rfl,zcD h1 _ zK _ hle _ zl,?_,fun p e=>⟨_,rfl,by cases e;rfl⟩⟩;exact(zG hb1 _).trans (jd _ g q _)
   have HD:=za hd;clear hd hH hg hcap hcm hsz htk hb1 h h1 hc0 hlt0 hfl hsz2 hle hlt hB;generalize hN:l.length=N at*;clear hN;go_enter func213,ntmps213;go_wp2_with (go_at_call 243;refine HD.out.mono ?_;rintro e w2 ⟨rfl,q,rfl⟩)
   go_ret;exact HEnd.out q
end
section
open Go.RowKit
theorem Qr.edTags{B g:Nat}{y:Dm}{w:World}{l':List ze}{e:Ending}{w':World}(h:qx B w g y)(hi:Qr B y.tags.A y.tags.c y.tags.l l' w e w'):∃A' c',e=.returned (.slice A' l'.length c')/\(w'.cell? ⟨g,1,none⟩).isSome=true/\w'.cell? ⟨g,1,none⟩=some (.slice y.tags.A y.tags.l.length y.tags.c)/\w'.frozen? ⟨g,1,none⟩=false/\qG B g y w {y.d with tags:=l'} (.returned (.tuple #[])) (w'.setCell ⟨g,1,none⟩ (.slice A' l'.length c')):=by
 obtain⟨A',c',h1,h2,h3,h4⟩:=hi;have hq:=zT.set_tags h h3 h2 h4;have hmem:y.tags.A∈y.as:=YD;have hbox:w'.heap[g]? =some (.cells (zI y) Uc (0,0)):=(h3.block g (zh h.box) (fun e=>by
  obtain⟨p,e1,e2⟩:=ZQ e.symm;exact h.off _ hmem p e1 e2)).trans h.box
 have hc:=(ZV hbox).2.1;exact⟨A',c',h1,by rw[hc];rfl,hc,qe hbox 1,hq.p rfl⟩
theorem Nt.ins{B:Nat}{A:Option Addr}{c:Nat}{l:List ze}{s:ze}{w:World}{e:Ending}{w':World}(h:Nt B A c l s w e w'):Qr B A c l (YS l s) w e w':=by
 obtain⟨A',c',h1,h2,h3,h4⟩:=h;exact⟨A',c',h1,h2,h3,fun p hp=>Or.inr (h4 p hp)⟩
theorem zfk{B g:Nat}{y:Dm}{w w2:World}(h:qx B w g y)(v:ByteArray)(hb:Below w.heap.size w w2):Qr B y.tags.A y.tags.c y.tags.l [L v] w (.returned (.slice (some ⟨w2.heap.size,0,none⟩) 1 1)) (Zj w2 v):=by
 have hB:=i3 (i3 h.lo (X3 (zh h.box))) hb.size;exact⟨some ⟨w2.heap.size,0,none⟩,1,rfl,⟨rfl,Or.inr ⟨w2.heap.size,1,#[.string v],rfl,hB,i5 w2 _,zo,ql,rfl,by simp[cellsOf,zD,Yl]⟩⟩,zG (zP hb) _,fun p hp=>Or.inl (by cases hp;exact hb.size)⟩
theorem zkG(B g:Nat)(y:Dm)(op:Int)(v:ByteArray)(w:World)(h:qx B w g y)(hl:y.tags.l.length<=1000)(hs:y.tags.l.Pairwise (· < ·))(hv:v.size<=1000000):
 Calls prog 166 #[.pointer (some ⟨g,0,none⟩),.int .i64 op,.string v] w (qG B g y w (KF y.d op v)):=by
 have hBw:=i3 h.lo (X3 (zh h.box));have HH:=za h;have HV0:=Gn v w zb;have HPut:=za (fun(W:World) (hW:Below w.heap.size w W)=>(P7 y.tags.A y.tags.c y.tags.l v 16 W (qi h.rows.tg hW) zb zb (i3 hBw hW.size) hs).mono fun _ _ hp=>hp.lift hW);have HDrop:=za (fun(W:World) (hW:Below w.heap.size w W)=>(AZ y.tags.A y.tags.c y.tags.l v W (qi h.rows.tg hW) zb).mono fun _ _ hp=>hp.ins.lift hW);have hE:KF y.d op v=if Z4 (L v)then(if op=3 then{y.d with tags:=[L v]}else if op=4 then{y.d with tags:=QA y.tags.l (L v) 16}else if op=5 then{y.d with tags:=YS y.tags.l (L v)}else y.d)else y.d:=rfl;rw[hE];clear hE h hBw hs;cases hval:Z4 (L v)with
 | false=>
   rw[hval]at HV0;have HV:=za HV0;clear HV0 hval;rw[if_neg zi];exact vE
 | true=>
   rw[hval]at HV0;have HV:=za HV0;clear HV0 hval;rw[if_pos rfl];by_cases h3:op=3
   · subst h3;rw[if_pos rfl];go_enter func166,ntmps166;go_wp2_with (go_at_call 169;refine HV.out.mono ?_;rintro e w2 ⟨rfl,hb2⟩;obtain⟨A5,c5,e5,h5,q5,f5,hP⟩:=Qr.edTags HH.out (zfk HH.out v hb2);injection e5 with e5;injection e5 with e6 e7 e8;subst e6 e8;have HP:=za hP;clear hP h5 e7 hb2)
     exact MK
   · rw[if_neg h3];by_cases h4:op=4
     · subst h4;rw[if_pos rfl];go_enter func166,ntmps166;go_wp2_with (first|(go_at_call 169;refine HV.out.mono ?_;rintro e w2 ⟨rfl,hb2⟩;have HB2:=za hb2;have hbx:=(HH.out.below hb2).box;have q1:=(ZV hbx).2.1;have f1:=qe hbx 1;clear hbx hb2)|(go_at_call 173;refine(HPut.out _ HB2.out).mono ?_;rintro e w5 hI;obtain⟨A5,c5,rfl,h5,q5,f5,hP⟩:=Qr.edTags HH.out hI;have HP:=za hP;clear hP hI h5))
       exact MK
     · rw[if_neg h4];by_cases h5':op=5
       · subst h5';rw[if_pos rfl];go_enter func166,ntmps166;go_wp2_with (first|(go_at_call 169;refine HV.out.mono ?_;rintro e w2 ⟨rfl,hb2⟩;have HB2:=za hb2;have hbx:=(HH.out.below hb2).box;have q1:=(ZV hbx).2.1;have f1:=qe hbx 1;clear hbx hb2)|(go_at_call 213;refine(HDrop.out _ HB2.out).mono ?_;rintro e w5 hI;obtain⟨A5,c5,rfl,h5,q5,f5,hP⟩:=Qr.edTags HH.out hI;have HP:=za hP;clear hP hI h5))
         exact MK
       · rw[if_neg h5'];exact vE
end
section
open Go.RowKit Go.Shelf Go.Lib
theorem zfX(op:Int){l:List ze}(w:ByteArray)(h:l.Pairwise (· < ·)/\l.length<=1000):(Zs op l w).Pairwise (· < ·)/\(Zs op l w).length<=1000:=by
 unfold Zs
 split
 · split
   · exact Fb
   · refine⟨NJ h.1 _ _,?_⟩;unfold QA
     split
     · exact h.2
     · rename_i hn;have h1:=vw l (L (by assumption));have h2:¬16<=l.length:=fun e=>hn (Or.inr e);omega
 · exact h
theorem NP(op:Int):∀(ws:List ByteArray) {l:List ze},(l.Pairwise (· < ·)/\l.length<=1000)->(ws.foldl (Zs op) l).Pairwise (· < ·)/\(ws.foldl (Zs op) l).length<=1000
 | [],_,h=>h
 |w::ws,_,h=>NP op ws (zfX op w h)
theorem Mf{α β:Type}(f:β->α->β)(l:List α)(b:β){k:Nat}(hk:k<l.length):(l.take (k+1)).foldl f b=f ((l.take k).foldl f b) l[k]:=SN
theorem zf4(w:World):PredAtRunes prog 216 #[] (fun n=>n==32) w:=by
 intro W x hx _;unfold FnGives encR;by_cases h:x=32
 · subst h;show Calls prog 216 #[.int .i32 32] W fun e w'=>e=.returned (.bool true)/\∃q,w'=W.drewN q;go_enter func216,ntmps216;go_wp2;go_ret;exact⟨zl,0,rfl⟩
 · have hi:¬(x:Int)=32:=by omega
   have hb:(x==32)=false:=XI;show Calls prog 216 #[.int .i32 x] W fun e w'=>e=.returned (.bool (x==32))/\∃q,w'=W.drewN q;rw[hb];go_enter func216,ntmps216;go_wp2;go_ret;exact⟨by simp[*],0,rfl⟩
theorem jk(v:ByteArray):∀x∈Yr v,x.size<=v.size:=by
 intro x hx;have e:Yr v=(Lib.spansOfP (fun n=>n==32) v).map fun x=>v.extract x.1 x.2:=rfl;rw[e]at hx;obtain⟨y,_,rfl⟩:=List.mem_map.1 hx;rw[<-zF,Ye];have:=zF v;rw[W8,W9];omega
theorem TM(v:ByteArray)(w:World)(hv:v.size<=1000000):
 Calls prog 215 #[.string v,.func (.func 216) #[] #[]] w fun e w'=>∃A,e=.returned (.slice (some ⟨A,0,none⟩) (Yr v).length (Yr v).length)/\w.heap.size<=A/\(Yr v).length<=maxLen/\zr w' w'.heap.size (some ⟨A,0,none⟩) 1 (Yr v).length ((Yr v).map Value.string)/\Below w.heap.size w w':=by
 refine(strings_FieldsFunc_runes 216 #[] (fun _ _=>rfl) (fun n=>n==32) v w zb (zf4 w)).mono ?_;rintro e w' ⟨A,h1,h2,h3,h4⟩;refine⟨A,h1,h2,?_,zr.of_own h3,h4⟩;rcases h3.2 with⟨e,_⟩|⟨g,cap,cur,_,_,_,hn,hc,_⟩
 · cases e
 · exact i3 hn hc
theorem Qr.edLinks{B g:Nat}{y:Dm}{w:World}{l':List ze}{e:Ending}{w':World}(h:qx B w g y)(hi:Qr B y.links.A y.links.c y.links.l l' w e w'):∃A' c',e=.returned (.slice A' l'.length c')/\w'.cell? ⟨g,2,none⟩=some (.slice y.links.A y.links.l.length y.links.c)/\w'.frozen? ⟨g,2,none⟩=false/\zT B g y w {y with links:=⟨A',c',l'⟩} (w'.setCell ⟨g,2,none⟩ (.slice A' l'.length c')):=by
 obtain⟨A',c',h1,h2,h3,h4⟩:=hi;have hq:=zT.set_links h h3 h2 h4;have hmem:y.links.A∈y.as:=YD;have hbox:w'.heap[g]? =some (.cells (zI y) Uc (0,0)):=(h3.block g (zh h.box) (fun e=>by
  obtain⟨p,e1,e2⟩:=ZQ e.symm;exact h.off _ hmem p e1 e2)).trans h.box
 exact⟨A',c',h1,(ZV hbox).2.2.1,qe hbox 2,hq⟩
theorem Y9.row{w w':World}{g:Nat}{y y':Dm}(h:Y9 w g y w' y'){A n:Nat}{xs:List Value}(hr:zr w w.heap.size (some ⟨A,0,none⟩) 1 n xs)(hg:A≠g)(hn:∀a∈y.as,∀p,a=some p->p.block≠A):zr w' w'.heap.size (some ⟨A,0,none⟩) 1 n xs:=by
 refine⟨hr.len,fun hp=>?_⟩;obtain⟨ba,off,e,hB,hc⟩:=hr.at_ hp;injection e with e
 injection e with e1 e2
 subst e1 e2;refine⟨A,0,rfl,i4 hB h.sz,fun j u hu=>?_⟩;rw[<-hc j u hu];exact World.cell?_of_block (w:=w) (h.fr A hB hg hn)
structure kg(B g:Nat)(y:Dm)(op:Int)(ws:List ByteArray)(w:World)(k:Nat)(y':Dm)(wr:World):Prop where
 q:zT B g y w y' wr
 d:y'.d={y.d with links:=(ws.take k).foldl (Zs op) y.links.l}
theorem zbB(B g:Nat)(y:Dm)(op:Int)(v:ByteArray)(w:World)(h:qx B w g y)(hl:y.links.l.length<=1000)(hs:y.links.l.Pairwise (· < ·))(hE:Env0 w)(hB:nG<=B)(hv:v.size<=1000000)(n3:¬op=3)(n6:¬op=6):
 Calls prog 168 #[.pointer (some ⟨g,0,none⟩),.int .i64 op,.string v] w (qG B g y w (XW y.d op v)):=by
 have hq1:zT B g y w y w:=zT.same h zj;have hE1:=hE;have hok:y.links.l.Pairwise (· < ·)/\y.links.l.length<=1000:=⟨hs,hl⟩;have b3:(op==3)=false:=by simpa using n3
 have b6:(op==6)=false:=by simpa using n6
 have HE1:=za hE1;have HWd:=za (TM v w hv);have HWs:=za (jk v);have HOk:=za (fun k=>NP op ((Yr v).take k) (l:=y.links.l) hok);have hEq:XW y.d op v={y.d with links:=(Yr v).foldl (Zs op) y.links.l}:=by unfold XW;rw[if_neg (fun e=>e.elim n3 n6)];rfl
 have HEq:=za hEq;have H1:=za hq1;have q2:w.cell? ⟨g,2,none⟩=some (.slice y.links.A y.links.l.length y.links.c):=(ZV hq1.ed.box).2.2.1;clear hE1 hok hEq h hl hs hE;generalize Yr v=ws at*;go_enter func168,ntmps168;go_wp2_with (go_at_call 215;refine HWd.out.mono ?_;rintro e w2 ⟨A,rfl,hA,hmx,hrow,hb2⟩)
 have hq2:=H1.out.trans (zT.same H1.out.ed hb2);have HAg:=za (show A≠g by have:=zh H1.out.ed.box;omega);have HAn:=za (fun(a:Option Addr) (ha:a∈y.as) (p:Addr) (e:a=some p)=>(show p.block≠A by have:=H1.out.ed.rows.lt a ha p e;omega));have HR2:Hid (kg B g y op ws w2 0 y w2):=za ⟨zT.same (H1.out.ed.below hb2) zj,rfl⟩;have Y1:=za hrow;have HB2:=za hb2;have HQ2:=za hq2;clear hq2 hrow q2;generalize hN:ws.length=N at*;have HN:=za hN;have hmx2:N<=9223372036854775807:=j9;clear hN hmx hA;go_loopg [7,8,9,23] N (fun gk _ _ _ i wr=>∃(k:Nat) (yk:Dm),i=.int .i64 k/\k<=N/\k+gk=N/\Hid (kg B g y op ws w2 k yk wr))
 case atStart=>exact⟨0,y,rfl,X1 _,zb,HR2⟩
 case round=>
  obtain⟨k,yk,rfl,hk,hkg,HR⟩:=hrel;by_cases hlt:k<N
  · have hlt':k<ws.length:=by rw[HN.out];exact hlt
    obtain⟨ba,off,ea,hc⟩:=K4 (Y9.row HR.out.q.r R6 HAg.out HAn.out) zj ji;injection ea with ea
    injection ea with ea1 ea2
    subst ea1 ea2;rw[zk4]at hc;have hEk:=HR.out.q.ed;have hbk:=HR.out.q.b;have hdk:yk.links.l=(ws.take k).foldl (Zs op) y.links.l:=congrArg Dr.links HR.out.d;have hok:=HOk.out k;rw[<-hdk]at hok;have HCl:=za (PF ws[k] wr ((HE1.out.keep HQ2.out.b hB).keep hbk hB) (i3 (HWs.out _ (X8 hlt')) hv));have htk:=Mf (Zs op) ws y.links.l hlt';rw[<-hdk]at htk;have HTk:=za htk;have HDk:=za hdk;have HOkk:=za hok;clear htk hdk hok;generalize ws[k]=x at*;cases hcl:JX x with
    | none=>
      have e:Zs op yk.links.l x=yk.links.l:=P1;exact yL
    | some t=>
      rw[hcl]at HCl;have HCl2:=za HCl.out;have hfin:∀(l':List ze),Zs op yk.links.l x=l'->∀(A':Option Addr) (c':Nat) (w3 w4:World),Below wr.heap.size wr w3->zT B g yk w3 {yk with links:=⟨A',c',l'⟩} w4->kg B g y op ws w2 (k+1) {yk with links:=⟨A',c',l'⟩} w4:=fun l' hl' A' c' w3 w4 hb3 hq=>⟨(HR.out.q.trans (zT.same hEk hb3)).trans hq,by
       rw[HTk.out,hl'];have hd:=HR.out.d;show{yk.d with links:=l'}=_;rw[hd]⟩
      have HFin:=za hfin;have hcap:Ii (some t)=.tuple #[.string t,.bool true]:=rfl;rw[hcap]at HCl2;have hgB:=i3 hEk.lo (X3 (zh hEk.box));have HEk:=za hEk;clear HCl hfin hcap;by_cases o5:op=5
      · subst o5;have HF2:=za (HFin.out (YS yk.links.l (L t)) (by unfold Zs;rw[hcl];rfl));have HDrop:=za (fun(W:World) (hW:Below wr.heap.size wr W)=>(AZ yk.links.A yk.links.c yk.links.l t W (qi hEk.rows.lk hW) (by have:=HOkk.out.2;omega)).mono fun _ _ hp=>hp.ins);clear hcl HFin hEk;go_wp2_with (first
         |(go_at_call 217;refine HCl2.out.mono ?_;rintro e w3 ⟨rfl,hb3⟩;have HB3:=za hb3;have q3:=(ZV (HEk.out.below hb3).box).2.2.1;have f3:=qe (HEk.out.below hb3).box 2;clear hb3)
         |(go_at_call 213;refine(HDrop.out _ HB3.out).mono ?_;rintro e w5 hI;obtain⟨A5,c5,rfl,q5,f5,hP⟩:=Qr.edLinks (HEk.out.below HB3.out) hI;have HP:=za hP;clear hP hI q3 f3))
        go_roundg (gk - 1)
        case measure=>omega
        case rel=>exact⟨k+1,_,zU,zb,zb,za (HF2.out _ _ _ _ HB3.out HP.out)⟩
      · have b5:(op==5)=false:=by simpa using o5
        have HF2:=za (HFin.out (QA yk.links.l (L t) 16) (by unfold Zs;rw[hcl];show(if op=5 then _ else _)=_;rw[if_neg o5]));exact Po
  · exact Tu
theorem zhD(B g:Nat)(y:Dm)(v:ByteArray)(w:World)(h:qx B w g y)(_hl:y.links.l.length<=1000)(_hs:y.links.l.Pairwise (· < ·))(hE:Env0 w)(hB:nG<=B)(hv:v.size<=1000000):
 Calls prog 168 #[.pointer (some ⟨g,0,none⟩),.int .i64 3,.string v] w (qG B g y w (XW y.d 3 v)):=by
 have hb0:=h.box;have q0:=(ZV hb0).2.2.1;have f0:=qe hb0 2;obtain⟨y1,hy1⟩:∃y1:Dm,y1={y with links:=⟨none,0,[]⟩}:=⟨_,rfl⟩;have hq1:zT B g y w y1 (w.setCell ⟨g,2,none⟩ (.slice none 0 0)):=Sd;obtain⟨w1,hw1⟩:∃W,w.setCell ⟨g,2,none⟩ (.slice none 0 0)=W:=⟨_,rfl⟩;rw[hw1]at hq1;have hE1:=hE;have hok:y1.links.l.Pairwise (· < ·)/\y1.links.l.length<=1000:=by
  rw[hy1];exact PJ
 have HE1:=za hE1;have HWd:=za (TM v w1 hv);have HWs:=za (jk v);have HOk:=za (fun k=>NP 3 ((Yr v).take k) (l:=y1.links.l) hok);have hEq:XW y.d 3 v={y1.d with links:=(Yr v).foldl (Zs 3) y1.links.l}:=Cb;have HEq:=za hEq;have H1:=za hq1;have q2:w1.cell? ⟨g,2,none⟩=some (.slice y1.links.A y1.links.l.length y1.links.c):=(ZV hq1.ed.box).2.2.1;clear hE1 hok hEq h _hl _hs hE hb0 hy1;generalize Yr v=ws at*;go_enter func168,ntmps168;go_upto_region 2 with fail
 try rw[hw1]
 clear q0 f0 hw1;go_wp2_with (go_at_call 215;refine HWd.out.mono ?_;rintro e w2 ⟨A,rfl,hA,hmx,hrow,hb2⟩)
 have hq2:=H1.out.trans (zT.same H1.out.ed hb2);have HAg:=za (show A≠g by have:=zh H1.out.ed.box;omega);have HAn:=za (fun(a:Option Addr) (ha:a∈y1.as) (p:Addr) (e:a=some p)=>(show p.block≠A by have:=H1.out.ed.rows.lt a ha p e;omega));have HR2:Hid (kg B g y1 3 ws w2 0 y1 w2):=za ⟨zT.same (H1.out.ed.below hb2) zj,rfl⟩;have Y1:=za hrow;have HB2:=za hb2;have HQ2:=za hq2;clear hq2 hrow q2;generalize hN:ws.length=N at*;have HN:=za hN;have hmx2:N<=9223372036854775807:=j9;clear hN hmx hA;go_loopg [7,8,9,23] N (fun gk _ _ _ i wr=>∃(k:Nat) (yk:Dm),i=.int .i64 k/\k<=N/\k+gk=N/\Hid (kg B g y1 3 ws w2 k yk wr))
 case atStart=>exact⟨0,y1,rfl,X1 _,zb,HR2⟩
 case round=>
  obtain⟨k,yk,rfl,hk,hkg,HR⟩:=hrel;by_cases hlt:k<N
  · have hlt':k<ws.length:=by rw[HN.out];exact hlt
    obtain⟨ba,off,ea,hc⟩:=K4 (Y9.row HR.out.q.r R6 HAg.out HAn.out) zj ji;injection ea with ea
    injection ea with ea1 ea2
    subst ea1 ea2;rw[zk4]at hc;have hEk:=HR.out.q.ed;have hbk:=HR.out.q.b;have hdk:yk.links.l=(ws.take k).foldl (Zs 3) y1.links.l:=congrArg Dr.links HR.out.d;have hok:=HOk.out k;rw[<-hdk]at hok;have HCl:=za (PF ws[k] wr ((HE1.out.keep HQ2.out.b hB).keep hbk hB) (i3 (HWs.out _ (X8 hlt')) hv));have htk:=Mf (Zs 3) ws y1.links.l hlt';rw[<-hdk]at htk;have HTk:=za htk;have HDk:=za hdk;have HOkk:=za hok;clear htk hdk hok;generalize ws[k]=x at*;cases hcl:JX x with
    | none=>
      have e:Zs 3 yk.links.l x=yk.links.l:=P1;exact yL
    | some t=>
      rw[hcl]at HCl;have HCl2:=za HCl.out;have hfin:∀(l':List ze),Zs 3 yk.links.l x=l'->∀(A':Option Addr) (c':Nat) (w3 w4:World),Below wr.heap.size wr w3->zT B g yk w3 {yk with links:=⟨A',c',l'⟩} w4->kg B g y1 3 ws w2 (k+1) {yk with links:=⟨A',c',l'⟩} w4:=fun l' hl' A' c' w3 w4 hb3 hq=>⟨(HR.out.q.trans (zT.same hEk hb3)).trans hq,by
       rw[HTk.out,hl'];have hd:=HR.out.d;show{yk.d with links:=l'}=_;rw[hd]⟩
      have HFin:=za hfin;have hcap:Ii (some t)=.tuple #[.string t,.bool true]:=rfl;rw[hcap]at HCl2;have hgB:=i3 hEk.lo (X3 (zh hEk.box));have HEk:=za hEk;clear HCl hfin hcap;have HF2:=za (HFin.out (QA yk.links.l (L t) 16) (by unfold Zs;rw[hcl];show(if(3:Int)=5 then _ else _)=_;rw[if_neg zi]));exact Po
  · exact Tu
theorem zdl(B g:Nat)(y:Dm)(v:ByteArray)(w:World)(h:qx B w g y)(_hl:y.links.l.length<=1000)(_hs:y.links.l.Pairwise (· < ·))(hE:Env0 w)(hB:nG<=B)(hv:v.size<=1000000):
 Calls prog 168 #[.pointer (some ⟨g,0,none⟩),.int .i64 6,.string v] w (qG B g y w (XW y.d 6 v)):=by
 have hb0:=h.box;have q0:=(ZV hb0).2.2.1;have f0:=qe hb0 2;obtain⟨y1,hy1⟩:∃y1:Dm,y1={y with links:=⟨none,0,[]⟩}:=⟨_,rfl⟩;have hq1:zT B g y w y1 (w.setCell ⟨g,2,none⟩ (.slice none 0 0)):=Sd;obtain⟨w1,hw1⟩:∃W,w.setCell ⟨g,2,none⟩ (.slice none 0 0)=W:=⟨_,rfl⟩;rw[hw1]at hq1;have hE1:=hE;have hok:y1.links.l.Pairwise (· < ·)/\y1.links.l.length<=1000:=by
  rw[hy1];exact PJ
 have HE1:=za hE1;have HWd:=za (TM v w1 hv);have HWs:=za (jk v);have HOk:=za (fun k=>NP 6 ((Yr v).take k) (l:=y1.links.l) hok);have hEq:XW y.d 6 v={y1.d with links:=(Yr v).foldl (Zs 6) y1.links.l}:=Cb;have HEq:=za hEq;have H1:=za hq1;have q2:w1.cell? ⟨g,2,none⟩=some (.slice y1.links.A y1.links.l.length y1.links.c):=(ZV hq1.ed.box).2.2.1;clear hE1 hok hEq h _hl _hs hE hb0 hy1;generalize Yr v=ws at*;go_enter func168,ntmps168;go_upto_region 2 with fail
 try rw[hw1]
 clear q0 f0 hw1;go_wp2_with (go_at_call 215;refine HWd.out.mono ?_;rintro e w2 ⟨A,rfl,hA,hmx,hrow,hb2⟩)
 have hq2:=H1.out.trans (zT.same H1.out.ed hb2);have HAg:=za (show A≠g by have:=zh H1.out.ed.box;omega);have HAn:=za (fun(a:Option Addr) (ha:a∈y1.as) (p:Addr) (e:a=some p)=>(show p.block≠A by have:=H1.out.ed.rows.lt a ha p e;omega));have HR2:Hid (kg B g y1 6 ws w2 0 y1 w2):=za ⟨zT.same (H1.out.ed.below hb2) zj,rfl⟩;have Y1:=za hrow;have HB2:=za hb2;have HQ2:=za hq2;clear hq2 hrow q2;generalize hN:ws.length=N at*;have HN:=za hN;have hmx2:N<=9223372036854775807:=j9;clear hN hmx hA;go_loopg [7,8,9,23] N (fun gk _ _ _ i wr=>∃(k:Nat) (yk:Dm),i=.int .i64 k/\k<=N/\k+gk=N/\Hid (kg B g y1 6 ws w2 k yk wr))
 case atStart=>exact⟨0,y1,rfl,X1 _,zb,HR2⟩
 case round=>
  obtain⟨k,yk,rfl,hk,hkg,HR⟩:=hrel;by_cases hlt:k<N
  · have hlt':k<ws.length:=by rw[HN.out];exact hlt
    obtain⟨ba,off,ea,hc⟩:=K4 (Y9.row HR.out.q.r R6 HAg.out HAn.out) zj ji;injection ea with ea
    injection ea with ea1 ea2
    subst ea1 ea2;rw[zk4]at hc;have hEk:=HR.out.q.ed;have hbk:=HR.out.q.b;have hdk:yk.links.l=(ws.take k).foldl (Zs 6) y1.links.l:=congrArg Dr.links HR.out.d;have hok:=HOk.out k;rw[<-hdk]at hok;have HCl:=za (PF ws[k] wr ((HE1.out.keep HQ2.out.b hB).keep hbk hB) (i3 (HWs.out _ (X8 hlt')) hv));have htk:=Mf (Zs 6) ws y1.links.l hlt';rw[<-hdk]at htk;have HTk:=za htk;have HDk:=za hdk;have HOkk:=za hok;clear htk hdk hok;generalize ws[k]=x at*;cases hcl:JX x with
    | none=>
      have e:Zs 6 yk.links.l x=yk.links.l:=P1;exact yL
    | some t=>
      rw[hcl]at HCl;have HCl2:=za HCl.out;have hfin:∀(l':List ze),Zs 6 yk.links.l x=l'->∀(A':Option Addr) (c':Nat) (w3 w4:World),Below wr.heap.size wr w3->zT B g yk w3 {yk with links:=⟨A',c',l'⟩} w4->kg B g y1 6 ws w2 (k+1) {yk with links:=⟨A',c',l'⟩} w4:=fun l' hl' A' c' w3 w4 hb3 hq=>⟨(HR.out.q.trans (zT.same hEk hb3)).trans hq,by
       rw[HTk.out,hl'];have hd:=HR.out.d;show{yk.d with links:=l'}=_;rw[hd]⟩
      have HFin:=za hfin;have hcap:Ii (some t)=.tuple #[.string t,.bool true]:=rfl;rw[hcap]at HCl2;have hgB:=i3 hEk.lo (X3 (zh hEk.box));have HEk:=za hEk;clear HCl hfin hcap;have HF2:=za (HFin.out (QA yk.links.l (L t) 16) (by unfold Zs;rw[hcl];show(if(6:Int)=5 then _ else _)=_;rw[if_neg zi]));exact Po
  · exact Tu
theorem zjZ(B g:Nat)(y:Dm)(op:Int)(v:ByteArray)(w:World)(h:qx B w g y)(hl:y.links.l.length<=1000)(hs:y.links.l.Pairwise (· < ·))(hE:Env0 w)(hB:nG<=B)(hv:v.size<=1000000):
 Calls prog 168 #[.pointer (some ⟨g,0,none⟩),.int .i64 op,.string v] w (qG B g y w (XW y.d op v)):=by
 by_cases h3:op=3
 · subst h3;exact zhD B g y v w h hl hs hE hB hv
 · by_cases h6:op=6
   · subst h6;exact zdl B g y v w h hl hs hE hB hv
   · exact zbB B g y op v w h hl hs hE hB hv h3 h6
end
end Go.Proofs.YtecbmndgpepkcaaGreatDoor

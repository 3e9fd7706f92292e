/- Contracts of functions that the law reaches, and what they rest on; each under the premises that it names. Shortened by a program. -/
import Derived.Test.YtobcmlmbblgcdaaGreatDoorG19
import Derived.Test.YtobcmlmbblgcdaaGreatDoorG22
namespace Go.Proofs.YtobcmlmbblgcdaaGreatDoor
open Tryz
set_option maxHeartbeats 8000000
set_option maxRecDepth 100000
section
open Go.RowKit
theorem Ky{B:Nat}{w W:World}{g i:Nat}{u:Value}(h:Below B w W)(hs:B<=W.heap.size)(hg:B<=g):Below B w (W.setCell ⟨g,i,none⟩ u):=h.grown (qz _ _ _ _) hs (fun j e=>NU)
theorem qB.setProps{B g:Nat}{y:Dm}{w w1 w2:World}{l':List At}{A':Option Addr}{c':Nat}(h:qs B w g y)(hb:Below w.heap.size w w1)(ho:Ve w1 l' (.slice A' l'.length c') w2):qB B g y w {y.d with props:=l'} (.returned (.tuple #[])) (w2.setCell ⟨g,0,none⟩ (.slice A' l'.length c')):=by
 have h1:=h.below hb;refine⟨rfl,{y with props:=⟨A',c',l'⟩},rfl,h1.setProps ho.2 ho.1,⟨fun b hb' hg hn=>?_,?_,fun a ha p e=>?_⟩,?_⟩
 · rw[heap_setCell_other _ _ _ _ hg];exact((bt hb ho.2).block b hb')
 · have:=(bt hb ho.2).size;simp only[World.setCell];exact QU
 · have hs:({y with props:=⟨A',c',l'⟩}:Dm).as=y.as.set 0 A':=rfl;rw[hs]at ha;rcases List.mem_or_eq_of_mem_set ha with hm|rfl
   · exact Or.inr ⟨a,hm,p,e,rfl⟩
   · exact Or.inl (Nat.le_trans hb.size (qp ho.1 p e).1)
 · have hB:=Nat.le_trans h.lo (Nat.le_of_lt (zh h.box));exact Ky ((bt hb ho.2).mono hB) (Nat.le_trans hB (bt hb ho.2).size) h.lo
theorem Pa(B g:Nat)(y:Dm)(k v:ByteArray)(w:World)(h:qs B w g y)(hl:y.props.l.length<=1000)(ha:ZX y.props.l)(hv:v.size<=9223372036854775807):
 Calls prog 164 #[.pointer (some ⟨g,0,none⟩),.string k,.string v] w (qB B g y w (Yt y.d k v)):=by
 have hpr:=(zA.of_own h.rows.pr).1;have HQ:Hid (∀W,Below w.heap.size w W->W.cell? ⟨g,0,none⟩=some (.slice y.props.A y.props.l.length y.props.c)/\W.frozen? ⟨g,0,none⟩=false):=za fun W hW=>by
  have h1:=(h.below hW).box;exact⟨(ZG h1).1,qb h1 0⟩
 have HG0:=KE y.props.A y.props.c y.props.l k w hpr.row.row zb;have HK0:=SY k;have HT0:=fun W=>MJ v W hv;have HS:=za (fun(W:World) (hW:Below w.heap.size w W)=>vq ⟨y.props.A,y.props.c,y.props.l⟩ k v W (hpr.keep hW) (by show y.props.l.length<=_;omega) ha);have HH:=za h;have hE:Yt y.d k v=if(If (L k)|| !YO (L v)||((zT y.props.l (L k)).isNone&&decide (64<=y.props.l.length)))then y.d else{y.d with props:=Xy y.props.l ⟨k,v⟩}:=rfl;rw[hE];clear hE hpr h ha;unfold Vg Jp at HG0;dsimp only at HS;obtain⟨q0,f0⟩:=HQ.out w zk;cases hk:If (L k)with
 | true=>
   simp only[Bool.true_or,if_true];simp only[hk]at HK0;clear hk;cases hf:zT y.props.l (L k)with
   | none=>
     exact CF
   | some z=>
     exact CF
 | false =>
   simp only[Bool.false_or];simp only[hk]at HK0;clear hk;cases ht:YO (L v)with
   | false=>
     simp only[Bool.not_false,Bool.true_or,if_true];simp only[ht]at HT0;clear ht;cases hf:zT y.props.l (L k)with
     | none=>
       rw[hf]at HG0;clear hf;exact OM
     | some z=>
       rw[hf]at HG0;clear hf;exact OM
   | true=>
     simp only[Bool.not_true,Bool.false_or];simp only[ht]at HT0;clear ht;cases hf:zT y.props.l (L k)with
     | some z=>
       simp only[Option.isNone_some,Bool.false_and,Bool.false_eq_true,if_false];rw[hf]at HG0;clear hf;exact Lr
     | none=>
       simp only[Option.isNone_none,Bool.true_and];rw[hf]at HG0;clear hf;by_cases hn:64<=y.props.l.length
       · rw[if_pos (decide_eq_true hn)];have hni:(64:Int)<=((y.props.l.length:Nat):Int):=zb;exact OM
       · rw[if_neg (by simpa using hn)];have hni:¬(64:Int)<=((y.props.l.length:Nat):Int):=zb;exact Lr
end
section
open Go.RowKit
theorem zjx{s:ByteArray}{n:Nat}(h:s.size<=n):s.extract 0 n=s:=by
 have:L (s.extract 0 n)=L s:=EK;have e:=congrArg bs this;rwa [Q2,Q2]at e
theorem qB.lift{B g:Nat}{y:Dm}{w w2:World}{d':Dr}{e:Ending}{w':World}(h:qs B w g y)(hb:Below w.heap.size w w2)(hp:qB B g y w2 d' e w'):qB B g y w d' e w':=by
 obtain⟨h1,y',h2,h3,h4,h5⟩:=hp;exact⟨h1,y',h2,h3,(YG.same hb).trans h4,(hb.mono (Nat.le_trans h.lo (Nat.le_of_lt (zh h.box)))).trans h5⟩
theorem zgd(B g:Nat)(y:Dm)(k v:ByteArray)(w:World)(h:qs B w g y)(hl:y.props.l.length<=1000)(ha:ZX y.props.l)(hv:v.size<=1000000)(hz:∀x∈y.props.l,x.val.size<=1000000):
 Calls prog 170 #[.pointer (some ⟨g,0,none⟩),.string k,.string v] w (qB B g y w (UJ y.d k v)):=by
 have hpr:=(zA.of_own h.rows.pr).1;have hbox:=h.box;have q0:=(ZG hbox).1;have HG0:=KE y.props.A y.props.c y.props.l k w hpr.row.row zb;have HV:=za (fun(s:ByteArray) (hs:s.size<=9223372036854775807) (W:World) (hW:Below w.heap.size w W)=>(Pa B g y k s W (h.below hW) hl ha hs).mono fun _ _ hp=>qB.lift h hW hp);have HH:=za h;have hE:(L v).isEmpty=false->UJ y.d k v=match zT y.props.l (L k)with|some x=>Yt y.d k ((x.val++JZ++v).extract 0 256)|none=>Yt y.d k v:=fun e=>by
  unfold UJ;rw[e];rfl
 have hE0:(L v).isEmpty=true->UJ y.d k v=y.d:=fun e=>by
  unfold UJ;rw[e];rfl
 have hfz:∀x,zT y.props.l (L k)=some x->x.val.size<=1000000:=fun x hx=>hz x (List.mem_of_find?_eq_some hx);clear hpr h ha hbox hz;unfold Vg Jp at HG0;rcases Classical.em (v.toList=[])with n1|n1
 · have n2:v.toList.isEmpty=true:=by rw[n1];rfl
   rw[hE0 On];clear hE hE0 hfz;cases hf:zT y.props.l (L k)with
   | none=>
     exact DP
   | some z=>
     exact DP
 · have n2:v.toList.isEmpty=false:=by rw[tl];exact Xq n1
   rw[hE On];clear hE hE0;cases hf:zT y.props.l (L k)with
   | none=>
     rw[hf]at HG0;clear hf hfz;have HG:=za HG0;clear HG0;generalize hN:y.props.l.length=N at*;have HN:=za hN;clear hN;go_enter func170,ntmps170;go_wp2_with (first|(go_at_call 27;refine HG.out.mono ?_;rintro e w2 ⟨rfl,hb2⟩;have HB2:=za hb2;clear hb2)|(go_at_call 164;refine(HV.out v zb _ HB2.out).mono ?_;rintro e w3 hP;obtain⟨rfl,-⟩:=id hP;have HP:=za hP;clear hP))
     exact Na
   | some z=>
     have hzz:=hfz z hf;rw[hf]at HG0;clear hf hfz;dsimp only;have r1:(9223372036854775807<z.val.size+1)=False:=zG;have r2:(9223372036854775807<z.val.size+1+v.size)=False:=zG;have hsz:(z.val++JZ++v).size=z.val.size+1+v.size:=by simp only[ByteArray.size_append];rfl
     by_cases hq:z.val.size+1+v.size<=256
     · have hqi:((z.val.size:Int)+1+(v.size:Int))<=256:=by omega
       have hmi:min ((z.val.size:Int)+1+(v.size:Int)) 256=(z.val.size:Int)+1+(v.size:Int):=zb;rw[(LD (s:=z.val++JZ++v) (by rw[hsz];exact hq)).trans (zjx (s:=z.val++JZ++v) (n:=z.val.size+1+v.size) (by rw[hsz];exact zo)).symm];exact CC
     · have hqi:¬((z.val.size:Int)+1+(v.size:Int))<=256:=by omega
       have hmi:min ((z.val.size:Int)+1+(v.size:Int)) 256=256:=zb;have hqj:(256:Int)<=(z.val.size:Int)+1+(v.size:Int):=zb;have hqn:256<=z.val.size+1+v.size:=zb;exact CC
theorem Do(v:ByteArray)(w:World)(hv:v.size<=9223372036854775807):
 Calls prog 177 #[.string v] w fun e w'=>e=.returned (.bool (Uu v))/\w'=w:=by
 have HT0:=MJ v w hv;have hE:Uu v=(!(L v).isEmpty&&YO (L v)):=rfl;rw[hE];rcases Classical.em (v.toList=[])with n1|n1
 · have n2:v.toList.isEmpty=true:=by rw[n1];rfl
   have n3:(L v).isEmpty=true:=On;rw[n3];clear n3 hE HT0;go_enter func177,ntmps177;exact kr
 · have n2:v.toList.isEmpty=false:=by rw[tl];exact Xq n1
   have n3:(L v).isEmpty=false:=On;rw[n3];have HT:=za HT0;clear n3 hE HT0;generalize YO (L v)=b at*;go_enter func177,ntmps177;go_wp2_with (go_at_call 196;refine HT.out.mono ?_;rintro e w4 ⟨rfl,rfl⟩)
   go_ret;exact⟨R9,rfl⟩
end
section
open Go.RowKit
structure zQ(B g:Nat)(y:Dm)(w:World)(y':Dm)(w':World):Prop where
 ed:qs B w' g y'
 r:YG w g y w' y'
 b:Below B w w'
theorem zQ.p{B g:Nat}{y y':Dm}{w w':World}{d':Dr}(h:zQ B g y w y' w')(e:y'.d=d'):qB B g y w d' (.returned (.tuple #[])) w':=⟨rfl,y',e,h.ed,h.r,h.b⟩
theorem zQ.trans{B g:Nat}{y y1 y2:Dm}{w w1 w2:World}(h:zQ B g y w y1 w1)(h2:zQ B g y1 w1 y2 w2):zQ B g y w y2 w2:=⟨h2.ed,h.r.trans h2.r,h.b.trans h2.b⟩
theorem zQ.same{B g:Nat}{y:Dm}{w w':World}(h:qs B w g y)(hb:Below w.heap.size w w'):zQ B g y w y w':=⟨h.below hb,YG.same hb,hb.mono (Nat.le_trans h.lo (Nat.le_of_lt (zh h.box)))⟩
theorem zQ.scalar{B g:Nat}{y:Dm}{w:World}(h:qs B w g y)(i:Nat)(v:Value)(y':Dm)(hd:zD y'=(zD y).setIfInBounds i v)(e:y'.as=y.as)(hr:ZC B w y'):zQ B g y w y' (w.setCell ⟨g,i,none⟩ v):=by
 have hB:=Nat.le_trans h.lo (Nat.le_of_lt (zh h.box));refine⟨h.store i v y' hd hr (by rw[e];exact h.off),⟨fun b _ hg _=>heap_setCell_other _ _ _ _ hg,Md,fun a ha p ep=>Or.inr ⟨a,by rw[<-e];exact ha,p,ep,rfl⟩⟩,Ky zk hB h.lo⟩
theorem Qd{l:List (Option Addr)}(h:IZ l)(i j:Nat)(hij:i<j)(hj:j<l.length):QR (l[i]' zb) l[j]:=List.pairwise_iff_getElem.1 h i j zb hj hij
theorem Qj{w w5:World}{B k n m c m' c':Nat}{e:TypeId}{A A0:Option Addr}{xs:List Value}(h:w.ownsRow B e k (.slice A m c) n xs)(hg:w.grownBy w5 (Value.slice A0 m' c').ownBlock)(ha:QR A0 A):w5.ownsRow B e k (.slice A m c) n xs:=
 Xe h hg (fun b hb hv=>by
  obtain⟨p,e1,e2⟩:=ZI hb;obtain⟨q,e3,e4⟩:=ZI hv;exact ha p q e1 e3 (e2.trans e4.symm))
theorem zQ.set_tags{B g:Nat}{y:Dm}{w w5:World}{l':List ze}{A':Option Addr}{c':Nat}(h:qs B w g y)(hg:w.grownBy w5 (Value.slice y.tags.A y.tags.l.length y.tags.c).ownBlock)(ho:w5.ownsRow B qe 1 (.slice A' l'.length c') l'.length (cellsOf zE l'))(hA:∀p,A'=some p->w.heap.size<=p.block∨∃q,y.tags.A=some q/\q.block=p.block):zQ B g y w {y with tags:=⟨A',c',l'⟩} (w5.setCell ⟨g,1,none⟩ (.slice A' l'.length c')):=by
 have hlt:=zh h.box;have hmem:y.tags.A∈y.as:=ZD;have hbox:w5.heap[g]? =some (.cells (zD y) XQ (0,0)):=(hg.block g hlt (fun e=>by
  obtain⟨p,e1,e2⟩:=ZI e.symm;exact h.off _ hmem p e1 e2)).trans h.box
 have hA2:∀p,A'=some p->w.heap.size<=p.block∨∃q,y.as[1]? =some (some q)/\q.block=p.block:=fun p e=>(hA p e).imp id fun⟨q,h1,h2⟩=>⟨q,congrArg some h1,h2⟩;have hr:ZC B w5 {y with tags:=⟨A',c',l'⟩}:=⟨Qj h.rows.pr hg (QR.symm (Qd h.rows.ne 0 1 zi (by show 1<6;decide))),ho,Qj h.rows.lk hg (Qd h.rows.ne 1 2 zi jD),Qj h.rows.rn hg (Qd h.rows.ne 1 3 zi Ij),Qj h.rows.ld hg (Qd h.rows.ne 1 4 zi Ke),Qj h.rows.cl hg (Qd h.rows.ne 1 5 zi kq),Kr w.heap.size A' y.as 1 h.rows.ne h.rows.lt hA2⟩;have hn:∀b,(∀a∈y.as,∀p,a=some p->p.block≠b)->some b≠(Value.slice y.tags.A y.tags.l.length y.tags.c).ownBlock:=fun b hb e=>IC;have hB:=Nat.le_trans h.lo (Nat.le_of_lt hlt);have hb5:Below B w w5:=(Below.refl B w).grown hg hB (fun j e=>by
  obtain⟨p,e1,e2⟩:=ZI e;rw[<-e2];exact(qp h.rows.tg p e1).1)
 have h5:qs B w5 g y∨True:=Or.inr trivial;clear h5;have hoff:=KZ (i:=1) h.off hlt hA2;refine⟨⟨Uo hbox _,⟨qY hr.pr (hoff _ ?_),qY hr.tg (hoff _ ?_),qY hr.lk (hoff _ ?_),qY hr.rn (hoff _ ?_),qY hr.ld (hoff _ ?_),qY hr.cl (hoff _ ?_),hr.ne⟩,hoff,h.lo⟩,⟨fun b hb' hg' hn'=>?_,?_,fun a ha p e=>?_⟩,Ky hb5 (Nat.le_trans hB hg.size) h.lo⟩
 · exact ZD
 · exact ZD
 · exact ZD
 · exact ZD
 · exact ZD
 · exact ZD
 · exact J7
 · exact IF
 · have hs:({y with tags:=⟨A',c',l'⟩}:Dm).as=y.as.set 1 A':=rfl;exact Gw
theorem zQ.set_links{B g:Nat}{y:Dm}{w w5:World}{l':List ze}{A':Option Addr}{c':Nat}(h:qs B w g y)(hg:w.grownBy w5 (Value.slice y.links.A y.links.l.length y.links.c).ownBlock)(ho:w5.ownsRow B qe 1 (.slice A' l'.length c') l'.length (cellsOf zE l'))(hA:∀p,A'=some p->w.heap.size<=p.block∨∃q,y.links.A=some q/\q.block=p.block):zQ B g y w {y with links:=⟨A',c',l'⟩} (w5.setCell ⟨g,2,none⟩ (.slice A' l'.length c')):=by
 have hlt:=zh h.box;have hmem:y.links.A∈y.as:=ZD;have hbox:w5.heap[g]? =some (.cells (zD y) XQ (0,0)):=(hg.block g hlt (fun e=>by
  obtain⟨p,e1,e2⟩:=ZI e.symm;exact h.off _ hmem p e1 e2)).trans h.box
 have hA2:∀p,A'=some p->w.heap.size<=p.block∨∃q,y.as[2]? =some (some q)/\q.block=p.block:=fun p e=>(hA p e).imp id fun⟨q,h1,h2⟩=>⟨q,congrArg some h1,h2⟩;have hr:ZC B w5 {y with links:=⟨A',c',l'⟩}:=⟨Qj h.rows.pr hg (QR.symm (Qd h.rows.ne 0 2 zi jD)),Qj h.rows.tg hg (QR.symm (Qd h.rows.ne 1 2 zi jD)),ho,Qj h.rows.rn hg (Qd h.rows.ne 2 3 zi Ij),Qj h.rows.ld hg (Qd h.rows.ne 2 4 zi Ke),Qj h.rows.cl hg (Qd h.rows.ne 2 5 zi kq),Kr w.heap.size A' y.as 2 h.rows.ne h.rows.lt hA2⟩;have hn:∀b,(∀a∈y.as,∀p,a=some p->p.block≠b)->some b≠(Value.slice y.links.A y.links.l.length y.links.c).ownBlock:=fun b hb e=>IC;have hB:=Nat.le_trans h.lo (Nat.le_of_lt hlt);have hb5:Below B w w5:=(Below.refl B w).grown hg hB (fun j e=>by
  obtain⟨p,e1,e2⟩:=ZI e;rw[<-e2];exact(qp h.rows.lk p e1).1)
 have h5:qs B w5 g y∨True:=Or.inr trivial;clear h5;have hoff:=KZ (i:=2) h.off hlt hA2;refine⟨⟨Uo hbox _,⟨qY hr.pr (hoff _ ?_),qY hr.tg (hoff _ ?_),qY hr.lk (hoff _ ?_),qY hr.rn (hoff _ ?_),qY hr.ld (hoff _ ?_),qY hr.cl (hoff _ ?_),hr.ne⟩,hoff,h.lo⟩,⟨fun b hb' hg' hn'=>?_,?_,fun a ha p e=>?_⟩,Ky hb5 (Nat.le_trans hB hg.size) h.lo⟩
 · exact ZD
 · exact ZD
 · exact ZD
 · exact ZD
 · exact ZD
 · exact ZD
 · exact J7
 · exact IF
 · have hs:({y with links:=⟨A',c',l'⟩}:Dm).as=y.as.set 2 A':=rfl;exact Gw
theorem zQ.set_run{B g:Nat}{y:Dm}{w w5:World}{l':List ze}{A':Option Addr}{c':Nat}(h:qs B w g y)(hg:w.grownBy w5 (Value.slice y.run.A y.run.l.length y.run.c).ownBlock)(ho:w5.ownsRow B qe 1 (.slice A' l'.length c') l'.length (cellsOf zE l'))(hA:∀p,A'=some p->w.heap.size<=p.block∨∃q,y.run.A=some q/\q.block=p.block):zQ B g y w {y with run:=⟨A',c',l'⟩} (w5.setCell ⟨g,3,none⟩ (.slice A' l'.length c')):=by
 have hlt:=zh h.box;have hmem:y.run.A∈y.as:=ZD;have hbox:w5.heap[g]? =some (.cells (zD y) XQ (0,0)):=(hg.block g hlt (fun e=>by
  obtain⟨p,e1,e2⟩:=ZI e.symm;exact h.off _ hmem p e1 e2)).trans h.box
 have hA2:∀p,A'=some p->w.heap.size<=p.block∨∃q,y.as[3]? =some (some q)/\q.block=p.block:=fun p e=>(hA p e).imp id fun⟨q,h1,h2⟩=>⟨q,congrArg some h1,h2⟩;have hr:ZC B w5 {y with run:=⟨A',c',l'⟩}:=⟨Qj h.rows.pr hg (QR.symm (Qd h.rows.ne 0 3 zi Ij)),Qj h.rows.tg hg (QR.symm (Qd h.rows.ne 1 3 zi Ij)),Qj h.rows.lk hg (QR.symm (Qd h.rows.ne 2 3 zi Ij)),ho,Qj h.rows.ld hg (Qd h.rows.ne 3 4 zi Ke),Qj h.rows.cl hg (Qd h.rows.ne 3 5 zi kq),Kr w.heap.size A' y.as 3 h.rows.ne h.rows.lt hA2⟩;have hn:∀b,(∀a∈y.as,∀p,a=some p->p.block≠b)->some b≠(Value.slice y.run.A y.run.l.length y.run.c).ownBlock:=fun b hb e=>IC;have hB:=Nat.le_trans h.lo (Nat.le_of_lt hlt);have hb5:Below B w w5:=(Below.refl B w).grown hg hB (fun j e=>by
  obtain⟨p,e1,e2⟩:=ZI e;rw[<-e2];exact(qp h.rows.rn p e1).1)
 have h5:qs B w5 g y∨True:=Or.inr trivial;clear h5;have hoff:=KZ (i:=3) h.off hlt hA2;refine⟨⟨Uo hbox _,⟨qY hr.pr (hoff _ ?_),qY hr.tg (hoff _ ?_),qY hr.lk (hoff _ ?_),qY hr.rn (hoff _ ?_),qY hr.ld (hoff _ ?_),qY hr.cl (hoff _ ?_),hr.ne⟩,hoff,h.lo⟩,⟨fun b hb' hg' hn'=>?_,?_,fun a ha p e=>?_⟩,Ky hb5 (Nat.le_trans hB hg.size) h.lo⟩
 · exact ZD
 · exact ZD
 · exact ZD
 · exact ZD
 · exact ZD
 · exact ZD
 · exact J7
 · exact IF
 · have hs:({y with run:=⟨A',c',l'⟩}:Dm).as=y.as.set 3 A':=rfl;exact Gw
theorem zQ.set_load{B g:Nat}{y:Dm}{w w5:World}{l':List ze}{A':Option Addr}{c':Nat}(h:qs B w g y)(hg:w.grownBy w5 (Value.slice y.load.A y.load.l.length y.load.c).ownBlock)(ho:w5.ownsRow B qe 1 (.slice A' l'.length c') l'.length (cellsOf zE l'))(hA:∀p,A'=some p->w.heap.size<=p.block∨∃q,y.load.A=some q/\q.block=p.block):zQ B g y w {y with load:=⟨A',c',l'⟩} (w5.setCell ⟨g,4,none⟩ (.slice A' l'.length c')):=by
 have hlt:=zh h.box;have hmem:y.load.A∈y.as:=ZD;have hbox:w5.heap[g]? =some (.cells (zD y) XQ (0,0)):=(hg.block g hlt (fun e=>by
  obtain⟨p,e1,e2⟩:=ZI e.symm;exact h.off _ hmem p e1 e2)).trans h.box
 have hA2:∀p,A'=some p->w.heap.size<=p.block∨∃q,y.as[4]? =some (some q)/\q.block=p.block:=fun p e=>(hA p e).imp id fun⟨q,h1,h2⟩=>⟨q,congrArg some h1,h2⟩;have hr:ZC B w5 {y with load:=⟨A',c',l'⟩}:=⟨Qj h.rows.pr hg (QR.symm (Qd h.rows.ne 0 4 zi Ke)),Qj h.rows.tg hg (QR.symm (Qd h.rows.ne 1 4 zi Ke)),Qj h.rows.lk hg (QR.symm (Qd h.rows.ne 2 4 zi Ke)),Qj h.rows.rn hg (QR.symm (Qd h.rows.ne 3 4 zi Ke)),ho,Qj h.rows.cl hg (Qd h.rows.ne 4 5 zi kq),Kr w.heap.size A' y.as 4 h.rows.ne h.rows.lt hA2⟩;have hn:∀b,(∀a∈y.as,∀p,a=some p->p.block≠b)->some b≠(Value.slice y.load.A y.load.l.length y.load.c).ownBlock:=fun b hb e=>IC;have hB:=Nat.le_trans h.lo (Nat.le_of_lt hlt);have hb5:Below B w w5:=(Below.refl B w).grown hg hB (fun j e=>by
  obtain⟨p,e1,e2⟩:=ZI e;rw[<-e2];exact(qp h.rows.ld p e1).1)
 have h5:qs B w5 g y∨True:=Or.inr trivial;clear h5;have hoff:=KZ (i:=4) h.off hlt hA2;refine⟨⟨Uo hbox _,⟨qY hr.pr (hoff _ ?_),qY hr.tg (hoff _ ?_),qY hr.lk (hoff _ ?_),qY hr.rn (hoff _ ?_),qY hr.ld (hoff _ ?_),qY hr.cl (hoff _ ?_),hr.ne⟩,hoff,h.lo⟩,⟨fun b hb' hg' hn'=>?_,?_,fun a ha p e=>?_⟩,Ky hb5 (Nat.le_trans hB hg.size) h.lo⟩
 · exact ZD
 · exact ZD
 · exact ZD
 · exact ZD
 · exact ZD
 · exact ZD
 · exact J7
 · exact IF
 · have hs:({y with load:=⟨A',c',l'⟩}:Dm).as=y.as.set 4 A':=rfl;exact Gw
theorem zQ.set_closed{B g:Nat}{y:Dm}{w w5:World}{l':List Tm}{A':Option Addr}{c':Nat}(h:qs B w g y)(hg:w.grownBy w5 (Value.slice y.closed.A y.closed.l.length y.closed.c).ownBlock)(ho:w5.ownsRow B Nl 4 (.slice A' l'.length c') l'.length (cellsOf zO l'))(hA:∀p,A'=some p->w.heap.size<=p.block∨∃q,y.closed.A=some q/\q.block=p.block):zQ B g y w {y with closed:=⟨A',c',l'⟩} (w5.setCell ⟨g,13,none⟩ (.slice A' l'.length c')):=by
 have hlt:=zh h.box;have hmem:y.closed.A∈y.as:=ZD;have hbox:w5.heap[g]? =some (.cells (zD y) XQ (0,0)):=(hg.block g hlt (fun e=>by
  obtain⟨p,e1,e2⟩:=ZI e.symm;exact h.off _ hmem p e1 e2)).trans h.box
 have hA2:∀p,A'=some p->w.heap.size<=p.block∨∃q,y.as[5]? =some (some q)/\q.block=p.block:=fun p e=>(hA p e).imp id fun⟨q,h1,h2⟩=>⟨q,congrArg some h1,h2⟩;have hr:ZC B w5 {y with closed:=⟨A',c',l'⟩}:=⟨Qj h.rows.pr hg (QR.symm (Qd h.rows.ne 0 5 zi kq)),Qj h.rows.tg hg (QR.symm (Qd h.rows.ne 1 5 zi kq)),Qj h.rows.lk hg (QR.symm (Qd h.rows.ne 2 5 zi kq)),Qj h.rows.rn hg (QR.symm (Qd h.rows.ne 3 5 zi kq)),Qj h.rows.ld hg (QR.symm (Qd h.rows.ne 4 5 zi kq)),ho,Kr w.heap.size A' y.as 5 h.rows.ne h.rows.lt hA2⟩;have hn:∀b,(∀a∈y.as,∀p,a=some p->p.block≠b)->some b≠(Value.slice y.closed.A y.closed.l.length y.closed.c).ownBlock:=fun b hb e=>IC;have hB:=Nat.le_trans h.lo (Nat.le_of_lt hlt);have hb5:Below B w w5:=(Below.refl B w).grown hg hB (fun j e=>by
  obtain⟨p,e1,e2⟩:=ZI e;rw[<-e2];exact(qp h.rows.cl p e1).1)
 have h5:qs B w5 g y∨True:=Or.inr trivial;clear h5;have hoff:=KZ (i:=5) h.off hlt hA2;refine⟨⟨Uo hbox _,⟨qY hr.pr (hoff _ ?_),qY hr.tg (hoff _ ?_),qY hr.lk (hoff _ ?_),qY hr.rn (hoff _ ?_),qY hr.ld (hoff _ ?_),qY hr.cl (hoff _ ?_),hr.ne⟩,hoff,h.lo⟩,⟨fun b hb' hg' hn'=>?_,?_,fun a ha p e=>?_⟩,Ky hb5 (Nat.le_trans hB hg.size) h.lo⟩
 · exact ZD
 · exact ZD
 · exact ZD
 · exact ZD
 · exact ZD
 · exact ZD
 · exact J7
 · exact IF
 · have hs:({y with closed:=⟨A',c',l'⟩}:Dm).as=y.as.set 5 A':=rfl;exact Gw
end
section
open Go.RowKit Go.Maps
theorem Ri{B:Nat}{A:Option Addr}{c:Nat}{l:List ze}(v:ByteArray)(w:World)(h:w.ownsRow B qe 1 (.slice A l.length c) l.length (cellsOf zE l))(hl:l.length<=10000000)(hB:B<=w.heap.size):
 ∃A' c' w',(Z7 #[32,32] 32 #[.slice A l.length c,.slice (some ⟨w.heap.size,0,none⟩) 1 1]).run prog (w.alloc (.cells #[.string v] 9))=.ok (.slice A' (l.length+1) c') w'/\w'.ownsRow B qe 1 (.slice A' (l.length+1) c') (l.length+1) (cellsOf zE (l++[L v]))/\w.grownBy w' (Value.slice A l.length c).ownBlock/\∀p,A'=some p->w.heap.size<=p.block∨∃q,A=some q/\q.block=p.block:=by
 obtain⟨i0,hi0,hz0,hz1,hz2⟩:=info_parts RW;obtain⟨v',w',h1,h2,h3,_,h5⟩:=run_append_own_at (P:=prog) (w.alloc (.cells #[.string v] 9)) B 32 32 9 i0 _ 1 16 underlying32 hi0 hz0 hz1 hz2 rfl zi (.slice A l.length c) l.length _ (qg h zw) ⟨w.heap.size,0,none⟩ 1 1 [.string v] rfl (fun j u hu=>by
  rw[Uc,Nat.zero_add];exact zd (heap_alloc_new w _) NX) qV qh zb (Nat.le_trans hB (zI w _).size)
 rw[Qh]at h1;obtain⟨NA,nc,rfl⟩:=Z1 h2;have hc:cellsOf zE (l++[L v])=cellsOf zE l++[.string v]:=OD;refine⟨NA,nc,w',h1,JG,(zF (zI w _) _).trans h3,fun p hp=>?_⟩;have hpb:(Value.slice NA (l.length+1) nc).ownBlock=some p.block:=Kn;rcases h5 with k|k
 · exact Ju
 · rw[hpb]at k;have:=zx k;have:=(zI w (.cells #[.string v] 9)).size;exact kA
attribute [local go_sem ↓] Qh
theorem zae(B g:Nat)(y:Dm)(op:Int)(v:ByteArray)(w:World)(h:qs B w g y)(hl:y.run.l.length<=1000)(hv:v.size<=1000000):
 Calls prog 176 #[.pointer (some ⟨g,0,none⟩),.int .i64 op,.string v] w (qB B g y w (JP y.d op v)):=by
 have hT:=fun W=>Do v W zb;have hE:JP y.d op v={y.d with run:=if Uu v&&decide ((if op=4 then y.run.l else []).length<16)then(if op=4 then y.run.l else [])++[L v]else(if op=4 then y.run.l else [])}:=rfl;rw[hE];clear hE;have hb0:=h.box;have q0:=(ZG hb0).2.2.2.1;have f0:=qb hb0 3;have HH:=za h;clear h hb0;have hgB:∀{w1:World} {y1:Dm},qs B w1 g y1->B<=w1.heap.size:=fun e=>Nat.le_trans e.lo (Nat.le_of_lt (zh e.box));by_cases ho:op=4
 · subst ho;rw[if_pos rfl];have h:=HH.out;cases hf:Uu v with
   | false=>
     simp only[hf]at hT;have HT:=za hT;clear hT hf;rw[Bool.false_and,if_neg zi];exact Lc
   | true=>
     simp only[hf]at hT;have HT:=za hT;clear hT hf;rw[Bool.true_and];by_cases hn:y.run.l.length<16
     · rw[if_pos (decide_eq_true hn)];have hni:((y.run.l.length:Nat):Int)<16:=zb;obtain⟨A5,c5,w5,hap,hown,hgr,hA5⟩:=Ri (A:=y.run.A) (c:=y.run.c) (l:=y.run.l) v w h.rows.rn zb (hgB h);have hbx:w5.heap[g]? =some (.cells (zD y) XQ (0,0)):=(hgr.block g (zh h.box) (fun e=>by
        obtain⟨p,e1,e2⟩:=ZI e.symm;exact h.off _ ZD p e1 e2)).trans h.box
       have q5:=(ZG hbx).2.2.2.1;have f5:=qb hbx 3;have HEnd:=za (zQ.set_run (l':=y.run.l++[L v]) (A':=A5) (c':=c5) h hgr (by rw[show(y.run.l++[L v]).length=y.run.l.length+1 from by simp];exact hown) hA5);rw[show(y.run.l++[L v]).length=y.run.l.length+1 from by simp]at HEnd;clear hown hgr hA5 hbx;clear h;go_enter func176,ntmps176;go_wp2_with (go_at_call 177;refine(HT.out _).mono ?_;rintro e w2 ⟨rfl,rfl⟩)
       refine bodyPost_ret (v:=.tuple #[]) (results_none rfl _ _ _) rfl ?_;exact HEnd.out.p rfl
     · rw[if_neg (by simpa using hn)];have hni:¬((y.run.l.length:Nat):Int)<16:=zb;clear h;exact Lc
 · rw [if_neg ho];have h1:zQ B g y w {y with run:=⟨none,0,[]⟩} (w.setCell ⟨g,3,none⟩ (.slice none 0 0)):=zQ.set_run (l':=[]) (A':=none) (c':=0) HH.out (JE _ _) (World.ownsRow_nil _ _ _ _) (fun p e=>Zr);obtain⟨w1,hw1⟩:∃W,w.setCell ⟨g,3,none⟩ (.slice none 0 0)=W:=⟨_,rfl⟩;rw[hw1]at h1;have h:=h1.ed;have H1:=za h1;have q1:w1.cell? ⟨g,3,none⟩=some (.slice none 0 0):=(ZG h.box).2.2.2.1;clear h1;cases hf:Uu v with
   | false=>
     simp only[hf]at hT;have HT:=za hT;clear hT hf h;rw[Bool.false_and,if_neg zi];go_enter func176,ntmps176;go_upto_region 2 with fail
     try rw[hw1]
     clear q0 f0 hw1;go_wp2_with (go_at_call 177;refine(HT.out _).mono ?_;rintro e w2 ⟨rfl,rfl⟩)
     refine bodyPost_ret (v:=.tuple #[]) (results_none rfl _ _ _) rfl ?_;exact H1.out.p rfl
   | true=>
     simp only[hf]at hT;have HT:=za hT;clear hT hf;rw[Bool.true_and,if_pos zi];obtain⟨A5,c5,w5,hap,hown,hgr,hA5⟩:=Ri (A:=none) (c:=0) (l:=([]:List ze)) v w1 h.rows.rn zl (hgB h);have hbx:w5.heap[g]? =some (.cells (zD {y with run:=⟨none,0,[]⟩}) XQ (0,0)):=(hgr.block g (zh h.box) (fun e=>by
      obtain⟨p,e1,e2⟩:=ZI e.symm;exact h.off _ ZD p e1 e2)).trans h.box
     have q5:=(ZG hbx).2.2.2.1;have f5:=qb hbx 3;have HEnd:=za (zQ.set_run (l':=([]:List ze)++[L v]) (A':=A5) (c':=c5) h hgr (by rw[show(([]:List ze)++[L v]).length=([]:List ze).length+1 from by simp];exact hown) hA5);rw[show(([]:List ze)++[L v]).length=([]:List ze).length+1 from by simp]at HEnd;clear hown hgr hA5 hbx;have hap1:(Z7 #[32,32] 32 #[.slice none 0 0,.slice (some ⟨w1.heap.size,0,none⟩) 1 1]).run prog (w1.alloc (.cells #[.string v] 9))=.ok (.slice A5 1 c5) w5:=hap;clear hap h;go_enter func176,ntmps176;go_upto_region 2 with fail
     try rw[hw1]
     clear q0 f0 hw1;go_wp2_with (go_at_call 177;refine(HT.out _).mono ?_;rintro e w2 ⟨rfl,rfl⟩)
     refine bodyPost_ret (v:=.tuple #[]) (results_none rfl _ _ _) rfl ?_;exact(H1.out.trans HEnd.out).p rfl
end
section
open Go.RowKit
def Vt(s:ByteArray)(k:Nat):ByteArray:=bs (UC ((L s).take k)++(L s).drop k)
def UM:Nat->Bool:=qv Qz [47]
def MK(b:UInt8):UInt8:=if UM b.toNat then b else 95
theorem kT(s:ByteArray)(k:Nat):(Vt s k).size=s.size:=by
 unfold Vt UC;rw[Zc,List.length_append,List.length_map,<-List.length_append,List.take_append_drop,zC]
theorem FU(s:ByteArray):Vt s s.size=bs (UC (L s)):=by
 unfold Vt;rw[List.take_of_length_le VO,List.drop_of_length_le VO,List.append_nil]
theorem NG(s:ByteArray){i:Nat}(h:i<s.size):(L s)[i]? =some s[i]:=byte_at s i h
theorem zjq(s:ByteArray)(k i:Nat)(hi:i<s.size):(L (Vt s k))[i]? =some (if i<k then MK s[i]else s[i]):=by
 have hl:i<(L s).length:=by rw[zC];exact hi
 unfold Vt UC;rw[qr,List.getElem?_append];by_cases h:i<k
 · rw[if_pos h,if_pos Ek,List.getElem?_map,List.getElem?_take,if_pos h,NG s hi];rfl
 · rw[if_neg h];have h2:¬i<(((L s).take k).map fun b=>if qv Qz [47] b.toNat then b else 95).length:=Ek;rw[if_neg h2,List.length_map,List.length_take,List.getElem?_drop];have e:k+(i - min k (L s).length)=i:=zb;rw[e,NG s hi]
theorem JQ(s:ByteArray)(k i:Nat)(hi:i<s.size)(h2:i<(Vt s k).size):(Vt s k)[i]=if i<k then MK s[i]else s[i]:=by
 have h1:=zjq s k i hi;rw[NG _ h2]at h1;exact zx h1
structure Vq(W:World)(G B:Nat)(s:ByteArray)(k:Nat)(wr:World):Prop where
 by_:Lib.Bytes wr B 0 (Vt s k)
 fr:∀j,j<s.size->wr.frozen? ⟨B,j,none⟩=false
 set_:wr.heap[G]? =some (.cells (setA UM) 259 (0,0))
 bel:Below W.heap.size W wr
 bs:B<wr.heap.size
theorem Vq.cell{W:World}{G B:Nat}{s:ByteArray}{k:Nat}{wr:World}(h:Vq W G B s k wr)(hk:k<s.size):wr.cell? ⟨B,k,none⟩=some (.int .u8 (s[k].toNat:Int)):=by
 have h1:=h.by_ k (by rw[kT];exact hk);rw[Nat.zero_add,JQ s k k hk,if_neg (Nat.lt_irrefl k)]at h1;exact h1
theorem Vq.keep{W:World}{G B:Nat}{s:ByteArray}{k:Nat}{wr:World}(h:Vq W G B s k wr)(hk:k<s.size)(hg:UM s[k].toNat=true):Vq W G B s (k+1) wr:=by
 refine⟨fun i hi=>?_,h.fr,h.set_,h.bel,h.bs⟩;rw[kT]at hi;have h1:=h.by_ i (by rw[kT];exact hi);rw[h1,JQ s k i hi,JQ s (k+1) i hi];by_cases e:i<k
 · rw[if_pos e,if_pos zb]
 · rw[if_neg e];by_cases e2:i=k
   · subst e2;rw[if_pos zb];unfold MK;rw[if_pos hg]
   · rw[if_neg zb]
theorem Vq.put{W:World}{G B:Nat}{s:ByteArray}{k:Nat}{wr:World}(h:Vq W G B s k wr)(hk:k<s.size)(hg:UM s[k].toNat=false)(hGB:G≠B)(hB:W.heap.size<=B):Vq W G B s (k+1) (wr.setCell ⟨B,k,none⟩ (.int .u8 95)):=by
 have hsz:(wr.setCell ⟨B,k,none⟩ (.int .u8 95)).heap.size=wr.heap.size:=Md;refine⟨fun i hi=>?_,fun j hj=>?_,?_,ZF h.bel hB,by rw[hsz];exact h.bs⟩
 · rw[kT]at hi;have h1:=h.by_ i (by rw[kT];exact hi);rw[Nat.zero_add]at h1⊢;rw[JQ s (k+1) i hi];by_cases e2:i=k
   · subst e2;rw[World.cell?_setCell_same _ _ _ h1,if_pos zb];unfold MK;rw[hg];rfl
   · rw[World.cell?_setCell_other _ _ _ _ (fun e=>e2 (by injection e with _ e;exact e.symm)),h1,JQ s k i hi];by_cases e:i<k
     · rw[if_pos e,if_pos zb]
     · rw[if_neg e,if_neg zb]
 · rw[World.frozen?_setCell];exact h.fr j hj
 · rw[heap_setCell_other _ _ _ _ hGB];exact h.set_
theorem jS(w:World)(t:ByteArray):Below w.heap.size w (Lib.bytesWorld w 5 t):=⟨rfl,rfl,rfl,PM,fun k hk=>Lib.bytesWorld_at_old _ _ _ _ hk⟩
theorem zhB(s:ByteArray)(G:Nat)(w W:World)(hb:Below w.heap.size w W)(hG:G<W.heap.size)(hs:W.heap[G]? =some (.cells (setA UM) 259 (0,0))):Vq w G W.heap.size s 0 (Lib.bytesWorld W 5 s):=by
 refine⟨fun i hi=>?_,fun j hj=>?_,((jS W s).block G hG).trans hs,bt hb (jS W s),PM⟩
 · rw[kT]at hi;rw[Nat.zero_add,Lib.bytesWorld_cell W _ s i hi,JQ s 0 i hi,if_neg (Nat.not_lt_zero i)]
   congr 2
   have:=NG s hi;show(((L s).getD i 0).toNat:Int)=_;rw[List.getD,this];rfl
 · have h1:s.size<=(Lib.bytesCells W 5 s).size:=by unfold Lib.bytesCells;simp
   unfold World.frozen?;rw[Lib.bytesWorld_at_new];simp;omega
theorem zdE{w:World}{G:Nat}{f:Nat->Bool}(h:w.heap[G]? =some (.cells (setA f) 259 (0,0))){c:Nat}(hc:c<256):w.cell? ⟨G,c,none⟩=some (.bool (f c)):=by
 rw[cell_of_row _ _ c _ _ _ h,Kh f c hc]
theorem Rs(M:Nat)(l:List ze)(h:∀x∈l,x.length<=M):(Lib.join l [47]).length<=l.length*(M+1):=by
 induction l with
 |nil=>simp[Lib.join]
 | cons x l ih=>
   have h1:=h x zl;have h2:=ih (fun y hy=>h y (by simp[hy]));cases l with
   |nil=>simp[Lib.join]at h2⊢;omega
   | cons y l=>
     have hj:Lib.join (x::y::l) [47]=x++([47]++Lib.join (y::l) [47]):=Pu;exact Lm
theorem zg1(l:List ze):cellsOf zE l=(l.map bs).map Value.string:=E2
theorem jX(W:World)(base:Nat)(v:Value)(xs:List ze)(M:Nat)(hn:xs.length<=M)(hM:M<=4294967)(hx:∀x∈xs,x.length<=M)(h:W.ownsRow base 9 1 v xs.length (cellsOf zE xs)):
 Calls prog 64 #[v,.string ⟨#[47]⟩] W fun e w'=>e=.returned (.string (bs (Lib.join xs [47])))/\Below W.heap.size W w':=by
 rw[zg1]at h;have hjl:=Rs M xs hx;have hmul:xs.length*(M+1)<=140737488355328:=Nat.le_trans (Nat.mul_le_mul hn (Nat.le_refl (M+1))) (Nat.le_trans (Nat.mul_le_mul hM (Nat.succ_le_succ hM)) zi);cases xs with
 | nil=>
   rcases h.2 with⟨rfl,_⟩|⟨g,cap,cur,rfl,_⟩
   · exact(strings_Join_none none 0 ⟨#[47]⟩ W).mono fun e w' h=>⟨h.1,Og⟩
   · exact(strings_Join_none (some ⟨g,0,none⟩) cap ⟨#[47]⟩ W).mono fun e w' h=>⟨h.1,Og⟩
 | cons x xs=>
   have hl:(((x::xs).map bs).map (·.data.toList))=x::xs:=FJ;rcases h.2 with⟨_,h0⟩|⟨g,cap,cur,rfl,hb,hgg,hroom,_,_,_⟩
   · simp at h0
   · have hc:∀(j:Nat) (y:ByteArray),((x::xs).map bs)[j]? =some y->W.cell? ⟨g,0+j,none⟩=some (.string y):=fun j y hy=>CX;have hJ:=strings_Join g 0 cap ((x::xs).map bs) ⟨#[47]⟩ W hc (YL hgg) (by rw[List.length_map];omega) F2 j7;rw[hl,List.length_map]at hJ;exact hJ
def QH(ps:List ByteArray)(k:Nat):List ze:=((ps.take k).map L).filter kL
theorem zcG(ps:List ByteArray){k:Nat}(hk:k<ps.length):QH ps (k+1)=QH ps k++(if kL (L ps[k])then [L ps[k]]else []):=by
 unfold QH;rw[List.take_succ_eq_append_getElem hk,List.map_append,List.filter_append]
 congr 1
 rw[List.map_singleton,List.filter_cons,List.filter_nil]
theorem DD(ps:List ByteArray)(k:Nat):(QH ps k).length<=k:=by
 unfold QH;refine Nat.le_trans (List.length_filter_le _ _) ?_;exact Ek
theorem vV{ps:List ByteArray}{M:Nat}(h:∀x∈ps,x.size<=M)(k:Nat):∀x∈QH ps k,x.length<=M:=fun x hx=>by
 obtain⟨h1,_⟩:=List.mem_filter.1 hx;obtain⟨y,hy,rfl⟩:=List.mem_map.1 h1;rw[zC];exact h y (List.mem_of_mem_take hy)
attribute [local go_sem ↓] Qh
def GT:Option ByteArray->Value
 |some t=>.tuple #[.string t,.bool true]
 |none=>.tuple #[.string ⟨#[]⟩,.bool false]
theorem P5 (s:ByteArray)(w:World)(hE:Env0 w)(hs:s.size<=1000000):
 Calls prog 218 #[.string s] w fun e w'=>e=.returned (GT (JA s))/\Below w.heap.size w w':=by
 have Hi:=za (zero_of_info kW).2;have HSz:=za (Xf UM);have HS1:=za (Gb UM);have HPt:=za Hy;have HPl:Hid (∀W,Calls prog 189 #[.agg (setA Qz),.string ⟨#[47]⟩] W fun e w'=>e=.returned (.agg (setA UM))/\Below W.heap.size W w'):=za fun W=>kc Qz ⟨#[47]⟩ W zi;have HNw:Hid (∀w2:World,_/\_):=za fun w2=>F5 (w2:=w2) (f:=UM);have hcv:=fun W=>Lib.run_convert_string_bytes (P:=prog) W 9 146 5 s (u:=.string) underlying9 underlying146 underlying5;have HEn:=za hE;clear hE;generalize hS:setA UM=S at*;generalize setA Qz=S0 at*;have HSd:=za hS;clear hS;go_enter func218,ntmps218;go_upto_region 2 with(first
  |(go_at_call 244;refine(HPt.out _).mono ?_;rintro e w1 ⟨rfl,hb1⟩;have HB1:=za hb1;clear hb1)
  |(go_at_call 189;refine(HPl.out _).mono ?_;rintro e w2 ⟨rfl,hb2⟩;have HB2:=za (bt HB1.out hb2);clear hb2)
  |(refine wpList_store_row rfl 259 _ _ rfl _ _ rfl rfl _ _ qA GM TN HS1.out ?_))
 obtain⟨hG,hbG⟩:=HNw.out w2;generalize hW3:(w2.alloc (.cells zeroCells259 259)).setRow w2.heap.size S=W3 at*;have hs3:w2.heap.size<W3.heap.size:=by rw[<-hW3];simp
 have HG:=za hG;have HS3:=za hs3;have HB3:=za (bt HB2.out hbG);clear hW3 hG hbG hs3;have hcv3:=hcv W3;clear hcv;go_upto_region 3 with fail
 obtain⟨W4,hW4⟩:∃W4,Lib.bytesWorld W3 5 s=W4:=⟨_,rfl⟩;have hT:=zhB s w2.heap.size w W3 HB3.out HS3.out (by rw[HSd.out];exact HG.out);rw[hW4]at hT⊢;have HT:=za hT;have HNe:=za (show w2.heap.size≠W3.heap.size by have:=HS3.out;omega);have HLe:=za (show w.heap.size<=W3.heap.size from HB3.out.size);clear hT hW4 hcv3;obtain⟨cp,hcp⟩:∃cp,grownCap W3 s.size 0 5=cp:=⟨_,rfl⟩;rw[hcp];clear hcp;go_wp2;go_loopg [6,7,18] s.size (fun gk _ _ i wr=>∃k:Nat,i=.int .i64 k/\k<=s.size/\k+gk=s.size/\Hid (Vq w w2.heap.size W3.heap.size s k wr))
 case atStart=>exact⟨0,rfl,Nat.zero_le _,zb,HT⟩
 case round =>
  obtain⟨k,rfl,hk,hkg,HK⟩:=hrel;by_cases hlt:k<s.size
  · have hb:(s[k].toNat:Int)<256:=by have:=s[k].toNat_lt;omega
    have hc:=HK.out.cell hlt;have hf:=HK.out.fr k hlt;have hset:=zdE HK.out.set_ (c:=s[k].toNat) zb;cases hg:UM s[k].toNat with
    | true=>
      rw[hg]at hset;have HN:=HK.out.keep hlt hg;exact DM
    | false=>
      rw[hg]at hset;have HN:=HK.out.put hlt hg HNe.out HLe.out;exact DM
  · obtain rfl:k=s.size:=by omega
    have hb0:=HK.out.bel;have hcs:=Lib.run_convert_whole (P:=prog) wr 146 5 9 underlying146 underlying5 underlying9 W3.heap.size 0 (Vt s s.size) HK.out.by_ cp;rw[kT,FU]at hcs;have hTs:(bs (UC (L s))).size=s.size:=by rw[<-FU,kT]
    have HSp:=za (AU (bs (UC (L s))) wr (HEn.out.go hb0) zb);have HpL:=za (GN (bs (UC (L s))) 47);have HpM:=za (N2 (bs (UC (L s))) 47);have HTs:=za hTs;have hE3:VT s=bs (Lib.join (QH (Zf 47 (bs (UC (L s)))) (Zf 47 (bs (UC (L s)))).length) [47]):=by
     unfold QH VT;rw[List.take_length]
    have HE3:=za hE3;have HB0:=za hb0;clear hE3 hTs hb0 HK;generalize bs (UC (L s))=T at*;generalize Zf 47 T=ps at*;obtain⟨W5,hW5⟩:∃W5,W5=wr:=⟨_,rfl⟩;subst hW5;go_wp2_with (go_at_call 101;refine HSp.out.mono ?_;rintro e w6 ⟨rfl,rfl⟩)
    generalize hN:ps.length=N at*;have HN:=za hN;clear hN hcs;have HR0:=za (M7 W5 ps);generalize hW6:W5.alloc (.cells (ps.map Value.string).toArray 9)=W6 at*;have HB6:=za (show Below w.heap.size w W6 by rw[<-hW6];exact bt HB0.out zw);have HS6:=za (show W6.heap.size=W5.heap.size+1 by rw[<-hW6];simp);clear hW6;go_loopg [8,10,35] N (fun gk v _ i wl=>∃(k:Nat) (A:Option Addr) (c:Nat),i=.int .i64 k/\k<=N/\k+gk=N/\v=.slice A (QH ps k).length c/\Hid (wl.ownsRow W6.heap.size qe 1 (.slice A (QH ps k).length c) (QH ps k).length (cellsOf zE (QH ps k)))/\Hid (Below W6.heap.size W6 wl))
    case atStart=>exact⟨0,none,0,rfl,Nat.zero_le _,zb,rfl,za (World.ownsRow_nil _ _ _ _),za zk⟩
    case round=>
     obtain⟨k,A,c,rfl,hk,hkg,rfl,HO,HB⟩:=hrel;by_cases hlt:k<N
     · have hlt':k<ps.length:=by rw[HN.out];exact hlt
       have hrow:=HR0.out;rw[<-HS6.out]at hrow;obtain⟨ba,off,ea,hc⟩:=Kv (B:=W6.heap.size) hrow HB.out hlt';have hsc:=zcG ps hlt';have hkl:(QH ps k).length<=10000000:=Aq;injection ea with ea
       injection ea with ea1 ea2
       subst ea1 ea2;rw[Nat.zero_add]at hc;have hNs:N<=1000001:=jT;have hwl:W5.heap.size<wr.heap.size:=by have:=HB.out.size;have:=HS6.out;omega
       generalize ps[k]=x at*;have HSc:=za hsc;clear hsc hrow;by_cases h0:x.toList=[]
       · have hkp:kL (L x)=false:=by rw[K9 h0];rfl
         exact yC
       · have h0':x.toList.isEmpty=false:=by rw[tl];exact Xq h0
         by_cases h1:x.toList=[46]
         · have hkp:kL (L x)=false:=by unfold kL;rw[<-tl,h1];rfl
           exact yC
         · have hkp:kL (L x)=true:=by
            unfold kL;rw[<-tl,h0'];exact Jz
           obtain⟨A5,c5,w5,hap,hown,hgr,_⟩:=Ri (A:=A) (c:=c) (l:=QH ps k) x wr HO.out zb HB.out.size;have e:=HSc.out;rw[hkp,if_pos rfl]at e;have HE5:=za e;have hb5:Below W6.heap.size W6 w5:=(HB.out).grown hgr HB.out.size (fun j ej=>by
            obtain⟨p,e1,e2⟩:=ZI ej;rw[<-e2];exact(qp HO.out p e1).1)
           have HO5:=za hown;have HB5:=za hb5;clear hown hgr hb5 e hkp;have h1b:(x.toList==[46])=false:=Jz;go_wp2;go_roundg (gk - 1)
           case measure=>omega
           case rel=>
            have hl5:(QH ps (k+1)).length=(QH ps k).length+1:=by rw[HE5.out];simp
            exact yR
     · obtain rfl:k=N:=by omega
       have hO:=HO.out;have HJ:=za (jX wr W6.heap.size (.slice A (QH ps k).length c) (QH ps k) 1000001 Aq zb (fun x hx=>by have:=vV (M:=T.size) HpM.out k x hx;have:=HTs.out;omega) hO);have hE4:=HE3.out;rw[<-hE4]at HJ;have HBf:=za (bt HB6.out HB.out);have hcl:(VT s).size<=4611686018427387904:=by
        rw[hE4,Zc];have hm:=DD ps k;have h1:=Rs T.size (QH ps k) (vV (M:=T.size) HpM.out k);have h2:(QH ps k).length*(T.size+1)<=1000001*1000001:=Nat.mul_le_mul jT (by have:=HTs.out;omega);omega
       have HLk:=za (fun(W:World) (hW:Below w.heap.size w W)=>zcn (VT s) W (HEn.out.go hW) hcl);have HE5:Hid (JA s=if Gz (VT s)then some (VT s)else none):=za rfl;clear hE4 hO HE3 hcl;generalize (QH ps k).length=m at*;cases hlb:Gz (VT s)with
       | true=>
         exact DA
       | false=>
         exact DA
end
section
open Go.RowKit
theorem BF{w wr:World}{B:Nat}{A:Option Addr}{ds:List Dv}(h:zr w B A 10 ds.length (cellsOf zK ds))(hb:Below B w wr){k:Nat}(hk:k<ds.length):∃ba off,A=some ⟨ba,off,none⟩/\ba<B/\∀i v,(zK ds[k])[i]? =some v->wr.cell? ⟨ba,off+k*10+i,none⟩=some v:=by
 obtain⟨b,off,e,hB,hc⟩:=h.cell XL hk;refine⟨b,off,e,hB,fun i v hv=>?_⟩;rw[hb.cell (p:=⟨b,off+k*10+i,none⟩) hB,Nat.add_assoc];exact hc k ds[k] (List.getElem?_eq_getElem hk) i v hv
def Qy(cs:List Dv):List ze:=cs.reverse.map fun d=>L d.og
theorem Ni(cs:List Dv):(Qy cs).length=cs.length:=by unfold Qy;rw[List.length_map,List.length_reverse]
theorem zaZ(cs:List Dv){k:Nat}(hk:k<cs.length):Qy (cs.drop k)=Qy (cs.drop (k+1))++[L cs[k].og]:=by
 rw[List.drop_eq_getElem_cons hk];unfold Qy;rw[List.reverse_cons,List.map_append];rfl
theorem vG:(prog.info? qe).map (fun i=>(i.zero,i.size,i.bytes))=some (some (.string ⟨#[]⟩),1,16):=zg
theorem zhV(s:ze):∀u∈zE s,u.oneCell'=true:=by
 intro u hu;simp only[zE,List.mem_cons,List.not_mem_nil,or_false]at hu;rw[hu];rfl
theorem zdK{B:Nat}{A:Option Addr}{c:Nat}{l:List ze}(t:ByteArray)(w:World)(h:w.ownsRow B qe 1 (.slice A l.length c) l.length (cellsOf zE l))(hl:l.length<=1000000)(hB:B<=w.heap.size):
 ∃A' c' w',(Z7 #[32,32] 32 #[.slice A l.length c,.slice (some ⟨w.heap.size,0,none⟩) 1 1]).run prog (w.alloc (.cells #[.string t] qe))=.ok (.slice A' (l.length+1) c') w'/\w'.ownsRow B qe 1 (.slice A' (l.length+1) c') (l.length+1) (cellsOf zE (l++[L t]))/\w.grownBy w' (Value.slice A l.length c).ownBlock/\∀p,A'=some p->w.heap.size<=p.block∨∃q,A=some q/\q.block=p.block:=by
 have h1:=Mm (S:=32) (T:=qe) (k:=1) (b:=16) (enc:=zE) (by exact underlying32) (by exact vG) rfl zi zi (fun _=>rfl) zhV (L t) w h hl hB;have e:(zE (L t)).toArray=#[.string t]:=by unfold zE;rw[Q2]
 rw[e]at h1;exact h1
def NC(cs:List Dv)(w:World)(e:Ending)(w':World):Prop:=∃A' c',e=.returned (.slice A' (Qy cs).length c')/\w'.ownsRow w.heap.size qe 1 (.slice A' (Qy cs).length c') (Qy cs).length (cellsOf zE (Qy cs))/\Below w.heap.size w w'
attribute [local go_sem ↓] Qh
theorem Ey(A:Option Addr)(c:Nat)(ds:List Dv)(n:Int)(w:World)(h:ql w A ds):
 Calls prog 44 #[zU A ds c,.int .i64 n] w (NC (YK ds ds.length n) w):=by
 obtain⟨w1,hw1⟩:∃w1,w.alloc (.cells #[.slice A ds.length c] 30)=w1:=⟨_,rfl⟩;have hb1:Below w.heap.size w w1:=ZQ;have hr1:w1.heap[w.heap.size]? =some (.cells #[.slice A ds.length c] 30 (0,0)):=Qi;have hlen:=h.len;have HC:=za (zeA A c ds n w1 (h.keep hb1));unfold zU at HC;have hcl:=GF ds ds.length n;have c0:=zd (j:=0) hr1 rfl;have hlW:w.heap.size<w1.heap.size:=zh hr1;generalize YK ds ds.length n=cs at*;have HB1:=za hb1;have HW1:=za hw1;clear hb1 hr1 hw1 h;unfold zU;have hclb:cs.length<=1000:=Nat.le_trans hcl hlen;clear hcl hlen;generalize ds.length=N at*;unfold TK at HC;go_enter func44,ntmps44;go_upto_region 1 with fail
 rw[HW1.out];go_wp2_with (go_at_call 63;refine HC.out.mono ?_;rintro e w2 ⟨CA,cc,rfl,hown,hb2⟩;have HO2:=za (zr.of_own hown);have HB2:=za hb2;clear hown hb2 c0)
 go_loopg [5,7] (cs.length+1) (fun gk s5 s7 wr=>∃(k:Nat) (OA:Option Addr) (oc:Nat),s7=.int .i64 ((k:Int) - 1)/\k<=cs.length/\k+1=gk/\s5=.slice OA (Qy (cs.drop k)).length oc/\Hid (wr.ownsRow w2.heap.size qe 1 (.slice OA (Qy (cs.drop k)).length oc) (Qy (cs.drop k)).length (cellsOf zE (Qy (cs.drop k))))/\Hid (Below w2.heap.size w2 wr))
 case atStart=>exact⟨cs.length,none,0,rfl,zo,rfl,by rw[List.drop_length];rfl,by rw[List.drop_length];exact za (World.ownsRow_nil _ _ _ _),za zk⟩
 case round=>
  obtain⟨k,OA,oc,rfl,hk,hkg,rfl,HO,HB⟩:=hrel;by_cases hk0:k=0
  · subst hk0;have HO0:=HO.out;rw[List.drop_zero]at HO0⊢;have HOe:=za HO0;clear HO0;go_wp2;go_ret;exact⟨OA,oc,rfl,Qp HOe.out (bt HB1.out HB2.out).size,bt HB1.out (bt HB2.out HB.out)⟩
  · obtain⟨j,rfl⟩:∃j,k=j+1:=⟨k - 1,zb⟩;have hj:j<cs.length:=zb;have hji:((j+1:Nat):Int) - 1=(j:Int):=zb;rw[hji];obtain⟨ba,off,rfl,hba,hc⟩:=BF HO2.out HB.out hj;have c3:=hc 3 _ rfl;have hj0:(0:Int)<=(j:Int):=zb;have hjI:(j:Int)<(cs.length:Int):=zb;have HD:=za (zaZ cs hj);have hol:(Qy (cs.drop (j+1))).length<=1000:=by rw[Ni,List.length_drop];omega
    have HAp:=za (fun(W:World) (hW:Below wr.heap.size wr W)=>zdK cs[j].og W (qg HO.out hW) zb (Nat.le_trans HB.out.size hW.size));obtain⟨A6,c6,w6,hap,hown,hgr,_⟩:=HAp.out wr zk;have HO6:=za hown;have HB6:=za (HB.out.grown hgr HB.out.size (fun i ej=>by
     obtain⟨p,e1,e2⟩:=ZI ej;have:=qp HO.out p e1;rw[<-e2];exact this.1):Below w2.heap.size w2 w6)
    generalize cs[j].og=og at*;generalize hoo:Qy (cs.drop (j+1))=oo at*;clear hc hown hgr HAp hoo;have hbw:ba<wr.heap.size:=Nat.lt_of_lt_of_le hba HB.out.size;go_wp2;go_roundg (j+1)
    case measure=>omega
    case rel=>
     have hl9:(Qy (cs.drop j)).length=oo.length+1:=by rw[HD.out];simp
     refine⟨j,A6,c6,zP,zb,zb,by rw[hl9],?_,HB6⟩;rw[hl9,HD.out];exact HO6
end
section
open Go.RowKit
theorem Sm{s:ze}{v:Int}(h:Lib.atoiAll s=.ok v):Vi s=if Lib.itoa v==s&&decide (-1000<=v)&&decide (v<=1000)then some v else none:=by unfold Vi;rw[h]
theorem ziZ{s:ze}(h:∀v,Lib.atoiAll s≠.ok v):Vi s=none:=by
 unfold Vi
 split
 · rename_i v hv;exact absurd hv (h v)
 · rfl
def Vv(d:Dr)(v:ByteArray):Dr:=match Vi (L v)with|some n=>{d with prio:=n}|none=>d
theorem zi0(B g:Nat)(y:Dm)(s:ByteArray)(w:World)(h:qs B w g y)(hE:Env w)(hs:s.size<=1000000):
 Calls prog 179 #[.pointer (some ⟨g,0,none⟩),.string s] w (qB B g y w (Vv y.d s)):=by
 have HH:=za h;by_cases hok:∃v,Lib.atoiAll (L s)=.ok v
 · obtain⟨v,hv⟩:=hok;have hr:=Pm _ v hv;have HA:=za (RR s v hv hs w);have HI:=za (fun(W:World) (hW:Below w.heap.size w W)=>G8 v hr.1 hr.2 W (hE.go hW).toEnv0);have hp:=Sm hv;have HF:Hid (∀W,Below w.heap.size w W->W.cell? ⟨g,6,none⟩=some (.int .i64 y.prio)/\W.frozen? ⟨g,6,none⟩=false):=za fun W hW=>by
    have hb:=(HH.out.below hW).box;exact⟨(ZG hb).2.2.2.2.2.2.1,qb hb 6⟩
   have HSame:Hid (Vi (L s)=none->∀W,Below w.heap.size w W->qB B g y w (Vv y.d s) (.returned (.tuple #[])) W):=za fun e W hW=>(zQ.same HH.out hW).p (by unfold Vv;rw[e]);have HSome:Hid (Vi (L s)=some v->∀W,Below w.heap.size w W->qB B g y w (Vv y.d s) (.returned (.tuple #[])) (W.setCell ⟨g,6,none⟩ (.int .i64 v))):=za fun e W hW=>((zQ.same HH.out hW).trans (zQ.scalar (HH.out.below hW) 6 (.int .i64 v) {y with prio:=v} rfl rfl ⟨(HH.out.below hW).rows.pr,(HH.out.below hW).rows.tg,(HH.out.below hW).rows.lk,(HH.out.below hW).rows.rn,(HH.out.below hW).rows.ld,(HH.out.below hW).rows.cl,(HH.out.below hW).rows.ne⟩)).p (by unfold Vv;rw[e];rfl);clear hv h hE;generalize Vv y.d s=D at*;cases he:((bs (Lib.itoa v)).toList==s.toList)
   · have e1:(Lib.itoa v==L s)=false:=by rw[tl,tl,qr]at he;exact he
     rw[e1]at hp;have HN:=za (HSame.out Kn);exact Nm
   · have e1:(Lib.itoa v==L s)=true:=by rw[tl,tl,qr]at he;exact he
     rw[e1,Bool.true_and]at hp;by_cases h1: -1000<=v
     · by_cases h2:v<=1000
       · have HN:=za (HSome.out (by rw[hp,if_pos MO]));exact Nm
       · have HN:=za (HSame.out (by rw[hp,if_neg MO]));exact Nm
     · have HN:=za (HSame.out (by rw[hp,if_neg (by simp[h1])]));exact Nm
 · have hno:∀v,Lib.atoiAll (L s)≠.ok v:=fun v h=>hok ⟨v,h⟩;have HA:=za (L7 s hno hs w hE);have HSame:Hid (∀W,Below w.heap.size w W->qB B g y w (Vv y.d s) (.returned (.tuple #[])) W):=za fun W hW=>(zQ.same HH.out hW).p (by unfold Vv;rw[ziZ hno]);clear hno hok h hE;generalize Vv y.d s=D at*;go_enter func179,ntmps179;go_wp2_with (go_at_call 224;refine HA.out.mono ?_;rintro e w1 ⟨v,T,x,rfl,hb1⟩)
   exact P7
end
section
open Go.RowKit Go.Shelf
def Qo(B:Nat)(A:Option Addr)(c:Nat)(l l':List ze)(w:World)(e:Ending)(w':World):Prop:=∃A' c',e=.returned (.slice A' l'.length c')/\w'.ownsRow B qe 1 (.slice A' l'.length c') l'.length (cellsOf zE l')/\w.grownBy w' (Value.slice A l.length c).ownBlock/\∀p,A'=some p->w.heap.size<=p.block∨∃q,A=some q/\q.block=p.block
abbrev Zh(w:World)(v:ByteArray):World:=w.alloc (.cells #[.string v] 9)
theorem NW(w:World)(v:ByteArray):∀j u,([.string v]:List Value)[j]? =some u->(Zh w v).cell? ⟨w.heap.size,0+j,none⟩=some u:=fun j u hu=>by
 rw[Nat.zero_add];exact zd (heap_alloc_new w _) NX
theorem IP(l:List ze)(v:ByteArray):cellsOf zE (l++[L v])=cellsOf zE l++[.string v]:=OD
theorem zcN{B:Nat}(A:Option Addr)(c:Nat)(l:List ze)(v:ByteArray)(w:World)(h:w.ownsRow B qe 1 (.slice A l.length c) l.length (cellsOf zE l))(hl:l.length<=10000)(hc:c<l.length+1)(hB:B<=w.heap.size):
 Calls prog 223 #[.slice A l.length c,.int .i64 l.length,.slice (some ⟨w.heap.size,0,none⟩) 1 1] (Zh w v) (Qo B A c l (l++[L v]) w):=by
 have hb:=zI w (.cells #[.string v] 9);have h1:=qg h hb;have hLs:=(zA.of_own h1).1;have hcl:(cellsOf zE l).length=l.length:=by have:=h.1;omega
 have hI:=Any2.slices_Insert_string_end_grow Ot A l.length c w.heap.size 0 1 1 (cellsOf zE l) [.string v] (Zh w v) zb hLs.cap hc zb hcl rfl (fun e=>by
  rcases Nat.eq_zero_or_pos l.length with k|k
  · exact k
  · obtain⟨_,_,e2,_⟩:=hLs.row.row.at_ k;rw[e]at e2;cases e2) (fun a ha j u hu=>by
  have hj:0<l.length:=by have:=(List.getElem?_eq_some_iff.1 hu).1;omega
  obtain⟨b,o,e2,_,hcc⟩:=hLs.row.row.at_ hj;rw[ha]at e2;injection e2 with e2
  rw[e2,Uc];exact hcc j u hu) (NW w v) qV
 refine hI.mono ?_;rintro e w' ⟨rfl,rfl⟩;have hlen:(l++[L v]).length=l.length+1:=zl;refine⟨some ⟨(Zh w v).heap.size,0,none⟩,grownCap (Zh w v) (l.length+1) c qe,by rw[hlen];rfl,?_,zF (zR (zV hb)) _,fun p hp=>Or.inl ?_⟩
 · refine⟨by rw[hlen,IP,List.length_append,hcl,List.length_singleton];omega,Or.inr ⟨(Zh w v).heap.size,_,_,rfl,Nat.le_trans hB hb.size,heap_alloc_new (Zh w v).drew _,by rw[hlen];exact grownCap_ge _ _ _ _,grownCap_le_maxLen _ _ _ _ qh,?_,?_⟩⟩
   · have hge:=grownCap_ge (Zh w v) (l.length+1) c qe;have hz:(Value.string ⟨#[]⟩).cells.size=1:=rfl;simp only[Array.size_append,List.size_toArray,List.length_append,List.length_singleton,hcl,Builtin.zeroCells,Array.size_map,Array.size_range,hz];have ht:grownCap (Zh w v) (l.length+1) c (Ms.t 9)=grownCap (Zh w v) (l.length+1) c qe:=rfl;omega
   · rw[hlen,IP,Array.toList_append];exact List.take_left' (by simp[hcl])
 · cases hp
   exact hb.size
theorem D4(cur:Array Value)(cs:List Value)(n i:Nat)(x:Value)(hcur:cur.toList.take n=cs)(hl:cs.length=n)(hi:i<=n)(hsz:n+1<=cur.size):(ZR (ZR cur (i+1) (cs.drop i)) i [x]).toList.take (n+1)=cs.take i++x::cs.drop i:=by
 have hd:(cs.drop i).length=n - i:=by rw[List.length_drop,hl]
 have hc:∀j,j<n->cur[j]? =cs[j]?:=fun j hj=>Cp;apply List.ext_getElem?;intro j;rw[List.getElem?_take,Array.getElem?_toList,Jb _ _ _ _ (by rw[Ki];simp;omega),Jb _ _ _ _ (by rw[hd];omega),hd,List.getElem?_append,List.length_take,hl];have hm:min i n=i:=Nat.min_eq_left hi;rw[hm];by_cases h1:j<i
 · rw[if_pos zb,if_neg zb,if_neg zb,if_pos h1,List.getElem?_take,if_pos h1,hc j zb]
 · by_cases h2:j=i
   · subst h2;rw[if_pos zb,if_pos zl,if_neg zb];simp
   · by_cases h3:j<n+1
     · obtain⟨k,rfl⟩:∃k,j=i+(k+1):=⟨j - i - 1,zb⟩;rw[if_pos h3,if_neg zl,if_pos zb,if_neg zb];exact Ex
     · exact FK
theorem OT{w:World}{B n c:Nat}{T:TypeId}{A:Option Addr}{xs:List Value}(h:w.ownsRow B T 1 (.slice A n c) n xs)(h0:0<c):∃g cur,A=some ⟨g,0,none⟩/\B<=g/\w.heap[g]? =some (.cells cur T (0,0))/\n<=c/\c<=maxLen/\cur.size=c/\cur.toList.take n=xs/\xs.length=n:=by
 rcases h.2 with⟨e,_⟩|⟨g,cap,cur,e,hb,hg,hn,hc,hs,ht⟩
 · injection e with _ _ e3
   omega
 · injection e with e1 e2 e3
   subst e1 e3;exact⟨g,cur,rfl,hb,hg,hn,hc,zb,by rw[<-ht,Nat.mul_one],by have:=h.1;omega⟩
theorem zg0{B:Nat}(A:Option Addr)(c:Nat)(l:List ze)(v:ByteArray)(w:World)(h:w.ownsRow B qe 1 (.slice A l.length c) l.length (cellsOf zE l))(hc:l.length+1<=c):
 Calls prog 223 #[.slice A l.length c,.int .i64 l.length,.slice (some ⟨w.heap.size,0,none⟩) 1 1] (Zh w v) (Qo B A c l (l++[L v]) w):=by
 have hb:=zI w (.cells #[.string v] 9);obtain⟨g,cur,rfl,hB,hg,hn,hcm,hsz,htk,hxl⟩:=OT (qg h hb) zb;have hI:=Any2.slices_Insert_string_end_room Ot g 0 l.length c w.heap.size 0 1 1 [.string v] (Zh w v) zb hc (by unfold maxLen at hcm;omega) rfl (fun j hj=>by
  rw[cell_of_row _ _ _ _ _ _ hg,Array.getElem?_eq_getElem zb];rfl) (fun j hj=>frozen_of_row _ _ _ _ _ hg) (NW w v) qV
 refine hI.mono ?_;rintro e w' ⟨rfl,rfl⟩;have hlen:(l++[L v]).length=l.length+1:=zl;rw[Nat.zero_add,Ks g qe (0,0) _ cur l.length _ zl hg];have ht:=D4 cur (cellsOf zE l) l.length l.length (.string v) htk hxl zo zb;have e1:(cellsOf zE l).take l.length=cellsOf zE l:=List.take_of_length_le (by rw[hxl];exact zo);have e2:(cellsOf zE l).drop l.length=[]:=List.drop_of_length_le (by rw[hxl];exact zo);rw[e1,e2]at ht;refine⟨some ⟨g,0,none⟩,c,by rw[hlen],?_,(zF hb _).trans (qM _ g _),fun p hp=>Or.inr ⟨_,rfl,by cases hp;rfl⟩⟩;refine⟨by rw[hlen,IP,List.length_append,hxl,List.length_singleton];omega,Or.inr ⟨g,c,_,rfl,hB,setRow_heap _ _ _ _ _ _ hg,by rw[hlen];exact hc,hcm,by rw[Ki];omega,?_⟩⟩;rw[hlen,IP,Nat.mul_one];exact ht
theorem jE(l:List ze)(i:Nat)(v:ByteArray):cellsOf zE (l.take i++L v::l.drop i)=(cellsOf zE l).take i++.string v::(cellsOf zE l).drop i:=by
 rw[Ga,Ga,List.map_append,List.map_cons,List.map_take,List.map_drop,Q2]
theorem jY{w:World}{g:Nat}{cs:Array Value}{T:TypeId}{fr:Nat×Nat}(h:w.heap[g]? =some (.cells cs T fr)):w.shape? g=some (T,cs.size):=by
 unfold World.shape?;rw[h]
theorem zdv{B:Nat}(A:Option Addr)(c:Nat)(l:List ze)(i:Nat)(v:ByteArray)(w:World)(h:w.ownsRow B qe 1 (.slice A l.length c) l.length (cellsOf zE l))(hi:i<l.length)(hc:l.length+1<=c):
 Calls prog 223 #[.slice A l.length c,.int .i64 i,.slice (some ⟨w.heap.size,0,none⟩) 1 1] (Zh w v) (Qo B A c l (l.take i++L v::l.drop i) w):=by
 have hb:=zI w (.cells #[.string v] 9);have hlt:=qp h;obtain⟨g,cur,rfl,hB,hg,hn,hcm,hsz,htk,hxl⟩:=OT (qg h hb) zb;have hgl:g<w.heap.size:=(hlt _ rfl).2;have h1v:∀u∈([.string v]:List Value),u.oneCell'=true:=qV;have hI:=Any2.slices_Insert_string_shift Ot g 0 l.length c i w.heap.size 0 1 1 (cellsOf zE l) [.string v] (Zh w v) hi zb hc (by unfold maxLen at hcm;omega) zb hxl rfl (fun j u hu=>by
  rw[Nat.zero_add,cell_of_row _ _ _ _ _ _ hg,<-Array.getElem?_toList];have hj:=(List.getElem?_eq_some_iff.1 hu).1;rw[<-htk,List.getElem?_take,if_pos zb]at hu;exact hu) (fun j hj=>by
  rw[cell_of_row _ _ _ _ _ _ hg,Array.getElem?_eq_getElem zb];rfl) (fun j hj=>frozen_of_row _ _ _ _ _ hg) (NW w v) (fun u hu=>by
  rw[Ga]at hu;obtain⟨x,_,rfl⟩:=List.mem_map.1 hu;rfl) h1v qe qe 1 cur.size (jY (heap_alloc_new w _)) (jY hg) zb (frozen_of_row _ _ _ _ _ (heap_alloc_new w _)) (frozen_of_row _ _ _ _ _ (heap_alloc_new w _))
 refine hI.mono ?_;rintro e w' ⟨rfl,rfl⟩;have hlen:(l.take i++L v::l.drop i).length=l.length+1:=zG;have hne:(cellsOf zE l).drop i≠[]:=fun e=>AZ;have hgd:(Zh w v).drew.heap[g]? =some (.cells cur qe (0,0)):=hg;have hg2:((Zh w v).drew.setRow g (ZR cur (i+1) ((cellsOf zE l).drop i))).heap[g]? =some (.cells (ZR cur (i+1) ((cellsOf zE l).drop i)) qe (0,0)):=setRow_heap _ _ _ _ _ _ hgd;rw[show(0:Nat)+(i+1)=i+1 from by omega,Nat.zero_add,Ks g qe (0,0) _ cur (i+1) _ hne hgd,Ks g qe (0,0) _ _ i _ zl hg2];have ht:=D4 cur (cellsOf zE l) l.length i (.string v) htk hxl zb zb;refine⟨some ⟨g,0,none⟩,c,by rw[hlen],?_,((zF (zV hb) _).trans (qM _ g _)).trans (qM _ g _),fun p hp=>Or.inr ⟨_,rfl,by cases hp;rfl⟩⟩;refine⟨FM,Or.inr ⟨g,c,_,rfl,hB,setRow_heap _ _ _ _ _ _ hg2,by rw[hlen];exact hc,hcm,FR,?_⟩⟩;rw[hlen,jE,Nat.mul_one];exact ht
theorem Bo(cur:Array Value)(cs:List Value)(n i:Nat)(x:Value)(hcur:cur.toList.take i=cs.take i)(hl:cs.length=n)(hi:i<=n)(hsz:n+1<=cur.size):(ZR (ZR cur i [x]) (i+1) (cs.drop i)).toList.take (n+1)=cs.take i++x::cs.drop i:=by
 have hd:(cs.drop i).length=n - i:=by rw[List.length_drop,hl]
 have hc:∀j,j<i->cur[j]? =(cs.take i)[j]?:=fun j hj=>Cp;apply List.ext_getElem?;intro j;rw[List.getElem?_take,Array.getElem?_toList,Jb _ _ _ _ (by rw[Ki,hd];omega),Jb _ _ _ _ zG,hd,List.getElem?_append,List.length_take,hl];have hm:min i n=i:=Nat.min_eq_left hi;rw[hm];by_cases h1:j<i
 · rw[if_pos zb,if_neg zb,if_neg zb,if_pos h1,hc j h1]
 · by_cases h2:j=i
   · subst h2;rw[if_pos zb,if_neg zb,if_pos zl,if_neg zb];simp
   · by_cases h3:j<n+1
     · obtain⟨k,rfl⟩:∃k,j=i+(k+1):=⟨j - i - 1,zb⟩;rw[if_pos h3,if_pos zb,if_neg zb];exact Ex
     · exact FK
theorem zbN{B:Nat}(A:Option Addr)(c:Nat)(l:List ze)(i:Nat)(v:ByteArray)(w:World)(h:w.ownsRow B qe 1 (.slice A l.length c) l.length (cellsOf zE l))(hl:l.length<=10000)(hi:i<l.length)(hc:c<l.length+1)(hBw:B<=w.heap.size):
 Calls prog 223 #[.slice A l.length c,.int .i64 i,.slice (some ⟨w.heap.size,0,none⟩) 1 1] (Zh w v) (Qo B A c l (l.take i++L v::l.drop i) w):=by
 have hb:=zI w (.cells #[.string v] 9);have hcap0:=(zA.of_own h).1.cap;have hcap1:l.length<=c:=hcap0;obtain⟨g,cur,rfl,hB,hg,hn,hcm,hsz,htk,hxl⟩:=OT (qg h hb) zb;have hI:=Any2.slices_Insert_string_grow Ot g 0 l.length c i w.heap.size 0 1 1 (cellsOf zE l) [.string v] (Zh w v) hi zb hn hc zb hxl rfl (fun j u hu=>by
  rw[Nat.zero_add,cell_of_row _ _ _ _ _ _ hg,<-Array.getElem?_toList];have hj:=(List.getElem?_eq_some_iff.1 hu).1;rw[<-htk,List.getElem?_take,if_pos zb]at hu;exact hu) (NW w v) (fun u hu=>by
  rw[Ga]at hu;obtain⟨x,_,rfl⟩:=List.mem_map.1 hu;rfl) qV
 refine hI.mono ?_;rintro e w' ⟨rfl,rfl⟩;have hlen:(l.take i++L v::l.drop i).length=l.length+1:=zG;have hne:(cellsOf zE l).drop i≠[]:=fun e=>AZ;have hge:=grownCap_ge (Zh w v) (l.length+1) c qe;have hz:(Value.string ⟨#[]⟩).cells.size=1:=rfl;obtain⟨cap,hcp⟩:∃cap,grownCap (Zh w v) (l.length+1) c (Ms.t 9)=cap:=⟨_,rfl⟩;have hcp2:grownCap (Zh w v) (l.length+1) c qe=cap:=hcp;rw[hcp2]at hge;have hcmx:cap<=maxLen:=by rw[<-hcp2];exact grownCap_le_maxLen _ _ _ _ qh
 rw[hcp];obtain⟨cur0,hcur0⟩:∃cur0,((cellsOf zE l).take i).toArray++Builtin.zeroCells (Value.string ⟨#[]⟩).cells (l.length+1 - i)++Builtin.zeroCells (Value.string ⟨#[]⟩).cells (cap - (l.length+1))=cur0:=⟨_,rfl⟩;have hs0:cur0.size=cap:=by
  rw[<-hcur0];simp only[Array.size_append,List.size_toArray,List.length_take,hxl,Builtin.zeroCells,Array.size_map,Array.size_range,hz];omega
 have ht0:cur0.toList.take i=(cellsOf zE l).take i:=by
  rw[<-hcur0,Array.toList_append,Array.toList_append,List.append_assoc];exact List.take_left' (by simp[hxl];omega)
 rw[hcur0];have hg1:((Zh w v).alloc (.cells cur0 qe)).drew.heap[(Zh w v).heap.size]? =some (.cells cur0 qe (0,0)):=heap_alloc_new (Zh w v) _;have hg2:(((Zh w v).alloc (.cells cur0 qe)).drew.setRow (Zh w v).heap.size (ZR cur0 i [.string v])).drew.heap[(Zh w v).heap.size]? =some (.cells (ZR cur0 i [.string v]) qe (0,0)):=setRow_heap _ _ _ _ _ _ hg1;have e1:((Zh w v).alloc (.cells cur0 (Ms.t 9))).drew.setCells (Zh w v).heap.size i [.string v]=((Zh w v).alloc (.cells cur0 qe)).drew.setRow (Zh w v).heap.size (ZR cur0 i [.string v]):=Ks _ qe (0,0) _ cur0 i _ zl hg1;rw[e1,Ks _ qe (0,0) _ _ (i+1) _ hne hg2];have ht:=Bo cur0 (cellsOf zE l) l.length i (.string v) ht0 hxl zb zb;refine⟨some ⟨(Zh w v).heap.size,0,none⟩,cap,by rw[hlen],?_,zF (qw (zV (qw (zV (zR hb)) hb.size)) hb.size) _,fun p hp=>Or.inl (by cases hp;exact hb.size)⟩;refine⟨FM,Or.inr ⟨_,cap,_,rfl,Nat.le_trans hBw hb.size,setRow_heap _ _ _ _ _ _ hg2,by rw[hlen];exact hge,hcmx,FR,?_⟩⟩;rw[hlen,jE,Nat.mul_one];exact ht
end
section
open Go.RowKit
theorem Qo.lift{B:Nat}{A:Option Addr}{c:Nat}{l l':List ze}{w w2:World}{e:Ending}{w':World}(hb:Below w.heap.size w w2)(h:Qo B A c l l' w2 e w'):Qo B A c l l' w e w':=by
 obtain⟨A',c',h1,h2,h3,h4⟩:=h;exact⟨A',c',h1,h2,(zF hb _).trans h3,fun p hp=>(h4 p hp).imp (fun k=>Nat.le_trans hb.size k) id⟩
theorem zbP{B:Nat}(A:Option Addr)(c:Nat)(l:List ze)(v:ByteArray)(w:World)(h:w.ownsRow B qe 1 (.slice A l.length c) l.length (cellsOf zE l))(hl:l.length<=10000)(hBw:B<=w.heap.size)(hs:l.Pairwise (· < ·))(hn:L v∉l):
 Calls prog 223 #[.slice A l.length c,.int .i64 (Zl l (L v):Nat),.slice (some ⟨w.heap.size,0,none⟩) 1 1] (Zh w v) (Qo B A c l (YY l (L v)) w):=by
 rw[vC hs hn];have hp:=Rj l (L v);by_cases h1:Zl l (L v)<l.length
 · by_cases h2:l.length+1<=c
   · exact zdv A c l _ v w h h1 h2
   · exact zbN A c l _ v w h hl h1 zb hBw
 · have e:Zl l (L v)=l.length:=by omega
   rw[e,List.take_of_length_le zo,List.drop_of_length_le zo];by_cases h2:l.length+1<=c
   · exact zg0 A c l v w h h2
   · exact zcN A c l v w h hl zb hBw
theorem Tt{B:Nat}(A:Option Addr)(c:Nat)(l:List ze)(v:ByteArray)(m:Nat)(w:World)(h:w.ownsRow B qe 1 (.slice A l.length c) l.length (cellsOf zE l))(hl:l.length<=10000)(_hm:m<=10000)(hBw:B<=w.heap.size)(hs:l.Pairwise (· < ·)):
 Calls prog 178 #[.slice A l.length c,.string v,.int .i64 m] w (Qo B A c l (Qt l (L v) m) w):=by
 have HB0:=zbw A c l v w h hl hs;have HSame:Hid (∀W,Below w.heap.size w W->Qo B A c l l w (.returned (.slice A l.length c)) W):=za fun W hW=>⟨A,c,rfl,qg h hW,zF hW _,fun p hp=>Or.inr ⟨p,hp,rfl⟩⟩;have HI:=za (fun(W:World) (hW:Below w.heap.size w W) (hn:L v∉l)=>(zbP A c l v W (qg h hW) hl (Nat.le_trans hBw hW.size) hs hn).mono fun _ _ hp=>hp.lift hW);by_cases hmem:L v∈l
 · have e:Qt l (L v) m=l:=by unfold Qt;rw[if_pos (Or.inl hmem)]
   rw[e];rw[decide_eq_true hmem]at HB0;have HB:=za HB0;clear HB0 e hmem h hs HI;exact CS
 · rw[decide_eq_false hmem]at HB0;have HB:=za HB0;have HIn:=za (fun W hW=>HI.out W hW hmem);by_cases hc:m<=l.length
   · have e:Qt l (L v) m=l:=by unfold Qt;rw[if_pos (Or.inr hc)]
     rw[e];have hci:(m:Int)<=((l.length:Nat):Int):=zb;clear HB0 e hmem h hs HI HIn;exact CS
   · have e:Qt l (L v) m=YY l (L v):=by unfold Qt;rw[if_neg (fun k=>k.elim hmem hc)]
     rw[e];have hci:¬(m:Int)<=((l.length:Nat):Int):=zb;clear HB0 e hmem h hs HI HSame;generalize hN:l.length=N at*;clear hN;generalize Zl l (L v)=i at*;go_enter func178,ntmps178;go_wp2_with (first|(go_at_call 222;refine HB.out.mono ?_;rintro e w2 ⟨rfl,hb2⟩)|(go_at_call 223;refine(HIn.out _ hb2).mono ?_;rintro e w3 hP;obtain⟨A',c',rfl,-⟩:=id hP))
     go_ret;exact hP
end
section
open Go.RowKit Go.Shelf Go.Lib Go.Sort
def Y0(s:ze):Value:=.string (bs s)
theorem zbY:OneCell Y0:=fun _=>rfl
theorem OE(l:List ze):cellsOf zE l=l.map Y0:=by
 induction l with
 |nil=>rfl
 |cons x l ih=>rw[List.map_cons,<-ih];rfl
theorem zf9{w:World}{g q:Nat}{cur:Array Value}{T:TypeId}{fr:Nat×Nat}(h:w.heap[g]? =some (.cells cur T fr))(d:Array ze):(putRow Y0 (Sort.ahead w q) g 0 d).heap[g]? =some (.cells (putCells Y0 0 d cur) T fr):=by
 show((Sort.ahead w q).heap.modify g _)[g]? =_;rw[Array.getElem?_modify,if_pos rfl];show(w.heap[g]?).map _=_;rw[h];rfl
theorem Tu(w:World)(g q:Nat)(d:Array ze):w.grownBy (putRow Y0 (Sort.ahead w q) g 0 d) (some g):=by
 refine⟨rfl,rfl,rfl,?_,fun k _ hk=>?_⟩
 · show w.heap.size<=(w.heap.modify g _).size;simp
 · show(w.heap.modify g _)[k]? =_;rw[Array.getElem?_modify,if_neg (fun e=>hk (by rw[e]))]
theorem zbS{W:World}{base n cap g q:Nat}{T:TypeId}{xs:List Value}(h:W.ownsRow base T 1 (.slice (some ⟨g,0,none⟩) n cap) n xs)(d:Array ze)(hd:d.size=n)(m:Nat)(hm:m<=n)(ys:List ze)(hy:d.toList.take m=ys):
 (putRow Y0 (Sort.ahead W q) g 0 d).ownsRow base T 1 (.slice (some ⟨g,0,none⟩) m cap) m (cellsOf zE ys):=by
 have hl:ys.length=m:=by rw[<-hy,List.length_take,Array.length_toList];omega
 rcases h.2 with⟨e,_⟩|⟨g',cap',cur,e,hb,hg,hn,hc,hs,ht⟩
 · cases e
 · injection e with e1 e2 e3
   injection e1 with e1
   injection e1 with e1
   subst e1 e3;refine⟨by rw[OE,List.length_map,hl];omega,Or.inr ⟨g,cap,putCells Y0 0 d cur,rfl,hb,zf9 hg d,Nat.le_trans hm hn,hc,by rw[<-hs];simp[putCells],?_⟩⟩;rw[OE,<-hy,Nat.mul_one];apply List.ext_getElem?;intro j;rw[List.getElem?_take,List.getElem?_map,List.getElem?_take];by_cases hj:j<m
   · rw[if_pos hj,if_pos hj,Array.getElem?_toList,Array.getElem?_toList];unfold putCells;rw[Array.getElem?_mapIdx];have h1:j<cur.size:=by rw[hs];omega
     have h2:j<d.size:=zb;rw[Array.getElem?_eq_getElem h1,Array.getElem?_eq_getElem h2];simp only[Option.map_some,Nat.zero_add,Nat.sub_zero];rw[if_pos ⟨Nat.zero_le _,h2⟩,getElem!_pos d j h2]
   · rw[if_neg hj,if_neg hj];rfl
theorem Hl(x s:ze)(B:Nat)(W:World)(hc:W.cell? ⟨B,0,none⟩=some (.string (bs s))):
 Calls prog 243 #[Y0 x,.pointer (some ⟨B,0,none⟩)] W fun e w'=>e=.returned (.bool (x==s))/\∃q,w'=W.drewN q:=by
 unfold Y0;have hb:((bs x).toList==(bs s).toList)=(x==s):=by rw[tl,tl,qr,qr]
 rw[<-hb];clear hb;go_enter func243,ntmps243;go_wp2;go_ret;exact⟨ZT zj,0,rfl⟩
theorem zjc(fv:Value)(w:World):Calls prog 165 #[.slice none 0 0,fv] w fun e w'=>e=.returned (.int .i64 (-1))/\w'=w:=by
 go_enter func165,ntmps165;exact NJ
theorem zem(fv:Value)(w:World):Calls prog 242 #[.slice none 0 0,fv] w fun e w'=>e=.returned (.slice none 0 0)/\w'=w:=by
 have HI:=za (zjc fv w);go_enter func242,ntmps242;go_wp2_with (go_at_call 165;refine HI.out.mono ?_;rintro e w2 ⟨rfl,rfl⟩)
 go_ret;exact QT
def IX(B:Nat)(A:Option Addr)(c:Nat)(l:List ze)(s:ze)(w:World)(e:Ending)(w':World):Prop:=∃A' c',e=.returned (.slice A' (YB l s).length c')/\w'.ownsRow B qe 1 (.slice A' (YB l s).length c') (YB l s).length (cellsOf zE (YB l s))/\w.grownBy w' (Value.slice A l.length c).ownBlock/\∀p,A'=some p->∃q,A=some q/\q.block=p.block
theorem zhb{w:World}{blk q B:Nat}{d:Array ze}{os:Array Obj}{v:Value}(hB:B≠blk)(hc:w.cell? ⟨B,0,none⟩=some v)(hlt:B<w.heap.size):(sortWorld Y0 w blk 0 q d os).cell? ⟨B,0,none⟩=some v:=by
 rw[<-hc];refine World.cell?_of_block (w:=w) ?_;show(grow (putRow Y0 (Sort.ahead w q) blk 0 d) os).heap[B]? =_;rw[Sort.heap_grow_old _ _ (Nat.lt_of_lt_of_le hlt (Tu w blk q d).size)];exact(Tu w blk q d).block B hlt (fun e=>hB (zx e))
theorem Cl{B:Nat}(A:Option Addr)(c:Nat)(l:List ze)(v:ByteArray)(w:World)(h:w.ownsRow B qe 1 (.slice A l.length c) l.length (cellsOf zE l))(hl:l.length<=10000):
 Calls prog 214 #[.slice A l.length c,.string v] w (IX B A c l (L v) w):=by
 have hb1:=zI w (.cells #[.string v] 9);have HB1:=za hb1;cases A with
 | none=>
   obtain⟨rfl,rfl⟩:l=[]/\c=0:=by
    rcases h.2 with⟨e,e2⟩|⟨g',cap',cur,e,_⟩
    · injection e with _ _ e3
      exact⟨List.length_eq_zero_iff.1 e2,e3⟩
    · cases e
   have HD:=za (fun fv=>zem fv (w.alloc (.cells #[.string v] 9)));clear hb1 h;go_enter func214,ntmps214;go_wp2_with (go_at_call 242;refine(HD.out _).mono ?_;rintro e w2 ⟨rfl,rfl⟩)
   go_ret;exact⟨none,0,rfl,World.ownsRow_nil _ _ _ _,zF HB1.out _,fun p e=>Zr⟩
 | some a=>
   obtain⟨g,rfl⟩:∃g,a=⟨g,0,none⟩:=by
    rcases h.2 with⟨e,e2⟩|⟨g',cap',cur,e,_⟩
    · cases e
    · injection e with e1
      injection e1 with e1
      exact⟨g',e1⟩
   have hlt:=(qp h _ rfl).2;have hB:w.heap.size≠g:=by have:g<w.heap.size:=hlt;omega
   have h1:=qg h hb1;have hc0:(w.alloc (.cells #[.string v] 9)).cell? ⟨w.heap.size,0,none⟩=some (.string (bs (L v))):=by rw[Q2];exact zd (heap_alloc_new w _) rfl
   have hlt0:w.heap.size<(w.alloc (.cells #[.string v] 9)).heap.size:=zl;have hparts:∃cur,(w.alloc (.cells #[.string v] 9)).heap[g]? =some (.cells cur qe (0,0))/\l.length<=c/\c<=maxLen/\cur.size=c/\cur.toList.take l.length=l.map Y0:=by
    rcases h1.2 with⟨e,e2⟩|⟨g',cap',cur,e,hbb,hg,hn,hc,hs,ht⟩
    · cases e
    · injection e with e1 e2 e3
      injection e1 with e1
      injection e1 with e1
      subst e1 e3;exact⟨cur,hg,hn,hc,zb,by rw[<-OE,<-ht,Nat.mul_one]⟩
   obtain⟨cur,hg,hcap,hcm,hsz,htk⟩:=hparts;have hH:Holds Y0 (w.alloc (.cells #[.string v] 9)) g 0 l.toArray:=fun j hj=>by
    have hj':j<l.length:=J9;rw[Nat.zero_add];refine⟨?_,frozen_of_row _ _ _ _ _ hg⟩;rw[cell_of_row _ _ j _ _ _ hg,<-Array.getElem?_toList];have:=congrArg (fun z=>z[j]?) htk;simp only[List.getElem?_take,if_pos hj',List.getElem?_map,List.getElem?_eq_getElem hj',Option.map_some]at this;rw[this,getElem!_pos l.toArray j hj];rfl
   have hd:=slices_DeleteFunc Y0 zbY (fun x=>x==L v) 243 #[.pointer (some ⟨w.heap.size,0,none⟩)] (fun _ _=>rfl) [] (fun w=>zeroValue9 w) g 0 c l.toArray (w.alloc (.cells #[.string v] 9)) (fun W x hW=>Hl x (L v) w.heap.size W ((hW.cell (p:=⟨w.heap.size,0,none⟩) hlt0).trans hc0)) (fun n os dk x _=>Hl x (L v) w.heap.size _ (zhb hB hc0 hlt0)) hH zG (by simpa using hcap);have hfl:(l.toArray.toList.filter fun x=> !(x==L v))=YB l (L v):=rfl;rw[hfl]at hd;have hsz2:l.toArray.size=l.length:=zl;rw[hsz2]at hd;have hle:=RU l (L v);have HEnd:Hid (∀q,IX B (some ⟨g,0,none⟩) c l (L v) w (.returned (.slice (some ⟨g,0,none⟩) (YB l (L v)).length c)) (putRow Y0 (Sort.ahead (w.alloc (.cells #[.string v] 9)) q) g 0 (YB l (L v)++List.replicate (l.length - (YB l (L v)).length) []).toArray)):=za fun q=>by
    refine⟨some ⟨g,0,none⟩,c,rfl,zbS h1 _ zG _ hle _ zl,?_,fun p e=>⟨_,rfl,by cases e;rfl⟩⟩;exact(zF hb1 _).trans (Tu _ g q _)
   have HD:=za hd;clear hd hH hg hcap hcm hsz htk hb1 h h1 hc0 hlt0 hfl hsz2 hle hlt hB;generalize hN:l.length=N at*;clear hN;go_enter func214,ntmps214;go_wp2_with (go_at_call 242;refine HD.out.mono ?_;rintro e w2 ⟨rfl,q,rfl⟩)
   go_ret;exact HEnd.out q
end
section
open Go.RowKit
theorem Qo.edTags{B g:Nat}{y:Dm}{w:World}{l':List ze}{e:Ending}{w':World}(h:qs B w g y)(hi:Qo B y.tags.A y.tags.c y.tags.l l' w e w'):∃A' c',e=.returned (.slice A' l'.length c')/\(w'.cell? ⟨g,1,none⟩).isSome=true/\w'.cell? ⟨g,1,none⟩=some (.slice y.tags.A y.tags.l.length y.tags.c)/\w'.frozen? ⟨g,1,none⟩=false/\qB B g y w {y.d with tags:=l'} (.returned (.tuple #[])) (w'.setCell ⟨g,1,none⟩ (.slice A' l'.length c')):=by
 obtain⟨A',c',h1,h2,h3,h4⟩:=hi;have hq:=zQ.set_tags h h3 h2 h4;have hmem:y.tags.A∈y.as:=ZD;have hbox:w'.heap[g]? =some (.cells (zD y) XQ (0,0)):=(h3.block g (zh h.box) (fun e=>by
  obtain⟨p,e1,e2⟩:=ZI e.symm;exact h.off _ hmem p e1 e2)).trans h.box
 have hc:=(ZG hbox).2.1;exact⟨A',c',h1,by rw[hc];rfl,hc,qb hbox 1,hq.p rfl⟩
theorem IX.ins{B:Nat}{A:Option Addr}{c:Nat}{l:List ze}{s:ze}{w:World}{e:Ending}{w':World}(h:IX B A c l s w e w'):Qo B A c l (YB l s) w e w':=by
 obtain⟨A',c',h1,h2,h3,h4⟩:=h;exact⟨A',c',h1,h2,h3,fun p hp=>Or.inr (h4 p hp)⟩
theorem S1{B g:Nat}{y:Dm}{w w2:World}(h:qs B w g y)(v:ByteArray)(hb:Below w.heap.size w w2):Qo B y.tags.A y.tags.c y.tags.l [L v] w (.returned (.slice (some ⟨w2.heap.size,0,none⟩) 1 1)) (Zh w2 v):=by
 have hB:=Nat.le_trans (Nat.le_trans h.lo (Nat.le_of_lt (zh h.box))) hb.size;exact⟨some ⟨w2.heap.size,0,none⟩,1,rfl,⟨rfl,Or.inr ⟨w2.heap.size,1,#[.string v],rfl,hB,heap_alloc_new w2 _,zo,qh,rfl,by simp[cellsOf,zE,Q2]⟩⟩,zF (zR hb) _,fun p hp=>Or.inl (by cases hp;exact hb.size)⟩
theorem ziW(B g:Nat)(y:Dm)(op:Int)(v:ByteArray)(w:World)(h:qs B w g y)(hl:y.tags.l.length<=1000)(hs:y.tags.l.Pairwise (· < ·))(hv:v.size<=1000000):
 Calls prog 171 #[.pointer (some ⟨g,0,none⟩),.int .i64 op,.string v] w (qB B g y w (kh y.d op v)):=by
 have hBw:=Nat.le_trans h.lo (Nat.le_of_lt (zh h.box));have HH:=za h;have HV0:=ID v w zb;have HPut:=za (fun(W:World) (hW:Below w.heap.size w W)=>(Tt y.tags.A y.tags.c y.tags.l v 16 W (qg h.rows.tg hW) zb zb (Nat.le_trans hBw hW.size) hs).mono fun _ _ hp=>hp.lift hW);have HDrop:=za (fun(W:World) (hW:Below w.heap.size w W)=>(Cl y.tags.A y.tags.c y.tags.l v W (qg h.rows.tg hW) zb).mono fun _ _ hp=>hp.ins.lift hW);have hE:kh y.d op v=if ZY (L v)then(if op=3 then{y.d with tags:=[L v]}else if op=4 then{y.d with tags:=Qt y.tags.l (L v) 16}else if op=5 then{y.d with tags:=YB y.tags.l (L v)}else y.d)else y.d:=rfl;rw[hE];clear hE h hBw hs;cases hval:ZY (L v)with
 | false=>
   rw[hval]at HV0;have HV:=za HV0;clear HV0 hval;rw[if_neg zi];exact Dn
 | true=>
   rw[hval]at HV0;have HV:=za HV0;clear HV0 hval;rw[if_pos rfl];by_cases h3:op=3
   · subst h3;rw[if_pos rfl];go_enter func171,ntmps171;go_wp2_with (go_at_call 174;refine HV.out.mono ?_;rintro e w2 ⟨rfl,hb2⟩;obtain⟨A5,c5,e5,h5,q5,f5,hP⟩:=Qo.edTags HH.out (S1 HH.out v hb2);injection e5 with e5;injection e5 with e6 e7 e8;subst e6 e8;have HP:=za hP;clear hP h5 e7 hb2)
     exact Na
   · rw[if_neg h3];by_cases h4:op=4
     · subst h4;rw[if_pos rfl];go_enter func171,ntmps171;go_wp2_with (first|(go_at_call 174;refine HV.out.mono ?_;rintro e w2 ⟨rfl,hb2⟩;have HB2:=za hb2;have hbx:=(HH.out.below hb2).box;have q1:=(ZG hbx).2.1;have f1:=qb hbx 1;clear hbx hb2)|(go_at_call 178;refine(HPut.out _ HB2.out).mono ?_;rintro e w5 hI;obtain⟨A5,c5,rfl,h5,q5,f5,hP⟩:=Qo.edTags HH.out hI;have HP:=za hP;clear hP hI h5))
       exact Na
     · rw[if_neg h4];by_cases h5':op=5
       · subst h5';rw[if_pos rfl];go_enter func171,ntmps171;go_wp2_with (first|(go_at_call 174;refine HV.out.mono ?_;rintro e w2 ⟨rfl,hb2⟩;have HB2:=za hb2;have hbx:=(HH.out.below hb2).box;have q1:=(ZG hbx).2.1;have f1:=qb hbx 1;clear hbx hb2)|(go_at_call 214;refine(HDrop.out _ HB2.out).mono ?_;rintro e w5 hI;obtain⟨A5,c5,rfl,h5,q5,f5,hP⟩:=Qo.edTags HH.out hI;have HP:=za hP;clear hP hI h5))
         exact Na
       · rw[if_neg h5'];exact Dn
end
section
open Go.RowKit Go.Shelf Go.Lib
theorem Sk(op:Int){l:List ze}(w:ByteArray)(h:l.Pairwise (· < ·)/\l.length<=1000):(Zo op l w).Pairwise (· < ·)/\(Zo op l w).length<=1000:=by
 unfold Zo
 split
 · split
   · exact Le
   · refine⟨Mh h.1 _ _,?_⟩;unfold Qt
     split
     · exact h.2
     · rename_i hn;have h1:=Es l (L (by assumption));have h2:¬16<=l.length:=fun e=>hn (Or.inr e);omega
 · exact h
theorem NB(op:Int):∀(ws:List ByteArray) {l:List ze},(l.Pairwise (· < ·)/\l.length<=1000)->(ws.foldl (Zo op) l).Pairwise (· < ·)/\(ws.foldl (Zo op) l).length<=1000
 | [],_,h=>h
 |w::ws,_,h=>NB op ws (Sk op w h)
theorem Oa{α β:Type}(f:β->α->β)(l:List α)(b:β){k:Nat}(hk:k<l.length):(l.take (k+1)).foldl f b=f ((l.take k).foldl f b) l[k]:=He
theorem zeH(w:World):PredAtRunes prog 217 #[] (fun n=>n==32) w:=by
 intro W x hx _;unfold FnGives encR;by_cases h:x=32
 · subst h;show Calls prog 217 #[.int .i32 32] W fun e w'=>e=.returned (.bool true)/\∃q,w'=W.drewN q;go_enter func217,ntmps217;go_wp2;go_ret;exact⟨zl,0,rfl⟩
 · have hi:¬(x:Int)=32:=by omega
   have hb:(x==32)=false:=XD;show Calls prog 217 #[.int .i32 x] W fun e w'=>e=.returned (.bool (x==32))/\∃q,w'=W.drewN q;rw[hb];go_enter func217,ntmps217;go_wp2;go_ret;exact⟨by simp[*],0,rfl⟩
theorem PS(v:ByteArray):∀x∈Yg v,x.size<=v.size:=by
 intro x hx;have e:Yg v=(Lib.spansOfP (fun n=>n==32) v).map fun x=>v.extract x.1 x.2:=rfl;rw[e]at hx;obtain⟨y,_,rfl⟩:=List.mem_map.1 hx;rw[<-zC,Q8];have:=zC v;rw[List.length_drop,List.length_take];omega
theorem Te(v:ByteArray)(w:World)(hv:v.size<=1000000):
 Calls prog 216 #[.string v,.func (.func 217) #[] #[]] w fun e w'=>∃A,e=.returned (.slice (some ⟨A,0,none⟩) (Yg v).length (Yg v).length)/\w.heap.size<=A/\(Yg v).length<=maxLen/\zr w' w'.heap.size (some ⟨A,0,none⟩) 1 (Yg v).length ((Yg v).map Value.string)/\Below w.heap.size w w':=by
 refine(strings_FieldsFunc_runes 217 #[] (fun _ _=>rfl) (fun n=>n==32) v w zb (zeH w)).mono ?_;rintro e w' ⟨A,h1,h2,h3,h4⟩;refine⟨A,h1,h2,?_,zr.of_own h3,h4⟩;rcases h3.2 with⟨e,_⟩|⟨g,cap,cur,_,_,_,hn,hc,_⟩
 · cases e
 · exact Nat.le_trans hn hc
theorem Qo.edLinks{B g:Nat}{y:Dm}{w:World}{l':List ze}{e:Ending}{w':World}(h:qs B w g y)(hi:Qo B y.links.A y.links.c y.links.l l' w e w'):∃A' c',e=.returned (.slice A' l'.length c')/\w'.cell? ⟨g,2,none⟩=some (.slice y.links.A y.links.l.length y.links.c)/\w'.frozen? ⟨g,2,none⟩=false/\zQ B g y w {y with links:=⟨A',c',l'⟩} (w'.setCell ⟨g,2,none⟩ (.slice A' l'.length c')):=by
 obtain⟨A',c',h1,h2,h3,h4⟩:=hi;have hq:=zQ.set_links h h3 h2 h4;have hmem:y.links.A∈y.as:=ZD;have hbox:w'.heap[g]? =some (.cells (zD y) XQ (0,0)):=(h3.block g (zh h.box) (fun e=>by
  obtain⟨p,e1,e2⟩:=ZI e.symm;exact h.off _ hmem p e1 e2)).trans h.box
 exact⟨A',c',h1,(ZG hbox).2.2.1,qb hbox 2,hq⟩
theorem YG.row{w w':World}{g:Nat}{y y':Dm}(h:YG w g y w' y'){A n:Nat}{xs:List Value}(hr:zr w w.heap.size (some ⟨A,0,none⟩) 1 n xs)(hg:A≠g)(hn:∀a∈y.as,∀p,a=some p->p.block≠A):zr w' w'.heap.size (some ⟨A,0,none⟩) 1 n xs:=by
 refine⟨hr.len,fun hp=>?_⟩;obtain⟨ba,off,e,hB,hc⟩:=hr.at_ hp;injection e with e
 injection e with e1 e2
 subst e1 e2;refine⟨A,0,rfl,Nat.lt_of_lt_of_le hB h.sz,fun j u hu=>?_⟩;rw[<-hc j u hu];exact World.cell?_of_block (w:=w) (h.fr A hB hg hn)
structure kj(B g:Nat)(y:Dm)(op:Int)(ws:List ByteArray)(w:World)(k:Nat)(y':Dm)(wr:World):Prop where
 q:zQ B g y w y' wr
 d:y'.d={y.d with links:=(ws.take k).foldl (Zo op) y.links.l}
theorem By(B g:Nat)(y:Dm)(op:Int)(v:ByteArray)(w:World)(h:qs B w g y)(hl:y.links.l.length<=1000)(hs:y.links.l.Pairwise (· < ·))(hE:Env0 w)(hB:nG<=B)(hv:v.size<=1000000)(n3:¬op=3)(n6:¬op=6):
 Calls prog 173 #[.pointer (some ⟨g,0,none⟩),.int .i64 op,.string v] w (qB B g y w (XA y.d op v)):=by
 have hq1:zQ B g y w y w:=zQ.same h zk;have hE1:=hE;have hok:y.links.l.Pairwise (· < ·)/\y.links.l.length<=1000:=⟨hs,hl⟩;have b3:(op==3)=false:=by simpa using n3
 have b6:(op==6)=false:=by simpa using n6
 have HE1:=za hE1;have HWd:=za (Te v w hv);have HWs:=za (PS v);have HOk:=za (fun k=>NB op ((Yg v).take k) (l:=y.links.l) hok);have hEq:XA y.d op v={y.d with links:=(Yg v).foldl (Zo op) y.links.l}:=by unfold XA;rw[if_neg (fun e=>e.elim n3 n6)];rfl
 have HEq:=za hEq;have H1:=za hq1;have q2:w.cell? ⟨g,2,none⟩=some (.slice y.links.A y.links.l.length y.links.c):=(ZG hq1.ed.box).2.2.1;clear hE1 hok hEq h hl hs hE;generalize Yg v=ws at*;go_enter func173,ntmps173;go_wp2_with (go_at_call 216;refine HWd.out.mono ?_;rintro e w2 ⟨A,rfl,hA,hmx,hrow,hb2⟩)
 have hq2:=H1.out.trans (zQ.same H1.out.ed hb2);have HAg:=za (show A≠g by have:=zh H1.out.ed.box;omega);have HAn:=za (fun(a:Option Addr) (ha:a∈y.as) (p:Addr) (e:a=some p)=>(show p.block≠A by have:=H1.out.ed.rows.lt a ha p e;omega));have HR2:Hid (kj B g y op ws w2 0 y w2):=za ⟨zQ.same (H1.out.ed.below hb2) zk,rfl⟩;have YJ:=za hrow;have HB2:=za hb2;have HQ2:=za hq2;clear hq2 hrow q2;generalize hN:ws.length=N at*;have HN:=za hN;have hmx2:N<=9223372036854775807:=Ph;clear hN hmx hA;go_loopg [7,8,9,23] N (fun gk _ _ _ i wr=>∃(k:Nat) (yk:Dm),i=.int .i64 k/\k<=N/\k+gk=N/\Hid (kj B g y op ws w2 k yk wr))
 case atStart=>exact⟨0,y,rfl,Nat.zero_le _,zb,HR2⟩
 case round=>
  obtain⟨k,yk,rfl,hk,hkg,HR⟩:=hrel;by_cases hlt:k<N
  · have hlt':k<ws.length:=by rw[HN.out];exact hlt
    obtain⟨ba,off,ea,hc⟩:=Kv (YG.row HR.out.q.r P0 HAg.out HAn.out) zk R2;injection ea with ea
    injection ea with ea1 ea2
    subst ea1 ea2;rw[Nat.zero_add]at hc;have hEk:=HR.out.q.ed;have hbk:=HR.out.q.b;have hdk:yk.links.l=(ws.take k).foldl (Zo op) y.links.l:=congrArg Dr.links HR.out.d;have hok:=HOk.out k;rw[<-hdk]at hok;have HCl:=za (P5 ws[k] wr ((HE1.out.keep HQ2.out.b hB).keep hbk hB) (Nat.le_trans (HWs.out _ (List.getElem_mem hlt')) hv));have htk:=Oa (Zo op) ws y.links.l hlt';rw[<-hdk]at htk;have HTk:=za htk;have HDk:=za hdk;have HOkk:=za hok;clear htk hdk hok;generalize ws[k]=x at*;cases hcl:JA x with
    | none=>
      have e:Zo op yk.links.l x=yk.links.l:=Rx;exact RI
    | some t=>
      rw[hcl]at HCl;have HCl2:=za HCl.out;have hfin:∀(l':List ze),Zo op yk.links.l x=l'->∀(A':Option Addr) (c':Nat) (w3 w4:World),Below wr.heap.size wr w3->zQ B g yk w3 {yk with links:=⟨A',c',l'⟩} w4->kj B g y op ws w2 (k+1) {yk with links:=⟨A',c',l'⟩} w4:=fun l' hl' A' c' w3 w4 hb3 hq=>⟨(HR.out.q.trans (zQ.same hEk hb3)).trans hq,by
       rw[HTk.out,hl'];have hd:=HR.out.d;show{yk.d with links:=l'}=_;rw[hd]⟩
      have HFin:=za hfin;have hcap:GT (some t)=.tuple #[.string t,.bool true]:=rfl;rw[hcap]at HCl2;have hgB:=Nat.le_trans hEk.lo (Nat.le_of_lt (zh hEk.box));have HEk:=za hEk;clear HCl hfin hcap;by_cases o5:op=5
      · subst o5;have HF2:=za (HFin.out (YB yk.links.l (L t)) (by unfold Zo;rw[hcl];rfl));have HDrop:=za (fun(W:World) (hW:Below wr.heap.size wr W)=>(Cl yk.links.A yk.links.c yk.links.l t W (qg hEk.rows.lk hW) (by have:=HOkk.out.2;omega)).mono fun _ _ hp=>hp.ins);clear hcl HFin hEk;go_wp2_with (first
         |(go_at_call 218;refine HCl2.out.mono ?_;rintro e w3 ⟨rfl,hb3⟩;have HB3:=za hb3;have q3:=(ZG (HEk.out.below hb3).box).2.2.1;have f3:=qb (HEk.out.below hb3).box 2;clear hb3)
         |(go_at_call 214;refine(HDrop.out _ HB3.out).mono ?_;rintro e w5 hI;obtain⟨A5,c5,rfl,q5,f5,hP⟩:=Qo.edLinks (HEk.out.below HB3.out) hI;have HP:=za hP;clear hP hI q3 f3))
        go_roundg (gk - 1)
        case measure=>omega
        case rel=>exact⟨k+1,_,zP,zb,zb,za (HF2.out _ _ _ _ HB3.out HP.out)⟩
      · have b5:(op==5)=false:=by simpa using o5
        have HF2:=za (HFin.out (Qt yk.links.l (L t) 16) (by unfold Zo;rw[hcl];show(if op=5 then _ else _)=_;rw[if_neg o5]));exact PW
  · exact jy
theorem zgJ(B g:Nat)(y:Dm)(v:ByteArray)(w:World)(h:qs B w g y)(_hl:y.links.l.length<=1000)(_hs:y.links.l.Pairwise (· < ·))(hE:Env0 w)(hB:nG<=B)(hv:v.size<=1000000):
 Calls prog 173 #[.pointer (some ⟨g,0,none⟩),.int .i64 3,.string v] w (qB B g y w (XA y.d 3 v)):=by
 have hb0:=h.box;have q0:=(ZG hb0).2.2.1;have f0:=qb hb0 2;obtain⟨y1,hy1⟩:∃y1:Dm,y1={y with links:=⟨none,0,[]⟩}:=⟨_,rfl⟩;have hq1:zQ B g y w y1 (w.setCell ⟨g,2,none⟩ (.slice none 0 0)):=Ah;obtain⟨w1,hw1⟩:∃W,w.setCell ⟨g,2,none⟩ (.slice none 0 0)=W:=⟨_,rfl⟩;rw[hw1]at hq1;have hE1:=hE;have hok:y1.links.l.Pairwise (· < ·)/\y1.links.l.length<=1000:=by
  rw[hy1];exact T6
 have HE1:=za hE1;have HWd:=za (Te v w1 hv);have HWs:=za (PS v);have HOk:=za (fun k=>NB 3 ((Yg v).take k) (l:=y1.links.l) hok);have hEq:XA y.d 3 v={y1.d with links:=(Yg v).foldl (Zo 3) y1.links.l}:=yq;have HEq:=za hEq;have H1:=za hq1;have q2:w1.cell? ⟨g,2,none⟩=some (.slice y1.links.A y1.links.l.length y1.links.c):=(ZG hq1.ed.box).2.2.1;clear hE1 hok hEq h _hl _hs hE hb0 hy1;generalize Yg v=ws at*;go_enter func173,ntmps173;go_upto_region 2 with fail
 try rw[hw1]
 clear q0 f0 hw1;go_wp2_with (go_at_call 216;refine HWd.out.mono ?_;rintro e w2 ⟨A,rfl,hA,hmx,hrow,hb2⟩)
 have hq2:=H1.out.trans (zQ.same H1.out.ed hb2);have HAg:=za (show A≠g by have:=zh H1.out.ed.box;omega);have HAn:=za (fun(a:Option Addr) (ha:a∈y1.as) (p:Addr) (e:a=some p)=>(show p.block≠A by have:=H1.out.ed.rows.lt a ha p e;omega));have HR2:Hid (kj B g y1 3 ws w2 0 y1 w2):=za ⟨zQ.same (H1.out.ed.below hb2) zk,rfl⟩;have YJ:=za hrow;have HB2:=za hb2;have HQ2:=za hq2;clear hq2 hrow q2;generalize hN:ws.length=N at*;have HN:=za hN;have hmx2:N<=9223372036854775807:=Ph;clear hN hmx hA;go_loopg [7,8,9,23] N (fun gk _ _ _ i wr=>∃(k:Nat) (yk:Dm),i=.int .i64 k/\k<=N/\k+gk=N/\Hid (kj B g y1 3 ws w2 k yk wr))
 case atStart=>exact⟨0,y1,rfl,Nat.zero_le _,zb,HR2⟩
 case round=>
  obtain⟨k,yk,rfl,hk,hkg,HR⟩:=hrel;by_cases hlt:k<N
  · have hlt':k<ws.length:=by rw[HN.out];exact hlt
    obtain⟨ba,off,ea,hc⟩:=Kv (YG.row HR.out.q.r P0 HAg.out HAn.out) zk R2;injection ea with ea
    injection ea with ea1 ea2
    subst ea1 ea2;rw[Nat.zero_add]at hc;have hEk:=HR.out.q.ed;have hbk:=HR.out.q.b;have hdk:yk.links.l=(ws.take k).foldl (Zo 3) y1.links.l:=congrArg Dr.links HR.out.d;have hok:=HOk.out k;rw[<-hdk]at hok;have HCl:=za (P5 ws[k] wr ((HE1.out.keep HQ2.out.b hB).keep hbk hB) (Nat.le_trans (HWs.out _ (List.getElem_mem hlt')) hv));have htk:=Oa (Zo 3) ws y1.links.l hlt';rw[<-hdk]at htk;have HTk:=za htk;have HDk:=za hdk;have HOkk:=za hok;clear htk hdk hok;generalize ws[k]=x at*;cases hcl:JA x with
    | none=>
      have e:Zo 3 yk.links.l x=yk.links.l:=Rx;exact RI
    | some t=>
      rw[hcl]at HCl;have HCl2:=za HCl.out;have hfin:∀(l':List ze),Zo 3 yk.links.l x=l'->∀(A':Option Addr) (c':Nat) (w3 w4:World),Below wr.heap.size wr w3->zQ B g yk w3 {yk with links:=⟨A',c',l'⟩} w4->kj B g y1 3 ws w2 (k+1) {yk with links:=⟨A',c',l'⟩} w4:=fun l' hl' A' c' w3 w4 hb3 hq=>⟨(HR.out.q.trans (zQ.same hEk hb3)).trans hq,by
       rw[HTk.out,hl'];have hd:=HR.out.d;show{yk.d with links:=l'}=_;rw[hd]⟩
      have HFin:=za hfin;have hcap:GT (some t)=.tuple #[.string t,.bool true]:=rfl;rw[hcap]at HCl2;have hgB:=Nat.le_trans hEk.lo (Nat.le_of_lt (zh hEk.box));have HEk:=za hEk;clear HCl hfin hcap;have HF2:=za (HFin.out (Qt yk.links.l (L t) 16) (by unfold Zo;rw[hcl];show(if(3:Int)=5 then _ else _)=_;rw[if_neg zi]));exact PW
  · exact jy
theorem zbZ(B g:Nat)(y:Dm)(v:ByteArray)(w:World)(h:qs B w g y)(_hl:y.links.l.length<=1000)(_hs:y.links.l.Pairwise (· < ·))(hE:Env0 w)(hB:nG<=B)(hv:v.size<=1000000):
 Calls prog 173 #[.pointer (some ⟨g,0,none⟩),.int .i64 6,.string v] w (qB B g y w (XA y.d 6 v)):=by
 have hb0:=h.box;have q0:=(ZG hb0).2.2.1;have f0:=qb hb0 2;obtain⟨y1,hy1⟩:∃y1:Dm,y1={y with links:=⟨none,0,[]⟩}:=⟨_,rfl⟩;have hq1:zQ B g y w y1 (w.setCell ⟨g,2,none⟩ (.slice none 0 0)):=Ah;obtain⟨w1,hw1⟩:∃W,w.setCell ⟨g,2,none⟩ (.slice none 0 0)=W:=⟨_,rfl⟩;rw[hw1]at hq1;have hE1:=hE;have hok:y1.links.l.Pairwise (· < ·)/\y1.links.l.length<=1000:=by
  rw[hy1];exact T6
 have HE1:=za hE1;have HWd:=za (Te v w1 hv);have HWs:=za (PS v);have HOk:=za (fun k=>NB 6 ((Yg v).take k) (l:=y1.links.l) hok);have hEq:XA y.d 6 v={y1.d with links:=(Yg v).foldl (Zo 6) y1.links.l}:=yq;have HEq:=za hEq;have H1:=za hq1;have q2:w1.cell? ⟨g,2,none⟩=some (.slice y1.links.A y1.links.l.length y1.links.c):=(ZG hq1.ed.box).2.2.1;clear hE1 hok hEq h _hl _hs hE hb0 hy1;generalize Yg v=ws at*;go_enter func173,ntmps173;go_upto_region 2 with fail
 try rw[hw1]
 clear q0 f0 hw1;go_wp2_with (go_at_call 216;refine HWd.out.mono ?_;rintro e w2 ⟨A,rfl,hA,hmx,hrow,hb2⟩)
 have hq2:=H1.out.trans (zQ.same H1.out.ed hb2);have HAg:=za (show A≠g by have:=zh H1.out.ed.box;omega);have HAn:=za (fun(a:Option Addr) (ha:a∈y1.as) (p:Addr) (e:a=some p)=>(show p.block≠A by have:=H1.out.ed.rows.lt a ha p e;omega));have HR2:Hid (kj B g y1 6 ws w2 0 y1 w2):=za ⟨zQ.same (H1.out.ed.below hb2) zk,rfl⟩;have YJ:=za hrow;have HB2:=za hb2;have HQ2:=za hq2;clear hq2 hrow q2;generalize hN:ws.length=N at*;have HN:=za hN;have hmx2:N<=9223372036854775807:=Ph;clear hN hmx hA;go_loopg [7,8,9,23] N (fun gk _ _ _ i wr=>∃(k:Nat) (yk:Dm),i=.int .i64 k/\k<=N/\k+gk=N/\Hid (kj B g y1 6 ws w2 k yk wr))
 case atStart=>exact⟨0,y1,rfl,Nat.zero_le _,zb,HR2⟩
 case round=>
  obtain⟨k,yk,rfl,hk,hkg,HR⟩:=hrel;by_cases hlt:k<N
  · have hlt':k<ws.length:=by rw[HN.out];exact hlt
    obtain⟨ba,off,ea,hc⟩:=Kv (YG.row HR.out.q.r P0 HAg.out HAn.out) zk R2;injection ea with ea
    injection ea with ea1 ea2
    subst ea1 ea2;rw[Nat.zero_add]at hc;have hEk:=HR.out.q.ed;have hbk:=HR.out.q.b;have hdk:yk.links.l=(ws.take k).foldl (Zo 6) y1.links.l:=congrArg Dr.links HR.out.d;have hok:=HOk.out k;rw[<-hdk]at hok;have HCl:=za (P5 ws[k] wr ((HE1.out.keep HQ2.out.b hB).keep hbk hB) (Nat.le_trans (HWs.out _ (List.getElem_mem hlt')) hv));have htk:=Oa (Zo 6) ws y1.links.l hlt';rw[<-hdk]at htk;have HTk:=za htk;have HDk:=za hdk;have HOkk:=za hok;clear htk hdk hok;generalize ws[k]=x at*;cases hcl:JA x with
    | none=>
      have e:Zo 6 yk.links.l x=yk.links.l:=Rx;exact RI
    | some t=>
      rw[hcl]at HCl;have HCl2:=za HCl.out;have hfin:∀(l':List ze),Zo 6 yk.links.l x=l'->∀(A':Option Addr) (c':Nat) (w3 w4:World),Below wr.heap.size wr w3->zQ B g yk w3 {yk with links:=⟨A',c',l'⟩} w4->kj B g y1 6 ws w2 (k+1) {yk with links:=⟨A',c',l'⟩} w4:=fun l' hl' A' c' w3 w4 hb3 hq=>⟨(HR.out.q.trans (zQ.same hEk hb3)).trans hq,by
       rw[HTk.out,hl'];have hd:=HR.out.d;show{yk.d with links:=l'}=_;rw[hd]⟩
      have HFin:=za hfin;have hcap:GT (some t)=.tuple #[.string t,.bool true]:=rfl;rw[hcap]at HCl2;have hgB:=Nat.le_trans hEk.lo (Nat.le_of_lt (zh hEk.box));have HEk:=za hEk;clear HCl hfin hcap;have HF2:=za (HFin.out (Qt yk.links.l (L t) 16) (by unfold Zo;rw[hcl];show(if(6:Int)=5 then _ else _)=_;rw[if_neg zi]));exact PW
  · exact jy
theorem zfv(B g:Nat)(y:Dm)(op:Int)(v:ByteArray)(w:World)(h:qs B w g y)(hl:y.links.l.length<=1000)(hs:y.links.l.Pairwise (· < ·))(hE:Env0 w)(hB:nG<=B)(hv:v.size<=1000000):
 Calls prog 173 #[.pointer (some ⟨g,0,none⟩),.int .i64 op,.string v] w (qB B g y w (XA y.d op v)):=by
 by_cases h3:op=3
 · subst h3;exact zgJ B g y v w h hl hs hE hB hv
 · by_cases h6:op=6
   · subst h6;exact zbZ B g y v w h hl hs hE hB hv
   · exact By B g y op v w h hl hs hE hB hv h3 h6
end
end Go.Proofs.YtobcmlmbblgcdaaGreatDoor

/- Contracts of functions that the law reaches, and what they rest on; each under the premises that it names. Shortened by a program. -/
import Derived.Test.YtecbmndgpepkcaaGreatDoorG13
import Derived.Test.YtecbmndgpepkcaaGreatDoorRead
import Derived.Laws.Tables
namespace Go.Proofs.YtecbmndgpepkcaaGreatDoor
open Tryz
set_option maxHeartbeats 8000000
set_option maxRecDepth 100000
section
open Go
variable{P:Program}{ops:Array Oper}{Q:Exit->Act->World->Prop}{md:Region.Mode}{A:World->Prop}{st:List Nat}
def kh(st:List Nat)(ls:Array Bool):Prop:=∀s∈st,ls.getD s true=false
def XD(P:Program)(md:Region.Mode)(ops:Array Oper)(Q:Exit->Act->World->Prop)(A:World->Prop)(st:List Nat):Nat->Array Bool->Act->World->Prop
 |0,ls,a,w=>Region.ready md ops ls=[]/\Q .normal a w
 |n+1,ls,a,w=>(Region.ready md ops ls=[]->Q .normal a w)/\∀i∈Region.ready md ops ls,wpOp P ops Q i (fun a' w'=>(kh st (ls.setIfInBounds i true)->A w')/\XD P md ops Q A st n (ls.setIfInBounds i true) a' w') a w
theorem yS:∀(n:Nat) (ls:Array Bool) (a:Act) (w:World),XD P md ops Q A st n ls a w->wpAny P md ops Q n ls a w
 |0,_,_,_,h=>h
 |n+1,_,_,_,h=>⟨h.1,fun i hi=>wpOp_mono (fun a' w' hh=>yS n _ a' w' hh.2) (h.2 i hi)⟩
theorem IT{ls:Array Bool}{j:Nat}(h:kh st ls)(hj:∀s∈st,j≠s):kh st (ls.setIfInBounds j true):=fun s hs=>by
 rw[getD_set_ne true (hj s hs)];exact h s hs
def yO(md:Region.Mode)(ops:Array Oper)(st:List Nat)(i:Nat):Prop:=∀s∈st,i≠s/\∀o,ops[s]? =some o->∃e∈o.after,Region.binds md e=true/\e.on=i
theorem LI{ls:Array Bool}{i:Nat}(hr:i∈Region.ready md ops ls):ls.getD i false=true->False:=fun h=>by
 have h0:=(mem_ready.1 hr).1;rw[Array.getD_eq_getD_getElem?]at h h0;cases he:ls[i]? with
 |none=>rw[he]at h;cases h
 |some b=>rw[he]at h h0;simp at h h0;rw[h]at h0;cases h0
theorem ER{i:Nat}{oi:Oper}{v:Value}(hi:ops[i]? =some oi)(hsel:∀(j:Nat) (o:Oper) cs b,ops[j]? =some o->o.op≠.select cs b)
 (hQ:∀c a w,Q (.panic c) (a.put oi.dst v) w->Q (.panic c) a w)(hw:yO md ops st i):∀(n:Nat) (ls:Array Bool) (a:Act) (w:World),kh st ls ->
   (∀j oj,ops[j]? =some oj->j≠i->ls.getD j true=false->(∀e∈oj.after,Region.binds md e=true->e.on≠i)->oi.apart ops oj=true) ->
   i∈Region.ready md ops ls->YieldsIf P ops A oi v a->A w->XD P md ops Q A st n (ls.setIfInBounds i true) (a.put oi.dst v) w->XD P md ops Q A st (n+1) ls a w
 | n,ls,a,w,he,hf,hr,hy,hA,H=>by
   refine⟨fun h=>(by rw[h]at hr;cases hr),fun j hj=>?_⟩;by_cases hji:j=i
   · rw[hji];exact hy.wpOp hi hA ⟨fun _=>hA,H⟩
   · have hrm:=ready_mono hj hji;cases n with
     |zero=>rw[H.1]at hrm;cases hrm
     | succ n=>
       obtain⟨hun,oj,hoj,hall⟩:=mem_ready.1 hj;have hno:∀e∈oj.after,Region.binds md e=true->e.on≠i:=fun e h1 h2 h3=>LI hr (by rw[<-h3];exact hall e h1 h2);have hjs:∀s∈st,j≠s:=fun s hs e=>by
        subst e;obtain⟨x,h1,h2,h3⟩:=(hw j hs).2 oj hoj;exact hno x h1 h2 h3
       have hstep:=wpOp_putIf hoj (hf j oj hoj hji hun hno) (fun cs b=>hsel i oi cs b hi) (fun cs b=>hsel j oj cs b hoj) hQ hy (H.2 j hrm);refine wpOp_mono (fun a' w' h3=>?_) hstep;obtain⟨hY,hE,hL⟩:=h3;have hA':=hE (IT (IT he (fun s hs=>(hw s hs).1)) hjs);refine⟨fun _=>hA',ER hi hsel hQ hw n _ a' w' (IT he hjs) (fun k ok hk hki hku hkn=>hf k ok hk hki ?_ hkn) (ready_mono hr (Ne.symm hji)) hY hA' ?_⟩
       · exact vR
       · rw[Array.setIfInBounds_comm _ _ hji];exact hL
theorem FV{i:Nat}{oi:Oper}{v:Value}(hi:ops[i]? =some oi)(hsel:∀(j:Nat) (o:Oper) cs b,ops[j]? =some o->o.op≠.select cs b)
 (hQ:∀c a w,Q (.panic c) (a.put oi.dst v) w->Q (.panic c) a w)(hw:∀s∈st,i≠s):∀(n:Nat) (ls:Array Bool) (a:Act) (w:World),
   (∀j oj,ops[j]? =some oj->j≠i->ls.getD j true=false->(∀e∈oj.after,Region.binds md e=true->e.on≠i)->oi.apart ops oj=true) ->
   i∈Region.ready md ops ls->YieldsIf P ops (fun _=>True) oi v a->(kh st ls->A w)->XD P md ops Q A st n (ls.setIfInBounds i true) (a.put oi.dst v) w->XD P md ops Q A st (n+1) ls a w
 | n,ls,a,w,hf,hr,hy,hA,H=>by
   refine⟨fun h=>(by rw[h]at hr;cases hr),fun j hj=>?_⟩;by_cases hji:j=i
   · rw[hji];refine hy.wpOp hi trivial ⟨fun he=>hA (fun s hs=>?_),H⟩;have:=he s hs;rwa [getD_set_ne true (hw s hs)]at this
   · have hrm:=ready_mono hj hji;cases n with
     |zero=>rw[H.1]at hrm;cases hrm
     | succ n=>
       obtain⟨hun,oj,hoj,hall⟩:=mem_ready.1 hj;have hno:∀e∈oj.after,Region.binds md e=true->e.on≠i:=fun e h1 h2 h3=>LI hr (by rw[<-h3];exact hall e h1 h2);have hstep:=wpOp_putIf hoj (hf j oj hoj hji hun hno) (fun cs b=>hsel i oi cs b hi) (fun cs b=>hsel j oj cs b hoj) hQ hy (H.2 j hrm);refine wpOp_mono (fun a' w' h3=>?_) hstep;obtain⟨hY,hE,hL⟩:=h3;have hA':kh st (ls.setIfInBounds j true)->A w':=fun he=>hE (by rw[Array.setIfInBounds_comm _ _ (Ne.symm hji)];exact IT he hw);refine⟨hA',FV hi hsel hQ hw n _ a' w' (fun k ok hk hki hku hkn=>hf k ok hk hki ?_ hkn) (ready_mono hr (Ne.symm hji)) hY hA' ?_⟩
       · exact vR
       · rw[Array.setIfInBounds_comm _ _ hji];exact hL
def DK(md:Region.Mode)(ops:Array Oper)(st:List Nat)(i:Nat):Bool:=st.all fun s=> !(i==s)&&(match ops[s]? with|some o=>o.after.any fun e=>Region.binds md e&&e.on==i|none=>true)
theorem zcT{i:Nat}(h:DK md ops st i=true):yO md ops st i:=fun s hs=>by
 have h1:=List.all_eq_true.1 h s hs;rw[Bool.and_eq_true]at h1;refine⟨by simpa using h1.1,fun o ho=>?_⟩;have h2:=h1.2;rw[ho]at h2;obtain⟨k,hk,h3⟩:=Array.any_eq_true.1 h2;rw[Bool.and_eq_true]at h3;exact⟨_,Array.getElem_mem hk,h3.1,by simpa using h3.2⟩
def AF(st:List Nat)(ls:Array Bool):Bool:=st.all fun s=>ls.getD s true==false
theorem zgN{ls:Array Bool}(h:AF st ls=true):kh st ls:=fun s hs=>by simpa using List.all_eq_true.1 h s hs
theorem UB{i:Nat}{oi:Oper}{v:Value}{n:Nat}{ls:Array Bool}{a:Act}{w:World}(hi:ops[i]? =some oi)(hs:Region.noSelect ops=true)(hf:Region.free md ops ls i=true)(hr:(Region.ready md ops ls).contains i=true)
 (hw:DK md ops st i=true)(he:AF st ls=true)(hQ:∀c a w,Q (.panic c) (a.put oi.dst v) w->Q (.panic c) a w)(hy:YieldsIf P ops A oi v a)(hA:A w)
 (h:XD P md ops Q A st n (ls.setIfInBounds i true) (a.put oi.dst v) w):XD P md ops Q A st (n+1) ls a w:=
 ER hi (Region.noSelect_spec hs) hQ (zcT hw) n ls a w (zgN he) (Region.free_spec hi hf) (by simpa using hr) hy hA h
theorem JJ{i:Nat}{oi:Oper}{v:Value}{n:Nat}{ls:Array Bool}{a:Act}{w:World}(hi:ops[i]? =some oi)(hs:Region.noSelect ops=true)(hf:Region.free md ops ls i=true)(hr:(Region.ready md ops ls).contains i=true)
 (hw:(st.all fun s=> !(i==s))=true)(hQ:∀c a w,Q (.panic c) (a.put oi.dst v) w->Q (.panic c) a w)(hy:YieldsIf P ops (fun _=>True) oi v a)(hA:kh st ls->A w)
 (h:XD P md ops Q A st n (ls.setIfInBounds i true) (a.put oi.dst v) w):XD P md ops Q A st (n+1) ls a w:=
 FV hi (Region.noSelect_spec hs) hQ (fun s hs=>by simpa using List.all_eq_true.1 hw s hs) n ls a w (Region.free_spec hi hf) (by simpa using hr) hy hA h
theorem UD{i:Nat}{o:Oper}{n:Nat}{ls:Array Bool}{a:Act}{w:World}(hr:Region.ready md ops ls=[i])(ho:ops[i]? =some o)
 (h:∀K':Act->World->Prop,Shut (∀a w,(kh st (ls.setIfInBounds i true)->A w)->XD P md ops Q A st n (ls.setIfInBounds i true) a w->K' a w)->if Region.wanted o (yielded ops a.tmps)=true then Oper.wp P o a w K' Q else K' (a.put o.dst undef) w):XD P md ops Q A st (n+1) ls a w:=by
 refine⟨fun h0=>(by rw[hr]at h0;cases h0),fun j hj=>?_⟩;rw[hr]at hj;obtain rfl:=List.mem_singleton.1 hj;exact wpOp_step ho (fun K' hK=>h K' (fun a w h1 h2=>hK a w ⟨h1,h2⟩))
theorem ET{ls:Array Bool}{a:Act}{w:World}(hr:Region.ready md ops ls=[])(h:Q .normal a w):∀n,XD P md ops Q A st n ls a w
 |0=>⟨hr,h⟩
 |_+1=>⟨fun _=>h,by rw[hr];simp⟩
theorem Lx{id:Nat}{a:Act}{w:World}(A:World->Prop)(st:List Nat)(hm:P.follows .mixedOrders=true)(h:XD P .any ops Q A st ops.size (Array.replicate ops.size false) a w.drew):(Code.region id ops true).wp P Q a w:=
 wp_region_any hm (yS _ _ _ _ h)
end
section
open Go.RowKit
structure qq(B:Nat)(w:World)(g:Nat)(y:Dm):Prop where
 box:w.heap[g]? =some (.cells (zE y) XQ (0,0))
 rows:Zy B w y
 off:∀a∈y.as,∀p,a=some p->p.block≠g
 lo:B<=g
theorem qb{w:World}{g:Nat}{cs:Array Value}{T:TypeId}(h:w.heap[g]? =some (.cells cs T (0,0)))(i:Nat):w.frozen? ⟨g,i,none⟩=false:=frozen_of_row _ _ _ _ _ h
noncomputable def Zu(t:TypeId)(parts:Array (Nat×Value)):Sem Value:=Instr.build t parts
theorem zfZ(parts:Array (Nat×Value)):Instr.build 120 parts=Zu 120 parts:=rfl
theorem SK(y:Dm)(W:World):(Zu 120 #[(0,.agg (zE y))]).run prog W=.ok (.agg (zE y)) W:=Xl
attribute [irreducible] Zu
theorem qo{W:World}{base k n:Nat}{e:TypeId}{A:Option Addr}{c:Nat}{xs:List Value}(h:W.ownsRow base e k (.slice A n c) n xs):∀p,A=some p->base<=p.block/\p.block<W.heap.size:=fun p hp=>⟨(zD.of_own h).2 p hp,((zD.of_own h).1.pl p hp).2⟩
theorem VL{W W':World}{base k n g i:Nat}{e:TypeId}{v u:Value}{xs:List Value}(hw:W.setCell ⟨g,i,none⟩ u=W')(h:W.ownsRow base e k v n xs)(hg:g<base):W'.ownsRow base e k v n xs:=by
 rw[<-hw];exact Y2 h (qu W g i u) (fun b hb hv=>LM)
attribute [local go_sem ↓] zfZ
theorem Nb(x:Dm)(w:World)(h:Yc w x)(hz:jM x.d):
 Calls prog 49 #[.agg (zE x)] w fun e w'=>∃y g,e=.returned (.pointer (some ⟨g,0,none⟩))/\y.d=x.d/\qq w.heap.size w' g y/\Below w.heap.size w w':=by
 obtain⟨w1,hw1⟩:∃w1,w.alloc (.cells (zE x) qh)=w1:=⟨_,rfl⟩;have hb1:Below w.heap.size w w1:=ZV;have hr1:w1.heap[w.heap.size]? =some (.cells (zE x) qh (0,0)):=Qc;have hs1:w1.heap.size=w.heap.size+1:=YJ;have HN:=za h;have HZ:=za hz;have HW:=za hw1;have HB1:=za hb1;have HR1:=za hr1;have HS1:=za hs1;have HA:Hid (∀W,Below w1.heap.size w1 W->W.cell? ⟨w.heap.size,0,none⟩=some (.slice x.props.A x.props.l.length x.props.c)/\W.cell? ⟨w.heap.size,13,none⟩=some (.slice x.closed.A x.closed.l.length x.closed.c)):=za fun W hW=>by
  have:=(hW.block _ (zh HR1.out)).trans HR1.out;obtain⟨c0,c1,c2,c3,c4,c5,c6,c7,c8,c9,ca,cb,cc,cd⟩:=ZF this;exact⟨c0,cd⟩
 clear h hz hw1 hb1 hr1 hs1;have hx:zE x=#[.slice x.props.A x.props.l.length x.props.c,.slice x.tags.A x.tags.l.length x.tags.c,.slice x.links.A x.links.l.length x.links.c,.slice x.run.A x.run.l.length x.run.c,.slice x.load.A x.load.l.length x.load.c,.string x.nam,.int .i64 x.prio,.string x.own,.string x.grp,.int .i64 x.mode,.string x.res,.int .i64 x.calls,.int .i64 x.ticks,.slice x.closed.A x.closed.l.length x.closed.c]:=rfl;rw[hx]at HW⊢;clear hx;go_enter func49,ntmps49;go_upto_region 1 with fail
 rw[HW.out];refine Lx (fun W=>W.cell? ⟨w.heap.size,0,none⟩=some (.slice x.props.A x.props.l.length x.props.c)/\W.cell? ⟨w.heap.size,13,none⟩=some (.slice x.closed.A x.closed.l.length x.closed.c)) [7,9] zg ?_;have h0:=HA.out w1.drew (zU zk);refine UB (i:=0) (v:=?_) Mn zg zg zg zg zg qf (Or.inl ⟨zj,?_⟩) h0 ?_
 rotate_left
 · exact qs
 try simp only[Act.put,List.setIfInBounds_toArray,List.set_cons_zero,List.set_cons_succ]
 refine UB (i:=1) (v:=?_) zX zg zg zg zg zg qf (Or.inl ⟨zj,?_⟩) h0 ?_
 rotate_left
 · exact qs
 try simp only[Act.put,List.setIfInBounds_toArray,List.set_cons_zero,List.set_cons_succ]
 refine UB (i:=3) (v:=?_) zX zg zg zg zg zg qf (Or.inl ⟨zj,?_⟩) h0 ?_
 rotate_left
 · exact qs
 try simp only[Act.put,List.setIfInBounds_toArray,List.set_cons_zero,List.set_cons_succ]
 refine UB (i:=4) (v:=?_) zX zg zg zg zg zg qf (Or.inl ⟨zj,?_⟩) h0 ?_
 rotate_left
 · exact qs
 try simp only[Act.put,List.setIfInBounds_toArray,List.set_cons_zero,List.set_cons_succ]
 refine UD (i:=2) zg zX (fun K hK=>?_)
 go_simp
 go_at_call 55
 refine(O9 x.props.A x.props.c x.props.l w1.drew (by have:=HZ.out.pr;show x.props.l.length<=_;have e:x.d.props=x.props.l:=rfl;rw[e]at this;omega) ((HN.out.keep (zU HB1.out)).pr.row)).mono ?_;rintro e w2 ⟨A2,c2,rfl,o2,hb2⟩;have hB2:Below w1.heap.size w1 w2:=bt (zU zk) hb2;refine hK.out _ _ (fun _=>HA.out _ hB2) ?_;clear hK K
 try simp only[Act.put,List.setIfInBounds_toArray,List.set_cons_zero,List.set_cons_succ]
 have h1:=HA.out w2 hB2;refine JJ (i:=6) (v:=?_) zX zg zg zg zg qf (Or.inl ⟨zj,?_⟩) (fun _=>h1) ?_
 rotate_left
 · exact qs
 try simp only[Act.put,List.setIfInBounds_toArray,List.set_cons_zero,List.set_cons_succ]
 refine UD (i:=5) zg zX (fun K hK=>?_)
 go_simp
 go_at_call 68
 refine(zbC x.closed.A x.closed.c x.closed.l w2 (by have:=HZ.out.cl;have e:x.d.closed=x.closed.l:=rfl;rw[e]at this;omega) ((HN.out.keep (bt HB1.out hB2)).cl.row)).mono ?_;rintro e w3 ⟨A3,c3,rfl,o3,hb3⟩;have hB3:=bt hB2 hb3;have hr3:=(hB3.block _ (zh HR1.out)).trans HR1.out;have q0:=(ZF hr3).1;have f0:=qb hr3 0;have f1:=qb hr3 13;refine hK.out _ _ (fun _=>HA.out _ hB3) ?_;clear hK K
 try simp only[Act.put,List.setIfInBounds_toArray,List.set_cons_zero,List.set_cons_succ]
 refine UD (i:=7) zg zX (fun K hK=>?_)
 go_simp
 refine hK.out _ _ (fun h=>absurd (h 7 zi) zi) ?_;clear hK K
 try simp only[Act.put,List.setIfInBounds_toArray,List.set_cons_zero,List.set_cons_succ]
 obtain⟨w4,hw4⟩:∃W,w3.setCell ⟨w.heap.size,0,none⟩ (.slice A2 x.props.l.length c2)=W:=⟨_,rfl⟩;rw[hw4];have hr4:=Uz hr3 (i:=0) (.slice A2 x.props.l.length c2);rw[hw4]at hr4;refine JJ (i:=8) (v:=?_) zX zg zg zg zg qf (Or.inl ⟨zj,?_⟩) (fun h=>absurd (h 7 zi) zi) ?_
 rotate_left
 · exact qs
 try simp only[Act.put,List.setIfInBounds_toArray,List.set_cons_zero,List.set_cons_succ]
 have q1:=(ZF hr4).2.2.2.2.2.2.2.2.2.2.2.2.2;have f2:=qb hr4 13;refine UD (i:=9) zg zX (fun K hK=>?_)
 go_simp
 refine hK.out _ _ (fun h=>absurd (h 9 zi) zi) ?_;clear hK K
 try simp only[Act.put,List.setIfInBounds_toArray,List.set_cons_zero,List.set_cons_succ]
 obtain⟨w5,hw5⟩:∃W,w4.setCell ⟨w.heap.size,13,none⟩ (.slice A3 x.closed.l.length c3)=W:=⟨_,rfl⟩;rw[hw5];have hr5:=Uz hr4 (i:=13) (.slice A3 x.closed.l.length c3);rw[hw5]at hr5;refine ET zg ?_ _;clear q0 f0 f1 q1 f2 h0 h1;have hB5:Below w.heap.size w w5:=by rw[<-hw5,<-hw4];exact Zz (Zz (bt HB1.out hB3) zo) zo
 have s2:w1.heap.size<=w2.heap.size:=hB2.size;have s3:w2.heap.size<=w3.heap.size:=hb3.size;have s5:w5.heap.size=w3.heap.size:=by rw[<-hw5,<-hw4];simp[World.setCell]
 have g2:=qo o2;have g3:=qo o3;have p2:=VL hw5 (VL hw4 (qg o2 hb3) LQ) LQ;have p3:=VL hw5 (VL hw4 o3 Oc) Oc;have HR5:Hid (w5.heap[w.heap.size]? =some (.cells (zE {x with props:=⟨A2,c2,x.props.l⟩,closed:=⟨A3,c3,x.closed.l⟩}) qh (0,0))):=za hr5;have HB5:=za hB5;have HS2:=za s2;have HS3:=za s3;have HS5:=za s5;have HG2:=za g2;have HG3:=za g3;have HP2:=za p2;have HP3:=za p3;clear p2 p3 g2 g3 s2 s3 s5 hB5 hr5 hw5 hw4 hr4 hr3 hB3 hb3 hB2 hb2 o2 o3 HA;have HA:Hid (∀W,Below w5.heap.size w5 W->W.cell? ⟨w.heap.size,1,none⟩=some (.slice x.tags.A x.tags.l.length x.tags.c)/\W.cell? ⟨w.heap.size,2,none⟩=some (.slice x.links.A x.links.l.length x.links.c)/\W.cell? ⟨w.heap.size,3,none⟩=some (.slice x.run.A x.run.l.length x.run.c)/\W.cell? ⟨w.heap.size,4,none⟩=some (.slice x.load.A x.load.l.length x.load.c)):=za fun W hW=>by
  have:=(hW.block _ (zh HR5.out)).trans HR5.out;obtain⟨c0,c1,c2,c3,c4,c5,c6,c7,c8,c9,ca,cb,cc,cd⟩:=ZF this;exact⟨c1,c2,c3,c4⟩
 go_upto_region 2 with fail
 refine Lx (fun W=>W.cell? ⟨w.heap.size,1,none⟩=some (.slice x.tags.A x.tags.l.length x.tags.c)/\W.cell? ⟨w.heap.size,2,none⟩=some (.slice x.links.A x.links.l.length x.links.c)/\W.cell? ⟨w.heap.size,3,none⟩=some (.slice x.run.A x.run.l.length x.run.c)/\W.cell? ⟨w.heap.size,4,none⟩=some (.slice x.load.A x.load.l.length x.load.c)) [13,15,17,19] zg ?_;have h0:=HA.out w5.drew (zU zk);refine UB (i:=0) (v:=?_) Mn zg zg zg zg zg qf (Or.inl ⟨zj,?_⟩) h0 ?_
 rotate_left
 · exact qs
 try simp only[Act.put,List.setIfInBounds_toArray,List.set_cons_zero,List.set_cons_succ]
 refine UB (i:=1) (v:=?_) zX zg zg zg zg zg qf (Or.inl ⟨zj,?_⟩) h0 ?_
 rotate_left
 · exact qs
 try simp only[Act.put,List.setIfInBounds_toArray,List.set_cons_zero,List.set_cons_succ]
 refine UB (i:=3) (v:=?_) zX zg zg zg zg zg qf (Or.inl ⟨zj,?_⟩) h0 ?_
 rotate_left
 · exact qs
 try simp only[Act.put,List.setIfInBounds_toArray,List.set_cons_zero,List.set_cons_succ]
 refine UB (i:=4) (v:=?_) zX zg zg zg zg zg qf (Or.inl ⟨zj,?_⟩) h0 ?_
 rotate_left
 · exact qs
 try simp only[Act.put,List.setIfInBounds_toArray,List.set_cons_zero,List.set_cons_succ]
 refine UB (i:=6) (v:=?_) zX zg zg zg zg zg qf (Or.inl ⟨zj,?_⟩) h0 ?_
 rotate_left
 · exact qs
 try simp only[Act.put,List.setIfInBounds_toArray,List.set_cons_zero,List.set_cons_succ]
 refine UB (i:=7) (v:=?_) zX zg zg zg zg zg qf (Or.inl ⟨zj,?_⟩) h0 ?_
 rotate_left
 · exact qs
 try simp only[Act.put,List.setIfInBounds_toArray,List.set_cons_zero,List.set_cons_succ]
 refine UB (i:=9) (v:=?_) zX zg zg zg zg zg qf (Or.inl ⟨zj,?_⟩) h0 ?_
 rotate_left
 · exact qs
 try simp only[Act.put,List.setIfInBounds_toArray,List.set_cons_zero,List.set_cons_succ]
 refine UB (i:=10) (v:=?_) zX zg zg zg zg zg qf (Or.inl ⟨zj,?_⟩) h0 ?_
 rotate_left
 · exact qs
 try simp only[Act.put,List.setIfInBounds_toArray,List.set_cons_zero,List.set_cons_succ]
 refine UD (i:=2) zg zX (fun K hK=>?_)
 go_simp
 go_at_call 69
 refine(I3 x.tags.A x.tags.c x.tags.l w5.drew (by have:=HZ.out.tg;have e:x.d.tags=x.tags.l:=rfl;rw[e]at this;omega) ((HN.out.keep (bt HB5.out (zU (Below.refl w5.heap.size w5)))).tg.row)).mono ?_;rintro e w6 ⟨A6,c6,rfl,o6,hb6⟩;have hB6:Below w5.heap.size w5 w6:=bt (zU (Below.refl w5.heap.size w5)) hb6;refine hK.out _ _ (fun _=>HA.out _ hB6) ?_;clear hK K
 try simp only[Act.put,List.setIfInBounds_toArray,List.set_cons_zero,List.set_cons_succ]
 have h1:=HA.out w6 hB6;refine JJ (i:=12) (v:=?_) zX zg zg zg zg qf (Or.inl ⟨zj,?_⟩) (fun _=>h1) ?_
 rotate_left
 · exact qs
 try simp only[Act.put,List.setIfInBounds_toArray,List.set_cons_zero,List.set_cons_succ]
 refine UD (i:=5) zg zX (fun K hK=>?_)
 go_simp
 go_at_call 69
 refine(I3 x.links.A x.links.c x.links.l w6 (by have:=HZ.out.lk;have e:x.d.links=x.links.l:=rfl;rw[e]at this;omega) ((HN.out.keep (bt HB5.out hB6)).lk.row)).mono ?_;rintro e w7 ⟨A7,c7,rfl,o7,hb7⟩;have hB7:Below w5.heap.size w5 w7:=bt hB6 hb7;refine hK.out _ _ (fun _=>HA.out _ hB7) ?_;clear hK K
 try simp only[Act.put,List.setIfInBounds_toArray,List.set_cons_zero,List.set_cons_succ]
 refine UD (i:=8) zg zX (fun K hK=>?_)
 go_simp
 go_at_call 69
 refine(I3 x.run.A x.run.c x.run.l w7 (by have:=HZ.out.rn;have e:x.d.run=x.run.l:=rfl;rw[e]at this;omega) ((HN.out.keep (bt HB5.out hB7)).rn.row)).mono ?_;rintro e w8 ⟨A8,c8,rfl,o8,hb8⟩;have hB8:Below w5.heap.size w5 w8:=bt hB7 hb8;refine hK.out _ _ (fun _=>HA.out _ hB8) ?_;clear hK K
 try simp only[Act.put,List.setIfInBounds_toArray,List.set_cons_zero,List.set_cons_succ]
 refine UD (i:=11) zg zX (fun K hK=>?_)
 go_simp
 go_at_call 69
 refine(I3 x.load.A x.load.c x.load.l w8 (by have:=HZ.out.ld;have e:x.d.load=x.load.l:=rfl;rw[e]at this;omega) ((HN.out.keep (bt HB5.out hB8)).ld.row)).mono ?_;rintro e w9 ⟨A9,c9,rfl,o9,hb9⟩;have hB9:Below w5.heap.size w5 w9:=bt hB8 hb9;have hr9:=(hB9.block _ (zh HR5.out)).trans HR5.out;have q0:=(ZF hr9).2.1;have f0:=qb hr9 1;refine hK.out _ _ (fun _=>HA.out _ hB9) ?_;clear hK K
 try simp only[Act.put,List.setIfInBounds_toArray,List.set_cons_zero,List.set_cons_succ]
 refine UD (i:=13) zg zX (fun K hK=>?_)
 go_simp
 refine hK.out _ _ (fun h=>absurd (h 13 zi) zi) ?_;clear hK K
 try simp only[Act.put,List.setIfInBounds_toArray,List.set_cons_zero,List.set_cons_succ]
 obtain⟨w10,hw10⟩:∃W,w9.setCell ⟨w.heap.size,1,none⟩ (.slice A6 x.tags.l.length c6)=W:=⟨_,rfl⟩;rw[hw10];have hr10:=Uz hr9 (i:=1) (.slice A6 x.tags.l.length c6);rw[hw10]at hr10;refine JJ (i:=14) (v:=?_) zX zg zg zg zg qf (Or.inl ⟨zj,?_⟩) (fun h=>absurd (h 13 zi) zi) ?_
 rotate_left
 · exact qs
 try simp only[Act.put,List.setIfInBounds_toArray,List.set_cons_zero,List.set_cons_succ]
 have q1:=(ZF hr10).2.2.1;have f1:=qb hr10 2;refine UD (i:=15) zg zX (fun K hK=>?_)
 go_simp
 refine hK.out _ _ (fun h=>absurd (h 15 zi) zi) ?_;clear hK K
 try simp only[Act.put,List.setIfInBounds_toArray,List.set_cons_zero,List.set_cons_succ]
 obtain⟨w11,hw11⟩:∃W,w10.setCell ⟨w.heap.size,2,none⟩ (.slice A7 x.links.l.length c7)=W:=⟨_,rfl⟩;rw[hw11];have hr11:=Uz hr10 (i:=2) (.slice A7 x.links.l.length c7);rw[hw11]at hr11;refine JJ (i:=16) (v:=?_) zX zg zg zg zg qf (Or.inl ⟨zj,?_⟩) (fun h=>absurd (h 13 zi) zi) ?_
 rotate_left
 · exact qs
 try simp only[Act.put,List.setIfInBounds_toArray,List.set_cons_zero,List.set_cons_succ]
 have q2:=(ZF hr11).2.2.2.1;have f2:=qb hr11 3;refine UD (i:=17) zg zX (fun K hK=>?_)
 go_simp
 refine hK.out _ _ (fun h=>absurd (h 17 zi) zi) ?_;clear hK K
 try simp only[Act.put,List.setIfInBounds_toArray,List.set_cons_zero,List.set_cons_succ]
 obtain⟨w12,hw12⟩:∃W,w11.setCell ⟨w.heap.size,3,none⟩ (.slice A8 x.run.l.length c8)=W:=⟨_,rfl⟩;rw[hw12];have hr12:=Uz hr11 (i:=3) (.slice A8 x.run.l.length c8);rw[hw12]at hr12;refine JJ (i:=18) (v:=?_) zX zg zg zg zg qf (Or.inl ⟨zj,?_⟩) (fun h=>absurd (h 13 zi) zi) ?_
 rotate_left
 · exact qs
 try simp only[Act.put,List.setIfInBounds_toArray,List.set_cons_zero,List.set_cons_succ]
 have q3:=(ZF hr12).2.2.2.2.1;have f3:=qb hr12 4;refine UD (i:=19) zg zX (fun K hK=>?_)
 go_simp
 refine hK.out _ _ (fun h=>absurd (h 19 zi) zi) ?_;clear hK K
 try simp only[Act.put,List.setIfInBounds_toArray,List.set_cons_zero,List.set_cons_succ]
 obtain⟨w13,hw13⟩:∃W,w12.setCell ⟨w.heap.size,4,none⟩ (.slice A9 x.load.l.length c9)=W:=⟨_,rfl⟩;rw[hw13];have hr13:=Uz hr12 (i:=4) (.slice A9 x.load.l.length c9);rw[hw13]at hr13;refine ET zg ?_ _;clear q0 f0 q1 f1 q2 f2 q3 f3 h0 h1;obtain⟨y,hy⟩:∃y:Dm,y=({x with props:=⟨A2,c2,x.props.l⟩,tags:=⟨A6,c6,x.tags.l⟩,links:=⟨A7,c7,x.links.l⟩,run:=⟨A8,c8,x.run.l⟩,load:=⟨A9,c9,x.load.l⟩,closed:=⟨A3,c3,x.closed.l⟩}:Dm):=⟨_,rfl⟩;have hrY:w13.heap[w.heap.size]? =some (.cells (zE y) qh (0,0)):=by rw[hy];exact hr13
 have HRY:=za hrY;have HY:=za hy;have hbd:=SK y w13;clear hy hrY hr13 hr12 hr11 hr10 hr9;go_wp2_with (refine wpList_load_row rfl 76 _ rfl _ rfl _ _ _ _ HRY.out underlying76 rfl Qu ?_)
 go_ret;have z1:=HS1.out;have z2:=HS2.out;have z3:=HS3.out;have z5:=HS5.out;have z6:w5.heap.size<=w6.heap.size:=hB6.size;have z7:=hb7.size;have z8:=hb8.size;have z9:=hb9.size;have z13:w13.heap.size=w9.heap.size:=by rw[<-hw13,<-hw12,<-hw11,<-hw10];simp[World.setCell]
 have g2:=HG2.out;have g3:=HG3.out;have g6:=qo o6;have g7:=qo o7;have g8:=qo o8;have g9:=qo o9;have z1d:w1.drew.heap.size=w1.heap.size:=rfl;have z5d:w5.drew.heap.size=w5.heap.size:=rfl;have fin:∀{base k n:Nat} {e:TypeId} {A:Option Addr} {c:Nat} {xs:List Value},w.heap.size<base->w9.ownsRow base e k (.slice A n c) n xs->(w13.alloc (.cells (zE y) XQ)).ownsRow w.heap.size e k (.slice A n c) n xs:=fun hlt h=>Qk (qg (VL hw13 (VL hw12 (VL hw11 (VL hw10 h hlt) hlt) hlt) hlt) zw) (Nat.le_of_lt hlt);have e2:=fin zb (qg HP2.out hB9);have e3:=fin zb (qg HP3.out hB9);have e6:=fin zb (qg (qg (qg o6 hb7) hb8) hb9);have e7:=fin zb (qg (qg o7 hb8) hb9);have e8:=fin zb (qg o8 hb9);have e9:=fin zb o9;have hB13:Below w.heap.size w w13:=by rw[<-hw13,<-hw12,<-hw11,<-hw10];exact Zz (Zz (Zz (Zz (bt HB5.out hB9) zo) zo) zo) zo
 have hy:=HY.out;subst hy;refine⟨({x with props:=⟨A2,c2,x.props.l⟩,tags:=⟨A6,c6,x.tags.l⟩,links:=⟨A7,c7,x.links.l⟩,run:=⟨A8,c8,x.run.l⟩,load:=⟨A9,c9,x.load.l⟩,closed:=⟨A3,c3,x.closed.l⟩}:Dm),w13.heap.size,rfl,rfl,⟨qv,⟨e2,e6,e7,e8,e9,e3,?_⟩,?_,hB13.size⟩,zV hB13⟩
 · refine List.pairwise_cons.2 ⟨fun b hb p q r1 r2=>?_,?_⟩
   · have k1:=g2 p r1;simp only[List.mem_cons,List.not_mem_nil,or_false]at hb;rcases hb with rfl|rfl|rfl|rfl|rfl
     · have k2:=g6 q r2;omega
     · have k2:=g7 q r2;omega
     · have k2:=g8 q r2;omega
     · have k2:=g9 q r2;omega
     · exact Iz
   refine List.pairwise_cons.2 ⟨fun b hb p q r1 r2=>?_,?_⟩
   · have k1:=g6 p r1;simp only[List.mem_cons,List.not_mem_nil,or_false]at hb;rcases hb with rfl|rfl|rfl|rfl
     · have k2:=g7 q r2;omega
     · have k2:=g8 q r2;omega
     · have k2:=g9 q r2;omega
     · exact Iz
   refine List.pairwise_cons.2 ⟨fun b hb p q r1 r2=>?_,?_⟩
   · have k1:=g7 p r1;simp only[List.mem_cons,List.not_mem_nil,or_false]at hb;rcases hb with rfl|rfl|rfl
     · have k2:=g8 q r2;omega
     · have k2:=g9 q r2;omega
     · exact Iz
   refine List.pairwise_cons.2 ⟨fun b hb p q r1 r2=>?_,?_⟩
   · have k1:=g8 p r1;simp only[List.mem_cons,List.not_mem_nil,or_false]at hb;rcases hb with rfl|rfl
     · have k2:=g9 q r2;omega
     · exact Iz
   refine List.pairwise_cons.2 ⟨fun b hb p q r1 r2=>?_,?_⟩
   · have k1:=g9 p r1;simp only[List.mem_cons,List.not_mem_nil,or_false]at hb;rcases hb with rfl
     · exact Iz
   refine List.pairwise_cons.2 ⟨fun b hb p q r1 r2=>?_,?_⟩
   · cases hb
   exact List.Pairwise.nil
 · intro b hb p r1;simp only[Dm.as,List.mem_cons,List.not_mem_nil,or_false]at hb;rcases hb with rfl|rfl|rfl|rfl|rfl|rfl
   · have k1:=g2 p r1;omega
   · have k1:=g6 p r1;omega
   · have k1:=g7 p r1;omega
   · have k1:=g8 p r1;omega
   · have k1:=g9 p r1;omega
   · have k1:=g3 p r1;omega
end
section
open Go.RowKit
def QV(a b:Option Addr):Prop:=∀p q,a=some p->b=some q->p.block≠q.block
theorem QV.symm{a b:Option Addr}(h:QV a b):QV b a:=fun p q h1 h2 e=>h q p h2 h1 e.symm
theorem KI(N:Nat)(A':Option Addr):∀(l:List (Option Addr)) (i:Nat),MR l->(∀a∈l,∀p,a=some p->p.block<N)->(∀p,A'=some p->N<=p.block∨∃q,l[i]? =some (some q)/\q.block=p.block)->MR (l.set i A')
 | [],_,_,_,_=>List.Pairwise.nil
 | x ::l,0,h,hl,hA=>by
   obtain⟨h1,h2⟩:=List.pairwise_cons.1 h;refine List.pairwise_cons.2 ⟨fun b hb p q e1 e2=>?_,h2⟩;rcases hA p e1 with k|⟨r,k1,k2⟩
   · have:=hl b (List.mem_cons_of_mem _ hb) q e2;omega
   · have k1:x=some r:=by simpa using k1
     have:=h1 b hb r q k1 e2;omega
 | x ::l,i+1,h,hl,hA=>by
   obtain⟨h1,h2⟩:=List.pairwise_cons.1 h;refine List.pairwise_cons.2 ⟨fun b hb p q e1 e2=>?_,KI N A' l i h2 (fun a ha=>hl a (List.mem_cons_of_mem _ ha)) (fun p hp=>by simpa using hA p hp)⟩;rcases List.mem_or_eq_of_mem_set hb with hb|rfl
   · exact h1 b hb p q e1 e2
   · rcases hA q e2 with k|⟨r,k1,k2⟩
     · have:=hl x List.mem_cons_self p e1;omega
     · have k1:l[i]? =some (some r):=by simpa using k1
       have:=h1 _ (List.mem_of_getElem? k1) p r e1 rfl;omega
theorem ZJ{A:Option Addr}{n c g:Nat}(h:(Value.slice A n c).ownBlock=some g):∃p,A=some p/\p.block=g:=by
 cases A with
 |none=>cases h
 |some p=>exact⟨p,rfl,zx h⟩
theorem qq.below{B:Nat}{w w':World}{g:Nat}{y:Dm}(h:qq B w g y)(hb:Below w.heap.size w w'):qq B w' g y:=⟨(hb.block _ (zh h.box)).trans h.box,h.rows.below hb,h.off,h.lo⟩
theorem qU{W:World}{base k n m c i g:Nat}{e:TypeId}{A:Option Addr}{u:Value}{xs:List Value}(h:W.ownsRow base e k (.slice A m c) n xs)(ho:∀p,A=some p->p.block≠g):(W.setCell ⟨g,i,none⟩ u).ownsRow base e k (.slice A m c) n xs:=
 Y2 h (qu W g i u) (fun b hb hv=>by
  obtain⟨p,e1,e2⟩:=ZJ hv;exact ho p e1 (e2.trans (zx hb).symm))
theorem qq.store{B:Nat}{w:World}{g:Nat}{y:Dm}(h:qq B w g y)(i:Nat)(v:Value)(y':Dm)(hd:zE y'=(zE y).setIfInBounds i v)(hr:Zy B w y')(ho:∀a∈y'.as,∀p,a=some p->p.block≠g):qq B (w.setCell ⟨g,i,none⟩ v) g y':=by
 have hm:∀a,a∈y'.as->∀p,a=some p->p.block≠g:=ho;refine⟨by rw[hd];exact Uz h.box v,⟨qU hr.pr (hm _ ?_),qU hr.tg (hm _ ?_),qU hr.lk (hm _ ?_),qU hr.rn (hm _ ?_),qU hr.ld (hm _ ?_),qU hr.cl (hm _ ?_),hr.ne⟩,ho,h.lo⟩
 all_goals simp[Dm.as]
theorem Zy.lt{B:Nat}{w:World}{y:Dm}(h:Zy B w y):∀a∈y.as,∀p,a=some p->p.block<w.heap.size:=by
 intro a ha p e;simp only[Dm.as,List.mem_cons,List.not_mem_nil,or_false]at ha;rcases ha with rfl|rfl|rfl|rfl|rfl|rfl
 · exact(qo h.pr p e).2
 · exact(qo h.tg p e).2
 · exact(qo h.lk p e).2
 · exact(qo h.rn p e).2
 · exact(qo h.ld p e).2
 · exact(qo h.cl p e).2
theorem KZ{g N:Nat}{l:List (Option Addr)}{i:Nat}{A':Option Addr}(h:∀a∈l,∀p,a=some p->p.block≠g)(hg:g<N)(hA:∀p,A'=some p->N<=p.block∨∃q,l[i]? =some (some q)/\q.block=p.block):∀a∈l.set i A',∀p,a=some p->p.block≠g:=by
 intro a ha p e;rcases List.mem_or_eq_of_mem_set ha with hb|rfl
 · exact h a hb p e
 · rcases hA p e with k|⟨r,k1,k2⟩
   · omega
   · rw[<-k2];exact h _ (List.mem_of_getElem? k1) r rfl
theorem qq.setProps{B:Nat}{w w':World}{g:Nat}{y:Dm}(h:qq B w g y)(hb:Below w.heap.size w w'){A':Option Addr}{c':Nat}{l':List At}(ho:w'.ownsRow w.heap.size Vc 2 (.slice A' l'.length c') l'.length (cellsOf zu l')):qq B (w'.setCell ⟨g,0,none⟩ (.slice A' l'.length c')) g {y with props:=⟨A',c',l'⟩}:=by
 have hg:=zh h.box;have hA:∀p,A'=some p->w.heap.size<=p.block∨∃q,y.as[0]? =some (some q)/\q.block=p.block:=fun p e=>Or.inl (qo ho p e).1;have hr:=h.rows.below hb;exact(h.below hb).store 0 _ _ rfl ⟨Qk ho (Nat.le_trans h.lo (Nat.le_of_lt hg)),hr.tg,hr.lk,hr.rn,hr.ld,hr.cl,KI w.heap.size A' y.as 0 h.rows.ne h.rows.lt hA⟩ (KZ (i:=0) h.off hg hA)
end
section
open Go.RowKit
def KY(y:Ls At)(o:ByteArray)(m:Int):Dm:=⟨y,⟨none,0,[]⟩,⟨none,0,[]⟩,⟨none,0,[]⟩,⟨none,0,[]⟩,⟨#[]⟩,0,o,o,m,⟨#[]⟩,0,0,⟨none,0,[]⟩⟩
theorem JG{W:World}{base k n g:Nat}{e:TypeId}{v:Value}{xs:List Value}{cs:Array Value}(h:W.ownsRow base e k v n xs)(hg:g<base):(W.setRow g cs).ownsRow base e k v n xs:=
 Y2 h (qK W g cs) (fun b hb hv=>LM)
theorem Zy.row{B g:Nat}{w:World}{x:Dm}{cs:Array Value}(h:Zy B w x)(hg:g<B):Zy B (w.setRow g cs) x:=⟨JG h.pr hg,JG h.tg hg,JG h.lk hg,JG h.rn hg,JG h.ld hg,JG h.cl hg,h.ne⟩
theorem zb8(parts:Array (Nat×Value)):Instr.build 76 parts=Zu 76 parts:=UV
theorem zi5(y:Ls At)(W:World):(Zu 76 #[(0,.slice y.A y.l.length y.c),(7,.string ⟨#[114,111,111,116]⟩),(8,.string ⟨#[114,111,111,116]⟩),(9,.int .i64 384)]).run prog W=.ok (.agg (zE (KY y ⟨#[114,111,111,116]⟩ 384))) W:=Xl
attribute [local go_sem ↓] zb8
theorem zcC(y:Ls At)(w:World)(h:zB 2 zu w y)(hl:y.l.length<=1000):
 Calls prog 71 #[.slice y.A y.l.length y.c] w fun e w'=>∃x,e=.returned (.agg (zE x))/\x.d=R9 y.l/\Zy w.heap.size w' x/\Below w.heap.size w w':=by
 obtain⟨w1,hw1⟩:∃w1,w.alloc (.cells (zE (KY ⟨none,0,[]⟩ ⟨#[]⟩ 0)) qh)=w1:=⟨_,rfl⟩;have hb1:Below w.heap.size w w1:=ZV;have hr1:w1.heap[w.heap.size]? =some (.cells (zE (KY ⟨none,0,[]⟩ ⟨#[]⟩ 0)) qh (0,0)):=Qc;have hs1:w1.heap.size=w.heap.size+1:=YJ;have hN:Yc w1 (KY y ⟨#[114,111,111,116]⟩ 384):=⟨h.keep hb1,zB.empty,zB.empty,zB.empty,zB.empty,zB.empty⟩;have HEd:=za (Nb _ w1 hN ⟨hl,Nat.zero_le _,Nat.zero_le _,Nat.zero_le _,Nat.zero_le _,Nat.zero_le _⟩);have hbd:=zi5 y;have HW:=za hw1;have HB1:=za hb1;have HR1:=za hr1;have HS1:=za hs1;have HBd:=za hbd;clear h hw1 hb1 hr1 hs1 hN hbd;have hx:zE (KY ⟨none,0,[]⟩ ⟨#[]⟩ 0)=#[.slice none 0 0,.slice none 0 0,.slice none 0 0,.slice none 0 0,.slice none 0 0,.string ⟨#[]⟩,.int .i64 0,.string ⟨#[]⟩,.string ⟨#[]⟩,.int .i64 0,.string ⟨#[]⟩,.int .i64 0,.int .i64 0,.slice none 0 0]:=rfl;rw[hx]at HW;clear hx;go_enter func71,ntmps71;go_upto_region 1 with fail
 rw[HW.out];have hbd:=HBd.out w1;go_wp2_with (first
  |(go_at_call 49;refine HEd.out.mono ?_;rintro e w2 ⟨z,g,rfl,hzd,hE,hb2⟩;have HE:=za hE;have HB2:=za hb2;have HZ:=za hzd;have hx2:=(hb2.block _ (zh HR1.out)).trans HR1.out;have HX2:=za hx2;clear hE hb2 hzd hx2 hbd)
  |(refine wpList_load_row rfl 76 _ rfl _ rfl _ _ _ _ HE.out.box underlying76 rfl Qu ?_)
  |(refine wpList_store_row rfl 76 _ _ rfl _ _ rfl rfl _ _ HX2.out Qu rfl GB ?_))
 refine UK rfl zj (setRow_heap _ _ _ _ _ _ HX2.out) underlying76 rfl Qu zj ?_;have hs:=HS1.out;exact⟨z,rfl,HZ.out,(HE.out.rows.row zb).base zb,qz (bt HB1.out HB2.out) zo⟩
end
end Go.Proofs.YtecbmndgpepkcaaGreatDoor

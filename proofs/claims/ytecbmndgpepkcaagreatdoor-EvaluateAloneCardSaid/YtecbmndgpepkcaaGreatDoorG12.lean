/- Contracts that the law rests on, each under the premises that it names. -/
import Derived.Test.YtecbmndgpepkcaaGreatDoorG09
import Derived.Test.YtecbmndgpepkcaaGreatDoorRead
import Derived.Laws.Tables
import Derived.ArgAppend
namespace Go.Proofs.YtecbmndgpepkcaaGreatDoor
open Tryz
set_option maxHeartbeats 8000000
set_option maxRecDepth 100000
section
open Go
variable{P:Program}{ops:Array Oper}{Q:Exit->Act->World->Prop}{md:Region.Mode}{A:World->Prop}{st:List Nat}
def kp(st:List Nat)(ls:Array Bool):Prop:=∀s∈st,ls.getD s true=false
def XH(P:Program)(md:Region.Mode)(ops:Array Oper)(Q:Exit->Act->World->Prop)(A:World->Prop)(st:List Nat):Nat->Array Bool->Act->World->Prop
 |0,ls,a,w=>Region.ready md ops ls=[]/\Q .normal a w
 |n+1,ls,a,w=>(Region.ready md ops ls=[]->Q .normal a w)/\∀i∈Region.ready md ops ls,wpOp P ops Q i (fun a' w'=>(kp st (ls.setIfInBounds i true)->A w')/\XH P md ops Q A st n (ls.setIfInBounds i true) a' w') a w
theorem Cn:∀(n:Nat) (ls:Array Bool) (a:Act) (w:World),XH P md ops Q A st n ls a w->wpAny P md ops Q n ls a w
 |0,_,_,_,h=>h
 |n+1,_,_,_,h=>⟨h.1,fun i hi=>wpOp_mono (fun a' w' hh=>Cn n _ a' w' hh.2) (h.2 i hi)⟩
theorem OV{ls:Array Bool}{j:Nat}(h:kp st ls)(hj:∀s∈st,j≠s):kp st (ls.setIfInBounds j true):=fun s hs=>by
 rw[getD_set_ne true (hj s hs)];exact h s hs
def DK(md:Region.Mode)(ops:Array Oper)(st:List Nat)(i:Nat):Prop:=∀s∈st,i≠s/\∀o,ops[s]? =some o->∃e∈o.after,Region.binds md e=true/\e.on=i
theorem DE{ls:Array Bool}{i:Nat}(hr:i∈Region.ready md ops ls):ls.getD i false=true->False:=fun h=>by
 have h0:=(mem_ready.1 hr).1;rw[Array.getD_eq_getD_getElem?]at h h0;cases he:ls[i]? with
 |none=>rw[he]at h;cases h
 |some b=>rw[he]at h h0;simp at h h0;rw[h]at h0;cases h0
theorem E5{i:Nat}{oi:Oper}{v:Value}(hi:ops[i]? =some oi)(hsel:∀(j:Nat) (o:Oper) cs b,ops[j]? =some o->o.op≠.select cs b)
 (hQ:∀c a w,Q (.panic c) (a.put oi.dst v) w->Q (.panic c) a w)(hw:DK md ops st i):∀(n:Nat) (ls:Array Bool) (a:Act) (w:World),kp st ls ->
   (∀j oj,ops[j]? =some oj->j≠i->ls.getD j true=false->(∀e∈oj.after,Region.binds md e=true->e.on≠i)->oi.apart ops oj=true) ->
   i∈Region.ready md ops ls->YieldsIf P ops A oi v a->A w->XH P md ops Q A st n (ls.setIfInBounds i true) (a.put oi.dst v) w->XH P md ops Q A st (n+1) ls a w
 | n,ls,a,w,he,hf,hr,hy,hA,H=>by
   refine⟨fun h=>(by rw[h]at hr;cases hr),fun j hj=>?_⟩;by_cases hji:j=i
   · rw[hji];exact hy.wpOp hi hA ⟨fun _=>hA,H⟩
   · have hrm:=ready_mono hj hji;cases n with
     |zero=>rw[H.1]at hrm;cases hrm
     | succ n=>
       obtain⟨hun,oj,hoj,hall⟩:=mem_ready.1 hj;have hno:∀e∈oj.after,Region.binds md e=true->e.on≠i:=fun e h1 h2 h3=>DE hr (by rw[<-h3];exact hall e h1 h2);have hjs:∀s∈st,j≠s:=fun s hs e=>by
        subst e;obtain⟨x,h1,h2,h3⟩:=(hw j hs).2 oj hoj;exact hno x h1 h2 h3
       have hstep:=wpOp_putIf hoj (hf j oj hoj hji hun hno) (fun cs b=>hsel i oi cs b hi) (fun cs b=>hsel j oj cs b hoj) hQ hy (H.2 j hrm);refine wpOp_mono (fun a' w' h3=>?_) hstep;obtain⟨hY,hE,hL⟩:=h3;have hA':=hE (OV (OV he (fun s hs=>(hw s hs).1)) hjs);refine⟨fun _=>hA',E5 hi hsel hQ hw n _ a' w' (OV he hjs) (fun k ok hk hki hku hkn=>hf k ok hk hki ?_ hkn) (ready_mono hr (Ne.symm hji)) hY hA' ?_⟩
       · exact FO
       · rw[Array.setIfInBounds_comm _ _ hji];exact hL
theorem DS{i:Nat}{oi:Oper}{v:Value}(hi:ops[i]? =some oi)(hsel:∀(j:Nat) (o:Oper) cs b,ops[j]? =some o->o.op≠.select cs b)
 (hQ:∀c a w,Q (.panic c) (a.put oi.dst v) w->Q (.panic c) a w)(hw:∀s∈st,i≠s):∀(n:Nat) (ls:Array Bool) (a:Act) (w:World),
   (∀j oj,ops[j]? =some oj->j≠i->ls.getD j true=false->(∀e∈oj.after,Region.binds md e=true->e.on≠i)->oi.apart ops oj=true) ->
   i∈Region.ready md ops ls->YieldsIf P ops (fun _=>True) oi v a->(kp st ls->A w)->XH P md ops Q A st n (ls.setIfInBounds i true) (a.put oi.dst v) w->XH P md ops Q A st (n+1) ls a w
 | n,ls,a,w,hf,hr,hy,hA,H=>by
   refine⟨fun h=>(by rw[h]at hr;cases hr),fun j hj=>?_⟩;by_cases hji:j=i
   · rw[hji];refine hy.wpOp hi trivial ⟨fun he=>hA (fun s hs=>?_),H⟩;have:=he s hs;rwa [getD_set_ne true (hw s hs)]at this
   · have hrm:=ready_mono hj hji;cases n with
     |zero=>rw[H.1]at hrm;cases hrm
     | succ n=>
       obtain⟨hun,oj,hoj,hall⟩:=mem_ready.1 hj;have hno:∀e∈oj.after,Region.binds md e=true->e.on≠i:=fun e h1 h2 h3=>DE hr (by rw[<-h3];exact hall e h1 h2);have hstep:=wpOp_putIf hoj (hf j oj hoj hji hun hno) (fun cs b=>hsel i oi cs b hi) (fun cs b=>hsel j oj cs b hoj) hQ hy (H.2 j hrm);refine wpOp_mono (fun a' w' h3=>?_) hstep;obtain⟨hY,hE,hL⟩:=h3;have hA':kp st (ls.setIfInBounds j true)->A w':=fun he=>hE (by rw[Array.setIfInBounds_comm _ _ (Ne.symm hji)];exact OV he hw);refine⟨hA',DS hi hsel hQ hw n _ a' w' (fun k ok hk hki hku hkn=>hf k ok hk hki ?_ hkn) (ready_mono hr (Ne.symm hji)) hY hA' ?_⟩
       · exact FO
       · rw[Array.setIfInBounds_comm _ _ hji];exact hL
def Sr(md:Region.Mode)(ops:Array Oper)(st:List Nat)(i:Nat):Bool:=st.all fun s=> !(i==s)&&(match ops[s]? with|some o=>o.after.any fun e=>Region.binds md e&&e.on==i|none=>true)
theorem zbw{i:Nat}(h:Sr md ops st i=true):DK md ops st i:=fun s hs=>by
 have h1:=List.all_eq_true.1 h s hs;rw[zm3]at h1;refine⟨by simpa using h1.1,fun o ho=>?_⟩;have h2:=h1.2;rw[ho]at h2;obtain⟨k,hk,h3⟩:=Array.any_eq_true.1 h2;rw[zm3]at h3;exact⟨_,Array.getElem_mem hk,h3.1,by simpa using h3.2⟩
def L7(st:List Nat)(ls:Array Bool):Bool:=st.all fun s=>ls.getD s true==false
theorem zby{ls:Array Bool}(h:L7 st ls=true):kp st ls:=fun s hs=>by simpa using List.all_eq_true.1 h s hs
theorem US{i:Nat}{oi:Oper}{v:Value}{n:Nat}{ls:Array Bool}{a:Act}{w:World}(hi:ops[i]? =some oi)(hs:Region.noSelect ops=true)(hf:Region.free md ops ls i=true)(hr:(Region.ready md ops ls).contains i=true)
 (hw:Sr md ops st i=true)(he:L7 st ls=true)(hQ:∀c a w,Q (.panic c) (a.put oi.dst v) w->Q (.panic c) a w)(hy:YieldsIf P ops A oi v a)(hA:A w)
 (h:XH P md ops Q A st n (ls.setIfInBounds i true) (a.put oi.dst v) w):XH P md ops Q A st (n+1) ls a w:=
 E5 hi (Region.noSelect_spec hs) hQ (zbw hw) n ls a w (zby he) (Region.free_spec hi hf) (by simpa using hr) hy hA h
theorem JQ{i:Nat}{oi:Oper}{v:Value}{n:Nat}{ls:Array Bool}{a:Act}{w:World}(hi:ops[i]? =some oi)(hs:Region.noSelect ops=true)(hf:Region.free md ops ls i=true)(hr:(Region.ready md ops ls).contains i=true)
 (hw:(st.all fun s=> !(i==s))=true)(hQ:∀c a w,Q (.panic c) (a.put oi.dst v) w->Q (.panic c) a w)(hy:YieldsIf P ops (fun _=>True) oi v a)(hA:kp st ls->A w)
 (h:XH P md ops Q A st n (ls.setIfInBounds i true) (a.put oi.dst v) w):XH P md ops Q A st (n+1) ls a w:=
 DS hi (Region.noSelect_spec hs) hQ (fun s hs=>by simpa using List.all_eq_true.1 hw s hs) n ls a w (Region.free_spec hi hf) (by simpa using hr) hy hA h
theorem UJ{i:Nat}{o:Oper}{n:Nat}{ls:Array Bool}{a:Act}{w:World}(hr:Region.ready md ops ls=[i])(ho:ops[i]? =some o)
 (h:∀K':Act->World->Prop,Shut (∀a w,(kp st (ls.setIfInBounds i true)->A w)->XH P md ops Q A st n (ls.setIfInBounds i true) a w->K' a w)->if Region.wanted o (yielded ops a.tmps)=true then Oper.wp P o a w K' Q else K' (a.put o.dst undef) w):XH P md ops Q A st (n+1) ls a w:=by
 refine⟨fun h0=>(by rw[hr]at h0;cases h0),fun j hj=>?_⟩;rw[hr]at hj;obtain rfl:=List.mem_singleton.1 hj;exact wpOp_step ho (fun K' hK=>h K' (fun a w h1 h2=>hK a w ⟨h1,h2⟩))
theorem F9{ls:Array Bool}{a:Act}{w:World}(hr:Region.ready md ops ls=[])(h:Q .normal a w):∀n,XH P md ops Q A st n ls a w
 |0=>⟨hr,h⟩
 |_+1=>⟨fun _=>h,by rw[hr];simp⟩
theorem L1{id:Nat}{a:Act}{w:World}(A:World->Prop)(st:List Nat)(hm:P.follows .mixedOrders=true)(h:XH P .any ops Q A st ops.size (Array.replicate ops.size false) a w.drew):(Code.region id ops true).wp P Q a w:=
 wp_region_any hm (Cn _ _ _ _ h)
end
section
open Go.RowKit
structure qx(B:Nat)(w:World)(g:Nat)(y:Dm):Prop where
 box:w.heap[g]? =some (.cells (zI y) Uc (0,0))
 rows:ZG B w y
 off:∀a∈y.as,∀p,a=some p->p.block≠g
 lo:B<=g
theorem qe{w:World}{g:Nat}{cs:Array Value}{T:TypeId}(h:w.heap[g]? =some (.cells cs T (0,0)))(i:Nat):w.frozen? ⟨g,i,none⟩=false:=frozen_of_row _ _ _ _ _ h
noncomputable def ZI(t:TypeId)(parts:Array (Nat×Value)):Sem Value:=Instr.build t parts
theorem zbe(parts:Array (Nat×Value)):Instr.build 120 parts=ZI 120 parts:=rfl
theorem zc1(y:Dm)(W:World):(ZI 120 #[(0,.agg (zI y))]).run prog W=.ok (.agg (zI y)) W:=Xr
attribute [irreducible] ZI
theorem qu{W:World}{base k n:Nat}{e:TypeId}{A:Option Addr}{c:Nat}{xs:List Value}(h:W.ownsRow base e k (.slice A n c) n xs):∀p,A=some p->base<=p.block/\p.block<W.heap.size:=fun p hp=>⟨(zE.of_own h).2 p hp,((zE.of_own h).1.pl p hp).2⟩
theorem UD{W W':World}{base k n g i:Nat}{e:TypeId}{v u:Value}{xs:List Value}(hw:W.setCell ⟨g,i,none⟩ u=W')(h:W.ownsRow base e k v n xs)(hg:g<base):W'.ownsRow base e k v n xs:=by
 rw[<-hw];exact Xw h (qE W g i u) (fun b hb hv=>Sj)
attribute [local go_sem ↓] zbe
theorem Mp(x:Dm)(w:World)(h:Yg w x)(hz:CT x.d):
 Calls prog 49 #[.agg (zI x)] w fun e w'=>∃y g,e=.returned (.pointer (some ⟨g,0,none⟩))/\y.d=x.d/\qx w.heap.size w' g y/\Below w.heap.size w w':=by
 obtain⟨w1,hw1⟩:∃w1,w.alloc (.cells (zI x) qn)=w1:=⟨_,rfl⟩;have hb1:Below w.heap.size w w1:=ZX;have hr1:w1.heap[w.heap.size]? =some (.cells (zI x) qn (0,0)):=Qo;have hs1:w1.heap.size=w.heap.size+1:=YO;have HN:=za h;have HZ:=za hz;have HW:=za hw1;have HB1:=za hb1;have HR1:=za hr1;have HS1:=za hs1;have HA:Hid (∀W,Below w1.heap.size w1 W->W.cell? ⟨w.heap.size,0,none⟩=some (.slice x.props.A x.props.l.length x.props.c)/\W.cell? ⟨w.heap.size,13,none⟩=some (.slice x.closed.A x.closed.l.length x.closed.c)):=za fun W hW=>by
  have:=(hW.block _ (zh HR1.out)).trans HR1.out;obtain⟨c0,c1,c2,c3,c4,c5,c6,c7,c8,c9,ca,cb,cc,cd⟩:=ZV this;exact⟨c0,cd⟩
 clear h hz hw1 hb1 hr1 hs1;have hx:zI x=#[.slice x.props.A x.props.l.length x.props.c,.slice x.tags.A x.tags.l.length x.tags.c,.slice x.links.A x.links.l.length x.links.c,.slice x.run.A x.run.l.length x.run.c,.slice x.load.A x.load.l.length x.load.c,.string x.nam,.int .i64 x.prio,.string x.own,.string x.grp,.int .i64 x.mode,.string x.res,.int .i64 x.calls,.int .i64 x.ticks,.slice x.closed.A x.closed.l.length x.closed.c]:=rfl;rw[hx]at HW⊢;clear hx;go_enter func49,ntmps49;go_upto_region 1 with fail
 rw[HW.out];refine L1 (fun W=>W.cell? ⟨w.heap.size,0,none⟩=some (.slice x.props.A x.props.l.length x.props.c)/\W.cell? ⟨w.heap.size,13,none⟩=some (.slice x.closed.A x.closed.l.length x.closed.c)) [7,9] zg ?_;have h0:=HA.out w1.drew (zN zj);refine US (i:=0) (v:=?_) OY zg zg zg zg zg qm (Or.inl ⟨zk,?_⟩) h0 ?_
 rotate_left
 · exact qA
 try simp only[Act.put,i6,i7,i8]
 refine US (i:=1) (v:=?_) qa zg zg zg zg zg qm (Or.inl ⟨zk,?_⟩) h0 ?_
 rotate_left
 · exact qA
 try simp only[Act.put,i6,i7,i8]
 refine US (i:=3) (v:=?_) qa zg zg zg zg zg qm (Or.inl ⟨zk,?_⟩) h0 ?_
 rotate_left
 · exact qA
 try simp only[Act.put,i6,i7,i8]
 refine US (i:=4) (v:=?_) qa zg zg zg zg zg qm (Or.inl ⟨zk,?_⟩) h0 ?_
 rotate_left
 · exact qA
 try simp only[Act.put,i6,i7,i8]
 refine UJ (i:=2) zg qa (fun K hK=>?_)
 go_simp
 go_at_call 55
 refine(PV x.props.A x.props.c x.props.l w1.drew (by have:=HZ.out.pr;show x.props.l.length<=_;have e:x.d.props=x.props.l:=rfl;rw[e]at this;omega) ((HN.out.keep (zN HB1.out)).pr.row)).mono ?_;rintro e w2 ⟨A2,c2,rfl,o2,hb2⟩;have hB2:Below w1.heap.size w1 w2:=bt (zN zj) hb2;refine hK.out _ _ (fun _=>HA.out _ hB2) ?_;clear hK K
 try simp only[Act.put,i6,i7,i8]
 have h1:=HA.out w2 hB2;refine JQ (i:=6) (v:=?_) qa zg zg zg zg qm (Or.inl ⟨zk,?_⟩) (fun _=>h1) ?_
 rotate_left
 · exact qA
 try simp only[Act.put,i6,i7,i8]
 refine UJ (i:=5) zg qa (fun K hK=>?_)
 go_simp
 go_at_call 68
 refine(zh4 x.closed.A x.closed.c x.closed.l w2 (by have:=HZ.out.cl;have e:x.d.closed=x.closed.l:=rfl;rw[e]at this;omega) ((HN.out.keep (bt HB1.out hB2)).cl.row)).mono ?_;rintro e w3 ⟨A3,c3,rfl,o3,hb3⟩;have hB3:=bt hB2 hb3;have hr3:=(hB3.block _ (zh HR1.out)).trans HR1.out;have q0:=(ZV hr3).1;have f0:=qe hr3 0;have f1:=qe hr3 13;refine hK.out _ _ (fun _=>HA.out _ hB3) ?_;clear hK K
 try simp only[Act.put,i6,i7,i8]
 refine UJ (i:=7) zg qa (fun K hK=>?_)
 go_simp
 refine hK.out _ _ (fun h=>absurd (h 7 zi) zi) ?_;clear hK K
 try simp only[Act.put,i6,i7,i8]
 obtain⟨w4,hw4⟩:∃W,w3.setCell ⟨w.heap.size,0,none⟩ (.slice A2 x.props.l.length c2)=W:=⟨_,rfl⟩;rw[hw4];have hr4:=UU hr3 (i:=0) (.slice A2 x.props.l.length c2);rw[hw4]at hr4;refine JQ (i:=8) (v:=?_) qa zg zg zg zg qm (Or.inl ⟨zk,?_⟩) (fun h=>absurd (h 7 zi) zi) ?_
 rotate_left
 · exact qA
 try simp only[Act.put,i6,i7,i8]
 have q1:=(ZV hr4).2.2.2.2.2.2.2.2.2.2.2.2.2;have f2:=qe hr4 13;refine UJ (i:=9) zg qa (fun K hK=>?_)
 go_simp
 refine hK.out _ _ (fun h=>absurd (h 9 zi) zi) ?_;clear hK K
 try simp only[Act.put,i6,i7,i8]
 obtain⟨w5,hw5⟩:∃W,w4.setCell ⟨w.heap.size,13,none⟩ (.slice A3 x.closed.l.length c3)=W:=⟨_,rfl⟩;rw[hw5];have hr5:=UU hr4 (i:=13) (.slice A3 x.closed.l.length c3);rw[hw5]at hr5;refine F9 zg ?_ _;clear q0 f0 f1 q1 f2 h0 h1;have hB5:Below w.heap.size w w5:=by rw[<-hw5,<-hw4];exact ZF (ZF (bt HB1.out hB3) zo) zo
 have s2:w1.heap.size<=w2.heap.size:=hB2.size;have s3:w2.heap.size<=w3.heap.size:=hb3.size;have s5:w5.heap.size=w3.heap.size:=by rw[<-hw5,<-hw4];simp[World.setCell]
 have g2:=qu o2;have g3:=qu o3;have p2:=UD hw5 (UD hw4 (qi o2 hb3) L6) L6;have p3:=UD hw5 (UD hw4 o3 NH) NH;have HR5:Hid (w5.heap[w.heap.size]? =some (.cells (zI {x with props:=⟨A2,c2,x.props.l⟩,closed:=⟨A3,c3,x.closed.l⟩}) qn (0,0))):=za hr5;have HB5:=za hB5;have HS2:=za s2;have HS3:=za s3;have HS5:=za s5;have HG2:=za g2;have HG3:=za g3;have HP2:=za p2;have HP3:=za p3;clear p2 p3 g2 g3 s2 s3 s5 hB5 hr5 hw5 hw4 hr4 hr3 hB3 hb3 hB2 hb2 o2 o3 HA;have HA:Hid (∀W,Below w5.heap.size w5 W->W.cell? ⟨w.heap.size,1,none⟩=some (.slice x.tags.A x.tags.l.length x.tags.c)/\W.cell? ⟨w.heap.size,2,none⟩=some (.slice x.links.A x.links.l.length x.links.c)/\W.cell? ⟨w.heap.size,3,none⟩=some (.slice x.run.A x.run.l.length x.run.c)/\W.cell? ⟨w.heap.size,4,none⟩=some (.slice x.load.A x.load.l.length x.load.c)):=za fun W hW=>by
  have:=(hW.block _ (zh HR5.out)).trans HR5.out;obtain⟨c0,c1,c2,c3,c4,c5,c6,c7,c8,c9,ca,cb,cc,cd⟩:=ZV this;exact⟨c1,c2,c3,c4⟩
 go_upto_region 2 with fail
 refine L1 (fun W=>W.cell? ⟨w.heap.size,1,none⟩=some (.slice x.tags.A x.tags.l.length x.tags.c)/\W.cell? ⟨w.heap.size,2,none⟩=some (.slice x.links.A x.links.l.length x.links.c)/\W.cell? ⟨w.heap.size,3,none⟩=some (.slice x.run.A x.run.l.length x.run.c)/\W.cell? ⟨w.heap.size,4,none⟩=some (.slice x.load.A x.load.l.length x.load.c)) [13,15,17,19] zg ?_;have h0:=HA.out w5.drew (zN zj);refine US (i:=0) (v:=?_) OY zg zg zg zg zg qm (Or.inl ⟨zk,?_⟩) h0 ?_
 rotate_left
 · exact qA
 try simp only[Act.put,i6,i7,i8]
 refine US (i:=1) (v:=?_) qa zg zg zg zg zg qm (Or.inl ⟨zk,?_⟩) h0 ?_
 rotate_left
 · exact qA
 try simp only[Act.put,i6,i7,i8]
 refine US (i:=3) (v:=?_) qa zg zg zg zg zg qm (Or.inl ⟨zk,?_⟩) h0 ?_
 rotate_left
 · exact qA
 try simp only[Act.put,i6,i7,i8]
 refine US (i:=4) (v:=?_) qa zg zg zg zg zg qm (Or.inl ⟨zk,?_⟩) h0 ?_
 rotate_left
 · exact qA
 try simp only[Act.put,i6,i7,i8]
 refine US (i:=6) (v:=?_) qa zg zg zg zg zg qm (Or.inl ⟨zk,?_⟩) h0 ?_
 rotate_left
 · exact qA
 try simp only[Act.put,i6,i7,i8]
 refine US (i:=7) (v:=?_) qa zg zg zg zg zg qm (Or.inl ⟨zk,?_⟩) h0 ?_
 rotate_left
 · exact qA
 try simp only[Act.put,i6,i7,i8]
 refine US (i:=9) (v:=?_) qa zg zg zg zg zg qm (Or.inl ⟨zk,?_⟩) h0 ?_
 rotate_left
 · exact qA
 try simp only[Act.put,i6,i7,i8]
 refine US (i:=10) (v:=?_) qa zg zg zg zg zg qm (Or.inl ⟨zk,?_⟩) h0 ?_
 rotate_left
 · exact qA
 try simp only[Act.put,i6,i7,i8]
 refine UJ (i:=2) zg qa (fun K hK=>?_)
 go_simp
 go_at_call 69
 refine(Nd x.tags.A x.tags.c x.tags.l w5.drew (by have:=HZ.out.tg;have e:x.d.tags=x.tags.l:=rfl;rw[e]at this;omega) ((HN.out.keep (bt HB5.out (zN (Below.refl w5.heap.size w5)))).tg.row)).mono ?_;rintro e w6 ⟨A6,c6,rfl,o6,hb6⟩;have hB6:Below w5.heap.size w5 w6:=bt (zN (Below.refl w5.heap.size w5)) hb6;refine hK.out _ _ (fun _=>HA.out _ hB6) ?_;clear hK K
 try simp only[Act.put,i6,i7,i8]
 have h1:=HA.out w6 hB6;refine JQ (i:=12) (v:=?_) qa zg zg zg zg qm (Or.inl ⟨zk,?_⟩) (fun _=>h1) ?_
 rotate_left
 · exact qA
 try simp only[Act.put,i6,i7,i8]
 refine UJ (i:=5) zg qa (fun K hK=>?_)
 go_simp
 go_at_call 69
 refine(Nd x.links.A x.links.c x.links.l w6 (by have:=HZ.out.lk;have e:x.d.links=x.links.l:=rfl;rw[e]at this;omega) ((HN.out.keep (bt HB5.out hB6)).lk.row)).mono ?_;rintro e w7 ⟨A7,c7,rfl,o7,hb7⟩;have hB7:Below w5.heap.size w5 w7:=bt hB6 hb7;refine hK.out _ _ (fun _=>HA.out _ hB7) ?_;clear hK K
 try simp only[Act.put,i6,i7,i8]
 refine UJ (i:=8) zg qa (fun K hK=>?_)
 go_simp
 go_at_call 69
 refine(Nd x.run.A x.run.c x.run.l w7 (by have:=HZ.out.rn;have e:x.d.run=x.run.l:=rfl;rw[e]at this;omega) ((HN.out.keep (bt HB5.out hB7)).rn.row)).mono ?_;rintro e w8 ⟨A8,c8,rfl,o8,hb8⟩;have hB8:Below w5.heap.size w5 w8:=bt hB7 hb8;refine hK.out _ _ (fun _=>HA.out _ hB8) ?_;clear hK K
 try simp only[Act.put,i6,i7,i8]
 refine UJ (i:=11) zg qa (fun K hK=>?_)
 go_simp
 go_at_call 69
 refine(Nd x.load.A x.load.c x.load.l w8 (by have:=HZ.out.ld;have e:x.d.load=x.load.l:=rfl;rw[e]at this;omega) ((HN.out.keep (bt HB5.out hB8)).ld.row)).mono ?_;rintro e w9 ⟨A9,c9,rfl,o9,hb9⟩;have hB9:Below w5.heap.size w5 w9:=bt hB8 hb9;have hr9:=(hB9.block _ (zh HR5.out)).trans HR5.out;have q0:=(ZV hr9).2.1;have f0:=qe hr9 1;refine hK.out _ _ (fun _=>HA.out _ hB9) ?_;clear hK K
 try simp only[Act.put,i6,i7,i8]
 refine UJ (i:=13) zg qa (fun K hK=>?_)
 go_simp
 refine hK.out _ _ (fun h=>absurd (h 13 zi) zi) ?_;clear hK K
 try simp only[Act.put,i6,i7,i8]
 obtain⟨w10,hw10⟩:∃W,w9.setCell ⟨w.heap.size,1,none⟩ (.slice A6 x.tags.l.length c6)=W:=⟨_,rfl⟩;rw[hw10];have hr10:=UU hr9 (i:=1) (.slice A6 x.tags.l.length c6);rw[hw10]at hr10;refine JQ (i:=14) (v:=?_) qa zg zg zg zg qm (Or.inl ⟨zk,?_⟩) (fun h=>absurd (h 13 zi) zi) ?_
 rotate_left
 · exact qA
 try simp only[Act.put,i6,i7,i8]
 have q1:=(ZV hr10).2.2.1;have f1:=qe hr10 2;refine UJ (i:=15) zg qa (fun K hK=>?_)
 go_simp
 refine hK.out _ _ (fun h=>absurd (h 15 zi) zi) ?_;clear hK K
 try simp only[Act.put,i6,i7,i8]
 obtain⟨w11,hw11⟩:∃W,w10.setCell ⟨w.heap.size,2,none⟩ (.slice A7 x.links.l.length c7)=W:=⟨_,rfl⟩;rw[hw11];have hr11:=UU hr10 (i:=2) (.slice A7 x.links.l.length c7);rw[hw11]at hr11;refine JQ (i:=16) (v:=?_) qa zg zg zg zg qm (Or.inl ⟨zk,?_⟩) (fun h=>absurd (h 13 zi) zi) ?_
 rotate_left
 · exact qA
 try simp only[Act.put,i6,i7,i8]
 have q2:=(ZV hr11).2.2.2.1;have f2:=qe hr11 3;refine UJ (i:=17) zg qa (fun K hK=>?_)
 go_simp
 refine hK.out _ _ (fun h=>absurd (h 17 zi) zi) ?_;clear hK K
 try simp only[Act.put,i6,i7,i8]
 obtain⟨w12,hw12⟩:∃W,w11.setCell ⟨w.heap.size,3,none⟩ (.slice A8 x.run.l.length c8)=W:=⟨_,rfl⟩;rw[hw12];have hr12:=UU hr11 (i:=3) (.slice A8 x.run.l.length c8);rw[hw12]at hr12;refine JQ (i:=18) (v:=?_) qa zg zg zg zg qm (Or.inl ⟨zk,?_⟩) (fun h=>absurd (h 13 zi) zi) ?_
 rotate_left
 · exact qA
 try simp only[Act.put,i6,i7,i8]
 have q3:=(ZV hr12).2.2.2.2.1;have f3:=qe hr12 4;refine UJ (i:=19) zg qa (fun K hK=>?_)
 go_simp
 refine hK.out _ _ (fun h=>absurd (h 19 zi) zi) ?_;clear hK K
 try simp only[Act.put,i6,i7,i8]
 obtain⟨w13,hw13⟩:∃W,w12.setCell ⟨w.heap.size,4,none⟩ (.slice A9 x.load.l.length c9)=W:=⟨_,rfl⟩;rw[hw13];have hr13:=UU hr12 (i:=4) (.slice A9 x.load.l.length c9);rw[hw13]at hr13;refine F9 zg ?_ _;clear q0 f0 q1 f1 q2 f2 q3 f3 h0 h1;obtain⟨y,hy⟩:∃y:Dm,y=({x with props:=⟨A2,c2,x.props.l⟩,tags:=⟨A6,c6,x.tags.l⟩,links:=⟨A7,c7,x.links.l⟩,run:=⟨A8,c8,x.run.l⟩,load:=⟨A9,c9,x.load.l⟩,closed:=⟨A3,c3,x.closed.l⟩}:Dm):=⟨_,rfl⟩;have hrY:w13.heap[w.heap.size]? =some (.cells (zI y) qn (0,0)):=by rw[hy];exact hr13
 have HRY:=za hrY;have HY:=za hy;have hbd:=zc1 y w13;clear hy hrY hr13 hr12 hr11 hr10 hr9;go_wp2_with (refine wpList_load_row rfl 76 _ rfl _ rfl _ _ _ _ HRY.out underlying76 rfl QD ?_)
 go_ret;have z1:=HS1.out;have z2:=HS2.out;have z3:=HS3.out;have z5:=HS5.out;have z6:w5.heap.size<=w6.heap.size:=hB6.size;have z7:=hb7.size;have z8:=hb8.size;have z9:=hb9.size;have z13:w13.heap.size=w9.heap.size:=by rw[<-hw13,<-hw12,<-hw11,<-hw10];simp[World.setCell]
 have g2:=HG2.out;have g3:=HG3.out;have g6:=qu o6;have g7:=qu o7;have g8:=qu o8;have g9:=qu o9;have z1d:w1.drew.heap.size=w1.heap.size:=rfl;have z5d:w5.drew.heap.size=w5.heap.size:=rfl;have fin:∀{base k n:Nat} {e:TypeId} {A:Option Addr} {c:Nat} {xs:List Value},w.heap.size<base->w9.ownsRow base e k (.slice A n c) n xs->(w13.alloc (.cells (zI y) Uc)).ownsRow w.heap.size e k (.slice A n c) n xs:=fun hlt h=>Qq (qi (UD hw13 (UD hw12 (UD hw11 (UD hw10 h hlt) hlt) hlt) hlt) zu) (X3 hlt);have e2:=fin zb (qi HP2.out hB9);have e3:=fin zb (qi HP3.out hB9);have e6:=fin zb (qi (qi (qi o6 hb7) hb8) hb9);have e7:=fin zb (qi (qi o7 hb8) hb9);have e8:=fin zb (qi o8 hb9);have e9:=fin zb o9;have hB13:Below w.heap.size w w13:=by rw[<-hw13,<-hw12,<-hw11,<-hw10];exact ZF (ZF (ZF (ZF (bt HB5.out hB9) zo) zo) zo) zo
 have hy:=HY.out;subst hy;refine⟨({x with props:=⟨A2,c2,x.props.l⟩,tags:=⟨A6,c6,x.tags.l⟩,links:=⟨A7,c7,x.links.l⟩,run:=⟨A8,c8,x.run.l⟩,load:=⟨A9,c9,x.load.l⟩,closed:=⟨A3,c3,x.closed.l⟩}:Dm),w13.heap.size,rfl,rfl,⟨qt,⟨e2,e6,e7,e8,e9,e3,?_⟩,?_,hB13.size⟩,zP hB13⟩
 · refine List.pairwise_cons.2 ⟨fun b hb p q r1 r2=>?_,?_⟩
   · have k1:=g2 p r1;simp only[List.mem_cons,List.not_mem_nil,or_false]at hb;rcases hb with rfl|rfl|rfl|rfl|rfl
     · have k2:=g6 q r2;omega
     · have k2:=g7 q r2;omega
     · have k2:=g8 q r2;omega
     · have k2:=g9 q r2;omega
     · exact Ik
   refine List.pairwise_cons.2 ⟨fun b hb p q r1 r2=>?_,?_⟩
   · have k1:=g6 p r1;simp only[List.mem_cons,List.not_mem_nil,or_false]at hb;rcases hb with rfl|rfl|rfl|rfl
     · have k2:=g7 q r2;omega
     · have k2:=g8 q r2;omega
     · have k2:=g9 q r2;omega
     · exact Ik
   refine List.pairwise_cons.2 ⟨fun b hb p q r1 r2=>?_,?_⟩
   · have k1:=g7 p r1;simp only[List.mem_cons,List.not_mem_nil,or_false]at hb;rcases hb with rfl|rfl|rfl
     · have k2:=g8 q r2;omega
     · have k2:=g9 q r2;omega
     · exact Ik
   refine List.pairwise_cons.2 ⟨fun b hb p q r1 r2=>?_,?_⟩
   · have k1:=g8 p r1;simp only[List.mem_cons,List.not_mem_nil,or_false]at hb;rcases hb with rfl|rfl
     · have k2:=g9 q r2;omega
     · exact Ik
   refine List.pairwise_cons.2 ⟨fun b hb p q r1 r2=>?_,?_⟩
   · have k1:=g9 p r1;simp only[List.mem_cons,List.not_mem_nil,or_false]at hb;rcases hb with rfl
     · exact Ik
   refine List.pairwise_cons.2 ⟨fun b hb p q r1 r2=>?_,?_⟩
   · cases hb
   exact List.Pairwise.nil
 · intro b hb p r1;simp only[Dm.as,List.mem_cons,List.not_mem_nil,or_false]at hb;rcases hb with rfl|rfl|rfl|rfl|rfl|rfl
   · have k1:=g2 p r1;omega
   · have k1:=g6 p r1;omega
   · have k1:=g7 p r1;omega
   · have k1:=g8 p r1;omega
   · have k1:=g9 p r1;omega
   · have k1:=g3 p r1;omega
end
section
open Go.RowKit
def QX(a b:Option Addr):Prop:=∀p q,a=some p->b=some q->p.block≠q.block
theorem QX.symm{a b:Option Addr}(h:QX a b):QX b a:=fun p q h1 h2 e=>h q p h2 h1 e.symm
theorem KA(N:Nat)(A':Option Addr):∀(l:List (Option Addr)) (i:Nat),Mq l->(∀a∈l,∀p,a=some p->p.block<N)->(∀p,A'=some p->N<=p.block∨∃q,l[i]? =some (some q)/\q.block=p.block)->Mq (l.set i A')
 | [],_,_,_,_=>List.Pairwise.nil
 | x ::l,0,h,hl,hA=>by
   obtain⟨h1,h2⟩:=List.pairwise_cons.1 h;refine List.pairwise_cons.2 ⟨fun b hb p q e1 e2=>?_,h2⟩;rcases hA p e1 with k|⟨r,k1,k2⟩
   · have:=hl b (X6 _ hb) q e2;omega
   · have k1:x=some r:=by simpa using k1
     have:=h1 b hb r q k1 e2;omega
 | x ::l,i+1,h,hl,hA=>by
   obtain⟨h1,h2⟩:=List.pairwise_cons.1 h;refine List.pairwise_cons.2 ⟨fun b hb p q e1 e2=>?_,KA N A' l i h2 (fun a ha=>hl a (X6 _ ha)) (fun p hp=>by simpa using hA p hp)⟩;rcases List.mem_or_eq_of_mem_set hb with hb|rfl
   · exact h1 b hb p q e1 e2
   · rcases hA q e2 with k|⟨r,k1,k2⟩
     · have:=hl x X4 p e1;omega
     · have k1:l[i]? =some (some r):=by simpa using k1
       have:=h1 _ (X7 k1) p r e1 rfl;omega
theorem ZQ{A:Option Addr}{n c g:Nat}(h:(Value.slice A n c).ownBlock=some g):∃p,A=some p/\p.block=g:=by
 cases A with
 |none=>cases h
 |some p=>exact⟨p,rfl,zx h⟩
theorem qx.below{B:Nat}{w w':World}{g:Nat}{y:Dm}(h:qx B w g y)(hb:Below w.heap.size w w'):qx B w' g y:=⟨(hb.block _ (zh h.box)).trans h.box,h.rows.below hb,h.off,h.lo⟩
theorem Ze{W:World}{base k n m c i g:Nat}{e:TypeId}{A:Option Addr}{u:Value}{xs:List Value}(h:W.ownsRow base e k (.slice A m c) n xs)(ho:∀p,A=some p->p.block≠g):(W.setCell ⟨g,i,none⟩ u).ownsRow base e k (.slice A m c) n xs:=
 Xw h (qE W g i u) (fun b hb hv=>by
  obtain⟨p,e1,e2⟩:=ZQ hv;exact ho p e1 (e2.trans (zx hb).symm))
theorem qx.store{B:Nat}{w:World}{g:Nat}{y:Dm}(h:qx B w g y)(i:Nat)(v:Value)(y':Dm)(hd:zI y'=(zI y).setIfInBounds i v)(hr:ZG B w y')(ho:∀a∈y'.as,∀p,a=some p->p.block≠g):qx B (w.setCell ⟨g,i,none⟩ v) g y':=by
 have hm:∀a,a∈y'.as->∀p,a=some p->p.block≠g:=ho;refine⟨by rw[hd];exact UU h.box v,⟨Ze hr.pr (hm _ ?_),Ze hr.tg (hm _ ?_),Ze hr.lk (hm _ ?_),Ze hr.rn (hm _ ?_),Ze hr.ld (hm _ ?_),Ze hr.cl (hm _ ?_),hr.ne⟩,ho,h.lo⟩
 all_goals simp[Dm.as]
theorem ZG.lt{B:Nat}{w:World}{y:Dm}(h:ZG B w y):∀a∈y.as,∀p,a=some p->p.block<w.heap.size:=by
 intro a ha p e;simp only[Dm.as,List.mem_cons,List.not_mem_nil,or_false]at ha;rcases ha with rfl|rfl|rfl|rfl|rfl|rfl
 · exact(qu h.pr p e).2
 · exact(qu h.tg p e).2
 · exact(qu h.lk p e).2
 · exact(qu h.rn p e).2
 · exact(qu h.ld p e).2
 · exact(qu h.cl p e).2
theorem J6{g N:Nat}{l:List (Option Addr)}{i:Nat}{A':Option Addr}(h:∀a∈l,∀p,a=some p->p.block≠g)(hg:g<N)(hA:∀p,A'=some p->N<=p.block∨∃q,l[i]? =some (some q)/\q.block=p.block):∀a∈l.set i A',∀p,a=some p->p.block≠g:=by
 intro a ha p e;rcases List.mem_or_eq_of_mem_set ha with hb|rfl
 · exact h a hb p e
 · rcases hA p e with k|⟨r,k1,k2⟩
   · omega
   · rw[<-k2];exact h _ (X7 k1) r rfl
theorem qx.setProps{B:Nat}{w w':World}{g:Nat}{y:Dm}(h:qx B w g y)(hb:Below w.heap.size w w'){A':Option Addr}{c':Nat}{l':List At}(ho:w'.ownsRow w.heap.size kc 2 (.slice A' l'.length c') l'.length (cellsOf zw l')):qx B (w'.setCell ⟨g,0,none⟩ (.slice A' l'.length c')) g {y with props:=⟨A',c',l'⟩}:=by
 have hg:=zh h.box;have hA:∀p,A'=some p->w.heap.size<=p.block∨∃q,y.as[0]? =some (some q)/\q.block=p.block:=fun p e=>Or.inl (qu ho p e).1;have hr:=h.rows.below hb;exact(h.below hb).store 0 _ _ rfl ⟨Qq ho (i3 h.lo (X3 hg)),hr.tg,hr.lk,hr.rn,hr.ld,hr.cl,KA w.heap.size A' y.as 0 h.rows.ne h.rows.lt hA⟩ (J6 (i:=0) h.off hg hA)
end
section
open Go.RowKit
theorem yE:∀a b:ze,Lib.compareBytes a b=if a<b then -1 else if a=b then 0 else 1
 | [],[]=>TU
 | [],_::_=>TU
 |_::_,[]=>TU
 | a :: x,b::y=>by
   rw[Lib.compareBytes,yE x y];simp only[List.cons_lt_cons_iff];by_cases h1:a<b
   · simp[h1]
   · by_cases h2:b<a
     · have h3:a≠b:=fun e=>by subst e;exact h1 h2
       simp[h1,h2,h3]
     · have h3:a=b:=by
        have:=UInt8.le_antisymm (UInt8.not_lt.1 h2) (UInt8.not_lt.1 h1);exact this
       subst h3;by_cases h4:x<y<;>by_cases h5:x=y<;>simp[h4,h5,h1]
theorem zg5(x:At)(nm0:ByteArray)(W:World):Calls prog 147 #[.agg #[.string x.name,.string x.val],.string nm0] W fun e w'=>e=.returned (.int .i64 (Lib.compareBytes (nm x) (L nm0)))/\Below W.heap.size W w':=by
 have HC:=za (fun W=>strings_Compare x.name nm0 W);go_enter func147,ntmps147;go_wp2_with (go_at_call 82;refine(HC.out _).mono ?_;rintro e w2 ⟨rfl,rfl⟩)
 go_ret;exact⟨rfl,zu⟩
theorem zaf{l:List At}{k:ze}{j:Nat}(hj:j<l.length)(h:j<(ZE l k).length):nm l[j]<k:=by
 have h1:l[j]? =(ZE l k)[j]?:=by
  have:=congrArg (fun m=>m[j]?) (ke l k);rw[<-this];exact zd9 h
 rw[l0 hj,l0 h]at h1;rw[zx h1];exact(MG (X8 h)).1
theorem zjA{l:List At}(ha:Z1 l){k:ze}{j:Nat}(hj:j<l.length)(h:(ZE l k).length<=j):¬nm l[j]<k:=by
 have h1:l[j]? =(QT l k)[j - (ZE l k).length]?:=by
  have:=congrArg (fun m=>m[j]?) (ke l k);rw[<-this];exact ze3 h
 rw[l0 hj]at h1;exact(Mj ha (X7 h1.symm)).1
theorem F3(l:List At)(k:ze):(ZE l k).length<=l.length:=(List.takeWhile_sublist _).length_le
theorem zbn{l:List At}(ha:Z1 l){k:ze}{x:At}(h:l[(ZE l k).length]? =some x):(zX l k).isSome=decide (nm x=k):=by
 obtain⟨hj,rfl⟩:=List.getElem?_eq_some_iff.1 h;have h1:QT l k=l[(ZE l k).length]::(QT l k).drop 1:=by
  have e:l[(ZE l k).length]? =(QT l k)[0]?:=by
   have:=congrArg (fun m=>m[(ZE l k).length]?) (ke l k);rw[<-this];rw[ze3 zo,zj2]
  cases ht:QT l k with
  |nil=>rw[ht,l0 hj]at e;cases e
  |cons y r=>rw[ht,l0 hj]at e;rw[zx e];rfl
 cases hf:zX l k with
 | none=>
   have:=Lt.1 hf;rw[zl0 (fun e=>this (List.mem_map.2 ⟨_,X8 hj,e⟩))];rfl
 | some y=>
   obtain⟨r,h2,_⟩:=Gx ha hf;rw[h2]at h1;injection h1 with h1
   rw[<-h1,zl1 (R5 hf).1];rfl
theorem zcf{l:List At}(ha:Z1 l){k:ze}(h:(ZE l k).length=l.length):(zX l k).isSome=false:=by
 cases hf:zX l k with
 |none=>rfl
 | some y=>
   obtain⟨r,h2,_⟩:=Gx ha hf;have:=congrArg List.length (ke l k);rw[r7,h2,u0]at this;omega
theorem zdn(A:Option Addr)(c:Nat)(l:List At)(nm0:ByteArray)(w:World)(h:zE w A 2 l.length (cellsOf zw l))(hl:l.length<=1000000)(ha:Z1 l):
 Calls prog 146 #[.slice A l.length c,.string nm0,.func (.func 147) #[] #[]] w fun e w'=>e=.returned (.tuple #[.int .i64 (ZE l (L nm0)).length,.bool (zX l (L nm0)).isSome])/\Below w.heap.size w w':=by
 have hK:=F3 l (L nm0);have HLt:=za (fun j (hj:j<l.length) (h:j<(ZE l (L nm0)).length)=>zaf hj h);have HGe:=za (fun j (hj:j<l.length) (h:(ZE l (L nm0)).length<=j)=>zjA ha hj h);have HPl:=za (fun x (h:l[(ZE l (L nm0)).length]? =some x)=>zbn ha h);have HEn:=za (fun(h:(ZE l (L nm0)).length=l.length)=>zcf ha h);have HR:=za h.row;have HSc:=za (fun(x:At) W=>zg5 x nm0 W);clear h ha;generalize (zX l (L nm0)).isSome=ok at*;generalize (ZE l (L nm0)).length=K at*;obtain⟨N,hN⟩:∃N,l.length=N:=⟨_,rfl⟩;have HN:=za hN;rw[hN]at hK hl⊢;clear hN;go_enter func146,ntmps146;go_wp2;go_loopg [9,10,11] (N+1) (fun g s9 s10 _ wr=>∃lo hi:Nat,s9=.int .i64 lo/\s10=.int .i64 hi/\lo<=K/\K<=hi/\hi<=N/\hi - lo<g/\Hid (Below w.heap.size w wr))
 case atStart=>exact⟨0,N,rfl,rfl,X1 _,hK,zo,zb,zj⟩
 case round=>
  obtain⟨lo,hi,rfl,rfl,h1,h2,h3,hg,hB⟩:=hrel;by_cases hlt:lo<hi
  · have hm:(lo+hi) /2<l.length:=by rw[HN.out];omega
    obtain⟨ba,off,rfl,hb,hc⟩:=zr.file Sz hm;obtain⟨c0,c1⟩:=hc wr hB.out;have hmN:((lo:Int)+(hi:Int)) /2<(N:Int):=zb;have HCc:=za (HSc.out l[(lo+hi) /2] wr);have HL:=za (HLt.out _ hm);have HG:=za (HGe.out _ hm);rw[yE]at HCc;generalize l[(lo+hi) /2]=x at*;clear hc;by_cases hx:nm x<L nm0
    · rw[if_pos hx]at HCc;have hKm:(lo+hi) /2<K:=by
       refine Classical.byContradiction fun hn=>HG.out zb hx
      clear hx;go_wp2_with (go_at_call 147;refine HCc.out.mono ?_;rintro e w2 ⟨rfl,hb2⟩;have HB2:=za (bt hB.out hb2);clear hb2)
      go_roundg (hi - ((lo+hi) /2+1)+1)
      case measure=>omega
      case rel=>exact⟨(lo+hi) /2+1,hi,by rw[show((lo:Int)+(hi:Int)) /2+1=(((lo+hi) /2+1:Nat):Int) by omega],rfl,zb,h2,h3,zb,HB2.out⟩
    · have hKm:K<=(lo+hi) /2:=by
       refine Classical.byContradiction fun hn=>hx (HL.out zb)
      have hz:¬((if L x.name=L nm0 then(0:Int)else 1)<0):=by split<;>omega
      rw[if_neg hx]at HCc;clear hx;have hz2:(decide ((if L x.name=L nm0 then(0:Int)else 1)<0))=false:=zl0 hz;generalize (if L x.name=L nm0 then(0:Int)else 1)=z at*;go_wp2_with (go_at_call 147;refine HCc.out.mono ?_;rintro e w2 ⟨rfl,hb2⟩;have HB2:=za (bt hB.out hb2);clear hb2)
      go_roundg ((lo+hi) /2 - lo+1)
      case measure=>omega
      case rel=>exact⟨lo,(lo+hi) /2,rfl,by rw[show((lo:Int)+(hi:Int)) /2=(((lo+hi) /2:Nat):Int) by omega],h1,hKm,zb,zb,HB2.out⟩
  · obtain rfl:lo=K:=by omega
    obtain rfl:hi=lo:=zb;by_cases hn:hi<N
    · have hm:hi<l.length:=by rw[HN.out];exact hn
      obtain⟨ba,off,rfl,hb,hc⟩:=zr.file Sz hm;obtain⟨c0,c1⟩:=hc wr hB.out;have hmN:(hi:Int)<(N:Int):=zb;have HCc:=za (HSc.out l[hi] wr);have hok:=HPl.out _ (l0 hm);have hge:=HGe.out _ hm zo;rw[yE]at HCc;generalize l[hi]=x at*;rw[if_neg hge]at HCc;clear hc hge;by_cases hx:nm x=L nm0
      · rw[if_pos hx]at HCc;rw[zl1 hx]at hok;exact C8
      · rw[if_neg hx]at HCc;rw[zl0 hx]at hok;exact C8
    · have hok:=HEn.out VK;have hf:decide ((hi:Int)<(N:Int))=false:=zK;have HOk:=za hok;clear hok;go_wp2_with (first|(refine⟨(fun f h=>qI),?_⟩))
      go_ret2;exact⟨by rw[HOk.out];rfl,hB.out⟩
end
section
open Go.RowKit
theorem ze1{HA:Option Addr}{hd:List At}{x:At}{W:World}{g:Nat}(hH:zr W W.heap.size HA 2 hd.length (cellsOf zw hd))(hf:(∃b o,HA=some ⟨b,o,none⟩)∨(HA=none/\hd=[]))(hg:W.heap[g]? =some (.cells #[.string x.name,.string x.val] 114 (0,0)))(hl:hd.length<=10000):
 ∃NA nc w',(Zv #[31,31] 31 #[.slice HA hd.length hd.length,.slice (some ⟨g,0,none⟩) 1 1]).run prog W=.ok (.slice NA (hd.length+1) nc) w'/\w'.ownsRow W.heap.size 114 2 (.slice NA (hd.length+1) nc) (hd.length+1) (cellsOf zw (hd++[x]))/\Below W.heap.size W w':=by
 obtain⟨i0,hi0,hz0,hz1,hz2⟩:=info_parts V0;have hc:cellsOf zw (hd++[x])=cellsOf zw hd++zw x:=J7;have hn:∀j u,(zw x)[j]? =some u->W.cell? ((⟨g,0,none⟩:Addr).add j)=some u:=fun j u hu=>EM;rw[hc];rcases hf with⟨b,o,rfl⟩|⟨rfl,rfl⟩
 · obtain⟨v',w',h1,h2,h3⟩:=run_append_arg_grows (P:=prog) W 31 31 114 i0 _ 2 32 underlying31 hi0 hz0 hz1 hz2 rfl zi ⟨b,o,none⟩ hd.length hd.length (cellsOf zw hd) hH.len (fun j u hu=>by
    have hj:=(List.getElem?_eq_some_iff.1 hu).1;rw[hH.len]at hj;obtain⟨b2,o2,e,_,hcc⟩:=hH.at_ zb;injection e with e
    injection e with e1 e2
    subst e1 e2;rw[Ua];exact hcc j u hu) ⟨g,0,none⟩ 1 1 (zw x) rfl hn zb ql zb
   exact SS
 · obtain⟨v',w',h1,h2,h3,_,_⟩:=run_append_own_at (P:=prog) W W.heap.size 31 31 114 i0 _ 2 32 underlying31 hi0 hz0 hz1 hz2 rfl zi (.slice none 0 0) 0 [] (World.ownsRow_nil _ _ _ _) ⟨g,0,none⟩ 1 1 (zw x) rfl hn (yn x) ql zb zo;exact SS
theorem B7(n:Nat)(parts:Array (Nat×Value)):Instr.buildSlice 31 n parts=Yy 31 n parts:=K6
theorem zcY{HA TA:Option Addr}{hc tc:Nat}{hd tl:List At}{W:World}(h1:zr W W.heap.size HA 2 hd.length (cellsOf zw hd))(h2:zr W W.heap.size TA 2 tl.length (cellsOf zw tl))(c1:hd.length<=hc)(c2:tl.length<=tc)(hl:hd.length+tl.length<=30000):
 Calls prog 148 #[.slice (some ⟨W.heap.size,0,none⟩) 2 2] (W.alloc (.cells #[.slice HA hd.length hc,.slice TA tl.length tc] 31)) fun e w'=>∃v,e=.returned v/\kb W (hd++tl) v w':=by
 have hb:=zL W (.cells #[.slice HA hd.length hc,.slice TA tl.length tc] 31);have hD:N4 (W.alloc (.cells #[.slice HA hd.length hc,.slice TA tl.length tc] 31)) (some ⟨W.heap.size,0,none⟩) [⟨HA,hc,hd⟩,⟨TA,tc,tl⟩]:=by
  refine⟨⟨rfl,fun _=>⟨W.heap.size,0,rfl,zl,fun j u hu=>?_⟩⟩,fun y hy=>?_,fun y hy=>?_⟩
  · rw[zk4];exact zd (i5 W _) Gh
  · rcases List.mem_cons.1 hy with rfl|hy
    · exact(h1.keep hb).up hb.size
    · obtain rfl:=List.mem_singleton.1 hy;exact(h2.keep hb).up hb.size
  · rcases List.mem_cons.1 hy with rfl|hy
    · exact c1
    · obtain rfl:=List.mem_singleton.1 hy;exact c2
 refine(zaq (some ⟨W.heap.size,0,none⟩) 2 [⟨HA,hc,hd⟩,⟨TA,tc,tl⟩] _ hD (by simp[KT];omega)).mono ?_;rintro e w' ⟨v,rfl,h3,h4⟩;have e:Z9 [⟨HA,hc,hd⟩,⟨TA,tc,tl⟩]=hd++tl:=by simp[Z9]
 rw[e]at h3;exact⟨v,rfl,Qq h3 hb.size,bt hb h4⟩
attribute [local go_sem ↓] B7 ZU
theorem Bj(y:Ls At)(n0 v0:ByteArray)(w:World)(h:zB 2 zw w y)(hl:y.l.length<=10000)(ha:Z1 y.l):
 Calls prog 115 #[.slice y.A y.l.length y.c,.string n0,.string v0] w fun e w'=>∃v,e=.returned v/\kb w (XK y.l ⟨n0,v0⟩) v w':=by
 obtain⟨A,c,l⟩:=y;have HS:=za (zdn A c l n0 w h.row (by have:l.length<=10000:=hl;omega) ha);have hK:=F3 l (L n0);have hcap:l.length<=c:=h.cap;have hc2:c<=9223372036854775807:=by have:=h.big;unfold maxLen at this;exact this
 have hll:l.length<=10000:=hl;have hht:=congrArg List.length (ke l (L n0));rw[r7]at hht;have hdrop:QT l (L n0)=l.drop (ZE l (L n0)).length:=by
  have:=congrArg (List.drop (ZE l (L n0)).length) (ke l (L n0));rw[List.drop_left]at this;exact this
 have hrest:Xo l (L n0)=if(zX l (L n0)).isSome then l.drop ((ZE l (L n0)).length+1)else l.drop (ZE l (L n0)).length:=by
  cases hf:zX l (L n0)with
  |none=>rw[zcj hf,hdrop];rfl
  | some z=>
    obtain⟨r,h1,h2⟩:=Gx ha hf;rw[h2];have h3:=hdrop;rw[h1]at h3;have:=congrArg (List.drop 1) h3;rw[List.drop_succ_cons,zl4,zl8]at this;exact this
 have hfound:(zX l (L n0)).isSome=true->(ZE l (L n0)).length<l.length:=fun hf=>by
  cases hq:zX l (L n0)with
  |none=>rw[hq]at hf;cases hf
  | some z=>
    obtain⟨r,h1,h2⟩:=Gx ha hq;rw[h1,u0]at hht;omega
 have hHd:ZE l (L n0)=l.take (ZE l (L n0)).length:=by
  have:=congrArg (List.take (ZE l (L n0)).length) (ke l (L n0));rw[List.take_left]at this;exact this
 have hset:XK l ⟨n0,v0⟩=ZE l (L n0)++((if(L v0).isEmpty then []else [⟨n0,v0⟩])++Xo l (L n0)):=rfl;rw[hset];have hrow:=h.row.row;have hpl:=h.row.pl;have hnil:=h.nil;clear hset h hht hdrop hl ha;have Y1:=za hrow;obtain⟨HD,hHD⟩:∃HD,ZE l (L n0)=HD:=⟨_,rfl⟩;obtain⟨RS,hRS⟩:∃RS,Xo l (L n0)=RS:=⟨_,rfl⟩;rw[hHD]at HS hHd hfound hrest hK⊢;rw[hRS]at hrest⊢;generalize (zX l (L n0)).isSome=ok at*;have hrl:RS.length=if ok then l.length - (HD.length+1)else l.length - HD.length:=by rw[hrest];cases ok<;>simp
 have HHead:Hid (∀b o,A=some ⟨b,o,none⟩->zr w w.heap.size (some ⟨b,o,none⟩) 2 HD.length (cellsOf zw HD)):=za fun b o e=>by
  rw[e]at hrow;have:=hrow.head hK;rw[yQ zw 2 (fun _=>rfl),<-hHd]at this;exact this
 have HTail:Hid (∀b o m,A=some ⟨b,o,none⟩->RS=l.drop m->m<=l.length->zr w w.heap.size (some ⟨b,o+m*2,none⟩) 2 RS.length (cellsOf zw RS)):=za fun b o m e e2 hm=>by
  rw[e]at hrow;have:=hrow.tail hm;rw[Sq zw 2 (fun _=>rfl),<-e2]at this;rw[e2,W8];rw[e2]at this;exact this
 have HZero:Hid (∀(X:Option Addr),RS.length=0->zr w w.heap.size X 2 RS.length (cellsOf zw RS)):=za fun X e=>by
  have e2:RS=[]:=List.length_eq_zero_iff.1 e;exact Ch
 have HHz:Hid (∀(X:Option Addr),HD.length=0->zr w w.heap.size X 2 HD.length (cellsOf zw HD)):=za fun X e=>by
  have e2:HD=[]:=List.length_eq_zero_iff.1 e;exact Ch
 have HFin:Hid (∀W v w',Below w.heap.size w W->kb W (HD++((if(L v0).isEmpty then []else [⟨n0,v0⟩])++RS)) v w'->kb w (HD++((if(L v0).isEmpty then []else [⟨n0,v0⟩])++RS)) v w'):=za fun W v w' hb h=>⟨Qq h.1 hb.size,bt hb h.2⟩;have HRS:=za hrest;have hsz0:HD.length<=10000:=zb;have hsz1:RS.length<=10000:=by rw[hrl];split<;>omega
 clear hrow hHd hHD hRS hrest;dsimp only at*;generalize hKe:HD.length=K at*;generalize hNe:l.length=N at*;generalize hMe:RS.length=M at*;have HKe:=za hKe;have HNe:=za hNe;have HMe:=za hMe;clear hKe hNe hMe;have b1:(K:Int)<=(c:Int):=zb;have b2:(K:Int)<=(N:Int):=zb;have HConc:=za (fun(HA TA:Option Addr) (hc tc:Nat) (hd tl:List At) (W:World) h1 h2 c1 c2 hl=>zcY (HA:=HA) (TA:=TA) (hc:=hc) (tc:=tc) (hd:=hd) (tl:=tl) (W:=W) h1 h2 c1 c2 hl);have HApp:=za (fun(HA:Option Addr) (W:World) (g:Nat) hH hf hg hl=>ze1 (HA:=HA) (hd:=HD) (x:=⟨n0,v0⟩) (W:=W) (g:=g) hH hf hg hl);have HSlice:Hid (∀(HA:Option Addr) (W:World),Below w.heap.size w W->zr w w.heap.size HA 2 K (cellsOf zw HD)->((∃b o,HA=some ⟨b,o,none⟩)∨(HA=none/\K=0))->∃NA nc w',(Zv #[31,31] 31 #[.slice HA K K,.slice (some ⟨W.heap.size,0,none⟩) 1 1]).run prog (W.alloc (.cells #[.string n0,.string v0] 114))=.ok (.slice NA (K+1) nc) w'/\w'.ownsRow W.heap.size 114 2 (.slice NA (K+1) nc) (K+1) (cellsOf zw (HD++[⟨n0,v0⟩]))/\Below W.heap.size W w'):=za fun HA W hb hH hf=>by
  have hb2:=bt hb (zL W (.cells #[.string n0,.string v0] 114));have:=HApp.out HA (W.alloc (.cells #[.string n0,.string v0] 114)) W.heap.size (by rw[HKe.out];exact(hH.keep hb2).up hb2.size) (by
   rcases hf with h1|⟨h1,h2⟩
   · exact Or.inl h1
   · exact Or.inr ⟨h1,List.length_eq_zero_iff.1 (by rw[HKe.out];exact h2)⟩) (i5 W _) (by rw[HKe.out];exact hsz0)
  rw[HKe.out]at this;obtain⟨NA,nc,w',h1,h2,h3⟩:=this;exact⟨NA,nc,w',h1,Qq h2 zl,bt zu h3⟩
 obtain⟨MID,hMID⟩:∃M:List At,(if(L v0).isEmpty then []else [⟨n0,v0⟩])=M:=⟨_,rfl⟩;rw[hMID]at HFin⊢;have HMID:=za hMID;clear hMID;have hE:(v0.toList=[]/\v0.toList.isEmpty=true)∨(¬v0.toList=[]/\v0.toList.isEmpty=false):=by
  rcases Classical.em (v0.toList=[])with he|he
  · exact Or.inl ⟨he,Gk⟩
  · exact Or.inr ⟨he,by rw[tl];exact XC he⟩
 cases A with
 | none=>
   have hc0:c=0:=hnil rfl;have hN0:N=0:=zb;have hK0:K=0:=zb;obtain rfl:ok=false:=by
    cases ok with
    |false=>rfl
    |true=>have:=hfound rfl;omega
   subst hc0 hN0 hK0;clear hpl hnil hfound;have hrl0:M=0:=RZ;clear hrl;go_enter func115,ntmps115;go_wp2_with (go_at_call 146;refine HS.out.mono ?_;rintro e w2 ⟨rfl,hb2⟩;have HB2:=za hb2;clear hb2)
   go_quiet (fail)
   go_upto_region 5 with fail
   obtain⟨W,hW⟩:∃W,w2.drewN nq=W:=⟨_,rfl⟩;have hbW:Below w.heap.size w W:=jl;rw[hW];clear hW;have hT:zr w w.heap.size none 2 M (cellsOf zw RS):=by subst hrl0;exact HZero.out none (by trivial)
   subst hrl0;rcases hE with⟨hE1,hv⟩|⟨hE1,hv⟩
   · skip
     have hv2:(L v0).isEmpty=true:=J2;have HC1:=HConc.out none none 0 0 HD RS W (by rw[HKe.out];exact((HHz.out none (by trivial)).keep hbW).up hbW.size) PG jM (by rw[HMe.out];omega) (by rw[HKe.out,HMe.out];omega);exact jC
   · skip
     have hv2:(L v0).isEmpty=false:=J2;have hbs:=VE (P:=prog) underlying31 V0 zi zi #[.string n0,.string v0] rfl W;obtain⟨NA,nc,w4,hap,hown,hb4⟩:=HSlice.out none W hbW (HHz.out none (by trivial)) (Or.inr ⟨rfl,by trivial⟩);have hLs:=zB.of_own (l:=HD++[⟨n0,v0⟩]) (k:=2) (enc:=zw) (A:=NA) (c:=nc) PU;have hl2:(HD++[(⟨n0,v0⟩:At)]).length=0+1:=jE;have hbW4:=bt hbW hb4;have hcp:=hLs.1.cap;dsimp only at hcp;rw[hl2]at hcp;have HC1:=HConc.out NA none nc 0 (HD++[⟨n0,v0⟩]) RS w4 hLs.1.row.row T9 Rn (by rw[HMe.out];omega) (by rw[hl2,HMe.out];omega);exact TR
 | some a=>
   obtain⟨ea,hlt⟩:=hpl a rfl;clear hpl hnil;obtain⟨ba,hba⟩:∃ba,a.block=ba:=⟨_,rfl⟩;obtain⟨off,hof⟩:∃off,a.off=off:=⟨_,rfl⟩;rw[hba,hof]at ea;subst ea;have hHH:=HHead.out ba off rfl;cases ok with
   | false=>
     have hM:M=N - K:=RZ;clear hrl hfound;go_enter func115,ntmps115;go_wp2_with (go_at_call 146;refine HS.out.mono ?_;rintro e w2 ⟨rfl,hb2⟩;have HB2:=za hb2;clear hb2)
     go_quiet (fail)
     go_upto_region 5 with fail
     obtain⟨W,hW⟩:∃W,w2.drewN nq=W:=⟨_,rfl⟩;have hbW:Below w.heap.size w W:=jl;rw[hW];clear hW;obtain⟨TA,hTA⟩:∃TA:Option Addr,(if c=K then(some ⟨ba,off,none⟩:Option Addr)else some ⟨ba,off+K*2,none⟩)=TA:=⟨_,rfl⟩;have hT:zr w w.heap.size TA 2 M (cellsOf zw RS):=by
      rw[<-hTA]
      split;(· exact HZero.out (some ⟨ba,off,none⟩) zb);(· exact HTail.out ba off K rfl HRS.out hK)
     rw[<-hM];have HM:=za hM;clear hM;rw[hTA];clear hTA;rcases hE with⟨hE1,hv⟩|⟨hE1,hv⟩
     · skip
       have hv2:(L v0).isEmpty=true:=J2;have HC1:=HConc.out (some ⟨ba,off,none⟩) TA K (c - K) HD RS W EB PG jM NQ L0;exact jC
     · skip
       have hv2:(L v0).isEmpty=false:=J2;have hbs:=VE (P:=prog) underlying31 V0 zi zi #[.string n0,.string v0] rfl W;obtain⟨NA,nc,w4,hap,hown,hb4⟩:=HSlice.out (some ⟨ba,off,none⟩) W hbW hHH (Or.inl ⟨_,_,rfl⟩);have hLs:=zB.of_own (l:=HD++[⟨n0,v0⟩]) (k:=2) (enc:=zw) (A:=NA) (c:=nc) PU;have hl2:(HD++[(⟨n0,v0⟩:At)]).length=K+1:=jE;have hbW4:=bt hbW hb4;have hcp:=hLs.1.cap;dsimp only at hcp;rw[hl2]at hcp;have HC1:=HConc.out NA TA nc (c - K) (HD++[⟨n0,v0⟩]) RS w4 hLs.1.row.row T9 Rn NQ Co;exact TR
   | true=>
     have hKN:=hfound rfl;have hM:M=N - (K+1):=RZ;clear hrl hfound;have hcK:¬c=K:=zb;have b3:(1:Int)<=((N - K:Nat):Int):=zb;have b4:(1:Int)<=((c - K:Nat):Int):=zb;go_enter func115,ntmps115;go_wp2_with (go_at_call 146;refine HS.out.mono ?_;rintro e w2 ⟨rfl,hb2⟩;have HB2:=za hb2;clear hb2)
     go_quiet (fail)
     go_upto_region 5 with fail
     obtain⟨W,hW⟩:∃W,w2.drewN nq=W:=⟨_,rfl⟩;have hbW:Below w.heap.size w W:=jl;rw[hW];clear hW;obtain⟨TA,hTA⟩:∃TA:Option Addr,(if c - K=1 then(some ⟨ba,off+K*2,none⟩:Option Addr)else some ⟨ba,off+K*2+2,none⟩)=TA:=⟨_,rfl⟩;have hT:zr w w.heap.size TA 2 M (cellsOf zw RS):=by
      rw[<-hTA]
      split;(· exact HZero.out (some ⟨ba,off+K*2,none⟩) zb);(· have:=HTail.out ba off (K+1) rfl HRS.out zb;rw[Nat.add_mul,<-zk5]at this;exact this)
     rw[show N - K - 1=M from by omega];have HM:=za hM;clear hM;rw[hTA];clear hTA;rcases hE with⟨hE1,hv⟩|⟨hE1,hv⟩
     · skip
       have hv2:(L v0).isEmpty=true:=J2;have HC1:=HConc.out (some ⟨ba,off,none⟩) TA K (c - K - 1) HD RS W EB PG jM NQ L0;exact jC
     · skip
       have hv2:(L v0).isEmpty=false:=J2;have hbs:=VE (P:=prog) underlying31 V0 zi zi #[.string n0,.string v0] rfl W;obtain⟨NA,nc,w4,hap,hown,hb4⟩:=HSlice.out (some ⟨ba,off,none⟩) W hbW hHH (Or.inl ⟨_,_,rfl⟩);have hLs:=zB.of_own (l:=HD++[⟨n0,v0⟩]) (k:=2) (enc:=zw) (A:=NA) (c:=nc) PU;have hl2:(HD++[(⟨n0,v0⟩:At)]).length=K+1:=jE;have hbW4:=bt hbW hb4;have hcp:=hLs.1.cap;dsimp only at hcp;rw[hl2]at hcp;have HC1:=HConc.out NA TA nc (c - K - 1) (HD++[⟨n0,v0⟩]) RS w4 hLs.1.row.row T9 Rn NQ Co;exact TR
end
section
open Go.RowKit
def JU(y:Ls At)(o:ByteArray)(m:Int):Dm:=⟨y,⟨none,0,[]⟩,⟨none,0,[]⟩,⟨none,0,[]⟩,⟨none,0,[]⟩,⟨#[]⟩,0,o,o,m,⟨#[]⟩,0,0,⟨none,0,[]⟩⟩
theorem Jo{W:World}{base k n g:Nat}{e:TypeId}{v:Value}{xs:List Value}{cs:Array Value}(h:W.ownsRow base e k v n xs)(hg:g<base):(W.setRow g cs).ownsRow base e k v n xs:=
 Xw h (qR W g cs) (fun b hb hv=>Sj)
theorem ZG.row{B g:Nat}{w:World}{x:Dm}{cs:Array Value}(h:ZG B w x)(hg:g<B):ZG B (w.setRow g cs) x:=⟨Jo h.pr hg,Jo h.tg hg,Jo h.lk hg,Jo h.rn hg,Jo h.ld hg,Jo h.cl hg,h.ne⟩
theorem zkv(parts:Array (Nat×Value)):Instr.build 76 parts=ZI 76 parts:=U7
theorem zjO(y:Ls At)(W:World):(ZI 76 #[(0,.slice y.A y.l.length y.c),(7,.string ⟨#[114,111,111,116]⟩),(8,.string ⟨#[114,111,111,116]⟩),(9,.int .i64 384)]).run prog W=.ok (.agg (zI (JU y ⟨#[114,111,111,116]⟩ 384))) W:=Xr
attribute [local go_sem ↓] zkv
theorem zkz(y:Ls At)(w:World)(h:zB 2 zw w y)(hl:y.l.length<=1000):
 Calls prog 71 #[.slice y.A y.l.length y.c] w fun e w'=>∃x,e=.returned (.agg (zI x))/\x.d=RU y.l/\ZG w.heap.size w' x/\Below w.heap.size w w':=by
 obtain⟨w1,hw1⟩:∃w1,w.alloc (.cells (zI (JU ⟨none,0,[]⟩ ⟨#[]⟩ 0)) qn)=w1:=⟨_,rfl⟩;have hb1:Below w.heap.size w w1:=ZX;have hr1:w1.heap[w.heap.size]? =some (.cells (zI (JU ⟨none,0,[]⟩ ⟨#[]⟩ 0)) qn (0,0)):=Qo;have hs1:w1.heap.size=w.heap.size+1:=YO;have hN:Yg w1 (JU y ⟨#[114,111,111,116]⟩ 384):=⟨h.keep hb1,zB.empty,zB.empty,zB.empty,zB.empty,zB.empty⟩;have HEd:=za (Mp _ w1 hN ⟨hl,X1 _,X1 _,X1 _,X1 _,X1 _⟩);have hbd:=zjO y;have HW:=za hw1;have HB1:=za hb1;have HR1:=za hr1;have HS1:=za hs1;have HBd:=za hbd;clear h hw1 hb1 hr1 hs1 hN hbd;have hx:zI (JU ⟨none,0,[]⟩ ⟨#[]⟩ 0)=#[.slice none 0 0,.slice none 0 0,.slice none 0 0,.slice none 0 0,.slice none 0 0,.string ⟨#[]⟩,.int .i64 0,.string ⟨#[]⟩,.string ⟨#[]⟩,.int .i64 0,.string ⟨#[]⟩,.int .i64 0,.int .i64 0,.slice none 0 0]:=rfl;rw[hx]at HW;clear hx;go_enter func71,ntmps71;go_upto_region 1 with fail
 rw[HW.out];have hbd:=HBd.out w1;go_wp2_with (first
  |(go_at_call 49;refine HEd.out.mono ?_;rintro e w2 ⟨z,g,rfl,hzd,hE,hb2⟩;have HE:=za hE;have HB2:=za hb2;have HZ:=za hzd;have hx2:=(hb2.block _ (zh HR1.out)).trans HR1.out;have HX2:=za hx2;clear hE hb2 hzd hx2 hbd)
  |(refine wpList_load_row rfl 76 _ rfl _ rfl _ _ _ _ HE.out.box underlying76 rfl QD ?_)
  |(refine wpList_store_row rfl 76 _ _ rfl _ _ rfl rfl _ _ HX2.out QD rfl Gz ?_))
 refine Vf rfl zk (setRow_heap _ _ _ _ _ _ HX2.out) underlying76 rfl QD zk ?_;have hs:=HS1.out;exact⟨z,rfl,HZ.out,(HE.out.rows.row zb).base zb,qB (bt HB1.out HB2.out) zo⟩
end
end Go.Proofs.YtecbmndgpepkcaaGreatDoor

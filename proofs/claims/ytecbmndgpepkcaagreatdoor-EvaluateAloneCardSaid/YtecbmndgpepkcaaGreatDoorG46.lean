/- Contracts that the law rests on, each under the premises that it names. -/
import Derived.Test.YtecbmndgpepkcaaGreatDoorG45
namespace Go.Proofs.YtecbmndgpepkcaaGreatDoor
open Tryz
set_option maxHeartbeats 8000000
set_option maxRecDepth 100000
section
def qo(d:Dd):Dd:={d with nam:=⟨#[]⟩}
theorem Rv:∀(r:List Dd) (n:Int),qv (qv r n) n=qv r n
 | [],_=>rfl
 | d ::r,n=>by
   rw[qv]
   split
   · rename_i h;rw[qv,if_pos h,Rv r d.pa]
   · exact Rv r n
theorem M2:∀{r:List Dd} (n:Int),UF r->UF (qv r n)
 | [],_,h=>h
 | d ::r,n,h=>by
   rw[qv]
   split
   · refine⟨h.1,fun x hx=>h.2.1 x (Jh r _ x hx),?_,M2 d.pa h.2.2.2⟩;rcases h.2.2.1 with e|⟨y,hy,e⟩
     · exact Or.inl e
     · refine Or.inr ⟨y,?_,e⟩;rw[<-e,NU h.2.2.2 y hy];exact X4 ..
   · exact M2 n h.2.2.2
theorem TN{l:List Dd}(hw:Z8 l)(n:Int):zC l n=(zW l n).head?:=by
 cases h:zC l n with
 |none=>rw[yG h];rfl
 |some x=>rw[Gr hw h];rfl
theorem Eg{l:List Dd}(hw:Z8 l){n:Int}{x:Dd}(h:zC l n=some x):zC l x.pa=(zW l n).tail.head?:=by
 rw[TN hw x.pa,Gr hw h];rfl
structure ks(i j:QV):Prop where
 act:i.act=j.act
 ix:i.ix=j.ix
 par:i.par=j.par
 hps:i.hps=j.hps
 lim:i.lim=j.lim
 wi:Z8 i.tree
 wj:Z8 j.tree
 ch:(zW i.tree i.ix).map qo=(zW j.tree j.ix).map qo
structure U0(c k:qp):Prop where
 i:ks c.i k.i
 dev:qo c.dev=qo k.dev
 org:c.org=k.org
 pnt:c.pnt=k.pnt
structure Qt(x y:Ev):Prop where
 dr:x.dr=y.dr
 ab:qo x.ab=qo y.ab
 re:x.re=y.re
theorem TL{a b:Dd}(h:qo a=qo b):a.og=b.og:=by have:=congrArg Dd.og h;exact this
theorem zhE{a b:Dd}(h:qo a=qo b):a.dr=b.dr:=by have:=congrArg Dd.dr h;exact this
theorem Ag{a b:Dd}(h:qo a=qo b):a.ats=b.ats:=by have:=congrArg Dd.ats h;exact this
theorem AP{a b:Dd}(h:qo a=qo b):a.kd=b.kd:=by have:=congrArg Dd.kd h;exact this
theorem zjm{a b:Dd}(h:qo a=qo b):a.pa=b.pa:=by have:=congrArg Dd.pa h;exact this
theorem zjJ{a b:Dd}(h:qo a=qo b):a.ix=b.ix:=by have:=congrArg Dd.ix h;exact this
theorem vz(t:Tm)(d:Dd):XN t (qo d)=XN t d:=rfl
theorem zfl{a b:Dd}(h:qo a=qo b)(t:Tm):XN t a=XN t b:=by rw[<-vz t a,h,vz]
theorem zaI{c k:qp}{x y:Ev}(hc:U0 c k)(hx:Qt x y):NB c x=NB k y:=by
 unfold NB;rw[TL hc.dev,hc.org,TL hx.ab,zhE hx.ab,hc.pnt,hx.dr,Ag hc.dev,Ag hx.ab]
theorem vo{c k:qp}{x y:Ev}(hc:U0 c k)(hx:Qt x y)(s:ByteArray):Qp c x s=Qp k y s:=by
 unfold Qp;rw[zaI hc hx]
theorem SQ{c k:qp}{x y:Ev}(hc:U0 c k)(hx:Qt x y)(s:ByteArray):qN c x s=qN k y s:=by
 unfold qN;rw[vo hc hx,hc.i.hps,hc.i.lim,hx.dr]
theorem zbl{p:Dd->Bool}(hp:∀d,p (qo d)=p d){a b:List Dd}(h:a.map qo=b.map qo):(a.find? p).map qo=(b.find? p).map qo:=by
 have e:∀l:List Dd,(l.find? p).map qo=(l.map qo).find? p:=fun l=>by
  rw[List.find?_map]
  congr 1
  congr 1
  funext d
  exact(hp d).symm
 rw[e,e,h]
theorem AD{a b:List Dd}(h:a.map qo=b.map qo):a.head?.map qo=b.head?.map qo:=by
 rw[<-List.head?_map,<-List.head?_map,h]
theorem zf8{i j:QV}(h:ks i j)(l:List Tm):(Q1 l i.tree i.ix).map qo=(Q1 l j.tree j.ix).map qo:=by
 unfold Q1;exact zbl (fun d=>rfl) h.ch
theorem OQ{i j:QV}(h:ks i j):(zC i.tree i.ix).map qo=(zC j.tree j.ix).map qo:=by
 rw[TN h.wi,TN h.wj];exact AD h.ch
theorem jx:∀(c:List Dd),orgS (c.map qo)=orgS c
 | []=>rfl
 |d::c=>by rw[zl3,N1,N1,jx c];rfl
theorem PW{i j:QV}(h:ks i j):qK i.tree i.ix=qK j.tree j.ix:=by
 unfold qK;rw[<-jx,h.ch,jx]
theorem vg:∀(r:List Dd) (p:ByteArray),(r.map qo).foldl (fun p a=>Ue a++JF++p) p=r.foldl (fun p a=>Ue a++JF++p) p
 | [],_=>rfl
 |d::r,p=>by rw[zl3,zl2,zl2];exact vg r _
theorem CD(c:List Dd):Xp (c.map qo)=Xp c:=by
 cases c with
 |nil=>rfl
 |cons d r=>unfold Xp;rw[zl3];dsimp only;rw[vg];rfl
theorem MV{α:Type}{a b:Option Dd}(h:a.map qo=b.map qo){f:Dd->α}(hf:∀d,f (qo d)=f d):a.map f=b.map f:=by
 cases a with
 | none=>
   cases b with
   |none=>rfl
   |some y=>cases h
 | some x=>
   cases b with
   |none=>cases h
   | some y=>
     have e:qo x=qo y:=zx h;show some (f x)=some (f y);rw[<-hf x,e,hf y]
theorem zhT{i j:QV}(h:ks i j)(n:ByteArray):QM n i.tree i.ix=QM n j.tree j.ix:=by
 have hf:=OQ h;have e1:Uv i.tree i.ix=Uv j.tree j.ix:=by
  unfold Uv;have e:Xp (zW i.tree i.ix)=Xp (zW j.tree j.ix):=by rw[<-CD,h.ch,CD]
  rw[e];cases ha:zC i.tree i.ix<;>cases hb:zC j.tree j.ix<;>rw[ha,hb]at hf<;>first|rfl|cases hf
 have e2:(match zC i.tree i.ix with|some d=>UQ d|none=>[])=(match zC j.tree j.ix with|some d=>UQ d|none=>[]):=by
  have:=MV hf (f:=UQ) (fun d=>rfl);exact Rx
 have e3:(match zC i.tree i.ix with|some d=>Vw d|none=>[])=(match zC j.tree j.ix with|some d=>Vw d|none=>[]):=by
  have:=MV hf (f:=Vw) (fun d=>rfl);exact Rx
 unfold QM
 split
 · exact e1
 split
 · exact e2
 split
 · exact e3
 · rfl
theorem zdU{i j:QV}(h:ks i j):YG i.tree i.ix=YG j.tree j.ix:=by
 have hf:=OQ h;unfold YG;rw[PW h];have:=MV hf (f:=fun d=>kK d (qK j.tree j.ix)) (fun d=>rfl);exact Rx
theorem Qt.imp{x y:Ev}(h:Qt x y)(l:List At):Qt (Y5 x l) (Y5 y l):=⟨by unfold Y5;rw[h.dr],h.ab,h.re⟩
theorem Qt.tick{x y:Ev}(h:Qt x y)(t:Int):Qt (QL x t) (QL y t):=⟨by unfold QL;rw[h.dr],h.ab,h.re⟩
theorem zdG{c k:qp}{x y:Ev}(hc:U0 c k)(hx:Qt x y)(t:Tm):Qt (Qh c x t).1 (Qh k y t).1/\(Qh c x t).2=(Qh k y t).2:=by
 unfold Qh;rw[SQ hc hx,zjm hc.dev,hc.i.par,zhT hc.i]
 split
 · exact⟨(hx.tick _).imp _,rfl⟩
 split
 · exact F7
 exact F7
theorem ze0{c k:qp}{x y:Ev}(hc:U0 c k)(hx:Qt x y)(l:List Tm)(t:Tm):Qt (qJ c l x t).1 (qJ k l y t).1/\(qJ c l x t).2=(qJ k l y t).2:=by
 unfold qJ;rw[zfl hc.dev,hx.re,SQ hc hx,hc.i.act,hx.dr]
 split
 · exact⟨hx,rfl⟩
 split
 · split
   · exact⟨hx,rfl⟩
   · have ha:=zf8 hc.i l;cases h1:Q1 l c.i.tree c.i.ix<;>cases h2:Q1 l k.i.tree k.i.ix<;>rw[h1,h2]at ha
     · exact⟨⟨by first|rfl|exact hx.dr,hx.ab,rfl⟩,rfl⟩
     · cases ha
     · cases ha
     · exact⟨⟨by first|rfl|exact hx.dr,zx ha,rfl⟩,rfl⟩
 split
 · refine⟨⟨?_,hx.ab,hx.re⟩,rfl⟩;dsimp only;rw[(hx.tick _).dr]
 split
 · have:=zdG hc hx t;exact⟨this.1,by rw[this.2]⟩
 · exact⟨hx,rfl⟩
theorem PM{c k:qp}(hc:U0 c k)(l:List Tm):∀(r:List Tm) {x y:Ev},Qt x y->Qt (Zw c l r x).1 (Zw k l r y).1/\(Zw c l r x).2=(Zw k l r y).2
 | [],_,_,h=>⟨h,rfl⟩
 | t ::r,x,y,h=>by
   have h1:=ze0 hc h l t;unfold Zw;rw[h1.2]
   split
   · split
     · exact PM hc l r h1.1
     · exact⟨h1.1,rfl⟩
   · exact PM hc l r h
theorem zj1{c k:qp}{x y:Ev}(hc:U0 c k)(hx:Qt x y)(t:Tm):Qt (Qa c x t) (Qa k y t):=by
 unfold Qa;rw[vo hc hx,hx.dr];exact⟨rfl,hx.ab,hx.re⟩
theorem vB{c k:qp}(hc:U0 c k):∀(r:List Tm) {x y:Ev},Qt x y->Qt (r.foldl (Qa c) x) (r.foldl (Qa k) y)
 | [],_,_,h=>h
 |t::r,_,_,h=>vB hc r (zj1 hc h t)
theorem zkP{c k:qp}(hc:U0 c k){x y:Ev}(hx:Qt x y)(l:List Tm):Qt (qw c x l).1 (qw k y l).1/\(qw c x l).2=(qw k y l).2:=by
 have h1:=PM hc l l (x:={x with ab:=c.dev,re:=false}) (y:={y with ab:=k.dev,re:=false}) ⟨hx.dr,hc.dev,rfl⟩;unfold qw;dsimp only;rw[h1.2]
 split
 · exact⟨vB hc _ h1.1,rfl⟩
 · exact⟨h1.1,rfl⟩
theorem Rt{c k:qp}(hc:U0 c k)(ls:List (List Tm)):∀(f a:Nat) {x y:Ev} (held:List Int),Qt x y->Qt (qS c ls f a x held).1 (qS k ls f a y held).1/\(qS c ls f a x held).2=(qS k ls f a y held).2
 |0,_,_,_,_,h=>⟨h,rfl⟩
 | f +1,a,x,y,held,h=>by
   unfold qS
   split
   · exact⟨h,rfl⟩
   · rename_i l hl;have h1:=zkP hc h l;rw[h1.2]
     split
     · exact Rt hc ls f _ _ h1.1
     · exact Rt hc ls f _ _ h1.1
theorem zeR{i j:QV}(h:ks i j){x y:Dd}(hx:zC i.tree i.ix=some x)(hy:zC j.tree j.ix=some y):pntS i.tree x=pntS j.tree y:=by
 unfold pntS;rw[Eg h.wi hx,Eg h.wj hy];have h1:(zW i.tree i.ix).tail.map qo=(zW j.tree j.ix).tail.map qo:=by rw[List.map_tail,List.map_tail,h.ch]
 have:=MV (AD h1) (f:=fun p=>(QH p).getD ⟨#[]⟩) (fun d=>rfl);cases ha:(zW i.tree i.ix).tail.head? <;>cases hb:(zW j.tree j.ix).tail.head? <;>rw[ha,hb]at this<;>first|rfl|cases this|exact zx this
theorem zjW{i j:QV}(h:ks i j)(ls:List (List Tm)):KU i ls=KU j ls:=by
 have hf:=OQ h;unfold KU Ob;cases ha:zC i.tree i.ix with
 | none=>
   exact Bl
 | some x=>
   cases hb:zC j.tree j.ix with
   |none=>rw[ha,hb]at hf;cases hf
   | some y=>
     rw[ha,hb]at hf;have e:qo x=qo y:=zx hf;have hc:U0 ⟨i,x,qK i.tree i.ix,pntS i.tree x⟩ ⟨j,y,qK j.tree j.ix,pntS j.tree y⟩:=⟨h,e,PW h,zeR h ha hb⟩;have hx:Qt (Q6 ⟨i,x,qK i.tree i.ix,pntS i.tree x⟩) (Q6 ⟨j,y,qK j.tree j.ix,pntS j.tree y⟩):=⟨by unfold Q6;rw[zdU h],rfl,rfl⟩;have h1:=Rt hc ls (ls.length+1) 0 [] hx;exact congrArg some (Prod.ext h1.1.dr h1.2)
theorem zdV{i j:QV}(h:ks i j)(ls:List (List Tm)):U8 i ls=U8 j ls:=by
 have hf:=OQ h;unfold U8;rw[zjW h,PW h];cases ha:zC i.tree i.ix with
 | none=>
   exact Bl
 | some x=>
   cases hb:zC j.tree j.ix with
   |none=>rw[ha,hb]at hf;cases hf
   | some y=>
     rw[ha,hb]at hf;have e:qo x=qo y:=zx hf;cases KU j ls with
     |none=>rfl
     | some z=>
       obtain⟨d,held⟩:=z;show some (Ym d x _,d.ticks)=some (Ym d y _,d.ticks);have:Ym d x (qK j.tree j.ix)=Ym d y (qK j.tree j.ix):=by
        have e1:QH x=QH y:=by unfold QH;rw[AP e,TL e]
        unfold Ym;rw[e1,zjJ e,AP e]
       rw[this]
theorem zcl{i:QV}(hw:Z8 i.tree)(ls:List (List Tm)):U8 i ls=U8 {i with tree:=(zW i.tree i.ix).reverse} ls:=by
 have e:zW (zW i.tree i.ix).reverse i.ix=zW i.tree i.ix:=by
  show qv (zW i.tree i.ix).reverse.reverse i.ix=_;rw[List.reverse_reverse];exact Rv _ _
 exact zdV (i:=i) (j:={i with tree:=(zW i.tree i.ix).reverse}) ⟨rfl,rfl,rfl,rfl,rfl,hw,by show UF (zW i.tree i.ix).reverse.reverse;rw[List.reverse_reverse];exact M2 _ hw,by show _=(zW (zW i.tree i.ix).reverse i.ix).map qo;rw[e]⟩ ls
end
section
open Go.RowKit
abbrev zt.tree(c:zt)(A:Option Addr)(k:Nat)(ds:List Dv):zt:={c with tA:=A,tc:=k,tds:=ds}
theorem UO.of_d{K:Int}{x y:Dv}(h:UO K x)(e:x.d=y.d):UO K y:=by
 obtain⟨_,_,_,_,_,_,_,_,_,_,_,_⟩:=x;obtain⟨_,_,_,_,_,_,_,_,_,_,_,_⟩:=y;unfold Dv.d at e;cases e
 exact⟨h.nam,h.og,h.sb,h.dr,h.al,h.ats,h.len,h.ix1,h.ix2,h.pa1,h.pa2,h.nb1,h.nb2,h.og1⟩
theorem Ur.alone{c:zt}(h:Ur c){A:Option Addr}{k:Nat}{ds:List Dv}(hd:zm ds=(zW (zm c.tds) c.ix).reverse):Ur (c.tree A k ds):=by
 have hl:ds.length<=c.tds.length:=by
  have h1:=congrArg List.length hd;rw[VS,List.length_reverse]at h1;have h2:=NI (zm c.tds) c.ix;rw[VS]at h2;omega
 refine⟨⟨?_,fun x hx=>?_⟩,i3 hl h.tl,h.ix1,h.ix2,h.hl,h.hm,h.lim1,h.lim2,h.act,h.pl,h.pz⟩
 · show UF (zm ds).reverse;rw[hd,List.reverse_reverse];exact M2 _ h.tw.wf
 · have hm:x.d∈(zW (zm c.tds) c.ix).reverse:=by rw[<-hd];exact zd8 hx
   obtain⟨y,hy,e⟩:=List.mem_map.1 (Jj (List.mem_reverse.1 hm));exact(h.tw.dv y hy).of_d e
theorem zid{c:zt}(h:Z8 (zm c.tds)){A:Option Addr}{k:Nat}{ds:List Dv}(hd:zm ds=(zW (zm c.tds) c.ix).reverse)(ls:List (List Tm)):Yn (c.tree A k ds).i ls=Yn c.i ls:=by
 unfold Yn;rw[zcl (i:=c.i) h ls,show(c.tree A k ds).i={c.i with tree:=(zW c.i.tree c.i.ix).reverse}from by
  show(⟨c.act,zm ds,c.ix,c.r.props.l,c.hs.l,c.lim⟩:QV)=⟨c.act,(zW (zm c.tds) c.ix).reverse,c.ix,c.r.props.l,c.hs.l,c.lim⟩;rw[hd]]
theorem zhb(c:zt)(rl:List Rl):(zC (zm c.tds) c.ix=none->(Yn c.i (Zy rl)).2.2=150)/\∀d,zC (zm c.tds) c.ix=some d->(Yn c.i (Zy rl)).2.2=0:=by
 unfold Yn;rw[Rf];exact⟨fun h=>Ij,fun d h=>Ij⟩
end
section
open Go.RowKit
abbrev Vr:TypeId:=28
theorem zg3(n:Nat)(parts:Array (Nat×Value)):Instr.buildSlice Vr n parts=Yy Vr n parts:=K6
attribute [local go_sem ↓] Pw OR Jn ZU CJ zg3
theorem lawAlone(TA:Option Addr)(n tc:Nat)(w:World)(hE:Z2 w)(hI:It w TA n):
 Calls prog 3 #[.slice TA n tc] w fun e w'=>e=.returned (.bool true)/\Below w.heap.size w w':=by
 obtain⟨w1,hw1⟩:∃w1,w.alloc (.cells #[.slice TA n tc,.int .i64 0] TX)=w1:=⟨_,rfl⟩;have hb1:Below w.heap.size w w1:=ZX;have hnG:=hE.toEnv.toEnv0.size;have hts:qr w1 w.heap.size n 0 0 w1:=EN;have HRl:=za (DD hts (m:=6) zb zb);have HG:=za hnG;have HE:=za hE;have HW1:=za hw1;have HB1:=za hb1;clear hE hI hts hw1 hnG;go_enter func3,ntmps3;go_upto_region 2 with fail
 rw[HW1.out];go_cut [4,5]from 20 to 23 (fun s4 s5 wx=>∃(t5:Nat) (c:zt) (A:Option Addr) (ac:Nat) (rl:List Rl),s4=.slice A rl.length ac/\s5=.pointer (some ⟨t5,0,none⟩)/\Hid (wx.heap[t5]? =some (.cells (zJ c) qh (0,0))/\w.heap.size<=t5)/\Hid (∀W,wx.grownBy W (some t5)->Zu W c/\Zt W A rl/\Below w.heap.size w W)/\Hid (Ur c)/\Hid (rl.length<=12/\∀x∈rl,1<=x.tms.l.length/\x.tms.l.length<=6/\∀t∈x.tms.l,Yz 60 t))
 case first=>
  as_aux_lemma=>
  go_wp2_with fail
  refine HRl.out.mono ?_;rintro e w2 ⟨A,ac,rl,rfl,hl,-,-,hz,hro,hio,hT⟩;have hb2:Below w.heap.size w w2:=hb1.grown hT.gr hb1.size (fun j e=>Vb);have HIn:=za (DO hT.st (HE.out.toEnv.toEnv0.go hb2) HG.out 7 zb zb);have HB2:=za hb2;have HZ:=za (And.intro hl hz);have HO:=za (fun(W:World) (hW:w2.grownBy W (some w.heap.size))=>Zt.off hro hio hz hW);clear hl hz hro hio hT hb2 hb1;go_wp2_with fail
  refine HIn.out.mono ?_;rintro e w3 ⟨c,rfl,hM,hW,_,hT⟩;have HK:Hid ((w3.alloc (.cells (zJ c) qh)).heap[w3.heap.size]? =some (.cells (zJ c) qh (0,0))/\w.heap.size<=w3.heap.size):=za ⟨qt,i3 HB2.out.size hT.gr.size⟩;have HA:Hid (∀W,(w3.alloc (.cells (zJ c) qh)).grownBy W (some w3.heap.size)->Zu W c/\Zt W A rl/\Below w.heap.size w W):=za fun W hg=>by
   have hb:Below w3.heap.size w3 W:=(zu:Below w3.heap.size w3 (w3.alloc (.cells (zJ c) qh))).grown hg zl (fun j e=>Vb);exact⟨hM.keep hb,(HO.out _ hT.gr).keep hb,bt (HB2.out.grown hT.gr HB2.out.size (fun j e=>Vb)) hb⟩
  have HWc:=za hW;clear hM hW hT;unfold zJ at*;go_wp2;go_meet;exact⟨_,c,A,ac,rl,rfl,rfl,HK,HA,HWc,HZ⟩
 case rest=>
 obtain⟨t5,c,A,ac,rl,rfl,rfl,HK,HA,HWc,HZ⟩:=hcut;generalize wc=w2 at*;obtain⟨hM2,hR2,hB2⟩:=HA.out w2 (World.grownBy.refl _ _);have hz:=HWc.out.z;have hzR:kv rl:=⟨by have:=HZ.out.1;omega,fun y h=>⟨by have:=(HZ.out.2 y h).2.1;omega,fun x hx=>by have:=((HZ.out.2 y h).2.2 x hx).value;omega⟩⟩;have HRz:=za hzR;have HQz:=za (CV hz hzR);have HQn:=za (zhb c rl);have HRa:Hid (Calls prog 8 #[.slice A rl.length ac,.agg (zJ c)] w2 (GE (Yn c.i (Zy rl)) w2)):=za ((Gt A ac rl c w2 hM2 hz (HE.out.go hB2) hR2 hzR (fun _ _ _ _ _=>HWc.out.run)).mono fun _ _ h=>OC h);have HAl:=za (fun(LA:Option Addr) (lc:Nat) (ls:List Dv) (hd:zm ls=(zW (zm c.tds) c.ix).reverse) (W:World) (hM:Zu W (c.tree LA lc ls)) (hr:Zt W A rl) (hB:Below w.heap.size w W)=>by
  have h:=Gt A ac rl (c.tree LA lc ls) W hM (HWc.out.alone hd).z (HE.out.go hB) hr HRz.out (fun _ _ _ _ _=>(HWc.out.alone hd).run);exact h.mono fun _ _ h=>(zid HWc.out.z.wf hd (Zy rl)▸OC h:GE (Yn c.i (Zy rl)) W _ _))
 have HM2:=za hM2;have HBw2:=za hB2;have HKn:=za (fun(W:World) (hW:Below w.heap.size w W)=>Ab W (HE.out.go hW));clear hM2 hR2 hB2 hzR;generalize Yn c.i (Zy rl)=q at*;obtain⟨Dq,T,eN⟩:=q;obtain⟨NR,hNR⟩:∃NR,rl.length=NR:=⟨_,rfl⟩;rw[hNR]at HRa HAl⊢;clear hNR;have hl5:t5<w2.heap.size:=zh HK.out.1;go_upto_region 3 with fail
 go_cut [6,7,8]from 24 to 30 (fun s6 s7 s8 wx=>∃(t6:Nat) (r:Rm),s6=.pointer (some ⟨t6,0,none⟩)/\s7=.int .i64 T/\s8=.int .i64 eN/\Hid (wx.heap[t6]? =some (.cells (qb r) qf (0,0))/\Z3 wx r/\r.d=Dq/\w2.heap.size<=t6/\∀a∈r.as,∀p,a=some p->w2.heap.size<=p.block)/\Hid (Below w2.heap.size w2 wx))
 case first=>
  as_aux_lemma=>
  have hld:=km HK.out.1;go_wp2_with (go_at_call 8;refine HRa.out.mono ?_;rintro e w6 ⟨r,rfl,hr,hN6,ho,hb6⟩;have hst:=KC (i5 w6 (.cells Ku qf)) rfl r;have hbx:=za (Nw hN6);have HB6:=za hb6;have HR6:=za (And.intro hr ho);clear hr hN6 hb6 ho)
  go_meet;exact⟨_,r,rfl,rfl,rfl,za ⟨hbx.out.1,hbx.out.2.1,HR6.out.1,HB6.out.size,HR6.out.2⟩,za (bt HB6.out hbx.out.2.2)⟩
 case rest=>
 obtain⟨t6,r,rfl,rfl,rfl,HT6,HB3⟩:=hcut;generalize wc=w3 at*;clear HRa;have hk3:=(HB3.out.block _ hl5).trans HK.out.1;have HK3:=za hk3;have c1:w3.cell? ⟨t5,1,none⟩=some (.slice c.tA c.tds.length c.tc):=zd hk3 rfl;have c2:w3.cell? ⟨t5,2,none⟩=some (.int .i64 c.ix):=zd hk3 rfl;have hM3:=HM2.out.keep HB3.out;have HF:=za (VD c.tA c.tc c.tds c.ix w3 hM3.tr);have HM3:=za hM3;have HBw3:=za (bt HBw2.out HB3.out);unfold YC zV at HF;clear hM3 hk3;cases hf:zC (zm c.tds) c.ix with
 | none=>
   as_aux_lemma=>
   rw[hf]at HF;obtain rfl:eN=150:=HQn.out.1 hf;clear hf hz;go_wp2_with (first
    |(go_at_call 9;refine HF.out.mono ?_;rintro e w4 ⟨rfl,hb4⟩;have hrow:=i5 w4 (.cells (zq qd) zp);have HB4:=za (bt HBw3.out (bt hb4 (qB (zP zj) zo:Below w4.heap.size w4 ((w4.alloc (.cells (zq qd) zp)).setRow w4.heap.size (zq qd)))));clear hb4;unfold zY)
    |(refine wpList_store_row rfl zp _ _ rfl _ _ rfl rfl _ _ hrow Zf rfl qP ?_)
    |(go_at_call 10;refine(HKn.out _ HB4.out).mono ?_;rintro e w9 ⟨rfl,hb9⟩;have HB9:=za (bt HB4.out hb9);clear hb9))
   go_ret;exact⟨rfl,HB9.out⟩
 |some d=>
 rw[hf]at HF;dsimp only at HF;obtain rfl:eN=0:=HQn.out.2 d hf;obtain⟨rs,hch,hrs⟩:=RF hz.wf hf;have HCh:=za hch;have HRs:=za hrs;have HZ3:=za hz;have HTz:Hid (c.tds.length<=20):=za HWc.out.tl;clear hf hch hrs hz;go_upto_region 4 with fail
 go_cut [9,10]from 31 to 38 (fun s9 s10 wx=>∃(t9:Nat) (x:Dv),s9=.pointer (some ⟨t9,0,none⟩)/\s10=.bool true/\Hid (wx.heap[t9]? =some (.cells (zq x) zp (0,0)))/\Hid (x.d=d/\ZM wx x/\qV w3.heap.size x.ats.A)/\Hid (Below w3.heap.size w3 wx))
 case first=>
  as_aux_lemma=>
  go_wp2_with (first
   |(go_at_call 9;refine HF.out.mono ?_;rintro e w4 ⟨x,rfl,hx,hxn,hxf,hb4⟩;have hrow:=i5 w4 (.cells (zq qd) zp);have Hx:=za (And.intro hx hxf);have HXn:=za hxn;have HB4:=za hb4;clear hb4 hx hxn hxf;unfold zY)
   |(refine wpList_store_row rfl zp _ _ rfl _ _ rfl rfl _ _ hrow Zf rfl qP ?_))
  go_meet;exact⟨_,x,rfl,rfl,za (Vi w4 x).2,za ⟨Hx.out.1,HXn.out.keep (Vi w4 x).1,Hx.out.2⟩,za (bt HB4.out (Vi w4 x).1)⟩
 case rest=>
 obtain⟨t9,x,rfl,rfl,HT9,HX,HB4⟩:=hcut;generalize wc=w4 at*;clear c1 c2 HF;have hk4:=(HB4.out.block _ (zh HK3.out)).trans HK3.out;have HK4:=za hk4;have HBw4:=za (bt HBw3.out HB4.out);go_upto_region 7 with fail
 go_cut [11]from 46 to 53 (fun s11 wx=>∃(CA:Option Addr) (cc:Nat) (ys:List Dv),s11=.slice CA ys.length cc/\Hid (qj wx CA ys)/\Hid (ys.map Dv.d=zW (zm c.tds) c.ix/\∀y∈ys,qV w3.heap.size y.ats.A)/\Hid (Below w4.heap.size w4 wx))
 case first=>
  as_aux_lemma=>
  have HO:=za (fun(W:World) (hW:Below w4.heap.size w4 W)=>jK c.tA c.tc c.tds c.ix W ((HM3.out.keep (bt HB4.out hW)).tr) (fun d hd=>(HZ3.out.dv d hd).1) HZ3.out.wf HZ3.out.ix1 HZ3.out.ix2);unfold G2 zV at HO;rw[HRs.out]at HO;have HTail:Hid (∀(V w6:World) (A5:Option Addr) (c5:Nat) (ms:List Dv) (g:Nat),Below w4.heap.size w4 V->V.heap[g]? =some (.cells (zq x) zp (0,0))->zE V A5 10 ms.length (cellsOf zM ms)->(∀y∈ms,ZM V y/\qV w4.heap.size y.ats.A)->ms.map Dv.d=rs->∃(A6:Option Addr) (c6:Nat) (w6:World),(Zv #[Vr,Vr] Vr #[.slice (some ⟨g,0,none⟩) 1 1,.slice A5 ms.length c5]).run prog V=.ok (.slice A6 (ms.length+1) c6) w6/\Hid (qj w6 A6 (x::ms))/\Hid ((x::ms).map Dv.d=zW (zm c.tds) c.ix/\∀y∈x::ms,qV w3.heap.size y.ats.A)/\Hid (Below w4.heap.size w4 w6)):=za fun V _ A5 c5 ms g hV hg hrow hin hms=>by
   have hal:∀y:Dv,y.d∈d::rs->y.ats.l.length<=1000:=fun y hy=>by
    have hm:=Jj (l:=zm c.tds) (n:=c.ix) (by rw[HCh.out];exact hy);obtain⟨z,hz,e⟩:=List.mem_map.1 hm;have e2:z.ats.l=y.ats.l:=congrArg Dd.ats e;rw[<-e2];exact HM3.out.tr.al z hz
   have hl:ms.length+1<=1000:=by
    have a1:=NI (zm c.tds) c.ix;rw[HCh.out,VS,u0,<-hms,W7]at a1;have:=HTz.out;omega
   have hmap:(x::ms).map Dv.d=d::rs:=by rw[zl3,HX.out.1,hms]
   obtain⟨A6,c6,w6,k1,k2,k3⟩:=Ba x ms A5 c5 g V.heap.size V hg hrow zb zo;refine⟨A6,c6,w6,k1,za ⟨k2,fun y hy=>?_,hl,fun y hy=>hal y (by rw[<-hmap];exact zd8 hy)⟩,za ⟨by rw[hmap,HCh.out],fun y hy=>?_⟩,za (bt hV k3)⟩
   · rcases List.mem_cons.1 hy with rfl|hy
     · exact(HX.out.2.1.keep hV).keep k3
     · exact(hin y hy).1.keep k3
   · rcases List.mem_cons.1 hy with rfl|hy
     · exact HX.out.2.2
     · exact(hin y hy).2.mono HB4.out.size
  have hbs:∀V:World,(Yy Vr 1 #[(0,.agg (zq x))]).run prog V=.ok (.slice (some ⟨V.heap.size,0,none⟩) 1 1) (V.alloc (.cells (zq x) zp)):=fun V=>VE (P:=prog) underlying28 Jl zi zi (zq x) rfl V;have HCl:Hid (∀V,Below w4.heap.size w4 V->(qD zp (.pointer (some ⟨t9,0,none⟩))).run prog V=.ok (.agg (zq x)) V/\V.cell? ⟨t5,1,none⟩=some (.slice c.tA c.tds.length c.tc)/\V.cell? ⟨t5,2,none⟩=some (.int .i64 c.ix)):=za fun V hV=>by
   have h1:=(hV.block _ (zh HT9.out)).trans HT9.out;have h2:=(hV.block _ (zh HK4.out)).trans HK4.out;have h3:=UI (P:=prog) (w:=V) (T:=zp) (n:=10) (g:=t9) (o:=0) (cs:=zq x) JJ Jp h1 (by show 0+10<=10;omega);rw[show(zq x).extract 0 (0+10)=zq x from by kernel_rfl]at h3;exact⟨h3,zd h2 rfl,zd h2 rfl⟩
  obtain⟨m1,m2,m3⟩:=HCl.out w4 zj;obtain⟨n1,n2,n3⟩:=HCl.out w4.drew (zN zj);obtain⟨-,p2,p3⟩:=HCl.out (w4.drew.alloc (.cells (zq x) zp)) (zP (zN zj));have hl4:t5<w4.heap.size:=zh HK4.out
  go_region_with (first
   |(go_at_call 11;refine(HO.out (w4.drew.alloc (.cells (zq x) zp)) (zP (zN zj))).mono ?_;rintro e w5 ⟨A5,c5,ms,rfl,hms,hown,hin,hb5⟩;have hV:=bt (zP (zN zj):Below w4.heap.size w4 (w4.drew.alloc (.cells (zq x) zp))) hb5;obtain⟨A6,c6,w6,hap,HT11,HY11,HB11⟩:=HTail.out w5 w5 A5 c5 ms w4.heap.size hV ((hb5.block _ zl).trans (i5 w4.drew _)) (zE.of_own hown).1 (fun y hy=>⟨(hin y hy).1,(hin y hy).2.mono zl⟩) hms;clear hms hown hin hb5 hV)
   |(go_at_call 11;refine(HO.out w4.drew (zN zj)).mono ?_;rintro e w5 ⟨A5,c5,ms,rfl,hms,hown,hin,hb5⟩;have hV:=bt (zN zj:Below w4.heap.size w4 w4.drew) hb5;obtain⟨A6,c6,w6,hap,HT11,HY11,HB11⟩:=HTail.out (w5.alloc (.cells (zq x) zp)) w5 A5 c5 ms w5.heap.size (zP hV) qt ((zE.of_own hown).1.keep zu) (fun y hy=>⟨(hin y hy).1.keep zu,(hin y hy).2⟩) hms;obtain⟨d1,d2,d3⟩:=HCl.out w5 hV;clear hms hown hin hb5 hV))
  all_goals
   go_wp2;go_meet;exact⟨A6,c6,x::ms,rfl,HT11,HY11,HB11⟩
 case rest=>
 obtain⟨CA,cc,ys,rfl,HT11,HY11,HB11⟩:=hcut;generalize wc=w5 at*;clear HT9 HX HRs HCh HM3 HK3;obtain⟨M,hM⟩:∃M,ys.length=M:=⟨_,rfl⟩;have HM:=za hM;have hM1:M<=1000:=by rw[<-hM];exact HT11.out.len
 rw[hM];clear hM;go_upto_region 9 with fail
 have hl5b:t5<w5.heap.size:=i4 (zh HK4.out) HB11.out.size;have HK5:=za ((HB11.out.block _ (zh HK4.out)).trans HK4.out);go_wp2_with fail
 go_loopg [13] (M+1) (fun gk s13 wr=>∃(k m:Nat) (z:Int) (LA:Option Addr) (lc:Nat) (ls:List Dv),s13=.int .i64 z/\z=(k:Int) - 1/\gk=k+1/\k<=M/\Hid (ls.length=m/\ls=(ys.drop k).reverse)/\m<=1000/\Hid (wr.heap[w5.heap.size]? =some (.cells #[.slice LA m lc] Q9 (0,0)))/\Hid (wr.ownsRow (w5.heap.size+1) zp 10 (.slice LA m lc) m (cellsOf zM ls))/\Hid (Below w5.heap.size w5 wr))
 case atStart=>exact⟨M,0,_,none,0,[],rfl,rfl,rfl,zo,za ⟨rfl,by rw[<-HM.out];simp⟩,X1 _,qt,World.ownsRow_nil _ _ _ _,zu⟩
 case round=>
  obtain⟨k,m,z,LA,lc,ls,rfl,hzk,rfl,hkM,HLs,hm,HT,HO,HBr⟩:=hrel;have x0:wr.cell? ⟨w5.heap.size,0,none⟩=some (.slice LA m lc):=zd HT.out rfl;have hlt:=zh HT.out;cases k with
  | succ j=>
    obtain rfl:z=(j:Int):=zb;clear hzk;have hjM:j<M:=zb;have hjI:(j:Int)<(M:Int):=zb;have hj:j<ys.length:=by rw[HM.out];exact hjM
    obtain⟨ba,off,rfl,hba,-⟩:=HT11.out.dcell hj;obtain⟨y,hy⟩:∃y,ys[j]=y:=⟨_,rfl⟩;have HLy:Hid (∀V,Below w5.heap.size w5 V->(qD zp (.pointer (some ⟨ba,off+j*10,none⟩))).run prog V=.ok (.agg (zq y)) V):=za fun V hV=>by
     obtain⟨b2,o2,e,-,hc⟩:=(HT11.out.keep hV).dcell hj;cases e
     rw[hy]at hc;exact JR (P:=prog) (n:=10) (l:=zM y) JJ Jp rfl hc
    have l1:=HLy.out wr HBr.out;have l2:=HLy.out wr.drew (zN HBr.out);have hbs:∀V:World,(Yy Vr 1 #[(0,.agg (zq y))]).run prog V=.ok (.slice (some ⟨V.heap.size,0,none⟩) 1 1) (V.alloc (.cells (zq y) zp)):=fun V=>VE (P:=prog) underlying28 Jl zi zi (zq y) rfl V;have ho:wr.drew.ownsRow (w5.heap.size+1) zp 10 (.slice LA ls.length lc) ls.length (cellsOf zM ls):=by rw[HLs.out.1];exact qi HO.out (zN zj)
    obtain⟨LB,lb,w9,hap0,hown,hgr,-⟩:=Gq (S:=Vr) (T:=zp) (k:=10) (b:=136) (enc:=zM) Ng (by exact TJ) rfl zi zi Xl PK y wr.drew ho (by rw[HLs.out.1];omega) hlt;rw[HLs.out.1]at hap0 hown hgr;have hap:(Zv #[Vr,Vr] Vr #[.slice LA m lc,.slice (some ⟨wr.heap.size,0,none⟩) 1 1]).run prog (wr.alloc (.cells (zq y) zp)).drew=.ok (.slice LB (m+1) lb) w9:=hap0;have h9:w9.heap[w5.heap.size]? =some (.cells #[.slice LA m lc] Q9 (0,0)):=(hgr.block _ hlt (fun e=>by have:=(HO.out.lt _ e.symm).1;omega)).trans HT.out;have HT9:Hid ((w9.setCell ⟨w5.heap.size,0,none⟩ (.slice LB (m+1) lb)).heap[w5.heap.size]? =some (.cells #[.slice LB (m+1) lb] Q9 (0,0))):=za (heap_setCell_same _ _ _ _ _ _ h9);have HOw:=za hown;have HB9:Hid (Below w5.heap.size w5 w9):=za ((zN HBr.out).grown hgr (zN HBr.out).size (fun g e=>by have:=(HO.out.lt _ e).1;omega));have x9:w9.cell? ⟨w5.heap.size,0,none⟩=some (.slice LA m lc):=zd h9 rfl;have z9:w9.frozen? ⟨w5.heap.size,0,none⟩=false:=frozen_of_row _ _ _ _ _ h9;have hl9:=zh h9;clear ho hap0 hown hgr h9;go_wp2;go_region
    all_goals
     go_wp2;go_roundg (j+1)
     case measure=>omega
     case rel=>
      refine⟨j,m+1,(j:Int) - 1,LB,lb,ls++[y],zU,rfl,rfl,zb,za ⟨by rw[r7,HLs.out.1];rfl,?_⟩,?_,HT9,za (UD rfl HOw.out (zd2 _)),za (ZF HB9.out zo)⟩
      · rw[HLs.out.2,zd7 hj,List.reverse_cons,hy]
      · have h1:=HLs.out.1;rw[HLs.out.2,List.length_reverse,W8,HM.out]at h1;omega
  | zero=>
    have hz0:¬z≥0:=zb;have hz1:z<0:=zb;have hz2:decide (z≥0)=false:=zl0 hz0;clear hzk;have hls:ls=ys.reverse:=by rw[HLs.out.2,zl4]
    have hdS:zm ls=(zW (zm c.tds) c.ix).reverse:=by rw[<-HY11.out.1,hls];unfold zm;rw[List.map_reverse]
    have hkr:=(HBr.out.block _ hl5b).trans HK5.out;have k1:wr.cell? ⟨t5,1,none⟩=some (.slice c.tA c.tds.length c.tc):=zd hkr rfl;have f1:wr.frozen? ⟨t5,1,none⟩=false:=frozen_of_row _ _ _ _ _ hkr;have hlr:=zh hkr;obtain⟨w7,hw7⟩:∃w7,wr.setCell ⟨t5,1,none⟩ (.slice LA m lc)=w7:=⟨_,rfl⟩;have hgs:wr.grownBy w7 (some t5):=hw7▸qE wr t5 1 _;have hB3r:Below w3.heap.size w3 wr:=bt HB4.out (bt HB11.out HBr.out);obtain⟨hM7,hR7,hB7⟩:=HA.out w7 ((zG (bt HB3.out hB3r) _).trans hgs);have h53:t5<w3.heap.size:=i4 hl5 HB3.out.size;have hk7:w7.heap[t5]? =some (.cells (zJ (c.tree LA lc ls)) qh (0,0)):=by
     rw[<-hw7,heap_setCell_same _ _ _ _ _ _ hkr];unfold zJ;dsimp only;rw[HLs.out.1];rfl
    have hmem:∀y∈ls,y∈ys:=fun y hy=>by rw[hls]at hy;exact List.mem_reverse.1 hy
    have hT7:qj w7 LA ls:=⟨by
     have h:=zE.of_own (UD hw7 HO.out zb);rw[HLs.out.1];exact h.1,fun y hy=>((HT11.out.inn y (hmem y hy)).keep HBr.out).grown hgs (fun p e k=>by have:=HY11.out.2 y (hmem y hy) p e;have:=zx k;omega),by rw[HLs.out.1];omega,fun y hy=>HT11.out.al y (hmem y hy)⟩
    have HRb:=za (HAl.out LA lc ls hdS w7 ⟨hT7,hM7.rc,hM7.hp⟩ hR7 hB7);have HT7:Hid (w7.heap[t6]? =some (.cells (qb r) qf (0,0))/\Z3 w7 r):=za ⟨by
     rw[<-hw7];exact(heap_setCell_other wr ⟨t5,1,none⟩ _ _ (by show t6≠t5;have:=HT6.out.2.2.2.1;omega)).trans ((hB3r.block _ (zh HT6.out.1)).trans HT6.out.1),(HT6.out.2.1.keep hB3r).grown hgs (fun a ha p e=>by have:=HT6.out.2.2.2.2 a ha p e;omega)⟩
    have hld:=km hk7;rw[<-hw7]at hld;have HB7:=za hB7;have HW7:=za hw7;clear hw7 hgs hB3r hM7 hR7 hB7 hk7 hT7 hkr hls hdS hmem;go_wp2_with (first
     |(go_at_call 8;rw[HW7.out];refine HRb.out.mono ?_;rintro e w8 ⟨s,rfl,hr,hN8,-,hb8⟩;have hst:=KC (i5 w8 (.cells Ku qf)) rfl s;have hbx:=Nw hN8;have hb9:=bt hb8 hbx.2.2;have l6:=Ju ((hb9.block _ (zh HT7.out.1)).trans HT7.out.1);have l14:=Ju hbx.1;have HSm:=za (Hj HQz.out r s _ HT6.out.2.2.1 hr (HT7.out.2.keep hb9) hbx.2.1);have HB:=za (bt HB7.out hb9);clear hr hN8 hb8 hbx hb9)
     |(go_at_call 12;refine HSm.out.mono ?_;rintro e w9 ⟨rfl,hb8⟩;have HB9:=za (bt HB.out hb8);clear hb8)
     |(go_at_call 10;refine(HKn.out _ HB9.out).mono ?_;rintro e w10 ⟨rfl,hb9⟩;have HB10:=za (bt HB9.out hb9);clear hb9))
    go_ret;exact⟨rfl,HB10.out⟩
end
end Go.Proofs.YtecbmndgpepkcaaGreatDoor

/- Contracts that the law rests on, each under the premises that it names. -/
import Derived.Test.YtecbmndgpepkcaaGreatDoorG08
import Derived.RangeFuncNested
import Derived.RangeFuncBound
import Derived.RangeFuncCalls
import Derived.RangeFuncLeaves
import Derived.Shelf.Abstract
import Derived.Shelf.RegionOpen
import Derived.OwnWalkIn
import Derived.TacticsInMore
import Derived.LoopNIn
import Derived.LoopIn
import Derived.Maps.AppendAt
import Derived.RangeFuncBox
namespace Go.Proofs.YtecbmndgpepkcaaGreatDoor
open Tryz
set_option maxHeartbeats 8000000
set_option maxRecDepth 100000
section
open Go.RowKit Go.Shelf
abbrev zp:TypeId:=43
theorem jg:(prog.info? 43).map (·.size)=some 10:=zg
def zq(d:Dv):Array Value:=#[.int .i64 d.ix,.int .i64 d.pa,.string d.nam,.string d.og,.string d.sb,.string d.dr,.string d.al,.int .i64 d.kd,.int .i64 d.nb,.slice d.ats.A d.ats.l.length d.ats.c]
theorem O2(d:Dv):(zq d).all (·.oneCell')=true:=by simp[zq,Value.oneCell']
theorem Xl(d:Dv):(zM d).length=10:=rfl
theorem Xq{W:World}{g:Nat}{T:TypeId}{a0 a1 a2 a3 a4 a5 a6 a7 a8 a9:Value}(h:W.heap[g]? =some (.cells #[a0,a1,a2,a3,a4,a5,a6,a7,a8,a9] T (0,0))):
 (W.cell? ⟨g,0,none⟩=some a0/\W.cell? ⟨g,1,none⟩=some a1/\W.cell? ⟨g,2,none⟩=some a2/\W.cell? ⟨g,3,none⟩=some a3/\W.cell? ⟨g,4,none⟩=some a4/\W.cell? ⟨g,5,none⟩=some a5/\W.cell? ⟨g,6,none⟩=some a6/\W.cell? ⟨g,7,none⟩=some a7/\W.cell? ⟨g,8,none⟩=some a8/\W.cell? ⟨g,9,none⟩=some a9)/\∀j,W.frozen? ⟨g,j,none⟩=false:=
 ⟨⟨zd h rfl,zd h rfl,zd h rfl,zd h rfl,zd h rfl,zd h rfl,zd h rfl,zd h rfl,zd h rfl,zd h rfl⟩,fun _=>frozen_of_row _ _ _ _ _ h⟩
abbrev ZM(w:World)(d:Dv):Prop:=zE w d.ats.A 2 d.ats.l.length (cellsOf zw d.ats.l)
structure qj(w:World)(A:Option Addr)(ds:List Dv):Prop where
 row:zE w A 10 ds.length (cellsOf zM ds)
 inn:∀d∈ds,ZM w d
 len:ds.length<=1000
 al:∀d∈ds,d.ats.l.length<=1000
theorem qj.keep{w w':World}{A:Option Addr}{ds:List Dv}(h:qj w A ds)(hb:Below w.heap.size w w'):qj w' A ds:=⟨h.row.keep hb,fun d hd=>(h.inn d hd).keep hb,h.len,h.al⟩
def zV(A:Option Addr)(ds:List Dv)(c:Nat):Value:=.agg #[.slice A ds.length c]
def zm(ds:List Dv):List Dd:=ds.map Dv.d
def ko(d:Dd)(w:World)(x:Dv)(w':World):Prop:=x.d=d/\ZM w' x/\qV w.heap.size x.ats.A/\Below w.heap.size w w'
theorem zP{w W:World}{o:Obj}(h:Below w.heap.size w W):Below w.heap.size w (W.alloc o):=h.alloc h.size _
theorem zN{w W:World}(h:Below w.heap.size w W):Below w.heap.size w W.drew:=h.drew
theorem qB{w W:World}{g:Nat}{cs:Array Value}(h:Below w.heap.size w W)(hg:w.heap.size<=g):Below w.heap.size w (W.setRow g cs):=h.grown (qR _ _ _) h.size (fun j e=>Nn)
theorem ZF{w W:World}{g i:Nat}{u:Value}(h:Below w.heap.size w W)(hg:w.heap.size<=g):Below w.heap.size w (W.setCell ⟨g,i,none⟩ u):=h.grown (qE _ _ _ _) h.size (fun j e=>Nn)
abbrev qd:Dv:=⟨0,0,⟨#[]⟩,⟨#[]⟩,⟨#[]⟩,⟨#[]⟩,⟨#[]⟩,0,0,⟨none,0,[]⟩⟩
theorem qV.mono{B C:Nat}{A:Option Addr}(h:qV C A)(hB:B<=C):qV B A:=fun a e=>i3 hB (h a e)
theorem Dy(d:Dv)(w:World)(h:ZM w d)(hl:d.ats.l.length<=1000):
 Calls prog 37 #[zY d] w fun e w'=>∃x,e=.returned (zY x)/\ko d.d w x w':=by
 obtain⟨w1,hw1⟩:∃w1,(w.alloc (.cells (zq d) zp)).alloc (.cells (zq qd) zp)=w1:=⟨_,rfl⟩;have hB:Below w.heap.size w w1:=Vl;have h1:w1.heap[w.heap.size]? =some (.cells (zq d) zp (0,0)):=K7;have h2:w1.heap[w.heap.size+1]? =some (.cells (zq qd) zp (0,0)):=by
  rw[<-hw1];have:=i5 (w.alloc (.cells (zq d) zp)) (.cells (zq qd) zp);exact QN
 have HC:=za (PV d.ats.A d.ats.c d.ats.l w1 zb (h.keep hB));have HB:=za hB;have H1:=za h1;have H2:=za h2;have HW:=za hw1;obtain⟨⟨c0,c1,c2,c3,c4,c5,c6,c7,c8,c9⟩,_⟩:=Xq h1;clear h hB h1 h2 hw1;unfold zY;go_enter func37,ntmps37;go_upto_region 1 with fail
 rw[show(w.alloc (.cells #[.int .i64 d.ix,.int .i64 d.pa,.string d.nam,.string d.og,.string d.sb,.string d.dr,.string d.al,.int .i64 d.kd,.int .i64 d.nb,.slice d.ats.A d.ats.l.length d.ats.c] 43)).alloc (.cells #[.int .i64 0,.int .i64 0,.string ⟨#[]⟩,.string ⟨#[]⟩,.string ⟨#[]⟩,.string ⟨#[]⟩,.string ⟨#[]⟩,.int .i64 0,.int .i64 0,.slice none 0 0] 43)=w1 from HW.out];go_wp2_with (first
  |(go_at_call 55;refine HC.out.mono ?_;rintro e w2 ⟨A2,n2,rfl,hown,hb2⟩;have HO:=za hown;have HB2:=za hb2;have hx1:=(hb2.block _ (zh H1.out)).trans H1.out;have hx2:=(hb2.block _ (zh H2.out)).trans H2.out;have HX2:=za ((heap_setCell_other w2 ⟨w.heap.size,9,none⟩ (w.heap.size+1) (.slice A2 d.ats.l.length n2) (by show _≠w.heap.size;omega)).trans hx2);clear hown hb2 hx2;obtain⟨⟨d0,d1,d2,d3,d4,d5,d6,d7,d8,d9⟩,z9⟩:=Xq hx1;clear hx1)
  |(refine wpList_store_row rfl 43 _ _ rfl _ _ rfl rfl _ _ HX2.out Zf rfl qP ?_))
 refine Yx rfl zk HX2.out underlying43 rfl Zf zk ?_;have hBB:=bt HB.out HB2.out;have hN:=zE.of_own HO.out;have hsz:w1.heap.size=w.heap.size+2:=by rw[<-HW.out];simp
 refine⟨⟨d.ix,d.pa,d.nam,d.og,d.sb,d.dr,d.al,d.kd,d.nb,⟨A2,n2,d.ats.l⟩⟩,rfl,rfl,?_,?_,qB (ZF hBB zo) (X2 _)⟩
 · refine(hN.1.grown (qE w2 w.heap.size 9 _) (fun a e h=>?_)).grown (qR _ (w.heap.size+1) _) (fun a e h=>?_)
   · have h1:=hN.2 a e;have h2:=zx h;omega
   · have h1:=hN.2 a e;have h2:=zx h;omega
 · exact hN.2.mono (HB.out.size)
theorem ko.row{d:Dd}{w w2 w3:World}{y:Dv}{g:Nat}{cs:Array Value}(h:ko d w2 y w3)(hb:Below w.heap.size w w2)(h1:w.heap.size<=g)(h2:g<w2.heap.size):ko d w y (w3.setRow g cs):=
 ⟨h.1,h.2.1.grown (qR _ _ _) (fun a e h3=>by have h4:=h.2.2.1 a e;have h5:=zx h3;omega),h.2.2.1.mono hb.size,qB (bt hb h.2.2.2) h1⟩
theorem ziN(n:Int)(B:Nat)(w:World)(hB:B<w.heap.size)(hc:w.cell? ⟨B,0,none⟩=some (.int .i64 n)):
 PredBelow prog 31 #[.pointer (some ⟨B,0,none⟩)] (fun d=>.agg (zM d).toArray) (fun d:Dv=>d.ix==n) w:=fun W d hb=>by
 have hcW:W.cell? ⟨B,0,none⟩=some (.int .i64 n):=(hb.cell (p:=⟨B,0,none⟩) hB).trans hc;have hBW:B<W.heap.size:=i4 hB hb.size;have hne:B≠W.heap.size:=zb;show Calls prog 31 #[.agg #[.int .i64 d.ix,.int .i64 d.pa,.string d.nam,.string d.og,.string d.sb,.string d.dr,.string d.al,.int .i64 d.kd,.int .i64 d.nb,.slice d.ats.A d.ats.l.length d.ats.c],.pointer (some ⟨B,0,none⟩)] W _;go_enter func31,ntmps31;go_wp2
 all_goals (go_ret;exact⟨by first|rfl|simp,hb.alloc hb.size _⟩)
theorem VS(ds:List Dv):(zm ds).length=ds.length:=by simp[zm]
theorem ziL(ds:List Dv)(n:Int):zC (zm ds) n=(ds.find? fun d=>d.ix==n).map Dv.d:=by
 unfold zC zm;rw[List.find?_map];rfl
instance:Inhabited Dv:=⟨qd⟩
theorem qj.cells{w:World}{A:Option Addr}{ds:List Dv}(h:qj w A ds)(hn:0<ds.length):∃b off,A=some ⟨b,off,none⟩/\b<w.heap.size/\∀j,j<ds.length->∀i v,(zM ds[j]!)[i]? =some v->w.cell? ⟨b,off+j*10+i,none⟩=some v:=by
 obtain⟨b,off,rfl,hb,hc⟩:=h.row.row.cell Xl hn;refine⟨b,off,rfl,hb,fun j hj i v hv=>?_⟩;rw[zk5];refine hc j ds[j]! ?_ i v hv;rw[getElem!_pos ds j hj,l0 hj]
def YC(o:Option Dd)(w:World)(e:Ending)(w':World):Prop:=match o with
 |some d=>∃x,e=.returned (.tuple #[zY x,.bool true])/\ko d w x w'
 |none=>e=.returned (.tuple #[zY qd,.bool false])/\Below w.heap.size w w'
end
section
open Go.RowKit
abbrev kc:TypeId:=114
abbrev qg:TypeId:=9
abbrev NK:TypeId:=52
abbrev qn:TypeId:=76
abbrev Uc:TypeId:=120
structure Dm where
 props:Ls At
 tags:Ls ze
 links:Ls ze
 run:Ls ze
 load:Ls ze
 nam:ByteArray
 prio:Int
 own:ByteArray
 grp:ByteArray
 mode:Int
 res:ByteArray
 calls:Int
 ticks:Int
 closed:Ls Tm
def Dm.d(x:Dm):Dr:=⟨x.props.l,x.tags.l,x.links.l,x.run.l,x.load.l,x.nam,x.prio,x.own,x.grp,x.mode,x.res,x.calls,x.ticks,x.closed.l⟩
def zI(x:Dm):Array Value:=#[.slice x.props.A x.props.l.length x.props.c,.slice x.tags.A x.tags.l.length x.tags.c,.slice x.links.A x.links.l.length x.links.c,.slice x.run.A x.run.l.length x.run.c,.slice x.load.A x.load.l.length x.load.c,.string x.nam,.int .i64 x.prio,.string x.own,.string x.grp,.int .i64 x.mode,.string x.res,.int .i64 x.calls,.int .i64 x.ticks,.slice x.closed.A x.closed.l.length x.closed.c]
structure Yg(w:World)(x:Dm):Prop where
 pr:zB 2 zw w x.props
 tg:zB 1 zD w x.tags
 lk:zB 1 zD w x.links
 rn:zB 1 zD w x.run
 ld:zB 1 zD w x.load
 cl:zB 4 zQ w x.closed
theorem Yg.keep{w w':World}{x:Dm}(h:Yg w x)(hb:Below w.heap.size w w'):Yg w' x:=⟨h.pr.keep hb,h.tg.keep hb,h.lk.keep hb,h.rn.keep hb,h.ld.keep hb,h.cl.keep hb⟩
structure CT(x:Dr):Prop where
 pr:x.props.length<=1000
 tg:x.tags.length<=1000
 lk:x.links.length<=1000
 rn:x.run.length<=1000
 ld:x.load.length<=1000
 cl:x.closed.length<=100000
def Mq(l:List (Option Addr)):Prop:=l.Pairwise fun a b=>∀p q,a=some p->b=some q->p.block≠q.block
def Dm.as(x:Dm):List (Option Addr):=[x.props.A,x.tags.A,x.links.A,x.run.A,x.load.A,x.closed.A]
structure ZG(B:Nat)(w:World)(x:Dm):Prop where
 pr:w.ownsRow B kc 2 (.slice x.props.A x.props.l.length x.props.c) x.props.l.length (cellsOf zw x.props.l)
 tg:w.ownsRow B qg 1 (.slice x.tags.A x.tags.l.length x.tags.c) x.tags.l.length (cellsOf zD x.tags.l)
 lk:w.ownsRow B qg 1 (.slice x.links.A x.links.l.length x.links.c) x.links.l.length (cellsOf zD x.links.l)
 rn:w.ownsRow B qg 1 (.slice x.run.A x.run.l.length x.run.c) x.run.l.length (cellsOf zD x.run.l)
 ld:w.ownsRow B qg 1 (.slice x.load.A x.load.l.length x.load.c) x.load.l.length (cellsOf zD x.load.l)
 cl:w.ownsRow B NK 4 (.slice x.closed.A x.closed.l.length x.closed.c) x.closed.l.length (cellsOf zQ x.closed.l)
 ne:Mq x.as
theorem ZG.n{B:Nat}{w:World}{x:Dm}(h:ZG B w x):Yg w x:=⟨(zB.of_own h.pr).1,(zB.of_own h.tg).1,(zB.of_own h.lk).1,(zB.of_own h.rn).1,(zB.of_own h.ld).1,(zB.of_own h.cl).1⟩
theorem ZG.below{B:Nat}{w w':World}{x:Dm}(h:ZG B w x)(hb:Below w.heap.size w w'):ZG B w' x:=⟨qi h.pr hb,qi h.tg hb,qi h.lk hb,qi h.rn hb,qi h.ld hb,qi h.cl hb,h.ne⟩
theorem ZG.base{B C:Nat}{w:World}{x:Dm}(h:ZG B w x)(hc:C<=B):ZG C w x:=⟨Qq h.pr hc,Qq h.tg hc,Qq h.lk hc,Qq h.rn hc,Qq h.ld hc,Qq h.cl hc,h.ne⟩
theorem zaR:(prog.info? 76).map (·.size)=some 14:=zg
theorem Pf(x:Dm):(zI x).all (·.oneCell')=true:=by simp[zI,Value.oneCell']
theorem ZV{W:World}{g:Nat}{T:TypeId}{a0 a1 a2 a3 a4 a5 a6 a7 a8 a9 aa ab ac ad:Value}(h:W.heap[g]? =some (.cells #[a0,a1,a2,a3,a4,a5,a6,a7,a8,a9,aa,ab,ac,ad] T (0,0))):
 W.cell? ⟨g,0,none⟩=some a0/\W.cell? ⟨g,1,none⟩=some a1/\W.cell? ⟨g,2,none⟩=some a2/\W.cell? ⟨g,3,none⟩=some a3/\W.cell? ⟨g,4,none⟩=some a4/\W.cell? ⟨g,5,none⟩=some a5/\W.cell? ⟨g,6,none⟩=some a6/\W.cell? ⟨g,7,none⟩=some a7/\W.cell? ⟨g,8,none⟩=some a8/\W.cell? ⟨g,9,none⟩=some a9/\W.cell? ⟨g,10,none⟩=some aa/\W.cell? ⟨g,11,none⟩=some ab/\W.cell? ⟨g,12,none⟩=some ac/\W.cell? ⟨g,13,none⟩=some ad:=
 ⟨zd h rfl,zd h rfl,zd h rfl,zd h rfl,zd h rfl,zd h rfl,zd h rfl,zd h rfl,zd h rfl,zd h rfl,zd h rfl,zd h rfl,zd h rfl,zd h rfl⟩
theorem UU{w:World}{g i:Nat}{cs:Array Value}{t:TypeId}(h:w.heap[g]? =some (.cells cs t (0,0)))(v:Value):(w.setCell ⟨g,i,none⟩ v).heap[g]? =some (.cells (cs.setIfInBounds i v) t (0,0)):=heap_setCell_same _ _ _ _ _ _ h
end
section
open Go.RowKit Go.Shelf
theorem qj.ten{w:World}{A:Option Addr}{ds:List Dv}(h:qj w A ds){k:Nat}{x:Dv}(hx:ds[k]? =some x):∃b off,A=some ⟨b,off,none⟩/\b<w.heap.size/\∀W,Below w.heap.size w W ->
 W.cell? ⟨b,off+k*10,none⟩=some (.int .i64 x.ix)/\W.cell? ⟨b,off+k*10+1,none⟩=some (.int .i64 x.pa)/\W.cell? ⟨b,off+k*10+2,none⟩=some (.string x.nam)/\W.cell? ⟨b,off+k*10+3,none⟩=some (.string x.og)/\W.cell? ⟨b,off+k*10+4,none⟩=some (.string x.sb)/\W.cell? ⟨b,off+k*10+5,none⟩=some (.string x.dr)/\W.cell? ⟨b,off+k*10+6,none⟩=some (.string x.al)/\W.cell? ⟨b,off+k*10+7,none⟩=some (.int .i64 x.kd)/\W.cell? ⟨b,off+k*10+8,none⟩=some (.int .i64 x.nb)/\W.cell? ⟨b,off+k*10+9,none⟩=some (.slice x.ats.A x.ats.l.length x.ats.c):=by
 obtain⟨hk,rfl⟩:=List.getElem?_eq_some_iff.1 hx;obtain⟨b,off,rfl,hb,hc⟩:=h.row.row.cell Xl hk;have g:∀W,Below w.heap.size w W->∀i v,(zM ds[k])[i]? =some v->W.cell? ⟨b,off+k*10+i,none⟩=some v:=fun W hW i v hv=>by
  rw[hW.cell (p:=⟨b,off+k*10+i,none⟩) hb,zk5];exact hc k _ hx i v hv
 exact⟨b,off,rfl,hb,fun W hW=>⟨g W hW 0 _ rfl,g W hW 1 _ rfl,g W hW 2 _ rfl,g W hW 3 _ rfl,g W hW 4 _ rfl,g W hW 5 _ rfl,g W hW 6 _ rfl,g W hW 7 _ rfl,g W hW 8 _ rfl,g W hW 9 _ rfl⟩⟩
theorem BN(A:Option Addr)(c:Nat)(fv:Value)(w:World):Calls prog 52 #[.slice A 0 c,fv] w fun e w'=>e=.returned (.int .i64 (-1))/\w'=w:=by
 go_enter func52,ntmps52;exact OJ
theorem zhx(g:Nat)(lb:Array Value)(q:Dv->Bool)(eg:∀args w,(callFunc g args).run prog w=.ok (.enter g args) w)(A:Option Addr)(c:Nat)(ds:List Dv)(w:World)(h:qj w A ds)(hp:PredBelow prog g lb (fun d=>.agg (zM d).toArray) q w):
 Calls prog 52 #[.slice A ds.length c,.func (.func g) #[] lb] w fun e w'=>e=.returned (.int .i64 (Lib.idxBy (fun _ y=>q y) ds default))/\Below w.heap.size w w':=by
 rcases Nat.eq_zero_or_pos ds.length with e|e
 · obtain rfl:ds=[]:=List.length_eq_zero_iff.1 e;refine(BN A c _ w).mono ?_;rintro e w' ⟨rfl,rfl⟩;exact⟨rfl,zj⟩
 · obtain⟨b,off,rfl,hb,hc⟩:=h.cells e;have:=AnyQ.slices_IndexFunc zjn 10 isAgg43 sizeOf43 zM Xl q g lb eg b off ds.length c ds w hp zo NL hb hc;rw[List.take_length]at this;exact this
theorem zhP(A:Option Addr)(c:Nat)(ds:List Dv)(n:Int)(B:Nat)(w:World)(h:qj w A ds)(hB:B<w.heap.size)(hc:w.cell? ⟨B,0,none⟩=some (.int .i64 n)):
 Calls prog 30 #[zV A ds c,.func (.func 31) #[] #[.pointer (some ⟨B,0,none⟩)]] w (YC (zC (zm ds) n) w):=by
 have eg:∀args w,(callFunc 31 args).run prog w=.ok (.enter 31 args) w:=enters_of func31 zg rfl;obtain⟨w1,hw1⟩:∃w1,(w.alloc (.cells #[.slice A ds.length c] 30)).alloc (.cells (zq qd) zp)=w1:=⟨_,rfl⟩;have hB1:Below w.heap.size w w1:=Vl;have h1:w1.heap[w.heap.size]? =some (.cells #[.slice A ds.length c] 30 (0,0)):=K7;have h2:w1.heap[w.heap.size+1]? =some (.cells (zq qd) zp (0,0)):=LL;have HI:=za (zhx 31 #[.pointer (some ⟨B,0,none⟩)] (fun d:Dv=>d.ix==n) eg A c ds w1 (h.keep hB1) (ziN n B w1 (i4 hB hB1.size) ((hB1.cell (p:=⟨B,0,none⟩) hB).trans hc)));have HB:=za hB1;have H1:=za h1;have H2:=za h2;have HW:=za hw1;have HT:=za h;have c0:=zd (j:=0) h1 rfl;have hlen:=h.len;have hfi:=ziL ds n;have hcs:=Sc (fun d:Dv=>d.ix==n) ds;clear h hB1 h1 h2 hw1 hc hB eg;unfold zV;generalize Lib.idxBy (fun _ y=>(fun d:Dv=>d.ix==n) y) ds default=ix at*;rcases hcs with⟨k,x,hx,rfl,hf⟩|⟨rfl,hf⟩
 · rw[hf]at hfi;rw[hfi];obtain⟨b,off,rfl,hb,hten⟩:=HT.out.ten hx;have hk:=(List.getElem?_eq_some_iff.1 hx).1;have HIn:=za (HT.out.inn x (X7 hx));have hal:=HT.out.al x (X7 hx);have HCp:=za (fun W (hW:Below w.heap.size w W)=>Dy x W (HIn.out.keep hW) hal);have HTen:=za hten;generalize ds.length=N at*;clear hf hfi hx hten hb;have hkI:(k:Int)<(N:Int):=zb;go_enter func30,ntmps30;go_upto_region 1 with fail
   rw[show(w.alloc (.cells #[.slice (some ⟨b,off,none⟩) N c] 30)).alloc (.cells #[.int .i64 0,.int .i64 0,.string ⟨#[]⟩,.string ⟨#[]⟩,.string ⟨#[]⟩,.string ⟨#[]⟩,.string ⟨#[]⟩,.int .i64 0,.int .i64 0,.slice none 0 0] 43)=w1 from HW.out];go_wp2_with (first
    |(go_at_call 52;refine HI.out.mono ?_;rintro e w2 ⟨rfl,hb2⟩;have HB2:=za hb2;have d0:=zd (j:=0) ((hb2.block _ (zh H1.out)).trans H1.out) rfl;have hx2:=(hb2.block _ (zh H2.out)).trans H2.out;have HX2:=za hx2;clear hb2 hx2;obtain⟨e0,e1,e2,e3,e4,e5,e6,e7,e8,e9⟩:=HTen.out w2 (bt HB.out HB2.out))
    |(go_at_call 37;refine(HCp.out _ (bt HB.out HB2.out)).mono ?_;rintro e w3 ⟨y,rfl,hy⟩;have HY:=za hy;have hx3:=(hy.2.2.2.block _ (zh HX2.out)).trans HX2.out;have HX3:=za hx3;clear hy hx3;unfold zY)
    |(refine wpList_store_row rfl 43 _ _ rfl _ _ rfl rfl _ _ HX3.out Zf rfl qP ?_))
   refine Qx rfl zk zk (setRow_heap _ _ _ _ _ _ HX3.out) underlying43 rfl Zf zk ?_;have hs2:=zh HX2.out;exact⟨y,rfl,HY.out.row (bt HB.out HB2.out) (X2 _) hs2⟩
 · rw[hf]at hfi;rw[hfi];generalize ds.length=N at*;clear hf hfi;go_enter func30,ntmps30;go_upto_region 1 with fail
   rw[show(w.alloc (.cells #[.slice A N c] 30)).alloc (.cells #[.int .i64 0,.int .i64 0,.string ⟨#[]⟩,.string ⟨#[]⟩,.string ⟨#[]⟩,.string ⟨#[]⟩,.string ⟨#[]⟩,.int .i64 0,.int .i64 0,.slice none 0 0] 43)=w1 from HW.out];go_wp2_with (first
    |(go_at_call 52;refine HI.out.mono ?_;rintro e w2 ⟨rfl,hb2⟩;have HB2:=za hb2;have hx2:=(hb2.block _ (zh H2.out)).trans H2.out;have HX2:=za hx2;clear hb2 hx2)
    |(refine wpList_store_row rfl 43 _ _ rfl _ _ rfl rfl _ _ HX2.out Zf rfl qP ?_))
   refine Qx rfl zk zk (setRow_heap _ _ _ _ _ _ HX2.out) underlying43 rfl Zf zk ?_;exact⟨rfl,qB (bt HB.out HB2.out) (X2 _)⟩
theorem VD(A:Option Addr)(c:Nat)(ds:List Dv)(n:Int)(w:World)(h:qj w A ds):
 Calls prog 9 #[zV A ds c,.int .i64 n] w (YC (zC (zm ds) n) w):=by
 obtain⟨hs1,_,k1,k2,hB⟩:=Ka w (.cells #[.slice A ds.length c] 30) (.cells #[.int .i64 n] 3) (.cells (zq qd) zp);obtain⟨w1,hw1⟩:∃w1,((w.alloc (.cells #[.slice A ds.length c] 30)).alloc (.cells #[.int .i64 n] 3)).alloc (.cells (zq qd) zp)=w1:=⟨_,rfl⟩;rw[hw1]at hs1 k1 k2 hB;have HF:=za (zhP A c ds n (w.heap.size+1) w1 (h.keep hB) zb (zd k1 rfl));have HB:=za hB;have HW:=za hw1;have H2:=za k2;clear h hB hw1 k1 k2;generalize zC (zm ds) n=o at*;unfold zV at*;generalize ds.length=N at*;cases o with
 | some d=>
   go_enter func9,ntmps9;go_wp2_with fail
   rw[show((w.alloc (.cells #[.slice A N c] 30)).alloc (.cells #[.int .i64 n] 3)).alloc (.cells #[.int .i64 0,.int .i64 0,.string ⟨#[]⟩,.string ⟨#[]⟩,.string ⟨#[]⟩,.string ⟨#[]⟩,.string ⟨#[]⟩,.int .i64 0,.int .i64 0,.slice none 0 0] 43)=w1 from HW.out];refine HF.out.mono ?_;rintro e w2 ⟨y,rfl,hy⟩;have hx2:=(hy.2.2.2.block _ (zh H2.out)).trans H2.out;have HX2:=za hx2;have HY:=za hy;clear hy hx2;unfold zY;go_wp2_with (refine wpList_store_row rfl 43 _ _ rfl _ _ rfl rfl _ _ HX2.out Zf rfl qP ?_)
   refine Qx rfl zk zk (setRow_heap _ _ _ _ _ _ HX2.out) underlying43 rfl Zf zk ?_;exact⟨y,rfl,HY.out.row HB.out zb zb⟩
 | none=>
   go_enter func9,ntmps9;go_wp2_with fail
   rw[show((w.alloc (.cells #[.slice A N c] 30)).alloc (.cells #[.int .i64 n] 3)).alloc (.cells #[.int .i64 0,.int .i64 0,.string ⟨#[]⟩,.string ⟨#[]⟩,.string ⟨#[]⟩,.string ⟨#[]⟩,.string ⟨#[]⟩,.int .i64 0,.int .i64 0,.slice none 0 0] 43)=w1 from HW.out];refine HF.out.mono ?_;rintro e w2 ⟨rfl,hb2⟩;have hx2:=(hb2.block _ (zh H2.out)).trans H2.out;have HX2:=za hx2;have HB2:=za (bt HB.out hb2);clear hb2 hx2;unfold zY;go_wp2_with (refine wpList_store_row rfl 43 _ _ rfl _ _ rfl rfl _ _ HX2.out Zf rfl qP ?_)
   refine Qx rfl zk zk (setRow_heap _ _ _ _ _ _ HX2.out) underlying43 rfl Zf zk ?_;exact⟨rfl,qB HB2.out zb⟩
end
section
open Go.RowKit Go.Shelf Go.Maps
theorem AR:(prog.info? 92).map (·.size)=some 3:=zg
theorem KJ:Keyed prog 3:=int_keyed underlying3
abbrev Kw(W:World)(b n:Nat)(D:DW):Prop:=W.ownsMap prog 3 (plainElem (H:=Unit) prog 3) b n D
abbrev U3(W:World)(b n:Nat)(D:DW):Prop:=W.ownsMap prog 3 (plainElem (H:=Unit) prog 9) b n D
theorem CC{a:Int}(h1: -9223372036854775808<=a)(h2:a<=9223372036854775807):(Lit.int .i64 a).wf=true:=by
 simp[Lit.wf,IntKind.min,IntKind.max,IntKind.signed,IntKind.bits];omega
theorem KE{a:Int}(h1: -9223372036854775808<=a)(h2:a<=9223372036854775807):keyOf prog 3 (.int .i64 a)=some (.int .i64 a):=keyOf_int_mk underlying3 (CC h1 h2)
theorem Fe{W:World}{m n:Nat}{r:List Dd}(h:U3 W m n (Qk (XV r))){z:Int}(h1: -9223372036854775808<=z)(h2:z<=9223372036854775807):
 (Instr.lookup 90 (.map (some m)) (.int .i64 z) false).run prog W=.ok (.string (bs (orgS (qv r z)))) W/\(Instr.lookup 90 (.map (some m)) (.int .i64 z) true).run prog W=.ok (.tuple #[.string (bs (orgS (qv r z))),.bool (!(qv r z).isEmpty)]) W:=by
 have hz:(zeroValue 9).run prog W=.ok (.string ⟨#[]⟩) W:=zeroValue9 W;have hzd:plainElem (H:=Unit) prog 9 (.string ⟨#[]⟩)=some (.lit (.string []),[]):=plainElem_string underlying9 zi;have hat:(Qk (XV r)).atKey (.int .i64 z) (.lit (.string []))=.lit (.string (orgS (qv r z))):=by
  rw[Ih,ju]
  split
  · rename_i e;rw[e];rfl
  · rfl
 have hhas:Maps.has (Qk (XV r)) (.int .i64 z)= !(qv r z).isEmpty:=by
  rw[FS,ju]
  split
  · rename_i e;rw[e];rfl
  · rename_i e;cases hc:qv r z with
    |nil=>exact absurd hc e
    |cons a b=>rfl
 have hv0:∀{v:Value} {ps:List MemPlace},plainElem (H:=Unit) prog 9 v=some ((Qk (XV r)).atKey (.int .i64 z) (.lit (.string [])),ps)->v=.string (bs (orgS (qv r z))):=fun{v ps} hv=>by
  rw[hat]at hv;obtain⟨t,rfl,ht,_⟩:=plainElem_string_inv underlying9 hv;have e:orgS (qv r z)=L t:=Dt;rw[e,Yl]
 obtain⟨v,ps,hrun,hv⟩:=World.ownsMap.lookup h KJ underlying90 hz hzd (KE h1 h2);obtain⟨v',ps',hrun',hv'⟩:=World.ownsMap.look_ok h KJ underlying90 hz hzd (KE h1 h2);rw[hv0 hv]at hrun;rw[hv0 hv',hhas]at hrun';exact⟨hrun,hrun'⟩
structure Ul(w:World)(A:Option Addr)(N c:Nat)(r:List Dd)(W:World):Prop where
 b0:W.heap[w.heap.size]? =some (.cells #[.slice A N c] 30 (0,0))
 b1:W.heap[w.heap.size+1]? =some (.cells #[.slice none 0 0,.map none,.map none] 92 (0,0))
 b4:W.heap[w.heap.size+1+1+1+1]? =some (.cells #[.slice A N c,.map (some (w.heap.size+1+1)),.map (some (w.heap.size+1+1+1))] 92 (0,0))
 pl:Kw W (w.heap.size+1+1) r.length (Qk (Y8 r))
 og:U3 W (w.heap.size+1+1+1) r.length (Qk (XV r))
 low:Below w.heap.size w W
theorem Ul.go{w W W1:World}{A:Option Addr}{N c:Nat}{r:List Dd}(h:Ul w A N c r W)(hb:Below W.heap.size W W1):Ul w A N c r W1:=
 ⟨(hb.block _ (zh h.b0)).trans h.b0,(hb.block _ (zh h.b1)).trans h.b1,(hb.block _ (zh h.b4)).trans h.b4,h.pl.kept (zG hb none) zl,h.og.kept (zG hb none) zl,bt h.low hb⟩
def IF(A:Option Addr)(c:Nat)(ds:List Dv)(w:World)(e:Ending)(w':World):Prop:=∃p o,e=.returned (.agg #[.slice A ds.length c,.map (some p),.map (some o)])/\Kw w' p ds.length (Qk (Y8 (zm ds).reverse))/\U3 w' o ds.length (Qk (XV (zm ds).reverse))/\Below w.heap.size w w'
structure Xh(d:Dd):Prop where
 ix: -9223372036854775808<=d.ix/\d.ix<=9223372036854775807
 pa: -9223372036854775808<=d.pa/\d.pa<=9223372036854775807
 og:d.og.size<=1000
theorem LV{r:List Dd}(h:∀d∈r,d.og.size<=1000)(n:Int):(orgS (qv r n)).length<=(qv r n).length*1001:=by
 have hm:∀c:List Dd,(∀d∈c,d.og.size<=1000)->(orgS c).length<=c.length*1001:=by
  intro c;induction c with
  |nil=>intro _;simp[zjt]
  | cons d c ih=>
    intro h;have h1:=ih fun x hx=>h x (X6 _ hx);have h2:=h d (X4 ..);rw[N1,r7,u0,zF,u0];omega
 exact hm _ fun d hd=>h d (Jh _ _ _ hd)
theorem Ul.start(w:World)(A:Option Addr)(N c:Nat):Ul w A N c [] (((((w.alloc (.cells #[.slice A N c] 30)).alloc (.cells #[.slice none 0 0,.map none,.map none] 92)).alloc (.map #[] 0)).alloc (.map #[] 0)).alloc (.cells #[.slice A N c,.map (some (w.heap.size+1+1)),.map (some (w.heap.size+1+1+1))] 92)):=by
 obtain⟨w1,h1⟩:∃w1,w.alloc (.cells #[.slice A N c] 30)=w1:=⟨_,rfl⟩;obtain⟨w2,h2⟩:∃w2,w1.alloc (.cells #[.slice none 0 0,.map none,.map none] 92)=w2:=⟨_,rfl⟩;obtain⟨w3,h3⟩:∃w3,w2.alloc (.map #[] 0)=w3:=⟨_,rfl⟩;obtain⟨w4,h4⟩:∃w4,w3.alloc (.map #[] 0)=w4:=⟨_,rfl⟩;have s1:w1.heap.size=w.heap.size+1:=by rw[<-h1];simp
 have s2:w2.heap.size=w.heap.size+1+1:=by rw[<-h2];simp[s1]
 have s3:w3.heap.size=w.heap.size+1+1+1:=by rw[<-h3];simp[s2]
 have s4:w4.heap.size=w.heap.size+1+1+1+1:=by rw[<-h4];simp[s3]
 have b0:w1.heap[w.heap.size]? =some (.cells #[.slice A N c] 30 (0,0)):=by rw[<-h1];exact qt
 have b1:w2.heap[w.heap.size+1]? =some (.cells #[.slice none 0 0,.map none,.map none] 92 (0,0)):=by rw[<-s1,<-h2];exact qt
 have m2:Kw w3 (w.heap.size+1+1) 0 (.map []):=by rw[<-s2,<-h3];exact World.ownsMap_made _ _ _ _
 have m3:U3 w4 (w.heap.size+1+1+1) 0 (.map []):=by rw[<-s3,<-h4];exact World.ownsMap_made _ _ _ _
 have B1:Below w1.heap.size w1 w2:=by rw[<-h2];exact zu
 have B2:Below w2.heap.size w2 w3:=by rw[<-h3];exact zu
 have B3:Below w3.heap.size w3 w4:=by rw[<-h4];exact zu
 have B0:Below w.heap.size w w1:=by rw[<-h1];exact zu
 rw[h1,h2,h3,h4];have B4:=zL w4 (.cells #[.slice A N c,.map (some (w.heap.size+1+1)),.map (some (w.heap.size+1+1+1))] 92);have n4:=i5 w4 (.cells #[.slice A N c,.map (some (w.heap.size+1+1)),.map (some (w.heap.size+1+1+1))] 92);rw[s4]at n4;refine⟨((bt B1 (bt B2 (bt B3 B4))).block _ zb).trans b0,((bt B2 (bt B3 B4)).block _ zb).trans b1,n4,(m2.kept (zG B3 none) zl).alloc _,m3.alloc _,bt B0 (bt B1 (bt B2 (bt B3 B4)))⟩
theorem Ul.add{w W w1 w2:World}{A:Option Addr}{N c:Nat}{r:List Dd}{d:Dd}(h:Ul w A N c r W)(h1:Kw w1 (w.heap.size+1+1) (r.length+1) ((Qk (Y8 r)).put (.int .i64 d.ix) (.lit (.int .i64 r.length))))(g1:W.grownBy w1 (some (w.heap.size+1+1)))
 (h2:U3 w2 (w.heap.size+1+1+1) (r.length+1) ((Qk (XV r)).put (.int .i64 d.ix) (.lit (.string (orgS (qv r d.pa)++47::L d.og)))))(g2:w1.grownBy w2 (some (w.heap.size+1+1+1))):Ul w A N c (d::r) w2:=by
 have k:∀(j:Nat) (o:Obj),j≠w.heap.size+1+1->j≠w.heap.size+1+1+1->W.heap[j]? =some o->w2.heap[j]? =some o:=fun j o n2 n3 e=>by
  rw[g2.block j (i4 (zh e) g1.size) (fun e2=>n3 (zx e2)),g1.block j (zh e) (fun e2=>n2 (zx e2))];exact e
 refine⟨k _ _ zb zb h.b0,k _ _ zb zb h.b1,k _ _ zb zb h.b4,?_,?_,(h.low.grown g1 h.low.size (fun j e=>Im)).grown g2 (i3 h.low.size g1.size) (fun j e=>Im)⟩
 · exact h1.kept g2 Od
 · have e:XV (d::r)=(d.ix,.lit (.string (orgS (qv r d.pa)++47::L d.og)))::XV r:=by rw[XV,zft]
   rw[e];exact h2
theorem zkR{l:List Dd}{k:Nat}{d:Dd}(h:l[k]? =some d):(l.take (k+1)).reverse=d::(l.take k).reverse:=by
 obtain⟨hk,rfl⟩:=List.getElem?_eq_some_iff.1 h;rw[List.take_succ_eq_append_getElem hk,List.reverse_append];rfl
theorem CW(A:Option Addr)(c:Nat)(ds:List Dv)(w:World)(h:qj w A ds)(hi:∀d∈zm ds,Xh d):Calls prog 35 #[zV A ds c] w (IF A c ds w):=by
 have hlen:=h.len;have HT:=za h;have HI:=za hi;have hmm:=@run_makeMap prog;have HEnd:Hid (∀W,Ul w A ds.length c ((zm ds).take ds.length).reverse W->IF A c ds w (.returned (.agg #[.slice A ds.length c,.map (some (w.heap.size+1+1)),.map (some (w.heap.size+1+1+1))])) (W.setRow (w.heap.size+1) #[.slice A ds.length c,.map (some (w.heap.size+1+1)),.map (some (w.heap.size+1+1+1))])):=za fun W hW=>by
  have e:(zm ds).take ds.length=zm ds:=List.take_of_length_le (by rw[VS];exact zo);rw[e]at hW;have l1:(zm ds).reverse.length=ds.length:=by rw[List.length_reverse,VS]
  have p1:=hW.pl;have o1:=hW.og;rw[l1]at p1 o1;exact⟨_,_,rfl,p1.kept (qR _ _ _) Od,o1.kept (qR _ _ _) Od,qB hW.low (X2 _)⟩
 unfold zV;generalize hP:IF A c ds w=P at*;clear hP h hi;obtain⟨N,hN⟩:∃N,ds.length=N:=⟨_,rfl⟩;have HN:=za hN;rw[hN]at hlen HEnd⊢;clear hN;go_enter func35,ntmps35;go_wp2;go_loopg [15,5,4,6] (N+1) (fun gk s15 _ _ _ wr=>∃k:Nat,s15=.int .i64 k/\k+gk=N+1/\k<=N/\Hid (Ul w A N c ((zm ds).take k).reverse wr))
 case atStart=>exact⟨0,rfl,zb,X1 _,Ul.start w A N c⟩
 case round=>
  obtain⟨k,rfl,hkg,hkN,HL⟩:=hrel;clear hmm;by_cases hlt:k<N
  · have hltI:(k:Int)<(N:Int):=by omega
    have hk':k<ds.length:=kz;obtain⟨x,hx⟩:∃x,ds[k]? =some x:=⟨_,l0 hk'⟩;have hxd:(zm ds)[k]? =some x.d:=by unfold zm;rw[zd4,hx];rfl
    have hdi:=HI.out x.d (X7 hxd);have hte:=zkR hxd;have hrl:((zm ds).take k).reverse.length=k:=by rw[List.length_reverse,W9,VS];omega
    obtain⟨b,off,rfl,hb,hten⟩:=HT.out.ten hx;obtain⟨e0,e1,e2,e3,e4,e5,e6,e7,e8,e9⟩:=hten wr HL.out.low;have c0:=zd (j:=0) HL.out.b0 rfl;have hcl:=G5 ((zm ds).take k).reverse x.pa;have hcs:=LV (r:=((zm ds).take k).reverse) (fun d hd=>(HI.out d (List.mem_of_mem_take (List.mem_reverse.1 hd))).og) x.pa;have hoz:=hdi.og;have HDI:=za hdi;have HTE:=za hte;generalize ((zm ds).take k).reverse=r at*;clear hx hxd hten hte hdi;go_upto_region 5 with fail
    obtain⟨w5,hw5⟩:∃w5,wr.alloc (.cells #[.int .i64 x.ix,.int .i64 x.pa,.string x.nam,.string x.og,.string x.sb,.string x.dr,.string x.al,.int .i64 x.kd,.int .i64 x.nb,.slice x.ats.A x.ats.l.length x.ats.c] 43)=w5:=⟨_,rfl⟩;have hL5:=HL.out.go (W1:=w5) (by rw[<-hw5];exact zu);have hd5:w5.heap[wr.heap.size]? =some (.cells #[.int .i64 x.ix,.int .i64 x.pa,.string x.nam,.string x.og,.string x.sb,.string x.dr,.string x.al,.int .i64 x.kd,.int .i64 x.nb,.slice x.ats.A x.ats.l.length x.ats.c] 43 (0,0)):=by rw[<-hw5];exact qt
    rw[hw5];have f0:=zd (j:=0) hd5 rfl;have f1:=zd (j:=1) hd5 rfl;have f3:=zd (j:=3) hd5 rfl;have g1:=zd (j:=1) hL5.b4 rfl;have g2:=zd (j:=2) hL5.b4 rfl;have hlk:=(Fe hL5.og (z:=x.pa) HDI.out.pa.1 HDI.out.pa.2).1;have HL5:=za hL5;have HD5:=za (zh hd5);clear hw5 hL5 hd5 e0 e1 e2 e3 e4 e5 e6 e7 e8 e9 c0;obtain⟨og,hog⟩:∃og,bs (orgS (qv r x.pa))=og:=⟨_,rfl⟩;have hoz2:og.size<=1001000:=by rw[<-hog,Zg];omega
    rw[hog]at hlk;have HOG:=za hog;clear hog hcs hcl;have hz1:x.og.size<=1000:=hoz;have hLd:=HL5.out.go (W1:=w5.drew) (zN zj);have hkm:k<maxLen:=ql;obtain⟨w6,hr6,hp6,hg6⟩:=World.ownsMap.update hLd.pl KJ underlying89 (by rw[hrl];exact hkm) (KE (a:=x.ix) HDI.out.ix.1 HDI.out.ix.2) (plainElem_int underlying3 (a:=(k:Int)) (CC zb zb));obtain⟨w7,hr7,ho7,hg7⟩:=World.ownsMap.update (hLd.og.kept hg6 Od) KJ underlying90 (by rw[hrl];exact hkm) (KE (a:=x.ix) HDI.out.ix.1 HDI.out.ix.2) (plainElem_string underlying9 (s:=og++⟨#[47]⟩++x.og) (by simp only[ByteArray.size_append];show og.size+1+x.og.size<=maxLen;unfold maxLen;omega));have hg5:w5.heap.size<=w6.heap.size:=hg6.size;have hS:∀W:World,(∀g:Nat,g≠w.heap.size+1+1->g≠w.heap.size+1+1+1->g<w5.heap.size->W.heap[g]? =w5.heap[g]?)->W.cell? ⟨w.heap.size+1+1+1+1,1,none⟩=some (.map (some (w.heap.size+1+1)))/\W.cell? ⟨w.heap.size+1+1+1+1,2,none⟩=some (.map (some (w.heap.size+1+1+1)))/\W.cell? ⟨wr.heap.size,0,none⟩=some (.int .i64 x.ix):=fun W hW=>by
     have a1:=zh HL5.out.b4;have a2:=zh HL.out.b4;have a3:=HD5.out;have q1:=hW (w.heap.size+1+1+1+1) zb zb a1;have q2:=hW wr.heap.size zb zb a3;exact⟨by rw[World.cell?_of_block (w:=w5) q1];exact g1,by rw[World.cell?_of_block (w:=w5) q1];exact g2,by rw[World.cell?_of_block (w:=w5) q2];exact f0⟩
    have hS5:=hS w5.drew (fun _ _ _ _=>rfl);have hS6:=hS w6 (fun g n1 n2 hg=>hg6.block g hg (fun e=>n1 (zx e)));have hS7:=hS w7 (fun g n1 n2 hg=>(hg7.block g (i4 hg hg5) (fun e=>n2 (zx e))).trans (hg6.block g hg (fun e=>n1 (zx e))));have HNew:Hid (Ul w (some ⟨b,off,none⟩) N c (x.d::r) w7):=za (Ul.add hLd (by rw[<-hrl]at hp6;rw[hrl];rw[hrl]at hp6;exact hp6) hg6 (by
     have e:L (og++⟨#[47]⟩++x.og)=orgS (qv r x.pa)++47::L x.og:=by rw[TD,TD,<-HOG.out,qz];simp[L]
     have e2:(og++⟨#[47]⟩++x.og).data.toList=orgS (qv r x.d.pa)++47::L x.d.og:=e;rw[e2]at ho7;exact ho7) hg7)
    have HS5:=za hS5;have HS6:=za hS6;have HS7:=za hS7;clear hLd hp6 ho7 hg6 hg7 hS hS5 hS6 hS7 hg5;go_wp2_with fail
    clear hlk
    go_region_held3 (fun W=>W.cell? ⟨w.heap.size+1+1+1+1,1,none⟩=some (.map (some (w.heap.size+1+1)))/\W.cell? ⟨w.heap.size+1+1+1+1,2,none⟩=some (.map (some (w.heap.size+1+1+1)))/\W.cell? ⟨wr.heap.size,0,none⟩=some (.int .i64 x.ix)) ((first|exact HS5.out|exact HS6.out|exact HS7.out)) (fail)
    all_goals
     clear hr6 hr7;go_wp2;go_roundg (gk - 1)
     case measure=>omega
     case rel=>exact⟨k+1,zU,zb,zb,by rw[HTE.out];exact HNew.out⟩
  · obtain rfl:k=N:=by omega
    have g0:=zd (j:=0) HL.out.b4 rfl;have g1:=zd (j:=1) HL.out.b4 rfl;have g2:=zd (j:=2) HL.out.b4 rfl;go_wp2_with (refine wpList_store_row rfl 92 _ _ rfl _ _ rfl rfl _ _ HL.out.b1 (by exact AR) rfl qP ?_)
    refine Yx rfl zk HL.out.b1 underlying92 rfl (by exact AR) zk ?_;exact HEnd.out _ HL.out
theorem zcd(A:Option Addr)(N c p o:Nat)(W:World):(Instr.field 92 (.agg #[.slice A N c,.map (some p),.map (some o)]) 2).run prog W=.ok (.map (some o)) W:=zg
theorem TS(A:Option Addr)(c:Nat)(ds:List Dv)(n:Int)(w:World)(h:qj w A ds)(hi:∀d∈zm ds,Xh d)(h1: -9223372036854775808<=n)(h2:n<=9223372036854775807):
 Calls prog 50 #[zV A ds c,.int .i64 n] w fun e w'=>e=.returned (.tuple #[.string (qK (zm ds) n),.bool (!(zW (zm ds) n).isEmpty)])/\Below w.heap.size w w':=by
 have hb:=zL w (.cells #[.slice A ds.length c] 30);have HL:=za (CW A c ds _ (h.keep hb) hi);have HB:=za hb;unfold IF at HL;clear h hb hi;unfold zV qK zW at*;generalize (zm ds).reverse=r at*;generalize ds.length=N at*;go_enter func50,ntmps50;go_wp2_with (go_at_call 35;refine HL.out.mono ?_;rintro e w2 ⟨p,o,rfl,hp,ho,hb2⟩;have hlk:=(Fe ho h1 h2).2;have hfl:=zcd A N c p o w2;have HB2:=za hb2;clear hp ho hb2)
 go_ret2;exact⟨rfl,bt HB.out HB2.out⟩
end
section
open Go.RowKit Go.Lib
def Om(g:Nat)(lb:Array Value)(p:ByteArray->Bool)(xs:List ByteArray)(w:World):Prop:=∀x∈xs,∀W,Below w.heap.size w W->Calls prog g (#[.string x]++lb) W fun e w'=>e=.returned (.bool (p x))/\Below w.heap.size w w'
theorem K4{w wr:World}{B:Nat}{A:Option Addr}{xs:List ByteArray}(h:zr w B A 1 xs.length (xs.map Value.string))(hb:Below B w wr){k:Nat}(hk:k<xs.length):∃ba off,A=some ⟨ba,off,none⟩/\wr.cell? ⟨ba,off+k,none⟩=some (.string xs[k]):=by
 obtain⟨ba,off,e,hB,hc⟩:=h.at_ zb;refine⟨ba,off,e,?_⟩;have h1:=hc k (.string xs[k]) (by rw[zd4,l0 hk];rfl);exact(hb.cell (p:=⟨ba,off+k,none⟩) hB).trans h1
theorem ze7(g:Nat)(lb:Array Value)(eg:∀args w,(callFunc g args).run prog w=.ok (.enter g args) w)(p:ByteArray->Bool)(A:Option Addr)(c:Nat)(xs:List ByteArray)(w:World)(hr:zr w w.heap.size A 1 xs.length (xs.map Value.string))(hl:xs.length<=1000000000)(hp:Om g lb p xs w):
 Calls prog 160 #[.slice A xs.length c,.func (.func g) #[] lb] w fun e w'=>e=.returned (.int .i64 (Lib.idxBy (fun _ y=>p y) xs default))/\Below w.heap.size w w':=by
 obtain⟨N,hN⟩:∃N,xs.length=N:=⟨_,rfl⟩;have HN:=za hN;have HR:=za hr;have HP:=za hp;rw[hN]at hl⊢;clear hr hp hN;go_enter func160,ntmps160;go_wp2;go_loopg [5,8] N (fun gg _ s8 wr=>∃kk:Nat,kk<=N/\N - kk<=gg/\s8=.int .i64 kk/\Hid (Below w.heap.size w wr)/\Hid (∀j (h:j<xs.length),j<kk->p xs[j]=false))
 case atStart=>exact⟨0,X1 _,zb,rfl,za (Below.refl _ w),za fun j _ hj=>absurd hj (Nat.not_lt_zero _)⟩
 case round=>
  obtain⟨kk,hkk,hg,rfl,BW,HA⟩:=hrel;by_cases hlt:kk<N
  · have hltz:(kk:Int)<(N:Int):=by omega
    have hk:kk<xs.length:=kz;obtain⟨ba,off,rfl,l2⟩:=K4 HR.out BW.out hk;have hcall:=HP.out xs[kk] (X8 hk) wr BW.out;have HX:Hid (∃y,xs[kk]=y):=za ⟨_,rfl⟩;cases hq:p xs[kk]with
    | true=>
      rw[hq]at hcall;have HV:Hid (Lib.idxBy (fun _ y=>p y) xs default=(kk:Int)):=za (by
       have:=Lib.idxBy_hit (fun _ y=>p y) xs xs.length kk default hk zo (by show p xs[kk]! =true;rw[getElem!_pos xs kk hk];exact hq) (fun j h2=>by
        show p xs[j]! =false;rw[getElem!_pos xs j zb];exact HA.out j zb h2)
       rwa [List.take_length]at this)
      clear hq;generalize xs[kk]=y at*;go_wp2_with (go_at_fn g;refine hcall.mono ?_;rintro e w' ⟨rfl,hb'⟩)
      go_ret;rw[HV.out];exact⟨rfl,hb'⟩
    | false=>
      rw[hq]at hcall;have HA2:Hid (∀j (h:j<xs.length),j<kk+1->p xs[j]=false):=za fun j h hj=>by
       rcases Nat.lt_or_ge j kk with h1|h1
       · exact HA.out j h h1
       · obtain rfl:j=kk:=by omega
         exact hq
      clear hq;generalize xs[kk]=y at*;go_wp2_with (go_at_fn g;refine hcall.mono ?_;rintro e w' ⟨rfl,hb'⟩)
      go_roundg (N - (kk+1))
      case measure=>omega
      case rel=>exact⟨kk+1,zb,zb,zU,za hb',HA2⟩
  · have hltz:¬(kk:Int)<(N:Int):=by omega
    have:kk=N:=zb;subst this;have HV:Hid (Lib.idxBy (fun _ y=>p y) xs default= -1):=za (by
     have:=Lib.idxBy_miss (fun _ y=>p y) xs xs.length default (fun j hj=>by
      show p xs[j]! =false;rw[getElem!_pos xs j hj];exact HA.out j hj (by rw[<-HN.out];exact hj))
     rwa [List.take_length]at this)
    go_wp2;go_ret;rw[HV.out];exact⟨rfl,BW.out⟩
theorem EO(g:Nat)(lb:Array Value)(eg:∀args w,(callFunc g args).run prog w=.ok (.enter g args) w)(p:ByteArray->Bool)(A:Option Addr)(c:Nat)(xs:List ByteArray)(w:World)(hr:zr w w.heap.size A 1 xs.length (xs.map Value.string))(hl:xs.length<=1000000000)(hp:Om g lb p xs w):
 Calls prog 125 #[.slice A xs.length c,.func (.func g) #[] lb] w fun e w'=>e=.returned (.bool (xs.any p))/\Below w.heap.size w w':=by
 have HI:=za (ze7 g lb eg p A c xs w hr hl hp);have hE:xs.any p=decide (0<=Lib.idxBy (fun _ y=>p y) xs default):=(Lib.idxBy_nonneg_iff (fun _ y=>p y) xs default).symm;rw[hE];clear hE hr hp;generalize Lib.idxBy (fun _ y=>p y) xs default=z at*;go_enter func125,ntmps125;go_wp2_with (go_at_call 160;refine HI.out.mono ?_;rintro e w' ⟨rfl,hb'⟩)
 go_ret;exact⟨rfl,hb'⟩
end
section
open Go.RowKit Go.Shelf Go.Maps
theorem zhy{W:World}{m N:Nat}{ds:List Dv}(hw:Z8 (zm ds))(h:Kw W m N (Qk (Y8 (zm ds).reverse))){z:Int}(h1: -9223372036854775808<=z)(h2:z<=9223372036854775807):
 ∃(i:Int) (ok:Bool),(Instr.lookup 89 (.map (some m)) (.int .i64 z) true).run prog W=.ok (.tuple #[.int .i64 i,.bool ok]) W/\(match zC (zm ds) z with
  |none=>ok=false
  |some d=>ok=true/\∃(k:Nat) (x:Dv),i=k/\ds[k]? =some x/\x.d=d):=by
 have hz:(zeroValue 3).run prog W=.ok (.int .i64 0) W:=zeroValue3 W;have hzd:plainElem (H:=Unit) prog 3 (.int .i64 0)=some (.lit (.int .i64 0),[]):=plainElem_int underlying3 zi;obtain⟨v,ps,hrun,hv⟩:=World.ownsMap.look_ok h KJ underlying89 hz hzd (KE h1 h2);obtain⟨i,rfl,ht,_⟩:=plainElem_int_inv underlying3 hv;refine⟨i,_,hrun,?_⟩;rw[FS];rw[Ih]at ht;have hp:=AO (zm ds).reverse z;cases ha:Yh (Y8 (zm ds).reverse) z with
 | none=>
   rw[ha]at hp;have:zC (zm ds) z=none:=Io.2 fun x hx=>hp x (List.mem_reverse.2 hx);rw[this];rfl
 | some u=>
   rw[ha]at hp ht;obtain⟨k,d,rfl,hk,hd,hdz⟩:=hp;rw[List.reverse_reverse]at hd;have hf:zC (zm ds) z=some d:=by rw[<-hdz];exact Dj hw (X7 hd)
   rw[hf];unfold zm at hd;rw[zd4]at hd;cases hx:ds[k]? with
   |none=>rw[hx]at hd;cases hd
   | some x=>
     rw[hx]at hd;refine⟨rfl,k,x,?_,hx,zx hd⟩;simpa using (congrArg Prod.fst ht).symm
structure Tt(W:World)(A:Option Addr)(c:Nat)(ds:List Dv)(p o:Nat):Prop where
 tr:qj W A ds
 mp:Kw W p ds.length (Qk (Y8 (zm ds).reverse))
def Xu(A:Option Addr)(c:Nat)(ds:List Dv)(p o:Nat):Array Value:=#[.slice A ds.length c,.map (some p),.map (some o)]
def yp(o:Option Dd)(ds:List Dv)(w:World)(e:Ending)(w':World):Prop:=Below w.heap.size w w'/\match o with
 |some d=>∃x∈ds,x.d=d/\e=.returned (.tuple #[zY x,.bool true])
 |none=>e=.returned (.tuple #[zY qd,.bool false])
theorem zkh(A:Option Addr)(c:Nat)(ds:List Dv)(p o:Nat)(n:Int)(w:World)(h:Tt w A c ds p o)(hw:Z8 (zm ds))(h1: -9223372036854775808<=n)(h2:n<=9223372036854775807):
 Calls prog 54 #[.agg (Xu A c ds p o),.int .i64 n] w (yp (zC (zm ds) n) ds w):=by
 obtain⟨w1,hw1⟩:∃w1,(w.alloc (.cells (Xu A c ds p o) 92)).alloc (.cells (zq qd) zp)=w1:=⟨_,rfl⟩;have hB:Below w.heap.size w w1:=Vl;have hk1:w1.heap[w.heap.size]? =some (.cells (Xu A c ds p o) 92 (0,0)):=K7;have hk2:w1.heap[w.heap.size+1]? =some (.cells (zq qd) zp (0,0)):=by
  rw[<-hw1];have:=i5 (w.alloc (.cells (Xu A c ds p o) 92)) (.cells (zq qd) zp);exact QN
 have c0:=zd (j:=0) hk1 rfl;have c1:=zd (j:=1) hk1 rfl;obtain⟨i,ok,hlk,hf⟩:=zhy (W:=w1) hw (h.mp.kept (zG hB none) zl) h1 h2;have HB:=za hB;have HW:=za hw1;have H2:=za hk2;have HT:=za h.tr;clear hB hw1 hk1 hk2 h hw;unfold Xu at*;unfold yp;cases hfd:zC (zm ds) n with
 | none=>
   rw[hfd]at hf;obtain rfl:ok=false:=hf;generalize ds.length=N at*;clear hfd;go_enter func54,ntmps54;go_upto_region 1 with fail
   rw[show(w.alloc (.cells #[.slice A N c,.map (some p),.map (some o)] 92)).alloc (.cells #[.int .i64 0,.int .i64 0,.string ⟨#[]⟩,.string ⟨#[]⟩,.string ⟨#[]⟩,.string ⟨#[]⟩,.string ⟨#[]⟩,.int .i64 0,.int .i64 0,.slice none 0 0] 43)=w1 from HW.out];go_wp2_with (refine wpList_store_row rfl 43 _ _ rfl _ _ rfl rfl _ _ H2.out Zf rfl qP ?_)
   refine Qx rfl zk zk (setRow_heap _ _ _ _ _ _ H2.out) underlying43 rfl Zf zk ?_;exact⟨qB HB.out (X2 _),rfl⟩
 | some d=>
   rw[hfd]at hf;obtain⟨rfl,k,x,rfl,hx,hxd⟩:=hf;obtain⟨b,off,rfl,hb,hten⟩:=HT.out.ten hx;have hk:=(List.getElem?_eq_some_iff.1 hx).1;have hm:=X7 hx;have HM:=za hm;have HXD:=za hxd;have hlen:=HT.out.len;obtain⟨e0,e1,e2,e3,e4,e5,e6,e7,e8,e9⟩:=hten w1 HB.out;generalize ds.length=N at*;have hkI:(k:Int)<(N:Int):=zb;clear hfd hx hxd hten hm;go_enter func54,ntmps54;go_upto_region 1 with fail
   rw[show(w.alloc (.cells #[.slice (some ⟨b,off,none⟩) N c,.map (some p),.map (some o)] 92)).alloc (.cells #[.int .i64 0,.int .i64 0,.string ⟨#[]⟩,.string ⟨#[]⟩,.string ⟨#[]⟩,.string ⟨#[]⟩,.string ⟨#[]⟩,.int .i64 0,.int .i64 0,.slice none 0 0] 43)=w1 from HW.out];go_wp2_with (refine wpList_store_row rfl 43 _ _ rfl _ _ rfl rfl _ _ H2.out Zf rfl qP ?_)
   refine Qx rfl zk zk (setRow_heap _ _ _ _ _ _ H2.out) underlying43 rfl Zf zk ?_;exact⟨qB HB.out (X2 _),x,HM.out,HXD.out,rfl⟩
def OL(Bn B:Nat)(W W':World):Prop:=W'.heap[Bn]? =W.heap[Bn]?/\W'.heap[B]? =W.heap[B]?
theorem BX(n l Bv Bn:Nat)(A:Option Addr)(c:Nat)(ds:List Dv)(p o:Nat)(n0:Int)(hw:Z8 (zm ds))(hi:∀d∈zm ds,Xh d)(r1: -9223372036854775808<=n0)(r2:n0<=9223372036854775807)(J:List Dv->World->Prop)
 (hJn:∀pre W W',J pre W->Below W.heap.size W W'->J pre W')(hJb:∀pre W v,J pre W->J pre (W.setCell ⟨Bn,0,none⟩ v))
 (hJE:∀pre W,J pre W->Tt W A c ds p o/\W.heap[Bv]? =some (.cells (Xu A c ds p o) 92 (0,0))/\Bn<W.heap.size)
 (hY:∀pre x W0,J pre W0->x∈ds->pre.length<ds.length->YieldAt Fence.wide (n - 1) prog l #[zY x] (W0.alloc (.cells (zq x) zp)) fun e W'=>e=.returned (.bool true)/\J (pre++[x]) W'/\OL Bn W0.heap.size (W0.alloc (.cells (zq x) zp)) W')
 (W:World)(hB:Boxed W Bn 3 (.int .i64 n0))(h0:J [] W):
 CallsIn Fence.wide n prog 53 #[.func (.yield l) #[] #[],.pointer (some ⟨Bv,0,none⟩),.pointer (some ⟨Bn,0,none⟩)] W fun e W'=>(∃v,e=.returned v)/\∃cs:List Dv,cs.map Dv.d=zW (zm ds) n0/\(∀x∈cs,x∈ds)/\J cs W':=by
 refine callsIn_of_wp func53 rfl trivial ?_ rfl;have hE0:=hJE _ _ h0;have hnl:=hE0.1.tr.len;have c0:=zd (j:=0) hE0.2.1 rfl;have HB:=za hB;have H0:=za h0;have HWf:=za hw;have HI:=za hi;have HJn:=za hJn;have HJb:=za hJb;have HJE:=za hJE;have HY:=za hY;have HEnd:Hid (∀(pre:List Dv) (m:Int),pre.map Dv.d++zW (zm ds) m=zW (zm ds) n0->(zW (zm ds) m=[]∨pre.length=ds.length)->pre.map Dv.d=zW (zm ds) n0):=za fun pre m h h2=>by
  rcases h2 with h2|h2
  · rw[h2,zk7]at h;exact h
  · have h3:=NI (zm ds) n0;have h4:=congrArg List.length h;rw[r7,W7,VS]at*;have h5:zW (zm ds) m=[]:=List.length_eq_zero_iff.1 zb;rw[h5,zk7]at h;exact h
 have HStep:Hid (∀m,zC (zm ds) m=none->zW (zm ds) m=[]):=za fun m h=>yG h;have HStep2:Hid (∀m d,zC (zm ds) m=some d->zW (zm ds) m=d::zW (zm ds) d.pa/\Xh d):=za fun m d h=>⟨Gr hw h,hi d (Xz h).1⟩;clear hB h0 hw hi hJn hJb hJE hY hE0;unfold Xu at*;obtain⟨N,hN⟩:∃N,ds.length=N:=⟨_,rfl⟩;have HN:=za hN;rw[hN]at hnl HEnd c0;clear hN;simp only[ntmps53,List.size_toArray,u0,List.length_nil,Nat.reduceAdd,Nat.reduceSub,Array.replicate_succ,Array.replicate_zero,List.push_toArray,List.append_toArray,zk8,List.cons_append]
 gi_wp2
 gi_loopw [9,4,5] (fun s9 _ _ wr=>∃(pre:List Dv) (m:Int),s9=.int .i64 pre.length/\pre.length<=N /\ -9223372036854775808<=m/\m<=9223372036854775807/\Hid (pre.map Dv.d++zW (zm ds) m=zW (zm ds) n0)/\Hid (∀x∈pre,x∈ds)/\Hid (J pre wr)/\Hid (Boxed wr Bn 3 (.int .i64 m))) (fun s9 _ _ _=>N - (intOf s9).toNat)
 case atStart=>exact⟨[],n0,rfl,X1 _,r1,r2,rfl,(fun x hx=>YT),H0.out,HB.out⟩
 case round=>
  obtain⟨pre,m,rfl,hpl,m1,m2,hch,hin,hJ,hBx⟩:=hrel;by_cases hlt:pre.length<N
  · have hE:=HJE.out _ _ hJ.out;rw[HN.out]at hE;have c0:=zd (j:=0) hE.2.1 rfl;have c1:=zd (j:=1) hE.2.1 rfl;have c2:=zd (j:=2) hE.2.1 rfl;have d0:=hBx.out.cell;have HF:=za (zkh A c ds p o m wr hE.1 HWf.out m1 m2);have hblt:=hE.2.2;unfold yp Xu at HF;rw[HN.out]at HF;clear hE;cases hfd:zC (zm ds) m with
    | none=>
      rw[hfd]at HF;have HS:=za (HEnd.out pre m hch.out (Or.inl (HStep.out m hfd)));clear hfd
      gi_wp2_with (refine⟨trivial,(fun h=>qI),?_⟩;gi_at_call 54;refine(callsIn_wide.2 HF.out).mono ?_;rintro e w2 ⟨hb2,rfl⟩;have HB2:=za hb2;clear hb2;unfold zY)
      refine⟨(fun f h=>qI),?_⟩
      gi_wp2
      exact bodyPost_ret (v:=.tuple #[]) (results_none rfl _ _ _) rfl ⟨⟨_,rfl⟩,pre,HS.out,hin.out,HJn.out _ _ _ hJ.out (bt HB2.out zu)⟩
    | some d=>
      rw[hfd]at HF;have hst:=HStep2.out m d hfd;have HS:=za hst.1;have hdp:=hst.2.pa;clear hfd hst
      gi_wp2_with (refine⟨trivial,(fun h=>qI),?_⟩;gi_at_call 54;refine(callsIn_wide.2 HF.out).mono ?_;rintro e w2 ⟨hb2,x,hxm,rfl,rfl⟩;have HXm:=za hxm;have HB2:=za hb2;have hyy:=HY.out pre x w2 (HJn.out _ _ _ hJ.out HB2.out) hxm kz;obtain⟨fn,tmps,assign,body,hy,hR⟩:=hyy;clear hb2 hxm;unfold zY zq at*)
      refine⟨(fun h=>qI),hR.mono ?_⟩;rintro e W3 ⟨rfl,hJ3,hb3⟩;clear hy hR;have hsz:=HB2.out.size;have hbx2:Boxed W3 Bn 3 (.int .i64 m):=by
       have e1:W3.heap[Bn]? =wr.heap[Bn]?:=by
        rw[hb3.1];exact(bt HB2.out zu).block Bn hblt
       exact e1.trans hBx.out
      have f3:=hbx2.frozen;have d3:=hbx2.cell;have hB4:=hbx2.set (.int .i64 x.pa);have hJ4:=HJb.out _ _ (.int .i64 x.pa) hJ3;have HB4:=za hB4;have HJ4:=za hJ4;have q1:W3.cell? ⟨w2.heap.size,1,none⟩=some (.int .i64 x.pa):=by
       rw[World.cell?_of_block hb3.2];exact zd (i5 w2 _) rfl
      clear hJ3 hb3 hB4 hJ4 hbx2
      gi_wp2
      refine⟨⟨pre++[x],x.pa,IV,CN,hdp.1,hdp.2,?_,?_,HJ4.out,HB4.out⟩,by simp[intOf];omega⟩
      · have h5:=hch.out;rw[HS.out]at h5;show(pre++[x]).map Dv.d++zW (zm ds) x.pa=_;rw[List.map_append,zk9];exact h5
      · intro y hy;rcases List.mem_append.1 hy with hy|hy
        · exact hin.out y hy
        · rw[List.mem_singleton.1 hy];exact HXm.out
  · have HS:=za (HEnd.out pre m hch.out (Or.inr zb))
    gi_wp2
    go_end0
    exact⟨⟨_,rfl⟩,pre,HS.out,hin.out,hJ.out⟩
theorem zct{g:Operand}{ps:Array Tmp}{assign body:Code}{Q:Exit->Act->World->Prop}{a:Act}{w:World}(n Bv Bn:Nat)(A:Option Addr)(c:Nat)(ds:List Dv)(p o:Nat)(n0:Int)(hwf:Z8 (zm ds))(hi:∀d∈zm ds,Xh d)(r1: -9223372036854775808<=n0)(r2:n0<=9223372036854775807)
 (hg:a.eval g=.func (.func 53) #[] #[.pointer (some ⟨Bv,0,none⟩),.pointer (some ⟨Bn,0,none⟩)])(hps:ps.size=1)(hB:Boxed w Bn 3 (.int .i64 n0))
 (I:List Dv->World->Prop)(hI:OwnFrom w.heap.size I)(hIb:∀pre A v,I pre A->I pre (A.setCell ⟨Bn,0,none⟩ v))
 (hIE:∀pre W,I pre W->Tt W A c ds p o/\W.heap[Bv]? =some (.cells (Xu A c ds p o) 92 (0,0))/\Bn<W.heap.size)(h0:I [] w)(a₁:Dv->Nat->Act)
 (hassign:∀(l:Nat) (x:Dv) (W:World) (K:Act->World->Prop),K (a₁ x W.heap.size) (W.alloc (.cells (zq x) zp)) ->
   assign.wpIn (Fence.wide.inRound l) (n - 1 - 1) prog (Exit.then K (fun _ _ _=>False)) {tmps:=(ps.zip #[zY x]).foldl (fun t (p,v)=>t.setIfInBounds p v) a.tmps,defers:=[]} W)
 (hbody:∀(l:Nat) (pre:List Dv) (x:Dv) (W0 W:World),I pre W0->I pre W->x∈ds->pre.length<ds.length->W.heap[W0.heap.size+1]? =some (.cells (zq x) zp (0,0))->w.heap.size+2<=W0.heap.size->W0.heap.size+2=W.heap.size->(∀g,g<W0.heap.size->g≠w.heap.size+1->W.heap[g]? =W0.heap[g]?)->body.wpIn (Fence.wide.inRound l) (n - 1 - 1) prog (ownPostK (OL Bn W0.heap.size) I (fun _ _ _=>False) (pre++[x]) W) (a₁ x (W0.heap.size+1)) W)
 (hdone:∀(cs:List Dv) (W:World),cs.map Dv.d=zW (zm ds) n0->(∀x∈cs,x∈ds)->I cs W->W.heap[w.heap.size]? =some (.deferred (some []))->Q .normal {a with defers:={target:=.collected w.heap.size,args:=#[]}::a.defers} W):
 (Code.rangeFunc g ps assign body).wpIn Fence.wide n prog Q a w:=by
 have hBn:=hB.lt;refine wpIn_rangeFunc ?_;intro fn hfn;obtain⟨rec,hrec⟩:∃rec:LoopState->Option Code->Loop,rec=fun st pe=>{state:=st,pending:=pe,fn,tmps:=a.tmps,params:=ps,assign,body,defers:=w.heap.size}:=⟨_,rfl⟩;obtain⟨W1,hW1⟩:∃W1,(w.alloc (.deferred (some []))).alloc (.loop (rec .ready none))=W1:=⟨_,rfl⟩;have hL1:W1.heap[w.heap.size+1]? =some (.loop (rec .ready none)):=E0;have hK1:W1.heap[w.heap.size]? =some (.deferred (some [])):=vH;have hI1:I [] W1:=vR;have hBx1:Boxed W1 Bn 3 (.int .i64 n0):=LI;refine⟨w.heap.size+1,[{target:=.collected w.heap.size,args:=#[]}],W1,{target:=.fn (.func 53) #[.pointer (some ⟨Bv,0,none⟩),.pointer (some ⟨Bn,0,none⟩)],args:=#[.func (.yield (w.heap.size+1)) #[] #[]]},W1,53,
  #[.func (.yield (w.heap.size+1)) #[] #[]]++#[.pointer (some ⟨Bv,0,none⟩),.pointer (some ⟨Bn,0,none⟩)],W1,?_,?_,?_,?_,(fun h=>qI),?_⟩
 · rw[<-hW1,hrec];exact run_enterLoop_outer _ _ _ _ _
 · simp only[resolve,hg];simp[go_sem]
 · intro f' hf';trivial
 · have eg:=enters_of func53 zg rfl;simp[invoke,go_sem]
 · refine (BX (n - 1) (w.heap.size+1) Bv Bn A c ds p o n0 hwf hi r1 r2
    (fun pre W=>I pre W/\W.heap[w.heap.size+1]? =some (.loop (rec .ready none))/\W.heap[w.heap.size]? =some (.deferred (some [])))
    (fun pre A B h hb=>⟨hI pre A B none h.1 (zG hb none) (fun r e=>ZK),(hb.block _ (zh h.2.1)).trans h.2.1,(hb.block _ (zh h.2.2)).trans h.2.2⟩)
    (fun pre A v h=>⟨hIb pre A v h.1,(heap_setCell_other _ _ _ _ zK).trans h.2.1,(heap_setCell_other _ _ _ _ zK).trans h.2.2⟩)
    (fun pre A h=>hIE pre A h.1)
    ?_ W1 hBx1 ⟨hI1,hL1,hK1⟩).mono ?_
   · rintro pre x W0 ⟨hi0,hl0,hk0⟩ hx hlen;obtain⟨W,hW⟩:∃W,W0.alloc (.cells (zq x) zp)=W:=⟨_,rfl⟩;have hb0:Below W0.heap.size W0 W:=by rw[<-hW];exact zu
     have hsW:W.heap.size=W0.heap.size+1:=by rw[<-hW];simp
     have hl1:W.heap[w.heap.size+1]? =some (.loop (rec .ready none)):=(hb0.block _ (zh hl0)).trans hl0;have hk1:W.heap[w.heap.size]? =some (.deferred (some [])):=(hb0.block _ (zh hk0)).trans hk0;have hi1:I pre W:=by rw[<-hW];exact hI.alloc _ hi0
     rw[hW];have hy:=run_yield (P:=prog) (args:=#[zY x]) hl1 (by rw[hrec];exact hps.symm);rw[hrec]at hy;obtain⟨Wa,hWa⟩:∃Wa,W.alloc (.cells (zq x) zp)=Wa:=⟨_,rfl⟩;have hba:Below W.heap.size W Wa:=by rw[<-hWa];exact zu
     have hsA:Wa.heap.size=W0.heap.size+2:=by rw[<-hWa];simp[hsW]
     have hl:Wa.heap[w.heap.size+1]? =some (.loop (rec .ready none)):=(hba.block _ (zh hl1)).trans hl1;have hk:Wa.heap[w.heap.size]? =some (.deferred (some [])):=(hba.block _ (zh hk1)).trans hk1;have hia:I pre Wa:=by rw[<-hWa];exact hI.alloc _ hi1
     have hxa:Wa.heap[W0.heap.size+1]? =some (.cells (zq x) zp (0,0)):=by rw[<-hWa,<-hsW];exact qt
     have hlt:w.heap.size+1<Wa.heap.size:=zh hl;have hlt0:w.heap.size+1<W0.heap.size:=zh hl0;have hBn0:Bn<W0.heap.size:=(hIE _ _ hi0).2.2;refine⟨fn,_,assign,body,hy,roundIn_of_wpIn hfn (hassign _ x W _ ?_)⟩;rw[hWa];refine⟨_,run_beginRound hl (by rw[hrec]),?_⟩;have hl2:(Wa.putObj (w.heap.size+1) (.loop {rec .ready none with state:=.busy})).heap[w.heap.size+1]? =some (.loop {rec .ready none with state:=.busy}):=World.putObj_heap_same hlt;have hk2:(Wa.putObj (w.heap.size+1) (.loop {rec .ready none with state:=.busy})).heap[w.heap.size]? =some (.deferred (some [])):=(World.putObj_heap_other zb).trans hk;have hx2:(Wa.putObj (w.heap.size+1) (.loop {rec .ready none with state:=.busy})).heap[W0.heap.size+1]? =some (.cells (zq x) zp (0,0)):=(World.putObj_heap_other zb).trans hxa;have hob:∀g,g<Wa.heap.size->g≠w.heap.size+1->(Wa.putObj (w.heap.size+1) (.loop {rec .ready none with state:=.busy})).heap[g]? =Wa.heap[g]?:=fun g _ hg=>World.putObj_heap_other zb;have hsz2:(Wa.putObj (w.heap.size+1) (.loop {rec .ready none with state:=.busy})).heap.size=Wa.heap.size:=by simp[World.putObj]
     rw[hsW];refine wpIn_mono (hbody _ pre x W0 _ hi0 (hI.putObj _ hia zb hl rfl) hx hlen hx2 zb (by rw[hsz2,hsA]) (fun g hg hne=>(hob g zb hne).trans ((hba.block g zb).trans (hb0.block g hg)))) ?_;rintro e a3 W3 hp;cases e with
     | normal=>
       obtain⟨hk3,hkp3,hi3⟩:=hp;have hl3:=hk3.same _ _ hl2 rfl;have hr:=run_endRound (P:=prog) none hl3;rw[hrec]at hr hl3;refine⟨_,_,hr,rfl,⟨hI.putObj _ hi3 zb hl3 rfl,?_,?_⟩,?_⟩
       · exact C3
       · exact Cf
       · refine⟨?_,?_⟩
         · rw[World.putObj_heap_other zb,hkp3.1,hob Bn zb zb];exact hba.block Bn zb
         · rw[World.putObj_heap_other zb,hkp3.2,hob W0.heap.size zb zb];exact hba.block _ zb
     |ret=>exact hp.2.elim
     |exit id=>exact hp.2.elim
     |goto t=>exact hp.2.elim
     |panic ch=>exact hp.elim
     |outgrown=>exact hp.elim
   · rintro e W2 ⟨⟨v,rfl⟩,cs,hcs,hin,hi2,hl,hk⟩;exact⟨none,_,Hy,hdone cs _ hcs hin (hI.putObj _ hi2 zb hl rfl) ((World.putObj_heap_other zb).trans hk)⟩
end
section
open Go.RowKit Go.Shelf Go.Maps
theorem ziU(A:Option Addr)(c:Nat)(ds:List Dv)(p o:Nat)(n:Int)(W:World):Calls prog 36 #[.agg (Xu A c ds p o),.int .i64 n] W fun e w'=>e=.returned (.func (.func 53) #[] #[.pointer (some ⟨W.heap.size,0,none⟩),.pointer (some ⟨W.heap.size+1,0,none⟩)])/\(W.alloc (.cells (Xu A c ds p o) 92)).alloc (.cells #[.int .i64 n] 3)=w':=by
 unfold Xu;go_enter func36,ntmps36;exact kl
theorem Jl:(prog.info? 43).map (fun i=>(i.zero,i.size,i.bytes))=some (some (.agg (zq qd)),10,136):=zg
structure Xg(w:World)(A:Option Addr)(c:Nat)(ds:List Dv)(p o:Nat)(n:Int)(base Bv Bn:Nat)(pre:List Dv)(W:World):Prop where
 bi:W.heap[w.heap.size+1]? =some (.cells #[.int .i64 n] 3 (0,0))
 vl:∃(v:Value) (ms:List Dv),W.heap[w.heap.size+1+1]? =some (.cells #[v] 28 (0,0))/\W.ownsRow base zp 10 v ms.length (cellsOf zM ms)/\ms.map Dv.d=(pre.map Dv.d).filter (fun d=> !(d.ix==n))/\(∀y∈ms,ZM W y/\qV base y.ats.A/\∀a,y.ats.A=some a->v.ownBlock≠some a.block)
 mp:Kw W p ds.length (Qk (Y8 (zm ds).reverse))
 bv:W.heap[Bv]? =some (.cells (Xu A c ds p o) 92 (0,0))
 sz:base<=W.heap.size
 low:Below w.heap.size w W
theorem Xg.own{w:World}{A:Option Addr}{c:Nat}{ds:List Dv}{p o:Nat}{n:Int}{base Bv Bn:Nat}(hp:p<base)(hw:w.heap.size<=base):OwnFrom base (Xg w A c ds p o n base Bv Bn):=by
 intro pre W W' row h hg hr;have hc:∀(g:Nat) (cs:Array Value) (t:TypeId),W.heap[g]? =some (.cells cs t (0,0))->W'.heap[g]? =some (.cells cs t (0,0)):=fun g cs t e=>by
  rw[hg.block g (zh e) (fun e2=>by
   obtain⟨_,ob,ho,hb⟩:=hr g e2.symm;rw[e]at ho;rw[<-zx ho]at hb;cases hb)]
  exact e
 obtain⟨v,ms,h1,h2,h3,h4⟩:=h.vl;refine⟨hc _ _ _ h.bi,⟨v,ms,hc _ _ _ h1,?_,h3,fun y hy=>⟨(h4 y hy).1.ownf hg (fun r e=>(hr r e).2),(h4 y hy).2⟩⟩,h.mp.kept hg (fun e=>by have:=(hr p e.symm).1;omega),hc _ _ _ h.bv,i3 h.sz hg.size,h.low.grown hg h.low.size (fun j e=>by have:=(hr j e).1;omega)⟩;refine Xw h2 hg (fun g e hv=>?_);obtain⟨ob,ho,hb⟩:=RV h2 hv;obtain⟨_,ob2,ho2,hb2⟩:=hr g e;rw[ho]at ho2;rw[zx ho2,hb2]at hb;cases hb
theorem Xg.box{w W:World}{A:Option Addr}{c:Nat}{ds:List Dv}{p o:Nat}{n:Int}{base Bv Bn:Nat}{pre:List Dv}(hB:Bn<base)(h1:Bn≠w.heap.size+1)(h2:Bn≠w.heap.size+1+1)(h3:Bn≠p)(h4:Bn≠Bv)(h5:w.heap.size<=Bn)(v:Value)(h:Xg w A c ds p o n base Bv Bn pre W):Xg w A c ds p o n base Bv Bn pre (W.setCell ⟨Bn,0,none⟩ v):=by
 have hg:=qE W Bn 0 v;have k:∀g,g≠Bn->(W.setCell ⟨Bn,0,none⟩ v).heap[g]? =W.heap[g]?:=fun g hg=>heap_setCell_other _ _ _ _ hg;obtain⟨u,ms,q1,q2,q3,q4⟩:=h.vl;refine⟨(k _ zb).trans h.bi,⟨u,ms,(k _ zb).trans q1,Xw q2 hg (fun g e hv=>?_),q3,fun y hy=>⟨(q4 y hy).1.grown hg (fun a ea e=>?_),(q4 y hy).2⟩⟩,h.mp.kept hg (fun e=>?_),(k _ zb).trans h.bv,i3 h.sz hg.size,ZF h.low h5⟩
 · have:=(q2.lt g hv).1;have:=zx e;omega
 · have:=(q4 y hy).2.1 a ea;have:=zx e;omega
 · have:=zx e;omega
theorem Xg.push{w W0 W w4 w5:World}{A A5:Option Addr}{c c5:Nat}{ds:List Dv}{p o:Nat}{n:Int}{base Bv Bn:Nat}{pre ms:List Dv}{x y:Dv}{v:Value}(hA0:Xg w A c ds p o n base Bv Bn pre W0)(hA:Xg w A c ds p o n base Bv Bn pre W)(hxn:¬x.ix=n)
 (v1:W.heap[w.heap.size+1+1]? =some (.cells #[v] 28 (0,0)))(v2:W.ownsRow base zp 10 v ms.length (cellsOf zM ms))(v3:ms.map Dv.d=(pre.map Dv.d).filter (fun d=> !(d.ix==n)))(v4:∀z∈ms,ZM W z/\qV base z.ats.A/\∀a,z.ats.A=some a->v.ownBlock≠some a.block)
 (hold:∀g,g<W0.heap.size->g≠base+1->W.heap[g]? =W0.heap[g]?)(hz:W0.heap.size+2=W.heap.size)(hbs:w.heap.size+3<=base)(hBn:Bn<base)(hBn2:Bn≠w.heap.size+1+1)(hBv:Bv<base)(hBv2:Bv≠w.heap.size+1+1)(hp:p<base)(hp2:p≠w.heap.size+1+1)(hb2:base+2<=W0.heap.size)
 (hy:ko x.d W.drew y w4)(hown:w5.ownsRow base zp 10 (.slice A5 (ms.length+1) c5) (ms.length+1) (cellsOf zM ms++zM y))(hg:(w4.alloc (.cells (zq y) zp)).grownBy w5 v.ownBlock)(hbl:(Value.slice A5 (ms.length+1) c5).ownBlock=v.ownBlock∨(Value.slice A5 (ms.length+1) c5).ownBlock=some (w4.alloc (.cells (zq y) zp)).heap.size):
 KeepsOthers W (w5.setCell ⟨w.heap.size+1+1,0,none⟩ (.slice A5 (ms.length+1) c5))/\OL Bn W0.heap.size W (w5.setCell ⟨w.heap.size+1+1,0,none⟩ (.slice A5 (ms.length+1) c5))/\Xg w A c ds p o n base Bv Bn (pre++[x]) (w5.setCell ⟨w.heap.size+1+1,0,none⟩ (.slice A5 (ms.length+1) c5)):=by
 have hwb:Below W.heap.size W w4:=bt (zN zj) hy.2.2.2;have hbb:Below W.heap.size W (w4.alloc (.cells (zq y) zp)):=zP hwb;have hsz4:(w4.alloc (.cells (zq y) zp)).heap.size=w4.heap.size+1:=zl;have hs4:=hwb.size;have hs5:=hg.size;have hyF:qV W.heap.size y.ats.A:=hy.2.2.1;have hgs:=qE w5 (w.heap.size+1+1) 0 (.slice A5 (ms.length+1) c5);have hg0:∀g,v.ownBlock=some g->base<=g/\g<W0.heap.size:=fun g e=>by
  obtain⟨v',ms',q1,q2,_,_⟩:=hA0.vl;have q3:=hold (w.heap.size+1+1) zb zb;rw[v1,q1]at q3;have q4:v=v':=by injection q3 with q3;injection q3 with q3;injection q3 with q3;injection q3
  subst q4;exact⟨(v2.lt g e).1,(q2.lt g e).2⟩
 have hk:∀g,g<W.heap.size->g≠w.heap.size+1+1->v.ownBlock≠some g->(w5.setCell ⟨w.heap.size+1+1,0,none⟩ (.slice A5 (ms.length+1) c5)).heap[g]? =W.heap[g]?:=fun g h1 h2 h3=>by
  rw[heap_setCell_other _ ⟨w.heap.size+1+1,0,none⟩ g _ h2,hg.block g zb (fun e=>h3 e.symm),hbb.block g h1]
 have hno:∀g,g<base->v.ownBlock≠some g:=fun g h1 e=>by have:=(hg0 g e).1;omega
 refine⟨⟨i3 hbb.size (i3 hs5 hgs.size),fun k ob h1 h2=>?_⟩,⟨hk Bn zb hBn2 (hno _ hBn),hk _ zb zb (fun e=>by have:=(hg0 _ e).2;omega)⟩,?_⟩
 · rw[hk k (zh h1) (fun e=>by rw[e,v1]at h1;rw[<-zx h1]at h2;cases h2) (fun e=>by
    obtain⟨ob2,q1,q2⟩:=RV v2 e;rw[h1]at q1;rw[<-zx q1,h2]at q2;cases q2)]
   exact h1
 refine⟨(hk _ (by have:=zh hA.bi;omega) zb (hno _ zb)).trans hA.bi,⟨.slice A5 (ms.length+1) c5,ms++[y],?_,?_,?_,?_⟩,?_,(hk _ zb hBv2 (hno _ hBv)).trans hA.bv,by have:=hgs.size;omega,?_⟩
 · have q:w5.heap[w.heap.size+1+1]? =some (.cells #[v] 28 (0,0)):=by
    rw[hg.block _ (by have:=zh v1;omega) (fun e=>hno _ zb e.symm),hbb.block _ (zh v1)];exact v1
   rw[heap_setCell_same _ _ _ _ _ _ q];rfl
 · have q:cellsOf zM (ms++[y])=cellsOf zM ms++zM y:=by rw[Xf];simp[cellsOf]
   rw[r7,List.length_singleton,q];exact Xw hown hgs (fun g e h2=>by have:=(hown.lt g h2).1;have:=zx e;omega)
 · rw[List.map_append,List.map_append,List.filter_append,v3];have hyd:y.d=x.d:=hy.1;have hxd:(x.d.ix==n)=false:=by simpa [Dv.d]using hxn
   simp[hyd,hxd]
 · intro z hz2;rcases List.mem_append.1 hz2 with hz2|hz2
   · obtain⟨q1,q2,q3⟩:=v4 z hz2;refine⟨((q1.keep hbb).grown hg (fun a e h=>q3 a e h.symm)).grown hgs (fun a e h=>by have:=q2 a e;have:=zx h;omega),q2,fun a e h=>?_⟩;rcases hbl with h5|h5
     · rw[h5]at h;exact q3 a e h
     · rw[h5]at h;have:=zx h;have:=(q1.pl a e).2;omega
   · obtain rfl:=List.mem_singleton.1 hz2;have hyb:base<=W.heap.size:=zb;refine⟨((hy.2.1.keep zu).grown hg (fun a e h=>by have:=hyF a e;have:=(hg0 _ h.symm).2;omega)).grown hgs (fun a e h=>by have:=hyF a e;have:=zx h;omega),hyF.mono hyb,fun a e h=>?_⟩;have h6:=hyF a e;rcases hbl with h5|h5
     · rw[h5]at h;have:=(hg0 _ h).2;omega
     · rw[h5]at h;have:=zx h;have:=(hy.2.1.pl a e).2;omega
 · exact((hA.mp.kept (zG hbb none) zl).kept hg (fun e=>hno _ hp e.symm)).kept hgs (fun e=>Vg)
 · refine ZF (Below.trans hA.low ((hbb.mono (hA.low.size)).grown hg ?_ (fun j e=>by have:=(hg0 j e).1;omega))) zb;have:=hA.low.size;omega
attribute [local go_sem] Oper.semAt_some
theorem zak(n:Nat)(parts:Array (Nat×Value)):Instr.buildSlice 28 n parts=Yy 28 n parts:=K6
def G2(l:List Dd)(n:Int)(w:World)(e:Ending)(w':World):Prop:=∃(A:Option Addr) (c:Nat) (ms:List Dv),e=.returned (.slice A ms.length c)/\ms.map Dv.d=(zW l n).filter (fun d=> !(d.ix==n))/\w'.ownsRow w.heap.size zp 10 (.slice A ms.length c) ms.length (cellsOf zM ms)/\(∀y∈ms,ZM w' y/\qV w.heap.size y.ats.A)/\Below w.heap.size w w'
attribute [local go_sem ↓] zak ZU
theorem jK(A:Option Addr)(c:Nat)(ds:List Dv)(n:Int)(w:World)(h:qj w A ds)(hi:∀d∈zm ds,Xh d)(hwf:Z8 (zm ds))(r1: -9223372036854775808<=n)(r2:n<=9223372036854775807):
 Calls prog 11 #[zV A ds c,.int .i64 n] w (G2 (zm ds) n w):=by
 obtain⟨hs1,k0,k1,k2,hB⟩:=Ka w (.cells #[.slice A ds.length c] 30) (.cells #[.int .i64 n] 3) (.cells #[.slice none 0 0] 28);obtain⟨w1,hw1⟩:∃w1,((w.alloc (.cells #[.slice A ds.length c] 30)).alloc (.cells #[.int .i64 n] 3)).alloc (.cells #[.slice none 0 0] 28)=w1:=⟨_,rfl⟩;rw[hw1]at hs1 k0 k1 k2 hB;have HLk:=za (fun W (hW:Below w1.heap.size w1 W)=>CW A c ds W (h.keep (bt hB hW)) hi);unfold IF at HLk;have HUp:=za (fun p o W=>ziU A c ds p o n W);have HSx:Hid (∀W,Below w1.heap.size w1 W->W.cell? ⟨w.heap.size,0,none⟩=some (.slice A ds.length c)/\W.cell? ⟨w.heap.size+1,0,none⟩=some (.int .i64 n)):=za fun W hW=>⟨zd ((hW.block _ (zh k0)).trans k0) rfl,zd ((hW.block _ (zh k1)).trans k1) rfl⟩;have HB:=za hB;have HW:=za hw1;have H0:=za k0;have H1:=za k1;have H2:=za k2;have HT:=za h;have HI:=za hi;have HWf:=za hwf;clear h hi hwf hB hw1 k0 k1 k2;unfold zV Xu at*;obtain⟨N,hN⟩:∃N,ds.length=N:=⟨_,rfl⟩;rw[hN]at HLk HUp HSx H0 HW⊢;have HN:=za hN;clear hN;refine(callsIn_wide (n:=6)).1 ?_;refine callsIn_of_wp_marks func11 rfl trivial ?_ rfl;simp only[ntmps11,List.size_toArray,u0,List.length_nil,Nat.reduceAdd,Nat.reduceSub,Array.replicate_succ,Array.replicate_zero,List.push_toArray,List.append_toArray,zk8,List.cons_append]
 gi_wp2
 rw[show((w.alloc (.cells #[.slice A N c] 30)).alloc (.cells #[.int .i64 n] 3)).alloc (.cells #[.slice none 0 0] 28)=w1 from HW.out];refine wpIn_wide.2 ?_;obtain⟨c0,c1⟩:=HSx.out w1 zj
 go_region_held3 (fun W=>W.cell? ⟨w.heap.size,0,none⟩=some (.slice A N c)/\W.cell? ⟨w.heap.size+1,0,none⟩=some (.int .i64 n)) ((first|exact HSx.out _ (zN zj)|exact HSx.out _ hB2|exact HSx.out _ hB3)) ((first|(go_at_call 35;refine(HLk.out _ (zN zj)).mono ?_;rintro e w2 ⟨p,o,rfl,hmp,hmo,hb2⟩;(have hB2:Below w1.heap.size w1 w2:=bt (zN zj) hb2))|(go_at_call 36;refine(HUp.out p o _).mono ?_;rintro e w3 ⟨rfl,hw3⟩;(have hB3:Below w1.heap.size w1 w3:=bt hB2 (by rw[<-hw3];exact zP zu)))))
 have hs3:w3.heap.size=w2.heap.size+2:=by rw[<-hw3];simp
 have hs2:=hB2.size;have hb23:Below w2.heap.size w2 w3:=by rw[<-hw3];exact zP zu
 have hpl:p<w2.heap.size:=by obtain⟨es,ck,hh,_⟩:=hmp;exact zh hh
 have hv3:w3.heap[w2.heap.size]? =some (.cells #[.slice A N c,.map (some p),.map (some o)] 92 (0,0)):=by
  rw[<-hw3,heap_alloc_old _ _ zl];exact qt
 have hn3:Boxed w3 (w2.heap.size+1) 3 (.int .i64 n):=by
  rw[<-hw3];have:=Boxed.new (w2.alloc (.cells #[.slice A N c,.map (some p),.map (some o)] 92)) 3 (.int .i64 n);exact QN
 have hp1:p≠w.heap.size+1/\p≠w.heap.size+1+1:=by
  obtain⟨es,ck,hh,_⟩:=hmp;refine⟨fun e=>?_,fun e=>?_⟩
  · rw[e,(hB2.block _ (zh H1.out)).trans H1.out]at hh;cases hh
  · rw[e,(hB2.block _ (zh H2.out)).trans H2.out]at hh;cases hh
 have HA0:Hid (Xg w A c ds p o n w3.heap.size w2.heap.size (w2.heap.size+1) [] w3):=za ⟨(hB3.block _ (zh H1.out)).trans H1.out,⟨.slice none 0 0,[],(hB3.block _ (zh H2.out)).trans H2.out,World.ownsRow_nil _ _ _ _,rfl,fun y hy=>II⟩,by rw[HN.out];exact hmp.kept (zG hb23 none) zl,by unfold Xu;rw[HN.out];exact hv3,zo,bt HB.out hB3⟩;have HB3:=za hB3;clear hb23 hv3 hmp hmo hb2 hB2 hB3 c0 c1 hw3
 gi_wp2
 refine zct 6 w2.heap.size (w2.heap.size+1) A c ds p o n HWf.out HI.out r1 r2 rfl rfl hn3 (Xg w A c ds p o n w3.heap.size w2.heap.size (w2.heap.size+1)) ?hI ?hIb ?hIE HA0.out (fun x B=>{tmps:=#[.agg #[.slice A N c],.int .i64 n,.pointer (some ⟨w.heap.size,0,none⟩),.pointer (some ⟨w.heap.size+1,0,none⟩),.slice none 0 0,.pointer (some ⟨w.heap.size+1+1,0,none⟩),.pointer (some ⟨B,0,none⟩),.agg #[.slice A N c],.agg #[.slice A N c,.map (some p),.map (some o)],.int .i64 n,.func (.func 53) #[] #[.pointer (some ⟨w2.heap.size,0,none⟩),.pointer (some ⟨w2.heap.size+1,0,none⟩)],zY x,undef,undef,undef,undef,undef,undef,undef,undef,undef,undef],defers:=[]}) ?assign ?body ?done
 case hI=>exact Xg.own zb (by have:=HB.out.size;omega)
 case hIb=>exact fun pre W v hA=>hA.box zb zb zb zb zb zb v
 case hIE=>exact fun pre W hA=>⟨⟨HT.out.keep hA.low,hA.mp⟩,hA.bv,by have:=hA.sz;omega⟩
 case assign=>
  intro l x W K hK;unfold zY zq at*
  gi_wp2
  exact hK
 case body=>
  rintro l pre x W0 W hA0 hA hx hlen hbx hq1 hq2 hold;unfold zY zq at*;obtain⟨v,ms,v1,v2,v3,v4⟩:=hA.vl;have e0:=zd (j:=0) hbx rfl;have e1:=zd (j:=1) hbx rfl;have e2:=zd (j:=2) hbx rfl;have e3:=zd (j:=3) hbx rfl;have e4:=zd (j:=4) hbx rfl;have e5:=zd (j:=5) hbx rfl;have e6:=zd (j:=6) hbx rfl;have e7:=zd (j:=7) hbx rfl;have e8:=zd (j:=8) hbx rfl;have e9:=zd (j:=9) hbx rfl;have d1:=zd (j:=0) hA.bi rfl;have d2:=zd (j:=0) v1 rfl;have f2:W.frozen? ⟨w.heap.size+1+1,0,none⟩=false:=frozen_of_row _ _ _ _ _ v1;by_cases hxn:x.ix=n
  · have hq:(x.ix==n)=true:=by simpa using hxn
    have HNew:Hid (Xg w A c ds p o n w3.heap.size w2.heap.size (w2.heap.size+1) (pre++[x]) W):=za ⟨hA.bi,⟨v,ms,v1,v2,by rw[v3,List.map_append,List.filter_append];simp[Dv.d,hxn],v4⟩,hA.mp,hA.bv,hA.sz,hA.low⟩;clear hA hA0 v1 v2 v3 v4 hbx hold
    gi_wp2
    exact⟨KeepsOthers.refl _,⟨rfl,rfl⟩,HNew.out⟩
  · have hq:(x.ix==n)=false:=by simpa using hxn
    have hxN:ZM W x:=(HT.out.keep hA.low).inn x hx;have hxl:=HT.out.al x hx;have HCp:=za (fun W' (hW:Below W.heap.size W W')=>Dy x W' (hxN.keep hW) hxl);have hd:1<=6 - 1 - 1:=zb;have hmx:prog.follows .mixedOrders=true:=zg;have HA:=za hA;have HA0':=za hA0;have V1:=za v1;have V2:=za v2;have V3:=za v3;have V4:=za v4;have HBx:=za hbx;have HOld:=za hold;obtain⟨i0,hi0,hz0,hz1,hz2⟩:=info_parts Jl;have hmsl:ms.length<=1000:=by
     have q1:=congrArg List.length v3;have q2:=List.length_filter_le (fun d:Dd=> !(d.ix==n)) (pre.map Dv.d);rw[W7]at q1 q2;have q3:=HT.out.len;omega
    have HAp:Hid (∀(w4:World) (y:Dv),ko x.d W.drew y w4->∃v' w',(Zv #[28,28] 28 #[v,.slice (some ⟨w4.heap.size,0,none⟩) 1 1]).run prog (w4.alloc (.cells (zq y) zp))=.ok v' w'/\w'.ownsRow w3.heap.size zp 10 v' (ms.length+1) (cellsOf zM ms++zM y)/\(w4.alloc (.cells (zq y) zp)).grownBy w' v.ownBlock/\(v'=.slice none 0 0↔v=.slice none 0 0/\1=0)/\(v'.ownBlock=v.ownBlock∨v'.ownBlock=some (w4.alloc (.cells (zq y) zp)).heap.size)):=za fun w4 y hy=>by
     have hbb:Below W.heap.size W (w4.alloc (.cells (zq y) zp)):=zP (bt (zN zj) hy.2.2.2);rw[<-ZU];refine run_append_own_at _ w3.heap.size 28 28 zp i0 _ 10 136 underlying28 hi0 hz0 hz1 hz2 rfl zi v ms.length (cellsOf zM ms) (Xw v2 (zG hbb none) (fun g e=>ZK)) ⟨w4.heap.size,0,none⟩ 1 1 (zM y) rfl (fun j u hu=>?_) (by simp[zM,Value.oneCell']) ql zb (i3 hA.sz hbb.size);rw[Ua,zk4];exact zd (i5 w4 _) Gh
    have HSt:Hid (∀(w4 w5:World) (y:Dv),ko x.d W.drew y w4->(w4.alloc (.cells (zq y) zp)).grownBy w5 v.ownBlock->w5.heap[w.heap.size+1+1]? =some (.cells #[v] 28 (0,0))):=za fun w4 w5 y hy hg=>by
     have hbb:Below W.heap.size W (w4.alloc (.cells (zq y) zp)):=zP (bt (zN zj) hy.2.2.2);have q1:=zh v1;rw[hg.block _ (i4 q1 hbb.size) (fun e=>by have:=(v2.lt _ e.symm).1;omega),hbb.block _ q1];exact v1
    have HPush:Hid (∀(w4 w5:World) (y:Dv) (A5:Option Addr) (c5:Nat),ko x.d W.drew y w4->w5.ownsRow w3.heap.size zp 10 (.slice A5 (ms.length+1) c5) (ms.length+1) (cellsOf zM ms++zM y)->(w4.alloc (.cells (zq y) zp)).grownBy w5 v.ownBlock->((Value.slice A5 (ms.length+1) c5).ownBlock=v.ownBlock∨(Value.slice A5 (ms.length+1) c5).ownBlock=some (w4.alloc (.cells (zq y) zp)).heap.size)->KeepsOthers W (w5.setCell ⟨w.heap.size+1+1,0,none⟩ (.slice A5 (ms.length+1) c5))/\OL (w2.heap.size+1) W0.heap.size W (w5.setCell ⟨w.heap.size+1+1,0,none⟩ (.slice A5 (ms.length+1) c5))/\Xg w A c ds p o n w3.heap.size w2.heap.size (w2.heap.size+1) (pre++[x]) (w5.setCell ⟨w.heap.size+1+1,0,none⟩ (.slice A5 (ms.length+1) c5))):=za fun w4 w5 y A5 c5 q1 q2 q3 q4=>
     Xg.push hA0 hA hxn v1 v2 v3 v4 hold hq2 zb zb zb zb zb zb hp1.2 hq1 q1 q2 q3 q4
    clear hA hA0 v1 v2 v3 v4 hbx hold hxN
    gi_wp2
    gi_region_with_o (refine⟨trivial,?_⟩;gi_at_call 37;refine(CallsIn.inRound l (callsIn_wide.2 (HCp.out _ (zN zj)))).mono ?_;rintro e w4 ⟨y,rfl,hy⟩;have hbs:=VE (P:=prog) underlying28 Jl zi zi (zq y) rfl w4;have d4:w4.cell? ⟨w.heap.size+1+1,0,none⟩=some v:=zd (j:=0) ((hy.2.2.2.block _ (zh V1.out)).trans V1.out) rfl;have l4:w.heap.size+1+1<w4.heap.size:=block_lt_of_cell d4;obtain⟨v5,w5,hap,hown5,hg5,_,hbl5⟩:=HAp.out w4 y hy;obtain⟨A5,c5,rfl⟩:=Qf hown5;have hb5:=HSt.out w4 w5 y hy hg5;have d5:w5.cell? ⟨w.heap.size+1+1,0,none⟩=some v:=zd (j:=0) hb5 rfl;have f5:w5.frozen? ⟨w.heap.size+1+1,0,none⟩=false:=frozen_of_row _ _ _ _ _ hb5;have HB5:=za hb5;clear hb5;have HY:=za hy;have HO5:=za hown5;have HG5:=za hg5;have HL5:=za hbl5;clear hy hown5 hg5 hbl5;unfold zY zq at*)
    all_goals
     gi_wp2
     exact HPush.out w4 w5 y A5 c5 HY.out HO5.out HG5.out HL5.out
 case done=>
  rintro cs W hcs hin hA hK;obtain⟨v,ms,v1,v2,v3,v4⟩:=hA.vl;obtain⟨A5,c5,rfl⟩:=Qf v2;have d1:=zd (j:=0) v1 rfl;have hw3:w.heap.size<=w3.heap.size:=zb;have HEnd:Hid (∀ob:Obj,G2 (zm ds) n w (.returned (.slice A5 ms.length c5)) (W.putObj w3.heap.size ob)):=za fun ob=>by
   have hg:=grownBy_putObj' W w3.heap.size ob;have hr:∀r,some w3.heap.size=some r->∃o:Obj,W.heap[r]? =some o/\o.isCells=false:=fun r e=>by
    obtain rfl:=zx e;exact⟨_,hK,rfl⟩
   refine⟨A5,c5,ms,rfl,by rw[v3,hcs],Qq (Xw v2 hg (fun g e h=>?_)) hw3,fun y hy=>⟨(v4 y hy).1.ownf hg hr,(v4 y hy).2.1.mono hw3⟩,hA.low.grown hg hA.low.size (fun j e=>Vg)⟩;obtain⟨o2,q1,q2⟩:=RV v2 h;obtain⟨o3,q3,q4⟩:=hr g e;rw[q1]at q3;rw[zx q3,q4]at q2;cases q2
  clear hA v1 v2 v3 v4 hcs hin
  gi_wp2
  refine⟨zl,.inl ⟨_,_,rfl,run_takeDeferred hK,?_⟩⟩;refine⟨_,results_tmp rfl _ _ _,?_⟩;exact HEnd.out _
end
section
open Go.RowKit Go.Shelf
theorem IZ(l:List ze):cellsOf zD l=l.map fun s=>.string (bs s):=by
 induction l with
 |nil=>rfl
 |cons y r ih=>rw[zl3,<-ih];rfl
theorem zev{B:Nat}(A:Option Addr)(c:Nat)(l:List ze)(v:ByteArray)(w:World)(h:w.ownsRow B qg 1 (.slice A l.length c) l.length (cellsOf zD l))(hl:l.length<=10000)(hs:l.Pairwise (· < ·)):
 Calls prog 221 #[.slice A l.length c,.string v] w fun e w'=>e=.returned (.tuple #[.int .i64 (Zr l (L v):Nat),.bool (decide (L v∈l))])/\Below w.heap.size w w':=by
 have hrow:=(zB.of_own h).1.row;cases hl0:l with
 | nil=>
   refine(Any2.slices_BinarySearch_string_empty Do A c v w).mono ?_;rintro e w' ⟨rfl,rfl⟩;exact⟨by simp[Zr],zj⟩
 | cons x r=>
   rw[<-hl0];have hpos:0<l.length:=by rw[hl0];simp
   obtain⟨b,off,hA,hb,hc⟩:=hrow.row.at_ hpos;have hA:A=some ⟨b,off,none⟩:=hA;rw[hA];let Sx:Nat->ByteArray:=fun t=>if ht:t<l.length then bs l[t]else v;have hcell:∀j,j<l.length->w.cell? ⟨b,off+j,none⟩=some (.string (Sx j)):=fun j hj=>by
    refine hc j _ ?_;show(cellsOf zD l)[j]? =_;rw[IZ,zd4,l0 hj];simp[Sx,hj]
   have hk:Lib.bsGo (fun t=>Op.bytesLess (Sx t).toList v.toList) l.length 0 l.length=Zr l (L v):=by
    refine Lib.bsGo_spec _ _ (fun t ht=>?_) (fun t ht=>?_) _ _ _ zb (X1 _) (PT _ _)
    · obtain⟨h1,h2⟩:=Ds ht;simp only[Sx,h1,dif_pos];rw[tl,tl,qz,Nx];exact zl1 h2
    · by_cases h1:t<l.length
      · simp only[Sx,h1,dif_pos];rw[tl,tl,qz,Nx];exact zl0 (Pe hs ht h1)
      · simp only[Sx,h1,dif_neg,not_false_eq_true];rw[tl,Nx];exact zl0 (Fu _)
   have hm:=Any2.slices_BinarySearch_string Do b off l.length c Sx v w zb hcell;refine hm.mono ?_;rintro e w' ⟨rfl,q,rfl⟩;refine⟨?_,ZO zj q⟩;rw[hk];have hmem:=ziu hs (L v);have hdec:decide (Zr l (L v)<l.length/\Sx (Zr l (L v))=v)=decide (L v∈l):=by
    rw[decide_eq_decide,hmem];constructor
    · rintro⟨h1,h2⟩;refine⟨h1,?_⟩;simp only[Sx,h1,dif_pos]at h2;have h3:=congrArg L h2;rwa [qz]at h3
    · rintro⟨h1,h2⟩;refine⟨h1,?_⟩;simp only[Sx,h1,dif_pos];rw[h2,Yl]
   rw[hdec]
end
section
open Go.RowKit
theorem zjB(f:ByteArray)(ln:Int)(A:Option Addr)(c:Nat)(l:List Tm)(key:Int)(w:World)(hn:l.length<=1000000)(h:zr w w.heap.size A 4 l.length (cellsOf zQ l)):
 Calls prog 76 #[.agg #[.string f,.int .i64 ln,.slice A l.length c],.int .i64 key] w fun e w'=>e=.returned (OF (UE l key))/\Below w.heap.size w w':=by
 have H:=za h;clear h;generalize hN:l.length=N at*;have HN:=za hN;clear hN;go_enter func76,ntmps76;go_wp2;go_loopg [11,7] (N+1) (fun gk s11 _ wr=>∃k:Nat,s11=.int .i64 k/\k+gk=N+1/\k<=N/\Hid (Below w.heap.size w wr)/\Hid (∀j (h:j<l.length),j<k->l[j].key≠key))
 case atStart=>exact⟨0,rfl,zb,X1 _,za zu,za fun j _ h=>absurd h (Nat.not_lt_zero _)⟩
 case round=>
  obtain⟨k,rfl,hkg,hkN,HB,hno⟩:=hrel;by_cases hlt:k<N
  · have hk':k<l.length:=by rw[HN.out];exact hlt
    have hr:=H.out;rw[<-HN.out]at hr;obtain⟨ba,off,rfl,c0,c1,c2,c3⟩:=hr.tm HB.out hk';have hltI:(k:Int)<(N:Int):=zb;clear hr;cases hq:(l[k].key==key)
    · have hne:l[k].key≠key:=by simpa using hq
      have HA:Hid (∀j (h:j<l.length),j<k+1->l[j].key≠key):=za fun j h hj=>TK;generalize l[k].key=ky at*;generalize l[k].name=nmm at*;generalize l[k].op=opp at*;generalize l[k].value=vl at*;go_wp2;go_roundg (gk - 1)
      case measure=>omega
      case rel=>exact⟨k+1,zU,zb,zb,za (zP HB.out),HA⟩
    · have hke:l[k].key=key:=by simpa using hq
      have HV:=za (Lm hno.out hk' hke);generalize l[k].key=ky at*;generalize l[k].name=nmm at*;generalize l[k].op=opp at*;generalize l[k].value=vl at*;subst hke;go_wp2;go_ret2;rw[HV.out];exact⟨rfl,zP HB.out⟩
  · obtain rfl:k=N:=by omega
    have HV:=za (vq (l:=l) (key:=key) fun j h=>hno.out j h GG);go_wp2;go_ret2;rw[HV.out];exact⟨rfl,HB.out⟩
end
end Go.Proofs.YtecbmndgpepkcaaGreatDoor

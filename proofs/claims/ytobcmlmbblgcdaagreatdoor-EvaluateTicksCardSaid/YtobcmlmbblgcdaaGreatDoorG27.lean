/- Contracts of functions that the law reaches, and what they rest on; each under the premises that it names. Shortened by a program. -/
import Derived.Test.YtobcmlmbblgcdaaGreatDoorG21
import Derived.Test.YtobcmlmbblgcdaaGreatDoorG26
import Derived.Defers
import Derived.Test.YtobcmlmbblgcdaaGreatDoorG17
namespace Go.Proofs.YtobcmlmbblgcdaaGreatDoor
open Tryz
set_option maxHeartbeats 8000000
set_option maxRecDepth 100000
section
structure zJ(d:Dr)(k:Nat):Prop where
 pa:ZX d.props
 pl:d.props.length<=64
 pv:∀x∈d.props,x.val.size<=1000000
 ta:d.tags.Pairwise (· < ·)
 tl:d.tags.length<=16
 la:d.links.Pairwise (· < ·)
 ll:d.links.length<=16
 rl:d.run.length<=16
 da:d.load.Pairwise (· < ·)
 dl:d.load.length<=16
 cl:d.closed.length<=k
 nm:d.nam.size<=1000000
 rs:d.res.size<=1000000
 ca:0<=d.calls/\d.calls<=k
 tk:0<=d.ticks/\d.ticks<=1000*k
 tv:∀s∈d.tags,s.length<=1000000
theorem zJ.mono{d:Dr}{k k':Nat}(h:zJ d k)(hk:k<=k'):zJ d k':=
 ⟨h.pa,h.pl,h.pv,h.ta,h.tl,h.la,h.ll,h.rl,h.da,h.dl,Nat.le_trans h.cl hk,h.nm,h.rs,⟨h.ca.1,by have:=h.ca.2;omega⟩,⟨h.tk.1,by have:=h.tk.2;omega⟩,h.tv⟩
theorem zJ.props{d:Dr}{k:Nat}(h:zJ d k){l:List At}(h1:ZX l)(h2:l.length<=64)(h3:∀x∈l,x.val.size<=1000000):zJ {d with props:=l} k:={h with pa:=h1,pl:=h2,pv:=h3}
theorem zJ.tags{d:Dr}{k:Nat}(h:zJ d k){l:List ze}(h1:l.Pairwise (· < ·))(h2:l.length<=16)(h3:∀s∈l,s.length<=1000000):zJ {d with tags:=l} k:={h with ta:=h1,tl:=h2,tv:=h3}
theorem zJ.links{d:Dr}{k:Nat}(h:zJ d k){l:List ze}(h1:l.Pairwise (· < ·))(h2:l.length<=16):zJ {d with links:=l} k:={h with la:=h1,ll:=h2}
theorem zJ.env{d:Dr}{k:Nat}(h:zJ d k){n v:ByteArray}(hv:v.size<=1000000):zJ (Yt d n v) k:=by
 unfold Yt
 split
 · exact h
 · rename_i hb;refine h.props (PJ h.pa _) ?_ (fun x hx=>?_)
   · cases hf:zT d.props (L n)with
     |some y=>exact Nat.le_trans (zi8 h.pa (x:=⟨n,v⟩) hf) h.pl
     | none=>
       have h1:=IV d.props ⟨n,v⟩;have h2:¬64<=d.props.length:=fun e=>hb (by unfold Ll;rw[hf,decide_eq_true e];simp);omega
   · rcases Nb hx with h1|⟨rfl,_⟩
     · exact h.pv x h1
     · exact hv
theorem EE(s:ByteArray):(s.extract 0 256).size<=256:=by rw[<-zC,Q8];simp;omega
theorem zJ.more{d:Dr}{k:Nat}(h:zJ d k){n v:ByteArray}(hv:v.size<=1000000):zJ (UJ d n v) k:=by
 unfold UJ
 split
 · exact h
 · split
   · exact h.env (Nat.le_trans (EE _) zi)
   · exact h.env hv
theorem zJ.tag{d:Dr}{k:Nat}(h:zJ d k)(op:Int){v:ByteArray}(hv:v.size<=1000000):zJ (kh d op v) k:=by
 have hl:(L v).length<=1000000:=by rw[zC];exact hv
 unfold kh
 split
 · split
   · exact h.tags zl zl (fun s hs=>by rw[List.mem_singleton.1 hs];exact hl)
   split
   · refine h.tags (Mh h.ta _ _) (OF h.tl) (fun s hs=>?_);rcases zi1 hs with h1|rfl
     · exact h.tv s h1
     · exact hl
   split
   · exact h.tags (D0 h.ta _) (Nat.le_trans (RU _ _) h.tl) (fun s hs=>h.tv s (by unfold YB at hs;exact(List.mem_filter.1 hs).1))
   · exact h
 · exact h
theorem zeF(op:Int){l:List ze}(w:ByteArray)(h:l.Pairwise (· < ·)/\l.length<=16):(Zo op l w).Pairwise (· < ·)/\(Zo op l w).length<=16:=by
 unfold Zo
 split
 · split
   · exact Le
   · exact⟨Mh h.1 _ _,OF h.2⟩
 · exact h
theorem LI(op:Int):∀(ws:List ByteArray) {l:List ze},(l.Pairwise (· < ·)/\l.length<=16)->(ws.foldl (Zo op) l).Pairwise (· < ·)/\(ws.foldl (Zo op) l).length<=16
 | [],_,h=>h
 |w::ws,_,h=>LI op ws (zeF op w h)
theorem zJ.link{d:Dr}{k:Nat}(h:zJ d k)(op:Int)(v:ByteArray):zJ (XA d op v) k:=by
 unfold XA;have h1:(if op=3∨op=6 then []else d.links).Pairwise (· < ·)/\(if op=3∨op=6 then []else d.links).length<=16:=by
  split
  · exact T6
  · exact⟨h.la,h.ll⟩
 have h2:=LI op (Yg v) h1;exact h.links h2.1 h2.2
theorem zJ.run{d:Dr}{k:Nat}(h:zJ d k)(op:Int)(v:ByteArray):zJ (JP d op v) k:=by
 have h1:(if op=4 then d.run else []).length<=16:=by
  split
  · exact h.rl
  · exact JR
 have h2:(if Uu v&&decide ((if op=4 then d.run else []).length<16)then(if op=4 then d.run else [])++[L v]else(if op=4 then d.run else [])).length<=16:=by
  generalize (if op=4 then d.run else [])=l at*;by_cases hl:l.length<16
  · split
    · exact jJ
    · exact h1
  · rw[decide_eq_false hl,Bool.and_false,if_neg zi];exact h1
 exact{h with rl:=h2}
theorem Ay{P:Dr->Prop}(d:Dr)(t:Tm)(v:ByteArray)(h1:P (UJ d t.name v))(h2:P (Yt d t.name v))(h3:P (kh d t.op v))(h4:X0 (L v)=true->P {d with nam:=v})(h5:P (XA d t.op v))(h6:ZY (L v)=true->P {d with own:=v})(h7:ZY (L v)=true->P {d with grp:=v})
 (h8:U6 (L v)=true->P {d with mode:=Gi (L v)})(h9:P (JP d t.op v))(h10:Uu v=true->P {d with load:=Qt d.load (L v) 16})(h11:∀n,Vi (L v)=some n->P {d with prio:=n})(h0:P d):P (ZV d t v):=by
 unfold ZV;by_cases k6:t.key=6
 · rw[if_pos k6];by_cases o4:t.op=4
   · rw[if_pos o4];exact h1
   · rw[if_neg o4];exact h2
 rw[if_neg k6];by_cases k7:t.key=7
 · rw[if_pos k7];exact h3
 rw[if_neg k7];by_cases k15:t.key=15
 · rw[if_pos k15];by_cases b:X0 (L v)=true
   · rw[if_pos b];exact h4 b
   · exact GS
 rw[if_neg k15];by_cases k16:t.key=16
 · rw[if_pos k16];exact h5
 rw[if_neg k16];by_cases k17:t.key=17
 · rw[if_pos k17];by_cases b:ZY (L v)=true
   · rw[if_pos b];exact h6 b
   · exact GS
 rw[if_neg k17];by_cases k18:t.key=18
 · rw[if_pos k18];by_cases b:ZY (L v)=true
   · rw[if_pos b];exact h7 b
   · exact GS
 rw[if_neg k18];by_cases k19:t.key=19
 · rw[if_pos k19];by_cases b:U6 (L v)=true
   · rw[if_pos b];exact h8 b
   · exact GS
 rw[if_neg k19];by_cases k20:t.key=20
 · rw[if_pos k20];exact h9
 rw[if_neg k20];by_cases k21:t.key=21
 · rw[if_pos k21];by_cases b:Uu v=true
   · rw[if_pos b];exact h10 b
   · exact GS
 rw[if_neg k21];by_cases k22:t.key=22
 · rw[if_pos k22];cases hp:Vi (L v)with
   |none=>exact h0
   |some n=>exact h11 n hp
 rw[if_neg k22];exact h0
theorem zJ.asg{d:Dr}{k:Nat}(h:zJ d k)(t:Tm){v:ByteArray}(hv:v.size<=1000000):zJ (ZV d t v) k:=
 Ay (P:=fun d=>zJ d k) d t v (h.more hv) (h.env hv) (h.tag _ hv) (fun _=>{h with nm:=hv}) (h.link _ _) (fun _=>{h with}) (fun _=>{h with}) (fun _=>{h with}) (h.run _ _) (fun _=>{h with da:=Mh h.da _ _,dl:=OF h.dl}) (fun _ _=>{h with}) h
theorem zJ.apply{d:Dr}{k:Nat}(h:zJ d k)(t:Tm){v:ByteArray}(hv:v.size<=1000000):zJ (XX d t v) (k+1):=by
 unfold XX
 split
 · exact h.mono (Nat.le_succ _)
 split
 · have h1:=h.asg t hv;have h2:=h1.mono (Nat.le_succ k);refine{h2 with cl:=?_};have:=h1.cl;exact jJ
 · exact(h.asg t hv).mono (Nat.le_succ _)
theorem zJ.import_{k:Nat}:∀(l:List At) {d:Dr},zJ d k->(∀x∈l,x.val.size<=1000000)->zJ (XY d l) k
 | [],_,h,_=>h
 | x::l,d,h,hl=>by
   unfold XY;rw[List.foldl_cons];refine zJ.import_ l ?_ (fun y hy=>hl y (List.mem_cons_of_mem _ hy))
   split
   · exact h.env (hl x (List.mem_cons_self ..))
   · exact h
theorem OO(c:qO)(x:Ev)(s:ByteArray):(QD c x s).size<=256:=by
 unfold QD XV
 split
 · exact EE _
 · exact JR
theorem zJ.tick{x:Ev}{k:Nat}(h:zJ x.dr k){t:Int}(h0:0<=t)(h1:t<=1000):zJ (Q7 x t).dr (k+1):=by
 have h2:=h.mono (Nat.le_succ k);refine{h2 with ca:=?_,tk:=?_}
 · have:=h.ca;refine⟨?_,?_⟩
   · show 0<=x.dr.calls+1;omega
   · show x.dr.calls+1<=((k+1:Nat):Int);omega
 · have:=h.tk;refine⟨?_,?_⟩
   · show 0<=x.dr.ticks+t;omega
   · show x.dr.ticks+t<=1000*((k+1:Nat):Int);omega
def GZ(l:List Hp)(lim:Int):Prop:=1<=lim/\lim<=1000/\∀x∈l,0<=x.ticks/\x.out.size<=256
theorem MP{l:List Hp}{lim:Int}(h:GZ l lim)(calls:Int)(cmd:ByteArray):0<=(Zb l lim calls cmd).2.1/\(Zb l lim calls cmd).2.1<=lim/\(Zb l lim calls cmd).1.size<=256/\(16<=calls->(Zb l lim calls cmd).2.1=0):=by
 have h1:=h.1;unfold Zb
 split
 · exact L0
 · rename_i hc
   split
   · exact L0
   · rename_i x hx;have hm:=h.2.2 x (List.mem_of_find?_eq_some hx)
     split
     · exact⟨by show 0<=lim;omega,Int.le_refl _,Nat.zero_le _,fun e=>absurd e hc⟩
     · rename_i ht
       split
       · exact⟨hm.1,by show x.ticks<=lim;omega,Nat.zero_le _,fun e=>absurd e hc⟩
       · exact⟨hm.1,by show x.ticks<=lim;omega,hm.2,fun e=>absurd e hc⟩
structure Jj(i:Ma):Prop where
 hp:GZ i.hps i.lim
 par:∀x∈i.par,x.val.size<=1000000
 bui:∀n,∀x∈Ya n i.tree i.ix,x.val.size<=1000000
theorem yX:∀(m:Nat) (d:UInt8) (s:ze),∀x∈Lib.splitK [d] 0 m s,x.length<=s.length
 |0,d,s,x,hx=>va
 | m + 1,d,s,x,hx=>by
   rw[Lib.splitK]at hx
   split at hx
   · rw[List.mem_singleton]at hx;rw[hx];exact zo
   · rcases List.mem_cons.1 hx with rfl|hx
     · exact IJ
     · have:=yX m d _ x hx;exact GV
theorem zbG(s:ByteArray)(c:UInt8):∀x∈Zf c s,x.size<=s.size:=by
 intro x hx;have h:=Lib.splitB_data ⟨#[c]⟩ 0 (Lib.countB s ⟨#[c]⟩) s;have h3:(Zf c s).map L=Lib.splitK [c] 0 (Lib.countB s ⟨#[c]⟩) (L s):=h;have h1:=yX (Lib.countB s ⟨#[c]⟩) c (L s) (L x) Co;rwa [zC,zC]at h1
theorem Fv(s t:ze):(Lib.cut s t).1.length<=s.length/\(Lib.cut s t).2.1.length<=s.length:=by
 unfold Lib.cut
 split
 · exact⟨by show(List.take _ _).length<=_;rw[List.length_take];omega,by show(List.drop _ _).length<=_;rw[List.length_drop];omega⟩
 · exact⟨zo,Nat.zero_le _⟩
theorem C3{o:ByteArray}:∀x∈YI o,x.name.size<=o.size/\x.val.size<=o.size:=by
 intro x hx;obtain⟨p,hp,he⟩:=List.mem_filterMap.1 hx;have h1:=zbG o 59 p hp;have h2:=Fv (L p) [61];rw[zC]at h2;unfold Jv at he
 split at he
 · injection he with he
   subst he;exact⟨CB,CB⟩
 · cases he
theorem zja{o:ByteArray}(ho:o.size<=256):∀x∈YI o,x.val.size<=1000000:=fun x hx=>by have:=(C3 x hx).2;omega
theorem EA{c:qO}(hi:Jj c.i)(l:List Tm){x:Ev}{k:Nat}(h:zJ x.dr k)(t:Tm):zJ (qH c l x t).1.dr (k+1):=by
 have hm:=h.mono (Nat.le_succ k);have hc:=MP hi.hp x.dr.calls (QD c x t.value);have h1000:=hi.hp.2.1;have ht:zJ (Q7 x (qQ c x t.value).2.1).dr (k+1):=h.tick hc.1 (by have:=hc.2.1;unfold qQ;omega);unfold qH
 split
 · exact hm
 split
 · split
   · exact hm
   · split<;>exact hm
 split
 · exact{ht with rs:=Nat.le_trans hc.2.2.1 zi}
 split
 · unfold QB
   split
   · exact ht.import_ _ (zja hc.2.2.1)
   split
   · split
     · exact hm
     · exact hm.import_ _ (fun x hx=>hi.par x (List.mem_filter.1 hx).1)
   split
   · exact hm.import_ _ (hi.bui _)
   · exact hm
 · exact hm
theorem Rf{c:qO}(hi:Jj c.i)(l:List Tm):∀(r:List Tm) {x:Ev} {k:Nat},zJ x.dr k->zJ (ZU c l r x).1.dr (k+r.length)
 | [],_,_,h=>h
 | t ::r,x,k,h=>by
   have h1:=EA hi l h t;have e:k+(t::r).length=k+1+r.length:=GB;rw[e];unfold ZU
   split
   · split
     · exact Rf hi l r h1
     · exact h1.mono zb
   · exact Rf hi l r (h.mono (Nat.le_succ k))
theorem vj{c:qO}{x:Ev}{k:Nat}(h:zJ x.dr k)(t:Tm)(ht:t.value.size<=1000000):zJ (Z9 c x t).dr (k+1):=by
 unfold Z9;refine h.apply t ?_
 split
 · exact ht
 · exact Nat.le_trans (OO _ _ _) zi
theorem vQ{c:qO}:∀(r:List Tm) {x:Ev} {k:Nat},zJ x.dr k->(∀t∈r,t.value.size<=1000000)->zJ (r.foldl (Z9 c) x).dr (k+r.length)
 | [],_,_,h,_=>h
 | t::r,x,k,h,ht=>by
   have h1:=vQ (c:=c) r (vj (c:=c) h t (ht t (List.mem_cons_self ..))) (fun y hy=>ht y (List.mem_cons_of_mem _ hy));rw[List.foldl_cons,List.length_cons];exact h1.mono zb
theorem zhR{c:qO}(hi:Jj c.i){l:List Tm}(hl:∀t∈l,t.value.size<=1000000){x:Ev}{k:Nat}(h:zJ x.dr k):zJ (Zx c x l).1.dr (k+2*l.length):=by
 have h1:zJ (ZU c l l {x with ab:=c.dev,re:=false}).1.dr (k+l.length):=Rf hi l l (x:={x with ab:=c.dev,re:=false}) h;unfold Zx;dsimp only
 split
 · refine(vQ _ h1 (fun t ht=>hl t (List.mem_filter.1 ht).1)).mono ?_;have:=List.length_filter_le (fun t:Tm=> !qu t.op) l;omega
 · exact h1.mono zb
end
section
open Go.RowKit
abbrev qN:TypeId:=34
abbrev qm:TypeId:=37
abbrev U9:TypeId:=109
structure Rm where
 path:ByteArray
 ix:Int
 props:Ls At
 tags:Ls ze
 links:Ls ze
 run:Ls ze
 load:Ls ze
 nam:ByteArray
 prio:Int
 own:ByteArray
 grp:ByteArray
 mode:Int
def Rm.d(r:Rm):Rc:=⟨r.path,r.ix,r.props.l,r.tags.l,r.links.l,r.run.l,r.load.l,r.nam,r.prio,r.own,r.grp,r.mode⟩
def qn(r:Rm):Array Value:=#[.string r.path,.int .i64 r.ix,.slice r.props.A r.props.l.length r.props.c,.slice r.tags.A r.tags.l.length r.tags.c,.slice r.links.A r.links.l.length r.links.c,.slice r.run.A r.run.l.length r.run.c,.slice r.load.A r.load.l.length r.load.c,.string r.nam,.int .i64 r.prio,.string r.own,.string r.grp,.int .i64 r.mode]
structure Xj(w:World)(r:Rm):Prop where
 pr:zA 2 zu w r.props
 tg:zA 1 zE w r.tags
 lk:zA 1 zE w r.links
 rn:zA 1 zE w r.run
 ld:zA 1 zE w r.load
theorem Xj.keep{w w':World}{r:Rm}(h:Xj w r)(hb:Below w.heap.size w w'):Xj w' r:=⟨h.pr.keep hb,h.tg.keep hb,h.lk.keep hb,h.rn.keep hb,h.ld.keep hb⟩
theorem Oh(r:Rm):(qn r).all (·.oneCell')=true:=by simp[qn,Value.oneCell']
theorem zer:(prog.info? 34).map (·.size)=some 12:=zg
theorem ziV:(prog.info? 37).map (·.size)=some 17:=zg
def Qu(x:Hp):List Value:=[.string x.cmd,.string x.out,.bool x.fails,.int .i64 x.ticks]
structure zt where
 act:ByteArray
 tA:Option Addr
 tc:Nat
 tds:List Dv
 ix:Int
 r:Rm
 hs:Ls Hp
 lim:Int
 dev:Dv
 org:ByteArray
 pnt:ByteArray
def zt.i(c:zt):Ma:=⟨c.act,zm c.tds,c.ix,c.r.props.l,c.hs.l,c.lim⟩
def zt.c(c:zt):qO:=⟨c.i,c.dev.d,c.org,c.pnt⟩
structure Em where
 dr:Dm
 ab:Dv
 re:Bool
def Em.e(x:Em):Ev:=⟨x.dr.d,x.ab.d,x.re⟩
def zM(c:zt):Array Value:=#[.string c.act,.slice c.tA c.tds.length c.tc,.int .i64 c.ix,.string c.r.path,.int .i64 c.r.ix,.slice c.r.props.A c.r.props.l.length c.r.props.c,.slice c.r.tags.A c.r.tags.l.length c.r.tags.c,.slice c.r.links.A c.r.links.l.length c.r.links.c,.slice c.r.run.A c.r.run.l.length c.r.run.c,.slice c.r.load.A c.r.load.l.length c.r.load.c,.string c.r.nam,.int .i64 c.r.prio,.string c.r.own,.string c.r.grp,.int .i64 c.r.mode,.slice c.hs.A c.hs.l.length c.hs.c,.int .i64 c.lim]
def qP(c:zt)(x:Em):Array Value:=#[.slice x.dr.props.A x.dr.props.l.length x.dr.props.c,.slice x.dr.tags.A x.dr.tags.l.length x.dr.tags.c,.slice x.dr.links.A x.dr.links.l.length x.dr.links.c,.slice x.dr.run.A x.dr.run.l.length x.dr.run.c,.slice x.dr.load.A x.dr.load.l.length x.dr.load.c,.string x.dr.nam,.int .i64 x.dr.prio,.string x.dr.own,.string x.dr.grp,.int .i64 x.dr.mode,.string x.dr.res,.int .i64 x.dr.calls,.int .i64 x.dr.ticks,.slice x.dr.closed.A x.dr.closed.l.length x.dr.closed.c,.string c.act,.slice c.tA c.tds.length c.tc,.int .i64 c.ix,.string c.r.path,.int .i64 c.r.ix,.slice c.r.props.A c.r.props.l.length c.r.props.c,.slice c.r.tags.A c.r.tags.l.length c.r.tags.c,.slice c.r.links.A c.r.links.l.length c.r.links.c,.slice c.r.run.A c.r.run.l.length c.r.run.c,.slice c.r.load.A c.r.load.l.length c.r.load.c,.string c.r.nam,.int .i64 c.r.prio,.string c.r.own,.string c.r.grp,.int .i64 c.r.mode,.slice c.hs.A c.hs.l.length c.hs.c,.int .i64 c.lim,.int .i64 c.dev.ix,.int .i64 c.dev.pa,.string c.dev.nam,.string c.dev.og,.string c.dev.sb,.string c.dev.dr,.string c.dev.al,.int .i64 c.dev.kd,.int .i64 c.dev.nb,.slice c.dev.ats.A c.dev.ats.l.length c.dev.ats.c,.string c.org,.string c.pnt,.int .i64 x.ab.ix,.int .i64 x.ab.pa,.string x.ab.nam,.string x.ab.og,.string x.ab.sb,.string x.ab.dr,.string x.ab.al,.int .i64 x.ab.kd,.int .i64 x.ab.nb,.slice x.ab.ats.A x.ab.ats.l.length x.ab.ats.c,.bool x.re]
theorem Sl(c:zt):(zM c).all (·.oneCell')=true:=by simp[zM,Value.oneCell']
structure ZH(w:World)(c:zt):Prop where
 tr:ql w c.tA c.tds
 rc:Xj w c.r
 hp:zA 4 Qu w c.hs
theorem ZH.keep{w w':World}{c:zt}(h:ZH w c)(hb:Below w.heap.size w w'):ZH w' c:=⟨h.tr.keep hb,h.rc.keep hb,h.hp.keep hb⟩
def zt.as(c:zt):List (Option Addr):=[c.tA,c.r.props.A,c.r.tags.A,c.r.links.A,c.r.run.A,c.r.load.A,c.hs.A,c.dev.ats.A]++c.tds.map fun d=>d.ats.A
def Em.as(x:Em):List (Option Addr):=x.dr.as++[x.ab.ats.A]
def Xd(g:Nat)(l:List (Option Addr)):Prop:=∀a∈l,∀p,a=some p->p.block≠g
structure zN(w:World)(g:Nat)(c:zt)(x:Em):Prop where
 box:w.heap[g]? =some (.cells (qP c x) U9 (0,0))
 inp:ZH w c
 dev:ZS w c.dev
 dr:Q5 w x.dr
 ab:ZS w x.ab
 offc:Xd g c.as
 offx:Xd g x.as
theorem zN.keep{w w':World}{g:Nat}{c:zt}{x:Em}(h:zN w g c x)(hb:Below w.heap.size w w'):zN w' g c x:=⟨(hb.block _ (zh h.box)).trans h.box,h.inp.keep hb,h.dev.keep hb,h.dr.keep hb,h.ab.keep hb,h.offc,h.offx⟩
theorem QM{a:Option Addr}{g:Nat}{l:List (Option Addr)}(h:Xd g l)(hm:a∈l):∀p,a=some p->some p.block≠some g:=fun p e k=>h a hm p e (zx k)
theorem ql.grown{w w':World}{A:Option Addr}{ds:List Dv}{g:Nat}(h:ql w A ds)(hg:w.grownBy w' (some g))(hA:∀p,A=some p->p.block≠g)(hd:∀d∈ds,∀p,d.ats.A=some p->p.block≠g):ql w' A ds:=
 ⟨h.row.grown hg (fun p e k=>hA p e (zx k)),fun d hm=>(h.inn d hm).grown hg (fun p e k=>hd d hm p e (zx k)),h.len,h.al⟩
theorem zt.mem{c:zt}{g:Nat}(h:Xd g c.as):Xd g [c.tA,c.r.props.A,c.r.tags.A,c.r.links.A,c.r.run.A,c.r.load.A,c.hs.A,c.dev.ats.A]/\∀d∈c.tds,∀p,d.ats.A=some p->p.block≠g:=
 ⟨fun a ha=>h a (List.mem_append_left _ ha),fun d hd=>h d.ats.A (List.mem_append_right _ (List.mem_map.2 ⟨d,hd,rfl⟩))⟩
theorem ZH.grown{w w':World}{c:zt}{g:Nat}(h:ZH w c)(hg:w.grownBy w' (some g))(ho:Xd g c.as):ZH w' c:=by
 obtain⟨h1,h2⟩:=zt.mem ho;exact⟨h.tr.grown hg (h1 _ zl) h2,⟨h.rc.pr.grown hg (QM h1 zl),h.rc.tg.grown hg (QM h1 zl),h.rc.lk.grown hg (QM h1 zl),h.rc.rn.grown hg (QM h1 zl),h.rc.ld.grown hg (QM h1 zl)⟩,h.hp.grown hg (QM h1 zl)⟩
theorem Q5.grown{w w':World}{x:Dm}{g:Nat}(h:Q5 w x)(hg:w.grownBy w' (some g))(ho:Xd g x.as):Q5 w' x:=
 ⟨h.pr.grown hg (QM ho ZD),h.tg.grown hg (QM ho ZD),h.lk.grown hg (QM ho ZD),h.rn.grown hg (QM ho ZD),h.ld.grown hg (QM ho ZD),h.cl.grown hg (QM ho ZD)⟩
theorem zN.set{w w5:World}{g:Nat}{c:zt}{x:Em}(h:zN w g c x)(hb:Below w.heap.size w w5)(y:Em)(hd:Q5 w5 y.dr)(ha:ZS w5 y.ab)(ho:Xd g y.as):zN (w5.setRow g (qP c y)) g c y/\w.grownBy (w5.setRow g (qP c y)) (some g):=by
 have hg:=qM w5 g (qP c y);have hbx:=(hb.block _ (zh h.box)).trans h.box;have h1:=(zt.mem h.offc).1;have hyd:Xd g y.dr.as:=fun a hm=>ho a (List.mem_append_left _ hm);refine⟨⟨setRow_heap _ _ _ _ _ _ hbx,(h.inp.keep hb).grown hg h.offc,(h.dev.keep hb).grown hg (QM h1 zl),hd.grown hg hyd,ha.grown hg (QM ho (List.mem_append_right _ zl)),h.offc,ho⟩,(zF hb _).trans hg⟩
theorem SJ{w w':World}{g:Nat}(h:w.grownBy w' (some g)){b:Nat}(hb:b<w.heap.size)(hn:b≠g):w'.heap[b]? =w.heap[b]?:=h.block b hb (fun e=>hn (zx e))
theorem Au{w w':World}{g B:Nat}(h:w.grownBy w' (some g))(hB:B<=g)(hs:B<=w.heap.size):Below B w w':=(Below.refl B w).grown h hs (fun j e=>by rw[<-zx e];exact hB)
structure YX(c:zt)(x:Em)(k:Nat):Prop where
 gd:zJ x.dr.d k
 kk:k<=100000
 ok:Jj c.i
 dv:∀d∈zm c.tds,Xh d/\d.sb.size<=1000/\d.dr.size<=1000 /\ -9223372036854775808<=d.nb/\d.nb<=9223372036854775807/\∀a∈d.ats,a.val.size<=1000000
 wf:QW (zm c.tds)
 ix1: -9223372036854775808<=c.ix
 ix2:c.ix<=9223372036854775807
 dev:c.dev.d∈zm c.tds
 ab:x.ab.d∈zm c.tds
 org:c.org.size<=1000000
 pnt:c.pnt.size<=1000000
 hl:c.hs.l.length<=1000
 hc:∀y∈c.hs.l,y.cmd.size<=1000000
 act:c.act.size<=1000000
 pl:c.r.props.l.length<=1000
 pz:∀y∈c.r.props.l,y.name.size<=1000000
end
section
open Go.RowKit
theorem Qo.edLoad{B g:Nat}{y:Dm}{w:World}{l':List ze}{e:Ending}{w':World}(h:qs B w g y)(hi:Qo B y.load.A y.load.c y.load.l l' w e w'):∃A' c',e=.returned (.slice A' l'.length c')/\w'.cell? ⟨g,4,none⟩=some (.slice y.load.A y.load.l.length y.load.c)/\w'.frozen? ⟨g,4,none⟩=false/\zQ B g y w {y with load:=⟨A',c',l'⟩} (w'.setCell ⟨g,4,none⟩ (.slice A' l'.length c')):=by
 obtain⟨A',c',h1,h2,h3,h4⟩:=hi;have hq:=zQ.set_load h h3 h2 h4;have hmem:y.load.A∈y.as:=ZD;have hbox:w'.heap[g]? =some (.cells (zD y) XQ (0,0)):=(h3.block g (zh h.box) (fun e=>by
  obtain⟨p,e1,e2⟩:=ZI e.symm;exact h.off _ hmem p e1 e2)).trans h.box
 exact⟨A',c',h1,(ZG hbox).2.2.2.2.1,qb hbox 4,hq⟩
structure Ee(d:Dr):Prop where
 pl:d.props.length<=1000
 pa:ZX d.props
 pv:∀x∈d.props,x.val.size<=1000000
 tl:d.tags.length<=1000
 ta:d.tags.Pairwise (· < ·)
 ll:d.links.length<=1000
 la:d.links.Pairwise (· < ·)
 rl:d.run.length<=1000
 dl:d.load.length<=1000
 da:d.load.Pairwise (· < ·)
theorem zJ.edz{d:Dr}{k:Nat}(h:zJ d k):Ee d:=⟨Tc,h.pa,h.pv,PG,h.ta,by have:=h.ll;omega,h.la,by have:=h.rl;omega,by have:=h.dl;omega,h.da⟩
def AX(d:Dr)(v:ByteArray):Dr:=if U6 (L v)then{d with mode:=Gi (L v)}else d
theorem ziz(B g:Nat)(y:Dm)(s:ByteArray)(w:World)(h:qs B w g y)(hE:Env w)(hs:s.size<=1000000):
 Calls prog 175 #[.pointer (some ⟨g,0,none⟩),.string s] w (qB B g y w (AX y.d s)):=zeP B g y s w h hE hs
theorem zge(B g:Nat)(y:Dm)(t:Tm)(v:ByteArray)(w:World)(h:qs B w g y)(hz:Ee y.d)(hE:Env w)(hB:nG<=B)(hv:v.size<=1000000):
 Calls prog 145 #[.pointer (some ⟨g,0,none⟩),qi t,.string v] w (qB B g y w (ZV y.d t v)):=by
 obtain⟨ky,nmm,op,vl⟩:=t;obtain⟨w1,hw1⟩:∃w1,(w.alloc (.cells #[.int .i64 ky,.string nmm,.int .i64 op,.string vl] 46))=w1:=⟨_,rfl⟩;have hb1:Below w.heap.size w w1:=ZQ;have hT:w1.heap[w.heap.size]? =some (.cells #[.int .i64 ky,.string nmm,.int .i64 op,.string vl] 46):=Qi;have c0:w1.cell? ⟨w.heap.size,0,none⟩=some (.int .i64 ky):=zd hT rfl;have c1:w1.cell? ⟨w.heap.size,1,none⟩=some (.string nmm):=zd hT rfl;have c2:w1.cell? ⟨w.heap.size,2,none⟩=some (.int .i64 op):=zd hT rfl;have HH:=za h;have HZ:=za hz;have HE:=za hE;have HB1:=za hb1;have HW1:=za hw1;have HV:=za hv;have HL:Hid (∀{d':Dr} {e:Ending} {W:World},qB B g y w1 d' e W->qB B g y w d' e W):=za fun h2=>qB.lift HH.out HB1.out h2;have HSame:Hid (∀W,Below w1.heap.size w1 W->qB B g y w y.d (.returned (.tuple #[])) W):=za fun W hW=>qB.same HH.out (bt HB1.out hW);have HF:Hid (∀W,Below w1.heap.size w1 W->qs B W g y):=za fun W hW=>HH.out.below (bt HB1.out hW);have e1:=(hb1.block _ (zh h.box)).trans h.box;clear h hz hE hb1 hT hw1 hv;unfold qi;dsimp only;by_cases hk:ky=6
 · skip
   by_cases h4:op=4
   · subst h4;have hA:ZV y.d ⟨ky,nmm,4,vl⟩ v=UJ y.d nmm v:=Vw;rw[hA];clear hA;subst hk;have HC:=za (zgd B g y nmm v w1 (HF.out w1 zk) HZ.out.pl HZ.out.pa HV.out HZ.out.pv);have c0:=c0;clear e1 HSame HF;go_enter func145,ntmps145;go_upto_region 1 with fail
     rw[HW1.out];go_wp2_with (go_at_call 170;refine HC.out.mono ?_;rintro e w2 hP;obtain⟨rfl,-⟩:=id hP;have HP:=za hP;clear hP)
     exact KJ
   · have hA:ZV y.d ⟨ky,nmm,op,vl⟩ v=Yt y.d nmm v:=by subst hk;unfold ZV;rw[if_pos rfl,if_neg h4]
     rw[hA];clear hA;subst hk;have HC:=za (Pa B g y nmm v w1 (HF.out w1 zk) HZ.out.pl HZ.out.pa MT);clear e1 HSame HF;go_enter func145,ntmps145;go_upto_region 1 with fail
     rw[HW1.out];go_wp2_with (go_at_call 164;refine HC.out.mono ?_;rintro e w2 hP;obtain⟨rfl,-⟩:=id hP;have HP:=za hP;clear hP)
     exact KJ
 have n6:¬ky=6:=hk;clear hk;by_cases hk:ky=7
 · skip
   have hA:ZV y.d ⟨ky,nmm,op,vl⟩ v=kh y.d op v:=Vw;rw[hA];clear hA;subst hk;have HC:=za (ziW B g y op v w1 (HF.out w1 zk) HZ.out.tl HZ.out.ta HV.out);clear e1 HSame HF;go_enter func145,ntmps145;go_upto_region 1 with fail
   rw[HW1.out];go_wp2_with (go_at_call 171;refine HC.out.mono ?_;rintro e w2 hP;obtain⟨rfl,-⟩:=id hP;have HP:=za hP;clear hP)
   exact KJ
 have n7:¬ky=7:=hk;clear hk;by_cases hk:ky=15
 · skip
   have hA:ZV y.d ⟨ky,nmm,op,vl⟩ v=if X0 (L v)then{y.d with nam:=v}else y.d:=Vw;rw[hA];clear hA;subst hk;have HC0:=NR v w1 HV.out;have HSet:Hid (∀W,Below w1.heap.size w1 W->qB B g y w {y.d with nam:=v} (.returned (.tuple #[])) (W.setCell ⟨g,5,none⟩ (.string v))):=za fun W hW=>HL.out (((zQ.same (HF.out w1 zk) hW).trans (zQ.scalar (HF.out W hW) 5 (.string v) {y with nam:=v} rfl rfl ⟨(HF.out W hW).rows.pr,(HF.out W hW).rows.tg,(HF.out W hW).rows.lk,(HF.out W hW).rows.rn,(HF.out W hW).rows.ld,(HF.out W hW).rows.cl,(HF.out W hW).rows.ne⟩)).p rfl);have HFz:Hid (∀W,Below w1.heap.size w1 W->W.cell? ⟨g,5,none⟩=some (.string y.nam)/\W.frozen? ⟨g,5,none⟩=false):=za fun W hW=>by
    have hb:=(HF.out W hW).box;exact⟨zd hb rfl,qb hb 5⟩
   clear e1 HF;cases hv:X0 (L v)with
   | true=>
     rw[hv]at HC0;have HC:=za HC0;clear HC0 hv;rw[if_pos rfl];go_enter func145,ntmps145;go_upto_region 1 with fail
     rw[HW1.out];go_wp2_with (go_at_call 172;refine HC.out.mono ?_;rintro e w2 ⟨rfl,hb2⟩;have HB2:=za hb2;obtain⟨q5,f5⟩:=HFz.out w2 hb2;clear hb2)
     refine bodyPost_ret (v:=.tuple #[]) (results_none rfl _ _ _) rfl ?_;exact HSet.out w2 HB2.out
   | false=>
     rw[hv]at HC0;have HC:=za HC0;clear HC0 hv;rw[if_neg zi];go_enter func145,ntmps145;go_upto_region 1 with fail
     rw[HW1.out];go_wp2_with (go_at_call 172;refine HC.out.mono ?_;rintro e w2 ⟨rfl,hb2⟩;have HB2:=za hb2;obtain⟨q5,f5⟩:=HFz.out w2 hb2;clear hb2)
     refine bodyPost_ret (v:=.tuple #[]) (results_none rfl _ _ _) rfl ?_;exact HSame.out w2 HB2.out
 have n15:¬ky=15:=hk;clear hk;by_cases hk:ky=16
 · skip
   have hA:ZV y.d ⟨ky,nmm,op,vl⟩ v=XA y.d op v:=Vw;rw[hA];clear hA;subst hk;have HC:=za (zfv B g y op v w1 (HF.out w1 zk) HZ.out.ll HZ.out.la (HE.out.go HB1.out).toEnv0 hB HV.out);clear e1 HSame HF;go_enter func145,ntmps145;go_upto_region 1 with fail
   rw[HW1.out];go_wp2_with (go_at_call 173;refine HC.out.mono ?_;rintro e w2 hP;obtain⟨rfl,-⟩:=id hP;have HP:=za hP;clear hP)
   exact KJ
 have n16:¬ky=16:=hk;clear hk;by_cases hk:ky=17
 · skip
   have hA:ZV y.d ⟨ky,nmm,op,vl⟩ v=if ZY (L v)then{y.d with own:=v}else y.d:=Vw;rw[hA];clear hA;subst hk;have HC0:=ID v w1 MT;have HSet:Hid (∀W,Below w1.heap.size w1 W->qB B g y w {y.d with own:=v} (.returned (.tuple #[])) (W.setCell ⟨g,7,none⟩ (.string v))):=za fun W hW=>HL.out (((zQ.same (HF.out w1 zk) hW).trans (zQ.scalar (HF.out W hW) 7 (.string v) {y with own:=v} rfl rfl ⟨(HF.out W hW).rows.pr,(HF.out W hW).rows.tg,(HF.out W hW).rows.lk,(HF.out W hW).rows.rn,(HF.out W hW).rows.ld,(HF.out W hW).rows.cl,(HF.out W hW).rows.ne⟩)).p rfl);have HFz:Hid (∀W,Below w1.heap.size w1 W->W.cell? ⟨g,7,none⟩=some (.string y.own)/\W.frozen? ⟨g,7,none⟩=false):=za fun W hW=>by
    have hb:=(HF.out W hW).box;exact⟨zd hb rfl,qb hb 7⟩
   exact C2
 have n17:¬ky=17:=hk;clear hk;by_cases hk:ky=18
 · skip
   have hA:ZV y.d ⟨ky,nmm,op,vl⟩ v=if ZY (L v)then{y.d with grp:=v}else y.d:=Vw;rw[hA];clear hA;subst hk;have HC0:=ID v w1 MT;have HSet:Hid (∀W,Below w1.heap.size w1 W->qB B g y w {y.d with grp:=v} (.returned (.tuple #[])) (W.setCell ⟨g,8,none⟩ (.string v))):=za fun W hW=>HL.out (((zQ.same (HF.out w1 zk) hW).trans (zQ.scalar (HF.out W hW) 8 (.string v) {y with grp:=v} rfl rfl ⟨(HF.out W hW).rows.pr,(HF.out W hW).rows.tg,(HF.out W hW).rows.lk,(HF.out W hW).rows.rn,(HF.out W hW).rows.ld,(HF.out W hW).rows.cl,(HF.out W hW).rows.ne⟩)).p rfl);have HFz:Hid (∀W,Below w1.heap.size w1 W->W.cell? ⟨g,8,none⟩=some (.string y.grp)/\W.frozen? ⟨g,8,none⟩=false):=za fun W hW=>by
    have hb:=(HF.out W hW).box;exact⟨zd hb rfl,qb hb 8⟩
   exact C2
 have n18:¬ky=18:=hk;clear hk;by_cases hk:ky=19
 · skip
   have hA:ZV y.d ⟨ky,nmm,op,vl⟩ v=AX y.d v:=Vw;rw[hA];clear hA;subst hk;have HC:=za (ziz B g y v w1 (HF.out w1 zk) (HE.out.go HB1.out) HV.out);clear e1 HSame HF;go_enter func145,ntmps145;go_upto_region 1 with fail
   rw[HW1.out];go_wp2_with (go_at_call 175;refine HC.out.mono ?_;rintro e w2 hP;obtain⟨rfl,-⟩:=id hP;have HP:=za hP;clear hP)
   exact KJ
 have n19:¬ky=19:=hk;clear hk;by_cases hk:ky=20
 · skip
   have hA:ZV y.d ⟨ky,nmm,op,vl⟩ v=JP y.d op v:=Vw;rw[hA];clear hA;subst hk;have HC:=za (zae B g y op v w1 (HF.out w1 zk) HZ.out.rl HV.out);clear e1 HSame HF;go_enter func145,ntmps145;go_upto_region 1 with fail
   rw[HW1.out];go_wp2_with (go_at_call 176;refine HC.out.mono ?_;rintro e w2 hP;obtain⟨rfl,-⟩:=id hP;have HP:=za hP;clear hP)
   exact KJ
 have n20:¬ky=20:=hk;clear hk;by_cases hk:ky=21
 · skip
   have hA:ZV y.d ⟨ky,nmm,op,vl⟩ v=if Uu v then{y.d with load:=Qt y.d.load (L v) 16}else y.d:=Vw;rw[hA];clear hA;subst hk;have HC0:=fun W=>Do v W MT;have h1:=HF.out w1 zk;have HPut:=za (Tt y.load.A y.load.c y.load.l v 16 w1 h1.rows.ld (by have:=HZ.out.dl;have e:y.d.load=y.load.l:=rfl;rw[e]at this;omega) zb (Nat.le_trans h1.lo (Nat.le_of_lt (zh h1.box))) HZ.out.da);have q4:w1.cell? ⟨g,4,none⟩=some (.slice y.load.A y.load.l.length y.load.c):=zd h1.box rfl;have f4:=qb h1.box 4;have H1:=za h1;clear e1 h1;cases hv:Uu v with
   | true=>
     simp only[hv]at HC0;have HC:=za HC0;clear HC0 hv;rw[if_pos rfl];go_enter func145,ntmps145;go_upto_region 1 with fail
     rw[HW1.out];go_wp2_with (first|(go_at_call 177;refine(HC.out _).mono ?_;rintro e w2 ⟨rfl,rfl⟩)|(go_at_call 178;refine HPut.out.mono ?_;rintro e w5 hI;obtain⟨A5,c5,rfl,q5,f5,hP⟩:=Qo.edLoad H1.out hI;have HP:=za hP;clear hP hI))
     refine bodyPost_ret (v:=.tuple #[]) (results_none rfl _ _ _) rfl ?_;exact HL.out (HP.out.p rfl)
   | false=>
     simp only[hv]at HC0;have HC:=za HC0;clear HC0 hv;rw[if_neg zi];go_enter func145,ntmps145;go_upto_region 1 with fail
     rw[HW1.out];go_wp2_with (first|(go_at_call 177;refine(HC.out _).mono ?_;rintro e w2 ⟨rfl,rfl⟩))
     refine bodyPost_ret (v:=.tuple #[]) (results_none rfl _ _ _) rfl ?_;exact HSame.out _ zk
 have n21:¬ky=21:=hk;clear hk;by_cases hk:ky=22
 · skip
   have hA:ZV y.d ⟨ky,nmm,op,vl⟩ v=Vv y.d v:=Vw;rw[hA];clear hA;subst hk;have HC:=za (zi0 B g y v w1 (HF.out w1 zk) (HE.out.go HB1.out) HV.out);clear e1 HSame HF;go_enter func145,ntmps145;go_upto_region 1 with fail
   rw[HW1.out];go_wp2_with (go_at_call 179;refine HC.out.mono ?_;rintro e w2 hP;obtain⟨rfl,-⟩:=id hP;have HP:=za hP;clear hP)
   exact KJ
 have n22:¬ky=22:=hk;clear hk;have hA:ZV y.d ⟨ky,nmm,op,vl⟩ v=y.d:=by unfold ZV;rw[if_neg n6,if_neg n7,if_neg n15,if_neg n16,if_neg n17,if_neg n18,if_neg n19,if_neg n20,if_neg n21,if_neg n22]
 rw[hA];clear hA e1 HF;go_enter func145,ntmps145;go_upto_region 1 with fail
 rw[HW1.out];go_wp2;refine bodyPost_ret (v:=.tuple #[]) (results_none rfl _ _ _) rfl ?_;exact HSame.out w1 zk
end
section
open Go.RowKit Go.Shelf
instance:Inhabited Hp:=⟨⟨⟨#[]⟩,⟨#[]⟩,false,0⟩⟩
theorem ziu(cmd:ByteArray)(B:Nat)(w:World)(hs:cmd.size<=1000000)(hB:B<w.heap.size)(h0:w.cell? ⟨B,0,none⟩=some (.string cmd))(l:List Hp)(hl:∀x∈l,x.cmd.size<=1000000)(W:World)(hb:Below w.heap.size w W)(x:Hp)(hx:x∈l):
 Calls prog 158 #[.agg #[.string x.cmd,.string x.out,.bool x.fails,.int .i64 x.ticks],.pointer (some ⟨B,0,none⟩)] W fun e w'=>e=.returned (.bool (zS (L x.cmd) (L cmd)))/\Below w.heap.size w w':=by
 have c0:W.cell? ⟨B,0,none⟩=some (.string cmd):=(hb.cell (p:=⟨B,0,none⟩) hB).trans h0;have hBW:B<W.heap.size:=Nat.lt_of_lt_of_le hB hb.size;have hne:B≠W.heap.size:=zb;have HM:=za (fun W=>MI x.cmd cmd W (by have:=hl x hx;omega) zb);have HB:=za (zR (o:=.cells #[.string x.cmd,.string x.out,.bool x.fails,.int .i64 x.ticks] 99) (Below.refl W.heap.size W));have HW:=za hb;clear hb h0 hl;generalize zS (L x.cmd) (L cmd)=b at*;go_enter func158,ntmps158;go_wp2_with (go_at_call 142;refine(HM.out _).mono ?_;rintro e w2 ⟨rfl,hb2⟩)
 go_ret;exact⟨rfl,bt HW.out (bt HB.out hb2)⟩
theorem RT{w wr:World}{B:Nat}{A:Option Addr}{l:List Hp}(h:zr w B A 4 l.length (cellsOf Qu l))(hb:Below B w wr){k:Nat}(hk:k<l.length):∃ba off,A=some ⟨ba,off,none⟩/\ba<B /\
 wr.cell? ⟨ba,off+k*4+0,none⟩=some (.string l[k].cmd)/\wr.cell? ⟨ba,off+k*4+1,none⟩=some (.string l[k].out)/\wr.cell? ⟨ba,off+k*4+2,none⟩=some (.bool l[k].fails)/\wr.cell? ⟨ba,off+k*4+3,none⟩=some (.int .i64 l[k].ticks):=by
 obtain⟨ba,off,e,hB,hc⟩:=h.cell (enc:=Qu) (fun _=>rfl) (by omega:0<l.length);refine⟨ba,off,e,hB,?_⟩;have hx:l[k]? =some l[k]:=List.getElem?_eq_getElem hk;have f:∀i v,(Qu l[k])[i]? =some v->wr.cell? ⟨ba,off+k*4+i,none⟩=some v:=fun i v hv=>by
  have h1:=hc k l[k] hx i v hv;rw[<-Nat.add_assoc]at h1;exact(hb.cell (p:=⟨ba,off+k*4+i,none⟩) hB).trans h1
 exact⟨f 0 _ rfl,f 1 _ rfl,f 2 _ rfl,f 3 _ rfl⟩
abbrev Hq:Type:={x:Hp //x.cmd.size<=1000000}
instance:Inhabited Hq:=⟨⟨⟨⟨#[]⟩,⟨#[]⟩,false,0⟩,zi⟩⟩
theorem LY:∀(l:List Hp),(∀x∈l,x.cmd.size<=1000000)->∃zs:List Hq,zs.map (fun x=>x.1)=l
 | [],_=>⟨[],rfl⟩
 | x::l,h=>by
   obtain⟨zs,hz⟩:=LY l (fun y hy=>h y (List.mem_cons_of_mem _ hy));exact AT
theorem Sp(fv:Value)(w:World):Calls prog 157 #[.slice none 0 0,fv] w fun e w'=>e=.returned (.int .i64 (-1))/\w'=w:=by
 go_enter func157,ntmps157;exact NJ
theorem I0(cmd:ByteArray)(B:Nat)(y:Ls Hp)(w:World)(hy:zA 4 Qu w y)(hl:y.l.length<=1000)(hc:∀x∈y.l,x.cmd.size<=1000000)(hs:cmd.size<=1000000)(hB:B<w.heap.size)(h0:w.cell? ⟨B,0,none⟩=some (.string cmd)):
 Calls prog 157 #[.slice y.A y.l.length y.c,.func (.func 158) #[] #[.pointer (some ⟨B,0,none⟩)]] w fun e w'=>((∃(k:Nat) (hk:k<y.l.length),e=.returned (.int .i64 k)/\(y.l.find? fun x=>zS (L x.cmd) (L cmd))=some y.l[k])∨(e=.returned (.int .i64 (-1))/\(y.l.find? fun x=>zS (L x.cmd) (L cmd))=none))/\Below w.heap.size w w':=by
 obtain⟨A,c,l⟩:=y;dsimp only at hl hc⊢;cases A with
 | none=>
   have h0:l=[]:=by
    rcases Nat.eq_zero_or_pos l.length with e|e
    · exact List.length_eq_zero_iff.1 e
    · obtain⟨_,_,e2,_⟩:=hy.row.row.at_ e;cases e2
   subst h0;have hcz:c=0:=hy.nil rfl;rw[hcz];exact(Sp _ w).mono fun _ _ ⟨h1,h2⟩=>⟨Or.inr ⟨h1,rfl⟩,by rw[h2];exact zk⟩
 | some a=>
   obtain⟨ea,hlt⟩:=hy.row.pl a rfl;have hr:=hy.row.row;dsimp only at hr;rw[ea]at hr⊢;obtain⟨zs,hzs⟩:=LY l hc;have hzl:zs.length=l.length:=by rw[<-hzs,List.length_map]
   have hP:PredBelow prog 158 #[.pointer (some ⟨B,0,none⟩)] (fun x:Hq=>.agg (Qu x.1).toArray) (fun x:Hq=>zS (L x.1.cmd) (L cmd)) w:=fun W x hb=>ziu cmd B w hs hB h0 [x.1] (fun z hz=>CI) W hb x.1 (List.mem_singleton.2 rfl);have h:=AnyQ.slices_IndexFunc (ρ:=CR) (P:=prog) zeC 4 (by exact isAgg99) (by exact sizeOf99) (fun x:Hq=>Qu x.1) (fun _=>rfl) (fun x:Hq=>zS (L x.1.cmd) (L cmd)) 158 #[.pointer (some ⟨B,0,none⟩)] (fun _ _=>rfl) a.block a.off l.length c zs w hP zb zb hlt (fun j hj i v hv=>by
    obtain⟨b,off,e,hb,hcc⟩:=hr.cell (enc:=Qu) (fun _=>rfl) (by omega:0<l.length);injection e with e
    injection e with e3 e4
    rw[e3,e4,Nat.add_assoc];refine hcc j zs[j]!.1 ?_ i v hv;rw[getElem!_pos zs j hj,<-hzs,List.getElem?_map,List.getElem?_eq_getElem hj];rfl)
   have ht:zs.take l.length=zs:=by rw[<-hzl,List.take_length]
   rw[ht]at h;refine h.mono ?_;rintro e w' ⟨h1,h2⟩;refine⟨?_,h2⟩;have hff:(l.find? fun x=>zS (L x.cmd) (L cmd))=(zs.find? fun x=>zS (L x.1.cmd) (L cmd)).map (·.1):=by
    rw[<-hzs,List.find?_map];rfl
   rcases DG (fun x:Hq=>zS (L x.1.cmd) (L cmd)) zs with⟨k,x,hx,hi,hf⟩|⟨hi,hf⟩
   · left;have hk:=(List.getElem?_eq_some_iff.1 hx).1;refine⟨k,zb,by rw[h1,hi],?_⟩;rw[hff,hf];show some x.1=_;have e1:l[k]? =some x.1:=by rw[<-hzs,List.getElem?_map,hx];rfl
     rw[List.getElem?_eq_getElem zb]at e1;exact e1.symm
   · right;exact⟨by rw[h1,hi],by rw[hff,hf];rfl⟩
theorem BJ(E O:Nat)(u:FrameMode)(w:World)(h0:w.cell? ⟨E,0,none⟩=some (.int .i64 0)):
 CallsD prog 156 #[.pointer (some ⟨E,0,none⟩),.pointer (some ⟨O,0,none⟩)] u w fun e u' w'=>u'=u/\(e=.returned (.tuple #[])/\w'=w):=by
 go_enter_d func156,ntmps156
 go_wp2
 go_end0
 exact QT
theorem zbV(E O:Nat)(ev:Int)(s:ByteArray)(u:FrameMode)(w:World)(h0:w.cell? ⟨E,0,none⟩=some (.int .i64 ev))(hv:¬ev=0)(h1:w.cell? ⟨O,0,none⟩=some (.string s))(hf:w.frozen? ⟨O,0,none⟩=false):
 CallsD prog 156 #[.pointer (some ⟨E,0,none⟩),.pointer (some ⟨O,0,none⟩)] u w fun e u' w'=>u'=u/\(e=.returned (.tuple #[])/\w'=w.setCell ⟨O,0,none⟩ (.string ⟨#[]⟩)):=by
 have hb:(ev==0)=false:=by simpa using hv
 go_enter_d func156,ntmps156
 go_wp2
 go_end0
 exact QT
end
section
open Go.RowKit Go.Shelf
theorem O7{W:World}{O E:Nat}{s:ByteArray}{ev:Int}(hne:O≠E)(p1:W.cell? ⟨O,0,none⟩=some (.string s))(p2:W.cell? ⟨E,0,none⟩=some (.int .i64 ev))(u1:W.frozen? ⟨O,0,none⟩=false):
 ((W.setCell ⟨O,0,none⟩ (.string s)).setCell ⟨E,0,none⟩ (.int .i64 ev)).drew.cell? ⟨O,0,none⟩=some (.string s)/\((W.setCell ⟨O,0,none⟩ (.string s)).setCell ⟨E,0,none⟩ (.int .i64 ev)).drew.frozen? ⟨O,0,none⟩=false/\((W.setCell ⟨O,0,none⟩ (.string s)).setCell ⟨E,0,none⟩ (.int .i64 ev)).drew.cell? ⟨E,0,none⟩=some (.int .i64 ev):=
 ⟨(World.cell?_setCell_other _ _ _ _ (fun e=>by injection e with e;exact hne e.symm)).trans (World.cell?_setCell_same _ _ _ p1),((World.frozen?_setCell ..).trans (World.frozen?_setCell ..)).trans u1,World.cell?_setCell_same _ _ _ ((World.cell?_setCell_other _ _ _ _ (fun e=>by injection e with e;exact hne e)).trans p2)⟩
theorem Mk(R:ByteArray×Int×Int)(w:World):∀(tmps:Array Value) (W:World) (ev tk:Int) (s:ByteArray),tmps.getD 8 undef=.pointer (some ⟨w.heap.size+1,0,none⟩)->tmps.getD 9 undef=.int .i64 tk->tmps.getD 10 undef=.pointer (some ⟨w.heap.size+2,0,none⟩)->W.cell? ⟨w.heap.size+1,0,none⟩=some (.string s)->W.frozen? ⟨w.heap.size+1,0,none⟩=false->W.cell? ⟨w.heap.size+2,0,none⟩=some (.int .i64 ev)->Below w.heap.size w W->R=(if ev=0 then s else⟨#[]⟩,tk,ev) ->
 bodyPostD prog Tryz.f135 (fun e w'=>e=.returned (.tuple #[.string R.1,.int .i64 R.2.1,.int .i64 R.2.2])/\Below w.heap.size w w') Exit.ret {tmps:=tmps,defers:=[{target:=Target.fn (Fn.func 156) #[.pointer (some ⟨w.heap.size+2,0,none⟩),.pointer (some ⟨w.heap.size+1,0,none⟩)],args:=#[]}]} W:=by
 intro tmps W ev tk s h8 h9 h10 hO hF hE hB hRR;have h8':tmps[8]?.getD undef=.pointer (some ⟨w.heap.size+1,0,none⟩):=by simpa using h8
 have h9':tmps[9]?.getD undef=.int .i64 tk:=by simpa using h9
 have h10':tmps[10]?.getD undef=.pointer (some ⟨w.heap.size+2,0,none⟩):=by simpa using h10
 refine leaves_cons (f:=156) (args:=#[.pointer (some ⟨w.heap.size+2,0,none⟩),.pointer (some ⟨w.heap.size+1,0,none⟩)]) zl (by simp[go_sem]) ?_;by_cases hev:ev=0
 · rw[hev]at hE;refine(BJ (w.heap.size+2) (w.heap.size+1) .returning _ hE).mono ?_;rintro e u' w'' ⟨rfl,rfl,rfl⟩;rw[hRR,if_pos hev];simp[Leaves,settle,results,results135,go_sem,hO,hE,h8',h9',h10',hev];exact hB
 · refine(zbV (w.heap.size+2) (w.heap.size+1) ev s .returning _ hE hev hO hF).mono ?_;rintro e u' w'' ⟨rfl,rfl,rfl⟩;have hO3:(W.setCell ⟨w.heap.size+1,0,none⟩ (.string ⟨#[]⟩)).cell? ⟨w.heap.size+1,0,none⟩=some (.string ⟨#[]⟩):=World.cell?_setCell_same _ _ _ hO;have hE3:(W.setCell ⟨w.heap.size+1,0,none⟩ (.string ⟨#[]⟩)).cell? ⟨w.heap.size+2,0,none⟩=some (.int .i64 ev):=by
    rw[World.cell?_setCell_other _ _ _ _ (fun e=>Zy)];exact hE
   have hBB3:Below w.heap.size w (W.setCell ⟨w.heap.size+1,0,none⟩ (.string ⟨#[]⟩)):=ZF hB zb;rw[hRR,if_neg hev];generalize W.setCell ⟨w.heap.size+1,0,none⟩ (.string ⟨#[]⟩)=W3 at*;simp[Leaves,settle,results,results135,go_sem,hO3,hE3,h8',h9',h10'];exact hBB3
end
section
open Go.RowKit Go.Shelf
theorem vW(y:Ls Hp)(lim calls:Int)(cmd:ByteArray)(w:World)(hy:zA 4 Qu w y)(hl:y.l.length<=1000)(hc:∀x∈y.l,x.cmd.size<=1000000)(hs:cmd.size<=1000000)
 (hno:¬16<=calls->y.l.find? (fun x=>zS (L x.cmd) (L cmd))=none):
 Calls prog 135 #[.slice y.A y.l.length y.c,.int .i64 lim,.int .i64 calls,.string cmd] w fun e w'=>e=.returned (.tuple #[.string (Zb y.l lim calls cmd).1,.int .i64 (Zb y.l lim calls cmd).2.1,.int .i64 (Zb y.l lim calls cmd).2.2])/\Below w.heap.size w w':=by
 have hmf:∀(fn:Fn) (first cap:Array Value) (w:World),(Instr.makeFunc fn first cap).run prog w=.ok (.func fn first cap) w:=fun _ _ _ _=>rfl;obtain⟨w1,hw1⟩:∃w1,((w.alloc (.cells #[.string cmd] 9)).alloc (.cells #[.string ⟨#[]⟩] 9)).alloc (.cells #[.int .i64 0] 39)=w1:=⟨_,rfl⟩;obtain⟨hs1,k0,k1,k2,hb1⟩:=kU w (.cells #[.string cmd] 9) (.cells #[.string ⟨#[]⟩] 9) (.cells #[.int .i64 0] 39);rw[hw1]at hs1 k0 k1 k2 hb1;have HI:=za (I0 cmd w.heap.size y w1 (hy.keep hb1) hl hc hs zb (zd k0 rfl));obtain⟨R,hR⟩:∃R,Zb y.l lim calls cmd=R:=⟨_,rfl⟩;rw[hR];have HB1:=za hb1;have HW1:=za hw1;have HK1:=za k1;have HK2:=za k2;have HS1:=za hs1;have HR:=za hR;have HY:=za hy;clear hw1 hs1 k0 k1 k2 hb1 hy hR;have c1:w1.cell? ⟨w.heap.size+1,0,none⟩=some (.string ⟨#[]⟩):=zd HK1.out rfl;have c2:w1.cell? ⟨w.heap.size+2,0,none⟩=some (.int .i64 0):=zd HK2.out rfl;have f1:=qb HK1.out 0;have f2:=qb HK2.out 0;have HEnd:=za (Mk R w);by_cases h16:16<=calls
 · have hRe:R=(⟨#[]⟩,0,144):=by rw[<-HR.out];unfold Zb;rw[if_pos h16]
   have HRe:=za hRe;clear hRe
   go_enter_defers func135,ntmps135
   go_upto_region 1 with fail
   rw[HW1.out];go_wp2;refine HEnd.out _ _ 144 0 ⟨#[]⟩ rfl rfl rfl ?_ ?_ ?_ (ZF (ZF HB1.out zb) zb) HRe.out
   · rw[World.cell?_setCell_other _ _ _ _ (fun e=>Zy)];exact World.cell?_setCell_same _ _ _ c1
   · rw[World.frozen?_setCell,World.frozen?_setCell];exact f1
   · exact World.cell?_setCell_same _ _ _ ((World.cell?_setCell_other _ _ _ _ (fun e=>Zy)).trans c2)
 · have hpre:R=match y.l.find? (fun x=>zS (L x.cmd) (L cmd))with
    |none=>(⟨#[]⟩,0,143)
    |some x=>if lim<x.ticks then(⟨#[]⟩,lim,142)else if x.fails then(⟨#[]⟩,x.ticks,141)else(x.out,x.ticks,0):=by
    exact IL
   have UF:=za hpre;clear hpre
   go_enter_defers func135,ntmps135
   go_upto_region 1 with fail
   rw[HW1.out];go_upto_region 5 with(go_at_call 157;refine HI.out.mono ?_;rintro e w2 ⟨h2,hb2⟩;have H2:=za h2;have HB2:=za hb2;rcases h2 with⟨k,hk,rfl,hf⟩|⟨rfl,hf⟩)
   · exact absurd hf (by rw[hno zb];simp)
   · have Qg:=UF.out;rw[hf]at Qg;have HP2:=za Qg;have hcc1:=(HB2.out.block _ (zh HK1.out)).trans HK1.out;have hcc2:=(HB2.out.block _ (zh HK2.out)).trans HK2.out;have d1:w2.cell? ⟨w.heap.size+1,0,none⟩=some (.string ⟨#[]⟩):=zd hcc1 rfl;have d2:w2.cell? ⟨w.heap.size+2,0,none⟩=some (.int .i64 0):=zd hcc2 rfl;have g1:=qb hcc1 0;have g2:=qb hcc2 0;clear Qg hcc1 hcc2 hf c1 c2 f1 f2 hc;go_wp2;refine HEnd.out _ _ 143 0 ⟨#[]⟩ rfl rfl rfl ?_ ?_ ?_ (ZF (ZF (bt HB1.out HB2.out) zb) zb) HP2.out
     · rw[World.cell?_setCell_other _ _ _ _ (fun e=>Zy)];exact World.cell?_setCell_same _ _ _ d1
     · rw[World.frozen?_setCell,World.frozen?_setCell];exact g1
     · exact World.cell?_setCell_same _ _ _ ((World.cell?_setCell_other _ _ _ _ (fun e=>Zy)).trans d2)
end
section
open Go.RowKit
abbrev Uj:TypeId:=158
abbrev QZ:TypeId:=160
def K4(t:Tm):Value:=.iface (if qu t.op then Uj else QZ) (qi t)
theorem zhI(parts:Array (Nat×Value)):Instr.build Uj parts=Zz Uj parts:=UX
theorem zgu(parts:Array (Nat×Value)):Instr.build QZ parts=Zz QZ parts:=UX
theorem zir(t:Tm)(W:World):(Zz Uj #[(0,.agg #[.int .i64 t.key,.string t.name,.int .i64 t.op,.string t.value])]).run prog W=.ok (.agg #[.int .i64 t.key,.string t.name,.int .i64 t.op,.string t.value]) W:=Y6
theorem zbz(t:Tm)(W:World):(Zz QZ #[(0,.agg #[.int .i64 t.key,.string t.name,.int .i64 t.op,.string t.value])]).run prog W=.ok (.agg #[.int .i64 t.key,.string t.name,.int .i64 t.op,.string t.value]) W:=Y6
theorem F0(W:World)(v:Value):(Instr.typeAssert (.iface Uj v) 20 Uj true).run prog W=.ok (.tuple #[v,.bool true]) W:=zg
theorem zbW(W:World)(v:Value):(Instr.typeAssert (.iface QZ v) 20 QZ true).run prog W=.ok (.tuple #[v,.bool true]) W:=zg
theorem zfE(W:World)(v:Value):(Instr.typeAssert (.iface QZ v) 20 Uj true).run prog W=.ok (.tuple #[.agg #[.int .i64 0,.string ⟨#[]⟩,.int .i64 0,.string ⟨#[]⟩],.bool false]) W:=zg
attribute [local go_sem ↓] zhI zgu
theorem zgx(t:Tm)(w:World):Calls prog 85 #[qi t] w fun e w'=>e=.returned (K4 t)/\Below w.heap.size w w':=by
 have HM0:=R3 t (w.alloc (.cells #[.int .i64 t.key,.string t.name,.int .i64 t.op,.string t.value] 46));obtain⟨ky,nmm,op,vl⟩:=t;have hc:=fun(W:World)=>zir ⟨ky,nmm,op,vl⟩ W;have hg:=fun(W:World)=>zbz ⟨ky,nmm,op,vl⟩ W;unfold K4;unfold qi at*;dsimp only at*;have hb1:=zI w (.cells #[.int .i64 ky,.string nmm,.int .i64 op,.string vl] 46);obtain⟨w1,hw1⟩:∃w1,w.alloc (.cells #[.int .i64 ky,.string nmm,.int .i64 op,.string vl] 46)=w1:=⟨_,rfl⟩;have hr1:w1.heap[w.heap.size]? =some (.cells #[.int .i64 ky,.string nmm,.int .i64 op,.string vl] 46 (0,0)):=Qi;rw[hw1]at HM0 hb1;have HM:=za HM0;have HB1:=za hb1;have HW1:=za hw1;have HR1:=za hr1;clear HM0 hb1 hw1;have c0:=zd (j:=0) hr1 rfl;have c1:=zd (j:=1) hr1 rfl;have c2:=zd (j:=2) hr1 rfl;have c3:=zd (j:=3) hr1 rfl;clear hr1;cases hm:qu op with
 | true=>
   rw[hm]at HM;rw[if_pos rfl];clear hm;go_enter func85,ntmps85;go_upto_region 1 with fail
   rw[HW1.out];go_wp2_with (go_at_call 105;refine HM.out.mono ?_;rintro e w2 ⟨rfl,hb2⟩;have HB2:=za hb2;(have hr2:=(hb2.block _ (zh HR1.out)).trans HR1.out);have d0:=zd (j:=0) hr2 rfl;have d1:=zd (j:=1) hr2 rfl;have d2:=zd (j:=2) hr2 rfl;have d3:=zd (j:=3) hr2 rfl;have hc2:=hc w2;clear hr2 hb2 c0 c1 c2 c3 hc hg)
   exact Mn
 | false=>
   rw[hm]at HM;rw[if_neg zl];clear hm;go_enter func85,ntmps85;go_upto_region 1 with fail
   rw[HW1.out];go_wp2_with (go_at_call 105;refine HM.out.mono ?_;rintro e w2 ⟨rfl,hb2⟩;have HB2:=za hb2;(have hr2:=(hb2.block _ (zh HR1.out)).trans HR1.out);have d0:=zd (j:=0) hr2 rfl;have d1:=zd (j:=1) hr2 rfl;have d2:=zd (j:=2) hr2 rfl;have d3:=zd (j:=3) hr2 rfl;have hg2:=hg w2;clear hr2 hb2 c0 c1 c2 c3 hc hg)
   exact Mn
end
section
open Go.RowKit
theorem zeQ(b u:Bool)(f:Value)(w:World):(Instr.field 196 (.agg #[.bool b,.bool u,f]) 1).run prog w=.ok (.bool u) w:=zg
theorem EM(t:Tm)(w:World):Calls prog 108 #[qi t] w fun e w'=>e=.returned (.bool (qS t))/\Below w.heap.size w w':=by
 have hO:=RJ t (w.alloc (.cells #[.int .i64 t.key,.string t.name,.int .i64 t.op,.string t.value] 46));rw[O6]at hO;have HO:=za hO;clear hO;unfold qi at HO⊢;generalize ZZ t=b at*;generalize qS t=u at*;generalize Ub t=f at*;have hfl:=zeQ b u f;go_enter func108,ntmps108;exact AD
theorem SV(v s:ByteArray)(B:Nat)(w:World)(hp:v.size<=4611686018427387904)(hs:s.size<=4611686018427387904)(hc:w.cell? ⟨B,3,none⟩=some (.string v)):
 Calls prog 141 #[.string s,.pointer (some ⟨B,0,none⟩)] w fun e w'=>e=.returned (.bool (zS (L v) (L s)))/\Below w.heap.size w w':=by
 have HM:=za (fun W=>MI v s W hp hs);generalize zS (L v) (L s)=b at*;go_enter func141,ntmps141;go_wp2_with (go_at_call 142;refine(HM.out _).mono ?_;rintro e w2 ⟨rfl,hb2⟩)
 exact Ol
structure Fi(d:Dr):Prop where
 pl:d.props.length<=1000
 pv:∀x∈d.props,x.val.size<=1000000
 rs:d.res.size<=1000000
 tl:d.tags.length<=1000
 tv:∀s∈d.tags,s.length<=1000000
theorem zar (t:Tm)(act:ByteArray)(x:Dm)(w:World)(hN:Q5 w x)(hz:Fi x.d)(hp:t.value.size<=1000000)(ha:act.size<=1000000):
 Calls prog 112 #[qi t,.string act,.agg (zD x)] w fun e w'=>e=.returned (.bool (Jw t act x.d))/\Below w.heap.size w w':=by
 obtain⟨ky,nmm,op,vl⟩:=t;dsimp only at hp;have HM0:=fun W=>R3 (⟨ky,nmm,op,vl⟩:Tm) W;have HHo:=za (fun(v:ByteArray) (hv:v.size<=1000000) W=>AB (⟨ky,nmm,op,vl⟩:Tm) v W Xs zb);obtain⟨w1,hw1⟩:∃w1,(w.alloc (.cells #[.int .i64 ky,.string nmm,.int .i64 op,.string vl] 46)).alloc (.cells (zD x) qj)=w1:=⟨_,rfl⟩;have hb1:Below w.heap.size w w1:=M8;have hT:w1.heap[w.heap.size]? =some (.cells #[.int .i64 ky,.string nmm,.int .i64 op,.string vl] 46):=kB;have hD:w1.heap[w.heap.size+1]? =some (.cells (zD x) qj):=by rw[<-hw1];have:=heap_alloc_new (w.alloc (.cells #[.int .i64 ky,.string nmm,.int .i64 op,.string vl] 46)) (.cells (zD x) qj);simpa using this
 have HSx:Hid (∀W,Below w1.heap.size w1 W->W.cell? ⟨w.heap.size,0,none⟩=some (.int .i64 ky)/\W.cell? ⟨w.heap.size,1,none⟩=some (.string nmm)/\W.cell? ⟨w.heap.size,2,none⟩=some (.int .i64 op)/\W.cell? ⟨w.heap.size,3,none⟩=some (.string vl)/\W.cell? ⟨w.heap.size+1,0,none⟩=some (.slice x.props.A x.props.l.length x.props.c)/\W.cell? ⟨w.heap.size+1,1,none⟩=some (.slice x.tags.A x.tags.l.length x.tags.c)/\W.cell? ⟨w.heap.size+1,10,none⟩=some (.string x.res)):=za fun W hW=>by
  have h1:=(hW.block _ (zh hT)).trans hT;have h2:=(hW.block _ (zh hD)).trans hD;exact⟨zd h1 rfl,zd h1 rfl,zd h1 rfl,zd h1 rfl,zd h2 rfl,zd h2 rfl,zd h2 rfl⟩
 have hN1:=hN.keep hb1;have HG:Hid (∀W,Below w1.heap.size w1 W->Calls prog 27 #[.slice x.props.A x.props.l.length x.props.c,.string nmm] W fun e w'=>e=.returned (.tuple #[.string (qI x.props.l (L nmm)),.bool (zT x.props.l (L nmm)).isSome])/\Below W.heap.size W w'):=za fun W hW=>by
  have h1:=KE x.props.A x.props.c x.props.l nmm W ((hN1.keep hW).pr.row.row) (by have:=hz.pl;have e:x.d.props=x.props.l:=rfl;rw[e]at this;omega);unfold Vg at h1;rw[vm]at h1;exact h1
 have hav:(qI x.props.l (L nmm)).size<=1000000:=by
  unfold qI
  split
  · rename_i y hy;exact hz.pv y (List.mem_of_find?_eq_some hy)
  · exact JR
 have HC:Hid (∀W,Below w1.heap.size w1 W->Calls prog 140 #[.slice x.tags.A x.tags.l.length x.tags.c,.func (.func 141) #[] #[.pointer (some ⟨w.heap.size,0,none⟩)]] W fun e w'=>e=.returned (.bool (x.tags.l.any fun s=>zS (L vl) s))/\Below W.heap.size W w'):=za fun W hW=>by
  have hrow:=(hN1.keep hW).tg.row.row;have e1:cellsOf zE x.tags.l=(x.tags.l.map bs).map Value.string:=by
   generalize x.tags.l=l;exact E2
  have e2:(x.tags.l.map bs).length=x.tags.l.length:=List.length_map ..;rw[e1,<-e2]at hrow;have hP:NQ 141 #[.pointer (some ⟨w.heap.size,0,none⟩)] (fun s=>zS (L vl) (L s)) (x.tags.l.map bs) W:=fun s hs W2 hW2=>by
   obtain⟨s0,hs0,rfl⟩:=List.mem_map.1 hs;have hz1:(bs s0).size<=1000000:=by rw[Zc];exact hz.tv s0 hs0
   exact(SV vl (bs s0) w.heap.size W2 zb zb (HSx.out W2 (bt hW hW2)).2.2.2.1).mono fun _ _ ⟨h1,h2⟩=>⟨h1,bt hW2 h2⟩
  have h1:=yd 141 #[.pointer (some ⟨w.heap.size,0,none⟩)] (fun _ _=>rfl) (fun s=>zS (L vl) (L s)) x.tags.A x.tags.c (x.tags.l.map bs) W hrow (by rw[e2];have:=hz.tl;have e:x.d.tags=x.tags.l:=rfl;rw[e]at this;omega) hP;rw[e2]at h1;have e3:((x.tags.l.map bs).any fun s=>zS (L vl) (L s))=x.tags.l.any fun s=>zS (L vl) s:=by
   rw[List.any_map];simp only[Function.comp_def,qr]
  rw[e3]at h1;exact h1
 have hrs:=hz.rs;have hE:Jw ⟨ky,nmm,op,vl⟩ act x.d=(qu op&&(if ky=1 then YQ ⟨ky,nmm,op,vl⟩ act else if ky=6 then YQ ⟨ky,nmm,op,vl⟩ (qI x.props.l (L nmm))else if ky=13 then YQ ⟨ky,nmm,op,vl⟩ x.res else if ky=7 then(x.tags.l.any fun s=>zS (L vl) s)==(op==1)else false)):=rfl;rw[hE];have HB1:=za hb1;have HW1:=za hw1;clear hE hw1 hT hD hN1 hb1 hN hz;unfold qi zD at*;dsimp only at HM0;cases hm:qu op with
 | false=>
   simp only[hm]at HM0;rw[Bool.false_and];have HM:=za HM0;clear HM0 hm;go_enter func112,ntmps112;go_upto_region 1 with fail
   rw[HW1.out];obtain⟨c0,c1,c2,c3,d0,d1,d2⟩:=HSx.out w1 zk;go_wp2_with (go_at_call 105;refine(HM.out _).mono ?_;rintro e w2 ⟨rfl,hb2⟩;have HB2:=za hb2;clear hb2)
   exact Mn
 | true=>
   simp only[hm]at HM0;have HM:=za HM0;clear HM0 hm;rw[Bool.true_and];by_cases h1:ky=1
   · subst h1;rw[if_pos rfl];have HH:=za (HHo.out act ha);clear HHo HC HG;generalize YQ _ act=b at*;exact CZ
   · rw[if_neg h1];by_cases h6:ky=6
     · subst h6;rw[if_pos rfl];have HH:=za (HHo.out _ hav);clear HHo HC;generalize YQ _ (qI x.props.l (L nmm))=b at*;generalize qI x.props.l (L nmm)=av at*;go_enter func112,ntmps112;go_upto_region 1 with fail
       rw[HW1.out];obtain⟨c0,c1,c2,c3,d0,d1,d2⟩:=HSx.out w1 zk;go_wp2_with (first|(go_at_call 105;refine(HM.out _).mono ?_;rintro e w2 ⟨rfl,hb2⟩;have HB2:=za hb2;obtain⟨e0,e1,e2,e3,f0,f1,f2⟩:=HSx.out w2 hb2;clear hb2 c0 c1 c2 c3 d0 d1 d2)|(go_at_call 27;refine(HG.out _ HB2.out).mono ?_;rintro e w3 ⟨rfl,hb3⟩;have HB3:=za (bt HB2.out hb3);obtain⟨g0,g1,g2,g3,k0,k1,k2⟩:=HSx.out w3 HB3.out;clear hb3 e0 e1 e2 e3 f0 f1 f2)|(go_at_call 131;refine(HH.out _).mono ?_;rintro e w4 ⟨rfl,hb4⟩))
       go_ret;exact⟨rfl,bt HB1.out (bt HB3.out hb4)⟩
     · rw[if_neg h6];by_cases h13:ky=13
       · subst h13;rw[if_pos rfl];have HH:=za (HHo.out _ hrs);clear HHo HC HG;have er:x.d.res=x.res:=rfl;rw[er]at HH;clear er;generalize YQ _ x.res=b at*;exact CZ
       · rw [if_neg h13];by_cases h7:ky=7
         · subst h7;rw[if_pos rfl];clear HHo HG;generalize (x.tags.l.any fun s=>zS (L vl) s)=b at*;go_enter func112,ntmps112;go_upto_region 1 with fail
           rw[HW1.out];obtain⟨c0,c1,c2,c3,d0,d1,d2⟩:=HSx.out w1 zk;go_wp2_with (first|(go_at_call 105;refine(HM.out _).mono ?_;rintro e w2 ⟨rfl,hb2⟩;have HB2:=za hb2;obtain⟨e0,e1,e2,e3,f0,f1,f2⟩:=HSx.out w2 hb2;clear hb2 c0 c1 c2 c3 d0 d1 d2)|(go_at_call 140;refine(HC.out _ HB2.out).mono ?_;rintro e w3 ⟨rfl,hb3⟩;have HB3:=za (bt HB2.out hb3);obtain⟨g0,g1,g2,g3,k0,k1,k2⟩:=HSx.out w3 HB3.out;clear hb3 e0 e1 e2 e3 f0 f1 f2))
           all_goals
            go_ret;exact⟨ZT (by first|rfl|simp[*]),bt HB1.out HB3.out⟩
         · rw[if_neg h7];clear HHo HC HG;go_enter func112,ntmps112;go_upto_region 1 with fail
           rw[HW1.out];obtain⟨c0,c1,c2,c3,d0,d1,d2⟩:=HSx.out w1 zk;go_wp2_with (first|(go_at_call 105;refine(HM.out _).mono ?_;rintro e w2 ⟨rfl,hb2⟩;have HB2:=za hb2;obtain⟨e0,e1,e2,e3,f0,f1,f2⟩:=HSx.out w2 hb2;clear hb2 c0 c1 c2 c3 d0 d1 d2))
           exact Mn
end
section
open Go.RowKit
structure Ii(w:World)(A:Option Addr)(rl:List Rl):Prop where
 row:zr w w.heap.size A 3 rl.length (cellsOf Qw rl)
 inn:∀y∈rl,zr w w.heap.size y.tms.A 4 y.tms.l.length (cellsOf zO y.tms.l)
theorem Ii.keep{w w':World}{A:Option Addr}{rl:List Rl}(h:Ii w A rl)(hb:Below w.heap.size w w'):Ii w' A rl:=⟨(h.row.keep hb).up hb.size,fun y hy=>((h.inn y hy).keep hb).up hb.size⟩
def Xa(rl:List Rl):List (List Tm):=rl.map fun y=>y.tms.l
theorem EB(rl:List Rl):(Xa rl).length=rl.length:=List.length_map ..
theorem F8(rl:List Rl){k:Nat}(hk:k<rl.length):(Xa rl)[k]? =some rl[k].tms.l:=by
 unfold Xa;rw[List.getElem?_map,List.getElem?_eq_getElem hk];rfl
def UG(tt:ByteArray)(m:List Tm):Bool:=match XH m 23 with
 |some x=>L x==L tt
 |none=>false
theorem Pr(ls:List (List Tm))(a:Nat)(l:List Tm):Yj ls a l=match XH l 24 with
 |none=>a+1
 | some tt=>match(ls.drop (a+1)).findIdx? (UG tt)with
   |some i=>a+1+i
   |none=>a+1:=by
 unfold Yj;cases XH l 24<;>rfl
theorem zdz{ls:List (List Tm)}{a:Nat}{l:List Tm}(h:XH l 24=none):Yj ls a l=a+1:=by rw[Pr,h]
theorem zgD{ls:List (List Tm)}{a:Nat}{l:List Tm}{tt:ByteArray}(h:XH l 24=some tt)(hn:∀j m,a<j->ls[j]? =some m->UG tt m=false):Yj ls a l=a+1:=by
 rw[Pr,h];have:(ls.drop (a+1)).findIdx? (UG tt)=none:=by
  rw[List.findIdx?_eq_none_iff];intro m hm;obtain⟨j,hj⟩:=List.mem_iff_getElem?.1 hm;rw[List.getElem?_drop]at hj;exact hn _ m zb hj
 dsimp only;rw[this]
theorem zga{ls:List (List Tm)}{a k:Nat}{l m:List Tm}{tt:ByteArray}(h:XH l 24=some tt)(hk:a<k)(hm:ls[k]? =some m)(hl:UG tt m=true)(hn:∀j m,a<j->j<k->ls[j]? =some m->UG tt m=false):Yj ls a l=k:=by
 rw[Pr,h];have:(ls.drop (a+1)).findIdx? (UG tt)=some (k - (a+1)):=by
  have hlt:=(List.getElem?_eq_some_iff.1 hm).1;rw[List.findIdx?_eq_some_iff_getElem];refine⟨Xi,?_,fun j hj=>?_⟩
  · have e:(ls.drop (a+1))[k - (a+1)]? =some m:=by rw[List.getElem?_drop,show a+1+(k - (a+1))=k from by omega];exact hm
    rw[List.getElem?_eq_getElem Xi]at e;rw[zx e];exact hl
  · have hj2:a+1+j<ls.length:=by omega
    have e:(ls.drop (a+1))[j]? =some ls[a+1+j]:=by rw[List.getElem?_drop,List.getElem?_eq_getElem hj2]
    rw[List.getElem?_eq_getElem Xi]at e;rw[zx e];simpa using hn (a+1+j) _ zb zb (List.getElem?_eq_getElem hj2)
 dsimp only;rw[this];show a+1+(k - (a+1))=k;omega
theorem Gx{w wr:World}{B:Nat}{A:Option Addr}{l:List Rl}(h:zr w B A 3 l.length (cellsOf Qw l))(hb:Below B w wr){k:Nat}(hk:k<l.length):∃ba off,A=some ⟨ba,off,none⟩/\wr.cell? ⟨ba,off+k*3,none⟩=some (.string l[k].file)/\wr.cell? ⟨ba,off+k*3+1,none⟩=some (.int .i64 l[k].line)/\wr.cell? ⟨ba,off+k*3+2,none⟩=some (.slice l[k].tms.A l[k].tms.l.length l[k].tms.c):=by
 obtain⟨ba,off,e,hB,hc⟩:=h.cell Tr hk;have hx:l[k]? =some l[k]:=List.getElem?_eq_getElem hk;refine⟨ba,off,e,?_,?_,?_⟩
 · rw[hb.cell (p:=⟨ba,off+k*3,none⟩) hB];exact hc k _ hx 0 _ rfl
 · rw[hb.cell (p:=⟨ba,off+k*3+1,none⟩) hB];exact hc k _ hx 1 _ rfl
 · rw[hb.cell (p:=⟨ba,off+k*3+2,none⟩) hB];exact hc k _ hx 2 _ rfl
theorem ye(y:Rl)(key:Int)(w:World)(hn:y.tms.l.length<=1000000)(h:zr w w.heap.size y.tms.A 4 y.tms.l.length (cellsOf zO y.tms.l)):
 Calls prog 88 #[.agg #[.string y.file,.int .i64 y.line,.slice y.tms.A y.tms.l.length y.tms.c],.int .i64 key] w fun e w'=>e=.returned (.tuple #[.string ((XH y.tms.l key).getD ⟨#[]⟩),.bool (XH y.tms.l key).isSome])/\Below w.heap.size w w':=
 za5 y.file y.line y.tms.A y.tms.c y.tms.l key w hn h
theorem zeE (A:Option Addr)(c:Nat)(rl:List Rl)(a:Nat)(w:World)(hr:Ii w A rl)(ha:a<rl.length)(hl:rl.length<=1000000)(hz:∀y∈rl,y.tms.l.length<=1000000):
 Calls prog 67 #[.slice A rl.length c,.int .i64 a] w fun e w'=>e=.returned (.int .i64 (Yj (Xa rl) a rl[a].tms.l:Nat))/\Below w.heap.size w w':=by
 have HR:=za hr;have hai:(a:Int)<(rl.length:Int):=zb;obtain⟨ba,off,rfl,c0,c1,c2⟩:=Gx hr.row zk ha;have HV0:=ye rl[a] 24 w (hz _ (List.getElem_mem ha)) (hr.inn _ (List.getElem_mem ha));have HVk:=za (fun(y:Rl) (hy:y∈rl) (W:World) (hW:Below w.heap.size w W)=>ye y 23 W (hz y hy) ((hr.keep hW).inn y hy));clear hr hz;cases hv:XH rl[a].tms.l 24 with
 | none=>
   rw[hv]at HV0;have HV:=za HV0;rw[zdz hv];clear HV0 hv HVk;generalize rl[a].file=ff at*;generalize rl[a].line=ll at*;generalize rl[a].tms=tt at*;generalize rl.length=N at*;go_enter func67,ntmps67;go_wp2_with (go_at_call 88;refine HV.out.mono ?_;rintro e w2 ⟨rfl,hb2⟩)
   go_loopg [7,8,9] 0 (fun _ i _ _ wr=>i=.int .i64 ((a:Int)+1)/\Hid (Below w.heap.size w wr))
   case atStart=>exact⟨zP,za hb2⟩
   case round=>
    obtain⟨rfl,HB⟩:=hrel;go_wp2;go_ret;exact⟨kf,HB.out⟩
 | some tg =>
   rw[hv]at HV0;have HV:=za HV0;have HN:=za (show XH rl[a].tms.l 24=some tg from hv);have HRest:=za HR.out.row;generalize hrl:rl[a].tms.l=tl24 at*;clear HV0 hv;generalize hff:rl[a].file=ff at*;generalize hll:rl[a].line=ll at*;generalize htA:rl[a].tms.A=ttA at*;generalize htc:rl[a].tms.c=ttc at*;clear hff hll htA htc hrl;obtain⟨N,hN⟩:∃N,rl.length=N:=⟨_,rfl⟩;have HNl:=za hN;rw[hN]at hai hl⊢;clear hN;go_enter func67,ntmps67;go_wp2_with (go_at_call 88;refine HV.out.mono ?_;rintro e w2 ⟨rfl,hb2⟩;have HB2:=za hb2;clear hb2)
   clear c0 c1 c2;go_loopg [7,8,9] (N - a) (fun gk i _ _ wr=>∃k:Nat,i=.int .i64 k/\a<k/\k<=N/\k+gk=N+1/\Hid (Below w.heap.size w wr)/\Hid (∀j m,a<j->j<k->(Xa rl)[j]? =some m->UG tg m=false))
   case atStart=>exact⟨a+1,zP,zb,zb,zb,HB2,za fun j m h1 h2=>zb⟩
   case round=>
    obtain⟨k,rfl,hk1,hk2,hkg,HB,HA⟩:=hrel;by_cases hlt:k<N
    · have hlt':k<rl.length:=by rw[HNl.out];exact hlt
      obtain⟨ba2,off2,e2,d0,d1,d2⟩:=Gx HRest.out HB.out hlt';injection e2 with e2
      injection e2 with e3 e4
      subst e3 e4;have HC:=HVk.out rl[k] (List.getElem_mem hlt') wr HB.out;have hget:=F8 rl hlt';have hlab:UG tg rl[k].tms.l=match XH rl[k].tms.l 23 with|some x=>L x==L tg|none=>false:=rfl
      cases hv:XH rl[k].tms.l 23 with
      | none=>
        rw[hv]at HC hlab;have HC2:=za HC;have HA2:Hid (∀j m,a<j->j<k+1->(Xa rl)[j]? =some m->UG tg m=false):=za fun j m h1 h2 h3=>by
         rcases Nat.lt_or_ge j k with h4|h4
         · exact HA.out j m h1 h4 h3
         · obtain rfl:j=k:=by omega
           rw[hget]at h3;rw[<-zx h3,hlab]
        clear HC hlab hget hv;exact LS
      | some xl=>
        rw[hv]at HC hlab;have HC2:=za HC;dsimp only at hlab;by_cases hq:xl.toList=tg.toList
        · have hlt2:UG tg rl[k].tms.l=true:=by rw[hlab,<-tl,<-tl,hq];simp
          have HEq:=za (zga HN.out hk1 hget hlt2 HA.out);clear HC hlab hget hv hlt2;generalize rl[k].tms.l.length=n9 at*;generalize rl[k].file=ff at*;generalize rl[k].line=ll at*;generalize rl[k].tms.A=ttA at*;generalize rl[k].tms.c=ttc at*;go_wp2_with (go_at_call 88;refine HC2.out.mono ?_;rintro e w3 ⟨rfl,hb3⟩)
          go_ret;rw[HEq.out];exact⟨rfl,bt HB.out hb3⟩
        · have hqb:(xl.toList==tg.toList)=false:=by simpa using hq
          have hlt2:UG tg rl[k].tms.l=false:=by rw[hlab,<-tl,<-tl];exact hqb
          have HA2:Hid (∀j m,a<j->j<k+1->(Xa rl)[j]? =some m->UG tg m=false):=za fun j m h1 h2 h3=>by
           rcases Nat.lt_or_ge j k with h4|h4
           · exact HA.out j m h1 h4 h3
           · obtain rfl:j=k:=by omega
             rw[hget]at h3;rw[<-zx h3,hlt2]
          clear HC hlab hget hv hlt2;exact LS
    · obtain rfl:k=N:=by omega
      have HEq:=za (zgD (ls:=Xa rl) (a:=a) HN.out (fun j m h1 h3=>HA.out j m h1 (by
       have:=(List.getElem?_eq_some_iff.1 h3).1;rw[EB]at this;have:=HNl.out;omega) h3))
      go_wp2;go_ret;rw[HEq.out];exact⟨kf,HB.out⟩
end
section
theorem ET{c:qO}{P:Dr->Prop}{l:List Tm}:∀(r:List Tm),(∀x:Ev,∀t∈r,qu t.op=true->P x.dr->P (qH c l x t).1.dr)->∀{x:Ev},P x.dr->P (ZU c l r x).1.dr
 | [],_,_,h=>h
 | t ::r,hh,x,h=>by
   have hr:=fun x:Ev=>ET (c:=c) (P:=P) (l:=l) r (fun x s hs=>hh x s (List.mem_cons_of_mem _ hs)) (x:=x);unfold ZU
   split
   · rename_i hm;have h1:=hh x t (List.mem_cons_self ..) hm h
     split
     · exact hr _ h1
     · exact h1
   · exact hr _ h
theorem AQ{c:qO}{P:Dr->Prop}:∀(r:List Tm),(∀x:Ev,∀t∈r,P x.dr->P (Z9 c x t).dr)->∀{x:Ev},P x.dr->P (r.foldl (Z9 c) x).dr
 | [],_,_,h=>h
 | t::r,hh,x,h=>by
   rw[List.foldl_cons];exact AQ r (fun x s hs=>hh x s (List.mem_cons_of_mem _ hs)) (hh x t (List.mem_cons_self ..) h)
theorem FX{c:qO}{P:Dr->Prop}{l:List Tm}(hh:∀x:Ev,∀t∈l,qu t.op=true->P x.dr->P (qH c l x t).1.dr)(ha:∀x:Ev,∀t∈l,qu t.op=false->P x.dr->P (Z9 c x t).dr){x:Ev}(h:P x.dr):P (Zx c x l).1.dr:=by
 have h1:P (ZU c l l {x with ab:=c.dev,re:=false}).1.dr:=ET l hh (x:={x with ab:=c.dev,re:=false}) h;unfold Zx;dsimp only
 split
 · refine AQ _ (fun x t ht=>?_) h1;obtain⟨h2,h3⟩:=List.mem_filter.1 ht;exact ha x t h2 (by simpa using h3)
 · exact h1
theorem Mx{c:qO}{P:Dr->Prop}{ls:List (List Tm)}(hr:∀l∈ls,∀x:Ev,P x.dr->P (Zx c x l).1.dr):∀(f at_:Nat) (x:Ev) (held:List Int),P x.dr->P (Zq c ls f at_ x held).1.dr
 |0,_,_,_,h=>h
 | f +1,at_,x,held,h=>by
   unfold Zq
   split
   · exact h
   · rename_i l hl;have h1:=hr l (List.mem_of_getElem? hl) x h
     split
     · exact Mx hr f _ _ _ h1
     · exact Mx hr f _ _ _ h1
def U5(a b:Dr):Prop:=a.calls=b.calls/\a.ticks=b.ticks
theorem jB(d:Dr)(n v:ByteArray):U5 (Yt d n v) d:=by unfold Yt;split<;>exact⟨rfl,rfl⟩
theorem zck(d:Dr)(n v:ByteArray):U5 (UJ d n v) d:=by
 unfold UJ
 split
 · exact QT
 · split<;>exact jB _ _ _
theorem zbB(d:Dr)(op:Int)(v:ByteArray):U5 (kh d op v) d:=by
 unfold kh
 split
 · split
   · exact QT
   split
   · exact QT
   split<;>exact⟨rfl,rfl⟩
 · exact QT
theorem Dj(d:Dr)(t:Tm)(v:ByteArray):U5 (ZV d t v) d:=
 Ay (P:=fun e=>U5 e d) d t v (zck _ _ _) (jB _ _ _) (zbB _ _ _) (fun _=>⟨rfl,rfl⟩) ⟨rfl,rfl⟩ (fun _=>⟨rfl,rfl⟩) (fun _=>⟨rfl,rfl⟩) (fun _=>⟨rfl,rfl⟩) ⟨rfl,rfl⟩ (fun _=>⟨rfl,rfl⟩) (fun _ _=>⟨rfl,rfl⟩) ⟨rfl,rfl⟩
theorem SX(d:Dr)(t:Tm)(v:ByteArray):U5 (XX d t v) d:=by
 unfold XX
 split
 · exact QT
 split
 · exact Dj d t v
 · exact Dj d t v
theorem JW:∀(l:List At) (d:Dr),U5 (XY d l) d
 | [],_=>⟨rfl,rfl⟩
 | x::l,d=>by
   have h:=JW l (if Xu (L x.name)&& !(L x.val).isEmpty then Yt d x.name x.val else d);have h2:U5 (if Xu (L x.name)&& !(L x.val).isEmpty then Yt d x.name x.val else d) d:=by
    split
    · exact jB _ _ _
    · exact QT
   exact⟨h.1.trans h2.1,h.2.trans h2.2⟩
def Xo(lim:Int)(d:Dr):Prop:=∃k:Nat,(k:Int)<=d.calls/\k<=16/\0<=d.ticks/\d.ticks<=k*lim
theorem Xo.same{lim:Int}{a b:Dr}(h:Xo lim b)(e:U5 a b):Xo lim a:=by
 obtain⟨k,h1,h2,h3,h4⟩:=h;exact⟨k,by rw[e.1];exact h1,h2,by rw[e.2];exact h3,by rw[e.2];exact h4⟩
theorem Xo.tick{c:qO}(hi:GZ c.i.hps c.i.lim){x:Ev}(h:Xo c.i.lim x.dr)(s:ByteArray):Xo c.i.lim (Q7 x (qQ c x s).2.1).dr:=by
 obtain⟨k,h1,h2,h3,h4⟩:=h;obtain⟨c1,c2,_,c4⟩:=MP hi x.dr.calls (QD c x s);have e1:(Q7 x (qQ c x s).2.1).dr.calls=x.dr.calls+1:=rfl;have e2:(Q7 x (qQ c x s).2.1).dr.ticks=x.dr.ticks+(Zb c.i.hps c.i.lim x.dr.calls (QD c x s)).2.1:=rfl;generalize (Zb c.i.hps c.i.lim x.dr.calls (QD c x s)).2.1=t at*;by_cases hc:16<=x.dr.calls
 · have ht:=c4 hc;exact⟨k,zb,h2,zb,zb⟩
 · refine⟨k+1,by rw[e1];push_cast;omega,zb,zb,?_⟩;have:((k+1:Nat):Int)*c.i.lim=k*c.i.lim+c.i.lim:=by push_cast;rw[Int.add_mul,Int.one_mul]
   omega
def Uh(t:Tm):Bool:=t.key==12||(t.key==14&&L t.name==Jx)
theorem zaN{c:qO}(hi:GZ c.i.hps c.i.lim)(l:List Tm){x:Ev}(h:Xo c.i.lim x.dr)(t:Tm):Xo c.i.lim (qH c l x t).1.dr:=by
 have ht:=Xo.tick hi h t.value;unfold qH
 split
 · exact h
 split
 · split
   · exact h
   · split<;>exact h
 split
 · exact ht.same ⟨rfl,rfl⟩
 split
 · unfold QB
   split
   · exact ht.same (JW _ _)
   split
   · exact AA
   exact AA
 · exact h
theorem zbb{c:qO}(l:List Tm){x:Ev}{t:Tm}(hn:Uh t=false):U5 (qH c l x t).1.dr x.dr:=by
 unfold Uh at hn;rw[Bool.or_eq_false_iff]at hn;have h12:t.key≠12:=by simpa using hn.1
 unfold qH
 split
 · exact QT
 split
 · split
   · exact QT
   · split<;>exact⟨rfl,rfl⟩
 try rw[if_neg h12]
 split
 · rename_i h14;have hp:¬L t.name=Jx:=by
    have:=hn.2;rw[h14]at this;exact QU
   unfold QB;rw[if_neg hp]
   split
   · split<;>exact JW _ _
   split<;>exact JW _ _
 · exact QT
theorem jO(c:qO)(x:Ev)(t:Tm):U5 (Z9 c x t).dr x.dr:=by unfold Z9;exact SX _ _ _
theorem zco{c:qO}(hi:GZ c.i.hps c.i.lim)(ls:List (List Tm))(f at_:Nat)(held:List Int):Xo c.i.lim (Zq c ls f at_ (YD c) held).1.dr:=
 Mx (P:=Xo c.i.lim) (fun l _ x hx=>FX (P:=Xo c.i.lim) (fun x t _ _ h=>zaN hi l h t) (fun x t _ _ h=>h.same (jO c x t)) hx) f at_ _ held ⟨0,Int.le_refl _,Nat.zero_le _,Int.le_refl _,by show(0:Int)<=(0:Nat)*c.i.lim;simp⟩
theorem Xo.bounds{lim:Int}{d:Dr}(h:Xo lim d)(hl:1<=lim):0<=d.ticks/\d.ticks<=16*lim:=by
 obtain⟨k,_,h2,h3,h4⟩:=h;refine⟨h3,Int.le_trans h4 (Int.mul_le_mul_of_nonneg_right zb zb)⟩
theorem zfL{c:qO}{ls:List (List Tm)}(hn:∀l∈ls,∀t∈l,Uh t=false)(f at_:Nat)(held:List Int):(Zq c ls f at_ (YD c) held).1.dr.ticks=0:=
 Mx (P:=fun d=>d.ticks=0) (fun l hl _x hx=>FX (P:=fun d=>d.ticks=0) (fun _x t ht _ h=>(zbb (c:=c) l (hn l hl t ht)).2.trans h) (fun x t _ _ h=>(jO c x t).2.trans h) hx) f at_ _ held rfl
end
section
theorem BI(ls:List (List Tm))(a:Nat)(l:List Tm):a+1<=Yj ls a l:=by
 unfold Yj
 split
 · exact zo
 · split
   · omega
   · exact zo
end
end Go.Proofs.YtobcmlmbblgcdaaGreatDoor

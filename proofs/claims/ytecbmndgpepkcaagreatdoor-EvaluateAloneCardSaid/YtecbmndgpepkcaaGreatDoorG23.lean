/- Contracts that the law rests on, each under the premises that it names. -/
import Derived.Test.YtecbmndgpepkcaaGreatDoorG18
import Derived.Test.YtecbmndgpepkcaaGreatDoorG22
import Derived.Test.YtecbmndgpepkcaaGreatDoorG13
import Derived.Defers
namespace Go.Proofs.YtecbmndgpepkcaaGreatDoor
open Tryz
set_option maxHeartbeats 8000000
set_option maxRecDepth 100000
section
structure zH(d:Dr)(k:Nat):Prop where
 pa:Z1 d.props
 pl:d.props.length<=64
 pv:∀x∈d.props,x.val.size<=1000000
 ta:d.tags.Pairwise (· < ·)
 tl:d.tags.length<=16
 la:d.links.Pairwise (· < ·)
 ll:d.links.length<=16
 rl:d.run.length<=16
 da:d.load.Pairwise (· < ·)
 dl:d.load.length<=16
 cl:d.closed.length<=k
 nm:d.nam.size<=1000000
 rs:d.res.size<=1000000
 ca:0<=d.calls/\d.calls<=k
 tk:0<=d.ticks/\d.ticks<=1000*k
 tv:∀s∈d.tags,s.length<=1000000
theorem zH.mono{d:Dr}{k k':Nat}(h:zH d k)(hk:k<=k'):zH d k':=
 ⟨h.pa,h.pl,h.pv,h.ta,h.tl,h.la,h.ll,h.rl,h.da,h.dl,i3 h.cl hk,h.nm,h.rs,⟨h.ca.1,by have:=h.ca.2;omega⟩,⟨h.tk.1,by have:=h.tk.2;omega⟩,h.tv⟩
theorem zH.props{d:Dr}{k:Nat}(h:zH d k){l:List At}(h1:Z1 l)(h2:l.length<=64)(h3:∀x∈l,x.val.size<=1000000):zH {d with props:=l} k:={h with pa:=h1,pl:=h2,pv:=h3}
theorem zH.tags{d:Dr}{k:Nat}(h:zH d k){l:List ze}(h1:l.Pairwise (· < ·))(h2:l.length<=16)(h3:∀s∈l,s.length<=1000000):zH {d with tags:=l} k:={h with ta:=h1,tl:=h2,tv:=h3}
theorem zH.links{d:Dr}{k:Nat}(h:zH d k){l:List ze}(h1:l.Pairwise (· < ·))(h2:l.length<=16):zH {d with links:=l} k:={h with la:=h1,ll:=h2}
theorem zH.env{d:Dr}{k:Nat}(h:zH d k){n v:ByteArray}(hv:v.size<=1000000):zH (X5 d n v) k:=by
 unfold X5
 split
 · exact h
 · rename_i hb;refine h.props (Pp h.pa _) ?_ (fun x hx=>?_)
   · cases hf:zX d.props (L n)with
     |some y=>exact i3 (zgN h.pa (x:=⟨n,v⟩) hf) h.pl
     | none=>
       have h1:=Np d.props ⟨n,v⟩;have h2:¬64<=d.props.length:=fun e=>hb (by unfold Df;rw[hf,zl1 e];simp);omega
   · rcases Mg hx with h1|⟨rfl,_⟩
     · exact h.pv x h1
     · exact hv
theorem AI(s:ByteArray):(s.extract 0 256).size<=256:=by rw[<-zF,Ye];simp;omega
theorem zH.more{d:Dr}{k:Nat}(h:zH d k){n v:ByteArray}(hv:v.size<=1000000):zH (ka d n v) k:=by
 unfold ka
 split
 · exact h
 · split
   · exact h.env (i3 (AI _) zi)
   · exact h.env hv
theorem zH.tag{d:Dr}{k:Nat}(h:zH d k)(op:Int){v:ByteArray}(hv:v.size<=1000000):zH (KF d op v) k:=by
 have hl:(L v).length<=1000000:=by rw[zF];exact hv
 unfold KF
 split
 · split
   · exact h.tags zl zl (fun s hs=>by rw[List.mem_singleton.1 hs];exact hl)
   split
   · refine h.tags (NJ h.ta _ _) (j4 h.tl) (fun s hs=>?_);rcases BU hs with h1|rfl
     · exact h.tv s h1
     · exact hl
   split
   · exact h.tags (Lz h.ta _) (i3 (Tf _ _) h.tl) (fun s hs=>h.tv s (by unfold YS at hs;exact(List.mem_filter.1 hs).1))
   · exact h
 · exact h
theorem zdt(op:Int){l:List ze}(w:ByteArray)(h:l.Pairwise (· < ·)/\l.length<=16):(Zs op l w).Pairwise (· < ·)/\(Zs op l w).length<=16:=by
 unfold Zs
 split
 · split
   · exact Fb
   · exact⟨NJ h.1 _ _,j4 h.2⟩
 · exact h
theorem AB(op:Int):∀(ws:List ByteArray) {l:List ze},(l.Pairwise (· < ·)/\l.length<=16)->(ws.foldl (Zs op) l).Pairwise (· < ·)/\(ws.foldl (Zs op) l).length<=16
 | [],_,h=>h
 |w::ws,_,h=>AB op ws (zdt op w h)
theorem zH.link{d:Dr}{k:Nat}(h:zH d k)(op:Int)(v:ByteArray):zH (XW d op v) k:=by
 unfold XW;have h1:(if op=3∨op=6 then []else d.links).Pairwise (· < ·)/\(if op=3∨op=6 then []else d.links).length<=16:=by
  split
  · exact PJ
  · exact⟨h.la,h.ll⟩
 have h2:=AB op (Yr v) h1;exact h.links h2.1 h2.2
theorem zH.run{d:Dr}{k:Nat}(h:zH d k)(op:Int)(v:ByteArray):zH (JT d op v) k:=by
 have h1:(if op=4 then d.run else []).length<=16:=by
  split
  · exact h.rl
  · exact KP
 have h2:(if UG v&&decide ((if op=4 then d.run else []).length<16)then(if op=4 then d.run else [])++[L v]else(if op=4 then d.run else [])).length<=16:=by
  generalize (if op=4 then d.run else [])=l at*;by_cases hl:l.length<16
  · split
    · rw[r7,List.length_singleton];omega
    · exact h1
  · rw[zl0 hl,Bool.and_false,if_neg zi];exact h1
 exact{h with rl:=h2}
theorem zkf{P:Dr->Prop}(d:Dr)(t:Tm)(v:ByteArray)(h1:P (ka d t.name v))(h2:P (X5 d t.name v))(h3:P (KF d t.op v))(h4:X0 (L v)=true->P {d with nam:=v})(h5:P (XW d t.op v))(h6:Z4 (L v)=true->P {d with own:=v})(h7:Z4 (L v)=true->P {d with grp:=v})
 (h8:U6 (L v)=true->P {d with mode:=Ip (L v)})(h9:P (JT d t.op v))(h10:UG v=true->P {d with load:=QA d.load (L v) 16})(h11:∀n,VR (L v)=some n->P {d with prio:=n})(h0:P d):P (Qb d t v):=by
 unfold Qb;by_cases k6:t.key=6
 · rw[if_pos k6];by_cases o4:t.op=4
   · rw[if_pos o4];exact h1
   · rw[if_neg o4];exact h2
 rw[if_neg k6];by_cases k7:t.key=7
 · rw[if_pos k7];exact h3
 rw[if_neg k7];by_cases k15:t.key=15
 · rw[if_pos k15];by_cases b:X0 (L v)=true
   · rw[if_pos b];exact h4 b
   · exact Iv
 rw[if_neg k15];by_cases k16:t.key=16
 · rw[if_pos k16];exact h5
 rw[if_neg k16];by_cases k17:t.key=17
 · rw[if_pos k17];by_cases b:Z4 (L v)=true
   · rw[if_pos b];exact h6 b
   · exact Iv
 rw[if_neg k17];by_cases k18:t.key=18
 · rw[if_pos k18];by_cases b:Z4 (L v)=true
   · rw[if_pos b];exact h7 b
   · exact Iv
 rw[if_neg k18];by_cases k19:t.key=19
 · rw[if_pos k19];by_cases b:U6 (L v)=true
   · rw[if_pos b];exact h8 b
   · exact Iv
 rw[if_neg k19];by_cases k20:t.key=20
 · rw[if_pos k20];exact h9
 rw[if_neg k20];by_cases k21:t.key=21
 · rw[if_pos k21];by_cases b:UG v=true
   · rw[if_pos b];exact h10 b
   · exact Iv
 rw[if_neg k21];by_cases k22:t.key=22
 · rw[if_pos k22];cases hp:VR (L v)with
   |none=>exact h0
   |some n=>exact h11 n hp
 rw[if_neg k22];exact h0
theorem zH.asg{d:Dr}{k:Nat}(h:zH d k)(t:Tm){v:ByteArray}(hv:v.size<=1000000):zH (Qb d t v) k:=
 zkf (P:=fun d=>zH d k) d t v (h.more hv) (h.env hv) (h.tag _ hv) (fun _=>{h with nm:=hv}) (h.link _ _) (fun _=>{h with}) (fun _=>{h with}) (fun _=>{h with}) (h.run _ _) (fun _=>{h with da:=NJ h.da _ _,dl:=j4 h.dl}) (fun _ _=>{h with}) h
theorem zH.apply{d:Dr}{k:Nat}(h:zH d k)(t:Tm){v:ByteArray}(hv:v.size<=1000000):zH (Vh d t v) (k+1):=by
 unfold Vh
 split
 · exact h.mono (X2 _)
 split
 · have h1:=h.asg t hv;have h2:=h1.mono (X2 k);refine{h2 with cl:=?_};have:=h1.cl;rw[r7,List.length_singleton];omega
 · exact(h.asg t hv).mono (X2 _)
theorem zH.import_{k:Nat}:∀(l:List At) {d:Dr},zH d k->(∀x∈l,x.val.size<=1000000)->zH (Uy d l) k
 | [],_,h,_=>h
 | x::l,d,h,hl=>by
   unfold Uy;rw[zl2];refine zH.import_ l ?_ (fun y hy=>hl y (X6 _ hy))
   split
   · exact h.env (hl x (X4 ..))
   · exact h
theorem Pn(c:qp)(x:Ev)(s:ByteArray):(Qp c x s).size<=256:=by
 unfold Qp Um
 split
 · exact AI _
 · exact KP
theorem zH.tick{x:Ev}{k:Nat}(h:zH x.dr k){t:Int}(h0:0<=t)(h1:t<=1000):zH (QL x t).dr (k+1):=by
 have h2:=h.mono (X2 k);refine{h2 with ca:=?_,tk:=?_}
 · have:=h.ca;refine⟨?_,?_⟩
   · show 0<=x.dr.calls+1;omega
   · show x.dr.calls+1<=((k+1:Nat):Int);omega
 · have:=h.tk;refine⟨?_,?_⟩
   · show 0<=x.dr.ticks+t;omega
   · show x.dr.ticks+t<=1000*((k+1:Nat):Int);omega
def Tg(l:List Hp)(lim:Int):Prop:=1<=lim/\lim<=1000/\∀x∈l,0<=x.ticks/\x.out.size<=256
theorem NF{l:List Hp}{lim:Int}(h:Tg l lim)(calls:Int)(cmd:ByteArray):0<=(Zh l lim calls cmd).2.1/\(Zh l lim calls cmd).2.1<=lim/\(Zh l lim calls cmd).1.size<=256/\(16<=calls->(Zh l lim calls cmd).2.1=0):=by
 have h1:=h.1;unfold Zh
 split
 · exact Fj
 · rename_i hc
   split
   · exact Fj
   · rename_i x hx;have hm:=h.2.2 x (List.mem_of_find?_eq_some hx)
     split
     · exact⟨by show 0<=lim;omega,Int.le_refl _,X1 _,fun e=>absurd e hc⟩
     · rename_i ht
       split
       · exact⟨hm.1,by show x.ticks<=lim;omega,X1 _,fun e=>absurd e hc⟩
       · exact⟨hm.1,by show x.ticks<=lim;omega,hm.2,fun e=>absurd e hc⟩
structure KS(i:QV):Prop where
 hp:Tg i.hps i.lim
 par:∀x∈i.par,x.val.size<=1000000
 bui:∀n,∀x∈QM n i.tree i.ix,x.val.size<=1000000
theorem As:∀(m:Nat) (d:UInt8) (s:ze),∀x∈Lib.splitK [d] 0 m s,x.length<=s.length
 |0,d,s,x,hx=>L5
 | m + 1,d,s,x,hx=>by
   rw[Lib.splitK]at hx
   split at hx
   · rw[List.mem_singleton]at hx;rw[hx];exact zo
   · rcases List.mem_cons.1 hx with rfl|hx
     · exact No
     · have:=As m d _ x hx;exact G0
theorem zaJ(s:ByteArray)(c:UInt8):∀x∈Zk c s,x.size<=s.size:=by
 intro x hx;have h:=Lib.splitB_data ⟨#[c]⟩ 0 (Lib.countB s ⟨#[c]⟩) s;have h3:(Zk c s).map L=Lib.splitK [c] 0 (Lib.countB s ⟨#[c]⟩) (L s):=h;have h1:=As (Lib.countB s ⟨#[c]⟩) c (L s) (L x) Sn;rwa [zF,zF]at h1
theorem So(s t:ze):(Lib.cut s t).1.length<=s.length/\(Lib.cut s t).2.1.length<=s.length:=by
 unfold Lib.cut
 split
 · exact⟨by show(List.take _ _).length<=_;rw[W9];omega,by show(List.drop _ _).length<=_;rw[W8];omega⟩
 · exact⟨zo,X1 _⟩
theorem DT{o:ByteArray}:∀x∈YU o,x.name.size<=o.size/\x.val.size<=o.size:=by
 intro x hx;obtain⟨p,hp,he⟩:=List.mem_filterMap.1 hx;have h1:=zaJ o 59 p hp;have h2:=So (L p) [61];rw[zF]at h2;unfold Jm at he
 split at he
 · injection he with he
   subst he;exact⟨AA,AA⟩
 · cases he
theorem zci{o:ByteArray}(ho:o.size<=256):∀x∈YU o,x.val.size<=1000000:=fun x hx=>by have:=(DT x hx).2;omega
theorem vG{c:qp}(hi:KS c.i)(l:List Tm){x:Ev}{k:Nat}(h:zH x.dr k)(t:Tm):zH (qJ c l x t).1.dr (k+1):=by
 have hm:=h.mono (X2 k);have hc:=NF hi.hp x.dr.calls (Qp c x t.value);have h1000:=hi.hp.2.1;have ht:zH (QL x (qN c x t.value).2.1).dr (k+1):=h.tick hc.1 (by have:=hc.2.1;unfold qN;omega);unfold qJ
 split
 · exact hm
 split
 · split
   · exact hm
   · split<;>exact hm
 split
 · exact{ht with rs:=i3 hc.2.2.1 zi}
 split
 · unfold Qh
   split
   · exact ht.import_ _ (zci hc.2.2.1)
   split
   · split
     · exact hm
     · exact hm.import_ _ (fun x hx=>hi.par x (List.mem_filter.1 hx).1)
   split
   · exact hm.import_ _ (hi.bui _)
   · exact hm
 · exact hm
theorem j3{c:qp}(hi:KS c.i)(l:List Tm):∀(r:List Tm) {x:Ev} {k:Nat},zH x.dr k->zH (Zw c l r x).1.dr (k+r.length)
 | [],_,_,h=>h
 | t ::r,x,k,h=>by
   have h1:=vG hi l h t;have e:k+(t::r).length=k+1+r.length:=GX;rw[e];unfold Zw
   split
   · split
     · exact j3 hi l r h1
     · exact h1.mono zb
   · exact j3 hi l r (h.mono (X2 k))
theorem SB{c:qp}{x:Ev}{k:Nat}(h:zH x.dr k)(t:Tm)(ht:t.value.size<=1000000):zH (Qa c x t).dr (k+1):=by
 unfold Qa;refine h.apply t ?_
 split
 · exact ht
 · exact i3 (Pn _ _ _) zi
theorem vJ{c:qp}:∀(r:List Tm) {x:Ev} {k:Nat},zH x.dr k->(∀t∈r,t.value.size<=1000000)->zH (r.foldl (Qa c) x).dr (k+r.length)
 | [],_,_,h,_=>h
 | t::r,x,k,h,ht=>by
   have h1:=vJ (c:=c) r (SB (c:=c) h t (ht t (X4 ..))) (fun y hy=>ht y (X6 _ hy));rw[zl2,u0];exact h1.mono zb
theorem Fi{c:qp}(hi:KS c.i){l:List Tm}(hl:∀t∈l,t.value.size<=1000000){x:Ev}{k:Nat}(h:zH x.dr k):zH (qw c x l).1.dr (k+2*l.length):=by
 have h1:zH (Zw c l l {x with ab:=c.dev,re:=false}).1.dr (k+l.length):=j3 hi l l (x:={x with ab:=c.dev,re:=false}) h;unfold qw;dsimp only
 split
 · refine(vJ _ h1 (fun t ht=>hl t (List.mem_filter.1 ht).1)).mono ?_;have:=List.length_filter_le (fun t:Tm=> !qH t.op) l;omega
 · exact h1.mono zb
end
section
open Go.RowKit
abbrev qf:TypeId:=34
abbrev qh:TypeId:=37
abbrev Ve:TypeId:=116
structure Rm where
 path:ByteArray
 ix:Int
 props:Ls At
 tags:Ls ze
 links:Ls ze
 run:Ls ze
 load:Ls ze
 nam:ByteArray
 prio:Int
 own:ByteArray
 grp:ByteArray
 mode:Int
def Rm.d(r:Rm):Rc:=⟨r.path,r.ix,r.props.l,r.tags.l,r.links.l,r.run.l,r.load.l,r.nam,r.prio,r.own,r.grp,r.mode⟩
def qb(r:Rm):Array Value:=#[.string r.path,.int .i64 r.ix,.slice r.props.A r.props.l.length r.props.c,.slice r.tags.A r.tags.l.length r.tags.c,.slice r.links.A r.links.l.length r.links.c,.slice r.run.A r.run.l.length r.run.c,.slice r.load.A r.load.l.length r.load.c,.string r.nam,.int .i64 r.prio,.string r.own,.string r.grp,.int .i64 r.mode]
structure Z3(w:World)(r:Rm):Prop where
 pr:zB 2 zw w r.props
 tg:zB 1 zD w r.tags
 lk:zB 1 zD w r.links
 rn:zB 1 zD w r.run
 ld:zB 1 zD w r.load
theorem Z3.keep{w w':World}{r:Rm}(h:Z3 w r)(hb:Below w.heap.size w w'):Z3 w' r:=⟨h.pr.keep hb,h.tg.keep hb,h.lk.keep hb,h.rn.keep hb,h.ld.keep hb⟩
theorem Mm(r:Rm):(qb r).all (·.oneCell')=true:=by simp[qb,Value.oneCell']
theorem zcP:(prog.info? 34).map (·.size)=some 12:=zg
theorem ziy:(prog.info? 37).map (·.size)=some 17:=zg
def QE(x:Hp):List Value:=[.string x.cmd,.string x.out,.bool x.fails,.int .i64 x.ticks]
structure zt where
 act:ByteArray
 tA:Option Addr
 tc:Nat
 tds:List Dv
 ix:Int
 r:Rm
 hs:Ls Hp
 lim:Int
 dev:Dv
 org:ByteArray
 pnt:ByteArray
def zt.i(c:zt):QV:=⟨c.act,zm c.tds,c.ix,c.r.props.l,c.hs.l,c.lim⟩
def zt.c(c:zt):qp:=⟨c.i,c.dev.d,c.org,c.pnt⟩
structure Em where
 dr:Dm
 ab:Dv
 re:Bool
def Em.e(x:Em):Ev:=⟨x.dr.d,x.ab.d,x.re⟩
def zJ(c:zt):Array Value:=#[.string c.act,.slice c.tA c.tds.length c.tc,.int .i64 c.ix,.string c.r.path,.int .i64 c.r.ix,.slice c.r.props.A c.r.props.l.length c.r.props.c,.slice c.r.tags.A c.r.tags.l.length c.r.tags.c,.slice c.r.links.A c.r.links.l.length c.r.links.c,.slice c.r.run.A c.r.run.l.length c.r.run.c,.slice c.r.load.A c.r.load.l.length c.r.load.c,.string c.r.nam,.int .i64 c.r.prio,.string c.r.own,.string c.r.grp,.int .i64 c.r.mode,.slice c.hs.A c.hs.l.length c.hs.c,.int .i64 c.lim]
def qW(c:zt)(x:Em):Array Value:=#[.slice x.dr.props.A x.dr.props.l.length x.dr.props.c,.slice x.dr.tags.A x.dr.tags.l.length x.dr.tags.c,.slice x.dr.links.A x.dr.links.l.length x.dr.links.c,.slice x.dr.run.A x.dr.run.l.length x.dr.run.c,.slice x.dr.load.A x.dr.load.l.length x.dr.load.c,.string x.dr.nam,.int .i64 x.dr.prio,.string x.dr.own,.string x.dr.grp,.int .i64 x.dr.mode,.string x.dr.res,.int .i64 x.dr.calls,.int .i64 x.dr.ticks,.slice x.dr.closed.A x.dr.closed.l.length x.dr.closed.c,.string c.act,.slice c.tA c.tds.length c.tc,.int .i64 c.ix,.string c.r.path,.int .i64 c.r.ix,.slice c.r.props.A c.r.props.l.length c.r.props.c,.slice c.r.tags.A c.r.tags.l.length c.r.tags.c,.slice c.r.links.A c.r.links.l.length c.r.links.c,.slice c.r.run.A c.r.run.l.length c.r.run.c,.slice c.r.load.A c.r.load.l.length c.r.load.c,.string c.r.nam,.int .i64 c.r.prio,.string c.r.own,.string c.r.grp,.int .i64 c.r.mode,.slice c.hs.A c.hs.l.length c.hs.c,.int .i64 c.lim,.int .i64 c.dev.ix,.int .i64 c.dev.pa,.string c.dev.nam,.string c.dev.og,.string c.dev.sb,.string c.dev.dr,.string c.dev.al,.int .i64 c.dev.kd,.int .i64 c.dev.nb,.slice c.dev.ats.A c.dev.ats.l.length c.dev.ats.c,.string c.org,.string c.pnt,.int .i64 x.ab.ix,.int .i64 x.ab.pa,.string x.ab.nam,.string x.ab.og,.string x.ab.sb,.string x.ab.dr,.string x.ab.al,.int .i64 x.ab.kd,.int .i64 x.ab.nb,.slice x.ab.ats.A x.ab.ats.l.length x.ab.ats.c,.bool x.re]
theorem za4(c:zt):(zJ c).all (·.oneCell')=true:=by simp[zJ,Value.oneCell']
structure Zu(w:World)(c:zt):Prop where
 tr:qj w c.tA c.tds
 rc:Z3 w c.r
 hp:zB 4 QE w c.hs
theorem Zu.keep{w w':World}{c:zt}(h:Zu w c)(hb:Below w.heap.size w w'):Zu w' c:=⟨h.tr.keep hb,h.rc.keep hb,h.hp.keep hb⟩
def zt.as(c:zt):List (Option Addr):=[c.tA,c.r.props.A,c.r.tags.A,c.r.links.A,c.r.run.A,c.r.load.A,c.hs.A,c.dev.ats.A]++c.tds.map fun d=>d.ats.A
def Em.as(x:Em):List (Option Addr):=x.dr.as++[x.ab.ats.A]
def Xn(g:Nat)(l:List (Option Addr)):Prop:=∀a∈l,∀p,a=some p->p.block≠g
structure zR(w:World)(g:Nat)(c:zt)(x:Em):Prop where
 box:w.heap[g]? =some (.cells (qW c x) Ve (0,0))
 inp:Zu w c
 dev:ZM w c.dev
 dr:Yg w x.dr
 ab:ZM w x.ab
 offc:Xn g c.as
 offx:Xn g x.as
theorem zR.keep{w w':World}{g:Nat}{c:zt}{x:Em}(h:zR w g c x)(hb:Below w.heap.size w w'):zR w' g c x:=⟨(hb.block _ (zh h.box)).trans h.box,h.inp.keep hb,h.dev.keep hb,h.dr.keep hb,h.ab.keep hb,h.offc,h.offx⟩
theorem Q8{a:Option Addr}{g:Nat}{l:List (Option Addr)}(h:Xn g l)(hm:a∈l):∀p,a=some p->some p.block≠some g:=fun p e k=>h a hm p e (zx k)
theorem qj.grown{w w':World}{A:Option Addr}{ds:List Dv}{g:Nat}(h:qj w A ds)(hg:w.grownBy w' (some g))(hA:∀p,A=some p->p.block≠g)(hd:∀d∈ds,∀p,d.ats.A=some p->p.block≠g):qj w' A ds:=
 ⟨h.row.grown hg (fun p e k=>hA p e (zx k)),fun d hm=>(h.inn d hm).grown hg (fun p e k=>hd d hm p e (zx k)),h.len,h.al⟩
theorem zt.mem{c:zt}{g:Nat}(h:Xn g c.as):Xn g [c.tA,c.r.props.A,c.r.tags.A,c.r.links.A,c.r.run.A,c.r.load.A,c.hs.A,c.dev.ats.A]/\∀d∈c.tds,∀p,d.ats.A=some p->p.block≠g:=
 ⟨fun a ha=>h a (List.mem_append_left _ ha),fun d hd=>h d.ats.A (List.mem_append_right _ (List.mem_map.2 ⟨d,hd,rfl⟩))⟩
theorem Zu.grown{w w':World}{c:zt}{g:Nat}(h:Zu w c)(hg:w.grownBy w' (some g))(ho:Xn g c.as):Zu w' c:=by
 obtain⟨h1,h2⟩:=zt.mem ho;exact⟨h.tr.grown hg (h1 _ zl) h2,⟨h.rc.pr.grown hg (Q8 h1 zl),h.rc.tg.grown hg (Q8 h1 zl),h.rc.lk.grown hg (Q8 h1 zl),h.rc.rn.grown hg (Q8 h1 zl),h.rc.ld.grown hg (Q8 h1 zl)⟩,h.hp.grown hg (Q8 h1 zl)⟩
theorem Yg.grown{w w':World}{x:Dm}{g:Nat}(h:Yg w x)(hg:w.grownBy w' (some g))(ho:Xn g x.as):Yg w' x:=
 ⟨h.pr.grown hg (Q8 ho YD),h.tg.grown hg (Q8 ho YD),h.lk.grown hg (Q8 ho YD),h.rn.grown hg (Q8 ho YD),h.ld.grown hg (Q8 ho YD),h.cl.grown hg (Q8 ho YD)⟩
theorem zR.set{w w5:World}{g:Nat}{c:zt}{x:Em}(h:zR w g c x)(hb:Below w.heap.size w w5)(y:Em)(hd:Yg w5 y.dr)(ha:ZM w5 y.ab)(ho:Xn g y.as):zR (w5.setRow g (qW c y)) g c y/\w.grownBy (w5.setRow g (qW c y)) (some g):=by
 have hg:=qR w5 g (qW c y);have hbx:=(hb.block _ (zh h.box)).trans h.box;have h1:=(zt.mem h.offc).1;have hyd:Xn g y.dr.as:=fun a hm=>ho a (List.mem_append_left _ hm);refine⟨⟨setRow_heap _ _ _ _ _ _ hbx,(h.inp.keep hb).grown hg h.offc,(h.dev.keep hb).grown hg (Q8 h1 zl),hd.grown hg hyd,ha.grown hg (Q8 ho (List.mem_append_right _ zl)),h.offc,ho⟩,(zG hb _).trans hg⟩
theorem ze6{w w':World}{g:Nat}(h:w.grownBy w' (some g)){b:Nat}(hb:b<w.heap.size)(hn:b≠g):w'.heap[b]? =w.heap[b]?:=h.block b hb (fun e=>hn (zx e))
theorem CO{w w':World}{g B:Nat}(h:w.grownBy w' (some g))(hB:B<=g)(hs:B<=w.heap.size):Below B w w':=(Below.refl B w).grown h hs (fun j e=>by rw[<-zx e];exact hB)
structure Xa(c:zt)(x:Em)(k:Nat):Prop where
 gd:zH x.dr.d k
 kk:k<=100000
 ok:KS c.i
 dv:∀d∈zm c.tds,Xh d/\d.sb.size<=1000/\d.dr.size<=1000 /\ -9223372036854775808<=d.nb/\d.nb<=9223372036854775807/\∀a∈d.ats,a.val.size<=1000000
 wf:Z8 (zm c.tds)
 ix1: -9223372036854775808<=c.ix
 ix2:c.ix<=9223372036854775807
 dev:c.dev.d∈zm c.tds
 ab:x.ab.d∈zm c.tds
 org:c.org.size<=1000000
 pnt:c.pnt.size<=1000000
 hl:c.hs.l.length<=1000
 hc:∀y∈c.hs.l,y.cmd.size<=1000000
 act:c.act.size<=1000000
 pl:c.r.props.l.length<=1000
 pz:∀y∈c.r.props.l,y.name.size<=1000000
end
section
open Go.RowKit
theorem Qr.edLoad{B g:Nat}{y:Dm}{w:World}{l':List ze}{e:Ending}{w':World}(h:qx B w g y)(hi:Qr B y.load.A y.load.c y.load.l l' w e w'):∃A' c',e=.returned (.slice A' l'.length c')/\w'.cell? ⟨g,4,none⟩=some (.slice y.load.A y.load.l.length y.load.c)/\w'.frozen? ⟨g,4,none⟩=false/\zT B g y w {y with load:=⟨A',c',l'⟩} (w'.setCell ⟨g,4,none⟩ (.slice A' l'.length c')):=by
 obtain⟨A',c',h1,h2,h3,h4⟩:=hi;have hq:=zT.set_load h h3 h2 h4;have hmem:y.load.A∈y.as:=YD;have hbox:w'.heap[g]? =some (.cells (zI y) Uc (0,0)):=(h3.block g (zh h.box) (fun e=>by
  obtain⟨p,e1,e2⟩:=ZQ e.symm;exact h.off _ hmem p e1 e2)).trans h.box
 exact⟨A',c',h1,(ZV hbox).2.2.2.2.1,qe hbox 4,hq⟩
structure LO(d:Dr):Prop where
 pl:d.props.length<=1000
 pa:Z1 d.props
 pv:∀x∈d.props,x.val.size<=1000000
 tl:d.tags.length<=1000
 ta:d.tags.Pairwise (· < ·)
 ll:d.links.length<=1000
 la:d.links.Pairwise (· < ·)
 rl:d.run.length<=1000
 dl:d.load.length<=1000
 da:d.load.Pairwise (· < ·)
theorem zH.edz{d:Dr}{k:Nat}(h:zH d k):LO d:=⟨Ta,h.pa,h.pv,RW,h.ta,by have:=h.ll;omega,h.la,by have:=h.rl;omega,by have:=h.dl;omega,h.da⟩
def Be(d:Dr)(v:ByteArray):Dr:=if U6 (L v)then{d with mode:=Ip (L v)}else d
theorem zjY(B g:Nat)(y:Dm)(s:ByteArray)(w:World)(h:qx B w g y)(hE:Env w)(hs:s.size<=1000000):
 Calls prog 170 #[.pointer (some ⟨g,0,none⟩),.string s] w (qG B g y w (Be y.d s)):=zjX B g y s w h hE hs
theorem zfF(B g:Nat)(y:Dm)(t:Tm)(v:ByteArray)(w:World)(h:qx B w g y)(hz:LO y.d)(hE:Env w)(hB:nG<=B)(hv:v.size<=1000000):
 Calls prog 130 #[.pointer (some ⟨g,0,none⟩),qk t,.string v] w (qG B g y w (Qb y.d t v)):=by
 obtain⟨ky,nmm,op,vl⟩:=t;obtain⟨w1,hw1⟩:∃w1,(w.alloc (.cells #[.int .i64 ky,.string nmm,.int .i64 op,.string vl] 52))=w1:=⟨_,rfl⟩;have hb1:Below w.heap.size w w1:=ZX;have hT:w1.heap[w.heap.size]? =some (.cells #[.int .i64 ky,.string nmm,.int .i64 op,.string vl] 52):=Qo;have c0:w1.cell? ⟨w.heap.size,0,none⟩=some (.int .i64 ky):=zd hT rfl;have c1:w1.cell? ⟨w.heap.size,1,none⟩=some (.string nmm):=zd hT rfl;have c2:w1.cell? ⟨w.heap.size,2,none⟩=some (.int .i64 op):=zd hT rfl;have HH:=za h;have HZ:=za hz;have HE:=za hE;have HB1:=za hb1;have HW1:=za hw1;have HV:=za hv;have HL:Hid (∀{d':Dr} {e:Ending} {W:World},qG B g y w1 d' e W->qG B g y w d' e W):=za fun h2=>qG.lift HH.out HB1.out h2;have HSame:Hid (∀W,Below w1.heap.size w1 W->qG B g y w y.d (.returned (.tuple #[])) W):=za fun W hW=>qG.same HH.out (bt HB1.out hW);have HF:Hid (∀W,Below w1.heap.size w1 W->qx B W g y):=za fun W hW=>HH.out.below (bt HB1.out hW);have e1:=(hb1.block _ (zh h.box)).trans h.box;clear h hz hE hb1 hT hw1 hv;unfold qk;dsimp only;by_cases hk:ky=6
 · skip
   by_cases h4:op=4
   · subst h4;have hA:Qb y.d ⟨ky,nmm,4,vl⟩ v=ka y.d nmm v:=Vx;rw[hA];clear hA;subst hk;have HC:=za (zap B g y nmm v w1 (HF.out w1 zj) HZ.out.pl HZ.out.pa HV.out HZ.out.pv);have c0:=c0;clear e1 HSame HF;go_enter func130,ntmps130;go_upto_region 1 with fail
     rw[HW1.out];go_wp2_with (go_at_call 165;refine HC.out.mono ?_;rintro e w2 hP;obtain⟨rfl,-⟩:=id hP;have HP:=za hP;clear hP)
     exact KX
   · have hA:Qb y.d ⟨ky,nmm,op,vl⟩ v=X5 y.d nmm v:=by subst hk;unfold Qb;rw[if_pos rfl,if_neg h4]
     rw[hA];clear hA;subst hk;have HC:=za (Tk B g y nmm v w1 (HF.out w1 zj) HZ.out.pl HZ.out.pa Nb);clear e1 HSame HF;go_enter func130,ntmps130;go_upto_region 1 with fail
     rw[HW1.out];go_wp2_with (go_at_call 159;refine HC.out.mono ?_;rintro e w2 hP;obtain⟨rfl,-⟩:=id hP;have HP:=za hP;clear hP)
     exact KX
 have n6:¬ky=6:=hk;clear hk;by_cases hk:ky=7
 · skip
   have hA:Qb y.d ⟨ky,nmm,op,vl⟩ v=KF y.d op v:=Vx;rw[hA];clear hA;subst hk;have HC:=za (zkG B g y op v w1 (HF.out w1 zj) HZ.out.tl HZ.out.ta HV.out);clear e1 HSame HF;go_enter func130,ntmps130;go_upto_region 1 with fail
   rw[HW1.out];go_wp2_with (go_at_call 166;refine HC.out.mono ?_;rintro e w2 hP;obtain⟨rfl,-⟩:=id hP;have HP:=za hP;clear hP)
   exact KX
 have n7:¬ky=7:=hk;clear hk;by_cases hk:ky=15
 · skip
   have hA:Qb y.d ⟨ky,nmm,op,vl⟩ v=if X0 (L v)then{y.d with nam:=v}else y.d:=Vx;rw[hA];clear hA;subst hk;have HC0:=NZ v w1 HV.out;have HSet:Hid (∀W,Below w1.heap.size w1 W->qG B g y w {y.d with nam:=v} (.returned (.tuple #[])) (W.setCell ⟨g,5,none⟩ (.string v))):=za fun W hW=>HL.out (((zT.same (HF.out w1 zj) hW).trans (zT.scalar (HF.out W hW) 5 (.string v) {y with nam:=v} rfl rfl ⟨(HF.out W hW).rows.pr,(HF.out W hW).rows.tg,(HF.out W hW).rows.lk,(HF.out W hW).rows.rn,(HF.out W hW).rows.ld,(HF.out W hW).rows.cl,(HF.out W hW).rows.ne⟩)).p rfl);have HFz:Hid (∀W,Below w1.heap.size w1 W->W.cell? ⟨g,5,none⟩=some (.string y.nam)/\W.frozen? ⟨g,5,none⟩=false):=za fun W hW=>by
    have hb:=(HF.out W hW).box;exact⟨zd hb rfl,qe hb 5⟩
   clear e1 HF;cases hv:X0 (L v)with
   | true=>
     rw[hv]at HC0;have HC:=za HC0;clear HC0 hv;rw[if_pos rfl];go_enter func130,ntmps130;go_upto_region 1 with fail
     rw[HW1.out];go_wp2_with (go_at_call 167;refine HC.out.mono ?_;rintro e w2 ⟨rfl,hb2⟩;have HB2:=za hb2;obtain⟨q5,f5⟩:=HFz.out w2 hb2;clear hb2)
     refine bodyPost_ret (v:=.tuple #[]) (results_none rfl _ _ _) rfl ?_;exact HSet.out w2 HB2.out
   | false=>
     rw[hv]at HC0;have HC:=za HC0;clear HC0 hv;rw[if_neg zi];go_enter func130,ntmps130;go_upto_region 1 with fail
     rw[HW1.out];go_wp2_with (go_at_call 167;refine HC.out.mono ?_;rintro e w2 ⟨rfl,hb2⟩;have HB2:=za hb2;obtain⟨q5,f5⟩:=HFz.out w2 hb2;clear hb2)
     refine bodyPost_ret (v:=.tuple #[]) (results_none rfl _ _ _) rfl ?_;exact HSame.out w2 HB2.out
 have n15:¬ky=15:=hk;clear hk;by_cases hk:ky=16
 · skip
   have hA:Qb y.d ⟨ky,nmm,op,vl⟩ v=XW y.d op v:=Vx;rw[hA];clear hA;subst hk;have HC:=za (zjZ B g y op v w1 (HF.out w1 zj) HZ.out.ll HZ.out.la (HE.out.go HB1.out).toEnv0 hB HV.out);clear e1 HSame HF;go_enter func130,ntmps130;go_upto_region 1 with fail
   rw[HW1.out];go_wp2_with (go_at_call 168;refine HC.out.mono ?_;rintro e w2 hP;obtain⟨rfl,-⟩:=id hP;have HP:=za hP;clear hP)
   exact KX
 have n16:¬ky=16:=hk;clear hk;by_cases hk:ky=17
 · skip
   have hA:Qb y.d ⟨ky,nmm,op,vl⟩ v=if Z4 (L v)then{y.d with own:=v}else y.d:=Vx;rw[hA];clear hA;subst hk;have HC0:=Gn v w1 Nb;have HSet:Hid (∀W,Below w1.heap.size w1 W->qG B g y w {y.d with own:=v} (.returned (.tuple #[])) (W.setCell ⟨g,7,none⟩ (.string v))):=za fun W hW=>HL.out (((zT.same (HF.out w1 zj) hW).trans (zT.scalar (HF.out W hW) 7 (.string v) {y with own:=v} rfl rfl ⟨(HF.out W hW).rows.pr,(HF.out W hW).rows.tg,(HF.out W hW).rows.lk,(HF.out W hW).rows.rn,(HF.out W hW).rows.ld,(HF.out W hW).rows.cl,(HF.out W hW).rows.ne⟩)).p rfl);have HFz:Hid (∀W,Below w1.heap.size w1 W->W.cell? ⟨g,7,none⟩=some (.string y.own)/\W.frozen? ⟨g,7,none⟩=false):=za fun W hW=>by
    have hb:=(HF.out W hW).box;exact⟨zd hb rfl,qe hb 7⟩
   exact D0
 have n17:¬ky=17:=hk;clear hk;by_cases hk:ky=18
 · skip
   have hA:Qb y.d ⟨ky,nmm,op,vl⟩ v=if Z4 (L v)then{y.d with grp:=v}else y.d:=Vx;rw[hA];clear hA;subst hk;have HC0:=Gn v w1 Nb;have HSet:Hid (∀W,Below w1.heap.size w1 W->qG B g y w {y.d with grp:=v} (.returned (.tuple #[])) (W.setCell ⟨g,8,none⟩ (.string v))):=za fun W hW=>HL.out (((zT.same (HF.out w1 zj) hW).trans (zT.scalar (HF.out W hW) 8 (.string v) {y with grp:=v} rfl rfl ⟨(HF.out W hW).rows.pr,(HF.out W hW).rows.tg,(HF.out W hW).rows.lk,(HF.out W hW).rows.rn,(HF.out W hW).rows.ld,(HF.out W hW).rows.cl,(HF.out W hW).rows.ne⟩)).p rfl);have HFz:Hid (∀W,Below w1.heap.size w1 W->W.cell? ⟨g,8,none⟩=some (.string y.grp)/\W.frozen? ⟨g,8,none⟩=false):=za fun W hW=>by
    have hb:=(HF.out W hW).box;exact⟨zd hb rfl,qe hb 8⟩
   exact D0
 have n18:¬ky=18:=hk;clear hk;by_cases hk:ky=19
 · skip
   have hA:Qb y.d ⟨ky,nmm,op,vl⟩ v=Be y.d v:=Vx;rw[hA];clear hA;subst hk;have HC:=za (zjY B g y v w1 (HF.out w1 zj) (HE.out.go HB1.out) HV.out);clear e1 HSame HF;go_enter func130,ntmps130;go_upto_region 1 with fail
   rw[HW1.out];go_wp2_with (go_at_call 170;refine HC.out.mono ?_;rintro e w2 hP;obtain⟨rfl,-⟩:=id hP;have HP:=za hP;clear hP)
   exact KX
 have n19:¬ky=19:=hk;clear hk;by_cases hk:ky=20
 · skip
   have hA:Qb y.d ⟨ky,nmm,op,vl⟩ v=JT y.d op v:=Vx;rw[hA];clear hA;subst hk;have HC:=za (zeO B g y op v w1 (HF.out w1 zj) HZ.out.rl HV.out);clear e1 HSame HF;go_enter func130,ntmps130;go_upto_region 1 with fail
   rw[HW1.out];go_wp2_with (go_at_call 171;refine HC.out.mono ?_;rintro e w2 hP;obtain⟨rfl,-⟩:=id hP;have HP:=za hP;clear hP)
   exact KX
 have n20:¬ky=20:=hk;clear hk;by_cases hk:ky=21
 · skip
   have hA:Qb y.d ⟨ky,nmm,op,vl⟩ v=if UG v then{y.d with load:=QA y.d.load (L v) 16}else y.d:=Vx;rw[hA];clear hA;subst hk;have HC0:=fun W=>S9 v W Nb;have h1:=HF.out w1 zj;have HPut:=za (P7 y.load.A y.load.c y.load.l v 16 w1 h1.rows.ld (by have:=HZ.out.dl;have e:y.d.load=y.load.l:=rfl;rw[e]at this;omega) zb (i3 h1.lo (X3 (zh h1.box))) HZ.out.da);have q4:w1.cell? ⟨g,4,none⟩=some (.slice y.load.A y.load.l.length y.load.c):=zd h1.box rfl;have f4:=qe h1.box 4;have H1:=za h1;clear e1 h1;cases hv:UG v with
   | true=>
     simp only[hv]at HC0;have HC:=za HC0;clear HC0 hv;rw[if_pos rfl];go_enter func130,ntmps130;go_upto_region 1 with fail
     rw[HW1.out];go_wp2_with (first|(go_at_call 172;refine(HC.out _).mono ?_;rintro e w2 ⟨rfl,rfl⟩)|(go_at_call 173;refine HPut.out.mono ?_;rintro e w5 hI;obtain⟨A5,c5,rfl,q5,f5,hP⟩:=Qr.edLoad H1.out hI;have HP:=za hP;clear hP hI))
     refine bodyPost_ret (v:=.tuple #[]) (results_none rfl _ _ _) rfl ?_;exact HL.out (HP.out.p rfl)
   | false=>
     simp only[hv]at HC0;have HC:=za HC0;clear HC0 hv;rw[if_neg zi];go_enter func130,ntmps130;go_upto_region 1 with fail
     rw[HW1.out];go_wp2_with (first|(go_at_call 172;refine(HC.out _).mono ?_;rintro e w2 ⟨rfl,rfl⟩))
     refine bodyPost_ret (v:=.tuple #[]) (results_none rfl _ _ _) rfl ?_;exact HSame.out _ zj
 have n21:¬ky=21:=hk;clear hk;by_cases hk:ky=22
 · skip
   have hA:Qb y.d ⟨ky,nmm,op,vl⟩ v=VY y.d v:=Vx;rw[hA];clear hA;subst hk;have HC:=za (B8 B g y v w1 (HF.out w1 zj) (HE.out.go HB1.out) HV.out);clear e1 HSame HF;go_enter func130,ntmps130;go_upto_region 1 with fail
   rw[HW1.out];go_wp2_with (go_at_call 174;refine HC.out.mono ?_;rintro e w2 hP;obtain⟨rfl,-⟩:=id hP;have HP:=za hP;clear hP)
   exact KX
 have n22:¬ky=22:=hk;clear hk;have hA:Qb y.d ⟨ky,nmm,op,vl⟩ v=y.d:=by unfold Qb;rw[if_neg n6,if_neg n7,if_neg n15,if_neg n16,if_neg n17,if_neg n18,if_neg n19,if_neg n20,if_neg n21,if_neg n22]
 rw[hA];clear hA e1 HF;go_enter func130,ntmps130;go_upto_region 1 with fail
 rw[HW1.out];go_wp2;refine bodyPost_ret (v:=.tuple #[]) (results_none rfl _ _ _) rfl ?_;exact HSame.out w1 zj
end
section
open Go.RowKit Go.Shelf
instance:Inhabited Hp:=⟨⟨⟨#[]⟩,⟨#[]⟩,false,0⟩⟩
theorem zbE(cmd:ByteArray)(B:Nat)(w:World)(hs:cmd.size<=1000000)(hB:B<w.heap.size)(h0:w.cell? ⟨B,0,none⟩=some (.string cmd))(l:List Hp)(hl:∀x∈l,x.cmd.size<=1000000)(W:World)(hb:Below w.heap.size w W)(x:Hp)(hx:x∈l):
 Calls prog 153 #[.agg #[.string x.cmd,.string x.out,.bool x.fails,.int .i64 x.ticks],.pointer (some ⟨B,0,none⟩)] W fun e w'=>e=.returned (.bool (zS (L x.cmd) (L cmd)))/\Below w.heap.size w w':=by
 have c0:W.cell? ⟨B,0,none⟩=some (.string cmd):=(hb.cell (p:=⟨B,0,none⟩) hB).trans h0;have hBW:B<W.heap.size:=i4 hB hb.size;have hne:B≠W.heap.size:=zb;have HM:=za (fun W=>MM x.cmd cmd W (by have:=hl x hx;omega) zb);have HB:=za (zP (o:=.cells #[.string x.cmd,.string x.out,.bool x.fails,.int .i64 x.ticks] 107) (Below.refl W.heap.size W));have HW:=za hb;clear hb h0 hl;generalize zS (L x.cmd) (L cmd)=b at*;go_enter func153,ntmps153;go_wp2_with (go_at_call 127;refine(HM.out _).mono ?_;rintro e w2 ⟨rfl,hb2⟩)
 go_ret;exact⟨rfl,bt HW.out (bt HB.out hb2)⟩
theorem PD{w wr:World}{B:Nat}{A:Option Addr}{l:List Hp}(h:zr w B A 4 l.length (cellsOf QE l))(hb:Below B w wr){k:Nat}(hk:k<l.length):∃ba off,A=some ⟨ba,off,none⟩/\ba<B /\
 wr.cell? ⟨ba,off+k*4+0,none⟩=some (.string l[k].cmd)/\wr.cell? ⟨ba,off+k*4+1,none⟩=some (.string l[k].out)/\wr.cell? ⟨ba,off+k*4+2,none⟩=some (.bool l[k].fails)/\wr.cell? ⟨ba,off+k*4+3,none⟩=some (.int .i64 l[k].ticks):=by
 obtain⟨ba,off,e,hB,hc⟩:=h.cell (enc:=QE) (fun _=>rfl) (by omega:0<l.length);refine⟨ba,off,e,hB,?_⟩;have hx:l[k]? =some l[k]:=l0 hk;have f:∀i v,(QE l[k])[i]? =some v->wr.cell? ⟨ba,off+k*4+i,none⟩=some v:=fun i v hv=>by
  have h1:=hc k l[k] hx i v hv;rw[<-zk5]at h1;exact(hb.cell (p:=⟨ba,off+k*4+i,none⟩) hB).trans h1
 exact⟨f 0 _ rfl,f 1 _ rfl,f 2 _ rfl,f 3 _ rfl⟩
abbrev Hq:Type:={x:Hp //x.cmd.size<=1000000}
instance:Inhabited Hq:=⟨⟨⟨⟨#[]⟩,⟨#[]⟩,false,0⟩,zi⟩⟩
theorem Aa:∀(l:List Hp),(∀x∈l,x.cmd.size<=1000000)->∃zs:List Hq,zs.map (fun x=>x.1)=l
 | [],_=>⟨[],rfl⟩
 | x::l,h=>by
   obtain⟨zs,hz⟩:=Aa l (fun y hy=>h y (X6 _ hy));exact EE
theorem BL(fv:Value)(w:World):Calls prog 152 #[.slice none 0 0,fv] w fun e w'=>e=.returned (.int .i64 (-1))/\w'=w:=by
 go_enter func152,ntmps152;exact OJ
theorem Mc(cmd:ByteArray)(B:Nat)(y:Ls Hp)(w:World)(hy:zB 4 QE w y)(hl:y.l.length<=1000)(hc:∀x∈y.l,x.cmd.size<=1000000)(hs:cmd.size<=1000000)(hB:B<w.heap.size)(h0:w.cell? ⟨B,0,none⟩=some (.string cmd)):
 Calls prog 152 #[.slice y.A y.l.length y.c,.func (.func 153) #[] #[.pointer (some ⟨B,0,none⟩)]] w fun e w'=>((∃(k:Nat) (hk:k<y.l.length),e=.returned (.int .i64 k)/\(y.l.find? fun x=>zS (L x.cmd) (L cmd))=some y.l[k])∨(e=.returned (.int .i64 (-1))/\(y.l.find? fun x=>zS (L x.cmd) (L cmd))=none))/\Below w.heap.size w w':=by
 obtain⟨A,c,l⟩:=y;dsimp only at hl hc⊢;cases A with
 | none=>
   have h0:l=[]:=by
    rcases Nat.eq_zero_or_pos l.length with e|e
    · exact List.length_eq_zero_iff.1 e
    · obtain⟨_,_,e2,_⟩:=hy.row.row.at_ e;cases e2
   subst h0;have hcz:c=0:=hy.nil rfl;rw[hcz];exact(BL _ w).mono fun _ _ ⟨h1,h2⟩=>⟨Or.inr ⟨h1,rfl⟩,by rw[h2];exact zj⟩
 | some a=>
   obtain⟨ea,hlt⟩:=hy.row.pl a rfl;have hr:=hy.row.row;dsimp only at hr;rw[ea]at hr⊢;obtain⟨zs,hzs⟩:=Aa l hc;have hzl:zs.length=l.length:=by rw[<-hzs,W7]
   have hP:PredBelow prog 153 #[.pointer (some ⟨B,0,none⟩)] (fun x:Hq=>.agg (QE x.1).toArray) (fun x:Hq=>zS (L x.1.cmd) (L cmd)) w:=fun W x hb=>zbE cmd B w hs hB h0 [x.1] (fun z hz=>Lh) W hb x.1 (List.mem_singleton.2 rfl);have h:=AnyQ.slices_IndexFunc (ρ:=CE) (P:=prog) zjF 4 (by exact isAgg107) (by exact sizeOf107) (fun x:Hq=>QE x.1) (fun _=>rfl) (fun x:Hq=>zS (L x.1.cmd) (L cmd)) 153 #[.pointer (some ⟨B,0,none⟩)] (fun _ _=>rfl) a.block a.off l.length c zs w hP zb zb hlt (fun j hj i v hv=>by
    obtain⟨b,off,e,hb,hcc⟩:=hr.cell (enc:=QE) (fun _=>rfl) (by omega:0<l.length);injection e with e
    injection e with e3 e4
    rw[e3,e4,zk5];refine hcc j zs[j]!.1 ?_ i v hv;rw[getElem!_pos zs j hj,<-hzs,zd4,l0 hj];rfl)
   have ht:zs.take l.length=zs:=by rw[<-hzl,List.take_length]
   rw[ht]at h;refine h.mono ?_;rintro e w' ⟨h1,h2⟩;refine⟨?_,h2⟩;have hff:(l.find? fun x=>zS (L x.cmd) (L cmd))=(zs.find? fun x=>zS (L x.1.cmd) (L cmd)).map (·.1):=by
    rw[<-hzs,List.find?_map];rfl
   rcases Sc (fun x:Hq=>zS (L x.1.cmd) (L cmd)) zs with⟨k,x,hx,hi,hf⟩|⟨hi,hf⟩
   · left;have hk:=(List.getElem?_eq_some_iff.1 hx).1;refine⟨k,zb,by rw[h1,hi],?_⟩;rw[hff,hf];show some x.1=_;have e1:l[k]? =some x.1:=by rw[<-hzs,zd4,hx];rfl
     rw[l0 zb]at e1;exact e1.symm
   · right;exact⟨by rw[h1,hi],by rw[hff,hf];rfl⟩
theorem zjC(E O:Nat)(u:FrameMode)(w:World)(h0:w.cell? ⟨E,0,none⟩=some (.int .i64 0)):
 CallsD prog 151 #[.pointer (some ⟨E,0,none⟩),.pointer (some ⟨O,0,none⟩)] u w fun e u' w'=>u'=u/\(e=.returned (.tuple #[])/\w'=w):=by
 go_enter_d func151,ntmps151
 go_wp2
 go_end0
 exact kS
theorem zhZ(E O:Nat)(ev:Int)(s:ByteArray)(u:FrameMode)(w:World)(h0:w.cell? ⟨E,0,none⟩=some (.int .i64 ev))(hv:¬ev=0)(h1:w.cell? ⟨O,0,none⟩=some (.string s))(hf:w.frozen? ⟨O,0,none⟩=false):
 CallsD prog 151 #[.pointer (some ⟨E,0,none⟩),.pointer (some ⟨O,0,none⟩)] u w fun e u' w'=>u'=u/\(e=.returned (.tuple #[])/\w'=w.setCell ⟨O,0,none⟩ (.string ⟨#[]⟩)):=by
 have hb:(ev==0)=false:=by simpa using hv
 go_enter_d func151,ntmps151
 go_wp2
 go_end0
 exact kS
end
section
open Go.RowKit Go.Shelf
theorem Pi{W:World}{O E:Nat}{s:ByteArray}{ev:Int}(hne:O≠E)(p1:W.cell? ⟨O,0,none⟩=some (.string s))(p2:W.cell? ⟨E,0,none⟩=some (.int .i64 ev))(u1:W.frozen? ⟨O,0,none⟩=false):
 ((W.setCell ⟨O,0,none⟩ (.string s)).setCell ⟨E,0,none⟩ (.int .i64 ev)).drew.cell? ⟨O,0,none⟩=some (.string s)/\((W.setCell ⟨O,0,none⟩ (.string s)).setCell ⟨E,0,none⟩ (.int .i64 ev)).drew.frozen? ⟨O,0,none⟩=false/\((W.setCell ⟨O,0,none⟩ (.string s)).setCell ⟨E,0,none⟩ (.int .i64 ev)).drew.cell? ⟨E,0,none⟩=some (.int .i64 ev):=
 ⟨(World.cell?_setCell_other _ _ _ _ (fun e=>by injection e with e;exact hne e.symm)).trans (World.cell?_setCell_same _ _ _ p1),((World.frozen?_setCell ..).trans (World.frozen?_setCell ..)).trans u1,World.cell?_setCell_same _ _ _ ((World.cell?_setCell_other _ _ _ _ (fun e=>by injection e with e;exact hne e)).trans p2)⟩
theorem MO(R:ByteArray×Int×Int)(w:World):∀(tmps:Array Value) (W:World) (ev tk:Int) (s:ByteArray),tmps.getD 8 undef=.pointer (some ⟨w.heap.size+1,0,none⟩)->tmps.getD 9 undef=.int .i64 tk->tmps.getD 10 undef=.pointer (some ⟨w.heap.size+2,0,none⟩)->W.cell? ⟨w.heap.size+1,0,none⟩=some (.string s)->W.frozen? ⟨w.heap.size+1,0,none⟩=false->W.cell? ⟨w.heap.size+2,0,none⟩=some (.int .i64 ev)->Below w.heap.size w W->R=(if ev=0 then s else⟨#[]⟩,tk,ev) ->
 bodyPostD prog Tryz.f120 (fun e w'=>e=.returned (.tuple #[.string R.1,.int .i64 R.2.1,.int .i64 R.2.2])/\Below w.heap.size w w') Exit.ret {tmps:=tmps,defers:=[{target:=Target.fn (Fn.func 151) #[.pointer (some ⟨w.heap.size+2,0,none⟩),.pointer (some ⟨w.heap.size+1,0,none⟩)],args:=#[]}]} W:=by
 intro tmps W ev tk s h8 h9 h10 hO hF hE hB hRR;have h8':tmps[8]?.getD undef=.pointer (some ⟨w.heap.size+1,0,none⟩):=by simpa using h8
 have h9':tmps[9]?.getD undef=.int .i64 tk:=by simpa using h9
 have h10':tmps[10]?.getD undef=.pointer (some ⟨w.heap.size+2,0,none⟩):=by simpa using h10
 refine leaves_cons (f:=151) (args:=#[.pointer (some ⟨w.heap.size+2,0,none⟩),.pointer (some ⟨w.heap.size+1,0,none⟩)]) zl (by simp[go_sem]) ?_;by_cases hev:ev=0
 · rw[hev]at hE;refine(zjC (w.heap.size+2) (w.heap.size+1) .returning _ hE).mono ?_;rintro e u' w'' ⟨rfl,rfl,rfl⟩;rw[hRR,if_pos hev];simp[Leaves,settle,results,results120,go_sem,hO,hE,h8',h9',h10',hev];exact hB
 · refine(zhZ (w.heap.size+2) (w.heap.size+1) ev s .returning _ hE hev hO hF).mono ?_;rintro e u' w'' ⟨rfl,rfl,rfl⟩;have hO3:(W.setCell ⟨w.heap.size+1,0,none⟩ (.string ⟨#[]⟩)).cell? ⟨w.heap.size+1,0,none⟩=some (.string ⟨#[]⟩):=World.cell?_setCell_same _ _ _ hO;have hE3:(W.setCell ⟨w.heap.size+1,0,none⟩ (.string ⟨#[]⟩)).cell? ⟨w.heap.size+2,0,none⟩=some (.int .i64 ev):=by
    rw[World.cell?_setCell_other _ _ _ _ (fun e=>ZD)];exact hE
   have hBB3:Below w.heap.size w (W.setCell ⟨w.heap.size+1,0,none⟩ (.string ⟨#[]⟩)):=ZF hB zb;rw[hRR,if_neg hev];generalize W.setCell ⟨w.heap.size+1,0,none⟩ (.string ⟨#[]⟩)=W3 at*;simp[Leaves,settle,results,results120,go_sem,hO3,hE3,h8',h9',h10'];exact hBB3
end
section
open Go.RowKit
abbrev Ug:TypeId:=144
abbrev Yi:TypeId:=146
def J3(t:Tm):Value:=.iface (if qH t.op then Ug else Yi) (qk t)
theorem ziV(parts:Array (Nat×Value)):Instr.build Ug parts=ZI Ug parts:=U7
theorem ze8(parts:Array (Nat×Value)):Instr.build Yi parts=ZI Yi parts:=U7
theorem zj8(t:Tm)(W:World):(ZI Ug #[(0,.agg #[.int .i64 t.key,.string t.name,.int .i64 t.op,.string t.value])]).run prog W=.ok (.agg #[.int .i64 t.key,.string t.name,.int .i64 t.op,.string t.value]) W:=Xr
theorem ziA(t:Tm)(W:World):(ZI Yi #[(0,.agg #[.int .i64 t.key,.string t.name,.int .i64 t.op,.string t.value])]).run prog W=.ok (.agg #[.int .i64 t.key,.string t.name,.int .i64 t.op,.string t.value]) W:=Xr
theorem DR(W:World)(v:Value):(Instr.typeAssert (.iface Ug v) 20 Ug true).run prog W=.ok (.tuple #[v,.bool true]) W:=zg
theorem zaA(W:World)(v:Value):(Instr.typeAssert (.iface Yi v) 20 Yi true).run prog W=.ok (.tuple #[v,.bool true]) W:=zg
theorem zb6(W:World)(v:Value):(Instr.typeAssert (.iface Yi v) 20 Ug true).run prog W=.ok (.tuple #[.agg #[.int .i64 0,.string ⟨#[]⟩,.int .i64 0,.string ⟨#[]⟩],.bool false]) W:=zg
attribute [local go_sem ↓] ziV ze8
theorem zkd(t:Tm)(w:World):Calls prog 73 #[qk t] w fun e w'=>e=.returned (J3 t)/\Below w.heap.size w w':=by
 have HM0:=T4 t (w.alloc (.cells #[.int .i64 t.key,.string t.name,.int .i64 t.op,.string t.value] 52));obtain⟨ky,nmm,op,vl⟩:=t;have hc:=fun(W:World)=>zj8 ⟨ky,nmm,op,vl⟩ W;have hg:=fun(W:World)=>ziA ⟨ky,nmm,op,vl⟩ W;unfold J3;unfold qk at*;dsimp only at*;have hb1:=zL w (.cells #[.int .i64 ky,.string nmm,.int .i64 op,.string vl] 52);obtain⟨w1,hw1⟩:∃w1,w.alloc (.cells #[.int .i64 ky,.string nmm,.int .i64 op,.string vl] 52)=w1:=⟨_,rfl⟩;have hr1:w1.heap[w.heap.size]? =some (.cells #[.int .i64 ky,.string nmm,.int .i64 op,.string vl] 52 (0,0)):=Qo;rw[hw1]at HM0 hb1;have HM:=za HM0;have HB1:=za hb1;have HW1:=za hw1;have HR1:=za hr1;clear HM0 hb1 hw1;have c0:=zd (j:=0) hr1 rfl;have c1:=zd (j:=1) hr1 rfl;have c2:=zd (j:=2) hr1 rfl;have c3:=zd (j:=3) hr1 rfl;clear hr1;cases hm:qH op with
 | true=>
   rw[hm]at HM;rw[if_pos rfl];clear hm;go_enter func73,ntmps73;go_upto_region 1 with fail
   rw[HW1.out];go_wp2_with (go_at_call 90;refine HM.out.mono ?_;rintro e w2 ⟨rfl,hb2⟩;have HB2:=za hb2;(have hr2:=(hb2.block _ (zh HR1.out)).trans HR1.out);have d0:=zd (j:=0) hr2 rfl;have d1:=zd (j:=1) hr2 rfl;have d2:=zd (j:=2) hr2 rfl;have d3:=zd (j:=3) hr2 rfl;have hc2:=hc w2;clear hr2 hb2 c0 c1 c2 c3 hc hg)
   exact Oo
 | false=>
   rw[hm]at HM;rw[if_neg zl];clear hm;go_enter func73,ntmps73;go_upto_region 1 with fail
   rw[HW1.out];go_wp2_with (go_at_call 90;refine HM.out.mono ?_;rintro e w2 ⟨rfl,hb2⟩;have HB2:=za hb2;(have hr2:=(hb2.block _ (zh HR1.out)).trans HR1.out);have d0:=zd (j:=0) hr2 rfl;have d1:=zd (j:=1) hr2 rfl;have d2:=zd (j:=2) hr2 rfl;have d3:=zd (j:=3) hr2 rfl;have hg2:=hg w2;clear hr2 hb2 c0 c1 c2 c3 hc hg)
   exact Oo
end
section
open Go.RowKit
structure IE(w:World)(A:Option Addr)(rl:List Rl):Prop where
 row:zr w w.heap.size A 3 rl.length (cellsOf Zi rl)
 inn:∀y∈rl,zr w w.heap.size y.tms.A 4 y.tms.l.length (cellsOf zQ y.tms.l)
theorem IE.keep{w w':World}{A:Option Addr}{rl:List Rl}(h:IE w A rl)(hb:Below w.heap.size w w'):IE w' A rl:=⟨(h.row.keep hb).up hb.size,fun y hy=>((h.inn y hy).keep hb).up hb.size⟩
def Zy(rl:List Rl):List (List Tm):=rl.map fun y=>y.tms.l
theorem Ol(rl:List Rl):(Zy rl).length=rl.length:=W7 ..
theorem Ef(rl:List Rl){k:Nat}(hk:k<rl.length):(Zy rl)[k]? =some rl[k].tms.l:=by
 unfold Zy;rw[zd4,l0 hk];rfl
def UX(tt:ByteArray)(m:List Tm):Bool:=match QU m 23 with
 |some x=>L x==L tt
 |none=>false
theorem TV(ls:List (List Tm))(a:Nat)(l:List Tm):Qy ls a l=match QU l 24 with
 |none=>a+1
 | some tt=>match(ls.drop (a+1)).findIdx? (UX tt)with
   |some i=>a+1+i
   |none=>a+1:=by
 unfold Qy;cases QU l 24<;>rfl
theorem zbM{ls:List (List Tm)}{a:Nat}{l:List Tm}(h:QU l 24=none):Qy ls a l=a+1:=by rw[TV,h]
theorem BJ{ls:List (List Tm)}{a:Nat}{l:List Tm}{tt:ByteArray}(h:QU l 24=some tt)(hn:∀j m,a<j->ls[j]? =some m->UX tt m=false):Qy ls a l=a+1:=by
 rw[TV,h];have:(ls.drop (a+1)).findIdx? (UX tt)=none:=by
  rw[List.findIdx?_eq_none_iff];intro m hm;obtain⟨j,hj⟩:=List.mem_iff_getElem?.1 hm;rw[zd5]at hj;exact hn _ m zb hj
 dsimp only;rw[this]
theorem zeY{ls:List (List Tm)}{a k:Nat}{l m:List Tm}{tt:ByteArray}(h:QU l 24=some tt)(hk:a<k)(hm:ls[k]? =some m)(hl:UX tt m=true)(hn:∀j m,a<j->j<k->ls[j]? =some m->UX tt m=false):Qy ls a l=k:=by
 rw[TV,h];have:(ls.drop (a+1)).findIdx? (UX tt)=some (k - (a+1)):=by
  have hlt:=(List.getElem?_eq_some_iff.1 hm).1;rw[List.findIdx?_eq_some_iff_getElem];refine⟨XB,?_,fun j hj=>?_⟩
  · have e:(ls.drop (a+1))[k - (a+1)]? =some m:=by rw[zd5,show a+1+(k - (a+1))=k from by omega];exact hm
    rw[l0 XB]at e;rw[zx e];exact hl
  · have hj2:a+1+j<ls.length:=by omega
    have e:(ls.drop (a+1))[j]? =some ls[a+1+j]:=by rw[zd5,l0 hj2]
    rw[l0 XB]at e;rw[zx e];simpa using hn (a+1+j) _ zb zb (l0 hj2)
 dsimp only;rw[this];show a+1+(k - (a+1))=k;omega
theorem RX{w wr:World}{B:Nat}{A:Option Addr}{l:List Rl}(h:zr w B A 3 l.length (cellsOf Zi l))(hb:Below B w wr){k:Nat}(hk:k<l.length):∃ba off,A=some ⟨ba,off,none⟩/\wr.cell? ⟨ba,off+k*3,none⟩=some (.string l[k].file)/\wr.cell? ⟨ba,off+k*3+1,none⟩=some (.int .i64 l[k].line)/\wr.cell? ⟨ba,off+k*3+2,none⟩=some (.slice l[k].tms.A l[k].tms.l.length l[k].tms.c):=by
 obtain⟨ba,off,e,hB,hc⟩:=h.cell I4 hk;have hx:l[k]? =some l[k]:=l0 hk;refine⟨ba,off,e,?_,?_,?_⟩
 · rw[hb.cell (p:=⟨ba,off+k*3,none⟩) hB];exact hc k _ hx 0 _ rfl
 · rw[hb.cell (p:=⟨ba,off+k*3+1,none⟩) hB];exact hc k _ hx 1 _ rfl
 · rw[hb.cell (p:=⟨ba,off+k*3+2,none⟩) hB];exact hc k _ hx 2 _ rfl
theorem Lq(y:Rl)(key:Int)(w:World)(hn:y.tms.l.length<=1000000)(h:zr w w.heap.size y.tms.A 4 y.tms.l.length (cellsOf zQ y.tms.l)):
 Calls prog 76 #[.agg #[.string y.file,.int .i64 y.line,.slice y.tms.A y.tms.l.length y.tms.c],.int .i64 key] w fun e w'=>e=.returned (.tuple #[.string ((QU y.tms.l key).getD ⟨#[]⟩),.bool (QU y.tms.l key).isSome])/\Below w.heap.size w w':=
 zjB y.file y.line y.tms.A y.tms.c y.tms.l key w hn h
theorem zjD (A:Option Addr)(c:Nat)(rl:List Rl)(a:Nat)(w:World)(hr:IE w A rl)(ha:a<rl.length)(hl:rl.length<=1000000)(hz:∀y∈rl,y.tms.l.length<=1000000):
 Calls prog 58 #[.slice A rl.length c,.int .i64 a] w fun e w'=>e=.returned (.int .i64 (Qy (Zy rl) a rl[a].tms.l:Nat))/\Below w.heap.size w w':=by
 have HR:=za hr;have hai:(a:Int)<(rl.length:Int):=zb;obtain⟨ba,off,rfl,c0,c1,c2⟩:=RX hr.row zj ha;have HV0:=Lq rl[a] 24 w (hz _ (X8 ha)) (hr.inn _ (X8 ha));have HVk:=za (fun(y:Rl) (hy:y∈rl) (W:World) (hW:Below w.heap.size w W)=>Lq y 23 W (hz y hy) ((hr.keep hW).inn y hy));clear hr hz;cases hv:QU rl[a].tms.l 24 with
 | none=>
   rw[hv]at HV0;have HV:=za HV0;rw[zbM hv];clear HV0 hv HVk;generalize rl[a].file=ff at*;generalize rl[a].line=ll at*;generalize rl[a].tms=tt at*;generalize rl.length=N at*;go_enter func58,ntmps58;go_wp2_with (go_at_call 76;refine HV.out.mono ?_;rintro e w2 ⟨rfl,hb2⟩)
   go_loopg [7,8,9] 0 (fun _ i _ _ wr=>i=.int .i64 ((a:Int)+1)/\Hid (Below w.heap.size w wr))
   case atStart=>exact⟨zU,za hb2⟩
   case round=>
    obtain⟨rfl,HB⟩:=hrel;go_wp2;go_ret;exact⟨kE,HB.out⟩
 | some tg =>
   rw[hv]at HV0;have HV:=za HV0;have HN:=za (show QU rl[a].tms.l 24=some tg from hv);have HRest:=za HR.out.row;generalize hrl:rl[a].tms.l=tl24 at*;clear HV0 hv;generalize hff:rl[a].file=ff at*;generalize hll:rl[a].line=ll at*;generalize htA:rl[a].tms.A=ttA at*;generalize htc:rl[a].tms.c=ttc at*;clear hff hll htA htc hrl;obtain⟨N,hN⟩:∃N,rl.length=N:=⟨_,rfl⟩;have HNl:=za hN;rw[hN]at hai hl⊢;clear hN;go_enter func58,ntmps58;go_wp2_with (go_at_call 76;refine HV.out.mono ?_;rintro e w2 ⟨rfl,hb2⟩;have HB2:=za hb2;clear hb2)
   clear c0 c1 c2;go_loopg [7,8,9] (N - a) (fun gk i _ _ wr=>∃k:Nat,i=.int .i64 k/\a<k/\k<=N/\k+gk=N+1/\Hid (Below w.heap.size w wr)/\Hid (∀j m,a<j->j<k->(Zy rl)[j]? =some m->UX tg m=false))
   case atStart=>exact⟨a+1,zU,zb,zb,zb,HB2,za fun j m h1 h2=>zb⟩
   case round=>
    obtain⟨k,rfl,hk1,hk2,hkg,HB,HA⟩:=hrel;by_cases hlt:k<N
    · have hlt':k<rl.length:=by rw[HNl.out];exact hlt
      obtain⟨ba2,off2,e2,d0,d1,d2⟩:=RX HRest.out HB.out hlt';injection e2 with e2
      injection e2 with e3 e4
      subst e3 e4;have HC:=HVk.out rl[k] (X8 hlt') wr HB.out;have hget:=Ef rl hlt';have hlab:UX tg rl[k].tms.l=match QU rl[k].tms.l 23 with|some x=>L x==L tg|none=>false:=rfl
      cases hv:QU rl[k].tms.l 23 with
      | none=>
        rw[hv]at HC hlab;have HC2:=za HC;have HA2:Hid (∀j m,a<j->j<k+1->(Zy rl)[j]? =some m->UX tg m=false):=za fun j m h1 h2 h3=>by
         rcases Nat.lt_or_ge j k with h4|h4
         · exact HA.out j m h1 h4 h3
         · obtain rfl:j=k:=by omega
           rw[hget]at h3;rw[<-zx h3,hlab]
        clear HC hlab hget hv;exact AL
      | some xl=>
        rw[hv]at HC hlab;have HC2:=za HC;dsimp only at hlab;by_cases hq:xl.toList=tg.toList
        · have hlt2:UX tg rl[k].tms.l=true:=by rw[hlab,<-tl,<-tl,hq];simp
          have HEq:=za (zeY HN.out hk1 hget hlt2 HA.out);clear HC hlab hget hv hlt2;generalize rl[k].tms.l.length=n9 at*;generalize rl[k].file=ff at*;generalize rl[k].line=ll at*;generalize rl[k].tms.A=ttA at*;generalize rl[k].tms.c=ttc at*;go_wp2_with (go_at_call 76;refine HC2.out.mono ?_;rintro e w3 ⟨rfl,hb3⟩)
          go_ret;rw[HEq.out];exact⟨rfl,bt HB.out hb3⟩
        · have hqb:(xl.toList==tg.toList)=false:=by simpa using hq
          have hlt2:UX tg rl[k].tms.l=false:=by rw[hlab,<-tl,<-tl];exact hqb
          have HA2:Hid (∀j m,a<j->j<k+1->(Zy rl)[j]? =some m->UX tg m=false):=za fun j m h1 h2 h3=>by
           rcases Nat.lt_or_ge j k with h4|h4
           · exact HA.out j m h1 h4 h3
           · obtain rfl:j=k:=by omega
             rw[hget]at h3;rw[<-zx h3,hlt2]
          clear HC hlab hget hv hlt2;exact AL
    · obtain rfl:k=N:=by omega
      have HEq:=za (BJ (ls:=Zy rl) (a:=a) HN.out (fun j m h1 h3=>HA.out j m h1 (by
       have:=(List.getElem?_eq_some_iff.1 h3).1;rw[Ol]at this;have:=HNl.out;omega) h3))
      go_wp2;go_ret;rw[HEq.out];exact⟨kE,HB.out⟩
end
section
def zej(a b:Dr):Prop:=a.calls=b.calls/\a.ticks=b.ticks
def J8(lim:Int)(d:Dr):Prop:=∃k:Nat,(k:Int)<=d.calls/\k<=16/\0<=d.ticks/\d.ticks<=k*lim
theorem J8.same{lim:Int}{a b:Dr}(h:J8 lim b)(e:zej a b):J8 lim a:=by
 obtain⟨k,h1,h2,h3,h4⟩:=h;exact⟨k,by rw[e.1];exact h1,h2,by rw[e.2];exact h3,by rw[e.2];exact h4⟩
theorem J8.tick{c:qp}(hi:Tg c.i.hps c.i.lim){x:Ev}(h:J8 c.i.lim x.dr)(s:ByteArray):J8 c.i.lim (QL x (qN c x s).2.1).dr:=by
 obtain⟨k,h1,h2,h3,h4⟩:=h;obtain⟨c1,c2,_,c4⟩:=NF hi x.dr.calls (Qp c x s);have e1:(QL x (qN c x s).2.1).dr.calls=x.dr.calls+1:=rfl;have e2:(QL x (qN c x s).2.1).dr.ticks=x.dr.ticks+(Zh c.i.hps c.i.lim x.dr.calls (Qp c x s)).2.1:=rfl;generalize (Zh c.i.hps c.i.lim x.dr.calls (Qp c x s)).2.1=t at*;by_cases hc:16<=x.dr.calls
 · have ht:=c4 hc;exact⟨k,zb,h2,zb,zb⟩
 · refine⟨k+1,by rw[e1];push_cast;omega,zb,zb,?_⟩;have:((k+1:Nat):Int)*c.i.lim=k*c.i.lim+c.i.lim:=by push_cast;rw[Int.add_mul,Int.one_mul]
   omega
end
section
theorem DZ(ls:List (List Tm))(a:Nat)(l:List Tm):a+1<=Qy ls a l:=by
 unfold Qy
 split
 · exact zo
 · split
   · omega
   · exact zo
end
section
open Go.RowKit
theorem zeL(A A':Option Addr)(c c':Nat)(l:List At)(w:World)(hn:l.length<=4611686018427387904)(h:zr w w.heap.size A 2 l.length (cellsOf zw l))(h':zr w w.heap.size A' 2 l.length (cellsOf zw l)):
 Calls prog 38 #[.slice A l.length c,.slice A' l.length c'] w fun e w'=>e=.returned (.bool true)/\Below w.heap.size w w':=by
 have H:=za h;have H':=za h';clear h h';generalize hN:l.length=N at*;have HN:=za hN;clear hN;go_enter func38,ntmps38;go_wp2
 go_loopw [5] (fun i wr=>∃k:Nat,k<=N/\i=.int .i64 k/\Hid (Below w.heap.size w wr)) (fun i _=>N - (intOf i).toNat)
 case atStart=>exact⟨0,X1 _,rfl,zj⟩
 case round=>
  obtain⟨k,hk,rfl,hdr⟩:=hrel;by_cases hlt:k<N
  · obtain⟨x,hx⟩:∃x,l[k]? =some x:=⟨_,l0 kz⟩;have hr:=H.out;have hr':=H'.out;rw[<-HN.out]at hr hr';obtain⟨ba,off,hA,hba,hcc⟩:=hr.fileX hx;obtain⟨ba',off',hA',hba',hcc'⟩:=hr'.fileX hx;obtain⟨c0,c1⟩:=hcc _ hdr.out;obtain⟨d0,d1⟩:=hcc' _ hdr.out;subst hA hA';have hltI:(k:Int)<(N:Int):=zb;have hNI:(N:Int)<=4611686018427387904:=zb;clear hr hr' hcc hcc' hx hba hba';exact Bc
  · exact vp
theorem NM(A A':Option Addr)(c c':Nat)(l:List ze)(w:World)(hn:l.length<=4611686018427387904)(h:zr w w.heap.size A 1 l.length (cellsOf zD l))(h':zr w w.heap.size A' 1 l.length (cellsOf zD l)):
 Calls prog 39 #[.slice A l.length c,.slice A' l.length c'] w fun e w'=>e=.returned (.bool true)/\Below w.heap.size w w':=by
 have hl1:∀x,(zD x).length=1:=fun _=>rfl;have HT:∀{X:Option Addr},zr w w.heap.size X 1 l.length (cellsOf zD l)->∀(k:Nat) (y:ze),l[k]? =some y->∃ba off,X=some ⟨ba,off,none⟩/\∀W:World,Below w.heap.size w W->W.cell? ⟨ba,off+k,none⟩=some (.string (bs y)):=fun hX k y hy=>by
  have hk:k<l.length:=(List.getElem?_eq_some_iff.1 hy).1;obtain⟨ba,off,e,hb,hc⟩:=hX.cell hl1 hk;refine⟨ba,off,e,fun W hW=>?_⟩;have h0:=hc k y hy 0 _ rfl;rw[zk2,zk3]at h0;exact(hW.cell (p:=⟨ba,off+k,none⟩) hb).trans h0
 have H:=za (HT h);have H':=za (HT h');clear h h' HT hl1;generalize hN:l.length=N at*;have HN:=za hN;clear hN;go_enter func39,ntmps39;go_wp2
 go_loopw [5] (fun i wr=>∃k:Nat,k<=N/\i=.int .i64 k/\Hid (Below w.heap.size w wr)) (fun i _=>N - (intOf i).toNat)
 case atStart=>exact⟨0,X1 _,rfl,zj⟩
 case round=>
  obtain⟨k,hk,rfl,hdr⟩:=hrel;by_cases hlt:k<N
  · obtain⟨x,hx⟩:∃x,l[k]? =some x:=⟨_,l0 kz⟩;obtain⟨ba,off,hA,hcc⟩:=H.out k x hx;obtain⟨ba',off',hA',hcc'⟩:=H'.out k x hx;have c0:=hcc _ hdr.out;have d0:=hcc' _ hdr.out;subst hA hA';generalize bs x=xb at*;have hltI:(k:Int)<(N:Int):=zb;have hNI:(N:Int)<=4611686018427387904:=zb;clear hcc hcc' hx;exact Bc
  · exact vp
theorem zbb(r s:Rm)(hd:r.d=s.d)(w:World)(hr:Z3 w r)(hs:Z3 w s)(z1:r.props.l.length<=1000000)(z2:r.tags.l.length<=1000000)(z3:r.links.l.length<=1000000)(z4:r.run.l.length<=1000000)(z5:r.load.l.length<=1000000):
 Calls prog 12 #[.agg (qb r),.agg (qb s)] w fun e w'=>e=.returned (.bool true)/\Below w.heap.size w w':=by
 obtain⟨pa,ix,⟨A1,c1,l1⟩,⟨A2,c2,l2⟩,⟨A3,c3,l3⟩,⟨A4,c4,l4⟩,⟨A5,c5,l5⟩,na,pr,ow,gr,mo⟩:=r;obtain⟨pa',ix',⟨B1,e1,m1⟩,⟨B2,e2,m2⟩,⟨B3,e3,m3⟩,⟨B4,e4,m4⟩,⟨B5,e5,m5⟩,na',pr',ow',gr',mo'⟩:=s;unfold Rm.d at hd;injection hd with h1 h2 h3 h4 h5 h6 h7 h8 h9 h10 h11 h12
 dsimp only at h1 h2 h3 h4 h5 h6 h7 h8 h9 h10 h11 h12 z1 z2 z3 z4 z5;subst h1 h2 h3 h4 h5 h6 h7 h8 h9 h10 h11 h12;unfold qb;dsimp only;obtain⟨w1,hw1⟩:∃w1,(w.alloc (.cells #[.string pa,.int .i64 ix,.slice A1 l1.length c1,.slice A2 l2.length c2,.slice A3 l3.length c3,.slice A4 l4.length c4,.slice A5 l5.length c5,.string na,.int .i64 pr,.string ow,.string gr,.int .i64 mo] qf)).alloc (.cells #[.string pa,.int .i64 ix,.slice B1 l1.length e1,.slice B2 l2.length e2,.slice B3 l3.length e3,.slice B4 l4.length e4,.slice B5 l5.length e5,.string na,.int .i64 pr,.string ow,.string gr,.int .i64 mo] qf)=w1:=⟨_,rfl⟩;have hb1:Below w.heap.size w w1:=Vl;have hr1:w1.heap[w.heap.size]? =some (.cells #[.string pa,.int .i64 ix,.slice A1 l1.length c1,.slice A2 l2.length c2,.slice A3 l3.length c3,.slice A4 l4.length c4,.slice A5 l5.length c5,.string na,.int .i64 pr,.string ow,.string gr,.int .i64 mo] qf (0,0)):=kh;have hr2:w1.heap[w.heap.size+1]? =some (.cells #[.string pa,.int .i64 ix,.slice B1 l1.length e1,.slice B2 l2.length e2,.slice B3 l3.length e3,.slice B4 l4.length e4,.slice B5 l5.length e5,.string na,.int .i64 pr,.string ow,.string gr,.int .i64 mo] qf (0,0)):=by
  rw[<-hw1];have:=i5 (w.alloc (.cells #[.string pa,.int .i64 ix,.slice A1 l1.length c1,.slice A2 l2.length c2,.slice A3 l3.length c3,.slice A4 l4.length c4,.slice A5 l5.length c5,.string na,.int .i64 pr,.string ow,.string gr,.int .i64 mo] qf)) (.cells #[.string pa,.int .i64 ix,.slice B1 l1.length e1,.slice B2 l2.length e2,.slice B3 l3.length e3,.slice B4 l4.length e4,.slice B5 l5.length e5,.string na,.int .i64 pr,.string ow,.string gr,.int .i64 mo] qf);exact QN
 have HC1:=za (fun(W:World) (hW:Below w1.heap.size w1 W)=>(hW.block _ (zh hr1)).trans hr1);have HC2:=za (fun(W:World) (hW:Below w1.heap.size w1 W)=>(hW.block _ (zh hr2)).trans hr2);have HA:=za (fun(W:World) (hW:Below w1.heap.size w1 W)=>zeL A1 B1 c1 e1 l1 W zb (hr.pr.keep (bt hb1 hW)).row.row (hs.pr.keep (bt hb1 hW)).row.row);have HT2:=za (fun(W:World) (hW:Below w1.heap.size w1 W)=>NM A2 B2 c2 e2 l2 W zb (hr.tg.keep (bt hb1 hW)).row.row (hs.tg.keep (bt hb1 hW)).row.row);have HT3:=za (fun(W:World) (hW:Below w1.heap.size w1 W)=>NM A3 B3 c3 e3 l3 W zb (hr.lk.keep (bt hb1 hW)).row.row (hs.lk.keep (bt hb1 hW)).row.row);have HT4:=za (fun(W:World) (hW:Below w1.heap.size w1 W)=>NM A4 B4 c4 e4 l4 W zb (hr.rn.keep (bt hb1 hW)).row.row (hs.rn.keep (bt hb1 hW)).row.row);have HT5:=za (fun(W:World) (hW:Below w1.heap.size w1 W)=>NM A5 B5 c5 e5 l5 W zb (hr.ld.keep (bt hb1 hW)).row.row (hs.ld.keep (bt hb1 hW)).row.row);have HW1:=za hw1;have HB1:=za hb1;clear hr hs hr1 hr2 hb1 hw1 z1 z2 z3 z4 z5;generalize hn1:l1.length=n1 at*;generalize hn2:l2.length=n2 at*;generalize hn3:l3.length=n3 at*;generalize hn4:l4.length=n4 at*;generalize hn5:l5.length=n5 at*;clear hn1 hn2 hn3 hn4 hn5;have hl2:w.heap.size+1<w1.heap.size:=zh (HC2.out w1 zj);go_enter func12,ntmps12;go_wp2_with (first
  |(go_at_call 38;rw[HW1.out];refine(HA.out _ zj).mono ?_;rintro e w2 ⟨rfl,hb2⟩;have HB2:=za hb2;have ax3:=zd (j:=3) (HC1.out _ HB2.out) rfl;have ay3:=zd (j:=3) (HC2.out _ HB2.out) rfl;clear hb2)
  |(go_at_call 39;(with_reducible refine(HT2.out _ HB2.out).mono ?_);rintro e w3 ⟨rfl,hb3⟩;have HB3:=za (bt HB2.out hb3);have bx4:=zd (j:=4) (HC1.out _ HB3.out) rfl;have by4:=zd (j:=4) (HC2.out _ HB3.out) rfl;clear hb3)
  |(go_at_call 39;(with_reducible refine(HT3.out _ HB3.out).mono ?_);rintro e w4 ⟨rfl,hb4⟩;have HB4:=za (bt HB3.out hb4);have cx5:=zd (j:=5) (HC1.out _ HB4.out) rfl;have cy5:=zd (j:=5) (HC2.out _ HB4.out) rfl;clear hb4)
  |(go_at_call 39;(with_reducible refine(HT4.out _ HB4.out).mono ?_);rintro e w5 ⟨rfl,hb5⟩;have HB5:=za (bt HB4.out hb5);have dx6:=zd (j:=6) (HC1.out _ HB5.out) rfl;have dy6:=zd (j:=6) (HC2.out _ HB5.out) rfl;clear hb5)
  |(go_at_call 39;(with_reducible refine(HT5.out _ HB5.out).mono ?_);rintro e w6 ⟨rfl,hb6⟩;have HB6:=za (bt HB5.out hb6);have fx7:=zd (j:=7) (HC1.out _ HB6.out) rfl;have fy7:=zd (j:=7) (HC2.out _ HB6.out) rfl;have fx8:=zd (j:=8) (HC1.out _ HB6.out) rfl;have fy8:=zd (j:=8) (HC2.out _ HB6.out) rfl;have fx9:=zd (j:=9) (HC1.out _ HB6.out) rfl;have fy9:=zd (j:=9) (HC2.out _ HB6.out) rfl;have fx10:=zd (j:=10) (HC1.out _ HB6.out) rfl;have fy10:=zd (j:=10) (HC2.out _ HB6.out) rfl;have fx11:=zd (j:=11) (HC1.out _ HB6.out) rfl;have fy11:=zd (j:=11) (HC2.out _ HB6.out) rfl;clear hb6))
 go_ret;exact⟨rfl,bt HB1.out HB6.out⟩
end
end Go.Proofs.YtecbmndgpepkcaaGreatDoor

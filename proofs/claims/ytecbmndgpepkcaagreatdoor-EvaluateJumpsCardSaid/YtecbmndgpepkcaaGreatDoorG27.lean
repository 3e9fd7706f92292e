/- Contracts of functions that the law reaches, and what they rest on; each under the premises that it names. Shortened by a program. -/
import Derived.Test.YtecbmndgpepkcaaGreatDoorG21
import Derived.Test.YtecbmndgpepkcaaGreatDoorG26
import Derived.Defers
import Derived.Test.YtecbmndgpepkcaaGreatDoorG17
namespace Go.Proofs.YtecbmndgpepkcaaGreatDoor
open Tryz
set_option maxHeartbeats 8000000
set_option maxRecDepth 100000
section
structure zJ(d:Dr)(k:Nat):Prop where
 pa:ZR d.props
 pl:d.props.length<=64
 pv:∀x∈d.props,x.val.size<=1000000
 ta:d.tags.Pairwise (· < ·)
 tl:d.tags.length<=16
 la:d.links.Pairwise (· < ·)
 ll:d.links.length<=16
 rl:d.run.length<=16
 da:d.load.Pairwise (· < ·)
 dl:d.load.length<=16
 cl:d.closed.length<=k
 nm:d.nam.size<=1000000
 rs:d.res.size<=1000000
 ca:0<=d.calls/\d.calls<=k
 tk:0<=d.ticks/\d.ticks<=1000*k
 tv:∀s∈d.tags,s.length<=1000000
theorem zJ.mono{d:Dr}{k k':Nat}(h:zJ d k)(hk:k<=k'):zJ d k':=
 ⟨h.pa,h.pl,h.pv,h.ta,h.tl,h.la,h.ll,h.rl,h.da,h.dl,Nat.le_trans h.cl hk,h.nm,h.rs,⟨h.ca.1,by have:=h.ca.2;omega⟩,⟨h.tk.1,by have:=h.tk.2;omega⟩,h.tv⟩
theorem zJ.props{d:Dr}{k:Nat}(h:zJ d k){l:List At}(h1:ZR l)(h2:l.length<=64)(h3:∀x∈l,x.val.size<=1000000):zJ {d with props:=l} k:={h with pa:=h1,pl:=h2,pv:=h3}
theorem zJ.tags{d:Dr}{k:Nat}(h:zJ d k){l:List ze}(h1:l.Pairwise (· < ·))(h2:l.length<=16)(h3:∀s∈l,s.length<=1000000):zJ {d with tags:=l} k:={h with ta:=h1,tl:=h2,tv:=h3}
theorem zJ.links{d:Dr}{k:Nat}(h:zJ d k){l:List ze}(h1:l.Pairwise (· < ·))(h2:l.length<=16):zJ {d with links:=l} k:={h with la:=h1,ll:=h2}
theorem zJ.env{d:Dr}{k:Nat}(h:zJ d k){n v:ByteArray}(hv:v.size<=1000000):zJ (XR d n v) k:=by
 unfold XR
 split
 · exact h
 · rename_i hb;refine h.props (Rs h.pa _) ?_ (fun x hx=>?_)
   · cases hf:zR d.props (L n)with
     |some y=>exact Nat.le_trans (zjq h.pa (x:=⟨n,v⟩) hf) h.pl
     | none=>
       have h1:=I5 d.props ⟨n,v⟩;have h2:¬64<=d.props.length:=fun e=>hb (by unfold vC;rw[hf,decide_eq_true e];simp);omega
   · rcases Nk hx with h1|⟨rfl,_⟩
     · exact h.pv x h1
     · exact hv
theorem Ay(s:ByteArray):(s.extract 0 256).size<=256:=by rw[<-zC,Q8];simp;omega
theorem zJ.more{d:Dr}{k:Nat}(h:zJ d k){n v:ByteArray}(hv:v.size<=1000000):zJ (VK d n v) k:=by
 unfold VK
 split
 · exact h
 · split
   · exact h.env (Nat.le_trans (Ay _) zi)
   · exact h.env hv
theorem zJ.tag{d:Dr}{k:Nat}(h:zJ d k)(op:Int){v:ByteArray}(hv:v.size<=1000000):zJ (Ku d op v) k:=by
 have hl:(L v).length<=1000000:=by rw[zC];exact hv
 unfold Ku
 split
 · split
   · exact h.tags zl zl (fun s hs=>by rw[List.mem_singleton.1 hs];exact hl)
   split
   · refine h.tags (NS h.ta _ _) (Td h.tl) (fun s hs=>?_);rcases zhF hs with h1|rfl
     · exact h.tv s h1
     · exact hl
   split
   · exact h.tags (FY h.ta _) (Nat.le_trans (jc _ _) h.tl) (fun s hs=>h.tv s (by unfold YN at hs;exact(List.mem_filter.1 hs).1))
   · exact h
 · exact h
theorem zeh(op:Int){l:List ze}(w:ByteArray)(h:l.Pairwise (· < ·)/\l.length<=16):(Zn op l w).Pairwise (· < ·)/\(Zn op l w).length<=16:=by
 unfold Zn
 split
 · split
   · exact yv
   · exact⟨NS h.1 _ _,Td h.2⟩
 · exact h
theorem L1(op:Int):∀(ws:List ByteArray) {l:List ze},(l.Pairwise (· < ·)/\l.length<=16)->(ws.foldl (Zn op) l).Pairwise (· < ·)/\(ws.foldl (Zn op) l).length<=16
 | [],_,h=>h
 |w::ws,_,h=>L1 op ws (zeh op w h)
theorem zJ.link{d:Dr}{k:Nat}(h:zJ d k)(op:Int)(v:ByteArray):zJ (Xw d op v) k:=by
 unfold Xw;have h1:(if op=3∨op=6 then []else d.links).Pairwise (· < ·)/\(if op=3∨op=6 then []else d.links).length<=16:=by
  split
  · exact Pw
  · exact⟨h.la,h.ll⟩
 have h2:=L1 op (Ym v) h1;exact h.links h2.1 h2.2
theorem zJ.run{d:Dr}{k:Nat}(h:zJ d k)(op:Int)(v:ByteArray):zJ (Jc d op v) k:=by
 have h1:(if op=4 then d.run else []).length<=16:=by
  split
  · exact h.rl
  · exact Je
 have h2:(if Ug v&&decide ((if op=4 then d.run else []).length<16)then(if op=4 then d.run else [])++[L v]else(if op=4 then d.run else [])).length<=16:=by
  generalize (if op=4 then d.run else [])=l at*;by_cases hl:l.length<16
  · split
    · rw[List.length_append,List.length_singleton];omega
    · exact h1
  · rw[decide_eq_false hl,Bool.and_false,if_neg zi];exact h1
 exact{h with rl:=h2}
theorem zab{P:Dr->Prop}(d:Dr)(t:Tm)(v:ByteArray)(h1:P (VK d t.name v))(h2:P (XR d t.name v))(h3:P (Ku d t.op v))(h4:XY (L v)=true->P {d with nam:=v})(h5:P (Xw d t.op v))(h6:ZT (L v)=true->P {d with own:=v})(h7:ZT (L v)=true->P {d with grp:=v})
 (h8:UM (L v)=true->P {d with mode:=Gd (L v)})(h9:P (Jc d t.op v))(h10:Ug v=true->P {d with load:=Qw d.load (L v) 16})(h11:∀n,Vv (L v)=some n->P {d with prio:=n})(h0:P d):P (Z0 d t v):=by
 unfold Z0;by_cases k6:t.key=6
 · rw[if_pos k6];by_cases o4:t.op=4
   · rw[if_pos o4];exact h1
   · rw[if_neg o4];exact h2
 rw[if_neg k6];by_cases k7:t.key=7
 · rw[if_pos k7];exact h3
 rw[if_neg k7];by_cases k15:t.key=15
 · rw[if_pos k15];by_cases b:XY (L v)=true
   · rw[if_pos b];exact h4 b
   · exact GW
 rw[if_neg k15];by_cases k16:t.key=16
 · rw[if_pos k16];exact h5
 rw[if_neg k16];by_cases k17:t.key=17
 · rw[if_pos k17];by_cases b:ZT (L v)=true
   · rw[if_pos b];exact h6 b
   · exact GW
 rw[if_neg k17];by_cases k18:t.key=18
 · rw[if_pos k18];by_cases b:ZT (L v)=true
   · rw[if_pos b];exact h7 b
   · exact GW
 rw[if_neg k18];by_cases k19:t.key=19
 · rw[if_pos k19];by_cases b:UM (L v)=true
   · rw[if_pos b];exact h8 b
   · exact GW
 rw[if_neg k19];by_cases k20:t.key=20
 · rw[if_pos k20];exact h9
 rw[if_neg k20];by_cases k21:t.key=21
 · rw[if_pos k21];by_cases b:Ug v=true
   · rw[if_pos b];exact h10 b
   · exact GW
 rw[if_neg k21];by_cases k22:t.key=22
 · rw[if_pos k22];cases hp:Vv (L v)with
   |none=>exact h0
   |some n=>exact h11 n hp
 rw[if_neg k22];exact h0
theorem zJ.asg{d:Dr}{k:Nat}(h:zJ d k)(t:Tm){v:ByteArray}(hv:v.size<=1000000):zJ (Z0 d t v) k:=
 zab (P:=fun d=>zJ d k) d t v (h.more hv) (h.env hv) (h.tag _ hv) (fun _=>{h with nm:=hv}) (h.link _ _) (fun _=>{h with}) (fun _=>{h with}) (fun _=>{h with}) (h.run _ _) (fun _=>{h with da:=NS h.da _ _,dl:=Td h.dl}) (fun _ _=>{h with}) h
theorem zJ.apply{d:Dr}{k:Nat}(h:zJ d k)(t:Tm){v:ByteArray}(hv:v.size<=1000000):zJ (U2 d t v) (k+1):=by
 unfold U2
 split
 · exact h.mono (Nat.le_succ _)
 split
 · have h1:=h.asg t hv;have h2:=h1.mono (Nat.le_succ k);refine{h2 with cl:=?_};have:=h1.cl;rw[List.length_append,List.length_singleton];omega
 · exact(h.asg t hv).mono (Nat.le_succ _)
theorem zJ.import_{k:Nat}:∀(l:List At) {d:Dr},zJ d k->(∀x∈l,x.val.size<=1000000)->zJ (Uy d l) k
 | [],_,h,_=>h
 | x::l,d,h,hl=>by
   unfold Uy;rw[List.foldl_cons];refine zJ.import_ l ?_ (fun y hy=>hl y (List.mem_cons_of_mem _ hy))
   split
   · exact h.env (hl x (List.mem_cons_self ..))
   · exact h
theorem Tb(c:Zm)(x:Ev)(s:ByteArray):(QC c x s).size<=256:=by
 unfold QC Ue
 split
 · exact Ay _
 · exact Je
theorem zJ.tick{x:Ev}{k:Nat}(h:zJ x.dr k){t:Int}(h0:0<=t)(h1:t<=1000):zJ (Q3 x t).dr (k+1):=by
 have h2:=h.mono (Nat.le_succ k);refine{h2 with ca:=?_,tk:=?_}
 · have:=h.ca;refine⟨?_,?_⟩
   · show 0<=x.dr.calls+1;omega
   · show x.dr.calls+1<=((k+1:Nat):Int);omega
 · have:=h.tk;refine⟨?_,?_⟩
   · show 0<=x.dr.ticks+t;omega
   · show x.dr.ticks+t<=1000*((k+1:Nat):Int);omega
def RY(l:List Hp)(lim:Int):Prop:=1<=lim/\lim<=1000/\∀x∈l,0<=x.ticks/\x.out.size<=256
theorem IW{l:List Hp}{lim:Int}(h:RY l lim)(calls:Int)(cmd:ByteArray):0<=(Za l lim calls cmd).2.1/\(Za l lim calls cmd).2.1<=lim/\(Za l lim calls cmd).1.size<=256/\(16<=calls->(Za l lim calls cmd).2.1=0):=by
 have h1:=h.1;unfold Za
 split
 · exact vM
 · rename_i hc
   split
   · exact vM
   · rename_i x hx;have hm:=h.2.2 x (List.mem_of_find?_eq_some hx)
     split
     · exact⟨by show 0<=lim;omega,Int.le_refl _,Nat.zero_le _,fun e=>absurd e hc⟩
     · rename_i ht
       split
       · exact⟨hm.1,by show x.ticks<=lim;omega,Nat.zero_le _,fun e=>absurd e hc⟩
       · exact⟨hm.1,by show x.ticks<=lim;omega,hm.2,fun e=>absurd e hc⟩
structure KX(i:NK):Prop where
 hp:RY i.hps i.lim
 par:∀x∈i.par,x.val.size<=1000000
 bui:∀n,∀x∈Yg n i.tree i.ix,x.val.size<=1000000
theorem FR:∀(m:Nat) (d:UInt8) (s:ze),∀x∈Lib.splitK [d] 0 m s,x.length<=s.length
 |0,d,s,x,hx=>Et
 | m + 1,d,s,x,hx=>by
   rw[Lib.splitK]at hx
   split at hx
   · rw[List.mem_singleton]at hx;rw[hx];exact zo
   · rcases List.mem_cons.1 hx with rfl|hx
     · exact N1
     · have:=FR m d _ x hx;exact Gh
theorem zcY(s:ByteArray)(c:UInt8):∀x∈Zb c s,x.size<=s.size:=by
 intro x hx;have h:=Lib.splitB_data ⟨#[c]⟩ 0 (Lib.countB s ⟨#[c]⟩) s;have h3:(Zb c s).map L=Lib.splitK [c] 0 (Lib.countB s ⟨#[c]⟩) (L s):=h;have h1:=FR (Lib.countB s ⟨#[c]⟩) c (L s) (L x) Ln;rwa [zC,zC]at h1
theorem jV(s t:ze):(Lib.cut s t).1.length<=s.length/\(Lib.cut s t).2.1.length<=s.length:=by
 unfold Lib.cut
 split
 · exact⟨by show(List.take _ _).length<=_;rw[List.length_take];omega,by show(List.drop _ _).length<=_;rw[List.length_drop];omega⟩
 · exact⟨zo,Nat.zero_le _⟩
theorem DT{o:ByteArray}:∀x∈YE o,x.name.size<=o.size/\x.val.size<=o.size:=by
 intro x hx;obtain⟨p,hp,he⟩:=List.mem_filterMap.1 hx;have h1:=zcY o 59 p hp;have h2:=jV (L p) [61];rw[zC]at h2;unfold Jm at he
 split at he
 · injection he with he
   subst he;exact⟨FE,FE⟩
 · cases he
theorem zbX{o:ByteArray}(ho:o.size<=256):∀x∈YE o,x.val.size<=1000000:=fun x hx=>by have:=(DT x hx).2;omega
theorem CR{c:Zm}(hi:KX c.i)(l:List Tm){x:Ev}{k:Nat}(h:zJ x.dr k)(t:Tm):zJ (qZ c l x t).1.dr (k+1):=by
 have hm:=h.mono (Nat.le_succ k);have hc:=IW hi.hp x.dr.calls (QC c x t.value);have h1000:=hi.hp.2.1;have ht:zJ (Q3 x (qL c x t.value).2.1).dr (k+1):=h.tick hc.1 (by have:=hc.2.1;unfold qL;omega);unfold qZ
 split
 · exact hm
 split
 · split
   · exact hm
   · split<;>exact hm
 split
 · exact{ht with rs:=Nat.le_trans hc.2.2.1 zi}
 split
 · unfold QN
   split
   · exact ht.import_ _ (zbX hc.2.2.1)
   split
   · split
     · exact hm
     · exact hm.import_ _ (fun x hx=>hi.par x (List.mem_filter.1 hx).1)
   split
   · exact hm.import_ _ (hi.bui _)
   · exact hm
 · exact hm
theorem Rz{c:Zm}(hi:KX c.i)(l:List Tm):∀(r:List Tm) {x:Ev} {k:Nat},zJ x.dr k->zJ (Qm c l r x).1.dr (k+r.length)
 | [],_,_,h=>h
 | t ::r,x,k,h=>by
   have h1:=CR hi l h t;have e:k+(t::r).length=k+1+r.length:=JV;rw[e];unfold Qm
   split
   · split
     · exact Rz hi l r h1
     · exact h1.mono zb
   · exact Rz hi l r (h.mono (Nat.le_succ k))
theorem DS{c:Zm}{x:Ev}{k:Nat}(h:zJ x.dr k)(t:Tm)(ht:t.value.size<=1000000):zJ (QJ c x t).dr (k+1):=by
 unfold QJ;refine h.apply t ?_
 split
 · exact ht
 · exact Nat.le_trans (Tb _ _ _) zi
theorem jX{c:Zm}:∀(r:List Tm) {x:Ev} {k:Nat},zJ x.dr k->(∀t∈r,t.value.size<=1000000)->zJ (r.foldl (QJ c) x).dr (k+r.length)
 | [],_,_,h,_=>h
 | t::r,x,k,h,ht=>by
   have h1:=jX (c:=c) r (DS (c:=c) h t (ht t (List.mem_cons_self ..))) (fun y hy=>ht y (List.mem_cons_of_mem _ hy));rw[List.foldl_cons,List.length_cons];exact h1.mono zb
theorem zcf{c:Zm}(hi:KX c.i){l:List Tm}(hl:∀t∈l,t.value.size<=1000000){x:Ev}{k:Nat}(h:zJ x.dr k):zJ (ZN c x l).1.dr (k+2*l.length):=by
 have h1:zJ (Qm c l l {x with ab:=c.dev,re:=false}).1.dr (k+l.length):=Rz hi l l (x:={x with ab:=c.dev,re:=false}) h;unfold ZN;dsimp only
 split
 · refine(jX _ h1 (fun t ht=>hl t (List.mem_filter.1 ht).1)).mono ?_;have:=List.length_filter_le (fun t:Tm=> !qA t.op) l;omega
 · exact h1.mono zb
end
section
open Go.RowKit
abbrev qM:TypeId:=34
abbrev ql:TypeId:=37
abbrev UY:TypeId:=116
structure Rm where
 path:ByteArray
 ix:Int
 props:Ls At
 tags:Ls ze
 links:Ls ze
 run:Ls ze
 load:Ls ze
 nam:ByteArray
 prio:Int
 own:ByteArray
 grp:ByteArray
 mode:Int
def Rm.d(r:Rm):Rc:=⟨r.path,r.ix,r.props.l,r.tags.l,r.links.l,r.run.l,r.load.l,r.nam,r.prio,r.own,r.grp,r.mode⟩
def qm(r:Rm):Array Value:=#[.string r.path,.int .i64 r.ix,.slice r.props.A r.props.l.length r.props.c,.slice r.tags.A r.tags.l.length r.tags.c,.slice r.links.A r.links.l.length r.links.c,.slice r.run.A r.run.l.length r.run.c,.slice r.load.A r.load.l.length r.load.c,.string r.nam,.int .i64 r.prio,.string r.own,.string r.grp,.int .i64 r.mode]
structure Xg(w:World)(r:Rm):Prop where
 pr:zB 2 zu w r.props
 tg:zB 1 zF w r.tags
 lk:zB 1 zF w r.links
 rn:zB 1 zF w r.run
 ld:zB 1 zF w r.load
theorem Xg.keep{w w':World}{r:Rm}(h:Xg w r)(hb:Below w.heap.size w w'):Xg w' r:=⟨h.pr.keep hb,h.tg.keep hb,h.lk.keep hb,h.rn.keep hb,h.ld.keep hb⟩
theorem Nl(r:Rm):(qm r).all (·.oneCell')=true:=by simp[qm,Value.oneCell']
theorem zcy:(prog.info? 34).map (·.size)=some 12:=zg
theorem zcX:(prog.info? 37).map (·.size)=some 17:=zg
def Qt(x:Hp):List Value:=[.string x.cmd,.string x.out,.bool x.fails,.int .i64 x.ticks]
structure zt where
 act:ByteArray
 tA:Option Addr
 tc:Nat
 tds:List Dv
 ix:Int
 r:Rm
 hs:Ls Hp
 lim:Int
 dev:Dv
 org:ByteArray
 pnt:ByteArray
def zt.i(c:zt):NK:=⟨c.act,zm c.tds,c.ix,c.r.props.l,c.hs.l,c.lim⟩
def zt.c(c:zt):Zm:=⟨c.i,c.dev.d,c.org,c.pnt⟩
structure Em where
 dr:Dm
 ab:Dv
 re:Bool
def Em.e(x:Em):Ev:=⟨x.dr.d,x.ab.d,x.re⟩
def zM(c:zt):Array Value:=#[.string c.act,.slice c.tA c.tds.length c.tc,.int .i64 c.ix,.string c.r.path,.int .i64 c.r.ix,.slice c.r.props.A c.r.props.l.length c.r.props.c,.slice c.r.tags.A c.r.tags.l.length c.r.tags.c,.slice c.r.links.A c.r.links.l.length c.r.links.c,.slice c.r.run.A c.r.run.l.length c.r.run.c,.slice c.r.load.A c.r.load.l.length c.r.load.c,.string c.r.nam,.int .i64 c.r.prio,.string c.r.own,.string c.r.grp,.int .i64 c.r.mode,.slice c.hs.A c.hs.l.length c.hs.c,.int .i64 c.lim]
def qN(c:zt)(x:Em):Array Value:=#[.slice x.dr.props.A x.dr.props.l.length x.dr.props.c,.slice x.dr.tags.A x.dr.tags.l.length x.dr.tags.c,.slice x.dr.links.A x.dr.links.l.length x.dr.links.c,.slice x.dr.run.A x.dr.run.l.length x.dr.run.c,.slice x.dr.load.A x.dr.load.l.length x.dr.load.c,.string x.dr.nam,.int .i64 x.dr.prio,.string x.dr.own,.string x.dr.grp,.int .i64 x.dr.mode,.string x.dr.res,.int .i64 x.dr.calls,.int .i64 x.dr.ticks,.slice x.dr.closed.A x.dr.closed.l.length x.dr.closed.c,.string c.act,.slice c.tA c.tds.length c.tc,.int .i64 c.ix,.string c.r.path,.int .i64 c.r.ix,.slice c.r.props.A c.r.props.l.length c.r.props.c,.slice c.r.tags.A c.r.tags.l.length c.r.tags.c,.slice c.r.links.A c.r.links.l.length c.r.links.c,.slice c.r.run.A c.r.run.l.length c.r.run.c,.slice c.r.load.A c.r.load.l.length c.r.load.c,.string c.r.nam,.int .i64 c.r.prio,.string c.r.own,.string c.r.grp,.int .i64 c.r.mode,.slice c.hs.A c.hs.l.length c.hs.c,.int .i64 c.lim,.int .i64 c.dev.ix,.int .i64 c.dev.pa,.string c.dev.nam,.string c.dev.og,.string c.dev.sb,.string c.dev.dr,.string c.dev.al,.int .i64 c.dev.kd,.int .i64 c.dev.nb,.slice c.dev.ats.A c.dev.ats.l.length c.dev.ats.c,.string c.org,.string c.pnt,.int .i64 x.ab.ix,.int .i64 x.ab.pa,.string x.ab.nam,.string x.ab.og,.string x.ab.sb,.string x.ab.dr,.string x.ab.al,.int .i64 x.ab.kd,.int .i64 x.ab.nb,.slice x.ab.ats.A x.ab.ats.l.length x.ab.ats.c,.bool x.re]
theorem zg5(c:zt):(zM c).all (·.oneCell')=true:=by simp[zM,Value.oneCell']
structure ZH(w:World)(c:zt):Prop where
 tr:qk w c.tA c.tds
 rc:Xg w c.r
 hp:zB 4 Qt w c.hs
theorem ZH.keep{w w':World}{c:zt}(h:ZH w c)(hb:Below w.heap.size w w'):ZH w' c:=⟨h.tr.keep hb,h.rc.keep hb,h.hp.keep hb⟩
def zt.as(c:zt):List (Option Addr):=[c.tA,c.r.props.A,c.r.tags.A,c.r.links.A,c.r.run.A,c.r.load.A,c.hs.A,c.dev.ats.A]++c.tds.map fun d=>d.ats.A
def Em.as(x:Em):List (Option Addr):=x.dr.as++[x.ab.ats.A]
def Y6(g:Nat)(l:List (Option Addr)):Prop:=∀a∈l,∀p,a=some p->p.block≠g
structure zO(w:World)(g:Nat)(c:zt)(x:Em):Prop where
 box:w.heap[g]? =some (.cells (qN c x) UY (0,0))
 inp:ZH w c
 dev:ZQ w c.dev
 dr:Yc w x.dr
 ab:ZQ w x.ab
 offc:Y6 g c.as
 offx:Y6 g x.as
theorem zO.keep{w w':World}{g:Nat}{c:zt}{x:Em}(h:zO w g c x)(hb:Below w.heap.size w w'):zO w' g c x:=⟨(hb.block _ (zh h.box)).trans h.box,h.inp.keep hb,h.dev.keep hb,h.dr.keep hb,h.ab.keep hb,h.offc,h.offx⟩
theorem QY{a:Option Addr}{g:Nat}{l:List (Option Addr)}(h:Y6 g l)(hm:a∈l):∀p,a=some p->some p.block≠some g:=fun p e k=>h a hm p e (zx k)
theorem qk.grown{w w':World}{A:Option Addr}{ds:List Dv}{g:Nat}(h:qk w A ds)(hg:w.grownBy w' (some g))(hA:∀p,A=some p->p.block≠g)(hd:∀d∈ds,∀p,d.ats.A=some p->p.block≠g):qk w' A ds:=
 ⟨h.row.grown hg (fun p e k=>hA p e (zx k)),fun d hm=>(h.inn d hm).grown hg (fun p e k=>hd d hm p e (zx k)),h.len,h.al⟩
theorem zt.mem{c:zt}{g:Nat}(h:Y6 g c.as):Y6 g [c.tA,c.r.props.A,c.r.tags.A,c.r.links.A,c.r.run.A,c.r.load.A,c.hs.A,c.dev.ats.A]/\∀d∈c.tds,∀p,d.ats.A=some p->p.block≠g:=
 ⟨fun a ha=>h a (List.mem_append_left _ ha),fun d hd=>h d.ats.A (List.mem_append_right _ (List.mem_map.2 ⟨d,hd,rfl⟩))⟩
theorem ZH.grown{w w':World}{c:zt}{g:Nat}(h:ZH w c)(hg:w.grownBy w' (some g))(ho:Y6 g c.as):ZH w' c:=by
 obtain⟨h1,h2⟩:=zt.mem ho;exact⟨h.tr.grown hg (h1 _ zl) h2,⟨h.rc.pr.grown hg (QY h1 zl),h.rc.tg.grown hg (QY h1 zl),h.rc.lk.grown hg (QY h1 zl),h.rc.rn.grown hg (QY h1 zl),h.rc.ld.grown hg (QY h1 zl)⟩,h.hp.grown hg (QY h1 zl)⟩
theorem Yc.grown{w w':World}{x:Dm}{g:Nat}(h:Yc w x)(hg:w.grownBy w' (some g))(ho:Y6 g x.as):Yc w' x:=
 ⟨h.pr.grown hg (QY ho Yu),h.tg.grown hg (QY ho Yu),h.lk.grown hg (QY ho Yu),h.rn.grown hg (QY ho Yu),h.ld.grown hg (QY ho Yu),h.cl.grown hg (QY ho Yu)⟩
theorem zO.set{w w5:World}{g:Nat}{c:zt}{x:Em}(h:zO w g c x)(hb:Below w.heap.size w w5)(y:Em)(hd:Yc w5 y.dr)(ha:ZQ w5 y.ab)(ho:Y6 g y.as):zO (w5.setRow g (qN c y)) g c y/\w.grownBy (w5.setRow g (qN c y)) (some g):=by
 have hg:=qK w5 g (qN c y);have hbx:=(hb.block _ (zh h.box)).trans h.box;have h1:=(zt.mem h.offc).1;have hyd:Y6 g y.dr.as:=fun a hm=>ho a (List.mem_append_left _ hm);refine⟨⟨setRow_heap _ _ _ _ _ _ hbx,(h.inp.keep hb).grown hg h.offc,(h.dev.keep hb).grown hg (QY h1 zl),hd.grown hg hyd,ha.grown hg (QY ho (List.mem_append_right _ zl)),h.offc,ho⟩,(zG hb _).trans hg⟩
theorem zdW{w w':World}{g:Nat}(h:w.grownBy w' (some g)){b:Nat}(hb:b<w.heap.size)(hn:b≠g):w'.heap[b]? =w.heap[b]?:=h.block b hb (fun e=>hn (zx e))
theorem AW{w w':World}{g B:Nat}(h:w.grownBy w' (some g))(hB:B<=g)(hs:B<=w.heap.size):Below B w w':=(Below.refl B w).grown h hs (fun j e=>by rw[<-zx e];exact hB)
structure YX(c:zt)(x:Em)(k:Nat):Prop where
 gd:zJ x.dr.d k
 kk:k<=100000
 ok:KX c.i
 dv:∀d∈zm c.tds,Xb d/\d.sb.size<=1000/\d.dr.size<=1000 /\ -9223372036854775808<=d.nb/\d.nb<=9223372036854775807/\∀a∈d.ats,a.val.size<=1000000
 wf:QM (zm c.tds)
 ix1: -9223372036854775808<=c.ix
 ix2:c.ix<=9223372036854775807
 dev:c.dev.d∈zm c.tds
 ab:x.ab.d∈zm c.tds
 org:c.org.size<=1000000
 pnt:c.pnt.size<=1000000
 hl:c.hs.l.length<=1000
 hc:∀y∈c.hs.l,y.cmd.size<=1000000
 act:c.act.size<=1000000
 pl:c.r.props.l.length<=1000
 pz:∀y∈c.r.props.l,y.name.size<=1000000
end
section
open Go.RowKit
theorem Qq.edLoad{B g:Nat}{y:Dm}{w:World}{l':List ze}{e:Ending}{w':World}(h:qq B w g y)(hi:Qq B y.load.A y.load.c y.load.l l' w e w'):∃A' c',e=.returned (.slice A' l'.length c')/\w'.cell? ⟨g,4,none⟩=some (.slice y.load.A y.load.l.length y.load.c)/\w'.frozen? ⟨g,4,none⟩=false/\zQ B g y w {y with load:=⟨A',c',l'⟩} (w'.setCell ⟨g,4,none⟩ (.slice A' l'.length c')):=by
 obtain⟨A',c',h1,h2,h3,h4⟩:=hi;have hq:=zQ.set_load h h3 h2 h4;have hmem:y.load.A∈y.as:=Yu;have hbox:w'.heap[g]? =some (.cells (zE y) XQ (0,0)):=(h3.block g (zh h.box) (fun e=>by
  obtain⟨p,e1,e2⟩:=ZJ e.symm;exact h.off _ hmem p e1 e2)).trans h.box
 exact⟨A',c',h1,(ZF hbox).2.2.2.2.1,qb hbox 4,hq⟩
structure F2(d:Dr):Prop where
 pl:d.props.length<=1000
 pa:ZR d.props
 pv:∀x∈d.props,x.val.size<=1000000
 tl:d.tags.length<=1000
 ta:d.tags.Pairwise (· < ·)
 ll:d.links.length<=1000
 la:d.links.Pairwise (· < ·)
 rl:d.run.length<=1000
 dl:d.load.length<=1000
 da:d.load.Pairwise (· < ·)
theorem zJ.edz{d:Dr}{k:Nat}(h:zJ d k):F2 d:=⟨TM,h.pa,h.pv,OG,h.ta,by have:=h.ll;omega,h.la,by have:=h.rl;omega,by have:=h.dl;omega,h.da⟩
def CV(d:Dr)(v:ByteArray):Dr:=if UM (L v)then{d with mode:=Gd (L v)}else d
theorem zf6(B g:Nat)(y:Dm)(s:ByteArray)(w:World)(h:qq B w g y)(hE:Env w)(hs:s.size<=1000000):
 Calls prog 170 #[.pointer (some ⟨g,0,none⟩),.string s] w (qx B g y w (CV y.d s)):=zbH B g y s w h hE hs
theorem ziL(B g:Nat)(y:Dm)(t:Tm)(v:ByteArray)(w:World)(h:qq B w g y)(hz:F2 y.d)(hE:Env w)(hB:nG<=B)(hv:v.size<=1000000):
 Calls prog 130 #[.pointer (some ⟨g,0,none⟩),qe t,.string v] w (qx B g y w (Z0 y.d t v)):=by
 obtain⟨ky,nmm,op,vl⟩:=t;obtain⟨w1,hw1⟩:∃w1,(w.alloc (.cells #[.int .i64 ky,.string nmm,.int .i64 op,.string vl] 52))=w1:=⟨_,rfl⟩;have hb1:Below w.heap.size w w1:=ZV;have hT:w1.heap[w.heap.size]? =some (.cells #[.int .i64 ky,.string nmm,.int .i64 op,.string vl] 52):=Qc;have c0:w1.cell? ⟨w.heap.size,0,none⟩=some (.int .i64 ky):=zd hT rfl;have c1:w1.cell? ⟨w.heap.size,1,none⟩=some (.string nmm):=zd hT rfl;have c2:w1.cell? ⟨w.heap.size,2,none⟩=some (.int .i64 op):=zd hT rfl;have HH:=za h;have HZ:=za hz;have HE:=za hE;have HB1:=za hb1;have HW1:=za hw1;have HV:=za hv;have HL:Hid (∀{d':Dr} {e:Ending} {W:World},qx B g y w1 d' e W->qx B g y w d' e W):=za fun h2=>qx.lift HH.out HB1.out h2;have HSame:Hid (∀W,Below w1.heap.size w1 W->qx B g y w y.d (.returned (.tuple #[])) W):=za fun W hW=>qx.same HH.out (bt HB1.out hW);have HF:Hid (∀W,Below w1.heap.size w1 W->qq B W g y):=za fun W hW=>HH.out.below (bt HB1.out hW);have e1:=(hb1.block _ (zh h.box)).trans h.box;clear h hz hE hb1 hT hw1 hv;unfold qe;dsimp only;by_cases hk:ky=6
 · skip
   by_cases h4:op=4
   · subst h4;have hA:Z0 y.d ⟨ky,nmm,4,vl⟩ v=VK y.d nmm v:=Vo;rw[hA];clear hA;subst hk;have HC:=za (zfU B g y nmm v w1 (HF.out w1 zk) HZ.out.pl HZ.out.pa HV.out HZ.out.pv);have c0:=c0;clear e1 HSame HF;go_enter func130,ntmps130;go_upto_region 1 with fail
     rw[HW1.out];go_wp2_with (go_at_call 165;refine HC.out.mono ?_;rintro e w2 hP;obtain⟨rfl,-⟩:=id hP;have HP:=za hP;clear hP)
     exact Ko
   · have hA:Z0 y.d ⟨ky,nmm,op,vl⟩ v=XR y.d nmm v:=by subst hk;unfold Z0;rw[if_pos rfl,if_neg h4]
     rw[hA];clear hA;subst hk;have HC:=za (RU B g y nmm v w1 (HF.out w1 zk) HZ.out.pl HZ.out.pa Nh);clear e1 HSame HF;go_enter func130,ntmps130;go_upto_region 1 with fail
     rw[HW1.out];go_wp2_with (go_at_call 159;refine HC.out.mono ?_;rintro e w2 hP;obtain⟨rfl,-⟩:=id hP;have HP:=za hP;clear hP)
     exact Ko
 have n6:¬ky=6:=hk;clear hk;by_cases hk:ky=7
 · skip
   have hA:Z0 y.d ⟨ky,nmm,op,vl⟩ v=Ku y.d op v:=Vo;rw[hA];clear hA;subst hk;have HC:=za (zjs B g y op v w1 (HF.out w1 zk) HZ.out.tl HZ.out.ta HV.out);clear e1 HSame HF;go_enter func130,ntmps130;go_upto_region 1 with fail
   rw[HW1.out];go_wp2_with (go_at_call 166;refine HC.out.mono ?_;rintro e w2 hP;obtain⟨rfl,-⟩:=id hP;have HP:=za hP;clear hP)
   exact Ko
 have n7:¬ky=7:=hk;clear hk;by_cases hk:ky=15
 · skip
   have hA:Z0 y.d ⟨ky,nmm,op,vl⟩ v=if XY (L v)then{y.d with nam:=v}else y.d:=Vo;rw[hA];clear hA;subst hk;have HC0:=Nq v w1 HV.out;have HSet:Hid (∀W,Below w1.heap.size w1 W->qx B g y w {y.d with nam:=v} (.returned (.tuple #[])) (W.setCell ⟨g,5,none⟩ (.string v))):=za fun W hW=>HL.out (((zQ.same (HF.out w1 zk) hW).trans (zQ.scalar (HF.out W hW) 5 (.string v) {y with nam:=v} rfl rfl ⟨(HF.out W hW).rows.pr,(HF.out W hW).rows.tg,(HF.out W hW).rows.lk,(HF.out W hW).rows.rn,(HF.out W hW).rows.ld,(HF.out W hW).rows.cl,(HF.out W hW).rows.ne⟩)).p rfl);have HFz:Hid (∀W,Below w1.heap.size w1 W->W.cell? ⟨g,5,none⟩=some (.string y.nam)/\W.frozen? ⟨g,5,none⟩=false):=za fun W hW=>by
    have hb:=(HF.out W hW).box;exact⟨zd hb rfl,qb hb 5⟩
   clear e1 HF;cases hv:XY (L v)with
   | true=>
     rw[hv]at HC0;have HC:=za HC0;clear HC0 hv;rw[if_pos rfl];go_enter func130,ntmps130;go_upto_region 1 with fail
     rw[HW1.out];go_wp2_with (go_at_call 167;refine HC.out.mono ?_;rintro e w2 ⟨rfl,hb2⟩;have HB2:=za hb2;obtain⟨q5,f5⟩:=HFz.out w2 hb2;clear hb2)
     refine bodyPost_ret (v:=.tuple #[]) (results_none rfl _ _ _) rfl ?_;exact HSet.out w2 HB2.out
   | false=>
     rw[hv]at HC0;have HC:=za HC0;clear HC0 hv;rw[if_neg zi];go_enter func130,ntmps130;go_upto_region 1 with fail
     rw[HW1.out];go_wp2_with (go_at_call 167;refine HC.out.mono ?_;rintro e w2 ⟨rfl,hb2⟩;have HB2:=za hb2;obtain⟨q5,f5⟩:=HFz.out w2 hb2;clear hb2)
     refine bodyPost_ret (v:=.tuple #[]) (results_none rfl _ _ _) rfl ?_;exact HSame.out w2 HB2.out
 have n15:¬ky=15:=hk;clear hk;by_cases hk:ky=16
 · skip
   have hA:Z0 y.d ⟨ky,nmm,op,vl⟩ v=Xw y.d op v:=Vo;rw[hA];clear hA;subst hk;have HC:=za (Sl B g y op v w1 (HF.out w1 zk) HZ.out.ll HZ.out.la (HE.out.go HB1.out).toEnv0 hB HV.out);clear e1 HSame HF;go_enter func130,ntmps130;go_upto_region 1 with fail
   rw[HW1.out];go_wp2_with (go_at_call 168;refine HC.out.mono ?_;rintro e w2 hP;obtain⟨rfl,-⟩:=id hP;have HP:=za hP;clear hP)
   exact Ko
 have n16:¬ky=16:=hk;clear hk;by_cases hk:ky=17
 · skip
   have hA:Z0 y.d ⟨ky,nmm,op,vl⟩ v=if ZT (L v)then{y.d with own:=v}else y.d:=Vo;rw[hA];clear hA;subst hk;have HC0:=GQ v w1 Nh;have HSet:Hid (∀W,Below w1.heap.size w1 W->qx B g y w {y.d with own:=v} (.returned (.tuple #[])) (W.setCell ⟨g,7,none⟩ (.string v))):=za fun W hW=>HL.out (((zQ.same (HF.out w1 zk) hW).trans (zQ.scalar (HF.out W hW) 7 (.string v) {y with own:=v} rfl rfl ⟨(HF.out W hW).rows.pr,(HF.out W hW).rows.tg,(HF.out W hW).rows.lk,(HF.out W hW).rows.rn,(HF.out W hW).rows.ld,(HF.out W hW).rows.cl,(HF.out W hW).rows.ne⟩)).p rfl);have HFz:Hid (∀W,Below w1.heap.size w1 W->W.cell? ⟨g,7,none⟩=some (.string y.own)/\W.frozen? ⟨g,7,none⟩=false):=za fun W hW=>by
    have hb:=(HF.out W hW).box;exact⟨zd hb rfl,qb hb 7⟩
   exact Cu
 have n17:¬ky=17:=hk;clear hk;by_cases hk:ky=18
 · skip
   have hA:Z0 y.d ⟨ky,nmm,op,vl⟩ v=if ZT (L v)then{y.d with grp:=v}else y.d:=Vo;rw[hA];clear hA;subst hk;have HC0:=GQ v w1 Nh;have HSet:Hid (∀W,Below w1.heap.size w1 W->qx B g y w {y.d with grp:=v} (.returned (.tuple #[])) (W.setCell ⟨g,8,none⟩ (.string v))):=za fun W hW=>HL.out (((zQ.same (HF.out w1 zk) hW).trans (zQ.scalar (HF.out W hW) 8 (.string v) {y with grp:=v} rfl rfl ⟨(HF.out W hW).rows.pr,(HF.out W hW).rows.tg,(HF.out W hW).rows.lk,(HF.out W hW).rows.rn,(HF.out W hW).rows.ld,(HF.out W hW).rows.cl,(HF.out W hW).rows.ne⟩)).p rfl);have HFz:Hid (∀W,Below w1.heap.size w1 W->W.cell? ⟨g,8,none⟩=some (.string y.grp)/\W.frozen? ⟨g,8,none⟩=false):=za fun W hW=>by
    have hb:=(HF.out W hW).box;exact⟨zd hb rfl,qb hb 8⟩
   exact Cu
 have n18:¬ky=18:=hk;clear hk;by_cases hk:ky=19
 · skip
   have hA:Z0 y.d ⟨ky,nmm,op,vl⟩ v=CV y.d v:=Vo;rw[hA];clear hA;subst hk;have HC:=za (zf6 B g y v w1 (HF.out w1 zk) (HE.out.go HB1.out) HV.out);clear e1 HSame HF;go_enter func130,ntmps130;go_upto_region 1 with fail
   rw[HW1.out];go_wp2_with (go_at_call 170;refine HC.out.mono ?_;rintro e w2 hP;obtain⟨rfl,-⟩:=id hP;have HP:=za hP;clear hP)
   exact Ko
 have n19:¬ky=19:=hk;clear hk;by_cases hk:ky=20
 · skip
   have hA:Z0 y.d ⟨ky,nmm,op,vl⟩ v=Jc y.d op v:=Vo;rw[hA];clear hA;subst hk;have HC:=za (zhY B g y op v w1 (HF.out w1 zk) HZ.out.rl HV.out);clear e1 HSame HF;go_enter func130,ntmps130;go_upto_region 1 with fail
   rw[HW1.out];go_wp2_with (go_at_call 171;refine HC.out.mono ?_;rintro e w2 hP;obtain⟨rfl,-⟩:=id hP;have HP:=za hP;clear hP)
   exact Ko
 have n20:¬ky=20:=hk;clear hk;by_cases hk:ky=21
 · skip
   have hA:Z0 y.d ⟨ky,nmm,op,vl⟩ v=if Ug v then{y.d with load:=Qw y.d.load (L v) 16}else y.d:=Vo;rw[hA];clear hA;subst hk;have HC0:=fun W=>F4 v W Nh;have h1:=HF.out w1 zk;have HPut:=za (Pi y.load.A y.load.c y.load.l v 16 w1 h1.rows.ld (by have:=HZ.out.dl;have e:y.d.load=y.load.l:=rfl;rw[e]at this;omega) zb (Nat.le_trans h1.lo (Nat.le_of_lt (zh h1.box))) HZ.out.da);have q4:w1.cell? ⟨g,4,none⟩=some (.slice y.load.A y.load.l.length y.load.c):=zd h1.box rfl;have f4:=qb h1.box 4;have H1:=za h1;clear e1 h1;cases hv:Ug v with
   | true=>
     simp only[hv]at HC0;have HC:=za HC0;clear HC0 hv;rw[if_pos rfl];go_enter func130,ntmps130;go_upto_region 1 with fail
     rw[HW1.out];go_wp2_with (first|(go_at_call 172;refine(HC.out _).mono ?_;rintro e w2 ⟨rfl,rfl⟩)|(go_at_call 173;refine HPut.out.mono ?_;rintro e w5 hI;obtain⟨A5,c5,rfl,q5,f5,hP⟩:=Qq.edLoad H1.out hI;have HP:=za hP;clear hP hI))
     refine bodyPost_ret (v:=.tuple #[]) (results_none rfl _ _ _) rfl ?_;exact HL.out (HP.out.p rfl)
   | false=>
     simp only[hv]at HC0;have HC:=za HC0;clear HC0 hv;rw[if_neg zi];go_enter func130,ntmps130;go_upto_region 1 with fail
     rw[HW1.out];go_wp2_with (first|(go_at_call 172;refine(HC.out _).mono ?_;rintro e w2 ⟨rfl,rfl⟩))
     refine bodyPost_ret (v:=.tuple #[]) (results_none rfl _ _ _) rfl ?_;exact HSame.out _ zk
 have n21:¬ky=21:=hk;clear hk;by_cases hk:ky=22
 · skip
   have hA:Z0 y.d ⟨ky,nmm,op,vl⟩ v=U7 y.d v:=Vo;rw[hA];clear hA;subst hk;have HC:=za (zeP B g y v w1 (HF.out w1 zk) (HE.out.go HB1.out) HV.out);clear e1 HSame HF;go_enter func130,ntmps130;go_upto_region 1 with fail
   rw[HW1.out];go_wp2_with (go_at_call 174;refine HC.out.mono ?_;rintro e w2 hP;obtain⟨rfl,-⟩:=id hP;have HP:=za hP;clear hP)
   exact Ko
 have n22:¬ky=22:=hk;clear hk;have hA:Z0 y.d ⟨ky,nmm,op,vl⟩ v=y.d:=by unfold Z0;rw[if_neg n6,if_neg n7,if_neg n15,if_neg n16,if_neg n17,if_neg n18,if_neg n19,if_neg n20,if_neg n21,if_neg n22]
 rw[hA];clear hA e1 HF;go_enter func130,ntmps130;go_upto_region 1 with fail
 rw[HW1.out];go_wp2;refine bodyPost_ret (v:=.tuple #[]) (results_none rfl _ _ _) rfl ?_;exact HSame.out w1 zk
end
section
open Go.RowKit Go.Shelf
instance:Inhabited Hp:=⟨⟨⟨#[]⟩,⟨#[]⟩,false,0⟩⟩
theorem za5(cmd:ByteArray)(B:Nat)(w:World)(hs:cmd.size<=1000000)(hB:B<w.heap.size)(h0:w.cell? ⟨B,0,none⟩=some (.string cmd))(l:List Hp)(hl:∀x∈l,x.cmd.size<=1000000)(W:World)(hb:Below w.heap.size w W)(x:Hp)(hx:x∈l):
 Calls prog 153 #[.agg #[.string x.cmd,.string x.out,.bool x.fails,.int .i64 x.ticks],.pointer (some ⟨B,0,none⟩)] W fun e w'=>e=.returned (.bool (zS (L x.cmd) (L cmd)))/\Below w.heap.size w w':=by
 have c0:W.cell? ⟨B,0,none⟩=some (.string cmd):=(hb.cell (p:=⟨B,0,none⟩) hB).trans h0;have hBW:B<W.heap.size:=Nat.lt_of_lt_of_le hB hb.size;have hne:B≠W.heap.size:=zb;have HM:=za (fun W=>I0 x.cmd cmd W (by have:=hl x hx;omega) zb);have HB:=za (zV (o:=.cells #[.string x.cmd,.string x.out,.bool x.fails,.int .i64 x.ticks] 107) (Below.refl W.heap.size W));have HW:=za hb;clear hb h0 hl;generalize zS (L x.cmd) (L cmd)=b at*;go_enter func153,ntmps153;go_wp2_with (go_at_call 127;refine(HM.out _).mono ?_;rintro e w2 ⟨rfl,hb2⟩)
 go_ret;exact⟨rfl,bt HW.out (bt HB.out hb2)⟩
theorem jz{w wr:World}{B:Nat}{A:Option Addr}{l:List Hp}(h:zr w B A 4 l.length (cellsOf Qt l))(hb:Below B w wr){k:Nat}(hk:k<l.length):∃ba off,A=some ⟨ba,off,none⟩/\ba<B /\
 wr.cell? ⟨ba,off+k*4+0,none⟩=some (.string l[k].cmd)/\wr.cell? ⟨ba,off+k*4+1,none⟩=some (.string l[k].out)/\wr.cell? ⟨ba,off+k*4+2,none⟩=some (.bool l[k].fails)/\wr.cell? ⟨ba,off+k*4+3,none⟩=some (.int .i64 l[k].ticks):=by
 obtain⟨ba,off,e,hB,hc⟩:=h.cell (enc:=Qt) (fun _=>rfl) (by omega:0<l.length);refine⟨ba,off,e,hB,?_⟩;have hx:l[k]? =some l[k]:=List.getElem?_eq_getElem hk;have f:∀i v,(Qt l[k])[i]? =some v->wr.cell? ⟨ba,off+k*4+i,none⟩=some v:=fun i v hv=>by
  have h1:=hc k l[k] hx i v hv;rw[<-Nat.add_assoc]at h1;exact(hb.cell (p:=⟨ba,off+k*4+i,none⟩) hB).trans h1
 exact⟨f 0 _ rfl,f 1 _ rfl,f 2 _ rfl,f 3 _ rfl⟩
abbrev Hq:Type:={x:Hp //x.cmd.size<=1000000}
instance:Inhabited Hq:=⟨⟨⟨⟨#[]⟩,⟨#[]⟩,false,0⟩,zi⟩⟩
theorem Eb:∀(l:List Hp),(∀x∈l,x.cmd.size<=1000000)->∃zs:List Hq,zs.map (fun x=>x.1)=l
 | [],_=>⟨[],rfl⟩
 | x::l,h=>by
   obtain⟨zs,hz⟩:=Eb l (fun y hy=>h y (List.mem_cons_of_mem _ hy));exact yQ
theorem zdh(fv:Value)(w:World):Calls prog 152 #[.slice none 0 0,fv] w fun e w'=>e=.returned (.int .i64 (-1))/\w'=w:=by
 go_enter func152,ntmps152;exact NU
theorem Ni(cmd:ByteArray)(B:Nat)(y:Ls Hp)(w:World)(hy:zB 4 Qt w y)(hl:y.l.length<=1000)(hc:∀x∈y.l,x.cmd.size<=1000000)(hs:cmd.size<=1000000)(hB:B<w.heap.size)(h0:w.cell? ⟨B,0,none⟩=some (.string cmd)):
 Calls prog 152 #[.slice y.A y.l.length y.c,.func (.func 153) #[] #[.pointer (some ⟨B,0,none⟩)]] w fun e w'=>((∃(k:Nat) (hk:k<y.l.length),e=.returned (.int .i64 k)/\(y.l.find? fun x=>zS (L x.cmd) (L cmd))=some y.l[k])∨(e=.returned (.int .i64 (-1))/\(y.l.find? fun x=>zS (L x.cmd) (L cmd))=none))/\Below w.heap.size w w':=by
 obtain⟨A,c,l⟩:=y;dsimp only at hl hc⊢;cases A with
 | none=>
   have h0:l=[]:=by
    rcases Nat.eq_zero_or_pos l.length with e|e
    · exact List.length_eq_zero_iff.1 e
    · obtain⟨_,_,e2,_⟩:=hy.row.row.at_ e;cases e2
   subst h0;have hcz:c=0:=hy.nil rfl;rw[hcz];exact(zdh _ w).mono fun _ _ ⟨h1,h2⟩=>⟨Or.inr ⟨h1,rfl⟩,by rw[h2];exact zk⟩
 | some a=>
   obtain⟨ea,hlt⟩:=hy.row.pl a rfl;have hr:=hy.row.row;dsimp only at hr;rw[ea]at hr⊢;obtain⟨zs,hzs⟩:=Eb l hc;have hzl:zs.length=l.length:=by rw[<-hzs,List.length_map]
   have hP:PredBelow prog 153 #[.pointer (some ⟨B,0,none⟩)] (fun x:Hq=>.agg (Qt x.1).toArray) (fun x:Hq=>zS (L x.1.cmd) (L cmd)) w:=fun W x hb=>za5 cmd B w hs hB h0 [x.1] (fun z hz=>CX) W hb x.1 (List.mem_singleton.2 rfl);have h:=AnyQ.slices_IndexFunc (ρ:=AB) (P:=prog) zho 4 (by exact isAgg107) (by exact sizeOf107) (fun x:Hq=>Qt x.1) (fun _=>rfl) (fun x:Hq=>zS (L x.1.cmd) (L cmd)) 153 #[.pointer (some ⟨B,0,none⟩)] (fun _ _=>rfl) a.block a.off l.length c zs w hP zb zb hlt (fun j hj i v hv=>by
    obtain⟨b,off,e,hb,hcc⟩:=hr.cell (enc:=Qt) (fun _=>rfl) (by omega:0<l.length);injection e with e
    injection e with e3 e4
    rw[e3,e4,Nat.add_assoc];refine hcc j zs[j]!.1 ?_ i v hv;rw[getElem!_pos zs j hj,<-hzs,List.getElem?_map,List.getElem?_eq_getElem hj];rfl)
   have ht:zs.take l.length=zs:=by rw[<-hzl,List.take_length]
   rw[ht]at h;refine h.mono ?_;rintro e w' ⟨h1,h2⟩;refine⟨?_,h2⟩;have hff:(l.find? fun x=>zS (L x.cmd) (L cmd))=(zs.find? fun x=>zS (L x.1.cmd) (L cmd)).map (·.1):=by
    rw[<-hzs,List.find?_map];rfl
   rcases yZ (fun x:Hq=>zS (L x.1.cmd) (L cmd)) zs with⟨k,x,hx,hi,hf⟩|⟨hi,hf⟩
   · left;have hk:=(List.getElem?_eq_some_iff.1 hx).1;refine⟨k,zb,by rw[h1,hi],?_⟩;rw[hff,hf];show some x.1=_;have e1:l[k]? =some x.1:=by rw[<-hzs,List.getElem?_map,hx];rfl
     rw[List.getElem?_eq_getElem zb]at e1;exact e1.symm
   · right;exact⟨by rw[h1,hi],by rw[hff,hf];rfl⟩
theorem zcr(E O:Nat)(u:FrameMode)(w:World)(h0:w.cell? ⟨E,0,none⟩=some (.int .i64 0)):
 CallsD prog 151 #[.pointer (some ⟨E,0,none⟩),.pointer (some ⟨O,0,none⟩)] u w fun e u' w'=>u'=u/\(e=.returned (.tuple #[])/\w'=w):=by
 go_enter_d func151,ntmps151
 go_wp2
 go_end0
 exact Kq
theorem BZ(E O:Nat)(ev:Int)(s:ByteArray)(u:FrameMode)(w:World)(h0:w.cell? ⟨E,0,none⟩=some (.int .i64 ev))(hv:¬ev=0)(h1:w.cell? ⟨O,0,none⟩=some (.string s))(hf:w.frozen? ⟨O,0,none⟩=false):
 CallsD prog 151 #[.pointer (some ⟨E,0,none⟩),.pointer (some ⟨O,0,none⟩)] u w fun e u' w'=>u'=u/\(e=.returned (.tuple #[])/\w'=w.setCell ⟨O,0,none⟩ (.string ⟨#[]⟩)):=by
 have hb:(ev==0)=false:=by simpa using hv
 go_enter_d func151,ntmps151
 go_wp2
 go_end0
 exact Kq
end
section
open Go.RowKit Go.Shelf
theorem RZ{W:World}{O E:Nat}{s:ByteArray}{ev:Int}(hne:O≠E)(p1:W.cell? ⟨O,0,none⟩=some (.string s))(p2:W.cell? ⟨E,0,none⟩=some (.int .i64 ev))(u1:W.frozen? ⟨O,0,none⟩=false):
 ((W.setCell ⟨O,0,none⟩ (.string s)).setCell ⟨E,0,none⟩ (.int .i64 ev)).drew.cell? ⟨O,0,none⟩=some (.string s)/\((W.setCell ⟨O,0,none⟩ (.string s)).setCell ⟨E,0,none⟩ (.int .i64 ev)).drew.frozen? ⟨O,0,none⟩=false/\((W.setCell ⟨O,0,none⟩ (.string s)).setCell ⟨E,0,none⟩ (.int .i64 ev)).drew.cell? ⟨E,0,none⟩=some (.int .i64 ev):=
 ⟨(World.cell?_setCell_other _ _ _ _ (fun e=>by injection e with e;exact hne e.symm)).trans (World.cell?_setCell_same _ _ _ p1),((World.frozen?_setCell ..).trans (World.frozen?_setCell ..)).trans u1,World.cell?_setCell_same _ _ _ ((World.cell?_setCell_other _ _ _ _ (fun e=>by injection e with e;exact hne e)).trans p2)⟩
theorem Mx(R:ByteArray×Int×Int)(w:World):∀(tmps:Array Value) (W:World) (ev tk:Int) (s:ByteArray),tmps.getD 8 undef=.pointer (some ⟨w.heap.size+1,0,none⟩)->tmps.getD 9 undef=.int .i64 tk->tmps.getD 10 undef=.pointer (some ⟨w.heap.size+2,0,none⟩)->W.cell? ⟨w.heap.size+1,0,none⟩=some (.string s)->W.frozen? ⟨w.heap.size+1,0,none⟩=false->W.cell? ⟨w.heap.size+2,0,none⟩=some (.int .i64 ev)->Below w.heap.size w W->R=(if ev=0 then s else⟨#[]⟩,tk,ev) ->
 bodyPostD prog Tryz.f120 (fun e w'=>e=.returned (.tuple #[.string R.1,.int .i64 R.2.1,.int .i64 R.2.2])/\Below w.heap.size w w') Exit.ret {tmps:=tmps,defers:=[{target:=Target.fn (Fn.func 151) #[.pointer (some ⟨w.heap.size+2,0,none⟩),.pointer (some ⟨w.heap.size+1,0,none⟩)],args:=#[]}]} W:=by
 intro tmps W ev tk s h8 h9 h10 hO hF hE hB hRR;have h8':tmps[8]?.getD undef=.pointer (some ⟨w.heap.size+1,0,none⟩):=by simpa using h8
 have h9':tmps[9]?.getD undef=.int .i64 tk:=by simpa using h9
 have h10':tmps[10]?.getD undef=.pointer (some ⟨w.heap.size+2,0,none⟩):=by simpa using h10
 refine leaves_cons (f:=151) (args:=#[.pointer (some ⟨w.heap.size+2,0,none⟩),.pointer (some ⟨w.heap.size+1,0,none⟩)]) zl (by simp[go_sem]) ?_;by_cases hev:ev=0
 · rw[hev]at hE;refine(zcr (w.heap.size+2) (w.heap.size+1) .returning _ hE).mono ?_;rintro e u' w'' ⟨rfl,rfl,rfl⟩;rw[hRR,if_pos hev];simp[Leaves,settle,results,results120,go_sem,hO,hE,h8',h9',h10',hev];exact hB
 · refine(BZ (w.heap.size+2) (w.heap.size+1) ev s .returning _ hE hev hO hF).mono ?_;rintro e u' w'' ⟨rfl,rfl,rfl⟩;have hO3:(W.setCell ⟨w.heap.size+1,0,none⟩ (.string ⟨#[]⟩)).cell? ⟨w.heap.size+1,0,none⟩=some (.string ⟨#[]⟩):=World.cell?_setCell_same _ _ _ hO;have hE3:(W.setCell ⟨w.heap.size+1,0,none⟩ (.string ⟨#[]⟩)).cell? ⟨w.heap.size+2,0,none⟩=some (.int .i64 ev):=by
    rw[World.cell?_setCell_other _ _ _ _ (fun e=>Zr)];exact hE
   have hBB3:Below w.heap.size w (W.setCell ⟨w.heap.size+1,0,none⟩ (.string ⟨#[]⟩)):=Zz hB zb;rw[hRR,if_neg hev];generalize W.setCell ⟨w.heap.size+1,0,none⟩ (.string ⟨#[]⟩)=W3 at*;simp[Leaves,settle,results,results120,go_sem,hO3,hE3,h8',h9',h10'];exact hBB3
end
section
open Go.RowKit Go.Shelf
theorem F9(y:Ls Hp)(lim calls:Int)(cmd:ByteArray)(w:World)(hy:zB 4 Qt w y)(hl:y.l.length<=1000)(hc:∀x∈y.l,x.cmd.size<=1000000)(hs:cmd.size<=1000000)
 (hno:¬16<=calls->y.l.find? (fun x=>zS (L x.cmd) (L cmd))=none):
 Calls prog 120 #[.slice y.A y.l.length y.c,.int .i64 lim,.int .i64 calls,.string cmd] w fun e w'=>e=.returned (.tuple #[.string (Za y.l lim calls cmd).1,.int .i64 (Za y.l lim calls cmd).2.1,.int .i64 (Za y.l lim calls cmd).2.2])/\Below w.heap.size w w':=by
 have hmf:∀(fn:Fn) (first cap:Array Value) (w:World),(Instr.makeFunc fn first cap).run prog w=.ok (.func fn first cap) w:=fun _ _ _ _=>rfl;obtain⟨w1,hw1⟩:∃w1,((w.alloc (.cells #[.string cmd] 9)).alloc (.cells #[.string ⟨#[]⟩] 9)).alloc (.cells #[.int .i64 0] 39)=w1:=⟨_,rfl⟩;obtain⟨hs1,k0,k1,k2,hb1⟩:=kV w (.cells #[.string cmd] 9) (.cells #[.string ⟨#[]⟩] 9) (.cells #[.int .i64 0] 39);rw[hw1]at hs1 k0 k1 k2 hb1;have HI:=za (Ni cmd w.heap.size y w1 (hy.keep hb1) hl hc hs zb (zd k0 rfl));obtain⟨R,hR⟩:∃R,Za y.l lim calls cmd=R:=⟨_,rfl⟩;rw[hR];have HB1:=za hb1;have HW1:=za hw1;have HK1:=za k1;have HK2:=za k2;have HS1:=za hs1;have HR:=za hR;have HY:=za hy;clear hw1 hs1 k0 k1 k2 hb1 hy hR;have c1:w1.cell? ⟨w.heap.size+1,0,none⟩=some (.string ⟨#[]⟩):=zd HK1.out rfl;have c2:w1.cell? ⟨w.heap.size+2,0,none⟩=some (.int .i64 0):=zd HK2.out rfl;have f1:=qb HK1.out 0;have f2:=qb HK2.out 0;have HEnd:=za (Mx R w);by_cases h16:16<=calls
 · have hRe:R=(⟨#[]⟩,0,144):=by rw[<-HR.out];unfold Za;rw[if_pos h16]
   have HRe:=za hRe;clear hRe
   go_enter_defers func120,ntmps120
   go_upto_region 1 with fail
   rw[HW1.out];go_wp2;refine HEnd.out _ _ 144 0 ⟨#[]⟩ rfl rfl rfl ?_ ?_ ?_ (Zz (Zz HB1.out zb) zb) HRe.out
   · rw[World.cell?_setCell_other _ _ _ _ (fun e=>Zr)];exact World.cell?_setCell_same _ _ _ c1
   · rw[World.frozen?_setCell,World.frozen?_setCell];exact f1
   · exact World.cell?_setCell_same _ _ _ ((World.cell?_setCell_other _ _ _ _ (fun e=>Zr)).trans c2)
 · have hpre:R=match y.l.find? (fun x=>zS (L x.cmd) (L cmd))with
    |none=>(⟨#[]⟩,0,143)
    |some x=>if lim<x.ticks then(⟨#[]⟩,lim,142)else if x.fails then(⟨#[]⟩,x.ticks,141)else(x.out,x.ticks,0):=by
    exact MU
   have Uh:=za hpre;clear hpre
   go_enter_defers func120,ntmps120
   go_upto_region 1 with fail
   rw[HW1.out];go_upto_region 5 with(go_at_call 152;refine HI.out.mono ?_;rintro e w2 ⟨h2,hb2⟩;have H2:=za h2;have HB2:=za hb2;rcases h2 with⟨k,hk,rfl,hf⟩|⟨rfl,hf⟩)
   · exact absurd hf (by rw[hno zb];simp)
   · have Qa:=Uh.out;rw[hf]at Qa;have HP2:=za Qa;have hcc1:=(HB2.out.block _ (zh HK1.out)).trans HK1.out;have hcc2:=(HB2.out.block _ (zh HK2.out)).trans HK2.out;have d1:w2.cell? ⟨w.heap.size+1,0,none⟩=some (.string ⟨#[]⟩):=zd hcc1 rfl;have d2:w2.cell? ⟨w.heap.size+2,0,none⟩=some (.int .i64 0):=zd hcc2 rfl;have g1:=qb hcc1 0;have g2:=qb hcc2 0;clear Qa hcc1 hcc2 hf c1 c2 f1 f2 hc;go_wp2;refine HEnd.out _ _ 143 0 ⟨#[]⟩ rfl rfl rfl ?_ ?_ ?_ (Zz (Zz (bt HB1.out HB2.out) zb) zb) HP2.out
     · rw[World.cell?_setCell_other _ _ _ _ (fun e=>Zr)];exact World.cell?_setCell_same _ _ _ d1
     · rw[World.frozen?_setCell,World.frozen?_setCell];exact g1
     · exact World.cell?_setCell_same _ _ _ ((World.cell?_setCell_other _ _ _ _ (fun e=>Zr)).trans d2)
end
section
open Go.RowKit
abbrev Ud:TypeId:=144
abbrev Q9:TypeId:=146
def K5(t:Tm):Value:=.iface (if qA t.op then Ud else Q9) (qe t)
theorem zhK(parts:Array (Nat×Value)):Instr.build Ud parts=Zu Ud parts:=UV
theorem BD(parts:Array (Nat×Value)):Instr.build Q9 parts=Zu Q9 parts:=UV
theorem zfm(t:Tm)(W:World):(Zu Ud #[(0,.agg #[.int .i64 t.key,.string t.name,.int .i64 t.op,.string t.value])]).run prog W=.ok (.agg #[.int .i64 t.key,.string t.name,.int .i64 t.op,.string t.value]) W:=Xl
theorem zfh(t:Tm)(W:World):(Zu Q9 #[(0,.agg #[.int .i64 t.key,.string t.name,.int .i64 t.op,.string t.value])]).run prog W=.ok (.agg #[.int .i64 t.key,.string t.name,.int .i64 t.op,.string t.value]) W:=Xl
theorem FF(W:World)(v:Value):(Instr.typeAssert (.iface Ud v) 20 Ud true).run prog W=.ok (.tuple #[v,.bool true]) W:=zg
theorem zhP(W:World)(v:Value):(Instr.typeAssert (.iface Q9 v) 20 Q9 true).run prog W=.ok (.tuple #[v,.bool true]) W:=zg
theorem zeA(W:World)(v:Value):(Instr.typeAssert (.iface Q9 v) 20 Ud true).run prog W=.ok (.tuple #[.agg #[.int .i64 0,.string ⟨#[]⟩,.int .i64 0,.string ⟨#[]⟩],.bool false]) W:=zg
attribute [local go_sem ↓] zhK BD
theorem zbW(t:Tm)(w:World):Calls prog 73 #[qe t] w fun e w'=>e=.returned (K5 t)/\Below w.heap.size w w':=by
 have HM0:=TW t (w.alloc (.cells #[.int .i64 t.key,.string t.name,.int .i64 t.op,.string t.value] 52));obtain⟨ky,nmm,op,vl⟩:=t;have hc:=fun(W:World)=>zfm ⟨ky,nmm,op,vl⟩ W;have hg:=fun(W:World)=>zfh ⟨ky,nmm,op,vl⟩ W;unfold K5;unfold qe at*;dsimp only at*;have hb1:=zI w (.cells #[.int .i64 ky,.string nmm,.int .i64 op,.string vl] 52);obtain⟨w1,hw1⟩:∃w1,w.alloc (.cells #[.int .i64 ky,.string nmm,.int .i64 op,.string vl] 52)=w1:=⟨_,rfl⟩;have hr1:w1.heap[w.heap.size]? =some (.cells #[.int .i64 ky,.string nmm,.int .i64 op,.string vl] 52 (0,0)):=Qc;rw[hw1]at HM0 hb1;have HM:=za HM0;have HB1:=za hb1;have HW1:=za hw1;have HR1:=za hr1;clear HM0 hb1 hw1;have c0:=zd (j:=0) hr1 rfl;have c1:=zd (j:=1) hr1 rfl;have c2:=zd (j:=2) hr1 rfl;have c3:=zd (j:=3) hr1 rfl;clear hr1;cases hm:qA op with
 | true=>
   rw[hm]at HM;rw[if_pos rfl];clear hm;go_enter func73,ntmps73;go_upto_region 1 with fail
   rw[HW1.out];go_wp2_with (go_at_call 90;refine HM.out.mono ?_;rintro e w2 ⟨rfl,hb2⟩;have HB2:=za hb2;(have hr2:=(hb2.block _ (zh HR1.out)).trans HR1.out);have d0:=zd (j:=0) hr2 rfl;have d1:=zd (j:=1) hr2 rfl;have d2:=zd (j:=2) hr2 rfl;have d3:=zd (j:=3) hr2 rfl;have hc2:=hc w2;clear hr2 hb2 c0 c1 c2 c3 hc hg)
   exact Mr
 | false=>
   rw[hm]at HM;rw[if_neg zl];clear hm;go_enter func73,ntmps73;go_upto_region 1 with fail
   rw[HW1.out];go_wp2_with (go_at_call 90;refine HM.out.mono ?_;rintro e w2 ⟨rfl,hb2⟩;have HB2:=za hb2;(have hr2:=(hb2.block _ (zh HR1.out)).trans HR1.out);have d0:=zd (j:=0) hr2 rfl;have d1:=zd (j:=1) hr2 rfl;have d2:=zd (j:=2) hr2 rfl;have d3:=zd (j:=3) hr2 rfl;have hg2:=hg w2;clear hr2 hb2 c0 c1 c2 c3 hc hg)
   exact Mr
end
section
open Go.RowKit
theorem C2(b u:Bool)(f:Value)(w:World):(Instr.field 184 (.agg #[.bool b,.bool u,f]) 1).run prog w=.ok (.bool u) w:=zg
theorem Dq(t:Tm)(w:World):Calls prog 93 #[qe t] w fun e w'=>e=.returned (.bool (qO t))/\Below w.heap.size w w':=by
 have hO:=Tp t (w.alloc (.cells #[.int .i64 t.key,.string t.name,.int .i64 t.op,.string t.value] 52));rw[Ta]at hO;have HO:=za hO;clear hO;unfold qe at HO⊢;generalize Z4 t=b at*;generalize qO t=u at*;generalize Ub t=f at*;have hfl:=C2 b u f;go_enter func93,ntmps93;exact Lu
theorem Sb(v s:ByteArray)(B:Nat)(w:World)(hp:v.size<=4611686018427387904)(hs:s.size<=4611686018427387904)(hc:w.cell? ⟨B,3,none⟩=some (.string v)):
 Calls prog 126 #[.string s,.pointer (some ⟨B,0,none⟩)] w fun e w'=>e=.returned (.bool (zS (L v) (L s)))/\Below w.heap.size w w':=by
 have HM:=za (fun W=>I0 v s W hp hs);generalize zS (L v) (L s)=b at*;go_enter func126,ntmps126;go_wp2_with (go_at_call 127;refine(HM.out _).mono ?_;rintro e w2 ⟨rfl,hb2⟩)
 exact Ms
structure Eu(d:Dr):Prop where
 pl:d.props.length<=1000
 pv:∀x∈d.props,x.val.size<=1000000
 rs:d.res.size<=1000000
 tl:d.tags.length<=1000
 tv:∀s∈d.tags,s.length<=1000000
theorem zaW (t:Tm)(act:ByteArray)(x:Dm)(w:World)(hN:Yc w x)(hz:Eu x.d)(hp:t.value.size<=1000000)(ha:act.size<=1000000):
 Calls prog 97 #[qe t,.string act,.agg (zE x)] w fun e w'=>e=.returned (.bool (K7 t act x.d))/\Below w.heap.size w w':=by
 obtain⟨ky,nmm,op,vl⟩:=t;dsimp only at hp;have HM0:=fun W=>TW (⟨ky,nmm,op,vl⟩:Tm) W;have HHo:=za (fun(v:ByteArray) (hv:v.size<=1000000) W=>yB (⟨ky,nmm,op,vl⟩:Tm) v W QX zb);obtain⟨w1,hw1⟩:∃w1,(w.alloc (.cells #[.int .i64 ky,.string nmm,.int .i64 op,.string vl] 52)).alloc (.cells (zE x) qh)=w1:=⟨_,rfl⟩;have hb1:Below w.heap.size w w1:=IQ;have hT:w1.heap[w.heap.size]? =some (.cells #[.int .i64 ky,.string nmm,.int .i64 op,.string vl] 52):=kB;have hD:w1.heap[w.heap.size+1]? =some (.cells (zE x) qh):=by rw[<-hw1];have:=heap_alloc_new (w.alloc (.cells #[.int .i64 ky,.string nmm,.int .i64 op,.string vl] 52)) (.cells (zE x) qh);simpa using this
 have HSx:Hid (∀W,Below w1.heap.size w1 W->W.cell? ⟨w.heap.size,0,none⟩=some (.int .i64 ky)/\W.cell? ⟨w.heap.size,1,none⟩=some (.string nmm)/\W.cell? ⟨w.heap.size,2,none⟩=some (.int .i64 op)/\W.cell? ⟨w.heap.size,3,none⟩=some (.string vl)/\W.cell? ⟨w.heap.size+1,0,none⟩=some (.slice x.props.A x.props.l.length x.props.c)/\W.cell? ⟨w.heap.size+1,1,none⟩=some (.slice x.tags.A x.tags.l.length x.tags.c)/\W.cell? ⟨w.heap.size+1,10,none⟩=some (.string x.res)):=za fun W hW=>by
  have h1:=(hW.block _ (zh hT)).trans hT;have h2:=(hW.block _ (zh hD)).trans hD;exact⟨zd h1 rfl,zd h1 rfl,zd h1 rfl,zd h1 rfl,zd h2 rfl,zd h2 rfl,zd h2 rfl⟩
 have hN1:=hN.keep hb1;have HG:Hid (∀W,Below w1.heap.size w1 W->Calls prog 33 #[.slice x.props.A x.props.l.length x.props.c,.string nmm] W fun e w'=>e=.returned (.tuple #[.string (qF x.props.l (L nmm)),.bool (zR x.props.l (L nmm)).isSome])/\Below W.heap.size W w'):=za fun W hW=>by
  have h1:=KL x.props.A x.props.c x.props.l nmm W ((hN1.keep hW).pr.row.row) (by have:=hz.pl;have e:x.d.props=x.props.l:=rfl;rw[e]at this;omega);unfold Vd at h1;rw[Ey]at h1;exact h1
 have hav:(qF x.props.l (L nmm)).size<=1000000:=by
  unfold qF
  split
  · rename_i y hy;exact hz.pv y (List.mem_of_find?_eq_some hy)
  · exact Je
 have HC:Hid (∀W,Below w1.heap.size w1 W->Calls prog 125 #[.slice x.tags.A x.tags.l.length x.tags.c,.func (.func 126) #[] #[.pointer (some ⟨w.heap.size,0,none⟩)]] W fun e w'=>e=.returned (.bool (x.tags.l.any fun s=>zS (L vl) s))/\Below W.heap.size W w'):=za fun W hW=>by
  have hrow:=(hN1.keep hW).tg.row.row;have e1:cellsOf zF x.tags.l=(x.tags.l.map bs).map Value.string:=by
   generalize x.tags.l=l;exact Ha
  have e2:(x.tags.l.map bs).length=x.tags.l.length:=List.length_map ..;rw[e1,<-e2]at hrow;have hP:Om 126 #[.pointer (some ⟨w.heap.size,0,none⟩)] (fun s=>zS (L vl) (L s)) (x.tags.l.map bs) W:=fun s hs W2 hW2=>by
   obtain⟨s0,hs0,rfl⟩:=List.mem_map.1 hs;have hz1:(bs s0).size<=1000000:=by rw[qY];exact hz.tv s0 hs0
   exact(Sb vl (bs s0) w.heap.size W2 zb zb (HSx.out W2 (bt hW hW2)).2.2.2.1).mono fun _ _ ⟨h1,h2⟩=>⟨h1,bt hW2 h2⟩
  have h1:=E9 126 #[.pointer (some ⟨w.heap.size,0,none⟩)] (fun _ _=>rfl) (fun s=>zS (L vl) (L s)) x.tags.A x.tags.c (x.tags.l.map bs) W hrow (by rw[e2];have:=hz.tl;have e:x.d.tags=x.tags.l:=rfl;rw[e]at this;omega) hP;rw[e2]at h1;have e3:((x.tags.l.map bs).any fun s=>zS (L vl) (L s))=x.tags.l.any fun s=>zS (L vl) s:=by
   rw[List.any_map];simp only[Function.comp_def,qr]
  rw[e3]at h1;exact h1
 have hrs:=hz.rs;have hE:K7 ⟨ky,nmm,op,vl⟩ act x.d=(qA op&&(if ky=1 then YQ ⟨ky,nmm,op,vl⟩ act else if ky=6 then YQ ⟨ky,nmm,op,vl⟩ (qF x.props.l (L nmm))else if ky=13 then YQ ⟨ky,nmm,op,vl⟩ x.res else if ky=7 then(x.tags.l.any fun s=>zS (L vl) s)==(op==1)else false)):=rfl;rw[hE];have HB1:=za hb1;have HW1:=za hw1;clear hE hw1 hT hD hN1 hb1 hN hz;unfold qe zE at*;dsimp only at HM0;cases hm:qA op with
 | false=>
   simp only[hm]at HM0;rw[Bool.false_and];have HM:=za HM0;clear HM0 hm;go_enter func97,ntmps97;go_upto_region 1 with fail
   rw[HW1.out];obtain⟨c0,c1,c2,c3,d0,d1,d2⟩:=HSx.out w1 zk;go_wp2_with (go_at_call 90;refine(HM.out _).mono ?_;rintro e w2 ⟨rfl,hb2⟩;have HB2:=za hb2;clear hb2)
   exact Mr
 | true=>
   simp only[hm]at HM0;have HM:=za HM0;clear HM0 hm;rw[Bool.true_and];by_cases h1:ky=1
   · subst h1;rw[if_pos rfl];have HH:=za (HHo.out act ha);clear HHo HC HG;generalize YQ _ act=b at*;exact D5
   · rw[if_neg h1];by_cases h6:ky=6
     · subst h6;rw[if_pos rfl];have HH:=za (HHo.out _ hav);clear HHo HC;generalize YQ _ (qF x.props.l (L nmm))=b at*;generalize qF x.props.l (L nmm)=av at*;go_enter func97,ntmps97;go_upto_region 1 with fail
       rw[HW1.out];obtain⟨c0,c1,c2,c3,d0,d1,d2⟩:=HSx.out w1 zk;go_wp2_with (first|(go_at_call 90;refine(HM.out _).mono ?_;rintro e w2 ⟨rfl,hb2⟩;have HB2:=za hb2;obtain⟨e0,e1,e2,e3,f0,f1,f2⟩:=HSx.out w2 hb2;clear hb2 c0 c1 c2 c3 d0 d1 d2)|(go_at_call 33;refine(HG.out _ HB2.out).mono ?_;rintro e w3 ⟨rfl,hb3⟩;have HB3:=za (bt HB2.out hb3);obtain⟨g0,g1,g2,g3,k0,k1,k2⟩:=HSx.out w3 HB3.out;clear hb3 e0 e1 e2 e3 f0 f1 f2)|(go_at_call 117;refine(HH.out _).mono ?_;rintro e w4 ⟨rfl,hb4⟩))
       go_ret;exact⟨rfl,bt HB1.out (bt HB3.out hb4)⟩
     · rw[if_neg h6];by_cases h13:ky=13
       · subst h13;rw[if_pos rfl];have HH:=za (HHo.out _ hrs);clear HHo HC HG;have er:x.d.res=x.res:=rfl;rw[er]at HH;clear er;generalize YQ _ x.res=b at*;exact D5
       · rw [if_neg h13];by_cases h7:ky=7
         · subst h7;rw[if_pos rfl];clear HHo HG;generalize (x.tags.l.any fun s=>zS (L vl) s)=b at*;go_enter func97,ntmps97;go_upto_region 1 with fail
           rw[HW1.out];obtain⟨c0,c1,c2,c3,d0,d1,d2⟩:=HSx.out w1 zk;go_wp2_with (first|(go_at_call 90;refine(HM.out _).mono ?_;rintro e w2 ⟨rfl,hb2⟩;have HB2:=za hb2;obtain⟨e0,e1,e2,e3,f0,f1,f2⟩:=HSx.out w2 hb2;clear hb2 c0 c1 c2 c3 d0 d1 d2)|(go_at_call 125;refine(HC.out _ HB2.out).mono ?_;rintro e w3 ⟨rfl,hb3⟩;have HB3:=za (bt HB2.out hb3);obtain⟨g0,g1,g2,g3,k0,k1,k2⟩:=HSx.out w3 HB3.out;clear hb3 e0 e1 e2 e3 f0 f1 f2))
           all_goals
            go_ret;exact⟨ZD (by first|rfl|simp[*]),bt HB1.out HB3.out⟩
         · rw[if_neg h7];clear HHo HC HG;go_enter func97,ntmps97;go_upto_region 1 with fail
           rw[HW1.out];obtain⟨c0,c1,c2,c3,d0,d1,d2⟩:=HSx.out w1 zk;go_wp2_with (first|(go_at_call 90;refine(HM.out _).mono ?_;rintro e w2 ⟨rfl,hb2⟩;have HB2:=za hb2;obtain⟨e0,e1,e2,e3,f0,f1,f2⟩:=HSx.out w2 hb2;clear hb2 c0 c1 c2 c3 d0 d1 d2))
           exact Mr
end
section
open Go.RowKit
structure Ie(w:World)(A:Option Addr)(rl:List Rl):Prop where
 row:zr w w.heap.size A 3 rl.length (cellsOf Qr rl)
 inn:∀y∈rl,zr w w.heap.size y.tms.A 4 y.tms.l.length (cellsOf zN y.tms.l)
theorem Ie.keep{w w':World}{A:Option Addr}{rl:List Rl}(h:Ie w A rl)(hb:Below w.heap.size w w'):Ie w' A rl:=⟨(h.row.keep hb).up hb.size,fun y hy=>((h.inn y hy).keep hb).up hb.size⟩
def ZO(rl:List Rl):List (List Tm):=rl.map fun y=>y.tms.l
theorem Jw(rl:List Rl):(ZO rl).length=rl.length:=List.length_map ..
theorem IB(rl:List Rl){k:Nat}(hk:k<rl.length):(ZO rl)[k]? =some rl[k].tms.l:=by
 unfold ZO;rw[List.getElem?_map,List.getElem?_eq_getElem hk];rfl
def Z8(tt:ByteArray)(m:List Tm):Bool:=match Q4 m 23 with
 |some x=>L x==L tt
 |none=>false
theorem MJ(ls:List (List Tm))(a:Nat)(l:List Tm):Qe ls a l=match Q4 l 24 with
 |none=>a+1
 | some tt=>match(ls.drop (a+1)).findIdx? (Z8 tt)with
   |some i=>a+1+i
   |none=>a+1:=by
 unfold Qe;cases Q4 l 24<;>rfl
theorem BM{ls:List (List Tm)}{a:Nat}{l:List Tm}(h:Q4 l 24=none):Qe ls a l=a+1:=by rw[MJ,h]
theorem zhV{ls:List (List Tm)}{a:Nat}{l:List Tm}{tt:ByteArray}(h:Q4 l 24=some tt)(hn:∀j m,a<j->ls[j]? =some m->Z8 tt m=false):Qe ls a l=a+1:=by
 rw[MJ,h];have:(ls.drop (a+1)).findIdx? (Z8 tt)=none:=by
  rw[List.findIdx?_eq_none_iff];intro m hm;obtain⟨j,hj⟩:=List.mem_iff_getElem?.1 hm;rw[List.getElem?_drop]at hj;exact hn _ m zb hj
 dsimp only;rw[this]
theorem zfD{ls:List (List Tm)}{a k:Nat}{l m:List Tm}{tt:ByteArray}(h:Q4 l 24=some tt)(hk:a<k)(hm:ls[k]? =some m)(hl:Z8 tt m=true)(hn:∀j m,a<j->j<k->ls[j]? =some m->Z8 tt m=false):Qe ls a l=k:=by
 rw[MJ,h];have:(ls.drop (a+1)).findIdx? (Z8 tt)=some (k - (a+1)):=by
  have hlt:=(List.getElem?_eq_some_iff.1 hm).1;rw[List.findIdx?_eq_some_iff_getElem];refine⟨Y4,?_,fun j hj=>?_⟩
  · have e:(ls.drop (a+1))[k - (a+1)]? =some m:=by rw[List.getElem?_drop,show a+1+(k - (a+1))=k from by omega];exact hm
    rw[List.getElem?_eq_getElem Y4]at e;rw[zx e];exact hl
  · have hj2:a+1+j<ls.length:=by omega
    have e:(ls.drop (a+1))[j]? =some ls[a+1+j]:=by rw[List.getElem?_drop,List.getElem?_eq_getElem hj2]
    rw[List.getElem?_eq_getElem Y4]at e;rw[zx e];simpa using hn (a+1+j) _ zb zb (List.getElem?_eq_getElem hj2)
 dsimp only;rw[this];show a+1+(k - (a+1))=k;omega
theorem GY{w wr:World}{B:Nat}{A:Option Addr}{l:List Rl}(h:zr w B A 3 l.length (cellsOf Qr l))(hb:Below B w wr){k:Nat}(hk:k<l.length):∃ba off,A=some ⟨ba,off,none⟩/\wr.cell? ⟨ba,off+k*3,none⟩=some (.string l[k].file)/\wr.cell? ⟨ba,off+k*3+1,none⟩=some (.int .i64 l[k].line)/\wr.cell? ⟨ba,off+k*3+2,none⟩=some (.slice l[k].tms.A l[k].tms.l.length l[k].tms.c):=by
 obtain⟨ba,off,e,hB,hc⟩:=h.cell OV hk;have hx:l[k]? =some l[k]:=List.getElem?_eq_getElem hk;refine⟨ba,off,e,?_,?_,?_⟩
 · rw[hb.cell (p:=⟨ba,off+k*3,none⟩) hB];exact hc k _ hx 0 _ rfl
 · rw[hb.cell (p:=⟨ba,off+k*3+1,none⟩) hB];exact hc k _ hx 1 _ rfl
 · rw[hb.cell (p:=⟨ba,off+k*3+2,none⟩) hB];exact hc k _ hx 2 _ rfl
theorem Cj(y:Rl)(key:Int)(w:World)(hn:y.tms.l.length<=1000000)(h:zr w w.heap.size y.tms.A 4 y.tms.l.length (cellsOf zN y.tms.l)):
 Calls prog 76 #[.agg #[.string y.file,.int .i64 y.line,.slice y.tms.A y.tms.l.length y.tms.c],.int .i64 key] w fun e w'=>e=.returned (.tuple #[.string ((Q4 y.tms.l key).getD ⟨#[]⟩),.bool (Q4 y.tms.l key).isSome])/\Below w.heap.size w w':=
 zg6 y.file y.line y.tms.A y.tms.c y.tms.l key w hn h
theorem zgG (A:Option Addr)(c:Nat)(rl:List Rl)(a:Nat)(w:World)(hr:Ie w A rl)(ha:a<rl.length)(hl:rl.length<=1000000)(hz:∀y∈rl,y.tms.l.length<=1000000):
 Calls prog 58 #[.slice A rl.length c,.int .i64 a] w fun e w'=>e=.returned (.int .i64 (Qe (ZO rl) a rl[a].tms.l:Nat))/\Below w.heap.size w w':=by
 have HR:=za hr;have hai:(a:Int)<(rl.length:Int):=zb;obtain⟨ba,off,rfl,c0,c1,c2⟩:=GY hr.row zk ha;have HV0:=Cj rl[a] 24 w (hz _ (List.getElem_mem ha)) (hr.inn _ (List.getElem_mem ha));have HVk:=za (fun(y:Rl) (hy:y∈rl) (W:World) (hW:Below w.heap.size w W)=>Cj y 23 W (hz y hy) ((hr.keep hW).inn y hy));clear hr hz;cases hv:Q4 rl[a].tms.l 24 with
 | none=>
   rw[hv]at HV0;have HV:=za HV0;rw[BM hv];clear HV0 hv HVk;generalize rl[a].file=ff at*;generalize rl[a].line=ll at*;generalize rl[a].tms=tt at*;generalize rl.length=N at*;go_enter func58,ntmps58;go_wp2_with (go_at_call 76;refine HV.out.mono ?_;rintro e w2 ⟨rfl,hb2⟩)
   go_loopg [7,8,9] 0 (fun _ i _ _ wr=>i=.int .i64 ((a:Int)+1)/\Hid (Below w.heap.size w wr))
   case atStart=>exact⟨zP,za hb2⟩
   case round=>
    obtain⟨rfl,HB⟩:=hrel;go_wp2;go_ret;exact⟨VQ,HB.out⟩
 | some tg =>
   rw[hv]at HV0;have HV:=za HV0;have HN:=za (show Q4 rl[a].tms.l 24=some tg from hv);have HRest:=za HR.out.row;generalize hrl:rl[a].tms.l=tl24 at*;clear HV0 hv;generalize hff:rl[a].file=ff at*;generalize hll:rl[a].line=ll at*;generalize htA:rl[a].tms.A=ttA at*;generalize htc:rl[a].tms.c=ttc at*;clear hff hll htA htc hrl;obtain⟨N,hN⟩:∃N,rl.length=N:=⟨_,rfl⟩;have HNl:=za hN;rw[hN]at hai hl⊢;clear hN;go_enter func58,ntmps58;go_wp2_with (go_at_call 76;refine HV.out.mono ?_;rintro e w2 ⟨rfl,hb2⟩;have HB2:=za hb2;clear hb2)
   clear c0 c1 c2;go_loopg [7,8,9] (N - a) (fun gk i _ _ wr=>∃k:Nat,i=.int .i64 k/\a<k/\k<=N/\k+gk=N+1/\Hid (Below w.heap.size w wr)/\Hid (∀j m,a<j->j<k->(ZO rl)[j]? =some m->Z8 tg m=false))
   case atStart=>exact⟨a+1,zP,zb,zb,zb,HB2,za fun j m h1 h2=>zb⟩
   case round=>
    obtain⟨k,rfl,hk1,hk2,hkg,HB,HA⟩:=hrel;by_cases hlt:k<N
    · have hlt':k<rl.length:=by rw[HNl.out];exact hlt
      obtain⟨ba2,off2,e2,d0,d1,d2⟩:=GY HRest.out HB.out hlt';injection e2 with e2
      injection e2 with e3 e4
      subst e3 e4;have HC:=HVk.out rl[k] (List.getElem_mem hlt') wr HB.out;have hget:=IB rl hlt';have hlab:Z8 tg rl[k].tms.l=match Q4 rl[k].tms.l 23 with|some x=>L x==L tg|none=>false:=rfl
      cases hv:Q4 rl[k].tms.l 23 with
      | none=>
        rw[hv]at HC hlab;have HC2:=za HC;have HA2:Hid (∀j m,a<j->j<k+1->(ZO rl)[j]? =some m->Z8 tg m=false):=za fun j m h1 h2 h3=>by
         rcases Nat.lt_or_ge j k with h4|h4
         · exact HA.out j m h1 h4 h3
         · obtain rfl:j=k:=by omega
           rw[hget]at h3;rw[<-zx h3,hlab]
        clear HC hlab hget hv;exact LG
      | some xl=>
        rw[hv]at HC hlab;have HC2:=za HC;dsimp only at hlab;by_cases hq:xl.toList=tg.toList
        · have hlt2:Z8 tg rl[k].tms.l=true:=by rw[hlab,<-tl,<-tl,hq];simp
          have HEq:=za (zfD HN.out hk1 hget hlt2 HA.out);clear HC hlab hget hv hlt2;generalize rl[k].tms.l.length=n9 at*;generalize rl[k].file=ff at*;generalize rl[k].line=ll at*;generalize rl[k].tms.A=ttA at*;generalize rl[k].tms.c=ttc at*;go_wp2_with (go_at_call 76;refine HC2.out.mono ?_;rintro e w3 ⟨rfl,hb3⟩)
          go_ret;rw[HEq.out];exact⟨rfl,bt HB.out hb3⟩
        · have hqb:(xl.toList==tg.toList)=false:=by simpa using hq
          have hlt2:Z8 tg rl[k].tms.l=false:=by rw[hlab,<-tl,<-tl];exact hqb
          have HA2:Hid (∀j m,a<j->j<k+1->(ZO rl)[j]? =some m->Z8 tg m=false):=za fun j m h1 h2 h3=>by
           rcases Nat.lt_or_ge j k with h4|h4
           · exact HA.out j m h1 h4 h3
           · obtain rfl:j=k:=by omega
             rw[hget]at h3;rw[<-zx h3,hlt2]
          clear HC hlab hget hv hlt2;exact LG
    · obtain rfl:k=N:=by omega
      have HEq:=za (zhV (ls:=ZO rl) (a:=a) HN.out (fun j m h1 h3=>HA.out j m h1 (by
       have:=(List.getElem?_eq_some_iff.1 h3).1;rw[Jw]at this;have:=HNl.out;omega) h3))
      go_wp2;go_ret;rw[HEq.out];exact⟨VQ,HB.out⟩
end
section
def zaK(a b:Dr):Prop:=a.calls=b.calls/\a.ticks=b.ticks
def JF(lim:Int)(d:Dr):Prop:=∃k:Nat,(k:Int)<=d.calls/\k<=16/\0<=d.ticks/\d.ticks<=k*lim
theorem JF.same{lim:Int}{a b:Dr}(h:JF lim b)(e:zaK a b):JF lim a:=by
 obtain⟨k,h1,h2,h3,h4⟩:=h;exact⟨k,by rw[e.1];exact h1,h2,by rw[e.2];exact h3,by rw[e.2];exact h4⟩
theorem JF.tick{c:Zm}(hi:RY c.i.hps c.i.lim){x:Ev}(h:JF c.i.lim x.dr)(s:ByteArray):JF c.i.lim (Q3 x (qL c x s).2.1).dr:=by
 obtain⟨k,h1,h2,h3,h4⟩:=h;obtain⟨c1,c2,_,c4⟩:=IW hi x.dr.calls (QC c x s);have e1:(Q3 x (qL c x s).2.1).dr.calls=x.dr.calls+1:=rfl;have e2:(Q3 x (qL c x s).2.1).dr.ticks=x.dr.ticks+(Za c.i.hps c.i.lim x.dr.calls (QC c x s)).2.1:=rfl;generalize (Za c.i.hps c.i.lim x.dr.calls (QC c x s)).2.1=t at*;by_cases hc:16<=x.dr.calls
 · have ht:=c4 hc;exact⟨k,zb,h2,zb,zb⟩
 · refine⟨k+1,by rw[e1];push_cast;omega,zb,zb,?_⟩;have:((k+1:Nat):Int)*c.i.lim=k*c.i.lim+c.i.lim:=by push_cast;rw[Int.add_mul,Int.one_mul]
   omega
end
section
theorem EU(ls:List (List Tm))(a:Nat)(l:List Tm):a+1<=Qe ls a l:=by
 unfold Qe
 split
 · exact zo
 · split
   · omega
   · exact zo
theorem RG{c:Zm}{ls:List (List Tm)}:∀(f a:Nat) (x:Ev) (held:List Int),held.Pairwise (· < ·)->(∀z∈held,0<=z/\z<(a:Int))->(∀z∈held,z<(ls.length:Int)) ->
 (Zi c ls f a x held).2.Pairwise (· < ·)/\∀z∈(Zi c ls f a x held).2,0<=z/\z<(ls.length:Int)
 |0,_,_,_,h1,h2,h3=>⟨h1,fun z hz=>⟨(h2 z hz).1,h3 z hz⟩⟩
 | f + 1,a,x,held,h1,h2,h3=>by
   unfold Zi
   split
   · exact⟨h1,fun z hz=>⟨(h2 z hz).1,h3 z hz⟩⟩
   · rename_i l hl;have hlt:=(List.getElem?_eq_some_iff.1 hl).1
     split
     · have hn:=EU ls a l;refine RG f _ _ _ ?_ (fun z hz=>?_) (fun z hz=>?_)
       · rw[List.pairwise_append];refine⟨h1,List.pairwise_singleton _ _,fun u hu v hv=>?_⟩;obtain rfl:=List.mem_singleton.1 hv;exact(h2 u hu).2
       · rcases List.mem_append.1 hz with hz|hz
         · have:=h2 z hz;omega
         · obtain rfl:=List.mem_singleton.1 hz;omega
       · rcases List.mem_append.1 hz with hz|hz
         · exact h3 z hz
         · obtain rfl:=List.mem_singleton.1 hz;omega
     · exact RG f _ _ _ h1 (fun z hz=>by have:=h2 z hz;omega) h3
def CC(ls:List (List Tm))(held:List Int)(a:Nat):Prop:=∀i z,held[i]? =some z->∃(k:Nat) (l:List Tm),z=(k:Int)/\ls[k]? =some l/\match held[i+1]? with
 |some y=>((Qe ls k l:Nat):Int)<=y
 |none=>Qe ls k l<=a
theorem O6 {c:Zm}{ls:List (List Tm)}:∀(f a:Nat) (x:Ev) (held:List Int),CC ls held a->∃b,CC ls (Zi c ls f a x held).2 b
 |0,a,_,_,h=>⟨a,h⟩
 | f + 1, a,x,held,h=>by
   unfold Zi
   split
   · exact⟨a,h⟩
   · rename_i l hl
     split
     · refine O6 f _ _ _ (fun i z hz=>?_);rw[List.getElem?_append]at hz
       split at hz
       · rename_i hi;obtain⟨k,m,h1,h2,h3⟩:=h i z hz;refine⟨k,m,h1,h2,?_⟩;rw[List.getElem?_append];by_cases h4:i+1<held.length
         · rw[if_pos h4];rw[List.getElem?_eq_getElem h4]at h3⊢;exact h3
         · rw[if_neg h4];rw[List.getElem?_eq_none zb]at h3;have e:i+1 - held.length=0:=zb;rw[e];show((Qe ls k m:Nat):Int)<=(a:Int);have h3':Qe ls k m<=a:=h3;omega
       · rename_i hi;have e:i=held.length:=by
          rcases Nat.lt_or_ge (i - held.length) 1 with h4|h4
          · omega
          · rw[List.getElem?_eq_none (by simpa using h4)]at hz;cases hz
         subst e;rw[Nat.sub_self]at hz;injection hz with hz
         subst hz;refine⟨a,l,rfl,hl,?_⟩;rw[List.getElem?_eq_none zl];exact zo
     · exact O6 f _ _ _ (fun i z hz=>by
        obtain⟨k,m,h1,h2,h3⟩:=h i z hz;refine⟨k,m,h1,h2,?_⟩;cases h4:held[i+1]? with
        |some y=>rw[h4]at h3;exact h3
        |none=>rw[h4]at h3;exact Nat.le_succ_of_le h3)
end
end Go.Proofs.YtecbmndgpepkcaaGreatDoor

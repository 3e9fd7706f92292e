/- Contracts that the law rests on, each under the premises that it names. -/
import Derived.Test.YtecbmndgpepkcaaGreatDoorG45
namespace Go.Proofs.YtecbmndgpepkcaaGreatDoor
open Tryz
set_option maxHeartbeats 8000000
set_option maxRecDepth 100000
section
inductive Yt (c:qp) (ls:List (List Tm)):Nat->Ev->Dr->Prop
 |stop {a:Nat} {x:Ev} (h:ls[a]? =none):Yt c ls a x x.dr
 |miss {a:Nat} {x:Ev} {l:List Tm} {d:Dr} (h:ls[a]? =some l) (hr:(qw c x l).2=false) (hn:Yt c ls (a+1) (qw c x l).1 d):Yt c ls a x d
 |hit {a:Nat} {x:Ev} {l:List Tm} {d:Dr} (h:ls[a]? =some l) (hr:(qw c x l).2=true) (hn:Yt c ls (Qy ls a l) (qw c x l).1 d):Yt c ls a x d
theorem Oc{c:qp}{ls:List (List Tm)}:∀(f a:Nat) (x:Ev) (held:List Int),ls.length<a+f->Yt c ls a x (qS c ls f a x held).1.dr
 |0,a,x,_,h=>.stop (List.getElem?_eq_none zb)
 | f + 1,a,x,held,h=>by
   unfold qS
   split
   · rename_i hl;exact .stop hl
   · rename_i l hl
     split
     · rename_i hr;have:=DZ ls a l;exact .hit hl hr (Oc f _ _ _ zb)
     · rename_i hr;exact .miss hl (by simpa using hr) (Oc f _ _ _ zb)
theorem Yt.det{c:qp}{ls:List (List Tm)}{a:Nat}{x:Ev}{d:Dr}(h:Yt c ls a x d):∀{d'},Yt c ls a x d'->d=d':=by
 induction h with
 | stop h=>
   intro d' h';cases h' with
   |stop _=>rfl
   |miss h2 _ _=>rw[h]at h2;cases h2
   |hit h2 _ _=>rw[h]at h2;cases h2
 | miss h hr _ ih=>
   intro d' h';cases h' with
   |stop h2=>rw[h]at h2;cases h2
   |miss h2 _ h3=>rw[h]at h2;cases h2;exact ih h3
   |hit h2 h3 _=>rw[h]at h2;cases h2;rw[hr]at h3;cases h3
 | hit h hr _ ih=>
   intro d' h';cases h' with
   |stop h2=>rw[h]at h2;cases h2
   |miss h2 h3 _=>rw[h]at h2;cases h2;rw[hr]at h3;cases h3
   |hit h2 _ h3=>rw[h]at h2;cases h2;exact ih h3
theorem He(c:qp){x y:Ev}(h:x.dr=y.dr)(l:List Tm):qw c x l=qw c y l:=by
 have e:({x with ab:=c.dev,re:=false}:Ev)={y with ab:=c.dev,re:=false}:=by
  cases x;cases y;cases h;rfl
 unfold qw;rw[e]
theorem Yt.dr{c:qp}{ls:List (List Tm)}{a:Nat}{x y:Ev}{d:Dr}(h:Yt c ls a x d)(e:x.dr=y.dr):Yt c ls a y d:=by
 cases h with
 |stop h=>rw[e];exact .stop h
 |miss h hr hn=>rw[He c e]at hr hn;exact .miss h hr hn
 |hit h hr hn=>rw[He c e]at hr hn;exact .hit h hr hn
def ZL(p a:Nat):Nat:=if a<p then a else a+1
section
variable{ls:List (List Tm)}{nv:List Tm}{p:Nat}
abbrev more(ls:List (List Tm))(nv:List Tm)(p:Nat):List (List Tm):=ls.take p++nv::ls.drop p
theorem zfP(hp:p<=ls.length)(a:Nat):(more ls nv p)[ZL p a]? =ls[a]?:=by
 unfold ZL more;rw[List.getElem?_append];have hl:(ls.take p).length=p:=JO;by_cases h:a<p
 · rw[if_pos h,if_pos zb,List.getElem?_take,if_pos h]
 · rw[if_neg h,if_neg zb,hl];have e:a+1 - p=(a - p)+1:=zb;rw[e,zl6,zd5]
   congr 1;omega
theorem zge(hp:p<=ls.length):(more ls nv p)[p]? =some nv:=by
 unfold more;have hl:(ls.take p).length=p:=JO;rw[ze3 zb,hl,zj2];rfl
theorem Ax{α:Type}(q:α->Bool)(a b:List α):(a++b).findIdx? q=match a.findIdx? q with
 |some i=>some i
 |none=>(b.findIdx? q).map (a.length+ ·):=by
 rw[List.findIdx?_append];cases a.findIdx? q with
 |some i=>rfl
 | none=>
   cases b.findIdx? q with
   |none=>rfl
   |some i=>simp[zk6]
theorem zgl(q:List Tm->Bool)(hq:q nv=false)(hp:p<=ls.length)(a:Nat):((more ls nv p).drop (ZL p a+1)).findIdx? q=match(ls.drop (a+1)).findIdx? q with
 |some i=>some (ZL p (a+1+i) - (ZL p a+1))
 |none=>none:=by
 have hl:(ls.take p).length=p:=JO;by_cases h:a<p
 · have e1:ZL p a=a:=if_pos h;rw[e1];have e2:(more ls nv p).drop (a+1)=(ls.take p).drop (a+1)++nv::ls.drop p:=by
    unfold more;rw[zl9,hl,show a+1 - p=0 from by omega,zl4]
   have e3:ls.drop (a+1)=(ls.take p).drop (a+1)++ls.drop p:=by
    have:=congrArg (List.drop (a+1)) (List.take_append_drop p ls);rw[<-this,zl9,hl,show a+1 - p=0 from by omega,zl4]
   rw[e2,e3,Ax,Ax];have hlen:((ls.take p).drop (a+1)).length=p - (a+1):=TP;cases hf:((ls.take p).drop (a+1)).findIdx? q with
   | some i=>
     have hi:i<p - (a+1):=by rw[<-hlen];exact(List.findIdx?_eq_some_iff_getElem.1 hf).1
     show some i=some _;rw[ZL,if_pos zb]
     congr 1;omega
   | none=>
     rw[List.findIdx?_cons,hq];simp only[zd3,if_false];rw[hlen];cases(ls.drop p).findIdx? q with
     |none=>rfl
     | some i=>
       simp only[zd6];rw[ZL,if_neg zb]
       congr 1;omega
 · have e1:ZL p a=a+1:=if_neg h;rw[e1];have e2:(more ls nv p).drop (a+1+1)=ls.drop (a+1):=by
    unfold more;rw[zl9,List.drop_of_length_le (by rw[hl];omega),hl,zk8,show a+1+1 - p=(a+1 - p)+1 from by omega,List.drop_succ_cons,zl8]
    congr 1;omega
   rw[e2];cases(ls.drop (a+1)).findIdx? q with
   |none=>rfl
   | some i=>
     show some i=some _;rw[ZL,if_neg zb]
     congr 1;omega
theorem zgC(hv:QU nv 23=none)(hp:p<=ls.length)(a:Nat)(l:List Tm)(_hl:ls[a]? =some l):Qy (more ls nv p) (ZL p a) l=ZL p (Qy ls a l)∨(Qy (more ls nv p) (ZL p a) l=p/\Qy ls a l=p):=by
 have hsucc:ZL p a+1=ZL p (a+1)∨(ZL p a+1=p/\a+1=p):=by
  unfold ZL;by_cases h:a+1<p
  · left;rw[if_pos zb,if_pos h]
  · by_cases h2:a<p
    · right;rw[if_pos h2];omega
    · left;rw[if_neg h2,if_neg h]
 unfold Qy;cases hk:QU l 24 with
 |none=>exact hsucc
 | some tt=>
   dsimp only;rw[zgl _ (by rw[hv]) hp a];cases hf:(ls.drop (a+1)).findIdx? fun m=>match QU m 23 with
    |some x=>L x==L tt
    |none=>false with
   |none=>exact hsucc
   | some i=>
     left;dsimp only;have:ZL p a+1<=ZL p (a+1+i):=by unfold ZL;split<;>split<;>omega
     omega
theorem zil{c:qp}(hv:QU nv 23=none)(hp:p<=ls.length)(hn:∀x:Ev,(qw c x nv).2=false/\(qw c x nv).1.dr=x.dr){a:Nat}{x:Ev}{d:Dr}(h:Yt c ls a x d):
 Yt c (more ls nv p) (ZL p a) x d/\(a=p->Yt c (more ls nv p) p x d):=by
 have key:∀{a:Nat} {x:Ev} {d:Dr},Yt c (more ls nv p) (ZL p a) x d->Yt c (more ls nv p) (ZL p a) x d/\(a=p->Yt c (more ls nv p) p x d):=fun{a x d} h=>⟨h,fun e=>by
  subst e;have e1:ZL a a=a+1:=if_neg (zd0 a);rw[e1]at h;exact .miss (zge hp) (hn x).1 (h.dr (hn x).2.symm)⟩
 have hs:∀a,ZL p (a+1)=ZL p a+1∨(ZL p a+1=p/\a+1=p):=fun a=>by
  unfold ZL;by_cases h:a+1<p
  · left;rw[if_pos h,if_pos (by omega:a<p)]
  · by_cases h2:a<p
    · right;rw[if_pos h2];omega
    · left;rw[if_neg h,if_neg h2]
 induction h with
 |stop h=>exact key (.stop j6)
 | miss h hr _ ih=>
   rename_i a x l d hh;refine key (.miss j6 hr ?_);rcases hs a with e|⟨e1,e2⟩
   · rw[<-e];exact ih.1
   · rw[e1];exact ih.2 e2
 | hit h hr _ ih=>
   rename_i a x l d hh;refine key (.hit j6 hr ?_);rcases zgC hv hp a l h with e|⟨e1,e2⟩
   · rw[e];exact ih.1
   · rw[e1];exact ih.2 e2
theorem zds{c:qp}(hv:QU nv 23=none)(hp:p<=ls.length)(hn:∀x:Ev,(qw c x nv).2=false/\(qw c x nv).1.dr=x.dr)(x:Ev):
 (qS c (more ls nv p) ((more ls nv p).length+1) 0 x []).1.dr=(qS c ls (ls.length+1) 0 x []).1.dr:=by
 have h1:=Oc (c:=c) (ls:=ls) (ls.length+1) 0 x [] zb;have h2:=zil (nv:=nv) hv hp hn h1;have h3:=Oc (c:=c) (ls:=more ls nv p) ((more ls nv p).length+1) 0 x [] zb;by_cases h0:p=0
 · subst h0;exact h3.det (h2.2 rfl)
 · have e:ZL p 0=0:=if_pos zb;rw[e]at h2;exact h3.det h2.1
end
end
section
theorem ziv{s:ze}(h:s≠[]):zS [] s=false:=by
 have e:Qe []=some [[]]:=zg;unfold zS;rw[e];cases s with
 |nil=>exact absurd rfl h
 |cons a s=>simp[Yk,qM]
abbrev GF:Tm:=⟨2,⟨#[]⟩,1,⟨#[]⟩⟩
abbrev VT(t:Tm):List Tm:=[GF,⟨12,⟨#[]⟩,1,⟨#[112,114,111,98,101,32,37,107]⟩⟩,t]
theorem zav{c:qp}(h:1<=c.dev.og.size)(t:Tm)(x:Ev):(qw c x (VT t)).2=false/\(qw c x (VT t)).1.dr=x.dr:=by
 have hn:L c.dev.og≠[]:=fun e=>by
  have h1:(L c.dev.og).length=c.dev.og.size:=rfl;rw[e]at h1;simp at h1;omega
 have hd:XN GF c.dev=false:=by
  show(true&&(zS [] (L c.dev.og)==true))=false;rw[ziv hn];rfl
 have hm:Zw c (VT t) (VT t) {x with ab:=c.dev,re:=false}=({x with ab:=c.dev,re:=false},false):=by
  rw[Zw,if_pos (show qH GF.op=true from rfl)];have h1:qJ c (VT t) {x with ab:=c.dev,re:=false} GF=({x with ab:=c.dev,re:=false},false):=by
   unfold qJ;rw[if_pos (show Z0 GF=true from rfl),hd]
  rw[h1];rfl
 unfold qw;rw[hm];exact kS
theorem zcC{i:QV}{ls:List (List Tm)}{t:Tm}{p:Nat}(hp:p<=ls.length)(hk:t.key≠23)(ho:∀d∈i.tree,1<=d.og.size):U8 i (more ls (VT t) p)=U8 i ls:=by
 have hv:QU (VT t) 23=none:=by
  unfold QU;rw[zm0 zi,zm0 zi,zm0 (by simpa using hk)];rfl
 unfold U8 KU Ob;cases hf:zC i.tree i.ix with
 |none=>rfl
 | some d=>
   have h:=zds (c:=⟨i,d,qK i.tree i.ix,pntS i.tree d⟩) hv hp (zav (ho d (Xz hf).1) t) (Q6 ⟨i,d,qK i.tree i.ix,pntS i.tree d⟩);simp only[zd6];rw[h]
end
section
open Go.RowKit
abbrev XL:TypeId:=56
abbrev YW:TypeId:=26
theorem T2{B:Nat}(l ms:List Rl)(n k n':Nat)(A:Option Addr)(c:Nat)(S:Option Addr)(sc:Nat)(w:World)(h:w.ownsRow B XL 3 (.slice A n c) n (cellsOf Zi l))(hs:zr w w.heap.size S 3 k (cellsOf Zi ms))(hn:n<=1000)(hk:k<=1000)(he:n+k=n')(hB:B<=w.heap.size):
 ∃A' c' w',(Zv #[YW,YW] YW #[.slice A n c,.slice S k sc]).run prog w=.ok (.slice A' n' c') w'/\w'.ownsRow B XL 3 (.slice A' n' c') n' (cellsOf Zi (l++ms))/\w.grownBy w' (Value.slice A n c).ownBlock:=by
 subst he;obtain⟨i0,hi0,hz0,hz1,hz2⟩:=info_parts jY;rw[Xf];cases k with
 | zero=>
   have h0:cellsOf Zi ms=[]:=List.length_eq_zero_iff.1 (by rw[hs.len,Nat.zero_mul]);rw[h0,zk7,<-ZU];exact⟨A,c,w,Pt B YW YW XL i0 3 (by exact underlying26) hi0 _ n _ h S sc,h,⟨rfl,rfl,rfl,zo,fun _ _ _=>rfl⟩⟩
 | succ k=>
   obtain⟨ba,off,rfl,_,hx⟩:=hs.at_ zb;obtain⟨v',w',h1,h2,h3,_,_⟩:=run_append_own_at (P:=prog) w B YW YW XL i0 _ 3 48 (by exact underlying26) hi0 hz0 hz1 hz2 rfl zi (.slice A n c) n _ h ⟨ba,off,none⟩ (k+1) sc (cellsOf Zi ms) hs.len (fun j u hu=>FW) (fun u hu=>by
    obtain⟨x,_,hx⟩:=List.mem_flatMap.1 hu;exact Rq x u hx) ql zb hB
   exact Ru
abbrev Kj(g:Nat)(t:Tm):Rl:=⟨⟨#[]⟩,0,⟨some ⟨g,0,none⟩,3,VT t⟩⟩
theorem zdy(rl:List Rl)(p g:Nat)(t:Tm):Zy (rl.take p++Kj g t::rl.drop p)=more (Zy rl) (VT t) p:=by
 unfold Zy more;exact ET
theorem zas(w:World)(a b:Obj):((w.alloc a).alloc b).heap[w.heap.size+1]? =some b:=by
 have:=i5 (w.alloc a) b;exact QN
theorem zcJ(w:World)(a b:Obj):((w.alloc a).alloc b).heap[w.heap.size]? =some a:=(heap_alloc_old _ _ zl).trans qt
attribute [local go_sem ↓] Pw OR Jn ZU
theorem lawNever(TA:Option Addr)(n tc:Nat)(v:Int)(w:World)(hE:Z2 w)(hI:It w TA n)(hv1: -9223372036854775808<=v)(hv2:v<=9223372036854775807):
 Calls prog 4 #[.slice TA n tc,.int .i64 v] w fun e w'=>e=.returned (.bool true)/\Below w.heap.size w w':=by
 obtain⟨w1,hw1⟩:∃w1,w.alloc (.cells #[.slice TA n tc,.int .i64 0] TX)=w1:=⟨_,rfl⟩;have hb1:Below w.heap.size w w1:=ZX;have hnG:=hE.toEnv.toEnv0.size;have hts:qr w1 w.heap.size n 0 0 w1:=EN;have HRl:=za (DD hts (m:=7) zb zb);have HG:=za hnG;have HE:=za hE;have HW1:=za hw1;have HB1:=za hb1;have HV:=za (And.intro hv1 hv2);clear hE hI hts hw1 hnG hv1 hv2;go_enter func4,ntmps4;go_upto_region 2 with fail
 rw[HW1.out];go_cut [6,7]from 19 to 22 (fun s6 s7 wx=>∃(t7:Nat) (c:zt) (A:Option Addr) (ac:Nat) (rl:List Rl) (D:Nat),s6=.slice A rl.length ac/\s7=.pointer (some ⟨t7,0,none⟩)/\D<=20000/\Hid (∀W,wx.grownBy W (some w.heap.size)->W.heap[t7]? =some (.cells (zJ c) qh (0,0))/\Zu W c/\Zt W A rl/\Below w.heap.size w W)/\Hid (Ur c)/\Hid (rl.length<=ac/\rl.length<=12/\∀x∈rl,1<=x.tms.l.length/\x.tms.l.length<=6/\∀t∈x.tms.l,Yz 60 t)/\Hid (qr w1 w.heap.size n 0 D wx))
 case first=>
  as_aux_lemma=>
  go_wp2_with fail
  refine HRl.out.mono ?_;rintro e w2 ⟨A,ac,rl,rfl,hl,hcp,-,hz,hro,hio,hT⟩;have hb2:Below w.heap.size w w2:=hb1.grown hT.gr hb1.size (fun j e=>Vb);have HIn:=za (DO hT.st (HE.out.toEnv.toEnv0.go hb2) HG.out 5 zb zb);have HB2:=za hb2;have HZ:=za (And.intro hcp (And.intro hl hz));have HO:=za (fun(W:World) (hW:w2.grownBy W (some w.heap.size))=>Zt.off hro hio hz hW);have hsz:w.heap.size<w2.heap.size:=i4 hT.st.lt hT.st.size;clear hl hcp hz hro hio hT hb2 hb1;go_wp2_with fail
  refine HIn.out.mono ?_;rintro e w3 ⟨c,rfl,hM,hW,hf,hT⟩;have hba:=zL w3 (.cells (zJ c) qh);have HK:Hid (∀W,(w3.alloc (.cells (zJ c) qh)).grownBy W (some w.heap.size)->W.heap[w3.heap.size]? =some (.cells (zJ c) qh (0,0))/\Zu W c/\Zt W A rl/\Below w.heap.size w W):=za fun W hg=>by
   have h23:=hT.gr.size;have hgr:=(hT.gr.trans (zG hba _)).trans hg;exact⟨(hg.block _ zl (fun e=>Vg)).trans qt,(hM.keep hba).grown hg (fun a ha p e=>by have:=hf a ha p e;omega),HO.out W hgr,HB2.out.grown hgr HB2.out.size (fun j e=>Vb)⟩
  have HWc:=za hW;have HTs:=za (hT.st.alloc (.cells (zJ c) qh));clear hM hW hT hf hba;unfold zJ at*;go_wp2;go_meet;exact⟨_,c,A,ac,rl,_,rfl,rfl,zb,HK,HWc,HZ,HTs⟩
 case rest=>
 obtain⟨t7,c,A,ac,rl,D,rfl,rfl,hD,HK,HWc,HZ,HTs⟩:=hcut;generalize wc=w2 at*;obtain⟨N,hN⟩:∃N,rl.length=N:=⟨_,rfl⟩;have HN:=za hN;have hN12:N<=12:=by rw[<-hN];exact HZ.out.2.1
 have hNc:N<=ac:=by rw[<-hN];exact HZ.out.1
 rw[hN];clear hN HRl;go_upto_region 4 with(go_at_call 13;refine(Oi v ((N:Int)+1) _ HV.out.1 HV.out.2 zb).mono ?_;rintro e wv ⟨rfl,hv⟩;obtain rfl:w2=wv:=hv)
 obtain⟨p,hp,hpN⟩:∃p:Nat,Vo v ((N:Int)+1)=(p:Int)/\p<=N:=by
  have h:=kV v ((N:Int)+1) zb;obtain⟨p,hp⟩:=Int.eq_ofNat_of_zero_le h.1;exact⟨p,hp,zb⟩
 rw[hp];clear hp;go_cut [8]from 28 to 33 (fun s8 wx=>∃(t8 tb:Nat) (t:Tm),s8=.pointer (some ⟨t8,0,none⟩)/\Hid (t.key≠23/\t.value.size<=60)/\Hid (wx.heap[t8]? =some (.cells #[.string ⟨#[]⟩,.int .i64 0,.slice (some ⟨tb,0,none⟩) 3 3] XL (0,0)))/\Hid (wx.heap[tb]? =some (.cells (cellsOf zQ (VT t)).toArray 52 (0,0)))/\Hid (w2.grownBy wx (some w.heap.size)))
 case first=>
  have HAs:=za (Ri HTs.out zb);go_wp2_with fail
  refine HAs.out.mono ?_;rintro e w3 ⟨⟨ky,nm,op,vl⟩,hts,htk,rfl,hT⟩;unfold qk;have HTk:Hid (ky≠23/\vl.size<=60):=za ⟨htk,hts.value⟩;have HGr:=za hT.gr;clear hts htk hT;go_wp2;go_meet;refine⟨_,_,⟨ky,nm,op,vl⟩,rfl,HTk,za (zas _ _ _),za (zcJ _ _ _),za (HGr.out.trans (zG (zP zu) _))⟩
 case rest=>
 obtain⟨t8,tb,t,rfl,HTk,HT8,HTb,HGr⟩:=hcut;generalize wc=w4 at*;obtain⟨hk7,hM4,hR4,hb4⟩:=HK.out w4 HGr.out;have HK4:=za hk7;have HM4:=za hM4;have HR4:=za hR4;have HB4:=za hb4;clear hk7 hM4 hR4 hb4 HK HTs HGr;have hmm:(rl.take p).length=p:=DX;have hpI:(p:Int)<=(N:Int):=zb;have hpc:(p:Int)<=(ac:Int):=zb;have hNcI:(N:Int)<=(ac:Int):=zb;go_upto_region 5 with fail
 go_cut [9]from 34 to 44 (fun s9 wx=>∃(A3:Option Addr) (c3:Nat),s9=.slice A3 (N+1) c3/\Hid (wx.ownsRow w4.heap.size XL 3 (.slice A3 (N+1) c3) (N+1) (cellsOf Zi ((rl.take p++[Kj tb t])++rl.drop p)))/\Hid (Below w4.heap.size w4 wx))
 case first=>
  as_aux_lemma=>
  have HR1:Hid (∀W,Below w4.heap.size w4 W->zr W W.heap.size A 3 p (cellsOf Zi (rl.take p))):=za fun W hW=>by
   have q:=(HR4.out.keep hW).row;rw[HN.out]at q;have q2:=q.head hpN;rw[yQ Zi 3 I4]at q2;exact q2
  have HRd:Hid (∀W,Below w4.heap.size w4 W->zr W W.heap.size (if ac=p then A else A.map (·.add (p*3))) 3 (N - p) (cellsOf Zi (rl.drop p))):=za fun W hW=>by
   have q:=(HR4.out.keep hW).row;rw[HN.out]at q;have q2:=SC q hpN hNc;rw[Fv I4]at q2;exact q2
  have HC8:Hid (∀W,Below w4.heap.size w4 W->W.cell? ⟨t8,0,none⟩=some (.string ⟨#[]⟩)/\W.cell? ⟨t8,1,none⟩=some (.int .i64 0)/\W.cell? ⟨t8,2,none⟩=some (.slice (some ⟨tb,0,none⟩) 3 3)):=za fun W hW=>by
   have h1:=(hW.block _ (zh HT8.out)).trans HT8.out;exact⟨zd h1 rfl,zd h1 rfl,zd h1 rfl⟩
  have HA1:Hid (∀W0:World,Below w4.heap.size w4 W0->∃A1 c1 W1,(Zv #[YW,YW] YW #[.slice none 0 0,.slice A p ac]).run prog W0=.ok (.slice A1 p c1) W1/\Below w4.heap.size w4 W1/\W1.ownsRow w4.heap.size XL 3 (.slice A1 p c1) p (cellsOf Zi ([]++rl.take p))/\∀la o,W0.heap[la]? =some o->W1.heap[la]? =some o):=za fun W0 hW0=>by
   obtain⟨A1,c1,W1,q1,q2,q3⟩:=T2 (B:=w4.heap.size) [] (rl.take p) 0 p p none 0 A ac W0 (World.ownsRow_nil _ _ _ _) (HR1.out W0 hW0) zb zb zb hW0.size;exact S8
  have HA2:Hid (∀(W1:World) (A1:Option Addr) (c1 la:Nat),Below w4.heap.size w4 W1->W1.ownsRow w4.heap.size XL 3 (.slice A1 p c1) p (cellsOf Zi ([]++rl.take p))->W1.heap[la]? =some (.cells #[.string ⟨#[]⟩,.int .i64 0,.slice (some ⟨tb,0,none⟩) 3 3] XL (0,0))->∃A2 c2 W2,(Zv #[YW,YW] YW #[.slice A1 p c1,.slice (some ⟨la,0,none⟩) 1 1]).run prog W1=.ok (.slice A2 (p+1) c2) W2/\∃A3 c3 W3,(Zv #[YW,YW] YW #[.slice A2 (p+1) c2,.slice (if ac=p then A else A.map (·.add (p*3))) (N - p) (ac - p)]).run prog W2=.ok (.slice A3 (N+1) c3) W3/\Below w4.heap.size w4 W3/\W3.ownsRow w4.heap.size XL 3 (.slice A3 (N+1) c3) (N+1) (cellsOf Zi ((rl.take p++[Kj tb t])++rl.drop p))):=za fun W1 A1 c1 la hB1' q2 hlit1=>by
   obtain⟨A2,c2,W2,q4,q5,q6⟩:=T2 (B:=w4.heap.size) ([]++rl.take p) [Kj tb t] p 1 (p+1) A1 c1 (some ⟨la,0,none⟩) 1 W1 q2 ((Eu hlit1 rfl rfl).up (zh hlit1)) zb zb rfl hB1'.size;have hB2':=hB1'.grown q6 hB1'.size (fun j e=>(q2.lt j e).1);obtain⟨A3,c3,W3,q7,q8,q9⟩:=T2 (B:=w4.heap.size) ([]++rl.take p++[Kj tb t]) (rl.drop p) (p+1) (N - p) (N+1) A2 c2 (if ac=p then A else A.map (·.add (p*3))) (ac - p) W2 q5 (HRd.out W2 hB2') zb zb zb hB2'.size;exact⟨A2,c2,W2,q4,A3,c3,W3,q7,hB2'.grown q9 hB2'.size (fun j e=>(q5.lt j e).1),q8⟩
  have hb0:Below w4.heap.size w4 w4.drew:=zN zj;have hbA:Below w4.heap.size w4 (w4.alloc (.cells #[.string ⟨#[]⟩,.int .i64 0,.slice (some ⟨tb,0,none⟩) 3 3] XL)).drew:=zN zu;have hlA:(w4.alloc (.cells #[.string ⟨#[]⟩,.int .i64 0,.slice (some ⟨tb,0,none⟩) 3 3] XL)).drew.heap[w4.heap.size]? =some (.cells #[.string ⟨#[]⟩,.int .i64 0,.slice (some ⟨tb,0,none⟩) 3 3] XL (0,0)):=i5 w4 _;obtain⟨A1,c1,W1,r1,hbA1,ho1,hk1⟩:=HA1.out _ hbA;obtain⟨A2,c2,W2,r2,A3,c3,W3,r3,hbA3,ho3⟩:=HA2.out W1 A1 c1 _ hbA1 ho1 (hk1 _ _ hlA);obtain⟨B1,e1,V1,s1,hbB1,po1,_⟩:=HA1.out _ hb0;have hlB:=i5 V1 (.cells #[.string ⟨#[]⟩,.int .i64 0,.slice (some ⟨tb,0,none⟩) 3 3] XL);obtain⟨B2,e2,V2,s2,B3,e3,V3,s3,hbB3,po3⟩:=HA2.out _ B1 e1 _ (zP hbB1) (qi po1 zu) hlB;have HE3:=za ho3;have HF9:=za po3;have HBW:=za hbA3;have HBV:=za hbB3;obtain⟨d0,d1,d2⟩:=HC8.out w4.drew hb0;obtain⟨b0,b1,b2⟩:=HC8.out V1 hbB1;obtain⟨a0,a1,a2⟩:=HC8.out w4 zj;have hl8:t8<w4.heap.size:=zh HT8.out;have hl9:t8<V1.heap.size:=i4 hl8 hbB1.size;clear hbA hlA hbA1 ho1 hk1 hbA3 ho3 hbB1 po1 hlB hbB3 po3 hb0;by_cases hcm:ac=p
  · rw[if_pos hcm]at r3 s3;obtain rfl:=hcm;obtain rfl:N=ac:=zb;rw[zj2]at r3 s3;exact FE
  · rw[if_neg hcm]at r3 s3;exact FE
 case rest=>
 obtain⟨A3,c3,rfl,HO5,HB5⟩:=hcut;generalize wc=w5 at*;obtain⟨ml,hml⟩:∃ml,rl.take p++Kj tb t::rl.drop p=ml:=⟨_,rfl⟩;have hln:ml.length=N+1:=by
  have:=HN.out;rw[<-hml];exact C2
 have hmem:∀y∈ml,y=Kj tb t∨y∈rl:=fun y hy=>Gs (hml▸hy);have hRm:Zt w5 A3 ml:=by
  have ho:=HO5.out;rw[show(rl.take p++[Kj tb t])++rl.drop p=ml by rw[<-hml];simp,<-hln]at ho;refine⟨zr.of_own ho,fun y hy=>?_,fun y hy e=>?_⟩
  · rcases hmem y hy with rfl|h
    · have h1:=(HB5.out.block _ (zh HTb.out)).trans HTb.out;exact kr h1 rfl rfl
    · exact(HR4.out.inn y h).keep HB5.out
  · rcases hmem y hy with rfl|h
    · cases e
    · exact HR4.out.nil y h e
 have hzM:kv ml:=⟨zb,fun y hy=>by
  rcases hmem y hy with rfl|h
  · refine⟨by show 3<=1000;decide,fun x hx=>?_⟩;have h2:=HTk.out.2;simp only[List.mem_cons,List.not_mem_nil,or_false]at hx;rcases hx with rfl|rfl|rfl
    · exact KP
    · exact(by decide:ByteArray.size (⟨#[112,114,111,98,101,32,37,107]⟩:ByteArray)<=1000000)
    · omega
  · exact⟨CB,fun x hx=>Bt⟩⟩
 have hzR:kv rl:=⟨VK,fun y h=>⟨CB,fun x hx=>Bt⟩⟩;have hz:=HWc.out.z;have hM5:=HM4.out.keep HB5.out;have hB5:=bt HB4.out HB5.out;have hq:Yn c.i (Zy ml)=Yn c.i (Zy rl):=by
  unfold Yn;rw[<-hml,zdy,zcC (by rw[Ol,HN.out];exact hpN) HTk.out.1 (fun d hd=>by
   obtain⟨x,hx,rfl⟩:=List.mem_map.1 hd;exact(HWc.out.tw.dv x hx).og1)]
 have HQz:=za (CV hz hzR);have HRa:Hid (Calls prog 8 #[.slice A N ac,.agg (zJ c)] w5 (GE (Yn c.i (Zy rl)) w5)):=za (by
  have h:=Gt A ac rl c w5 hM5 hz (HE.out.go hB5) (HR4.out.keep HB5.out) hzR (fun _ _ _ _ _=>HWc.out.run);rw[HN.out]at h;exact h.mono fun _ _ h=>OC h)
 have HRb:Hid (∀W,Below w5.heap.size w5 W->Calls prog 8 #[.slice A3 (N+1) c3,.agg (zJ c)] W (GE (Yn c.i (Zy rl)) W)):=za fun W hW=>by
  have h:=Gt A3 c3 ml c W (hM5.keep hW) hz (HE.out.go (bt hB5 hW)) (hRm.keep hW) hzM (fun _ _ _ _ _=>HWc.out.run);rw[hln]at h;exact h.mono fun _ _ h=>hq▸OC h
 have HK5:=za ((HB5.out.block _ (zh HK4.out)).trans HK4.out);have HBa:=za hB5;have HKn:=za (fun(W:World) (hW:Below w.heap.size w W)=>Ab W (HE.out.go hW));clear hz hM5 hB5 hq hRm hzM hzR hmem hln hml HK4 HM4 HR4 HB4 HB5 HTb HT8 HO5 HZ HTk hmm;generalize Yn c.i (Zy rl)=q at*;obtain⟨Dq,T,eN⟩:=q;have hld:=km HK5.out;go_upto_region 6 with fail
 go_cut [10,11,12]from 45 to 51 (fun s10 s11 s12 wx=>∃(t10:Nat) (r:Rm),s10=.pointer (some ⟨t10,0,none⟩)/\s11=.int .i64 T/\s12=.int .i64 eN/\Hid (wx.heap[t10]? =some (.cells (qb r) qf (0,0))/\Z3 wx r/\r.d=Dq)/\Hid (Below w5.heap.size w5 wx))
 case first=>
  as_aux_lemma=>
  go_wp2_with (go_at_call 8;refine HRa.out.mono ?_;rintro e w6 ⟨r,rfl,hr,hN6,-,hb6⟩;have hst:=KC (i5 w6 (.cells Ku qf)) rfl r;have hbx:=za (Nw hN6);have HB6:=za hb6;have HR6:=za hr;clear hr hN6 hb6)
  go_meet;exact⟨_,r,rfl,rfl,rfl,za ⟨hbx.out.1,hbx.out.2.1,HR6.out⟩,za (bt HB6.out hbx.out.2.2)⟩
 case rest=>
 obtain⟨t10,r,rfl,rfl,rfl,HT10,HB6⟩:=hcut;generalize wc=w6 at*;have hld6:=km ((HB6.out.block _ (zh HK5.out)).trans HK5.out);clear hld;go_upto_region 7 with fail
 go_cut [13,14,15]from 52 to 58 (fun s13 s14 s15 wx=>∃(t13:Nat) (s:Rm),s13=.pointer (some ⟨t13,0,none⟩)/\s14=.int .i64 T/\s15=.int .i64 eN/\Hid (wx.heap[t13]? =some (.cells (qb s) qf (0,0))/\Z3 wx s/\s.d=Dq)/\Hid (Below w6.heap.size w6 wx))
 case first=>
  as_aux_lemma=>
  go_wp2_with (go_at_call 8;refine(HRb.out w6 HB6.out).mono ?_;rintro e w7 ⟨s,rfl,hr,hN6,-,hb6⟩;have hst:=KC (i5 w7 (.cells Ku qf)) rfl s;have hbx:=za (Nw hN6);have HB7:=za hb6;have HR6:=za hr;clear hr hN6 hb6)
  go_meet;exact⟨_,s,rfl,rfl,rfl,za ⟨hbx.out.1,hbx.out.2.1,HR6.out⟩,za (bt HB7.out hbx.out.2.2)⟩
 case rest=>
 obtain⟨t13,s,rfl,rfl,rfl,HT13,HB7⟩:=hcut;generalize wc=w7 at*;have l10:=Ju ((HB7.out.block _ (zh HT10.out.1)).trans HT10.out.1);have l13:=Ju HT13.out.1;have HSm:=za (Hj HQz.out r s w7 HT10.out.2.2 HT13.out.2.2 (HT10.out.2.1.keep HB7.out) HT13.out.2.1);have HB:=za (bt HBa.out (bt HB6.out HB7.out));clear hld6 HRa HRb;go_wp2_with (first
  |(go_at_call 12;refine HSm.out.mono ?_;rintro e w8 ⟨rfl,hb8⟩;have HB8:=za (bt HB.out hb8);clear hb8)
  |(go_at_call 10;refine(HKn.out _ HB8.out).mono ?_;rintro e w9 ⟨rfl,hb9⟩;have HB9:=za (bt HB8.out hb9);clear hb9))
 go_ret;exact⟨rfl,HB9.out⟩
end
end Go.Proofs.YtecbmndgpepkcaaGreatDoor

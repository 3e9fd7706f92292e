/- Contracts that the law rests on, each under the premises that it names. -/
import Derived.Test.YtecbmndgpepkcaaGreatDoorG17
namespace Go.Proofs.YtecbmndgpepkcaaGreatDoor
open Tryz
set_option maxHeartbeats 8000000
set_option maxRecDepth 100000
section
open Go.RowKit
theorem Gq{α:Type}{S T:TypeId}{k b:Nat}{z:Value}{enc:α->List Value}(hu:prog.underlying S=some (.slice T))(hi:(prog.info? T).map (fun i=>(i.zero,i.size,i.bytes))=some (some z,k,b))(hzc:z.cells.size=k)(hk:0<k)(hb:b<=1000)(henc:∀x:α,(enc x).length=k)(hone:∀x:α,∀u∈enc x,u.oneCell'=true)
 {B:Nat}{A:Option Addr}{c:Nat}{l:List α}(t:α)(w:World)(h:w.ownsRow B T k (.slice A l.length c) l.length (cellsOf enc l))(hl:l.length<=1000000)(hB:B<=w.heap.size):
 ∃A' c' w',(Zv #[S,S] S #[.slice A l.length c,.slice (some ⟨w.heap.size,0,none⟩) 1 1]).run prog (w.alloc (.cells (enc t).toArray T))=.ok (.slice A' (l.length+1) c') w'/\w'.ownsRow B T k (.slice A' (l.length+1) c') (l.length+1) (cellsOf enc (l++[t]))/\w.grownBy w' (Value.slice A l.length c).ownBlock/\∀p,A'=some p->w.heap.size<=p.block∨∃q,A=some q/\q.block=p.block:=by
 obtain⟨i0,hi0,hz0,hz1,hz2⟩:=info_parts hi;obtain⟨v',w',h1,h2,h3,_,h5⟩:=run_append_own_at (P:=prog) (w.alloc (.cells (enc t).toArray T)) B S S T i0 _ k b hu hi0 hz0 hz1 hz2 hzc hk (.slice A l.length c) l.length _ (qi h zu) ⟨w.heap.size,0,none⟩ 1 1 (enc t) (by rw[henc];omega) (fun j u hu=>by
  rw[Ua,zk4];exact zd (i5 w _) Ot) (hone t) ql (by have:=Nat.mul_le_mul (show l.length+1<=1000001 by omega) hb;omega) (i3 hB (zL w _).size)
 rw[ZU]at h1;obtain⟨NA,nc,rfl⟩:=Qf h2;have hc:cellsOf enc (l++[t])=cellsOf enc l++enc t:=J7;refine⟨NA,nc,w',h1,K8,(zG (zL w _) _).trans h3,fun p hp=>?_⟩;have hpb:(Value.slice NA (l.length+1) nc).ownBlock=some p.block:=Ks;rcases h5 with k|k
 · exact JZ
 · rw[hpb]at k;have:=zx k;have:=(zL w (.cells (enc t).toArray T)).size;exact Kb
theorem TJ:(prog.info? zp).map (fun i=>(i.zero,i.size,i.bytes))=some (some (.agg #[.int .i64 0,.int .i64 0,.string ⟨#[]⟩,.string ⟨#[]⟩,.string ⟨#[]⟩,.string ⟨#[]⟩,.string ⟨#[]⟩,.int .i64 0,.int .i64 0,.slice none 0 0]),10,136):=zg
theorem PK(d:Dv):∀u∈zM d,u.oneCell'=true:=by
 intro u hu;simp only[zM,List.mem_cons,List.not_mem_nil,or_false]at hu;rcases hu with rfl|rfl|rfl|rfl|rfl|rfl|rfl|rfl|rfl|rfl<;>rfl
theorem qj.dcell{w:World}{A:Option Addr}{ds:List Dv}(h:qj w A ds){k:Nat}(hk:k<ds.length):∃ba off,A=some ⟨ba,off,none⟩/\ba<w.heap.size/\∀i v,(zM ds[k])[i]? =some v->w.cell? ⟨ba,off+k*10+i,none⟩=some v:=by
 obtain⟨b,off,e,hb,hc⟩:=h.row.row.cell Xl zb;refine⟨b,off,e,hb,fun i v hv=>?_⟩;rw[zk5];exact hc k ds[k] (l0 hk) i v hv
def YE(ds:List Dv)(n:Int):Option Dv:=ds.find? fun d=>d.ix==n
theorem jF(ds:List Dv)(n:Int):(∃k,∃hk:k<ds.length,YF (fun d:Dv=>d.ix==n) ds=k/\YE ds n=some ds[k])∨(YF (fun d:Dv=>d.ix==n) ds= -1/\YE ds n=none):=by
 unfold YF YE;cases hf:ds.findIdx? (fun d=>d.ix==n)with
 | none=>
   right;refine⟨rfl,?_⟩;rw[List.find?_eq_none];intro x hx;rw[List.findIdx?_eq_none_iff]at hf;simpa using hf x hx
 | some k=>
   left;obtain⟨hk,h1,h2⟩:=List.findIdx?_eq_some_iff_getElem.1 hf;refine⟨k,hk,rfl,?_⟩;rw[List.find?_eq_some_iff_getElem];exact⟨h1,k,hk,rfl,fun j hj=>by simpa using h2 j hj⟩
theorem DN(A:Option Addr)(c:Nat)(ds:List Dv)(n:Int)(w:World)(h:qj w A ds):
 Calls prog 44 #[.slice A ds.length c,.int .i64 n] w fun e w'=>e=.returned (.int .i64 (YF (fun d:Dv=>d.ix==n) ds))/\w'=w:=by
 have H:=za h;have hlen:=h.len;clear h;obtain⟨N,hN⟩:∃N,ds.length=N:=⟨_,rfl⟩;have HN:=za hN;rw[hN]at hlen⊢;clear hN;go_enter func44,ntmps44;go_wp2;go_loopg [5] (N+1) (fun gk s5 wr=>∃k:Nat,s5=.int .i64 k/\k+gk=N+1/\k<=N/\Hid (∀j (h:j<ds.length),j<k->(ds[j].ix==n)=false)/\wr=w)
 case atStart=>exact⟨0,rfl,zb,X1 _,za (fun j _ h=>absurd h (Nat.not_lt_zero _)),rfl⟩
 case round=>
  obtain⟨k,rfl,hkg,hkN,hno,rfl⟩:=hrel;by_cases hlt:k<N
  · have hk':k<ds.length:=by rw[HN.out];exact hlt
    obtain⟨ba,off,rfl,hba,hc⟩:=H.out.dcell hk';have c0:=hc 0 _ rfl;rw[zk3]at c0;have hltI:(k:Int)<(N:Int):=zb;cases hq:(ds[k].ix==n)with
    | true=>
      have HV:=za (Oa (q:=fun d:Dv=>d.ix==n) hno.out hk' hq);generalize ds[k].ix=dx at*;clear hc;go_wp2;go_ret;rw[HV.out];exact kS
    | false=>
      have HA:Hid (∀j (h:j<ds.length),j<k+1->(ds[j].ix==n)=false):=za fun j h hj=>Ed;generalize ds[k].ix=dx at*;clear hc;go_wp2;go_roundg (gk - 1)
      case measure=>omega
      case rel=>exact⟨k+1,zU,zb,zb,HA,rfl⟩
  · obtain rfl:k=N:=by omega
    have HV:=za (Nv (l:=ds) (q:=fun d:Dv=>d.ix==n) fun j h=>hno.out j h GG);go_wp2;go_ret;rw[HV.out];exact kS
def KG(o:Option Dv)(w:World)(e:Ending)(w':World):Prop:=e=.returned (.tuple #[zY (o.getD qd),.bool o.isSome])/\Below w.heap.size w w'
theorem CJ(v:Value):Instr.loadAt zp v=qD zp v:=Kg
theorem zbj(v u:Value):Instr.storeAt zp v u=Zo zp v u:=kQ
theorem zjP(parts:Array (Nat×Value)):Instr.build zp parts=ZI zp parts:=U7
theorem zfD(W:World):(ZI zp #[]).run prog W=.ok (.agg (zq qd)) W:=Xr
theorem zjS{w:World}{A:Option Addr}{ds:List Dv}(h:qj w A ds){k:Nat}(hk:k<ds.length){ba off:Nat}(hA:A=some ⟨ba,off,none⟩):(qD zp (.pointer (some ⟨ba,off+k*10,none⟩))).run prog w=.ok (.agg (zq ds[k])) w:=by
 obtain⟨b,o,e,_,hc⟩:=h.dcell hk;rw[hA]at e;injection e with e
 injection e with e1 e2
 subst e1 e2;exact JR (P:=prog) (w:=w) (T:=zp) (n:=10) (g:=ba) (o:=off+k*10) (l:=zM ds[k]) JJ Jp rfl (fun j u hu=>hc j u hu)
theorem DV{w:World}{q:Nat}{cs:Array Value}(h:w.heap[q]? =some (.cells cs zp (0,0)))(hs:cs.size=10)(d:Dv):(Zo zp (.pointer (some ⟨q,0,none⟩)) (.agg (zq d))).run prog w=.ok () (w.setRow q (zq d)):=by
 have h1:=XU (P:=prog) (w:=w) (T:=zp) (g:=q) (o:=0) (cs:=cs) (vs:=zq d) h (by rw[hs];show 0+10<=10;omega) jJ Zf (O2 d);rw[UL cs (zq d) ML]at h1;exact h1
attribute [local go_sem ↓] CJ zbj zjP
theorem RH(A:Option Addr)(c:Nat)(ds:List Dv)(n:Int)(w:World)(h:qj w A ds):
 Calls prog 24 #[zV A ds c,.int .i64 n] w (KG (YE ds n) w):=by
 obtain⟨w1,hw1⟩:∃w1,(w.alloc (.cells #[.slice A ds.length c] 30)).alloc (.cells (zq qd) zp)=w1:=⟨_,rfl⟩;have hb1:Below w.heap.size w w1:=Vl;have hr1:w1.heap[w.heap.size]? =some (.cells #[.slice A ds.length c] 30 (0,0)):=kh;have hq1:w1.heap[w.heap.size+1]? =some (.cells (zq qd) zp (0,0)):=LL;have hI:=DN A c ds n w1 (h.keep hb1);have c0:=zd (j:=0) hr1 rfl;have hd0:zq qd=#[.int .i64 0,.int .i64 0,.string ⟨#[]⟩,.string ⟨#[]⟩,.string ⟨#[]⟩,.string ⟨#[]⟩,.string ⟨#[]⟩,.int .i64 0,.int .i64 0,.slice none 0 0]:=rfl;unfold zV;rcases jF ds n with⟨k,hk,e1,e2⟩|⟨e1,e2⟩
 · rw[e1]at hI;obtain⟨ba,off,rfl,_,_⟩:=h.dcell hk;have hld:=zjS (h.keep hb1) hk rfl;have hst:=DV hq1 rfl ds[k];have HI:=za hI;have HX:=za e2;have HB1:=za hb1;have HQ1:=za hq1;rw[hd0]at hw1;have HW1:=za hw1;have hkI:(k:Int)<(ds.length:Int):=zb;generalize ds[k]=d at*;exact Si
 · rw[e1]at hI;have hbd:=zfD;have hst:=DV hq1 rfl qd;have HI:=za hI;have HX:=za e2;have HB1:=za hb1;have HQ1:=za hq1;rw[hd0]at hw1;have HW1:=za hw1;exact Si
end
section
open Go.RowKit
def Y4(ds:List Dv):Nat->Int->List Dv
 |0,_=>[]
 | f+1,n=>match YE ds n with
   |none=>[]
   |some d=>d::Y4 ds f d.pa
theorem GB(ds:List Dv):∀(f:Nat) (n:Int),(Y4 ds f n).length<=f
 |0,_=>zo
 | f+1,n=>by
   rw[Y4];cases YE ds n with
   |none=>exact X1 _
   |some d=>exact Nat.succ_le_succ (GB ds f d.pa)
theorem R3{ds:List Dv}{n:Int}{d:Dv}(h:YE ds n=some d):d∈ds/\d.ix=n:=⟨List.mem_of_find?_eq_some h,by simpa using List.find?_some h⟩
theorem CR(ds:List Dv):∀(f:Nat) (n:Int),∀d∈Y4 ds f n,d∈ds
 |0,_,_,h=>qI
 | f +1,n,d,h=>by
   rw[Y4]at h;cases hf:YE ds n with
   |none=>rw[hf]at h;cases h
   | some x=>
     rw[hf]at h;rcases List.mem_cons.1 h with rfl|h1
     · exact(R3 hf).1
     · exact CR ds f x.pa d h1
def TC(cs:List Dv)(w:World)(e:Ending)(w':World):Prop:=∃A' c',e=.returned (.slice A' cs.length c')/\w'.ownsRow w.heap.size zp 10 (.slice A' cs.length c') cs.length (cellsOf zM cs)/\Below w.heap.size w w'
theorem BT{B:Nat}{A:Option Addr}{c:Nat}{l:List Dv}(t:Dv)(w:World)(h:w.ownsRow B zp 10 (.slice A l.length c) l.length (cellsOf zM l))(hl:l.length<=1000000)(hB:B<=w.heap.size):
 ∃A' c' w',(Zv #[28,28] 28 #[.slice A l.length c,.slice (some ⟨w.heap.size,0,none⟩) 1 1]).run prog (w.alloc (.cells (zM t).toArray zp))=.ok (.slice A' (l.length+1) c') w'/\w'.ownsRow B zp 10 (.slice A' (l.length+1) c') (l.length+1) (cellsOf zM (l++[t]))/\w.grownBy w' (Value.slice A l.length c).ownBlock/\∀p,A'=some p->w.heap.size<=p.block∨∃q,A=some q/\q.block=p.block:=
 Gq (S:=28) (T:=zp) (k:=10) (b:=136) (enc:=zM) Ng (by exact TJ) rfl zi zi Xl PK t w h hl hB
attribute [local go_sem ↓] ZU
theorem zin(A:Option Addr)(c:Nat)(ds:List Dv)(n:Int)(w:World)(h:qj w A ds):
 Calls prog 64 #[zV A ds c,.int .i64 n] w (TC (Y4 ds ds.length n) w):=by
 obtain⟨w1,hw1⟩:∃w1,w.alloc (.cells #[.slice A ds.length c] 30)=w1:=⟨_,rfl⟩;have hb1:Below w.heap.size w w1:=ZX;have hr1:w1.heap[w.heap.size]? =some (.cells #[.slice A ds.length c] 30 (0,0)):=Qo;have hs1:w1.heap.size=w.heap.size+1:=YO;have hlen:=h.len;have HF:=za (fun(n:Int) (W:World) (hW:Below w1.heap.size w1 W)=>RH A c ds n W (h.keep (bt hb1 hW)));unfold zV at HF;have HTr:Hid (∀W:World,Below w1.heap.size w1 W->W.cell? ⟨w.heap.size,0,none⟩=some (.slice A ds.length c)):=za fun W hW=>zd ((hW.block _ (zh hr1)).trans hr1) rfl;generalize hX:Y4 ds ds.length n=X;have HX:=za hX;have HB1:=za hb1;have HW1:=za hw1;have hlW:w.heap.size<w1.heap.size:=zb;clear hX hb1 hr1 hw1 hs1 h;unfold zV;obtain⟨N,hN⟩:∃N,ds.length=N:=⟨_,rfl⟩;rw[hN]at hlen HF HTr HX HW1⊢;clear hN;go_enter func64,ntmps64;go_upto_region 1 with fail
 rw[HW1.out];go_wp2;go_loopg [1,5,6,7] (N+1) (fun gk s1 s5 _ _ wr=>∃(o:List Dv) (OA:Option Addr) (oc:Nat) (m:Int),s1=.int .i64 m/\s5=.slice OA o.length oc/\o.length+gk=N+1/\o.length<=N/\Hid (wr.ownsRow w1.heap.size zp 10 (.slice OA o.length oc) o.length (cellsOf zM o))/\Hid (Below w1.heap.size w1 wr)/\Hid (X=o++Y4 ds (N - o.length) m))
 case atStart=>exact⟨[],none,0,n,rfl,rfl,zl,X1 _,za (World.ownsRow_nil _ _ _ _),za zj,za (by rw[<-HX.out];rfl)⟩
 case round=>
  obtain⟨o,OA,oc,m,rfl,rfl,hog,hoN,HO,HB,HE⟩:=hrel;have c0:=HTr.out wr HB.out;have hlr:w.heap.size<wr.heap.size:=i4 hlW HB.out.size;have hEnd:Hid (∀(W:World),Below wr.heap.size wr W->X=o->∃A' c',Ending.returned (.slice OA o.length oc)=.returned (.slice A' X.length c')/\W.ownsRow w.heap.size zp 10 (.slice A' X.length c') X.length (cellsOf zM X)/\Below w.heap.size w W):=za fun W hW e=>by
   subst e;exact⟨OA,oc,rfl,Qq (qi HO.out hW) (HB1.out.size),bt HB1.out (bt HB.out hW)⟩
  unfold TC;by_cases hlt:o.length<N
  · have hltI:(o.length:Int)<(N:Int):=by omega
    have HF1:=HF.out m wr HB.out;obtain⟨f,hf⟩:∃f,N - o.length=f+1:=⟨N - o.length - 1,zb⟩;have hE:=HE.out;rw[hf,Y4]at hE;cases hfx:YE ds m with
    | none=>
      rw[hfx]at hE HF1;dsimp only at hE;rw[zk7]at hE;have HE2:=za hE;have HF2:=za HF1;unfold KG zY at HF2;dsimp only[Option.getD,Option.isSome]at HF2;clear hE HF1 hfx hf;generalize o.length=M at*;go_wp2_with (go_at_call 24;refine HF2.out.mono ?_;rintro e w3 ⟨rfl,hb3⟩)
      go_ret;exact hEnd.out _ (zP hb3) HE2.out
    | some d=>
      rw[hfx]at hE HF1;dsimp only at hE;have HE2:=za hE;have HF2:=za HF1;unfold KG zY at HF2;dsimp only[Option.getD,Option.isSome]at HF2;have HAp:=za (fun(W:World) (hW:Below wr.heap.size wr W)=>BT d W (qi HO.out hW) zb (i3 HB.out.size hW.size));clear hE HF1 hfx;go_upto_region 5 with(go_at_call 24;refine HF2.out.mono ?_;rintro e w3 ⟨rfl,hb3⟩;have HB3:=za hb3;clear hb3)
      have hb4:=(zP HB3.out:Below wr.heap.size wr (w3.alloc (.cells #[.int .i64 d.ix,.int .i64 d.pa,.string d.nam,.string d.og,.string d.sb,.string d.dr,.string d.al,.int .i64 d.kd,.int .i64 d.nb,.slice d.ats.A d.ats.l.length d.ats.c] zp)));have hq4:=i5 w3 (.cells #[.int .i64 d.ix,.int .i64 d.pa,.string d.nam,.string d.og,.string d.sb,.string d.dr,.string d.al,.int .i64 d.kd,.int .i64 d.nb,.slice d.ats.A d.ats.l.length d.ats.c] zp);obtain⟨A6,c6,w6,hap,hown,hgr,_⟩:=HAp.out _ hb4;unfold zM at hap;simp only[World.size_alloc]at hap;have hrow:∀j,(Value.slice OA o.length oc).ownBlock=some j->w1.heap.size<=j/\j<wr.heap.size:=fun j ej=>by
       obtain⟨p,e1,e2⟩:=ZQ ej;have:=qu HO.out p e1;rw[<-e2];exact this
      have hq6:=(hgr.block w3.heap.size (zh hq4) (fun e=>by have:=(hrow _ e.symm).2;have:=HB3.out.size;omega)).trans hq4;have d1:=zd (j:=1) hq6 rfl;have hl6:=zh hq6;have HO6:=za hown;have HB6:=za ((HB.out.trans (hb4.mono HB.out.size)).grown hgr (i3 HB.out.size hb4.size) (fun j ej=>(hrow j ej).1):Below w1.heap.size w1 w6);clear hown hgr hrow hq6 hq4 hb4 HAp;go_wp2;go_roundg (gk - 1)
      case measure=>omega
      case rel=>
       have hl9:(o++[d]).length=o.length+1:=zl;refine⟨o++[d],A6,c6,d.pa,rfl,by rw[hl9],by rw[hl9];omega,by rw[hl9];omega,?_,HB6,?_⟩
       · rw[hl9];exact HO6
       · refine za ?_;rw[HE2.out,hl9,show N - (o.length+1)=f from by omega,zk9];rfl
  · obtain rfl:o.length=N:=by omega
    have hE:=HE.out;rw[zj2,Y4,zk7]at hE;have HE2:=za hE;clear hE;go_wp2;go_ret;exact hEnd.out _ zj HE2.out
end
section
open Go.RowKit
def Gb(g:Nat)(s:ByteArray)(w:World)(a:Nat)(r:Cs×zZ)(e:Ending)(w':World):Prop:=∃m:Cm,e=.returned (.agg (ZN m).toArray)/\m.cs=r.1/\m.cnt+a<=r.2.a+1/\Zm w g s r.2 w'/\ZS (fun b=>w.heap.size<=b) w' m
def IJ(g:Nat)(s:ByteArray)(w:World)(a:Nat)(r:Ir×zZ)(e:Ending)(w':World):Prop:=∃(A:Option Addr) (c:Nat) (l:List Cm),e=.returned (.slice A l.length c)/\(⟨l.length,ZB l,Vd l⟩:Ir)=r.1/\Qz l+a<=r.2.a/\Zm w g s r.2 w'/\zE w' A 7 l.length (cellsOf ZN l)/\l.length<=100000/\(∀a,A=some a->w.heap.size<=a.block)/\∀x∈l,ZS (fun b=>w.heap.size<=b) w' x
def C6(g:Nat)(s:ByteArray)(f:Nat):Prop:=∀(p:zZ) (w:World),Qg w g s p->Env w->3*(s.size - p.a)+1<=f->Calls prog 259 #[.pointer (some ⟨g,0,none⟩)] w (Gb g s w p.a (Yc (L s) f p))
theorem Qg.grown{w w':World}{g:Nat}{s:ByteArray}{p:zZ}{row:Option Nat}(h:Qg w g s p)(hg:w.grownBy w' row)(hr:some g≠row):Qg w' g s p:=⟨(hg.block g (zh h.box) hr).trans h.box,h.le,h.sz,h.asc⟩
theorem Zm.trans{w w1 w2:World}{g:Nat}{s:ByteArray}{p q:zZ}(h:Zm w g s p w1)(k:Zm w1 g s q w2):Zm w g s q w2:=⟨k.ps,h.gr.trans k.gr⟩
theorem Env.gr{w w':World}{g:Nat}(h:Env w)(hg:nG<=g)(hw:w.grownBy w' (some g)):Env w':=h.keep ((Below.refl nG w).grown hw h.toEnv0.size (fun j e=>by rw[<-zx e];exact hg)) zo
structure U2(g:Nat)(s:ByteArray)(w:World)(A:Option Addr)(c:Nat)(l:List Cm)(q:zZ)(W:World):Prop where
 own:W.ownsRow w.heap.size zy 7 (.slice A l.length c) l.length (cellsOf ZN l)
 ms:∀x∈l,ZS (fun b=>w.heap.size<=b/\some b≠(Value.slice A l.length c).ownBlock) W x
 ps:Zm w g s q W
 gl:g<w.heap.size
theorem U2.nil{g:Nat}{s:ByteArray}{w W:World}{q:zZ}(h:Zm w g s q W)(hg:g<w.heap.size):U2 g s w none 0 [] q W:=⟨World.ownsRow_nil _ _ _ _,(fun x hx=>YT),h,hg⟩
theorem U2.one{g:Nat}{s:ByteArray}{w W W':World}{A:Option Addr}{c:Nat}{l:List Cm}{q q':zZ}(h:U2 g s w A c l q W)(k:Zm W g s q' W'):U2 g s w A c l q' W':=by
 have hs:=h.ps.gr.size;have hne:∀b,(Value.slice A l.length c).ownBlock=some b->some b≠some g:=fun b e e2=>by
  have h1:=(h.own.lt b e).1;have h2:=h.gl;injection e2 with e2
  omega
 refine⟨Xw h.own k.gr (fun j e e2=>by injection e with e;exact hne _ e2 (congrArg some e.symm)),fun x hx=>(h.ms x hx).grown k.gr (fun b hb e=>?_) (fun b _ hb=>hb),h.ps.trans k,h.gl⟩;injection e with e
 have:=h.gl;have:=hb.1;omega
theorem U2.add{g:Nat}{s:ByteArray}{w W W1:World}{A:Option Addr}{c:Nat}{l:List Cm}{q q':zZ}{m:Cm}(h:U2 g s w A c l q W)(k:Zm W g s q' W1)(hm:ZS (fun b=>W.heap.size<=b) W1 m)(hl:l.length<=100000):
 (Yy XJ 1 #[(0,.agg (ZN m).toArray)]).run prog W1=.ok (.slice (some ⟨W1.heap.size,0,none⟩) 1 1) (W1.alloc (.cells (ZN m).toArray zy))/\∃A' c' W2,(Zv #[XJ,XJ] XJ #[.slice A l.length c,.slice (some ⟨W1.heap.size,0,none⟩) 1 1]).run prog (W1.alloc (.cells (ZN m).toArray zy))=.ok (.slice A' (l.length+1) c') W2/\U2 g s w A' c' (l++[m]) q' W2:=by
 have h1:=h.one k;have hs:=h1.ps.gr.size;refine⟨VE zg Ji zi zi _ Rk _,?_⟩;obtain⟨A',c',W2,ha,ho,hg,hA⟩:=Gq (T:=zy) (S:=XJ) zg Ji rfl zi zi Nm RI m W1 h1.own zb hs;have hlen:(l++[m]).length=l.length+1:=zl;refine⟨A',c',W2,ha,?_,?_,⟨?_,?_⟩,h.gl⟩
 · rw[hlen];exact ho
 · rw [hlen];have hnew:∀b,b<W1.heap.size->some b≠(Value.slice A l.length c).ownBlock->some b≠(Value.slice A' (l.length+1) c').ownBlock:=fun b hb hn e=>by
    obtain⟨p,e1,e2⟩:=ZQ e.symm;rcases hA p e1 with h5|⟨r,h5,h6⟩
    · omega
    · exact hn (by rw[h5];show some b=some r.block;rw[h6,e2])
   intro x hx;rcases List.mem_append.1 hx with hx|hx
   · exact(h1.ms x hx).grown hg (fun b hb=>hb.2) (fun b hb hp=>⟨hp.1,hnew b hb hp.2⟩)
   · rw[List.mem_singleton]at hx;subst hx;have hlo:∀b,W.heap.size<=b->some b≠(Value.slice A l.length c).ownBlock:=fun b hb e=>by
      have:=(h.own.lt b e.symm).2;omega
     exact hm.grown hg (fun b hb=>hlo b hb) (fun b hb hp=>⟨i3 h.ps.gr.size hp,hnew b hb (hlo b hp)⟩)
 · exact h1.ps.ps.grown hg (fun e=>by have:=(h1.own.lt g e.symm).1;have:=h.gl;omega)
 · have hk:=h1.ps.gr;exact⟨hg.os.trans hk.os,hg.tape.trans hk.tape,hg.output.trans hk.output,i3 hk.size hg.size,fun b hb hn=>(hg.block b (i4 hb hk.size) fun e=>by have:=(h1.own.lt b e.symm).1;omega).trans (hk.block b hb hn)⟩
theorem vP{s:ze}{t:ze}{p:zZ}(h:Vq s t p=true):(Uf s t p).a=p.a+t.length:=by unfold Uf;rw[if_pos h]
theorem Tp{s t:ze}{p:zZ}(h:(Za s t p).b=false):(Za s t p).a=p.a+t.length:=by
 unfold Za at h⊢;rw[Bool.or_eq_false_iff]at h;exact vP (by simpa using h.1)
theorem Dc(s t:ze)(p:zZ):p.a<=(Uf s t p).a:=by unfold Uf;split<;>simp
theorem VO(s t:ze)(p:zZ):p.a<=(Za s t p).a:=Dc s t p
theorem K0(s t:ze)(p:zZ):p.a<=(XX s t p).a:=zd1 _ _
theorem IA(s t:ze)(p:zZ):p.a<=(UH s (Za s t p)).2.a:=i3 (VO s t p) (zd1 _ _)
theorem L4(s k:ze)(p:zZ):p.a<=(UN s k p).2.a:=by
 unfold UN
 repeat' split
 · exact i3 (IA s _ p) (i3 (IA s _ _) (IA s _ _))
 · exact zo
 · exact i3 (IA s _ p) (IA s _ _)
 · exact zo
 · exact zo
theorem jj(s:ze):∀f,(∀p,p.a<=(Yc s f p).2.a)/\(∀p,p.a<=(YH s f p).2.a)/\∀x p,p.a<=(kM s f x p).2.a
 |0=>⟨fun p=>by rw[Yc];exact zo,fun p=>by rw[YH];exact zo,fun x p=>by rw[kM];exact zo⟩
 | f + 1=>by
   obtain⟨h1,h2,h3⟩:=jj s f;refine⟨fun p=>?_,fun p=>?_,fun x p=>?_⟩
   · rw[Yc];dsimp only
     split
     · exact K0 _ _ _
     · have e1:=i3 (K0 s [58,44,41] p) (i3 (VO s [58] _) (K0 s [58,40,44,41] _))
       split
       · exact i3 e1 (i3 (VO s [58] _) (K0 s [44,41] _))
       · exact i3 e1 (i3 (L4 s _ _) (h2 _))
   · rw[YH]
     split
     · exact VO _ _ _
     · exact i3 (VO _ _ _) (h3 _ _)
   · rw[kM];dsimp only;have e1:=i3 (h1 p) (Dc s [41] _)
     split
     · exact e1
     · split
       · exact i3 e1 (VO _ _ _)
       · exact i3 e1 (i3 (VO s [44] _) (h3 _ _))
theorem zeq{g:Nat}{s:ByteArray}{w W:World}{A:Option Addr}{c:Nat}{l:List Cm}{q:zZ}{r:Ir×zZ}{a:Nat}(h:U2 g s w A c l q W)(hn:Qz l+a<=q.a)(hz:l.length<=100000)(hr:(⟨⟨l.length,ZB l,Vd l⟩,q⟩:Ir×zZ)=r):IJ g s w a r (.returned (.slice A l.length c)) W:=by
 subst hr;have h2:=zE.of_own h.own;exact⟨A,c,l,rfl,rfl,hn,h.ps,h2.1,hz,fun a e=>h2.2 a e,fun x hx=>(h.ms x hx).keep zj fun b _ hb=>hb.1⟩
attribute [local go_sem ↓] Pr ZU
theorem BQ(g:Nat)(s:ByteArray)(f:Nat)(p:zZ)(w:World)(h:Qg w g s p)(hE:Env w)(hg:nG<=g)(hf:3*(s.size - p.a)+2<=f)(hf2:f<=10000)(hC:∀f',f'<=f->C6 g s f'):
 Calls prog 286 #[.pointer (some ⟨g,0,none⟩)] w (IJ g s w p.a (YH (L s) (f+1) p)):=by
 have HW:=za (JW s ⟨#[40]⟩ g p w h zi);have HC:=za hC;have HE:=za hE;have hgl:=zh h.box;have HG:=za hg;have hF:∀q,(Za (L s) [40] p).b=false->q=Za (L s) [40] p->3*(s.size - q.a)+2<=f:=fun q hb e=>by
  have:=Tp hb;rw[e];simp at this;omega
 have HF:=za hF;have hI:YH (L s) (f+1) p=if(Za (L s) [40] p).b then(⟨0,0,true⟩,Za (L s) [40] p)else kM (L s) f ⟨0,0,true⟩ (Za (L s) [40] p):=by rw[YH]
 have HI:=za hI;clear hC hE hF hI h hf hg;have hwm:=VO (L s) [40] p;have HX:=za ((jj (L s) (f+1)).2.1 p);generalize hP:IJ g s w p.a (YH (L s) (f+1) p)=P at*;have HP:=za hP;clear hP;change Hid (Calls _ _ _ _ fun e w'=>e=.returned (.tuple #[])/\Zm w g s (Za (L s) [40] p) w')at HW;generalize Za (L s) [40] p=p1 at*;generalize p.a=a0 at*;have HWm:=za hwm;clear hwm;go_enter func286,ntmps286;go_wp2_with (go_at_call 284;refine HW.out.mono ?_;rintro e w2 ⟨rfl,hq⟩;have HQ:=za hq;clear hq)
 go_loopg [3] (f+1) (fun gk s3 wr=>∃(A:Option Addr) (c:Nat) (l:List Cm) (q:zZ) (k:Nat),s3=.slice A l.length c/\gk=k+1/\l.length+k=f/\Hid (U2 g s w A c l q wr)/\Hid (q.b=false->3*(s.size - q.a)+2<=k/\Qz l+a0<=q.a)/\Hid ((if q.b then(⟨0,0,true⟩,q)else kM (L s) k ⟨l.length,ZB l,Vd l⟩ q)=YH (L s) (f+1) p))
 case atStart=>exact⟨none,0,[],p1,f,rfl,rfl,zl,za (U2.nil HQ.out hgl),za fun hb=>⟨HF.out p1 hb rfl,by simpa [Qz]using HWm.out⟩,za HI.out.symm⟩
 case round=>
  obtain⟨A,c,l,q,k,rfl,rfl,hlk,HS,HK,HT⟩:=hrel;obtain⟨_,_,c2,_,hgr⟩:=HS.out.ps.ps.cells;clear HQ HW;cases hb:q.b with
  | true=>
    rw[hb]at c2;have HR:Hid (P (.returned (.slice none 0 0)) wr):=by
     have h2:=HT.out;rw[if_pos hb]at h2;show P _ _;rw[<-HP.out,<-h2];exact⟨none,0,[],rfl,rfl,by have h7:=HX.out;rw[<-h2]at h7;simpa [Qz]using h7,HS.out.ps,zE.nil,zl,(fun a e=>ZK),(fun x hx=>YT)⟩
    clear hb;go_wp2;exact HR.out
  | false=>
    rw[hb]at c2;obtain⟨hk,hcn⟩:=HK.out hb;have HCn:=za hcn;clear hcn;have hT:=HT.out;rw[if_neg (by rw[hb];decide)]at hT;clear HT HK hb;obtain⟨k,rfl⟩:∃k',k=k'+1:=⟨k - 1,zb⟩;have HCt:=za (HC.out k zb q wr HS.out.ps.ps (HE.out.gr HG.out HS.out.ps.gr) zb);have hq:q.a<=s.size:=HS.out.ps.ps.le;rw[kM]at hT;dsimp only at hT;have hmo:=(jj (L s) k).1 q;generalize Yc (L s) k q=r at*;obtain⟨cs,q2⟩:=r;dsimp only at hT hmo;have HT:=za hT;clear hT;have HSk0:=fun W h=>Da s ⟨#[41]⟩ g q2 W h zi;change∀W h,Calls _ _ _ _ (fun e w'=>e=.returned (.bool (Vq (L s) [41] q2))/\Zm W g s (Uf (L s) [41] q2) w')at HSk0;cases hsk:Vq (L s) [41] q2 with
    | true=>
      rw[hsk]at HSk0 HT;have HSk:=za HSk0;have HSkb:=za hsk;clear HSk0 hsk hk;go_wp2_with (first
       |(go_at_call 259;refine HCt.out.mono ?_;rintro e w3 ⟨m,rfl,hm,hct,hq3,hn⟩;have HCt2:=za hct;obtain⟨hbs,A',c',w4,hap,hS4⟩:=HS.out.add hq3 hn zb;have HS4:=za hS4;have HM:=za hm;clear hm hct hq3 hn hS4)
       |(go_at_call 304;refine(HSk.out w4 HS4.out.ps.ps).mono ?_;rintro e w5 ⟨rfl,hq5⟩;have HS5:=za (HS4.out.one hq5);clear hq5))
      have h9:=zeq HS5.out (r:=YH (L s) (f+1) p) (a:=a0) (by rw[vP HSkb.out,To];have:=HCn.out;have:=HCt2.out;simp at*;omega) zK (by rw[<-HT.out,if_pos trivial,<-HM.out,jf,D2,r7];rfl);rw[HP.out,r7]at h9;exact h9
    | false=>
      rw[hsk]at HSk0 HT;have HSk:=za HSk0;have hq6:Uf (L s) [41] q2=q2:=by unfold Uf;rw[if_neg (by rw[hsk];decide)]
      rw[hq6]at HSk0 HT;have HSk:=za HSk0;have HWt:=za fun W h=>JW s ⟨#[44]⟩ g q2 W h zi;change Hid (∀W h,Calls _ _ _ _ (fun e w'=>e=.returned (.tuple #[])/\Zm W g s (Za (L s) [44] q2) w'))at HWt;have HMo:=za hmo;clear HSk0 hsk hq6 hmo;go_wp2_with (first
       |(go_at_call 259;refine HCt.out.mono ?_;rintro e w3 ⟨m,rfl,hm,hct,hq3,hn⟩;have HCt2:=za hct;obtain⟨hbs,A',c',w4,hap,hS4⟩:=HS.out.add hq3 hn zb;have HS4:=za hS4;have HM:=za hm;clear hm hct hq3 hn hS4)
       |(go_at_call 304;refine(HSk.out w4 HS4.out.ps.ps).mono ?_;rintro e w5 ⟨rfl,hq5⟩;have HS5:=za (HS4.out.one hq5);clear hq5)
       |(go_at_call 284;refine(HWt.out w5 HS5.out.ps.ps).mono ?_;rintro e w6 ⟨rfl,hq6⟩;have HS6:=za (HS5.out.one hq6);clear hq6))
      go_roundg (k+1)
      case measure=>omega
      case rel=>
       refine⟨A',c',l++[m],Za (L s) [44] q2,k,zl,rfl,zK,HS6,za fun hb=>⟨?_,?_⟩,za ?_⟩
       · have:=Tp hb;have:=HMo.out;have:=HS6.out.ps.ps.le;simp at*;omega
       · rw[Tp hb,To];have:=HCn.out;have:=HCt2.out;simp at*;omega
       · rw[<-HT.out,<-HM.out,jf,D2,r7];exact(if_neg Bool.false_ne_true).symm
end
section
open Go.RowKit
abbrev qL:Array Value:=#[.int .i64 0,.string ⟨#[]⟩,.string ⟨#[]⟩,.int .i64 0,.int .i64 0,.int .i64 0,.slice none 0 0]
theorem Hm(parts:Array (Nat×Value)):Instr.build zy parts=ZI zy parts:=U7
theorem C4(i:ByteArray)(W:World):(ZI zy #[(1,.string i)]).run prog W=.ok (.agg #[.int .i64 0,.string i,.string ⟨#[]⟩,.int .i64 0,.int .i64 0,.int .i64 0,.slice none 0 0]) W:=Xr
theorem AF(W:World):(ZI zy #[]).run prog W=.ok (.agg qL) W:=Xr
theorem CG(s:ByteArray)(ends:ze)(a:Nat)(h:s.size<=1000):(bs (qX (L s) ends a)).size<=1000:=by
 have:=(List.takeWhile_prefix (fun b=> !ends.contains b) (l:=(L s).drop a)).length_le;rw[W8,zF]at this;rw[Zg];unfold qX;omega
structure QF(g:Nat)(s:ByteArray)(w:World)(R C:Nat)(p:zZ)(cs:Array Value)(W:World):Prop where
 ps:Zm w g s p W
 bR:W.heap[R]? =some (.cells qL zy (0,0))
 bC:W.heap[C]? =some (.cells cs zy (0,0))
 lR:w.heap.size<=R
 lC:w.heap.size<=C
 ne:R≠C
 gl:g<w.heap.size
section
variable{g:Nat}{s:ByteArray}{w W W':World}{R C:Nat}{p q:zZ}{cs:Array Value}
theorem QF.step(h:QF g s w R C p cs W)(k:Zm W g s q W'):QF g s w R C q cs W':=by
 have h1:=h.lR;have h2:=h.lC;have h3:=h.gl;exact⟨h.ps.trans k,(k.gr.block R (zh h.bR) (fun e=>ZD)).trans h.bR,(k.gr.block C (zh h.bC) (fun e=>ZD)).trans h.bC,h1,h2,h.ne,h3⟩
theorem QF.set(h:QF g s w R C p cs W)(i:Nat)(v:Value):QF g s w R C p (cs.setIfInBounds i v) (W.setCell ⟨C,i,none⟩ v):=by
 have h2:=h.lC;have h3:=h.gl;have hk:=h.ps.gr;have hg:=qE W C i v;exact⟨⟨h.ps.ps.grown hg (fun e=>ZD),⟨hg.os.trans hk.os,hg.tape.trans hk.tape,hg.output.trans hk.output,i3 hk.size hg.size,fun b hb hn=>(hg.block b (i4 hb hk.size) fun e=>ZD).trans (hk.block b hb hn)⟩⟩,(heap_setCell_other W ⟨C,i,none⟩ _ v h.ne).trans h.bR,by rw[heap_setCell_same _ _ _ _ _ _ h.bC],h.lR,h2,h.ne,h3⟩
theorem QF.cl(h:QF g s w R C p cs W):(∀i,W.frozen? ⟨C,i,none⟩=false)/\C<W.heap.size/\R<W.heap.size:=⟨fun _=>frozen_of_row _ _ _ _ _ h.bC,zh h.bC,zh h.bR⟩
end
theorem QF.start{g:Nat}{s:ByteArray}{w W:World}{p:zZ}(i:ByteArray)(h:Zm (w.alloc (.cells qL zy)) g s p W)(hg:g<w.heap.size):
 ∃W5,(Zo zy (.pointer (some ⟨W.heap.size,0,none⟩)) (.agg #[.int .i64 0,.string i,.string ⟨#[]⟩,.int .i64 0,.int .i64 0,.int .i64 0,.slice none 0 0])).run prog (W.alloc (.cells qL zy))=.ok () W5/\QF g s w w.heap.size W.heap.size p #[.int .i64 0,.string i,.string ⟨#[]⟩,.int .i64 0,.int .i64 0,.int .i64 0,.slice none 0 0] W5:=by
 have hs:w.heap.size+1<=W.heap.size:=by have:=h.gr.size;simpa using this
 have hb:=zL W (.cells qL zy);have hg2:=qR (W.alloc (.cells qL zy)) W.heap.size #[.int .i64 0,.string i,.string ⟨#[]⟩,.int .i64 0,.int .i64 0,.int .i64 0,.slice none 0 0];have hR:W.heap[w.heap.size]? =some (.cells qL zy (0,0)):=(h.gr.block _ zl (fun e=>ZD)).trans (i5 w _);refine⟨_,XU (i5 W _) GJ Tv Xe zg,?_,?_,?_,zo,zb,zb,hg⟩
 · refine⟨(h.ps.keep hb).grown hg2 (fun e=>ZD),?_⟩;have hk:=(zG (zL w (.cells qL zy)) (some g)).trans h.gr;have hk2:=hk.trans (zG hb (some g));exact⟨hg2.os.trans hk2.os,hg2.tape.trans hk2.tape,hg2.output.trans hk2.output,i3 hk2.size hg2.size,fun b hb3 hn=>(hg2.block b (i4 hb3 hk2.size) fun e=>ZD).trans (hk2.block b hb3 hn)⟩
 · exact(hg2.block _ zK (fun e=>ZD)).trans ((hb.block _ zb).trans hR)
 · exact setRow_heap _ _ _ _ _ _ (i5 W _)
theorem QF.fin{g:Nat}{s:ByteArray}{w W:World}{R C:Nat}{p:zZ}{cs:Array Value}{r:Cs×zZ}{m:Cm}(h:QF g s w R C p cs W)(hm:cs=(ZN m).toArray)(hr:(m.cs,p)=r){a0:Nat}(hc:m.cnt+a0<=p.a+1)(hn:ZS (fun b=>w.heap.size<=b/\b≠R) W m):
 (qD zy (.pointer (some ⟨C,0,none⟩))).run prog W=.ok (.agg cs) W/\(Zo zy (.pointer (some ⟨R,0,none⟩)) (.agg cs)).run prog W=.ok () (W.setRow R cs)/\(W.setRow R cs).heap[R]? =some (.cells cs zy (0,0))/\cs.size=7/\Gb g s w a0 r (.returned (.agg cs)) (W.setRow R cs):=by
 subst hm hr;have hz:(ZN m).toArray.size=7:=Rk;have h1:(ZN m).toArray.all (·.oneCell')=true:=by
  rw[Array.all_eq_true'];intro u hu;exact RI m u (by simpa using hu)
 have hg2:=qR W R (ZN m).toArray;have hk:=h.ps.gr;have h5:=h.lR;have h6:=h.gl;refine⟨?_,?_,setRow_heap _ _ _ _ _ _ h.bR,hz,m,rfl,rfl,hc,⟨h.ps.ps.grown hg2 (fun e=>ZD),?_⟩,hn.grown hg2 (fun b hb e=>by injection e with e;exact hb.2 e) (fun b _ hb=>hb.1)⟩
 · have h2:=UI (P:=prog) JK Gf h.bC (o:=0) Jy;rw[h2]
   congr 2
   rw[zk4,<-hz,Array.extract_size]
 · have h2:=XU (P:=prog) (T:=zy) (o:=0) (vs:=(ZN m).toArray) h.bR Jy Jy (by rw[hz];exact Xe) h1;rw[h2,UL qL _ (by rw[hz];rfl)]
 · exact Bx
theorem QF.bad{g:Nat}{s:ByteArray}{w W:World}{R C:Nat}{p:zZ}{cs:Array Value}(h:QF g s w R C p cs W):QF g s w R C {p with b:=true} cs (W.setCell ⟨g,2,none⟩ (.bool true)):=h.step ⟨h.ps.ps.setB true,qE _ _ _ _⟩
structure CtF(g:Nat)(s:ByteArray)(w:World)(R C:Nat)(a0:Nat)(r:Cs×zZ)(kd:Int)(i:ByteArray)(sl tt le:Int)(v:Value)(W:World):Prop where
 c6:W.cell? ⟨C,6,none⟩=some (.slice none 0 0)
 f6:W.frozen? ⟨C,6,none⟩=false
 lC:C<W.heap.size
 lR:R<W.heap.size
 ld:(qD zy (.pointer (some ⟨C,0,none⟩))).run prog (W.setCell ⟨C,6,none⟩ v)=.ok (.agg #[.int .i64 kd,.string i,.string ⟨#[]⟩,.int .i64 sl,.int .i64 tt,.int .i64 le,v]) (W.setCell ⟨C,6,none⟩ v)
 st:(Zo zy (.pointer (some ⟨R,0,none⟩)) (.agg #[.int .i64 kd,.string i,.string ⟨#[]⟩,.int .i64 sl,.int .i64 tt,.int .i64 le,v])).run prog (W.setCell ⟨C,6,none⟩ v)=.ok () ((W.setCell ⟨C,6,none⟩ v).setRow R #[.int .i64 kd,.string i,.string ⟨#[]⟩,.int .i64 sl,.int .i64 tt,.int .i64 le,v])
 bx:((W.setCell ⟨C,6,none⟩ v).setRow R #[.int .i64 kd,.string i,.string ⟨#[]⟩,.int .i64 sl,.int .i64 tt,.int .i64 le,v]).heap[R]? =some (.cells #[.int .i64 kd,.string i,.string ⟨#[]⟩,.int .i64 sl,.int .i64 tt,.int .i64 le,v] zy (0,0))
 cp:Gb g s w a0 r (.returned (.agg #[.int .i64 kd,.string i,.string ⟨#[]⟩,.int .i64 sl,.int .i64 tt,.int .i64 le,v])) ((W.setCell ⟨C,6,none⟩ v).setRow R #[.int .i64 kd,.string i,.string ⟨#[]⟩,.int .i64 sl,.int .i64 tt,.int .i64 le,v])
theorem QF.inner{g:Nat}{s:ByteArray}{w:World}{R f:Nat}{kd sl tt le:Int}{i:ByteArray}{q:zZ}{r:Cs×zZ}(hiz:i.size<=1000)(hI:∀W,Qg W g s q->Env W->Calls prog 286 #[.pointer (some ⟨g,0,none⟩)] W (IJ g s W q.a (YH (L s) f q)))(hE:Env w)(hg:nG<=g){a0:Nat}(hq0:a0<=q.a)
 (hr:((⟨kd,i,⟨#[]⟩,if kd=0 then(YH (L s) f q).1.dep else(YH (L s) f q).1.dep+1,QK ⟨kd,i,⟨#[]⟩,sl,tt,le,(YH (L s) f q).1.n⟩&&(YH (L s) f q).1.ok⟩,(YH (L s) f q).2):Cs×zZ)=r)(C:Nat)(W:World)(h:QF g s w R C q #[.int .i64 kd,.string i,.string ⟨#[]⟩,.int .i64 sl,.int .i64 tt,.int .i64 le,.slice none 0 0] W):
 Calls prog 286 #[.pointer (some ⟨g,0,none⟩)] W (fun e W'=>∃A n c,e=.returned (.slice A n c)/\CtF g s w R C a0 r kd i sl tt le (.slice A n c) W'):=by
 refine(hI W h.ps.ps (hE.gr hg h.ps.gr)).mono fun e W' hp=>?_;obtain⟨A,c,l,rfl,hir,hct,hq,hrow,hz,hA,hx⟩:=hp;have h1:=h.step hq;have h2:=h1.set 6 (.slice A l.length c);have hR:=zh h.bR;have hC:=zh h.bC;have hg2:=qE W' C 6 (.slice A l.length c);have hm:ZS (fun b=>w.heap.size<=b/\b≠R) (W'.setCell ⟨C,6,none⟩ (.slice A l.length c)) (.mk kd i ⟨#[]⟩ sl tt le A c l):=.mk (hrow.grown hg2 fun a e e2=>by have:=hA a e;injection e2 with e2;omega) hz ⟨hiz,zi⟩ (fun a e=>by have:=hA a e;have:=h.lR;omega) fun x hx'=>(hx x hx').grown hg2 (fun b hb e=>ZD) fun b _ hb=>by have:=h.lR;omega
 obtain⟨e1,e2,e3,_,e5⟩:=h2.fin (r:=r) rfl (by
  rw[<-hr,<-hir];rfl) (a0:=a0) (by rw[Cm.cnt];omega) hm
 exact⟨A,l.length,c,rfl,zd h1.bC rfl,frozen_of_row _ _ _ _ _ h1.bC,zh h1.bC,zh h1.bR,e1,e2,e3,e5⟩
theorem QF.fin0{g:Nat}{s:ByteArray}{w W:World}{p:zZ}(h:Zm (w.alloc (.cells qL zy)) g s p W)(hg:g<w.heap.size):
 (Zo zy (.pointer (some ⟨w.heap.size,0,none⟩)) (.agg qL)).run prog W=.ok () (W.setRow w.heap.size qL)/\(W.setRow w.heap.size qL).heap[w.heap.size]? =some (.cells qL zy (0,0))/\∀a0,a0<=p.a->Gb g s w a0 (⟨0,⟨#[]⟩,⟨#[]⟩,0,true⟩,p) (.returned (.agg qL)) (W.setRow w.heap.size qL):=by
 have hR:W.heap[w.heap.size]? =some (.cells qL zy (0,0)):=(h.gr.block _ zl (fun e=>ZD)).trans (i5 w _);have hg2:=qR W w.heap.size qL;have hk:=(zG (zL w (.cells qL zy)) (some g)).trans h.gr;refine⟨?_,setRow_heap _ _ _ _ _ _ hR,fun a0 ha=>⟨.mk 0 ⟨#[]⟩ ⟨#[]⟩ 0 0 0 none 0 [],rfl,rfl,by rw[Cm.cnt,Qz];show 0+1+a0<=p.a+1;omega,⟨h.ps.grown hg2 (fun e=>ZD),?_⟩,.mk zE.nil zl ⟨zi,zi⟩ (fun a e=>ZK) (fun x hx=>YT)⟩⟩
 · have h2:=XU (P:=prog) (T:=zy) (o:=0) (vs:=qL) hR GJ Tv Xe zg;rw[h2,UL qL _ rfl]
 · exact Bx
attribute [local go_sem ↓] I7 Oy Hm
theorem zcz(g:Nat)(s:ByteArray)(f:Nat)(p:zZ)(w:World)(h:Qg w g s p)(hE:Env w)(hg:nG<=g)(hI:qX (L s) [58,44,41] p.a≠[]->∀q W,Qg W g s q->Env W->p.a<q.a->Calls prog 286 #[.pointer (some ⟨g,0,none⟩)] W (IJ g s W q.a (YH (L s) f q))):
 Calls prog 259 #[.pointer (some ⟨g,0,none⟩)] w (Gb g s w p.a (Yc (L s) (f+1) p)):=by
 have hz:=Nh s ⟨#[58,44,41]⟩ g p (w.alloc (.cells qL zy)) (h.keep zu) zi zi;change Calls _ _ _ _ (fun e w'=>e=.returned (.string (bs (qX (L s) [58,44,41] p.a)))/\Zm _ g s (XX (L s) [58,44,41] p) w')at hz;have hK:(bs (qX (L s) [58,44,41] p.a)).toList=qX (L s) [58,44,41] p.a:=M5;have hlt:qX (L s) [58,44,41] p.a≠[]->p.a<(XX (L s) [58,44,41] p).a:=fun e=>Nat.lt_add_of_pos_right (List.length_pos_iff.2 e);obtain⟨r,hC⟩:∃r,Yc (L s) (f+1) p=r:=⟨_,rfl⟩;rw[hC];rw[Yc]at hC;dsimp only at hC;have HTo:=za (K0 (L s) [58,44,41] p);generalize XX (L s) [58,44,41] p=p1 at*;generalize qX (L s) [58,44,41] p.a=k at*;have hgl:=zh h.box;have hsz:=h.sz;have HI:=za hI;have HLt:=za hlt;have HE:=za hE;clear hI hlt h hE;generalize bs k=K at*;have HU:=za hz;clear hz;by_cases hk0:k=[]
 · rw[if_pos hk0]at hC;subst hC;rw[hk0]at hK;have he:K.toList.isEmpty=true:=by rw[hK];rfl
   have hq0:=za fun W2 (h:Zm (w.alloc (.cells qL zy)) g s p1 W2)=>QF.fin0 h hgl;clear hk0 hK;go_enter func259,ntmps259;go_wp2_with (go_at_call 283;refine HU.out.mono ?_;rintro e w2 ⟨rfl,hq⟩;obtain⟨hst,hbx,hcp⟩:=hq0.out w2 hq;have HEnd:=za (hcp _ HTo.out);have hbu:=AF w2;clear hq hcp)
   refine Vf rfl zk hbx underlying290 rfl Xe zk ?_;exact HEnd.out
 · rw [if_neg hk0]at hC;have hne:K.toList.isEmpty=false:=by rw[hK];cases k with|nil=>exact absurd rfl hk0|cons=>rfl
   have hl1:=HLt.out hk0;have HI:=za (HI.out hk0);clear HLt hk0;have HW1:=za fun W h=>JW s ⟨#[58]⟩ g p1 W h zi;change Hid (∀W h,Calls _ _ _ _ (fun e w'=>e=.returned (.tuple #[])/\Zm W g s (Za (L s) [58] p1) w'))at HW1;have hl2:=VO (L s) [58] p1;generalize Za (L s) [58] p1=p2 at*;have HU2:=za fun W h=>Nh s ⟨#[58,40,44,41]⟩ g p2 W h zi zi;change Hid (∀W h,Calls _ _ _ _ (fun e w'=>e=.returned (.string (bs (qX (L s) [58,40,44,41] p2.a)))/\Zm W g s (XX (L s) [58,40,44,41] p2) w'))at HU2;have hl3:=K0 (L s) [58,40,44,41] p2;generalize XX (L s) [58,40,44,41] p2=p3 at*;have HIz:=za (CG s [58,40,44,41] p2.a hsz);generalize bs (qX (L s) [58,40,44,41] p2.a)=i at*;have hl:p.a<p3.a:=zb;clear hl1 hl2 hl3;have HW3:=za fun W h=>JW s ⟨#[58]⟩ g p3 W h zi;change Hid (∀W h,Calls _ _ _ _ (fun e w'=>e=.returned (.tuple #[])/\Zm W g s (Za (L s) [58] p3) w'))at HW3;by_cases hfs:k=[102,115]
   · rw[if_pos hfs]at hC;rw[hfs]at hK;have hl4:=VO (L s) [58] p3;generalize Za (L s) [58] p3=p4 at*;have HU4:=za fun W h=>Nh s ⟨#[44,41]⟩ g p4 W h zi zi;change Hid (∀W h,Calls _ _ _ _ (fun e w'=>e=.returned (.string (bs (qX (L s) [44,41] p4.a)))/\Zm W g s (XX (L s) [44,41] p4) w'))at HU4;have hl5:=K0 (L s) [44,41] p4;generalize XX (L s) [44,41] p4=p5 at*;have HL5:Hid (p.a<=p5.a):=za zb;clear hl4 hl5;have HBz:=za (CG s [44,41] p4.a hsz);generalize bs (qX (L s) [44,41] p4.a)=b at*;have HR:Hid (((Cm.mk 1 i b 0 0 0 none 0 []).cs,p5)=r):=by
      show _=_;rw[<-hC];show((⟨1,i,b,if(1:Int)=0 then 0 else 0+1,QK ⟨1,i,b,0,0,0,0⟩&&true⟩:Cs),p5)=_;rw[if_neg zi,Bool.and_true];rfl
     clear hC hfs HI hl;go_enter func259,ntmps259;go_wp2_with (first
      |(go_at_call 283;refine(HU4.out _ HC3.out.ps.ps).mono ?_;rintro e w7 ⟨rfl,hq⟩;have HC4:=za (HC3.out.step hq);obtain⟨hf,hCl,hRl⟩:=HC4.out.cl;have f0:=hf 0;have f2:=hf 2;have c0:w7.cell? ⟨w4.heap.size,0,none⟩=some (.int .i64 0):=zd HC4.out.bC rfl;have c2:w7.cell? ⟨w4.heap.size,2,none⟩=some (.string ⟨#[]⟩):=zd HC4.out.bC rfl;obtain⟨hld,hsr,hbx,hsz,hcp⟩:=((HC4.out.set 0 (.int .i64 1)).set 2 (.string b)).fin (m:=.mk 1 i b 0 0 0 none 0 []) rfl HR.out (a0:=p.a) (by rw[Cm.cnt,Qz];have:=HL5.out;omega) (.mk zE.nil zl ⟨HIz.out,HBz.out⟩ (fun a e=>ZK) (fun x hx=>YT));change (Zo zy _ (.agg #[.int .i64 1,.string i,.string b,.int .i64 0,.int .i64 0,.int .i64 0,.slice none 0 0])).run _ _=_ at hsr;have HEnd:=za hcp;have HBx:=za hbx;have HSz:=za hsz;clear hf hq hcp hbx hsz)
      |(go_at_call 284;refine(HW3.out _ HC2.out.ps.ps).mono ?_;rintro e w6 ⟨rfl,hq⟩;have HC3:=za (HC2.out.step hq);clear hq)
      |(go_at_call 283;refine(HU2.out _ HQ2.out.ps).mono ?_;rintro e w4 ⟨rfl,hq⟩;obtain⟨w5,hst,hC5⟩:=QF.start i (HQ2.out.trans hq) hgl;have HC2:=za hC5;have hbu:=C4 i w4;clear hq hC5)
      |(go_at_call 284;refine(HW1.out _ HQ.out.ps).mono ?_;rintro e w3 ⟨rfl,hq⟩;have HQ2:=za (HQ.out.trans hq);clear hq)
      |(go_at_call 283;refine HU.out.mono ?_;rintro e w2 ⟨rfl,hq⟩;have HQ:=za hq;clear hq))
     refine Vf rfl zk HBx.out underlying290 rfl (by rw[HSz.out];exact Xe) zk ?_;exact HEnd.out
   · rw[if_neg hfs]at hC;have HF:=za fun(kd sl tt le:Int) (q:zZ) (hk:UN (L s) k p3=((kd,sl,tt,le),q))=>QF.inner (f:=f) (kd:=kd) (sl:=sl) (tt:=tt) (le:=le) (i:=i) (R:=w.heap.size) (r:=r) HIz.out (fun W h1 h2=>HI.out q W h1 h2 (i4 hl Sh)) HE.out hg (a0:=p.a) (i3 (X3 hl) Sh) (by rw[<-hC,hk]);clear hC HI hl;have nk:∀l,k≠l->(K.toList==l)=false:=fun l h=>by rw[hK];simpa using h
     have n0:=nk _ hfs;clear hfs;generalize hp4:Za (L s) [58] p3=p4 at*;have HN1:=za fun W h h2=>yB s g p4 W h h2 hg;generalize hx1:UH (L s) p4=x1 at*;obtain⟨m1,p5⟩:=x1;have HW5:=za fun W h=>JW s ⟨#[47]⟩ g p5 W h zi;change Hid (∀W h,Calls _ _ _ _ (fun e w'=>e=.returned (.tuple #[])/\Zm W g s (Za (L s) [47] p5) w'))at HW5;generalize hp6:Za (L s) [47] p5=p6 at*;have HN2:=za fun W h h2=>yB s g p6 W h h2 hg;generalize hx2:UH (L s) p6=x2 at*;obtain⟨m2,p7⟩:=x2;have HW7:=za fun W h=>JW s ⟨#[47]⟩ g p7 W h zi;change Hid (∀W h,Calls _ _ _ _ (fun e w'=>e=.returned (.tuple #[])/\Zm W g s (Za (L s) [47] p7) w'))at HW7;generalize hp8:Za (L s) [47] p7=p8 at*;have HN3:=za fun W h h2=>yB s g p8 W h h2 hg;generalize hx3:UH (L s) p8=x3 at*;obtain⟨m3,p9⟩:=x3;by_cases h1:k=[114,97,105,100]
     (have HIn:=za (HF.out 2 m1 m2 m3 p9 (by unfold UN;rw[if_pos h1];simp only[hp4,hx1,hp6,hx2,hp8,hx3]));rw[h1]at hK)
     rotate_left
     have n1:=nk _ h1;by_cases h2:k=[99,114,121,112,116]
     (have HIn:=za (HF.out 3 0 0 0 p3 (by unfold UN;rw[if_neg h1,if_pos h2]));rw[h2]at hK)
     rotate_left
     have n2:=nk _ h2;by_cases h3:k=[112,118]
     (have HIn:=za (HF.out 4 m1 m2 0 p7 (by unfold UN;rw[if_neg h1,if_neg h2,if_pos h3];simp only[hp4,hx1,hp6,hx2]));rw[h3]at hK)
     rotate_left
     have n3:=nk _ h3;by_cases h4:k=[116,97,98,108,101]
     (have HIn:=za (HF.out 5 0 0 0 p3 (by unfold UN;rw[if_neg h1,if_neg h2,if_neg h3,if_pos h4]));rw[h4]at hK)
     rotate_left
     (have n4:=nk _ h4;have HIn:=za (HF.out 0 0 0 0 {p3 with b:=true} (by unfold UN;rw[if_neg h1,if_neg h2,if_neg h3,if_neg h4]));clear hK)
     all_goals
      clear nk HF hp4 hx1 hp6 hx2 hp8 hx3
      (try clear h1);(try clear h2);(try clear h3);(try clear h4)
      go_enter func259,ntmps259;go_wp2_with (first
       |(go_at_call 286;refine(HIn.out _ _ (by first|exact HC8.out.set 5 _|exact HC6.out.set 4 _|exact HC2.out.set 0 _|exact HC2.out.bad)).mono ?_;rintro e w20 ⟨A,n,c,rfl,c6,f6,lC,lR,hld,hsr,hbx,hcp⟩;have HEnd:=za hcp;have HBx:=za hbx;clear hcp hbx)
       |(go_at_call 285;refine(HN3.out _ HC7.out.ps.ps (HE.out.gr hg HC7.out.ps.gr)).mono ?_;rintro e w11 ⟨rfl,hq⟩;have h8:=HC7.out.step hq;have c5:w11.cell? ⟨w4.heap.size,5,none⟩=some (.int .i64 0):=zd h8.bC rfl;have f5:=h8.cl.1 5;have hCl:=h8.cl.2;have HC8:=za h8;clear hq h8)
       |(go_at_call 284;refine(HW7.out _ (HC6.out.set 4 _).ps.ps).mono ?_;rintro e w10 ⟨rfl,hq⟩;have HC7:=za ((HC6.out.set 4 (.int .i64 m2)).step hq);clear hq)
       |(go_at_call 285;refine(HN2.out _ HC5.out.ps.ps (HE.out.gr hg HC5.out.ps.gr)).mono ?_;rintro e w9 ⟨rfl,hq⟩;have h6:=HC5.out.step hq;have c4:w9.cell? ⟨w4.heap.size,4,none⟩=some (.int .i64 0):=zd h6.bC rfl;have f4:=h6.cl.1 4;have hCl:=h6.cl.2;have HC6:=za h6;clear hq h6)
       |(go_at_call 284;refine(HW5.out _ ((HC4.out.set 0 _).set 3 _).ps.ps).mono ?_;rintro e w8 ⟨rfl,hq⟩;have HC5:=za (((HC4.out.set 0 _).set 3 (.int .i64 m1)).step hq);clear hq)
       |(go_at_call 285;refine(HN1.out _ HC3.out.ps.ps (HE.out.gr hg HC3.out.ps.gr)).mono ?_;rintro e w7 ⟨rfl,hq⟩;have h4:=HC3.out.step hq;have c0:w7.cell? ⟨w4.heap.size,0,none⟩=some (.int .i64 0):=zd h4.bC rfl;have c3:w7.cell? ⟨w4.heap.size,3,none⟩=some (.int .i64 0):=zd h4.bC rfl;have f0:=h4.cl.1 0;have f3:=h4.cl.1 3;have hCl:=h4.cl.2;have HC4:=za h4;clear hq h4)
       |(go_at_call 284;refine(HW3.out _ HC2.out.ps.ps).mono ?_;rintro e w6 ⟨rfl,hq⟩;have HC3:=za (HC2.out.step hq);clear hq)
       |(go_at_call 283;refine(HU2.out _ HQ2.out.ps).mono ?_;rintro e w4 ⟨rfl,hq⟩;obtain⟨w5,hst,hC5⟩:=QF.start i (HQ2.out.trans hq) hgl;have HC2:=za hC5;have hbu:=C4 i w4;have hCl:=hC5.cl.2;have f0:=hC5.cl.1 0;have c0:w5.cell? ⟨w4.heap.size,0,none⟩=some (.int .i64 0):=zd hC5.bC rfl;obtain⟨_,_,g2,gf,_⟩:=hC5.ps.ps.cells;have gf2:=gf 2;clear hq hC5 gf)
       |(go_at_call 284;refine(HW1.out _ HQ.out.ps).mono ?_;rintro e w3 ⟨rfl,hq⟩;have HQ2:=za (HQ.out.trans hq);clear hq)
       |(go_at_call 283;refine HU.out.mono ?_;rintro e w2 ⟨rfl,hq⟩;have HQ:=za hq;clear hq))
      refine Vf rfl zk HBx.out underlying290 rfl Xe zk ?_;exact HEnd.out
end
section
open Go.RowKit
theorem zjr(g:Nat)(s:ByteArray)(hg:nG<=g)(f:Nat):f<=10000->C6 g s f:=by
 induction f using Nat.strongRecOn with
 | _ f ih=>
   intro hf p w h hE hl;obtain⟨f0,rfl⟩:∃f0,f=f0+1:=⟨f - 1,zb⟩;refine zcz g s f0 p w h hE hg fun _ q W hq hEq hlt=>?_;have h1:=hq.le;obtain⟨f1,rfl⟩:∃f1,f0=f1+1:=⟨f0 - 1,zb⟩;exact BQ g s f1 q W hq hEq hg zb zb fun f' h'=>ih f' zb zb
theorem Ty(l:List Cm):0<=ZB l:=by
 induction l with
 |nil=>exact Int.le_refl _
 |cons x l ih=>rw[ZB];omega
theorem Lj{l:List Cm}{x:Cm}(h:x∈l):x.dep<=ZB l:=by
 induction l with
 |nil=>cases h
 | cons y l ih=>
   rw[ZB];rcases List.mem_cons.1 h with rfl|h
   · omega
   · have:=ih h;omega
theorem zb5{l:List Cm}{k:Nat}(hk:k<l.length):ZB (l.take (k+1))=max (ZB (l.take k)) l[k].dep:=by
 rw[List.take_succ_eq_append_getElem hk,jf]
theorem ziJ(l:List Cm)(k:Nat):ZB (l.take k)<=ZB l:=by
 induction l generalizing k with
 |nil=>simp
 | cons x l ih=>cases k with
   |zero=>exact Ty _
   |succ k=>rw[List.take_succ_cons,ZB,ZB];have:=ih k;omega
theorem TF{w W:World}{P:Nat->Prop}{ki:Int}{i b:ByteArray}{s t e:Int}{A:Option Addr}{c:Nat}{l:List Cm}(h:ZS P w (.mk ki i b s t e A c l))(hb:Below w.heap.size w W){k:Nat}(hk:k<l.length):
 ∃ba off,A=some ⟨ba,off,none⟩/\(qD zy (.pointer (some ⟨ba,off+k*7,none⟩))).run prog W=.ok (.agg (ZN l[k]).toArray) W/\ZS P W l[k]/\∃W1,(Zo zy (.pointer (some ⟨W.heap.size,0,none⟩)) (.agg (ZN l[k]).toArray)).run prog (W.alloc (.cells qL zy))=.ok () W1/\(qD zy (.pointer (some ⟨W.heap.size,0,none⟩))).run prog W1=.ok (.agg (ZN l[k]).toArray) W1/\Below W.heap.size W W1:=by
 obtain⟨hr,_,hx⟩:=h.row;obtain⟨ba,off,e1,_,hc⟩:=(hr.keep hb).row.cell Nm zb;have hz:(ZN l[k]).toArray.size=7:=Rk;have h1:(ZN l[k]).toArray.all (·.oneCell')=true:=by
  rw[Array.all_eq_true'];intro u hu;exact RI _ u (by simpa using hu)
 have hn:=i5 W (.cells qL zy);have h2:=setRow_heap _ W.heap.size _ (ZN l[k]).toArray _ _ hn;refine⟨ba,off,e1,JR JK Gf (Nm _) (fun j u hu=>by rw[zk5];exact hc k l[k] (l0 hk) j u hu),(hx _ (X8 hk)).keep hb (fun _ _ h=>h),(W.alloc (.cells qL zy)).setRow W.heap.size (ZN l[k]).toArray,?_,?_,?_⟩
 · have h3:=XU (P:=prog) (T:=zy) (o:=0) (vs:=(ZN l[k]).toArray) hn Jy Jy (by rw[hz];exact Xe) h1;rw[h3,UL qL _ (by rw[hz];rfl)]
 · rw[UI (P:=prog) JK Gf h2 (o:=0) Jy]
   congr 2
   rw[zk4,<-hz,Array.extract_size]
 · exact qB (zL W _) zo
attribute [local go_sem ↓] I7 Oy
theorem zcV{P:Nat->Prop}{w:World}{m:Cm}(h:ZS P w m):∀W,Below w.heap.size w W->m.dep<=1000000->Calls prog 287 #[.agg (ZN m).toArray] W fun e w'=>e=.returned (.int .i64 m.dep)/\Below W.heap.size W w':=by
 induction h with
 | @mk ki i b s t e A c l hr hlen hsz hP hl ih=>
   intro W hW hd;have HN:=za (ZS.mk (k:=ki) (i:=i) (b:=b) (s:=s) (t:=t) (e:=e) (c:=c) hr hlen hsz hP hl);have hg:=Ty l;have hdl:ZB l<=1000000:=by rw[Cm.dep]at hd;split at hd<;>omega
   have HI:=za fun k (hk:k<l.length) W2 (hW2:Below w.heap.size w W2)=>ih l[k] (X8 hk) W2 hW2 (Int.le_trans (Lj (X8 hk)) hdl);have HW:=za hW;rw[Cm.dep];clear hr hP hl ih hW hd;obtain⟨N,hN⟩:∃N,l.length=N:=⟨_,rfl⟩;have HLn:=za hN;have HT0:Hid (ZB (l.take N)=ZB l):=za (by rw[<-hN,List.take_length]);have HTn:=za fun k (hk:k<l.length)=>zb5 hk;have HTl:=za fun k=>(⟨Ty (l.take k),Int.le_trans (ziJ l k) hdl⟩:0<=ZB (l.take k)/\ZB (l.take k)<=1000000);generalize ZB l=DL at*;show Calls _ _ #[.agg #[.int .i64 ki,.string i,.string b,.int .i64 s,.int .i64 t,.int .i64 e,.slice A l.length c]] _ _;rw[hN]at hlen⊢;obtain⟨W1,hW1⟩:∃W1,W.alloc (.cells #[.int .i64 ki,.string i,.string b,.int .i64 s,.int .i64 t,.int .i64 e,.slice A N c] zy)=W1:=⟨_,rfl⟩;have hb1:Below W.heap.size W W1:=by rw[<-hW1];exact zu
   have hbx:W1.heap[W.heap.size]? =some (.cells #[.int .i64 ki,.string i,.string b,.int .i64 s,.int .i64 t,.int .i64 e,.slice A N c] zy (0,0)):=Pl;have hs1:W.heap.size<W1.heap.size:=zh hbx;have c0:W1.cell? ⟨W.heap.size,0,none⟩=some (.int .i64 ki):=zd hbx rfl;have c6:W1.cell? ⟨W.heap.size,6,none⟩=some (.slice A N c):=zd hbx rfl;have HBx:=za hbx;have HB1:=za hb1;have HW1:=za hW1;clear hb1 hbx hN hW1;go_enter func287,ntmps287;go_upto_region 1 with fail
   rw[HW1.out];go_wp2;go_loopg [3,9] N (fun gk s3 s9 wr=>∃k:Nat,s9=.int .i64 k/\s3=.int .i64 (ZB (l.take k))/\k+gk=N/\Hid (Below W1.heap.size W1 wr))
   case atStart=>exact⟨0,rfl,rfl,zb,za zj⟩
   case round=>
    obtain⟨k,rfl,rfl,hkg,HB⟩:=hrel;have hkN:k<=N:=zb;by_cases hlt:k<N
    · have hk:k<l.length:=by rw[HLn.out];exact hlt
      have hltI:(k:Int)<(N:Int):=zb;obtain⟨ba,off,rfl,hld,_,w2,hst,hl2,hb2⟩:=TF HN.out (bt (bt HW.out HB1.out) HB.out) hk;have HB2:=za (bt HB.out hb2);have HD:=za (HI.out k hk w2 (bt (bt HW.out HB1.out) HB2.out));have hT:=HTn.out k hk;obtain⟨g1,g2⟩:=HTl.out k;have hdk:=Lj (X8 hk);generalize l[k]=x at*;generalize hdx:x.dep=dx at*;generalize ZB (l.take k)=dk at*;have HT:=za hT;clear hb2 hT;go_wp2_with (go_at_call 287;refine HD.out.mono ?_;rintro e w3 ⟨rfl,hb3⟩;have HB3:=za (bt HB2.out hb3);clear hb3)
      go_roundg (gk - 1)
      case measure=>omega
      case rel=>
       exact⟨k+1,zU,by rw[HT.out],zb,HB3⟩
    · obtain rfl:k=N:=by omega
      rw[HT0.out];clear HT0;have hbx:=(HB.out.block _ (zh HBx.out)).trans HBx.out;have d0:wr.cell? ⟨W.heap.size,0,none⟩=some (.int .i64 ki):=zd hbx rfl;have HEnd:=za (bt HB1.out HB.out);clear hbx;by_cases hk0:ki=0
      all_goals
       go_wp2;go_ret;exact⟨rfl,HEnd.out⟩
end
section
open Go.RowKit
structure Fx where
 f:Fq
 A:Option Addr
 c:Nat
def QQ(x:Fx):List Value:=[.int .i64 x.f.kd,.string x.f.id,.string x.f.lab,.int .i64 x.f.s,.int .i64 x.f.t,.int .i64 x.f.e,.slice x.A x.f.n x.c]
theorem I5(x:Fx):(QQ x).length=7:=rfl
theorem CQ(x:Fx):∀u∈QQ x,u.oneCell'=true:=by
 intro u hu;simp only[QQ,List.mem_cons,List.not_mem_nil,or_false]at hu;exact CS
def T7(f:Fq)(w:World)(e:Ending)(w':World):Prop:=∃x:Fx,x.f=f/\e=.returned (.agg (QQ x).toArray)/\Below w.heap.size w w'
structure Xm(B:Nat)(W1:World)(xs:List Fx)(A:Option Addr)(c:Nat)(W:World):Prop where
 own:W.ownsRow B zy 7 (.slice A xs.length c) xs.length (cellsOf QQ xs)
 bl:Below W1.heap.size W1 W
 lo:W1.heap.size<=B
 hi:B<=W.heap.size
theorem Xm.keep{B:Nat}{W1 W W2:World}{xs:List Fx}{A:Option Addr}{c:Nat}(h:Xm B W1 xs A c W)(hb:Below W.heap.size W W2):Xm B W1 xs A c W2:=
 ⟨Xw h.own (zG hb none) (fun g e=>ZK),bt h.bl hb,h.lo,i3 h.hi hb.size⟩
theorem Xm.add{B:Nat}{W1 W:World}{xs:List Fx}{A:Option Addr}{c:Nat}(h:Xm B W1 xs A c W)(x:Fx)(hl:xs.length<=100000):
 (Yy XJ 1 #[(0,.agg (QQ x).toArray)]).run prog W=.ok (.slice (some ⟨W.heap.size,0,none⟩) 1 1) (W.alloc (.cells (QQ x).toArray zy))/\∃A' c' W2,(Zv #[XJ,XJ] XJ #[.slice A xs.length c,.slice (some ⟨W.heap.size,0,none⟩) 1 1]).run prog (W.alloc (.cells (QQ x).toArray zy))=.ok (.slice A' (xs.length+1) c') W2/\Xm B W1 (xs++[x]) A' c' W2:=by
 refine⟨VE zg Ji zi zi _ (by simp[I5]) _,?_⟩;obtain⟨A',c',W2,ha,ho,hg,_⟩:=Gq (T:=zy) (S:=XJ) zg Ji rfl zi zi I5 CQ x W h.own zb h.hi;refine⟨A',c',W2,ha,by rw[r7];exact ho,h.bl.grown hg h.bl.size (fun j e=>i3 h.lo (h.own.lt j e).1),h.lo,i3 h.hi hg.size⟩
theorem zad{w W:World}{R C:Nat}{ki s t e:Int}{i b:ByteArray}{u:Value}{V:Option Addr}{k cv:Nat}(hb:W.heap[C]? =some (.cells #[.int .i64 ki,.string i,.string b,.int .i64 s,.int .i64 t,.int .i64 e,u] zy (0,0)))(hR:W.heap[R]? =some (.cells qL zy (0,0)))(hw:Below w.heap.size w W)(hC:w.heap.size<=C:=by omega)(hR2:C<R:=by omega):
 (qD zy (.pointer (some ⟨C,0,none⟩))).run prog (W.setCell ⟨C,6,none⟩ (.slice V k cv))=.ok (.agg #[.int .i64 ki,.string i,.string b,.int .i64 s,.int .i64 t,.int .i64 e,.slice V k cv]) (W.setCell ⟨C,6,none⟩ (.slice V k cv))/\(Zo zy (.pointer (some ⟨R,0,none⟩)) (.agg #[.int .i64 ki,.string i,.string b,.int .i64 s,.int .i64 t,.int .i64 e,.slice V k cv])).run prog (W.setCell ⟨C,6,none⟩ (.slice V k cv))=.ok () ((W.setCell ⟨C,6,none⟩ (.slice V k cv)).setRow R #[.int .i64 ki,.string i,.string b,.int .i64 s,.int .i64 t,.int .i64 e,.slice V k cv])/\((W.setCell ⟨C,6,none⟩ (.slice V k cv)).setRow R #[.int .i64 ki,.string i,.string b,.int .i64 s,.int .i64 t,.int .i64 e,.slice V k cv]).heap[R]? =some (.cells #[.int .i64 ki,.string i,.string b,.int .i64 s,.int .i64 t,.int .i64 e,.slice V k cv] zy (0,0))/\Below w.heap.size w ((W.setCell ⟨C,6,none⟩ (.slice V k cv)).setRow R #[.int .i64 ki,.string i,.string b,.int .i64 s,.int .i64 t,.int .i64 e,.slice V k cv]):=by
 have h1:(W.setCell ⟨C,6,none⟩ (.slice V k cv)).heap[C]? =some (.cells #[.int .i64 ki,.string i,.string b,.int .i64 s,.int .i64 t,.int .i64 e,.slice V k cv] zy (0,0)):=by rw[heap_setCell_same _ _ _ _ _ _ hb];rfl
 have h2:(W.setCell ⟨C,6,none⟩ (.slice V k cv)).heap[R]? =some (.cells qL zy (0,0)):=(heap_setCell_other W ⟨C,6,none⟩ _ (.slice V k cv) (by show R≠C;omega)).trans hR;have h3:Below w.heap.size w (W.setCell ⟨C,6,none⟩ (.slice V k cv)):=hw.grown (qE W C 6 _) hw.size (fun j e=>ZD);refine⟨(UI (P:=prog) JK Gf h1 (o:=0) GJ).trans rfl,?_,setRow_heap _ _ _ _ _ _ h2,qB h3 zb⟩;have h4:=XU (P:=prog) (T:=zy) (o:=0) (vs:=#[.int .i64 ki,.string i,.string b,.int .i64 s,.int .i64 t,.int .i64 e,.slice V k cv]) h2 GJ Tv Xe zg;rw[h4,UL qL #[.int .i64 ki,.string i,.string b,.int .i64 s,.int .i64 t,.int .i64 e,.slice V k cv] rfl]
attribute [local go_sem ↓] I7 Oy Pr ZU
theorem zaa{P:Nat->Prop}{w:World}{m:Cm}(h:ZS P w m):∀W,Below w.heap.size w W->Calls prog 306 #[.agg (ZN m).toArray] W (T7 m.fl W):=by
 induction h with
 | @mk ki i b s t e A c l hr hlen hsz hP hl ih=>
   intro W hW;have HN:=za (ZS.mk (k:=ki) (i:=i) (b:=b) (s:=s) (t:=t) (e:=e) (c:=c) hr hlen hsz hP hl);have HI:=za fun k (hk:k<l.length) W2 (hW2:Below w.heap.size w W2)=>ih l[k] (X8 hk) W2 hW2;have HW:=za hW;clear hr hP hl ih hW;obtain⟨N,hN⟩:∃N,l.length=N:=⟨_,rfl⟩;have HLn:=za hN;show Calls _ _ #[.agg #[.int .i64 ki,.string i,.string b,.int .i64 s,.int .i64 t,.int .i64 e,.slice A l.length c]] _ (T7 ⟨ki,i,b,s,t,e,l.length⟩ W);rw[hN]at hlen⊢;obtain⟨W1,hW1⟩:∃W1,(W.alloc (.cells #[.int .i64 ki,.string i,.string b,.int .i64 s,.int .i64 t,.int .i64 e,.slice A N c] zy)).alloc (.cells qL zy)=W1:=⟨_,rfl⟩;have hb1:Below W.heap.size W W1:=by rw[<-hW1];exact bt zu zu
   have hbx:W1.heap[W.heap.size]? =some (.cells #[.int .i64 ki,.string i,.string b,.int .i64 s,.int .i64 t,.int .i64 e,.slice A N c] zy (0,0)):=by rw[<-hW1];exact(zu.block _ zl).trans qt
   have hbr:W1.heap[W.heap.size+1]? =some (.cells qL zy (0,0)):=by rw[<-hW1];have:=i5 (W.alloc (.cells #[.int .i64 ki,.string i,.string b,.int .i64 s,.int .i64 t,.int .i64 e,.slice A N c] zy)) (.cells qL zy);simpa using this
   have hs1:W.heap.size+1<W1.heap.size:=zh hbr;have c6:W1.cell? ⟨W.heap.size,6,none⟩=some (.slice A N c):=zd hbx rfl;have HBx:=za hbx;have HBr:=za hbr;have HB1:=za hb1;have HW1:=za hW1;clear hb1 hbx hbr hN hW1;go_enter func306,ntmps306;go_upto_region 1 with fail
   rw[HW1.out];go_wp2;go_loopg [3,9] N (fun gk s3 s9 wr=>∃(xs:List Fx) (V:Option Addr) (cv:Nat),s9=.int .i64 xs.length/\s3=.slice V xs.length cv/\xs.length+gk=N/\Hid (Xm W1.heap.size W1 xs V cv wr))
   case atStart=>exact⟨[],none,0,rfl,rfl,zl,za ⟨World.ownsRow_nil _ _ _ _,zj,zo,zo⟩⟩
   case round=>
    obtain⟨xs,V,cv,rfl,rfl,hkg,HX⟩:=hrel;generalize hk0:xs.length=k at*;have HK0:=za hk0;clear hk0;have hkN:k<=N:=zb;by_cases hlt:k<N
    · have hk:k<l.length:=by rw[HLn.out];exact hlt
      have hltI:(k:Int)<(N:Int):=zb;obtain⟨ba,off,rfl,hld,_,w2,hst,hl2,hb2⟩:=TF HN.out (bt (bt HW.out HB1.out) HX.out.bl) hk;have HX2:=za (HX.out.keep hb2);have HD:=za (HI.out k hk w2 (bt (bt HW.out HB1.out) HX2.out.bl));generalize l[k]=x at*;clear hb2;go_wp2_with (go_at_call 306;refine HD.out.mono ?_;rintro e w3 ⟨y,_,rfl,hb3⟩;obtain⟨hbs,A',c',w4,hap,hX4⟩:=(HX2.out.keep hb3).add y (by have:=HK0.out;omega);rw[HK0.out]at hap;have HX4:=za hX4;clear hb3 hX4)
      go_roundg (gk - 1)
      case measure=>omega
      case rel=>exact⟨xs++[y],A',c',by simp[HK0.out],by simp[HK0.out],by simp[HK0.out];omega,HX4⟩
    · obtain rfl:k=N:=by omega
      obtain⟨hld,hst,hbx,hE⟩:=zad (i:=i) (b:=b) (V:=V) (k:=k) (cv:=cv) ((HX.out.bl.block _ (zh HBx.out)).trans HBx.out) ((HX.out.bl.block _ (zh HBr.out)).trans HBr.out) (bt HB1.out HX.out.bl);have hws:=HX.out.bl.size;have f6:=frozen_of_row _ W.heap.size 6 _ _ ((HX.out.bl.block _ (zh HBx.out)).trans HBx.out);have d6:wr.cell? ⟨W.heap.size,6,none⟩=some (.slice A k c):=(HX.out.bl.cell (p:=⟨W.heap.size,6,none⟩) (zh HBx.out)).trans (zd HBx.out rfl);have HBq:=za hbx;have HE:=za hE;clear hbx hE;go_wp2;refine Vf rfl zk HBq.out underlying290 rfl Xe zk ?_;exact⟨⟨⟨ki,i,b,s,t,e,k⟩,V,cv⟩,rfl,rfl,HE.out⟩
end
section
open Go.RowKit
mutual
def Cm.walk:Cm->List Fq
 | .mk k i b s t e _ _ l=>⟨k,i,b,s,t,e,l.length⟩::Yd l
def Yd:List Cm->List Fq
 | []=>[]
 |x::r=>x.walk++Yd r
end
theorem zdb(l:List Cm)(x:Cm):Yd (l++[x])=Yd l++x.walk:=by
 induction l with
 |nil=>show x.walk++[]=[]++x.walk;simp
 |cons y l ih=>rw[List.cons_append,Yd,ih,Yd,zk9]
theorem zjv(l:List Cm)(k:Nat):Qz (l.take k)<=Qz l:=by
 induction l generalizing k with
 |nil=>simp
 | cons x l ih=>cases k with
   |zero=>exact X1 _
   |succ k=>rw[List.take_succ_cons,Qz,Qz];have:=ih k;omega
mutual
theorem PN:∀m:Cm,m.walk.length=m.cnt
 | .mk _ _ _ _ _ _ _ _ l=>by rw[Cm.walk,Cm.cnt,u0,jD l]
theorem jD:∀l:List Cm,(Yd l).length=Qz l
 | []=>rfl
 |x::r=>by rw[Yd,Qz,r7,PN x,jD r]
end
mutual
theorem yV:∀m:Cm,m.walk.all QK=m.ok
 | .mk _ _ _ _ _ _ _ _ l=>by rw[Cm.walk,Cm.ok,List.all_cons,SR l]
theorem SR:∀l:List Cm,(Yd l).all QK=Vd l
 | []=>rfl
 |x::r=>by rw[Yd,Vd,List.all_append,yV x,SR r]
end
def jR(f:List Fq)(w:World)(e:Ending)(w':World):Prop:=∃(xs:List Fx) (A:Option Addr) (c:Nat),xs.map (·.f)=f/\e=.returned (.slice A xs.length c)/\zE w' A 7 xs.length (cellsOf QQ xs)/\Below w.heap.size w w'
theorem Xm.one{W1 W:World}(x:Fx)(h:Below W1.heap.size W1 W):Xm W1.heap.size W1 [x] (some ⟨W.heap.size,0,none⟩) 1 (W.alloc (.cells (QQ x).toArray zy)):=
 ⟨World.ownsRow_lit W (QQ x).toArray 1 h.size zi rfl,bt h zu,zo,i3 h.size zu.size⟩
theorem Xm.app{B:Nat}{W1 W W2:World}{xs ys:List Fx}{A A':Option Addr}{c c':Nat}(h:Xm B W1 xs A c W)(ho:W2.ownsRow B zy 7 (.slice A' (xs.length+ys.length) c') (xs.length+ys.length) (cellsOf QQ xs++cellsOf QQ ys))(hg:W.grownBy W2 (Value.slice A xs.length c).ownBlock):Xm B W1 (xs++ys) A' c' W2:=
 ⟨by rw[r7,Xf];exact ho,h.bl.grown hg h.bl.size (fun j e=>i3 h.lo (h.own.lt j e).1),h.lo,i3 h.hi hg.size⟩
attribute [local go_sem ↓] I7 Oy Pr
theorem zc3{P:Nat->Prop}{w:World}{m:Cm}(h:ZS P w m):∀W,Below w.heap.size w W->m.cnt<=1000000->Calls prog 289 #[.agg (ZN m).toArray] W (jR m.walk W):=by
 induction h with
 | @mk ki i b s t e A c l hr hlen hsz hP hl ih=>
   intro W hW hcn;have HN:=za (ZS.mk (k:=ki) (i:=i) (b:=b) (s:=s) (t:=t) (e:=e) (c:=c) hr hlen hsz hP hl);rw[Cm.cnt]at hcn;have hct:∀k (hk:k<l.length),Qz (l.take k)+l[k].cnt<=1000000:=fun k hk=>by
    have h1:=zjv l (k+1);rw[List.take_succ_eq_append_getElem hk,To]at h1;omega
   have HI:=za fun k (hk:k<l.length) W2 (hW2:Below w.heap.size w W2)=>ih l[k] (X8 hk) W2 hW2 (by have:=hct k hk;omega);have HCt:=za hct;have HWt:=za fun k (hk:k<l.length)=>(by rw[List.take_succ_eq_append_getElem hk,zdb]:Yd (l.take (k+1))=Yd (l.take k)++l[k].walk);have HW:=za hW;have HCp:=za fun W2 hW2=>zaa HN.out W2 hW2;clear hr hP hl ih hW hcn hct;obtain⟨N,hN⟩:∃N,l.length=N:=⟨_,rfl⟩;have HLn:=za hN;have HT0:Hid (Yd (l.take N)=Yd l):=za (by rw[<-hN,List.take_length]);rw[Cm.walk];change Hid (∀W2,_->Calls prog 306 #[.agg #[.int .i64 ki,.string i,.string b,.int .i64 s,.int .i64 t,.int .i64 e,.slice A l.length c]] W2 (T7 ⟨ki,i,b,s,t,e,l.length⟩ W2))at HCp;show Calls _ _ #[.agg #[.int .i64 ki,.string i,.string b,.int .i64 s,.int .i64 t,.int .i64 e,.slice A l.length c]] _ (jR (⟨ki,i,b,s,t,e,l.length⟩::Yd l) W);rw[hN]at hlen HCp⊢;obtain⟨i0,hi0,hz0,hz1,hz2⟩:=info_parts Ji;have Hi0:=za hi0;have Hz0:=za hz0;have Hz1:=za hz1;have Hz2:=za hz2;obtain⟨W1,hW1⟩:∃W1,W.alloc (.cells #[.int .i64 ki,.string i,.string b,.int .i64 s,.int .i64 t,.int .i64 e,.slice A N c] zy)=W1:=⟨_,rfl⟩;have hb1:Below W.heap.size W W1:=by rw[<-hW1];exact zu
   have hbx:W1.heap[W.heap.size]? =some (.cells #[.int .i64 ki,.string i,.string b,.int .i64 s,.int .i64 t,.int .i64 e,.slice A N c] zy (0,0)):=Pl;have hs1:W.heap.size<W1.heap.size:=zh hbx;have hld0:(qD zy (.pointer (some ⟨W.heap.size,0,none⟩))).run prog W1=.ok (.agg #[.int .i64 ki,.string i,.string b,.int .i64 s,.int .i64 t,.int .i64 e,.slice A N c]) W1:=(UI (P:=prog) JK Gf hbx (o:=0) GJ).trans rfl;have HBx:=za hbx;have HB1:=za hb1;have HW1:=za hW1;clear hb1 hbx hN hW1 hi0 hz0 hz1 hz2;go_enter func289,ntmps289;go_upto_region 1 with fail
   rw[HW1.out];go_wp2_with (go_at_call 306;refine(HCp.out W1 (bt HW.out HB1.out)).mono ?_;rintro e w2 ⟨y,hy,rfl,hb2⟩;have hbs:=VE (P:=prog) (t:=XJ) (e:=zy) zg Ji zi zi (QQ y).toArray (by simp[I5]) w2;have HX0:=za (Xm.one y hb2);have HY:=za hy;have hws:=i4 hs1 hb2.size;have d6:w2.cell? ⟨W.heap.size,6,none⟩=some (.slice A N c):=(hb2.cell (p:=⟨W.heap.size,6,none⟩) (zh HBx.out)).trans (zd HBx.out rfl);clear hb2 hy)
   go_loopg [3,12] N (fun gk s3 s12 wr=>∃(k:Nat) (xs:List Fx) (V:Option Addr) (cv:Nat),s12=.int .i64 k/\s3=.slice V xs.length cv/\k+gk=N/\Hid (xs.map (·.f)=⟨ki,i,b,s,t,e,N⟩::Yd (l.take k))/\Hid (Xm W1.heap.size W1 xs V cv wr))
   case atStart=>exact⟨0,[y],_,_,rfl,rfl,zb,za (by rw[zl3,HY.out];rfl),HX0⟩
   case round=>
    obtain⟨k,xs,V,cv,rfl,rfl,hkg,HM,HX⟩:=hrel;have hkN:k<=N:=zb;by_cases hlt:k<N
    · have hk:k<l.length:=by rw[HLn.out];exact hlt
      have hltI:(k:Int)<(N:Int):=zb;obtain⟨ba,off,rfl,hld,_,w3,hst,hl2,hb3⟩:=TF HN.out (bt (bt HW.out HB1.out) HX.out.bl) hk;have HX3:=za (HX.out.keep hb3);have HD:=za (HI.out k hk w3 (bt (bt HW.out HB1.out) HX3.out.bl));have hW:=HWt.out k hk;have hcn:=HCt.out k hk;have hxl:xs.length=1+Qz (l.take k):=by
       have:=congrArg List.length HM.out;rw[W7,u0,jD]at this;omega
      rw[<-PN]at hcn;generalize l[k]=x at*;have HWk:=za hW;have HLx:Hid (xs.length+x.walk.length<=1000001):=za zb;clear hb3 hW hcn hxl;go_wp2_with (first
       |(go_at_call 289;refine HD.out.mono ?_;rintro e w4 ⟨ys,YA,yc,hy,rfl,hyr,hb4⟩;have HX4:=za (HX3.out.keep hb4);have HYm:=za hy;have HYr:=za hyr;clear hb4 hy hyr)
       |(at_builtin;go_loud (refine yz rfl (.tmp 16) (.tmp 18) XJ rfl W1.heap.size zy i0 _ 7 88 zg Hi0.out Hz0.out Hz1.out Hz2.out rfl zi (.slice V xs.length cv) xs.length (cellsOf QQ xs) zk HX4.out.own YA ys.length yc _ (cellsOf QQ ys) zk HYr.out.row (fun u hu=>by obtain⟨q,_,hq⟩:=List.mem_flatMap.1 hu;exact CQ q u hq) (by have:=HLx.out;rw[<-HYm.out,W7]at this;unfold maxLen;omega) (by have:=HLx.out;rw[<-HYm.out,W7]at this;omega) HX4.out.hi ?_;intro v1 w5 ho hg _ _;obtain⟨A5,c5,rfl⟩:=Qf ho;have HX5:Hid (Xm W1.heap.size W1 (xs++ys) A5 c5 w5):=za (HX4.out.app ho hg);clear ho hg)))
      go_roundg (gk - 1)
      case measure=>omega
      case rel=>exact⟨k+1,xs++ys,A5,c5,zU,by rw[r7],zb,za (by rw[List.map_append,HM.out,HYm.out,HWk.out,List.cons_append]),HX5⟩
    · obtain rfl:k=N:=by omega
      have h2:=zE.of_own HX.out.own;have HEnd:Hid (jR (⟨ki,i,b,s,t,e,k⟩::Yd l) W (.returned (.slice V xs.length cv)) wr):=za ⟨xs,V,cv,by rw[HM.out,HT0.out],rfl,h2.1,bt HB1.out HX.out.bl⟩;clear h2;go_wp2;go_ret;exact HEnd.out
end
section
open Go.RowKit
theorem zfH(b:UInt8):VL b=true↔(65<=b.toNat/\b.toNat<=90)∨(97<=b.toNat/\b.toNat<=122)∨(48<=b.toNat/\b.toNat<=57)∨b.toNat=95∨b.toNat=46∨b.toNat=45:=by
 have h:∀n:Fin 256,VL (UInt8.ofNat n.val)=true↔(65<=n.val/\n.val<=90)∨(97<=n.val/\n.val<=122)∨(48<=n.val/\n.val<=57)∨n.val=95∨n.val=46∨n.val=45:=by decide+kernel
 have h1:=h ⟨b.toNat,b.toNat_lt⟩;simpa using h1
theorem C7(s:ByteArray)(w:World)(hs:s.size<=1000):
 Calls prog 308 #[.string s] w fun e w'=>e=.returned (.bool (Kv (L s)))/\Below w.heap.size w w':=by
 have hcv:=Lib.run_convert_string_bytes (P:=prog) w 9 154 5 s (u:=.string) underlying9 underlying154 underlying5;have hB:∀j,j<s.size->(Lib.bytesWorld w 5 s).cell? ⟨w.heap.size,j,none⟩=some (.int .u8 (s.data.toList.getD j 0).toNat):=fun j hj=>Lib.bytesWorld_cell w 5 s j hj;have hBw:=Joins.below_bytesWorld w.heap.size w 5 s zo;obtain⟨W1,hW1⟩:∃W1,W1=Lib.bytesWorld w 5 s:=⟨_,rfl⟩;rw[<-hW1]at hcv hB hBw;have HBw:=za hBw;have hz:=zF s;have htl:s.toList=L s:=tl s;change∀j,j<s.size->W1.cell? _=some (.int .u8 ((L s).getD j 0).toNat)at hB;clear hW1 hBw;unfold Kv;generalize L s=bs at*;obtain⟨R,hR⟩:∃R,(bs.all VL&&(!bs.isEmpty&&decide (bs.length<=16)))=R:=⟨_,rfl⟩;rw[hR];have HR:=za hR;have HZ:=za hz;clear hR hz;have HB:=za hB;clear hB;go_enter func308,ntmps308;go_wp2;go_loopg [8] s.size (fun gk i wr=>∃k:Nat,i=.int .i64 k/\k+gk=s.size/\Hid (∀j (h:j<bs.length),j<k->VL bs[j]=true)/\wr=W1)
 case atStart=>exact⟨0,rfl,zb,za fun j _ h=>absurd h (Nat.not_lt_zero _),rfl⟩
 case round=>
  obtain⟨k,rfl,hkg,HA,rfl⟩:=hrel;have hkz:k<=s.size:=zb;by_cases hlt:k<s.size
  · have hk:k<bs.length:=by rw[HZ.out];exact hlt
    have hltI:(k:Int)<(s.size:Int):=zb;have hc:=HB.out k hlt;rw[show bs.getD k 0=bs[k]from by simp[List.getD,l0 hk]]at hc;have hI:=zfH bs[k];have HN:Hid (VL bs[k]=true->∀j (h:j<bs.length),j<k+1->VL bs[j]=true):=za fun e j h hj=>by
     rcases Nat.lt_or_ge j k with h1|h1
     · exact HA.out j h h1
     · obtain rfl:j=k:=by omega
       exact e
    have HF:Hid (VL bs[k]=false->R=false):=za fun e=>by
     rw[<-HR.out,show bs.all VL=false from by
      rw[List.all_eq_false];exact⟨_,X8 hk,by rw[e];decide⟩,Bool.false_and]
    have hb:=bs[k].toNat_lt;generalize bs[k]=x at*;generalize x.toNat=n at*;have HI:=za hI;clear hI HA HB;obtain rfl|h95:=(show n=95∨n≠95 by omega)
    rotate_left
    obtain rfl|h46:=(show n=46∨n≠46 by omega)
    rotate_left
    obtain rfl|h45:=(show n=45∨n≠45 by omega)
    rotate_left
    (have e1:((n:Int)==95)=false:=beq_eq_false_iff_ne.2 zb;have e2:((n:Int)==46)=false:=beq_eq_false_iff_ne.2 zb;have e3:((n:Int)==45)=false:=beq_eq_false_iff_ne.2 zb)
    all_goals go_wp2
    all_goals first
     | (go_ret
        rw[HF.out (Bool.eq_false_iff.2 fun hx=>by have:=HI.out.1 hx;omega)];exact⟨rfl,HBw.out⟩)
     | (go_roundg (gk - 1)
        case measure=>omega
        case rel=>exact⟨k+1,zU,zb,za (HN.out (HI.out.2 (by first|decide|omega))),rfl⟩)
  · obtain rfl:k=s.size:=by omega
    have hall:bs.all VL=true:=by
     rw[List.all_eq_true];intro x hx;obtain⟨j,hj,rfl⟩:=List.mem_iff_getElem.1 hx;exact HA.out j hj (by rw[<-HZ.out];exact hj)
    have HAl:=za hall;clear hall HA HB;have hr:=HR.out;rw[HAl.out,Bool.true_and,HZ.out]at hr;cases bs with
    | nil=>
      subst hr;go_wp2;go_ret;exact⟨rfl,HBw.out⟩
    | cons b bs=>
      have hr2:decide ((s.size:Int)<=16)=R:=by rw[<-hr];show _=(true&&_);rw[Bool.true_and,decide_eq_decide];omega
      have HR2:=za hr2;clear hr hr2;go_wp2;go_ret;rw[<-HR2.out];exact⟨rfl,HBw.out⟩
end
section
open Go.RowKit
theorem M7(n h:Int)(w:World):Calls prog 310 #[.int .i64 n,.int .i64 h] w fun e w'=>e=.returned (.bool (Vy n h))/\w'=w:=by
 unfold Vy;by_cases h1:1<=n
 · have e1:decide (1<=n)=true:=zl1 h1;rw[e1,Bool.true_and];go_enter func310,ntmps310;exact kl
 · have e1:decide (1<=n)=false:=zl0 h1;rw[e1,Bool.false_and];go_enter func310,ntmps310;exact kl
abbrev Uj(x:Fq)(A:Option Addr)(c:Nat):Value:=.agg #[.int .i64 x.kd,.string x.id,.string x.lab,.int .i64 x.s,.int .i64 x.t,.int .i64 x.e,.slice A x.n c]
theorem B9(x:Fq)(A:Option Addr)(c:Nat)(w:World):Calls prog 309 #[Uj x A c] w fun e w'=>e=.returned (.bool (Gv x))/\Below w.heap.size w w':=by
 unfold Gv Uj;have H1:=fun W=>M7 x.t 16 W;have H2:=za fun W=>M7 x.s x.t W;have hb:=za (zL w (.cells #[.int .i64 x.kd,.string x.id,.string x.lab,.int .i64 x.s,.int .i64 x.t,.int .i64 x.e,.slice A x.n c] zy));cases hw:Vy x.t 16
 all_goals
  rw[hw]at H1;have H1:=za H1;simp only[Bool.false_and,Bool.true_and];go_enter func309,ntmps309;go_wp2_with (first|(go_at_call_of 310 (Value.int .i64 x.s);refine(H2.out _).mono ?_;rintro e w2 ⟨rfl,rfl⟩)|(go_at_call_of 310 (Value.int .i64 x.t);refine(H1.out _).mono ?_;rintro e w2 ⟨rfl,rfl⟩))
  go_ret;exact⟨rfl,hb.out⟩
theorem zkg(A:Option Addr)(n c:Nat)(w:World):Calls prog 314 #[.slice A n c,.slice none 0 0,.func (.func 307) #[] #[]] w fun e w'=>e=.returned (.bool (n==0))/\w'=w:=by
 by_cases h:n=0
 · subst h;go_enter func314,ntmps314;go_wp2;go_loopg [17] 1 (fun _ i wr=>i=.int .i64 0/\wr=w)
   case atStart=>exact⟨rfl,rfl⟩
   case round=>
    obtain⟨rfl,rfl⟩:=hrel;exact kl
 · rw[show(n==0)=false from by simpa using h];have hn:((n:Int)==0)=false:=beq_eq_false_iff_ne.2 zb;go_enter func314,ntmps314;exact kl
end
section
open Go.RowKit
theorem FR(x y:Fq)(A:Option Addr)(c:Nat)(w:World):Calls prog 307 #[Uj x A c,.agg #[.int .i64 y.kd,.string y.id,.string y.lab,.int .i64 y.s,.int .i64 y.t,.int .i64 y.e,.slice none 0 0]] w fun e w'=>e=.returned (.bool (Gc x y))/\Below w.heap.size w w':=by
 obtain⟨k1,i1,l1,s1,t1,e1,n⟩:=x;obtain⟨k2,i2,l2,s2,t2,e2,n2⟩:=y;unfold Gc;dsimp only;have hb:=za (bt (zL w (.cells #[.int .i64 k1,.string i1,.string l1,.int .i64 s1,.int .i64 t1,.int .i64 e1,.slice A n c] zy)) (zL _ (.cells #[.int .i64 k2,.string i2,.string l2,.int .i64 s2,.int .i64 t2,.int .i64 e2,.slice none 0 0] zy)));have HE:=za fun W=>zkg A n c W;obtain⟨b1,h1⟩:∃b,(k1==k2)=b:=⟨_,rfl⟩;obtain⟨b2,h2⟩:∃b,(L i1==L i2)=b:=⟨_,rfl⟩;have g2:(i1.toList==i2.toList)=b2:=by rw[tl,tl];exact h2
 obtain⟨b3,h3⟩:∃b,(L l1==L l2)=b:=⟨_,rfl⟩;have g3:(l1.toList==l2.toList)=b3:=by rw[tl,tl];exact h3
 obtain⟨b4,h4⟩:∃b,(s1==s2)=b:=⟨_,rfl⟩;obtain⟨b5,h5⟩:∃b,(t1==t2)=b:=⟨_,rfl⟩;obtain⟨b6,h6⟩:∃b,(e1==e2)=b:=⟨_,rfl⟩;rw[h1,h2,h3,h4,h5,h6];clear h2 h3;cases b1
 rotate_left
 cases b2
 rotate_left
 cases b3
 rotate_left
 cases b4
 rotate_left
 cases b5
 rotate_left
 cases b6
 all_goals
  simp only[Bool.true_and,Bool.false_and];go_enter func307,ntmps307;go_wp2_with (go_at_call 314;refine(HE.out _).mono ?_;rintro e w2 ⟨rfl,rfl⟩)
  go_ret;exact⟨rfl,hb.out⟩
end
section
open Go.RowKit
attribute [local go_sem ↓] Hm
theorem zbo(k:Int)(i:ByteArray)(W:World):(ZI zy #[(0,.int .i64 k),(1,.string i)]).run prog W=.ok (.agg #[.int .i64 k,.string i,.string ⟨#[]⟩,.int .i64 0,.int .i64 0,.int .i64 0,.slice none 0 0]) W:=Xr
theorem kZ{W:World}{g:Nat}{T:TypeId}{a0 a1 a2 a3 a4 a5 a6:Value}(h:W.heap[g]? =some (.cells #[a0,a1,a2,a3,a4,a5,a6] T (0,0))):
 W.cell? ⟨g,0,none⟩=some a0/\W.cell? ⟨g,1,none⟩=some a1/\W.cell? ⟨g,2,none⟩=some a2/\W.cell? ⟨g,3,none⟩=some a3/\W.cell? ⟨g,4,none⟩=some a4/\W.cell? ⟨g,5,none⟩=some a5/\W.cell? ⟨g,6,none⟩=some a6/\W.frozen? ⟨g,6,none⟩=false/\g<W.heap.size:=
 ⟨zd h rfl,zd h rfl,zd h rfl,zd h rfl,zd h rfl,zd h rfl,zd h rfl,frozen_of_row _ _ _ _ _ h,zh h⟩
structure QY(w:World)(a b:Array Value)(W:World):Prop where
 q1:W.heap[w.heap.size]? =some (.cells a zy (0,0))
 q2:W.heap[w.heap.size+1]? =some (.cells b zy (0,0))
 bl:Below w.heap.size w W
section
variable{w W W':World}{a b:Array Value}
theorem QY.start:QY w a b ((w.alloc (.cells a zy)).alloc (.cells b zy)):=
 ⟨(zu.block _ zl).trans (i5 w _),by have:=i5 (w.alloc (.cells a zy)) (.cells b zy);simpa using this,bt zu zu⟩
theorem QY.drew(h:QY w a b W):QY w a b W.drew:=⟨h.q1,h.q2,h.bl.drew⟩
theorem QY.keep(h:QY w a b W)(hb:Below W.heap.size W W'):QY w a b W':=⟨(hb.block _ (zh h.q1)).trans h.q1,(hb.block _ (zh h.q2)).trans h.q2,bt h.bl hb⟩
theorem QY.set6(h:QY w a b W)(v:Value):QY w (a.setIfInBounds 6 v) b (W.setCell ⟨w.heap.size,6,none⟩ v):=
 ⟨by rw[heap_setCell_same _ _ _ _ _ _ h.q1],(heap_setCell_other W ⟨w.heap.size,6,none⟩ _ v (by show w.heap.size+1≠w.heap.size;omega)).trans h.q2,h.bl.grown (qE W _ 6 v) h.bl.size (fun j e=>by injection e with e;rw[<-e];exact zo)⟩
end
theorem zcN(x:Fq)(A:Option Addr)(c:Nat)(w:World)(hi:x.id.size<=1000)(hl:x.lab.size<=1000):Calls prog 291 #[Uj x A c] w fun e w'=>e=.returned (.bool (QK x))/\Below w.heap.size w w':=by
 have HS0:=fun W=>FR x ⟨0,⟨#[]⟩,⟨#[]⟩,0,0,0,0⟩ A c W;have HS:=fun W=>FR {x with n:=0} (MI x) none 0 W;have HI:=fun W=>C7 x.id W hi;have HL:=fun W=>C7 x.lab W hl;have HSl:=fun W=>B9 x A c W;have HWe:=fun W=>M7 x.e x.t W;have HWn:=fun W=>M7 x.n 16 W;have hbu:=fun W=>zbo x.kd x.id W;have hbz:=AF;have hlab:x.lab.toList.isEmpty=(L x.lab).isEmpty:=by rw[tl]
 unfold QK;obtain⟨kd,id,lab,s,t,e,n⟩:=x;unfold Uj at*;dsimp only at*;have HB:=za (zL w (.cells #[.int .i64 kd,.string id,.string lab,.int .i64 s,.int .i64 t,.int .i64 e,.slice A n c] zy));clear hi hl;by_cases h0:kd=0
 · subst h0;rw[if_pos rfl];have HS0:=za HS0;clear HS HI HL HSl HWe HWn hbu hlab;go_enter func291,ntmps291;go_wp2_with (go_at_call 307;refine(HS0.out _).mono ?_;rintro e w2 ⟨rfl,hb2⟩)
   go_ret;exact⟨rfl,bt HB.out hb2⟩
 rw[if_neg h0];generalize hR:(Re ⟨kd,id,lab,s,t,e,n⟩&&(Kv (L id)&&Gc ⟨kd,id,lab,s,t,e,0⟩ (MI ⟨kd,id,lab,s,t,e,n⟩)))=R;unfold Re at hR;unfold MI at*;dsimp only at*;generalize Gv ⟨kd,id,lab,s,t,e,n⟩=bS at*;generalize Gc ⟨kd,id,lab,s,t,e,0⟩ _=bQ at*;generalize Kv (L id)=bI at*;generalize Kv (L lab)=bL at*;generalize Vy e t=bE at*;generalize Vy n 16=bN at*;generalize (L lab).isEmpty=bB at*;have n0:(kd==0)=false:=beq_eq_false_iff_ne.2 h0;have HI:=za HI;have HL:=za HL;have HSl:=za HSl;have HWe:=za HWe;have HWn:=za HWn;clear HS0 hbz HB;have hn:∀m:Nat,n≠m->(n==m)=false:=fun m h=>beq_eq_false_iff_ne.2 h;have hni:∀m:Nat,n≠m->((n:Int)==m)=false:=fun m h=>beq_eq_false_iff_ne.2 zb;by_cases h1:kd=1
 (subst h1;rw[if_pos rfl]at hR
  change∀W,Calls _ _ #[_,.agg #[.int .i64 1,.string id,.string lab,.int .i64 0,.int .i64 0,.int .i64 0,.slice none 0 0]] _ _ at HS;obtain⟨hc,rfl⟩|⟨rfl,⟨rfl,rfl,rfl⟩|⟨rfl|⟨rfl,rfl⟩,rfl⟩⟩:=(show(n≠0/\R=false)∨(n=0/\((bB=false/\bL=false/\R=false)∨((bB=true∨bB=false/\bL=true)/\R=(bI&&bQ))))from by
   subst hR;by_cases h:n=0
   · subst h;cases bB<;>cases bL<;>simp
   · left;exact⟨h,by rw[hn 0 h];simp⟩)
  rotate_left 2
  iterate 2 (cases bI;rotate_left 2))
 rw[if_neg h1]at hR;have n1:(kd==1)=false:=beq_eq_false_iff_ne.2 h1;by_cases h2:kd=2
 (subst h2;rw[if_pos rfl]at hR
  change∀W,Calls _ _ #[_,.agg #[.int .i64 2,.string id,.string ⟨#[]⟩,.int .i64 s,.int .i64 t,.int .i64 e,.slice none 0 0]] _ _ at HS;obtain⟨hc,rfl⟩|⟨rfl,⟨rfl,rfl⟩|⟨rfl,rfl,rfl⟩|⟨rfl,rfl,rfl⟩⟩:=(show(n≠1/\R=false)∨(n=1/\((bS=false/\R=false)∨(bS=true/\bE=false/\R=false)∨(bS=true/\bE=true/\R=(bI&&bQ))))from by
   subst hR;by_cases h:n=1
   · subst h;cases bS<;>cases bE<;>simp
   · left;exact⟨h,by rw[hn 1 h];simp⟩)
  rotate_left 3
  (cases bI;rotate_left 2))
 rw[if_neg h2]at hR;have n2:(kd==2)=false:=beq_eq_false_iff_ne.2 h2;by_cases h3:kd=3
 (subst h3;rw[if_pos rfl]at hR
  change∀W,Calls _ _ #[_,.agg #[.int .i64 3,.string id,.string ⟨#[]⟩,.int .i64 0,.int .i64 0,.int .i64 0,.slice none 0 0]] _ _ at HS;obtain⟨hc,rfl⟩|⟨rfl,rfl⟩:=(show(n≠1/\R=false)∨(n=1/\R=(bI&&bQ))from by
   subst hR;by_cases h:n=1
   · subst h;simp
   · left;exact⟨h,by rw[hn 1 h];simp⟩)
  rotate_left 1
  (cases bI;rotate_left 2))
 rw[if_neg h3]at hR;have n3:(kd==3)=false:=beq_eq_false_iff_ne.2 h3;by_cases h4:kd=4
 (subst h4;rw[if_pos rfl]at hR
  change∀W,Calls _ _ #[_,.agg #[.int .i64 4,.string id,.string ⟨#[]⟩,.int .i64 s,.int .i64 t,.int .i64 0,.slice none 0 0]] _ _ at HS;obtain⟨rfl,rfl⟩|⟨rfl,rfl,rfl⟩|⟨rfl,rfl,rfl⟩:=(show(bN=false/\R=false)∨(bN=true/\bS=false/\R=false)∨(bN=true/\bS=true/\R=(bI&&bQ))from by
   subst hR;cases bN<;>cases bS<;>simp)
  rotate_left 2
  (cases bI;rotate_left 2))
 rw[if_neg h4]at hR;have n4:(kd==4)=false:=beq_eq_false_iff_ne.2 h4;by_cases h5:kd=5
 (subst h5;rw[if_pos rfl]at hR
  change∀W,Calls _ _ #[_,.agg #[.int .i64 5,.string id,.string ⟨#[]⟩,.int .i64 0,.int .i64 0,.int .i64 0,.slice none 0 0]] _ _ at HS;obtain⟨rfl,rfl⟩|⟨rfl,rfl⟩:=(show(bN=false/\R=false)∨(bN=true/\R=(bI&&bQ))from by
   subst hR;cases bN<;>simp)
  rotate_left 1
  (cases bI;rotate_left 2))
 (rw[if_neg h5,Bool.false_and]at hR;subst hR;have n5:(kd==5)=false:=beq_eq_false_iff_ne.2 h5)
 all_goals
  have HS:=za HS;have hq:=hni 0;have hq1:=hni 1
  (try have e1:=hq hc);(try have e2:=hq1 hc)
  clear hn hni hq hq1;go_enter func291,ntmps291;go_upto_region 3 with fail
  iterate 2 (try (go_region;go_wp2_with (first
   |(go_at_call 307;refine(HS.out _).mono ?_;rintro e w4 ⟨rfl,hb4⟩;have hb5:=bt HA3.out.bl hb4;have HB:=za hb5;clear hb4 hb5)
   |(go_at_call_of 308 (Value.string id);refine(HI.out _).mono ?_;rintro e w3 ⟨rfl,hb2⟩;have h2:=QY.keep (by first|exact HA2.out.set6 _|exact QY.start.drew|exact QY.start.drew.drew) hb2;have HA3:=za h2;obtain⟨p0,p1,p2,p3,p4,p5,p6,pf,pl⟩:=kZ h2.q1;obtain⟨r0,r1,r2,r3,r4,r5,r6,rf,rl⟩:=kZ h2.q2;have HA2:=za h2;have HB:=za h2.bl;clear h2 hb2)
   |(go_at_call_of 308 (Value.string lab);refine(HL.out _).mono ?_;rintro e w2 ⟨rfl,hb2⟩;have h2:=QY.keep Dp hb2;obtain⟨p0,p1,p2,p3,p4,p5,p6,pf,pl⟩:=kZ h2.q1;obtain⟨r0,r1,r2,r3,r4,r5,r6,rf,rl⟩:=kZ h2.q2;have HA2:=za h2;have HB:=za h2.bl;clear h2 hb2)
   |(go_at_call 309;refine(HSl.out _).mono ?_;rintro e w2 ⟨rfl,hb2⟩;have h2:=QY.keep Dp hb2;obtain⟨p0,p1,p2,p3,p4,p5,p6,pf,pl⟩:=kZ h2.q1;obtain⟨r0,r1,r2,r3,r4,r5,r6,rf,rl⟩:=kZ h2.q2;have HA2:=za h2;have HB:=za h2.bl;clear h2 hb2)
   |(go_at_call_of 310 (Value.int .i64 e);refine(HWe.out _).mono ?_;rintro e w5 ⟨rfl,rfl⟩)
   |(go_at_call 310;refine(HWn.out _).mono ?_;rintro e w5 ⟨rfl,rfl⟩))))
  go_ret;exact⟨rfl,by first|exact HB.out|exact QY.start.drew.bl|exact QY.start.drew.drew.bl⟩
end
section
open Go.RowKit
abbrev My(x:Fx):Prop:=x.f.id.size<=1000/\x.f.lab.size<=1000
theorem zdx(x:Fx)(w:World)(h:My x):Calls prog 290 #[.agg (QQ x).toArray] w fun e w'=>e=.returned (.bool (!QK x.f))/\Below w.heap.size w w':=by
 have HA:=za fun W=>zcN x.f x.A x.c W h.1 h.2;have HB:=za (zL w (.cells (QQ x).toArray zy));clear h;generalize QK x.f=b at*;show Calls _ _ #[Uj x.f x.A x.c] _ _;go_enter func290,ntmps290;go_wp2_with (go_at_call 291;refine(HA.out _).mono ?_;rintro e w2 ⟨rfl,hb2⟩)
 go_ret;exact⟨rfl,bt HB.out hb2⟩
attribute [local go_sem ↓] I7
theorem zfd(xs:List Fx)(A:Option Addr)(c:Nat)(w:World)(h:zE w A 7 xs.length (cellsOf QQ xs))(hs:∀x∈xs,My x)(hl:xs.length<=10000000):
 Calls prog 305 #[.slice A xs.length c,.func (.func 290) #[] #[]] w fun e w'=>e=.returned (.int .i64 (YF (fun x:Fx=> !QK x.f) xs))/\Below w.heap.size w w':=by
 have H:=za h;have HS:=za hs;clear h hs;obtain⟨N,hN⟩:∃N,xs.length=N:=⟨_,rfl⟩;have HN:=za hN;rw[hN]at hl⊢;clear hN;go_enter func305,ntmps305;go_wp2;go_loopg [8] N (fun gk i wr=>∃k:Nat,i=.int .i64 k/\k+gk=N/\Hid (∀j (h:j<xs.length),j<k->(!QK xs[j].f)=false)/\Hid (Below w.heap.size w wr))
 case atStart=>exact⟨0,rfl,zb,za (fun j _ h=>absurd h (Nat.not_lt_zero _)),za zj⟩
 case round=>
  obtain⟨k,rfl,hkg,hno,HB⟩:=hrel;have hkN:k<=N:=zb;by_cases hlt:k<N
  · have hk:k<xs.length:=by rw[HN.out];exact hlt
    obtain⟨ba,off,rfl,hba,hc⟩:=(H.out.keep HB.out).row.cell I5 (by omega:0<xs.length);have hld:(qD zy (.pointer (some ⟨ba,off+k*7,none⟩))).run prog wr=.ok (.agg (QQ xs[k]).toArray) wr:=JR JK Gf (I5 _) (fun j u hu=>by rw[zk5];exact hc k xs[k] (l0 hk) j u hu);have hltI:(k:Int)<(N:Int):=zb;have HC:=za (zdx xs[k] wr (HS.out _ (X8 hk)));cases hq:(!QK xs[k].f)with
    | true=>
      have HV:=za (Oa (q:=fun x:Fx=> !QK x.f) hno.out hk hq);rw[hq]at HC;generalize xs[k]=x at*;clear hc hq;go_wp2_with (go_at_call 290;refine HC.out.mono ?_;rintro e w2 ⟨rfl,hb2⟩;have HB2:=za (bt HB.out hb2);clear hb2)
      go_ret;rw[HV.out];exact⟨rfl,HB2.out⟩
    | false=>
      have HA:Hid (∀j (h:j<xs.length),j<k+1->(!QK xs[j].f)=false):=za fun j h hj=>Ed;rw[hq]at HC;generalize xs[k]=x at*;clear hc hq;go_wp2_with (go_at_call 290;refine HC.out.mono ?_;rintro e w2 ⟨rfl,hb2⟩;have HB2:=za (bt HB.out hb2);clear hb2)
      go_roundg (gk - 1)
      case measure=>omega
      case rel=>exact⟨k+1,zU,zb,HA,HB2⟩
  · obtain rfl:k=N:=by omega
    have HV:=za (Nv (l:=xs) (q:=fun x:Fx=> !QK x.f) fun j h=>hno.out j h GG);go_wp2;go_ret;rw[HV.out];exact⟨rfl,HB.out⟩
theorem zfZ{α:Type}(q:α->Bool)(l:List α):decide (0<=YF q l)=l.any q:=by
 unfold YF;cases hf:l.findIdx? q with
 | none=>
   rw[List.findIdx?_eq_none_iff]at hf;rw[show l.any q=false from by rw[List.any_eq_false];intro x hx;rw[hf x hx];decide];rfl
 | some k=>
   obtain⟨hk,h1,_⟩:=List.findIdx?_eq_some_iff_getElem.1 hf;rw[show l.any q=true from by rw[List.any_eq_true];exact⟨_,X8 hk,h1⟩];exact zl1 (Int.natCast_nonneg k)
theorem zah(xs:List Fx)(A:Option Addr)(c:Nat)(w:World)(h:zE w A 7 xs.length (cellsOf QQ xs))(hs:∀x∈xs,My x)(hl:xs.length<=10000000):
 Calls prog 288 #[.slice A xs.length c,.func (.func 290) #[] #[]] w fun e w'=>e=.returned (.bool (xs.any fun x=> !QK x.f))/\Below w.heap.size w w':=by
 have HI:=za (zfd xs A c w h hs hl);rw[<-zfZ];generalize YF (fun x:Fx=> !QK x.f) xs=z at*;clear h hs;go_enter func288,ntmps288;go_wp2_with (go_at_call 305;refine HI.out.mono ?_;rintro e w2 ⟨rfl,hb2⟩)
 exact OW
end
section
open Go.RowKit
mutual
theorem LR:∀m:Cm,m.dep<=m.cnt
 | .mk k _ _ _ _ _ _ _ l=>by
   have:=FY l;rw[Cm.dep,Cm.cnt];split<;>omega
theorem FY:∀l:List Cm,ZB l<=Qz l
 | []=>Int.le_refl _
 | x::r=>by
   have:=LR x;have:=FY r;rw[ZB,Qz];omega
end
theorem zed{l:List Cm}{f:Fq}(h:f∈Yd l):∃x∈l,f∈x.walk:=by
 induction l with
 |nil=>cases h
 | cons y l ih=>
   rw[Yd]at h;rcases List.mem_append.1 h with h|h
   · exact⟨y,X4 ..,h⟩
   · obtain⟨x,hx,h2⟩:=ih h;exact⟨x,X6 _ hx,h2⟩
theorem ZS.sizes{P:Nat->Prop}{W:World}{m:Cm}(h:ZS P W m):∀f∈m.walk,f.id.size<=1000/\f.lab.size<=1000:=by
 induction h with
 | mk _ _ hs _ _ ih=>
   intro f hf;rw[Cm.walk]at hf;rcases List.mem_cons.1 hf with rfl|hf
   · exact hs
   · obtain⟨x,hx,h2⟩:=zed hf;exact ih x hx f h2
theorem zbT{P:Nat->Prop}{w:World}{m:Cm}(h:ZS P w m)(hc:m.cnt<=1000000):Calls prog 260 #[.agg (ZN m).toArray] w fun e w'=>e=.returned (.int .i64 (if m.dep<=6/\m.ok=true then 0 else 70))/\Below w.heap.size w w':=by
 have HD:=za fun W hW=>zcV h W hW (by have:=LR m;omega);have HW:=za fun W hW=>zc3 h W hW hc;have HS:=za h.sizes;have HLn:Hid (m.walk.length<=1000000):=za (by rw[PN];exact hc);rw[<-yV];generalize m.walk=fs at*;generalize m.dep=d at*;cases m with
 | mk ki i b s t e A c l=>
   have hb:=zL w (.cells #[.int .i64 ki,.string i,.string b,.int .i64 s,.int .i64 t,.int .i64 e,.slice A l.length c] zy);have hx:=i5 w (.cells #[.int .i64 ki,.string i,.string b,.int .i64 s,.int .i64 t,.int .i64 e,.slice A l.length c] zy);have HB:=za hb;have HX:=za hx;clear h hc hb hx;change Hid (∀W,_->Calls _ _ #[.agg #[.int .i64 ki,.string i,.string b,.int .i64 s,.int .i64 t,.int .i64 e,.slice A l.length c]] W _)at HD;change Hid (∀W,_->Calls _ _ #[.agg #[.int .i64 ki,.string i,.string b,.int .i64 s,.int .i64 t,.int .i64 e,.slice A l.length c]] W _)at HW;show Calls _ _ #[.agg #[.int .i64 ki,.string i,.string b,.int .i64 s,.int .i64 t,.int .i64 e,.slice A l.length c]] _ _;generalize l.length=n at*;have ha:∀xs:List Fx,xs.map (·.f)=fs->(xs.any fun x=> !QK x.f)= !fs.all QK:=fun xs e=>by
    rw[<-e,List.all_map,List.not_all_eq_any_not];rfl
   generalize fs.all QK=q at*;generalize hR:(if d<=6/\q=true then(0:Int)else 70)=R;by_cases hd:d<=6
   · have h6:R=if q=true then 0 else 70:=by rw[<-hR];simp[hd]
     clear hR;cases q
     (obtain rfl:R=70:=h6;rotate_left;(obtain rfl:R=0:=h6))
     all_goals
      simp only[Bool.not_false,Bool.not_true]at ha;have HA:=za ha;clear ha;go_enter func260,ntmps260;go_wp2_with (first
       |(go_at_call 288;refine(zah xs A2 c2 w3 HR.out HZ.out HN.out).mono ?_;rintro e w4 ⟨rfl,hb4⟩;rw[HAx.out];have HB4:=za (bt HB3.out hb4);clear hb4)
       |(go_at_call 289;refine(HW.out _ HB2.out).mono ?_;rintro e w3 ⟨xs,A2,c2,hm,rfl,hr,hb3⟩;have HB3:=za (bt HB2.out hb3);have HR:=za hr;have HAx:=za (HA.out xs hm);have HZ:Hid (∀x∈xs,My x):=za (fun x hx=>HS.out x.f (by rw[<-hm];exact zd8 hx));have HN:Hid (xs.length<=10000000):=za (by have:=HLn.out;rw[<-hm,W7]at this;omega);clear hm hr hb3)
       |(go_at_call 287;refine(HD.out _ HB.out).mono ?_;rintro e w2 ⟨rfl,hb2⟩;obtain⟨p0,p1,p2,p3,p4,p5,p6,pf,pl⟩:=kZ ((hb2.block _ zl).trans HX.out);have HB2:=za (bt HB.out hb2);clear hb2))
      all_goals
       go_ret;exact⟨rfl,HB4.out⟩
   · rw[if_neg (fun h=>hd h.1)]at hR;subst hR;go_enter func260,ntmps260;go_wp2_with (go_at_call 287;refine(HD.out _ HB.out).mono ?_;rintro e w2 ⟨rfl,hb2⟩;have HB2:=za (bt HB.out hb2);clear hb2)
     go_ret;exact⟨rfl,HB2.out⟩
end
end Go.Proofs.YtecbmndgpepkcaaGreatDoor

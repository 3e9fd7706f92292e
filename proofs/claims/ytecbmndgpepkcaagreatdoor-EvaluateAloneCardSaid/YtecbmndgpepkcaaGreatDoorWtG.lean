/- Contracts that the law rests on, each under the premises that it names. -/
import Derived.Test.YtecbmndgpepkcaaGreatDoorWtF
import Derived.BigRegion
namespace Go.Proofs.YtecbmndgpepkcaaGreatDoor
open Tryz
set_option maxHeartbeats 8000000
set_option maxRecDepth 100000
open Go.RowKit
theorem Eu{W:World}{g:Nat}{T:TypeId}{cs:Array Value}{k:Nat}{xs:List Value}(h:W.heap[g]? =some (.cells cs T (0,0)))(hx:cs.toList=xs)(hk:xs.length=1*k):zr W (g+1) (some ⟨g,0,none⟩) k 1 xs:=
 ⟨hk,fun _=>⟨g,0,rfl,zb,fun j u hu=>by
  rw[zk4];exact zd h Aq⟩⟩
theorem SC{w:World}{B n m c k:Nat}{A:Option Addr}{xs:List Value}(h:zr w B A k n xs)(hm:m<=n)(hc:n<=c):zr w B (if c=m then A else A.map (·.add (m*k))) k (n - m) (xs.drop (m*k)):=by
 refine⟨by rw[W8,h.len,Nat.mul_sub_right_distrib],fun hlt=>?_⟩;obtain⟨ba,off,rfl,hB,hx⟩:=h.at_ zb;rw[if_neg zb];refine⟨ba,off+m*k,by rw[zd6,Pu],hB,fun j u hu=>?_⟩;rw[zd5]at hu;rw[zk5];exact hx _ _ hu
theorem Fv{α:Type}{enc:α->List Value}{k:Nat}(he:∀x,(enc x).length=k)(l:List α)(m:Nat):(cellsOf enc l).drop (m*k)=cellsOf enc (l.drop m):=by
 induction l generalizing m with
 |nil=>simp[cellsOf]
 | cons x l ih=>
   cases m with
   |zero=>simp[cellsOf]
   | succ m=>
     have h1:cellsOf enc (x::l)=enc x++cellsOf enc l:=XP;rw[List.drop_succ_cons,h1,<-ih m,zl9,he,List.drop_of_length_le (by rw[he,Nat.succ_mul];omega),show(m+1)*k - k=m*k from by rw[Nat.succ_mul];omega,zk8]
theorem FN:(prog.info? 30).map (·.size)=some 1:=zg
theorem j8{B:Nat}(l ms:List Dv)(n k n':Nat)(A:Option Addr)(c:Nat)(S:Option Addr)(sc:Nat)(w:World)(h:w.ownsRow B zp 10 (.slice A n c) n (cellsOf zM l))(hs:zr w w.heap.size S 10 k (cellsOf zM ms))(hn:n<=1000)(hk:k<=1000)(he:n+k=n')(hB:B<=w.heap.size):
 ∃A' c' w',(Zv #[28,28] 28 #[.slice A n c,.slice S k sc]).run prog w=.ok (.slice A' n' c') w'/\w'.ownsRow B zp 10 (.slice A' n' c') n' (cellsOf zM (l++ms))/\w.grownBy w' (Value.slice A n c).ownBlock:=by
 subst he;obtain⟨i0,hi0,hz0,hz1,hz2⟩:=info_parts TJ;rw[Xf];cases k with
 | zero=>
   have h0:cellsOf zM ms=[]:=List.length_eq_zero_iff.1 (by rw[hs.len,Nat.zero_mul]);rw[h0,zk7,<-ZU];exact⟨A,c,w,Pt B 28 28 zp i0 10 Ng hi0 _ n _ h S sc,h,⟨rfl,rfl,rfl,zo,fun _ _ _=>rfl⟩⟩
 | succ k=>
   obtain⟨ba,off,rfl,_,hx⟩:=hs.at_ zb;obtain⟨v',w',h1,h2,h3,_,_⟩:=run_append_own_at (P:=prog) w B 28 28 zp i0 _ 10 136 Ng hi0 hz0 hz1 hz2 rfl zi (.slice A n c) n _ h ⟨ba,off,none⟩ (k+1) sc (cellsOf zM ms) hs.len (fun j u hu=>FW) (fun u hu=>by
    obtain⟨x,_,hx⟩:=List.mem_flatMap.1 hu;exact PK x u hx) ql zb hB
   exact Ru
theorem EQ{B:Nat}{A:Option Addr}{c n:Nat}{xs:List Value}(v:ByteArray)(g:Nat)(w:World)(h:w.ownsRow B qg 1 (.slice A n c) n xs)(hg:w.heap[g]? =some (.cells #[.string v] qg (0,0)))(hl:n<=1000000)(hB:B<=w.heap.size):
 ∃A' c' w',(Zv #[32,32] 32 #[.slice A n c,.slice (some ⟨g,0,none⟩) 1 1]).run prog w=.ok (.slice A' (n+1) c') w'/\w'.ownsRow B qg 1 (.slice A' (n+1) c') (n+1) (xs++[.string v])/\w.grownBy w' (Value.slice A n c).ownBlock:=by
 obtain⟨i0,hi0,hz0,hz1,hz2⟩:=info_parts F6;obtain⟨v',w',h1,h2,h3,_,_⟩:=run_append_own_at (P:=prog) w B 32 32 qg i0 _ 1 16 (by exact underlying32) hi0 hz0 hz1 hz2 rfl zi (.slice A n c) n _ h ⟨g,0,none⟩ 1 1 [.string v] rfl (fun j u hu=>by
  rw[Ua,zk4];exact zd hg Ot) qP ql zb hB
 exact Ru
def Ib(ds:List Dv)(d:Dv)(w:World)(e:Ending)(w':World):Prop:=∃(A:Option Addr) (n c:Nat) (z:Int),e=.returned (.tuple #[.agg #[.slice A n c],.int .i64 z])/\Below w.heap.size w w'/\(z=0->n<=c/\qV w.heap.size A/\∃m,n=(ds.take m++d::ds.drop m).length/\zE w' A 10 n (cellsOf zM (ds.take m++d::ds.drop m))/\ds.length<256/\YE ds d.ix=none/\(d.pa=0∨∃x∈ds.take m,x.ix=d.pa))
attribute [local go_sem ↓] ZU
theorem zf6 (A : Option Addr)(c:Nat)(ds:List Dv)(d:Dv)(w:World)(hE:Env0 w)(h:qj w A ds)(hc:ds.length<=c)(hd:ZM w d)(hz:RQ d)(hog:∀x∈ds,x.og.size<=1000):
 Calls prog 42 #[zV A ds c,zY d] w (Ib ds d w):=by
 have HCk:=za (fun(W:World) (hW:Below w.heap.size w W)=>zgI d W (hE.go hW) (hd.keep hW) hz);have HIx:=za (fun(n:Int) (W:World) (hW:Below w.heap.size w W)=>DN A c ds n W (h.keep hW));have HOg:=za (fun(n:Int) (W:World) (hW:Below w.heap.size w W)=>SO A c ds n W (h.keep hW));have HCl:=za (fun(x:Dv) (hx:x∈ds) (W:World) (hW:Below w.heap.size w W)=>zkl x d W (hE.go hW) (hog x hx) hz.og);have HTr:=za (fun(W:World) (hW:Below w.heap.size w W)=>h.keep hW);obtain⟨w1,hw1⟩:∃w1,((w.alloc (.cells #[.slice A ds.length c] 30)).alloc (.cells (zq d) zp)).alloc (.cells #[.slice none 0 0] 30)=w1:=⟨_,rfl⟩;have hb1:Below w.heap.size w w1:=by rw[<-hw1];exact zP (zP zu)
 have hr1:w1.heap[w.heap.size]? =some (.cells #[.slice A ds.length c] 30 (0,0)):=by
  rw[<-hw1];exact((zP zu:Below (w.alloc (.cells #[.slice A ds.length c] 30)).heap.size _ _).block _ zl).trans qt
 have hr2:w1.heap[w.heap.size+1]? =some (.cells (zq d) zp (0,0)):=by
  rw[<-hw1];have:=i5 (w.alloc (.cells #[.slice A ds.length c] 30)) (.cells (zq d) zp);refine(zu.block _ zl).trans ?_;exact QN
 have hr3:w1.heap[w.heap.size+1+1]? =some (.cells #[.slice none 0 0] 30 (0,0)):=by
  rw[<-hw1];have:=i5 ((w.alloc (.cells #[.slice A ds.length c] 30)).alloc (.cells (zq d) zp)) (.cells #[.slice none 0 0] 30);exact QN
 have HC:Hid (∀W:World,Below w1.heap.size w1 W->W.cell? ⟨w.heap.size,0,none⟩=some (.slice A ds.length c)/\W.cell? ⟨w.heap.size+1,0,none⟩=some (.int .i64 d.ix)/\W.cell? ⟨w.heap.size+1,1,none⟩=some (.int .i64 d.pa)/\W.cell? ⟨w.heap.size+1,2,none⟩=some (.string d.nam)/\W.cell? ⟨w.heap.size+1,3,none⟩=some (.string d.og)/\W.cell? ⟨w.heap.size+1,4,none⟩=some (.string d.sb)/\W.cell? ⟨w.heap.size+1,5,none⟩=some (.string d.dr)/\W.cell? ⟨w.heap.size+1,6,none⟩=some (.string d.al)/\W.cell? ⟨w.heap.size+1,7,none⟩=some (.int .i64 d.kd)/\W.cell? ⟨w.heap.size+1,8,none⟩=some (.int .i64 d.nb)/\W.cell? ⟨w.heap.size+1,9,none⟩=some (.slice d.ats.A d.ats.l.length d.ats.c)):=za fun W hW=>
  ⟨zd ((hW.block _ (zh hr1)).trans hr1) rfl,(Xq ((hW.block _ (zh hr2)).trans hr2)).1⟩
 have HF3:Hid (∀W:World,Below w1.heap.size w1 W->W.cell? ⟨w.heap.size+1+1,0,none⟩=some (.slice none 0 0)/\W.frozen? ⟨w.heap.size+1+1,0,none⟩=false):=za fun W hW=>
  ⟨zd ((hW.block _ (zh hr3)).trans hr3) rfl,frozen_of_row _ _ _ _ _ ((hW.block _ (zh hr3)).trans hr3)⟩
 have HR3:Hid (∀(W:World) (v:Value),Below w1.heap.size w1 W->(W.setCell ⟨w.heap.size+1+1,0,none⟩ v).heap[w.heap.size+1+1]? =some (.cells #[v] 30 (0,0))):=za fun W v hW=>heap_setCell_same _ _ _ _ _ _ ((hW.block _ (zh hr3)).trans hr3);have HB3r:Hid (∀W:World,Below w1.heap.size w1 W->W.heap[w.heap.size+1+1]? =some (.cells #[.slice none 0 0] 30 (0,0))):=za fun W hW=>(hW.block _ (zh hr3)).trans hr3;have HB1:=za hb1;have HW1:=za hw1;have hlen:=h.len;have HcL:=za hc;have HIe:Hid ((∃k:Nat,YF (fun x:Dv=>x.ix==d.ix) ds=k)∨YF (fun x:Dv=>x.ix==d.ix) ds= -1/\YE ds d.ix=none):=za (by
  rcases jF ds d.ix with⟨k,_,e1,_⟩|e
  · exact Or.inl ⟨k,e1⟩
  · exact Or.inr e)
 have HIp:Hid ((∃k,∃hk:k<ds.length,YF (fun x:Dv=>x.ix==d.pa) ds=(k:Nat)/\ds[k].ix=d.pa)∨YF (fun x:Dv=>x.ix==d.pa) ds= -1):=za (by
  rcases jF ds d.pa with⟨k,hk,e1,e2⟩|e
  · exact Or.inl ⟨k,hk,e1,(R3 e2).2⟩
  · exact Or.inr e.1)
 have hl1:w.heap.size<w1.heap.size:=zh hr1;have hl2:w.heap.size+1<w1.heap.size:=zh hr2;have hl3:w.heap.size+1+1<w1.heap.size:=zh hr3;clear hE h hc hd hz hb1 hr1 hr2 hr3 hw1;unfold zV zY zq at*;obtain⟨N,hN⟩:∃N,ds.length=N:=⟨_,rfl⟩;have HN:=za hN;rw[hN]at hlen HcL HIx HOg HC HW1⊢;clear hN;have HEnd:Hid (∀(W:World) (z:Int),Below w1.heap.size w1 W->z≠0->∀B,w.heap.size<=B->∀v,Ib ds d w (.returned (.tuple #[.agg #[.slice none 0 0],.int .i64 z])) (W.setCell ⟨B,0,none⟩ v)):=za fun W z hW hz B hB v=>
  ⟨none,0,0,z,rfl,(bt HB1.out hW).grown (qE W B 0 v) (bt HB1.out hW).size (fun j e=>by cases e;exact hB),fun e=>absurd e hz⟩
 go_enter func42,ntmps42;go_upto_region 1 with fail
 rw[HW1.out];obtain⟨c0,d0,d1,d2,d3,d4,d5,d6,d7,d8,d9⟩:=HC.out w1 zj;go_upto_region 3 with(go_at_call 59;refine(HCk.out _ HB1.out).mono ?_;rintro e w2 ⟨z,rfl,hb2⟩;have HB2:=za hb2;obtain⟨g0,k0⟩:=HF3.out _ hb2;(have hl4:w.heap.size+1+1<w2.heap.size:=i4 hl3 hb2.size);clear hb2)
 all_goals first
  | (refine Qx rfl zk zk (HR3.out _ _ HB2.out) underlying30 rfl JC zk ?_
     exact HEnd.out _ _ HB2.out zi _ zb _)
  |skip
 rcases HIe.out with⟨k,hk⟩|⟨hk,hno⟩
 · have HI:=HIx.out d.ix w2 (bt HB1.out HB2.out);rw[hk]at HI;have HI2:=za HI;clear HI hk;obtain⟨c0,d0,d1,d2,d3,d4,d5,d6,d7,d8,d9⟩:=HC.out w2 HB2.out;have hk0:(0:Int)<=(k:Int):=zb;go_wp2_with (go_at_call 44;refine HI2.out.mono ?_;rintro e w3 ⟨rfl,rfl⟩)
   exact PX
 · have HI := HIx.out d.ix w2 (bt HB1.out HB2.out);rw[hk]at HI;have HI2:=za HI;have HNo:=za hno;clear HI hk hno;obtain⟨c0,d0,d1,d2,d3,d4,d5,d6,d7,d8,d9⟩:=HC.out w2 HB2.out;go_upto_region 5 with(go_at_call 44;refine HI2.out.mono ?_;rintro e w3 ⟨rfl,rfl⟩)
   go_cut [32]from 22 to 100 (fun s32 wx=>∃b:Bool,s32=.bool b/\w3=wx/\Hid (b=false->d.pa=0∨∃k,∃h:k<ds.length,ds[k].ix=d.pa))
   case first=>
    have HI3:=za (HIx.out d.pa w3 (bt HB1.out HB2.out));have HPa:Hid (d.pa=0->(d.pa !=0)=false):=za fun e=>GY;have HPb:Hid (d.pa≠0->(d.pa !=0)=true):=za fun e=>by simpa using e
    by_cases hp0:d.pa=0
    · have HP0:=za hp0;have hp1:=HPa.out hp0;clear hp0;generalize d.pa=pa at*;go_wp2
      all_goals
       go_meet;exact⟨false,rfl,rfl,za fun _=>Or.inl HP0.out⟩
    · have hp1:=HPb.out hp0;rcases HIp.out with⟨k,hk,e1,e2⟩|e1
      · have HK:Hid (∃k,∃h:k<ds.length,ds[k].ix=d.pa):=za ⟨k,hk,e2⟩;rw[e1]at HI3;clear e1 e2 hk;have hk0:(0:Int)<=(k:Int):=zb;generalize d.pa=pa at*;go_wp2_with (go_at_call 44;refine HI3.out.mono ?_;rintro e w4 ⟨rfl,rfl⟩)
        all_goals
         go_meet;exact⟨false,rfl,rfl,za fun _=>Or.inr HK.out⟩
      · rw[e1]at HI3;clear e1;generalize d.pa=pa at*;go_wp2_with (go_at_call 44;refine HI3.out.mono ?_;rintro e w4 ⟨rfl,rfl⟩)
        go_meet;exact⟨true,rfl,rfl,za fun e=>ZK⟩
   case rest =>
    obtain⟨b,rfl,rfl,HPar⟩:=hcut;cases b with
    | true=>
      go_wp2;exact PX
    | false =>
      have HPr:=za (HPar.out rfl);clear HPar;by_cases hN:N<256
      · have hNI : (N:Int)<256:=by omega
        go_upto_region 9 with fail
        obtain⟨xs,hxs⟩:∃xs,QG (Y4 ds N d.pa)=xs:=⟨_,rfl⟩;have hxl:xs.length<=N:=by rw[<-hxs,Nf];exact GB _ _ _
        have HXs:=za hxs;go_cut [6]from 33 to 100 (fun s6 wx=>∃(OA:Option Addr) (oc:Nat),s6=.slice OA (xs.length+1) oc/\Hid (zr wx wx.heap.size OA 1 (xs.length+1) (cellsOf zD (xs++[L d.og])))/\Hid (Below w1.heap.size w1 wx))
        case first=>
         have HS9:Hid (∀W:World,Below w1.heap.size w1 W->W.cell? ⟨w.heap.size,0,none⟩=some (.slice A N c)/\W.cell? ⟨w.heap.size+1,1,none⟩=some (.int .i64 d.pa)/\W.cell? ⟨w.heap.size+1,3,none⟩=some (.string d.og)):=za fun W hW=>by
          obtain⟨q0,q1,q2,q3,q4,q5,q6,q7,q8,q9,q10⟩:=HC.out W hW;exact⟨q0,q2,q4⟩
         have HOr:Hid (∀W:World,Below w1.heap.size w1 W->Calls prog 45 #[.agg #[.slice A N c],.int .i64 d.pa] W fun e w'=>∃A' c',e=.returned (.slice A' xs.length c')/\w'.ownsRow W.heap.size qg 1 (.slice A' xs.length c') xs.length (cellsOf zD xs)/\Below W.heap.size W w'):=za fun W hW=>by
          have q:=HOg.out d.pa W (bt HB1.out hW);unfold Mx at q;rw[hxs]at q;exact q
         have HXe:Hid (cellsOf zD (xs++[L d.og])=cellsOf zD xs++[Value.string d.og]):=za T6;clear hxs g0 k0 c0 d0 d1 d2 d3 d4 d5 d6 d7 d8 d9
         go_region_held3 (fun W'=>W'.cell? ⟨w.heap.size,0,none⟩=some (.slice A N c)/\W'.cell? ⟨w.heap.size+1,1,none⟩=some (.int .i64 d.pa)/\W'.cell? ⟨w.heap.size+1,3,none⟩=some (.string d.og)) (exact HS9.out _ (by first|exact zN HB2.out|exact zP (zN HB2.out)|exact HBo.out|exact zP HBo.out|exact HB5.out)) ((first
          | (go_at_call 45
             first
             | (refine(HOr.out _ (zN HB2.out)).mono ?_
                rintro e wo ⟨OA,oc,rfl,hown,hbo⟩;have hbO:=bt (zN HB2.out) hbo;have HBo:=za hbO;obtain⟨A5,c5,w5,hap,hown5,hgr5⟩:=EQ d.og wo.heap.size (wo.alloc (.cells #[.string d.og] qg)) (qi (Qq hown (zN HB2.out).size) zu) qt zb (zP hbO).size;have HB5:=za ((zP hbO).grown hgr5 (zP hbO).size (fun j e=>(Qq hown (zN HB2.out).size).lt j e|>.1):Below w1.heap.size w1 w5);have HO5:=za hown5;clear hown hbo hown5 hgr5 hbO)
             | (refine(HOr.out _ (zP (zN HB2.out))).mono ?_
                rintro e wo ⟨OA,oc,rfl,hown,hbo⟩;have hbO:=bt (zP (zN HB2.out)) hbo;have HBo:=za hbO;obtain⟨A5,c5,w5,hap,hown5,hgr5⟩:=EQ d.og w3.heap.size wo (Qq hown (zP (zN HB2.out)).size) ((hbo.block _ zl).trans (i5 (w3.drew) _)) zb hbO.size;have HB5:=za (hbO.grown hgr5 hbO.size (fun j e=>(Qq hown (zP (zN HB2.out)).size).lt j e|>.1):Below w1.heap.size w1 w5);have HO5:=za hown5;clear hown hbo hown5 hgr5 hbO))))
         all_goals
          go_wp2;go_meet;exact⟨A5,c5,rfl,za (by rw[HXe.out];exact zr.of_own HO5.out),HB5⟩
        case rest =>
         obtain⟨OA,oc,rfl,HRo,HB3⟩:=hcut;have hl5:w.heap.size+1+1<wc.heap.size:=i4 hl3 HB3.out.size;by_cases hM:(7:Int)<((xs.length+1:Nat):Int)
         · clear g0 k0;obtain⟨g0,k0⟩:=HF3.out _ HB3.out;go_wp2;refine Qx rfl zk zk (HR3.out _ _ HB3.out) underlying30 rfl JC zk ?_;exact HEnd.out _ _ HB3.out zi _ zb _
         · go_wp2;have HIn:=za hog;clear hog g0 k0 c0 d0 d1 d2 d3 d4 d5 d6 d7 d8 d9;go_loopg [7,8,9] (N+1) (fun gk s7 s8 _ wr=>∃k m:Nat,s7=.int .i64 m/\s8=.int .i64 k/\k+gk=N+1/\k<=N/\m<=k/\Hid (∀p (h:p<ds.length),p<k->ds[p].ix=d.pa->p<m)/\Hid (Below wc.heap.size wc wr))
           case atStart=>exact⟨0,0,rfl,rfl,zb,X1 _,zo,za (fun p _ h=>absurd h (Nat.not_lt_zero _)),za zj⟩
           case round=>
            obtain⟨k,m,rfl,rfl,hkg,hkN,hmk,HPm,HB⟩:=hrel;have HBr:=za (bt HB3.out HB.out);have hl6:w.heap.size+1+1<wr.heap.size:=i4 hl3 HBr.out.size;obtain⟨c0,d0,d1,d2,d3,d4,d5,d6,d7,d8,d9⟩:=HC.out wr HBr.out;obtain⟨g0,k0⟩:=HF3.out _ HBr.out;by_cases hlt:k<N
            · have hltI:(k:Int)<(N:Int):=by omega
              have hk1:k<ds.length:=kz;have HTk:=HTr.out wr (bt HB1.out HBr.out);obtain⟨ba,off,rfl,hba,hcx⟩:=HTk.dcell hk1;clear HTk;obtain⟨y,hy⟩:∃y,ds[k]=y:=⟨_,rfl⟩;rw[hy]at hcx;have HYm:Hid (y∈ds):=za (by rw[<-hy];exact X8 hk1);have HYr:Hid (∀p (h:p<ds.length),p=k->ds[p].ix=y.ix):=za fun p h e=>by subst e;rw[hy]
              have HS17:Hid (∀W':World,Below wr.heap.size wr W'->W'.cell? ⟨w.heap.size,0,none⟩=some (.slice (some ⟨ba,off,none⟩) N c)/\W'.cell? ⟨w.heap.size+1,0,none⟩=some (.int .i64 d.ix)/\W'.cell? ⟨w.heap.size+1,1,none⟩=some (.int .i64 d.pa)/\W'.cell? ⟨w.heap.size+1,2,none⟩=some (.string d.nam)/\W'.cell? ⟨w.heap.size+1,3,none⟩=some (.string d.og)/\W'.cell? ⟨w.heap.size+1,4,none⟩=some (.string d.sb)/\W'.cell? ⟨w.heap.size+1,5,none⟩=some (.string d.dr)/\W'.cell? ⟨w.heap.size+1,6,none⟩=some (.string d.al)/\W'.cell? ⟨w.heap.size+1,7,none⟩=some (.int .i64 d.kd)/\W'.cell? ⟨w.heap.size+1,8,none⟩=some (.int .i64 d.nb)/\W'.cell? ⟨w.heap.size+1,9,none⟩=some (.slice d.ats.A d.ats.l.length d.ats.c)/\W'.cell? ⟨ba,off+k*10,none⟩=some (.int .i64 y.ix)/\W'.cell? ⟨ba,off+k*10+1,none⟩=some (.int .i64 y.pa)/\W'.cell? ⟨ba,off+k*10+2,none⟩=some (.string y.nam)/\W'.cell? ⟨ba,off+k*10+3,none⟩=some (.string y.og)/\W'.cell? ⟨ba,off+k*10+4,none⟩=some (.string y.sb)/\W'.cell? ⟨ba,off+k*10+5,none⟩=some (.string y.dr)/\W'.cell? ⟨ba,off+k*10+6,none⟩=some (.string y.al)/\W'.cell? ⟨ba,off+k*10+7,none⟩=some (.int .i64 y.kd)/\W'.cell? ⟨ba,off+k*10+8,none⟩=some (.int .i64 y.nb)/\W'.cell? ⟨ba,off+k*10+9,none⟩=some (.slice y.ats.A y.ats.l.length y.ats.c)):=za fun W' hW=>by
               obtain⟨q0,q⟩:=HC.out W' (bt HBr.out hW);have hy2:∀i v,(zM y)[i]? =some v->W'.cell? ⟨ba,off+k*10+i,none⟩=some v:=fun i v hv=>(hW.cell (p:=⟨ba,off+k*10+i,none⟩) hba).trans (hcx i v hv);obtain⟨q1,q2,q3,q4,q5,q6,q7,q8,q9,q10⟩:=q;exact⟨q0,q1,q2,q3,q4,q5,q6,q7,q8,q9,q10,hy2 0 _ rfl,hy2 1 _ rfl,hy2 2 _ rfl,hy2 3 _ rfl,hy2 4 _ rfl,hy2 5 _ rfl,hy2 6 _ rfl,hy2 7 _ rfl,hy2 8 _ rfl,hy2 9 _ rfl⟩
              have HS16:Hid (∀W':World,Below wr.heap.size wr W'->W'.cell? ⟨w.heap.size,0,none⟩=some (.slice (some ⟨ba,off,none⟩) N c)/\W'.cell? ⟨ba,off+k*10,none⟩=some (.int .i64 y.ix)):=za fun W' hW=>
               ⟨(HC.out W' (bt HBr.out hW)).1,(hW.cell (p:=⟨ba,off+k*10+0,none⟩) hba).trans (hcx 0 _ rfl)⟩
              obtain⟨zs,hzs⟩:∃zs,QG (Y4 ds N y.ix)=zs:=⟨_,rfl⟩;have hzl:zs.length<=N:=by rw[<-hzs,Nf];exact GB _ _ _
              have HZx:Hid (y.ix=d.pa->zs=xs):=za fun e=>by rw[<-hzs,e];exact HXs.out
              have HOy:Hid (∀W:World,Below w1.heap.size w1 W->Calls prog 45 #[.agg #[.slice (some ⟨ba,off,none⟩) N c],.int .i64 y.ix] W fun e w'=>∃A' c',e=.returned (.slice A' zs.length c')/\zr w' w'.heap.size A' 1 zs.length (cellsOf zD zs)/\Below W.heap.size W w'):=za fun W hW=>by
               have q:=HOg.out y.ix W (bt HB1.out hW);unfold Mx at q;rw[hzs]at q;refine q.mono ?_;rintro e w' ⟨A',c',rfl,h1,h2⟩;exact⟨A',c',rfl,zr.of_own h1,h2⟩
              have HCm:Hid (∀(W:World) (ZA:Option Addr) (zc:Nat),Below wc.heap.size wc W->zr W W.heap.size ZA 1 zs.length (cellsOf zD zs)->Calls prog 60 #[.slice ZA zs.length zc,.slice OA (xs.length+1) oc] W (Db zs (xs++[L d.og]) W)):=za fun W ZA zc hW hr=>by
               have hl:(xs++[L d.og]).length=xs.length+1:=zl;have q:=zhp ZA zc zs OA oc (xs++[L d.og]) W hr (by rw[hl];exact(HRo.out.keep hW).up hW.size) zb (by rw[hl];omega);rw[hl]at q;exact q
              clear hcx hzs hk1 hy;go_upto_region 16 with fail
              go_region_held3 (fun W'=>W'.cell? ⟨w.heap.size,0,none⟩=some (.slice (some ⟨ba,off,none⟩) N c)/\W'.cell? ⟨ba,off+k*10,none⟩=some (.int .i64 y.ix)) (exact HS16.out _ (by first|exact zN zj|exact HBp.out|exact HBo.out)) ((first
               | (go_at_call 45
                  refine(HOy.out _ (zN HBr.out)).mono ?_;rintro e wo ⟨ZA,zc,rfl,hrz,hbo⟩;have HBo:=za (bt (zN (Below.refl wr.heap.size wr)) hbo);have HRz:=za hrz;clear hrz hbo)
               | (go_at_call 60
                  refine(HCm.out _ _ _ (bt HB.out HBo.out) HRz.out).mono ?_;rintro e wp ⟨z,rfl,hz,hbp⟩;have HBp:=za (bt HBo.out hbp);have HZ:Hid (y.ix=d.pa->z= -1):=za fun e=>hz (L d.og) (by rw[HZx.out e]);clear hz hbp)))
              go_upto_region 17 with fail
              have hl7:w.heap.size+1+1<wp.heap.size:=i4 hl6 HBp.out.size;by_cases hz0:z=0
              · subst hz0;go_quiet (fail)
                have Hq:=za (ZO HBp.out nq);generalize wp.drewN nq=wq at*;have hl8:w.heap.size+1+1<wq.heap.size:=i4 hl6 Hq.out.size;obtain⟨g1,k1⟩:=HF3.out wq (bt HBr.out Hq.out);go_wp2;refine Qx rfl zk zk (HR3.out _ _ (bt HBr.out Hq.out)) underlying30 rfl JC zk ?_;exact HEnd.out _ _ (bt HBr.out Hq.out) zi _ zb _
              · have hz1:(z==0)=false:=by simpa using hz0
                have hz2:decide (z=0)=false:=by simpa using hz0
                go_region_held3 (fun W'=>W'.cell? ⟨w.heap.size,0,none⟩=some (.slice (some ⟨ba,off,none⟩) N c)/\W'.cell? ⟨w.heap.size+1,0,none⟩=some (.int .i64 d.ix)/\W'.cell? ⟨w.heap.size+1,1,none⟩=some (.int .i64 d.pa)/\W'.cell? ⟨w.heap.size+1,2,none⟩=some (.string d.nam)/\W'.cell? ⟨w.heap.size+1,3,none⟩=some (.string d.og)/\W'.cell? ⟨w.heap.size+1,4,none⟩=some (.string d.sb)/\W'.cell? ⟨w.heap.size+1,5,none⟩=some (.string d.dr)/\W'.cell? ⟨w.heap.size+1,6,none⟩=some (.string d.al)/\W'.cell? ⟨w.heap.size+1,7,none⟩=some (.int .i64 d.kd)/\W'.cell? ⟨w.heap.size+1,8,none⟩=some (.int .i64 d.nb)/\W'.cell? ⟨w.heap.size+1,9,none⟩=some (.slice d.ats.A d.ats.l.length d.ats.c)/\W'.cell? ⟨ba,off+k*10,none⟩=some (.int .i64 y.ix)/\W'.cell? ⟨ba,off+k*10+1,none⟩=some (.int .i64 y.pa)/\W'.cell? ⟨ba,off+k*10+2,none⟩=some (.string y.nam)/\W'.cell? ⟨ba,off+k*10+3,none⟩=some (.string y.og)/\W'.cell? ⟨ba,off+k*10+4,none⟩=some (.string y.sb)/\W'.cell? ⟨ba,off+k*10+5,none⟩=some (.string y.dr)/\W'.cell? ⟨ba,off+k*10+6,none⟩=some (.string y.al)/\W'.cell? ⟨ba,off+k*10+7,none⟩=some (.int .i64 y.kd)/\W'.cell? ⟨ba,off+k*10+8,none⟩=some (.int .i64 y.nb)/\W'.cell? ⟨ba,off+k*10+9,none⟩=some (.slice y.ats.A y.ats.l.length y.ats.c)) (exact HS17.out _ (by first|exact zN HBp.out|exact HBq.out)) ((first
                 | (go_at_call 61
                    refine(HCl.out y HYm.out _ (bt HB1.out (bt HBr.out (zN HBp.out)))).mono ?_;rintro e wq ⟨b,rfl,hbq⟩;have HBq:=za (bt (zN HBp.out) hbq);clear hbq)))
                have hl8:w.heap.size+1+1<wq.heap.size:=i4 hl6 HBq.out.size;obtain⟨g1,k1⟩:=HF3.out wq (bt HBr.out HBq.out);cases b with
                | true=>
                  go_wp2;refine Qx rfl zk zk (HR3.out _ _ (bt HBr.out HBq.out)) underlying30 rfl JC zk ?_;exact HEnd.out _ _ (bt HBr.out HBq.out) zi _ zb _
                | false=>
                  by_cases hzn:z<0
                  · go_wp2;go_roundg (gk - 1)
                    case measure=>omega
                    case rel=>exact⟨k+1,k+1,zU,zU,zb,zb,zo,za (fun p h h1 _=>h1),za (bt HB.out HBq.out)⟩
                  · have HNz:Hid (y.ix≠d.pa):=za fun e=>by have:=HZ.out e;omega
                    go_wp2;go_roundg (gk - 1)
                    case measure=>omega
                    case rel=>
                     refine⟨k+1,m,rfl,zU,zb,zb,zb,za (fun p h h1 h2=>?_),za (bt HB.out HBq.out)⟩;rcases Nat.lt_or_ge p k with h3|h3
                     · exact HPm.out p h h3 h2
                     · exact absurd ((HYr.out p h zb).symm.trans h2) HNz.out
            · obtain rfl:k=N:=by omega
              have hltI:¬(k:Int)<(k:Int):=zb;go_upto_region 22 with fail
              obtain⟨wa,hwa⟩:∃wa,wr.alloc (.cells #[.slice none 0 0] 30)=wa:=⟨_,rfl⟩;have hba:Below wr.heap.size wr wa:=by rw[<-hwa];exact zu
              have hra:wa.heap[wr.heap.size]? =some (.cells #[.slice none 0 0] 30 (0,0)):=by rw[<-hwa];exact qt
              rw[hwa];have hla:=zh hra;have hcI:k<=c:=HcL.out;have HBa:Hid (∀W,Below wa.heap.size wa W->Below w1.heap.size w1 W):=za fun W hW=>bt HBr.out (bt hba hW);have HR1:Hid (∀W,Below wa.heap.size wa W->zr W W.heap.size A 10 m (cellsOf zM (ds.take m))):=za fun W hW=>by
               have q:=(HTr.out W (bt HB1.out (HBa.out W hW))).row.row;rw[HN.out]at q;have q2:=q.head hmk;rw[yQ zM 10 Xl]at q2;exact q2
              have HR4:Hid (∀W,Below wa.heap.size wa W->zr W W.heap.size (if c=m then A else A.map (·.add (m*10))) 10 (k - m) (cellsOf zM (ds.drop m))):=za fun W hW=>by
               have q:=(HTr.out W (bt HB1.out (HBa.out W hW))).row.row;rw[HN.out]at q;have q2:=SC q hmk hcI;rw[Fv Xl]at q2;exact q2
              have HX10:Hid (∀W,Below wa.heap.size wa W->W.cell? ⟨wr.heap.size,0,none⟩=some (.slice none 0 0)/\W.frozen? ⟨wr.heap.size,0,none⟩=false/\W.cell? ⟨w.heap.size+1+1,0,none⟩=some (.slice none 0 0)/\W.frozen? ⟨w.heap.size+1+1,0,none⟩=false/\W.cell? ⟨w.heap.size,0,none⟩=some (.slice A k c)/\wr.heap.size<W.heap.size/\w.heap.size+1+1<W.heap.size):=za fun W hW=>
               ⟨zd ((hW.block _ hla).trans hra) rfl,frozen_of_row _ _ _ _ _ ((hW.block _ hla).trans hra),(HF3.out W (HBa.out W hW)).1,(HF3.out W (HBa.out W hW)).2,(HC.out W (HBa.out W hW)).1,i4 hla hW.size,i4 (Nat.lt_trans hl6 hla) hW.size⟩
              have HFin:Hid (∀(W:World) (A3:Option Addr) (c3:Nat) (u v:Value),Below wa.heap.size wa W->W.ownsRow wa.heap.size zp 10 (.slice A3 (k+1) c3) (k+1) (cellsOf zM ((ds.take m++[d])++ds.drop m))->Ib ds d w (.returned (.tuple #[.agg #[.slice A3 (k+1) c3],.int .i64 0])) ((W.setCell ⟨wr.heap.size,0,none⟩ u).setCell ⟨w.heap.size+1+1,0,none⟩ v)):=za fun W A3 c3 u v hW ho=>by
               have e1:(ds.take m++[d])++ds.drop m=ds.take m++d::ds.drop m:=zl;rw[e1]at ho;have ho2:=UD rfl (UD rfl ho hla (u:=u) (i:=0)) (show w.heap.size+1+1<wa.heap.size by omega) (u:=v) (i:=0);have hbw:=bt HB1.out (HBa.out W hW);have h3:Below w.heap.size w (W.setCell ⟨wr.heap.size,0,none⟩ u):=hbw.grown (qE W wr.heap.size 0 u) hbw.size (fun j e=>Im);refine⟨A3,k+1,c3,0,rfl,h3.grown (qE _ (w.heap.size+1+1) 0 v) h3.size (fun j e=>Im),fun _=>⟨?_,qV.mono (zE.of_own ho2).2 zb,m,?_,(zE.of_own ho2).1,?_,HNo.out,?_⟩⟩
               · rcases ho.2 with⟨h1,h2⟩|⟨g',cap,cur,h1,_,_,hr,_⟩
                 · omega
                 · injection h1 with _ _ h4
                   omega
               · have:=HN.out;exact C2
               · rw[HN.out];exact hN
               · rcases HPr.out with h1|⟨p,hp,h1⟩
                 · exact Or.inl h1
                 · have hp2:=HPm.out p hp (by rw[<-HN.out];exact hp) h1;refine Or.inr ⟨ds[p],?_,h1⟩;exact List.mem_take_iff_getElem.2 ⟨p,zb,rfl⟩
              have hb0:Below wa.heap.size wa wa.drew:=zN zj;have hmm:(ds.take m).length=m:=DX;have HA1:Hid (∀W0:World,Below wa.heap.size wa W0->∃A1 c1 W1,(Zv #[28,28] 28 #[.slice none 0 0,.slice A m c]).run prog W0=.ok (.slice A1 m c1) W1/\Below wa.heap.size wa W1/\W1.ownsRow wa.heap.size zp 10 (.slice A1 m c1) m (cellsOf zM ([]++ds.take m))/\∀la o,W0.heap[la]? =some o->W1.heap[la]? =some o):=za fun W0 hW0=>by
               obtain⟨A1,c1,W1,q1,q2,q3⟩:=j8 (B:=wa.heap.size) [] (ds.take m) 0 m m none 0 A c W0 (World.ownsRow_nil _ _ _ _) (HR1.out W0 hW0) zb zb zb hW0.size;exact S8
              have HA2:Hid (∀(W1:World) (A1:Option Addr) (c1 la:Nat),Below wa.heap.size wa W1->W1.ownsRow wa.heap.size zp 10 (.slice A1 m c1) m (cellsOf zM ([]++ds.take m))->W1.heap[la]? =some (.cells #[.int .i64 d.ix,.int .i64 d.pa,.string d.nam,.string d.og,.string d.sb,.string d.dr,.string d.al,.int .i64 d.kd,.int .i64 d.nb,.slice d.ats.A d.ats.l.length d.ats.c] zp (0,0))->∃A2 c2 W2,(Zv #[28,28] 28 #[.slice A1 m c1,.slice (some ⟨la,0,none⟩) 1 1]).run prog W1=.ok (.slice A2 (m+1) c2) W2/\∃A3 c3 W3,(Zv #[28,28] 28 #[.slice A2 (m+1) c2,.slice (if c=m then A else A.map (·.add (m*10))) (k - m) (c - m)]).run prog W2=.ok (.slice A3 (k+1) c3) W3/\Below wa.heap.size wa W2/\Below wa.heap.size wa W3/\W3.ownsRow wa.heap.size zp 10 (.slice A3 (k+1) c3) (k+1) (cellsOf zM ((ds.take m++[d])++ds.drop m))):=za fun W1 A1 c1 la hB1' q2 hlit1=>by
               obtain⟨A2,c2,W2,q4,q5,q6⟩:=j8 (B:=wa.heap.size) ([]++ds.take m) [d] m 1 (m+1) A1 c1 (some ⟨la,0,none⟩) 1 W1 q2 ((Eu hlit1 rfl rfl).up (zh hlit1)) zb zb rfl hB1'.size;have hB2':=hB1'.grown q6 hB1'.size (fun j e=>(q2.lt j e).1);obtain⟨A3,c3,W3,q7,q8,q9⟩:=j8 (B:=wa.heap.size) ([]++ds.take m++[d]) (ds.drop m) (m+1) (k - m) (k+1) A2 c2 (if c=m then A else A.map (·.add (m*10))) (c - m) W2 q5 (HR4.out W2 hB2') zb zb zb hB2'.size;exact⟨A2,c2,W2,q4,A3,c3,W3,q7,hB2',hB2'.grown q9 hB2'.size (fun j e=>(q5.lt j e).1),q8⟩
              -- the two orders
              have hbA:Below wa.heap.size wa (wa.alloc (.cells #[.int .i64 d.ix,.int .i64 d.pa,.string d.nam,.string d.og,.string d.sb,.string d.dr,.string d.al,.int .i64 d.kd,.int .i64 d.nb,.slice d.ats.A d.ats.l.length d.ats.c] zp)).drew:=zN zu;have hlA:(wa.alloc (.cells #[.int .i64 d.ix,.int .i64 d.pa,.string d.nam,.string d.og,.string d.sb,.string d.dr,.string d.al,.int .i64 d.kd,.int .i64 d.nb,.slice d.ats.A d.ats.l.length d.ats.c] zp)).drew.heap[wa.heap.size]? =some (.cells #[.int .i64 d.ix,.int .i64 d.pa,.string d.nam,.string d.og,.string d.sb,.string d.dr,.string d.al,.int .i64 d.kd,.int .i64 d.nb,.slice d.ats.A d.ats.l.length d.ats.c] zp):=i5 wa _;obtain⟨A1,c1,W1,r1,hbA1,ho1,hk1⟩:=HA1.out _ hbA;obtain⟨A2,c2,W2,r2,A3,c3,W3,r3,hbA2,hbA3,ho3⟩:=HA2.out W1 A1 c1 _ hbA1 ho1 (hk1 _ _ hlA);obtain⟨B1,e1,V1,s1,hbB1,po1,_⟩:=HA1.out _ hb0;have hbB:=(zP hbB1:Below wa.heap.size wa (V1.alloc (.cells #[.int .i64 d.ix,.int .i64 d.pa,.string d.nam,.string d.og,.string d.sb,.string d.dr,.string d.al,.int .i64 d.kd,.int .i64 d.nb,.slice d.ats.A d.ats.l.length d.ats.c] zp)));have hlB:=i5 V1 (.cells #[.int .i64 d.ix,.int .i64 d.pa,.string d.nam,.string d.og,.string d.sb,.string d.dr,.string d.al,.int .i64 d.kd,.int .i64 d.nb,.slice d.ats.A d.ats.l.length d.ats.c] zp);obtain⟨B2,e2,V2,s2,B3,e3,V3,s3,hbB2,hbB3,po3⟩:=HA2.out _ B1 e1 _ hbB (qi po1 zu) hlB;have HE3:=za (fun v=>HFin.out W3 A3 c3 (.slice A3 (k+1) c3) v hbA3 ho3);have HF9:=za (fun v=>HFin.out V3 B3 e3 (.slice B3 (k+1) e3) v hbB3 po3);have HQ0:Hid (∀(W:World) (u:Value),Below wa.heap.size wa W->(W.setCell ⟨wr.heap.size,0,none⟩ u).heap[wr.heap.size]? =some (.cells #[u] 30 (0,0))/\(W.setCell ⟨wr.heap.size,0,none⟩ u).heap[w.heap.size+1+1]? =some (.cells #[.slice none 0 0] 30 (0,0))/\w.heap.size+1+1<(W.setCell ⟨wr.heap.size,0,none⟩ u).heap.size):=za fun W u hW=>by
               have h1:=(hW.block _ hla).trans hra;have h3:=HB3r.out W (HBa.out W hW);refine⟨heap_setCell_same _ _ _ _ _ _ h1,(heap_setCell_other W ⟨wr.heap.size,0,none⟩ _ _ (by show w.heap.size+1+1≠wr.heap.size;omega)).trans h3,?_⟩;have:=zh h3;have:=(qE W wr.heap.size 0 u).size;omega
              have HBW:=za hbA3;have HBV:=za hbB3;have hne:w.heap.size+1+1≠wr.heap.size:=zb;have hne2:wr.heap.size≠w.heap.size+1+1:=zb;have hlw:w.heap.size<wa.heap.size:=zb;clear c0 d0 d1 d2 d3 d4 d5 d6 d7 d8 d9 g0 k0;obtain⟨-,d0,d1,d2,d3,d4,d5,d6,d7,d8,d9⟩:=HC.out wa.drew (HBa.out _ hb0);obtain⟨-,b0,b1,b2,b3,b4,b5,b6,b7,b8,b9⟩:=HC.out V1 (HBa.out _ hbB1);obtain⟨x1,-,-,-,x5,-,-⟩:=HX10.out wa.drew hb0;obtain⟨x1',-,-,-,x5',-,-⟩:=HX10.out wa zj;obtain⟨-,-,-,-,y5,-,-⟩:=HX10.out W1 hbA1;obtain⟨-,-,-,-,z5,-,-⟩:=HX10.out W2 hbA2;obtain⟨t1,t2,t3,t4,-,-,-⟩:=HX10.out W3 hbA3;obtain⟨-,-,-,-,a5,-,a7⟩:=HX10.out V1 hbB1;obtain⟨-,-,-,-,o5,-,-⟩:=HX10.out V2 hbB2;obtain⟨p1,p2,p3,p4,-,-,-⟩:=HX10.out V3 hbB3;have a8:w.heap.size<V1.heap.size:=zb;have hmI:(m:Int)<=(k:Int):=zb;have hmc:(m:Int)<=(c:Int):=zb;have hkc:(k:Int)<=(c:Int):=zb;clear hwa hba hra hbA hlA hbA1 ho1 hk1 hbA2 hbA3 ho3 hbB1 po1 hbB hlB hbB2 hbB3 po3 hb0;have HQa:Hid (∀(W:World) (u:Value),Below wa.heap.size wa W->(W.setCell ⟨wr.heap.size,0,none⟩ u).heap[wr.heap.size]? =some (.cells #[u] 30 (0,0))/\(W.setCell ⟨wr.heap.size,0,none⟩ u).heap[w.heap.size+1+1]? =some (.cells #[.slice none 0 0] 30 (0,0))/\w.heap.size+1+1<(W.setCell ⟨wr.heap.size,0,none⟩ u).heap.size):=HQ0;clear HQ0;go_cut [10]from 84 to 99 (fun s10 wx=>s10=.pointer (some ⟨wr.heap.size,0,none⟩)/\∃(A3:Option Addr) (c3:Nat),Hid (wx.heap[wr.heap.size]? =some (.cells #[.slice A3 (k+1) c3] 30 (0,0)))/\Hid (wx.heap[w.heap.size+1+1]? =some (.cells #[.slice none 0 0] 30 (0,0)))/\Hid (∀v,Ib ds d w (.returned (.tuple #[.agg #[.slice A3 (k+1) c3],.int .i64 0])) (wx.setCell ⟨w.heap.size+1+1,0,none⟩ v)))
              case first=>
               by_cases hcm:c=m
               · rw[if_pos hcm]at r3 s3;obtain rfl:=hcm;obtain rfl:k=c:=zb;rw[zj2]at r3 s3;exact AT
               · rw[if_neg hcm]at r3 s3;exact AT
              case rest=>
               obtain⟨rfl,A3,c3,HG1,HG2,HG3⟩:=hcut;clear c0 d0 d1 d2 d3 d4 d5 d6 d7 d8 d9 b0 b1 b2 b3 b4 b5 b6 b7 b8 b9;have g1:=zd (j:=0) HG1.out rfl;have g2:=zd (j:=0) HG2.out rfl;have g3:wc.frozen? ⟨w.heap.size+1+1,0,none⟩=false:=frozen_of_row _ _ _ _ _ HG2.out;have g4:=zh HG1.out;have g5:=zh HG2.out;have HR9:Hid (∀v,(wc.setCell ⟨w.heap.size+1+1,0,none⟩ v).heap[w.heap.size+1+1]? =some (.cells #[v] 30 (0,0))):=za fun v=>heap_setCell_same _ _ _ _ _ _ HG2.out;go_wp2;refine Qx rfl zk zk (HR9.out _) underlying30 rfl JC zk ?_;exact HG3.out _
      · have hNI:¬(N:Int)<256:=by omega
        go_wp2;exact PX
end Go.Proofs.YtecbmndgpepkcaaGreatDoor

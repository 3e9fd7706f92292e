/- Contracts of functions that the law reaches, and what they rest on; each under the premises that it names. Shortened by a program. -/
import Derived.Test.YtecbmndgpepkcaaGreatDoorG06
namespace Go.Proofs.YtecbmndgpepkcaaGreatDoor
open Tryz
set_option maxHeartbeats 8000000
set_option maxRecDepth 100000
open Go.RowKit
def Xs:ze->Option ((UInt8×UInt8)×Nat)
 | []=>none
 | c::r=>match Q7 r with
   |some b=>if c<=b then some ((c,b),3)else none
   |none=>some ((c,c),1)
def Yj(g b:Nat)(w w':World):Prop:=∀w0:World,w0.grownBy w (some g)->w0.heap.size<=b->w0.grownBy w' (some g)
def Hj(p:ByteArray)(i g b:Nat)(rs:List (UInt8×UInt8))(w:World)(e:Ending)(w':World):Prop:=Yj g b w w' /\
 match Xs ((L p).drop i)with
 |none=>e=.returned (.bool false)
 |some (x,n)=>e=.returned (.bool true)/\w'.heap[g]? =some (.cells #[.string p,.int .i64 ((i+n:Nat):Int)] 261 (0,0))/\w'.heap[b]? =some (.cells (zZ 127 (qn (rs++[x]))) 265 (0,0))
abbrev Qv(p:ByteArray)(z:Int):Obj:=.cells #[.string p,.int .i64 z] 261 (0,0)
theorem Jk{w:World}{g:Nat}{p:ByteArray}{z y:Int}(h:w.heap[g]? =some (Qv p z)):(w.setCell ⟨g,1,none⟩ (.int .i64 y)).heap[g]? =some (Qv p y):=ID h rfl
theorem IH{w:World}{g:Nat}{o:Obj}(h:w.heap[g]? =some o)(k:Nat):(w.drewN k).heap[g]? =some o:=h
theorem U3{w:World}{g b:Nat}{o:Obj}{u:Value}{i:Nat}(h:w.heap[b]? =some o)(hne:g≠b):(w.setCell ⟨g,i,none⟩ u).heap[b]? =some o:=(heap_setCell_other _ _ _ _ (fun e=>hne e.symm)).trans h
theorem Yj.refl(g b:Nat)(w:World):Yj g b w w:=fun _ h _=>h
theorem Yj.drewN{g b:Nat}{w W:World}(h:Yj g b w W)(k:Nat):Yj g b w (W.drewN k):=fun w0 hg hb=>qQ (h w0 hg hb) (YD _ _ _)
theorem Yj.set{g b i:Nat}{u:Value}{w W:World}(h:Yj g b w W):Yj g b w (W.setCell ⟨g,i,none⟩ u):=fun w0 hg hb=>qQ (h w0 hg hb) (qu _ _ _ _)
theorem Yj.setB{g b i:Nat}{u:Value}{w W:World}(h:Yj g b w W):Yj g b w (W.setCell ⟨b,i,none⟩ u):=fun w0 hg hb=>Yz (h w0 hg hb) (qu _ _ _ _) (fun j e=>by cases e;exact Or.inl hb)
theorem zbG(p:ByteArray)(i g b:Nat)(rs:List (UInt8×UInt8))(w:World)(hp:p.size<=256)(hpr:qR (L p)=true)(hi:i<=p.size)(hne:g≠b)(hg:w.heap[g]? =some (.cells #[.string p,.int .i64 i] 261 (0,0)))(hb:w.heap[b]? =some (.cells (zZ 127 (qn rs)) 265 (0,0))):
 Calls prog 262 #[.pointer (some ⟨g,0,none⟩),.pointer (some ⟨b,0,none⟩)] w (Hj p i g b rs w):=by
 have HG:=za hg;have HB:=za hb;have HP:=za hpr;have c0:=zd (j:=0) (u:=.string p) hg rfl;have c1:=zd (j:=1) (u:=.int .i64 i) hg rfl;have f1:=frozen_of_row _ _ 1 _ _ hg;have hiI:(i:Int)<=(p.size:Int):=zb;clear hg hb hpr;obtain⟨q,hq⟩:∃q,p.extract i p.size=q:=⟨_,rfl⟩;have hL:L q=(L p).drop i:=RA;have hqs:q.size=p.size - i:=by rw[<-hq,GT];omega
 have hqg:∀(k:Nat) (h:k<q.size),q[k]=p[i+k]' zb:=fun k h=>by
  have h1:(L q)[k]? =some q[k]:=by rw[List.getElem?_eq_getElem Vz];rfl
  rw[hL,List.getElem?_drop,List.getElem?_eq_getElem kW]at h1;exact(zx h1).symm
 go_enter func262,ntmps262;go_wp2;go_quiet (fail)
 have HL:=za hL;clear hL hq;by_cases h0:i<p.size
 · have hq0:(0:Int)<(q.size:Int):=by omega
   have t1:q.toList.isEmpty=false:=by rw[tl];cases hh:L q with
    |nil=>have:=zC q;rw[hh]at this;simp at this;omega
    |cons x y=>rfl
   have t2:¬q.toList=[]:=fun e=>by rw[e]at t1;cases t1
   have hpa:=NP HP.out i h0;have ha:q[0]' zb=p[i]:=by rw[hqg 0 zb];rfl
   have HR:Hid (Xs ((L p).drop i)=match Q7 ((L p).drop (i+1))with
    |some b=>if p[i]<=b then some ((p[i],b),3)else none
    |none=>some ((p[i],p[i]),1)):=za (by rw[UE p i h0,Xs])
   have hcase:∀b2,Q7 ((L p).drop (i+1))=some b2->∃h:2<q.size,q[1]=45/\q[2]=b2/\b2≠93/\32<=b2.toNat/\b2.toNat<=126:=fun b2 hr=>by
    obtain⟨h1,h2,h45,hb2,hne⟩:=FQ hr;have:=NP HP.out (i+2) h2;rw[hb2]at this;exact⟨zb,by rw[hqg 1 zb];exact h45,by rw[hqg 2 zb];exact hb2,hne,zb,zb⟩
   have hno:∀h:2<q.size,Q7 ((L p).drop (i+1))=none->¬(q[1]=45/\q[2]≠93):=fun h hr=>by
    have:=zhB hr zb;rw[hqg 1 zb,hqg 2 zb];exact this
   have HCase:=za hcase;have HNo:=za hno;obtain⟨a,hpe⟩:∃a,p[i]=a:=⟨_,rfl⟩;rw[hpe]at hpa ha HR;clear hcase hno hpe hqg;go_upto_region 6 with(go_quiet (fail))
   go_cut [43]from 31 to 43 (fun s43 wx=>s43=.bool (Q7 ((L p).drop (i+1))).isSome/\Hid (wx.heap[g]? =some (Qv p ((i:Int)+1)))/\Hid (wx.heap[b]? =some (.cells (zZ 127 (qn rs)) 265 (0,0)))/\Hid (Yj g b w wx))
   case first=>
    cases hr:Q7 ((L p).drop (i+1))with
    | some b2=>
      have HRr:=za hr;obtain⟨h2,e1,e2,hn93,hb32,hb126⟩:=HCase.out b2 hr;have h2I:(2:Int)<(q.size:Int):=zb;have h1I:(1:Int)<(q.size:Int):=zb;have e45:((q[1].toNat:Int)==45)=true:=by rw[e1];rfl
      have f93:((q[2].toNat:Int) !=93)=true:=by rw[bne_iff_ne,e2];intro e;exact hn93 (UInt8.toNat_inj.1 (Int.ofNat.inj e))
      clear hr HR HCase HNo e1 hn93;go_wp2;go_meet;have f93b:((b2.toNat:Int) !=93)=true:=by rw[e2]at f93;exact f93
      exact⟨by simp[f93b,HRr.out],Jk (IH HG.out _),U3 (IH HB.out _) hne,((Yj.refl g b w).drewN _).set⟩
    | none =>
      have HRr:=za hr;by_cases h2:2<q.size
      · have h2I:(2:Int)<(q.size:Int):=by omega
        have h1I:(1:Int)<(q.size:Int):=zb;have hnn:=HNo.out h2 hr;by_cases h45:q[1]=45
        · have e45:((q[1].toNat:Int)==45)=true:=by rw[h45];rfl
          have h93:q[2]=93:=Decidable.not_not.1 (fun h=>hnn ⟨h45,h⟩);have f93:((q[2].toNat:Int) !=93)=false:=by rw[h93];rfl
          clear hr HR HCase HNo h45 h93 hnn;exact PE
        · have e45:((q[1].toNat:Int)==45)=false:=by
           rw[beq_eq_false_iff_ne];intro e;exact h45 (UInt8.toNat_inj.1 (Int.ofNat.inj e))
          clear hr HR HCase HNo h45 hnn;exact PE
      · have h2I:¬(2:Int)<(q.size:Int):=by omega
        clear hr HR HCase HNo;exact PE
   case rest=>
   obtain⟨rfl,HG1,HB1,HK1⟩:=hcut
   go_upto_if 43 with fail
   go_cut [7]from 43 to 52 (fun s7 wx=>∃(d:UInt8) (n:Nat),s7=.int .u8 (d.toNat:Int)/\32<=d.toNat/\d.toNat<=126/\Hid (Xs ((L p).drop i)=if a<=d then some ((a,d),n)else none)/\Hid (wx.heap[g]? =some (Qv p ((i+n:Nat):Int)))/\Hid (wx.heap[b]? =some (.cells (zZ 127 (qn rs)) 265 (0,0)))/\Hid (Yj g b w wx))
   case first=>
    cases hr:Q7 ((L p).drop (i+1))with
    | some b2=>
      obtain⟨h2,e1,e2,hn93,hb32,hb126⟩:=HCase.out b2 hr;have HR2:Hid (Xs ((L p).drop i)=if a<=b2 then some ((a,b2),3)else none):=za (by rw[HR.out,hr]);have h2I:(2:Int)<(q.size:Int):=zb;have c1:=zd (j:=1) (u:=.int .i64 ((i:Int)+1)) HG1.out rfl;have f1:=frozen_of_row _ _ 1 _ _ HG1.out;clear hr HR HCase HNo e1 hn93 c0;go_wp2;go_meet;refine⟨b2,3,by first|rfl|rw[e2],hb32,hb126,HR2.out,?_,U3 HB1.out hne,HK1.out.set⟩;rw[show((i+3:Nat):Int)=(i:Int)+1+2 from by omega];exact Jk HG1.out
    | none=>
      have HR2:Hid (Xs ((L p).drop i)=if a<=a then some ((a,a),1)else none):=za (by rw[HR.out,hr,if_pos (UInt8.le_refl a)]);clear hr HR HCase HNo;go_wp2;go_meet;exact⟨a,1,rfl,zb,zb,HR2.out,HG1.out,HB1.out,HK1.out⟩
   case rest=>
   obtain⟨d,n,rfl,hd32,hd126,hm,hg,hb,hk⟩:=hcut;clear HR HCase HNo HG1 HB1 HK1 HG HB c0 c1 f1;go_wp2;go_loopg [8] (d.toNat+2 - a.toNat+1) (fun gk s8 wx=>∃c:Nat,s8=.int .u8 c/\a.toNat<=c/\(c<=d.toNat+1∨c=a.toNat)/\c+gk=a.toNat+(d.toNat+2 - a.toNat+1)/\Hid (wx.heap[g]? =some (Qv p ((i+n:Nat):Int)))/\Hid (wx.heap[b]? =some (.cells (zZ 127 (fun x=>qn rs x||(decide (a.toNat<=x)&&decide (x<c)))) 265 (0,0)))/\Hid (Yj g b w wx))
   case atStart=>
    refine⟨a.toNat,rfl,zo,Or.inr rfl,rfl,hg.out,?_,hk.out⟩;have e:(fun x=>qn rs x||(decide (a.toNat<=x)&&decide (x<a.toNat)))=qn rs:=by
     funext x
     have:(decide (a.toNat<=x)&&decide (x<a.toNat))=false:=Dc;rw[this,Bool.or_false]
    show _=_;rw[e];exact hb.out
   case round=>
    obtain⟨c,rfl,hc1,hc2,hcg,hg,hb,hk⟩:=hrel;by_cases hcd:c<=d.toNat
    · have hcI:(c:Int)<=(d.toNat:Int):=by omega
      have hset:(zZ 127 (fun x=>qn rs x||(decide (a.toNat<=x)&&decide (x<c)))).setIfInBounds c (.bool true)=zZ 127 (fun x=>qn rs x||(decide (a.toNat<=x)&&decide (x<c+1))):=by
       rw[II]
       congr 1
       funext x
       by_cases hx:x=c
       · rw[if_pos hx,hx];simp;omega
       · rw[if_neg hx];have:decide (x<c)=decide (x<c+1):=NQ;rw[this]
      have cb:=zd hb.out (VH 127 _ c zb);have fb:=frozen_of_row _ _ c _ _ hb.out;have HB2:=za (ID hb.out hset);have HG2:=za (U3 (g:=b) (u:=.bool true) (i:=c) hg.out (fun e=>hne e.symm));have HK2:=za (hk.out.setB (i:=c) (u:=.bool true));clear hset hb hg hk;go_wp2;go_roundg (gk - 1)
      case measure=>omega
      case rel=>exact⟨c+1,zP,zb,Or.inl zb,zb,HG2.out,HB2.out,HK2.out⟩
    · have hcI:¬(c:Int)<=(d.toNat:Int):=by omega
      by_cases had:a<=d
      · have hadN:a.toNat<=d.toNat:=UInt8.le_iff_toNat_le.1 had;have hadI:(a.toNat:Int)<=(d.toNat:Int):=zb;obtain rfl:c=d.toNat+1:=zb;have e:(fun x=>qn rs x||(decide (a.toNat<=x)&&decide (x<d.toNat+1)))=qn (rs++[(a,d)]):=by
         funext x
         rw[zeS];have:decide (x<d.toNat+1)=decide (x<=d.toNat):=NQ;rw[this]
        rw[e]at hb;have HM:Hid (Xs ((L p).drop i)=some ((a,d),n)):=za (by rw[hm.out,if_pos had]);clear e hm had;go_wp2;go_ret;refine⟨hk.out,?_⟩;rw[HM.out];exact⟨ZD zl,hg.out,hb.out⟩
      · have hadN:¬a.toNat<=d.toNat:=fun h=>had (UInt8.le_iff_toNat_le.2 h);have hadI:¬(a.toNat:Int)<=(d.toNat:Int):=zb;have HM:Hid (Xs ((L p).drop i)=none):=za (by rw[hm.out,if_neg had]);clear hm had;go_wp2;go_ret;refine⟨hk.out,?_⟩;rw[HM.out];exact ZD zl
 · have hq0:(q.size:Int)=0:=by omega
   have t2:q.toList=[]:=by rw[tl];exact List.length_eq_zero_iff.1 kW
   have t1:q.toList.isEmpty=true:=by rw[t2];rfl
   have HM:Hid (Xs ((L p).drop i)=none):=za (by rw[List.drop_eq_nil_of_le kW];rfl);go_wp2;go_ret;refine⟨(Yj.refl g b w).drewN _,?_⟩;rw[HM.out];rfl
end Go.Proofs.YtecbmndgpepkcaaGreatDoor

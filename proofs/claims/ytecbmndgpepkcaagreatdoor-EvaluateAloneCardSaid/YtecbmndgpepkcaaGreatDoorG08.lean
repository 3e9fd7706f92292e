/- Contracts that the law rests on, each under the premises that it names. -/
import Derived.Test.YtecbmndgpepkcaaGreatDoorG06
import Derived.Lib.IndexAny
namespace Go.Proofs.YtecbmndgpepkcaaGreatDoor
open Tryz
set_option maxHeartbeats 8000000
set_option maxRecDepth 100000
section
open Go.RowKit Go.Maps
def Qk:List (Int×DW)->DW
 | []=>.map []
 |p::r=>(Qk r).put (.int .i64 p.1) p.2
theorem Bm(n:Int):WideAt.IsKeyLit (.int .i64 n):=FM
theorem kni{a b:Int}(h:a≠b):(Lit.int .i64 a)≠Lit.int .i64 b:=fun e=>h (by injection e)
theorem Fz:∀l,Tidy (Qk l)
 | []=>tidy_empty
 |_::r=>(Fz r).put (Bm _) _
def Yh(l:List (Int×DW))(n:Int):Option DW:=(l.find? fun p=>p.1==n).map (·.2)
theorem Ih(l:List (Int×DW))(n:Int)(z:DW):(Qk l).atKey (.int .i64 n) z=(Yh l n).getD z:=by
 induction l with
 |nil=>rfl
 | cons p r ih=>
   by_cases e:p.1=n
   · subst e;rw[Qk,atKey_put_same (Fz _).isMap (Bm _)];simp[Yh]
   · rw[Qk,atKey_put_other (kni fun h=>e h.symm),ih];simp[Yh,e]
theorem FS(l:List (Int×DW))(n:Int):Maps.has (Qk l) (.int .i64 n)=(Yh l n).isSome:=by
 cases h:Yh l n with
 |some x=>exact has_true_of_atKey (y:=x) (fun z=>by rw[Ih,h];rfl)
 |none=>exact has_false_of_atKey (fun z=>by rw[Ih,h];rfl)
def XV:List Dd->List (Int×DW)
 | []=>[]
 |d::r=>(d.ix,.lit (.string (orgS (qv (d::r) d.ix))))::XV r
def Y8:List Dd->List (Int×DW)
 | []=>[]
 |d::r=>(d.ix,.lit (.int .i64 r.length))::Y8 r
theorem ju:∀(r:List Dd) (n:Int),Yh (XV r) n=if qv r n=[]then none else some (.lit (.string (orgS (qv r n))))
 | [],_=>rfl
 | d ::r,n=>by
   have ih:=ju r n;by_cases e:d.ix=n
   · subst e;have hne:qv (d::r) d.ix≠[]:=by rw[qv,if_pos rfl];simp
     rw[if_neg hne];simp[Yh,XV]
   · rw[M4 e,<-ih];simp[Yh,XV,e]
theorem zft(d:Dd)(r:List Dd):orgS (qv (d::r) d.ix)=orgS (qv r d.pa)++47::L d.og:=by rw[qv,if_pos rfl,N1]
theorem AO:∀(r:List Dd) (n:Int),(match Yh (Y8 r) n with|none=>∀x∈r,x.ix≠n|some z=>∃(i:Nat) (x:Dd),z=.lit (.int .i64 i)/\i<r.length/\r.reverse[i]? =some x/\x.ix=n)
 | [],n=>by simp[Yh,Y8]
 | d ::r,n=>by
   have ih:=AO r n;by_cases e:d.ix=n
   · have h1:Yh (Y8 (d::r)) n=some (.lit (.int .i64 r.length)):=by simp[Yh,Y8,e]
     rw[h1];exact⟨r.length,d,rfl,zl,zl,e⟩
   · have h1:Yh (Y8 (d::r)) n=Yh (Y8 r) n:=by simp[Yh,Y8,e]
     rw[h1];cases h2:Yh (Y8 r) n with
     | none=>
       rw[h2]at ih;intro x hx;rcases List.mem_cons.1 hx with rfl|hx
       · exact e
       · exact ih x hx
     | some z=>
       rw[h2]at ih;obtain⟨i,x,h3,h4,h5,h6⟩:=ih;refine⟨i,x,h3,zK,?_,h6⟩;rw[List.reverse_cons,zd9 (by simp;exact h4)];exact h5
end
section
open Go.RowKit
theorem any_cons(b:UInt8)(l c:ze):Lib.containsAny (b::l) c=(c.contains b||Lib.containsAny l c):=by
 unfold Lib.containsAny;rw[Lib.indexAny];have:=Lib.indexAny_ge c l;by_cases h:c.contains b=true
 · rw[if_pos h,h];simp
 · rw[if_neg h];have hb:c.contains b=false:=XI;rw[hb,Bool.false_or]
   split
   · rename_i h1;have h1:Lib.indexAny l c= -1:=Gi;rw[h1]
   · rename_i h1;have h1:¬Lib.indexAny l c= -1:=Gi;rw[decide_eq_decide];omega
theorem BC(l:ze):(!Lib.containsAny l [58,33])=l.all fun b=> !(b==58||b==33):=by
 induction l with
 |nil=>rfl
 | cons b l ih=>
   rw[any_cons,Bool.not_or,ih,List.all_cons]
   congr 1
   simp;rfl
theorem zbv:((List.range 256).all fun n=> !(qC YJ [33] n)||decide (n<128))=true:=zg
theorem zkk{l:ze}(h:Z4 l=true):∀(j:Nat) b,l[j]? =some b->b.toNat<128:=by
 intro j b hb;unfold Z4 at h;rw[zm3]at h;have h1:=List.all_eq_true.1 h.2 b (X7 hb);have h2:=List.all_eq_true.1 zbv b.toNat (List.mem_range.2 b.toNat_lt);rw[h1]at h2;simpa using h2
theorem NZ(s:ByteArray)(w:World)(hs:s.size<=1000000):
 Calls prog 167 #[.string s] w fun e w'=>e=.returned (.bool (X0 (L s)))/\Below w.heap.size w w':=by
 have hE:X0 (L s)=(Z4 (L s)&&decide (s.size<=15)&& !Lib.containsAny (L s) [58,33]):=by rw[BC,<-zF];rfl
 rw[hE];clear hE;have HV0:=Gn s w zb;cases hv:Z4 (L s)with
 | false=>
   rw[hv]at HV0;have HV:=za HV0;clear HV0 hv;exact EY
 | true=>
   rw[hv]at HV0;have HC:=za (fun(W:World)=>strings_ContainsAny_laid s ⟨#[58,33]⟩ W zb zi (zkk hv) (by
    intro j b hb
    match j,hb with
    |0,hb=>cases hb;decide
    |1,hb=>cases hb;decide))
   have HV:=za HV0;clear HV0 hv;have hd:(⟨#[58,33]⟩:ByteArray).data.toList=[58,33]:=rfl;rw[hd]at HC;have hd2:s.data.toList=L s:=rfl;rw[hd2]at HC;clear hd hd2;generalize Lib.containsAny (L s) [58,33]=b at*;by_cases hn:s.size<=15
   · have hni:((s.size:Nat):Int)<=15:=by omega
     rw[zl1 hn];go_enter func167,ntmps167;go_wp2_with (first|(go_at_call 169;refine HV.out.mono ?_;rintro e w2 ⟨rfl,hb2⟩)|(go_at_call 214;refine(HC.out _).mono ?_;rintro e w3 ⟨rfl,hb3⟩))
     go_ret;exact⟨ya,bt hb2 hb3⟩
   · have hni:¬((s.size:Nat):Int)<=15:=by omega
     rw[zl0 hn];exact EY
end
section
open Go.RowKit
def XE:ze->Option ((UInt8×UInt8)×Nat)
 | []=>none
 | c::r=>match Yj r with
   |some b=>if c<=b then some ((c,b),3)else none
   |none=>some ((c,c),1)
def Yp(g b:Nat)(w w':World):Prop:=∀w0:World,w0.grownBy w (some g)->w0.heap.size<=b->w0.grownBy w' (some g)
def Dx(p:ByteArray)(i g b:Nat)(rs:List (UInt8×UInt8))(w:World)(e:Ending)(w':World):Prop:=Yp g b w w' /\
 match XE ((L p).drop i)with
 |none=>e=.returned (.bool false)
 |some (x,n)=>e=.returned (.bool true)/\w'.heap[g]? =some (.cells #[.string p,.int .i64 ((i+n:Nat):Int)] 261 (0,0))/\w'.heap[b]? =some (.cells (qc 127 (qs (rs++[x]))) 265 (0,0))
abbrev QC(p:ByteArray)(z:Int):Obj:=.cells #[.string p,.int .i64 z] 261 (0,0)
theorem Jv{w:World}{g:Nat}{p:ByteArray}{z y:Int}(h:w.heap[g]? =some (QC p z)):(w.setCell ⟨g,1,none⟩ (.int .i64 y)).heap[g]? =some (QC p y):=Ix h rfl
theorem M1{w:World}{g:Nat}{o:Obj}(h:w.heap[g]? =some o)(k:Nat):(w.drewN k).heap[g]? =some o:=h
theorem VM{w:World}{g b:Nat}{o:Obj}{u:Value}{i:Nat}(h:w.heap[b]? =some o)(hne:g≠b):(w.setCell ⟨g,i,none⟩ u).heap[b]? =some o:=(heap_setCell_other _ _ _ _ (fun e=>hne e.symm)).trans h
theorem Yp.refl(g b:Nat)(w:World):Yp g b w w:=fun _ h _=>h
theorem Yp.drewN{g b:Nat}{w W:World}(h:Yp g b w W)(k:Nat):Yp g b w (W.drewN k):=fun w0 hg hb=>qY (h w0 hg hb) (Y2 _ _ _)
theorem Yp.set{g b i:Nat}{u:Value}{w W:World}(h:Yp g b w W):Yp g b w (W.setCell ⟨g,i,none⟩ u):=fun w0 hg hb=>qY (h w0 hg hb) (qE _ _ _ _)
theorem Yp.setB{g b i:Nat}{u:Value}{w W:World}(h:Yp g b w W):Yp g b w (W.setCell ⟨b,i,none⟩ u):=fun w0 hg hb=>YL (h w0 hg hb) (qE _ _ _ _) (fun j e=>by cases e;exact Or.inl hb)
theorem zg2(p:ByteArray)(i g b:Nat)(rs:List (UInt8×UInt8))(w:World)(hp:p.size<=256)(hpr:qZ (L p)=true)(hi:i<=p.size)(hne:g≠b)(hg:w.heap[g]? =some (.cells #[.string p,.int .i64 i] 261 (0,0)))(hb:w.heap[b]? =some (.cells (qc 127 (qs rs)) 265 (0,0))):
 Calls prog 262 #[.pointer (some ⟨g,0,none⟩),.pointer (some ⟨b,0,none⟩)] w (Dx p i g b rs w):=by
 have HG:=za hg;have HB:=za hb;have HP:=za hpr;have c0:=zd (j:=0) (u:=.string p) hg rfl;have c1:=zd (j:=1) (u:=.int .i64 i) hg rfl;have f1:=frozen_of_row _ _ 1 _ _ hg;have hiI:(i:Int)<=(p.size:Int):=zb;clear hg hb hpr;obtain⟨q,hq⟩:∃q,p.extract i p.size=q:=⟨_,rfl⟩;have hL:L q=(L p).drop i:=PH;have hqs:q.size=p.size - i:=by rw[<-hq,IY];omega
 have hqg:∀(k:Nat) (h:k<q.size),q[k]=p[i+k]' zb:=fun k h=>by
  have h1:(L q)[k]? =some q[k]:=by rw[l0 VV];rfl
  rw[hL,zd5,l0 Kl]at h1;exact(zx h1).symm
 go_enter func262,ntmps262;go_wp2;go_quiet (fail)
 have HL:=za hL;clear hL hq;by_cases h0:i<p.size
 · have hq0:(0:Int)<(q.size:Int):=by omega
   have t1:q.toList.isEmpty=false:=by rw[tl];cases hh:L q with
    |nil=>have:=zF q;rw[hh]at this;simp at this;omega
    |cons x y=>rfl
   have t2:¬q.toList=[]:=fun e=>by rw[e]at t1;cases t1
   have hpa:=Ny HP.out i h0;have ha:q[0]' zb=p[i]:=by rw[hqg 0 zb];rfl
   have HR:Hid (XE ((L p).drop i)=match Yj ((L p).drop (i+1))with
    |some b=>if p[i]<=b then some ((p[i],b),3)else none
    |none=>some ((p[i],p[i]),1)):=za (by rw[Us p i h0,XE])
   have hcase:∀b2,Yj ((L p).drop (i+1))=some b2->∃h:2<q.size,q[1]=45/\q[2]=b2/\b2≠93/\32<=b2.toNat/\b2.toNat<=126:=fun b2 hr=>by
    obtain⟨h1,h2,h45,hb2,hne⟩:=D9 hr;have:=Ny HP.out (i+2) h2;rw[hb2]at this;exact⟨zb,by rw[hqg 1 zb];exact h45,by rw[hqg 2 zb];exact hb2,hne,zb,zb⟩
   have hno:∀h:2<q.size,Yj ((L p).drop (i+1))=none->¬(q[1]=45/\q[2]≠93):=fun h hr=>by
    have:=zka hr zb;rw[hqg 1 zb,hqg 2 zb];exact this
   have HCase:=za hcase;have HNo:=za hno;obtain⟨a,hpe⟩:∃a,p[i]=a:=⟨_,rfl⟩;rw[hpe]at hpa ha HR;clear hcase hno hpe hqg;go_upto_region 6 with(go_quiet (fail))
   go_cut [43]from 31 to 43 (fun s43 wx=>s43=.bool (Yj ((L p).drop (i+1))).isSome/\Hid (wx.heap[g]? =some (QC p ((i:Int)+1)))/\Hid (wx.heap[b]? =some (.cells (qc 127 (qs rs)) 265 (0,0)))/\Hid (Yp g b w wx))
   case first=>
    cases hr:Yj ((L p).drop (i+1))with
    | some b2=>
      have HRr:=za hr;obtain⟨h2,e1,e2,hn93,hb32,hb126⟩:=HCase.out b2 hr;have h2I:(2:Int)<(q.size:Int):=zb;have h1I:(1:Int)<(q.size:Int):=zb;have e45:((q[1].toNat:Int)==45)=true:=by rw[e1];rfl
      have f93:((q[2].toNat:Int) !=93)=true:=by rw[bne_iff_ne,e2];intro e;exact hn93 (UInt8.toNat_inj.1 (Int.ofNat.inj e))
      clear hr HR HCase HNo e1 hn93;go_wp2;go_meet;have f93b:((b2.toNat:Int) !=93)=true:=by rw[e2]at f93;exact f93
      exact⟨by simp[f93b,HRr.out],Jv (M1 HG.out _),VM (M1 HB.out _) hne,((Yp.refl g b w).drewN _).set⟩
    | none =>
      have HRr:=za hr;by_cases h2:2<q.size
      · have h2I:(2:Int)<(q.size:Int):=by omega
        have h1I:(1:Int)<(q.size:Int):=zb;have hnn:=HNo.out h2 hr;by_cases h45:q[1]=45
        · have e45:((q[1].toNat:Int)==45)=true:=by rw[h45];rfl
          have h93:q[2]=93:=Decidable.not_not.1 (fun h=>hnn ⟨h45,h⟩);have f93:((q[2].toNat:Int) !=93)=false:=by rw[h93];rfl
          clear hr HR HCase HNo h45 h93 hnn;exact PZ
        · have e45:((q[1].toNat:Int)==45)=false:=by
           rw[beq_eq_false_iff_ne];intro e;exact h45 (UInt8.toNat_inj.1 (Int.ofNat.inj e))
          clear hr HR HCase HNo h45 hnn;exact PZ
      · have h2I:¬(2:Int)<(q.size:Int):=by omega
        clear hr HR HCase HNo;exact PZ
   case rest=>
   obtain⟨rfl,HG1,HB1,HK1⟩:=hcut
   go_upto_if 43 with fail
   go_cut [7]from 43 to 52 (fun s7 wx=>∃(d:UInt8) (n:Nat),s7=.int .u8 (d.toNat:Int)/\32<=d.toNat/\d.toNat<=126/\Hid (XE ((L p).drop i)=if a<=d then some ((a,d),n)else none)/\Hid (wx.heap[g]? =some (QC p ((i+n:Nat):Int)))/\Hid (wx.heap[b]? =some (.cells (qc 127 (qs rs)) 265 (0,0)))/\Hid (Yp g b w wx))
   case first=>
    cases hr:Yj ((L p).drop (i+1))with
    | some b2=>
      obtain⟨h2,e1,e2,hn93,hb32,hb126⟩:=HCase.out b2 hr;have HR2:Hid (XE ((L p).drop i)=if a<=b2 then some ((a,b2),3)else none):=za (by rw[HR.out,hr]);have h2I:(2:Int)<(q.size:Int):=zb;have c1:=zd (j:=1) (u:=.int .i64 ((i:Int)+1)) HG1.out rfl;have f1:=frozen_of_row _ _ 1 _ _ HG1.out;clear hr HR HCase HNo e1 hn93 c0;go_wp2;go_meet;refine⟨b2,3,by first|rfl|rw[e2],hb32,hb126,HR2.out,?_,VM HB1.out hne,HK1.out.set⟩;rw[show((i+3:Nat):Int)=(i:Int)+1+2 from by omega];exact Jv HG1.out
    | none=>
      have HR2:Hid (XE ((L p).drop i)=if a<=a then some ((a,a),1)else none):=za (by rw[HR.out,hr,if_pos (UInt8.le_refl a)]);clear hr HR HCase HNo;go_wp2;go_meet;exact⟨a,1,rfl,zb,zb,HR2.out,HG1.out,HB1.out,HK1.out⟩
   case rest=>
   obtain⟨d,n,rfl,hd32,hd126,hm,hg,hb,hk⟩:=hcut;clear HR HCase HNo HG1 HB1 HK1 HG HB c0 c1 f1;go_wp2;go_loopg [8] (d.toNat+2 - a.toNat+1) (fun gk s8 wx=>∃c:Nat,s8=.int .u8 c/\a.toNat<=c/\(c<=d.toNat+1∨c=a.toNat)/\c+gk=a.toNat+(d.toNat+2 - a.toNat+1)/\Hid (wx.heap[g]? =some (QC p ((i+n:Nat):Int)))/\Hid (wx.heap[b]? =some (.cells (qc 127 (fun x=>qs rs x||(decide (a.toNat<=x)&&decide (x<c)))) 265 (0,0)))/\Hid (Yp g b w wx))
   case atStart=>
    refine⟨a.toNat,rfl,zo,Or.inr rfl,rfl,hg.out,?_,hk.out⟩;have e:(fun x=>qs rs x||(decide (a.toNat<=x)&&decide (x<a.toNat)))=qs rs:=by
     funext x
     have:(decide (a.toNat<=x)&&decide (x<a.toNat))=false:=Ct;rw[this,Bool.or_false]
    show _=_;rw[e];exact hb.out
   case round=>
    obtain⟨c,rfl,hc1,hc2,hcg,hg,hb,hk⟩:=hrel;by_cases hcd:c<=d.toNat
    · have hcI:(c:Int)<=(d.toNat:Int):=by omega
      have hset:(qc 127 (fun x=>qs rs x||(decide (a.toNat<=x)&&decide (x<c)))).setIfInBounds c (.bool true)=qc 127 (fun x=>qs rs x||(decide (a.toNat<=x)&&decide (x<c+1))):=by
       rw[Nk]
       congr 1
       funext x
       by_cases hx:x=c
       · rw[if_pos hx,hx];simp;omega
       · rw[if_neg hx];have:decide (x<c)=decide (x<c+1):=MN;rw[this]
      have cb:=zd hb.out (Vv 127 _ c zb);have fb:=frozen_of_row _ _ c _ _ hb.out;have HB2:=za (Ix hb.out hset);have HG2:=za (VM (g:=b) (u:=.bool true) (i:=c) hg.out (fun e=>hne e.symm));have HK2:=za (hk.out.setB (i:=c) (u:=.bool true));clear hset hb hg hk;go_wp2;go_roundg (gk - 1)
      case measure=>omega
      case rel=>exact⟨c+1,zU,zb,Or.inl zb,zb,HG2.out,HB2.out,HK2.out⟩
    · have hcI:¬(c:Int)<=(d.toNat:Int):=by omega
      by_cases had:a<=d
      · have hadN:a.toNat<=d.toNat:=UInt8.le_iff_toNat_le.1 had;have hadI:(a.toNat:Int)<=(d.toNat:Int):=zb;obtain rfl:c=d.toNat+1:=zb;have e:(fun x=>qs rs x||(decide (a.toNat<=x)&&decide (x<d.toNat+1)))=qs (rs++[(a,d)]):=by
         funext x
         rw[ze5];have:decide (x<d.toNat+1)=decide (x<=d.toNat):=MN;rw[this]
        rw[e]at hb;have HM:Hid (XE ((L p).drop i)=some ((a,d),n)):=za (by rw[hm.out,if_pos had]);clear e hm had;go_wp2;go_ret;refine⟨hk.out,?_⟩;rw[HM.out];exact⟨ZP zl,hg.out,hb.out⟩
      · have hadN:¬a.toNat<=d.toNat:=fun h=>had (UInt8.le_iff_toNat_le.2 h);have hadI:¬(a.toNat:Int)<=(d.toNat:Int):=zb;have HM:Hid (XE ((L p).drop i)=none):=za (by rw[hm.out,if_neg had]);clear hm had;go_wp2;go_ret;refine⟨hk.out,?_⟩;rw[HM.out];exact ZP zl
 · have hq0:(q.size:Int)=0:=by omega
   have t2:q.toList=[]:=by rw[tl];exact List.length_eq_zero_iff.1 Kl
   have t1:q.toList.isEmpty=true:=by rw[t2];rfl
   have HM:Hid (XE ((L p).drop i)=none):=za (by rw[List.drop_eq_nil_of_le Kl];rfl);go_wp2;go_ret;refine⟨(Yp.refl g b w).drewN _,?_⟩;rw[HM.out];rfl
end
end Go.Proofs.YtecbmndgpepkcaaGreatDoor

/- Contracts that the law rests on, each under the premises that it names. -/
import Derived.Test.YtecbmndgpepkcaaGreatDoorG18
namespace Go.Proofs.YtecbmndgpepkcaaGreatDoor
open Tryz
set_option maxHeartbeats 8000000
set_option maxRecDepth 100000
open Go.RowKit
theorem zez(k:Nat)(hk:k<12):XF[k*4+3]? =some (Q2 k):=Fk
theorem zbQ(p:Pc)(v:Vs)(hp:Wf p)(hres:v.result.size<=4294967)(hker:v.kernel.size<=9223372036854775807):
 ∃k:Nat,p.kind=k/\1<=k/\k<12/\∃F,Q2 k=.func (.func F) #[] #[]/\∀W,Env W->Vu W W.heap.size v->Calls prog F #[Z7 p,ZR v] W (XM (YY p v) W):=by
 obtain⟨k,m,hk,h1,h2,hw,hm⟩:=hp;refine⟨k,hk,h1,h2,?_⟩;have hV:∀t,YY p v=t->∀F W,Calls prog F #[Z7 p,ZR v] W (XM t W)->Calls prog F #[Z7 p,ZR v] W (XM (YY p v) W):=fun t e F W h=>by rw[e];exact h
 rcases(by omega:k=1∨k=2∨k=3∨k=4∨k=5∨k=6∨k=7∨k=8∨k=9∨k=10∨k=11)with h|h|h|h|h|h|h|h|h|h|h<;>subst h
 · exact⟨200,rfl,fun W _ _=>hV p.text VX _ _ (ziZ p v W)⟩
 · exact⟨201,rfl,fun W _ _=>hV v.kernel VX _ _ (zdZ p v W)⟩
 · exact⟨202,rfl,fun W _ _=>hV (bs (KQ (L v.kernel))) VX _ _ (ziw p v W hker)⟩
 · exact⟨204,rfl,fun W _ _=>hV v.devpath VX _ _ (zhQ p v W)⟩
 · exact⟨205,rfl,fun W _ _=>hV v.id VX _ _ (zj4 p v W)⟩
 · exact⟨206,rfl,fun W _ _=>hV v.driver VX _ _ (zi5 p v W)⟩
 · exact⟨207,rfl,fun W _ hI=>hV (Xx [v.attrs,v.above] (L p.text)) VX _ _ (zgz p v W hI)⟩
 · exact⟨209,rfl,fun W _ hI=>hV (Xx [v.env] (L p.text)) VX _ _ (ze2 p v W hI)⟩
 · exact⟨210,rfl,fun W hE _=>hV (bs (kF m p.more (L v.result))) (by simp[YY,hk,hw]) _ _ (zke m p.more p v W hE zb hw rfl hres)⟩
 · exact⟨211,rfl,fun W _ _=>hV v.parent VX _ _ (zfT p v W)⟩
 · exact⟨212,rfl,fun W _ _=>hV v.name VX _ _ (zjb p v W)⟩
theorem zhC{a b:ByteArray}{c:Value}(h:a=b):Ending.returned (.tuple #[.string a,c])=Ending.returned (.tuple #[.string b,c]):=Gj
theorem ziz(v:Vs)(M:Nat):∀(l:List Pc) (a:ByteArray),(∀q∈l,(YY q v).size<=M)->(l.foldl (fun a p=>a++YY p v) a).size<=a.size+l.length*M:=by
 intro l;induction l with
 |nil=>intro a _;simp
 | cons x l ih=>
   intro a h;have h1:=ih (a++YY x v) (fun q hq=>h q MY);have h2:=h x zl;rw[ByteArray.size_append]at h1;have e:=Nat.succ_mul l.length M;simp only[Nat.succ_eq_add_one]at e;rw[zl2,u0,e];omega
def Sl(t:ByteArray×Int)(w:World)(e:Ending)(w':World):Prop:=e=.returned (.tuple #[.string t.1,.int .i64 t.2])/\Below w.heap.size w w'
abbrev Qc(W5:World)(pb TB vb j:Nat)(k:Int)(F:FuncId)(tx:ByteArray)(wd:Int)(mo:Bool)(v:Vs)(W':World):Prop:=(W'.cell? ⟨pb,0,none⟩=some (.int .i64 k)/\W'.cell? ⟨pb,1,none⟩=some (.string tx)/\W'.cell? ⟨pb,2,none⟩=some (.int .i64 wd)/\W'.cell? ⟨pb,3,none⟩=some (.bool mo)/\W'.cell? ⟨TB,j,none⟩=some (.func (.func F) #[] #[])/\W'.cell? ⟨vb,0,none⟩=some (.string v.kernel)/\W'.cell? ⟨vb,1,none⟩=some (.string v.devpath)/\W'.cell? ⟨vb,2,none⟩=some (.string v.id)/\W'.cell? ⟨vb,3,none⟩=some (.string v.driver)/\W'.cell? ⟨vb,4,none⟩=some (.string v.parent)/\W'.cell? ⟨vb,5,none⟩=some (.string v.name)/\W'.cell? ⟨vb,6,none⟩=some (.string v.result)/\W'.cell? ⟨vb,7,none⟩=some (.slice v.attrs.A v.attrs.l.length v.attrs.c)/\W'.cell? ⟨vb,8,none⟩=some (.slice v.above.A v.above.l.length v.above.c)/\W'.cell? ⟨vb,9,none⟩=some (.slice v.env.A v.env.l.length v.env.c))/\Below W5.heap.size W5 W'
theorem Qc.keep{W5:World}{pb TB vb j:Nat}{k:Int}{F:FuncId}{tx:ByteArray}{wd:Int}{mo:Bool}{v:Vs}(h:Qc W5 pb TB vb j k F tx wd mo v W5)(hp:pb<W5.heap.size)(ht:TB<W5.heap.size)(hv:vb<W5.heap.size):∀W',Below W5.heap.size W5 W'->Qc W5 pb TB vb j k F tx wd mo v W':=fun W' hb=>by
 have e:∀(b i:Nat),b<W5.heap.size->W'.cell? ⟨b,i,none⟩=W5.cell? ⟨b,i,none⟩:=fun b i h=>hb.cell (p:=⟨b,i,none⟩) h;unfold Qc at h⊢;simp only[e _ _ hp,e _ _ ht,e _ _ hv];exact⟨h.1,hb⟩
theorem ziO(s:ByteArray)(v:Vs)(w:World)(hE:Env w)(hs:s.size<=9223372036854775807)(hI:Vu w w.heap.size v)(hres:v.result.size<=4294967)(hker:v.kernel.size<=9223372036854775807)
 (hM:∀q∈(ZT (L s)).1,(YY q v).size<=100000000):
 Calls prog 128 #[.string s,ZR v] w (Sl (Um (L s) v) w):=by
 have HP:=fun W (hW:Below w.heap.size w W)=>zjI s W (hE.go hW) hs;unfold ZR ZJ.v;by_cases h0:(ZT (L s)).2=0
 · have hx:Um (L s) v=((Ud (ZT (L s)).1 v).extract 0 256,0):=by rw[Um,if_pos h0]
   rw[hx];have hwf:=zeo (L s);have hfit:=Ss (L s);have HP':∀W,Below w.heap.size w W->Calls prog 163 #[.string s] W fun e w'=>∃v,e=.returned (.tuple #[v,.int .i64 0])/\w'.ownsRow W.heap.size 243 4 v (ZT (L s)).1.length (cellsOf ZY (ZT (L s)).1)/\Below W.heap.size W w':=fun W hW=>(HP W hW).mono fun e w' h=>by
    obtain⟨v,h1,h2,h3⟩:=h;exact⟨v,by rw[<-h0];exact h1,h2,h3⟩
   generalize (ZT (L s)).1=ps at*;have hb:=(Below.refl w.heap.size w).alloc zo (.cells #[.string v.kernel,.string v.devpath,.string v.id,.string v.driver,.string v.parent,.string v.name,.string v.result,.slice v.attrs.A v.attrs.l.length v.attrs.c,.slice v.above.A v.above.l.length v.above.c,.slice v.env.A v.env.l.length v.env.c] 195);have HP2:=HP' _ hb;have Hb:=za hb;have HE:=za hE;have HI:=za hI;have HM:=za hM;have HWf:=za hwf;have Hfit:=za hfit;have hz:=(zero_of_info NO).1;have Hi:=za (zero_of_info NO).2;have Hz:=za hz;have Hs:=za Ey;have Ho:=za Lw;clear HP' hb hx HP hM hI hE h0 hwf hfit hz;have hv0:=i5 w (.cells #[.string v.kernel,.string v.devpath,.string v.id,.string v.driver,.string v.parent,.string v.name,.string v.result,.slice v.attrs.A v.attrs.l.length v.attrs.c,.slice v.above.A v.above.l.length v.above.c,.slice v.env.A v.env.l.length v.env.c] 195);have Hv0:=za hv0;clear hv0;go_enter func128,ntmps128;go_wp2_with (first|(go_at_call 163;refine HP2.mono ?_;rintro e w2 ⟨r,rfl,ho,hb2⟩;obtain⟨A,c,rfl⟩:=Qf ho;have HO:=za ho;have HB2:=za hb2;clear ho hb2)|(go_at_call 164;refine(MQ _).mono ?_;rintro e w3 ⟨rfl,hb3⟩;have HB3:=za hb3;clear hb3)|(refine G1 rfl 240 rfl (.agg J1) (Hz.out _) ?_)|(refine wpList_store_row rfl 240 _ _ rfl w3.heap.size XF rfl rfl 240 J1 qt Oj (by rw[Hs.out];decide) Ho.out ?_))
   obtain⟨W4,hW4⟩:∃W4,(w3.alloc (.cells J1 240)).setRow w3.heap.size XF=W4:=⟨_,rfl⟩;rw[hW4];have hs3:w.heap.size<w3.heap.size:=by have h1:=HB2.out.size;have h2:=HB3.out.size;simp at h1;omega
   have hbw:Below w.heap.size w w3:=(Hb.out.trans (HB2.out.mono zl)).trans (HB3.out.mono (by have h1:=HB2.out.size;simp at h1;omega));have hb4:Below w3.heap.size w3 W4:=by rw[<-hW4];exact MF (zj.alloc zo _) zo _
   have ht:W4.heap[w3.heap.size]? =some (.cells XF 240 (0,0)):=by rw[<-hW4];exact setRow_heap _ _ _ _ _ _ qt
   have hvb:W4.heap[w.heap.size]? =some (.cells #[.string v.kernel,.string v.devpath,.string v.id,.string v.driver,.string v.parent,.string v.name,.string v.result,.slice v.attrs.A v.attrs.l.length v.attrs.c,.slice v.above.A v.above.l.length v.above.c,.slice v.env.A v.env.l.length v.env.c] 195 (0,0)):=by
    have h1:=HB2.out.size;simp at h1;rw[hb4.block _ hs3,HB3.out.block _ zb,HB2.out.block _ zl];exact Hv0.out
   have hB4:Below w.heap.size w W4:=hbw.trans (hb4.mono (X3 hs3));have hrow:zr W4 w2.heap.size A 4 ps.length (cellsOf ZY ps):=(zr.of_own HO.out).keep (HB3.out.trans (hb4.mono HB3.out.size));have hle:w2.heap.size<=W4.heap.size:=i3 HB3.out.size hb4.size;have hTB:w3.heap.size<W4.heap.size:=Xc ht;have hwB:w.heap.size<W4.heap.size:=zb;have Ht:=za ht;have Hvb:=za hvb;have HB4:=za hB4;have Y1:=za hrow;generalize w3.heap.size=TB at*;generalize w2.heap.size=RB at*;clear hs3 hbw hb4 ht hvb hB4 hrow hW4 HO HB2 HB3 HP2 Hz Hi Ho Hs Hv0;have hn:ps.length<=256:=by have:=Hfit.out.1;omega
   generalize hN:ps.length=N at*;have HN:=za hN;clear hN;go_loopg [9,23] N (fun gk o i wr=>∃k:Nat,k+gk=N/\i=.int .i64 k/\o=.string (Ud (ps.take k) v)/\Hid (Below W4.heap.size W4 wr))
   case atStart=>exact⟨0,zb,rfl,rfl,zj⟩
   case round=>
    obtain⟨k,hk,rfl,rfl,hbr⟩:=hrel;by_cases hlt:k<N
    · have hlt':k<ps.length:=by rw[HN.out];exact hlt
      have hrow:=Y1.out;rw[<-HN.out]at hrow;obtain⟨ba,off,hA,hba,hcc⟩:=hrow.cell J0 hlt';obtain⟨x,hx⟩:∃x,ps[k]? =some x:=⟨_,l0 hlt'⟩;have hmem:x∈ps:=X7 hx;have hbaw:ba<W4.heap.size:=zb;have c0:wr.cell? ⟨ba,off+k*4,none⟩=some (.int .i64 x.kind):=by
       rw[hbr.out.cell (p:=⟨ba,off+k*4,none⟩) hbaw];exact hcc k x hx 0 _ rfl
      have c1:wr.cell? ⟨ba,off+k*4+1,none⟩=some (.string x.text):=by
       rw[hbr.out.cell (p:=⟨ba,off+k*4+1,none⟩) hbaw];exact hcc k x hx 1 _ rfl
      have c2:wr.cell? ⟨ba,off+k*4+2,none⟩=some (.int .i64 x.word):=by
       rw[hbr.out.cell (p:=⟨ba,off+k*4+2,none⟩) hbaw];exact hcc k x hx 2 _ rfl
      have c3:wr.cell? ⟨ba,off+k*4+3,none⟩=some (.bool x.more):=by
       rw[hbr.out.cell (p:=⟨ba,off+k*4+3,none⟩) hbaw];exact hcc k x hx 3 _ rfl
      have hos:(Ud (ps.take k) v).size<=25600000000:=by
       have h1:=ziz v 100000000 (ps.take k) ⟨#[]⟩ (fun q hq=>HM.out q (List.mem_of_mem_take hq));have h2:(ps.take k).length<=256:=JO;have h3:=Nat.mul_le_mul_right 100000000 h2;have h4:(⟨#[]⟩:ByteArray).size=0:=rfl;show(List.foldl (fun a p=>a++YY p v) ⟨#[]⟩ (ps.take k)).size<=_;omega
      have hsnoc:Ud (ps.take (k+1)) v=Ud (ps.take k) v++YY x v:=by
       rw[<-zau]
       congr 1
       rw[List.take_add_one,hx];rfl
      have HSn:=za hsnoc;clear hsnoc;generalize Ud (ps.take k) v=ot at*;subst hA;have HX:=za hx;have hxm:=HM.out x hmem;have hwf:=HWf.out x hmem;clear hrow hcc hx hmem hlt';have hwB4:=hbr.out.size;have q11:wr.heap.size<(wr.alloc (.cells #[.int .i64 x.kind,.string x.text,.int .i64 x.word,.bool x.more] 243)).heap.size:=zl;go_wp2;obtain⟨W5,hW5⟩:∃W5,wr.alloc (.cells #[.int .i64 x.kind,.string x.text,.int .i64 x.word,.bool x.more] 243)=W5:=⟨_,rfl⟩;rw[hW5];have hb5:Below wr.heap.size wr W5:=by rw[<-hW5];exact zj.alloc zo _
      have hpb:W5.heap[wr.heap.size]? =some (.cells #[.int .i64 x.kind,.string x.text,.int .i64 x.word,.bool x.more] 243 (0,0)):=by rw[<-hW5];exact qt
      have hB5:Below w.heap.size w W5:=(HB4.out.trans (hbr.out.mono (X3 hwB))).trans (hb5.mono zb);obtain⟨k',hk1,hk2,hk3,F,hF,hcall⟩:=zbQ x v hwf hres hker;have hcall:=hcall W5.drew (HE.out.go hB5.drew) ((HI.out.keep hB5.drew).more hB5.drew.size);have ht5:W5.heap[TB]? =some (.cells XF 240 (0,0)):=by rw[hb5.block _ zb,hbr.out.block _ hTB];exact Ht.out
      have hv5:=(hb5.block _ (show w.heap.size<wr.heap.size by omega)).trans ((hbr.out.block _ hwB).trans Hvb.out);have tc:W5.cell? ⟨TB,k'*4+3,none⟩=some (Q2 k'):=by rw[cell_of_row _ _ (k'*4+3) _ _ _ ht5];exact zez k' hk3
      obtain⟨kd,tx,wd,mo⟩:=x;unfold Z7 ZR ZJ.v at hcall;generalize YY ⟨kd,tx,wd,mo⟩ v=val at*;dsimp only at hk1 hcall hpb;subst hk1;have p0:W5.cell? ⟨wr.heap.size,0,none⟩=some (.int .i64 k'):=zd hpb rfl;have p1:W5.cell? ⟨wr.heap.size,1,none⟩=some (.string tx):=zd hpb rfl;have p2:W5.cell? ⟨wr.heap.size,2,none⟩=some (.int .i64 wd):=zd hpb rfl;have p3:W5.cell? ⟨wr.heap.size,3,none⟩=some (.bool mo):=zd hpb rfl;have v0:W5.cell? ⟨w.heap.size,0,none⟩=some (.string v.kernel):=zd hv5 rfl;have v1:W5.cell? ⟨w.heap.size,1,none⟩=some (.string v.devpath):=zd hv5 rfl;have v2:W5.cell? ⟨w.heap.size,2,none⟩=some (.string v.id):=zd hv5 rfl;have v3:W5.cell? ⟨w.heap.size,3,none⟩=some (.string v.driver):=zd hv5 rfl;have v4:W5.cell? ⟨w.heap.size,4,none⟩=some (.string v.parent):=zd hv5 rfl;have v5:W5.cell? ⟨w.heap.size,5,none⟩=some (.string v.name):=zd hv5 rfl;have v6:W5.cell? ⟨w.heap.size,6,none⟩=some (.string v.result):=zd hv5 rfl;have v7:W5.cell? ⟨w.heap.size,7,none⟩=some (.slice v.attrs.A v.attrs.l.length v.attrs.c):=zd hv5 rfl;have v8:W5.cell? ⟨w.heap.size,8,none⟩=some (.slice v.above.A v.above.l.length v.above.c):=zd hv5 rfl;have v9:W5.cell? ⟨w.heap.size,9,none⟩=some (.slice v.env.A v.env.l.length v.env.c):=zd hv5 rfl;have hcat:(9223372036854775807<ot.size+val.size)=False:=by simp only[eq_iff_iff,iff_false];omega
      have hcat2:(ot.size+val.size>9223372036854775807)=False:=hcat;have hlp:wr.heap.size<W5.heap.size:=Xc hpb;have hlt5:TB<W5.heap.size:=Xc ht5;have hlv:w.heap.size<W5.heap.size:=Xc hv5;rcases(by omega:k'=1∨k'=2∨k'=3∨k'=4∨k'=5∨k'=6∨k'=7∨k'=8∨k'=9∨k'=10∨k'=11)with h|h|h|h|h|h|h|h|h|h|h
      · subst h;obtain rfl:200=F:=Vp;simp only[Q2,fv]at tc;have HS:=za (Qc.keep (k:=1) (j:=7) (F:=200) ⟨⟨p0,p1,p2,p3,tc,v0,v1,v2,v3,v4,v5,v6,v7,v8,v9⟩,zj⟩ hlp hlt5 hlv);clear hF hv5 hpb ht5 hk2 hk3 p0 p1 p2 p3 tc v0 v1 v2 v3 v4 v5 v6 v7 v8 v9;have HV:=za hcall;clear hcall
        go_region_held3 (fun W'=>Qc W5 wr.heap.size TB w.heap.size 7 1 200 tx wd mo v W') (first|exact HS.out _ zj.drew|exact HS.out _ ((zj.drew).trans hb0)) (first|(go_at_call 200;refine HV.out.mono ?_;rintro e w0 ⟨rfl,hb0⟩))
        exact U1
      · subst h;obtain rfl:201=F:=Vp;simp only[Q2,fv]at tc;have HS:=za (Qc.keep (k:=2) (j:=11) (F:=201) ⟨⟨p0,p1,p2,p3,tc,v0,v1,v2,v3,v4,v5,v6,v7,v8,v9⟩,zj⟩ hlp hlt5 hlv);clear hF hv5 hpb ht5 hk2 hk3 p0 p1 p2 p3 tc v0 v1 v2 v3 v4 v5 v6 v7 v8 v9;have HV:=za hcall;clear hcall
        go_region_held3 (fun W'=>Qc W5 wr.heap.size TB w.heap.size 11 2 201 tx wd mo v W') (first|exact HS.out _ zj.drew|exact HS.out _ ((zj.drew).trans hb0)) (first|(go_at_call 201;refine HV.out.mono ?_;rintro e w0 ⟨rfl,hb0⟩))
        exact U1
      · subst h;obtain rfl:202=F:=Vp;simp only[Q2,fv]at tc;have HS:=za (Qc.keep (k:=3) (j:=15) (F:=202) ⟨⟨p0,p1,p2,p3,tc,v0,v1,v2,v3,v4,v5,v6,v7,v8,v9⟩,zj⟩ hlp hlt5 hlv);clear hF hv5 hpb ht5 hk2 hk3 p0 p1 p2 p3 tc v0 v1 v2 v3 v4 v5 v6 v7 v8 v9;have HV:=za hcall;clear hcall
        go_region_held3 (fun W'=>Qc W5 wr.heap.size TB w.heap.size 15 3 202 tx wd mo v W') (first|exact HS.out _ zj.drew|exact HS.out _ ((zj.drew).trans hb0)) (first|(go_at_call 202;refine HV.out.mono ?_;rintro e w0 ⟨rfl,hb0⟩))
        exact U1
      · subst h;obtain rfl:204=F:=Vp;simp only[Q2,fv]at tc;have HS:=za (Qc.keep (k:=4) (j:=19) (F:=204) ⟨⟨p0,p1,p2,p3,tc,v0,v1,v2,v3,v4,v5,v6,v7,v8,v9⟩,zj⟩ hlp hlt5 hlv);clear hF hv5 hpb ht5 hk2 hk3 p0 p1 p2 p3 tc v0 v1 v2 v3 v4 v5 v6 v7 v8 v9;have HV:=za hcall;clear hcall
        go_region_held3 (fun W'=>Qc W5 wr.heap.size TB w.heap.size 19 4 204 tx wd mo v W') (first|exact HS.out _ zj.drew|exact HS.out _ ((zj.drew).trans hb0)) (first|(go_at_call 204;refine HV.out.mono ?_;rintro e w0 ⟨rfl,hb0⟩))
        exact U1
      · subst h;obtain rfl:205=F:=Vp;simp only[Q2,fv]at tc;have HS:=za (Qc.keep (k:=5) (j:=23) (F:=205) ⟨⟨p0,p1,p2,p3,tc,v0,v1,v2,v3,v4,v5,v6,v7,v8,v9⟩,zj⟩ hlp hlt5 hlv);clear hF hv5 hpb ht5 hk2 hk3 p0 p1 p2 p3 tc v0 v1 v2 v3 v4 v5 v6 v7 v8 v9;have HV:=za hcall;clear hcall
        go_region_held3 (fun W'=>Qc W5 wr.heap.size TB w.heap.size 23 5 205 tx wd mo v W') (first|exact HS.out _ zj.drew|exact HS.out _ ((zj.drew).trans hb0)) (first|(go_at_call 205;refine HV.out.mono ?_;rintro e w0 ⟨rfl,hb0⟩))
        exact U1
      · subst h;obtain rfl:206=F:=Vp;simp only[Q2,fv]at tc;have HS:=za (Qc.keep (k:=6) (j:=27) (F:=206) ⟨⟨p0,p1,p2,p3,tc,v0,v1,v2,v3,v4,v5,v6,v7,v8,v9⟩,zj⟩ hlp hlt5 hlv);clear hF hv5 hpb ht5 hk2 hk3 p0 p1 p2 p3 tc v0 v1 v2 v3 v4 v5 v6 v7 v8 v9;have HV:=za hcall;clear hcall
        go_region_held3 (fun W'=>Qc W5 wr.heap.size TB w.heap.size 27 6 206 tx wd mo v W') (first|exact HS.out _ zj.drew|exact HS.out _ ((zj.drew).trans hb0)) (first|(go_at_call 206;refine HV.out.mono ?_;rintro e w0 ⟨rfl,hb0⟩))
        exact U1
      · subst h;obtain rfl:207=F:=Vp;simp only[Q2,fv]at tc;have HS:=za (Qc.keep (k:=7) (j:=31) (F:=207) ⟨⟨p0,p1,p2,p3,tc,v0,v1,v2,v3,v4,v5,v6,v7,v8,v9⟩,zj⟩ hlp hlt5 hlv);clear hF hv5 hpb ht5 hk2 hk3 p0 p1 p2 p3 tc v0 v1 v2 v3 v4 v5 v6 v7 v8 v9;have HV:=za hcall;clear hcall
        go_region_held3 (fun W'=>Qc W5 wr.heap.size TB w.heap.size 31 7 207 tx wd mo v W') (first|exact HS.out _ zj.drew|exact HS.out _ ((zj.drew).trans hb0)) (first|(go_at_call 207;refine HV.out.mono ?_;rintro e w0 ⟨rfl,hb0⟩))
        exact U1
      · subst h;obtain rfl:209=F:=Vp;simp only[Q2,fv]at tc;have HS:=za (Qc.keep (k:=8) (j:=35) (F:=209) ⟨⟨p0,p1,p2,p3,tc,v0,v1,v2,v3,v4,v5,v6,v7,v8,v9⟩,zj⟩ hlp hlt5 hlv);clear hF hv5 hpb ht5 hk2 hk3 p0 p1 p2 p3 tc v0 v1 v2 v3 v4 v5 v6 v7 v8 v9;have HV:=za hcall;clear hcall
        go_region_held3 (fun W'=>Qc W5 wr.heap.size TB w.heap.size 35 8 209 tx wd mo v W') (first|exact HS.out _ zj.drew|exact HS.out _ ((zj.drew).trans hb0)) (first|(go_at_call 209;refine HV.out.mono ?_;rintro e w0 ⟨rfl,hb0⟩))
        exact U1
      · subst h;obtain rfl:210=F:=Vp;simp only[Q2,fv]at tc;have HS:=za (Qc.keep (k:=9) (j:=39) (F:=210) ⟨⟨p0,p1,p2,p3,tc,v0,v1,v2,v3,v4,v5,v6,v7,v8,v9⟩,zj⟩ hlp hlt5 hlv);clear hF hv5 hpb ht5 hk2 hk3 p0 p1 p2 p3 tc v0 v1 v2 v3 v4 v5 v6 v7 v8 v9;have HV:=za hcall;clear hcall
        go_region_held3 (fun W'=>Qc W5 wr.heap.size TB w.heap.size 39 9 210 tx wd mo v W') (first|exact HS.out _ zj.drew|exact HS.out _ ((zj.drew).trans hb0)) (first|(go_at_call 210;refine HV.out.mono ?_;rintro e w0 ⟨rfl,hb0⟩))
        exact U1
      · subst h;obtain rfl:211=F:=Vp;simp only[Q2,fv]at tc;have HS:=za (Qc.keep (k:=10) (j:=43) (F:=211) ⟨⟨p0,p1,p2,p3,tc,v0,v1,v2,v3,v4,v5,v6,v7,v8,v9⟩,zj⟩ hlp hlt5 hlv);clear hF hv5 hpb ht5 hk2 hk3 p0 p1 p2 p3 tc v0 v1 v2 v3 v4 v5 v6 v7 v8 v9;have HV:=za hcall;clear hcall
        go_region_held3 (fun W'=>Qc W5 wr.heap.size TB w.heap.size 43 10 211 tx wd mo v W') (first|exact HS.out _ zj.drew|exact HS.out _ ((zj.drew).trans hb0)) (first|(go_at_call 211;refine HV.out.mono ?_;rintro e w0 ⟨rfl,hb0⟩))
        exact U1
      · subst h;obtain rfl:212=F:=Vp;simp only[Q2,fv]at tc;have HS:=za (Qc.keep (k:=11) (j:=47) (F:=212) ⟨⟨p0,p1,p2,p3,tc,v0,v1,v2,v3,v4,v5,v6,v7,v8,v9⟩,zj⟩ hlp hlt5 hlv);clear hF hv5 hpb ht5 hk2 hk3 p0 p1 p2 p3 tc v0 v1 v2 v3 v4 v5 v6 v7 v8 v9;have HV:=za hcall;clear hcall
        go_region_held3 (fun W'=>Qc W5 wr.heap.size TB w.heap.size 47 11 212 tx wd mo v W') (first|exact HS.out _ zj.drew|exact HS.out _ ((zj.drew).trans hb0)) (first|(go_at_call 212;refine HV.out.mono ?_;rintro e w0 ⟨rfl,hb0⟩))
        exact U1
    · have hall:ps.take k=ps:=List.take_of_length_le VK;rw[hall];generalize Ud ps v=out at*;go_wp2;go_ret2;refine⟨zhC ?_,HB4.out.trans (hbr.out.mono (X3 hwB))⟩;show out.extract 0 (min (out.size:Int) 256).toNat=out.extract 0 256;refine Gg ?_;rw[Ye,Ye,zl4,zl4];by_cases h:out.size<=256
      · rw[show(min (out.size:Int) 256).toNat=out.size from by omega,List.take_of_length_le VQ,List.take_of_length_le VV]
      · rw[show(min (out.size:Int) 256).toNat=256 from by omega]
 · have hx:Um (L s) v=(⟨#[]⟩,(ZT (L s)).2):=by rw[Um,if_neg h0]
   have h0':((ZT (L s)).2==0)=false:=by simpa using h0
   rw[hx];have HP':∀W,Below w.heap.size w W->Calls prog 163 #[.string s] W fun e w'=>∃v,e=.returned (.tuple #[v,.int .i64 (ZT (L s)).2])/\Below W.heap.size W w':=fun W hW=>(HP W hW).mono fun e w' h=>by
    obtain⟨v,h1,_,h3⟩:=h;exact⟨v,h1,h3⟩
   generalize (ZT (L s)).2=code at*;clear hx HP hM hI hE;have hb:=(Below.refl w.heap.size w).alloc zo (.cells #[.string v.kernel,.string v.devpath,.string v.id,.string v.driver,.string v.parent,.string v.name,.string v.result,.slice v.attrs.A v.attrs.l.length v.attrs.c,.slice v.above.A v.above.l.length v.above.c,.slice v.env.A v.env.l.length v.env.c] 195);have HP2:=HP' _ hb;have Hb:=za hb;clear HP' hb;go_enter func128,ntmps128;go_wp2_with (go_at_call 163;refine HP2.mono ?_;rintro e w2 ⟨r,rfl,hb2⟩)
   go_ret2;exact⟨rfl,Hb.out.trans (hb2.mono zl)⟩
end Go.Proofs.YtecbmndgpepkcaaGreatDoor

/- Contracts that the law rests on, each under the premises that it names. -/
import Derived.Test.YtecbmndgpepkcaaGreatDoorG15
namespace Go.Proofs.YtecbmndgpepkcaaGreatDoor
open Tryz
set_option maxHeartbeats 8000000
set_option maxRecDepth 100000
section
open Go.RowKit
def GI(g:Nat)(ps:List Pc)(c:UInt8)(r:ze)(w:World)(e:Ending)(w':World):Prop:=
 e=.returned (.bool (Z6 c r).isSome)/\(∀p r',Z6 c r=some (p,r')->∃rest',L rest'=r'/\Rd w' g rest' (Zq ps p))/\Below g w w'
theorem Rd.c0{w:World}{g:Nat}{r:ByteArray}{ps:List Pc}(h:Rd w g r ps):w.cell? ⟨g,0,none⟩=some (.string r)/\w.frozen? ⟨g,0,none⟩=false:=by
 obtain⟨v,hh,_⟩:=h.ex;exact⟨zd hh rfl,frozen_of_row _ _ _ _ _ hh⟩
theorem OX{s:ByteArray}{c:UInt8}{r:ze}(h:L s=c::r):s.extract 0 1=bs [c]/\s.extract 1 s.size=bs r/\1<=s.size:=by
 have hz:s.size=r.length+1:=by rw[<-zF,h];rfl
 refine⟨KY ?_,KY ?_,zb⟩
 · rw[Ye,h];rfl
 · rw[Ye,h,hz];simp
theorem zbk{c:UInt8}:(bs [c]).toList=[c]:=M5
theorem Og{g:Nat}{ps:List Pc}{c:UInt8}{r:ze}{w w':World}(h:Z6 c r=none)(hb:Below g w w'):GI g ps c r w (.returned (.bool false)) w':=
 ⟨Ij,(fun p r' e=>by rw[h]at e;cases e),hb⟩
theorem Mk{g:Nat}{ps:List Pc}{c:UInt8}{r:ze}{w w':World}{p:Pc}{s:ByteArray}(h:Z6 c r=some (p,L s))(hR:Rd w' g s (Zq ps p))(hb:Below g w w'):GI g ps c r w (.returned (.bool true)) w':=
 ⟨Ij,(fun q r' e=>by rw[h]at e;cases e;exact⟨s,rfl,hR⟩),hb⟩
theorem zcS(g:Nat)(rest:ByteArray)(ps:List Pc)(c:UInt8)(r:ze)(w:World)(h:Rd w g rest ps)(hL:L rest=c::r)(hc:r.head? =some c)(hr:rest.size<=1000)(hn:ps.length<=10000)(hq:∀q∈ps,q.text.size<=1000000):
 Calls prog 199 #[.pointer (some ⟨g,0,none⟩)] w (GI g ps c r w):=by
 obtain⟨c0,f0⟩:=h.c0;obtain⟨e1,e2,h1⟩:=OX hL;obtain⟨r2,rfl⟩:∃r2,r=c::r2:=by
  cases r with
  |nil=>simp at hc
  |cons a b=>exact⟨b,by simp at hc;rw[hc]⟩
 have HP:∀W,Calls prog 105 #[.string (bs (c::r2)),.string (bs [c])] W fun e w'=>e=.returned (.bool true)/\W=w':=fun W=>(Ja (bs (c::r2)) (bs [c]) W).mono fun e w' h=>⟨by rw[h.1,qz,qz,In];simp,h.2⟩;have e3:(bs (c::r2)).extract 1 (bs (c::r2)).size=bs r2:=(OX (qz (c::r2))).2.1;have h3:1<=(bs (c::r2)).size:=(OX (qz (c::r2))).2.2;have hp:Z6 c (c::r2)=some (Zd (bs [c]),r2):=by rw[Z6,if_pos zl];rfl
 have Hp:=za hp;have HH:=za h;have hlt:=h.lt;have Hq:=za hq;have ht:(bs [c]).size<=1000000:=by rw[Zg];simp
 generalize bs (c::r2)=s1 at*;generalize bs [c]=sg at*;have HL:=za hL;clear hL hp hq h;go_enter func199,ntmps199;go_wp2_with (first|(go_at_call 105;refine(HP _).mono ?_;rintro e w' ⟨rfl,rfl⟩))
 refine(Iq g (bs r2) ps (Zd sg) _ ((HH.out.cut s1).cut (bs r2)) hn Hq.out ht (fun _=>rfl)).mono ?_;rintro e w' ⟨rfl,hR,hB⟩;go_wp2;go_ret;exact Mk (Hp.out.trans (by rw[qz])) hR (((((Below.refl g w).setCell (p:=⟨g,0,none⟩) zo _).setCell (p:=⟨g,0,none⟩) zo _)).trans hB)
def Jc(c:UInt8)(r:ze):Nat:=U4 (c==36) (r.take (XQ (c==36) r))
def Gy(c:UInt8)(r:ze):ze:=r.drop (XQ (c==36) r)
theorem zeG{c:UInt8}{r:ze}(hc:r.head?≠some c):Z6 c r=Va (Jc c r) (Gy c r):=by rw[Z6,if_neg hc];rfl
theorem zkm(long:Bool)(w:ze):U4 long w≠1:=by
 unfold U4;cases h:(List.range 12).find? (Yf long w)with
 |none=>simp
 | some k=>
   intro e;have e:k=1:=e;subst e;have:=List.find?_some h;cases w with
   |nil=>simp[Yf]at this
   |cons a t=>cases long<;>simp[Yf,k8,Kh]at this
theorem zex(c:UInt8)(r:ze):Jc c r≠1:=zkm _ _
theorem ziE(a b x y:Value)(w:World):(Instr.field 239 (.agg #[a,b,x,y]) 2).run prog w=.ok x w:=zg
theorem zi6(w:World):(binOp .neq 149 .nilFunc .nilFunc).run prog w=.ok (.bool false) w:=zg
theorem zgJ(n:Nat)(w:World):(binOp .neq 149 (.func (.func n) #[] #[]) .nilFunc).run prog w=.ok (.bool true) w:=zg
theorem zhK(g:Nat)(rest:ByteArray)(ps:List Pc)(c:UInt8)(r:ze)(w:World)(h:Rd w g rest ps)(hE:Env w)(hg:nG<=g)(hL:L rest=c::r)(hc:r.head?≠some c)(hr:rest.size<=1000)(hn:ps.length<=10000)(hq:∀q∈ps,q.text.size<=1000000):
 Calls prog 199 #[.pointer (some ⟨g,0,none⟩)] w (GI g ps c r w):=by
 have h1k:(Jc c r:Int)≠1:=fun e=>zex c r zb;obtain⟨c0,f0⟩:=h.c0;obtain⟨e1,e2,h1⟩:=OX hL;have HP:∀W,Calls prog 105 #[.string (bs r),.string (bs [c])] W fun e w'=>e=.returned (.bool false)/\W=w':=fun W=>(Ja (bs r) (bs [c]) W).mono fun e w' h=>⟨by rw[h.1,qz,qz,In];simp[hc],h.2⟩;have hs:(bs r).size<=1000:=by rw[Zg];have:=zF rest;rw[hL]at this;simp at this;omega
 have HK:Calls prog 238 #[.pointer (some ⟨g,0,none⟩),.bool (c==36)] (w.setCell ⟨g,0,none⟩ (.string (bs r))) fun e w'=>e=.returned (.int .i64 (Jc c r))/\Rd w' g (bs (Gy c r)) ps/\Below g (w.setCell ⟨g,0,none⟩ (.string (bs r))) w':=by
  have:=zfp (c==36) g (bs r) ps _ (h.cut (bs r)) hs;rw[qz]at this;exact this
 have hp:=zeG hc;have hk12:Jc c r<12:=SX _ _;have hrl:(bs (Gy c r)).size<=1000:=by rw[Zg,Gy,W8];rw[Zg]at hs;omega
 have hsg:((bs [c]).toList==[36])=(c==36):=by rw[zbk];simp
 generalize (c==36)=lg at*;generalize bs [c]=sg at*;generalize bs r=s1 at*;generalize Jc c r=k at*;generalize Gy c r=rr at*;have Hp:=za hp;have HL:=za hL;have HQ:=za hq;have hE2:∀w2,Below g (w.setCell ⟨g,0,none⟩ (.string s1)) w2->Env w2:=fun w2 hb=>(hE.keep ((Below.refl g w).setCell (p:=⟨g,0,none⟩) zo _) hg).keep hb hg;have HE:=za hE2;clear hL hp h hc hE hE2 hq hr hs;by_cases h0:k=0
 · have k0:((k:Int)==0)=true:=by simp[h0]
   go_enter func199,ntmps199;go_wp2_with (first|(go_at_call 105;refine(HP _).mono ?_;rintro e w' ⟨rfl,rfl⟩)|(go_at_call 238;refine HK.mono ?_;rintro e w2 ⟨rfl,hR2,hB2⟩))
   go_ret;exact Og (by rw[Hp.out,h0];rfl) ((((Below.refl g w).setCell (p:=⟨g,0,none⟩) zo _).trans hB2).alloc (X3 hR2.lt) _)
 have k0:((k:Int)==0)=false:=zK;have hfield:=ziE;have hrow:=GL k hk12;go_enter func199,ntmps199;go_wp2_with (first|(go_at_call 105;refine(HP _).mono ?_;rintro e w' ⟨rfl,rfl⟩)|(go_at_call 238;refine HK.mono ?_;rintro e w2 ⟨rfl,hR2,hB2⟩))
 obtain⟨W3,hW3⟩:∃W3,w2.alloc (.cells #[.int .i64 k,.string ⟨#[]⟩,.int .i64 0,.bool false] 243)=W3:=⟨_,rfl⟩;rw[hW3];have hblk:W3.heap[w2.heap.size]? =some (.cells #[.int .i64 k,.string ⟨#[]⟩,.int .i64 0,.bool false] 243 (0,0)):=by rw[<-hW3];exact qt
 have hR3:Rd W3 g (bs rr) ps:=hR2.keep vd;have hB3:Below g w W3:=(((Below.refl g w).setCell (p:=⟨g,0,none⟩) zo _).trans hB2).trans (by rw[<-hW3];exact zj.alloc (X3 hR2.lt) _);have hE3:Env W3:=(HE.out w2 hB2).go vd;have hgPB:g<w2.heap.size:=hR2.lt;obtain⟨v0,hC1,hV0⟩:=hR2.c1;have hC3:W3.cell? ⟨g,1,none⟩=some v0:=by rw[<-hW3];exact((Below.refl w2.heap.size w2).alloc zo _|>.cell (p:=⟨g,1,none⟩) hgPB).trans hC1
 have hV1:v0.ownBlock≠some w2.heap.size:=fun e=>zd0 _ (hV0 _ e);generalize w2.heap.size=PB at*;have HV1:=za hV1;have HC3:=za hC3;have hgW3:=hR3.lt;clear hC1 hV0 hV1 hC3;have hPB:PB<W3.heap.size:=Xc hblk;have HBlk:=za hblk;have HR3:=za hR3;have HB3:=za hB3;have HE3:=za hE3;have q0:W3.cell? ⟨PB,0,none⟩=some (.int .i64 k):=zd hblk rfl;clear hblk hR3 hB3 hE3 hR2 hB2 hW3 HK
 go_region_held3 (fun w'=>w'.cell? ⟨PB,0,none⟩=some (.int .i64 k)/\Below W3.heap.size W3 w') (first|exact⟨q0,zj.drew⟩|exact⟨(hb0.cell (p:=⟨PB,0,none⟩) (by simpa using hPB)).trans q0,(zj.drew).trans hb0⟩) (first|(go_at_call 164;refine(MQ _).mono ?_;rintro e w0 ⟨rfl,hb0⟩))
 have hW:Below W3.heap.size W3 w0:=(zj.drew).trans hb0;have hblk:w0.heap[PB]? =some (.cells #[.int .i64 k,.string ⟨#[]⟩,.int .i64 0,.bool false] 243 (0,0)):=by rw[hW.block PB hPB];exact HBlk.out
 have hR0:=HR3.out.keep hW;have HC0:=za ((hW.cell (p:=⟨g,1,none⟩) hgW3).trans HC3.out);have hlt0:=hR0.lt;have HB0:=za (HB3.out.trans (hW.mono (X3 HR3.out.lt)));have HE0:=za (HE3.out.go hW);have HR0:=za hR0;have q0':w0.cell? ⟨PB,0,none⟩=some (.int .i64 k):=zd hblk rfl;have q1:w0.cell? ⟨PB,1,none⟩=some (.string ⟨#[]⟩):=zd hblk rfl;have q2:w0.cell? ⟨PB,2,none⟩=some (.int .i64 0):=zd hblk rfl;have q3:w0.cell? ⟨PB,3,none⟩=some (.bool false):=zd hblk rfl;obtain⟨c0',f0'⟩:=hR0.c0;have hPB0:PB<w0.heap.size:=Xc hblk;have HBlk0:=za hblk;clear hgW3 HC3 hb0 hW q0 HBlk HR3 HB3 HE3 hR0 hPB hblk;by_cases h78:k=7∨k=8
 · obtain⟨F,S,hbv,eg,hpl,hCC⟩:∃(F:Nat) (S:ze->Bool),kX k=.func (.func F) #[] #[]/\(∀args w,(callFunc F args).run prog w=.ok (.enter F args) w)/\Va k rr=(ZW rr).bind (fun(t,r')=>if S t then some (⟨k,bs t,0,false⟩,r')else none)/\∀a W,a.size<=1000->Calls prog F #[.string a] W fun e w'=>e=.returned (.bool (S (L a)))/\Below W.heap.size W w':=by
    rcases h78 with rfl|rfl
    · exact⟨_,Z4,rfl,enters_of func169 zg rfl,rfl,fun a W h=>Gn a W zb⟩
    · exact⟨_,UA,rfl,enters_of func155 zg rfl,rfl,fun a W h=>jt a W zb⟩
   rw[hbv];have hneq:=zgJ F;go_wp2_with fail
   refine(FU g (bs rr) ps _ HR0.out HE0.out hrl).mono ?_;rintro e w5 ⟨t,rest5,rfl,hx,ht,-,hR5,hB5,hG5,hC5⟩;have HPS:=za (show Z6 c r=if(ZW (L (bs rr))).isSome&&S (L t)then some (⟨k,t,0,false⟩,L rest5)else none by
    rw[Hp.out,hpl];rw[qz]at hx⊢;cases hb:ZW rr with
    |none=>rfl
    | some ab=>
      obtain⟨rfl,rfl⟩:=hx ab.1 ab.2 hb;rw[qz,qz];rfl)
   clear hx hpl;generalize (ZW (L (bs rr))).isSome=ob at*;cases ob
   · go_wp2;go_ret;exact Og HPS.out (HB0.out.trans hB5)
   have hblk5:=(hG5.block PB hPB0 (fun e=>zd0 _ (zx e▸hgPB))).trans HBlk0.out;have hPB5:PB<w5.heap.size:=Xc hblk5;have HBlk5:=za hblk5;have HC5:=za (hC5.trans HC0.out);have HR5:=za hR5;have HB5:=za hB5;have ht1:=i3 ht hrl;clear hR5 hB5 hG5 hC5 hblk5;go_wp2_with fail
   refine(hCC t _ ht1).mono ?_;rintro e w6 ⟨rfl,hB6⟩;have hblk6:=(hB6.block PB hPB5).trans HBlk5.out;have HR6:=za (HR5.out.keep hB6);have z0:w6.cell? ⟨PB,0,none⟩=some (.int .i64 k):=zd hblk6 rfl;have z1:w6.cell? ⟨PB,1,none⟩=some (.string ⟨#[]⟩):=zd hblk6 rfl;have z2:w6.cell? ⟨PB,2,none⟩=some (.int .i64 0):=zd hblk6 rfl;have z3:w6.cell? ⟨PB,3,none⟩=some (.bool false):=zd hblk6 rfl;have zf:w6.frozen? ⟨PB,1,none⟩=false:=frozen_of_row _ _ _ _ _ hblk6;have hPB6:PB<w6.heap.size:=Xc hblk6;have HC6:=za ((hB6.cell (p:=⟨g,1,none⟩) HR5.out.lt).trans HC5.out);have HB6:=za ((HB0.out.trans HB5.out).trans (hB6.mono (X3 HR5.out.lt)));clear hB6 hblk6;generalize S (L t)=vb at*;cases vb
   · go_wp2_with fail
     go_ret;exact Og HPS.out HB6.out
   go_wp2_with fail
   have hR7:=HR6.out.other HC6.out HV1.out (Nat.ne_of_lt hgPB) 1 (.string t);have HB7:=za (HB6.out.setCell (p:=⟨PB,1,none⟩) (X3 hgPB) (.string t))
   with_reducible refine(Iq g rest5 ps ⟨k,t,0,false⟩ _ hR7 hn HQ.out QW (fun e=>absurd e h1k)).mono ?_
   rintro e w8 ⟨rfl,hR8,hB8⟩;go_wp2;go_ret;exact Mk HPS.out hR8 (HB7.out.trans hB8)
 have hbv:kX k=.nilFunc:=by
  rcases(by omega:k=1∨k=2∨k=3∨k=4∨k=5∨k=6∨k=9∨k=10∨k=11)with rfl|rfl|rfl|rfl|rfl|rfl|rfl|rfl|rfl<;>rfl
 rw[hbv];have hneq:=zi6;have HP9:∀W,Calls prog 105 #[.string (bs rr),.string ⟨#[123]⟩] W fun e w'=>e=.returned (.bool (rr.head? ==some 123))/\W=w':=fun W=>(Ja (bs rr) ⟨#[123]⟩ W).mono fun e w' h=>⟨by rw[h.1,qz];exact congrArg (fun b=>Ending.returned (.bool b)) (In rr 123),h.2⟩;by_cases h9:k=9/\rr.head? =some 123
 · have k9:((k:Int)==9)=true:=by simp[h9.1]
   rw[h9.2]at HP9;go_wp2_with (go_at_call 105;refine(HP9 _).mono ?_;rintro e w' ⟨rfl,rfl⟩)
   refine(FU g (bs rr) ps _ HR0.out HE0.out hrl).mono ?_;rintro e w5 ⟨t,rest5,rfl,hx,ht,-,hR5,hB5,hG5,hC5⟩;have hE5:Env w5:=(HE0.out).keep hB5 hg;have HC:=zic t _ hE5 (i3 ht hrl);have hblk5:=(hG5.block PB hPB0 (fun e=>zd0 _ (zx e▸hgPB))).trans HBlk0.out;have hPB5:PB<w5.heap.size:=Xc hblk5;have HBlk5:=za hblk5;have HC5:=za (hC5.trans HC0.out);have HR5:=za hR5;have HB5:=za hB5;have HX:=za hx;clear hx hE5 hR5 hB5 hG5 hblk5 hC5;go_wp2_with fail
   refine HC.mono ?_;rintro e w6 ⟨n,mo,rfl,hnm,hB6⟩;have HPS:=za (show Z6 c r=if(ZW (L (bs rr))).isSome&&(Xk (L t)).isSome then some (⟨9,⟨#[]⟩,n,mo⟩,L rest5)else none by
    have hx:=HX.out;rw[Hp.out,Va,if_neg h0,if_neg zb,if_neg zb,if_pos h9];rw[qz]at hx⊢;cases hb:ZW rr with
    |none=>rfl
    | some ab=>
      obtain⟨rfl,rfl⟩:=hx ab.1 ab.2 hb;rw[qz]at hnm;rw[qz,qz];cases hV:Xk ab.1 with
      |none=>simp[hV]
      | some nm=>
        obtain⟨rfl,rfl⟩:=hnm nm.1 nm.2 hV;simp[hV];rfl)
   clear HX hnm HC;generalize (ZW (L (bs rr))).isSome=ob at*;generalize (Xk (L t)).isSome=oc at*;have hblk6:=(hB6.block PB hPB5).trans HBlk5.out;have HR6:=za (HR5.out.keep hB6);have z0:w6.cell? ⟨PB,0,none⟩=some (.int .i64 k):=zd hblk6 rfl;have z1:w6.cell? ⟨PB,1,none⟩=some (.string ⟨#[]⟩):=zd hblk6 rfl;have z2:w6.cell? ⟨PB,2,none⟩=some (.int .i64 0):=zd hblk6 rfl;have z3:w6.cell? ⟨PB,3,none⟩=some (.bool false):=zd hblk6 rfl;have zf:w6.frozen? ⟨PB,2,none⟩=false:=frozen_of_row _ _ _ _ _ hblk6;have zf3:w6.frozen? ⟨PB,3,none⟩=false:=frozen_of_row _ _ _ _ _ hblk6;have hPB6:PB<w6.heap.size:=Xc hblk6;have HC6:=za ((hB6.cell (p:=⟨g,1,none⟩) HR5.out.lt).trans HC5.out);have HB6:=za ((((HB0.out.trans HB5.out).trans (hB6.mono (X3 HR5.out.lt))).setCell (p:=⟨PB,2,none⟩) (X3 hgPB) (.int .i64 n)).setCell (p:=⟨PB,3,none⟩) (X3 hgPB) (.bool mo));clear hB6 hblk6;cases ob<;>cases oc
   case true.true=>
    go_wp2_with fail
    have hR7:=(HR6.out.other HC6.out HV1.out (Nat.ne_of_lt hgPB) 2 (.int .i64 n)).other ((World.cell?_setCell_other _ _ _ _ zl).trans HC6.out) HV1.out (Nat.ne_of_lt hgPB) 3 (.bool mo)
    with_reducible refine(Iq g rest5 ps ⟨9,⟨#[]⟩,n,mo⟩ _ hR7 hn HQ.out (X1 _) (fun e=>absurd (show(9:Int)=1 from e) zi)).mono ?_
    rintro e w8 ⟨rfl,hR8,hB8⟩;go_wp2;go_ret;exact Mk HPS.out hR8 (HB6.out.trans hB8)
   all_goals
    go_wp2_with fail
    go_ret;exact Og HPS.out HB6.out
 have HPS:=za (show Z6 c r=some (⟨k,⟨#[]⟩,0,false⟩,L (bs rr)) by
  rw[Hp.out,Va,if_neg h0,if_neg zb,if_neg zb,if_neg h9,qz];rfl)
 have HA:=fun W (hR:Rd W g (bs rr) ps)=>Iq g (bs rr) ps ⟨k,⟨#[]⟩,0,false⟩ W hR hn HQ.out (X1 _) (fun e=>absurd e h1k);dsimp only at HA;have hcs:(((k:Int)==9)=true/\(rr.head? ==some 123)=false)∨((k:Int)==9)=false:=by
  by_cases hk9:k=9
  · exact .inl ⟨by simp[hk9],beq_eq_false_iff_ne.2 fun h=>h9 ⟨hk9,h⟩⟩
  · exact .inr zK
 clear h9 h78;rcases hcs with⟨k9,hz⟩|k9
 · rw[hz]at HP9;exact Sg
 · exact Sg
theorem zaO(g:Nat)(rest:ByteArray)(ps:List Pc)(c:UInt8)(r:ze)(w:World)(h:Rd w g rest ps)(hE:Env w)(hg:nG<=g)(hL:L rest=c::r)(hr:rest.size<=1000)(hn:ps.length<=10000)(hq:∀q∈ps,q.text.size<=1000000):
 Calls prog 199 #[.pointer (some ⟨g,0,none⟩)] w (GI g ps c r w):=by
 by_cases hc:r.head? =some c
 · exact zcS g rest ps c r w h hL hc hr hn hq
 · exact zhK g rest ps c r w h hE hg hL hc hr hn hq
end
section
open Go.RowKit
theorem zhF(s sep:ze):(Lib.cut s sep).1.length+(Lib.cut s sep).2.1.length<=s.length:=by
 unfold Lib.cut
 split
 · dsimp only;rw[W9,W8];omega
 · simp
theorem LY{r a b:ze}(h:ZW r=some (a,b)):a.length+b.length<=r.length:=by
 cases r with
 |nil=>simp[ZW]at h
 | cons x t=>
   rw[ZW]at h;have:=zhF t [125]
   split at h
   · split at h
     · injection h with h
       injection h with h1 h2
       subst h1 h2;rw[u0];omega
     · cases h
   · cases h
theorem DJ{k:Nat}{r r':ze}{p:Pc}(h:Va k r=some (p,r')):p.text.size+r'.length<=r.length:=by
 unfold Va at h
 split at h
 · cases h
 split at h
 · exact EJ
 split at h
 · exact EJ
 split at h
 · cases hb:ZW r with
   |none=>rw[hb]at h;cases h
   | some ab=>
     obtain⟨a,b⟩:=ab;have hl:=LY hb;rw[hb]at h;simp only[Option.bind_some]at h;cases hc:Xk a with
     |none=>rw[hc]at h;cases h
     | some nm=>
       rw[hc]at h;simp only[zd6]at h;injection h with h
       injection h with h1 h2
       subst h1 h2;dsimp only;rw[Zg];simp;omega
 · injection h with h
   injection h with h1 h2
   subst h1 h2;dsimp only;rw[Zg];simp
theorem vV{c:UInt8}{r r':ze}{p:Pc}(h:Z6 c r=some (p,r')):p.text.size+r'.length<=r.length+1:=by
 unfold Z6 at h
 split at h
 · injection h with h
   injection h with h1 h2
   subst h1 h2;simp only[Zd];rw[Zg,List.length_tail];simp;omega
 · have:=DJ h;exact G0
theorem RG{c:UInt8}{r r':ze}{p:Pc}(h:Z6 c r=some (p,r')):r'.length<=r.length:=by
 unfold Z6 at h
 split at h
 · injection h with h
   injection h with h1 h2
   subst h1 h2;rw[List.length_tail];omega
 · have:=DJ h;exact G0
theorem zkU(s sep:ze):∀x∈(Lib.cut s sep).2.1,x∈s:=by
 unfold Lib.cut
 split
 · intro x hx;exact List.mem_of_mem_drop hx
 · intro x hx;cases hx
theorem zde{r a b:ze}(h:ZW r=some (a,b)):∀x∈b,x∈r:=by
 cases r with
 |nil=>simp[ZW]at h
 | cons x t=>
   rw[ZW]at h;have:=zkU t [125]
   split at h
   · split at h
     · injection h with h
       injection h with h1 h2
       subst h1 h2;exact fun y hy=>X6 _ (this y hy)
     · cases h
   · cases h
theorem zj3{k:Nat}{r r':ze}{p:Pc}(h:Va k r=some (p,r')):∀x∈r',x∈r:=by
 unfold Va at h;cases hb:ZW r with
 | none=>
   simp only[hb,Option.bind_none]at h
   repeat' split at h
   all_goals first|(cases h;done)|(injection h with h;injection h with h1 h2;subst h2;exact fun x hx=>hx)
 | some ab=>
   obtain⟨a,b⟩:=ab;have hm:=zde hb;simp only[hb,Option.bind_some]at h
   split at h
   · cases h
   split at h
   · split at h
     · exact Rj
     · cases h
   split at h
   · split at h
     · exact Rj
     · cases h
   split at h
   · cases hc:Xk a with
     |none=>rw[hc]at h;cases h
     | some nm=>
       rw[hc]at h;simp only[zd6]at h;exact Rj
   · injection h with h;injection h with h1 h2;subst h2;exact fun x hx=>hx
theorem zeD{c:UInt8}{r r':ze}{p:Pc}(h:Z6 c r=some (p,r')):∀x∈r',x∈r:=by
 unfold Z6 at h
 split at h
 · injection h with h
   injection h with h1 h2
   subst h2;exact fun x hx=>List.mem_of_mem_tail hx
 · have:=zj3 h;exact fun x hx=>List.mem_of_mem_drop (this x hx)
theorem zgV:∀(n m:Nat) (r:ze) (acc:List Pc),r.length<=n->r.length<=m->Ya n r acc=Ya m r acc:=by
 intro n;induction n with
 | zero=>
   intro m r acc h1 h2;cases r with
   |nil=>cases m<;>rfl
   |cons c r=>simp at h1
 | succ n ih=>
   intro m r acc h1 h2;cases r with
   |nil=>cases m<;>rfl
   | cons c r=>
     cases m with
     |zero=>simp at h2
     | succ m=>
       simp only[u0]at h1 h2;rw[Ya,Ya]
       split
       · cases hp:Z6 c r with
         |none=>rfl
         | some pr'=>
           obtain⟨p,r'⟩:=pr';have:=RG hp;exact ih m r' _ zb zb
       · exact ih m r _ zb zb
def kN(n:Nat)(ps:List Pc):Prop:=ps.length+n<=256/\∀q∈ps,q.text.size+n<=256
theorem kN.add{n m:Nat}{ps:List Pc}(h:kN n ps)(hn:n<=256){p:Pc}(h1:p.text.size+m<=n)(h2:m+1<=n):kN m (Zq ps p):=by
 unfold Zq
 split
 · rename_i hk;rcases List.eq_nil_or_concat ps with h0|⟨l,q,h0⟩
   · subst h0;exact⟨by simp[KH];omega,fun q hq=>by simp[KH]at hq⟩
   · rw[List.concat_eq_append]at h0;subst h0;rw[Jt];have:=h.1;simp only[r7,List.length_singleton]at this;refine⟨by simp only[r7,List.length_singleton];omega,fun x hx=>?_⟩;rcases List.mem_append.1 hx with hx|hx
     · have:=h.2 x J5;omega
     · simp only[List.mem_singleton]at hx;subst hx;have:=h.2 q zl;dsimp only;rw[ByteArray.size_append];omega
 · refine⟨by have:=h.1;simp only[r7,List.length_singleton];omega,fun x hx=>?_⟩;rcases List.mem_append.1 hx with hx|hx
   · have:=h.2 x hx;omega
   · simp only[List.mem_singleton]at hx;subst hx;omega
def ZT(s:ze):List Pc×Int:=if 256<s.length then([],91)else if Y3 s then match kD s with
 |some ps=>(ps,0)
 |none=>([],90)
 else([],90)
def zkp(s:ze)(w:World)(e:Ending)(w':World):Prop:=
 ∃v,e=.returned (.tuple #[v,.int .i64 (ZT s).2])/\w'.ownsRow w.heap.size 243 4 v (ZT s).1.length (cellsOf ZY (ZT s).1)/\Below w.heap.size w w'
theorem zkM(l:ze):(Lib.indexAny l [36,37]= -1/\∀c∈l,VP c=false)∨∃k:Nat,k<l.length/\Lib.indexAny l [36,37]=k/\(∀c∈l.take k,VP c=false)/\∃c,l[k]? =some c/\VP c=true:=by
 induction l with
 |nil=>left;exact⟨rfl,fun c h=>qI⟩
 | cons b l ih=>
   have hs:[36,37].contains b=VP b:=by
    rw[Bool.eq_iff_iff];simp[VP]
   by_cases hb:VP b=true
   · right;refine⟨0,zl,?_,fun c h=>by simp at h,b,rfl,hb⟩;rw[Lib.indexAny,hs,hb];rfl
   · have hb:VP b=false:=by simpa using hb
     have e:Lib.indexAny (b::l) [36,37]=if Lib.indexAny l [36,37]== -1 then -1 else Lib.indexAny l [36,37]+1:=by
      rw[Lib.indexAny,hs,hb];rfl
     rcases ih with⟨h1,h2⟩|⟨k,hk,h1,h2,c,hc,h3⟩
     · left;refine⟨by rw[e,h1];rfl,fun c hc=>?_⟩;rcases List.mem_cons.1 hc with rfl|hc
       · exact hb
       · exact h2 c hc
     · right;refine⟨k+1,zK,?_,fun c' hc'=>?_,c,by simpa using hc,h3⟩
       · rw[e,h1];rw[if_neg zl];exact(Int.natCast_succ k).symm
       · rw[List.take_succ_cons]at hc';rcases List.mem_cons.1 hc' with rfl|hc'
         · exact hb
         · exact h2 c' hc'
theorem Bd(g:Nat)(rest:ByteArray)(ps:List Pc)(t:ByteArray)(w:World)(h:Rd w g rest ps)(hn:ps.length<=10000)(hq:∀q∈ps,q.text.size<=1000000)(ht:t.size<=1000000):
 Calls prog 198 #[.pointer (some ⟨g,0,none⟩),.agg #[.int .i64 1,.string t,.int .i64 0,.bool false]] w (G9 g rest ps (Zd t) w):=Iq g rest ps (Zd t) w h hn hq ht (fun _=>rfl)
theorem zjI (s:ByteArray)(w:World)(hE:Env w)(hs:s.size<=9223372036854775807):
 Calls prog 163 #[.string s] w (zkp (L s) w):=by
 have hEs:=hE.size;by_cases h256:256<s.size
 · have hR:ZT (L s)=([],91):=by rw[ZT,zF,if_pos h256]
   have HR:=za hR;clear hR;go_enter func163,ntmps163;go_wp2;exact E4
 have h256:s.size<=256:=zb;have HT:=OS s w hs;cases ht:Y3 (L s)
 · have hR:ZT (L s)=([],90):=by rw[ZT,zF,if_neg zb,ht];rfl
   have HR:=za hR;rw[ht]at HT;clear hR ht;go_enter func163,ntmps163;go_wp2_with (go_at_call 195;refine HT.mono ?_;rintro e w' ⟨rfl,rfl⟩)
   exact E4
 rw[ht]at HT;have hasc:∀c∈L s,c.toNat<128:=by
  have h1:qZ (L s)=true:=by rw[Y3]at ht;simp at ht;exact ht.1
  intro c hc;have:=List.all_eq_true.1 h1 c hc;simp[pr]at this;omega
 have hR:ZT (L s)=match kD (L s)with
  |some ps=>(ps,0)
  |none=>([],90):=by rw[ZT,zF,if_neg zb,ht];rfl
 have HR:=za hR;have HA:=za hasc;clear hR ht hasc;go_enter func163,ntmps163;go_wp2_with (go_at_call 195;refine HT.mono ?_;rintro e w' ⟨rfl,rfl⟩)
 obtain⟨W1,hW1⟩:∃W1,w.alloc (.cells #[.string s,.slice none 0 0] 270)=W1:=⟨_,rfl⟩;rw[hW1];have hR1:Rd W1 w.heap.size s []:=⟨.slice none 0 0,Pl,rfl,.inl ⟨rfl,rfl⟩⟩;have hB1:Below w.heap.size w W1:=by rw[<-hW1];exact zj.alloc zo _
 have hE1:=hE.go hB1;have HR1:=za hR1;have HB1:=za hB1;have HE1:=za hE1;have HEw:=za hE;clear hR1 hB1 hE1 hW1 hE HT;go_loopg [5] s.size (fun gk i wr=>∃rest ps,rest.size<=gk/\rest.size<=256/\Hid (Rd wr w.heap.size rest ps)/\Hid (Below w.heap.size w wr)/\Hid (kN rest.size ps)/\Hid (kD (L s)=Ya rest.size (L rest) ps)/\Hid (∀c∈L rest,c.toNat<128))
 case atStart=>exact⟨s,[],zo,h256,HR1.out,HB1.out,⟨zK,fun q hq=>by cases hq⟩,(by show kD (L s)=_;rw[kD,zF]),HA.out⟩
 case round=>
  obtain⟨rest,ps,hgk,hrz,hRd,hBl,hF,hP,hAs⟩:=hrel;have hc0:=hRd.out.c0;obtain⟨c0,f0⟩:=hc0;have hlt:=hRd.out.lt;by_cases h0:rest=⟨#[]⟩
  · subst h0;obtain⟨v,hh,ho⟩:=hRd.out.ex;have c1:wr.cell? ⟨w.heap.size,1,none⟩=some v:=zd hh rfl;have Ho:=za ho;clear hh ho;have hres:ZT (L s)=(ps,0):=by rw[HR.out,hP.out];rfl
    have HRes:=za hres;clear hres;go_wp2;go_ret2;exact⟨v,Ts,by rw[HRes.out];exact⟨Ho.out.1,by
     rcases Ho.out.2 with h|⟨g,cap,cur,h1,h2,h3⟩
     · exact .inl h
     · exact .inr ⟨g,cap,cur,h1,zb,h3⟩⟩,hBl.out⟩
  · have h0' :rest.toList≠[]:=fun e=>h0 (Gg (by rw[<-tl,e]));have h0'':rest.toList.isEmpty=false:=by simpa using h0'
    have hpos:1<=rest.size:=by
     rcases Nat.eq_zero_or_pos rest.size with h|h
     · exact absurd (Gg (by have:=zF rest;rw[h]at this;exact(List.length_eq_zero_iff.1 this).trans rfl)) h0
     · exact h
    have HI:=strings_IndexAny_laid rest ⟨#[36,37]⟩ wr zb zi (fun j b hb=>hAs.out b (X7 hb)) (fun j b hb=>by
     have:b∈([36,37]:ze):=X7 hb;simp at this;rcases this with rfl|rfl<;>decide)
    change Calls _ _ _ _ (fun e w'=>e=.returned (.int .i64 (Lib.indexAny (L rest) [36,37]))/\Below wr.heap.size wr w')at HI;have hfind:=zkM (L rest);rw[zF]at hfind;generalize Lib.indexAny (L rest) [36,37]=ix at*;have HRun:Hid (∀q:Nat,0<q->q<=rest.size->(∀c∈(L rest).take q,VP c=false)->kD (L s)=Ya (rest.size - q) ((L rest).drop q) (Zq ps (Zd (rest.extract 0 q)))):=fun q hq0 hq1 hq2=>by
     have hl:((L rest).take q).length=q:=by rw[W9,zF];omega
     have:=zbg ((L rest).take q) ((L rest).drop q) hq2 (fun e=>by rw[e]at hl;simp at hl;omega) (rest.size - q) ps;rw[hl,List.take_append_drop,Nat.sub_add_cancel hq1]at this;rw[hP.out,this]
     congr 3
     exact(KY (by rw[Ye,zl4])).symm
    rcases hfind with⟨rfl,hno⟩|⟨k,hk,rfl,hno,c,hck,hsc⟩
    · have HNo:=za hno;clear hno h0;go_wp2_with (go_at_call 197;refine HI.mono ?_;rintro e w1 ⟨rfl,hb1⟩;have c1:=(hRd.out.keep hb1).c0;obtain⟨c1,f1⟩:=c1)
      have hF1:=hF.out.1;have hF2:∀q∈ps,q.text.size<=1000000:=fun q hq=>Tb;have HAdd:=Bd w.heap.size rest ps rest w1 (hRd.out.keep hb1) zb hF2 zb
      with_reducible refine HAdd.mono ?_
      rintro e w2 ⟨rfl,hR2,hB2⟩;obtain⟨c2,f2⟩:=hR2.c0;have hlt2:=hR2.lt;have hR3:=za (hR2.cut ⟨#[]⟩);have hB3:=za (((hBl.out.trans (hb1.mono (X3 hlt))).trans hB2).setCell (p:=⟨w.heap.size,0,none⟩) zo (.string ⟨#[]⟩));clear hb1 hR2 hB2 hF2;go_wp2_with fail
      have he:rest.extract rest.size rest.size=⟨#[]⟩:=Gg (by rw[Ye];simp);go_roundg (gk - 1)
      case measure=>omega
      case rel=>
       refine⟨⟨#[]⟩,Zq ps (Zd rest),X1 _,X1 _,?_,?_,?_,?_,fun c hc=>by cases hc⟩
       · first|exact hR3.out|(rw[he];exact hR3.out)
       · first|exact hB3.out|(rw[he];exact hB3.out)
       · exact hF.out.add hrz (p:=Zd rest) (m:=0) (by show rest.size+0<=rest.size;omega) zb
       · have:=HRun.out rest.size hpos zo (fun c hc=>HNo.out c (List.mem_of_mem_take hc));rw[this,zj2,List.drop_of_length_le VQ,show rest.extract 0 rest.size=rest from Gg (by rw[Ye,zl4,List.take_of_length_le VQ])];rfl
    · by_cases hk0:k=0
      · subst hk0;have hL:∃r,L rest=c::r:=by
         cases hl:L rest with
         |nil=>rw[hl]at hck;simp at hck
         |cons a b=>rw[hl]at hck;simp at hck;exact⟨b,by rw[hck]⟩
        obtain⟨r,hL⟩:=hL;have hrl:r.length+1=rest.size:=by rw[<-zF,hL];rfl
        have HPc:=fun W (hb:Below wr.heap.size wr W)=>zaO w.heap.size rest ps c r W (hRd.out.keep hb) (HEw.out.keep (hBl.out.trans (hb.mono (X3 hlt))) hEs) hEs hL zb (by have:=hF.out.1;omega) (fun q hq=>Tb);have hpf:Ya rest.size (L rest) ps=match Z6 c r with
         |some (p,r')=>Ya r.length r' (Zq ps p)
         |none=>none:=by rw[<-hrl,hL,Ya,hsc];rfl
        have HPF:=za hpf;have HLr:=za hL;have HPL:Hid (∀p r',Z6 c r=some (p,r')->p.text.size+r'.length<=r.length+1/\r'.length<=r.length):=fun p r' e=>⟨vV e,RG e⟩;clear hpf hL hck hsc hno h0 hk;cases hpc:Z6 c r with
        | none=>
          have HPC:=za hpc;have HPc':∀W,Below wr.heap.size wr W->Calls prog 199 #[.pointer (some ⟨w.heap.size,0,none⟩)] W fun e w'=>e=.returned (.bool false)/\Below w.heap.size W w':=fun W hb=>(HPc W hb).mono fun e w' h=>⟨by rw[h.1,hpc];rfl,h.2.2⟩;have hres:ZT (L s)=([],90):=by rw[HR.out,hP.out,HPF.out,hpc]
          have HRes:=za hres;clear hres hpc HPc;go_wp2_with (first|(go_at_call 197;refine HI.mono ?_;rintro e w1 ⟨rfl,hb1⟩;have c1:=(hRd.out.keep hb1).c0;obtain⟨c1,f1⟩:=c1;have HB1:=za hb1)|(go_at_call 199;refine(HPc' _ hb1).mono ?_;rintro e w2 ⟨rfl,hb2⟩))
          go_ret2;exact⟨.slice none 0 0,Ts,by rw[HRes.out];exact⟨rfl,.inl ⟨rfl,rfl⟩⟩,(hBl.out.trans (HB1.out.mono (X3 hlt))).trans hb2⟩
        | some pr'=>
          obtain⟨p,r'⟩:=pr';have HPC:=za hpc;have HPc':∀W,Below wr.heap.size wr W->Calls prog 199 #[.pointer (some ⟨w.heap.size,0,none⟩)] W fun e w'=>e=.returned (.bool true)/\(∃rest',L rest'=r'/\Rd w' w.heap.size rest' (Zq ps p))/\Below w.heap.size W w':=fun W hb=>(HPc W hb).mono fun e w' h=>⟨by rw[h.1,hpc];rfl,h.2.1 p r' hpc,h.2.2⟩;have hpf2:kD (L s)=Ya r.length r' (Zq ps p):=by rw[hP.out,HPF.out,hpc]
          have HPF2:=za hpf2;clear hpf2 hpc HPc;go_wp2_with (first|(go_at_call 197;refine HI.mono ?_;rintro e w1 ⟨rfl,hb1⟩;have c1:=(hRd.out.keep hb1).c0;obtain⟨c1,f1⟩:=c1;have HB1:=za hb1)|(go_at_call 199;refine(HPc' _ hb1).mono ?_;rintro e w2 ⟨rfl,⟨rest',hLr,hR2⟩,hb2⟩))
          have hl2:=HPL.out p r' HPC.out;have hz2:rest'.size=r'.length:=by rw[<-zF,hLr]
          go_roundg (gk - 1)
          case measure=>omega
          case rel=>
           refine⟨rest',Zq ps p,zb,zb,hR2,(hBl.out.trans (HB1.out.mono (X3 hlt))).trans hb2,?_,?_,?_⟩
           · exact hF.out.add hrz (p:=p) zb zb
           · show _=_;rw[HPF2.out,hLr,hz2];exact zgV _ _ _ _ hl2.2 zo
           · intro c' hc';exact hAs.out c' (by rw[HLr.out];exact X6 _ (zeD HPC.out c' (hLr▸hc')))
      · have HNo:=za hno;have hkp:0<k:=zb;have hki:(0:Int)<(k:Int):=zb;have hkr:(k:Int)<=(rest.size:Int):=zb;have hz:(rest.extract 0 k).size<=1000000:=Ic;clear hno h0 hk0;go_wp2_with (go_at_call 197;refine HI.mono ?_;rintro e w1 ⟨rfl,hb1⟩;have c1:=(hRd.out.keep hb1).c0;obtain⟨c1,f1⟩:=c1)
        have hF1:=hF.out.1;have hF2:∀q∈ps,q.text.size<=1000000:=fun q hq=>Tb;have HAdd:=Bd w.heap.size rest ps (rest.extract 0 k) w1 (hRd.out.keep hb1) zb hF2 hz
        with_reducible refine HAdd.mono ?_
        rintro e w2 ⟨rfl,hR2,hB2⟩;obtain⟨c2,f2⟩:=hR2.c0;have hlt2:=hR2.lt;have hR3:=za (hR2.cut (rest.extract k rest.size));have hB3:=za (((hBl.out.trans (hb1.mono (X3 hlt))).trans hB2).setCell (p:=⟨w.heap.size,0,none⟩) zo (.string (rest.extract k rest.size)));clear hb1 hR2 hB2 hF2;go_wp2_with fail
        have hsz:(rest.extract k rest.size).size=rest.size - k:=Ic;have hdr:L (rest.extract k rest.size)=(L rest).drop k:=Mw;go_roundg (gk - 1)
        case measure=>omega
        case rel=>
         refine⟨rest.extract k rest.size,Zq ps (Zd (rest.extract 0 k)),zb,zb,hR3.out,hB3.out,?_,?_,?_⟩
         · exact hF.out.add hrz (p:=Zd (rest.extract 0 k)) (by rw[show(Zd (rest.extract 0 k)).text.size=(rest.extract 0 k).size from rfl,hsz,IY];omega) zb
         · have:=HRun.out k hkp zb HNo.out;show _=_;rw[this,hsz,hdr]
         · exact fun c hc=>hAs.out c (List.mem_of_mem_drop (hdr▸hc))
def Z7(p:Pc):Value:=.agg #[.int .i64 p.kind,.string p.text,.int .i64 p.word,.bool p.more]
end
section
open Go.RowKit
structure Vs where
 kernel:ByteArray
 devpath:ByteArray
 id:ByteArray
 driver:ByteArray
 parent:ByteArray
 name:ByteArray
 result:ByteArray
 attrs:ZJ
 above:ZJ
 env:ZJ
def ZJ.v(x:ZJ):Value:=.slice x.A x.l.length x.c
def ZR(v:Vs):Value:=.agg #[.string v.kernel,.string v.devpath,.string v.id,.string v.driver,.string v.parent,.string v.name,.string v.result,v.attrs.v,v.above.v,v.env.v]
structure Vu(w:World)(B:Nat)(v:Vs):Prop where
 attrs:zr w B v.attrs.A 2 v.attrs.l.length (cellsOf zw v.attrs.l)
 above:zr w B v.above.A 2 v.above.l.length (cellsOf zw v.above.l)
 env:zr w B v.env.A 2 v.env.l.length (cellsOf zw v.env.l)
 la:v.attrs.l.length<=1000000000
 lb:v.above.l.length<=1000000000
 le:v.env.l.length<=1000000000
theorem Vu.keep{w w':World}{B:Nat}{v:Vs}(h:Vu w B v)(hb:Below B w w'):Vu w' B v:=⟨h.attrs.keep hb,h.above.keep hb,h.env.keep hb,h.la,h.lb,h.le⟩
theorem Vu.more{w:World}{B B':Nat}{v:Vs}(h:Vu w B v)(hB:B<=B'):Vu w B' v:=⟨h.attrs.more hB,h.above.more hB,h.env.more hB,h.la,h.lb,h.le⟩
def XM(t:ByteArray)(w:World)(e:Ending)(w':World):Prop:=e=.returned (.string t)/\Below w.heap.size w w'
theorem ziZ(p:Pc)(v:Vs)(w:World):
 Calls prog 200 #[Z7 p,ZR v] w (XM p.text w):=by
 unfold Z7 ZR ZJ.v;go_enter func200,ntmps200;exact Kk
theorem zdZ(p:Pc)(v:Vs)(w:World):
 Calls prog 201 #[Z7 p,ZR v] w (XM v.kernel w):=by
 unfold Z7 ZR ZJ.v;go_enter func201,ntmps201;exact Kk
theorem zhQ(p:Pc)(v:Vs)(w:World):
 Calls prog 204 #[Z7 p,ZR v] w (XM v.devpath w):=by
 unfold Z7 ZR ZJ.v;go_enter func204,ntmps204;exact Kk
theorem zj4(p:Pc)(v:Vs)(w:World):
 Calls prog 205 #[Z7 p,ZR v] w (XM v.id w):=by
 unfold Z7 ZR ZJ.v;go_enter func205,ntmps205;exact Kk
theorem zi5(p:Pc)(v:Vs)(w:World):
 Calls prog 206 #[Z7 p,ZR v] w (XM v.driver w):=by
 unfold Z7 ZR ZJ.v;go_enter func206,ntmps206;exact Kk
theorem zfT(p:Pc)(v:Vs)(w:World):
 Calls prog 211 #[Z7 p,ZR v] w (XM v.parent w):=by
 unfold Z7 ZR ZJ.v;go_enter func211,ntmps211;exact Kk
theorem zjb(p:Pc)(v:Vs)(w:World):
 Calls prog 212 #[Z7 p,ZR v] w (XM v.name w):=by
 unfold Z7 ZR ZJ.v;go_enter func212,ntmps212;exact Kk
theorem ziw(p:Pc)(v:Vs)(w:World)(hk:v.kernel.size<=9223372036854775807):
 Calls prog 202 #[Z7 p,ZR v] w (XM (bs (KQ (L v.kernel))) w):=by
 have HN:=fun W=>zdS v.kernel W hk;unfold Z7 ZR ZJ.v;go_enter func202,ntmps202;go_wp2_with (go_at_call 203;refine(HN _).mono ?_;rintro e w' ⟨rfl,hb⟩)
 go_ret;exact⟨rfl,(((Below.refl w.heap.size w).alloc zo _).alloc zl _).trans (hb.mono zK)⟩
theorem zgz(p:Pc)(v:Vs)(w:World)(h:Vu w w.heap.size v):
 Calls prog 207 #[Z7 p,ZR v] w (XM (Xx [v.attrs,v.above] (L p.text)) w):=by
 have HF:=fun(g off c:Nat) (W:World) (hb:Below w.heap.size w W) (hg:g<W.heap.size) ho=>LM g off c [v.attrs,v.above] p.text W hg ho (fun x hx=>by
  have hs:=hb.size;simp only[List.mem_cons,List.not_mem_nil,or_false]at hx;rcases hx with rfl|rfl
  · exact⟨(h.attrs.keep hb).more hs,by have:=h.la;omega⟩
  · exact⟨(h.above.keep hb).more hs,by have:=h.lb;omega⟩) zl
 unfold Z7 ZR ZJ.v;have HH:=za h;clear h;go_enter func207,ntmps207;go_wp2_with fail
 have e1:∀(W:World) (o:Obj),(W.alloc o).heap.size=W.heap.size+1:=fun W o=>zl;refine(HF (w.heap.size+1+1) 0 2 _ ((((Below.refl w.heap.size w).alloc zo _).alloc zl _).alloc zK _) zl ?_).mono ?_
 · have hblk:=i5 ((w.alloc (.cells #[.int .i64 p.kind,.string p.text,.int .i64 p.word,.bool p.more] 243)).alloc (.cells #[.string v.kernel,.string v.devpath,.string v.id,.string v.driver,.string v.parent,.string v.name,.string v.result,.slice v.attrs.A v.attrs.l.length v.attrs.c,.slice v.above.A v.above.l.length v.above.c,.slice v.env.A v.env.l.length v.env.c] 195)) (.cells #[.slice v.attrs.A v.attrs.l.length v.attrs.c,.slice v.above.A v.above.l.length v.above.c] 31);rw[e1,e1]at hblk;intro i x hx;rw[zk4,cell_of_row _ _ i _ _ _ hblk];rcases i with _|_|i
   · simp at hx;subst hx;rfl
   · simp at hx;subst hx;rfl
   · simp at hx
 · exact AJ
theorem ze2(p:Pc)(v:Vs)(w:World)(h:Vu w w.heap.size v):
 Calls prog 209 #[Z7 p,ZR v] w (XM (Xx [v.env] (L p.text)) w):=by
 have HF:=fun(g off c:Nat) (W:World) (hb:Below w.heap.size w W) (hg:g<W.heap.size) ho=>LM g off c [v.env] p.text W hg ho (fun x hx=>by
  have hs:=hb.size;simp only[List.mem_cons,List.not_mem_nil,or_false]at hx;subst hx;exact⟨(h.env.keep hb).more hs,by have:=h.le;omega⟩) zl
 unfold Z7 ZR ZJ.v;have HH:=za h;clear h;go_enter func209,ntmps209;go_wp2_with fail
 have e1:∀(W:World) (o:Obj),(W.alloc o).heap.size=W.heap.size+1:=fun W o=>zl;refine(HF (w.heap.size+1+1) 0 1 _ ((((Below.refl w.heap.size w).alloc zo _).alloc zl _).alloc zK _) zl ?_).mono ?_
 · have hblk:=i5 ((w.alloc (.cells #[.int .i64 p.kind,.string p.text,.int .i64 p.word,.bool p.more] 243)).alloc (.cells #[.string v.kernel,.string v.devpath,.string v.id,.string v.driver,.string v.parent,.string v.name,.string v.result,.slice v.attrs.A v.attrs.l.length v.attrs.c,.slice v.above.A v.above.l.length v.above.c,.slice v.env.A v.env.l.length v.env.c] 195)) (.cells #[.slice v.env.A v.env.l.length v.env.c] 31);rw[e1,e1]at hblk;intro i x hx;rw[zk4,cell_of_row _ _ i _ _ _ hblk];rcases i with _|i
   · simp at hx;subst hx;rfl
   · simp at hx
 · exact AJ
end
section
open Go.RowKit Go.Shelf
attribute [local go_sem] Oper.semAt_some
def Yq(s:ze):ze:=Lib.trimLeftB s 32
def Q4:Nat->ze->List ze
 |0,_=>[]
 |n+1,t=>if t.isEmpty then []else(Lib.cut t [32]).1::Q4 n (Yq (Lib.cut t [32]).2.1)
def Y6(s:ze):List ze:=Q4 s.length (Yq s)
theorem kW(s:ze):(Yq s).length<=s.length:=(List.dropWhile_sublist _).length_le
theorem Mb(t:ze)(h:t≠[]):(Lib.cut t [32]).2.1.length<t.length:=by
 unfold Lib.cut;have:0<t.length:=List.length_pos_iff.2 h
 split
 · dsimp only;rw[W8];simp;omega
 · exact this
theorem zaS:∀(n m:Nat) (t:ze),t.length<=n->t.length<=m->Q4 n t=Q4 m t:=by
 intro n;induction n with
 | zero=>
   intro m t h1 h2;have:t=[]:=List.length_eq_zero_iff.1 zb;subst this;cases m<;>rfl
 | succ n ih=>
   intro m t h1 h2;by_cases h:t=[]
   · subst h;cases m<;>rfl
   · cases m with
     |zero=>exact absurd (List.length_eq_zero_iff.1 zb) h
     | succ m=>
       rw[Q4,Q4];have h3:=Mb t h;have h4:=kW (Lib.cut t [32]).2.1;rw[ih m _ zb zb]
theorem zkY(n:Nat)(t:ze)(h:t≠[])(hn:t.length<=n):Q4 n t=(Lib.cut t [32]).1::Q4 n (Yq (Lib.cut t [32]).2.1):=by
 cases n with
 |zero=>exact absurd (List.length_eq_zero_iff.1 zb) h
 | succ n=>
   have h3:=Mb t h;have h4:=kW (Lib.cut t [32]).2.1;rw[Q4,if_neg XI,zaS n (n+1) _ zb zb]
def jz(w:World)(b:Nat):Nat:=match w.cell? ⟨b,0,none⟩with
 |some (.string s)=>s.size
 |_=>0
theorem Lf{w:World}{b:Nat}{s:ByteArray}(h:w.cell? ⟨b,0,none⟩=some (.string s)):jz w b=s.size:=by
 unfold jz;rw[h]
theorem CM(s:ByteArray)(w:World):Calls prog 264 #[.string s,.string ⟨#[32]⟩] w fun e w'=>e=.returned (.string (bs (Yq (L s))))/\w=w':=(strings_TrimLeft_one s 32 zi w).mono fun e w' h=>⟨h.1,h.2.symm⟩
theorem zco(n l Bn:Nat)(s:ByteArray)(hs:s.size<=4294967)(J:List ByteArray->World->Prop)
 (hJn:∀pre A B,J pre A->A.grownBy B none->J pre B)(hJb:∀pre A v,J pre A->J pre (A.setCell ⟨Bn,0,none⟩ v))(hJE:∀pre A,J pre A->Env A/\Bn<A.heap.size)
 (hY:∀pre x W1,J pre W1->pre.length<s.size->x.size<=s.size->YieldAt Fence.wide (n - 1) prog l #[.string x] W1 fun e W'=>e=.returned (.bool true)/\J (pre++[x]) W'/\W'.heap[Bn]? =W1.heap[Bn]?)
 (W:World)(hB:Boxed W Bn 9 (.string s))(h0:J [] W):
 CallsIn Fence.wide n prog 269 #[.func (.yield l) #[] #[],.pointer (some ⟨Bn,0,none⟩)] W fun e W'=>(∃v,e=.returned v)/\J ((Y6 (L s)).map bs) W':=by
 refine callsIn_of_wp func269 rfl trivial ?_ rfl;have c0:=hB.cell;have f0:=hB.frozen;have HB:=za hB;have H0:=za h0;clear hB h0;simp only[ntmps269,List.size_toArray,u0,List.length_nil,Nat.reduceAdd,Nat.reduceSub,Array.replicate_succ,Array.replicate_zero,List.push_toArray,List.append_toArray,zk8,List.cons_append]
 gi_wp2_with (refine⟨trivial,(fun h=>qI),?_⟩;gi_at_call 264;refine(callsIn_wide.2 (CM _ _)).mono ?_;rintro e w2 ⟨rfl,rfl⟩)
 have hB1:Boxed (W.setCell ⟨Bn,0,none⟩ (.string (bs (Yq (L s))))) Bn 9 (.string (bs (Yq (L s)))):=HB.out.set _;have hJ1:=hJb [] W (.string (bs (Yq (L s)))) H0.out;have HJ1:=za hJ1;have HB1:=za hB1;have ht:=kW (L s);rw[zF]at ht;have HJn:=za hJn;have HJb:=za hJb;have HJE:=za hJE;have HY:=za hY;clear hB1 hJ1 hJn hJb hJE hY c0 f0
 gi_loopw [4] (fun u wr=>∃(pre:List ze) (t:ze),Hid (Y6 (L s)=pre++Q4 s.size t)/\pre.length+t.length<=s.size/\Hid (J (pre.map bs) wr)/\Hid (Boxed wr Bn 9 (.string (bs t)))) (fun u wr=>jz wr Bn)
 case atStart=>exact⟨[],Yq (L s),(by show Y6 (L s)=_;rw[Y6,zF];rfl),by simpa using ht,HJ1.out,HB1.out⟩
 case round=>
  obtain⟨pre,t,hw,hl,hJ,hBx⟩:=hrel;have c1:=hBx.out.cell;have f1:=hBx.out.frozen;have hlt:=hBx.out.lt;by_cases h0:t=[]
  · subst h0;have he:(bs []).toList.isEmpty=true:=by rw[tl,qz];rfl
    gi_wp2
    go_end0
    refine⟨⟨_,rfl⟩,?_⟩;rw[hw.out];have:Q4 s.size []=[]:=by cases s.size<;>rfl
    rw[this,zk7];exact hJ.out
  · have he:(bs t).toList.isEmpty=false:=by rw[tl,qz];simpa using h0
    have hz:(bs t).size<4294967281:=Ma;have hpos:0<t.length:=List.length_pos_iff.2 h0;have HC:=RP (bs t) ⟨#[32]⟩ wr (HJE.out _ _ hJ.out).1 hz;rw[qz]at HC;change Calls _ _ _ _ (fun e w'=>e=.returned (.tuple #[.string (bs (Lib.cut t [32]).1),.string (bs (Lib.cut t [32]).2.1),.bool (Lib.cut t [32]).2.2])/\∃n,wr.drewN n=w')at HC;have hc1:=(P0 t [32]).1;have hc2:=Mb t h0;have hwc:Y6 (L s)=(pre++[(Lib.cut t [32]).1])++Q4 s.size (Yq (Lib.cut t [32]).2.1):=by
     rw[hw.out,zkY _ t h0 zb,zk9];rfl
    have hm:=Lf c1;rw[Zg]at hm;generalize (Lib.cut t [32]).1=a1 at*;generalize (Lib.cut t [32]).2.1=a2 at*;generalize (Lib.cut t [32]).2.2=a3 at*;have HW:=za hwc;have HM:=za hm;clear hwc hm h0;have e1:(bs a1).size<=s.size:=Ma
    gi_wp2_with (first|(refine⟨trivial,(fun h=>qI),?_⟩;gi_at_call 154;refine(callsIn_wide.2 HC).mono ?_;rintro e w2 ⟨rfl,m,rfl⟩;have hyy:=HY.out (pre.map bs) (bs a1) (wr.drewN m) (HJn.out _ _ _ hJ.out (Y2 _ _ _)) zK e1;obtain⟨fn,tmps,assign,body,hy,hR⟩:=hyy))
    refine⟨(fun h=>qI),hR.mono ?_⟩;rintro e W3 ⟨rfl,hJ3,hb3⟩;have hB3:Boxed W3 Bn 9 (.string (bs t)):=hb3.trans hBx.out;have hB4:=hB3.set (.string (bs a2));have c3:=hB3.cell;have f3:=hB3.frozen;have hJ4:=HJb.out _ _ (.string (bs a2)) hJ3;have hlt3:=hB3.lt;have HB4:=za hB4;have HJ4:=za hJ4;clear hB3 hB4 hJ4 hJ3 hb3 hy hR
    gi_wp2_with (first|(refine⟨trivial,(fun h=>qI),?_⟩;gi_at_call 264;refine(callsIn_wide.2 (CM _ _)).mono ?_;rintro e w2 ⟨rfl,rfl⟩))
    have hB5:=HB4.out.set (.string (bs (Yq (L (bs a2)))));have hJ5:=HJb.out _ _ (.string (bs (Yq (L (bs a2))))) HJ4.out;have ht2:=kW a2
    go_roundw
    case rel=>
     refine⟨pre++[a1],Yq a2,HW.out,zK,?_,?_⟩
     · rw[qz]at hJ5⊢;show J _ _;rw[List.map_append];exact hJ5
     · rw[qz]at hB5⊢;exact hB5
    case measure=>
     rw[Lf hB5.cell,HM.out,Zg,qz];omega
end
section
open Go.RowKit Go.Shelf
def Ej(Bn:Nat)(W W':World):Prop:=W'.heap[Bn]? =W.heap[Bn]?
theorem zcB{g:Operand}{ps:Array Tmp}{assign body:Code}{Q:Exit->Act->World->Prop}{a:Act}{w:World}(n Bn:Nat)(s:ByteArray)(hs:s.size<=4294967)
 (hg:a.eval g=.func (.func 269) #[] #[.pointer (some ⟨Bn,0,none⟩)])(hps:ps.size=1)(hB:Boxed w Bn 9 (.string s))
 (I:List ByteArray->World->Prop)(hI:OwnFrom w.heap.size I)(hIb:∀pre A v,I pre A->I pre (A.setCell ⟨Bn,0,none⟩ v))(hIE:∀pre A,I pre A->Env A)(h0:I [] w)(a₁:ByteArray->Act)
 (hassign:∀(l:Nat) (x:ByteArray) (W:World) (K:Act->World->Prop),K (a₁ x) W ->
   assign.wpIn (Fence.wide.inRound l) (n - 1 - 1) prog (Exit.then K (fun _ _ _=>False)) {tmps:=(ps.zip #[.string x]).foldl (fun t (p,v)=>t.setIfInBounds p v) a.tmps,defers:=[]} W)
 (hbody:∀(l:Nat) (pre:List ByteArray) (x:ByteArray) (W:World),I pre W->pre.length<s.size->x.size<=s.size->Bn<W.heap.size->body.wpIn (Fence.wide.inRound l) (n - 1 - 1) prog (ownPostK (Ej Bn) I (fun _ _ _=>False) (pre++[x]) W) (a₁ x) W)
 (hdone:∀(W:World),I ((Y6 (L s)).map bs) W->W.heap[w.heap.size]? =some (.deferred (some []))->Q .normal {a with defers:={target:=.collected w.heap.size,args:=#[]}::a.defers} W):
 (Code.rangeFunc g ps assign body).wpIn Fence.wide n prog Q a w:=by
 have hBn:=hB.lt;refine wpIn_rangeFunc ?_;intro fn hfn;obtain⟨rec,hrec⟩:∃rec:LoopState->Option Code->Loop,rec=fun st pe=>{state:=st,pending:=pe,fn,tmps:=a.tmps,params:=ps,assign,body,defers:=w.heap.size}:=⟨_,rfl⟩;obtain⟨W1,hW1⟩:∃W1,(w.alloc (.deferred (some []))).alloc (.loop (rec .ready none))=W1:=⟨_,rfl⟩;have hL1:W1.heap[w.heap.size+1]? =some (.loop (rec .ready none)):=E0;have hK1:W1.heap[w.heap.size]? =some (.deferred (some [])):=vH;have hI1:I [] W1:=vR;have hBx1:Boxed W1 Bn 9 (.string s):=LI;refine⟨w.heap.size+1,[{target:=.collected w.heap.size,args:=#[]}],W1,{target:=.fn (.func 269) #[.pointer (some ⟨Bn,0,none⟩)],args:=#[.func (.yield (w.heap.size+1)) #[] #[]]},W1,269,
  #[.func (.yield (w.heap.size+1)) #[] #[]]++#[.pointer (some ⟨Bn,0,none⟩)],W1,?_,?_,?_,?_,(fun h=>qI),?_⟩
 · rw[<-hW1,hrec];exact run_enterLoop_outer _ _ _ _ _
 · simp only[resolve,hg];simp[go_sem]
 · intro f' hf';trivial
 · have eg:=enters_of func269 zg rfl;simp[invoke,go_sem]
 · refine(zco (n - 1) (w.heap.size+1) Bn s hs
    (fun pre W=>I pre W/\W.heap[w.heap.size+1]? =some (.loop (rec .ready none))/\W.heap[w.heap.size]? =some (.deferred (some [])))
    (fun pre A B h hgr=>⟨hI pre A B none h.1 hgr (fun r e=>ZK),(hgr.block _ (Array.getElem?_eq_some_iff.1 h.2.1).1 zl).trans h.2.1,(hgr.block _ (Array.getElem?_eq_some_iff.1 h.2.2).1 zl).trans h.2.2⟩)
    (fun pre A v h=>⟨hIb pre A v h.1,(heap_setCell_other _ _ _ _ zK).trans h.2.1,(heap_setCell_other _ _ _ _ zK).trans h.2.2⟩)
    (fun pre A h=>⟨hIE pre A h.1,by have:=(Array.getElem?_eq_some_iff.1 h.2.2).1;omega⟩)
    ?_ W1 hBx1 ⟨hI1,hL1,hK1⟩).mono ?_
   · rintro pre x W ⟨hi,hl,hk⟩ hlen hx;have hlt:w.heap.size+1<W.heap.size:=(Array.getElem?_eq_some_iff.1 hl).1;have hy:=run_yield (P:=prog) (args:=#[.string x]) hl (by rw[hrec];exact hps.symm);rw[hrec]at hy;refine⟨fn,_,assign,body,hy,roundIn_of_wpIn hfn (hassign _ x W _ ⟨_,run_beginRound hl (by rw[hrec]),?_⟩)⟩;have hl2:(W.putObj (w.heap.size+1) (.loop {rec .ready none with state:=.busy})).heap[w.heap.size+1]? =some (.loop {rec .ready none with state:=.busy}):=World.putObj_heap_same hlt;have hk2:(W.putObj (w.heap.size+1) (.loop {rec .ready none with state:=.busy})).heap[w.heap.size]? =some (.deferred (some [])):=(World.putObj_heap_other zb).trans hk;have hb2:(W.putObj (w.heap.size+1) (.loop {rec .ready none with state:=.busy})).heap[Bn]? =W.heap[Bn]?:=World.putObj_heap_other zb;refine wpIn_mono (hbody _ pre x _ (hI.putObj _ hi zb hl rfl) hlen hx (i4 (show Bn<W.heap.size by omega) (grownBy_putObj' _ _ _).size)) ?_;rintro e a3 W3 hp;cases e with
     | normal=>
       obtain⟨hk3,hkp3,hi3⟩:=hp;have hl3:=hk3.same _ _ hl2 rfl;have hr:=run_endRound (P:=prog) none hl3;rw[hrec]at hr hl3;refine⟨_,_,hr,rfl,⟨hI.putObj _ hi3 zb hl3 rfl,?_,?_⟩,?_⟩
       · exact C3
       · exact Cf
       · exact(World.putObj_heap_other zb).trans (hkp3.trans hb2)
     |ret=>exact hp.2.elim
     |exit id=>exact hp.2.elim
     |goto t=>exact hp.2.elim
     |panic ch=>exact hp.elim
     |outgrown=>exact hp.elim
   · rintro e W2 ⟨⟨v,rfl⟩,hi,hl,hk⟩;exact⟨none,_,Hy,hdone _ (hI.putObj _ hi zb hl rfl) ((World.putObj_heap_other zb).trans hk)⟩
end
section
open Go.RowKit Go.Shelf
attribute [local go_sem] Oper.semAt_some
def qU{α:Type}(k:Nat)(more:Bool)(l:List α):List α:=if more then l.drop (k - 1)else(l.drop (k - 1)).take 1
theorem zfG{α:Type}(k:Nat)(hk:1<=k)(more:Bool)(l:List α)(x:α):qU k more (l++[x])=if l.length+1=k∨(k<l.length+1/\more=true)then qU k more l++[x]else qU k more l:=by
 have hd:(l++[x]).drop (k - 1)=if k<=l.length+1 then l.drop (k - 1)++[x]else []:=by
  rw[zl9];by_cases h:k<=l.length+1
  · rw[if_pos h,show k - 1 - l.length=0 from by omega];rfl
  · rw[if_neg h,List.drop_of_length_le zb,List.drop_of_length_le zK];rfl
 have hl:(l.drop (k - 1)).length=l.length - (k - 1):=W8;cases more
 · simp only[qU,zd3,if_false,and_false,or_false];rw[hd];rcases Nat.lt_trichotomy (l.length+1) k with h|h|h
   · rw[if_neg zb,if_neg zb,List.drop_of_length_le zb];
   · rw[if_pos zb,if_pos h,List.drop_of_length_le zb];rfl
   · rw[if_pos zb,if_neg zb,List.take_append,hl,show 1 - (l.length - (k - 1))=0 from by omega];simp
 · simp only[qU,if_true,and_true];rw[hd];by_cases h:k<=l.length+1
   · rw[if_pos h,if_pos zb]
   · rw[if_neg h,if_neg zb,List.drop_of_length_le zb]
theorem NV{α:Type}(k:Nat)(more:Bool)(l:List α):(qU k more l).length<=l.length:=by
 unfold qU;split
 · rw[W8];omega
 · rw[W9,W8];omega
theorem ziI:∀(n:Nat) (t:ze),(Q4 n t).length<=t.length/\∀x∈Q4 n t,x.length<=t.length:=by
 intro n;induction n with
 |zero=>intro t;exact⟨X1 _,fun x h=>qI⟩
 | succ n ih=>
   intro t;by_cases h:t=[]
   · subst h;exact⟨X1 _,fun x h=>qI⟩
   · rw[Q4,if_neg XI];have h1:=Mb t h;have h2:=(P0 t [32]).1;have h3:=kW (Lib.cut t [32]).2.1;have h4:=ih (Yq (Lib.cut t [32]).2.1);refine⟨GX,fun x hx=>?_⟩;rcases List.mem_cons.1 hx with rfl|hx
     · exact h2
     · have:=h4.2 x hx;omega
theorem zfg(s:ze):(Y6 s).length<=s.length/\∀x∈Y6 s,x.length<=s.length:=by
 have h:=ziI s.length (Yq s);have h2:=kW s;exact⟨by unfold Y6;omega,fun x hx=>by have:=h.2 x hx;omega⟩
def kF(k:Nat)(more:Bool)(r:ze):ze:=if k=0 then r else Lib.join (qU k more (Y6 r)) [32]
def KL(B:Nat)(w:World)(k:Nat)(more:Bool)(p1 p2:Array Value)(pre:List ByteArray)(W:World):Prop:=
 W.heap[B]? =some (.cells p1 243 (0,0))/\W.heap[B+1]? =some (.cells p2 195 (0,0))/\Boxed W (B+3) 3 (.int .i64 pre.length) /\
 (∃v,Boxed W (B+2) 32 v/\W.ownsRow (B+5) 9 1 v (qU k more pre).length ((qU k more pre).map Value.string))/\Below B w W
theorem Ti(w:World)(o1 o2 o3 o4 o5:Obj):(((((w.alloc o1).alloc o2).alloc o3).alloc o4).alloc o5).heap.size=w.heap.size+5 /\
 (((((w.alloc o1).alloc o2).alloc o3).alloc o4).alloc o5).heap[w.heap.size]? =some o1/\(((((w.alloc o1).alloc o2).alloc o3).alloc o4).alloc o5).heap[w.heap.size+1]? =some o2 /\
 (((((w.alloc o1).alloc o2).alloc o3).alloc o4).alloc o5).heap[w.heap.size+2]? =some o3/\(((((w.alloc o1).alloc o2).alloc o3).alloc o4).alloc o5).heap[w.heap.size+3]? =some o4 /\
 (((((w.alloc o1).alloc o2).alloc o3).alloc o4).alloc o5).heap[w.heap.size+4]? =some o5/\Below w.heap.size w (((((w.alloc o1).alloc o2).alloc o3).alloc o4).alloc o5):=by
 have hn:∀(W:World) (o:Obj) (k:Nat),k=W.heap.size->(W.alloc o).heap[k]? =some o:=fun W o k e=>by rw[e];exact World.alloc_heap_new W o
 have hs:∀(W:World) (o:Obj),(W.alloc o).heap.size=W.heap.size+1:=fun W o=>zl;have ho:∀(W:World) (o:Obj) (k:Nat),k<W.heap.size->(W.alloc o).heap[k]? =W.heap[k]?:=fun W o k h=>Below.heap_alloc W o k h;refine⟨JI,?_,?_,?_,?_,?_,?_⟩
 · rw[ho _ _ _ YB,ho _ _ _ YB,ho _ _ _ YB,ho _ _ _ YB];exact hn _ _ _ rfl
 · rw[ho _ _ _ YB,ho _ _ _ YB,ho _ _ _ YB];exact hn _ _ _ JI
 · rw[ho _ _ _ YB,ho _ _ _ YB];exact hn _ _ _ JI
 · exact Lc
 · exact hn _ _ _ JI
 · exact((((zj.alloc zo _).alloc YB _).alloc YB _).alloc YB _).alloc YB _
theorem NT{A W:World}{row:Option Nat}{b:Nat}{c:Array Value}{t:TypeId}(h:A.heap[b]? =some (.cells c t (0,0)))(hg:A.grownBy W row)(hr:∀r,row=some r->∃o:Obj,A.heap[r]? =some o/\o.isCells=false):W.heap[b]? =some (.cells c t (0,0)):=by
 rw[hg.block b (Array.getElem?_eq_some_iff.1 h).1 (fun e=>by
  obtain⟨o,ho,hc⟩:=hr b e.symm;rw[h]at ho;cases ho;cases hc)]
 exact h
theorem ziB(B:Nat)(w:World)(k:Nat)(more:Bool)(p1 p2:Array Value)(B0:Nat)(hB:B<=B0)(hw:B<=w.heap.size):OwnFrom B0 (KL B w k more p1 p2):=by
 intro s A W row hs hg hr;have hr':∀r,row=some r->∃o:Obj,A.heap[r]? =some o/\o.isCells=false:=fun r e=>(hr r e).2;obtain⟨h1,h2,h3,⟨v,h4,h5⟩,h6⟩:=hs;refine⟨NT h1 hg hr',NT h2 hg hr',NT h3 hg hr',⟨v,NT h4 hg hr',h5.kept hg ?_⟩,?_⟩
 · rcases h5.2 with⟨rfl,_⟩|⟨g,cap,cur,rfl,_,hgb,_⟩
   · left;rfl
   · right;intro e;obtain⟨o,ho,hc⟩:=hr' g (by simpa [Value.ownBlock]using e.symm);rw[hgb]at ho;cases ho;cases hc
 · exact h6.grown hg (i3 hw h6.size) (fun r e=>i3 hB (hr r e).1)
theorem zbX{α β:Type}(f:α->β)(k:Nat)(more:Bool)(l:List α):qU k more (l.map f)=(qU k more l).map f:=by
 cases more<;>simp[qU,List.map_drop,List.map_take]
theorem zh3{α:Type}{k:Nat}{more:Bool}{l:List α}{x:α}(h:x∈qU k more l):x∈l:=by
 cases more
 · exact List.mem_of_mem_drop (List.mem_of_mem_take (by simpa [qU]using h))
 · exact List.mem_of_mem_drop (by simpa [qU]using h)
theorem zhw(M:Nat)(l:List ze)(h:∀x∈l,x.length<=M):(Lib.join l [32]).length<=l.length*(M+1):=by
 induction l with
 |nil=>simp[Lib.join]
 | cons x l ih=>
   have h1:=h x zl;have h2:=ih (fun y hy=>h y (by simp[hy]));cases l with
   |nil=>simp[Lib.join]at h2⊢;omega
   | cons y l=>
     have hj:Lib.join (x::y::l) [32]=x++([32]++Lib.join (y::l) [32]):=Tl;exact Ao
theorem zcx(W:World)(base:Nat)(v:Value)(xs:List ze)(M:Nat)(hn:xs.length<=M)(hM:M<=4294967)(hx:∀x∈xs,x.length<=M)(h:W.ownsRow base 9 1 v xs.length ((xs.map bs).map Value.string)):
 Calls prog 65 #[v,.string ⟨#[32]⟩] W fun e w'=>e=.returned (.string (bs (Lib.join xs [32])))/\Below W.heap.size W w':=by
 have hjl:=zhw M xs hx;have hmul:xs.length*(M+1)<=140737488355328:=i3 (Nat.mul_le_mul hn (Nat.le_refl (M+1))) (i3 (Nat.mul_le_mul hM (Nat.succ_le_succ hM)) zi);cases xs with
 | nil=>
   rcases h.2 with⟨rfl,_⟩|⟨g,cap,cur,rfl,_⟩
   · exact(strings_Join_none none 0 ⟨#[32]⟩ W).mono fun e w' h=>⟨h.1,NE⟩
   · exact(strings_Join_none (some ⟨g,0,none⟩) cap ⟨#[32]⟩ W).mono fun e w' h=>⟨h.1,NE⟩
 | cons x xs=>
   have hl:(((x::xs).map bs).map (·.data.toList))=x::xs:=E7;rcases h.2 with⟨_,h0⟩|⟨g,cap,cur,rfl,hb,hgg,hroom,_,_,_⟩
   · simp at h0
   · have hc:∀(j:Nat) (y:ByteArray),((x::xs).map bs)[j]? =some y->W.cell? ⟨g,0+j,none⟩=some (.string y):=fun j y hy=>Et;have hJ:=strings_Join g 0 cap ((x::xs).map bs) ⟨#[32]⟩ W hc (Xc hgg) (by rw[W7];omega) Bs Di;rw[hl,W7]at hJ;exact hJ
theorem En{W:World}{b b':Nat}{e:TypeId}{n:Nat}{v:Value}{k:Nat}{xs:List Value}(h:W.ownsRow b e n v k xs)(hb:b'<=b):W.ownsRow b' e n v k xs:=by
 refine⟨h.1,?_⟩;rcases h.2 with h1|⟨g,cap,cur,e1,h2,h3⟩
 · exact .inl h1
 · exact .inr ⟨g,cap,cur,e1,zb,h3⟩
theorem EC{B:Nat}{w:World}{k:Nat}{more:Bool}{p1 p2:Array Value}{pre:List ByteArray}{x:ByteArray}{W:World}(h:KL B w k more p1 p2 pre W)(_hw:B<=w.heap.size)(hsel:qU k more (pre++[x])=qU k more pre):
 KL B w k more p1 p2 (pre++[x]) (W.setCell ⟨B+3,0,none⟩ (.int .i64 ((pre.length:Int)+1))):=by
 obtain⟨h1,h2,h3,⟨v',h4,h5⟩,h6⟩:=h;have hk:∀j,j≠B+3->(W.setCell ⟨B+3,0,none⟩ (.int .i64 ((pre.length:Int)+1))).heap[j]? =W.heap[j]?:=fun j hj=>heap_setCell_other _ _ _ _ hj;refine⟨(hk _ zb).trans h1,(hk _ zb).trans h2,?_,⟨v',(hk _ zb).trans h4,?_⟩,h6.setCell (p:=⟨B+3,0,none⟩) zl _⟩
 · have:=h3.set (.int .i64 ((pre.length:Int)+1));rw[r7];exact this
 · rw[hsel];exact ownsRow_setCell_other h5 (fun e=>S4) _
theorem vF{B:Nat}{w:World}{k:Nat}{more:Bool}{p1 p2:Array Value}{pre:List ByteArray}{x:ByteArray}{W w1:World}{v':Value}{tmp:Obj}(h:KL B w k more p1 p2 pre W)(hsel:qU k more (pre++[x])=qU k more pre++[x])
 {v0:Value}(hv0:Boxed W (B+2) 32 v0)(hlt:B+4<W.heap.size)
 (hown:w1.ownsRow (B+5) 9 1 v' ((qU k more pre).length+1) ((qU k more pre).map Value.string++[Value.string x]))
 (hg:((W.setCell ⟨B+3,0,none⟩ (.int .i64 ((pre.length:Int)+1))).alloc tmp).grownBy w1 v0.ownBlock):
 KL B w k more p1 p2 (pre++[x]) (w1.setCell ⟨B+2,0,none⟩ v')/\KeepsOthers W (w1.setCell ⟨B+2,0,none⟩ v')/\Ej (B+4) W (w1.setCell ⟨B+2,0,none⟩ v')/\Boxed w1 (B+2) 32 v0:=by
 obtain⟨h1,h2,h3,⟨vv,h4,h5⟩,h6⟩:=h;obtain rfl:vv=v0:=by
  have:=(show W.heap[B+2]? =_ from h4).symm.trans hv0;exact QN
 have hrow:∀j,vv.ownBlock=some j->B+5<=j:=fun j e=>(h5.lt j e).1;obtain⟨W2,hW2⟩:∃W2,W.setCell ⟨B+3,0,none⟩ (.int .i64 ((pre.length:Int)+1))=W2:=⟨_,rfl⟩;rw[hW2]at hg;have hs2:W2.heap.size=W.heap.size:=by rw[<-hW2];simp
 have hk2:∀j,j≠B+3->W2.heap[j]? =W.heap[j]?:=fun j hj=>by rw[<-hW2];exact heap_setCell_other _ _ _ _ hj
 have h32:Boxed W2 (B+3) 3 (.int .i64 ((pre.length:Int)+1)):=by rw[<-hW2];exact h3.set _
 have hk1:∀j,j<B+5->w1.heap[j]? =W2.heap[j]?:=fun j hj=>by
  rw[hg.block j zK (fun e=>by have:=hrow j e.symm;omega)];exact Below.heap_alloc _ _ _ zb
 have hk3:∀j,j≠B+2->(w1.setCell ⟨B+2,0,none⟩ v').heap[j]? =w1.heap[j]?:=fun j hj=>heap_setCell_other _ _ _ _ hj;have hb1:Boxed w1 (B+2) 32 vv:=(hk1 _ zb).trans ((hk2 _ zb).trans h4);have hrow2:W2.ownsRow (B+5) 9 1 vv (qU k more pre).length ((qU k more pre).map Value.string):=by
  rw[<-hW2];exact ownsRow_setCell_other h5 (fun e=>S4) _
 have hv2:Boxed W2 (B+2) 32 vv:=(hk2 _ zb).trans h4;obtain⟨_,_,_,hko,hbe⟩:=hv2.appended zi (En hrow2 (show B<=B+5 by omega)) zb zb (En hown (show B<=B+5 by omega)) hg;have hko2:KeepsOthers W W2:=by rw[<-hW2];exact KeepsOthers.setCell _ _ _
 refine⟨⟨?_,?_,?_,⟨v',hb1.set v',?_⟩,?_⟩,hko2.trans hko,?_,hb1⟩
 · rw[hk3 _ zb,hk1 _ zb,hk2 _ zb];exact h1
 · rw[hk3 _ zb,hk1 _ zb,hk2 _ zb];exact h2
 · rw[r7];exact(hk3 _ zb).trans ((hk1 _ zb).trans h32)
 · rw[hsel,r7,List.map_append];exact ownsRow_setCell_other hown (fun e=>by have h7:=(hown.lt _ e).1;dsimp only at h7;omega) _
 · have hb2:Below B w W2:=by rw[<-hW2];exact h6.setCell (p:=⟨B+3,0,none⟩) zl _
   exact hb2.trans hbe
 · show _=_;rw[hk3 _ zb,hk1 _ zb,hk2 _ zb]
theorem zke(k:Nat)(more:Bool)(p:Pc)(v:Vs)(w:World)(hE:Env w)(hk:k<=1000)(hp:p.word=k)(hm:p.more=more)(hr:v.result.size<=4294967):
 Calls prog 210 #[Z7 p,ZR v] w (XM (bs (kF k more (L v.result))) w):=by
 unfold Z7 ZR ZJ.v;rw[hp,hm];clear hp hm;rcases Nat.eq_zero_or_pos k with h0|h0
 · subst h0;have hb:bs (kF 0 more (L v.result))=v.result:=by rw[kF,if_pos rfl,Yl]
   rw[hb];clear hb;go_enter func210,ntmps210;exact Kk
 · have hk0:((k:Int)==0)=false:=by simp;omega
   refine(callsIn_wide (n:=3)).1 ?_;refine callsIn_of_wp_marks func210 rfl trivial ?_ rfl;simp only[ntmps210,List.size_toArray,u0,List.length_nil,Nat.reduceAdd,Nat.reduceSub,Array.replicate_succ,Array.replicate_zero,List.push_toArray,List.append_toArray,zk8,List.cons_append];have HWd:∀W:World,Calls prog 242 #[.string v.result] W fun e w'=>e=.returned (.func (.func 269) #[] #[.pointer (some ⟨W.heap.size,0,none⟩)])/\W.alloc (.cells #[.string v.result] 9)=w':=fun W=>by
    go_enter func242,ntmps242;exact kl
   gi_wp2_with (refine⟨trivial,?_⟩;gi_at_call 242;refine(callsIn_wide.2 (HWd _)).mono ?_;rintro e w' ⟨rfl,rfl⟩)
   refine zcB 3 (w.heap.size+1+1+1+1) v.result hr rfl rfl ?hBox (KL w.heap.size w k more #[.int .i64 p.kind,.string p.text,.int .i64 k,.bool more] #[.string v.kernel,.string v.devpath,.string v.id,.string v.driver,.string v.parent,.string v.name,.string v.result,.slice v.attrs.A v.attrs.l.length v.attrs.c,.slice v.above.A v.above.l.length v.above.c,.slice v.env.A v.env.l.length v.env.c]) ?hI ?hIb ?hIE ?h0 ?a1 ?assign ?body ?done
   case hBox=>exact(Ti w _ _ _ _ _).2.2.2.2.2.1
   case hI=>exact ziB _ _ _ _ _ _ _ (by rw[(Ti w _ _ _ _ _).1];omega) zo
   case hIE=>exact fun pre A h=>hE.keep h.2.2.2.2 hE.size
   case hIb=>
    rintro pre A x ⟨h1,h2,h3,⟨v',h4,h5⟩,h6⟩;have hk:∀j,j≠w.heap.size+4->(A.setCell ⟨w.heap.size+1+1+1+1,0,none⟩ x).heap[j]? =A.heap[j]?:=fun j hj=>heap_setCell_other _ _ _ _ zK;refine⟨(hk _ zb).trans h1,(hk _ zb).trans h2,(hk _ zb).trans h3,⟨v',(hk _ zb).trans h4,ownsRow_setCell_other h5 (fun e=>?_) _⟩,h6.setCell (p:=⟨w.heap.size+1+1+1+1,0,none⟩) zK _⟩;have h7:=(h5.lt _ e).1;dsimp only at h7;omega
   case h0=>
    obtain⟨_,h1,h2,h3,h4,_,h6⟩:=Ti w (.cells #[.int .i64 p.kind,.string p.text,.int .i64 k,.bool more] 243) (.cells #[.string v.kernel,.string v.devpath,.string v.id,.string v.driver,.string v.parent,.string v.name,.string v.result,.slice v.attrs.A v.attrs.l.length v.attrs.c,.slice v.above.A v.above.l.length v.above.c,.slice v.env.A v.env.l.length v.env.c] 195) (.cells #[.slice none 0 0] 32) (.cells #[.int .i64 0] 3) (.cells #[.string v.result] 9);have e:qU k more ([]:List ByteArray)=[]:=List.length_eq_zero_iff.1 (Nat.le_zero.1 (NV k more _));exact⟨h1,h2,h4,⟨.slice none 0 0,h3,by rw[e];exact⟨rfl,.inl ⟨rfl,rfl⟩⟩⟩,h6⟩
   case assign=>
    intro l x W K hK
    gi_wp2
    exact hK
   case body=>
    rintro l pre x W ⟨h1,h2,h3,⟨v',h4,h5⟩,h6⟩ hlen hx hlt;have q2:W.cell? ⟨w.heap.size,2,none⟩=some (.int .i64 k):=zd h1 rfl;have q3:W.cell? ⟨w.heap.size,3,none⟩=some (.bool more):=zd h1 rfl;have c6:W.cell? ⟨w.heap.size+1+1+1,0,none⟩=some (.int .i64 pre.length):=h3.cell;have f6:W.frozen? ⟨w.heap.size+1+1+1,0,none⟩=false:=h3.frozen;have c5:W.cell? ⟨w.heap.size+1+1,0,none⟩=some v':=h4.cell;have f5:W.frozen? ⟨w.heap.size+1+1,0,none⟩=false:=h4.frozen;have H1:=za h1;have H2:=za h2;have H3:=za h3;have H4:=za h4;have H5:=za h5;have H6:=za h6;have hs3:=zfG k h0 more pre x;have HI0:Hid (KL w.heap.size w k more _ _ pre W):=za ⟨h1,h2,h3,⟨v',h4,h5⟩,h6⟩;have HS3:=za hs3;have hsz:w.heap.size+4<W.heap.size:=zb;clear h1 h2 h3 h4 h5 h6 hs3;rcases Nat.lt_trichotomy (pre.length+1) k with hc|hc|hc
    · have t1:((pre.length:Int)+1==(k:Int))=false:=by simp;omega
      have t2:((pre.length:Int)+1<=(k:Int)):=zb
      gi_wp2
      exact⟨KeepsOthers.setCell _ _ _,heap_setCell_other _ _ _ _ zl,EC HI0.out zo (HS3.out.trans (if_neg zb))⟩
    · have t1:((pre.length:Int)+1==(k:Int))=true:=by simp;omega
      obtain⟨i0,hi0,hz0,hz1,hz2⟩:=info_parts D3;have hsel:qU k more (pre++[x])=qU k more pre++[x]:=HS3.out.trans (if_pos (.inl hc));have Hsel:=za hsel;have hln:=NV k more pre;have hv2:Boxed (W.setCell ⟨w.heap.size+1+1+1,0,none⟩ (.int .i64 ((pre.length:Int)+1))) (w.heap.size+1+1) 32 v':=(heap_setCell_other _ _ _ _ zl).trans H4.out;have c52:=hv2.cell;have hrow2:Hid ((W.setCell ⟨w.heap.size+1+1+1,0,none⟩ (.int .i64 ((pre.length:Int)+1))).ownsRow (w.heap.size+5) 9 1 v' (qU k more pre).length ((qU k more pre).map Value.string)):=za (ownsRow_setCell_other H5.out (fun e=>Cr) _);clear hsel hv2
      gi_wp2_with (gi_at_builtin;refine wpListIn_append_own _ rfl _ _ 32 rfl (w.heap.size+5) 9 i0 (.string ⟨#[]⟩) 1 16 underlying32 hi0 hz0 hz1 hz2 rfl zi _ _ _ rfl (hrow2.out.alloc _) ⟨W.heap.size,0,none⟩ 1 1 [.string x] rfl rfl SU qP ql zb zK ?_;intro v'' w1 hown' hgrow _;obtain⟨g',cap',rfl⟩:=ownsRow_succ hown';have hfin:=vF HI0.out Hsel.out H4.out zb hown' hgrow;obtain⟨hr1,hr2,hr3,hr4⟩:=hfin;have hc1:=hr4.cell;have hf1:=hr4.frozen;have HR1:=za hr1;have HR2:=za hr2;have HR3:=za hr3;clear hr1 hr2 hr3 hr4)
      exact⟨HR2.out,HR3.out,HR1.out⟩
    · have t1:((pre.length:Int)+1==(k:Int))=false:=by simp;omega
      have t2:((k:Int)<(pre.length:Int)+1):=zb;cases more
      · gi_wp2
        exact⟨KeepsOthers.setCell _ _ _,heap_setCell_other _ _ _ _ zl,EC HI0.out zo (HS3.out.trans (if_neg zK))⟩
      · obtain⟨i0,hi0,hz0,hz1,hz2⟩:=info_parts D3;have hsel:qU k true (pre++[x])=qU k true pre++[x]:=HS3.out.trans (if_pos (.inr ⟨hc,rfl⟩));have Hsel:=za hsel;have hln:=NV k true pre;have hv2:Boxed (W.setCell ⟨w.heap.size+1+1+1,0,none⟩ (.int .i64 ((pre.length:Int)+1))) (w.heap.size+1+1) 32 v':=(heap_setCell_other _ _ _ _ zl).trans H4.out;have c52:=hv2.cell;have hrow2:Hid ((W.setCell ⟨w.heap.size+1+1+1,0,none⟩ (.int .i64 ((pre.length:Int)+1))).ownsRow (w.heap.size+5) 9 1 v' (qU k true pre).length ((qU k true pre).map Value.string)):=za (ownsRow_setCell_other H5.out (fun e=>Cr) _);clear hsel hv2
        gi_wp2_with (gi_at_builtin;refine wpListIn_append_own _ rfl _ _ 32 rfl (w.heap.size+5) 9 i0 (.string ⟨#[]⟩) 1 16 underlying32 hi0 hz0 hz1 hz2 rfl zi _ _ _ rfl (hrow2.out.alloc _) ⟨W.heap.size,0,none⟩ 1 1 [.string x] rfl rfl SU qP ql zb zK ?_;intro v'' w1 hown' hgrow _;obtain⟨g',cap',rfl⟩:=ownsRow_succ hown';have hfin:=vF HI0.out Hsel.out H4.out zb hown' hgrow;obtain⟨hr1,hr2,hr3,hr4⟩:=hfin;have hc1:=hr4.cell;have hf1:=hr4.frozen;have HR1:=za hr1;have HR2:=za hr2;have HR3:=za hr3;clear hr1 hr2 hr3 hr4)
        exact⟨HR2.out,HR3.out,HR1.out⟩
   case done=>
    rintro W ⟨h1,h2,h3,⟨v',h4,h5⟩,h6⟩ hK;rw[zbX,W7]at h5;have hwl:=zfg (L v.result);rw[zF]at hwl;have hJ:=zcx W (w.heap.size+5) v' (qU k more (Y6 (L v.result))) v.result.size (by have:=NV k more (Y6 (L v.result));omega) hr (fun x hx=>hwl.2 x (zh3 hx)) h5;have c5:W.cell? ⟨w.heap.size+1+1,0,none⟩=some v':=h4.cell;have hres:bs (kF k more (L v.result))=bs (Lib.join (qU k more (Y6 (L v.result))) [32]):=by rw[kF,if_neg zb]
    have HRes:=za hres;simp only[World.size_alloc]at hK;have HK:=za hK;have H6:=za h6;clear h1 h2 h3 h4 h5 h6 hwl hres hK;generalize bs (Lib.join (qU k more (Y6 (L v.result))) [32])=res at*
    gi_wp2_with (refine⟨trivial,?_⟩;gi_at_call 65;refine(callsIn_wide.2 hJ).mono ?_;rintro e w9 ⟨rfl,hb9⟩)
    have hK9:=(hb9.block _ (Array.getElem?_eq_some_iff.1 HK.out).1).trans HK.out;refine⟨zl,.inl ⟨_,_,rfl,run_takeDeferred hK9,?_⟩⟩;refine⟨_,results_tmp rfl _ _ _,?_⟩;refine⟨Ts,?_⟩;have hW:Below w.heap.size w w9:=H6.out.trans (hb9.mono (by have:=H6.out.size;omega));exact hW.trans (belowK_b (w:=w) zo w9 _ _ _ zb hK9 rfl rfl)
end
section
open Go.RowKit
def YY(p:Pc)(v:Vs):ByteArray:=
 if p.kind=1 then p.text else if p.kind=2 then v.kernel else if p.kind=3 then bs (KQ (L v.kernel))else if p.kind=4 then v.devpath
 else if p.kind=5 then v.id else if p.kind=6 then v.driver else if p.kind=7 then Xx [v.attrs,v.above] (L p.text)else if p.kind=8 then Xx [v.env] (L p.text)
 else if p.kind=9 then bs (kF p.word.toNat p.more (L v.result))else if p.kind=10 then v.parent else v.name
def Ud(ps:List Pc)(v:Vs):ByteArray:=ps.foldl (fun a p=>a++YY p v) ⟨#[]⟩
theorem zau(ps:List Pc)(p:Pc)(v:Vs):Ud (ps++[p]) v=Ud ps v++YY p v:=by simp[Ud]
def Um(s:ze)(v:Vs):ByteArray×Int:=
 if(ZT s).2=0 then((Ud (ZT s).1 v).extract 0 256,0)else(⟨#[]⟩,(ZT s).2)
def Wf(q:Pc):Prop:=∃k m:Nat,q.kind=k/\1<=k/\k<12/\q.word=m/\m<=99
theorem Cc(t:ByteArray):Wf (Zd t):=⟨1,0,rfl,zb,zb,rfl,zb⟩
theorem zgn{k:Nat}{r r':ze}{p:Pc}(hk:k<12)(h:Va k r=some (p,r')):Wf p:=by
 unfold Va at h
 split at h
 · cases h
 rename_i h0
 split at h
 · cases hb:ZW r with
   |none=>rw[hb]at h;cases h
   | some ab=>
     rw[hb]at h;simp only[Option.bind_some]at h
     split at h
     · injection h with h;injection h with h1 h2;subst h1
       exact⟨7,0,rfl,zb,zb,rfl,zb⟩
     · cases h
 split at h
 · cases hb:ZW r with
   |none=>rw[hb]at h;cases h
   | some ab=>
     rw[hb]at h;simp only[Option.bind_some]at h
     split at h
     · injection h with h;injection h with h1 h2;subst h1
       exact⟨8,0,rfl,zb,zb,rfl,zb⟩
     · cases h
 split at h
 · cases hb:ZW r with
   |none=>rw[hb]at h;cases h
   | some ab=>
     rw[hb]at h;simp only[Option.bind_some]at h;cases hc:Xk ab.1 with
     |none=>rw[hc]at h;cases h
     | some nm=>
       rw[hc]at h;simp only[zd6]at h;injection h with h;injection h with h1 h2;subst h1
       unfold Xk at hc;cases hf:(List.range 100).find? (fun n=>decide (1<=n)&&Lib.decDigits n==Lib.trimSuffix ab.1 [43])with
       |none=>rw[hf]at hc;cases hc
       | some n=>
         rw[hf]at hc;injection hc with hc
         have:=List.mem_range.1 (List.mem_of_find?_eq_some hf);exact⟨9,n,rfl,zb,zb,by rw[<-hc],zb⟩
 · injection h with h;injection h with h1 h2;subst h1
   exact⟨k,0,rfl,zb,hk,rfl,zb⟩
theorem zbr{c:UInt8}{r r':ze}{p:Pc}(h:Z6 c r=some (p,r')):Wf p:=by
 unfold Z6 at h
 split at h
 · injection h with h;injection h with h1 h2;subst h1
   exact Cc _
 · exact zgn (SX _ _) h
theorem Lk{ps:List Pc}{p:Pc}(h:∀q∈ps,Wf q)(hp:Wf p):∀q∈Zq ps p,Wf q:=by
 unfold Zq
 split
 · rcases List.eq_nil_or_concat ps with h0|⟨l,q,h0⟩
   · subst h0;simp[KH]
   · rw[List.concat_eq_append]at h0;subst h0;rw[Jt];intro x hx;rcases List.mem_append.1 hx with hx|hx
     · exact h x J5
     · simp only[List.mem_singleton]at hx;subst hx;exact h q zl
 · intro x hx;rcases List.mem_append.1 hx with hx|hx
   · exact h x hx
   · simp only[List.mem_singleton]at hx;subst hx;exact hp
theorem zel:∀(n:Nat) (r:ze) (acc ps:List Pc),(∀q∈acc,Wf q)->Ya n r acc=some ps->∀q∈ps,Wf q:=by
 intro n;induction n with
 | zero=>
   intro r acc ps ha h;exact CU
 | succ n ih=>
   intro r acc ps ha h;cases r with
   |nil=>injection h with h;subst h;exact ha
   | cons c r=>
     rw[Ya]at h
     split at h
     · cases hp:Z6 c r with
       |none=>rw[hp]at h;cases h
       | some pr=>
         obtain⟨p,r'⟩:=pr;rw[hp]at h;exact ih _ _ _ (Lk ha (zbr hp)) h
     · exact ih _ _ _ (Lk ha (Cc _)) h
theorem zeo(s:ze):∀q∈(ZT s).1,Wf q:=by
 unfold ZT
 split
 · intro q hq;cases hq
 · split
   · cases h:kD s with
     |none=>intro q hq;cases hq
     |some ps=>exact zel _ _ _ _ (fun q hq=>by cases hq) h
   · intro q hq;cases hq
theorem za1:∀(n:Nat) (r:ze) (acc ps:List Pc),r.length<=256->kN r.length acc->Ya n r acc=some ps->kN 0 ps:=by
 intro n;induction n with
 | zero=>
   intro r acc ps hr ha h;exact CU
 | succ n ih=>
   intro r acc ps hr ha h;cases r with
   |nil=>injection h with h;subst h;exact ha
   | cons c r=>
     simp only[u0]at hr ha;rw[Ya]at h
     split at h
     · cases hp:Z6 c r with
       |none=>rw[hp]at h;cases h
       | some pr=>
         obtain⟨p,r'⟩:=pr;rw[hp]at h;have h1:=vV hp;have h2:=RG hp;exact ih _ _ _ zb (ha.add hr zb zb) h
     · exact ih _ _ _ zb (ha.add hr (p:=Zd (bs [c])) (by rw[show(Zd (bs [c])).text=bs [c]from rfl,Zg];simp;omega) zb) h
theorem Ss(s:ze):kN 0 (ZT s).1:=by
 have h0:kN 0 []:=⟨zl,fun q hq=>by cases hq⟩;unfold ZT
 split
 · exact h0
 · split
   · cases h:kD s with
     |none=>exact h0
     |some ps=>exact za1 _ _ _ _ zb ⟨zK,fun q hq=>by cases hq⟩ h
   · exact h0
end
section
structure Hp where
 cmd:ByteArray
 out:ByteArray
 fails:Bool
 ticks:Int
def Zh(l:List Hp)(lim calls:Int)(cmd:ByteArray):ByteArray×Int×Int:=
 if 16<=calls then(⟨#[]⟩,0,144)else match l.find? fun x=>zS (L x.cmd) (L cmd)with
  |none=>(⟨#[]⟩,0,143)
  |some x=>if lim<x.ticks then(⟨#[]⟩,lim,142)else if x.fails then(⟨#[]⟩,x.ticks,141)else(x.out,x.ticks,0)
def Jm(s:ByteArray):Option At:=if UA (Lib.cut (L s) [61]).1&& !(Lib.cut (L s) [61]).2.1.isEmpty then some ⟨bs (Lib.cut (L s) [61]).1,bs (Lib.cut (L s) [61]).2.1⟩else none
def YU(out:ByteArray):List At:=(Zk 59 out).filterMap Jm
structure QV where
 act:ByteArray
 tree:List Dd
 ix:Int
 par:List At
 hps:List Hp
 lim:Int
structure qp where
 i:QV
 dev:Dd
 org:ByteArray
 pnt:ByteArray
structure Ev where
 dr:Dr
 ab:Dd
 re:Bool
def NB(c:qp)(x:Ev):Vs:=⟨c.dev.og,c.org,x.ab.og,x.ab.dr,c.pnt,(if(L x.dr.nam).isEmpty then c.dev.og else x.dr.nam),x.dr.res,⟨none,0,c.dev.ats⟩,⟨none,0,x.ab.ats⟩,⟨none,0,x.dr.props⟩⟩
def Qp(c:qp)(x:Ev)(s:ByteArray):ByteArray:=(Um (L s) (NB c x)).1
def qN(c:qp)(x:Ev)(s:ByteArray):ByteArray×Int×Int:=Zh c.i.hps c.i.lim x.dr.calls (Qp c x s)
def QL(x:Ev)(t:Int):Ev:={x with dr:={x.dr with calls:=x.dr.calls+1,ticks:=x.dr.ticks+t}}
def RA:ze:=[112,114,111,103,114,97,109]
def P5:ze:=[112,97,114,101,110,116]
def TH:ze:=[98,117,105,108,116,105,110]
def Y5(x:Ev)(l:List At):Ev:={x with dr:=Uy x.dr l}
def Qh(c:qp)(x:Ev)(t:Tm):Ev×Bool:=
 if L t.name=RA then(Y5 (QL x (qN c x t.value).2.1) (YU (qN c x t.value).1),(qN c x t.value).2.2==0)
 else if L t.name=P5 then(if c.dev.pa=0 then(Y5 x [],false)else(Y5 x (c.i.par.filter fun p=>zS (L t.value) (L p.name)),true))
 else if L t.name=TH then(Y5 x (QM t.value c.i.tree c.i.ix),!(QM t.value c.i.tree c.i.ix).isEmpty)
 else(Y5 x [],false)
def za8(t:Tm)(d:Dd):Option ByteArray:=
 if t.key=2∨t.key=8 then some d.og else if t.key=3∨t.key=9 then some d.sb else if t.key=4∨t.key=10 then some d.dr else if t.key=5∨t.key=11 then some (qQ d.ats (L t.name))else none
def XN(t:Tm)(d:Dd):Bool:=qH t.op&&match za8 t d with
 |some v=>YN t v
 |none=>false
def Q1(l:List Tm)(ds:List Dd)(n:Int):Option Dd:=(zW ds n).find? fun x=> !(l.any fun t=>qT t&& !XN t x)
def JG(t:Tm)(act:ByteArray)(d:Dr):Bool:=qH t.op&&
 (if t.key=1 then YN t act else if t.key=6 then YN t (qQ d.props (L t.name))else if t.key=13 then YN t d.res else if t.key=7 then(d.tags.any fun s=>zS (L t.value) s)==(t.op==1)else false)
def qJ(c:qp)(l:List Tm)(x:Ev)(t:Tm):Ev×Bool:=
 if Z0 t then(x,XN t c.dev)
 else if qT t then(if x.re then(x,true)else match Q1 l c.i.tree c.i.ix with
  |some a=>({x with ab:=a,re:=true},true)
  |none=>({x with re:=true},false))
 else if t.key=12 then(let y:=QL x (qN c x t.value).2.1
  ({y with dr:={y.dr with res:=(qN c x t.value).1}},((qN c x t.value).2.2==0)==(t.op==1)))
 else if t.key=14 then((Qh c x t).1,(Qh c x t).2==(t.op==1))
 else(x,JG t c.i.act x.dr)
def Zw(c:qp)(l:List Tm):List Tm->Ev->Ev×Bool
 | [],x=>(x,true)
 |t::r,x=>if qH t.op then(if(qJ c l x t).2 then Zw c l r (qJ c l x t).1 else((qJ c l x t).1,false))else Zw c l r x
def Qa(c:qp)(x:Ev)(t:Tm):Ev:={x with dr:=Vh x.dr t (if t.key=22∨t.key=23∨t.key=24 then t.value else Qp c x t.value)}
def qw(c:qp)(x:Ev)(l:List Tm):Ev×Bool:=
 let y:=Zw c l l {x with ab:=c.dev,re:=false}
 if y.2 then((l.filter fun t=> !qH t.op).foldl (Qa c) y.1,true)else(y.1,false)
def QU(l:List Tm)(k:Int):Option ByteArray:=(l.find? fun t=>t.key==k).map (·.value)
def Qy(ls:List (List Tm))(at_:Nat)(l:List Tm):Nat:=match QU l 24 with
 |none=>at_+1
 |some tt=>match(ls.drop (at_+1)).findIdx? fun m=>match QU m 23 with
  |some x=>L x==L tt
  |none=>false with
  |some i=>at_+1+i
  |none=>at_+1
def qS(c:qp)(ls:List (List Tm)):Nat->Nat->Ev->List Int->Ev×List Int
 |0,_,x,held=>(x,held)
 | f+1,at_,x,held=>match ls[at_]? with
   |none=>(x,held)
   |some l=>if(qw c x l).2 then qS c ls f (Qy ls at_ l) (qw c x l).1 (held++[(at_:Int)])else qS c ls f (at_+1) (qw c x l).1 held
def pntS(l:List Dd)(d:Dd):ByteArray:=match zC l d.pa with
 |some p=>(QH p).getD ⟨#[]⟩
 |none=>⟨#[]⟩
def Ob(i:QV):Option qp:=(zC i.tree i.ix).map fun d=>⟨i,d,qK i.tree i.ix,pntS i.tree d⟩
def Q6(c:qp):Ev:=⟨RU (YG c.i.tree c.i.ix),⟨0,0,⟨#[]⟩,⟨#[]⟩,⟨#[]⟩,⟨#[]⟩,⟨#[]⟩,0,0,[]⟩,false⟩
def KU(i:QV)(ls:List (List Tm)):Option (Dr×List Int):=(Ob i).map fun c=>((qS c ls (ls.length+1) 0 (Q6 c) []).1.dr,(qS c ls (ls.length+1) 0 (Q6 c) []).2)
structure Rc where
 path:ByteArray
 ix:Int
 props:List At
 tags:List ze
 links:List ze
 run:List ze
 load:List ze
 nam:ByteArray
 prio:Int
 own:ByteArray
 grp:ByteArray
 mode:Int
def Ym(d:Dr)(x:Dd)(o:ByteArray):Rc:=
 let k:=(QH x).isSome
 ⟨o,x.ix,d.props,d.tags,(if k then d.links else []),d.run,d.load,(if x.kd=4 then d.nam else⟨#[]⟩),d.prio,(if k then d.own else⟨#[]⟩),(if k then d.grp else⟨#[]⟩),(if k then d.mode else 0)⟩
def U8(i:QV)(ls:List (List Tm)):Option (Rc×Int):=match zC i.tree i.ix,KU i ls with
 |some x,some (d,_)=>some (Ym d x (qK i.tree i.ix),d.ticks)
 |_,_=>none
end
section
open Go.RowKit
theorem zaD(c:UInt8)(t:ze):Lib.cut t [c]=(t.takeWhile (· !=c),(t.dropWhile (· !=c)).drop 1,t.contains c):=by
 induction t with
 |nil=>rfl
 | cons b l ih=>
   unfold Lib.cut at ih⊢;rw[zhM];by_cases hb:b=c
   · subst hb;simp
   · have hbc:(b==c)=false:=by simpa using hb
     have hbn:(b !=c)=true:=by simpa using hb
     have hcb:(c==b)=false:=by simpa using fun e=>hb e.symm
     rw[List.takeWhile_cons,List.dropWhile_cons,List.contains_cons,hbn,hbc,hcb];simp only[zd3,if_false,if_true,Bool.false_or];have hge:=Lib.index_ge l [c];by_cases hm:Lib.index l [c]= -1
     · rw[hm]at ih⊢;simp only[beq_self_eq_true,if_true,show¬(0:Int)<= -1 from by omega,if_false]at ih⊢;simp only[Prod.mk.injEq]at ih⊢;exact⟨by rw[<-ih.1],ih.2.1,ih.2.2⟩
     · have hm':(Lib.index l [c]== -1)=false:=by simpa using hm
       rw[hm'];simp only[zd3,if_false];rw[if_pos zb]at ih⊢;simp only[Prod.mk.injEq,List.length_singleton]at ih⊢;obtain⟨i,hi⟩:=Int.eq_ofNat_of_zero_le (show 0<=Lib.index l [c] by omega);rw[hi]at ih⊢;rw[show((i:Int)+1).toNat=i+1 from by omega];rw[show((i:Int)).toNat=i from by omega]at ih;exact⟨by rw[List.take_succ_cons,ih.1],by rw[show i+1+1=(i+1)+1 from rfl,List.drop_succ_cons];exact ih.2.1,ih.2.2⟩
theorem P4(x y:ze)(l:List ze):Lib.join (x::y::l) [32]=x++[32]++Lib.join (y::l) [32]:=Tl
theorem Ci(x:ze):Lib.join [x] [32]=x:=by simp[Lib.join]
theorem T0:Lib.join [] [32]=[]:=by simp[Lib.join]
theorem ziH:∀(n:Nat) (t:ze),(Lib.join (Q4 n t) [32]).length<=t.length:=by
 intro n;induction n with
 |zero=>intro t;simp[Q4,T0]
 | succ n ih=>
   intro t;rw[Q4]
   split
   · simp[T0]
   · rename_i h0;have hi:=ih (Yq (Lib.cut t [32]).2.1);have ht:=kW (Lib.cut t [32]).2.1;have hc:(Lib.cut t [32]).1.length+(Lib.cut t [32]).2.1.length<=t.length/\((Lib.cut t [32]).2.1≠[]->(Lib.cut t [32]).1.length+1+(Lib.cut t [32]).2.1.length<=t.length):=by
      rw[zaD];dsimp only;have:=congrArg List.length (List.takeWhile_append_dropWhile (p:=(· !=(32:UInt8))) (l:=t));rw[r7]at this;refine⟨XB,fun hne=>?_⟩;have h1:0<((t.dropWhile (· !=32)).drop 1).length:=List.length_pos_iff.2 hne;rw[W8]at h1⊢;omega
     cases hw:Q4 n (Yq (Lib.cut t [32]).2.1)with
     |nil=>rw[Ci];omega
     | cons y l=>
       rw[P4,<-hw,r7,r7];have hne:(Lib.cut t [32]).2.1≠[]:=by
        intro e;rw[e]at hw;have:Yq []=[]:=rfl;rw[this]at hw;cases n<;>simp[Q4]at hw
       have:=hc.2 hne;simp only[List.length_singleton];omega
theorem zaQ(s:ze):(Lib.join (Y6 s) [32]).length<=s.length:=i3 (ziH _ _) (kW s)
theorem vt(l:List ze)(k:Nat):(Lib.join (l.drop k) [32]).length<=(Lib.join l [32]).length:=by
 induction k generalizing l with
 |zero=>simp
 | succ k ih=>
   cases l with
   |nil=>simp
   | cons x l=>
     rw[List.drop_succ_cons];refine i3 (ih l) ?_;cases l with
     |nil=>simp[T0]
     |cons y l=>rw[P4,r7];omega
theorem zdf(l:List ze):(Lib.join (l.take 1) [32]).length<=(Lib.join l [32]).length:=by
 cases l with
 |nil=>simp
 | cons x l=>
   cases l with
   |nil=>simp
   |cons y l=>rw[P4];simp[Ci]
theorem zbZ(k:Nat)(more:Bool)(l:List ze):(Lib.join (qU k more l) [32]).length<=(Lib.join l [32]).length:=by
 unfold qU
 split
 · exact vt l _
 · exact i3 (zdf _) (vt l _)
end
section
open Go.RowKit
structure IL(M:Nat)(v:Vs):Prop where
 kernel:v.kernel.size<=M
 devpath:v.devpath.size<=M
 id:v.id.size<=M
 driver:v.driver.size<=M
 parent:v.parent.size<=M
 name:v.name.size<=M
 result:v.result.size<=M
 attrs:∀x∈v.attrs.l,x.val.size<=M
 above:∀x∈v.above.l,x.val.size<=M
 env:∀x∈v.env.l,x.val.size<=M
theorem IL.more{M N:Nat}{v:Vs}(h:IL M v)(hM:M<=N):IL N v:=
 ⟨i3 h.kernel hM,i3 h.devpath hM,i3 h.id hM,i3 h.driver hM,i3 h.parent hM,i3 h.name hM,i3 h.result hM,
  fun x hx=>i3 (h.attrs x hx) hM,fun x hx=>i3 (h.above x hx) hM,fun x hx=>i3 (h.env x hx) hM⟩
theorem zf9{l:List At}{nm:ze}{u:ByteArray}{M:Nat}(h:∀x∈l,x.val.size<=M)(hu:Un l nm=some u):u.size<=M:=by
 unfold Un at hu;cases hf:l.find? (fun x=>L x.name==nm)with
 |none=>rw[hf]at hu;cases hu
 | some x=>
   rw[hf]at hu;injection hu with hu
   subst hu;exact h x (List.mem_of_find?_eq_some hf)
theorem RY{M:Nat}:∀(ls:List ZJ) (nm:ze),(∀y∈ls,∀x∈y.l,x.val.size<=M)->(Xx ls nm).size<=M
 | [],_,_=>X1 _
 | y::ls,nm,h=>by
   rw[Xx];cases hg:Un y.l nm with
   |some u=>exact zf9 (h y zl) hg
   |none=>exact RY ls nm (fun z hz=>h z (by simp[hz]))
theorem zg9(k:Nat)(more:Bool)(r:ze):(kF k more r).length<=r.length:=by
 unfold kF
 split
 · exact zo
 · exact i3 (zbZ k more (Y6 r)) (zaQ r)
theorem zdu{M:Nat}{q:Pc}{v:Vs}(hv:IL M v)(hq:q.text.size<=M):(YY q v).size<=M:=by
 unfold YY
 split
 · exact hq
 split
 · exact hv.kernel
 split
 · rw[Zg];refine i3 ?_ hv.kernel;rw[<-zF];unfold KQ;rw[W8];omega
 split
 · exact hv.devpath
 split
 · exact hv.id
 split
 · exact hv.driver
 split
 · refine RY _ _ (fun y hy=>?_);simp only[List.mem_cons,List.not_mem_nil,or_false]at hy;rcases hy with rfl|rfl
   · exact hv.attrs
   · exact hv.above
 split
 · refine RY _ _ (fun y hy=>?_);simp only[List.mem_cons,List.not_mem_nil,or_false]at hy;subst hy;exact hv.env
 split
 · rw[Zg];refine i3 (zg9 _ _ _) ?_;rw[zF];exact hv.result
 split
 · exact hv.parent
 · exact hv.name
end
end Go.Proofs.YtecbmndgpepkcaaGreatDoor

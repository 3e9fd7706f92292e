/- Contracts that the law rests on, each under the premises that it names. -/
import Derived.WalkSmall
import Derived.Lib.SmallJoins
import Derived.Lib.Bytes2
import Derived.Lib.AppendIntMem
import Derived.Test.YtecbmndgpepkcaaGreatDoorG12
namespace Go.Proofs.YtecbmndgpepkcaaGreatDoor
open Tryz
set_option maxHeartbeats 8000000
set_option maxRecDepth 100000
section
open Go.RowKit
def nG:Nat:=max 0 (max 6 (max 7 1))+1
theorem RL:prog.globalNamed "strconv.ErrSyntax" =some 6:=zg
theorem RJ:prog.globalNamed "strconv.ErrRange" =some 7:=zg
theorem LK:prog.globalNamed "internal/strconv.uint64pow10" =some 1:=zg
structure Env0(w:World):Prop where
 size:nG<=w.heap.size
 maxLen:∃m,w.cell? ⟨0,0,none⟩=some (.int .i64 m)
 pow:Lib.TabIs prog w "internal/strconv.uint64pow10" .u64 Lib.pow10Tab
structure Env(w:World):Prop extends Env0 w where
 syn:∃tp p,w.var? prog "strconv.ErrSyntax" =some #[.iface tp p]
 rng:∃tp p,w.var? prog "strconv.ErrRange" =some #[.iface tp p]
instance{w:World}:Coe (Env w) (Env0 w):=⟨Env.toEnv0⟩
theorem Env0.keep{w w':World}{B:Nat}(h:Env0 w)(hb:Below B w w')(hB:nG<=B):Env0 w':=by
 refine⟨i3 h.size hb.size,?_,?_⟩
 · obtain⟨m,hm⟩:=h.maxLen;exact⟨m,(hb.cell (p:=⟨0,0,none⟩) (i4 zi hB)).trans hm⟩
 · exact var?_below hb LK (i4 zi hB) h.pow
theorem Env0.go{w w':World}(h:Env0 w)(hb:Below w.heap.size w w'):Env0 w':=h.keep hb h.size
theorem Env.keep{w w':World}{B:Nat}(h:Env w)(hb:Below B w w')(hB:nG<=B):Env w':=by
 refine⟨h.toEnv0.keep hb hB,?_,?_⟩
 · obtain⟨tp,p,hv⟩:=h.syn;exact⟨tp,p,var?_below hb RL (i4 zi hB) hv⟩
 · obtain⟨tp,p,hv⟩:=h.rng;exact⟨tp,p,var?_below hb RJ (i4 zi hB) hv⟩
theorem Env.go{w w':World}(h:Env w)(hb:Below w.heap.size w w'):Env w':=h.keep hb h.size
theorem RP(s sep:ByteArray)(w:World)(h:Env0 w)(hs:s.size<4294967281):
 Calls prog 154 #[.string s,.string sep] w fun e w'=>e=.returned (.tuple #[.string (bs (Lib.cut (L s) (L sep)).1),.string (bs (Lib.cut (L s) (L sep)).2.1),.bool (Lib.cut (L s) (L sep)).2.2])/\∃n,w.drewN n=w':=by
 obtain⟨m,hm⟩:=h.maxLen;exact(strings_Cut s sep m w hs hm).mono fun e w' ⟨h1,n,h2⟩=>⟨h1,n,h2.symm⟩
theorem In(r:ze)(c:UInt8):Lib.hasPrefix r [c]=(r.head? ==some c):=by
 cases r with
 |nil=>rfl
 | cons b t=>
   show([c].isPrefixOf (b::t))=_;simp only[List.isPrefixOf,Bool.and_true,List.head?_cons];rw[Bool.eq_iff_iff];simp;exact eq_comm
theorem zfu{r:ze}(h:Lib.hasPrefix r [123]=false):ZW r=none:=by
 rw[In]at h;cases r with
 |nil=>rfl
 | cons b t=>
   have hb:b≠123:=XI;rw[ZW];simp only[hb,if_false]
theorem zaj{r:ze}(h:Lib.hasPrefix r [123]=true):ZW r=if(Lib.cut (r.drop 1) [125]).2.2 then some ((Lib.cut (r.drop 1) [125]).1,(Lib.cut (r.drop 1) [125]).2.1)else none:=by
 rw[In]at h;cases r with
 |nil=>simp at h
 | cons b t=>
   have hb:b=123:=XI;rw[ZW];simp only[hb,if_true,List.drop_succ_cons,zl4]
theorem P0(s sep:ze):(Lib.cut s sep).1.length<=s.length/\(Lib.cut s sep).2.1.length<=s.length:=by
 unfold Lib.cut
 split
 · exact⟨JO,XB⟩
 · exact⟨zo,X1 _⟩
theorem Rd.c1{w:World}{g:Nat}{r:ByteArray}{ps:List Pc}(h:Rd w g r ps):∃v,w.cell? ⟨g,1,none⟩=some v/\∀k,v.ownBlock=some k->k<w.heap.size:=by
 obtain⟨v,hh,ho⟩:=h.ex;exact⟨v,zd hh rfl,fun k hk=>(ho.lt k hk).2⟩
theorem Rd.other{w:World}{g:Nat}{r:ByteArray}{ps:List Pc}(h:Rd w g r ps){v:Value}(hv:w.cell? ⟨g,1,none⟩=some v){B:Nat}(hne:v.ownBlock≠some B)(hB:g≠B)(i:Nat)(x:Value):Rd (w.setCell ⟨B,i,none⟩ x) g r ps:=by
 obtain⟨v',hh,ho⟩:=h.ex;have:v'=v:=by
  have:=(cell_of_row w g 1 _ _ _ hh).symm.trans hv;exact zx this
 subst this;have hk:∀k,some k≠some B->(w.setCell ⟨B,i,none⟩ x).heap[k]? =w.heap[k]?:=fun k hk=>Below.heap_setCell w ⟨B,i,none⟩ x k (fun e=>hk (by rw[e]));refine⟨v',by rw[hk g (by simpa using hB)];exact hh,?_⟩;exact ho.kept (row:=some B) ⟨rfl,rfl,rfl,(KeepsWalks.setCell w _ x).size,fun k _ h2=>hk k h2⟩ (.inr hne)
def zhB(g:Nat)(rest:ByteArray)(ps:List Pc)(w:World)(e:Ending)(w':World):Prop:=
 ∃t rest',e=.returned (.tuple #[.string t,.bool (ZW (L rest)).isSome])/\(∀a b,ZW (L rest)=some (a,b)->t=bs a/\rest'=bs b)/\t.size<=rest.size/\rest'.size<=rest.size/\Rd w' g rest' ps/\Below g w w'/\w.grownBy w' (some g)/\w'.cell? ⟨g,1,none⟩=w.cell? ⟨g,1,none⟩
theorem FU(g:Nat)(rest:ByteArray)(ps:List Pc)(w:World)(h:Rd w g rest ps)(hE:Env w)(hr:rest.size<=1000):
 Calls prog 239 #[.pointer (some ⟨g,0,none⟩)] w (zhB g rest ps w):=by
 have HP:=Ja rest ⟨#[123]⟩ w;obtain⟨v,hh,ho⟩:=h.ex;have c0:w.cell? ⟨g,0,none⟩=some (.string rest):=zd hh rfl;have f0:w.frozen? ⟨g,0,none⟩=false:=frozen_of_row _ _ _ _ _ hh;have HH:=za h;have hlt:=h.lt;clear hh ho h;change Calls _ _ _ _ (fun e w'=>e=.returned (.bool (Lib.hasPrefix (L rest) [123]))/\w=w')at HP;cases hp:Lib.hasPrefix (L rest) [123]
 · rw[hp]at HP;have Hp:=za (zfu hp);clear hp;go_enter func239,ntmps239;go_wp2_with (go_at_call 105;refine HP.mono ?_;rintro e w' ⟨rfl,rfl⟩)
   go_ret2;exact⟨⟨#[]⟩,rest,by rw[Hp.out];rfl,(fun a b e=>by rw[Hp.out]at e;cases e),X1 _,zo,HH.out,zj,Ga _ _,rfl⟩
 · rw[hp]at HP;have Hp:=za (zaj hp);have h1:(1:Int)<=(rest.size:Int):=by
    have:=Lib.hasPrefix_le hp;rw[zF]at this;simp at this;omega
   have hd:L (rest.extract 1 rest.size)=(L rest).drop 1:=Mw;have HC:=RP (rest.extract 1 rest.size) ⟨#[125]⟩ w hE Ic;change Calls _ _ _ _ (fun e w'=>e=.returned (.tuple #[.string (bs (Lib.cut (L (rest.extract 1 rest.size)) [125]).1),.string (bs (Lib.cut (L (rest.extract 1 rest.size)) [125]).2.1),.bool (Lib.cut (L (rest.extract 1 rest.size)) [125]).2.2])/\∃n,w.drewN n=w')at HC;rw[hd]at HC;have hz:=P0 ((L rest).drop 1) [125];rw[W8,zF]at hz;obtain⟨z1,z2⟩:=hz;generalize Lib.cut ((L rest).drop 1) [125]=cc at*;obtain⟨c1,c2,c3⟩:=cc;have Hz:=za z1;have Hz2:=za z2;clear hp hd z1 z2;go_enter func239,ntmps239;go_wp2_with (first|(go_at_call 105;refine HP.mono ?_;rintro e w' ⟨rfl,rfl⟩)|(go_at_call 154;refine HC.mono ?_;rintro e w' ⟨rfl,n,rfl⟩))
   go_ret2;have e1:(bs c1).size<=rest.size:=by rw[Zg];have:=Hz.out;omega
   have e2:(bs c2).size<=rest.size:=by rw[Zg];have:=Hz2.out;omega
   refine⟨bs c1,bs c2,?_,fun a b e=>?_,e1,e2,?_,?_,?_,?_⟩
   · rw[Hp.out];cases c3<;>rfl
   · rw[Hp.out]at e;cases c3
     · cases e
     · simp at e;exact⟨by rw[e.1],by rw[e.2]⟩
   · exact(HH.out.keep (ZO zj n)).cut _
   · exact(ZO zj n).setCell (p:=⟨g,0,none⟩) zo _
   · exact(Y2 w n (some g)).trans (grownBy_setCell' _ g _)
   · exact(World.cell?_setCell_other _ _ _ _ zl).trans rfl
end
section
open Go.RowKit
theorem E3(n:Nat)(h:n<10):Lib.decDigits n=[UInt8.ofNat (48+n)]:=by rw[Lib.decDigits,dif_pos h]
theorem zjH(n:Nat)(h1:10<=n)(h:n<100):Lib.decDigits n=[UInt8.ofNat (48+n /10),UInt8.ofNat (48+n % 10)]:=by
 rw[Lib.decDigits,dif_neg zb,E3 _ zb];rfl
theorem zj9:∀n:Fin 10,Lib.atoiAll [UInt8.ofNat (48+n.val)]=.ok (n.val:Int):=zi
theorem zeN:∀n:Fin 100,Lib.atoiAll [UInt8.ofNat (48+n.val /10),UInt8.ofNat (48+n.val % 10)]=.ok (n.val:Int):=zi
theorem Ml(n:Nat)(h:n<100):Lib.atoiAll (Lib.decDigits n)=.ok (n:Int):=by
 rcases Nat.lt_or_ge n 10 with h1|h1
 · rw[E3 n h1];exact zj9 ⟨n,h1⟩
 · rw[zjH n h1 h];exact zeN ⟨n,h⟩
theorem jG(n:Nat):Lib.itoa (n:Int)=Lib.decDigits n:=by rw[Lib.itoa,if_neg zb];rfl
theorem zjp{m n:Nat}(hm:m<100)(hn:n<100)(h:Lib.decDigits m=Lib.decDigits n):m=n:=by
 have h1:=Ml m hm;rw[h,Ml n hn]at h1;injection h1 with h1
 omega
theorem zjU(t:ze)(v:Int)(h:Lib.atoiAll (Lib.trimSuffix t [43])=.ok v):
 Xk t=if(Lib.itoa v==Lib.trimSuffix t [43])&&decide (1<=v)&&decide (v<=99)then some (v,Lib.hasSuffix t [43])else none:=by
 by_cases hc:(Lib.itoa v==Lib.trimSuffix t [43])=true/\1<=v/\v<=99
 · obtain⟨h1,h2,h3⟩:=hc;obtain⟨n,rfl⟩:=Int.eq_ofNat_of_zero_le (show 0<=v by omega);rw[jG]at h1;have e:=DQ (fun n=>decide (1<=n)&&Lib.decDigits n==Lib.trimSuffix t [43]) 100 n zb (by simp only[h1];simp;omega) (fun j hj=>by
    by_cases hj1:Lib.decDigits j==Lib.trimSuffix t [43]
    · have:=zjp (m:=j) (n:=n) zb zb (by rw[beq_iff_eq.1 hj1,beq_iff_eq.1 h1]);omega
    · simp[hj1])
   rw[Xk,e];rw[jG,h1];simp;omega
 · have e:(List.range 100).find? (fun n=>decide (1<=n)&&Lib.decDigits n==Lib.trimSuffix t [43])=none:=by
    rw[List.find?_eq_none];intro n hn hp;have hn':=List.mem_range.1 hn;simp only[zm3,decide_eq_true_eq,zm4]at hp;have h1:=Ml n hn';rw[hp.2,h]at h1;injection h1 with h1
    exact hc ⟨by rw[h1,jG,hp.2];simp,zb,zb⟩
   rw[Xk,e];rw[if_neg (fun h=>hc (by simp only[zm3,decide_eq_true_eq]at h;exact⟨h.1.1,h.1.2,h.2⟩))]
theorem zcW(t:ze)(h:∀v,Lib.atoiAll (Lib.trimSuffix t [43])≠.ok v):Xk t=none:=by
 have e:(List.range 100).find? (fun n=>decide (1<=n)&&Lib.decDigits n==Lib.trimSuffix t [43])=none:=by
  rw[List.find?_eq_none];intro n hn hp;have hn':=List.mem_range.1 hn;simp only[zm3,decide_eq_true_eq,zm4]at hp;have h1:=Ml n hn';rw[hp.2]at h1;exact h _ h1
 rw[Xk,e]
theorem If(n:Int)(h0: -9223372036854775808<=n)(h1:n<=9223372036854775807)(w:World)(hE:Env0 w):
 Calls prog 48 #[.int .i64 n] w fun e w'=>e=.returned (.string (bs (Lib.itoa n)))/\Below w.heap.size w w':=
 (strconv_Itoa n h0 h1 w hE.pow).mono fun e w' ⟨he,k,os,hw⟩=>⟨he,by rw[hw];exact Lib.below_grow _ _ zo _ _⟩
theorem R4(s:ByteArray)(v:Int)(h:Lib.atoiAll (L s)=.ok v)(hs:s.size<=1000000)(w:World):
 Calls prog 223 #[.string s] w fun e w'=>e=.returned (.tuple #[.int .i64 v,.nilIface])/\Below w.heap.size w w':=
 (strconv_Atoi_ok s zb v h w).mono fun e w' ⟨he,hw⟩=>⟨he,by
   rcases hw with hw|⟨t,hw⟩
   · rw[hw];exact zj
   · rw[hw];exact Joins.below_bytesWorld _ _ _ _ zo⟩
theorem FA(s:ByteArray)(h:∀v,Lib.atoiAll (L s)≠.ok v)(hs:s.size<=1000000)(w:World)(hE:Env w):
 Calls prog 223 #[.string s] w fun e w'=>∃v T x,e=.returned (.tuple #[.int .i64 v,.iface T x])/\Below w.heap.size w w':=by
 rcases hA:Lib.atoiAll (L s)with v|_|_
 · exact absurd hA (h v)
 · obtain⟨tp,p,hv⟩:=hE.syn;exact(Any.strconv_Atoi_syntax_var laysC172 s zb hA tp p w hv).mono fun e w' ⟨N,he,_,_,hb⟩=>⟨_,_,_,he,hb⟩
 · obtain⟨tp,p,hv⟩:=hE.rng;exact(strconv_Atoi_range_var s zb hA tp p w hv).mono fun e w' ⟨N,he,_,_,hb⟩=>⟨_,_,_,he,hb⟩
theorem R2(l:ze)(v:Int)(h:Lib.atoiAll l=.ok v): -9223372036854775808<=v/\v<=9223372036854775807:=by
 unfold Lib.atoiAll at h
 split at h
 · cases h
 · dsimp only at h
   split at h
   · cases h
   · cases h
   · split at h
     · cases h
     · split at h
       · cases h
       · injection h with h
         subst h
         split<;>omega
def zhO(t:ByteArray)(w:World)(e:Ending)(w':World):Prop:=
 ∃n m,e=.returned (.tuple #[.int .i64 n,.bool m,.bool (Xk (L t)).isSome])/\(∀a b,Xk (L t)=some (a,b)->n=a/\m=b)/\Below w.heap.size w w'
theorem zic(t:ByteArray)(w:World)(hE:Env w)(hr:t.size<=1000):
 Calls prog 240 #[.string t] w (zhO t w):=by
 have HS:Calls prog 265 #[.string t,.string ⟨#[43]⟩] w (fun e w'=>e=.returned (.tuple #[.string (bs (Lib.trimSuffix (L t) [43])),.bool (Lib.hasSuffix (L t) [43])])/\w=w'):=
  (strings_CutSuffix t ⟨#[43]⟩ w zb).mono fun e w' ⟨h1,h2⟩=>⟨h1,h2.symm⟩
 have hz:(Lib.trimSuffix (L t) [43]).length<=(L t).length:=by
  unfold Lib.trimSuffix
  split
  · exact No
  · exact zo
 rw[zF]at hz;have hbad:=zcW (L t);have hok:=zjU (L t);generalize Lib.trimSuffix (L t) [43]=tr at*;generalize Lib.hasSuffix (L t) [43]=more at*;have hzz:(bs tr).size<=1000000:=Ma;have hLt:=qz tr;by_cases hA:∃v,Lib.atoiAll tr=.ok v
 · obtain ⟨v,hv⟩:=hA;have hc:=hok v hv;obtain⟨r1,r2⟩:=R2 tr v hv;have HA:=fun W=>R4 (bs tr) v (by rw[hLt];exact hv) hzz W;have HI:=fun W (hW:Env W)=>If v r1 r2 W hW;have eq:((bs (Lib.itoa v)).toList==(bs tr).toList)=(Lib.itoa v==tr):=by rw[tl,tl,qz,qz]
   cases hq:(Lib.itoa v==tr)
   all_goals
    rw[hq]at eq hc;generalize bs (Lib.itoa v)=it at*;generalize bs tr=s at*;have HE:=za hE;clear hbad hok hE hv hLt hzz hz hq;by_cases h1:1<=v
    all_goals
     by_cases h99:v<=99
     all_goals
      first
       |(exfalso;omega)
       | (have hc2:=hc
          simp[h1,h99]at hc2;have Hc:=za hc2;clear hc2 hc;go_enter func240,ntmps240;go_wp2_with (first|(go_at_call 265;refine HS.mono ?_;rintro e w' ⟨rfl,rfl⟩)|(go_at_call 223;refine(HA _).mono ?_;rintro e w1 ⟨rfl,hb1⟩)|(go_at_call 48;refine(HI _ (HE.out.go hb1)).mono ?_;rintro e w2 ⟨rfl,hb2⟩))
          refine bodyPost_ret Ez rfl ?_;refine⟨v,more,?_,?_,?_⟩
          · rw[Hc.out];first|rfl|(simp;omega)
          · intro a b e;rw[Hc.out]at e;first|(cases e;done)|(simp at e;exact e)
          · first|exact hb1|exact bt hb1 hb2)
 · have HA:=fun W (hW:Env W)=>FA (bs tr) (by rw[hLt];exact fun v hv=>hA ⟨v,hv⟩) hzz W hW;have Hc:=za (hbad fun v hv=>hA ⟨v,hv⟩);generalize bs tr=s at*;have HE:=za hE;clear hbad hok hE hLt hzz hz hA;go_enter func240,ntmps240;go_wp2_with (first|(go_at_call 265;refine HS.mono ?_;rintro e w' ⟨rfl,rfl⟩)|(go_at_call 223;refine(HA _ HE.out).mono ?_;rintro e w1 ⟨v,T,x,rfl,hb1⟩))
   refine bodyPost_ret Ez rfl ?_;exact⟨v,more,by rw[Hc.out];rfl,(fun a b e=>by rw[Hc.out]at e;cases e),hb1⟩
end
section
open Go.RowKit Go.Shelf Go.Maps
def Yv(w:World)(l:List At)(e:Ending)(w':World):Prop:=∃A c,e=.returned (.slice A l.length c)/\zB 2 zw w' ⟨A,c,l⟩/\Below w.heap.size w w'
theorem kb.outL{w:World}{l:List At}{v:Value}{w':World}(h:kb w l v w'):Yv w l (.returned v) w':=by
 obtain⟨h1,h2⟩:=h;obtain⟨A,c,rfl⟩:=Qf h1;exact⟨A,c,rfl,(zB.of_own h1).1,h2⟩
theorem zkn(y:Ls At)(k v:ByteArray)(w:World)(h:zB 2 zw w y)(hl:y.l.length<=10000)(ha:Z1 y.l):
 Calls prog 89 #[.slice y.A y.l.length y.c,.string k,.string v] w (Yv w (zO y.l k v)):=by
 have HS:=za (Bj y k v w h hl ha);have HH:=za h;clear h hl ha;obtain⟨A,c,l⟩:=y;dsimp only at*;have hE:(v.toList=[]/\v.toList.isEmpty=true/\zO l k v=l)∨(¬v.toList=[]/\v.toList.isEmpty=false/\zO l k v=XK l ⟨k,v⟩):=by
  unfold zO;rcases Classical.em (v.toList=[])with he|he
  · exact Or.inl ⟨he,Gk,by rw[<-tl,he];rfl⟩
  · exact Or.inr ⟨he,by rw[tl];exact XC he,by rw[XC he];rfl⟩
 rcases hE with⟨n1,n2,n3⟩|⟨n1,n2,n3⟩
 · rw[n3];clear n3;generalize hN:l.length=N;go_enter func89,ntmps89;go_wp2_with fail
   go_ret;exact⟨A,c,by rw[hN];rfl,HH.out,zj⟩
 · rw[n3];clear n3;generalize hN:l.length=N at*;go_enter func89,ntmps89;go_wp2_with (go_at_call 115;refine HS.out.mono ?_;rintro e w2 ⟨v,rfl,hO⟩)
   go_ret;exact hO.outL
theorem zkt(k:Int)(w:World):Calls prog 70 #[.int .i64 k] w fun e w'=>e=.returned (.bool (decide (k=2∨k=3)))/\w'=w:=by
 by_cases h2:k=2
 · subst h2;exact Cz
 · by_cases h3:k=3
   · subst h3;exact Cz
   · go_enter func70,ntmps70;go_wp2_with fail
     go_ret;exact⟨by simp[h2,h3],rfl⟩
theorem Tr(s n:ByteArray)(o:UInt8)(W:World)(hE:Env0 W)(hs:s.size<=100000)(hn:n.size<=1):
 Calls prog 66 #[.string s,.string ⟨#[o]⟩,.string n] W fun e w'=>e=.returned (.string (bs (Lib.replaceAll (L s) [o] (L n))))/\Below W.heap.size W w':=by
 obtain⟨m,hm⟩:=hE.maxLen;have hc:=Lib.countB_le ⟨#[o]⟩ VG s.size s zo;have h:=strings_ReplaceAll s ⟨#[o]⟩ n m W zb hm VG (by have:=Nat.mul_le_mul_left (Lib.countB s ⟨#[o]⟩) hn;omega);exact h
theorem Te(d:Dv)(w:World)(hE:Env0 w)(hs:d.og.size<=1000):
 Calls prog 51 #[.agg (zq d)] w fun e w'=>e=.returned (.tuple #[.string ((QH d.d).getD ⟨#[]⟩),.bool (QH d.d).isSome])/\Below w.heap.size w w':=by
 have hb:=zL w (.cells (zq d) zp);have HR:=za (Tr d.og ⟨#[47]⟩ 33 _ (hE.go hb) zb VG);have HB:=za hb;have HN:=za (zkt d.kd);have hd:QH d.d=if d.kd=2∨d.kd=3 then some (bs (Lib.replaceAll (L d.og) [33] [47]))else none:=rfl;rw[hd];clear hd hE hb hs;unfold zq at*;by_cases hk:d.kd=2∨d.kd=3
 · rw[if_pos hk];have hq:decide (d.kd=2∨d.kd=3)=true:=zl1 hk;rw[hq]at HN;clear hk hq;go_enter func51,ntmps51;go_wp2_with (first|(go_at_call 70;refine(HN.out _).mono ?_;rintro e w2 ⟨rfl,rfl⟩)|(go_at_call 66;refine HR.out.mono ?_;rintro e w2 ⟨rfl,hb2⟩;have HB2:=za hb2;clear hb2))
   go_ret2;exact⟨rfl,bt HB.out HB2.out⟩
 · rw[if_neg hk];have hq:decide (d.kd=2∨d.kd=3)=false:=zl0 hk;rw[hq]at HN;clear hk hq;go_enter func51,ntmps51;go_wp2_with (first|(go_at_call 70;refine(HN.out _).mono ?_;rintro e w2 ⟨rfl,rfl⟩)|(go_at_call 66;refine HR.out.mono ?_;rintro e w2 ⟨rfl,hb2⟩;have HB2:=za hb2;clear hb2))
   go_ret2;exact⟨rfl,HB.out⟩
end
section
open Go.RowKit
structure Y9(w:World)(g:Nat)(y:Dm)(w':World)(y':Dm):Prop where
 fr:∀b,b<w.heap.size->b≠g->(∀a∈y.as,∀p,a=some p->p.block≠b)->w'.heap[b]? =w.heap[b]?
 sz:w.heap.size<=w'.heap.size
 rows:∀a∈y'.as,∀p,a=some p->w.heap.size<=p.block∨∃a'∈y.as,∃q,a'=some q/\q.block=p.block
theorem Y9.trans{w w1 w2:World}{g:Nat}{y y1 y2:Dm}(h:Y9 w g y w1 y1)(h2:Y9 w1 g y1 w2 y2):Y9 w g y w2 y2:=by
 refine⟨fun b hb hg hn=>(h2.fr b (i4 hb h.sz) hg (fun a ha p e k=>?_)).trans (h.fr b hb hg hn),i3 h.sz h2.sz,fun a ha p e=>?_⟩
 · rcases h.rows a ha p e with k1|⟨a',k1,q,k2,k3⟩
   · omega
   · exact hn a' k1 q k2 (k3.trans k)
 · rcases h2.rows a ha p e with k1|⟨a',k1,q,k2,k3⟩
   · exact Or.inl (i3 h.sz k1)
   · rcases h.rows a' k1 q k2 with k4|⟨a2,k4,q2,k5,k6⟩
     · exact Kb
     · exact Or.inr ⟨a2,k4,q2,k5,k6.trans k3⟩
theorem Y9.same{w w':World}{g:Nat}{y:Dm}(hb:Below w.heap.size w w'):Y9 w g y w' y:=⟨fun b h _ _=>hb.block b h,hb.size,fun a ha p e=>Or.inr ⟨a,ha,p,e,rfl⟩⟩
def qG(B g:Nat)(y:Dm)(w:World)(d':Dr)(e:Ending)(w':World):Prop:=e=.returned (.tuple #[])/\∃y',y'.d=d'/\qx B w' g y'/\Y9 w g y w' y'/\Below B w w'
theorem qG.same{B g:Nat}{y:Dm}{w w':World}(h:qx B w g y)(hb:Below w.heap.size w w'):qG B g y w y.d (.returned (.tuple #[])) w':=⟨rfl,y,rfl,h.below hb,Y9.same hb,hb.mono (i3 h.lo (X3 (zh h.box)))⟩
theorem zji(l:List ByteArray)(x:ByteArray):Lib.containsS l x=(l.map L).contains (L x):=by
 rw[Bool.eq_iff_iff,Lib.containsS_iff,List.contains_iff_mem,List.mem_map];exact⟨fun h=>⟨x,h,rfl⟩,fun⟨a,h1,h2⟩=>by rw[<-Yl x,<-h2,Yl];exact h1⟩
abbrev zgw:List ByteArray:=[⟨#[68,69,86,78,65,77,69]⟩,⟨#[68,69,86,80,65,84,72]⟩,⟨#[68,82,73,86,69,82]⟩,⟨#[73,78,84,69,82,70,65,67,69]⟩,⟨#[77,79,68,65,76,73,65,83]⟩,⟨#[78,85,77,66,69,82]⟩,⟨#[83,85,66,83,89,83,84,69,77]⟩]
theorem zff(x:ByteArray)(T:TypeId)(w:World):Calls prog 231 #[.slice (some ⟨w.heap.size,0,none⟩) 7 7,.string x] (w.alloc (.cells #[.string ⟨#[68,69,86,78,65,77,69]⟩,.string ⟨#[68,69,86,80,65,84,72]⟩,.string ⟨#[68,82,73,86,69,82]⟩,.string ⟨#[73,78,84,69,82,70,65,67,69]⟩,.string ⟨#[77,79,68,65,76,73,65,83]⟩,.string ⟨#[78,85,77,66,69,82]⟩,.string ⟨#[83,85,66,83,89,83,84,69,77]⟩] T)) fun e w'=>e=.returned (.bool (GA (L x)))/\w.alloc (.cells #[.string ⟨#[68,69,86,78,65,77,69]⟩,.string ⟨#[68,69,86,80,65,84,72]⟩,.string ⟨#[68,82,73,86,69,82]⟩,.string ⟨#[73,78,84,69,82,70,65,67,69]⟩,.string ⟨#[77,79,68,65,76,73,65,83]⟩,.string ⟨#[78,85,77,66,69,82]⟩,.string ⟨#[83,85,66,83,89,83,84,69,77]⟩] T)=w':=by
 have h:=slices_Contains_string w.heap.size 0 7 7 zgw x (w.alloc (.cells #[.string ⟨#[68,69,86,78,65,77,69]⟩,.string ⟨#[68,69,86,80,65,84,72]⟩,.string ⟨#[68,82,73,86,69,82]⟩,.string ⟨#[73,78,84,69,82,70,65,67,69]⟩,.string ⟨#[77,79,68,65,76,73,65,83]⟩,.string ⟨#[78,85,77,66,69,82]⟩,.string ⟨#[83,85,66,83,89,83,84,69,77]⟩] T)) zl zb (fun j hj=>by
  rw[zk4,cell_of_row _ _ j _ _ _ (i5 w _)];rcases(by simp at hj;omega:j=0∨j=1∨j=2∨j=3∨j=4∨j=5∨j=6)with rfl|rfl|rfl|rfl|rfl|rfl|rfl<;>rfl)
 rw[List.take_of_length_le zl,zji]at h;exact h.mono fun _ _ ⟨h1,h2⟩=>⟨h1,h2.symm⟩
theorem ziT(k:ByteArray)(w:World):Calls prog 194 #[.string k] w fun e w'=>e=.returned (.bool (GA (L k)))/\Below w.heap.size w w':=by
 have HC:=za (zff k 9 w);go_enter func194,ntmps194;go_wp2_with (go_at_call 231;refine HC.out.mono ?_;rintro e w2 ⟨rfl,rfl⟩)
 go_ret;exact⟨rfl,zu⟩
end
section
open Go.RowKit
theorem Dn(w:World):Calls prog 245 #[] w fun e w'=>e=.returned (.agg (setA QI))/\Below w.heap.size w w':=by
 have hzc:=R0;have Hi:=za (zero_of_info kL).2;have h1:=Xy (qC YJ [64,35,61,37]);have h2:=IH (qC YJ [64,35,61,37]);have h0:=Xy Qw;have HP:Hid (setA QI=setA (qC YJ [64,35,61,37])):=za rfl;have HC:Hid (∀W,Calls prog 188 #[.agg (setA YJ),.string ⟨#[64,35,61,37]⟩] W fun e w'=>e=.returned (.agg (setA (qC YJ [64,35,61,37])))/\Below W.heap.size W w'):=za fun W=>kA _ _ _ zi;have HN:=za hzc;rw[HP.out];clear hzc;generalize setA (qC YJ [64,35,61,37])=S at*;have HSz:=za h1;have HS1:=za h2;have HS0:=za h0;clear h1 h2 h0;go_enter func245,ntmps245;go_upto_region 1 with fail
 rw[HN.out];generalize setA Qw=S0 at*;obtain⟨w1,hw1⟩:∃w1,w.alloc (.cells S0 256)=w1:=⟨_,rfl⟩;have H1:=za (show w1.heap[w.heap.size]? =some (.cells S0 256 (0,0)) by rw[<-hw1];exact qt);have HB1:=za (show Below w.heap.size w w1 by rw[<-hw1];exact zu);rw[hw1];clear hw1;go_wp2_with (first
  |(go_at_call 219;refine(Ln _).mono ?_;rintro e w2 ⟨rfl,hb2⟩;have HB2:=za hb2;clear hb2)
  |(go_at_call 188;refine(HC.out _).mono ?_;rintro e w3 ⟨rfl,hb3⟩;have HB3:=za (bt HB2.out hb3);have HX:=za ((HB3.out.block _ (zh H1.out)).trans H1.out);clear hb3)
  |(refine wpList_store_row rfl 256 _ _ rfl _ _ rfl rfl _ _ HX.out G3 (by rw[HS0.out,HSz.out]) HS1.out ?_))
 refine Vf rfl zk (setRow_heap _ _ _ _ _ _ HX.out) underlying256 rfl G3 zk ?_;exact⟨rfl,qB (bt HB1.out HB3.out) zo⟩
theorem BR(v:Value):Instr.loadAt 256 v=qD 256 v:=Kg
theorem zbV{w:World}{G:Nat}{f:Nat->Bool}(hG:w.heap[G]? =some (.cells (setA f) 256 (0,0))):(qD 256 (.pointer (some ⟨G,0,none⟩))).run prog w=.ok (.agg (setA f)) w:=by
 have h:=JR (P:=prog) (w:=w) (T:=256) (n:=256) (g:=G) (o:=0) (l:=(setA f).toList) isAgg256 sizeOf256 (by rw[Array.length_toList,Xy]) (fun j u hu=>by
  rw[zk4,cell_of_row _ _ j _ _ _ hG,<-zm2];exact hu)
 rw[h]
attribute [local go_sem ↓] BR
theorem zgZ(s:ByteArray)(G:Nat)(w:World)(hs:s.size<=1000000)(hG:w.heap[G]? =some (.cells (setA QI) 256 (0,0))):
 Calls prog 271 #[.string s,.pointer (some ⟨G,0,none⟩)] w fun e w'=>e=.returned (.bool (Ut (L s)))/\Below w.heap.size w w':=by
 have HG:=za hG;have Hi:=za (zero_of_info kL).2;have HD:=za (vM s w);have HH:=za (NC QI s w zb);have HSz:=za (Xy QI);have hE:Ut (L s)=(!(L s).isEmpty&& !(L s==[46]||L s==[46,46])&&Q3 QI (L s)):=rfl;rw[hE];have hld:=zbV hG;clear hE hG;generalize setA QI=S at*;by_cases h0:s.toList=[]
 · have h1:(L s).isEmpty=true:=by rw[JL h0];rfl
   rw[h1];go_enter func271,ntmps271;go_wp2;go_ret;exact⟨rfl,zj⟩
 · have h1:(L s).isEmpty=false:=XC h0;have h2:s.toList.isEmpty=false:=by rw[tl];exact h1
   rw[h1];cases hd:(L s==[46]||L s==[46,46])with
   | true=>
     have HD2:=HD.out;rw[hd]at HD2;have HD3:=za HD2;clear HD2 hd;go_enter func271,ntmps271;go_wp2_with (go_at_call 218;refine HD3.out.mono ?_;rintro e w2 ⟨rfl,rfl⟩)
     go_ret;exact⟨rfl,zj⟩
   | false=>
     have HD2:=HD.out;rw[hd]at HD2;have HD3:=za HD2;clear HD2 hd;generalize Q3 QI (L s)=b at*;go_enter func271,ntmps271;go_wp2_with (first
      |(go_at_call 218;refine HD3.out.mono ?_;rintro e w2 ⟨rfl,rfl⟩)
      |(go_at_call 189;refine HH.out.mono ?_;rintro e w3 ⟨rfl,hb3⟩))
     go_ret;exact⟨ya,hb3⟩
theorem zaX(x:ByteArray)(G B:Nat)(w:World)(b:Bool)(hc:w.cell? ⟨B,0,none⟩=some (.func (.func 271) #[] #[.pointer (some ⟨G,0,none⟩)]))
 (hL:Calls prog 271 #[.string x,.pointer (some ⟨G,0,none⟩)] w fun e w'=>e=.returned (.bool b)/\Below w.heap.size w w'):
 Calls prog 298 #[.string x,.pointer (some ⟨B,0,none⟩)] w fun e w'=>e=.returned (.bool (!b))/\Below w.heap.size w w':=by
 have HL:=za hL;clear hL;go_enter func298,ntmps298;go_wp2_with (go_at_call 271;refine HL.out.mono ?_;rintro e w2 ⟨rfl,hb2⟩)
 exact OW
theorem zkK(G:Nat)(A:Option Addr)(c:Nat)(xs:List ByteArray)(w:World)(hG:w.heap[G]? =some (.cells (setA QI) 256 (0,0)))(hx:∀x∈xs,x.size<=1000000)(hr:zr w w.heap.size A 1 xs.length (xs.map Value.string))(hl:xs.length<=1000000000):
 Calls prog 270 #[.slice A xs.length c,.func (.func 271) #[] #[.pointer (some ⟨G,0,none⟩)]] w fun e w'=>e=.returned (.bool (xs.all fun x=>Ut (L x)))/\Below w.heap.size w w':=by
 obtain⟨w1,hw1⟩:∃w1,w.alloc (.cells #[.func (.func 271) #[] #[.pointer (some ⟨G,0,none⟩)]] 149)=w1:=⟨_,rfl⟩;have hb1:Below w.heap.size w w1:=ZX;have hs1:w.heap.size<w1.heap.size:=YO;have hc1:w1.cell? ⟨w.heap.size,0,none⟩=some (.func (.func 271) #[] #[.pointer (some ⟨G,0,none⟩)]):=by rw[<-hw1];exact zd (i5 w _) rfl
 have hP:Om 298 #[.pointer (some ⟨w.heap.size,0,none⟩)] (fun x=> !Ut (L x)) xs w1:=fun x hm W hW=>by
  have h1:=zaX x G w.heap.size W (Ut (L x)) ((hW.cell (p:=⟨w.heap.size,0,none⟩) hs1).trans hc1) (zgZ x G W (hx x hm) ((hW.block _ (i4 (zh hG) hb1.size)).trans ((hb1.block _ (zh hG)).trans hG)));exact h1.mono fun _ _ ⟨h2,h3⟩=>⟨h2,bt hW h3⟩
 have HC:=za (EO 298 #[.pointer (some ⟨w.heap.size,0,none⟩)] (fun _ _=>rfl) (fun x=> !Ut (L x)) A c xs w1 ((hr.keep hb1).up hb1.size) hl hP);have hE:(xs.all fun x=>Ut (L x))= !(xs.any fun x=> !Ut (L x)):=by rw[List.not_any_eq_all_not];simp
 rw[hE];have HB1:=za hb1;have HW1:=za hw1;clear hE hP hc1 hs1 hb1 hw1 hG hr hx;generalize (xs.any fun x=> !Ut (L x))=b at*;generalize xs.length=N at*;go_enter func270,ntmps270;go_upto_region 1 with fail
 rw[HW1.out];go_wp2_with (go_at_call 125;refine HC.out.mono ?_;rintro e w2 ⟨rfl,hb2⟩)
 go_ret;exact⟨rfl,bt HB1.out hb2⟩
theorem Ak(s:ByteArray)(w:World)(hE:Env0 w)(hs:s.size<=4000000):
 Calls prog 103 #[.string s,.string ⟨#[47]⟩] w fun e w'=>e=.returned (.slice (some ⟨w.heap.size,0,none⟩) (Zk 47 s).length (Zk 47 s).length)/\w.alloc (.cells ((Zk 47 s).map Value.string).toArray 9)=w':=by
 obtain⟨m,hm⟩:=hE.maxLen;have h:=strings_Split s ⟨#[47]⟩ m w zb hm VG;have e:(Zk 47 s).length=Lib.countB s ⟨#[47]⟩+1:=Lib.splitB_all ⟨#[47]⟩ VG 0 _ s rfl;rw[e];exact h.mono fun e w' h=>⟨h.1,h.2.symm⟩
end
section
open Go.RowKit
theorem Cx:(prog.info? 243).map (fun i=>(i.zero,i.size,i.bytes))=some (some (.agg #[.int .i64 0,.string ⟨#[]⟩,.int .i64 0,.bool false]),4,40):=zg
theorem Av{l:List Pc}{p:Pc}(h:¬(p.kind=1/\(l.getLast?.map (·.kind))=some 1)):Zq l p=l++[p]:=by rw[Zq,if_neg h]
theorem Ms{w w':World}{base k n:Nat}{e:TypeId}{v:Value}{xs:List Value}(h:w.ownsRow base e k v n xs)(hb:Below w.heap.size w w'):w'.ownsRow base e k v n xs:=
 h.kept (row:=none) ⟨hb.os,hb.tape,hb.output,hb.size,fun k hk _=>hb.block k hk⟩ (by
  rcases h.2 with⟨h1,_⟩|⟨g',cap,cur,h1,_⟩
  · left;rw[h1];rfl
  · right;rw[h1];simp[Value.ownBlock])
theorem yo(p:Pc):∀u∈ZY p,u.oneCell'=true:=by
 intro u hu;simp only[ZY,List.mem_cons,List.not_mem_nil,or_false]at hu;rcases hu with h|h|h|h<;>subst h<;>rfl
theorem Ox{w:World}{g k n:Nat}{e:TypeId}{v:Value}{xs:List Value}(h:w.ownsRow (g+1) e k v n xs):v.ownBlock≠some g:=fun he=>by
 have:=(h.lt g he).1;omega
theorem Pg{w W w2:World}{g i:Nat}{u:Value}{row:Option Nat}(c1:w.cell? ⟨g,i,none⟩=some u)(f1:w.frozen? ⟨g,i,none⟩=false)(hne:row≠some g)(hb:Below w.heap.size w W)(hg:W.grownBy w2 row):
 w2.cell? ⟨g,i,none⟩=some u/\w2.frozen? ⟨g,i,none⟩=false:=by
 have hlt:=block_lt_of_cell c1;have hlt2:(⟨g,i,none⟩:Addr).block<W.heap.size:=i4 hlt hb.size;exact⟨(hg.cell_far _ hlt2 (Ne.symm hne)).trans ((hb.cell (p:=⟨g,i,none⟩) hlt).trans c1),(hg.frozen_far _ hlt2 (Ne.symm hne)).trans ((hb.frozen (p:=⟨g,i,none⟩) hlt).trans f1)⟩
theorem Rd.appended{w W w2:World}{g g2 cap:Nat}{rest:ByteArray}{ps:List Pc}{p:Pc}{A:Option Addr}{c:Nat}(hh:w.heap[g]? =some (.cells #[.string rest,.slice A ps.length c] 270 (0,0)))
 (ho:w.ownsRow (g+1) 243 4 (.slice A ps.length c) ps.length (cellsOf ZY ps))(hb:Below w.heap.size w W)(hg:W.grownBy w2 (Value.slice A ps.length c).ownBlock)
 (h2:w2.ownsRow (g+1) 243 4 (.slice (some ⟨g2,0,none⟩) (ps.length+1) cap) (ps.length+1) (cellsOf ZY ps++ZY p)):
 Rd (w2.setCell ⟨g,1,none⟩ (.slice (some ⟨g2,0,none⟩) (ps.length+1) cap)) g rest (ps++[p])/\Below g w (w2.setCell ⟨g,1,none⟩ (.slice (some ⟨g2,0,none⟩) (ps.length+1) cap)):=by
 have hlt:=Xc hh;have hh2:w2.heap[g]? =some (.cells #[.string rest,.slice A ps.length c] 270 (0,0)):=by
  rw[hg.block g (i4 hlt hb.size) (Ne.symm (Ox ho)),hb.block g hlt];exact hh
 refine⟨⟨.slice (some ⟨g2,0,none⟩) (ps.length+1) cap,by rw[heap_setCell_same _ _ _ _ _ _ hh2];rfl,?_⟩,?_⟩
 · have e:cellsOf ZY (ps++[p])=cellsOf ZY ps++ZY p:=by simp[cellsOf]
   rw[r7,List.length_singleton,e];exact ownsRow_setCell_below h2 zl _
 · have h3:Below g w w2:=(hb.mono (X3 hlt)).grown hg (i3 (X3 hlt) hb.size) (fun k hk=>by have:=(ho.lt k hk).1;omega);exact h3.setCell (p:=⟨g,1,none⟩) zo _
def G9(g:Nat)(rest:ByteArray)(ps:List Pc)(p:Pc)(w:World)(e:Ending)(w':World):Prop:=
 e=.returned (.tuple #[])/\Rd w' g rest (Zq ps p)/\Below g w w'
theorem zjh(g:Nat)(rest:ByteArray)(ps:List Pc)(p:Pc)(w:World)(h:Rd w g rest ps)(hn:ps.length<=10000)(hk:p.kind≠1):
 Calls prog 198 #[.pointer (some ⟨g,0,none⟩),.agg #[.int .i64 p.kind,.string p.text,.int .i64 p.word,.bool p.more]] w (G9 g rest ps p w):=by
 obtain⟨v,hh,hown⟩:=h.ex;have c1:w.cell? ⟨g,1,none⟩=some v:=zd hh rfl;have f1:w.frozen? ⟨g,1,none⟩=false:=frozen_of_row _ _ _ _ _ hh;have hk1:(p.kind==1)=false:=by simpa using hk
 obtain⟨i0,hi0,hz0,hz1,hz2⟩:=info_parts Cx;obtain⟨A,c,rfl⟩:∃A c,v=.slice A ps.length c:=by
  rcases hown.2 with⟨h1,h2⟩|⟨g',cap,cur,h1,_⟩
  · exact yw
  · exact⟨_,_,h1⟩
 have HH:=za h;have hlt:=h.lt;have Hh:=za hh;have Ho:=za hown;clear h hh hown;have Hk:=za hk;clear hk;go_enter func198,ntmps198;go_wp2
 go_region_law (first|(refine step_append_lies _ zk _ _ _ zk (g+1) 243 i0 _ 4 40 underlying234 hi0 hz0 hz1 hz2 rfl zb (.slice A ps.length c) ps.length (cellsOf ZY ps) zk (Ms Ho.out Zc) _ 1 1 (ZY p) zk zk yM (yo p) zb ql zb zK _ rfl ?_;intro g2 cap w2 hown2 hgrow2 hat2 hlt2;have c2:=Pg c1 f1 (Ox Ho.out) Zc hgrow2;obtain⟨c2a,c2b⟩:=c2))
 all_goals
  go_end0
  have hR:=Rd.appended (p:=p) Hh.out Ho.out Zc hgrow2 hown2;exact⟨rfl,by rw[Av (fun h=>Hk.out h.1)];exact hR.1,hR.2⟩
theorem zar(g:Nat)(rest:ByteArray)(ps:List Pc)(t:ByteArray)(w:World)(h:Rd w g rest ps)(hn:ps.length<=10000)(hk:(ps.getLast?.map (·.kind))≠some 1):
 Calls prog 198 #[.pointer (some ⟨g,0,none⟩),.agg #[.int .i64 1,.string t,.int .i64 0,.bool false]] w (G9 g rest ps (Zd t) w):=by
 obtain⟨v,hh,hown⟩:=h.ex;have c1:w.cell? ⟨g,1,none⟩=some v:=zd hh rfl;have f1:w.frozen? ⟨g,1,none⟩=false:=frozen_of_row _ _ _ _ _ hh;obtain⟨i0,hi0,hz0,hz1,hz2⟩:=info_parts Cx;have HH:=za h;have hlt:=h.lt;have Hh:=za hh;have Ho:=za hown;have Hk:=za hk;clear h hh hown hk;obtain⟨A,c,rfl⟩:∃A c,v=.slice A ps.length c:=by
  rcases Ho.out.2 with⟨h1,h2⟩|⟨g',cap,cur,h1,_⟩
  · exact yw
  · exact⟨_,_,h1⟩
 rcases List.eq_nil_or_concat ps with h0|⟨m,q,h0⟩
 · subst h0;simp only[List.length_nil]at c1 hn;go_enter func198,ntmps198;go_wp2
   go_region_law (first|(refine step_append_lies _ zk _ _ _ zk (g+1) 243 i0 _ 4 40 underlying234 hi0 hz0 hz1 hz2 rfl zb (.slice A 0 c) 0 (cellsOf ZY []) zk (Ms Ho.out Zc) _ 1 1 (ZY (Zd t)) zk zk yM (yo _) zb ql zb zK _ rfl ?_;intro g2 cap w2 hown2 hgrow2 hat2 hlt2;have c2:=Pg c1 f1 (Ox Ho.out) Zc hgrow2;obtain⟨c2a,c2b⟩:=c2))
   all_goals
    go_end0
    have hR:=Rd.appended (p:=Zd t) Hh.out Ho.out Zc hgrow2 hown2;exact⟨rfl,vW,hR.2⟩
 · rw[List.concat_eq_append]at h0;subst h0;have hq:q.kind≠1:=fun e=>Hk.out (by simp[e]);have hq1:(q.kind==1)=false:=by simpa using hq
   obtain⟨b,cap,hA,hbg,hb⟩:=Ho.out.form zl;obtain⟨rfl,rfl⟩:A=some ⟨b,0,none⟩/\c=cap:=by injection hA with h1 h2 h3;exact⟨h1,h3⟩
   have cq:w.cell? ⟨b,m.length*4,none⟩=some (.int .i64 q.kind):=by
    rw[Ho.out.cellAt (m.length*4) zl,Xf,ze3 Tz,Kq ZY 4 J0,zj2];rfl
   simp only[r7,List.length_singleton]at c1 hn;have Hoo:Hid (w.ownsRow (g+1) 243 4 (.slice (some ⟨b,0,none⟩) (m.length+1) c) (m.length+1) (cellsOf ZY (m++[q]))):=by
    have:=Ho.out;simp only[r7,List.length_singleton]at this;exact this
   clear hq hA hbg;go_enter func198,ntmps198;go_wp2
   go_region_law (first|(refine step_append_lies _ zk _ _ _ zk (g+1) 243 i0 _ 4 40 underlying234 hi0 hz0 hz1 hz2 rfl zb (.slice (some ⟨b,0,none⟩) (m.length+1) c) (m.length+1) (cellsOf ZY (m++[q])) zk (Ms Hoo.out Zc) _ 1 1 (ZY (Zd t)) zk zk yM (yo _) zb ql zb zK _ rfl ?_;intro g2 cap w2 hown2 hgrow2 hat2 hlt2;have c2:=Pg c1 f1 (Ox Hoo.out) Zc hgrow2;obtain⟨c2a,c2b⟩:=c2))
   all_goals
    go_end0
    have hh1:=Hh.out;have ho1:=Hoo.out;have e1:m.length+1=(m++[q]).length:=zl;rw[e1]at ho1 hown2;have hR:=Rd.appended (p:=Zd t) hh1 ho1 Zc hgrow2 hown2;rw[<-e1]at hR;exact⟨rfl,vW,hR.2⟩
theorem ziX(m:List Pc)(q:Pc)(u:ByteArray):(cellsOf ZY (m++[q])).set (m.length*4+1) (.string u)=cellsOf ZY (m++[{q with text:=u}]):=by
 have hl:=Kq ZY 4 J0 m;rw[Xf,Xf,List.set_append_right _ _ (by rw[hl];omega),hl,Nat.add_sub_cancel_left];rfl
theorem Rd.joined{w W:World}{g b c:Nat}{rest t:ByteArray}{m:List Pc}{q:Pc}(hh:w.heap[g]? =some (.cells #[.string rest,.slice (some ⟨b,0,none⟩) (m++[q]).length c] 270 (0,0)))
 (ho:w.ownsRow (g+1) 243 4 (.slice (some ⟨b,0,none⟩) (m++[q]).length c) (m++[q]).length (cellsOf ZY (m++[q])))(hbg:g+1<=b)(hb:Below w.heap.size w W):
 Rd (W.setCell ⟨b,m.length*4+1,none⟩ (.string (q.text++t))) g rest (m++[{q with text:=q.text++t}])/\Below g w (W.setCell ⟨b,m.length*4+1,none⟩ (.string (q.text++t))):=by
 have hlt:=Xc hh;refine⟨⟨.slice (some ⟨b,0,none⟩) (m++[q]).length c,?_,?_⟩,?_⟩
 · rw[heap_setCell_other _ _ _ _ zK,hb.block g hlt];exact hh
 · have h1:=((Ms ho hb).stored (m.length*4+1) (.string (q.text++t))).1;rw[ziX]at h1;have e:(m++[{q with text:=q.text++t}]).length=(m++[q]).length:=zl;rw[e];exact h1
 · exact(hb.mono (X3 hlt)).setCell (p:=⟨b,m.length*4+1,none⟩) zK _
theorem zdN(g:Nat)(rest:ByteArray)(m:List Pc)(q:Pc)(t:ByteArray)(w:World)(h:Rd w g rest (m++[q]))(hn:m.length<=10000)(hk:q.kind=1)(hq:q.text.size<=1000000)(ht:t.size<=1000000):
 Calls prog 198 #[.pointer (some ⟨g,0,none⟩),.agg #[.int .i64 1,.string t,.int .i64 0,.bool false]] w (G9 g rest (m++[q]) (Zd t) w):=by
 obtain⟨v,hh,hown⟩:=h.ex;have hlt:=h.lt;obtain⟨b,c,hA,hbg,hb⟩:=hown.form zl;subst hA;have c1:w.cell? ⟨g,1,none⟩=some (.slice (some ⟨b,0,none⟩) (m.length+1) c):=by rw[cell_of_row _ _ 1 _ _ _ hh];simp
 have cq:w.cell? ⟨b,m.length*4,none⟩=some (.int .i64 1):=by
  rw[hown.cellAt (m.length*4) zl,Xf,ze3 Tz,Kq ZY 4 J0,zj2,<-hk];rfl
 have ct:w.cell? ⟨b,m.length*4+1,none⟩=some (.string q.text):=by
  rw[hown.cellAt (m.length*4+1) zK,Xf,ze3 Tz,Kq ZY 4 J0,Nat.add_sub_cancel_left];rfl
 have ft:w.frozen? ⟨b,m.length*4+1,none⟩=false:=hown.frozenAt _;have Hh:=za hh;have Ho:=za hown;have Hk:=za hk;have Hbg:=za hbg;clear hh hown hk h hbg;go_enter func198,ntmps198;go_wp2;go_region
 all_goals go_wp2
 all_goals
  refine bodyPost_ret (results_none rfl _ _ _) rfl ?_;have hR:=Rd.joined (t:=t) Hh.out Ho.out Hbg.out (W:=w) zj;have hB:=hR.1.lt;refine⟨rfl,?_,(hR.2.alloc (X3 hB) _).drew⟩;rw[Zq,if_pos ⟨rfl,by simp[Hk.out]⟩,Jt];exact hR.1.keep ((zj.alloc zo _).drew)
theorem Iq(g:Nat)(rest:ByteArray)(ps:List Pc)(p:Pc)(w:World)(h:Rd w g rest ps)(hn:ps.length<=10000)(hq:∀q∈ps,q.text.size<=1000000)(ht:p.text.size<=1000000)(hp:p.kind=1->p=Zd p.text):
 Calls prog 198 #[.pointer (some ⟨g,0,none⟩),.agg #[.int .i64 p.kind,.string p.text,.int .i64 p.word,.bool p.more]] w (G9 g rest ps p w):=by
 by_cases hk:p.kind=1
 · rw[hp hk]at ht⊢;by_cases hl:(ps.getLast?.map (·.kind))=some 1
   · rcases List.eq_nil_or_concat ps with h0|⟨m,q,h0⟩
     · subst h0;simp at hl
     · rw[List.concat_eq_append]at h0;subst h0;have hqk:q.kind=1:=by simpa using hl
       exact zdN g rest m q p.text w h (by simp at hn;omega) hqk (hq q zl) ht
   · exact zar g rest ps p.text w h hn hl
 · exact zjh g rest ps p w h hn hk
end
section
open Go.RowKit
theorem zaH(l c:ze):(Lib.indexAny l c= -1/\(l.takeWhile fun b=> !c.contains b).length=l.length)∨(Lib.indexAny l c=(l.takeWhile fun b=> !c.contains b).length/\(l.takeWhile fun b=> !c.contains b).length<l.length):=by
 induction l with
 |nil=>exact Or.inl ⟨rfl,rfl⟩
 | cons b l ih=>
   rw[Lib.indexAny,List.takeWhile_cons];by_cases hb:c.contains b=true
   · rw[if_pos hb,if_neg (by simpa using hb)];exact Or.inr ⟨rfl,Nat.succ_pos _⟩
   · rw[if_neg hb];rw[show(!c.contains b)=true from by simpa using hb,if_pos rfl,u0,u0];rcases ih with⟨h1,h2⟩|⟨h1,h2⟩
     · rw[h1];exact Or.inl ⟨rfl,by rw[h2]⟩
     · right;rw[if_neg (by rw[h1,zm4];omega),h1];exact⟨rfl,zb⟩
structure Qg(w:World)(g:Nat)(s:ByteArray)(p:zZ):Prop where
 box:w.heap[g]? =some (.cells #[.string s,.int .i64 p.a,.bool p.b] 325 (0,0))
 le:p.a<=s.size
 sz:s.size<=1000
 asc:∀b∈L s,b.toNat<128
theorem Qg.cells{w:World}{g:Nat}{s:ByteArray}{p:zZ}(h:Qg w g s p):w.cell? ⟨g,0,none⟩=some (.string s)/\w.cell? ⟨g,1,none⟩=some (.int .i64 p.a)/\w.cell? ⟨g,2,none⟩=some (.bool p.b)/\(∀i,w.frozen? ⟨g,i,none⟩=false)/\g<w.heap.size:=
 ⟨zd h.box rfl,zd h.box rfl,zd h.box rfl,fun _=>frozen_of_row _ _ _ _ _ h.box,zh h.box⟩
theorem Qg.keep{w w':World}{g:Nat}{s:ByteArray}{p:zZ}(h:Qg w g s p)(hb:Below w.heap.size w w'):Qg w' g s p:=⟨(hb.block g (zh h.box)).trans h.box,h.le,h.sz,h.asc⟩
theorem Qg.setA{w:World}{g:Nat}{s:ByteArray}{p:zZ}(h:Qg w g s p){a:Nat}(ha:a<=s.size):Qg (w.setCell ⟨g,1,none⟩ (.int .i64 a)) g s {p with a:=a}:=⟨vU,ha,h.sz,h.asc⟩
theorem Qg.setB{w:World}{g:Nat}{s:ByteArray}{p:zZ}(h:Qg w g s p)(b:Bool):Qg (w.setCell ⟨g,2,none⟩ (.bool b)) g s {p with b:=b}:=⟨vU,h.le,h.sz,h.asc⟩
structure Zm(w:World)(g:Nat)(s:ByteArray)(p:zZ)(w':World):Prop where
 ps:Qg w' g s p
 gr:w.grownBy w' (some g)
theorem Nh(s E:ByteArray)(g:Nat)(p:zZ)(w:World)(h:Qg w g s p)(hE:∀b∈L E,b.toNat<128)(hE2:E.size<=10):
 Calls prog 283 #[.pointer (some ⟨g,0,none⟩),.string E] w fun e w'=>e=.returned (.string (bs (qX (L s) (L E) p.a)))/\Zm w g s (XX (L s) (L E) p) w':=by
 have hsz:=h.sz;have hle:=h.le;have hR:L (s.extract p.a s.size)=(L s).drop p.a:=Mw;have hRz:(s.extract p.a s.size).size=s.size - p.a:=Ic;have HI:=za fun W=>strings_IndexAny_laid (s.extract p.a s.size) E W zb zb (fun j b hb=>by
  have h1:b∈(L s).drop p.a:=by rw[<-hR];exact X7 hb
  exact h.asc b (List.mem_of_mem_drop h1)) (fun j b hb=>hE b (X7 hb))
 have hT:=zaH ((L s).drop p.a) (L E);rw[<-hR]at hT;have HH:=za h;obtain⟨c0,c1,_,hf,hg⟩:=h.cells;have f1:=hf 1;obtain⟨a,b⟩:=p;dsimp only at*;have hEnd:∀n W,n=(qX (L s) (L E) a).length->Below w.heap.size w W->Ending.returned (.string ((s.extract a s.size).extract 0 n))=.returned (.string (bs (qX (L s) (L E) a)))/\Zm w g s (XX (L s) (L E) ⟨a,b⟩) (W.setCell ⟨g,1,none⟩ (.int .i64 (a+n:Nat))):=fun n W hn hW=>by
  have hl:n<=s.size - a:=by
   rw[hn];unfold qX;have:=(List.takeWhile_prefix (fun b=> !(L E).contains b) (l:=(L s).drop a)).length_le;rw[W8,zF]at this;exact this
  refine⟨?_,?_,?_⟩
  · congr 2
    refine KY ?_;rw[Ye,hR,zl4,hn];unfold qX;exact(List.prefix_iff_eq_take.1 (List.takeWhile_prefix _)).symm
  · subst hn;exact(HH.out.keep hW).setA zb
  · exact(zG hW _).trans (qE _ _ _ _)
 have HEnd:=za hEnd;clear hEnd h hf;generalize hr:s.extract a s.size=r at*;rw[hR]at hT;have hz:(L r).length=r.size:=zF r;rw[hR]at hz;have hnT:(qX (L s) (L E) a).length<=r.size:=by
  rw[<-hz];exact(List.takeWhile_prefix _).length_le
 have hT2:(Lib.indexAny (L r) (L E)= -1/\r.size=(qX (L s) (L E) a).length)∨(Lib.indexAny (L r) (L E)=(qX (L s) (L E) a).length):=by
  rw[hR,<-hz];rcases hT with⟨h1,h2⟩|⟨h1,_⟩
  · exact Or.inl ⟨h1,h2.symm⟩
  · exact Or.inr h1
 clear hT hR hz;generalize Lib.indexAny (L r) (L E)=z at*;generalize (qX (L s) (L E) a).length=n at*;have ha:(a:Int)<=s.size:=zb;have HRz:=za hRz

 rcases hT2 with⟨rfl,rfl⟩|rfl
 all_goals
  go_enter func283,ntmps283;go_upto_region 1 with fail
  go_quiet (fail)
  go_wp2_with (go_at_call 197;refine(HI.out _).mono ?_;rintro e w2 ⟨rfl,hb2⟩;have hb:Below w.heap.size w w2:=bt (ZO zj _) hb2;obtain⟨_,q1,_,hf2,hg2⟩:=(HH.out.keep hb).cells;have f2:=hf2 1;have HB:=za hb;clear hf2 hb hb2)
  go_ret
 · exact HEnd.out _ _ HRz.out.symm HB.out
 · exact HEnd.out _ _ rfl HB.out
theorem Da(s T:ByteArray)(g:Nat)(p:zZ)(w:World)(h:Qg w g s p)(hT:T.size<=10):
 Calls prog 304 #[.pointer (some ⟨g,0,none⟩),.string T] w fun e w'=>e=.returned (.bool (Vq (L s) (L T) p))/\Zm w g s (Uf (L s) (L T) p) w':=by
 have hsz:=h.sz;have hle:=h.le;have hR:L (s.extract p.a s.size)=(L s).drop p.a:=Mw;have HI:=fun W=>strings_HasPrefix (s.extract p.a s.size) T W;change∀W,Calls _ _ _ _ (fun e w'=>e=.returned (.bool (Lib.hasPrefix (L (s.extract p.a s.size)) (L T)))/\w'=W)at HI;rw[hR]at HI;have hlt:Vq (L s) (L T) p=true->p.a+T.size<=s.size:=fun e=>by
  have:=(List.isPrefixOf_iff_prefix.1 e).length_le;rw[W8,zF,zF]at this;omega
 have HH:=za h;obtain⟨c0,c1,_,hf,hg⟩:=h.cells;have f1:=hf 1;unfold Uf;change∀W,Calls _ _ _ _ (fun e w'=>e=.returned (.bool (Vq (L s) (L T) p))/\w'=W)at HI;rw[zF];have ha:(p.a:Int)<=s.size:=zb;clear h hf hR;cases hb:Vq (L s) (L T) p with
 | false=>
   rw[hb]at HI;have HI:=za HI;go_enter func304,ntmps304;go_upto_region 1 with fail
   go_quiet ((go_at_call 105;exact Calls.quiet_of_same (HI.out _)))
   go_wp2;go_ret;exact⟨rfl,HH.out.keep (ZO zj _),zG (ZO zj _) _⟩
 | true=>
   rw[hb]at HI;have HI:=za HI;have hl:=hlt hb;go_enter func304,ntmps304;go_upto_region 1 with fail
   go_quiet ((go_at_call 105;exact Calls.quiet_of_same (HI.out _)))
   go_wp2;go_ret;exact⟨rfl,(HH.out.keep (ZO zj _)).setA hl,(zG (ZO zj _) _).trans (qE _ _ _ _)⟩
end
end Go.Proofs.YtecbmndgpepkcaaGreatDoor

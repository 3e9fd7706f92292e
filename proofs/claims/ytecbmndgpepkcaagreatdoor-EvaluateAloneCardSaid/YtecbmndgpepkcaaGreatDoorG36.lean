/- Contracts that the law rests on, each under the premises that it names. -/
import Derived.Test.YtecbmndgpepkcaaGreatDoorWtF
import Derived.Lib.ItoaLen
namespace Go.Proofs.YtecbmndgpepkcaaGreatDoor
open Tryz
set_option maxHeartbeats 8000000
set_option maxRecDepth 100000
section
open Go.RowKit
theorem zhu:(prog.info? 114).map (fun i=>(i.zero,i.size,i.bytes))=some (some (.agg #[.string ⟨#[]⟩,.string ⟨#[]⟩]),2,32):=zg
theorem JY(t:At):∀u∈zw t,u.oneCell'=true:=T8
def VI(l:List At)(y:At)(m:List At):Prop:=∀x∈m,x∈l∨x=y
theorem VI.snoc{l m:List At}{x y:At}(h:VI l y m)(hx:x∈l∨x=y):VI l y (m++[x]):=fun z hz=>by
 rcases List.mem_append.1 hz with hz|hz
 · exact h z hz
 · obtain rfl:=List.mem_singleton.1 hz;exact hx
theorem IW{α:Type}{enc:α->List Value}{W:World}{base k n c:Nat}{e:TypeId}{A:Option Addr}{l2:List α}{xs:List Value}(h:W.ownsRow base e k (.slice A n c) n xs)(hn:n=l2.length)(hx:xs=cellsOf enc l2):W.ownsRow base e k (.slice A l2.length c) l2.length (cellsOf enc l2):=by
 subst hn hx;exact h
def RM(l:List At)(y:At)(w:World)(e:Ending)(w':World):Prop:=∃v m,e=.returned v/\w'.ownsRow w.heap.size 114 2 v m.length (cellsOf zw m)/\m.length<=l.length+1/\VI l y m/\Below w.heap.size w w'
theorem I6 (A:Option Addr)(c:Nat)(l:List At)(nm vl:ByteArray)(w:World)(hl:l.length<=1000)(h:zr w w.heap.size A 2 l.length (cellsOf zw l)):
 Calls prog 27 #[.slice A l.length c,.string nm,.string vl] w (RM l ⟨nm,vl⟩ w):=by
 have H:=za h;clear h;obtain⟨i0,hi0,hz0,hz1,hz2⟩:=info_parts zhu;have Hi0:=za hi0;have Hz0:=za hz0;have Hz1:=za hz1;have Hz2:=za hz2;clear hi0 hz0 hz1 hz2;obtain⟨N,hN⟩:∃N,l.length=N:=⟨_,rfl⟩;have HN:=za hN;have HEnd:Hid (∀(v:Value) (m:List At) (W:World),W.ownsRow w.heap.size 114 2 v m.length (cellsOf zw m)->m.length<=N+1->VI l ⟨nm,vl⟩ m->Below w.heap.size w W->RM l ⟨nm,vl⟩ w (.returned v) W):=za fun v m W h1 h2 h3 h4=>⟨v,m,rfl,h1,by rw[hN];exact h2,h3,h4⟩;rw[hN]at hl⊢;clear hN;generalize hP:RM l ⟨nm,vl⟩ w=P at*;clear hP;go_enter func27,ntmps27;go_wp2_with fail
 go_loopg [7,8,9] (N+1) (fun gk s7 s8 s9 wr=>∃(k:Nat) (B:Option Addr) (d:Nat) (m:List At) (b:Bool),s7=.slice B m.length d/\s8=.bool b/\s9=.int .i64 k/\k+gk=N+1/\k<=N/\m.length<=k+1/\(b=false->m.length<=k)/\Hid (wr.ownsRow w.heap.size 114 2 (.slice B m.length d) m.length (cellsOf zw m))/\Hid (VI l ⟨nm,vl⟩ m)/\Hid (Below w.heap.size w wr))
 case atStart=>exact⟨0,none,0,[],_,rfl,rfl,rfl,zb,X1 _,zl,fun _=>zl,World.ownsRow_nil _ _ _ _,(fun x hx=>YT),zj⟩
 case round=>
  obtain⟨k,B,d,m,b,rfl,rfl,rfl,hkg,hkN,hmk,hmb,hO,hA,hB⟩:=hrel;obtain⟨wo,rfl⟩:∃wo:World,wo=wr:=⟨_,rfl⟩;have hwz:=hB.out.size;by_cases hlt:k<N
  · have hltI:(k:Int)<(N:Int):=by omega
    have hk2:k<l.length:=kz;obtain⟨ba,off,rfl,hba,hc⟩:=H.out.cell Ow hk2;have hx:l[k]? =some l[k]:=l0 hk2;have HC:Hid (∀W,Below w.heap.size w W->W.cell? ⟨ba,off+k*2,none⟩=some (.string l[k].name)/\W.cell? ⟨ba,off+k*2+1,none⟩=some (.string l[k].val)):=za fun W hW=>
     ⟨(hW.cell (p:=⟨ba,off+k*2,none⟩) hba).trans (hc k _ hx 0 _ rfl),(hW.cell (p:=⟨ba,off+k*2+1,none⟩) hba).trans (hc k _ hx 1 _ rfl)⟩
    have HIn:Hid (l[k]∈l):=za (X8 _);obtain⟨c0,c1⟩:=HC.out wo hB.out;generalize l[k]=x at*;obtain⟨xn,xv⟩:=x;dsimp only at c0 c1 HC;clear hc hx hk2;cases hq2:(xn.toList==nm.toList)
    · cases b
      · have hm0:=hmb rfl;clear hmb;cases hq1:Op.bytesLess xn.toList nm.toList
        · skip
          go_wp2_with (first
           |(at_builtin;go_loud (refine wpList_append_lies _ rfl (.tmp 29) (.tmp 33) _ zk w.heap.size 114 i0 _ 2 32 underlying31 Hi0.out Hz0.out Hz1.out Hz2.out rfl zb (.slice B m.length d) (m.length) (cellsOf zw m) zk (hO.out.alloc _) _ 1 1 (zw (⟨nm,vl⟩:At)) zk zk KN (JY _) zb ql zb zK _ rfl ?_;intro g1 cap1 w1 hown1 hgrow1 hat1 hlt1;have HO1:=za hown1;have HB1:Hid (Below w.heap.size w w1):=za ((bt hB.out zu).grown hgrow1 (bt hB.out zu).size (fun j e=>(hO.out.lt j e).1));obtain⟨x10,x11⟩:=HC.out w1 HB1.out;have hz1:=HB1.out.size;clear hown1 hgrow1 hat1 hlt1))
           |(at_builtin;go_loud (refine wpList_append_lies _ rfl (.tmp 42) (.tmp 47) _ zk w.heap.size 114 i0 _ 2 32 underlying31 Hi0.out Hz0.out Hz1.out Hz2.out rfl zb (.slice (some ⟨g1,0,none⟩) (m.length+1) cap1) (m.length+1) (cellsOf zw m++zw (⟨nm,vl⟩:At)) zk (HO1.out.alloc _) _ 1 1 (zw (⟨xn,xv⟩:At)) zk zk KN (JY _) zb ql zb zK _ rfl ?_;intro g2 cap2 w2 hown2 hgrow2 hat2 hlt2;have HO2:=za hown2;have HB2:Hid (Below w.heap.size w w2):=za ((bt HB1.out zu).grown hgrow2 (bt HB1.out zu).size (fun j e=>(HO1.out.lt j e).1));obtain⟨x20,x21⟩:=HC.out w2 HB2.out;have hz2:=HB2.out.size;clear hown2 hgrow2 hat2 hlt2)))
          go_roundg (gk - 1)
          case measure=>omega
          case rel=>exact⟨k+1,_,_,((m++[(⟨nm,vl⟩:At)])++[(⟨xn,xv⟩:At)]),true,by rw[r7,r7];rfl,rfl,zU,zb,zb,zK,(fun h=>qI),IW HO2.out zl XP,(VI.snoc (hA.out.snoc (Or.inr rfl)) (Or.inl HIn.out)),HB2.out⟩
        · skip
          go_wp2_with (first
           |(at_builtin;go_loud (refine wpList_append_lies _ rfl (.tmp 42) (.tmp 47) _ zk w.heap.size 114 i0 _ 2 32 underlying31 Hi0.out Hz0.out Hz1.out Hz2.out rfl zb (.slice B m.length d) (m.length) (cellsOf zw m) zk (hO.out.alloc _) _ 1 1 (zw (⟨xn,xv⟩:At)) zk zk KN (JY _) zb ql zb zK _ rfl ?_;intro g2 cap2 w2 hown2 hgrow2 hat2 hlt2;have HO2:=za hown2;have HB2:Hid (Below w.heap.size w w2):=za ((bt hB.out zu).grown hgrow2 (bt hB.out zu).size (fun j e=>(hO.out.lt j e).1));obtain⟨x20,x21⟩:=HC.out w2 HB2.out;have hz2:=HB2.out.size;clear hown2 hgrow2 hat2 hlt2)))
          go_roundg (gk - 1)
          case measure=>omega
          case rel=>exact⟨k+1,_,_,(m++[(⟨xn,xv⟩:At)]),false,IV,rfl,zU,zb,zb,zK,(fun _=>zK),IW HO2.out zl XP,(VI.snoc hA.out (Or.inl HIn.out)),HB2.out⟩
      · clear hmb;go_wp2_with (first
         |(at_builtin;go_loud (refine wpList_append_lies _ rfl (.tmp 42) (.tmp 47) _ zk w.heap.size 114 i0 _ 2 32 underlying31 Hi0.out Hz0.out Hz1.out Hz2.out rfl zb (.slice B m.length d) (m.length) (cellsOf zw m) zk (hO.out.alloc _) _ 1 1 (zw (⟨xn,xv⟩:At)) zk zk KN (JY _) zb ql zb zK _ rfl ?_;intro g2 cap2 w2 hown2 hgrow2 hat2 hlt2;have HO2:=za hown2;have HB2:Hid (Below w.heap.size w w2):=za ((bt hB.out zu).grown hgrow2 (bt hB.out zu).size (fun j e=>(hO.out.lt j e).1));obtain⟨x20,x21⟩:=HC.out w2 HB2.out;have hz2:=HB2.out.size;clear hown2 hgrow2 hat2 hlt2)))
        go_roundg (gk - 1)
        case measure=>omega
        case rel=>exact⟨k+1,_,_,(m++[(⟨xn,xv⟩:At)]),true,IV,rfl,zU,zb,zb,zK,(fun h=>qI),IW HO2.out zl XP,(VI.snoc hA.out (Or.inl HIn.out)),HB2.out⟩
    · cases b
      · have hm0:=hmb rfl;clear hmb;cases hq1:Op.bytesLess xn.toList nm.toList
        · skip
          go_wp2_with (first
           |(at_builtin;go_loud (refine wpList_append_lies _ rfl (.tmp 29) (.tmp 33) _ zk w.heap.size 114 i0 _ 2 32 underlying31 Hi0.out Hz0.out Hz1.out Hz2.out rfl zb (.slice B m.length d) (m.length) (cellsOf zw m) zk (hO.out.alloc _) _ 1 1 (zw (⟨nm,vl⟩:At)) zk zk KN (JY _) zb ql zb zK _ rfl ?_;intro g1 cap1 w1 hown1 hgrow1 hat1 hlt1;have HO1:=za hown1;have HB1:Hid (Below w.heap.size w w1):=za ((bt hB.out zu).grown hgrow1 (bt hB.out zu).size (fun j e=>(hO.out.lt j e).1));obtain⟨x10,x11⟩:=HC.out w1 HB1.out;have hz1:=HB1.out.size;clear hown1 hgrow1 hat1 hlt1)))
          go_roundg (gk - 1)
          case measure=>omega
          case rel=>exact⟨k+1,_,_,(m++[(⟨nm,vl⟩:At)]),true,IV,rfl,zU,zb,zb,zK,(fun h=>qI),IW HO1.out zl XP,(hA.out.snoc (Or.inr rfl)),HB1.out⟩
        · skip
          go_wp2;go_roundg (gk - 1)
          case measure=>omega
          case rel=>exact⟨k+1,_,_,m,false,rfl,rfl,zU,zb,zb,zb,(fun _=>zb),hO.out,hA.out,hB.out⟩
      · clear hmb;go_wp2;go_roundg (gk - 1)
        case measure=>omega
        case rel=>exact⟨k+1,_,_,m,true,rfl,rfl,zU,zb,zb,zb,(fun h=>qI),hO.out,hA.out,hB.out⟩
  · obtain rfl:k=N:=by omega
    cases b
    · have hm0:=hmb rfl;go_wp2_with (at_builtin;go_loud (refine wpList_append_lies _ rfl (.tmp 51) (.tmp 55) _ zk w.heap.size 114 i0 _ 2 32 underlying31 Hi0.out Hz0.out Hz1.out Hz2.out rfl zb (.slice B m.length d) m.length (cellsOf zw m) zk (hO.out.alloc _) _ 1 1 (zw (⟨nm,vl⟩:At)) zk zk KN (JY _) zb ql zb zK _ rfl ?_;intro g2 cap2 w2 hown2 hgrow2 hat2 hlt2;have HO2:=za hown2;have HB2:Hid (Below w.heap.size w w2):=za ((bt hB.out zu).grown hgrow2 (bt hB.out zu).size (fun j e=>(hO.out.lt j e).1));clear hown2 hgrow2 hat2 hlt2))
      exact HEnd.out _ (m++[(⟨nm,vl⟩:At)]) _ (by have:=IW (l2:=m++[(⟨nm,vl⟩:At)]) (enc:=zw) HO2.out zl XP;rw[r7]at this⊢;exact this) zK (hA.out.snoc (Or.inr rfl)) HB2.out
    · go_wp2;exact HEnd.out _ m _ hO.out zb hA.out hB.out
end
section
open Go.RowKit
abbrev VF:=ZH (α:=At) 114 2 zw
abbrev KB(x:At):Prop:=x.val.size<=200/\x.name.size<=200/\∀b∈L x.val,b.toNat<128
def sA(s:ByteArray):Bool:=decide (s.size<=60)&&s.data.toList.all fun b=>decide (b.toNat<128)
theorem Of{s:ByteArray}(h:sA s=true):s.size<=60/\∀b∈L s,b.toNat<128:=by
 unfold sA at h;rw[zm3,List.all_eq_true]at h;exact⟨by simpa using h.1,fun b hb=>by simpa using h.2 b hb⟩
def sN(s:ByteArray):Bool:=decide (s.size<=60)&&decide (1<=s.size)
theorem OM{s:ByteArray}(h:sN s=true):s.size<=60/\1<=s.size:=by
 unfold sN at h;simpa using h
def Tc(q:ByteArray->Bool)(A:Array Value):Bool:=A.toList.all fun
 | .string s=>q s
 |_=>false
abbrev zfe:=Tc sA
theorem E9{q:ByteArray->Bool}:∀{l:List Value},(l.all fun| .string s=>q s|_=>false)=true->∃ss:List ByteArray,l=ss.map Value.string/\∀s∈ss,q s=true
 | [],_=>⟨[],rfl,fun _ h=>qI⟩
 | v ::r,h=>by
   rw[List.all_cons,zm3]at h;obtain⟨ss,e,hs⟩:=E9 h.2;cases v with
   | string s=>
     refine⟨s::ss,GY,fun x hx=>?_⟩;rcases List.mem_cons.1 hx with rfl|hx
     · exact h.1
     · exact hs x hx
   |_=>simp at h
theorem EU{q:ByteArray->Bool}{w0 W:World}{b n p d:Nat}(A:Array Value)(T:TypeId)(g k c:Nat)(h:qr w0 b n p d W)(hrow:W.heap[g]? =some (.cells A T (0,0)))(hA:Tc q A=true)(hk:A.size=k)(hk0:0<k)(hk1:k<=1000)(hg:g≠b)(h3:p+d<=1000000):
 Calls prog 18 #[.pointer (some ⟨b,0,none⟩),.slice (some ⟨g,0,none⟩) k c] W (GT (q · =true) (zA w0 b n p (d+1) W)):=by
 obtain⟨ss,e,hs⟩:=E9 hA;exact Hv
theorem Iy{q:ByteArray->Bool}{w0 W:World}{b n p d:Nat}(A:Array Value)(T:TypeId)(g k c:Nat)(h:qr w0 b n p d W)(hA:Tc q A=true)(hk:A.size=k)(hk0:0<k)(hk1:k<=1000)(hg:g=W.heap.size)(h3:p+d<=1000000):
 Calls prog 18 #[.pointer (some ⟨b,0,none⟩),.slice (some ⟨g,0,none⟩) k c] (W.alloc (.cells A T)) (GT (q · =true) (zA w0 b n p (d+1) W)):=by
 subst hg;have hs0:=h.size;have hlt:=h.lt;exact(EU A T W.heap.size k c (h.alloc (.cells A T)) (i5 W _) hA hk hk0 hk1 zb h3).mono fun e w' ⟨s,h1,he,ht⟩=>⟨s,h1,he,ht.st,qY (World.grownBy_alloc W _ _) ht.gr⟩
def Ly(hi:Nat)(w0:World)(b n p d:Nat)(w:World)(e:Ending)(w':World):Prop:=∃v l,e=.returned v/\l.length<=hi/\(∀x∈l,KB x)/\VF w0 b n p d w v l w'
theorem VF.set{w0 w W W1:World}{b n p d:Nat}{v v':Value}{l m:List At}(h:VF w0 b n p d w v l W)(hown:W1.ownsRow W.heap.size 114 2 v' m.length (cellsOf zw m))(hb:Below W.heap.size W W1):VF w0 b n p d w v' m W1:=
 ⟨h.nx.grownR (zG hb none) (fun _ e=>ZK),Qq hown h.nx.gr.size,h.lo⟩
theorem vX{l m:List At}{y:At}(h:∀x∈l,KB x)(hy:KB y)(hm:VI l y m):∀x∈m,KB x:=fun x hx=>by
 rcases hm x hx with h1|rfl
 · exact h x h1
 · exact hy
theorem zi3{w0 w:World}{b n p d:Nat}(h:qr w0 b n p d w)(h3:p+d<=90000):
 Calls prog 62 #[.pointer (some ⟨b,0,none⟩)] w (Ly 3 w0 b n p (d+10) w):=by
 have H:=za h;have hlb:=h.lt;have hws:=h.size;clear h;unfold Ly;go_enter func62,ntmps62;go_wp2_with fail
 (with_reducible refine(QO (n:=n) (p:=p) _ H.out zb zb zb).mono ?_)
 rintro e w1 ⟨r,r0,r1,rfl,hT1⟩;obtain⟨rn,rfl⟩:=Int.eq_ofNat_of_zero_le r0;have hrn:rn<=3:=zb;have HT1:=za (ZH.go (ZH.start (T:=114) (kk:=2) (enc:=zw) H.out) hT1);clear hT1 r0 r1;go_wp2_with fail
 go_loopg [3,4] 4 (fun gk s3 s4 wr=>∃(k:Nat) (A:Option Addr) (c:Nat) (l:List At) (D:Nat),s3=.slice A l.length c/\s4=.int .i64 k/\k+1<=gk/\k<=3/\l.length+k<=3/\D+2*k<=d+10/\Hid (∀x∈l,KB x)/\Hid (VF w0 b n p D w (.slice A l.length c) l wr))
 case atStart=>exact⟨rn,none,0,[],d+1,rfl,rfl,zb,hrn,zK,zb,(fun x hx=>YT),HT1.out⟩
 case round=>
  obtain⟨k,A,c,l,D,rfl,rfl,hkg,hk2,hlk,hD,hZ,hR⟩:=hrel;by_cases hk:0<k
  · have hkI:(0:Int)<(k:Int):=by omega
    go_wp2_with fail
    (with_reducible refine(VW (n:=n) (p:=p) 60 _ _ _ _ _ hR.out.nx.st zi zl zi zi zl zb).mono ?_)
    rintro e w2 ⟨s1,hs1,rfl,hT2⟩;have HR2:=za (hR.out.go hT2);clear hT2;go_wp2_with fail
    (with_reducible refine(Iy (q:=sA) (n:=n) (p:=p) _ _ _ _ _ HR2.out.nx.st zi zl zi zi zl zb).mono ?_)
    rintro e w3 ⟨s2,hs2a,rfl,hT3⟩;have hs2:=(Of hs2a).1;have HSa:=za (Of hs2a).2;clear hs2a;have HR3:=za (HR2.out.go hT3);clear hT3;go_wp2_with fail
    refine(I6 A c l s1 s2 w3 zb (zr.of_own HR3.out.own)).mono ?_;rintro e w4 ⟨v4,m,rfl,hown4,hml,hat4,hb4⟩;obtain⟨A4,c4,rfl⟩:=Qf hown4;have HR4:=za (VF.set HR3.out hown4 hb4);have HZ4:=za (vX hZ.out (y:=⟨s1,s2⟩) ⟨by show s2.size<=200;omega,by show s1.size<=200;omega,HSa.out⟩ hat4);clear hown4 hb4 hat4;go_wp2;go_roundg (gk - 1)
    case measure=>omega
    case rel=>exact⟨k - 1,A4,c4,m,D+2,rfl,I9,zb,zb,zb,zb,HZ4.out,HR4.out⟩
  · obtain rfl:k=0:=by omega
    go_wp2;go_ret;exact⟨_,l,rfl,zb,hZ.out,hR.out.more zb⟩
end
section
open Go.RowKit
theorem Env0.nxW{w0 w w':World}{b n p d:Nat}(h:Env0 w)(hT:zA w0 b n p d w w')(hb:nG<=b):Env0 w':=by
 have h1:=h.size;refine h.keep (B:=nG) ⟨hT.gr.os,hT.gr.tape,hT.gr.output,hT.gr.size,fun k hk=>hT.gr.block k zb (fun e=>?_)⟩ zo;have:=zx e;omega
theorem zA.belowW{w0 W W1 W2:World}{b n p d:Nat}(h:zA w0 b n p d W W1)(hb:Below W1.heap.size W1 W2):zA w0 b n p d W W2:=h.grownR (zG hb none) (fun _ e=>ZK)
abbrev Q9:TypeId:=30
structure UO(K:Int)(x:Dv):Prop where
 nam:x.nam.size<=200
 og:x.og.size<=200
 sb:x.sb.size<=200
 dr:x.dr.size<=200
 al:x.al.size<=200
 ats:∀y∈x.ats.l,KB y
 len:x.ats.l.length<=4
 ix1:1<=x.ix
 ix2:x.ix<=K
 pa1:0<=x.pa
 pa2:x.pa<=K
 nb1:0<=x.nb
 nb2:x.nb<=100
 og1:1<=x.og.size
structure kI(K:Int)(ds:List Dv):Prop where
 wf:Z8 (zm ds)
 dv:∀d∈ds,UO K d
theorem UO.mono{K K':Int}{x:Dv}(h:UO K x)(hk:K<=K'):UO K' x:=⟨h.nam,h.og,h.sb,h.dr,h.al,h.ats,h.len,h.ix1,Int.le_trans h.ix2 hk,h.pa1,Int.le_trans h.pa2 hk,h.nb1,h.nb2,h.og1⟩
theorem kI.nil{K:Int}:kI K []:=⟨trivial,fun d hd=>by cases hd⟩
theorem Gs{α:Type}{l:List α}{x y:α}{m:Nat}(h:y∈l.take m++x::l.drop m):y=x∨y∈l:=by
 rcases List.mem_append.1 h with h|h
 · exact Or.inr (List.mem_of_mem_take h)
 · rcases List.mem_cons.1 h with h|h
   · exact Or.inl h
   · exact Or.inr (List.mem_of_mem_drop h)
end
section
open Go.RowKit
abbrev XR:TypeId:=107
def Ux:List Hp:=[⟨⟨#[112,114,111,98,101,32,115,100,42]⟩,⟨#[111,110,101,32,116,119,111,59,73,68,95,65,61,49,59,73,68,95,66,61,120,32,121]⟩,false,2⟩,⟨⟨#[112,114,111,98,101,32,42]⟩,⟨#[73,68,95,65,61,55]⟩,true,1⟩,⟨⟨#[115,99,97,110,32,63]⟩,⟨#[73,68,95,70,83,95,85,85,73,68,61,117,57,59,68,82,73,86,69,82,61,110,111,59,98,97,100]⟩,false,3⟩,⟨⟨#[101,110,118]⟩,⟨#[73,68,95,66,61,50,59,73,68,95,67,61,51]⟩,false,0⟩,⟨⟨#[115,108,111,119,42]⟩,⟨#[108,97,116,101]⟩,false,50⟩,⟨⟨#[97,99,116,32,42,124,108,111,103]⟩,⟨#[100,111,110,101]⟩,false,1⟩]
def SP:Array Value:=#[.string ⟨#[112,114,111,98,101,32,115,100,42]⟩,.string ⟨#[111,110,101,32,116,119,111,59,73,68,95,65,61,49,59,73,68,95,66,61,120,32,121]⟩,.bool false,.int .i64 2,.string ⟨#[112,114,111,98,101,32,42]⟩,.string ⟨#[73,68,95,65,61,55]⟩,.bool true,.int .i64 1,.string ⟨#[115,99,97,110,32,63]⟩,.string ⟨#[73,68,95,70,83,95,85,85,73,68,61,117,57,59,68,82,73,86,69,82,61,110,111,59,98,97,100]⟩,.bool false,.int .i64 3,.string ⟨#[101,110,118]⟩,.string ⟨#[73,68,95,66,61,50,59,73,68,95,67,61,51]⟩,.bool false,.int .i64 0,.string ⟨#[115,108,111,119,42]⟩,.string ⟨#[108,97,116,101]⟩,.bool false,.int .i64 50,.string ⟨#[97,99,116,32,42,124,108,111,103]⟩,.string ⟨#[100,111,110,101]⟩,.bool false,.int .i64 1]
theorem zax:SP.toList=cellsOf QE Ux:=rfl
theorem AV:∀x∈Ux,0<=x.ticks/\x.out.size<=256/\x.cmd.size<=256:=zi
theorem zhz:(prog.info? XR).map (fun i=>(i.zero,i.size,i.bytes))=some (some (.agg #[.string ⟨#[]⟩,.string ⟨#[]⟩,.bool false,.int .i64 0]),4,48):=zg
theorem zeI(t:Hp):∀u∈QE t,u.oneCell'=true:=by simp[QE,Value.oneCell']
abbrev Y1:=ZH (α:=Hp) XR 4 QE
def vh(w0:World)(b n p d:Nat)(w:World)(e:Ending)(w':World):Prop:=∃v l z,e=.returned (.tuple #[v,.int .i64 z])/\l.length<=6/\(∀x∈l,x∈Ux)/\1<=z/\z<=60/\Y1 w0 b n p d w v l w'
theorem zjK{W:World}{HA:Option Addr}{l:List Hp}(h:zr W W.heap.size HA 4 l.length (cellsOf QE l)){k:Nat}(hk:k<l.length):∃ba off,HA=some ⟨ba,off,none⟩/\ba<W.heap.size/\W.cell? ⟨ba,off+k*4,none⟩=some (.string l[k].cmd)/\W.cell? ⟨ba,off+k*4+1,none⟩=some (.string l[k].out)/\W.cell? ⟨ba,off+k*4+2,none⟩=some (.bool l[k].fails)/\W.cell? ⟨ba,off+k*4+3,none⟩=some (.int .i64 l[k].ticks):=by
 obtain⟨ba,off,e,hb,hc⟩:=h.cell (enc:=QE) (fun _=>rfl) hk;have h0:=hc k l[k] (l0 hk) 0 _ rfl;have h1:=hc k l[k] (l0 hk) 1 _ rfl;have h2:=hc k l[k] (l0 hk) 2 _ rfl;have h3:=hc k l[k] (l0 hk) 3 _ rfl;rw[<-zk5]at h0 h1 h2 h3;exact⟨ba,off,e,hb,h0,h1,h2,h3⟩
theorem zfY{w0 w:World}{b n p d:Nat}(h:qr w0 b n p d w)(h3:p+d<=90000):
 Calls prog 23 #[.pointer (some ⟨b,0,none⟩)] w (vh w0 b n p (d+10) w):=by
 have hws:=h.size;have hlb:=h.lt;obtain⟨w1,hw1⟩:∃w1,w.alloc (.cells #[.string ⟨#[112,114,111,98,101,32,115,100,42]⟩,.string ⟨#[111,110,101,32,116,119,111,59,73,68,95,65,61,49,59,73,68,95,66,61,120,32,121]⟩,.bool false,.int .i64 2,.string ⟨#[112,114,111,98,101,32,42]⟩,.string ⟨#[73,68,95,65,61,55]⟩,.bool true,.int .i64 1,.string ⟨#[115,99,97,110,32,63]⟩,.string ⟨#[73,68,95,70,83,95,85,85,73,68,61,117,57,59,68,82,73,86,69,82,61,110,111,59,98,97,100]⟩,.bool false,.int .i64 3,.string ⟨#[101,110,118]⟩,.string ⟨#[73,68,95,66,61,50,59,73,68,95,67,61,51]⟩,.bool false,.int .i64 0,.string ⟨#[115,108,111,119,42]⟩,.string ⟨#[108,97,116,101]⟩,.bool false,.int .i64 50,.string ⟨#[97,99,116,32,42,124,108,111,103]⟩,.string ⟨#[100,111,110,101]⟩,.bool false,.int .i64 1] XR)=w1:=⟨_,rfl⟩;have hb1:Below w.heap.size w w1:=ZX;have hr1:w1.heap[w.heap.size]? =some (.cells SP XR (0,0)):=Qo;obtain⟨HA,hHA⟩:∃HA:Option Addr,some ⟨w.heap.size,0,none⟩=HA:=⟨_,rfl⟩;have HRw:Hid (zE w1 HA 4 Ux.length (cellsOf QE Ux)):=za (by rw[<-hHA];exact⟨⟨rfl,fun _=>⟨w.heap.size,0,rfl,zh hr1,fun j u hu=>by rw[zk4];exact zd hr1 (by rw[<-zm2,zax];exact hu)⟩⟩,fun a e=>by injection e with e;rw[<-e];exact⟨rfl,zh hr1⟩⟩);have HAb:Hid (∀a,HA=some a->a.block≠b):=za (fun a e=>by rw[<-hHA]at e;injection e with e;rw[<-e];show w.heap.size≠b;omega);have HT1:Hid (Y1 w0 b n p d w1 (.slice none 0 0) [] w1):=za (ZH.start (h.below hb1));have HEnd:Hid (∀(d':Nat) (v:Value) (l:List Hp) (W:World),Y1 w0 b n p d' w1 v l W->Y1 w0 b n p d' w v l W):=za (fun d' v l W hR=>⟨hR.nx.of_below hb1,Qq hR.own hb1.size,hws⟩);have HW1:=za hw1;have HHA:=za hHA;clear hb1 hr1 hw1 hHA h;obtain⟨i0,hi0,hz0,hz1,hz2⟩:=info_parts zhz;have Hi0:=za hi0;have Hz0:=za hz0;have Hz1:=za hz1;have Hz2:=za hz2;clear hi0 hz0 hz1 hz2;unfold vh;go_enter func23,ntmps23;go_upto_region 2 with fail
 rw[HHA.out,HW1.out];go_wp2_with fail
 go_loopg [5,6] 7 (fun gk s5 s6 wr=>∃(k:Nat) (v:Value) (l:List Hp),v=s5/\s6=.int .i64 k/\k+gk=7/\k<=6/\l.length<=k/\Hid (∀x∈l,x∈Ux)/\Hid (Y1 w0 b n p (d+k) w1 v l wr))
 case atStart=>exact⟨0,_,[],rfl,rfl,rfl,zb,zl,za (fun x hx=>YT),HT1.out⟩
 case round=>
 obtain⟨k,v,l,rfl,rfl,hkg,hk6,hlk,HM,HR⟩:=hrel;by_cases hlt:k<6
 · have hltI:(k:Int)<6:=by omega
   go_wp2_with fail
   (with_reducible refine(QO (n:=n) (p:=p) _ HR.out.nx.st zb zb zb).mono ?_)
   rintro e w2 ⟨r,r0,r1,rfl,hT⟩;have HR2:=za (HR.out.go hT);clear hT;by_cases hr:0<r
   · have hk6':k<Ux.length:=by show k<6;exact hlt
     obtain⟨ba,off,rfl,hba,x0,x1,x2,x3⟩:=zjK (HRw.out.grown HR2.out.nx.gr (fun a ha q=>HAb.out a ha (zx q))).row hk6';have HMem:Hid (Ux[k]∈Ux):=za (X8 hk6');generalize Ux[k]=x at*;have HS2:Hid (∀y∈l++[x],y∈Ux):=za (fun y hy=>by
      rcases List.mem_append.1 hy with hy|hy
      · exact HM.out y hy
      · rw[List.mem_singleton.1 hy];exact HMem.out)
     have hw2:=HR2.out.nx.gr.size;clear hk6';go_wp2_with (refine wpList_append_lies _ rfl _ _ _ zk w1.heap.size XR i0 _ 4 48 underlying35 Hi0.out Hz0.out Hz1.out Hz2.out rfl zb v l.length (cellsOf QE l) zk (HR2.out.alloc _).own _ 1 1 (QE x) zk zk Fc (zeI _) zb ql zb zK _ rfl ?_;intro g2 cap w3 hown2 hgrow2 hat2 hlt2)
     have HR3:=za ((HR2.out.alloc _).snoc hown2 hgrow2);clear hown2 hgrow2 hat2;go_wp2;go_roundg (gk - 1)
     case measure=>omega
     case rel=>exact⟨k+1,_,l++[x],rfl,zU,zb,zb,zK,HS2,HR3⟩
   · go_wp2;go_roundg (gk - 1)
     case measure=>omega
     case rel=>exact⟨k+1,v,l,rfl,zU,zb,zb,zb,HM,HR2⟩
 · obtain rfl:k=6:=by omega
   go_wp2_with fail
   (with_reducible refine(QO (n:=n) (p:=p) _ HR.out.nx.st zb zb zb).mono ?_)
   rintro e w2 ⟨r,r0,r1,rfl,hT⟩;have HR2:=za (HR.out.go hT);clear hT;go_wp2;refine bodyPost_ret (v:=.tuple #[v,.int .i64 (1+r)]) (by simp[results,results23,go_sem, *]) rfl ?_;exact⟨v,l,1+r,rfl,hlk,HM.out,zb,zb,HEnd.out _ _ _ _ (HR2.out.more zb)⟩
def LF(w0:World)(b n p d:Nat)(w:World)(e:Ending)(w':World):Prop:=∃z:Int,e=.returned (.int .i64 z) /\ -1<=z/\z<=1000/\zA w0 b n p d w w'
theorem za9{w0 w:World}{b n p d:Nat}(h:qr w0 b n p d w)(h3:p+d<=90000)(A:Option Addr)(c:Nat)(ds:List Dv)(hD:qj w A ds)(hF:qV w0.heap.size A)(hz:∀x∈ds,UO 1000 x):
 Calls prog 22 #[.pointer (some ⟨b,0,none⟩),zV A ds c] w (LF w0 b n p (d+3) w):=by
 have hlb:=h.lt;have hws:=h.size;have hlen:=hD.len;obtain⟨w1,hw1⟩:∃w1,w.alloc (.cells #[.slice A ds.length c] Q9)=w1:=⟨_,rfl⟩;have hb1:Below w.heap.size w w1:=ZX;have hr1:w1.heap[w.heap.size]? =some (.cells #[.slice A ds.length c] Q9 (0,0)):=Qo;have H1:=za (h.below hb1);have HD1:=za (hD.keep hb1).row;have HFr:=za hF;have HZ:=za hz;have HEnd:Hid (∀(D:Nat) (z:Int) (W:World),D<=d+3->zA w0 b n p D w1 W -> -1<=z->z<=1000->LF w0 b n p (d+3) w (.returned (.int .i64 z)) W):=za fun D z W hD hT h1 h2=>⟨z,rfl,h1,h2,(hT.of_below hb1).more hD⟩;have HR1:=za hr1;have HW1:=za hw1;have hlW:w.heap.size<w1.heap.size:=zh hr1;clear hD hF hz h hb1 hr1 hw1;unfold zV;obtain⟨N,hN⟩:∃N,ds.length=N:=⟨_,rfl⟩;have HN:=za hN;rw[hN]at hlen HR1 HW1⊢;clear hN;go_enter func22,ntmps22;go_upto_region 1 with fail
 rw[HW1.out];have t0:=zd (j:=0) HR1.out rfl;by_cases h0:N=0
 · subst h0;go_wp2_with fail
   (with_reducible refine(QO (n:=n) (p:=p) _ H1.out zb zb zb).mono ?_)
   rintro e w2 ⟨r,r0,r1,rfl,hT⟩;go_wp2;go_ret;exact HEnd.out _ _ _ zb hT zb zb
 · have hkp:(0:Int)<(N:Int):=by omega
   go_wp2_with fail
   (with_reducible refine(QO (n:=n) (p:=p) _ H1.out zb zb zb).mono ?_)
   rintro e w2 ⟨r8,r80,r81,rfl,hT⟩;have HT2:=za hT;have hl2:=i4 hlW hT.gr.size;have HD2:=za (HD1.out.grown hT.gr (fun a ha e=>TE));have HTc:=za (hT.blk HR1.out zb);clear hT;by_cases hr:0<r8
   · have t1:=zd (j:=0) HTc.out rfl;obtain⟨ba,off,rfl,hba,hcx⟩:=HD2.out.row.cell Xl VK;obtain⟨rr,r0,r1,hNx⟩:=J9 (n:=n) (p:=p) (N:Int) HT2.out.st zb zb zb;obtain⟨rn,rfl⟩:=Int.eq_ofNat_of_zero_le r0;have hrn:rn<ds.length:=VK;have hcx0:=hcx rn ds[rn] (l0 hrn) 0 _ rfl;rw[zk3]at hcx0;have hyz:=HZ.out ds[rn] (X8 hrn);have hy1:=hyz.ix1;have hy2:=hyz.ix2;generalize ds[rn].ix=yi at*;have HFk:=za (HFr.out _ rfl);have hbn:ba≠b:=R7;have HNx:=za hNx;have HX0:=za hcx0;have hrk:(rn:Int)<(N:Int):=r1;clear hcx hrn hNx hyz t0;obtain⟨wd,hwd⟩:∃wd,w2.drew=wd:=⟨_,rfl⟩;have HBd:Hid (Below w2.heap.size w2 wd):=za (by rw[<-hwd];exact zj.drew);have HWd:=za hwd;clear hwd;go_upto_region 3 with fail
     go_region_with (go_at_call 17;go_loud (rw[HWd.out]);go_loud ((with_reducible refine(HNx.out _ HBd.out).mono ?_));rintro e w9 ⟨rfl,hT⟩;have HT9:=za ((HT2.out.belowW HBd.out).trans hT);have t9:=zd (j:=0) (hT.blk ((HBd.out.block _ (zh HTc.out)).trans HTc.out) zb) rfl;have x9:=(hT.cell ba (off+rn*10) (i4 hba HBd.out.size) hbn).trans ((HBd.out.cell (p:=⟨ba,off+rn*10,none⟩) hba).trans HX0.out);clear hT)
     all_goals
      go_wp2;go_ret;exact HEnd.out _ _ _ zb HT9.out zb zb
   · go_wp2_with fail
     (with_reducible refine(QO (n:=n) (p:=p) _ HT2.out.st zb zb zb).mono ?_)
     rintro e w3 ⟨r,r0,r1,rfl,hT⟩;go_wp2;go_ret;exact HEnd.out _ _ _ zb (HT2.out.trans hT) zb zb
end
section
open Go.RowKit
abbrev zeC:TypeId:=114
structure Uq(w0:World)(k:Nat)(W:World)(A:Option Addr)(c:Nat)(l:List At):Prop where
 own:W.ownsRow w0.heap.size zeC 2 (.slice A l.length c) l.length (cellsOf zw l)
 len:l.length<=k
 sz:∀x∈l,x.name.size<=100/\x.val.size<=300000
 bl:Below w0.heap.size w0 W
theorem Uq.keep{w0 W W1:World}{k:Nat}{A:Option Addr}{c:Nat}{l:List At}(h:Uq w0 k W A c l)(hb:Below W.heap.size W W1):Uq w0 k W1 A c l:=⟨qi h.own hb,h.len,h.sz,bt h.bl hb⟩
theorem Uq.more{w0 W:World}{k k':Nat}{A:Option Addr}{c:Nat}{l:List At}(h:Uq w0 k W A c l)(hk:k<=k'):Uq w0 k' W A c l:=⟨h.own,i3 h.len hk,h.sz,h.bl⟩
theorem Uq.nil{w0 W:World}(hb:Below w0.heap.size w0 W):Uq w0 0 W none 0 []:=⟨World.ownsRow_nil _ _ _ _,zo,(fun x hx=>YT),hb⟩
theorem KZ{w0 W:World}{k:Nat}{A:Option Addr}{c:Nat}{l:List At}(h:Uq w0 k W A c l)(hk:k<=100)(nm vl:ByteArray)(hn:nm.size<=100)(hv:vl.size<=300000):
 Calls prog 27 #[.slice A l.length c,.string nm,.string vl] W fun e w'=>∃A' c' m,e=.returned (.slice A' m.length c')/\Uq w0 (k+1) w' A' c' m/\Below W.heap.size W w':=by
 refine(I6 A c l nm vl W NL (zr.of_own h.own)).mono ?_;rintro e w' ⟨v,m,rfl,hown,hml,hat,hb⟩;obtain⟨A',c',rfl⟩:=Qf hown;refine⟨A',c',m,rfl,⟨Qq hown h.bl.size,NL,fun x hx=>?_,bt h.bl hb⟩,hb⟩;rcases hat x hx with h1|rfl
 · exact h.sz x h1
 · exact⟨hn,hv⟩
def RR(hi:Nat)(w:World)(e:Ending)(w':World):Prop:=∃A c l,e=.returned (.slice A l.length c)/\Uq w hi w' A c l
theorem zfM(n:Int)(h0: -9223372036854775808<=n)(h1:n<=9223372036854775807):(bs (Lib.itoa n)).size<=300000:=by
 have:=Lib.itoa_length_le n h0 h1;rw[Zg];omega
theorem zeT(A:Option Addr)(c:Nat)(ds:List Dv)(n:Int)(w:World)(hE:Env0 w)(h:qj w A ds)(hl:ds.length<=100)(hz:∀d∈ds,UO 1000 d):
 Calls prog 26 #[zV A ds c,.int .i64 n] w (RR 7 w):=by
 obtain⟨w1,hw1⟩:∃w1,w.alloc (.cells #[.slice A ds.length c] Q9)=w1:=⟨_,rfl⟩;have hb1:Below w.heap.size w w1:=ZX;have hr1:w1.heap[w.heap.size]? =some (.cells #[.slice A ds.length c] Q9 (0,0)):=Qo;have HF:=za (RH A c ds n w1 (h.keep hb1));have HPl:=za (fun(W:World) (hW:Below w.heap.size w W)=>Fw A c ds n W (h.keep hW) hl (fun d hd=>by have:=(hz d hd).og;omega));have HNd:=za (fun(ix pa:Int) (nam og sb dr al:ByteArray) (kd nb:Int) (A:Option Addr) (n c:Nat) (W:World) (hW:Below w.heap.size w W) (hs:og.size<=1000)=>PI ix pa nam og sb dr al kd nb A n c W (hE.go hW) hs);have HIt:=za (fun(nb:Int) (h1:0<=nb) (h2:nb<=100) (W:World) (hW:Below w.heap.size w W)=>If nb zb zb W (hE.go hW));unfold zV at HF HPl;have HZ:=za hz;have HTr:Hid (∀W:World,Below w1.heap.size w1 W->W.cell? ⟨w.heap.size,0,none⟩=some (.slice A ds.length c)):=za fun W hW=>zd ((hW.block _ (zh hr1)).trans hr1) rfl;have HB1:=za hb1;have HW1:=za hw1;have hlW:w.heap.size<w1.heap.size:=zh hr1;have c0:=HTr.out w1 zj;clear hb1 hr1 hw1 h hE hl hz;unfold zV RR;obtain⟨N,hN⟩:∃N,ds.length=N:=⟨_,rfl⟩;rw[hN]at HF HPl HTr HW1 c0⊢;clear hN;go_enter func26,ntmps26;go_upto_region 1 with fail
 rw[HW1.out];cases hfx:YE ds n with
 | none=>
   rw[hfx]at HF;unfold KG zY at HF;dsimp only[Option.getD,Option.isSome]at HF;go_wp2_with (go_at_call 24;refine HF.out.mono ?_;rintro e w3 ⟨rfl,hb3⟩)
   go_ret;exact⟨none,0,[],rfl,(Uq.nil (zP (bt HB1.out hb3))).more (X1 _)⟩
 | some x=>
   rw[hfx]at HF;unfold KG zY at HF;dsimp only[Option.getD,Option.isSome]at HF;have hzx:=HZ.out x (R3 hfx).1;obtain⟨ix,pa,nam,og,sb,dr,al,kd,nb,⟨SA,sc,l⟩⟩:=x;have z1:=hzx.og;have z2:=hzx.sb;have z3:=hzx.dr;have z4:=hzx.al;have z5:=hzx.nb1;have z6:=hzx.nb2;dsimp only at z1 z2 z3 z4 z5 z6 HF;clear hzx hfx HZ;generalize l.length=ln at*;go_upto_region 4 with(go_at_call 24;refine HF.out.mono ?_;rintro e w3 ⟨rfl,hb3⟩;have HB3:=za hb3;clear hb3)
   obtain⟨w4,hw4⟩:∃w4,w3.alloc (.cells #[.int .i64 ix,.int .i64 pa,.string nam,.string og,.string sb,.string dr,.string al,.int .i64 kd,.int .i64 nb,.slice SA ln sc] zp)=w4:=⟨_,rfl⟩;have hb4:Below w1.heap.size w1 w4:=by rw[<-hw4];exact zP HB3.out
   have hq4:w4.heap[w3.heap.size]? =some (.cells #[.int .i64 ix,.int .i64 pa,.string nam,.string og,.string sb,.string dr,.string al,.int .i64 kd,.int .i64 nb,.slice SA ln sc] zp (0,0)):=by rw[<-hw4];exact qt
   have HQ:=za (fun(W:World) (hW:Below w4.heap.size w4 W)=>(Xq ((hW.block _ (zh hq4)).trans hq4)).1);have hlq:w3.heap.size<w4.heap.size:=zh hq4;have hl4:w.heap.size<w4.heap.size:=i4 hlW hb4.size;have HB4:=za hb4;have HB04:=za (bt HB1.out hb4);rw[hw4];clear hw4 hb4 hq4 c0;generalize w3.heap.size=q at*;have c0:=HTr.out w4 HB4.out;obtain⟨a0,a1,a2,a3,a4,a5,a6,a7,a8,a9⟩:=HQ.out w4 zj;go_upto_region 10 with(first
    |(go_at_call 25;refine(HPl.out _ HB04.out).mono ?_;rintro e w5 ⟨s5,rfl,hs5,hb5⟩;have H0:=za (Uq.nil (w0:=w) (bt HB04.out hb5));have HBa:=za hb5;(have hs5':s5.size<=300000:=zb);clear hb5)
    |(go_at_call 47;refine(HNd.out _ _ _ _ _ _ _ _ _ _ _ _ _ (bt HB04.out HBe.out) zb).mono ?_;rintro e wn ⟨sn,bn,rfl,hsn,hbn⟩;have H5:=za (H4.out.keep hbn);have HBf:=za (bt HBe.out hbn);obtain⟨f0,f1,f2,f3,f4,f5,f6,f7,f8,f9⟩:=HQ.out _ (bt HBe.out hbn);clear hbn)
    |(go_at_call 27;(with_reducible refine(KZ H3.out zi _ _ zi zb).mono ?_);rintro e w9 ⟨X4,x4,m4,rfl,h4,hb⟩;have H4:=za h4;have HBe:=za (bt HBd.out hb);obtain⟨e0,e1,e2,e3,e4,e5,e6,e7,e8,e9⟩:=HQ.out _ (bt HBd.out hb);clear h4 hb)
    |(go_at_call 27;(with_reducible refine(KZ H2.out zi _ _ zi zb).mono ?_);rintro e w8 ⟨X3,x3,m3,rfl,h3,hb⟩;have H3:=za h3;have HBd:=za (bt HBc.out hb);obtain⟨d0,d1,d2,d3,d4,d5,d6,d7,d8,d9⟩:=HQ.out _ (bt HBc.out hb);clear h3 hb)
    |(go_at_call 27;(with_reducible refine(KZ H1.out zi _ _ zi zb).mono ?_);rintro e w7 ⟨X2,x2,m2,rfl,h2,hb⟩;have H2:=za h2;have HBc:=za (bt HBb.out hb);obtain⟨b0,b1,b2,b3,b4,b5,b6,b7,b8,b9⟩:=HQ.out _ (bt HBb.out hb);clear h2 hb)
    |(go_at_call 27;refine(KZ H0.out zi _ _ zi zb).mono ?_;rintro e w6 ⟨X1,x1,m1,rfl,h1,hb⟩;have H1:=za h1;have HBb:=za (bt HBa.out hb);obtain⟨b0,b1,b2,b3,b4,b5,b6,b7,b8,b9⟩:=HQ.out _ (bt HBa.out hb);clear h1 hb))
   clear a0 a1 a2 a3 a4 a5 a6 a7 a8 a9 b0 b1 b2 b3 b4 b5 b6 b7 b8 b9 d0 d1 d2 d3 d4 d5 d6 d7 d8 d9 e0 e1 e2 e3 e4 e5 e6 e7 e8 e9;by_cases hk:kd=4
   · subst hk;cases bn with
     | true=>
       exact Ns
     | false=>
       exact Ns
   · have hk2:(kd==4)=false:=by simpa using hk
     cases bn with
     | true=>
       exact Ns
     | false=>
       exact Ns
end
end Go.Proofs.YtecbmndgpepkcaaGreatDoor

/- Contracts that the law rests on, each under the premises that it names. -/
import Derived.Test.YtecbmndgpepkcaaGreatDoorAssignA
import Derived.Test.YtecbmndgpepkcaaGreatDoorAssignB
import Derived.Test.YtecbmndgpepkcaaGreatDoorMatches
import Derived.Test.YtecbmndgpepkcaaGreatDoorWInput
import Derived.Test.YtecbmndgpepkcaaGreatDoorKnL
namespace Go.Proofs.YtecbmndgpepkcaaGreatDoor
open Tryz
set_option maxHeartbeats 8000000
set_option maxRecDepth 100000
section
open Go.RowKit
theorem Ri{w0 w:World}{b n p d:Nat}(h:qr w0 b n p d w)(h3:p+d<=100000):
 Calls prog 14 #[.pointer (some ⟨b,0,none⟩)] w (Oe 60 (zA w0 b n p (d+10) w)):=by
 obtain⟨r,r0,r1,hF0⟩:=J9 14 h zb zb zb;have hr:r=4∨r=9∨r=10∨r=0∨r=1∨r=2∨r=3∨r=5∨r=6∨r=7∨r=8∨r=11∨r=12∨r=13:=zb;clear r0 r1;rcases hr with rfl|rfl|rfl|hr
 · exact zdQ h h3 hF0
 · exact zcF h h3 hF0
 · exact zfO h h3 hF0
 have hwb:w.heap.size≠b:=IG;have hws:=h.size;have HF0:=za hF0;clear h hF0;rcases hr with rfl|rfl|rfl|rfl|rfl|rfl|rfl|rfl|rfl|rfl|rfl
 all_goals
  go_enter func14,ntmps14;go_wp2_with fail
  with_reducible refine(HF0.out _ Zc).mono ?_
  rintro e w2 ⟨rfl,hT2⟩;have HT:=za hT2;clear hT2;go_wp2_with (first|(go_at_call 17;(with_reducible refine(QO (n:=n) (p:=p) _ HT.out.st zb zb zb).mono ?_);rintro e wN ⟨q,q0,q1,rfl,hT⟩;have HT:=za (HT.out.trans hT);clear hT)|(go_at_call 18;(with_reducible refine(VW (n:=n) (p:=p) 60 _ _ _ _ _ HT.out.st zi zl zi zi zl zb).mono ?_);rintro e wN ⟨s,hs,rfl,hT⟩;have HT:=za (HT.out.trans hT);clear hT)|(refine wpList_store_row rfl 52 _ _ rfl _ _ rfl rfl _ _ (HT.out.blk (i5 w _) hwb) Ok rfl qP ?_))
 all_goals
  refine Yx rfl zk (HT.out.blk (i5 w _) hwb) underlying52 rfl Ok zk ?_;exact⟨⟨_,_,_,_⟩,⟨Mz,Mz,JD,JD,JD,JD⟩,by dsimp only;first|decide|omega,rfl,((zA.alloc HT.out).more zb).setRow zo hws _⟩
end
section
open Go.RowKit
structure TQ(w0:World)(b n p d:Nat)(w:World)(v:Value)(l:List Tm)(W:World):Prop where
 row:ZH 52 4 zQ w0 b n p d w v l W
 small:∀t∈l,Yz 60 t
def zem(lo hi:Nat)(w0:World)(b n p d:Nat)(w:World)(e:Ending)(w':World):Prop:=∃v l,e=.returned v/\lo<=l.length/\l.length<=hi/\TQ w0 b n p d w v l w'
theorem OP{l:List Tm}{t:Tm}(h:∀x∈l,Yz 60 x)(ht:Yz 60 t):∀x∈l++[t],Yz 60 x:=fun x hx=>by
 rcases List.mem_append.1 hx with hx|hx
 · exact h x hx
 · obtain rfl:=List.mem_singleton.1 hx;exact ht
theorem zdm{l:List Tm}{t:Tm}(h:∀x∈l,Yz 60 x)(ht:Yz 60 t):∀x∈t::l,Yz 60 x:=fun x hx=>by
 rcases List.mem_cons.1 hx with rfl|hx
 · exact ht
 · exact h x hx
theorem zaM(l:List Tm):∀u∈cellsOf zQ l,u.oneCell'=true:=fun u hu=>by
 unfold cellsOf at hu;obtain⟨t,_,hu⟩:=List.mem_flatMap.1 hu;exact Iz t u hu
theorem ZH.cons{α:Type}{T:TypeId}{kk:Nat}{enc:α->List Value}{w0 w W W2:World}{b n p d c B:Nat}{A:Option Addr}{v:Value}{l:List α}{t:α}(h:ZH T kk enc w0 b n p d w v l W)(hown:W2.ownsRow w.heap.size T kk (.slice A (1+l.length) c) (1+l.length) (enc t++cellsOf enc l))(hg:W.grownBy W2 (some B))(hB:w.heap.size<=B):ZH T kk enc w0 b n p d w (.slice A (1+l.length) c) (t::l) W2:=
 ⟨h.nx.grownR hg (fun j e=>by cases e;have:=h.lo;omega),by rw[u0,zk6 l.length 1];exact hown,h.lo⟩
theorem zkr{w0 w:World}{b n p d:Nat}(h:qr w0 b n p d w)(h3:p+d<=90000):
 Calls prog 19 #[.pointer (some ⟨b,0,none⟩)] w (zem 1 6 w0 b n p (d+100) w):=by
 have H:=za h;have hlb:=h.lt;have hws:=h.size;clear h;obtain⟨i0,hi0,hz0,hz1,hz2⟩:=info_parts BH;have Hi0:=za hi0;have Hz0:=za hz0;have Hz1:=za hz1;have Hz2:=za hz2;clear hi0 hz0 hz1 hz2;go_enter func19,ntmps19;go_wp2_with fail
 (with_reducible refine(QO (n:=n) (p:=p) _ H.out zb zb zb).mono ?_)
 rintro e w1 ⟨r,r0,r1,rfl,hT1⟩;obtain⟨rn,rfl⟩:=Int.eq_ofNat_of_zero_le r0;have hrn:rn<=2:=zb;have HT1:=za (ZH.go (ZH.start (T:=52) (kk:=4) (enc:=zQ) H.out) hT1);clear hT1 r0 r1;go_wp2_with fail
 go_loopg [3,4] 3 (fun gk s3 s4 wr=>∃(k:Nat) (v:Value) (l:List Tm) (D:Nat),v=s3/\s4=.int .i64 k/\k+1<=gk/\k<=2/\l.length+k<=2/\D+10*k<=d+21/\Hid (TQ w0 b n p D w v l wr))
 case atStart=>exact⟨rn,_,[],d+1,rfl,rfl,zb,hrn,zK,zb,HT1.out,fun t ht=>by cases ht⟩
 case round=>
  obtain⟨k,v,l,D,rfl,rfl,hkg,hk2,hlk,hD,hTT⟩:=hrel;by_cases hk:0<k
  · have hkI:(0:Int)<(k:Int):=by omega
    go_wp2_with fail
    (with_reducible refine(zhh (n:=n) (p:=p) hTT.out.row.nx.st zb).mono ?_)
    rintro e w2 ⟨t,hts,rfl,hT2⟩;have HR2:=za (hTT.out.row.go hT2);have HS2:=za (OP hTT.out.small hts);clear hT2 hts;unfold qk;have hw2:=HR2.out.nx.gr.size;go_wp2_with (refine wpList_append_lies _ rfl _ _ _ zk w.heap.size 52 i0 _ 4 48 underlying54 Hi0.out Hz0.out Hz1.out Hz2.out rfl zb v l.length (cellsOf zQ l) zk (HR2.out.alloc _).own _ 1 1 (zQ t) zk zk Fc (Iz _) zb ql zb zK _ rfl ?_;intro g2 cap w3 hown2 hgrow2 hat2 hlt2)
    have HR3:=za ((HR2.out.alloc _).snoc hown2 hgrow2);clear hown2 hgrow2 hat2;go_wp2;go_roundg (gk - 1)
    case measure=>omega
    case rel=>exact⟨k - 1,_,l++[t],D+10,rfl,I9,zb,zb,zK,zb,HR3.out,HS2.out⟩
  · obtain rfl:k=0:=by omega
    go_wp2_with fail
    (with_reducible refine(QO (n:=n) (p:=p) _ hTT.out.row.nx.st zb zb zb).mono ?_)
    rintro e w2 ⟨r2,r0,r1,rfl,hT2⟩;obtain⟨rm,rfl⟩:=Int.eq_ofNat_of_zero_le r0;have hrm:rm<=1:=zb;have HR2:=za (hTT.out.row.go hT2);have HS2:=za hTT.out.small;clear hT2 hTT r0 r1;go_wp2_with fail
    obtain⟨gko,rfl⟩:∃gko:Nat,gko=gk:=⟨_,rfl⟩;obtain⟨wo,rfl⟩:∃wo:World,wo=wr:=⟨_,rfl⟩;go_loopg [3,5] 4 (fun gk s3 s5 wr=>∃(k:Nat) (v:Value) (l:List Tm) (D:Nat),v=s3/\s5=.int .i64 k/\k+1<=gk/\k<=2/\l.length+k<=4/\1<=l.length+k/\D+10*k<=d+52/\Hid (TQ w0 b n p D w v l wr))
    case atStart=>exact⟨1+rm,v,l,D+1,rfl,by rw[show((1+rm:Nat):Int)=1+(rm:Int)from by omega],zb,zb,zb,zb,zb,HR2.out,HS2.out⟩
    case round=>
     obtain⟨k,v,l,D,rfl,rfl,hkg2,hk22,hlk2,hlk3,hD2,hTT⟩:=hrel;by_cases hk:0<k
     · have hkI:(0:Int)<(k:Int):=by omega
       go_wp2_with fail
       (with_reducible refine(Ri (n:=n) (p:=p) hTT.out.row.nx.st zb).mono ?_)
       rintro e w3 ⟨t,hts,-,rfl,hT3⟩;have HR3:=za (hTT.out.row.go hT3);have HS3:=za (OP hTT.out.small hts);clear hT3 hts;unfold qk;have hw3:=HR3.out.nx.gr.size;go_wp2_with (refine wpList_append_lies _ rfl _ _ _ zk w.heap.size 52 i0 _ 4 48 underlying54 Hi0.out Hz0.out Hz1.out Hz2.out rfl zb v l.length (cellsOf zQ l) zk (HR3.out.alloc _).own _ 1 1 (zQ t) zk zk (by exact World.news_of_block (B:=w3.heap.size) qt) (Iz _) zb ql zb zK _ rfl ?_;intro g2 cap w9 hown2 hgrow2 hat2 hlt2)
       have HR4:=za ((HR3.out.alloc _).snoc hown2 hgrow2);clear hown2 hgrow2 hat2;go_wp2;go_roundg (gk - 1)
       case measure=>omega
       case rel=>exact⟨k - 1,_,l++[t],D+10,rfl,I9,zb,zb,zK,zK,zb,HR4.out,HS3.out⟩
     · obtain rfl:k=0:=by omega
       go_wp2_with fail
       (with_reducible refine(QO (n:=n) (p:=p) _ hTT.out.row.nx.st zb zb zb).mono ?_)
       rintro e w3 ⟨r3,r0,r1,rfl,hT3⟩;have HR3:=za (hTT.out.row.go hT3);have HS3:=za hTT.out.small;clear hT3 hTT;have hw3:=HR3.out.nx.gr.size;by_cases h0:r3=0
       · subst h0;go_wp2_with fail
         (with_reducible refine(VW (n:=n) (p:=p) 60 _ _ _ _ _ HR3.out.nx.st zi zl zi zi zl zb).mono ?_)
         rintro e w4 ⟨s,hs,rfl,hT4⟩;have HR4:=za (HR3.out.go hT4);clear hT4;have hw4:=HR4.out.nx.gr.size;have HS4:=za (OP (t:=⟨23,⟨#[]⟩,3,s⟩) HS3.out ⟨Xb,hs,Xb,Xb,Xb,Xb⟩);go_wp2_with (refine wpList_append_lies _ rfl _ _ _ zk w.heap.size 52 i0 _ 4 48 underlying54 Hi0.out Hz0.out Hz1.out Hz2.out rfl zb v l.length (cellsOf zQ l) zk (HR4.out.alloc _).own _ 1 1 (zQ ⟨23,⟨#[]⟩,3,s⟩) zk zk vQ (Iz _) zb ql zb zK _ rfl ?_;intro g2 cap w9 hown2 hgrow2 hat2 hlt2)
         have HR5:=za ((HR4.out.alloc _).snoc (t:=⟨23,⟨#[]⟩,3,s⟩) hown2 hgrow2);clear hown2 hgrow2 hat2;go_wp2;go_ret;exact⟨_,l++[⟨23,⟨#[]⟩,3,s⟩],rfl,zl,zK,HR5.out.more zb,HS4.out⟩
       by_cases h1:r3=1
       · subst h1;go_wp2_with fail
         (with_reducible refine(VW (n:=n) (p:=p) 60 _ _ _ _ _ HR3.out.nx.st zi zl zi zi zl zb).mono ?_)
         rintro e w4 ⟨s,hs,rfl,hT4⟩;have HR4:=za (HR3.out.go hT4);clear hT4;have hw4:=HR4.out.nx.gr.size;have HS4:=za (OP (t:=⟨24,⟨#[]⟩,3,s⟩) HS3.out ⟨Xb,hs,Xb,Xb,Xb,Xb⟩);go_wp2_with (refine wpList_append_lies _ rfl _ _ _ zk w.heap.size 52 i0 _ 4 48 underlying54 Hi0.out Hz0.out Hz1.out Hz2.out rfl zb v l.length (cellsOf zQ l) zk (HR4.out.alloc _).own _ 1 1 (zQ ⟨24,⟨#[]⟩,3,s⟩) zk zk vQ (Iz _) zb ql zb zK _ rfl ?_;intro g2 cap w9 hown2 hgrow2 hat2 hlt2)
         have HR5:=za ((HR4.out.alloc _).snoc (t:=⟨24,⟨#[]⟩,3,s⟩) hown2 hgrow2);clear hown2 hgrow2 hat2;go_wp2;go_ret;exact⟨_,l++[⟨24,⟨#[]⟩,3,s⟩],rfl,zl,zK,HR5.out.more zb,HS4.out⟩
       have e0:(r3==0)=false:=by simp[h0]
       have e1:(r3==1)=false:=by simp[h1]
       by_cases h2:r3=2
       · subst h2;go_wp2_with fail
         (with_reducible refine(Ri (n:=n) (p:=p) HR3.out.nx.st zb).mono ?_)
         rintro e w4 ⟨t,hts,-,rfl,hT4⟩;have HR4:=za (HR3.out.go hT4);clear hT4;have HS4:=za (zdm HS3.out hts);clear hts;unfold qk;have hw4:=HR4.out.nx.gr.size;have hlo:=HR4.out.lo;obtain⟨gg,cp,hv,hgb,hgl⟩:=HR4.out.own.form zb;subst hv;go_wp2_with (refine wpList_append_lies _ rfl _ _ _ zk w.heap.size 52 i0 _ 4 48 underlying54 Hi0.out Hz0.out Hz1.out Hz2.out rfl zb (.slice (some ⟨w4.heap.size,0,none⟩) 1 1) 1 (zQ t) zk (by exact World.ownsRow_lit w4 _ 1 zb ql zk) _ l.length cp (cellsOf zQ l) zk (Kq zQ 4 (fun _=>rfl) l) (by exact(HR4.out.alloc _).own.cells rfl) (zaM l) zb ql zb zK _ rfl ?_;intro g2 cap w9 hown2 hgrow2 hat2 hlt2)
         have HR5:=za ((HR4.out.alloc _).cons hown2 hgrow2 hw4);clear hown2 hgrow2 hat2;go_wp2;go_ret;exact⟨_,t::l,rfl,zl,zK,HR5.out.more zb,HS4.out⟩
       · have e2:(r3==2)=false:=by simp[h2]
         clear h0 h1 h2;go_wp2;go_ret;exact⟨_,l,rfl,zb,zb,HR3.out.more zb,HS3.out⟩
end
section
open Go.RowKit
structure UK(w0:World)(b n p d:Nat)(w:World)(v:Value)(rl:List Rl)(W:World):Prop where
 nx:zA w0 b n p d w W
 own:W.ownsRow w.heap.size 56 3 v rl.length (cellsOf Zi rl)
 inn:Zl 4 zQ Rl.tms W W.heap.size v.ownBlock rl
 inb:Zl 4 zQ Rl.tms W W.heap.size (some b) rl
 lo:w0.heap.size<=w.heap.size
section
variable{w0 w W W1 w9:World}{b n p d d':Nat}{v:Value}{rl:List Rl}
theorem UK.start(h:qr w0 b n p d w):UK w0 b n p d w (.slice none 0 0) [] w:=⟨zA.refl h,World.ownsRow_nil _ _ _ _,Zl.nil,Zl.nil,h.size⟩
theorem UK.far(h:UK w0 b n p d w v rl W):v.ownBlock≠some b:=fun e=>SF
theorem UK.go(h:UK w0 b n p d w v rl W)(hT:zA w0 b n p d' W W1):UK w0 b n p d' w v rl W1:=by
 have h4:=h.inb.grown zo hT.gr;have hs:=hT.gr.size;exact⟨h.nx.trans hT,h.own.kept hT.gr (Or.inr h.far),(h.inn.with h4 zo).up hs,h4.up hs,h.lo⟩
theorem UK.push{y:Rl}{g2 c:Nat}(h:UK w0 b n p d w v rl W)(hb:Below W.heap.size W W1)(hy:zr W W.heap.size y.tms.A 4 y.tms.l.length (cellsOf zQ y.tms.l))(hyo:∀a,y.tms.A=some a->v.ownBlock≠some a.block/\a.block≠b)
 (hown:w9.ownsRow w.heap.size 56 3 (.slice (some ⟨g2,0,none⟩) (rl.length+1) c) (rl.length+1) (cellsOf Zi rl++Zi y))(hg:W1.grownBy w9 v.ownBlock)(hat:v.ownBlock=some g2∨g2=W1.heap.size):
 UK w0 b n p d w (.slice (some ⟨g2,0,none⟩) (rl.length+1) c) (rl++[y]) w9:=by
 have h1:Zl 4 zQ Rl.tms W W.heap.size v.ownBlock (rl++[y]):=h.inn.snoc ⟨hy,fun _ a e e2=>(hyo a e).1 e2.symm⟩;have h2:Zl 4 zQ Rl.tms W W.heap.size (some b) (rl++[y]):=h.inb.snoc ⟨hy,fun _ a e e2=>(hyo a e).2 (zx e2)⟩;have hs:=hb.size;have h4:=(h1.keep hb).moved (row':=some g2) hs hg (by
  rcases hat with e|e
  · exact Or.inl e.symm
  · right;intro g eg;injection eg with eg;omega)
 have hs9:=hg.size;refine⟨(h.nx.grownR (zG hb none) (fun _ e=>ZK)).grownR hg (fun j e=>yY),vK hown,h4.up zb,(h2.with h4 zo).up zb,h.lo⟩
end
end
section
open Go.RowKit
theorem zfq{rl rl2:List Rl}(hz:∀x∈rl,1<=x.tms.l.length/\x.tms.l.length<=6/\∀t∈x.tms.l,Yz 60 t)(hp:rl2.map Rl.p=(Zb (rl.map Rl.p)).1):∀x∈rl2,1<=x.tms.l.length/\x.tms.l.length<=6/\∀t∈x.tms.l,Yz 60 t:=fun x hx=>by
 obtain⟨y,hy,he⟩:=List.mem_map.1 (BB _ x.p (hp▸zd8 hx));have e:y.tms.l=x.tms.l:=congrArg Rp.tms he;rw[<-e];exact hz y hy
theorem ziY{rl rl2:List Rl}(hp:rl2.map Rl.p=(Zb (rl.map Rl.p)).1):rl2.length<=rl.length:=by
 have h1:=ziW (rl.map Rl.p);have h2:=congrArg List.length hp;rw[W7]at h1 h2;omega
theorem zA.below5{w0 w W W1:World}{b n p d:Nat}(h:zA w0 b n p d w W)(hb:Below W.heap.size W W1):zA w0 b n p d w W1:=h.grownR (zG hb none) (fun _ e=>ZK)
def zbK(w0:World)(b n p d:Nat)(w:World)(e:Ending)(w':World):Prop:=∃A c rl,e=.returned (.slice A rl.length c)/\rl.length<=12/\rl.length<=c/\NS (rl.map Rl.p)/\(∀x∈rl,1<=x.tms.l.length/\x.tms.l.length<=6/\∀t∈x.tms.l,Yz 60 t)/\UV w' w'.heap.size (some b) A 3 rl.length (cellsOf Zi rl)/\Zl 4 zQ Rl.tms w' w'.heap.size (some b) rl/\zA w0 b n p d w w'
theorem DD{w0 w:World}{b n p d:Nat}(h:qr w0 b n p d w){m:Nat}(hm:m<=12)(h3:p+d<=50000):
 Calls prog 6 #[.pointer (some ⟨b,0,none⟩),.int .i64 m] w (zbK w0 b n p (d+1300) w):=by
 have H:=za h;have hlb:=h.lt;have hws:=h.size;clear h;obtain⟨i0,hi0,hz0,hz1,hz2⟩:=info_parts jY;have Hi0:=za hi0;have Hz0:=za hz0;have Hz1:=za hz1;have Hz2:=za hz2;clear hi0 hz0 hz1 hz2;go_enter func6,ntmps6;go_wp2_with fail
 (with_reducible refine(QO (n:=n) (p:=p) _ H.out zb zb zb).mono ?_)
 rintro e w1 ⟨r,r0,r1,rfl,hT1⟩;obtain⟨rn,rfl⟩:=Int.eq_ofNat_of_zero_le r0;have hrn:rn<=12:=zb;have HT1:=za ((UK.start H.out).go hT1);clear hT1 r0 r1;go_wp2_with fail
 go_loopg [5,6] 13 (fun gk s3 s4 wr=>∃(k:Nat) (A:Option Addr) (c:Nat) (rl:List Rl) (D:Nat),s3=.slice A rl.length c/\s4=.int .i64 k/\k+1<=gk/\k<=12/\rl.length+k<=12/\D+101*k<=d+1213/\Hid (∀x∈rl,1<=x.tms.l.length/\x.tms.l.length<=6/\∀t∈x.tms.l,Yz 60 t)/\Hid (UK w0 b n p D w (.slice A rl.length c) rl wr))
 case atStart=>exact⟨rn,none,0,[],d+1,rfl,rfl,zb,hrn,zK,zb,(fun x hx=>YT),HT1.out⟩
 case round=>
  obtain⟨k,A,c,rl,D,rfl,rfl,hkg,hk7,hlk,hD,hZ,hR⟩:=hrel;by_cases hk:0<k
  · have hkI:(0:Int)<(k:Int):=by omega
    go_wp2_with fail
    (with_reducible refine(VW (n:=n) (p:=p) 60 _ _ _ _ _ hR.out.nx.st zi zl zi zi zl zb).mono ?_)
    rintro e w2 ⟨y,hy,rfl,hT2⟩;have HR2:=za (hR.out.go hT2);clear hT2;go_wp2_with fail
    (with_reducible refine(zkr (n:=n) (p:=p) HR2.out.nx.st zb).mono ?_)
    rintro e w3 ⟨tv,l,rfl,hl1,hl6,hTT⟩;obtain⟨TA,tc,rfl⟩:=Qf hTT.row.own;have HR3:=za (HR2.out.go hTT.row.nx);have HTr:=za (zr.of_own hTT.row.own);have HTo:Hid (∀a,TA=some a->(Value.slice A rl.length c).ownBlock≠some a.block/\a.block≠b):=za fun a ha=>by
     have h1:=(hTT.row.own.lt a.block (by rw[ha];rfl)).1;have h2:=HR2.out.nx.gr.size;exact⟨fun e=>by have:=(HR2.out.own.lt _ e).2;omega,zb⟩
    have HZ2:Hid (∀x∈rl++[(⟨y,(rl.length:Int)+1,⟨TA,tc,l⟩⟩:Rl)],1<=x.tms.l.length/\x.tms.l.length<=6/\∀t∈x.tms.l,Yz 60 t):=za fun x hx=>by
     rcases List.mem_append.1 hx with hx|hx
     · exact hZ.out x hx
     · obtain rfl:=List.mem_singleton.1 hx;exact⟨hl1,hl6,hTT.small⟩
    have hw3:=HR3.out.nx.gr.size;clear hTT;go_wp2_with (at_builtin;go_loud (refine wpList_append_lies _ rfl _ _ _ zk w.heap.size 56 i0 _ 3 48 underlying26 Hi0.out Hz0.out Hz1.out Hz2.out rfl zb (.slice A rl.length c) rl.length (cellsOf Zi rl) zk (HR3.out.own.alloc _) _ 1 1 (Zi (⟨y,(rl.length:Int)+1,⟨TA,tc,l⟩⟩:Rl)) zk zk KN (Rq _) zb ql zb zK _ rfl ?_;intro g2 cap w9 hown2 hgrow2 hat2 hlt2;have HR9:=za (HR3.out.push (y:=(⟨y,(rl.length:Int)+1,⟨TA,tc,l⟩⟩:Rl)) zu HTr.out HTo.out hown2 hgrow2 hat2);clear hown2 hgrow2 hat2 hlt2))
    go_roundg (gk - 1)
    case measure=>omega
    case rel=>exact⟨k - 1,_,_,rl++[(⟨y,(rl.length:Int)+1,⟨TA,tc,l⟩⟩:Rl)],D+101,IV,I9,zb,zb,by rw[r7];simp;omega,zb,HZ2.out,by rw[r7];exact HR9.out⟩
  · obtain rfl:k=0:=by omega
    have HL:=za (ziG A c rl wr zb (fun x hx=>by have:=(hZ.out x hx).2.1;omega) (zr.of_own hR.out.own) (hR.out.inn.at_));have hmore:=za (hR.out.nx.more (by omega:D<=d+1300));unfold PP at HL;go_wp2_with fail
    refine HL.out.mono ?_;rintro e w5 ⟨A5,c5,A5f,c5f,rl5,fl5,rfl,hp5,hf5,hr5,hrf5,hi5,hb5,hcp,hfar,hT⟩;have HZ5:=za (zfq hZ.out hp5);have hl5:=ziY hp5;have HCp:=za hcp;have HRe:=za (show NS (rl5.map Rl.p) by rw[hp5];exact zgO _);have HS5:=za (hmore.out.below5 hb5);have hbw:b<wr.heap.size:=by have:=hR.out.nx.gr.size;have:=hR.out.lo;omega
    have HR5:Hid (UV w5 w5.heap.size (some b) A5 3 rl5.length (cellsOf Zi rl5)):=za ⟨hr5,fun _ a ha e=>by have:=hfar a ha;injection e with e;omega⟩;have HI5:Hid (Zl 4 zQ Rl.tms w5 w5.heap.size (some b) rl5):=za fun y hy=>⟨hi5 y hy,fun _ a ha e=>by
     obtain⟨x,hx,hxa⟩:=hT y hy a ha;exact(hR.out.inb x hx).off (by have:=(hZ.out x hx).1;omega) a hxa e⟩
    clear hp5 hf5 hr5 hrf5 hi5 hb5 hcp hfar hT hbw;go_wp2;go_ret;exact⟨A5,c5,rl5,rfl,zb,HCp.out,HRe.out,HZ5.out,HR5.out,HI5.out,HS5.out⟩
end
section
open Go.RowKit
abbrev TX:TypeId:=25
theorem Ur.run{c:zt}(h:Ur c):kx c:=fun name W hT hE hs=>by
 have hz:=h.z;refine zgR c.tA c.tc c.tds c.ix name W hT (fun d hd=>⟨(hz.dv d hd).1,(hz.dv d hd).2.1⟩) hz.wf hz.ix1 hz.ix2 hE.toEnv hE.u (fun d hd y hy=>?_) hs;obtain⟨x,hx,rfl⟩:=List.mem_map.1 hd;have:=(h.tw.dv x hx).ats y hy;exact⟨i3 this.1 zi,this.2.2⟩
theorem Zt.off{b:Nat}{w w':World}{A:Option Addr}{rl:List Rl}(hr:UV w w.heap.size (some b) A 3 rl.length (cellsOf Zi rl))(hi:Zl 4 zQ Rl.tms w w.heap.size (some b) rl)(hz:∀x∈rl,1<=x.tms.l.length/\x.tms.l.length<=6/\∀t∈x.tms.l,Yz 60 t)(hg:w.grownBy w' (some b)):Zt w' A rl:=by
 refine⟨(hr.grown zo hg).at_.up hg.size,fun y hy=>?_,fun y hy e=>?_⟩
 · have h:=((hi y hy).grown zo hg).at_.up hg.size;refine⟨h,fun a e=>?_⟩;obtain⟨ba,off,e2,hb,_⟩:=h.at_ (hz y hy).1;rw[e]at e2;cases e2
   exact⟨rfl,hb⟩
 · obtain⟨ba,off,e2,_⟩:=(hi y hy).at_.at_ (hz y hy).1;rw[e]at e2;cases e2
end
section
open Go.RowKit
theorem Eb{c:qp}(hi:KS c.i){ls:List (List Tm)}(hl:∀l∈ls,l.length<=1000/\∀t∈l,t.value.size<=1000000):∀(f a:Nat) {x:Ev} {k:Nat} (held:List Int),zH x.dr k->zH (qS c ls f a x held).1.dr (k+f*2000)
 |0,_,_,_,_,h=>by rw[Nat.zero_mul];exact h
 | f +1,a,x,k,held,h=>by
   unfold qS
   split
   · exact h.mono (zd1 _ _)
   · rename_i l hm;have hz:=hl l (X7 hm);have h2:zH (qw c x l).1.dr (k+2000):=(Fi hi hz.2 h).mono (by have:=hz.1;omega)
     split<;>exact(Eb hi hl f _ _ h2).mono zb
def NG(r:Rc):Prop:=r.props.length<=1000000/\r.tags.length<=1000000/\r.links.length<=1000000/\r.run.length<=1000000/\r.load.length<=1000000
theorem zfN{d:Dr}{k:Nat}(h:zH d k)(x:Dd)(o:ByteArray):NG (Ym d x o):=by
 have h1:=h.pl;have h2:=h.tl;have h3:=h.ll;have h4:=h.rl;have h5:=h.dl;unfold NG Ym;dsimp only;refine⟨zb,zb,?_,zb,zb⟩
 split
 · omega
 · simp
def Yn(i:QV)(ls:List (List Tm)):Rc×Int×Int:=match U8 i ls with
 |some (D,T)=>(D,T,0)
 |none=>(Zx.d,0,150)
theorem Rf(c:zt)(rl:List Rl):U8 c.i (Zy rl)=(zC (zm c.tds) c.ix).map fun d=>(Ym (Y0 c d rl).1.dr d (qK (zm c.tds) c.ix),(Y0 c d rl).1.dr.ticks):=by
 unfold U8 KU Ob;cases h:zC (zm c.tds) c.ix with
 | none=>
   rw[show zC c.i.tree c.i.ix=none from h];rfl
 | some d=>
   rw[show zC c.i.tree c.i.ix=some d from h];unfold Y0;rw[<-Ol rl];rfl
def GE(q:Rc×Int×Int)(w:World)(e:Ending)(w':World):Prop:=∃r:Rm,e=.returned (.tuple #[.agg (qb r),.int .i64 q.2.1,.int .i64 q.2.2])/\r.d=q.1/\Z3 w' r/\(∀a∈r.as,∀p,a=some p->w.heap.size<=p.block)/\Below w.heap.size w w'
theorem OC{c:zt}{rl:List Rl}{w w':World}{e:Ending}(h:GZ c rl w e w'):GE (Yn c.i (Zy rl)) w e w':=by
 unfold GZ at h;unfold Yn;rw[Rf];cases hf:zC (zm c.tds) c.ix with
 | none=>
   rw[hf]at h;exact⟨Zx,h.1,rfl,⟨zB.empty,zB.empty,zB.empty,zB.empty,zB.empty⟩,fun a ha p e=>(by simp only[Rm.as,List.mem_cons,List.not_mem_nil,or_false,or_self]at ha;rw[ha]at e;cases e),h.2⟩
 | some d=>
   rw[hf]at h;exact h
theorem CV{c:zt}{rl:List Rl}(hz:Vk c)(hr:kv rl):NG (Yn c.i (Zy rl)).1:=by
 unfold Yn;rw[Rf];cases hf:zC (zm c.tds) c.ix with
 |none=>exact⟨X1 _,X1 _,X1 _,X1 _,X1 _⟩
 | some d=>
   refine zfN (k:=0+(rl.length+1)*2000) ?_ _ _;unfold Y0;refine Eb (c:=Gl c d) hz.ok (fun l hl=>?_) _ _ _ (Ld hz);obtain⟨y,hy,rfl⟩:=List.mem_map.1 hl;exact hr.tms y hy
theorem Hj{q:Rc}(hq:NG q)(r s:Rm)(w:World)(h1:r.d=q)(h2:s.d=q)(hr:Z3 w r)(hs:Z3 w s):Calls prog 12 #[.agg (qb r),.agg (qb s)] w fun e w'=>e=.returned (.bool true)/\Below w.heap.size w w':=by
 subst h1;obtain⟨z1,z2,z3,z4,z5⟩:=hq;exact zbb r s h2.symm w hr hs z1 z2 z3 z4 z5
theorem zdh{w:World}{r:Rm}(h:Z3 w r):∀a∈r.as,∀p,a=some p->p.block<w.heap.size:=fun a ha p e=>by
 simp only[Rm.as,List.mem_cons,List.not_mem_nil,or_false]at ha;rcases ha with rfl|rfl|rfl|rfl|rfl
 · exact(h.pr.row.pl p e).2
 · exact(h.tg.row.pl p e).2
 · exact(h.lk.row.pl p e).2
 · exact(h.rn.row.pl p e).2
 · exact(h.ld.row.pl p e).2
abbrev Ku:Array Value:=#[.string ⟨#[]⟩,.int .i64 0,.slice none 0 0,.slice none 0 0,.slice none 0 0,.slice none 0 0,.slice none 0 0,.string ⟨#[]⟩,.int .i64 0,.string ⟨#[]⟩,.string ⟨#[]⟩,.int .i64 0]
theorem Nw{w3:World}{r:Rm}(hr:Z3 w3 r):((w3.alloc (.cells Ku qf)).setRow w3.heap.size (qb r)).heap[w3.heap.size]? =some (.cells (qb r) qf (0,0))/\Z3 ((w3.alloc (.cells Ku qf)).setRow w3.heap.size (qb r)) r/\Below w3.heap.size w3 ((w3.alloc (.cells Ku qf)).setRow w3.heap.size (qb r)):=
 ⟨setRow_heap _ _ _ _ _ _ qt,(hr.keep zu).grown (qR _ _ _) (fun a ha p e=>by have:=zdh hr a ha p e;omega),qB zu zo⟩
end
end Go.Proofs.YtecbmndgpepkcaaGreatDoor

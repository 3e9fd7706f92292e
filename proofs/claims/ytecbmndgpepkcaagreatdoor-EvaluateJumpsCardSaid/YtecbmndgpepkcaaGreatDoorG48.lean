/- Contracts of functions that the law reaches, and what they rest on; each under the premises that it names. Shortened by a program. -/
import Derived.Test.YtecbmndgpepkcaaGreatDoorAssignA
import Derived.Test.YtecbmndgpepkcaaGreatDoorAssignB
import Derived.Test.YtecbmndgpepkcaaGreatDoorMatches
import Derived.Test.YtecbmndgpepkcaaGreatDoorWInput
import Derived.Test.YtecbmndgpepkcaaGreatDoorKnL
import Derived.Test.YtecbmndgpepkcaaGreatDoorG25
namespace Go.Proofs.YtecbmndgpepkcaaGreatDoor
open Tryz
set_option maxHeartbeats 8000000
set_option maxRecDepth 100000
section
open Go.RowKit
theorem Ap{w0 w:World}{b n p d:Nat}(h:qp w0 b n p d w)(h3:p+d<=100000):
 Calls prog 14 #[.pointer (some ⟨b,0,none⟩)] w (Mf 60 (zA w0 b n p (d+10) w)):=by
 obtain⟨r,r0,r1,hF0⟩:=K8 14 h zb zb zb;have hr:r=4∨r=9∨r=10∨r=0∨r=1∨r=2∨r=3∨r=5∨r=6∨r=7∨r=8∨r=11∨r=12∨r=13:=zb;clear r0 r1;rcases hr with rfl|rfl|rfl|hr
 · exact Bf h h3 hF0
 · exact zeg h h3 hF0
 · exact zgr h h3 hF0
 have hwb:w.heap.size≠b:=Gc;have hws:=h.size;have HF0:=za hF0;clear h hF0;rcases hr with rfl|rfl|rfl|rfl|rfl|rfl|rfl|rfl|rfl|rfl|rfl
 all_goals
  go_enter func14,ntmps14;go_wp2_with fail
  with_reducible refine(HF0.out _ qW).mono ?_
  rintro e w2 ⟨rfl,hT2⟩;have HT:=za hT2;clear hT2;go_wp2_with (first|(go_at_call 17;(with_reducible refine(QL (n:=n) (p:=p) _ HT.out.st zb zb zb).mono ?_);rintro e wN ⟨q,q0,q1,rfl,hT⟩;have HT:=za (HT.out.trans hT);clear hT)|(go_at_call 18;(with_reducible refine(Ve (n:=n) (p:=p) 60 _ _ _ _ _ HT.out.st zi zl zi zi zl zb).mono ?_);rintro e wN ⟨s,hs,rfl,hT⟩;have HT:=za (HT.out.trans hT);clear hT)|(refine wpList_store_row rfl 52 _ _ rfl _ _ rfl rfl _ _ (HT.out.blk (heap_alloc_new w _) hwb) Mc rfl qJ ?_))
 all_goals
  refine Yx rfl zj (HT.out.blk (heap_alloc_new w _) hwb) underlying52 rfl Mc zj ?_;exact⟨⟨_,_,_,_⟩,⟨Ny,Ny,Js,Js,Js,Js⟩,by dsimp only;first|decide|omega,rfl,((zA.alloc HT.out).more zb).setRow zo hws _⟩
end
section
open Go.RowKit
structure PX(w0:World)(b n p d:Nat)(w:World)(v:Value)(l:List Tm)(W:World):Prop where
 row:Zs 52 4 zN w0 b n p d w v l W
 small:∀t∈l,YG 60 t
def zen(lo hi:Nat)(w0:World)(b n p d:Nat)(w:World)(e:Ending)(w':World):Prop:=∃v l,e=.returned v/\lo<=l.length/\l.length<=hi/\PX w0 b n p d w v l w'
theorem MT{l:List Tm}{t:Tm}(h:∀x∈l,YG 60 x)(ht:YG 60 t):∀x∈l++[t],YG 60 x:=fun x hx=>by
 rcases List.mem_append.1 hx with hx|hx
 · exact h x hx
 · obtain rfl:=List.mem_singleton.1 hx;exact ht
theorem zhH{l:List Tm}{t:Tm}(h:∀x∈l,YG 60 x)(ht:YG 60 t):∀x∈t::l,YG 60 x:=fun x hx=>by
 rcases List.mem_cons.1 hx with rfl|hx
 · exact ht
 · exact h x hx
theorem zbx(l:List Tm):∀u∈cellsOf zN l,u.oneCell'=true:=fun u hu=>by
 unfold cellsOf at hu;obtain⟨t,_,hu⟩:=List.mem_flatMap.1 hu;exact Gq t u hu
theorem Zs.cons{α:Type}{T:TypeId}{kk:Nat}{enc:α->List Value}{w0 w W W2:World}{b n p d c B:Nat}{A:Option Addr}{v:Value}{l:List α}{t:α}(h:Zs T kk enc w0 b n p d w v l W)(hown:W2.ownsRow w.heap.size T kk (.slice A (1+l.length) c) (1+l.length) (enc t++cellsOf enc l))(hg:W.grownBy W2 (some B))(hB:w.heap.size<=B):Zs T kk enc w0 b n p d w (.slice A (1+l.length) c) (t::l) W2:=
 ⟨h.nx.grownR hg (fun j e=>by cases e;have:=h.lo;omega),by rw[List.length_cons,Nat.add_comm l.length 1];exact hown,h.lo⟩
theorem zif{w0 w:World}{b n p d:Nat}(h:qp w0 b n p d w)(h3:p+d<=90000):
 Calls prog 19 #[.pointer (some ⟨b,0,none⟩)] w (zen 1 6 w0 b n p (d+100) w):=by
 have H:=za h;have hlb:=h.lt;have hws:=h.size;clear h;obtain⟨i0,hi0,hz0,hz1,hz2⟩:=info_parts ziY;have Hi0:=za hi0;have Hz0:=za hz0;have Hz1:=za hz1;have Hz2:=za hz2;clear hi0 hz0 hz1 hz2;go_enter func19,ntmps19;go_wp2_with fail
 (with_reducible refine(QL (n:=n) (p:=p) _ H.out zb zb zb).mono ?_)
 rintro e w1 ⟨r,r0,r1,rfl,hT1⟩;obtain⟨rn,rfl⟩:=Int.eq_ofNat_of_zero_le r0;have hrn:rn<=2:=zb;have HT1:=za (Zs.go (Zs.start (T:=52) (kk:=4) (enc:=zN) H.out) hT1);clear hT1 r0 r1;go_wp2_with fail
 go_loopg [3,4] 3 (fun gk s3 s4 wr=>∃(k:Nat) (v:Value) (l:List Tm) (D:Nat),v=s3/\s4=.int .i64 k/\k+1<=gk/\k<=2/\l.length+k<=2/\D+10*k<=d+21/\Hid (PX w0 b n p D w v l wr))
 case atStart=>exact⟨rn,_,[],d+1,rfl,rfl,zb,hrn,zH,zb,HT1.out,fun t ht=>by cases ht⟩
 case round=>
  obtain⟨k,v,l,D,rfl,rfl,hkg,hk2,hlk,hD,hTT⟩:=hrel;by_cases hk:0<k
  · have hkI:(0:Int)<(k:Int):=by omega
    go_wp2_with fail
    (with_reducible refine(zdH (n:=n) (p:=p) hTT.out.row.nx.st zb).mono ?_)
    rintro e w2 ⟨t,hts,rfl,hT2⟩;have HR2:=za (hTT.out.row.go hT2);have HS2:=za (MT hTT.out.small hts);clear hT2 hts;unfold qe;have hw2:=HR2.out.nx.gr.size;go_wp2_with (refine wpList_append_lies _ rfl _ _ _ zj w.heap.size 52 i0 _ 4 48 underlying54 Hi0.out Hz0.out Hz1.out Hz2.out rfl zb v l.length (cellsOf zN l) zj (HR2.out.alloc _).own _ 1 1 (zN t) zj zj yX (Gq _) zb qi zb zH _ rfl ?_;intro g2 cap w3 hown2 hgrow2 hat2 hlt2)
    have HR3:=za ((HR2.out.alloc _).snoc hown2 hgrow2);clear hown2 hgrow2 hat2;go_wp2;go_roundg (gk - 1)
    case measure=>omega
    case rel=>exact⟨k - 1,_,l++[t],D+10,rfl,NJ,zb,zb,zH,zb,HR3.out,HS2.out⟩
  · obtain rfl:k=0:=by omega
    go_wp2_with fail
    (with_reducible refine(QL (n:=n) (p:=p) _ hTT.out.row.nx.st zb zb zb).mono ?_)
    rintro e w2 ⟨r2,r0,r1,rfl,hT2⟩;obtain⟨rm,rfl⟩:=Int.eq_ofNat_of_zero_le r0;have hrm:rm<=1:=zb;have HR2:=za (hTT.out.row.go hT2);have HS2:=za hTT.out.small;clear hT2 hTT r0 r1;go_wp2_with fail
    obtain⟨gko,rfl⟩:∃gko:Nat,gko=gk:=⟨_,rfl⟩;obtain⟨wo,rfl⟩:∃wo:World,wo=wr:=⟨_,rfl⟩;go_loopg [3,5] 4 (fun gk s3 s5 wr=>∃(k:Nat) (v:Value) (l:List Tm) (D:Nat),v=s3/\s5=.int .i64 k/\k+1<=gk/\k<=2/\l.length+k<=4/\1<=l.length+k/\D+10*k<=d+52/\Hid (PX w0 b n p D w v l wr))
    case atStart=>exact⟨1+rm,v,l,D+1,rfl,by rw[show((1+rm:Nat):Int)=1+(rm:Int)from by omega],zb,zb,zb,zb,zb,HR2.out,HS2.out⟩
    case round=>
     obtain⟨k,v,l,D,rfl,rfl,hkg2,hk22,hlk2,hlk3,hD2,hTT⟩:=hrel;by_cases hk:0<k
     · have hkI:(0:Int)<(k:Int):=by omega
       go_wp2_with fail
       (with_reducible refine(Ap (n:=n) (p:=p) hTT.out.row.nx.st zb).mono ?_)
       rintro e w3 ⟨t,hts,-,rfl,hT3⟩;have HR3:=za (hTT.out.row.go hT3);have HS3:=za (MT hTT.out.small hts);clear hT3 hts;unfold qe;have hw3:=HR3.out.nx.gr.size;go_wp2_with (refine wpList_append_lies _ rfl _ _ _ zj w.heap.size 52 i0 _ 4 48 underlying54 Hi0.out Hz0.out Hz1.out Hz2.out rfl zb v l.length (cellsOf zN l) zj (HR3.out.alloc _).own _ 1 1 (zN t) zj zj (by exact World.news_of_block (B:=w3.heap.size) qv) (Gq _) zb qi zb zH _ rfl ?_;intro g2 cap w9 hown2 hgrow2 hat2 hlt2)
       have HR4:=za ((HR3.out.alloc _).snoc hown2 hgrow2);clear hown2 hgrow2 hat2;go_wp2;go_roundg (gk - 1)
       case measure=>omega
       case rel=>exact⟨k - 1,_,l++[t],D+10,rfl,NJ,zb,zb,zH,zH,zb,HR4.out,HS3.out⟩
     · obtain rfl:k=0:=by omega
       go_wp2_with fail
       (with_reducible refine(QL (n:=n) (p:=p) _ hTT.out.row.nx.st zb zb zb).mono ?_)
       rintro e w3 ⟨r3,r0,r1,rfl,hT3⟩;have HR3:=za (hTT.out.row.go hT3);have HS3:=za hTT.out.small;clear hT3 hTT;have hw3:=HR3.out.nx.gr.size;by_cases h0:r3=0
       · subst h0;go_wp2_with fail
         (with_reducible refine(Ve (n:=n) (p:=p) 60 _ _ _ _ _ HR3.out.nx.st zi zl zi zi zl zb).mono ?_)
         rintro e w4 ⟨s,hs,rfl,hT4⟩;have HR4:=za (HR3.out.go hT4);clear hT4;have hw4:=HR4.out.nx.gr.size;have HS4:=za (MT (t:=⟨23,⟨#[]⟩,3,s⟩) HS3.out ⟨YO,hs,YO,YO,YO,YO⟩);go_wp2_with (refine wpList_append_lies _ rfl _ _ _ zj w.heap.size 52 i0 _ 4 48 underlying54 Hi0.out Hz0.out Hz1.out Hz2.out rfl zb v l.length (cellsOf zN l) zj (HR4.out.alloc _).own _ 1 1 (zN ⟨23,⟨#[]⟩,3,s⟩) zj zj Am (Gq _) zb qi zb zH _ rfl ?_;intro g2 cap w9 hown2 hgrow2 hat2 hlt2)
         have HR5:=za ((HR4.out.alloc _).snoc (t:=⟨23,⟨#[]⟩,3,s⟩) hown2 hgrow2);clear hown2 hgrow2 hat2;go_wp2;go_ret;exact⟨_,l++[⟨23,⟨#[]⟩,3,s⟩],rfl,zl,zH,HR5.out.more zb,HS4.out⟩
       by_cases h1:r3=1
       · subst h1;go_wp2_with fail
         (with_reducible refine(Ve (n:=n) (p:=p) 60 _ _ _ _ _ HR3.out.nx.st zi zl zi zi zl zb).mono ?_)
         rintro e w4 ⟨s,hs,rfl,hT4⟩;have HR4:=za (HR3.out.go hT4);clear hT4;have hw4:=HR4.out.nx.gr.size;have HS4:=za (MT (t:=⟨24,⟨#[]⟩,3,s⟩) HS3.out ⟨YO,hs,YO,YO,YO,YO⟩);go_wp2_with (refine wpList_append_lies _ rfl _ _ _ zj w.heap.size 52 i0 _ 4 48 underlying54 Hi0.out Hz0.out Hz1.out Hz2.out rfl zb v l.length (cellsOf zN l) zj (HR4.out.alloc _).own _ 1 1 (zN ⟨24,⟨#[]⟩,3,s⟩) zj zj Am (Gq _) zb qi zb zH _ rfl ?_;intro g2 cap w9 hown2 hgrow2 hat2 hlt2)
         have HR5:=za ((HR4.out.alloc _).snoc (t:=⟨24,⟨#[]⟩,3,s⟩) hown2 hgrow2);clear hown2 hgrow2 hat2;go_wp2;go_ret;exact⟨_,l++[⟨24,⟨#[]⟩,3,s⟩],rfl,zl,zH,HR5.out.more zb,HS4.out⟩
       have e0:(r3==0)=false:=by simp[h0]
       have e1:(r3==1)=false:=by simp[h1]
       by_cases h2:r3=2
       · subst h2;go_wp2_with fail
         (with_reducible refine(Ap (n:=n) (p:=p) HR3.out.nx.st zb).mono ?_)
         rintro e w4 ⟨t,hts,-,rfl,hT4⟩;have HR4:=za (HR3.out.go hT4);clear hT4;have HS4:=za (zhH HS3.out hts);clear hts;unfold qe;have hw4:=HR4.out.nx.gr.size;have hlo:=HR4.out.lo;obtain⟨gg,cp,hv,hgb,hgl⟩:=HR4.out.own.form zb;subst hv;go_wp2_with (refine wpList_append_lies _ rfl _ _ _ zj w.heap.size 52 i0 _ 4 48 underlying54 Hi0.out Hz0.out Hz1.out Hz2.out rfl zb (.slice (some ⟨w4.heap.size,0,none⟩) 1 1) 1 (zN t) zj (by exact World.ownsRow_lit w4 _ 1 zb qi zj) _ l.length cp (cellsOf zN l) zj (kA zN 4 (fun _=>rfl) l) (by exact(HR4.out.alloc _).own.cells rfl) (zbx l) zb qi zb zH _ rfl ?_;intro g2 cap w9 hown2 hgrow2 hat2 hlt2)
         have HR5:=za ((HR4.out.alloc _).cons hown2 hgrow2 hw4);clear hown2 hgrow2 hat2;go_wp2;go_ret;exact⟨_,t::l,rfl,zl,zH,HR5.out.more zb,HS4.out⟩
       · have e2:(r3==2)=false:=by simp[h2]
         clear h0 h1 h2;go_wp2;go_ret;exact⟨_,l,rfl,zb,zb,HR3.out.more zb,HS3.out⟩
end
section
open Go.RowKit
structure Ul(w0:World)(b n p d:Nat)(w:World)(v:Value)(rl:List Rl)(W:World):Prop where
 nx:zA w0 b n p d w W
 own:W.ownsRow w.heap.size 56 3 v rl.length (cellsOf Qr rl)
 inn:Ze 4 zN Rl.tms W W.heap.size v.ownBlock rl
 inb:Ze 4 zN Rl.tms W W.heap.size (some b) rl
 lo:w0.heap.size<=w.heap.size
section
variable{w0 w W W1 w9:World}{b n p d d':Nat}{v:Value}{rl:List Rl}
theorem Ul.start(h:qp w0 b n p d w):Ul w0 b n p d w (.slice none 0 0) [] w:=⟨zA.refl h,World.ownsRow_nil _ _ _ _,Ze.nil,Ze.nil,h.size⟩
theorem Ul.far(h:Ul w0 b n p d w v rl W):v.ownBlock≠some b:=fun e=>CN
theorem Ul.go(h:Ul w0 b n p d w v rl W)(hT:zA w0 b n p d' W W1):Ul w0 b n p d' w v rl W1:=by
 have h4:=h.inb.grown zo hT.gr;have hs:=hT.gr.size;exact⟨h.nx.trans hT,h.own.kept hT.gr (Or.inr h.far),(h.inn.with h4 zo).up hs,h4.up hs,h.lo⟩
theorem Ul.push{y:Rl}{g2 c:Nat}(h:Ul w0 b n p d w v rl W)(hb:Below W.heap.size W W1)(hy:zr W W.heap.size y.tms.A 4 y.tms.l.length (cellsOf zN y.tms.l))(hyo:∀a,y.tms.A=some a->v.ownBlock≠some a.block/\a.block≠b)
 (hown:w9.ownsRow w.heap.size 56 3 (.slice (some ⟨g2,0,none⟩) (rl.length+1) c) (rl.length+1) (cellsOf Qr rl++Qr y))(hg:W1.grownBy w9 v.ownBlock)(hat:v.ownBlock=some g2∨g2=W1.heap.size):
 Ul w0 b n p d w (.slice (some ⟨g2,0,none⟩) (rl.length+1) c) (rl++[y]) w9:=by
 have h1:Ze 4 zN Rl.tms W W.heap.size v.ownBlock (rl++[y]):=h.inn.snoc ⟨hy,fun _ a e e2=>(hyo a e).1 e2.symm⟩;have h2:Ze 4 zN Rl.tms W W.heap.size (some b) (rl++[y]):=h.inb.snoc ⟨hy,fun _ a e e2=>(hyo a e).2 (zx e2)⟩;have hs:=hb.size;have h4:=(h1.keep hb).moved (row':=some g2) hs hg (by
  rcases hat with e|e
  · exact Or.inl e.symm
  · right;intro g eg;injection eg with eg;omega)
 have hs9:=hg.size;refine⟨(h.nx.grownR (zG hb none) (fun _ e=>Zp)).grownR hg (fun j e=>DH),AD hown,h4.up zb,(h2.with h4 zo).up zb,h.lo⟩
end
end
section
open Go.RowKit
theorem S8{rl rl2:List Rl}(hz:∀x∈rl,1<=x.tms.l.length/\x.tms.l.length<=6/\∀t∈x.tms.l,YG 60 t)(hp:rl2.map Rl.p=(qX (rl.map Rl.p)).1):∀x∈rl2,1<=x.tms.l.length/\x.tms.l.length<=6/\∀t∈x.tms.l,YG 60 t:=fun x hx=>by
 obtain⟨y,hy,he⟩:=List.mem_map.1 (zaL _ x.p (hp▸List.mem_map_of_mem hx));have e:y.tms.l=x.tms.l:=congrArg Rp.tms he;rw[<-e];exact hz y hy
theorem SY{rl rl2:List Rl}(hp:rl2.map Rl.p=(qX (rl.map Rl.p)).1):rl2.length<=rl.length:=by
 have h1:=zh8 (rl.map Rl.p);have h2:=congrArg List.length hp;rw[List.length_map]at h1 h2;omega
theorem zA.below5{w0 w W W1:World}{b n p d:Nat}(h:zA w0 b n p d w W)(hb:Below W.heap.size W W1):zA w0 b n p d w W1:=h.grownR (zG hb none) (fun _ e=>Zp)
def zce(w0:World)(b n p d:Nat)(w:World)(e:Ending)(w':World):Prop:=∃A c rl,e=.returned (.slice A rl.length c)/\rl.length<=12/\rl.length<=c/\kv (rl.map Rl.p)/\(∀x∈rl,1<=x.tms.l.length/\x.tms.l.length<=6/\∀t∈x.tms.l,YG 60 t)/\Um w' w'.heap.size (some b) A 3 rl.length (cellsOf Qr rl)/\Ze 4 zN Rl.tms w' w'.heap.size (some b) rl/\zA w0 b n p d w w'
theorem SF{w0 w:World}{b n p d:Nat}(h:qp w0 b n p d w){m:Nat}(hm:m<=12)(h3:p+d<=50000):
 Calls prog 6 #[.pointer (some ⟨b,0,none⟩),.int .i64 m] w (zce w0 b n p (d+1300) w):=by
 have H:=za h;have hlb:=h.lt;have hws:=h.size;clear h;obtain⟨i0,hi0,hz0,hz1,hz2⟩:=info_parts Ai;have Hi0:=za hi0;have Hz0:=za hz0;have Hz1:=za hz1;have Hz2:=za hz2;clear hi0 hz0 hz1 hz2;go_enter func6,ntmps6;go_wp2_with fail
 (with_reducible refine(QL (n:=n) (p:=p) _ H.out zb zb zb).mono ?_)
 rintro e w1 ⟨r,r0,r1,rfl,hT1⟩;obtain⟨rn,rfl⟩:=Int.eq_ofNat_of_zero_le r0;have hrn:rn<=12:=zb;have HT1:=za ((Ul.start H.out).go hT1);clear hT1 r0 r1;go_wp2_with fail
 go_loopg [5,6] 13 (fun gk s3 s4 wr=>∃(k:Nat) (A:Option Addr) (c:Nat) (rl:List Rl) (D:Nat),s3=.slice A rl.length c/\s4=.int .i64 k/\k+1<=gk/\k<=12/\rl.length+k<=12/\D+101*k<=d+1213/\Hid (∀x∈rl,1<=x.tms.l.length/\x.tms.l.length<=6/\∀t∈x.tms.l,YG 60 t)/\Hid (Ul w0 b n p D w (.slice A rl.length c) rl wr))
 case atStart=>exact⟨rn,none,0,[],d+1,rfl,rfl,zb,hrn,zH,zb,(fun x hx=>YS),HT1.out⟩
 case round=>
  obtain⟨k,A,c,rl,D,rfl,rfl,hkg,hk7,hlk,hD,hZ,hR⟩:=hrel;by_cases hk:0<k
  · have hkI:(0:Int)<(k:Int):=by omega
    go_wp2_with fail
    (with_reducible refine(Ve (n:=n) (p:=p) 60 _ _ _ _ _ hR.out.nx.st zi zl zi zi zl zb).mono ?_)
    rintro e w2 ⟨y,hy,rfl,hT2⟩;have HR2:=za (hR.out.go hT2);clear hT2;go_wp2_with fail
    (with_reducible refine(zif (n:=n) (p:=p) HR2.out.nx.st zb).mono ?_)
    rintro e w3 ⟨tv,l,rfl,hl1,hl6,hTT⟩;obtain⟨TA,tc,rfl⟩:=Z3 hTT.row.own;have HR3:=za (HR2.out.go hTT.row.nx);have HTr:=za (zr.of_own hTT.row.own);have HTo:Hid (∀a,TA=some a->(Value.slice A rl.length c).ownBlock≠some a.block/\a.block≠b):=za fun a ha=>by
     have h1:=(hTT.row.own.lt a.block (by rw[ha];rfl)).1;have h2:=HR2.out.nx.gr.size;exact⟨fun e=>by have:=(HR2.out.own.lt _ e).2;omega,zb⟩
    have HZ2:Hid (∀x∈rl++[(⟨y,(rl.length:Int)+1,⟨TA,tc,l⟩⟩:Rl)],1<=x.tms.l.length/\x.tms.l.length<=6/\∀t∈x.tms.l,YG 60 t):=za fun x hx=>by
     rcases List.mem_append.1 hx with hx|hx
     · exact hZ.out x hx
     · obtain rfl:=List.mem_singleton.1 hx;exact⟨hl1,hl6,hTT.small⟩
    have hw3:=HR3.out.nx.gr.size;clear hTT;go_wp2_with (at_builtin;go_loud (refine wpList_append_lies _ rfl _ _ _ zj w.heap.size 56 i0 _ 3 48 underlying26 Hi0.out Hz0.out Hz1.out Hz2.out rfl zb (.slice A rl.length c) rl.length (cellsOf Qr rl) zj (HR3.out.own.alloc _) _ 1 1 (Qr (⟨y,(rl.length:Int)+1,⟨TA,tc,l⟩⟩:Rl)) zj zj KE (Cr _) zb qi zb zH _ rfl ?_;intro g2 cap w9 hown2 hgrow2 hat2 hlt2;have HR9:=za (HR3.out.push (y:=(⟨y,(rl.length:Int)+1,⟨TA,tc,l⟩⟩:Rl)) zw HTr.out HTo.out hown2 hgrow2 hat2);clear hown2 hgrow2 hat2 hlt2))
    go_roundg (gk - 1)
    case measure=>omega
    case rel=>exact⟨k - 1,_,_,rl++[(⟨y,(rl.length:Int)+1,⟨TA,tc,l⟩⟩:Rl)],D+101,GO,NJ,zb,zb,by rw[List.length_append];simp;omega,zb,HZ2.out,by rw[List.length_append];exact HR9.out⟩
  · obtain rfl:k=0:=by omega
    have HL:=za (zfJ A c rl wr zb (fun x hx=>by have:=(hZ.out x hx).2.1;omega) (zr.of_own hR.out.own) (hR.out.inn.at_));have hmore:=za (hR.out.nx.more (by omega:D<=d+1300));unfold OQ at HL;go_wp2_with fail
    refine HL.out.mono ?_;rintro e w5 ⟨A5,c5,A5f,c5f,rl5,fl5,rfl,hp5,hf5,hr5,hrf5,hi5,hb5,hcp,hfar,hT⟩;have HZ5:=za (S8 hZ.out hp5);have hl5:=SY hp5;have HCp:=za hcp;have HRe:=za (show kv (rl5.map Rl.p) by rw[hp5];exact zii _);have HS5:=za (hmore.out.below5 hb5);have hbw:b<wr.heap.size:=by have:=hR.out.nx.gr.size;have:=hR.out.lo;omega
    have HR5:Hid (Um w5 w5.heap.size (some b) A5 3 rl5.length (cellsOf Qr rl5)):=za ⟨hr5,fun _ a ha e=>by have:=hfar a ha;injection e with e;omega⟩;have HI5:Hid (Ze 4 zN Rl.tms w5 w5.heap.size (some b) rl5):=za fun y hy=>⟨hi5 y hy,fun _ a ha e=>by
     obtain⟨x,hx,hxa⟩:=hT y hy a ha;exact(hR.out.inb x hx).off (by have:=(hZ.out x hx).1;omega) a hxa e⟩
    clear hp5 hf5 hr5 hrf5 hi5 hb5 hcp hfar hT hbw;go_wp2;go_ret;exact⟨A5,c5,rl5,rfl,zb,HCp.out,HRe.out,HZ5.out,HR5.out,HI5.out,HS5.out⟩
end
section
open Go.RowKit
abbrev EW:TypeId:=25
theorem kl.run{c:zt}(h:kl c):VP c:=fun name W hT hE hs=>by
 have hz:=h.z;refine zja c.tA c.tc c.tds c.ix name W hT (fun d hd=>⟨(hz.dv d hd).1,(hz.dv d hd).2.1⟩) hz.wf hz.ix1 hz.ix2 hE.toEnv hE.u (fun d hd y hy=>?_) hs;obtain⟨x,hx,rfl⟩:=List.mem_map.1 hd;have:=(h.tw.dv x hx).ats y hy;exact⟨Nat.le_trans this.1 zi,this.2.2⟩
theorem ZX.off{b:Nat}{w w':World}{A:Option Addr}{rl:List Rl}(hr:Um w w.heap.size (some b) A 3 rl.length (cellsOf Qr rl))(hi:Ze 4 zN Rl.tms w w.heap.size (some b) rl)(hz:∀x∈rl,1<=x.tms.l.length/\x.tms.l.length<=6/\∀t∈x.tms.l,YG 60 t)(hg:w.grownBy w' (some b)):ZX w' A rl:=by
 refine⟨(hr.grown zo hg).at_.up hg.size,fun y hy=>?_,fun y hy e=>?_⟩
 · have h:=((hi y hy).grown zo hg).at_.up hg.size;refine⟨h,fun a e=>?_⟩;obtain⟨ba,off,e2,hb,_⟩:=h.at_ (hz y hy).1;rw[e]at e2;cases e2
   exact⟨rfl,hb⟩
 · obtain⟨ba,off,e2,_⟩:=(hi y hy).at_.at_ (hz y hy).1;rw[e]at e2;cases e2
end
section
open Go.RowKit
theorem lawJumps(TA:Option Addr)(n tc:Nat)(w:World)(hE:Z5 w)(hI:I8 w TA n):
 Calls prog 5 #[.slice TA n tc] w fun e w'=>e=.returned (.bool true)/\Below w.heap.size w w':=by
 obtain⟨w1,hw1⟩:∃w1,w.alloc (.cells #[.slice TA n tc,.int .i64 0] EW)=w1:=⟨_,rfl⟩;have hb1:Below w.heap.size w w1:=ZV;have hnG:=hE.toEnv.toEnv0.size;have hts:qp w1 w.heap.size n 0 0 w1:=by rw[<-hw1];exact qp.start (hI.tape tc EW)
 have HRl:=za (SF hts (m:=10) zb zb);have HG:=za hnG;have HE:=za hE;have HW1:=za hw1;have HB1:=za hb1;clear hE hI hts hw1 hnG;go_enter func5,ntmps5;go_upto_region 2 with fail
 rw[HW1.out];go_cut [4,5]from 17 to 21 (fun s4 s5 wx=>∃(t5:Nat) (c:zt) (A:Option Addr) (ac:Nat) (rl:List Rl),s4=.slice A rl.length ac/\s5=.pointer (some ⟨t5,0,none⟩)/\Hid (wx.heap[t5]? =some (.cells (zM c) ql (0,0)))/\Hid (ZH wx c)/\Hid (kl c)/\Hid (ZX wx A rl)/\Hid (kv (rl.map Rl.p))/\Hid (rl.length<=12/\∀x∈rl,1<=x.tms.l.length/\x.tms.l.length<=6/\∀t∈x.tms.l,YG 60 t)/\Hid (Below w.heap.size w wx))
 case first=>
  as_aux_lemma=>
  go_wp2_with fail
  refine HRl.out.mono ?_;rintro e w2 ⟨A,ac,rl,rfl,hl,-,hre,hz,hro,hio,hT⟩;have hb2:Below w.heap.size w w2:=hb1.grown hT.gr hb1.size (fun j e=>km);have HIn:=za (ziz hT.st (HE.out.toEnv.toEnv0.go hb2) HG.out 5 zb zb);have HB2:=za hb2;have HRe:=za hre;have HZ:=za (And.intro hl hz);have HO:=za (fun(W:World) (hW:w2.grownBy W (some w.heap.size))=>ZX.off hro hio hz hW);clear hre hl hz hro hio hT hb2 hb1;go_wp2_with fail
  refine HIn.out.mono ?_;rintro e w3 ⟨c,rfl,hM,hW,_,hT⟩;have HK:=za (heap_alloc_new w3 (.cells (zM c) ql));have HM:=za (hM.keep (zI w3 (.cells (zM c) ql)));have HWc:=za hW;have HR:=za ((HO.out _ hT.gr).keep (zI w3 (.cells (zM c) ql)));have HB:=za (zV (HB2.out.grown hT.gr HB2.out.size (fun j e=>km)):Below w.heap.size w (w3.alloc (.cells (zM c) ql)));clear hM hW hT;unfold zM at*;go_wp2;go_meet;exact⟨_,c,A,ac,rl,rfl,rfl,HK,HM,HWc,HR,HRe,HZ,HB⟩
 case rest=>
 obtain⟨t5,c,A,ac,rl,rfl,rfl,HK2,HM2,HW2,HR2,HRe,HZ2,HB2⟩:=hcut;generalize wc=w2 at*;have hz:=HW2.out.z;have HH0:=FX A ac rl c w2 HM2.out hz (HE.out.go HB2.out) HR2.out ⟨by have:=HZ2.out.1;omega,fun y hy=>⟨by have:=(HZ2.out.2 y hy).2.1;omega,fun t ht=>by have:=((HZ2.out.2 y hy).2.2 t ht).value;omega⟩⟩ (fun _ _ _ _ _=>HW2.out.run);have HHd:=za (Calls.mono HH0 fun _ _ h=>zcK h);clear HH0 hz HRl;have HK:=za (fun(W:World) (hW:Below w.heap.size w W)=>Ss W (HE.out.go hW));go_upto_region 3 with fail
 go_cut [6]from 21 to 27 (fun s6 wx=>∃(held:List Int) (HA:Option Addr) (hc:Nat),s6=.slice HA held.length hc/\Hid (zD wx HA 1 held.length (cellsOf Q5 held))/\Hid (PI rl held)/\Hid (Below w2.heap.size w2 wx))
 case first=>
  as_aux_lemma=>
  unfold zM at*;have x0:w2.cell? ⟨t5,0,none⟩=some (.string c.act):=zd HK2.out rfl;have x1:w2.cell? ⟨t5,1,none⟩=some (.slice c.tA c.tds.length c.tc):=zd HK2.out rfl;have x2:w2.cell? ⟨t5,2,none⟩=some (.int .i64 c.ix):=zd HK2.out rfl;have x3:w2.cell? ⟨t5,3,none⟩=some (.string c.r.path):=zd HK2.out rfl;have x4:w2.cell? ⟨t5,4,none⟩=some (.int .i64 c.r.ix):=zd HK2.out rfl;have x5:w2.cell? ⟨t5,5,none⟩=some (.slice c.r.props.A c.r.props.l.length c.r.props.c):=zd HK2.out rfl;have x6:w2.cell? ⟨t5,6,none⟩=some (.slice c.r.tags.A c.r.tags.l.length c.r.tags.c):=zd HK2.out rfl;have x7:w2.cell? ⟨t5,7,none⟩=some (.slice c.r.links.A c.r.links.l.length c.r.links.c):=zd HK2.out rfl;have x8:w2.cell? ⟨t5,8,none⟩=some (.slice c.r.run.A c.r.run.l.length c.r.run.c):=zd HK2.out rfl;have x9:w2.cell? ⟨t5,9,none⟩=some (.slice c.r.load.A c.r.load.l.length c.r.load.c):=zd HK2.out rfl;have x10:w2.cell? ⟨t5,10,none⟩=some (.string c.r.nam):=zd HK2.out rfl;have x11:w2.cell? ⟨t5,11,none⟩=some (.int .i64 c.r.prio):=zd HK2.out rfl;have x12:w2.cell? ⟨t5,12,none⟩=some (.string c.r.own):=zd HK2.out rfl;have x13:w2.cell? ⟨t5,13,none⟩=some (.string c.r.grp):=zd HK2.out rfl;have x14:w2.cell? ⟨t5,14,none⟩=some (.int .i64 c.r.mode):=zd HK2.out rfl;have x15:w2.cell? ⟨t5,15,none⟩=some (.slice c.hs.A c.hs.l.length c.hs.c):=zd HK2.out rfl;have x16:w2.cell? ⟨t5,16,none⟩=some (.int .i64 c.lim):=zd HK2.out rfl;go_wp2_with (go_at_call 15;refine HHd.out.mono ?_;rintro e w3 ⟨held,HA,hc,eN,rfl,hr,hk,hb⟩;have HR:=za hr;have HO:=za hk;have HB:=za hb;clear hr hk hb)
  go_meet;exact⟨held,HA,hc,rfl,HR,HO,HB⟩
 case rest=>
 obtain⟨held,HA,hc,rfl,HRh,HOk,HB3⟩:=hcut;generalize wc=w3 at*;clear HHd HK2 HM2 HW2 HB1;have HR3:=za (HR2.out.keep HB3.out);have HB:=za (bt HB2.out HB3.out);clear HR2;have hN12:rl.length<=12:=HZ2.out.1;have hH12:held.length<=12:=Nat.le_trans HOk.out.len hN12;obtain⟨N,hN⟩:∃N,rl.length=N:=⟨_,rfl⟩;have HN:=za hN;obtain⟨H,hH⟩:∃H,held.length=H:=⟨_,rfl⟩;have HH:=za hH;rw[hN]at hN12⊢;rw[hH]at hH12⊢;clear hN hH;go_wp2_with fail
 go_loopg [8,9,10,11,12,13] (H+1) (fun gk s8 _ _ _ _ _ wr=>∃i:Nat,s8=.int .i64 i/\i+gk=H+1/\i<=H/\Hid (Below w3.heap.size w3 wr))
 case atStart=>exact⟨0,rfl,zb,Nat.zero_le _,za zk⟩
 case round=>
  obtain⟨i,rfl,hig,hiH,HBr⟩:=hrel;by_cases hlt:i<H
  · have hltI:(i:Int)<(H:Int):=by omega
    have hi:i<held.length:=by rw[HH.out];exact hlt
    obtain⟨ha,ho,rfl,hce⟩:=zdO HRh.out (Nat.lt_of_le_of_lt (Nat.zero_le _) hi);obtain⟨k,hk,hkN⟩:=HOk.out.rng i hi;have HC0:Hid (∀W,Below w3.heap.size w3 W->W.cell? ⟨ha,ho+i,none⟩=some (.int .i64 k)):=za fun W hW=>by rw[<-hk];exact hce W hW i hi
    have hkI:(k:Int)<(N:Int):=by rw[<-HN.out];omega
    have HCp:Hid (∀i',i=i'+1->∃z:Int,z<(k:Int)/\∀W,Below w3.heap.size w3 W->W.cell? ⟨ha,ho+i',none⟩=some (.int .i64 z)):=za fun i' e=>by
     subst e;have h1:=HOk.out.asc i' hi;rw[hk]at h1;exact⟨_,h1,fun W hW=>hce W hW i' zb⟩
    have HCn:Hid (i+1<H->∃z:Int,(∀W,Below w3.heap.size w3 W->W.cell? ⟨ha,ho+(i+1),none⟩=some (.int .i64 z))/\((Qe (ZO rl) k rl[k].tms.l:Nat):Int)<=z):=za fun h=>by
     have h1:i+1<held.length:=by rw[HH.out];exact h
     exact⟨_,fun W hW=>hce W hW (i+1) h1,HOk.out.nxt i h1 k hkN hk⟩
    obtain⟨ra,ro,rfl,-,-,-⟩:=GY HR3.out.row HBr.out hkN;have HVg:Hid (∀j (hj:j<rl.length) (key:Int) W,Below w3.heap.size w3 W->Calls prog 16 #[.slice rl[j].tms.A rl[j].tms.l.length rl[j].tms.c,.int .i64 key] W fun e w'=>e=.returned (kH (Qn rl[j].tms.l key))/\W=w'):=za fun j hj key W hW=>PQ rl[j].tms.A rl[j].tms.c rl[j].tms.l key W (by have:=(HZ2.out.2 _ (List.getElem_mem hj)).2.1;omega) (((HR3.out.inn _ (List.getElem_mem hj)).keep hW).row);have HCr:Hid (∀j (hj:j<rl.length) W,Below w3.heap.size w3 W->W.cell? ⟨ra,ro+j*3+2,none⟩=some (.slice rl[j].tms.A rl[j].tms.l.length rl[j].tms.c)):=za fun j hj W hW=>by
     obtain⟨b2,o2,e,_,_,h⟩:=GY HR3.out.row hW hj;cases e
     exact h
    have HJ:=za (fun tt (h:Q4 rl[k].tms.l 24=some tt)=>zaX HRe.out hkN h);clear hce hk;obtain⟨G,hG⟩:∃G,G=gk:=⟨_,rfl⟩;have c0:=HC0.out _ HBr.out;go_upto_region 7 with fail
    go_cut [62]from 33 to 64 (fun s62 wx=>s62=.bool false/\Hid (Below w3.heap.size w3 wx))
    case first=>
     have g0:decide ((k:Int)<0)=false:=decide_eq_false zb;have g1:decide (N<=k)=false:=decide_eq_false zb;rcases Nat.eq_zero_or_pos i with h0|h0
     · subst h0;rw[Nat.add_zero]at c0;exact j7
     · obtain⟨i',rfl⟩:∃i',i=i'+1:=⟨i - 1,zb⟩;obtain⟨z,hz,hcz⟩:=HCp.out i' rfl;have cz:=hcz _ HBr.out;have c2:=c0;rw[<-Nat.add_assoc]at c2;have b1:(i':Int)+1<(H:Int):=zb;have b2:(i':Int)<(H:Int):=zb;have g2:decide ((k:Int)<=z)=false:=decide_eq_false zb;have g3:decide ((0:Int)<(i':Int)+1)=true:=decide_eq_true zb;clear hcz;exact j7
    case rest=>
    obtain⟨rfl,HBx⟩:=hcut;generalize wc=wx at*;have c1:=HC0.out _ HBx.out;have d2:=HCr.out k hkN _ HBx.out;have HV:=za (HVg.out k hkN 24 wx HBx.out);obtain⟨o,hov⟩:∃o,Qn rl[k].tms.l 24=o:=⟨_,rfl⟩;rw[hov]at HV;unfold kH at HV;have HJo:Hid (∀tt,o=some tt->∃j,∃hj:j<rl.length,k<j/\Z8 tt rl[j].tms.l=true/\(∀i (hi:i<rl.length),k<i->i<j->Z8 tt rl[i].tms.l=false)/\Qe (ZO rl) k rl[k].tms.l=j):=za fun tt e=>HJ.out tt (by rw[<-e];exact hov);clear c0 hov HJ HCp;cases o with
    | none=>
      go_wp2_with (go_at_call 16;refine HV.out.mono ?_;rintro e wv ⟨rfl,hv⟩;obtain rfl:wx=wv:=hv)
      go_roundg (gk - 1)
      case measure=>omega
      case rel=>exact⟨i+1,zP,zb,zb,HBx⟩
    | some tt=>
      obtain⟨j,hj,hkj,hlab,hno,hnx⟩:=HJo.out tt rfl;have hjN:j<N:=by rw[<-HN.out];exact hj
      have HL:=za (zhf hlab);have HNo:=za hno;rw[hnx]at HCn;clear hlab hno hnx HJo;go_wp2_with (go_at_call 16;refine HV.out.mono ?_;rintro e wv ⟨rfl,hv⟩;obtain rfl:wx=wv:=hv)
      go_loopg [11,12,13] (N - k) (fun gk s11 _ _ wy=>∃m:Nat,s11=.int .i64 m/\m+gk=N+1/\k+1<=m/\m<=j/\wx=wy)
      case atStart=>exact⟨k+1,zP,zb,zb,zb,rfl⟩
      case round=>
       obtain⟨m,rfl,hmg,hmk,hmj,rfl⟩:=hrel;have hm:m<rl.length:=zb;have hmI:(m:Int)<(N:Int):=zb;have d3:=HCr.out m hm _ HBx.out;have HVz:=za (HVg.out m hm 23 wx HBx.out);by_cases he:m=j
       · subst he;have HVy:=HVz.out;rw[HL.out]at HVy;have HVx:=za HVy;unfold kH at HVx;clear HVy HVz;by_cases hn:i+1<H
         · obtain⟨z,hcz,hz⟩:=HCn.out hn;have cz:=hcz _ HBx.out;have cy:=cz;rw[<-Nat.add_assoc]at cy;have hnI:(i:Int)+1<(H:Int):=zb;have hzn:¬z<(m:Int):=zb;clear hcz hz;exact yJ
         · have hnI:¬(i:Int)+1<(H:Int):=by omega
           exact yJ
       · have hf:=HNo.out m hm zb zb;obtain⟨o,hov⟩:∃o,Qn rl[m].tms.l 23=o:=⟨_,rfl⟩;have hx:∀x,o=some x->(x.toList==tt.toList)=false:=fun x e=>BI hf (by rw[hov];exact e);rw[hov]at HVz;unfold kH at HVz;clear hf hov;cases o with
         | none=>
           clear hx;exact CK
         | some x=>
           have hx:=hx x rfl;exact CK
  · obtain rfl:i=H:=by omega
    have HBe:=za (bt HB.out HBr.out);go_wp2_with (go_at_call 10;refine(HK.out _ HBe.out).mono ?_;rintro e w5 ⟨rfl,hb5⟩;have HB9:=za hb5;clear hb5)
    go_ret;exact⟨rfl,bt HBe.out HB9.out⟩
end
end Go.Proofs.YtecbmndgpepkcaaGreatDoor

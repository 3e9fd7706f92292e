/- Contracts of functions that the law reaches, and what they rest on; each under the premises that it names. Shortened by a program. -/
import Derived.Test.YtobcmlmbblgcdaaGreatDoorAssignA
import Derived.Test.YtobcmlmbblgcdaaGreatDoorAssignB
import Derived.Test.YtobcmlmbblgcdaaGreatDoorMatches
import Derived.Test.YtobcmlmbblgcdaaGreatDoorWInput
import Derived.Test.YtobcmlmbblgcdaaGreatDoorKnL
import Derived.Test.YtobcmlmbblgcdaaGreatDoorG25
namespace Go.Proofs.YtobcmlmbblgcdaaGreatDoor
open Tryz
set_option maxHeartbeats 8000000
set_option maxRecDepth 100000
section
open Go.RowKit
theorem Ci{w0 w:World}{b n p d:Nat}(h:qq w0 b n p d w)(h3:p+d<=100000):
 Calls prog 39 #[.pointer (some ⟨b,0,none⟩)] w (GU 60 (zB w0 b n p (d+10) w)):=by
 obtain⟨r,r0,r1,hF0⟩:=JH 14 h zb zb zb;have hr:r=4∨r=9∨r=10∨r=0∨r=1∨r=2∨r=3∨r=5∨r=6∨r=7∨r=8∨r=11∨r=12∨r=13:=zb;clear r0 r1;rcases hr with rfl|rfl|rfl|hr
 · exact zdF h h3 hF0
 · exact zdu h h3 hF0
 · exact zet h h3 hF0
 have hwb:w.heap.size≠b:=Ik;have hws:=h.size;have HF0:=za hF0;clear h hF0;rcases hr with rfl|rfl|rfl|rfl|rfl|rfl|rfl|rfl|rfl|rfl|rfl
 all_goals
  go_enter func39,ntmps39;go_wp2_with fail
  with_reducible refine(HF0.out _ qZ).mono ?_
  rintro e w2 ⟨rfl,hT2⟩;have HT:=za hT2;clear hT2;go_wp2_with (first|(go_at_call 13;(with_reducible refine(QV (n:=n) (p:=p) _ HT.out.st zb zb zb).mono ?_);rintro e wN ⟨q,q0,q1,rfl,hT⟩;have HT:=za (HT.out.trans hT);clear hT)|(go_at_call 14;(with_reducible refine(X9 (n:=n) (p:=p) 60 _ _ _ _ _ HT.out.st zi zl zi zi zl zb).mono ?_);rintro e wN ⟨s,hs,rfl,hT⟩;have HT:=za (HT.out.trans hT);clear hT)|(refine wpList_store_row rfl 46 _ _ rfl _ _ rfl rfl _ _ (HT.out.blk (heap_alloc_new w _) hwb) (by exact TF) rfl qV ?_))
 all_goals
  refine Yx rfl zj (HT.out.blk (heap_alloc_new w _) hwb) underlying46 rfl (by exact TF) zj ?_;exact⟨⟨_,_,_,_⟩,⟨Nn,Nn,KS,KS,KS,KS⟩,rfl,((zB.alloc HT.out).more zb).setRow zo hws _⟩
end
section
open Go.RowKit
structure RG(w0:World)(b n p d:Nat)(w:World)(v:Value)(l:List Tm)(W:World):Prop where
 row:Zv 46 4 zO w0 b n p d w v l W
 small:∀t∈l,YZ 60 t
def zbC(lo hi:Nat)(w0:World)(b n p d:Nat)(w:World)(e:Ending)(w':World):Prop:=∃v l,e=.returned v/\lo<=l.length/\l.length<=hi/\RG w0 b n p d w v l w'
theorem Nu{l:List Tm}{t:Tm}(h:∀x∈l,YZ 60 x)(ht:YZ 60 t):∀x∈l++[t],YZ 60 x:=fun x hx=>by
 rcases List.mem_append.1 hx with hx|hx
 · exact h x hx
 · obtain rfl:=List.mem_singleton.1 hx;exact ht
theorem zhg{l:List Tm}{t:Tm}(h:∀x∈l,YZ 60 x)(ht:YZ 60 t):∀x∈t::l,YZ 60 x:=fun x hx=>by
 rcases List.mem_cons.1 hx with rfl|hx
 · exact ht
 · exact h x hx
theorem zfa(l:List Tm):∀u∈cellsOf zO l,u.oneCell'=true:=fun u hu=>by
 unfold cellsOf at hu;obtain⟨t,_,hu⟩:=List.mem_flatMap.1 hu;exact Ic t u hu
theorem Zv.cons{α:Type}{T:TypeId}{kk:Nat}{enc:α->List Value}{w0 w W W2:World}{b n p d c B:Nat}{A:Option Addr}{v:Value}{l:List α}{t:α}(h:Zv T kk enc w0 b n p d w v l W)(hown:W2.ownsRow w.heap.size T kk (.slice A (1+l.length) c) (1+l.length) (enc t++cellsOf enc l))(hg:W.grownBy W2 (some B))(hB:w.heap.size<=B):Zv T kk enc w0 b n p d w (.slice A (1+l.length) c) (t::l) W2:=
 ⟨h.nx.grownR hg (fun j e=>by cases e;have:=h.lo;omega),by rw[List.length_cons,Nat.add_comm l.length 1];exact hown,h.lo⟩
theorem zh6{w0 w:World}{b n p d:Nat}(h:qq w0 b n p d w)(h3:p+d<=90000):
 Calls prog 15 #[.pointer (some ⟨b,0,none⟩)] w (zbC 1 6 w0 b n p (d+100) w):=by
 have H:=za h;have hlb:=h.lt;have hws:=h.size;clear h;obtain⟨i0,hi0,hz0,hz1,hz2⟩:=info_parts Sj;have Hi0:=za hi0;have Hz0:=za hz0;have Hz1:=za hz1;have Hz2:=za hz2;clear hi0 hz0 hz1 hz2;go_enter func15,ntmps15;go_wp2_with fail
 (with_reducible refine(QV (n:=n) (p:=p) _ H.out zb zb zb).mono ?_)
 rintro e w1 ⟨r,r0,r1,rfl,hT1⟩;obtain⟨rn,rfl⟩:=Int.eq_ofNat_of_zero_le r0;have hrn:rn<=2:=zb;have HT1:=za (Zv.go (Zv.start (T:=46) (kk:=4) (enc:=zO) H.out) hT1);clear hT1 r0 r1;go_wp2_with fail
 go_loopg [3,4] 3 (fun gk s3 s4 wr=>∃(k:Nat) (v:Value) (l:List Tm) (D:Nat),v=s3/\s4=.int .i64 k/\k+1<=gk/\k<=2/\l.length+k<=2/\D+10*k<=d+21/\Hid (RG w0 b n p D w v l wr))
 case atStart=>exact⟨rn,_,[],d+1,rfl,rfl,zb,hrn,zG,zb,HT1.out,fun t ht=>by cases ht⟩
 case round=>
  obtain⟨k,v,l,D,rfl,rfl,hkg,hk2,hlk,hD,hTT⟩:=hrel;by_cases hk:0<k
  · have hkI:(0:Int)<(k:Int):=by omega
    go_wp2_with fail
    (with_reducible refine(zaA (n:=n) (p:=p) hTT.out.row.nx.st zb).mono ?_)
    rintro e w2 ⟨t,hts,rfl,hT2⟩;have HR2:=za (hTT.out.row.go hT2);have HS2:=za (Nu hTT.out.small hts);clear hT2 hts;unfold qi;have hw2:=HR2.out.nx.gr.size;go_wp2_with (refine wpList_append_lies _ rfl _ _ _ zj w.heap.size 46 i0 _ 4 48 underlying42 Hi0.out Hz0.out Hz1.out Hz2.out rfl zb v l.length (cellsOf zO l) zj (HR2.out.alloc _).own _ 1 1 (zO t) zj zj CG (Ic _) zb qh zb zG _ rfl ?_;intro g2 cap w3 hown2 hgrow2 hat2 hlt2)
    have HR3:=za ((HR2.out.alloc _).snoc hown2 hgrow2);clear hown2 hgrow2 hat2;go_wp2;go_roundg (gk - 1)
    case measure=>omega
    case rel=>exact⟨k - 1,_,l++[t],D+10,rfl,MV,zb,zb,zG,zb,HR3.out,HS2.out⟩
  · obtain rfl:k=0:=by omega
    go_wp2_with fail
    (with_reducible refine(QV (n:=n) (p:=p) _ hTT.out.row.nx.st zb zb zb).mono ?_)
    rintro e w2 ⟨r2,r0,r1,rfl,hT2⟩;obtain⟨rm,rfl⟩:=Int.eq_ofNat_of_zero_le r0;have hrm:rm<=1:=zb;have HR2:=za (hTT.out.row.go hT2);have HS2:=za hTT.out.small;clear hT2 hTT r0 r1;go_wp2_with fail
    obtain⟨gko,rfl⟩:∃gko:Nat,gko=gk:=⟨_,rfl⟩;obtain⟨wo,rfl⟩:∃wo:World,wo=wr:=⟨_,rfl⟩;go_loopg [3,5] 4 (fun gk s3 s5 wr=>∃(k:Nat) (v:Value) (l:List Tm) (D:Nat),v=s3/\s5=.int .i64 k/\k+1<=gk/\k<=2/\l.length+k<=4/\1<=l.length+k/\D+10*k<=d+52/\Hid (RG w0 b n p D w v l wr))
    case atStart=>exact⟨1+rm,v,l,D+1,rfl,by rw[show((1+rm:Nat):Int)=1+(rm:Int)from by omega],zb,zb,zb,zb,zb,HR2.out,HS2.out⟩
    case round=>
     obtain⟨k,v,l,D,rfl,rfl,hkg2,hk22,hlk2,hlk3,hD2,hTT⟩:=hrel;by_cases hk:0<k
     · have hkI:(0:Int)<(k:Int):=by omega
       go_wp2_with fail
       (with_reducible refine(Ci (n:=n) (p:=p) hTT.out.row.nx.st zb).mono ?_)
       rintro e w3 ⟨t,hts,rfl,hT3⟩;have HR3:=za (hTT.out.row.go hT3);have HS3:=za (Nu hTT.out.small hts);clear hT3 hts;unfold qi;have hw3:=HR3.out.nx.gr.size;go_wp2_with (refine wpList_append_lies _ rfl _ _ _ zj w.heap.size 46 i0 _ 4 48 underlying42 Hi0.out Hz0.out Hz1.out Hz2.out rfl zb v l.length (cellsOf zO l) zj (HR3.out.alloc _).own _ 1 1 (zO t) zj zj (by exact World.news_of_block (B:=w3.heap.size) qA) (Ic _) zb qh zb zG _ rfl ?_;intro g2 cap w9 hown2 hgrow2 hat2 hlt2)
       have HR4:=za ((HR3.out.alloc _).snoc hown2 hgrow2);clear hown2 hgrow2 hat2;go_wp2;go_roundg (gk - 1)
       case measure=>omega
       case rel=>exact⟨k - 1,_,l++[t],D+10,rfl,MV,zb,zb,zG,zG,zb,HR4.out,HS3.out⟩
     · obtain rfl:k=0:=by omega
       go_wp2_with fail
       (with_reducible refine(QV (n:=n) (p:=p) _ hTT.out.row.nx.st zb zb zb).mono ?_)
       rintro e w3 ⟨r3,r0,r1,rfl,hT3⟩;have HR3:=za (hTT.out.row.go hT3);have HS3:=za hTT.out.small;clear hT3 hTT;have hw3:=HR3.out.nx.gr.size;by_cases h0:r3=0
       · subst h0;go_wp2_with fail
         (with_reducible refine(X9 (n:=n) (p:=p) 60 _ _ _ _ _ HR3.out.nx.st zi zl zi zi zl zb).mono ?_)
         rintro e w4 ⟨s,hs,rfl,hT4⟩;have HR4:=za (HR3.out.go hT4);clear hT4;have hw4:=HR4.out.nx.gr.size;have HS4:=za (Nu (t:=⟨23,⟨#[]⟩,3,s⟩) HS3.out ⟨Vn,hs,Vn,Vn,Vn,Vn⟩);go_wp2_with (refine wpList_append_lies _ rfl _ _ _ zj w.heap.size 46 i0 _ 4 48 underlying42 Hi0.out Hz0.out Hz1.out Hz2.out rfl zb v l.length (cellsOf zO l) zj (HR4.out.alloc _).own _ 1 1 (zO ⟨23,⟨#[]⟩,3,s⟩) zj zj E5 (Ic _) zb qh zb zG _ rfl ?_;intro g2 cap w9 hown2 hgrow2 hat2 hlt2)
         have HR5:=za ((HR4.out.alloc _).snoc (t:=⟨23,⟨#[]⟩,3,s⟩) hown2 hgrow2);clear hown2 hgrow2 hat2;go_wp2;go_ret;exact⟨_,l++[⟨23,⟨#[]⟩,3,s⟩],rfl,zl,zG,HR5.out.more zb,HS4.out⟩
       by_cases h1:r3=1
       · subst h1;go_wp2_with fail
         (with_reducible refine(X9 (n:=n) (p:=p) 60 _ _ _ _ _ HR3.out.nx.st zi zl zi zi zl zb).mono ?_)
         rintro e w4 ⟨s,hs,rfl,hT4⟩;have HR4:=za (HR3.out.go hT4);clear hT4;have hw4:=HR4.out.nx.gr.size;have HS4:=za (Nu (t:=⟨24,⟨#[]⟩,3,s⟩) HS3.out ⟨Vn,hs,Vn,Vn,Vn,Vn⟩);go_wp2_with (refine wpList_append_lies _ rfl _ _ _ zj w.heap.size 46 i0 _ 4 48 underlying42 Hi0.out Hz0.out Hz1.out Hz2.out rfl zb v l.length (cellsOf zO l) zj (HR4.out.alloc _).own _ 1 1 (zO ⟨24,⟨#[]⟩,3,s⟩) zj zj E5 (Ic _) zb qh zb zG _ rfl ?_;intro g2 cap w9 hown2 hgrow2 hat2 hlt2)
         have HR5:=za ((HR4.out.alloc _).snoc (t:=⟨24,⟨#[]⟩,3,s⟩) hown2 hgrow2);clear hown2 hgrow2 hat2;go_wp2;go_ret;exact⟨_,l++[⟨24,⟨#[]⟩,3,s⟩],rfl,zl,zG,HR5.out.more zb,HS4.out⟩
       have e0:(r3==0)=false:=by simp[h0]
       have e1:(r3==1)=false:=by simp[h1]
       by_cases h2:r3=2
       · subst h2;go_wp2_with fail
         (with_reducible refine(Ci (n:=n) (p:=p) HR3.out.nx.st zb).mono ?_)
         rintro e w4 ⟨t,hts,rfl,hT4⟩;have HR4:=za (HR3.out.go hT4);clear hT4;have HS4:=za (zhg HS3.out hts);clear hts;unfold qi;have hw4:=HR4.out.nx.gr.size;have hlo:=HR4.out.lo;obtain⟨gg,cp,hv,hgb,hgl⟩:=HR4.out.own.form zb;subst hv;go_wp2_with (refine wpList_append_lies _ rfl _ _ _ zj w.heap.size 46 i0 _ 4 48 underlying42 Hi0.out Hz0.out Hz1.out Hz2.out rfl zb (.slice (some ⟨w4.heap.size,0,none⟩) 1 1) 1 (zO t) zj (by exact World.ownsRow_lit w4 _ 1 zb qh zj) _ l.length cp (cellsOf zO l) zj (kP zO 4 (fun _=>rfl) l) (by exact(HR4.out.alloc _).own.cells rfl) (zfa l) zb qh zb zG _ rfl ?_;intro g2 cap w9 hown2 hgrow2 hat2 hlt2)
         have HR5:=za ((HR4.out.alloc _).cons hown2 hgrow2 hw4);clear hown2 hgrow2 hat2;go_wp2;go_ret;exact⟨_,t::l,rfl,zl,zG,HR5.out.more zb,HS4.out⟩
       · have e2:(r3==2)=false:=by simp[h2]
         clear h0 h1 h2;go_wp2;go_ret;exact⟨_,l,rfl,zb,zb,HR3.out.more zb,HS3.out⟩
end
section
open Go.RowKit
structure Uw(w0:World)(b n p d:Nat)(w:World)(v:Value)(rl:List Rl)(W:World):Prop where
 nx:zB w0 b n p d w W
 own:W.ownsRow w.heap.size 44 3 v rl.length (cellsOf Qw rl)
 inn:Zd 4 zO Rl.tms W W.heap.size v.ownBlock rl
 inb:Zd 4 zO Rl.tms W W.heap.size (some b) rl
 lo:w0.heap.size<=w.heap.size
section
variable{w0 w W W1 w9:World}{b n p d d':Nat}{v:Value}{rl:List Rl}
theorem Uw.start(h:qq w0 b n p d w):Uw w0 b n p d w (.slice none 0 0) [] w:=⟨zB.refl h,World.ownsRow_nil _ _ _ _,Zd.nil,Zd.nil,h.size⟩
theorem Uw.far(h:Uw w0 b n p d w v rl W):v.ownBlock≠some b:=fun e=>LQ
theorem Uw.go(h:Uw w0 b n p d w v rl W)(hT:zB w0 b n p d' W W1):Uw w0 b n p d' w v rl W1:=by
 have h4:=h.inb.grown zo hT.gr;have hs:=hT.gr.size;exact⟨h.nx.trans hT,h.own.kept hT.gr (Or.inr h.far),(h.inn.with h4 zo).up hs,h4.up hs,h.lo⟩
theorem Uw.push{y:Rl}{g2 c:Nat}(h:Uw w0 b n p d w v rl W)(hb:Below W.heap.size W W1)(hy:zr W W.heap.size y.tms.A 4 y.tms.l.length (cellsOf zO y.tms.l))(hyo:∀a,y.tms.A=some a->v.ownBlock≠some a.block/\a.block≠b)
 (hown:w9.ownsRow w.heap.size 44 3 (.slice (some ⟨g2,0,none⟩) (rl.length+1) c) (rl.length+1) (cellsOf Qw rl++Qw y))(hg:W1.grownBy w9 v.ownBlock)(hat:v.ownBlock=some g2∨g2=W1.heap.size):
 Uw w0 b n p d w (.slice (some ⟨g2,0,none⟩) (rl.length+1) c) (rl++[y]) w9:=by
 have h1:Zd 4 zO Rl.tms W W.heap.size v.ownBlock (rl++[y]):=h.inn.snoc ⟨hy,fun _ a e e2=>(hyo a e).1 e2.symm⟩;have h2:Zd 4 zO Rl.tms W W.heap.size (some b) (rl++[y]):=h.inb.snoc ⟨hy,fun _ a e e2=>(hyo a e).2 (zx e2)⟩;have hs:=hb.size;have h4:=(h1.keep hb).moved (row':=some g2) hs hg (by
  rcases hat with e|e
  · exact Or.inl e.symm
  · right;intro g eg;injection eg with eg;omega)
 have hs9:=hg.size;refine⟨(h.nx.grownR (zF hb none) (fun _ e=>Zr)).grownR hg (fun j e=>Ed),LO hown,h4.up zb,(h2.with h4 zo).up zb,h.lo⟩
end
end
section
open Go.RowKit
theorem Se{rl rl2:List Rl}(hz:∀x∈rl,1<=x.tms.l.length/\x.tms.l.length<=6/\∀t∈x.tms.l,YZ 60 t)(hp:rl2.map Rl.p=(Zi (rl.map Rl.p)).1):∀x∈rl2,1<=x.tms.l.length/\x.tms.l.length<=6/\∀t∈x.tms.l,YZ 60 t:=fun x hx=>by
 obtain⟨y,hy,he⟩:=List.mem_map.1 (zey _ x.p (hp▸List.mem_map_of_mem hx));have e:y.tms.l=x.tms.l:=congrArg Rp.tms he;rw[<-e];exact hz y hy
theorem za2{rl rl2:List Rl}(hp:rl2.map Rl.p=(Zi (rl.map Rl.p)).1):rl2.length<=rl.length:=by
 have h1:=Bb (rl.map Rl.p);have h2:=congrArg List.length hp;rw[List.length_map]at h1 h2;omega
theorem zB.below5{w0 w W W1:World}{b n p d:Nat}(h:zB w0 b n p d w W)(hb:Below W.heap.size W W1):zB w0 b n p d w W1:=h.grownR (zF hb none) (fun _ e=>Zr)
def zdB(w0:World)(b n p d:Nat)(w:World)(e:Ending)(w':World):Prop:=∃A c rl,e=.returned (.slice A rl.length c)/\rl.length<=12/\(∀x∈rl,1<=x.tms.l.length/\x.tms.l.length<=6/\∀t∈x.tms.l,YZ 60 t)/\Us w' w'.heap.size (some b) A 3 rl.length (cellsOf Qw rl)/\Zd 4 zO Rl.tms w' w'.heap.size (some b) rl/\zB w0 b n p d w w'
theorem zbH{w0 w:World}{b n p d:Nat}(h:qq w0 b n p d w){m:Nat}(hm:m<=12)(h3:p+d<=50000):
 Calls prog 5 #[.pointer (some ⟨b,0,none⟩),.int .i64 m] w (zdB w0 b n p (d+1300) w):=by
 have H:=za h;have hlb:=h.lt;have hws:=h.size;clear h;obtain⟨i0,hi0,hz0,hz1,hz2⟩:=info_parts vd;have Hi0:=za hi0;have Hz0:=za hz0;have Hz1:=za hz1;have Hz2:=za hz2;clear hi0 hz0 hz1 hz2;go_enter func5,ntmps5;go_wp2_with fail
 (with_reducible refine(QV (n:=n) (p:=p) _ H.out zb zb zb).mono ?_)
 rintro e w1 ⟨r,r0,r1,rfl,hT1⟩;obtain⟨rn,rfl⟩:=Int.eq_ofNat_of_zero_le r0;have hrn:rn<=12:=zb;have HT1:=za ((Uw.start H.out).go hT1);clear hT1 r0 r1;go_wp2_with fail
 go_loopg [5,6] 13 (fun gk s3 s4 wr=>∃(k:Nat) (A:Option Addr) (c:Nat) (rl:List Rl) (D:Nat),s3=.slice A rl.length c/\s4=.int .i64 k/\k+1<=gk/\k<=12/\rl.length+k<=12/\D+101*k<=d+1213/\Hid (∀x∈rl,1<=x.tms.l.length/\x.tms.l.length<=6/\∀t∈x.tms.l,YZ 60 t)/\Hid (Uw w0 b n p D w (.slice A rl.length c) rl wr))
 case atStart=>exact⟨rn,none,0,[],d+1,rfl,rfl,zb,hrn,zG,zb,(fun x hx=>Yz),HT1.out⟩
 case round=>
  obtain⟨k,A,c,rl,D,rfl,rfl,hkg,hk7,hlk,hD,hZ,hR⟩:=hrel;by_cases hk:0<k
  · have hkI:(0:Int)<(k:Int):=by omega
    go_wp2_with fail
    (with_reducible refine(X9 (n:=n) (p:=p) 60 _ _ _ _ _ hR.out.nx.st zi zl zi zi zl zb).mono ?_)
    rintro e w2 ⟨y,hy,rfl,hT2⟩;have HR2:=za (hR.out.go hT2);clear hT2;go_wp2_with fail
    (with_reducible refine(zh6 (n:=n) (p:=p) HR2.out.nx.st zb).mono ?_)
    rintro e w3 ⟨tv,l,rfl,hl1,hl6,hTT⟩;obtain⟨TA,tc,rfl⟩:=Z1 hTT.row.own;have HR3:=za (HR2.out.go hTT.row.nx);have HTr:=za (zr.of_own hTT.row.own);have HTo:Hid (∀a,TA=some a->(Value.slice A rl.length c).ownBlock≠some a.block/\a.block≠b):=za fun a ha=>by
     have h1:=(hTT.row.own.lt a.block (by rw[ha];rfl)).1;have h2:=HR2.out.nx.gr.size;exact⟨fun e=>by have:=(HR2.out.own.lt _ e).2;omega,zb⟩
    have HZ2:Hid (∀x∈rl++[(⟨y,(rl.length:Int)+1,⟨TA,tc,l⟩⟩:Rl)],1<=x.tms.l.length/\x.tms.l.length<=6/\∀t∈x.tms.l,YZ 60 t):=za fun x hx=>by
     rcases List.mem_append.1 hx with hx|hx
     · exact hZ.out x hx
     · obtain rfl:=List.mem_singleton.1 hx;exact⟨hl1,hl6,hTT.small⟩
    have hw3:=HR3.out.nx.gr.size;clear hTT;go_wp2_with (at_builtin;go_loud (refine wpList_append_lies _ rfl _ _ _ zj w.heap.size 44 i0 _ 3 48 underlying26 Hi0.out Hz0.out Hz1.out Hz2.out rfl zb (.slice A rl.length c) rl.length (cellsOf Qw rl) zj (HR3.out.own.alloc _) _ 1 1 (Qw (⟨y,(rl.length:Int)+1,⟨TA,tc,l⟩⟩:Rl)) zj zj Kq (FS _) zb qh zb zG _ rfl ?_;intro g2 cap w9 hown2 hgrow2 hat2 hlt2;have HR9:=za (HR3.out.push (y:=(⟨y,(rl.length:Int)+1,⟨TA,tc,l⟩⟩:Rl)) zw HTr.out HTo.out hown2 hgrow2 hat2);clear hown2 hgrow2 hat2 hlt2))
    go_roundg (gk - 1)
    case measure=>omega
    case rel=>exact⟨k - 1,_,_,rl++[(⟨y,(rl.length:Int)+1,⟨TA,tc,l⟩⟩:Rl)],D+101,Im,MV,zb,zb,by rw[List.length_append];simp;omega,zb,HZ2.out,by rw[List.length_append];exact HR9.out⟩
  · obtain rfl:k=0:=by omega
    have HL:=za (Be A c rl wr zb (fun x hx=>by have:=(hZ.out x hx).2.1;omega) (zr.of_own hR.out.own) (hR.out.inn.at_));have hmore:=za (hR.out.nx.more (by omega:D<=d+1300));unfold jr at HL;go_wp2_with fail
    refine HL.out.mono ?_;rintro e w5 ⟨A5,c5,A5f,c5f,rl5,fl5,rfl,hp5,hf5,hr5,hrf5,hi5,hb5,_,hfar,hT⟩;have HZ5:=za (Se hZ.out hp5);have hl5:=za2 hp5;have HS5:=za (hmore.out.below5 hb5);have hbw:b<wr.heap.size:=by have:=hR.out.nx.gr.size;have:=hR.out.lo;omega
    have HR5:Hid (Us w5 w5.heap.size (some b) A5 3 rl5.length (cellsOf Qw rl5)):=za ⟨hr5,fun _ a ha e=>by have:=hfar a ha;injection e with e;omega⟩;have HI5:Hid (Zd 4 zO Rl.tms w5 w5.heap.size (some b) rl5):=za fun y hy=>⟨hi5 y hy,fun _ a ha e=>by
     obtain⟨x,hx,hxa⟩:=hT y hy a ha;exact(hR.out.inb x hx).off (by have:=(hZ.out x hx).1;omega) a hxa e⟩
    clear hp5 hf5 hr5 hrf5 hi5 hb5 hfar hT hbw;go_wp2;go_ret;exact⟨A5,c5,rl5,rfl,zb,HZ5.out,HR5.out,HI5.out,HS5.out⟩
end
section
open Go.RowKit
abbrev EH:TypeId:=25
theorem ke.run{c:zt}(h:ke c):ko c:=fun name W hT hE hs=>by
 have hz:=h.z;refine zjg c.tA c.tc c.tds c.ix name W hT (fun d hd=>⟨(hz.dv d hd).1,(hz.dv d hd).2.1⟩) hz.wf hz.ix1 hz.ix2 hE.toEnv hE.u (fun d hd y hy=>?_) hs;obtain⟨x,hx,rfl⟩:=List.mem_map.1 hd;have:=(h.tw.dv x hx).ats y hy;exact⟨Nat.le_trans this.1 zi,this.2.2⟩
theorem Z0.off{b:Nat}{w w':World}{A:Option Addr}{rl:List Rl}(hr:Us w w.heap.size (some b) A 3 rl.length (cellsOf Qw rl))(hi:Zd 4 zO Rl.tms w w.heap.size (some b) rl)(hz:∀x∈rl,1<=x.tms.l.length/\x.tms.l.length<=6/\∀t∈x.tms.l,YZ 60 t)(hg:w.grownBy w' (some b)):Z0 w' A rl:=by
 refine⟨(hr.grown zo hg).at_.up hg.size,fun y hy=>?_,fun y hy e=>?_⟩
 · have h:=((hi y hy).grown zo hg).at_.up hg.size;refine⟨h,fun a e=>?_⟩;obtain⟨ba,off,e2,hb,_⟩:=h.at_ (hz y hy).1;rw[e]at e2;cases e2
   exact⟨rfl,hb⟩
 · obtain⟨ba,off,e2,_⟩:=(hi y hy).at_.at_ (hz y hy).1;rw[e]at e2;cases e2
def RuP(T:Int)(w:World)(e:Ending)(w':World):Prop:=∃(r:Rm) (eN:Int),e=.returned (.tuple #[.agg (qn r),.int .i64 T,.int .i64 eN])/\Below w.heap.size w w'
def kF(c:zt)(rl:List Rl):Int:=match zW (zm c.tds) c.ix with
 |some d=>(Ua c d rl).1.dr.ticks
 |none=>0
theorem SM{c:zt}{rl:List Rl}{w w':World}{e:Ending}(h:Gp c rl w e w'):RuP (kF c rl) w e w':=by
 unfold Gp at h;unfold kF;cases hf:zW (zm c.tds) c.ix with
 | none=>
   rw[hf]at h;exact⟨Zs,150,h.1,h.2⟩
 | some x=>
   rw[hf]at h;obtain⟨r,h1,_,_,_,h5⟩:=h;exact⟨r,0,h1,h5⟩
theorem zbm{c:zt}(rl:List Rl)(h:U2 c):0<=kF c rl/\kF c rl<=16*c.lim:=by
 have hl:=h.ok.hp.1;unfold kF;cases hf:zW (zm c.tds) c.ix with
 |none=>exact⟨Int.le_refl _,by show(0:Int)<=16*c.i.lim;omega⟩
 |some x=>exact(zco (c:=Jt c x) h.ok.hp (Xa rl) (rl.length+1) 0 []).bounds hl
theorem zht{c:zt}{rl:List Rl}(h:∀y∈rl,∀t∈y.tms.l,Uh t=false):kF c rl=0:=by
 unfold kF;cases hf:zW (zm c.tds) c.ix with
 |none=>rfl
 | some x=>
   refine zfL (c:=Jt c x) (fun l hl t ht=>?_) (rl.length+1) 0 [];obtain⟨y,hy,rfl⟩:=List.mem_map.1 hl;exact h y hy t ht
theorem zaR{α:Type}{P:α->Prop}{l:List α}(h:∀j (hj:j<l.length),P l[j]):∀x∈l,P x:=fun x hx=>by
 obtain⟨j,hj,rfl⟩:=List.mem_iff_getElem.1 hx;exact h j hj
theorem C9{α:Type}{P:α->Prop}{l:List α}{k:Nat}(h:∀j (hj:j<l.length),j<k->P l[j])(hk:k<l.length)(hp:P l[k]):∀j (hj:j<l.length),j<k+1->P l[j]:=fun j hj h1=>by
 rcases Nat.lt_or_ge j k with h2|h2
 · exact h j hj h2
 · obtain rfl:j=k:=by omega
   exact hp
attribute [local go_sem ↓] Lg OU
theorem lawTicks(TA:Option Addr)(n tc:Nat)(w:World)(hE:Z5 w)(hI:Ml w TA n):
 Calls prog 3 #[.slice TA n tc] w fun e w'=>e=.returned (.bool true)/\Below w.heap.size w w':=by
 obtain⟨w1,hw1⟩:∃w1,w.alloc (.cells #[.slice TA n tc,.int .i64 0] EH)=w1:=⟨_,rfl⟩;have hb1:Below w.heap.size w w1:=ZQ;have hnG:=hE.toEnv.toEnv0.size;have hts:qq w1 w.heap.size n 0 0 w1:=by rw[<-hw1];exact qq.start (hI.tape tc EH)
 have HRl:=za (zbH hts (m:=8) zb zb);have HG:=za hnG;have HE:=za hE;have HW1:=za hw1;have HB1:=za hb1;clear hE hI hts hw1 hnG;go_enter func3,ntmps3;go_upto_region 2 with fail
 rw[HW1.out];go_cut [4,5]from 16 to 20 (fun s4 s5 wx=>∃(t5:Nat) (c:zt) (A:Option Addr) (ac:Nat) (rl:List Rl),s4=.slice A rl.length ac/\s5=.pointer (some ⟨t5,0,none⟩)/\Hid (wx.heap[t5]? =some (.cells (zM c) qm (0,0)))/\Hid (ZH wx c)/\Hid (ke c)/\Hid (Z0 wx A rl)/\Hid (rl.length<=12/\∀x∈rl,1<=x.tms.l.length/\x.tms.l.length<=6/\∀t∈x.tms.l,YZ 60 t)/\Hid (Below w.heap.size w wx))
 case first=>
  as_aux_lemma=>
  go_wp2_with fail
  refine HRl.out.mono ?_;rintro e w2 ⟨A,ac,rl,rfl,hl,hz,hro,hio,hT⟩;have hb2:Below w.heap.size w w2:=hb1.grown hT.gr hb1.size (fun j e=>kY);have HIn:=za (zeY hT.st (HE.out.toEnv.toEnv0.go hb2) HG.out 5 zb zb);have HB2:=za hb2;have HZ:=za (And.intro hl hz);have HO:=za (fun(W:World) (hW:w2.grownBy W (some w.heap.size))=>Z0.off hro hio hz hW);clear hl hz hro hio hT hb2 hb1;go_wp2_with fail
  refine HIn.out.mono ?_;rintro e w3 ⟨c,rfl,hM,hW,_,hT⟩;have HK:=za (heap_alloc_new w3 (.cells (zM c) qm));have HM:=za (hM.keep (zI w3 (.cells (zM c) qm)));have HWc:=za hW;have HR:=za ((HO.out _ hT.gr).keep (zI w3 (.cells (zM c) qm)));have HB:=za (zR (HB2.out.grown hT.gr HB2.out.size (fun j e=>kY)):Below w.heap.size w (w3.alloc (.cells (zM c) qm)));clear hM hW hT;unfold zM at*;go_wp2;go_meet;exact⟨_,c,A,ac,rl,rfl,rfl,HK,HM,HWc,HR,HZ,HB⟩
 case rest=>
 obtain⟨t5,c,A,ac,rl,rfl,rfl,HK2,HM2,HW2,HR2,HZ2,HB2⟩:=hcut;generalize wc=w2 at*;have hz:=HW2.out.z;have HRu0:=yW A ac rl c w2 HM2.out hz (HE.out.go HB2.out) HR2.out ⟨by have:=HZ2.out.1;omega,fun y hy=>⟨by have:=(HZ2.out.2 y hy).2.1;omega,fun t ht=>by have:=((HZ2.out.2 y hy).2.2 t ht).value;omega⟩⟩ (fun _ _ _ _ _=>HW2.out.run);have HRu:=za (Calls.mono HRu0 fun _ _ h=>SM h);have HTk:=za (zbm rl hz);have HTn:=za (fun h=>zht (c:=c) (rl:=rl) h);have HLm:=za (And.intro HW2.out.lim1 HW2.out.lim2);clear HRu0 hz HRl;generalize kF c rl=T at*;have HK:=za (fun(W:World) (hW:Below w.heap.size w W)=>SG W (HE.out.go hW));go_upto_region 3 with fail
 go_cut [7]from 20 to 27 (fun s7 wx=>s7=.int .i64 T/\Hid (Below w2.heap.size w2 wx))
 case first=>
  as_aux_lemma=>
  unfold zM at*;have x0:w2.cell? ⟨t5,0,none⟩=some (.string c.act):=zd HK2.out rfl;have x1:w2.cell? ⟨t5,1,none⟩=some (.slice c.tA c.tds.length c.tc):=zd HK2.out rfl;have x2:w2.cell? ⟨t5,2,none⟩=some (.int .i64 c.ix):=zd HK2.out rfl;have x3:w2.cell? ⟨t5,3,none⟩=some (.string c.r.path):=zd HK2.out rfl;have x4:w2.cell? ⟨t5,4,none⟩=some (.int .i64 c.r.ix):=zd HK2.out rfl;have x5:w2.cell? ⟨t5,5,none⟩=some (.slice c.r.props.A c.r.props.l.length c.r.props.c):=zd HK2.out rfl;have x6:w2.cell? ⟨t5,6,none⟩=some (.slice c.r.tags.A c.r.tags.l.length c.r.tags.c):=zd HK2.out rfl;have x7:w2.cell? ⟨t5,7,none⟩=some (.slice c.r.links.A c.r.links.l.length c.r.links.c):=zd HK2.out rfl;have x8:w2.cell? ⟨t5,8,none⟩=some (.slice c.r.run.A c.r.run.l.length c.r.run.c):=zd HK2.out rfl;have x9:w2.cell? ⟨t5,9,none⟩=some (.slice c.r.load.A c.r.load.l.length c.r.load.c):=zd HK2.out rfl;have x10:w2.cell? ⟨t5,10,none⟩=some (.string c.r.nam):=zd HK2.out rfl;have x11:w2.cell? ⟨t5,11,none⟩=some (.int .i64 c.r.prio):=zd HK2.out rfl;have x12:w2.cell? ⟨t5,12,none⟩=some (.string c.r.own):=zd HK2.out rfl;have x13:w2.cell? ⟨t5,13,none⟩=some (.string c.r.grp):=zd HK2.out rfl;have x14:w2.cell? ⟨t5,14,none⟩=some (.int .i64 c.r.mode):=zd HK2.out rfl;have x15:w2.cell? ⟨t5,15,none⟩=some (.slice c.hs.A c.hs.l.length c.hs.c):=zd HK2.out rfl;have x16:w2.cell? ⟨t5,16,none⟩=some (.int .i64 c.lim):=zd HK2.out rfl;go_wp2_with (go_at_call 7;refine HRu.out.mono ?_;rintro e w3 ⟨r,eN,rfl,hb3⟩;have hst:=Nf (heap_alloc_new w3 (.cells #[.string ⟨#[]⟩,.int .i64 0,.slice none 0 0,.slice none 0 0,.slice none 0 0,.slice none 0 0,.slice none 0 0,.string ⟨#[]⟩,.int .i64 0,.string ⟨#[]⟩,.string ⟨#[]⟩,.int .i64 0] qN)) rfl r;have HB:=za hb3;clear hb3)
  go_meet;exact⟨rfl,za (qw (zR HB.out) HB.out.size)⟩
 case rest=>
 obtain⟨rfl,HB3⟩:=hcut;generalize wc=w3 at*;clear HRu;have HLd:Hid (∀W:World,Below w2.heap.size w2 W->W.cell? ⟨t5,16,none⟩=some (.int .i64 c.lim)):=za fun W hW=>zd ((hW.block _ (zh HK2.out)).trans HK2.out) rfl;clear HK2 HM2 HW2;obtain⟨N,hN⟩:∃N,rl.length=N:=⟨_,rfl⟩;have HN:=za hN;have hN12:N<=12:=by rw[<-hN];exact HZ2.out.1
 rw[hN];clear hN;generalize c.lim=lim at*;clear HB1;have HR3:=za (HR2.out.keep HB3.out);have HB:=za (bt HB2.out HB3.out);clear HR2;go_wp2_with fail
 go_loopg [9,10,11,12] (N+1) (fun gk s9 s10 _ _ wr=>∃(k:Nat) (b:Bool),s9=.bool b/\s10=.int .i64 k/\k+gk=N+1/\k<=N/\Hid (b=false->∀j (hj:j<rl.length),j<k->∀t∈rl[j].tms.l,Uh t=false)/\Hid (Below w3.heap.size w3 wr))
 case atStart=>exact⟨0,false,rfl,rfl,zb,Nat.zero_le _,za fun _ j _ h=>absurd h (Nat.not_lt_zero _),za zk⟩
 case round=>
  obtain⟨k,b,rfl,rfl,hkg,hkN,HA,HBr⟩:=hrel;by_cases hlt:k<N
  · have hlt':k<rl.length:=by rw[HN.out];exact hlt
    have hkI:(k:Int)<(N:Int):=zb;obtain⟨ba,off,rfl,_,_,_⟩:=Gx HR3.out.row zk hlt';have HC2:Hid (∀W,Below w3.heap.size w3 W->W.cell? ⟨ba,off+k*3+2,none⟩=some (.slice rl[k].tms.A rl[k].tms.l.length rl[k].tms.c)):=za fun W hW=>by
     obtain⟨b2,o2,e,_,_,h⟩:=Gx HR3.out.row hW hlt';cases e
     exact h
    have HTr:=za (HR3.out.inn _ (List.getElem_mem hlt')).row;have hM6:=(HZ2.out.2 _ (List.getElem_mem hlt')).2.1;have HNx:=za (fun(b2:Bool) (h:b2=false->b=false/\∀t∈rl[k].tms.l,Uh t=false) (e:b2=false)=>C9 (P:=fun y=>∀t∈y.tms.l,Uh t=false) (HA.out (h e).1) hlt' (h e).2);generalize rl[k].tms.l=ts at*;generalize rl[k].tms.A=tA at*;generalize rl[k].tms.c=tc2 at*;obtain⟨M,hM⟩:∃M,ts.length=M:=⟨_,rfl⟩;have HM:=za hM;rw[hM]at HC2 HTr hM6;clear hM HA;have x2:=HC2.out _ HBr.out;obtain⟨G,hG⟩:∃G,G=gk:=⟨_,rfl⟩;go_wp2_with fail
    go_loopg [9,11,12] (M+1) (fun gk s9 s11 _ wx=>∃(j:Nat) (b2:Bool),s9=.bool b2/\s11=.int .i64 j/\j+gk=M+1/\j<=M/\Hid (b2=false->b=false/\∀i (hi:i<ts.length),i<j->Uh ts[i]=false)/\Hid (Below w3.heap.size w3 wx))
    case atStart=>exact⟨0,b,rfl,rfl,zb,Nat.zero_le _,za fun e=>⟨e,fun i _ h=>absurd h (Nat.not_lt_zero _)⟩,HBr⟩
    case round=>
     obtain⟨j,b2,rfl,rfl,hjg,hjM,HA2,HBx⟩:=hrel;have y2:=HC2.out _ HBx.out;by_cases hj:j<M
     · have hj':j<ts.length:=by rw[HM.out];exact hj
       have hjI:(j:Int)<(M:Int):=zb;have ht:=HTr.out;rw[<-HM.out]at ht;obtain⟨ta,tf,rfl,d0,d1,d2,d3⟩:=ht.tm HBx.out hj';have HN2:=za (fun(b3:Bool) (h:b3=(b2||Uh ts[j])) (e:b3=false)=>(⟨(HA2.out Lv).1,C9 (P:=fun t=>Uh t=false) (HA2.out Lv).2 hj' (by rw[h]at e;exact(Bool.or_eq_false_iff.1 e).2)⟩:b=false/\∀i (hi:i<ts.length),i<j+1->Uh ts[i]=false));have hh:Uh ts[j]=(ts[j].key==12||(ts[j].key==14&&ts[j].name.toList==[112,114,111,103,114,97,109])):=by unfold Uh Jx;rw[tl]
       rw[hh]at HN2;clear hh ht HA2;generalize ts[j].key=ky at*;generalize ts[j].name=nm at*;generalize ts[j].op=op at*;generalize ts[j].value=vl at*;cases b2<;>cases h1:(ky==12)<;>cases h2:(ky==14)<;>cases h3:(nm.toList==[112,114,111,103,114,97,109])
       all_goals
        rw[h1,h2,h3]at HN2;go_wp2;go_roundg (gk - 1)
        case measure=>omega
        case rel=>exact⟨j+1,_,rfl,zP,zb,zb,za (HN2.out _ rfl),za (zR HBx.out)⟩
     · obtain rfl:j=M:=by omega
       go_wp2;go_roundg (G - 1)
       case measure=>omega
       case rel=>exact⟨k+1,b2,rfl,zP,zb,zb,za (HNx.out b2 fun e=>⟨(HA2.out e).1,zaR fun i hi=>(HA2.out e).2 i hi (by rw[<-HM.out];exact hi)⟩),HBx⟩
  · obtain rfl:k=N:=by omega
    have HT0:Hid (b=false->T=0):=za fun e=>HTn.out fun y hy=>by
     obtain⟨j,hj,rfl⟩:=List.mem_iff_getElem.1 hy;exact HA.out e j hj (by rw[<-HN.out];exact hj)
    have x16:=HLd.out _ (bt HB3.out HBr.out);have HBe:=za (bt HB.out HBr.out);obtain⟨t1,t2⟩:=HTk.out;obtain⟨l1,l2⟩:=HLm.out;have g1:(T≥0):=t1;cases b with
    | false=>
      obtain rfl:=HT0.out rfl;exact E6
    | true=>
      exact E6
end
end Go.Proofs.YtobcmlmbblgcdaaGreatDoor

/- Contracts of functions that the law reaches, and what they rest on; each under the premises that it names. Shortened by a program. -/
import Derived.Test.YtobcmlmbblgcdaaGreatDoorG22
import Derived.Test.YtobcmlmbblgcdaaGreatDoorG19
namespace Go.Proofs.YtobcmlmbblgcdaaGreatDoor
open Tryz
set_option maxHeartbeats 8000000
set_option maxRecDepth 100000
section
open Go.RowKit
def T2(s:ByteArray)(w:World)(e:Ending)(w':World):Prop:=∃(f:Fq) (A:Option Addr) (c:Nat) (er:Int),e=.returned (.tuple #[Ui f A c,.int .i64 er])/\((er=0/\VK (L s)=some (f.kd,f.id,f.lab))∨(er≠0/\VK (L s)=none))/\Below w.heap.size w w'
theorem Bh{g:Nat}{s:ByteArray}{w w':World}{a:Nat}{r:Cs×zX}{e:Ending}(h:Jr g s w a r e w'):∃(f:Fq) (A:Option Addr) (c:Nat),e=.returned (Ui f A c)/\(f.kd,f.id,f.lab)=(r.1.kd,r.1.id,r.1.lab)/\Zg w g s r.2 w'/\(r.2.a<=1000->∀W,Below w'.heap.size w' W->Calls prog 259 #[Ui f A c] W fun e W'=>e=.returned (.int .i64 (if r.1.dep<=6/\r.1.ok=true then 0 else 70))/\Below W.heap.size W W'):=by
 obtain⟨m,rfl,hm,hc,hq,hn⟩:=h;have h1:m.dep=r.1.dep/\m.ok=r.1.ok/\m.fl.kd=r.1.kd/\m.fl.id=r.1.id/\m.fl.lab=r.1.lab:=by rw[<-hm];exact⟨rfl,rfl,rfl,rfl,rfl⟩
 have hK:r.2.a<=1000->∀W,Below w'.heap.size w' W->Calls prog 259 #[.agg (ZE m).toArray] W fun e W'=>e=.returned (.int .i64 (if r.1.dep<=6/\r.1.ok=true then 0 else 70))/\Below W.heap.size W W':=fun ha W hW=>by
  rw[<-h1.1,<-h1.2.1];exact zfF (hn.keep hW fun _ _ h=>h) zb
 cases m with
 |mk k i b s t e A c l=>exact⟨⟨k,i,b,s,t,e,l.length⟩,A,c,rfl,by rw[<-h1.2.2.1,<-h1.2.2.2.1,<-h1.2.2.2.2];rfl,hq,hK⟩
theorem zgi(s:ByteArray)(w:World)(hE:Env w)(ha:s.size<=256->∀b∈L s,b.toNat<128)(hs:s.size<=1000000):Calls prog 228 #[.string s] w (T2 s w):=by
 by_cases hz:s.size<=256
 · have hbp:Below w.heap.size w ((w.alloc (.cells qE zy)).alloc (.cells #[.string s,.int .i64 0,.bool false] 324)):=bt zw zw;have hbx:((w.alloc (.cells qE zy)).alloc (.cells #[.string s,.int .i64 0,.bool false] 324)).heap[w.heap.size+1]? =some (.cells #[.string s,.int .i64 0,.bool false] 324 (0,0)):=by have:=heap_alloc_new (w.alloc (.cells qE zy)) (.cells #[.string s,.int .i64 0,.bool false] 324);simpa using this
   have hP:Qe _ (w.heap.size+1) s ⟨0,false⟩:=⟨hbx,Nat.zero_le _,zb,ha hz⟩;have HC:=za (Calls.mono (zfs (w.heap.size+1) s (by have:=hE.toEnv0.size;omega) 800 zi ⟨0,false⟩ _ hP (hE.go hbp) (by show 3*(s.size - 0)+1<=800;omega)) fun _ _ h=>Bh h);have hR:(⟨0,false⟩:zX).a=0:=rfl;obtain⟨r,hr⟩:∃r,VK (L s)=r:=⟨_,rfl⟩;unfold T2;rw[hr];unfold VK at hr;dsimp only at hr;rw[zC]at hr;generalize Q9 (L s) 800 ⟨0,false⟩=x at*;obtain⟨y,a,b⟩:=x;dsimp only at*;have HB:=za hbp;have hR0:((w.alloc (.cells qE zy)).alloc (.cells #[.string s,.int .i64 0,.bool false] 324)).heap[w.heap.size]? =some (.cells qE zy (0,0)):=(zw.block _ zl).trans (heap_alloc_new w _);have HR0:=za hR0;have hG:∀(f:Fq) (A:Option Addr) (c:Nat) (W:World),Hid (s.size<=256/\b=false/\a=s.size/\y.dep<=6/\y.ok=true)->(f.kd,f.id,f.lab)=(y.kd,y.id,y.lab)->Below w.heap.size w W->∃(f':Fq) (A':Option Addr) (c':Nat) (er:Int),Ending.returned (.tuple #[Ui f A c,.int .i64 0])=.returned (.tuple #[Ui f' A' c',.int .i64 er])/\((er=0/\r=some (f'.kd,f'.id,f'.lab))∨(er≠0/\r=none))/\Below w.heap.size w W:=fun f A c W h hf hW=>⟨f,A,c,0,rfl,Or.inl ⟨rfl,by rw[<-hr,if_pos h.out,hf]⟩,hW⟩;have hB:∀(er:Int) (W:World),Hid (¬(s.size<=256/\b=false/\a=s.size/\y.dep<=6/\y.ok=true))->er≠0->Below w.heap.size w W->∃(f':Fq) (A':Option Addr) (c':Nat) (er':Int),Ending.returned (.tuple #[.agg qE,.int .i64 er])=.returned (.tuple #[Ui f' A' c',.int .i64 er'])/\((er'=0/\r=some (f'.kd,f'.id,f'.lab))∨(er'≠0/\r=none))/\Below w.heap.size w W:=fun er W h he hW=>⟨⟨0,⟨#[]⟩,⟨#[]⟩,0,0,0,0⟩,none,0,er,rfl,Or.inr ⟨he,by rw[<-hr,if_neg h.out]⟩,hW⟩;have HG:=za hG;have HBd:=za hB;clear hr hP hbx hbp hE ha hs hG hB hR0;generalize hQ:(fun(e:Ending) (w':World)=>∃(f:Fq) (A:Option Addr) (c:Nat) (er:Int),e=.returned (.tuple #[Ui f A c,.int .i64 er])/\((er=0/\r=some (f.kd,f.id,f.lab))∨(er≠0/\r=none))/\Below w.heap.size w w')=Q;have HQ:=za hQ;clear hQ;have hk:(b=true/\Hid (¬(s.size<=256/\b=false/\a=s.size/\y.dep<=6/\y.ok=true)))∨(b=false/\((a≠s.size/\Hid (¬(s.size<=256/\b=false/\a=s.size/\y.dep<=6/\y.ok=true)))∨(a=s.size/\∃z:Int,(if y.dep<=6/\y.ok=true then(0:Int)else 70)=z/\((z=0/\Hid (s.size<=256/\b=false/\a=s.size/\y.dep<=6/\y.ok=true))∨(z=70/\Hid (¬(s.size<=256/\b=false/\a=s.size/\y.dep<=6/\y.ok=true))))))):=by
    cases b with
    |true=>exact Or.inl ⟨rfl,fun h=>by cases h.2.1⟩
    | false=>
      refine Or.inr ⟨rfl,?_⟩;by_cases h1:a=s.size
      · refine Or.inr ⟨h1,_,rfl,?_⟩;by_cases h2:y.dep<=6/\y.ok=true
        · rw[if_pos h2];exact Or.inl ⟨rfl,hz,rfl,h1,h2⟩
        · rw[if_neg h2];exact Or.inr ⟨rfl,fun h=>h2 h.2.2.2⟩
      · exact Or.inl ⟨h1,fun h=>h1 h.2.2.1⟩
   rcases hk with⟨rfl,hX⟩|⟨rfl,⟨ha,hX⟩|⟨rfl,z,hzz,⟨rfl,hX⟩|⟨rfl,hX⟩⟩⟩
   all_goals
    go_enter func228,ntmps228;go_wp2_with (first
     |(go_at_call 259;refine(HK.out zb _ zw).mono ?_;rw[hzz];rintro e w5 ⟨rfl,hb5⟩;have hbb:=(zI w3 (.cells #[.int .i64 f.kd,.string f.id,.string f.lab,.int .i64 f.s,.int .i64 f.t,.int .i64 f.e,.slice A f.n c] zy)).trans (hb5.mono zw.size);obtain⟨p0,p1,p2,p3,p4,p5,p6,pf,pl⟩:=kR ((hb5.block _ zl).trans (heap_alloc_new w3 _));have hr5:=(hbb.block _ (zh HR3.out)).trans HR3.out;have HR5:=za hr5;have HB5:=za (bt HB3.out hbb);clear hb5 hbb hr5)
     |(refine wpList_store_row rfl zy _ _ rfl _ _ rfl rfl _ _ HR5.out (by exact Y5) rfl qV ?_)
     |(refine wpList_store_row rfl zy _ _ rfl _ _ rfl rfl _ _ (((zI w3 _).block _ (zh HR3.out)).trans HR3.out) (by exact Y5) rfl qV ?_)
     |(go_at_call 258;refine HC.out.mono ?_;rintro e w3 ⟨f,A,c,rfl,hf,hq,hk⟩;have HK:=za hk;have HF:=za hf;obtain⟨c0,c1,c2,_,hgl⟩:=hq.ps.cells;have hr3:=(hq.gr.block _ zG (fun e=>Zy)).trans HR0.out;have HR3:=za hr3;have HB3:Hid (Below w.heap.size w w3):=za (HB.out.grown hq.gr HB.out.size (fun j e=>Zy));clear hk hf hq hr3))
    (try clear hzz)
   · exact Fk
   · exact Fk
   · refine Qx rfl zj zj (setRow_heap _ _ _ _ _ _ HR5.out) underlying289 rfl Y5 zj ?_;rw[<-HQ.out];exact HG.out f A c _ hX HF.out (qw HB5.out zo)
   · refine Qx rfl zj zj (setRow_heap _ _ _ _ _ _ HR5.out) underlying289 rfl Y5 zj ?_;rw[<-HQ.out];exact HBd.out 70 _ hX zi (qw HB5.out zo)
 · have hr:VK (L s)=none:=by
    unfold VK;dsimp only;rw[if_neg (by rw[zC];exact fun h=>hz h.1)]
   have HR:=za hr;have hzI:(256:Int)<(s.size:Int):=zb;have HR0:=za (heap_alloc_new w (.cells qE zy));have HB:=za (zI w (.cells qE zy));clear hr ha hE;go_enter func228,ntmps228;go_wp2;refine Qx rfl zj zj HR0.out underlying289 rfl Y5 zj ?_;exact⟨⟨0,⟨#[]⟩,⟨#[]⟩,0,0,0,0⟩,none,0,71,rfl,Or.inr ⟨zi,HR.out⟩,HB.out⟩
end
section
open Go.RowKit Go.Shelf Go.Maps
theorem En{o:Option Dd}{w w':World}{e:Ending}(h:YH o w e w'):∃(x:Dv) (b:Bool),e=.returned (.tuple #[zZ x,.bool b])/\x.d=o.getD qd.d/\ZS w' x/\Below w.heap.size w w':=by
 unfold YH at h;cases o with
 |none=>exact⟨qd,false,h.1,rfl,zH.nil,h.2⟩
 | some d=>
   obtain⟨x,h1,h2,h3,_,h5⟩:=h;exact⟨x,true,h1,h2,h3,h5⟩
theorem Oq{l:List At}{n:ze}{w w':World}{e:Ending}(h:Vg (zT l n) w e w'):e=.returned (.tuple #[.string (qI l n),.bool (zT l n).isSome])/\Below w.heap.size w w':=by
 unfold Vg Jp at h;unfold qI;cases hf:zT l n with
 |none=>rw[hf]at h;exact h
 |some y=>rw[hf]at h;exact h
theorem ze4(s:ze)(f:Nat)(p:zX):0<=(Q9 s f p).1.kd/\(Q9 s f p).1.kd<=5:=by
 cases f with
 |zero=>rw[Q9];show(0:Int)<=0/\(0:Int)<=5;decide
 | succ f=>
   rw[Q9];dsimp only
   split
   · show(0:Int)<=0/\(0:Int)<=5;decide
   · split
     · show(0:Int)<=1/\(1:Int)<=5;decide
     · show 0<=(Uq s _ _).1.1/\(Uq s _ _).1.1<=5;unfold Uq
       repeat' split
       all_goals dsimp only;decide
theorem zbI{s:ze}{k:Int}{i l:ByteArray}(h:VK s=some (k,i,l)):0<=k/\k<=5:=by
 unfold VK at h;dsimp only at h
 split at h
 · injection h with h
   injection h with h _
   rw[<-h];exact ze4 _ _ _
 · cases h
theorem zaH(A:Option Addr)(c:Nat)(ds:List Dv)(n:Int)(w:World)(h:ql w A ds)(hE:Env w)(ha:∀d∈zm ds,∀y∈d.ats,y.val.size<=1000000/\∀b∈L y.val,b.toNat<128):
 Calls prog 193 #[zU A ds c,.int .i64 n] w (Yf w (match zW (zm ds) n with|some d=>V6 d|none=>[])):=by
 obtain⟨w1,hw1⟩:∃w1,w.alloc (.cells #[.slice A ds.length c] 30)=w1:=⟨_,rfl⟩;have hb1:Below w.heap.size w w1:=ZQ;have HF:=za (Calls.mono (kg A c ds n w1 (h.keep hb1)) fun _ _ h=>En h);have HB1:=za hb1;have HE:=za hE;have HW:=za hw1;have h0:w1.heap[w.heap.size]? =some (.cells #[.slice A ds.length c] 30 (0,0)):=Qi;have H0:=za h0;have hX:∀x:Dv,x.d=(zW (zm ds) n).getD qd.d->(match zW (zm ds) n with|some d=>V6 d|none=>[])=V6 x.d/\(qI x.ats.l (L U8)).size<=1000000/\(∀b∈L (qI x.ats.l (L U8)),b.toNat<128)/\x.ats.l.length<=1000:=fun x hx=>by
  have hat:∀l:List At,(∀y∈l,y.val.size<=1000000/\∀b∈L y.val,b.toNat<128)->(qI l (L U8)).size<=1000000/\∀b∈L (qI l (L U8)),b.toNat<128:=fun l hl=>by
   unfold qI;cases hf:zT l (L U8)with
   |none=>exact⟨Nat.zero_le _,fun b hb=>by cases hb⟩
   |some y=>exact hl y (List.mem_of_find?_eq_some hf)
  cases hf:zW (zm ds) n with
  | none=>
    rw[hf]at hx;have e1:x.ats.l=[]:=congrArg Dd.ats hx;rw[hx,e1];exact⟨rfl,(hat [] (fun y hy=>GD)).1,(hat [] (fun y hy=>GD)).2,Nat.zero_le _⟩
  | some d=>
    rw[hf]at hx;have hm:=(XN hf).1;obtain⟨z,hz,e2⟩:=List.mem_map.1 hm;have e1:x.ats.l=d.ats:=congrArg Dd.ats hx;rw[hx,e1];exact⟨rfl,(hat _ (ha d hm)).1,(hat _ (ha d hm)).2,by rw[<-e2];exact h.al z hz⟩
 generalize (match zW (zm ds) n with|some d=>V6 d|none=>[])=R at*;generalize (zW (zm ds) n).getD qd.d=d0 at*;have HX:=za hX;clear hX ha h hb1 h0 hw1 hE;unfold zU at*;generalize ds.length=N at*;go_enter func193,ntmps193;go_upto_region 1 with fail
 rw[HW.out];go_upto_region 2 with(first
  |(go_at_call 29;refine HF.out.mono ?_;rintro e w2 ⟨x,b,rfl,hx,hn,hb2⟩;have Hx:=za hx;have HDn:=za hn;clear hx hn;have HB2:=za (bt HB1.out hb2);have hrow:=heap_alloc_new w2 (.cells (zq qd) zp);have HL:=za (Kd w2 x);clear hb2)
  |(refine wpList_load_row rfl 30 _ rfl _ rfl _ _ _ _ H0.out underlying30 rfl JT ?_)
  |(refine wpList_store_row rfl 67 _ _ rfl _ _ rfl rfl _ _ hrow Zj rfl qV ?_))
 obtain⟨hL1,hL2⟩:=HL.out;change Code.wp _ _ _ _ ((w2.alloc (.cells (zq qd) zp)).setRow w2.heap.size (zq x));generalize (w2.alloc (.cells (zq qd) zp)).setRow w2.heap.size (zq x)=W3 at*;obtain⟨hR,hz,hasc,hlen⟩:=HX.out x Hx.out;have HB3:=za (bt HB2.out hL1);have HBx:Hid (∀W,Below W3.heap.size W3 W->W.heap[w2.heap.size]? =some (.cells (zq x) zp (0,0))):=za fun W hW=>(hW.block _ (zh hL2)).trans hL2;have HG:=za (Calls.mono (KE x.ats.A x.ats.c x.ats.l U8 W3 ((HDn.out.keep hL1).row) zb) fun _ _ h=>Oq h);have HPa:Hid (∀W,Below W3.heap.size W3 W->Calls prog 228 #[.string (qI x.ats.l (L U8))] W (T2 (qI x.ats.l (L U8)) W)):=za fun W hW=>zgi _ W (HE.out.go (bt HB3.out hW)) (fun _=>hasc) hz;have hcS:V6 x.d=if x.kd=2 then(match Iu (qI x.ats.l (L U8))with
  |some (u,i,l)=>zL (zL (zL [] C5 u) AG i) yJ l
  |none=>[])else []:=rfl
 have hRe:=hR.trans hcS;unfold Iu at hRe;generalize qI x.ats.l (L U8)=v at*;have hwl:w2.heap.size<W3.heap.size:=zh hL2;obtain⟨⟨c0,c1,c2,c3,c4,c5,c6,c7,c8,c9⟩,_⟩:=Y7 hL2;have HRe:=za hRe;clear hRe;clear hL1 hL2 HX hR hz hasc hlen hrow HF H0 hcS c0 c1 c2 c3 c4 c5 c6 c8;go_upto_region 4 with(first
  |(go_at_call 27;refine HG.out.mono ?_;rintro e w4 ⟨rfl,hb4⟩;have HB4:=za hb4;clear hb4)
  |(go_at_call 228;refine(HPa.out _ HB4.out).mono ?_;rintro e w5 ⟨f,CA,cc,er,rfl,hp,hb5⟩;have hb6:=bt HB4.out hb5;have hwl5:=Nat.lt_of_lt_of_le hwl hb6.size;obtain⟨⟨_,_,_,_,_,_,_,k7,_,_⟩,_⟩:=Y7 (HBx.out _ hb6);have HB5:=za hb6;have HPp:=za hp;clear hb5 hb6 hp))
 have hBe:=zR (o:=.cells #[.int .i64 f.kd,.string f.id,.string f.lab,.int .i64 f.s,.int .i64 f.t,.int .i64 f.e,.slice CA f.n cc] zy) (bt HB3.out HB5.out);have hNil:R=[]->Yf w R (.returned (.slice none 0 0)) (w5.alloc (.cells #[.int .i64 f.kd,.string f.id,.string f.lab,.int .i64 f.s,.int .i64 f.t,.int .i64 f.e,.slice CA f.n cc] zy)):=fun e=>by rw[e];exact⟨none,0,rfl,zA.empty,hBe⟩
 have HNil:=za hNil;have HBe:=za hBe;clear hNil hBe c7 c9;by_cases hk:x.kd=2
 · have hr:=HRe.out;rw[if_pos hk]at hr;rcases HPp.out with⟨rfl,hp⟩|⟨he,hp⟩
   · rw [hp]at hr;dsimp only at hr;have hrg:=zbI hp;obtain⟨fk,fi,fl,fs,ft,fe,fn⟩:=f;dsimp only at*;by_cases h0:fk=0
     · subst h0;rw[if_pos rfl]at hr;have HE2:=za (HNil.out hr);clear hr hp;exact No
     · rw[if_neg h0]at hr;dsimp only at hr;have h0b:(fk==0)=false:=beq_eq_false_iff_ne.2 h0;have HR2:=za hr;clear hr hp HRe HPp;go_upto_region 6 with fail
       have hcb:=heap_alloc_new w5 (.cells #[.int .i64 fk,.string fi,.string fl,.int .i64 fs,.int .i64 ft,.int .i64 fe,.slice CA fn cc] zy);change Code.wp _ _ _ _ (w5.alloc (.cells #[.int .i64 fk,.string fi,.string fl,.int .i64 fs,.int .i64 ft,.int .i64 fe,.slice CA fn cc] zy));generalize w5.alloc (.cells #[.int .i64 fk,.string fi,.string fl,.int .i64 fs,.int .i64 ft,.int .i64 fe,.slice CA fn cc] zy)=W6 at*;have HCl:Hid (∀W,Below W6.heap.size W6 W->W.cell? ⟨w5.heap.size,0,none⟩=some (.int .i64 fk)/\W.cell? ⟨w5.heap.size,1,none⟩=some (.string fi)/\W.cell? ⟨w5.heap.size,2,none⟩=some (.string fl)):=za fun W hW=>by
        have h2:=(hW.block _ (zh hcb)).trans hcb;exact⟨zd h2 rfl,zd h2 rfl,zd h2 rfl⟩
       have hl6:=zh hcb;obtain⟨q0,q1,q2⟩:=HCl.out W6 zk;clear hcb
       go_region_held3 (fun W'=>W'.cell? ⟨w5.heap.size,0,none⟩=some (.int .i64 fk)/\W'.cell? ⟨w5.heap.size,1,none⟩=some (.string fi)/\W'.cell? ⟨w5.heap.size,2,none⟩=some (.string fl)) ((refine HCl.out _ ?_;first|exact hB9|exact hB8|exact hB7|exact hBa|exact zV zk)) (first
        |(go_at_call 33;refine(YP (n:=2) _ _ _ (by first|exact l8|exact l8.dr) zb).mono ?_;rintro e w9 ⟨A9,c9,N9,rfl,l9,hb9⟩;have hB9:=bt hB8 hb9)
        |(go_at_call 33;refine(YP (n:=1) _ _ _ (by first|exact l7|exact l7.dr) zb).mono ?_;rintro e w8 ⟨A8,c8,N8,rfl,l8,hb8⟩;have hB8:=bt hB7 hb8)
        |(go_at_call 33;refine(YP (n:=0) _ _ _ (Qq.nil _) zb).mono ?_;rintro e w7 ⟨A7,c7,N7,rfl,l7,hb7⟩;have hB7:=bt hBa hb7)
        |(go_at_call 229;refine(zhn _).mono ?_;rintro e wa ⟨M,mn,rfl,hM,hba⟩;have hBa:Below W6.heap.size W6 wa:=bt (zV zk) hba;have hlk:=BC hM (z:=fk) zb zb))
       have HEnd:Hid (Yf w R (.returned (.slice A9 N9 c9)) w9):=za (by rw[HR2.out];exact l9.outL (bt HBe.out hB9));clear l9 l8 l7 hb9 hb8 hb7 hB9 hB8 hB7 hBa hba hM hlk;go_wp2;go_ret;exact HEnd.out
   · rw[hp]at hr;have HE2:=za (HNil.out hr);have heb:(er==0)=false:=beq_eq_false_iff_ne.2 he;clear hr hp;exact No
 · have hr:=HRe.out;rw[if_neg hk]at hr;have HE2:=za (HNil.out hr);have hkb:(x.kd==2)=false:=beq_eq_false_iff_ne.2 hk;clear hr;exact No
end
section
open Go.RowKit Go.Shelf Go.Maps
abbrev Ia:Array Value:=#[.string UN,.string Xl,.string UD,.string Vy,.string Xm,.string Uv,.string V5,.string Ug,.string UB]
def Jm(a:List At):Nat->Option ByteArray
 |0=>(zT a (L UD)).map (·.val)
 |1=>(zT a (L Uv)).map (·.val)
 |_=>(zT a (L UB)).map fun x=>bs (Lib.replaceAll (L x.val) [58] [])
def UU(a:List At):Nat->List At
 |0=>[]
 |1=>YM [] UN Xl (Jm a 0)
 |2=>YM (YM [] UN Xl (Jm a 0)) Vy Xm (Jm a 1)
 |_=>YM (YM (YM [] UN Xl (Jm a 0)) Vy Xm (Jm a 1)) V5 Ug (Jm a 2)
theorem RV(l:List At)(k p:ByteArray)(a:List At)(n:ze)(F:ByteArray->ByteArray):YM l k p ((zT a n).map fun x=>F x.val)=if(zT a n).isSome&&X0 (L (p++F (qI a n)))then zL l k (p++F (qI a n))else l:=by
 unfold YM qI;cases zT a n with
 |none=>rfl
 |some y=>rfl
theorem RY{a:List At}(h:∀y∈a,y.val.size<=1000)(n:ze):(qI a n).size<=1000:=by
 unfold qI;cases hf:zT a n with
 |none=>exact Nat.zero_le _
 |some y=>exact h y (List.mem_of_find?_eq_some hf)
theorem Qq.up{w:World}{A:Option Addr}{c N n:Nat}{l:List At}(h:Qq w A c N n l):Qq w A c N (n+1) l:=⟨h.len,h.row,h.asc,Nat.le_succ_of_le h.le⟩
theorem TZ{wr W:World}{a b c:Value}{T:TypeId}(hW:Below (wr.alloc (.cells #[a,b,c] T)).heap.size (wr.alloc (.cells #[a,b,c] T)) W):W.cell? ⟨wr.heap.size,0,none⟩=some a/\W.cell? ⟨wr.heap.size,1,none⟩=some b/\W.cell? ⟨wr.heap.size,2,none⟩=some c/\wr.heap.size<W.heap.size:=by
 have h:=(hW.block _ (zh (heap_alloc_new wr (.cells #[a,b,c] T)))).trans (heap_alloc_new wr (.cells #[a,b,c] T));exact⟨zd h rfl,zd h rfl,zd h rfl,zh h⟩
theorem zaT(v:ByteArray)(h:v.size<=1000):(bs (Lib.replaceAll (L v) [58] [])).size<=1000:=by
 rw[Zc,jj (L v) 58 [] zi];have h1:∀s:ze,(s.flatMap fun b=>if b=58 then []else [b]).length<=s.length:=fun s=>by
  induction s with
  |nil=>exact zo
  | cons b s ih=>
    have h2:(if b=58 then([]:ze)else [b]).length<=1:=by split<;>simp
    rw[List.flatMap_cons,List.length_append,List.length_cons];omega
 have:=h1 (L v);rw[zC]at this;omega
theorem zgI(A:Option Addr)(c:Nat)(ds:List Dv)(n:Int)(w:World)(h:ql w A ds)(hE:Env w)(ha:∀d∈zm ds,∀y∈d.ats,y.val.size<=1000):
 Calls prog 194 #[zU A ds c,.int .i64 n] w (Yf w (match zW (zm ds) n with|some d=>KM d|none=>[])):=by
 obtain⟨w1,hw1⟩:∃w1,w.alloc (.cells #[.slice A ds.length c] 30)=w1:=⟨_,rfl⟩;have hb1:Below w.heap.size w w1:=ZQ;have HF:=za (Calls.mono (kg A c ds n w1 (h.keep hb1)) fun _ _ h=>En h);have HB1:=za hb1;have HE:=za hE;have HW:=za hw1;have h0:w1.heap[w.heap.size]? =some (.cells #[.slice A ds.length c] 30 (0,0)):=Qi;have H0:=za h0;have hX:∀x:Dv,x.d=(zW (zm ds) n).getD qd.d->(match zW (zm ds) n with|some d=>KM d|none=>[])=(if x.kd=4 then UU x.ats.l 3 else [])/\(∀y∈x.ats.l,y.val.size<=1000)/\x.ats.l.length<=1000:=fun x hx=>by
  cases hf:zW (zm ds) n with
  | none=>
    rw[hf]at hx;have e1:x.ats.l=[]:=congrArg Dd.ats hx;have e2:x.kd=0:=congrArg Dd.kd hx;rw[e1,e2];exact⟨rfl,(fun y hy=>GD),Nat.zero_le _⟩
  | some d=>
    rw[hf]at hx;have hm:=(XN hf).1;obtain⟨z,hz,e2⟩:=List.mem_map.1 hm;have e1:x.ats.l=d.ats:=congrArg Dd.ats hx;have e3:x.kd=d.kd:=congrArg Dd.kd hx;rw[e1,e3];exact⟨rfl,ha d hm,by rw[<-e2];exact h.al z hz⟩
 generalize (match zW (zm ds) n with|some d=>KM d|none=>[])=R at*;generalize (zW (zm ds) n).getD qd.d=d0 at*;have HX:=za hX;clear hX ha h hb1 h0 hw1 hE;unfold zU at*;generalize ds.length=N at*;go_enter func194,ntmps194;go_upto_region 1 with fail
 rw[HW.out];go_upto_region 2 with(first
  |(go_at_call 29;refine HF.out.mono ?_;rintro e w2 ⟨x,b,rfl,hx,hn,hb2⟩;have Hx:=za hx;have HDn:=za hn;clear hx hn;have HB2:=za (bt HB1.out hb2);have hrow:=heap_alloc_new w2 (.cells (zq qd) zp);have HL:=za (Kd w2 x);clear hb2)
  |(refine wpList_load_row rfl 30 _ rfl _ rfl _ _ _ _ H0.out underlying30 rfl JT ?_)
  |(refine wpList_store_row rfl 67 _ _ rfl _ _ rfl rfl _ _ hrow Zj rfl qV ?_))
 obtain⟨hL1,hL2⟩:=HL.out;change Code.wp _ _ _ _ ((w2.alloc (.cells (zq qd) zp)).setRow w2.heap.size (zq x));generalize (w2.alloc (.cells (zq qd) zp)).setRow w2.heap.size (zq x)=W3 at*;obtain⟨hR,hz,hlen⟩:=HX.out x Hx.out;have HB3:=za (bt HB2.out hL1);have HBx:Hid (∀W,Below W3.heap.size W3 W->W.heap[w2.heap.size]? =some (.cells (zq x) zp (0,0))):=za fun W hW=>(hW.block _ (zh hL2)).trans hL2;have HG:Hid (∀nm W,Below W3.heap.size W3 W->Calls prog 27 #[.slice x.ats.A x.ats.l.length x.ats.c,.string nm] W (Vg (zT x.ats.l (L nm)) W)):=za fun nm W hW=>KE x.ats.A x.ats.c x.ats.l nm W ((HDn.out.keep (bt hL1 hW)).row) zb;have hwl:w2.heap.size<W3.heap.size:=zh hL2;obtain⟨⟨c0,c1,c2,c3,c4,c5,c6,c7,c8,c9⟩,_⟩:=Y7 hL2;clear hL1 hL2 HX hlen hrow HF H0 c0 c1 c2 c3 c4 c5 c6 c8;by_cases hk:x.kd=4
 · rw [if_pos hk]at hR;have HR:=za hR;have HZ:=za hz;clear hR hz;go_upto_region 6 with fail
   have hcb:=heap_alloc_new W3 (.cells Ia 293);have hb4:=zI W3 (.cells Ia 293);change Code.wp _ _ _ _ (W3.alloc (.cells Ia 293));generalize W3.alloc (.cells Ia 293)=W4 at*;have HN:Hid (∀W,Below W4.heap.size W4 W->(W.heap[W3.heap.size]? =some (.cells Ia 293 (0,0)))/\W.heap[w2.heap.size]? =some (.cells (zq x) zp (0,0))/\Below W3.heap.size W3 W):=za fun W hW=>⟨(hW.block _ (zh hcb)).trans hcb,HBx.out W (bt hb4 hW),bt hb4 hW⟩;have HE4:=za (fun W (hW:Below W4.heap.size W4 W)=>HE.out.go (bt HB3.out (bt hb4 hW)));have HB4:=za (bt HB3.out hb4);have hwl4:w2.heap.size<W4.heap.size:=Nat.lt_of_lt_of_le hwl hb4.size;have hgl4:W3.heap.size<W4.heap.size:=zh hcb;clear hcb hb4 c7 c9 hwl hk;go_loopg [7,26] 3 (fun gk s7 s26 wr=>∃(k:Nat) (LA:Option Addr) (lc LN:Nat),s26=.int .i64 k/\s7=.slice LA LN lc/\k+gk=3/\Hid (Qq wr LA lc LN k (UU x.ats.l k))/\Hid (Below W4.heap.size W4 wr))
   case atStart=>exact⟨0,none,0,0,rfl,rfl,rfl,za (Qq.nil _),za zk⟩
   case round=>
    obtain⟨k,LA,lc,LN,rfl,rfl,hkg,HL,HB⟩:=hrel;obtain⟨h1,h2,hb3⟩:=HN.out wr HB.out;have hz1:=HB.out.size;obtain⟨⟨_,_,_,_,_,_,_,_,_,d9⟩,_⟩:=Y7 h2;have q0:wr.cell? ⟨W3.heap.size,0,none⟩=some (.string UN):=zd h1 rfl;have q1:wr.cell? ⟨W3.heap.size,1,none⟩=some (.string Xl):=zd h1 rfl;have q2:wr.cell? ⟨W3.heap.size,2,none⟩=some (.string UD):=zd h1 rfl;have q3:wr.cell? ⟨W3.heap.size,3,none⟩=some (.string Vy):=zd h1 rfl;have q4:wr.cell? ⟨W3.heap.size,4,none⟩=some (.string Xm):=zd h1 rfl;have q5:wr.cell? ⟨W3.heap.size,5,none⟩=some (.string Uv):=zd h1 rfl;have q6:wr.cell? ⟨W3.heap.size,6,none⟩=some (.string V5):=zd h1 rfl;have q7:wr.cell? ⟨W3.heap.size,7,none⟩=some (.string Ug):=zd h1 rfl;have q8:wr.cell? ⟨W3.heap.size,8,none⟩=some (.string UB):=zd h1 rfl;have hl1:w2.heap.size<wr.heap.size:=zb;have hl2:W3.heap.size<wr.heap.size:=zb;have HB3r:=za hb3;clear h1 h2 hb3;have hk3:k<=3:=zb;rcases(show k=0∨k=1∨k=2∨k=3 by omega)with rfl|rfl|rfl|rfl
    · have hg:=fun W hW=>Calls.mono (HG.out UD W hW) fun _ _ h=>Oq h;have hnx:=RV (UU x.ats.l 0) UN Xl x.ats.l (L UD) id;have hvz:=RY HZ.out (L UD);generalize qI x.ats.l (L UD)=v at*;generalize (zT x.ats.l (L UD)).isSome=ok at*;have hvz2:=hvz;have HRp:True:=trivial;obtain⟨u,hu⟩:∃u,u=v:=⟨_,rfl⟩;rw[id_eq,<-hu]at hnx;rw[<-hu]at hvz2;subst hu;have hsz:(Xl++u).size<=1000000:=jz;have HI:=za fun W=>NR (Xl++u) W hsz;have HS:=za fun(W:World) (A:Option Addr) (c N:Nat) (h:Qq W A c N 0 (UU x.ats.l 0))=>YP UN (Xl++u) W h zb;have hadd:(9223372036854775807<(Xl:ByteArray).size+u.size)=False:=eq_false OG;change UU x.ats.l 1=_ at hnx;generalize X0 (L (Xl++u))=bI at*;have HBo:Hid (∀W,Below (wr.alloc (.cells #[.string UN,.string Xl,.string UD] 293)).heap.size (wr.alloc (.cells #[.string UN,.string Xl,.string UD] 293)) W->W.cell? ⟨wr.heap.size,0,none⟩=some (.string UN)/\W.cell? ⟨wr.heap.size,1,none⟩=some (.string Xl)/\W.cell? ⟨wr.heap.size,2,none⟩=some (.string UD)/\wr.heap.size<W.heap.size):=za fun W hW=>TZ hW;have HNx:=za hnx;have HGk:=za hg;clear hg hnx hvz hsz;cases ok<;>cases bI
      all_goals
       go_wp2_with (first
        |(go_at_call 33;refine(HS.out _ _ _ _ (HL.out.keep HBq.out)).mono ?_;rintro e w9 ⟨A9,c9,N9,rfl,l9,hb9⟩;have HL9:=za l9;have HBq:=za (bt HBq.out hb9);clear l9 hb9)
        |(go_at_call 172;refine(HI.out _).mono ?_;rintro e w8 ⟨rfl,hb8⟩;obtain⟨z0,z1,z2,z3⟩:=HBo.out _ (bt HBb.out hb8);have HBb:=za (bt HBb.out hb8);have HBq:=za (bt HBq.out hb8);clear hb8)
        |(go_at_call 55;refine(HRp.out _ (HE4.out _ (bt HB.out HBq.out))).mono ?_;rintro e w7 ⟨rfl,hb7⟩;obtain⟨z0,z1,z2,z3⟩:=HBo.out _ (bt HBb.out hb7);have HBb:=za (bt HBb.out hb7);have HBq:=za (bt HBq.out hb7);clear hb7)
        |(go_at_call 27;refine(HGk.out _ (bt HB3r.out zw)).mono ?_;rintro e w6 ⟨rfl,hb6⟩;obtain⟨z0,z1,z2,z3⟩:=HBo.out _ hb6;have HBb:=za hb6;have HBq:=za (bt zw hb6);clear hb6))
       go_roundg (gk - 1)
       case measure=>omega
       case rel=>first
        |exact⟨1,A9,c9,N9,kf,rfl,zb,za Pi,za (bt HB.out HBq.out)⟩
        |exact⟨1,LA,lc,LN,kf,rfl,zb,za ji,za (bt HB.out HBq.out)⟩
    · have hg:=fun W hW=>Calls.mono (HG.out Uv W hW) fun _ _ h=>Oq h;have hnx:=RV (UU x.ats.l 1) Vy Xm x.ats.l (L Uv) id;have hvz:=RY HZ.out (L Uv);generalize qI x.ats.l (L Uv)=v at*;generalize (zT x.ats.l (L Uv)).isSome=ok at*;have hvz2:=hvz;have HRp:True:=trivial;obtain⟨u,hu⟩:∃u,u=v:=⟨_,rfl⟩;rw[id_eq,<-hu]at hnx;rw[<-hu]at hvz2;subst hu;have hsz:(Xm++u).size<=1000000:=jz;have HI:=za fun W=>NR (Xm++u) W hsz;have HS:=za fun(W:World) (A:Option Addr) (c N:Nat) (h:Qq W A c N 1 (UU x.ats.l 1))=>YP Vy (Xm++u) W h zb;have hadd:(9223372036854775807<(Xm:ByteArray).size+u.size)=False:=eq_false OG;change UU x.ats.l 2=_ at hnx;generalize X0 (L (Xm++u))=bI at*;have HBo:Hid (∀W,Below (wr.alloc (.cells #[.string Vy,.string Xm,.string Uv] 293)).heap.size (wr.alloc (.cells #[.string Vy,.string Xm,.string Uv] 293)) W->W.cell? ⟨wr.heap.size,0,none⟩=some (.string Vy)/\W.cell? ⟨wr.heap.size,1,none⟩=some (.string Xm)/\W.cell? ⟨wr.heap.size,2,none⟩=some (.string Uv)/\wr.heap.size<W.heap.size):=za fun W hW=>TZ hW;have HNx:=za hnx;have HGk:=za hg;clear hg hnx hvz hsz;cases ok<;>cases bI
      all_goals
       go_wp2_with (first
        |(go_at_call 33;refine(HS.out _ _ _ _ (HL.out.keep HBq.out)).mono ?_;rintro e w9 ⟨A9,c9,N9,rfl,l9,hb9⟩;have HL9:=za l9;have HBq:=za (bt HBq.out hb9);clear l9 hb9)
        |(go_at_call 172;refine(HI.out _).mono ?_;rintro e w8 ⟨rfl,hb8⟩;obtain⟨z0,z1,z2,z3⟩:=HBo.out _ (bt HBb.out hb8);have HBb:=za (bt HBb.out hb8);have HBq:=za (bt HBq.out hb8);clear hb8)
        |(go_at_call 55;refine(HRp.out _ (HE4.out _ (bt HB.out HBq.out))).mono ?_;rintro e w7 ⟨rfl,hb7⟩;obtain⟨z0,z1,z2,z3⟩:=HBo.out _ (bt HBb.out hb7);have HBb:=za (bt HBb.out hb7);have HBq:=za (bt HBq.out hb7);clear hb7)
        |(go_at_call 27;refine(HGk.out _ (bt HB3r.out zw)).mono ?_;rintro e w6 ⟨rfl,hb6⟩;obtain⟨z0,z1,z2,z3⟩:=HBo.out _ hb6;have HBb:=za hb6;have HBq:=za (bt zw hb6);clear hb6))
       go_roundg (gk - 1)
       case measure=>omega
       case rel=>first
        |exact⟨2,A9,c9,N9,kf,rfl,zb,za Pi,za (bt HB.out HBq.out)⟩
        |exact⟨2,LA,lc,LN,kf,rfl,zb,za ji,za (bt HB.out HBq.out)⟩
    · have hg:=fun W hW=>Calls.mono (HG.out UB W hW) fun _ _ h=>Oq h;have hnx:=RV (UU x.ats.l 2) V5 Ug x.ats.l (L UB) (fun v=>bs (Lib.replaceAll (L v) [58] []));have hvz:=RY HZ.out (L UB);generalize qI x.ats.l (L UB)=v at*;generalize (zT x.ats.l (L UB)).isSome=ok at*;have HRp:=za fun W (hW:Env W)=>Rw v ⟨#[]⟩ 58 W hW.toEnv0 zb zi;have hvz2:=zaT v hvz;change Hid (∀W,_->Calls _ _ _ W fun e w'=>e=.returned (.string (bs (Lib.replaceAll (L v) [58] [])))/\_)at HRp;generalize bs (Lib.replaceAll (L v) [58] [])=u at*;have hsz:(Ug++u).size<=1000000:=jz;have HI:=za fun W=>NR (Ug++u) W hsz;have HS:=za fun(W:World) (A:Option Addr) (c N:Nat) (h:Qq W A c N 2 (UU x.ats.l 2))=>YP V5 (Ug++u) W h zb;have hadd:(9223372036854775807<(Ug:ByteArray).size+u.size)=False:=eq_false OG;change UU x.ats.l 3=_ at hnx;generalize X0 (L (Ug++u))=bI at*;have HBo:Hid (∀W,Below (wr.alloc (.cells #[.string V5,.string Ug,.string UB] 293)).heap.size (wr.alloc (.cells #[.string V5,.string Ug,.string UB] 293)) W->W.cell? ⟨wr.heap.size,0,none⟩=some (.string V5)/\W.cell? ⟨wr.heap.size,1,none⟩=some (.string Ug)/\W.cell? ⟨wr.heap.size,2,none⟩=some (.string UB)/\wr.heap.size<W.heap.size):=za fun W hW=>TZ hW;have HNx:=za hnx;have HGk:=za hg;clear hg hnx hvz hsz;cases ok<;>cases bI
      all_goals
       go_wp2_with (first
        |(go_at_call 33;refine(HS.out _ _ _ _ (HL.out.keep HBq.out)).mono ?_;rintro e w9 ⟨A9,c9,N9,rfl,l9,hb9⟩;have HL9:=za l9;have HBq:=za (bt HBq.out hb9);clear l9 hb9)
        |(go_at_call 172;refine(HI.out _).mono ?_;rintro e w8 ⟨rfl,hb8⟩;obtain⟨z0,z1,z2,z3⟩:=HBo.out _ (bt HBb.out hb8);have HBb:=za (bt HBb.out hb8);have HBq:=za (bt HBq.out hb8);clear hb8)
        |(go_at_call 55;refine(HRp.out _ (HE4.out _ (bt HB.out HBq.out))).mono ?_;rintro e w7 ⟨rfl,hb7⟩;obtain⟨z0,z1,z2,z3⟩:=HBo.out _ (bt HBb.out hb7);have HBb:=za (bt HBb.out hb7);have HBq:=za (bt HBq.out hb7);clear hb7)
        |(go_at_call 27;refine(HGk.out _ (bt HB3r.out zw)).mono ?_;rintro e w6 ⟨rfl,hb6⟩;obtain⟨z0,z1,z2,z3⟩:=HBo.out _ hb6;have HBb:=za hb6;have HBq:=za (bt zw hb6);clear hb6))
       go_roundg (gk - 1)
       case measure=>omega
       case rel=>first
        |exact⟨3,A9,c9,N9,kf,rfl,zb,za Pi,za (bt HB.out HBq.out)⟩
        |exact⟨3,LA,lc,LN,kf,rfl,zb,za ji,za (bt HB.out HBq.out)⟩
    · have HEnd:Hid (Yf w R (.returned (.slice LA LN lc)) wr):=za (by rw[HR.out];exact HL.out.outL (bt HB4.out HB.out));clear q0 q1 q2 q3 q4 q5 q6 q7 q8 d9;go_wp2;go_ret;exact HEnd.out
 · rw[if_neg hk]at hR;have hkb:(x.kd==4)=false:=beq_eq_false_iff_ne.2 hk;have HE2:Hid (Yf w R (.returned (.slice none 0 0)) W3):=za (by rw[hR];exact⟨none,0,rfl,zA.empty,HB3.out⟩);clear hR;exact No
end
section
open Go.RowKit Go.Shelf Go.Maps
abbrev TV:TypeId:=231
abbrev fP:Value:=.func (.func 192) #[] #[]
abbrev fC:Value:=.func (.func 193) #[] #[]
abbrev fN:Value:=.func (.func 194) #[] #[]
open Classical in
noncomputable def XU(v:Value):Option (DW×List MemPlace):=if v=fP then some (.lit (.int .i64 1),[])else if v=fC then some (.lit (.int .i64 2),[])else if v=fN then some (.lit (.int .i64 3),[])else if v=.nilFunc then some (.lit (.int .i64 0),[])else none
theorem zeW:XU fP=some (.lit (.int .i64 1),[]):=by unfold XU;rw[if_pos rfl]
theorem zdU:XU fC=some (.lit (.int .i64 2),[]):=by unfold XU;rw[if_neg zl,if_pos rfl]
theorem ziE:XU fN=some (.lit (.int .i64 3),[]):=by unfold XU;rw[if_neg zl,if_neg zl,if_pos rfl]
theorem Sf:XU .nilFunc=some (.lit (.int .i64 0),[]):=by unfold XU;rw[if_neg zl,if_neg zl,if_neg zl,if_pos rfl]
theorem NI{v:Value}{k:Int}{ps:List MemPlace}(h:XU v=some (.lit (.int .i64 k),ps)):(k=1->v=fP)/\(k=2->v=fC)/\(k=3->v=fN)/\(k=0->v=.nilFunc):=by
 unfold XU at h
 split at h
 · rename_i e;simp at h;subst e;refine⟨fun _=>rfl,fun e=>?_,fun e=>?_,fun e=>?_⟩<;>omega
 split at h
 · rename_i e;simp at h;subst e;refine⟨fun e=>?_,fun _=>rfl,fun e=>?_,fun e=>?_⟩<;>omega
 split at h
 · rename_i e;simp at h;subst e;refine⟨fun e=>?_,fun e=>?_,fun _=>rfl,fun e=>?_⟩<;>omega
 split at h
 · rename_i e;simp at h;subst e;refine⟨fun e=>?_,fun e=>?_,fun e=>?_,fun _=>rfl⟩<;>omega
 · cases h
abbrev KT(W:World)(b n:Nat)(D:DW):Prop:=W.ownsMap prog 9 XU b n D
abbrev VR:ze:=[112,97,116,104]
abbrev kO:ze:=[99,111,110,116,101,110,116]
abbrev Jq:ze:=[110,101,116]
abbrev KI:DW:=(((DataW.map []).put (.string VR) (.lit (.int .i64 1))).put (.string kO) (.lit (.int .i64 2))).put (.string Jq) (.lit (.int .i64 3))
theorem za9(n:ze)(z:DW):KI.atKey (.string n) z=if n=Jq then .lit (.int .i64 3)else if n=kO then .lit (.int .i64 2)else if n=VR then .lit (.int .i64 1)else z:=by
 have t1:Tidy ((DataW.map []:DW).put (.string VR) (.lit (.int .i64 1))):=tidy_empty.put (Il _) _;have t2:=t1.put (Il kO) (.lit (.int .i64 2));by_cases h3:n=Jq
 · rw[if_pos h3,h3];exact atKey_put_same t2.isMap (Il _) _ _
 rw[if_neg h3];refine(atKey_put_other (TG h3) _ _).trans ?_;by_cases h2:n=kO
 · rw[if_pos h2,h2];exact atKey_put_same t1.isMap (Il _) _ _
 rw[if_neg h2];refine(atKey_put_other (TG h2) _ _).trans ?_;by_cases h1:n=VR
 · rw[if_pos h1,h1];exact atKey_put_same tidy_empty.isMap (Il _) _ _
 rw[if_neg h1];exact atKey_put_other (TG h1) _ _
theorem jb{W:World}{M n:Nat}{D:DW}(h:KT W M n D)(hn:n<100)(s:ByteArray)(hs:s.size<=1000)(v:Value)(k:Int)(hv:XU v=some (.lit (.int .i64 k),[])):
 ∃W',(Instr.mapUpdate TV (.map (some M)) (.string s) v).run prog W=.ok () W'/\KT W' M (n+1) (D.put (.string (L s)) (.lit (.int .i64 k)))/\W.grownBy W' (some M):=
 World.ownsMap.update h (string_keyed underlying9) underlying231 qh (WideMaps.keyOf_string_mk (P:=prog) underlying9 (s:=s) qh) hv
theorem zaK(w:World):Calls prog 163 #[] w fun e w'=>∃M n,e=.returned (.map (some M))/\KT w' M n KI/\Below w.heap.size w w':=by
 have hm:=run_makeMap (P:=prog) TV w;have h0:KT (w.alloc (.map #[] 0)) w.heap.size 0 (.map []):=World.ownsMap_made _ _ _ _;obtain⟨w1,e1,h1,g1⟩:=jb h0 zi ⟨#[112,97,116,104]⟩ zi fP 1 zeW;obtain⟨w2,e2,h2,g2⟩:=jb h1 zi ⟨#[99,111,110,116,101,110,116]⟩ zi fC 2 zdU;obtain⟨w3,e3,h3,g3⟩:=jb h2 zi ⟨#[110,101,116]⟩ zi fN 3 ziE;have HEnd:Hid (KT w3 w.heap.size 3 KI/\Below w.heap.size w w3):=za ⟨h3,by
  have g:=(g1.trans g2).trans g3;exact(zI w (.map #[] 0)).grown g (zI w (.map #[] 0)).size (fun j e=>Zy)⟩
 clear h0 h1 h2 h3 g1 g2 g3;go_enter func163,ntmps163;go_wp2;go_ret;exact⟨_,3,rfl,HEnd.out⟩
theorem ziy{W:World}{M n:Nat}(h:KT W M n KI)(s:ByteArray)(hs:s.size<=1000000):
 ∃v b,(Instr.lookup TV (.map (some M)) (.string s) true).run prog W=.ok (.tuple #[v,.bool b]) W/\((L s=VR/\v=fP/\b=true)∨(L s≠VR/\L s=kO/\v=fC/\b=true)∨(L s≠VR/\L s≠kO/\L s=Jq/\v=fN/\b=true)∨(L s≠VR/\L s≠kO/\L s≠Jq/\v=.nilFunc/\b=false)):=by
 obtain⟨v,ps,hrun,hv⟩:=World.ownsMap.look_ok h (string_keyed underlying9) underlying231 (zeroValue229 W) Sf (WideMaps.keyOf_string_mk (P:=prog) underlying9 (s:=s) qh);change XU v=some (KI.atKey (.string (L s)) (.lit (.int .i64 0)),ps)at hv;refine⟨v,_,hrun,?_⟩;have hat:=za9 (L s);have hh:∀(y:DW),(∀z,KI.atKey (.string (L s)) z=y)->Maps.has KI (.string (L s))=true:=fun y h=>has_true_of_atKey h;rw[hat]at hv;by_cases h1:L s=VR
 · rw[h1,if_neg zi,if_neg zi,if_pos rfl]at hv;exact Or.inl ⟨h1,(NI hv).1 rfl,hh _ fun z=>by rw[hat,h1,if_neg zi,if_neg zi,if_pos rfl]⟩
 by_cases h2:L s=kO
 · rw[h2,if_neg zi,if_pos rfl]at hv;exact Or.inr (Or.inl ⟨h1,h2,(NI hv).2.1 rfl,hh _ fun z=>by rw[hat,h2,if_neg zi,if_pos rfl]⟩)
 by_cases h3:L s=Jq
 · rw[h3,if_pos rfl]at hv;exact Or.inr (Or.inr (Or.inl ⟨h1,h2,h3,(NI hv).2.2.1 rfl,hh _ fun z=>by rw[hat,h3,if_pos rfl]⟩))
 · rw[if_neg h3,if_neg h2,if_neg h1]at hv;exact Or.inr (Or.inr (Or.inr ⟨h1,h2,h3,(NI hv).2.2.2 rfl,has_false_of_atKey fun z=>by rw[hat,if_neg h3,if_neg h2,if_neg h1]⟩))
theorem zjg(A:Option Addr)(c:Nat)(ds:List Dv)(n:Int)(nm:ByteArray)(w:World)(h:ql w A ds)(hi:∀d∈zm ds,Xh d/\d.sb.size<=1000)(hwf:QW (zm ds))(r1: -9223372036854775808<=n)(r2:n<=9223372036854775807)(hE:Env w)(hU:KA w)(ha:∀d∈zm ds,∀y∈d.ats,y.val.size<=1000/\∀b∈L y.val,b.toNat<128)(hs:nm.size<=1000000):
 Calls prog 138 #[.string nm,zU A ds c,.int .i64 n] w (Yf w (Ya nm (zm ds) n)):=by
 obtain⟨w1,hw1⟩:∃w1,w.alloc (.cells #[.slice A ds.length c] 30)=w1:=⟨_,rfl⟩;have hb1:Below w.heap.size w w1:=ZQ;have h0:w1.heap[w.heap.size]? =some (.cells #[.slice A ds.length c] 30 (0,0)):=Qi;have hEu:∀W,Below w.heap.size w W->KA W:=fun W hW=>hU.go hW;have HP:=za fun W (hW:Below w.heap.size w W)=>za8 A c ds n W (h.keep hW) hi hwf r1 r2 (hEu W hW);obtain⟨RC,hRC⟩:∃X,(match zW (zm ds) n with|some d=>V6 d|none=>[])=X:=⟨_,rfl⟩;obtain⟨RN,hRN⟩:∃X,(match zW (zm ds) n with|some d=>KM d|none=>[])=X:=⟨_,rfl⟩;have hC:∀W,Below w.heap.size w W->Calls prog 193 #[zU A ds c,.int .i64 n] W (Yf W RC):=fun W hW=>by rw[<-hRC];exact zaH A c ds n W (h.keep hW) (hE.go hW) (fun d hd y hy=>⟨Nat.le_trans (ha d hd y hy).1 zi,(ha d hd y hy).2⟩)
 have hN:∀W,Below w.heap.size w W->Calls prog 194 #[zU A ds c,.int .i64 n] W (Yf W RN):=fun W hW=>by rw[<-hRN];exact zgI A c ds n W (h.keep hW) (hE.go hW) (fun d hd y hy=>(ha d hd y hy).1)
 have HC:=za hC;have HN:=za hN;have HB1:=za hb1;have H0:=za h0;have HW:=za hw1;obtain⟨R,hR⟩:∃R,Ya nm (zm ds) n=R:=⟨_,rfl⟩;rw[hR];unfold Ya at hR;have HR:=za hR;have HRC:=za hRC;have HRN:=za hRN;clear hC hN hRC hRN hR h hi hwf r1 r2 hE hU ha hb1 h0 hw1 hEu;unfold zU at*;generalize ds.length=N at*;go_enter func138,ntmps138;go_upto_region 1 with fail
 rw[HW.out];go_wp2_with (first
  |(go_at_call 192;refine(HP.out _ HB2.out).mono ?_;rintro e w3 ⟨A3,c3,rfl,h3,hb3⟩;have hr:=HR.out;rw[if_pos q1]at hr;have HO:Hid (Yf w R (.returned (.slice A3 (kl (zm ds) n).length c3)) w3):=za (by rw[<-hr];exact⟨A3,c3,rfl,h3,bt HB2.out hb3⟩);clear hr h3 hb3)
  |(go_at_call 193;refine(HC.out _ HB2.out).mono ?_;rintro e w3 ⟨A3,c3,rfl,h3,hb3⟩;have hr:=HR.out;rw[if_neg q1,if_pos q2]at hr;have hr2:RC=R:=HRC.out.symm.trans hr;have HO:Hid (Yf w R (.returned (.slice A3 RC.length c3)) w3):=za Fa;clear hr hr2 h3 hb3)
  |(go_at_call 194;refine(HN.out _ HB2.out).mono ?_;rintro e w3 ⟨A3,c3,rfl,h3,hb3⟩;have hr:=HR.out;rw[if_neg q1,if_neg q2,if_pos q3]at hr;have hr2:RN=R:=HRN.out.symm.trans hr;have HO:Hid (Yf w R (.returned (.slice A3 RN.length c3)) w3):=za Fa;clear hr hr2 h3 hb3)
  |(go_at_call 163;refine(zaK w1).mono ?_;rintro e w2 ⟨M,mn,rfl,hM,hb2⟩;obtain⟨v,b,hlk,hv⟩:=ziy hM nm hs;have HB2:=za (bt HB1.out hb2);have hbx:=(hb2.block _ (zh H0.out)).trans H0.out;have c0:w2.cell? ⟨w.heap.size,0,none⟩=some (.slice A N c):=zd hbx rfl;have hl0:=zh hbx;have HBx:=za hbx;clear hM hb2 hbx;obtain⟨q1,rfl,rfl⟩|⟨q1,q2,rfl,rfl⟩|⟨q1,q2,q3,rfl,rfl⟩|⟨q1,q2,q3,rfl,rfl⟩:=hv))
 · go_ret;exact HO.out
 · go_ret;exact HO.out
 · go_ret;exact HO.out
 · have hr:=HR.out;rw[if_neg q1,if_neg q2,if_neg q3]at hr;go_ret;rw[<-hr];exact⟨none,0,rfl,zA.empty,HB2.out⟩
end
end Go.Proofs.YtobcmlmbblgcdaaGreatDoor

/- Contracts of functions that the law reaches, and what they rest on; each under the premises that it names. Shortened by a program. -/
import Derived.Test.YtecbmndgpepkcaaGreatDoorG22
import Derived.Test.YtecbmndgpepkcaaGreatDoorG19
namespace Go.Proofs.YtecbmndgpepkcaaGreatDoor
open Tryz
set_option maxHeartbeats 8000000
set_option maxRecDepth 100000
section
open Go.RowKit
def Ra(s:ByteArray)(w:World)(e:Ending)(w':World):Prop:=∃(f:Fq) (A:Option Addr) (c:Nat) (er:Int),e=.returned (.tuple #[Ua f A c,.int .i64 er])/\((er=0/\U4 (L s)=some (f.kd,f.id,f.lab))∨(er≠0/\U4 (L s)=none))/\Below w.heap.size w w'
theorem zcQ{g:Nat}{s:ByteArray}{w w':World}{a:Nat}{r:Cs×zW}{e:Ending}(h:Jf g s w a r e w'):∃(f:Fq) (A:Option Addr) (c:Nat),e=.returned (Ua f A c)/\(f.kd,f.id,f.lab)=(r.1.kd,r.1.id,r.1.lab)/\Zd w g s r.2 w'/\(r.2.a<=1000->∀W,Below w'.heap.size w' W->Calls prog 260 #[Ua f A c] W fun e W'=>e=.returned (.int .i64 (if r.1.dep<=6/\r.1.ok=true then 0 else 70))/\Below W.heap.size W W'):=by
 obtain⟨m,rfl,hm,hc,hq,hn⟩:=h;have h1:m.dep=r.1.dep/\m.ok=r.1.ok/\m.fl.kd=r.1.kd/\m.fl.id=r.1.id/\m.fl.lab=r.1.lab:=by rw[<-hm];exact⟨rfl,rfl,rfl,rfl,rfl⟩
 have hK:r.2.a<=1000->∀W,Below w'.heap.size w' W->Calls prog 260 #[.agg (ZB m).toArray] W fun e W'=>e=.returned (.int .i64 (if r.1.dep<=6/\r.1.ok=true then 0 else 70))/\Below W.heap.size W W':=fun ha W hW=>by
  rw[<-h1.1,<-h1.2.1];exact zbI (hn.keep hW fun _ _ h=>h) zb
 cases m with
 |mk k i b s t e A c l=>exact⟨⟨k,i,b,s,t,e,l.length⟩,A,c,rfl,by rw[<-h1.2.2.1,<-h1.2.2.2.1,<-h1.2.2.2.2];rfl,hq,hK⟩
theorem zeQ(s:ByteArray)(w:World)(hE:Env w)(ha:s.size<=256->∀b∈L s,b.toNat<128)(hs:s.size<=1000000):Calls prog 229 #[.string s] w (Ra s w):=by
 by_cases hz:s.size<=256
 · have hbp:Below w.heap.size w ((w.alloc (.cells qC zy)).alloc (.cells #[.string s,.int .i64 0,.bool false] 325)):=bt zw zw;have hbx:((w.alloc (.cells qC zy)).alloc (.cells #[.string s,.int .i64 0,.bool false] 325)).heap[w.heap.size+1]? =some (.cells #[.string s,.int .i64 0,.bool false] 325 (0,0)):=by have:=heap_alloc_new (w.alloc (.cells qC zy)) (.cells #[.string s,.int .i64 0,.bool false] 325);simpa using this
   have hP:Z7 _ (w.heap.size+1) s ⟨0,false⟩:=⟨hbx,Nat.zero_le _,zb,ha hz⟩;have HC:=za (Calls.mono (zgd (w.heap.size+1) s (by have:=hE.toEnv0.size;omega) 800 zi ⟨0,false⟩ _ hP (hE.go hbp) (by show 3*(s.size - 0)+1<=800;omega)) fun _ _ h=>zcQ h);have hR:(⟨0,false⟩:zW).a=0:=rfl;obtain⟨r,hr⟩:∃r,U4 (L s)=r:=⟨_,rfl⟩;unfold Ra;rw[hr];unfold U4 at hr;dsimp only at hr;rw[zC]at hr;generalize Yb (L s) 800 ⟨0,false⟩=x at*;obtain⟨y,a,b⟩:=x;dsimp only at*;have HB:=za hbp;have hR0:((w.alloc (.cells qC zy)).alloc (.cells #[.string s,.int .i64 0,.bool false] 325)).heap[w.heap.size]? =some (.cells qC zy (0,0)):=(zw.block _ zl).trans (heap_alloc_new w _);have HR0:=za hR0;have hG:∀(f:Fq) (A:Option Addr) (c:Nat) (W:World),Hid (s.size<=256/\b=false/\a=s.size/\y.dep<=6/\y.ok=true)->(f.kd,f.id,f.lab)=(y.kd,y.id,y.lab)->Below w.heap.size w W->∃(f':Fq) (A':Option Addr) (c':Nat) (er:Int),Ending.returned (.tuple #[Ua f A c,.int .i64 0])=.returned (.tuple #[Ua f' A' c',.int .i64 er])/\((er=0/\r=some (f'.kd,f'.id,f'.lab))∨(er≠0/\r=none))/\Below w.heap.size w W:=fun f A c W h hf hW=>⟨f,A,c,0,rfl,Or.inl ⟨rfl,by rw[<-hr,if_pos h.out,hf]⟩,hW⟩;have hB:∀(er:Int) (W:World),Hid (¬(s.size<=256/\b=false/\a=s.size/\y.dep<=6/\y.ok=true))->er≠0->Below w.heap.size w W->∃(f':Fq) (A':Option Addr) (c':Nat) (er':Int),Ending.returned (.tuple #[.agg qC,.int .i64 er])=.returned (.tuple #[Ua f' A' c',.int .i64 er'])/\((er'=0/\r=some (f'.kd,f'.id,f'.lab))∨(er'≠0/\r=none))/\Below w.heap.size w W:=fun er W h he hW=>⟨⟨0,⟨#[]⟩,⟨#[]⟩,0,0,0,0⟩,none,0,er,rfl,Or.inr ⟨he,by rw[<-hr,if_neg h.out]⟩,hW⟩;have HG:=za hG;have HBd:=za hB;clear hr hP hbx hbp hE ha hs hG hB hR0;generalize hQ:(fun(e:Ending) (w':World)=>∃(f:Fq) (A:Option Addr) (c:Nat) (er:Int),e=.returned (.tuple #[Ua f A c,.int .i64 er])/\((er=0/\r=some (f.kd,f.id,f.lab))∨(er≠0/\r=none))/\Below w.heap.size w w')=Q;have HQ:=za hQ;clear hQ;have hk:(b=true/\Hid (¬(s.size<=256/\b=false/\a=s.size/\y.dep<=6/\y.ok=true)))∨(b=false/\((a≠s.size/\Hid (¬(s.size<=256/\b=false/\a=s.size/\y.dep<=6/\y.ok=true)))∨(a=s.size/\∃z:Int,(if y.dep<=6/\y.ok=true then(0:Int)else 70)=z/\((z=0/\Hid (s.size<=256/\b=false/\a=s.size/\y.dep<=6/\y.ok=true))∨(z=70/\Hid (¬(s.size<=256/\b=false/\a=s.size/\y.dep<=6/\y.ok=true))))))):=by
    cases b with
    |true=>exact Or.inl ⟨rfl,fun h=>by cases h.2.1⟩
    | false=>
      refine Or.inr ⟨rfl,?_⟩;by_cases h1:a=s.size
      · refine Or.inr ⟨h1,_,rfl,?_⟩;by_cases h2:y.dep<=6/\y.ok=true
        · rw[if_pos h2];exact Or.inl ⟨rfl,hz,rfl,h1,h2⟩
        · rw[if_neg h2];exact Or.inr ⟨rfl,fun h=>h2 h.2.2.2⟩
      · exact Or.inl ⟨h1,fun h=>h1 h.2.2.1⟩
   rcases hk with⟨rfl,hX⟩|⟨rfl,⟨ha,hX⟩|⟨rfl,z,hzz,⟨rfl,hX⟩|⟨rfl,hX⟩⟩⟩
   all_goals
    go_enter func229,ntmps229;go_wp2_with (first
     |(go_at_call 260;refine(HK.out zb _ zw).mono ?_;rw[hzz];rintro e w5 ⟨rfl,hb5⟩;have hbb:=(zI w3 (.cells #[.int .i64 f.kd,.string f.id,.string f.lab,.int .i64 f.s,.int .i64 f.t,.int .i64 f.e,.slice A f.n c] zy)).trans (hb5.mono zw.size);obtain⟨p0,p1,p2,p3,p4,p5,p6,pf,pl⟩:=kL ((hb5.block _ zl).trans (heap_alloc_new w3 _));have hr5:=(hbb.block _ (zh HR3.out)).trans HR3.out;have HR5:=za hr5;have HB5:=za (bt HB3.out hbb);clear hb5 hbb hr5)
     |(refine wpList_store_row rfl zy _ _ rfl _ _ rfl rfl _ _ HR5.out (by exact Xd) rfl qJ ?_)
     |(refine wpList_store_row rfl zy _ _ rfl _ _ rfl rfl _ _ (((zI w3 _).block _ (zh HR3.out)).trans HR3.out) (by exact Xd) rfl qJ ?_)
     |(go_at_call 259;refine HC.out.mono ?_;rintro e w3 ⟨f,A,c,rfl,hf,hq,hk⟩;have HK:=za hk;have HF:=za hf;obtain⟨c0,c1,c2,_,hgl⟩:=hq.ps.cells;have hr3:=(hq.gr.block _ zH (fun e=>Zr)).trans HR0.out;have HR3:=za hr3;have HB3:Hid (Below w.heap.size w w3):=za (HB.out.grown hq.gr HB.out.size (fun j e=>Zr));clear hk hf hq hr3))
    (try clear hzz)
   · exact EV
   · exact EV
   · refine Qs rfl zj zj (setRow_heap _ _ _ _ _ _ HR5.out) underlying290 rfl Xd zj ?_;rw[<-HQ.out];exact HG.out f A c _ hX HF.out (qz HB5.out zo)
   · refine Qs rfl zj zj (setRow_heap _ _ _ _ _ _ HR5.out) underlying290 rfl Xd zj ?_;rw[<-HQ.out];exact HBd.out 70 _ hX zi (qz HB5.out zo)
 · have hr:U4 (L s)=none:=by
    unfold U4;dsimp only;rw[if_neg (by rw[zC];exact fun h=>hz h.1)]
   have HR:=za hr;have hzI:(256:Int)<(s.size:Int):=zb;have HR0:=za (heap_alloc_new w (.cells qC zy));have HB:=za (zI w (.cells qC zy));clear hr ha hE;go_enter func229,ntmps229;go_wp2;refine Qs rfl zj zj HR0.out underlying290 rfl Xd zj ?_;exact⟨⟨0,⟨#[]⟩,⟨#[]⟩,0,0,0,0⟩,none,0,71,rfl,Or.inr ⟨zi,HR.out⟩,HB.out⟩
end
section
open Go.RowKit Go.Shelf Go.Maps
theorem vJ{o:Option Dd}{w w':World}{e:Ending}(h:YP o w e w'):∃(x:Dv) (b:Bool),e=.returned (.tuple #[zY x,.bool b])/\x.d=o.getD qc.d/\ZQ w' x/\Below w.heap.size w w':=by
 unfold YP at h;cases o with
 |none=>exact⟨qc,false,h.1,rfl,zD.nil,h.2⟩
 | some d=>
   obtain⟨x,h1,h2,h3,_,h5⟩:=h;exact⟨x,true,h1,h2,h3,h5⟩
theorem Mq{l:List At}{n:ze}{w w':World}{e:Ending}(h:Vd (zR l n) w e w'):e=.returned (.tuple #[.string (qF l n),.bool (zR l n).isSome])/\Below w.heap.size w w':=by
 unfold Vd JH at h;unfold qF;cases hf:zR l n with
 |none=>rw[hf]at h;exact h
 |some y=>rw[hf]at h;exact h
theorem zaQ(s:ze)(f:Nat)(p:zW):0<=(Yb s f p).1.kd/\(Yb s f p).1.kd<=5:=by
 cases f with
 |zero=>rw[Yb];show(0:Int)<=0/\(0:Int)<=5;decide
 | succ f=>
   rw[Yb];dsimp only
   split
   · show(0:Int)<=0/\(0:Int)<=5;decide
   · split
     · show(0:Int)<=1/\(1:Int)<=5;decide
     · show 0<=(Uv s _ _).1.1/\(Uv s _ _).1.1<=5;unfold Uv
       repeat' split
       all_goals dsimp only;decide
theorem Bw{s:ze}{k:Int}{i l:ByteArray}(h:U4 s=some (k,i,l)):0<=k/\k<=5:=by
 unfold U4 at h;dsimp only at h
 split at h
 · injection h with h
   injection h with h _
   rw[<-h];exact zaQ _ _ _
 · cases h
theorem zh9(A:Option Addr)(c:Nat)(ds:List Dv)(n:Int)(w:World)(h:qk w A ds)(hE:Env w)(ha:∀d∈zm ds,∀y∈d.ats,y.val.size<=1000000/\∀b∈L y.val,b.toNat<128):
 Calls prog 192 #[zT A ds c,.int .i64 n] w (Yl w (match qa (zm ds) n with|some d=>VU d|none=>[])):=by
 obtain⟨w1,hw1⟩:∃w1,w.alloc (.cells #[.slice A ds.length c] 30)=w1:=⟨_,rfl⟩;have hb1:Below w.heap.size w w1:=ZV;have HF:=za (Calls.mono (V0 A c ds n w1 (h.keep hb1)) fun _ _ h=>vJ h);have HB1:=za hb1;have HE:=za hE;have HW:=za hw1;have h0:w1.heap[w.heap.size]? =some (.cells #[.slice A ds.length c] 30 (0,0)):=Qc;have H0:=za h0;have hX:∀x:Dv,x.d=(qa (zm ds) n).getD qc.d->(match qa (zm ds) n with|some d=>VU d|none=>[])=VU x.d/\(qF x.ats.l (L UW)).size<=1000000/\(∀b∈L (qF x.ats.l (L UW)),b.toNat<128)/\x.ats.l.length<=1000:=fun x hx=>by
  have hat:∀l:List At,(∀y∈l,y.val.size<=1000000/\∀b∈L y.val,b.toNat<128)->(qF l (L UW)).size<=1000000/\∀b∈L (qF l (L UW)),b.toNat<128:=fun l hl=>by
   unfold qF;cases hf:zR l (L UW)with
   |none=>exact⟨Nat.zero_le _,fun b hb=>by cases hb⟩
   |some y=>exact hl y (List.mem_of_find?_eq_some hf)
  cases hf:qa (zm ds) n with
  | none=>
    rw[hf]at hx;have e1:x.ats.l=[]:=congrArg Dd.ats hx;rw[hx,e1];exact⟨rfl,(hat [] (fun y hy=>J2)).1,(hat [] (fun y hy=>J2)).2,Nat.zero_le _⟩
  | some d=>
    rw[hf]at hx;have hm:=(XE hf).1;obtain⟨z,hz,e2⟩:=List.mem_map.1 hm;have e1:x.ats.l=d.ats:=congrArg Dd.ats hx;rw[hx,e1];exact⟨rfl,(hat _ (ha d hm)).1,(hat _ (ha d hm)).2,by rw[<-e2];exact h.al z hz⟩
 generalize (match qa (zm ds) n with|some d=>VU d|none=>[])=R at*;generalize (qa (zm ds) n).getD qc.d=d0 at*;have HX:=za hX;clear hX ha h hb1 h0 hw1 hE;unfold zT at*;generalize ds.length=N at*;go_enter func192,ntmps192;go_upto_region 1 with fail
 rw[HW.out];go_upto_region 2 with(first
  |(go_at_call 9;refine HF.out.mono ?_;rintro e w2 ⟨x,b,rfl,hx,hn,hb2⟩;have Hx:=za hx;have HDn:=za hn;clear hx hn;have HB2:=za (bt HB1.out hb2);have hrow:=heap_alloc_new w2 (.cells (zq qc) zp);have HL:=za (kD w2 x);clear hb2)
  |(refine wpList_load_row rfl 30 _ rfl _ rfl _ _ _ _ H0.out underlying30 rfl Jx ?_)
  |(refine wpList_store_row rfl 43 _ _ rfl _ _ rfl rfl _ _ hrow Zh rfl qJ ?_))
 obtain⟨hL1,hL2⟩:=HL.out;change Code.wp _ _ _ _ ((w2.alloc (.cells (zq qc) zp)).setRow w2.heap.size (zq x));generalize (w2.alloc (.cells (zq qc) zp)).setRow w2.heap.size (zq x)=W3 at*;obtain⟨hR,hz,hasc,hlen⟩:=HX.out x Hx.out;have HB3:=za (bt HB2.out hL1);have HBx:Hid (∀W,Below W3.heap.size W3 W->W.heap[w2.heap.size]? =some (.cells (zq x) zp (0,0))):=za fun W hW=>(hW.block _ (zh hL2)).trans hL2;have HG:=za (Calls.mono (KL x.ats.A x.ats.c x.ats.l UW W3 ((HDn.out.keep hL1).row) zb) fun _ _ h=>Mq h);have HPa:Hid (∀W,Below W3.heap.size W3 W->Calls prog 229 #[.string (qF x.ats.l (L UW))] W (Ra (qF x.ats.l (L UW)) W)):=za fun W hW=>zeQ _ W (HE.out.go (bt HB3.out hW)) (fun _=>hasc) hz;have hcS:VU x.d=if x.kd=2 then(match GS (qF x.ats.l (L UW))with
  |some (u,i,l)=>zL (zL (zL [] LX u) Dn i) AG l
  |none=>[])else []:=rfl
 have hRe:=hR.trans hcS;unfold GS at hRe;generalize qF x.ats.l (L UW)=v at*;have hwl:w2.heap.size<W3.heap.size:=zh hL2;obtain⟨⟨c0,c1,c2,c3,c4,c5,c6,c7,c8,c9⟩,_⟩:=Xi hL2;have HRe:=za hRe;clear hRe;clear hL1 hL2 HX hR hz hasc hlen hrow HF H0 hcS c0 c1 c2 c3 c4 c5 c6 c8;go_upto_region 4 with(first
  |(go_at_call 33;refine HG.out.mono ?_;rintro e w4 ⟨rfl,hb4⟩;have HB4:=za hb4;clear hb4)
  |(go_at_call 229;refine(HPa.out _ HB4.out).mono ?_;rintro e w5 ⟨f,CA,cc,er,rfl,hp,hb5⟩;have hb6:=bt HB4.out hb5;have hwl5:=Nat.lt_of_lt_of_le hwl hb6.size;obtain⟨⟨_,_,_,_,_,_,_,k7,_,_⟩,_⟩:=Xi (HBx.out _ hb6);have HB5:=za hb6;have HPp:=za hp;clear hb5 hb6 hp))
 have hBe:=zV (o:=.cells #[.int .i64 f.kd,.string f.id,.string f.lab,.int .i64 f.s,.int .i64 f.t,.int .i64 f.e,.slice CA f.n cc] zy) (bt HB3.out HB5.out);have hNil:R=[]->Yl w R (.returned (.slice none 0 0)) (w5.alloc (.cells #[.int .i64 f.kd,.string f.id,.string f.lab,.int .i64 f.s,.int .i64 f.t,.int .i64 f.e,.slice CA f.n cc] zy)):=fun e=>by rw[e];exact⟨none,0,rfl,zB.empty,hBe⟩
 have HNil:=za hNil;have HBe:=za hBe;clear hNil hBe c7 c9;by_cases hk:x.kd=2
 · have hr:=HRe.out;rw[if_pos hk]at hr;rcases HPp.out with⟨rfl,hp⟩|⟨he,hp⟩
   · rw [hp]at hr;dsimp only at hr;have hrg:=Bw hp;obtain⟨fk,fi,fl,fs,ft,fe,fn⟩:=f;dsimp only at*;by_cases h0:fk=0
     · subst h0;rw[if_pos rfl]at hr;have HE2:=za (HNil.out hr);clear hr hp;exact NC
     · rw[if_neg h0]at hr;dsimp only at hr;have h0b:(fk==0)=false:=beq_eq_false_iff_ne.2 h0;have HR2:=za hr;clear hr hp HRe HPp;go_upto_region 6 with fail
       have hcb:=heap_alloc_new w5 (.cells #[.int .i64 fk,.string fi,.string fl,.int .i64 fs,.int .i64 ft,.int .i64 fe,.slice CA fn cc] zy);change Code.wp _ _ _ _ (w5.alloc (.cells #[.int .i64 fk,.string fi,.string fl,.int .i64 fs,.int .i64 ft,.int .i64 fe,.slice CA fn cc] zy));generalize w5.alloc (.cells #[.int .i64 fk,.string fi,.string fl,.int .i64 fs,.int .i64 ft,.int .i64 fe,.slice CA fn cc] zy)=W6 at*;have HCl:Hid (∀W,Below W6.heap.size W6 W->W.cell? ⟨w5.heap.size,0,none⟩=some (.int .i64 fk)/\W.cell? ⟨w5.heap.size,1,none⟩=some (.string fi)/\W.cell? ⟨w5.heap.size,2,none⟩=some (.string fl)):=za fun W hW=>by
        have h2:=(hW.block _ (zh hcb)).trans hcb;exact⟨zd h2 rfl,zd h2 rfl,zd h2 rfl⟩
       have hl6:=zh hcb;obtain⟨q0,q1,q2⟩:=HCl.out W6 zk;clear hcb
       go_region_held3 (fun W'=>W'.cell? ⟨w5.heap.size,0,none⟩=some (.int .i64 fk)/\W'.cell? ⟨w5.heap.size,1,none⟩=some (.string fi)/\W'.cell? ⟨w5.heap.size,2,none⟩=some (.string fl)) ((refine HCl.out _ ?_;first|exact hB9|exact hB8|exact hB7|exact hBa|exact zU zk)) (first
        |(go_at_call 89;refine(YF (n:=2) _ _ _ (by first|exact l8|exact l8.dr) zb).mono ?_;rintro e w9 ⟨A9,c9,N9,rfl,l9,hb9⟩;have hB9:=bt hB8 hb9)
        |(go_at_call 89;refine(YF (n:=1) _ _ _ (by first|exact l7|exact l7.dr) zb).mono ?_;rintro e w8 ⟨A8,c8,N8,rfl,l8,hb8⟩;have hB8:=bt hB7 hb8)
        |(go_at_call 89;refine(YF (n:=0) _ _ _ (Qy.nil _) zb).mono ?_;rintro e w7 ⟨A7,c7,N7,rfl,l7,hb7⟩;have hB7:=bt hBa hb7)
        |(go_at_call 230;refine(Bq _).mono ?_;rintro e wa ⟨M,mn,rfl,hM,hba⟩;have hBa:Below W6.heap.size W6 wa:=bt (zU zk) hba;have hlk:=zin hM (z:=fk) zb zb))
       have HEnd:Hid (Yl w R (.returned (.slice A9 N9 c9)) w9):=za (by rw[HR2.out];exact l9.outL (bt HBe.out hB9));clear l9 l8 l7 hb9 hb8 hb7 hB9 hB8 hB7 hBa hba hM hlk;go_wp2;go_ret;exact HEnd.out
   · rw[hp]at hr;have HE2:=za (HNil.out hr);have heb:(er==0)=false:=beq_eq_false_iff_ne.2 he;clear hr hp;exact NC
 · have hr:=HRe.out;rw[if_neg hk]at hr;have HE2:=za (HNil.out hr);have hkb:(x.kd==2)=false:=beq_eq_false_iff_ne.2 hk;clear hr;exact NC
end
section
open Go.RowKit Go.Shelf Go.Maps
abbrev G3:Array Value:=#[.string UH,.string Y5,.string UA,.string VJ,.string Xu,.string Uw,.string VZ,.string XZ,.string Ui]
def K6(a:List At):Nat->Option ByteArray
 |0=>(zR a (L UA)).map (·.val)
 |1=>(zR a (L Uw)).map (·.val)
 |_=>(zR a (L Ui)).map fun x=>bs (Lib.replaceAll (L x.val) [58] [])
def UO(a:List At):Nat->List At
 |0=>[]
 |1=>YI [] UH Y5 (K6 a 0)
 |2=>YI (YI [] UH Y5 (K6 a 0)) VJ Xu (K6 a 1)
 |_=>YI (YI (YI [] UH Y5 (K6 a 0)) VJ Xu (K6 a 1)) VZ XZ (K6 a 2)
theorem Rt(l:List At)(k p:ByteArray)(a:List At)(n:ze)(F:ByteArray->ByteArray):YI l k p ((zR a n).map fun x=>F x.val)=if(zR a n).isSome&&XY (L (p++F (qF a n)))then zL l k (p++F (qF a n))else l:=by
 unfold YI qF;cases zR a n with
 |none=>rfl
 |some y=>rfl
theorem O8{a:List At}(h:∀y∈a,y.val.size<=1000)(n:ze):(qF a n).size<=1000:=by
 unfold qF;cases hf:zR a n with
 |none=>exact Nat.zero_le _
 |some y=>exact h y (List.mem_of_find?_eq_some hf)
theorem Qy.up{w:World}{A:Option Addr}{c N n:Nat}{l:List At}(h:Qy w A c N n l):Qy w A c N (n+1) l:=⟨h.len,h.row,h.asc,Nat.le_succ_of_le h.le⟩
theorem Re{wr W:World}{a b c:Value}{T:TypeId}(hW:Below (wr.alloc (.cells #[a,b,c] T)).heap.size (wr.alloc (.cells #[a,b,c] T)) W):W.cell? ⟨wr.heap.size,0,none⟩=some a/\W.cell? ⟨wr.heap.size,1,none⟩=some b/\W.cell? ⟨wr.heap.size,2,none⟩=some c/\wr.heap.size<W.heap.size:=by
 have h:=(hW.block _ (zh (heap_alloc_new wr (.cells #[a,b,c] T)))).trans (heap_alloc_new wr (.cells #[a,b,c] T));exact⟨zd h rfl,zd h rfl,zd h rfl,zh h⟩
theorem zhO(v:ByteArray)(h:v.size<=1000):(bs (Lib.replaceAll (L v) [58] [])).size<=1000:=by
 rw[qY,Ts (L v) 58 [] zi];have h1:∀s:ze,(s.flatMap fun b=>if b=58 then []else [b]).length<=s.length:=fun s=>by
  induction s with
  |nil=>exact zo
  | cons b s ih=>
    have h2:(if b=58 then([]:ze)else [b]).length<=1:=by split<;>simp
    rw[List.flatMap_cons,List.length_append,List.length_cons];omega
 have:=h1 (L v);rw[zC]at this;omega
theorem zcG(A:Option Addr)(c:Nat)(ds:List Dv)(n:Int)(w:World)(h:qk w A ds)(hE:Env w)(ha:∀d∈zm ds,∀y∈d.ats,y.val.size<=1000):
 Calls prog 193 #[zT A ds c,.int .i64 n] w (Yl w (match qa (zm ds) n with|some d=>KB d|none=>[])):=by
 obtain⟨w1,hw1⟩:∃w1,w.alloc (.cells #[.slice A ds.length c] 30)=w1:=⟨_,rfl⟩;have hb1:Below w.heap.size w w1:=ZV;have HF:=za (Calls.mono (V0 A c ds n w1 (h.keep hb1)) fun _ _ h=>vJ h);have HB1:=za hb1;have HE:=za hE;have HW:=za hw1;have h0:w1.heap[w.heap.size]? =some (.cells #[.slice A ds.length c] 30 (0,0)):=Qc;have H0:=za h0;have hX:∀x:Dv,x.d=(qa (zm ds) n).getD qc.d->(match qa (zm ds) n with|some d=>KB d|none=>[])=(if x.kd=4 then UO x.ats.l 3 else [])/\(∀y∈x.ats.l,y.val.size<=1000)/\x.ats.l.length<=1000:=fun x hx=>by
  cases hf:qa (zm ds) n with
  | none=>
    rw[hf]at hx;have e1:x.ats.l=[]:=congrArg Dd.ats hx;have e2:x.kd=0:=congrArg Dd.kd hx;rw[e1,e2];exact⟨rfl,(fun y hy=>J2),Nat.zero_le _⟩
  | some d=>
    rw[hf]at hx;have hm:=(XE hf).1;obtain⟨z,hz,e2⟩:=List.mem_map.1 hm;have e1:x.ats.l=d.ats:=congrArg Dd.ats hx;have e3:x.kd=d.kd:=congrArg Dd.kd hx;rw[e1,e3];exact⟨rfl,ha d hm,by rw[<-e2];exact h.al z hz⟩
 generalize (match qa (zm ds) n with|some d=>KB d|none=>[])=R at*;generalize (qa (zm ds) n).getD qc.d=d0 at*;have HX:=za hX;clear hX ha h hb1 h0 hw1 hE;unfold zT at*;generalize ds.length=N at*;go_enter func193,ntmps193;go_upto_region 1 with fail
 rw[HW.out];go_upto_region 2 with(first
  |(go_at_call 9;refine HF.out.mono ?_;rintro e w2 ⟨x,b,rfl,hx,hn,hb2⟩;have Hx:=za hx;have HDn:=za hn;clear hx hn;have HB2:=za (bt HB1.out hb2);have hrow:=heap_alloc_new w2 (.cells (zq qc) zp);have HL:=za (kD w2 x);clear hb2)
  |(refine wpList_load_row rfl 30 _ rfl _ rfl _ _ _ _ H0.out underlying30 rfl Jx ?_)
  |(refine wpList_store_row rfl 43 _ _ rfl _ _ rfl rfl _ _ hrow Zh rfl qJ ?_))
 obtain⟨hL1,hL2⟩:=HL.out;change Code.wp _ _ _ _ ((w2.alloc (.cells (zq qc) zp)).setRow w2.heap.size (zq x));generalize (w2.alloc (.cells (zq qc) zp)).setRow w2.heap.size (zq x)=W3 at*;obtain⟨hR,hz,hlen⟩:=HX.out x Hx.out;have HB3:=za (bt HB2.out hL1);have HBx:Hid (∀W,Below W3.heap.size W3 W->W.heap[w2.heap.size]? =some (.cells (zq x) zp (0,0))):=za fun W hW=>(hW.block _ (zh hL2)).trans hL2;have HG:Hid (∀nm W,Below W3.heap.size W3 W->Calls prog 33 #[.slice x.ats.A x.ats.l.length x.ats.c,.string nm] W (Vd (zR x.ats.l (L nm)) W)):=za fun nm W hW=>KL x.ats.A x.ats.c x.ats.l nm W ((HDn.out.keep (bt hL1 hW)).row) zb;have hwl:w2.heap.size<W3.heap.size:=zh hL2;obtain⟨⟨c0,c1,c2,c3,c4,c5,c6,c7,c8,c9⟩,_⟩:=Xi hL2;clear hL1 hL2 HX hlen hrow HF H0 c0 c1 c2 c3 c4 c5 c6 c8;by_cases hk:x.kd=4
 · rw [if_pos hk]at hR;have HR:=za hR;have HZ:=za hz;clear hR hz;go_upto_region 6 with fail
   have hcb:=heap_alloc_new W3 (.cells G3 294);have hb4:=zI W3 (.cells G3 294);change Code.wp _ _ _ _ (W3.alloc (.cells G3 294));generalize W3.alloc (.cells G3 294)=W4 at*;have HN:Hid (∀W,Below W4.heap.size W4 W->(W.heap[W3.heap.size]? =some (.cells G3 294 (0,0)))/\W.heap[w2.heap.size]? =some (.cells (zq x) zp (0,0))/\Below W3.heap.size W3 W):=za fun W hW=>⟨(hW.block _ (zh hcb)).trans hcb,HBx.out W (bt hb4 hW),bt hb4 hW⟩;have HE4:=za (fun W (hW:Below W4.heap.size W4 W)=>HE.out.go (bt HB3.out (bt hb4 hW)));have HB4:=za (bt HB3.out hb4);have hwl4:w2.heap.size<W4.heap.size:=Nat.lt_of_lt_of_le hwl hb4.size;have hgl4:W3.heap.size<W4.heap.size:=zh hcb;clear hcb hb4 c7 c9 hwl hk;go_loopg [7,26] 3 (fun gk s7 s26 wr=>∃(k:Nat) (LA:Option Addr) (lc LN:Nat),s26=.int .i64 k/\s7=.slice LA LN lc/\k+gk=3/\Hid (Qy wr LA lc LN k (UO x.ats.l k))/\Hid (Below W4.heap.size W4 wr))
   case atStart=>exact⟨0,none,0,0,rfl,rfl,rfl,za (Qy.nil _),za zk⟩
   case round=>
    obtain⟨k,LA,lc,LN,rfl,rfl,hkg,HL,HB⟩:=hrel;obtain⟨h1,h2,hb3⟩:=HN.out wr HB.out;have hz1:=HB.out.size;obtain⟨⟨_,_,_,_,_,_,_,_,_,d9⟩,_⟩:=Xi h2;have q0:wr.cell? ⟨W3.heap.size,0,none⟩=some (.string UH):=zd h1 rfl;have q1:wr.cell? ⟨W3.heap.size,1,none⟩=some (.string Y5):=zd h1 rfl;have q2:wr.cell? ⟨W3.heap.size,2,none⟩=some (.string UA):=zd h1 rfl;have q3:wr.cell? ⟨W3.heap.size,3,none⟩=some (.string VJ):=zd h1 rfl;have q4:wr.cell? ⟨W3.heap.size,4,none⟩=some (.string Xu):=zd h1 rfl;have q5:wr.cell? ⟨W3.heap.size,5,none⟩=some (.string Uw):=zd h1 rfl;have q6:wr.cell? ⟨W3.heap.size,6,none⟩=some (.string VZ):=zd h1 rfl;have q7:wr.cell? ⟨W3.heap.size,7,none⟩=some (.string XZ):=zd h1 rfl;have q8:wr.cell? ⟨W3.heap.size,8,none⟩=some (.string Ui):=zd h1 rfl;have hl1:w2.heap.size<wr.heap.size:=zb;have hl2:W3.heap.size<wr.heap.size:=zb;have HB3r:=za hb3;clear h1 h2 hb3;have hk3:k<=3:=zb;rcases(show k=0∨k=1∨k=2∨k=3 by omega)with rfl|rfl|rfl|rfl
    · have hg:=fun W hW=>Calls.mono (HG.out UA W hW) fun _ _ h=>Mq h;have hnx:=Rt (UO x.ats.l 0) UH Y5 x.ats.l (L UA) id;have hvz:=O8 HZ.out (L UA);generalize qF x.ats.l (L UA)=v at*;generalize (zR x.ats.l (L UA)).isSome=ok at*;have hvz2:=hvz;have HRp:True:=trivial;obtain⟨u,hu⟩:∃u,u=v:=⟨_,rfl⟩;rw[id_eq,<-hu]at hnx;rw[<-hu]at hvz2;subst hu;have hsz:(Y5++u).size<=1000000:=R4;have HI:=za fun W=>Nq (Y5++u) W hsz;have HS:=za fun(W:World) (A:Option Addr) (c N:Nat) (h:Qy W A c N 0 (UO x.ats.l 0))=>YF UH (Y5++u) W h zb;have hadd:(9223372036854775807<(Y5:ByteArray).size+u.size)=False:=eq_false Pp;change UO x.ats.l 1=_ at hnx;generalize XY (L (Y5++u))=bI at*;have HBo:Hid (∀W,Below (wr.alloc (.cells #[.string UH,.string Y5,.string UA] 294)).heap.size (wr.alloc (.cells #[.string UH,.string Y5,.string UA] 294)) W->W.cell? ⟨wr.heap.size,0,none⟩=some (.string UH)/\W.cell? ⟨wr.heap.size,1,none⟩=some (.string Y5)/\W.cell? ⟨wr.heap.size,2,none⟩=some (.string UA)/\wr.heap.size<W.heap.size):=za fun W hW=>Re hW;have HNx:=za hnx;have HGk:=za hg;clear hg hnx hvz hsz;cases ok<;>cases bI
      all_goals
       go_wp2_with (first
        |(go_at_call 89;refine(HS.out _ _ _ _ (HL.out.keep HBq.out)).mono ?_;rintro e w9 ⟨A9,c9,N9,rfl,l9,hb9⟩;have HL9:=za l9;have HBq:=za (bt HBq.out hb9);clear l9 hb9)
        |(go_at_call 167;refine(HI.out _).mono ?_;rintro e w8 ⟨rfl,hb8⟩;obtain⟨z0,z1,z2,z3⟩:=HBo.out _ (bt HBb.out hb8);have HBb:=za (bt HBb.out hb8);have HBq:=za (bt HBq.out hb8);clear hb8)
        |(go_at_call 66;refine(HRp.out _ (HE4.out _ (bt HB.out HBq.out))).mono ?_;rintro e w7 ⟨rfl,hb7⟩;obtain⟨z0,z1,z2,z3⟩:=HBo.out _ (bt HBb.out hb7);have HBb:=za (bt HBb.out hb7);have HBq:=za (bt HBq.out hb7);clear hb7)
        |(go_at_call 33;refine(HGk.out _ (bt HB3r.out zw)).mono ?_;rintro e w6 ⟨rfl,hb6⟩;obtain⟨z0,z1,z2,z3⟩:=HBo.out _ hb6;have HBb:=za hb6;have HBq:=za (bt zw hb6);clear hb6))
       go_roundg (gk - 1)
       case measure=>omega
       case rel=>first
        |exact⟨1,A9,c9,N9,VQ,rfl,zb,za PJ,za (bt HB.out HBq.out)⟩
        |exact⟨1,LA,lc,LN,VQ,rfl,zb,za jH,za (bt HB.out HBq.out)⟩
    · have hg:=fun W hW=>Calls.mono (HG.out Uw W hW) fun _ _ h=>Mq h;have hnx:=Rt (UO x.ats.l 1) VJ Xu x.ats.l (L Uw) id;have hvz:=O8 HZ.out (L Uw);generalize qF x.ats.l (L Uw)=v at*;generalize (zR x.ats.l (L Uw)).isSome=ok at*;have hvz2:=hvz;have HRp:True:=trivial;obtain⟨u,hu⟩:∃u,u=v:=⟨_,rfl⟩;rw[id_eq,<-hu]at hnx;rw[<-hu]at hvz2;subst hu;have hsz:(Xu++u).size<=1000000:=R4;have HI:=za fun W=>Nq (Xu++u) W hsz;have HS:=za fun(W:World) (A:Option Addr) (c N:Nat) (h:Qy W A c N 1 (UO x.ats.l 1))=>YF VJ (Xu++u) W h zb;have hadd:(9223372036854775807<(Xu:ByteArray).size+u.size)=False:=eq_false Pp;change UO x.ats.l 2=_ at hnx;generalize XY (L (Xu++u))=bI at*;have HBo:Hid (∀W,Below (wr.alloc (.cells #[.string VJ,.string Xu,.string Uw] 294)).heap.size (wr.alloc (.cells #[.string VJ,.string Xu,.string Uw] 294)) W->W.cell? ⟨wr.heap.size,0,none⟩=some (.string VJ)/\W.cell? ⟨wr.heap.size,1,none⟩=some (.string Xu)/\W.cell? ⟨wr.heap.size,2,none⟩=some (.string Uw)/\wr.heap.size<W.heap.size):=za fun W hW=>Re hW;have HNx:=za hnx;have HGk:=za hg;clear hg hnx hvz hsz;cases ok<;>cases bI
      all_goals
       go_wp2_with (first
        |(go_at_call 89;refine(HS.out _ _ _ _ (HL.out.keep HBq.out)).mono ?_;rintro e w9 ⟨A9,c9,N9,rfl,l9,hb9⟩;have HL9:=za l9;have HBq:=za (bt HBq.out hb9);clear l9 hb9)
        |(go_at_call 167;refine(HI.out _).mono ?_;rintro e w8 ⟨rfl,hb8⟩;obtain⟨z0,z1,z2,z3⟩:=HBo.out _ (bt HBb.out hb8);have HBb:=za (bt HBb.out hb8);have HBq:=za (bt HBq.out hb8);clear hb8)
        |(go_at_call 66;refine(HRp.out _ (HE4.out _ (bt HB.out HBq.out))).mono ?_;rintro e w7 ⟨rfl,hb7⟩;obtain⟨z0,z1,z2,z3⟩:=HBo.out _ (bt HBb.out hb7);have HBb:=za (bt HBb.out hb7);have HBq:=za (bt HBq.out hb7);clear hb7)
        |(go_at_call 33;refine(HGk.out _ (bt HB3r.out zw)).mono ?_;rintro e w6 ⟨rfl,hb6⟩;obtain⟨z0,z1,z2,z3⟩:=HBo.out _ hb6;have HBb:=za hb6;have HBq:=za (bt zw hb6);clear hb6))
       go_roundg (gk - 1)
       case measure=>omega
       case rel=>first
        |exact⟨2,A9,c9,N9,VQ,rfl,zb,za PJ,za (bt HB.out HBq.out)⟩
        |exact⟨2,LA,lc,LN,VQ,rfl,zb,za jH,za (bt HB.out HBq.out)⟩
    · have hg:=fun W hW=>Calls.mono (HG.out Ui W hW) fun _ _ h=>Mq h;have hnx:=Rt (UO x.ats.l 2) VZ XZ x.ats.l (L Ui) (fun v=>bs (Lib.replaceAll (L v) [58] []));have hvz:=O8 HZ.out (L Ui);generalize qF x.ats.l (L Ui)=v at*;generalize (zR x.ats.l (L Ui)).isSome=ok at*;have HRp:=za fun W (hW:Env W)=>OI v ⟨#[]⟩ 58 W hW.toEnv0 zb zi;have hvz2:=zhO v hvz;change Hid (∀W,_->Calls _ _ _ W fun e w'=>e=.returned (.string (bs (Lib.replaceAll (L v) [58] [])))/\_)at HRp;generalize bs (Lib.replaceAll (L v) [58] [])=u at*;have hsz:(XZ++u).size<=1000000:=R4;have HI:=za fun W=>Nq (XZ++u) W hsz;have HS:=za fun(W:World) (A:Option Addr) (c N:Nat) (h:Qy W A c N 2 (UO x.ats.l 2))=>YF VZ (XZ++u) W h zb;have hadd:(9223372036854775807<(XZ:ByteArray).size+u.size)=False:=eq_false Pp;change UO x.ats.l 3=_ at hnx;generalize XY (L (XZ++u))=bI at*;have HBo:Hid (∀W,Below (wr.alloc (.cells #[.string VZ,.string XZ,.string Ui] 294)).heap.size (wr.alloc (.cells #[.string VZ,.string XZ,.string Ui] 294)) W->W.cell? ⟨wr.heap.size,0,none⟩=some (.string VZ)/\W.cell? ⟨wr.heap.size,1,none⟩=some (.string XZ)/\W.cell? ⟨wr.heap.size,2,none⟩=some (.string Ui)/\wr.heap.size<W.heap.size):=za fun W hW=>Re hW;have HNx:=za hnx;have HGk:=za hg;clear hg hnx hvz hsz;cases ok<;>cases bI
      all_goals
       go_wp2_with (first
        |(go_at_call 89;refine(HS.out _ _ _ _ (HL.out.keep HBq.out)).mono ?_;rintro e w9 ⟨A9,c9,N9,rfl,l9,hb9⟩;have HL9:=za l9;have HBq:=za (bt HBq.out hb9);clear l9 hb9)
        |(go_at_call 167;refine(HI.out _).mono ?_;rintro e w8 ⟨rfl,hb8⟩;obtain⟨z0,z1,z2,z3⟩:=HBo.out _ (bt HBb.out hb8);have HBb:=za (bt HBb.out hb8);have HBq:=za (bt HBq.out hb8);clear hb8)
        |(go_at_call 66;refine(HRp.out _ (HE4.out _ (bt HB.out HBq.out))).mono ?_;rintro e w7 ⟨rfl,hb7⟩;obtain⟨z0,z1,z2,z3⟩:=HBo.out _ (bt HBb.out hb7);have HBb:=za (bt HBb.out hb7);have HBq:=za (bt HBq.out hb7);clear hb7)
        |(go_at_call 33;refine(HGk.out _ (bt HB3r.out zw)).mono ?_;rintro e w6 ⟨rfl,hb6⟩;obtain⟨z0,z1,z2,z3⟩:=HBo.out _ hb6;have HBb:=za hb6;have HBq:=za (bt zw hb6);clear hb6))
       go_roundg (gk - 1)
       case measure=>omega
       case rel=>first
        |exact⟨3,A9,c9,N9,VQ,rfl,zb,za PJ,za (bt HB.out HBq.out)⟩
        |exact⟨3,LA,lc,LN,VQ,rfl,zb,za jH,za (bt HB.out HBq.out)⟩
    · have HEnd:Hid (Yl w R (.returned (.slice LA LN lc)) wr):=za (by rw[HR.out];exact HL.out.outL (bt HB4.out HB.out));clear q0 q1 q2 q3 q4 q5 q6 q7 q8 d9;go_wp2;go_ret;exact HEnd.out
 · rw[if_neg hk]at hR;have hkb:(x.kd==4)=false:=beq_eq_false_iff_ne.2 hk;have HE2:Hid (Yl w R (.returned (.slice none 0 0)) W3):=za (by rw[hR];exact⟨none,0,rfl,zB.empty,HB3.out⟩);clear hR;exact NC
end
section
open Go.RowKit Go.Shelf Go.Maps
abbrev R7:TypeId:=225
abbrev fP:Value:=.func (.func 191) #[] #[]
abbrev fC:Value:=.func (.func 192) #[] #[]
abbrev fN:Value:=.func (.func 193) #[] #[]
open Classical in
noncomputable def XX(v:Value):Option (DW×List MemPlace):=if v=fP then some (.lit (.int .i64 1),[])else if v=fC then some (.lit (.int .i64 2),[])else if v=fN then some (.lit (.int .i64 3),[])else if v=.nilFunc then some (.lit (.int .i64 0),[])else none
theorem zdM:XX fP=some (.lit (.int .i64 1),[]):=by unfold XX;rw[if_pos rfl]
theorem zhw:XX fC=some (.lit (.int .i64 2),[]):=by unfold XX;rw[if_neg zl,if_pos rfl]
theorem zaG:XX fN=some (.lit (.int .i64 3),[]):=by unfold XX;rw[if_neg zl,if_neg zl,if_pos rfl]
theorem zhj:XX .nilFunc=some (.lit (.int .i64 0),[]):=by unfold XX;rw[if_neg zl,if_neg zl,if_neg zl,if_pos rfl]
theorem IL{v:Value}{k:Int}{ps:List MemPlace}(h:XX v=some (.lit (.int .i64 k),ps)):(k=1->v=fP)/\(k=2->v=fC)/\(k=3->v=fN)/\(k=0->v=.nilFunc):=by
 unfold XX at h
 split at h
 · rename_i e;simp at h;subst e;refine⟨fun _=>rfl,fun e=>?_,fun e=>?_,fun e=>?_⟩<;>omega
 split at h
 · rename_i e;simp at h;subst e;refine⟨fun e=>?_,fun _=>rfl,fun e=>?_,fun e=>?_⟩<;>omega
 split at h
 · rename_i e;simp at h;subst e;refine⟨fun e=>?_,fun e=>?_,fun _=>rfl,fun e=>?_⟩<;>omega
 split at h
 · rename_i e;simp at h;subst e;refine⟨fun e=>?_,fun e=>?_,fun e=>?_,fun _=>rfl⟩<;>omega
 · cases h
abbrev K2(W:World)(b n:Nat)(D:DW):Prop:=W.ownsMap prog 9 XX b n D
abbrev VR:ze:=[112,97,116,104]
abbrev kF:ze:=[99,111,110,116,101,110,116]
abbrev K4:ze:=[110,101,116]
abbrev KF:DW:=(((DataW.map []).put (.string VR) (.lit (.int .i64 1))).put (.string kF) (.lit (.int .i64 2))).put (.string K4) (.lit (.int .i64 3))
theorem zbn(n:ze)(z:DW):KF.atKey (.string n) z=if n=K4 then .lit (.int .i64 3)else if n=kF then .lit (.int .i64 2)else if n=VR then .lit (.int .i64 1)else z:=by
 have t1:Tidy ((DataW.map []:DW).put (.string VR) (.lit (.int .i64 1))):=tidy_empty.put (GP _) _;have t2:=t1.put (GP kF) (.lit (.int .i64 2));by_cases h3:n=K4
 · rw[if_pos h3,h3];exact atKey_put_same t2.isMap (GP _) _ _
 rw[if_neg h3];refine(atKey_put_other (T8 h3) _ _).trans ?_;by_cases h2:n=kF
 · rw[if_pos h2,h2];exact atKey_put_same t1.isMap (GP _) _ _
 rw[if_neg h2];refine(atKey_put_other (T8 h2) _ _).trans ?_;by_cases h1:n=VR
 · rw[if_pos h1,h1];exact atKey_put_same tidy_empty.isMap (GP _) _ _
 rw[if_neg h1];exact atKey_put_other (T8 h1) _ _
theorem Oz{W:World}{M n:Nat}{D:DW}(h:K2 W M n D)(hn:n<100)(s:ByteArray)(hs:s.size<=1000)(v:Value)(k:Int)(hv:XX v=some (.lit (.int .i64 k),[])):
 ∃W',(Instr.mapUpdate R7 (.map (some M)) (.string s) v).run prog W=.ok () W'/\K2 W' M (n+1) (D.put (.string (L s)) (.lit (.int .i64 k)))/\W.grownBy W' (some M):=
 World.ownsMap.update h (string_keyed underlying9) underlying225 qi (WideMaps.keyOf_string_mk (P:=prog) underlying9 (s:=s) qi) hv
theorem zdY(w:World):Calls prog 158 #[] w fun e w'=>∃M n,e=.returned (.map (some M))/\K2 w' M n KF/\Below w.heap.size w w':=by
 have hm:=run_makeMap (P:=prog) R7 w;have h0:K2 (w.alloc (.map #[] 0)) w.heap.size 0 (.map []):=World.ownsMap_made _ _ _ _;obtain⟨w1,e1,h1,g1⟩:=Oz h0 zi ⟨#[112,97,116,104]⟩ zi fP 1 zdM;obtain⟨w2,e2,h2,g2⟩:=Oz h1 zi ⟨#[99,111,110,116,101,110,116]⟩ zi fC 2 zhw;obtain⟨w3,e3,h3,g3⟩:=Oz h2 zi ⟨#[110,101,116]⟩ zi fN 3 zaG;have HEnd:Hid (K2 w3 w.heap.size 3 KF/\Below w.heap.size w w3):=za ⟨h3,by
  have g:=(g1.trans g2).trans g3;exact(zI w (.map #[] 0)).grown g (zI w (.map #[] 0)).size (fun j e=>Zr)⟩
 clear h0 h1 h2 h3 g1 g2 g3;go_enter func158,ntmps158;go_wp2;go_ret;exact⟨_,3,rfl,HEnd.out⟩
theorem So{W:World}{M n:Nat}(h:K2 W M n KF)(s:ByteArray)(hs:s.size<=1000000):
 ∃v b,(Instr.lookup R7 (.map (some M)) (.string s) true).run prog W=.ok (.tuple #[v,.bool b]) W/\((L s=VR/\v=fP/\b=true)∨(L s≠VR/\L s=kF/\v=fC/\b=true)∨(L s≠VR/\L s≠kF/\L s=K4/\v=fN/\b=true)∨(L s≠VR/\L s≠kF/\L s≠K4/\v=.nilFunc/\b=false)):=by
 obtain⟨v,ps,hrun,hv⟩:=World.ownsMap.look_ok h (string_keyed underlying9) underlying225 (zeroValue223 W) zhj (WideMaps.keyOf_string_mk (P:=prog) underlying9 (s:=s) qi);change XX v=some (KF.atKey (.string (L s)) (.lit (.int .i64 0)),ps)at hv;refine⟨v,_,hrun,?_⟩;have hat:=zbn (L s);have hh:∀(y:DW),(∀z,KF.atKey (.string (L s)) z=y)->Maps.has KF (.string (L s))=true:=fun y h=>has_true_of_atKey h;rw[hat]at hv;by_cases h1:L s=VR
 · rw[h1,if_neg zi,if_neg zi,if_pos rfl]at hv;exact Or.inl ⟨h1,(IL hv).1 rfl,hh _ fun z=>by rw[hat,h1,if_neg zi,if_neg zi,if_pos rfl]⟩
 by_cases h2:L s=kF
 · rw[h2,if_neg zi,if_pos rfl]at hv;exact Or.inr (Or.inl ⟨h1,h2,(IL hv).2.1 rfl,hh _ fun z=>by rw[hat,h2,if_neg zi,if_pos rfl]⟩)
 by_cases h3:L s=K4
 · rw[h3,if_pos rfl]at hv;exact Or.inr (Or.inr (Or.inl ⟨h1,h2,h3,(IL hv).2.2.1 rfl,hh _ fun z=>by rw[hat,h3,if_pos rfl]⟩))
 · rw[if_neg h3,if_neg h2,if_neg h1]at hv;exact Or.inr (Or.inr (Or.inr ⟨h1,h2,h3,(IL hv).2.2.2 rfl,has_false_of_atKey fun z=>by rw[hat,if_neg h3,if_neg h2,if_neg h1]⟩))
theorem zja(A:Option Addr)(c:Nat)(ds:List Dv)(n:Int)(nm:ByteArray)(w:World)(h:qk w A ds)(hi:∀d∈zm ds,Xb d/\d.sb.size<=1000)(hwf:QM (zm ds))(r1: -9223372036854775808<=n)(r2:n<=9223372036854775807)(hE:Env w)(hU:KA w)(ha:∀d∈zm ds,∀y∈d.ats,y.val.size<=1000/\∀b∈L y.val,b.toNat<128)(hs:nm.size<=1000000):
 Calls prog 123 #[.string nm,zT A ds c,.int .i64 n] w (Yl w (Yg nm (zm ds) n)):=by
 obtain⟨w1,hw1⟩:∃w1,w.alloc (.cells #[.slice A ds.length c] 30)=w1:=⟨_,rfl⟩;have hb1:Below w.heap.size w w1:=ZV;have h0:w1.heap[w.heap.size]? =some (.cells #[.slice A ds.length c] 30 (0,0)):=Qc;have hEu:∀W,Below w.heap.size w W->KA W:=fun W hW=>hU.go hW;have HP:=za fun W (hW:Below w.heap.size w W)=>zer A c ds n W (h.keep hW) hi hwf r1 r2 (hEu W hW);obtain⟨RC,hRC⟩:∃X,(match qa (zm ds) n with|some d=>VU d|none=>[])=X:=⟨_,rfl⟩;obtain⟨RN,hRN⟩:∃X,(match qa (zm ds) n with|some d=>KB d|none=>[])=X:=⟨_,rfl⟩;have hC:∀W,Below w.heap.size w W->Calls prog 192 #[zT A ds c,.int .i64 n] W (Yl W RC):=fun W hW=>by rw[<-hRC];exact zh9 A c ds n W (h.keep hW) (hE.go hW) (fun d hd y hy=>⟨Nat.le_trans (ha d hd y hy).1 zi,(ha d hd y hy).2⟩)
 have hN:∀W,Below w.heap.size w W->Calls prog 193 #[zT A ds c,.int .i64 n] W (Yl W RN):=fun W hW=>by rw[<-hRN];exact zcG A c ds n W (h.keep hW) (hE.go hW) (fun d hd y hy=>(ha d hd y hy).1)
 have HC:=za hC;have HN:=za hN;have HB1:=za hb1;have H0:=za h0;have HW:=za hw1;obtain⟨R,hR⟩:∃R,Yg nm (zm ds) n=R:=⟨_,rfl⟩;rw[hR];unfold Yg at hR;have HR:=za hR;have HRC:=za hRC;have HRN:=za hRN;clear hC hN hRC hRN hR h hi hwf r1 r2 hE hU ha hb1 h0 hw1 hEu;unfold zT at*;generalize ds.length=N at*;go_enter func123,ntmps123;go_upto_region 1 with fail
 rw[HW.out];go_wp2_with (first
  |(go_at_call 191;refine(HP.out _ HB2.out).mono ?_;rintro e w3 ⟨A3,c3,rfl,h3,hb3⟩;have hr:=HR.out;rw[if_pos q1]at hr;have HO:Hid (Yl w R (.returned (.slice A3 (kb (zm ds) n).length c3)) w3):=za (by rw[<-hr];exact⟨A3,c3,rfl,h3,bt HB2.out hb3⟩);clear hr h3 hb3)
  |(go_at_call 192;refine(HC.out _ HB2.out).mono ?_;rintro e w3 ⟨A3,c3,rfl,h3,hb3⟩;have hr:=HR.out;rw[if_neg q1,if_pos q2]at hr;have hr2:RC=R:=HRC.out.symm.trans hr;have HO:Hid (Yl w R (.returned (.slice A3 RC.length c3)) w3):=za Dt;clear hr hr2 h3 hb3)
  |(go_at_call 193;refine(HN.out _ HB2.out).mono ?_;rintro e w3 ⟨A3,c3,rfl,h3,hb3⟩;have hr:=HR.out;rw[if_neg q1,if_neg q2,if_pos q3]at hr;have hr2:RN=R:=HRN.out.symm.trans hr;have HO:Hid (Yl w R (.returned (.slice A3 RN.length c3)) w3):=za Dt;clear hr hr2 h3 hb3)
  |(go_at_call 158;refine(zdY w1).mono ?_;rintro e w2 ⟨M,mn,rfl,hM,hb2⟩;obtain⟨v,b,hlk,hv⟩:=So hM nm hs;have HB2:=za (bt HB1.out hb2);have hbx:=(hb2.block _ (zh H0.out)).trans H0.out;have c0:w2.cell? ⟨w.heap.size,0,none⟩=some (.slice A N c):=zd hbx rfl;have hl0:=zh hbx;have HBx:=za hbx;clear hM hb2 hbx;obtain⟨q1,rfl,rfl⟩|⟨q1,q2,rfl,rfl⟩|⟨q1,q2,q3,rfl,rfl⟩|⟨q1,q2,q3,rfl,rfl⟩:=hv))
 · go_ret;exact HO.out
 · go_ret;exact HO.out
 · go_ret;exact HO.out
 · have hr:=HR.out;rw[if_neg q1,if_neg q2,if_neg q3]at hr;go_ret;rw[<-hr];exact⟨none,0,rfl,zB.empty,HB2.out⟩
end
end Go.Proofs.YtecbmndgpepkcaaGreatDoor

/- Contracts that the law rests on, each under the premises that it names. -/
import Derived.Test.YtecbmndgpepkcaaGreatDoorG15
import Derived.Lib.ConvBytes
import Derived.Lib.SlBytesRow
namespace Go.Proofs.YtecbmndgpepkcaaGreatDoor
open Tryz
set_option maxHeartbeats 8000000
set_option maxRecDepth 100000
section
open Go.RowKit
theorem jN(s:ByteArray)(c:UInt8):(Zk c s).length=Lib.countB s ⟨#[c]⟩+1:=Lib.splitB_all ⟨#[c]⟩ VG 0 _ s rfl
theorem GS(s:ByteArray)(c:UInt8):(Zk c s).length<=s.size+1:=by
 rw[jN];exact Nat.succ_le_succ (Lib.countB_le ⟨#[c]⟩ VG s.size s zo)
theorem LG:∀(m:Nat) (d:UInt8) (s:ze),∀x∈Lib.splitK [d] 0 m s,x.length<=s.length
 |0,d,s,x,hx=>L5
 | m + 1,d,s,x,hx=>by
   rw[Lib.splitK]at hx
   split at hx
   · rw[List.mem_singleton]at hx;rw[hx];exact zo
   · rcases List.mem_cons.1 hx with rfl|hx
     · exact No
     · have:=LG m d _ x hx;exact G0
theorem Ov(s:ByteArray)(c:UInt8):∀x∈Zk c s,x.size<=s.size:=by
 intro x hx;have h:=Lib.splitB_data ⟨#[c]⟩ 0 (Lib.countB s ⟨#[c]⟩) s;have h3:(Zk c s).map L=Lib.splitK [c] 0 (Lib.countB s ⟨#[c]⟩) (L s):=h;have h1:=LG (Lib.countB s ⟨#[c]⟩) c (L s) (L x) Sn;rwa [zF,zF]at h1
theorem NW(W:World)(xs:List ByteArray):zr (W.alloc (.cells (xs.map Value.string).toArray 9)) (W.heap.size+1) (some ⟨W.heap.size,0,none⟩) 1 xs.length (xs.map Value.string):=
 ⟨zl,fun _=>⟨W.heap.size,0,rfl,zd2 _,fun j u hu=>by
  rw[zk4];exact zd (i5 W _) (by rw[zl5];exact hu)⟩⟩
theorem vy{w2:World}{f:Nat->Bool}:((w2.alloc (.cells zeroCells256 256)).setRow w2.heap.size (setA f)).heap[w2.heap.size]? =some (.cells (setA f) 256 (0,0))/\Below w2.heap.size w2 ((w2.alloc (.cells zeroCells256 256)).setRow w2.heap.size (setA f)):=
 ⟨setRow_heap _ _ _ _ _ _ (i5 w2 _),qB (zL w2 _) zo⟩
theorem BZ(s:ByteArray)(w:World)(hE:Env0 w)(hs:s.size<=4611686018427387904):
 Calls prog 246 #[.string s] w fun e w'=>e=.returned (.bool (Ig s))/\Below w.heap.size w w':=by
 have Hi:=za (zero_of_info kL).2;have HSz:=za (Xy QI);have HS1:=za (IH QI);have HPt:=za Dn;have HNw:Hid (∀w2:World,_/\_):=za fun w2=>vy (w2:=w2) (f:=QI);have hE2:Ig s=(decide (s.size<=256)&&(Zk 47 s).all fun p=>Ut (L p)):=rfl;rw[hE2];have HEn:=za hE;clear hE hE2;by_cases h256:s.size<=256
 · have h256i:(s.size:Int)<=256:=by omega
   rw[zl1 h256,Bool.true_and];have HSp:=za (fun(W:World) (hW:Below w.heap.size w W)=>Ak s W (HEn.out.go hW) zb);have HA:=za (fun(G:Nat) (W:World) (hG:W.heap[G]? =some (.cells (setA QI) 256 (0,0)))=>zkK G (some ⟨W.heap.size,0,none⟩) (Zk 47 s).length (Zk 47 s) (W.alloc (.cells ((Zk 47 s).map Value.string).toArray 9)) (((zL W _).block _ (zh hG)).trans hG) (fun x hx=>by have:=Ov s 47 x hx;omega) (by have:=NW W (Zk 47 s);simpa using this) (by have:=GS s 47;omega));generalize ((Zk 47 s).all fun p=>Ut (L p))=b at*;generalize Zk 47 s=ps at*;generalize hN:ps.length=N at*;clear hN;generalize setA QI=S at*;go_enter func246,ntmps246;go_upto_region 2 with(first
    |(go_at_call 245;refine(HPt.out _).mono ?_;rintro e w2 ⟨rfl,hb2⟩;have HB2:=za hb2;clear hb2)
    |(refine wpList_store_row rfl 256 _ _ rfl _ _ rfl rfl _ _ qt G3 Tj HS1.out ?_))
   obtain⟨hG,hbG⟩:=HNw.out w2;generalize hW3:(w2.alloc (.cells zeroCells256 256)).setRow w2.heap.size S=W3 at*;have HG:=za hG;have HB3:=za (bt HB2.out hbG);clear hW3 hG hbG;go_wp2_with (first
    |(go_at_call 103;refine(HSp.out _ HB3.out).mono ?_;rintro e w4 ⟨rfl,rfl⟩)
    |(go_at_call 270;refine(HA.out _ _ HG.out).mono ?_;rintro e w5 ⟨rfl,hb5⟩))
   go_ret;exact⟨rfl,bt HB3.out (bt zu hb5)⟩
 · have h256i:¬(s.size:Int)<=256:=by omega
   rw[zl0 h256,Bool.false_and];generalize setA QI=S at*;go_enter func246,ntmps246;go_upto_region 2 with(first
    |(go_at_call 245;refine(HPt.out _).mono ?_;rintro e w2 ⟨rfl,hb2⟩;have HB2:=za hb2;clear hb2)
    |(refine wpList_store_row rfl 256 _ _ rfl _ _ rfl rfl _ _ qt G3 Tj HS1.out ?_))
   go_wp2;go_ret;exact⟨rfl,bt HB2.out (HNw.out w2).2⟩
end
section
open Go.RowKit
theorem JW(s T:ByteArray)(g:Nat)(p:zZ)(w:World)(h:Qg w g s p)(hT:T.size<=10):
 Calls prog 284 #[.pointer (some ⟨g,0,none⟩),.string T] w fun e w'=>e=.returned (.tuple #[])/\Zm w g s (Za (L s) (L T) p) w':=by
 have HS:=za (Da s T g p w h hT);have hb:(Uf (L s) (L T) p).b=p.b:=by unfold Uf;split<;>rfl
 unfold Za;clear h;cases hk:Vq (L s) (L T) p with
 | false=>
   rw[hk]at HS;go_enter func284,ntmps284;go_wp2_with (go_at_call 304;refine HS.out.mono ?_;rintro e w2 ⟨rfl,hp,hg2⟩;have HP:=za hp;have HG:=za hg2;obtain⟨_,_,c2,hf,hgl⟩:=hp.cells;have f2:=hf 2;clear hf hp hg2)
   exact D8
 | true=>
   rw[hk]at HS;go_enter func284,ntmps284;go_wp2_with (go_at_call 304;refine HS.out.mono ?_;rintro e w2 ⟨rfl,hp,hg2⟩;have HP:=za hp;have HG:=za hg2;obtain⟨_,_,c2,hf,hgl⟩:=hp.cells;have f2:=hf 2;rw[hb]at c2;clear hf hp hg2)
   exact D8
theorem zcQ(s:ByteArray)(hs:s.size<=1000000)(w:World)(hE:Env w):
 Calls prog 223 #[.string s] w fun e w'=>(∃er,e=.returned (.tuple #[.int .i64 (kj (L s)),er])/\((JN (L s)=true/\er=.nilIface)∨(JN (L s)=false/\∃T x,er=.iface T x)))/\Below w.heap.size w w':=by
 unfold kj JN;rcases hA:Lib.atoiAll (L s)with v|_|_
 · exact(R4 s v hA hs w).mono fun e w' ⟨h1,h2⟩=>⟨⟨_,h1,Or.inl ⟨rfl,rfl⟩⟩,h2⟩
 · obtain⟨tp,p,hv⟩:=hE.syn;exact(Any.strconv_Atoi_syntax_var laysC172 s zb hA tp p w hv).mono fun e w' ⟨N,he,_,_,hb⟩=>⟨⟨_,he,Or.inr ⟨rfl,_,_,rfl⟩⟩,hb⟩
 · obtain⟨tp,p,hv⟩:=hE.rng;exact(strconv_Atoi_range_var s zb hA tp p w hv).mono fun e w' ⟨N,he,_,_,hb⟩=>⟨⟨_,he,Or.inr ⟨rfl,_,_,rfl⟩⟩,hb⟩
theorem yB(s:ByteArray)(g:Nat)(p:zZ)(w:World)(h:Qg w g s p)(hE:Env w)(hg:nG<=g):
 Calls prog 285 #[.pointer (some ⟨g,0,none⟩)] w fun e w'=>e=.returned (.int .i64 (UH (L s) p).1)/\Zm w g s (UH (L s) p).2 w':=by
 have HU:=za (Nh s ⟨#[47,40,44,41,58]⟩ g p w h zi zi);have hq:(qX (L s) [47,40,44,41,58] p.a).length<=1000:=by
  have:=(List.takeWhile_prefix (fun b=> !([47,40,44,41,58]:ze).contains b) (l:=(L s).drop p.a)).length_le;rw[W8,zF]at this;have:=h.sz;unfold qX;omega
 unfold UH;change Hid (Calls _ _ _ _ fun e w'=>e=.returned (.string (bs (qX (L s) [47,40,44,41,58] p.a)))/\Zm w g s {p with a:=p.a+(qX (L s) [47,40,44,41,58] p.a).length} w')at HU;generalize qX (L s) [47,40,44,41,58] p.a=r at*;obtain⟨a,b⟩:=p;dsimp only at*;generalize a+r.length=a' at*;have HA:=za fun W (hW:Env W)=>zcQ (bs r) Ma W hW;rw[qz]at HA;have HE:=za fun W (hW:w.grownBy W (some g))=>hE.keep ((Below.refl nG w).grown hW hE.toEnv0.size (fun j e=>by rw[<-zx e];exact hg)) zo;have HEnd:Hid (∀(W W2:World) (x:Bool),Zm w g s ⟨a',b⟩ W->Below W.heap.size W W2->Zm w g s ⟨a',x⟩ (W2.setCell ⟨g,2,none⟩ (.bool x))):=za fun W W2 x hq hb=>⟨(hq.ps.keep hb).setB x,(hq.gr.trans (zG hb _)).trans (qE _ _ _ _)⟩;clear h hE;cases b with
 | true=>
   rw[Bool.true_or];go_enter func285,ntmps285;go_wp2_with (first|(go_at_call 283;refine HU.out.mono ?_;rintro e w2 ⟨rfl,hp⟩;have HP:=za hp;clear hp)|(go_at_call 223;refine(HA.out _ (HE.out _ HP.out.gr)).mono ?_;rintro e w3 ⟨⟨er,rfl,her⟩,hb3⟩;have hp3:=HP.out.ps.keep hb3;have HB3:=za hb3;obtain⟨_,_,c2,hf,hgl⟩:=hp3.cells;have f2:=hf 2;clear hf hp3 hb3 her))
   go_ret;exact⟨rfl,HEnd.out _ _ _ HP.out HB3.out⟩
 | false=>
   cases ho:JN r with
   | false=>
     rw[ho]at HA;go_enter func285,ntmps285;go_wp2_with (first|(go_at_call 283;refine HU.out.mono ?_;rintro e w2 ⟨rfl,hp⟩;have HP:=za hp;clear hp)|(go_at_call 223;refine(HA.out _ (HE.out _ HP.out.gr)).mono ?_;rintro e w3 ⟨⟨er,rfl,her⟩,hb3⟩;have hp3:=HP.out.ps.keep hb3;have HB3:=za hb3;obtain⟨_,_,c2,hf,hgl⟩:=hp3.cells;have f2:=hf 2;clear hf hp3 hb3;obtain⟨h1,_⟩|⟨_,T,x,rfl⟩:=her;cases h1))
     go_ret;exact⟨rfl,HEnd.out _ _ _ HP.out HB3.out⟩
   | true=>
     have hr: -9223372036854775808<=kj r/\kj r<=9223372036854775807:=by
      unfold JN at ho;unfold kj
      split at ho
      · rename_i v hv;rw[hv];exact R2 _ _ hv
      · cases ho
     rw[ho]at HA;have HI:=za fun W (hW:Env W)=>If (kj r) hr.1 hr.2 W hW.toEnv0;generalize kj r=v at*;have hsb:(bs r).toList=r:=M5;have hsi:(bs (Lib.itoa v)).toList=Lib.itoa v:=M5;generalize bs (Lib.itoa v)=is at*;generalize bs r=rs at*;have hEq:(is.toList==rs.toList)=(Lib.itoa v==r):=by rw[hsb,hsi]
     generalize (Lib.itoa v==r)=bb at*;clear hsb hsi hr;cases bb
     all_goals
      go_enter func285,ntmps285;go_wp2_with (first|(go_at_call 283;refine HU.out.mono ?_;rintro e w2 ⟨rfl,hp⟩;have HP:=za hp;clear hp)|(go_at_call 223;refine(HA.out _ (HE.out _ HP.out.gr)).mono ?_;rintro e w3 ⟨⟨er,rfl,her⟩,hb3⟩;have hp3:=HP.out.ps.keep hb3;have HB3:=za hb3;obtain⟨_,_,c2,hf,hgl⟩:=hp3.cells;have f2:=hf 2;clear hf hp3 hb3;obtain rfl:er=.nilIface:=her.elim (fun h=>h.2) (fun h=>absurd h.1 zi))|(go_at_call 48;refine(HI.out _ ((HE.out _ HP.out.gr).go HB3.out)).mono ?_;rintro e w4 ⟨rfl,hb4⟩;have hbb:=bt HB3.out hb4;have hp3:=HP.out.ps.keep hbb;have HB4:=za hbb;obtain⟨_,_,c2',hf,hgl'⟩:=hp3.cells;have f2':=hf 2;clear hf hp3 hb4 hbb))
      go_ret;exact⟨rfl,HEnd.out _ _ _ HP.out HB4.out⟩
end
section
open Go.RowKit
abbrev zy:TypeId:=290
abbrev XJ:TypeId:=288
inductive Cm where
 |mk (kd:Int) (id lab:ByteArray) (s t e:Int) (A:Option Addr) (c:Nat) (l:List Cm)
def ZN:Cm->List Value
 | .mk k i b s t e A c l=>[.int .i64 k,.string i,.string b,.int .i64 s,.int .i64 t,.int .i64 e,.slice A l.length c]
def Cm.fl:Cm->Fq
 | .mk k i b s t e _ _ l=>⟨k,i,b,s,t,e,l.length⟩
mutual
def Cm.dep:Cm->Int
 | .mk k _ _ _ _ _ _ _ l=>if k=0 then ZB l else ZB l+1
def ZB:List Cm->Int
 | []=>0
 |x::r=>max x.dep (ZB r)
end
mutual
def Cm.ok:Cm->Bool
 | .mk k i b s t e _ _ l=>QK ⟨k,i,b,s,t,e,l.length⟩&&Vd l
def Vd:List Cm->Bool
 | []=>true
 |x::r=>x.ok&&Vd r
end
mutual
def Cm.cnt:Cm->Nat
 | .mk _ _ _ _ _ _ _ _ l=>Qz l+1
def Qz:List Cm->Nat
 | []=>0
 |x::r=>x.cnt+Qz r
end
theorem To(l:List Cm)(x:Cm):Qz (l++[x])=Qz l+x.cnt:=by
 induction l with
 |nil=>show x.cnt+0=0+x.cnt;omega
 |cons y l ih=>rw[List.cons_append,Qz,ih,Qz];omega
def Cm.cs(m:Cm):Cs:=⟨m.fl.kd,m.fl.id,m.fl.lab,m.dep,m.ok⟩
theorem jf(l:List Cm)(x:Cm):ZB (l++[x])=max (ZB l) x.dep:=by
 induction l with
 |nil=>show max x.dep 0=max 0 x.dep;omega
 |cons y l ih=>rw[List.cons_append,ZB,ih,ZB];omega
theorem D2(l:List Cm)(x:Cm):Vd (l++[x])=(Vd l&&x.ok):=by
 induction l with
 |nil=>show(x.ok&&true)=(true&&x.ok);simp
 |cons y l ih=>rw[List.cons_append,Vd,ih,Vd,Bool.and_assoc]
theorem Nm(m:Cm):(ZN m).length=7:=by cases m;rfl
theorem RI(m:Cm):∀u∈ZN m,u.oneCell'=true:=by
 cases m
 intro u hu;simp only[ZN,List.mem_cons,List.not_mem_nil,or_false]at hu;exact CS
inductive ZS (P:Nat->Prop) (W:World):Cm->Prop
 |mk {k i b s t e A c l} (h:zE W A 7 l.length (cellsOf ZN l)) (hz:l.length<=100000) (hs:i.size<=1000/\b.size<=1000) (hP:∀a,A=some a->P a.block) (hl:∀x∈l,ZS P W x):ZS P W (.mk k i b s t e A c l)
theorem ZS.grown{P Q:Nat->Prop}{W W':World}{m:Cm}{row:Option Nat}(h:ZS P W m)(hg:W.grownBy W' row)(hr:∀b,P b->some b≠row)(hQ:∀b,b<W.heap.size->P b->Q b):ZS Q W' m:=by
 induction h with
 |mk h hz hs hP _ ih=>exact .mk (h.grown hg fun a e=>hr _ (hP a e)) hz hs (fun a e=>hQ _ (h.pl a e).2 (hP a e)) ih
theorem ZS.keep{P Q:Nat->Prop}{W W':World}{m:Cm}(h:ZS P W m)(hb:Below W.heap.size W W')(hQ:∀b,b<W.heap.size->P b->Q b):ZS Q W' m:=h.grown (zG hb none) (fun _ _ e=>ZK) hQ
theorem ZS.row{P:Nat->Prop}{W:World}{k:Int}{i b:ByteArray}{s t e:Int}{A:Option Addr}{c:Nat}{l:List Cm}(h:ZS P W (.mk k i b s t e A c l)):zE W A 7 l.length (cellsOf ZN l)/\l.length<=100000/\∀x∈l,ZS P W x:=by
 cases h with|mk h hz _ _ hl=>exact⟨h,hz,hl⟩
theorem Xe:(prog.info? zy).map (·.size)=some 7:=zg
theorem Ji:(prog.info? zy).map (fun i=>(i.zero,i.size,i.bytes))=some (some (.agg #[.int .i64 0,.string ⟨#[]⟩,.string ⟨#[]⟩,.int .i64 0,.int .i64 0,.int .i64 0,.slice none 0 0]),7,88):=zg
theorem JK:∀w,(isAgg zy).run prog w=.ok true w:=fun w=>zg
theorem Gf:∀w,(Go.sizeOf zy).run prog w=.ok 7 w:=fun w=>zg
theorem I7(v:Value):Instr.loadAt zy v=qD zy v:=Kg
theorem Oy(v u:Value):Instr.storeAt zy v u=Zo zy v u:=kQ
theorem Pr(n:Nat)(parts:Array (Nat×Value)):Instr.buildSlice XJ n parts=Yy XJ n parts:=K6
end
end Go.Proofs.YtecbmndgpepkcaaGreatDoor

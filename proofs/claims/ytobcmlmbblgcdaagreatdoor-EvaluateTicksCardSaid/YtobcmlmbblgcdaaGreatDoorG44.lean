/- Contracts of functions that the law reaches, and what they rest on; each under the premises that it names. Shortened by a program. -/
import Derived.Test.YtobcmlmbblgcdaaGreatDoorG41
import Derived.Test.YtobcmlmbblgcdaaGreatDoorG39
namespace Go.Proofs.YtobcmlmbblgcdaaGreatDoor
open Tryz
set_option maxHeartbeats 8000000
set_option maxRecDepth 100000
section
abbrev QE:ByteArray:=⟨#[115,100,97]⟩
abbrev Qa:ByteArray:=⟨#[115,100,98]⟩
def Qm(s:ByteArray):Dd:=⟨1,0,s,s,⟨#[98,108,111,99,107]⟩,⟨#[]⟩,⟨#[]⟩,2,8,[]⟩
def exI(s:ByteArray):Ma:=⟨⟨#[97,100,100]⟩,[Qm s],1,[],[⟨⟨#[112,114,111,98,101,32,115,100,97]⟩,⟨#[120]⟩,false,0⟩],9⟩
def Zk(s:ByteArray):qO:=⟨exI s,Qm s,ZW [Qm s] 1,pntS [Qm s] (Qm s)⟩
def XG:List (List Tm):=[[⟨2,⟨#[]⟩,1,⟨#[115,100,42]⟩⟩,⟨12,⟨#[]⟩,1,⟨#[112,114,111,98,101,32,37,107]⟩⟩,⟨6,⟨#[73,68]⟩,3,⟨#[37,99]⟩⟩],[⟨6,⟨#[73,68]⟩,2,⟨#[]⟩⟩,⟨24,⟨#[]⟩,3,⟨#[101,110,100]⟩⟩],[⟨16,⟨#[]⟩,4,⟨#[110,111,110,101]⟩⟩],[⟨23,⟨#[]⟩,3,⟨#[101,110,100]⟩⟩,⟨7,⟨#[]⟩,4,⟨#[115,101,101,110]⟩⟩]]
def gl(p s:ze)(e:List (List El)):Prop:=Qb p=some e/\qT s=true
theorem BL:zS [115,100,42] [115,100,97]=true:=by
 have e:Qb [115,100,42]=some [[.lit 115,.lit 100,.star]]:=zg;have e2:qT [115,100,97]=true:=zg;exact Ov
theorem kg2:zS [115,100,42] [115,100,98]=true:=by
 have e:Qb [115,100,42]=some [[.lit 115,.lit 100,.star]]:=zg;have e2:qT [115,100,98]=true:=zg;exact Ov
theorem kg3:zS [112,114,111,98,101,32,115,100,97] [112,114,111,98,101,32,115,100,97]=true:=by
 have e:Qb [112,114,111,98,101,32,115,100,97]=some [[.lit 112,.lit 114,.lit 111,.lit 98,.lit 101,.lit 32,.lit 115,.lit 100,.lit 97]]:=zg;have e2:qT [112,114,111,98,101,32,115,100,97]=true:=zg;exact Ov
theorem kg4:zS [112,114,111,98,101,32,115,100,97] [112,114,111,98,101,32,115,100,98]=false:=by
 have e:Qb [112,114,111,98,101,32,115,100,97]=some [[.lit 112,.lit 114,.lit 111,.lit 98,.lit 101,.lit 32,.lit 115,.lit 100,.lit 97]]:=zg;have e2:qT [112,114,111,98,101,32,115,100,98]=true:=zg;exact Ov
theorem kg5:zS [] [120]=false:=by
 have e:Qb []=some [[]]:=zg;have e2:qT [120]=true:=zg;unfold zS;rw[e];simp[e2,Yd,qJ]
theorem kg6:zS [] []=true:=by
 have e:Qb []=some [[]]:=zg;have e2:qT []=true:=zg;unfold zS;rw[e];simp[e2,Yd,qJ]
section
variable{c:qO}{l r:List Tm}{x y:Ev}{t:Tm}{ls:List (List Tm)}{f k:Nat}{held:List Int}
theorem IQ(h:qu t.op=true)(h2:qH c l x t=(y,true)):ZU c l (t::r) x=ZU c l r y:=by rw[ZU,if_pos h,h2];rfl
theorem Ca(h:qu t.op=true)(h2:qH c l x t=(y,false)):ZU c l (t::r) x=(y,false):=by rw[ZU,if_pos h,h2];rfl
theorem Kj(h:qu t.op=false):ZU c l (t::r) x=ZU c l r x:=by rw[ZU,if_neg Iy]
theorem GP(h:ZU c l l {x with ab:=c.dev,re:=false}=(y,true)):Zx c x l=((l.filter fun t=> !qu t.op).foldl (Z9 c) y,true):=by unfold Zx;rw[h];rfl
theorem ym(h:ZU c l l {x with ab:=c.dev,re:=false}=(y,false)):Zx c x l=(y,false):=by unfold Zx;rw[h];rfl
theorem GE(hl:ls[k]? =some l)(h:Zx c x l=(y,true)):Zq c ls (f+1) k x held=Zq c ls f (Yj ls k l) y (held++[(k:Int)]):=Ha
theorem DO(hl:ls[k]? =some l)(h:Zx c x l=(y,false)):Zq c ls (f+1) k x held=Zq c ls f (k+1) y held:=Ha
theorem vR(h:ZZ t=true):qH c l x t=(x,kb t c.dev):=by unfold qH;rw[if_pos h]
theorem yD(h:ZZ t=false)(h2:qS t=false)(h3:t.key=12){a:ByteArray}{n e:Int}(hc:qQ c x t.value=(a,n,e)):qH c l x t=({Q7 x n with dr:={(Q7 x n).dr with res:=a}},(e==0)==(t.op==1)):=by
 unfold qH;rw[if_neg Iy,if_neg (by rw[h2];simp),if_pos h3,hc]
theorem L3(h:ZZ t=false)(h2:qS t=false)(h3:t.key≠12)(h4:t.key≠14):qH c l x t=(x,Jw t c.i.act x.dr):=by
 unfold qH;rw[if_neg Iy,if_neg (by rw[h2];simp),if_neg h3,if_neg h4]
end
abbrev tA0:Tm:=⟨2,⟨#[]⟩,1,⟨#[115,100,42]⟩⟩
abbrev Gc:Tm:=⟨12,⟨#[]⟩,1,⟨#[112,114,111,98,101,32,37,107]⟩⟩
abbrev tA2:Tm:=⟨6,⟨#[73,68]⟩,3,⟨#[37,99]⟩⟩
abbrev tB0:Tm:=⟨6,⟨#[73,68]⟩,2,⟨#[]⟩⟩
abbrev Sc:Tm:=⟨24,⟨#[]⟩,3,⟨#[101,110,100]⟩⟩
abbrev lA:List Tm:=[tA0,Gc,tA2]
abbrev lB:List Tm:=[tB0,Sc]
abbrev lC:List Tm:=[⟨16,⟨#[]⟩,4,⟨#[110,111,110,101]⟩⟩]
abbrev lD:List Tm:=[⟨23,⟨#[]⟩,3,⟨#[101,110,100]⟩⟩,⟨7,⟨#[]⟩,4,⟨#[115,101,101,110]⟩⟩]
def jc:Ev:=YD (Zk QE)
def Ip:Ev:={jc with ab:=Qm QE,re:=false}
def Fc:Ev:={Q7 Ip 0 with dr:={(Q7 Ip 0).dr with res:=⟨#[120]⟩}}
def T8:Ev:=(lA.filter fun t=> !qu t.op).foldl (Z9 (Zk QE)) Fc
def I5:Ev:={T8 with ab:=Qm QE,re:=false}
def DK:Ev:=(lB.filter fun t=> !qu t.op).foldl (Z9 (Zk QE)) I5
def x4A:Ev:={DK with ab:=Qm QE,re:=false}
def ka:Ev:=(lD.filter fun t=> !qu t.op).foldl (Z9 (Zk QE)) x4A
theorem zaV:qQ (Zk QE) Ip Gc.value=(⟨#[120]⟩,0,0):=by
 unfold qQ;rw[show QD (Zk QE) Ip Gc.value=(⟨#[112,114,111,98,101,32,115,100,97]⟩:ByteArray)from by kernel_rfl];unfold Zb;rw[if_neg zi];have:((Zk QE).i.hps.find? fun x=>zS (L x.cmd) (L (⟨#[112,114,111,98,101,32,115,100,97]⟩:ByteArray)))=some ⟨⟨#[112,114,111,98,101,32,115,100,97]⟩,⟨#[120]⟩,false,0⟩:=by
  show List.find? _ [_]=_;rw[List.find?_cons_of_pos (by exact kg3)]
 rw[this];rfl
theorem Sn:Zx (Zk QE) jc lA=(T8,true):=by
 refine GP ?_;rw[IQ (y:=Ip) rfl (by rw[vR rfl];show(_,(true&&(zS [115,100,42] [115,100,97]==true)))=_;rw[BL];rfl)];rw[IQ (y:=Fc) rfl (by rw[yD rfl rfl rfl zaV];rfl)];rw[Kj rfl];rfl
theorem zi5:Zx (Zk QE) T8 lB=(DK,true):=by
 refine GP ?_;rw[IQ (y:=I5) rfl (by
  rw[L3 rfl rfl zi zi];show(_,(true&&(zS [] (L (qI I5.dr.props [73,68]))==false)))=_;rw[show L (qI I5.dr.props [73,68])=[120]from by kernel_rfl,kg5];rfl)]
 rw[Kj rfl];rfl
theorem zfn:Zq (Zk QE) XG 5 0 (YD (Zk QE)) []=(ka,[0,1,3]):=by
 show Zq (Zk QE) XG (4+1) 0 jc []=_;rw[GE (l:=lA) rfl Sn,show Yj XG 0 lA=1 from by kernel_rfl,GE (l:=lB) rfl zi5,show Yj XG 1 lB=3 from by kernel_rfl,GE (l:=lD) (y:=ka) rfl (GP (by rw[Kj rfl,Kj rfl];rfl)),show Yj XG 3 lD=4 from by kernel_rfl,Zq];rfl
def R8:Ev:=YD (Zk Qa)
def GX:Ev:={R8 with ab:=Qm Qa,re:=false}
def IW:Ev:={Q7 GX 0 with dr:={(Q7 GX 0).dr with res:=⟨#[]⟩}}
def It:Ev:={IW with ab:=Qm Qa,re:=false}
def x3B:Ev:={It with ab:=Qm Qa,re:=false}
def yu:Ev:=(lC.filter fun t=> !qu t.op).foldl (Z9 (Zk Qa)) x3B
def x4B:Ev:={yu with ab:=Qm Qa,re:=false}
def Gl:Ev:=(lD.filter fun t=> !qu t.op).foldl (Z9 (Zk Qa)) x4B
theorem zfg:qQ (Zk Qa) GX Gc.value=(⟨#[]⟩,0,143):=by
 unfold qQ;rw[show QD (Zk Qa) GX Gc.value=(⟨#[112,114,111,98,101,32,115,100,98]⟩:ByteArray)from by kernel_rfl];unfold Zb;rw[if_neg zi];have:((Zk Qa).i.hps.find? fun x=>zS (L x.cmd) (L (⟨#[112,114,111,98,101,32,115,100,98]⟩:ByteArray)))=none:=by
  show List.find? _ [_]=_;rw[List.find?_cons_of_neg (by rw[show zS (L (⟨#[112,114,111,98,101,32,115,100,97]⟩:ByteArray)) (L (⟨#[112,114,111,98,101,32,115,100,98]⟩:ByteArray))=false from kg4];simp),List.find?_nil]
 rw[this]
theorem zau:Zx (Zk Qa) R8 lA=(IW,false):=by
 refine ym ?_;rw[IQ (y:=GX) rfl (by rw[vR rfl];show(_,(true&&(zS [115,100,42] [115,100,98]==true)))=_;rw[kg2];rfl)];rw[Ca (y:=IW) rfl (by rw[yD rfl rfl rfl zfg];rfl)]
theorem zdw:Zx (Zk Qa) IW lB=(It,false):=by
 refine ym ?_;rw[Ca (y:=It) rfl (by
  rw[L3 rfl rfl zi zi];show(_,(true&&(zS [] (L (qI It.dr.props [73,68]))==false)))=_;rw[show L (qI It.dr.props [73,68])=[]from by kernel_rfl,kg6];rfl)]
theorem Er:Zq (Zk Qa) XG 5 0 (YD (Zk Qa)) []=(Gl,[2,3]):=by
 show Zq (Zk Qa) XG (4+1) 0 R8 []=_;rw[DO (l:=lA) rfl zau,DO (l:=lB) rfl zdw,GE (l:=lC) (y:=yu) rfl (GP (by rw[Kj rfl];rfl)),show Yj XG 2 lC=3 from by kernel_rfl,GE (l:=lD) (y:=Gl) rfl (GP (by rw[Kj rfl,Kj rfl];rfl)),show Yj XG 3 lD=4 from by kernel_rfl,Zq];rfl
theorem zfq:ka.dr.links.length=0:=zg
theorem zdh:ka.dr.tags.length=1:=zg
theorem zhZ:(zT ka.dr.props [73,68]).map (·.val)=some ⟨#[120]⟩:=zg
theorem zgl:ka.dr.props.length=5:=zg
theorem zh7:Gl.dr.links.length=1:=zg
end
section
open Go.RowKit
abbrev Oe:TypeId:=44
theorem kv{W:World}{g k n:Nat}{T:TypeId}{cs:Array Value}{xs:List Value}(h:W.heap[g]? =some (.cells cs T (0,0)))(hx:cs.toList=xs)(hl:xs.length=n*k):zH W (some ⟨g,0,none⟩) k n xs:=
 ⟨⟨hl,fun _=>⟨g,0,rfl,zh h,fun j u hu=>by rw[Nat.zero_add];exact zd h Cv⟩⟩,fun a e=>by injection e with e;rw[<-e];exact⟨rfl,zh h⟩⟩
theorem VY:∀(os:List Obj) (w:World) (i:Nat) (o:Obj),os[i]? =some o->(os.foldl World.alloc w).heap[w.heap.size+i]? =some o/\Below w.heap.size w (os.foldl World.alloc w)
 | [],w,i,o,h=>qG
 | a::os,w,0,o,h=>by
   injection h with h
   subst h;have hb:∀(os:List Obj) (w:World),Below w.heap.size w (os.foldl World.alloc w):=by
    intro os;induction os with
    |nil=>exact fun w=>zk
    |cons a os ih=>exact fun w=>bt (zI w a) (ih (w.alloc a))
   exact⟨((hb os (w.alloc a)).block _ zl).trans (by rw[Nat.add_zero];exact heap_alloc_new w a),bt (zI w a) (hb os _)⟩
 | a::os,w,i+1,o,h=>by
   obtain⟨h1,h2⟩:=VY os (w.alloc a) i o h;refine⟨?_,bt (zI w a) h2⟩;rw[World.size_alloc]at h1;rw[show w.heap.size+(i+1)=w.heap.size+1+i by omega];exact h1
def QK(g1 g2 g3 g4:Nat):List Rl:=[⟨⟨#[]⟩,0,⟨some ⟨g1,0,none⟩,3,[⟨2,⟨#[]⟩,1,⟨#[115,100,42]⟩⟩,⟨12,⟨#[]⟩,1,⟨#[112,114,111,98,101,32,37,107]⟩⟩,⟨6,⟨#[73,68]⟩,3,⟨#[37,99]⟩⟩]⟩⟩,⟨⟨#[]⟩,0,⟨some ⟨g2,0,none⟩,2,[⟨6,⟨#[73,68]⟩,2,⟨#[]⟩⟩,⟨24,⟨#[]⟩,3,⟨#[101,110,100]⟩⟩]⟩⟩,⟨⟨#[]⟩,0,⟨some ⟨g3,0,none⟩,1,[⟨16,⟨#[]⟩,4,⟨#[110,111,110,101]⟩⟩]⟩⟩,⟨⟨#[]⟩,0,⟨some ⟨g4,0,none⟩,2,[⟨23,⟨#[]⟩,3,⟨#[101,110,100]⟩⟩,⟨7,⟨#[]⟩,4,⟨#[115,101,101,110]⟩⟩]⟩⟩]
theorem vF(g1 g2 g3 g4:Nat):Iw (QK g1 g2 g3 g4):=by
 refine⟨by show 4<=40;omega,fun y hy=>?_⟩;exact j5
theorem Fm(g1 g2 g3 g4:Nat):∀y∈QK g1 g2 g3 g4,∀t∈y.tms.l,t.key≠14:=by
 intro y hy;exact j5
theorem zeS{w:World}{g1 g2 g3 g4 g5:Nat}(h1:w.heap[g1]? =some (.cells #[.int .i64 2,.string ⟨#[]⟩,.int .i64 1,.string ⟨#[115,100,42]⟩,.int .i64 12,.string ⟨#[]⟩,.int .i64 1,.string ⟨#[112,114,111,98,101,32,37,107]⟩,.int .i64 6,.string ⟨#[73,68]⟩,.int .i64 3,.string ⟨#[37,99]⟩] 46 (0,0)))(h2:w.heap[g2]? =some (.cells #[.int .i64 6,.string ⟨#[73,68]⟩,.int .i64 2,.string ⟨#[]⟩,.int .i64 24,.string ⟨#[]⟩,.int .i64 3,.string ⟨#[101,110,100]⟩] 46 (0,0)))(h3:w.heap[g3]? =some (.cells #[.int .i64 16,.string ⟨#[]⟩,.int .i64 4,.string ⟨#[110,111,110,101]⟩] 46 (0,0)))(h4:w.heap[g4]? =some (.cells #[.int .i64 23,.string ⟨#[]⟩,.int .i64 3,.string ⟨#[101,110,100]⟩,.int .i64 7,.string ⟨#[]⟩,.int .i64 4,.string ⟨#[115,101,101,110]⟩] 46 (0,0)))
 (h5:w.heap[g5]? =some (.cells #[.string ⟨#[]⟩,.int .i64 0,.slice (some ⟨g1,0,none⟩) 3 3,.string ⟨#[]⟩,.int .i64 0,.slice (some ⟨g2,0,none⟩) 2 2,.string ⟨#[]⟩,.int .i64 0,.slice (some ⟨g3,0,none⟩) 1 1,.string ⟨#[]⟩,.int .i64 0,.slice (some ⟨g4,0,none⟩) 2 2] Oe (0,0))):Z0 w (some ⟨g5,0,none⟩) (QK g1 g2 g3 g4):=by
 refine⟨(kv h5 rfl rfl).row,fun y hy=>?_,fun y hy=>?_⟩
 · simp only[QK,List.mem_cons,List.not_mem_nil,or_false]at hy;rcases hy with rfl|rfl|rfl|rfl
   · exact kv h1 rfl rfl
   · exact kv h2 rfl rfl
   · exact kv h3 rfl rfl
   · exact kv h4 rfl rfl
 · simp only[QK,List.mem_cons,List.not_mem_nil,or_false]at hy;rcases hy with rfl|rfl|rfl|rfl<;>(intro e;cases e)
def Z2(s:ByteArray)(td th:Nat):zt:=⟨⟨#[97,100,100]⟩,some ⟨td,0,none⟩,1,[⟨1,0,s,s,⟨#[98,108,111,99,107]⟩,⟨#[]⟩,⟨#[]⟩,2,8,⟨none,0,[]⟩⟩],1,Zs,⟨some ⟨th,0,none⟩,1,[⟨⟨#[112,114,111,98,101,32,115,100,97]⟩,⟨#[120]⟩,false,0⟩]⟩,9,qd,⟨#[]⟩,⟨#[]⟩⟩
theorem CV(s:ByteArray)(td th:Nat):zm (Z2 s td th).tds=[Qm s]:=rfl
theorem EV(s:ByteArray)(hs:s.size<=100)(td th:Nat):U2 (Z2 s td th):=by
 have hD:∀d∈zm (Z2 s td th).tds,d=Qm s:=fun d hd=>by rw[CV]at hd;exact List.mem_singleton.1 hd
 refine⟨⟨⟨by show(1:Int)<=9;omega,by show(9:Int)<=1000;omega,fun x hx=>?_⟩,fun x hx=>Yz,fun n x hx=>?_⟩,fun d hd=>?_,?_,by show 1<=100;omega,Db,Ei,by show 1<=1000;omega,fun y hy=>?_,by show 3<=1000000;omega,by show 0<=1000;omega,fun y hy=>GD,fun d hd=>?_⟩
 · rw[List.mem_singleton.1 hx];decide
 · have:=yK n _ _ x hx;omega
 · rw[hD d hd];exact⟨⟨⟨Db,Ei⟩,⟨by show(-9223372036854775808:Int)<=0;omega,by show(0:Int)<=9223372036854775807;omega⟩,by show s.size<=1000;omega⟩,by show 5<=1000;omega,by show 0<=1000;omega,by show(-9223372036854775808:Int)<=8;omega,by show(8:Int)<=9223372036854775807;omega,fun a ha=>by cases ha⟩
 · rw[CV];exact⟨by show(1:Int)<=1;omega,(fun x hx=>Yz),Or.inl rfl,trivial⟩
 · rw[List.mem_singleton.1 hy];decide
 · rw[hD d hd];show 0<=1000000;omega
theorem zfQ{w:World}{s:ByteArray}{td th:Nat}(h1:w.heap[td]? =some (.cells #[.int .i64 1,.int .i64 0,.string s,.string s,.string ⟨#[98,108,111,99,107]⟩,.string ⟨#[]⟩,.string ⟨#[]⟩,.int .i64 2,.int .i64 8,.slice none 0 0] zp (0,0)))(h2:w.heap[th]? =some (.cells #[.string ⟨#[112,114,111,98,101,32,115,100,97]⟩,.string ⟨#[120]⟩,.bool false,.int .i64 0] XC (0,0))):ZH w (Z2 s td th):=by
 refine⟨⟨kv h1 rfl rfl,fun d hd=>?_,by show 1<=1000;omega,fun d hd=>?_⟩,⟨zA.empty,zA.empty,zA.empty,zA.empty,zA.empty⟩,⟨kv h2 rfl rfl,zo,by show 1<=maxLen;unfold maxLen;omega,fun e=>Zr⟩⟩
 · rw[List.mem_singleton.1 hd];exact zH.nil
 · rw[List.mem_singleton.1 hd];exact Nat.zero_le _
def LP(s:ByteArray)(w:World)(e:Ending)(w':World):Prop:=∃g1 g2 g3 g4 g5 td th,e=.returned (.tuple #[.slice (some ⟨g5,0,none⟩) 4 4,.agg #[.string ⟨#[97,100,100]⟩,.slice (some ⟨td,0,none⟩) 1 1,.int .i64 1,.string ⟨#[]⟩,.int .i64 0,.slice none 0 0,.slice none 0 0,.slice none 0 0,.slice none 0 0,.slice none 0 0,.string ⟨#[]⟩,.int .i64 0,.string ⟨#[]⟩,.string ⟨#[]⟩,.int .i64 0,.slice (some ⟨th,0,none⟩) 1 1,.int .i64 9]])/\(w.heap.size<=g1/\w.heap.size<=g2/\w.heap.size<=g3/\w.heap.size<=g4/\w.heap.size<=g5/\w.heap.size<=td/\w.heap.size<=th)/\Z0 w' (some ⟨g5,0,none⟩) (QK g1 g2 g3 g4)/\ZH w' (Z2 s td th)/\Below w.heap.size w w'
theorem zca(v u:Value):Instr.storeAt qm v u=Zm qm v u:=kS
theorem FI{w:World}{q:Nat}{cs:Array Value}(h:w.heap[q]? =some (.cells cs qm (0,0)))(hs:cs.size=17)(c:zt):(Zm qm (.pointer (some ⟨q,0,none⟩)) (.agg (zM c))).run prog w=.ok () (w.setRow q (zM c)):=by
 have h1:=XF (P:=prog) (w:=w) (T:=qm) (g:=q) (o:=0) (cs:=cs) (vs:=zM c) h (by rw[hs];show 0+17<=17;omega) (by show 0<17;omega) Ut (Sl c);rw[UH cs (zM c) IR]at h1;exact h1
theorem CD{P:Program}{fn:Func}{R:Ending->World->Prop}{a:Act}{W:World}{g:Nat}{p q:Tmp}{ty t:TypeId}{cs:Array Value}{u:Value}{fr:Nat×Nat}{d:TypeDesc}(h:fn.results=#[.tmp q,.cell p ty])(hp:a.tmps.getD p undef=.pointer (some ⟨g,0,none⟩))(hq:a.tmps.getD q undef=u)
 (hg:W.heap[g]? =some (.cells cs t fr))(hu:P.underlying ty=some d)(hd:(match d with| .struct _| .array _ _=>true|_=>false)=true)(hi:(P.info? ty).map (·.size)=some cs.size)(hdef:a.defers=[])
 (hR:R (.returned (.tuple #[u,.agg cs])) W):bodyPost P fn R .ret a W:=by
 have hp':a.tmps[p]?.getD undef=.pointer (some ⟨g,0,none⟩):=by simpa using hp
 have hq':a.tmps[q]?.getD undef=u:=by simpa using hq
 refine bodyPost_ret (v:=.tuple #[u,.agg cs]) ?_ hdef hR;simp[results,h,hp',hq',asAddr,run_loadVar_row W g t ty cs fr d hg hu hd hi]
attribute [local go_sem ↓] zca
theorem LW(s:ByteArray)(w:World):Calls prog 25 #[.string s] w (LP s w):=by
 obtain⟨w1,hw1⟩:∃w1,((((((w.alloc (.cells #[.string ⟨#[]⟩,.slice none 0 0,.int .i64 0,.string ⟨#[]⟩,.int .i64 0,.slice none 0 0,.slice none 0 0,.slice none 0 0,.slice none 0 0,.slice none 0 0,.string ⟨#[]⟩,.int .i64 0,.string ⟨#[]⟩,.string ⟨#[]⟩,.int .i64 0,.slice none 0 0,.int .i64 0] qm)).alloc (.cells #[.int .i64 2,.string ⟨#[]⟩,.int .i64 1,.string ⟨#[115,100,42]⟩,.int .i64 12,.string ⟨#[]⟩,.int .i64 1,.string ⟨#[112,114,111,98,101,32,37,107]⟩,.int .i64 6,.string ⟨#[73,68]⟩,.int .i64 3,.string ⟨#[37,99]⟩] 46)).alloc (.cells #[.int .i64 6,.string ⟨#[73,68]⟩,.int .i64 2,.string ⟨#[]⟩,.int .i64 24,.string ⟨#[]⟩,.int .i64 3,.string ⟨#[101,110,100]⟩] 46)).alloc (.cells #[.int .i64 16,.string ⟨#[]⟩,.int .i64 4,.string ⟨#[110,111,110,101]⟩] 46)).alloc (.cells #[.int .i64 23,.string ⟨#[]⟩,.int .i64 3,.string ⟨#[101,110,100]⟩,.int .i64 7,.string ⟨#[]⟩,.int .i64 4,.string ⟨#[115,101,101,110]⟩] 46)).alloc (.cells #[.string ⟨#[]⟩,.int .i64 0,.slice (some ⟨w.heap.size+1,0,none⟩) 3 3,.string ⟨#[]⟩,.int .i64 0,.slice (some ⟨w.heap.size+1+1,0,none⟩) 2 2,.string ⟨#[]⟩,.int .i64 0,.slice (some ⟨w.heap.size+1+1+1,0,none⟩) 1 1,.string ⟨#[]⟩,.int .i64 0,.slice (some ⟨w.heap.size+1+1+1+1,0,none⟩) 2 2] Oe)).alloc (.cells #[.int .i64 1,.int .i64 0,.string s,.string s,.string ⟨#[98,108,111,99,107]⟩,.string ⟨#[]⟩,.string ⟨#[]⟩,.int .i64 2,.int .i64 8,.slice none 0 0] zp)=w1:=⟨_,rfl⟩;have hf:w1=[.cells #[.string ⟨#[]⟩,.slice none 0 0,.int .i64 0,.string ⟨#[]⟩,.int .i64 0,.slice none 0 0,.slice none 0 0,.slice none 0 0,.slice none 0 0,.slice none 0 0,.string ⟨#[]⟩,.int .i64 0,.string ⟨#[]⟩,.string ⟨#[]⟩,.int .i64 0,.slice none 0 0,.int .i64 0] qm,.cells #[.int .i64 2,.string ⟨#[]⟩,.int .i64 1,.string ⟨#[115,100,42]⟩,.int .i64 12,.string ⟨#[]⟩,.int .i64 1,.string ⟨#[112,114,111,98,101,32,37,107]⟩,.int .i64 6,.string ⟨#[73,68]⟩,.int .i64 3,.string ⟨#[37,99]⟩] 46,.cells #[.int .i64 6,.string ⟨#[73,68]⟩,.int .i64 2,.string ⟨#[]⟩,.int .i64 24,.string ⟨#[]⟩,.int .i64 3,.string ⟨#[101,110,100]⟩] 46,.cells #[.int .i64 16,.string ⟨#[]⟩,.int .i64 4,.string ⟨#[110,111,110,101]⟩] 46,.cells #[.int .i64 23,.string ⟨#[]⟩,.int .i64 3,.string ⟨#[101,110,100]⟩,.int .i64 7,.string ⟨#[]⟩,.int .i64 4,.string ⟨#[115,101,101,110]⟩] 46,.cells #[.string ⟨#[]⟩,.int .i64 0,.slice (some ⟨w.heap.size+1,0,none⟩) 3 3,.string ⟨#[]⟩,.int .i64 0,.slice (some ⟨w.heap.size+1+1,0,none⟩) 2 2,.string ⟨#[]⟩,.int .i64 0,.slice (some ⟨w.heap.size+1+1+1,0,none⟩) 1 1,.string ⟨#[]⟩,.int .i64 0,.slice (some ⟨w.heap.size+1+1+1+1,0,none⟩) 2 2] Oe,.cells #[.int .i64 1,.int .i64 0,.string s,.string s,.string ⟨#[98,108,111,99,107]⟩,.string ⟨#[]⟩,.string ⟨#[]⟩,.int .i64 2,.int .i64 8,.slice none 0 0] zp].foldl World.alloc w:=hw1.symm;have hb1:Below w.heap.size w w1:=by rw[hf];exact(VY _ w 0 _ rfl).2
 have h0:w1.heap[w.heap.size]? =some (.cells (zM MN) qm (0,0)):=by rw[hf];exact(VY _ w 0 _ rfl).1
 have h1:w1.heap[w.heap.size+1]? =some (.cells #[.int .i64 2,.string ⟨#[]⟩,.int .i64 1,.string ⟨#[115,100,42]⟩,.int .i64 12,.string ⟨#[]⟩,.int .i64 1,.string ⟨#[112,114,111,98,101,32,37,107]⟩,.int .i64 6,.string ⟨#[73,68]⟩,.int .i64 3,.string ⟨#[37,99]⟩] 46 (0,0)):=by rw[hf];exact(VY _ w 1 _ rfl).1
 have h2:w1.heap[w.heap.size+1+1]? =some (.cells #[.int .i64 6,.string ⟨#[73,68]⟩,.int .i64 2,.string ⟨#[]⟩,.int .i64 24,.string ⟨#[]⟩,.int .i64 3,.string ⟨#[101,110,100]⟩] 46 (0,0)):=by rw[hf];exact(VY _ w 2 _ rfl).1
 have h3:w1.heap[w.heap.size+1+1+1]? =some (.cells #[.int .i64 16,.string ⟨#[]⟩,.int .i64 4,.string ⟨#[110,111,110,101]⟩] 46 (0,0)):=by rw[hf];exact(VY _ w 3 _ rfl).1
 have h4:w1.heap[w.heap.size+1+1+1+1]? =some (.cells #[.int .i64 23,.string ⟨#[]⟩,.int .i64 3,.string ⟨#[101,110,100]⟩,.int .i64 7,.string ⟨#[]⟩,.int .i64 4,.string ⟨#[115,101,101,110]⟩] 46 (0,0)):=by rw[hf];exact(VY _ w 4 _ rfl).1
 have h5:w1.heap[w.heap.size+1+1+1+1+1]? =some (.cells #[.string ⟨#[]⟩,.int .i64 0,.slice (some ⟨w.heap.size+1,0,none⟩) 3 3,.string ⟨#[]⟩,.int .i64 0,.slice (some ⟨w.heap.size+1+1,0,none⟩) 2 2,.string ⟨#[]⟩,.int .i64 0,.slice (some ⟨w.heap.size+1+1+1,0,none⟩) 1 1,.string ⟨#[]⟩,.int .i64 0,.slice (some ⟨w.heap.size+1+1+1+1,0,none⟩) 2 2] Oe (0,0)):=by rw[hf];exact(VY _ w 5 _ rfl).1
 have h6:w1.heap[w.heap.size+1+1+1+1+1+1]? =some (.cells #[.int .i64 1,.int .i64 0,.string s,.string s,.string ⟨#[98,108,111,99,107]⟩,.string ⟨#[]⟩,.string ⟨#[]⟩,.int .i64 2,.int .i64 8,.slice none 0 0] zp (0,0)):=by rw[hf];exact(VY _ w 6 _ rfl).1
 have hs1:w1.heap.size=w.heap.size+7:=by rw[hf];simp
 clear hf;have HW1:=za hw1;have HB1:=za hb1;clear hw1 hb1;go_enter func25,ntmps25;go_upto_region 3 with fail
 rw[HW1.out];have hlw:w.heap.size<w1.heap.size:=zb;have hd6:=h6;obtain⟨⟨c0,c1,c2,c3,c4,c5,c6,c7,c8,c9⟩,-⟩:=Y7 hd6;have hl6:=zh h6;have hA1:Below w1.heap.size w1 (((w1.alloc (.cells #[.int .i64 1,.int .i64 0,.string s,.string s,.string ⟨#[98,108,111,99,107]⟩,.string ⟨#[]⟩,.string ⟨#[]⟩,.int .i64 2,.int .i64 8,.slice none 0 0] zp)).alloc (.cells #[.string ⟨#[112,114,111,98,101,32,115,100,97]⟩,.string ⟨#[120]⟩,.bool false,.int .i64 0] XC)).drew):=zV (zR zw);have hA2:Below w1.heap.size w1 (((w1.alloc (.cells #[.string ⟨#[112,114,111,98,101,32,115,100,97]⟩,.string ⟨#[120]⟩,.bool false,.int .i64 0] XC)).alloc (.cells #[.int .i64 1,.int .i64 0,.string s,.string s,.string ⟨#[98,108,111,99,107]⟩,.string ⟨#[]⟩,.string ⟨#[]⟩,.int .i64 2,.int .i64 8,.slice none 0 0] zp)).drew):=zV (zR zw);have hstA:=FI ((hA1.block _ hlw).trans h0) rfl (Z2 s w1.heap.size (w1.heap.size+1));have hstB:=FI ((hA2.block _ hlw).trans h0) rfl (Z2 s (w1.heap.size+1) w1.heap.size);have HEnd:Hid (∀(W:World) (td th:Nat),Below w1.heap.size w1 W->W.heap[td]? =some (.cells #[.int .i64 1,.int .i64 0,.string s,.string s,.string ⟨#[98,108,111,99,107]⟩,.string ⟨#[]⟩,.string ⟨#[]⟩,.int .i64 2,.int .i64 8,.slice none 0 0] zp (0,0))->W.heap[th]? =some (.cells #[.string ⟨#[112,114,111,98,101,32,115,100,97]⟩,.string ⟨#[120]⟩,.bool false,.int .i64 0] XC (0,0))->w.heap.size<td->w.heap.size<th->LP s w (.returned (.tuple #[.slice (some ⟨w.heap.size+5,0,none⟩) 4 4,.agg (zM (Z2 s td th))])) (W.setRow w.heap.size (zM (Z2 s td th)))):=za fun W td th hW e1 e2 l1 l2=>by
  have hg:=qM W w.heap.size (zM (Z2 s td th));refine⟨w.heap.size+1,w.heap.size+2,w.heap.size+3,w.heap.size+4,w.heap.size+5,td,th,rfl,⟨zb,zb,zb,zb,zb,zb,zb⟩,?_,?_,(bt HB1.out hW).grown hg (bt HB1.out hW).size (fun j e=>kY)⟩
  · exact(zeS ((hW.block _ (zh h1)).trans h1) ((hW.block _ (zh h2)).trans h2) ((hW.block _ (zh h3)).trans h3) ((hW.block _ (zh h4)).trans h4) ((hW.block _ (zh h5)).trans h5)).grown hg (fun _ p e=>by cases e;show w.heap.size+5≠_;omega) (fun y hy p e=>by
     simp only[QK,List.mem_cons,List.not_mem_nil,or_false]at hy;rcases hy with rfl|rfl|rfl|rfl
     · cases e;show w.heap.size+1≠_;omega
     · cases e;show w.heap.size+2≠_;omega
     · cases e;show w.heap.size+3≠_;omega
     · cases e;show w.heap.size+4≠_;omega)
  · exact(zfQ e1 e2).grown hg (fun a ha p e=>by
     rcases List.mem_append.1 ha with ha|ha
     · simp only[List.mem_cons,List.not_mem_nil,or_false,Z2]at ha;rcases ha with rfl|rfl|rfl|rfl|rfl|rfl|rfl|rfl
       · cases e;show td≠_;omega
       all_goals first
        |(cases e;done)
        |(cases e;show th≠_;omega)
     · obtain⟨x,hx,rfl⟩:=List.mem_map.1 ha;rw[List.mem_singleton.1 hx]at e;cases e)
 have HFa:∀o1 o2:Obj,(((w1.alloc o1).alloc o2).drew).heap[w1.heap.size]? =some o1/\(((w1.alloc o1).alloc o2).drew).heap[w1.heap.size+1]? =some o2:=fun o1 o2=>
  ⟨((zI (w1.alloc o1) o2).block _ zl).trans (heap_alloc_new w1 o1),by have:=heap_alloc_new (w1.alloc o1) o2;rw[World.size_alloc]at this;exact this⟩
 have HF1:=za (HFa (.cells #[.int .i64 1,.int .i64 0,.string s,.string s,.string ⟨#[98,108,111,99,107]⟩,.string ⟨#[]⟩,.string ⟨#[]⟩,.int .i64 2,.int .i64 8,.slice none 0 0] zp) (.cells #[.string ⟨#[112,114,111,98,101,32,115,100,97]⟩,.string ⟨#[120]⟩,.bool false,.int .i64 0] XC));have HF2:=za (HFa (.cells #[.string ⟨#[112,114,111,98,101,32,115,100,97]⟩,.string ⟨#[120]⟩,.bool false,.int .i64 0] XC) (.cells #[.int .i64 1,.int .i64 0,.string s,.string s,.string ⟨#[98,108,111,99,107]⟩,.string ⟨#[]⟩,.string ⟨#[]⟩,.int .i64 2,.int .i64 8,.slice none 0 0] zp));clear HFa;have HH0:=za h0;have HA1:=za hA1;have HA2:=za hA2;have HS1:=za hs1;clear h0 h1 h2 h3 h4 h5 h6 hd6 hA1 hA2 hs1;unfold zM Z2 at hstA hstB;dsimp only[List.length_cons,List.length_nil,Nat.zero_add]at hstA hstB;go_region
 all_goals
  go_wp2
  first
   | (refine CD rfl zj zj (setRow_heap _ _ _ _ _ _ ((HA1.out.block _ hlw).trans HH0.out)) underlying37 rfl Ut zj ?_
      exact HEnd.out _ w1.heap.size (w1.heap.size+1) HA1.out HF1.out.1 HF1.out.2 hlw zb)
   | (refine CD rfl zj zj (setRow_heap _ _ _ _ _ _ ((HA2.out.block _ hlw).trans HH0.out)) underlying37 rfl Ut zj ?_
      exact HEnd.out _ (w1.heap.size+1) w1.heap.size HA2.out HF2.out.2 HF2.out.1 zb hlw)
end
end Go.Proofs.YtobcmlmbblgcdaaGreatDoor

/- Contracts of functions that the law reaches, and what they rest on; each under the premises that it names. Shortened by a program. -/
import Derived.Test.YtecbmndgpepkcaaGreatDoorG41
import Derived.Test.YtecbmndgpepkcaaGreatDoorG39
namespace Go.Proofs.YtecbmndgpepkcaaGreatDoor
open Tryz
set_option maxHeartbeats 8000000
set_option maxRecDepth 100000
section
abbrev QA:ByteArray:=⟨#[115,100,97]⟩
abbrev Qb:ByteArray:=⟨#[115,100,98]⟩
def Qj(s:ByteArray):Dd:=⟨1,0,s,s,⟨#[98,108,111,99,107]⟩,⟨#[]⟩,⟨#[]⟩,2,8,[]⟩
def exI(s:ByteArray):NK:=⟨⟨#[97,100,100]⟩,[Qj s],1,[],[⟨⟨#[112,114,111,98,101,32,115,100,97]⟩,⟨#[120]⟩,false,0⟩],9⟩
def Zg(s:ByteArray):Zm:=⟨exI s,Qj s,ZP [Qj s] 1,pntS [Qj s] (Qj s)⟩
def XH:List (List Tm):=[[⟨2,⟨#[]⟩,1,⟨#[115,100,42]⟩⟩,⟨12,⟨#[]⟩,1,⟨#[112,114,111,98,101,32,37,107]⟩⟩,⟨6,⟨#[73,68]⟩,3,⟨#[37,99]⟩⟩],[⟨6,⟨#[73,68]⟩,2,⟨#[]⟩⟩,⟨24,⟨#[]⟩,3,⟨#[101,110,100]⟩⟩],[⟨16,⟨#[]⟩,4,⟨#[110,111,110,101]⟩⟩],[⟨23,⟨#[]⟩,3,⟨#[101,110,100]⟩⟩,⟨7,⟨#[]⟩,4,⟨#[115,101,101,110]⟩⟩]]
def gl(p s:ze)(e:List (List El)):Prop:=Qi p=some e/\qR s=true
theorem kg1:zS [115,100,42] [115,100,97]=true:=by
 have e:Qi [115,100,42]=some [[.lit 115,.lit 100,.star]]:=zg;have e2:qR [115,100,97]=true:=zg;exact Ng
theorem kg2:zS [115,100,42] [115,100,98]=true:=by
 have e:Qi [115,100,42]=some [[.lit 115,.lit 100,.star]]:=zg;have e2:qR [115,100,98]=true:=zg;exact Ng
theorem kg3:zS [112,114,111,98,101,32,115,100,97] [112,114,111,98,101,32,115,100,97]=true:=by
 have e:Qi [112,114,111,98,101,32,115,100,97]=some [[.lit 112,.lit 114,.lit 111,.lit 98,.lit 101,.lit 32,.lit 115,.lit 100,.lit 97]]:=zg;have e2:qR [112,114,111,98,101,32,115,100,97]=true:=zg;exact Ng
theorem kg4:zS [112,114,111,98,101,32,115,100,97] [112,114,111,98,101,32,115,100,98]=false:=by
 have e:Qi [112,114,111,98,101,32,115,100,97]=some [[.lit 112,.lit 114,.lit 111,.lit 98,.lit 101,.lit 32,.lit 115,.lit 100,.lit 97]]:=zg;have e2:qR [112,114,111,98,101,32,115,100,98]=true:=zg;exact Ng
theorem kg5:zS [] [120]=false:=by
 have e:Qi []=some [[]]:=zg;have e2:qR [120]=true:=zg;unfold zS;rw[e];simp[e2,Ye,qG]
theorem kg6:zS [] []=true:=by
 have e:Qi []=some [[]]:=zg;have e2:qR []=true:=zg;unfold zS;rw[e];simp[e2,Ye,qG]
section
variable{c:Zm}{l r:List Tm}{x y:Ev}{t:Tm}{ls:List (List Tm)}{f k:Nat}{held:List Int}
theorem I7(h:qA t.op=true)(h2:qZ c l x t=(y,true)):Qm c l (t::r) x=Qm c l r y:=by rw[Qm,if_pos h,h2];rfl
theorem j9(h:qA t.op=true)(h2:qZ c l x t=(y,false)):Qm c l (t::r) x=(y,false):=by rw[Qm,if_pos h,h2];rfl
theorem Kn(h:qA t.op=false):Qm c l (t::r) x=Qm c l r x:=by rw[Qm,if_neg G9]
theorem GX(h:Qm c l l {x with ab:=c.dev,re:=false}=(y,true)):ZN c x l=((l.filter fun t=> !qA t.op).foldl (QJ c) y,true):=by unfold ZN;rw[h];rfl
theorem De(h:Qm c l l {x with ab:=c.dev,re:=false}=(y,false)):ZN c x l=(y,false):=by unfold ZN;rw[h];rfl
theorem IC(hl:ls[k]? =some l)(h:ZN c x l=(y,true)):Zi c ls (f+1) k x held=Zi c ls f (Qe ls k l) y (held++[(k:Int)]):=Fs
theorem EM(hl:ls[k]? =some l)(h:ZN c x l=(y,false)):Zi c ls (f+1) k x held=Zi c ls f (k+1) y held:=Fs
theorem Hw(h:Z4 t=true):qZ c l x t=(x,VS t c.dev):=by unfold qZ;rw[if_pos h]
theorem Fc(h:Z4 t=false)(h2:qO t=false)(h3:t.key=12){a:ByteArray}{n e:Int}(hc:qL c x t.value=(a,n,e)):qZ c l x t=({Q3 x n with dr:={(Q3 x n).dr with res:=a}},(e==0)==(t.op==1)):=by
 unfold qZ;rw[if_neg G9,if_neg (by rw[h2];simp),if_pos h3,hc]
theorem AT(h:Z4 t=false)(h2:qO t=false)(h3:t.key≠12)(h4:t.key≠14):qZ c l x t=(x,K7 t c.i.act x.dr):=by
 unfold qZ;rw[if_neg G9,if_neg (by rw[h2];simp),if_neg h3,if_neg h4]
end
abbrev BQ:Tm:=⟨2,⟨#[]⟩,1,⟨#[115,100,42]⟩⟩
abbrev Gm:Tm:=⟨12,⟨#[]⟩,1,⟨#[112,114,111,98,101,32,37,107]⟩⟩
abbrev tA2:Tm:=⟨6,⟨#[73,68]⟩,3,⟨#[37,99]⟩⟩
abbrev tB0:Tm:=⟨6,⟨#[73,68]⟩,2,⟨#[]⟩⟩
abbrev tB1:Tm:=⟨24,⟨#[]⟩,3,⟨#[101,110,100]⟩⟩
abbrev lA:List Tm:=[BQ,Gm,tA2]
abbrev lB:List Tm:=[tB0,tB1]
abbrev lC:List Tm:=[⟨16,⟨#[]⟩,4,⟨#[110,111,110,101]⟩⟩]
abbrev lD:List Tm:=[⟨23,⟨#[]⟩,3,⟨#[101,110,100]⟩⟩,⟨7,⟨#[]⟩,4,⟨#[115,101,101,110]⟩⟩]
def jl:Ev:=Yp (Zg QA)
def GZ:Ev:={jl with ab:=Qj QA,re:=false}
def Fh:Ev:={Q3 GZ 0 with dr:={(Q3 GZ 0).dr with res:=⟨#[120]⟩}}
def jJ:Ev:=(lA.filter fun t=> !qA t.op).foldl (QJ (Zg QA)) Fh
def IV:Ev:={jJ with ab:=Qj QA,re:=false}
def vp:Ev:=(lB.filter fun t=> !qA t.op).foldl (QJ (Zg QA)) IV
def x4A:Ev:={vp with ab:=Qj QA,re:=false}
def kg:Ev:=(lD.filter fun t=> !qA t.op).foldl (QJ (Zg QA)) x4A
theorem ziF:qL (Zg QA) GZ Gm.value=(⟨#[120]⟩,0,0):=by
 unfold qL;rw[show QC (Zg QA) GZ Gm.value=(⟨#[112,114,111,98,101,32,115,100,97]⟩:ByteArray)from by kernel_rfl];unfold Za;rw[if_neg zi];have:((Zg QA).i.hps.find? fun x=>zS (L x.cmd) (L (⟨#[112,114,111,98,101,32,115,100,97]⟩:ByteArray)))=some ⟨⟨#[112,114,111,98,101,32,115,100,97]⟩,⟨#[120]⟩,false,0⟩:=by
  show List.find? _ [_]=_;rw[List.find?_cons_of_pos (by exact kg3)]
 rw[this];rfl
theorem ziD:ZN (Zg QA) jl lA=(jJ,true):=by
 refine GX ?_;rw[I7 (y:=GZ) rfl (by rw[Hw rfl];show(_,(true&&(zS [115,100,42] [115,100,97]==true)))=_;rw[kg1];rfl)];rw[I7 (y:=Fh) rfl (by rw[Fc rfl rfl rfl ziF];rfl)];rw[Kn rfl];rfl
theorem zar:ZN (Zg QA) jJ lB=(vp,true):=by
 refine GX ?_;rw[I7 (y:=IV) rfl (by
  rw[AT rfl rfl zi zi];show(_,(true&&(zS [] (L (qF IV.dr.props [73,68]))==false)))=_;rw[show L (qF IV.dr.props [73,68])=[120]from by kernel_rfl,kg5];rfl)]
 rw[Kn rfl];rfl
theorem zbw:Zi (Zg QA) XH 5 0 (Yp (Zg QA)) []=(kg,[0,1,3]):=by
 show Zi (Zg QA) XH (4+1) 0 jl []=_;rw[IC (l:=lA) rfl ziD,show Qe XH 0 lA=1 from by kernel_rfl,IC (l:=lB) rfl zar,show Qe XH 1 lB=3 from by kernel_rfl,IC (l:=lD) (y:=kg) rfl (GX (by rw[Kn rfl,Kn rfl];rfl)),show Qe XH 3 lD=4 from by kernel_rfl,Zi];rfl
def TN:Ev:=Yp (Zg Qb)
def J1:Ev:={TN with ab:=Qj Qb,re:=false}
def ND:Ev:={Q3 J1 0 with dr:={(Q3 J1 0).dr with res:=⟨#[]⟩}}
def Is:Ev:={ND with ab:=Qj Qb,re:=false}
def x3B:Ev:={Is with ab:=Qj Qb,re:=false}
def FM:Ev:=(lC.filter fun t=> !qA t.op).foldl (QJ (Zg Qb)) x3B
def x4B:Ev:={FM with ab:=Qj Qb,re:=false}
def GC:Ev:=(lD.filter fun t=> !qA t.op).foldl (QJ (Zg Qb)) x4B
theorem zfr:qL (Zg Qb) J1 Gm.value=(⟨#[]⟩,0,143):=by
 unfold qL;rw[show QC (Zg Qb) J1 Gm.value=(⟨#[112,114,111,98,101,32,115,100,98]⟩:ByteArray)from by kernel_rfl];unfold Za;rw[if_neg zi];have:((Zg Qb).i.hps.find? fun x=>zS (L x.cmd) (L (⟨#[112,114,111,98,101,32,115,100,98]⟩:ByteArray)))=none:=by
  show List.find? _ [_]=_;rw[List.find?_cons_of_neg (by rw[show zS (L (⟨#[112,114,111,98,101,32,115,100,97]⟩:ByteArray)) (L (⟨#[112,114,111,98,101,32,115,100,98]⟩:ByteArray))=false from kg4];simp),List.find?_nil]
 rw[this]
theorem zbB:ZN (Zg Qb) TN lA=(ND,false):=by
 refine De ?_;rw[I7 (y:=J1) rfl (by rw[Hw rfl];show(_,(true&&(zS [115,100,42] [115,100,98]==true)))=_;rw[kg2];rfl)];rw[j9 (y:=ND) rfl (by rw[Fc rfl rfl rfl zfr];rfl)]
theorem zeb:ZN (Zg Qb) ND lB=(Is,false):=by
 refine De ?_;rw[j9 (y:=Is) rfl (by
  rw[AT rfl rfl zi zi];show(_,(true&&(zS [] (L (qF Is.dr.props [73,68]))==false)))=_;rw[show L (qF Is.dr.props [73,68])=[]from by kernel_rfl,kg6];rfl)]
theorem Dw:Zi (Zg Qb) XH 5 0 (Yp (Zg Qb)) []=(GC,[2,3]):=by
 show Zi (Zg Qb) XH (4+1) 0 TN []=_;rw[EM (l:=lA) rfl zbB,EM (l:=lB) rfl zeb,IC (l:=lC) (y:=FM) rfl (GX (by rw[Kn rfl];rfl)),show Qe XH 2 lC=3 from by kernel_rfl,IC (l:=lD) (y:=GC) rfl (GX (by rw[Kn rfl,Kn rfl];rfl)),show Qe XH 3 lD=4 from by kernel_rfl,Zi];rfl
theorem zbq:kg.dr.links.length=0:=zg
theorem zdC:kg.dr.tags.length=1:=zg
theorem Bc:(zR kg.dr.props [73,68]).map (·.val)=some ⟨#[120]⟩:=zg
theorem zeD:kg.dr.props.length=5:=zg
theorem zeE:GC.dr.links.length=1:=zg
end
section
open Go.RowKit
abbrev Ol:TypeId:=56
theorem ko{W:World}{g k n:Nat}{T:TypeId}{cs:Array Value}{xs:List Value}(h:W.heap[g]? =some (.cells cs T (0,0)))(hx:cs.toList=xs)(hl:xs.length=n*k):zD W (some ⟨g,0,none⟩) k n xs:=
 ⟨⟨hl,fun _=>⟨g,0,rfl,zh h,fun j u hu=>by rw[Nat.zero_add];exact zd h Fb⟩⟩,fun a e=>by injection e with e;rw[<-e];exact⟨rfl,zh h⟩⟩
theorem VT:∀(os:List Obj) (w:World) (i:Nat) (o:Obj),os[i]? =some o->(os.foldl World.alloc w).heap[w.heap.size+i]? =some o/\Below w.heap.size w (os.foldl World.alloc w)
 | [],w,i,o,h=>qD
 | a::os,w,0,o,h=>by
   injection h with h
   subst h;have hb:∀(os:List Obj) (w:World),Below w.heap.size w (os.foldl World.alloc w):=by
    intro os;induction os with
    |nil=>exact fun w=>zk
    |cons a os ih=>exact fun w=>bt (zI w a) (ih (w.alloc a))
   exact⟨((hb os (w.alloc a)).block _ zl).trans (by rw[Nat.add_zero];exact heap_alloc_new w a),bt (zI w a) (hb os _)⟩
 | a::os,w,i+1,o,h=>by
   obtain⟨h1,h2⟩:=VT os (w.alloc a) i o h;refine⟨?_,bt (zI w a) h2⟩;rw[World.size_alloc]at h1;rw[show w.heap.size+(i+1)=w.heap.size+1+i by omega];exact h1
def QU(g1 g2 g3 g4:Nat):List Rl:=[⟨⟨#[]⟩,0,⟨some ⟨g1,0,none⟩,3,[⟨2,⟨#[]⟩,1,⟨#[115,100,42]⟩⟩,⟨12,⟨#[]⟩,1,⟨#[112,114,111,98,101,32,37,107]⟩⟩,⟨6,⟨#[73,68]⟩,3,⟨#[37,99]⟩⟩]⟩⟩,⟨⟨#[]⟩,0,⟨some ⟨g2,0,none⟩,2,[⟨6,⟨#[73,68]⟩,2,⟨#[]⟩⟩,⟨24,⟨#[]⟩,3,⟨#[101,110,100]⟩⟩]⟩⟩,⟨⟨#[]⟩,0,⟨some ⟨g3,0,none⟩,1,[⟨16,⟨#[]⟩,4,⟨#[110,111,110,101]⟩⟩]⟩⟩,⟨⟨#[]⟩,0,⟨some ⟨g4,0,none⟩,2,[⟨23,⟨#[]⟩,3,⟨#[101,110,100]⟩⟩,⟨7,⟨#[]⟩,4,⟨#[115,101,101,110]⟩⟩]⟩⟩]
theorem vm(g1 g2 g3 g4:Nat):G1 (QU g1 g2 g3 g4):=by
 refine⟨by show 4<=40;omega,fun y hy=>?_⟩;exact Ah
theorem E2(g1 g2 g3 g4:Nat):∀y∈QU g1 g2 g3 g4,∀t∈y.tms.l,t.key≠14:=by
 intro y hy;exact Ah
theorem ze5{w:World}{g1 g2 g3 g4 g5:Nat}(h1:w.heap[g1]? =some (.cells #[.int .i64 2,.string ⟨#[]⟩,.int .i64 1,.string ⟨#[115,100,42]⟩,.int .i64 12,.string ⟨#[]⟩,.int .i64 1,.string ⟨#[112,114,111,98,101,32,37,107]⟩,.int .i64 6,.string ⟨#[73,68]⟩,.int .i64 3,.string ⟨#[37,99]⟩] 52 (0,0)))(h2:w.heap[g2]? =some (.cells #[.int .i64 6,.string ⟨#[73,68]⟩,.int .i64 2,.string ⟨#[]⟩,.int .i64 24,.string ⟨#[]⟩,.int .i64 3,.string ⟨#[101,110,100]⟩] 52 (0,0)))(h3:w.heap[g3]? =some (.cells #[.int .i64 16,.string ⟨#[]⟩,.int .i64 4,.string ⟨#[110,111,110,101]⟩] 52 (0,0)))(h4:w.heap[g4]? =some (.cells #[.int .i64 23,.string ⟨#[]⟩,.int .i64 3,.string ⟨#[101,110,100]⟩,.int .i64 7,.string ⟨#[]⟩,.int .i64 4,.string ⟨#[115,101,101,110]⟩] 52 (0,0)))
 (h5:w.heap[g5]? =some (.cells #[.string ⟨#[]⟩,.int .i64 0,.slice (some ⟨g1,0,none⟩) 3 3,.string ⟨#[]⟩,.int .i64 0,.slice (some ⟨g2,0,none⟩) 2 2,.string ⟨#[]⟩,.int .i64 0,.slice (some ⟨g3,0,none⟩) 1 1,.string ⟨#[]⟩,.int .i64 0,.slice (some ⟨g4,0,none⟩) 2 2] Ol (0,0))):ZX w (some ⟨g5,0,none⟩) (QU g1 g2 g3 g4):=by
 refine⟨(ko h5 rfl rfl).row,fun y hy=>?_,fun y hy=>?_⟩
 · simp only[QU,List.mem_cons,List.not_mem_nil,or_false]at hy;rcases hy with rfl|rfl|rfl|rfl
   · exact ko h1 rfl rfl
   · exact ko h2 rfl rfl
   · exact ko h3 rfl rfl
   · exact ko h4 rfl rfl
 · simp only[QU,List.mem_cons,List.not_mem_nil,or_false]at hy;rcases hy with rfl|rfl|rfl|rfl<;>(intro e;cases e)
def ZZ(s:ByteArray)(td th:Nat):zt:=⟨⟨#[97,100,100]⟩,some ⟨td,0,none⟩,1,[⟨1,0,s,s,⟨#[98,108,111,99,107]⟩,⟨#[]⟩,⟨#[]⟩,2,8,⟨none,0,[]⟩⟩],1,ZE,⟨some ⟨th,0,none⟩,1,[⟨⟨#[112,114,111,98,101,32,115,100,97]⟩,⟨#[120]⟩,false,0⟩]⟩,9,qc,⟨#[]⟩,⟨#[]⟩⟩
theorem ve(s:ByteArray)(td th:Nat):zm (ZZ s td th).tds=[Qj s]:=rfl
theorem yr(s:ByteArray)(hs:s.size<=100)(td th:Nat):U8 (ZZ s td th):=by
 have hD:∀d∈zm (ZZ s td th).tds,d=Qj s:=fun d hd=>by rw[ve]at hd;exact List.mem_singleton.1 hd
 refine⟨⟨⟨by show(1:Int)<=9;omega,by show(9:Int)<=1000;omega,fun x hx=>?_⟩,fun x hx=>YS,fun n x hx=>?_⟩,fun d hd=>?_,?_,by show 1<=100;omega,DD,DE,by show 1<=1000;omega,fun y hy=>?_,by show 3<=1000000;omega,by show 0<=1000;omega,fun y hy=>J2,fun d hd=>?_⟩
 · rw[List.mem_singleton.1 hx];decide
 · have:=AR n _ _ x hx;omega
 · rw[hD d hd];exact⟨⟨⟨DD,DE⟩,⟨by show(-9223372036854775808:Int)<=0;omega,by show(0:Int)<=9223372036854775807;omega⟩,by show s.size<=1000;omega⟩,by show 5<=1000;omega,by show 0<=1000;omega,by show(-9223372036854775808:Int)<=8;omega,by show(8:Int)<=9223372036854775807;omega,fun a ha=>by cases ha⟩
 · rw[ve];exact⟨by show(1:Int)<=1;omega,(fun x hx=>YS),Or.inl rfl,trivial⟩
 · rw[List.mem_singleton.1 hy];decide
 · rw[hD d hd];show 0<=1000000;omega
theorem zdQ{w:World}{s:ByteArray}{td th:Nat}(h1:w.heap[td]? =some (.cells #[.int .i64 1,.int .i64 0,.string s,.string s,.string ⟨#[98,108,111,99,107]⟩,.string ⟨#[]⟩,.string ⟨#[]⟩,.int .i64 2,.int .i64 8,.slice none 0 0] zp (0,0)))(h2:w.heap[th]? =some (.cells #[.string ⟨#[112,114,111,98,101,32,115,100,97]⟩,.string ⟨#[120]⟩,.bool false,.int .i64 0] XI (0,0))):ZH w (ZZ s td th):=by
 refine⟨⟨ko h1 rfl rfl,fun d hd=>?_,by show 1<=1000;omega,fun d hd=>?_⟩,⟨zB.empty,zB.empty,zB.empty,zB.empty,zB.empty⟩,⟨ko h2 rfl rfl,zo,by show 1<=maxLen;unfold maxLen;omega,fun e=>Zp⟩⟩
 · rw[List.mem_singleton.1 hd];exact zD.nil
 · rw[List.mem_singleton.1 hd];exact Nat.zero_le _
def vQ(s:ByteArray)(w:World)(e:Ending)(w':World):Prop:=∃g1 g2 g3 g4 g5 td th,e=.returned (.tuple #[.slice (some ⟨g5,0,none⟩) 4 4,.agg #[.string ⟨#[97,100,100]⟩,.slice (some ⟨td,0,none⟩) 1 1,.int .i64 1,.string ⟨#[]⟩,.int .i64 0,.slice none 0 0,.slice none 0 0,.slice none 0 0,.slice none 0 0,.slice none 0 0,.string ⟨#[]⟩,.int .i64 0,.string ⟨#[]⟩,.string ⟨#[]⟩,.int .i64 0,.slice (some ⟨th,0,none⟩) 1 1,.int .i64 9]])/\(w.heap.size<=g1/\w.heap.size<=g2/\w.heap.size<=g3/\w.heap.size<=g4/\w.heap.size<=g5/\w.heap.size<=td/\w.heap.size<=th)/\ZX w' (some ⟨g5,0,none⟩) (QU g1 g2 g3 g4)/\ZH w' (ZZ s td th)/\Below w.heap.size w w'
theorem Bo(v u:Value):Instr.storeAt ql v u=Zo ql v u:=kN
theorem CG{w:World}{q:Nat}{cs:Array Value}(h:w.heap[q]? =some (.cells cs ql (0,0)))(hs:cs.size=17)(c:zt):(Zo ql (.pointer (some ⟨q,0,none⟩)) (.agg (zM c))).run prog w=.ok () (w.setRow q (zM c)):=by
 have h1:=XC (P:=prog) (w:=w) (T:=ql) (g:=q) (o:=0) (cs:=cs) (vs:=zM c) h (by rw[hs];show 0+17<=17;omega) (by show 0<17;omega) Us (zg5 c);rw[Un cs (zM c) My]at h1;exact h1
theorem FN{P:Program}{fn:Func}{R:Ending->World->Prop}{a:Act}{W:World}{g:Nat}{p q:Tmp}{ty t:TypeId}{cs:Array Value}{u:Value}{fr:Nat×Nat}{d:TypeDesc}(h:fn.results=#[.tmp q,.cell p ty])(hp:a.tmps.getD p undef=.pointer (some ⟨g,0,none⟩))(hq:a.tmps.getD q undef=u)
 (hg:W.heap[g]? =some (.cells cs t fr))(hu:P.underlying ty=some d)(hd:(match d with| .struct _| .array _ _=>true|_=>false)=true)(hi:(P.info? ty).map (·.size)=some cs.size)(hdef:a.defers=[])
 (hR:R (.returned (.tuple #[u,.agg cs])) W):bodyPost P fn R .ret a W:=by
 have hp':a.tmps[p]?.getD undef=.pointer (some ⟨g,0,none⟩):=by simpa using hp
 have hq':a.tmps[q]?.getD undef=u:=by simpa using hq
 refine bodyPost_ret (v:=.tuple #[u,.agg cs]) ?_ hdef hR;simp[results,h,hp',hq',asAddr,run_loadVar_row W g t ty cs fr d hg hu hd hi]
attribute [local go_sem ↓] Bo
theorem yh(s:ByteArray)(w:World):Calls prog 32 #[.string s] w (vQ s w):=by
 obtain⟨w1,hw1⟩:∃w1,((((((w.alloc (.cells #[.string ⟨#[]⟩,.slice none 0 0,.int .i64 0,.string ⟨#[]⟩,.int .i64 0,.slice none 0 0,.slice none 0 0,.slice none 0 0,.slice none 0 0,.slice none 0 0,.string ⟨#[]⟩,.int .i64 0,.string ⟨#[]⟩,.string ⟨#[]⟩,.int .i64 0,.slice none 0 0,.int .i64 0] ql)).alloc (.cells #[.int .i64 2,.string ⟨#[]⟩,.int .i64 1,.string ⟨#[115,100,42]⟩,.int .i64 12,.string ⟨#[]⟩,.int .i64 1,.string ⟨#[112,114,111,98,101,32,37,107]⟩,.int .i64 6,.string ⟨#[73,68]⟩,.int .i64 3,.string ⟨#[37,99]⟩] 52)).alloc (.cells #[.int .i64 6,.string ⟨#[73,68]⟩,.int .i64 2,.string ⟨#[]⟩,.int .i64 24,.string ⟨#[]⟩,.int .i64 3,.string ⟨#[101,110,100]⟩] 52)).alloc (.cells #[.int .i64 16,.string ⟨#[]⟩,.int .i64 4,.string ⟨#[110,111,110,101]⟩] 52)).alloc (.cells #[.int .i64 23,.string ⟨#[]⟩,.int .i64 3,.string ⟨#[101,110,100]⟩,.int .i64 7,.string ⟨#[]⟩,.int .i64 4,.string ⟨#[115,101,101,110]⟩] 52)).alloc (.cells #[.string ⟨#[]⟩,.int .i64 0,.slice (some ⟨w.heap.size+1,0,none⟩) 3 3,.string ⟨#[]⟩,.int .i64 0,.slice (some ⟨w.heap.size+1+1,0,none⟩) 2 2,.string ⟨#[]⟩,.int .i64 0,.slice (some ⟨w.heap.size+1+1+1,0,none⟩) 1 1,.string ⟨#[]⟩,.int .i64 0,.slice (some ⟨w.heap.size+1+1+1+1,0,none⟩) 2 2] Ol)).alloc (.cells #[.int .i64 1,.int .i64 0,.string s,.string s,.string ⟨#[98,108,111,99,107]⟩,.string ⟨#[]⟩,.string ⟨#[]⟩,.int .i64 2,.int .i64 8,.slice none 0 0] zp)=w1:=⟨_,rfl⟩;have hf:w1=[.cells #[.string ⟨#[]⟩,.slice none 0 0,.int .i64 0,.string ⟨#[]⟩,.int .i64 0,.slice none 0 0,.slice none 0 0,.slice none 0 0,.slice none 0 0,.slice none 0 0,.string ⟨#[]⟩,.int .i64 0,.string ⟨#[]⟩,.string ⟨#[]⟩,.int .i64 0,.slice none 0 0,.int .i64 0] ql,.cells #[.int .i64 2,.string ⟨#[]⟩,.int .i64 1,.string ⟨#[115,100,42]⟩,.int .i64 12,.string ⟨#[]⟩,.int .i64 1,.string ⟨#[112,114,111,98,101,32,37,107]⟩,.int .i64 6,.string ⟨#[73,68]⟩,.int .i64 3,.string ⟨#[37,99]⟩] 52,.cells #[.int .i64 6,.string ⟨#[73,68]⟩,.int .i64 2,.string ⟨#[]⟩,.int .i64 24,.string ⟨#[]⟩,.int .i64 3,.string ⟨#[101,110,100]⟩] 52,.cells #[.int .i64 16,.string ⟨#[]⟩,.int .i64 4,.string ⟨#[110,111,110,101]⟩] 52,.cells #[.int .i64 23,.string ⟨#[]⟩,.int .i64 3,.string ⟨#[101,110,100]⟩,.int .i64 7,.string ⟨#[]⟩,.int .i64 4,.string ⟨#[115,101,101,110]⟩] 52,.cells #[.string ⟨#[]⟩,.int .i64 0,.slice (some ⟨w.heap.size+1,0,none⟩) 3 3,.string ⟨#[]⟩,.int .i64 0,.slice (some ⟨w.heap.size+1+1,0,none⟩) 2 2,.string ⟨#[]⟩,.int .i64 0,.slice (some ⟨w.heap.size+1+1+1,0,none⟩) 1 1,.string ⟨#[]⟩,.int .i64 0,.slice (some ⟨w.heap.size+1+1+1+1,0,none⟩) 2 2] Ol,.cells #[.int .i64 1,.int .i64 0,.string s,.string s,.string ⟨#[98,108,111,99,107]⟩,.string ⟨#[]⟩,.string ⟨#[]⟩,.int .i64 2,.int .i64 8,.slice none 0 0] zp].foldl World.alloc w:=hw1.symm;have hb1:Below w.heap.size w w1:=by rw[hf];exact(VT _ w 0 _ rfl).2
 have h0:w1.heap[w.heap.size]? =some (.cells (zM On) ql (0,0)):=by rw[hf];exact(VT _ w 0 _ rfl).1
 have h1:w1.heap[w.heap.size+1]? =some (.cells #[.int .i64 2,.string ⟨#[]⟩,.int .i64 1,.string ⟨#[115,100,42]⟩,.int .i64 12,.string ⟨#[]⟩,.int .i64 1,.string ⟨#[112,114,111,98,101,32,37,107]⟩,.int .i64 6,.string ⟨#[73,68]⟩,.int .i64 3,.string ⟨#[37,99]⟩] 52 (0,0)):=by rw[hf];exact(VT _ w 1 _ rfl).1
 have h2:w1.heap[w.heap.size+1+1]? =some (.cells #[.int .i64 6,.string ⟨#[73,68]⟩,.int .i64 2,.string ⟨#[]⟩,.int .i64 24,.string ⟨#[]⟩,.int .i64 3,.string ⟨#[101,110,100]⟩] 52 (0,0)):=by rw[hf];exact(VT _ w 2 _ rfl).1
 have h3:w1.heap[w.heap.size+1+1+1]? =some (.cells #[.int .i64 16,.string ⟨#[]⟩,.int .i64 4,.string ⟨#[110,111,110,101]⟩] 52 (0,0)):=by rw[hf];exact(VT _ w 3 _ rfl).1
 have h4:w1.heap[w.heap.size+1+1+1+1]? =some (.cells #[.int .i64 23,.string ⟨#[]⟩,.int .i64 3,.string ⟨#[101,110,100]⟩,.int .i64 7,.string ⟨#[]⟩,.int .i64 4,.string ⟨#[115,101,101,110]⟩] 52 (0,0)):=by rw[hf];exact(VT _ w 4 _ rfl).1
 have h5:w1.heap[w.heap.size+1+1+1+1+1]? =some (.cells #[.string ⟨#[]⟩,.int .i64 0,.slice (some ⟨w.heap.size+1,0,none⟩) 3 3,.string ⟨#[]⟩,.int .i64 0,.slice (some ⟨w.heap.size+1+1,0,none⟩) 2 2,.string ⟨#[]⟩,.int .i64 0,.slice (some ⟨w.heap.size+1+1+1,0,none⟩) 1 1,.string ⟨#[]⟩,.int .i64 0,.slice (some ⟨w.heap.size+1+1+1+1,0,none⟩) 2 2] Ol (0,0)):=by rw[hf];exact(VT _ w 5 _ rfl).1
 have h6:w1.heap[w.heap.size+1+1+1+1+1+1]? =some (.cells #[.int .i64 1,.int .i64 0,.string s,.string s,.string ⟨#[98,108,111,99,107]⟩,.string ⟨#[]⟩,.string ⟨#[]⟩,.int .i64 2,.int .i64 8,.slice none 0 0] zp (0,0)):=by rw[hf];exact(VT _ w 6 _ rfl).1
 have hs1:w1.heap.size=w.heap.size+7:=by rw[hf];simp
 clear hf;have HW1:=za hw1;have HB1:=za hb1;clear hw1 hb1;go_enter func32,ntmps32;go_upto_region 3 with fail
 rw[HW1.out];have hlw:w.heap.size<w1.heap.size:=zb;have hd6:=h6;obtain⟨⟨c0,c1,c2,c3,c4,c5,c6,c7,c8,c9⟩,-⟩:=Xi hd6;have hl6:=zh h6;have hA1:Below w1.heap.size w1 (((w1.alloc (.cells #[.int .i64 1,.int .i64 0,.string s,.string s,.string ⟨#[98,108,111,99,107]⟩,.string ⟨#[]⟩,.string ⟨#[]⟩,.int .i64 2,.int .i64 8,.slice none 0 0] zp)).alloc (.cells #[.string ⟨#[112,114,111,98,101,32,115,100,97]⟩,.string ⟨#[120]⟩,.bool false,.int .i64 0] XI)).drew):=zU (zV zw);have hA2:Below w1.heap.size w1 (((w1.alloc (.cells #[.string ⟨#[112,114,111,98,101,32,115,100,97]⟩,.string ⟨#[120]⟩,.bool false,.int .i64 0] XI)).alloc (.cells #[.int .i64 1,.int .i64 0,.string s,.string s,.string ⟨#[98,108,111,99,107]⟩,.string ⟨#[]⟩,.string ⟨#[]⟩,.int .i64 2,.int .i64 8,.slice none 0 0] zp)).drew):=zU (zV zw);have hstA:=CG ((hA1.block _ hlw).trans h0) rfl (ZZ s w1.heap.size (w1.heap.size+1));have hstB:=CG ((hA2.block _ hlw).trans h0) rfl (ZZ s (w1.heap.size+1) w1.heap.size);have HEnd:Hid (∀(W:World) (td th:Nat),Below w1.heap.size w1 W->W.heap[td]? =some (.cells #[.int .i64 1,.int .i64 0,.string s,.string s,.string ⟨#[98,108,111,99,107]⟩,.string ⟨#[]⟩,.string ⟨#[]⟩,.int .i64 2,.int .i64 8,.slice none 0 0] zp (0,0))->W.heap[th]? =some (.cells #[.string ⟨#[112,114,111,98,101,32,115,100,97]⟩,.string ⟨#[120]⟩,.bool false,.int .i64 0] XI (0,0))->w.heap.size<td->w.heap.size<th->vQ s w (.returned (.tuple #[.slice (some ⟨w.heap.size+5,0,none⟩) 4 4,.agg (zM (ZZ s td th))])) (W.setRow w.heap.size (zM (ZZ s td th)))):=za fun W td th hW e1 e2 l1 l2=>by
  have hg:=qK W w.heap.size (zM (ZZ s td th));refine⟨w.heap.size+1,w.heap.size+2,w.heap.size+3,w.heap.size+4,w.heap.size+5,td,th,rfl,⟨zb,zb,zb,zb,zb,zb,zb⟩,?_,?_,(bt HB1.out hW).grown hg (bt HB1.out hW).size (fun j e=>km)⟩
  · exact(ze5 ((hW.block _ (zh h1)).trans h1) ((hW.block _ (zh h2)).trans h2) ((hW.block _ (zh h3)).trans h3) ((hW.block _ (zh h4)).trans h4) ((hW.block _ (zh h5)).trans h5)).grown hg (fun _ p e=>by cases e;show w.heap.size+5≠_;omega) (fun y hy p e=>by
     simp only[QU,List.mem_cons,List.not_mem_nil,or_false]at hy;rcases hy with rfl|rfl|rfl|rfl
     · cases e;show w.heap.size+1≠_;omega
     · cases e;show w.heap.size+2≠_;omega
     · cases e;show w.heap.size+3≠_;omega
     · cases e;show w.heap.size+4≠_;omega)
  · exact(zdQ e1 e2).grown hg (fun a ha p e=>by
     rcases List.mem_append.1 ha with ha|ha
     · simp only[List.mem_cons,List.not_mem_nil,or_false,ZZ]at ha;rcases ha with rfl|rfl|rfl|rfl|rfl|rfl|rfl|rfl
       · cases e;show td≠_;omega
       all_goals first
        |(cases e;done)
        |(cases e;show th≠_;omega)
     · obtain⟨x,hx,rfl⟩:=List.mem_map.1 ha;rw[List.mem_singleton.1 hx]at e;cases e)
 have HFa:∀o1 o2:Obj,(((w1.alloc o1).alloc o2).drew).heap[w1.heap.size]? =some o1/\(((w1.alloc o1).alloc o2).drew).heap[w1.heap.size+1]? =some o2:=fun o1 o2=>
  ⟨((zI (w1.alloc o1) o2).block _ zl).trans (heap_alloc_new w1 o1),by have:=heap_alloc_new (w1.alloc o1) o2;rw[World.size_alloc]at this;exact this⟩
 have HF1:=za (HFa (.cells #[.int .i64 1,.int .i64 0,.string s,.string s,.string ⟨#[98,108,111,99,107]⟩,.string ⟨#[]⟩,.string ⟨#[]⟩,.int .i64 2,.int .i64 8,.slice none 0 0] zp) (.cells #[.string ⟨#[112,114,111,98,101,32,115,100,97]⟩,.string ⟨#[120]⟩,.bool false,.int .i64 0] XI));have HF2:=za (HFa (.cells #[.string ⟨#[112,114,111,98,101,32,115,100,97]⟩,.string ⟨#[120]⟩,.bool false,.int .i64 0] XI) (.cells #[.int .i64 1,.int .i64 0,.string s,.string s,.string ⟨#[98,108,111,99,107]⟩,.string ⟨#[]⟩,.string ⟨#[]⟩,.int .i64 2,.int .i64 8,.slice none 0 0] zp));clear HFa;have HH0:=za h0;have HA1:=za hA1;have HA2:=za hA2;have HS1:=za hs1;clear h0 h1 h2 h3 h4 h5 h6 hd6 hA1 hA2 hs1;unfold zM ZZ at hstA hstB;dsimp only[List.length_cons,List.length_nil,Nat.zero_add]at hstA hstB;go_region
 all_goals
  go_wp2
  first
   | (refine FN rfl zj zj (setRow_heap _ _ _ _ _ _ ((HA1.out.block _ hlw).trans HH0.out)) underlying37 rfl Us zj ?_
      exact HEnd.out _ w1.heap.size (w1.heap.size+1) HA1.out HF1.out.1 HF1.out.2 hlw zb)
   | (refine FN rfl zj zj (setRow_heap _ _ _ _ _ _ ((HA2.out.block _ hlw).trans HH0.out)) underlying37 rfl Us zj ?_
      exact HEnd.out _ (w1.heap.size+1) w1.heap.size HA2.out HF2.out.2 HF2.out.1 zb hlw)
end
end Go.Proofs.YtecbmndgpepkcaaGreatDoor

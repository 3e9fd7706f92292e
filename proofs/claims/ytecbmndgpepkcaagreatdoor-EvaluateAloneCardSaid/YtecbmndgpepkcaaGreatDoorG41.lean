/- Contracts that the law rests on, each under the premises that it names. -/
import Derived.Test.YtecbmndgpepkcaaGreatDoorG38
import Derived.Test.YtecbmndgpepkcaaGreatDoorG36
namespace Go.Proofs.YtecbmndgpepkcaaGreatDoor
open Tryz
set_option maxHeartbeats 8000000
set_option maxRecDepth 100000
section
abbrev QJ:ByteArray:=⟨#[115,100,97]⟩
abbrev Qj:ByteArray:=⟨#[115,100,98]⟩
def Qs(s:ByteArray):Dd:=⟨1,0,s,s,⟨#[98,108,111,99,107]⟩,⟨#[]⟩,⟨#[]⟩,2,8,[]⟩
def exI(s:ByteArray):QV:=⟨⟨#[97,100,100]⟩,[Qs s],1,[],[⟨⟨#[112,114,111,98,101,32,115,100,97]⟩,⟨#[120]⟩,false,0⟩],9⟩
def Zn(s:ByteArray):qp:=⟨exI s,Qs s,qK [Qs s] 1,pntS [Qs s] (Qs s)⟩
def XG:List (List Tm):=[[⟨2,⟨#[]⟩,1,⟨#[115,100,42]⟩⟩,⟨12,⟨#[]⟩,1,⟨#[112,114,111,98,101,32,37,107]⟩⟩,⟨6,⟨#[73,68]⟩,3,⟨#[37,99]⟩⟩],[⟨6,⟨#[73,68]⟩,2,⟨#[]⟩⟩,⟨24,⟨#[]⟩,3,⟨#[101,110,100]⟩⟩],[⟨16,⟨#[]⟩,4,⟨#[110,111,110,101]⟩⟩],[⟨23,⟨#[]⟩,3,⟨#[101,110,100]⟩⟩,⟨7,⟨#[]⟩,4,⟨#[115,101,101,110]⟩⟩]]
def gl(p s:ze)(e:List (List El)):Prop:=Qe p=some e/\qZ s=true
theorem kg1:zS [115,100,42] [115,100,97]=true:=by
 have e:Qe [115,100,42]=some [[.lit 115,.lit 100,.star]]:=zg;have e2:qZ [115,100,97]=true:=zg;exact Nj
theorem kg2:zS [115,100,42] [115,100,98]=true:=by
 have e:Qe [115,100,42]=some [[.lit 115,.lit 100,.star]]:=zg;have e2:qZ [115,100,98]=true:=zg;exact Nj
theorem kg3:zS [112,114,111,98,101,32,115,100,97] [112,114,111,98,101,32,115,100,97]=true:=by
 have e:Qe [112,114,111,98,101,32,115,100,97]=some [[.lit 112,.lit 114,.lit 111,.lit 98,.lit 101,.lit 32,.lit 115,.lit 100,.lit 97]]:=zg;have e2:qZ [112,114,111,98,101,32,115,100,97]=true:=zg;exact Nj
theorem kg4:zS [112,114,111,98,101,32,115,100,97] [112,114,111,98,101,32,115,100,98]=false:=by
 have e:Qe [112,114,111,98,101,32,115,100,97]=some [[.lit 112,.lit 114,.lit 111,.lit 98,.lit 101,.lit 32,.lit 115,.lit 100,.lit 97]]:=zg;have e2:qZ [112,114,111,98,101,32,115,100,98]=true:=zg;exact Nj
theorem kg5:zS [] [120]=false:=by
 have e:Qe []=some [[]]:=zg;have e2:qZ [120]=true:=zg;unfold zS;rw[e];simp[e2,Yk,qM]
theorem kg6:zS [] []=true:=by
 have e:Qe []=some [[]]:=zg;have e2:qZ []=true:=zg;unfold zS;rw[e];simp[e2,Yk,qM]
section
variable{c:qp}{l r:List Tm}{x y:Ev}{t:Tm}{ls:List (List Tm)}{f k:Nat}{held:List Int}
theorem N3(h:qH t.op=true)(h2:qJ c l x t=(y,true)):Zw c l (t::r) x=Zw c l r y:=by rw[Zw,if_pos h,h2];rfl
theorem F5(h:qH t.op=true)(h2:qJ c l x t=(y,false)):Zw c l (t::r) x=(y,false):=by rw[Zw,if_pos h,h2];rfl
theorem K2(h:qH t.op=false):Zw c l (t::r) x=Zw c l r x:=by rw[Zw,if_neg GN]
theorem Ie(h:Zw c l l {x with ab:=c.dev,re:=false}=(y,true)):qw c x l=((l.filter fun t=> !qH t.op).foldl (Qa c) y,true):=by unfold qw;rw[h];rfl
theorem AS(h:Zw c l l {x with ab:=c.dev,re:=false}=(y,false)):qw c x l=(y,false):=by unfold qw;rw[h];rfl
theorem Ia(hl:ls[k]? =some l)(h:qw c x l=(y,true)):qS c ls (f+1) k x held=qS c ls f (Qy ls k l) y (held++[(k:Int)]):=FD
theorem vZ(hl:ls[k]? =some l)(h:qw c x l=(y,false)):qS c ls (f+1) k x held=qS c ls f (k+1) y held:=FD
theorem FT(h:Z0 t=true):qJ c l x t=(x,XN t c.dev):=by unfold qJ;rw[if_pos h]
theorem Hw(h:Z0 t=false)(h2:qT t=false)(h3:t.key=12){a:ByteArray}{n e:Int}(hc:qN c x t.value=(a,n,e)):qJ c l x t=({QL x n with dr:={(QL x n).dr with res:=a}},(e==0)==(t.op==1)):=by
 unfold qJ;rw[if_neg GN,if_neg (by rw[h2];simp),if_pos h3,hc]
theorem Sw(h:Z0 t=false)(h2:qT t=false)(h3:t.key≠12)(h4:t.key≠14):qJ c l x t=(x,JG t c.i.act x.dr):=by
 unfold qJ;rw[if_neg GN,if_neg (by rw[h2];simp),if_neg h3,if_neg h4]
end
abbrev tA0:Tm:=⟨2,⟨#[]⟩,1,⟨#[115,100,42]⟩⟩
abbrev Gm:Tm:=⟨12,⟨#[]⟩,1,⟨#[112,114,111,98,101,32,37,107]⟩⟩
abbrev tA2:Tm:=⟨6,⟨#[73,68]⟩,3,⟨#[37,99]⟩⟩
abbrev tB0:Tm:=⟨6,⟨#[73,68]⟩,2,⟨#[]⟩⟩
abbrev tB1:Tm:=⟨24,⟨#[]⟩,3,⟨#[101,110,100]⟩⟩
abbrev lA:List Tm:=[tA0,Gm,tA2]
abbrev lB:List Tm:=[tB0,tB1]
abbrev lC:List Tm:=[⟨16,⟨#[]⟩,4,⟨#[110,111,110,101]⟩⟩]
abbrev lD:List Tm:=[⟨23,⟨#[]⟩,3,⟨#[101,110,100]⟩⟩,⟨7,⟨#[]⟩,4,⟨#[115,101,101,110]⟩⟩]
def jT:Ev:=Q6 (Zn QJ)
def GD:Ev:={jT with ab:=Qs QJ,re:=false}
def Au:Ev:={QL GD 0 with dr:={(QL GD 0).dr with res:=⟨#[120]⟩}}
def T5:Ev:=(lA.filter fun t=> !qH t.op).foldl (Qa (Zn QJ)) Au
def O7:Ev:={T5 with ab:=Qs QJ,re:=false}
def Le:Ev:=(lB.filter fun t=> !qH t.op).foldl (Qa (Zn QJ)) O7
def B6:Ev:={Le with ab:=Qs QJ,re:=false}
def kH:Ev:=(lD.filter fun t=> !qH t.op).foldl (Qa (Zn QJ)) B6
theorem zcH:qN (Zn QJ) GD Gm.value=(⟨#[120]⟩,0,0):=by
 unfold qN;rw[show Qp (Zn QJ) GD Gm.value=(⟨#[112,114,111,98,101,32,115,100,97]⟩:ByteArray)from by kernel_rfl];unfold Zh;rw[if_neg zi];have:((Zn QJ).i.hps.find? fun x=>zS (L x.cmd) (L (⟨#[112,114,111,98,101,32,115,100,97]⟩:ByteArray)))=some ⟨⟨#[112,114,111,98,101,32,115,100,97]⟩,⟨#[120]⟩,false,0⟩:=by
  show List.find? _ [_]=_;rw[zm1 (by exact kg3)]
 rw[this];rfl
theorem zhj:qw (Zn QJ) jT lA=(T5,true):=by
 refine Ie ?_;rw[N3 (y:=GD) rfl (by rw[FT rfl];show(_,(true&&(zS [115,100,42] [115,100,97]==true)))=_;rw[kg1];rfl)];rw[N3 (y:=Au) rfl (by rw[Hw rfl rfl rfl zcH];rfl)];rw[K2 rfl];rfl
theorem zi2:qw (Zn QJ) T5 lB=(Le,true):=by
 refine Ie ?_;rw[N3 (y:=O7) rfl (by
  rw[Sw rfl rfl zi zi];show(_,(true&&(zS [] (L (qQ O7.dr.props [73,68]))==false)))=_;rw[show L (qQ O7.dr.props [73,68])=[120]from by kernel_rfl,kg5];rfl)]
 rw[K2 rfl];rfl
theorem zgQ:qS (Zn QJ) XG 5 0 (Q6 (Zn QJ)) []=(kH,[0,1,3]):=by
 show qS (Zn QJ) XG (4+1) 0 jT []=_;rw[Ia (l:=lA) rfl zhj,show Qy XG 0 lA=1 from by kernel_rfl,Ia (l:=lB) rfl zi2,show Qy XG 1 lB=3 from by kernel_rfl,Ia (l:=lD) (y:=kH) rfl (Ie (by rw[K2 rfl,K2 rfl];rfl)),show Qy XG 3 lD=4 from by kernel_rfl,qS];rfl
def yr:Ev:=Q6 (Zn Qj)
def I8:Ev:={yr with ab:=Qs Qj,re:=false}
def MD:Ev:={QL I8 0 with dr:={(QL I8 0).dr with res:=⟨#[]⟩}}
def G8:Ev:={MD with ab:=Qs Qj,re:=false}
def x3B:Ev:={G8 with ab:=Qs Qj,re:=false}
def F2:Ev:=(lC.filter fun t=> !qH t.op).foldl (Qa (Zn Qj)) x3B
def x4B:Ev:={F2 with ab:=Qs Qj,re:=false}
def Gp:Ev:=(lD.filter fun t=> !qH t.op).foldl (Qa (Zn Qj)) x4B
theorem zkW:qN (Zn Qj) I8 Gm.value=(⟨#[]⟩,0,143):=by
 unfold qN;rw[show Qp (Zn Qj) I8 Gm.value=(⟨#[112,114,111,98,101,32,115,100,98]⟩:ByteArray)from by kernel_rfl];unfold Zh;rw[if_neg zi];have:((Zn Qj).i.hps.find? fun x=>zS (L x.cmd) (L (⟨#[112,114,111,98,101,32,115,100,98]⟩:ByteArray)))=none:=by
  show List.find? _ [_]=_;rw[zm0 (by rw[show zS (L (⟨#[112,114,111,98,101,32,115,100,97]⟩:ByteArray)) (L (⟨#[112,114,111,98,101,32,115,100,98]⟩:ByteArray))=false from kg4];simp),List.find?_nil]
 rw[this]
theorem zeh:qw (Zn Qj) yr lA=(MD,false):=by
 refine AS ?_;rw[N3 (y:=I8) rfl (by rw[FT rfl];show(_,(true&&(zS [115,100,42] [115,100,98]==true)))=_;rw[kg2];rfl)];rw[F5 (y:=MD) rfl (by rw[Hw rfl rfl rfl zkW];rfl)]
theorem zgd:qw (Zn Qj) MD lB=(G8,false):=by
 refine AS ?_;rw[F5 (y:=G8) rfl (by
  rw[Sw rfl rfl zi zi];show(_,(true&&(zS [] (L (qQ G8.dr.props [73,68]))==false)))=_;rw[show L (qQ G8.dr.props [73,68])=[]from by kernel_rfl,kg6];rfl)]
theorem Ea:qS (Zn Qj) XG 5 0 (Q6 (Zn Qj)) []=(Gp,[2,3]):=by
 show qS (Zn Qj) XG (4+1) 0 yr []=_;rw[vZ (l:=lA) rfl zeh,vZ (l:=lB) rfl zgd,Ia (l:=lC) (y:=F2) rfl (Ie (by rw[K2 rfl];rfl)),show Qy XG 2 lC=3 from by kernel_rfl,Ia (l:=lD) (y:=Gp) rfl (Ie (by rw[K2 rfl,K2 rfl];rfl)),show Qy XG 3 lD=4 from by kernel_rfl,qS];rfl
theorem zhJ:kH.dr.links.length=0:=zg
theorem zit:kH.dr.tags.length=1:=zg
theorem zet:(zX kH.dr.props [73,68]).map (·.val)=some ⟨#[120]⟩:=zg
theorem zjM:kH.dr.props.length=5:=zg
theorem zaU:Gp.dr.links.length=1:=zg
end
section
open Go.RowKit
abbrev Mn:TypeId:=56
theorem kr{W:World}{g k n:Nat}{T:TypeId}{cs:Array Value}{xs:List Value}(h:W.heap[g]? =some (.cells cs T (0,0)))(hx:cs.toList=xs)(hl:xs.length=n*k):zE W (some ⟨g,0,none⟩) k n xs:=
 ⟨⟨hl,fun _=>⟨g,0,rfl,zh h,fun j u hu=>by rw[zk4];exact zd h Aq⟩⟩,fun a e=>by injection e with e;rw[<-e];exact⟨rfl,zh h⟩⟩
theorem kw:∀(os:List Obj) (w:World) (i:Nat) (o:Obj),os[i]? =some o->(os.foldl World.alloc w).heap[w.heap.size+i]? =some o/\Below w.heap.size w (os.foldl World.alloc w)
 | [],w,i,o,h=>qI
 | a::os,w,0,o,h=>by
   injection h with h
   subst h;have hb:∀(os:List Obj) (w:World),Below w.heap.size w (os.foldl World.alloc w):=by
    intro os;induction os with
    |nil=>exact fun w=>zj
    |cons a os ih=>exact fun w=>bt (zL w a) (ih (w.alloc a))
   exact⟨((hb os (w.alloc a)).block _ zl).trans (by rw[zk3];exact i5 w a),bt (zL w a) (hb os _)⟩
 | a::os,w,i+1,o,h=>by
   obtain⟨h1,h2⟩:=kw os (w.alloc a) i o h;refine⟨?_,bt (zL w a) h2⟩;rw[World.size_alloc]at h1;rw[show w.heap.size+(i+1)=w.heap.size+1+i by omega];exact h1
def Q5(g1 g2 g3 g4:Nat):List Rl:=[⟨⟨#[]⟩,0,⟨some ⟨g1,0,none⟩,3,[⟨2,⟨#[]⟩,1,⟨#[115,100,42]⟩⟩,⟨12,⟨#[]⟩,1,⟨#[112,114,111,98,101,32,37,107]⟩⟩,⟨6,⟨#[73,68]⟩,3,⟨#[37,99]⟩⟩]⟩⟩,⟨⟨#[]⟩,0,⟨some ⟨g2,0,none⟩,2,[⟨6,⟨#[73,68]⟩,2,⟨#[]⟩⟩,⟨24,⟨#[]⟩,3,⟨#[101,110,100]⟩⟩]⟩⟩,⟨⟨#[]⟩,0,⟨some ⟨g3,0,none⟩,1,[⟨16,⟨#[]⟩,4,⟨#[110,111,110,101]⟩⟩]⟩⟩,⟨⟨#[]⟩,0,⟨some ⟨g4,0,none⟩,2,[⟨23,⟨#[]⟩,3,⟨#[101,110,100]⟩⟩,⟨7,⟨#[]⟩,4,⟨#[115,101,101,110]⟩⟩]⟩⟩]
theorem yX(g1 g2 g3 g4:Nat):kv (Q5 g1 g2 g3 g4):=by
 refine⟨by show 4<=40;omega,fun y hy=>?_⟩;exact Ap
theorem DF(g1 g2 g3 g4:Nat):∀y∈Q5 g1 g2 g3 g4,∀t∈y.tms.l,t.key≠14:=by
 intro y hy;exact Ap
theorem zkS{w:World}{g1 g2 g3 g4 g5:Nat}(h1:w.heap[g1]? =some (.cells #[.int .i64 2,.string ⟨#[]⟩,.int .i64 1,.string ⟨#[115,100,42]⟩,.int .i64 12,.string ⟨#[]⟩,.int .i64 1,.string ⟨#[112,114,111,98,101,32,37,107]⟩,.int .i64 6,.string ⟨#[73,68]⟩,.int .i64 3,.string ⟨#[37,99]⟩] 52 (0,0)))(h2:w.heap[g2]? =some (.cells #[.int .i64 6,.string ⟨#[73,68]⟩,.int .i64 2,.string ⟨#[]⟩,.int .i64 24,.string ⟨#[]⟩,.int .i64 3,.string ⟨#[101,110,100]⟩] 52 (0,0)))(h3:w.heap[g3]? =some (.cells #[.int .i64 16,.string ⟨#[]⟩,.int .i64 4,.string ⟨#[110,111,110,101]⟩] 52 (0,0)))(h4:w.heap[g4]? =some (.cells #[.int .i64 23,.string ⟨#[]⟩,.int .i64 3,.string ⟨#[101,110,100]⟩,.int .i64 7,.string ⟨#[]⟩,.int .i64 4,.string ⟨#[115,101,101,110]⟩] 52 (0,0)))
 (h5:w.heap[g5]? =some (.cells #[.string ⟨#[]⟩,.int .i64 0,.slice (some ⟨g1,0,none⟩) 3 3,.string ⟨#[]⟩,.int .i64 0,.slice (some ⟨g2,0,none⟩) 2 2,.string ⟨#[]⟩,.int .i64 0,.slice (some ⟨g3,0,none⟩) 1 1,.string ⟨#[]⟩,.int .i64 0,.slice (some ⟨g4,0,none⟩) 2 2] Mn (0,0))):Zt w (some ⟨g5,0,none⟩) (Q5 g1 g2 g3 g4):=by
 refine⟨(kr h5 rfl rfl).row,fun y hy=>?_,fun y hy=>?_⟩
 · simp only[Q5,List.mem_cons,List.not_mem_nil,or_false]at hy;rcases hy with rfl|rfl|rfl|rfl
   · exact kr h1 rfl rfl
   · exact kr h2 rfl rfl
   · exact kr h3 rfl rfl
   · exact kr h4 rfl rfl
 · simp only[Q5,List.mem_cons,List.not_mem_nil,or_false]at hy;rcases hy with rfl|rfl|rfl|rfl<;>(intro e;cases e)
def Qd(s:ByteArray)(td th:Nat):zt:=⟨⟨#[97,100,100]⟩,some ⟨td,0,none⟩,1,[⟨1,0,s,s,⟨#[98,108,111,99,107]⟩,⟨#[]⟩,⟨#[]⟩,2,8,⟨none,0,[]⟩⟩],1,Zx,⟨some ⟨th,0,none⟩,1,[⟨⟨#[112,114,111,98,101,32,115,100,97]⟩,⟨#[120]⟩,false,0⟩]⟩,9,qd,⟨#[]⟩,⟨#[]⟩⟩
theorem DH(s:ByteArray)(td th:Nat):zm (Qd s td th).tds=[Qs s]:=rfl
theorem LX(s:ByteArray)(hs:s.size<=100)(td th:Nat):Vk (Qd s td th):=by
 have hD:∀d∈zm (Qd s td th).tds,d=Qs s:=fun d hd=>by rw[DH]at hd;exact List.mem_singleton.1 hd
 refine⟨⟨⟨by show(1:Int)<=9;omega,by show(9:Int)<=1000;omega,fun x hx=>?_⟩,fun x hx=>YT,fun n x hx=>?_⟩,fun d hd=>?_,?_,by show 1<=100;omega,Bq,S5,by show 1<=1000;omega,fun y hy=>?_,by show 3<=1000000;omega,by show 0<=1000;omega,fun y hy=>II,fun d hd=>?_⟩
 · rw[List.mem_singleton.1 hx];decide
 · have:=F0 n _ _ x hx;omega
 · rw[hD d hd];exact⟨⟨⟨Bq,S5⟩,⟨by show(-9223372036854775808:Int)<=0;omega,by show(0:Int)<=9223372036854775807;omega⟩,by show s.size<=1000;omega⟩,by show 5<=1000;omega,by show 0<=1000;omega,by show(-9223372036854775808:Int)<=8;omega,by show(8:Int)<=9223372036854775807;omega,fun a ha=>by cases ha⟩
 · rw[DH];exact⟨by show(1:Int)<=1;omega,(fun x hx=>YT),Or.inl rfl,trivial⟩
 · rw[List.mem_singleton.1 hy];decide
 · rw[hD d hd];show 0<=1000000;omega
theorem zgK{w:World}{s:ByteArray}{td th:Nat}(h1:w.heap[td]? =some (.cells #[.int .i64 1,.int .i64 0,.string s,.string s,.string ⟨#[98,108,111,99,107]⟩,.string ⟨#[]⟩,.string ⟨#[]⟩,.int .i64 2,.int .i64 8,.slice none 0 0] zp (0,0)))(h2:w.heap[th]? =some (.cells #[.string ⟨#[112,114,111,98,101,32,115,100,97]⟩,.string ⟨#[120]⟩,.bool false,.int .i64 0] XR (0,0))):Zu w (Qd s td th):=by
 refine⟨⟨kr h1 rfl rfl,fun d hd=>?_,by show 1<=1000;omega,fun d hd=>?_⟩,⟨zB.empty,zB.empty,zB.empty,zB.empty,zB.empty⟩,⟨kr h2 rfl rfl,zo,by show 1<=maxLen;unfold maxLen;omega,fun e=>ZK⟩⟩
 · rw[List.mem_singleton.1 hd];exact zE.nil
 · rw[List.mem_singleton.1 hd];exact X1 _
def Hf(s:ByteArray)(w:World)(e:Ending)(w':World):Prop:=∃g1 g2 g3 g4 g5 td th,e=.returned (.tuple #[.slice (some ⟨g5,0,none⟩) 4 4,.agg #[.string ⟨#[97,100,100]⟩,.slice (some ⟨td,0,none⟩) 1 1,.int .i64 1,.string ⟨#[]⟩,.int .i64 0,.slice none 0 0,.slice none 0 0,.slice none 0 0,.slice none 0 0,.slice none 0 0,.string ⟨#[]⟩,.int .i64 0,.string ⟨#[]⟩,.string ⟨#[]⟩,.int .i64 0,.slice (some ⟨th,0,none⟩) 1 1,.int .i64 9]])/\(w.heap.size<=g1/\w.heap.size<=g2/\w.heap.size<=g3/\w.heap.size<=g4/\w.heap.size<=g5/\w.heap.size<=td/\w.heap.size<=th)/\Zt w' (some ⟨g5,0,none⟩) (Q5 g1 g2 g3 g4)/\Zu w' (Qd s td th)/\Below w.heap.size w w'
theorem zh6(v u:Value):Instr.storeAt qh v u=Zo qh v u:=kQ
theorem FF{w:World}{q:Nat}{cs:Array Value}(h:w.heap[q]? =some (.cells cs qh (0,0)))(hs:cs.size=17)(c:zt):(Zo qh (.pointer (some ⟨q,0,none⟩)) (.agg (zJ c))).run prog w=.ok () (w.setRow q (zJ c)):=by
 have h1:=XU (P:=prog) (w:=w) (T:=qh) (g:=q) (o:=0) (cs:=cs) (vs:=zJ c) h (by rw[hs];show 0+17<=17;omega) (by show 0<17;omega) Uu (za4 c);rw[UL cs (zJ c) ML]at h1;exact h1
theorem La{P:Program}{fn:Func}{R:Ending->World->Prop}{a:Act}{W:World}{g:Nat}{p q:Tmp}{ty t:TypeId}{cs:Array Value}{u:Value}{fr:Nat×Nat}{d:TypeDesc}(h:fn.results=#[.tmp q,.cell p ty])(hp:a.tmps.getD p undef=.pointer (some ⟨g,0,none⟩))(hq:a.tmps.getD q undef=u)
 (hg:W.heap[g]? =some (.cells cs t fr))(hu:P.underlying ty=some d)(hd:(match d with| .struct _| .array _ _=>true|_=>false)=true)(hi:(P.info? ty).map (·.size)=some cs.size)(hdef:a.defers=[])
 (hR:R (.returned (.tuple #[u,.agg cs])) W):bodyPost P fn R .ret a W:=by
 have hp':a.tmps[p]?.getD undef=.pointer (some ⟨g,0,none⟩):=by simpa using hp
 have hq':a.tmps[q]?.getD undef=u:=by simpa using hq
 refine bodyPost_ret (v:=.tuple #[u,.agg cs]) ?_ hdef hR;simp[results,h,hp',hq',asAddr,run_loadVar_row W g t ty cs fr d hg hu hd hi]
attribute [local go_sem ↓] zh6
theorem FC(s:ByteArray)(w:World):Calls prog 32 #[.string s] w (Hf s w):=by
 obtain⟨w1,hw1⟩:∃w1,((((((w.alloc (.cells #[.string ⟨#[]⟩,.slice none 0 0,.int .i64 0,.string ⟨#[]⟩,.int .i64 0,.slice none 0 0,.slice none 0 0,.slice none 0 0,.slice none 0 0,.slice none 0 0,.string ⟨#[]⟩,.int .i64 0,.string ⟨#[]⟩,.string ⟨#[]⟩,.int .i64 0,.slice none 0 0,.int .i64 0] qh)).alloc (.cells #[.int .i64 2,.string ⟨#[]⟩,.int .i64 1,.string ⟨#[115,100,42]⟩,.int .i64 12,.string ⟨#[]⟩,.int .i64 1,.string ⟨#[112,114,111,98,101,32,37,107]⟩,.int .i64 6,.string ⟨#[73,68]⟩,.int .i64 3,.string ⟨#[37,99]⟩] 52)).alloc (.cells #[.int .i64 6,.string ⟨#[73,68]⟩,.int .i64 2,.string ⟨#[]⟩,.int .i64 24,.string ⟨#[]⟩,.int .i64 3,.string ⟨#[101,110,100]⟩] 52)).alloc (.cells #[.int .i64 16,.string ⟨#[]⟩,.int .i64 4,.string ⟨#[110,111,110,101]⟩] 52)).alloc (.cells #[.int .i64 23,.string ⟨#[]⟩,.int .i64 3,.string ⟨#[101,110,100]⟩,.int .i64 7,.string ⟨#[]⟩,.int .i64 4,.string ⟨#[115,101,101,110]⟩] 52)).alloc (.cells #[.string ⟨#[]⟩,.int .i64 0,.slice (some ⟨w.heap.size+1,0,none⟩) 3 3,.string ⟨#[]⟩,.int .i64 0,.slice (some ⟨w.heap.size+1+1,0,none⟩) 2 2,.string ⟨#[]⟩,.int .i64 0,.slice (some ⟨w.heap.size+1+1+1,0,none⟩) 1 1,.string ⟨#[]⟩,.int .i64 0,.slice (some ⟨w.heap.size+1+1+1+1,0,none⟩) 2 2] Mn)).alloc (.cells #[.int .i64 1,.int .i64 0,.string s,.string s,.string ⟨#[98,108,111,99,107]⟩,.string ⟨#[]⟩,.string ⟨#[]⟩,.int .i64 2,.int .i64 8,.slice none 0 0] zp)=w1:=⟨_,rfl⟩;have hf:w1=[.cells #[.string ⟨#[]⟩,.slice none 0 0,.int .i64 0,.string ⟨#[]⟩,.int .i64 0,.slice none 0 0,.slice none 0 0,.slice none 0 0,.slice none 0 0,.slice none 0 0,.string ⟨#[]⟩,.int .i64 0,.string ⟨#[]⟩,.string ⟨#[]⟩,.int .i64 0,.slice none 0 0,.int .i64 0] qh,.cells #[.int .i64 2,.string ⟨#[]⟩,.int .i64 1,.string ⟨#[115,100,42]⟩,.int .i64 12,.string ⟨#[]⟩,.int .i64 1,.string ⟨#[112,114,111,98,101,32,37,107]⟩,.int .i64 6,.string ⟨#[73,68]⟩,.int .i64 3,.string ⟨#[37,99]⟩] 52,.cells #[.int .i64 6,.string ⟨#[73,68]⟩,.int .i64 2,.string ⟨#[]⟩,.int .i64 24,.string ⟨#[]⟩,.int .i64 3,.string ⟨#[101,110,100]⟩] 52,.cells #[.int .i64 16,.string ⟨#[]⟩,.int .i64 4,.string ⟨#[110,111,110,101]⟩] 52,.cells #[.int .i64 23,.string ⟨#[]⟩,.int .i64 3,.string ⟨#[101,110,100]⟩,.int .i64 7,.string ⟨#[]⟩,.int .i64 4,.string ⟨#[115,101,101,110]⟩] 52,.cells #[.string ⟨#[]⟩,.int .i64 0,.slice (some ⟨w.heap.size+1,0,none⟩) 3 3,.string ⟨#[]⟩,.int .i64 0,.slice (some ⟨w.heap.size+1+1,0,none⟩) 2 2,.string ⟨#[]⟩,.int .i64 0,.slice (some ⟨w.heap.size+1+1+1,0,none⟩) 1 1,.string ⟨#[]⟩,.int .i64 0,.slice (some ⟨w.heap.size+1+1+1+1,0,none⟩) 2 2] Mn,.cells #[.int .i64 1,.int .i64 0,.string s,.string s,.string ⟨#[98,108,111,99,107]⟩,.string ⟨#[]⟩,.string ⟨#[]⟩,.int .i64 2,.int .i64 8,.slice none 0 0] zp].foldl World.alloc w:=hw1.symm;have hb1:Below w.heap.size w w1:=by rw[hf];exact(kw _ w 0 _ rfl).2
 have h0:w1.heap[w.heap.size]? =some (.cells (zJ Oh) qh (0,0)):=by rw[hf];exact(kw _ w 0 _ rfl).1
 have h1:w1.heap[w.heap.size+1]? =some (.cells #[.int .i64 2,.string ⟨#[]⟩,.int .i64 1,.string ⟨#[115,100,42]⟩,.int .i64 12,.string ⟨#[]⟩,.int .i64 1,.string ⟨#[112,114,111,98,101,32,37,107]⟩,.int .i64 6,.string ⟨#[73,68]⟩,.int .i64 3,.string ⟨#[37,99]⟩] 52 (0,0)):=by rw[hf];exact(kw _ w 1 _ rfl).1
 have h2:w1.heap[w.heap.size+1+1]? =some (.cells #[.int .i64 6,.string ⟨#[73,68]⟩,.int .i64 2,.string ⟨#[]⟩,.int .i64 24,.string ⟨#[]⟩,.int .i64 3,.string ⟨#[101,110,100]⟩] 52 (0,0)):=by rw[hf];exact(kw _ w 2 _ rfl).1
 have h3:w1.heap[w.heap.size+1+1+1]? =some (.cells #[.int .i64 16,.string ⟨#[]⟩,.int .i64 4,.string ⟨#[110,111,110,101]⟩] 52 (0,0)):=by rw[hf];exact(kw _ w 3 _ rfl).1
 have h4:w1.heap[w.heap.size+1+1+1+1]? =some (.cells #[.int .i64 23,.string ⟨#[]⟩,.int .i64 3,.string ⟨#[101,110,100]⟩,.int .i64 7,.string ⟨#[]⟩,.int .i64 4,.string ⟨#[115,101,101,110]⟩] 52 (0,0)):=by rw[hf];exact(kw _ w 4 _ rfl).1
 have h5:w1.heap[w.heap.size+1+1+1+1+1]? =some (.cells #[.string ⟨#[]⟩,.int .i64 0,.slice (some ⟨w.heap.size+1,0,none⟩) 3 3,.string ⟨#[]⟩,.int .i64 0,.slice (some ⟨w.heap.size+1+1,0,none⟩) 2 2,.string ⟨#[]⟩,.int .i64 0,.slice (some ⟨w.heap.size+1+1+1,0,none⟩) 1 1,.string ⟨#[]⟩,.int .i64 0,.slice (some ⟨w.heap.size+1+1+1+1,0,none⟩) 2 2] Mn (0,0)):=by rw[hf];exact(kw _ w 5 _ rfl).1
 have h6:w1.heap[w.heap.size+1+1+1+1+1+1]? =some (.cells #[.int .i64 1,.int .i64 0,.string s,.string s,.string ⟨#[98,108,111,99,107]⟩,.string ⟨#[]⟩,.string ⟨#[]⟩,.int .i64 2,.int .i64 8,.slice none 0 0] zp (0,0)):=by rw[hf];exact(kw _ w 6 _ rfl).1
 have hs1:w1.heap.size=w.heap.size+7:=by rw[hf];simp
 clear hf;have HW1:=za hw1;have HB1:=za hb1;clear hw1 hb1;go_enter func32,ntmps32;go_upto_region 3 with fail
 rw[HW1.out];have hlw:w.heap.size<w1.heap.size:=zb;have hd6:=h6;obtain⟨⟨c0,c1,c2,c3,c4,c5,c6,c7,c8,c9⟩,-⟩:=Xq hd6;have hl6:=zh h6;have hA1:Below w1.heap.size w1 (((w1.alloc (.cells #[.int .i64 1,.int .i64 0,.string s,.string s,.string ⟨#[98,108,111,99,107]⟩,.string ⟨#[]⟩,.string ⟨#[]⟩,.int .i64 2,.int .i64 8,.slice none 0 0] zp)).alloc (.cells #[.string ⟨#[112,114,111,98,101,32,115,100,97]⟩,.string ⟨#[120]⟩,.bool false,.int .i64 0] XR)).drew):=zN (zP zu);have hA2:Below w1.heap.size w1 (((w1.alloc (.cells #[.string ⟨#[112,114,111,98,101,32,115,100,97]⟩,.string ⟨#[120]⟩,.bool false,.int .i64 0] XR)).alloc (.cells #[.int .i64 1,.int .i64 0,.string s,.string s,.string ⟨#[98,108,111,99,107]⟩,.string ⟨#[]⟩,.string ⟨#[]⟩,.int .i64 2,.int .i64 8,.slice none 0 0] zp)).drew):=zN (zP zu);have hstA:=FF ((hA1.block _ hlw).trans h0) rfl (Qd s w1.heap.size (w1.heap.size+1));have hstB:=FF ((hA2.block _ hlw).trans h0) rfl (Qd s (w1.heap.size+1) w1.heap.size);have HEnd:Hid (∀(W:World) (td th:Nat),Below w1.heap.size w1 W->W.heap[td]? =some (.cells #[.int .i64 1,.int .i64 0,.string s,.string s,.string ⟨#[98,108,111,99,107]⟩,.string ⟨#[]⟩,.string ⟨#[]⟩,.int .i64 2,.int .i64 8,.slice none 0 0] zp (0,0))->W.heap[th]? =some (.cells #[.string ⟨#[112,114,111,98,101,32,115,100,97]⟩,.string ⟨#[120]⟩,.bool false,.int .i64 0] XR (0,0))->w.heap.size<td->w.heap.size<th->Hf s w (.returned (.tuple #[.slice (some ⟨w.heap.size+5,0,none⟩) 4 4,.agg (zJ (Qd s td th))])) (W.setRow w.heap.size (zJ (Qd s td th)))):=za fun W td th hW e1 e2 l1 l2=>by
  have hg:=qR W w.heap.size (zJ (Qd s td th));refine⟨w.heap.size+1,w.heap.size+2,w.heap.size+3,w.heap.size+4,w.heap.size+5,td,th,rfl,⟨zb,zb,zb,zb,zb,zb,zb⟩,?_,?_,(bt HB1.out hW).grown hg (bt HB1.out hW).size (fun j e=>Vb)⟩
  · exact(zkS ((hW.block _ (zh h1)).trans h1) ((hW.block _ (zh h2)).trans h2) ((hW.block _ (zh h3)).trans h3) ((hW.block _ (zh h4)).trans h4) ((hW.block _ (zh h5)).trans h5)).grown hg (fun _ p e=>by cases e;show w.heap.size+5≠_;omega) (fun y hy p e=>by
     simp only[Q5,List.mem_cons,List.not_mem_nil,or_false]at hy;rcases hy with rfl|rfl|rfl|rfl
     · cases e;show w.heap.size+1≠_;omega
     · cases e;show w.heap.size+2≠_;omega
     · cases e;show w.heap.size+3≠_;omega
     · cases e;show w.heap.size+4≠_;omega)
  · exact(zgK e1 e2).grown hg (fun a ha p e=>by
     rcases List.mem_append.1 ha with ha|ha
     · simp only[List.mem_cons,List.not_mem_nil,or_false,Qd]at ha;rcases ha with rfl|rfl|rfl|rfl|rfl|rfl|rfl|rfl
       · cases e;show td≠_;omega
       all_goals first
        |(cases e;done)
        |(cases e;show th≠_;omega)
     · obtain⟨x,hx,rfl⟩:=List.mem_map.1 ha;rw[List.mem_singleton.1 hx]at e;cases e)
 have HFa:∀o1 o2:Obj,(((w1.alloc o1).alloc o2).drew).heap[w1.heap.size]? =some o1/\(((w1.alloc o1).alloc o2).drew).heap[w1.heap.size+1]? =some o2:=fun o1 o2=>
  ⟨((zL (w1.alloc o1) o2).block _ zl).trans (i5 w1 o1),by have:=i5 (w1.alloc o1) o2;rw[World.size_alloc]at this;exact this⟩
 have HF1:=za (HFa (.cells #[.int .i64 1,.int .i64 0,.string s,.string s,.string ⟨#[98,108,111,99,107]⟩,.string ⟨#[]⟩,.string ⟨#[]⟩,.int .i64 2,.int .i64 8,.slice none 0 0] zp) (.cells #[.string ⟨#[112,114,111,98,101,32,115,100,97]⟩,.string ⟨#[120]⟩,.bool false,.int .i64 0] XR));have HF2:=za (HFa (.cells #[.string ⟨#[112,114,111,98,101,32,115,100,97]⟩,.string ⟨#[120]⟩,.bool false,.int .i64 0] XR) (.cells #[.int .i64 1,.int .i64 0,.string s,.string s,.string ⟨#[98,108,111,99,107]⟩,.string ⟨#[]⟩,.string ⟨#[]⟩,.int .i64 2,.int .i64 8,.slice none 0 0] zp));clear HFa;have HH0:=za h0;have HA1:=za hA1;have HA2:=za hA2;have HS1:=za hs1;clear h0 h1 h2 h3 h4 h5 h6 hd6 hA1 hA2 hs1;unfold zJ Qd at hstA hstB;dsimp only[List.length_cons,List.length_nil,Nat.zero_add]at hstA hstB;go_region
 all_goals
  go_wp2
  first
   | (refine La rfl zk zk (setRow_heap _ _ _ _ _ _ ((HA1.out.block _ hlw).trans HH0.out)) underlying37 rfl Uu zk ?_
      exact HEnd.out _ w1.heap.size (w1.heap.size+1) HA1.out HF1.out.1 HF1.out.2 hlw zb)
   | (refine La rfl zk zk (setRow_heap _ _ _ _ _ _ ((HA2.out.block _ hlw).trans HH0.out)) underlying37 rfl Uu zk ?_
      exact HEnd.out _ (w1.heap.size+1) w1.heap.size HA2.out HF2.out.2 HF2.out.1 zb hlw)
end
end Go.Proofs.YtecbmndgpepkcaaGreatDoor

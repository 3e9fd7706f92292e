/- Contracts that the law rests on, each under the premises that it names. -/
import Derived.Test.YtecbmndgpepkcaaGreatDoorG06
import Derived.Shelf.Strings.SlTrimAscii
import Derived.Lib.IndexAny
import Derived.Lib.MapU
namespace Go.Proofs.YtecbmndgpepkcaaGreatDoor
open Tryz
set_option maxHeartbeats 8000000
set_option maxRecDepth 100000
section
open Go.RowKit
theorem zik(j:Nat)(b:UInt8)(h:Xt[j]? =some b):b.toNat<128:=by
 have hm:b∈Xt:=X7 h;simp only[Xt,List.mem_cons,List.not_mem_nil,or_false]at hm;rcases hm with h|h|h|h|h|h|h|h|h|h<;>subst h<;>decide
def KQ(l:ze):ze:=l.drop (Lib.trimRightS l Xt).length
theorem zdS(s:ByteArray)(w:World)(hs:s.size<=9223372036854775807):
 Calls prog 203 #[.string s] w fun e w'=>e=.returned (.string (bs (KQ (L s))))/\Below w.heap.size w w':=by
 have HT:=Any.strings_TrimRight_laid lays162 zg s ⟨#[48,49,50,51,52,53,54,55,56,57]⟩ w hs zi zik;have hl:(Lib.trimRightS s.data.toList Xt).length<=s.size:=by
  rw[Lib.trimRightS,List.length_reverse];have:=(List.dropWhile_sublist (Xt.contains ·) (l:=s.data.toList.reverse)).length_le;rw[List.length_reverse]at this;rw[<-zF];exact this
 have HN:Hid (∀q,q=(Lib.trimRightS s.data.toList Xt).length->L (s.extract q s.size)=KQ (L s)):=fun q hq=>by
  rw[hq,Ye,KQ,List.take_of_length_le VQ]
 have HZ:=za (Zg (Lib.trimRightS s.data.toList Xt));change Calls prog 241 #[.string s,.string ⟨#[48,49,50,51,52,53,54,55,56,57]⟩] w (fun e w'=>e=.returned (.string (bs (Lib.trimRightS s.data.toList Xt)))/\Below w.heap.size w w')at HT;generalize bs (Lib.trimRightS s.data.toList Xt)=r at*;generalize (Lib.trimRightS s.data.toList Xt).length=q at*;have hr:r.size<=s.size:=by rw[HZ.out];exact hl
 clear hl;go_enter func203,ntmps203;go_wp2_with (go_at_call 241;refine HT.mono ?_;rintro e w' ⟨rfl,hb⟩)
 go_ret;exact⟨zdY (KY (HN.out _ HZ.out)),hb⟩
theorem zck(l:List At)(nm:ze)(k:Nat)(x:At)(hx:l[k]? =some x)(hno:∀j y,j<k->l[j]? =some y->(L y.name==nm)=false)(hyes:(L x.name==nm)=true):Un l nm=some x.val:=by
 induction l generalizing k with
 |nil=>simp at hx
 | cons y l ih=>
   cases k with
   | zero=>
     simp at hx;subst hx;simp[Un,hyes]
   | succ k=>
     have h0:=hno 0 y zb zl;have:=ih k Ki (fun j z hj hz=>hno (j+1) z zb OZ);simp only[Un,List.find?_cons,h0]at this⊢;exact this
theorem zkO(l:List At)(nm:ze)(hno:∀(j:Nat) (y:At),l[j]? =some y->(L y.name==nm)=false):Un l nm=none:=by
 unfold Un;rw[List.find?_eq_none.2 (fun x hx=>by
  obtain⟨j,hj⟩:=List.getElem?_of_mem hx;rw[hno j x hj];simp)]
 rfl
structure ZJ where
 A:Option Addr
 c:Nat
 l:List At
def Xx:List ZJ->ze->ByteArray
 | [],_=>⟨#[]⟩
 | x::ls,nm=>match Un x.l nm with
   |some v=>v
   |none=>Xx ls nm
theorem ziK(ls:List ZJ)(nm:ze)(k:Nat)(x:ZJ)(v:ByteArray)(hx:ls[k]? =some x)(hno:∀(j:Nat) (y:ZJ),j<k->ls[j]? =some y->Un y.l nm=none)(hv:Un x.l nm=some v):Xx ls nm=v:=by
 induction ls generalizing k with
 |nil=>simp at hx
 | cons y ls ih=>
   cases k with
   | zero=>
     simp at hx;subst hx;simp[Xx,hv]
   | succ k=>
     have h0:=hno 0 y zb zl;simp only[Xx,h0];exact ih k Ki (fun j z hj hz=>hno (j+1) z zb OZ)
theorem zhe(ls:List ZJ)(nm:ze)(hno:∀(j:Nat) (y:ZJ),ls[j]? =some y->Un y.l nm=none):Xx ls nm=⟨#[]⟩:=by
 induction ls with
 |nil=>rfl
 | cons y ls ih=>
   simp only[Xx,hno 0 y zl];exact ih (fun j z hz=>hno (j+1) z OZ)
theorem LM (g off c:Nat)(ls:List ZJ)(nm:ByteArray)(w:World)(hg:g<w.heap.size)(ho:∀(i:Nat) (x:ZJ),ls[i]? =some x->w.cell? ⟨g,off+i,none⟩=some (.slice x.A x.l.length x.c))
 (hi:∀x∈ls,zr w w.heap.size x.A 2 x.l.length (cellsOf zw x.l)/\x.l.length<=4611686018427387904)(h0:ls.length<=1000):
 Calls prog 208 #[.string nm,.slice (some ⟨g,off,none⟩) ls.length c] w fun e w'=>e=.returned (.string (Xx ls (L nm)))/\Below w.heap.size w w':=by
 have HO:=za ho;have HI:=za hi;clear ho hi;generalize hM:ls.length=M at h0⊢;have HM:=za hM;clear hM;go_enter func208,ntmps208;go_wp2;go_loopg [11] M (fun gk i wr=>∃k:Nat,k+gk=M/\i=.int .i64 k/\Hid (∀(j:Nat) (y:ZJ),j<k->ls[j]? =some y->Un y.l (L nm)=none)/\Hid (Below w.heap.size w wr))
 case atStart=>exact⟨0,zb,rfl,fun j y hj=>absurd hj zb,zj⟩
 case round =>
  obtain⟨k,hk,rfl,hp,hb⟩:=hrel;have hk':k<=M:=zb;have HK:=za hk;clear hk;by_cases hlt:k<M
  · have hlt' :k<ls.length:=by rw[HM.out];exact hlt
    obtain⟨x,hx⟩:∃x,ls[k]? =some x:=⟨_,l0 hlt'⟩;have hc:wr.cell? ⟨g,off+k,none⟩=some (.slice x.A x.l.length x.c):=by
     rw[hb.out.cell (p:=⟨g,off+k,none⟩) hg];exact HO.out k x hx
    have hx2:=HI.out x (X7 hx);have HX:=za hx;have HR:=za hx2.1;have hN:=hx2.2;clear hx hx2 hlt';generalize hNN:x.l.length=N at*;have HN:=za hNN;clear hNN;go_wp2;obtain⟨wo,rfl⟩:∃wo:World,wo=wr:=⟨_,rfl⟩;go_loopg [17] N (fun gi i wi=>∃m:Nat,m+gi=N/\i=.int .i64 m/\Hid (∀(j:Nat) (y:At),j<m->x.l[j]? =some y->(L y.name==L nm)=false)/\Hid (Below w.heap.size w wi))
    case atStart=>exact⟨0,zb,rfl,fun j y hj=>absurd hj zb,hb⟩
    case round=>
     obtain⟨m,hm,rfl,hq,hbi⟩:=hrel;have hm':m<=N:=zb;have HMm:=za hm;clear hm;by_cases hlm:m<N
     · have hlm':m<x.l.length:=by rw[HN.out];exact hlm
       have hrow:=HR.out;rw[<-HN.out]at hrow;obtain⟨ba,off',hA,hB,hcc⟩:=hrow.cell Ow hlm';obtain⟨y,hy⟩:∃y,x.l[m]? =some y:=⟨_,l0 hlm'⟩;have c0:wr.cell? ⟨ba,off'+m*2,none⟩=some (.string y.name):=by
        rw[hbi.out.cell (p:=⟨ba,off'+m*2,none⟩) hB];exact hcc m y hy 0 _ rfl
       have c1:wr.cell? ⟨ba,off'+m*2+1,none⟩=some (.string y.val):=by
        rw[hbi.out.cell (p:=⟨ba,off'+m*2+1,none⟩) hB];exact hcc m y hy 1 _ rfl
       have HY:=za hy;clear hy hcc hB hlm' hrow;rw[hA];have HA:=za hA;clear hA;cases hq2:(y.name.toList==nm.toList)
       · go_wp2;have hm:=HMm.out;rw[<-HA.out];go_roundg (gk - 1)
         case measure=>omega
         case rel=>
          refine⟨m+1,zb,zU,fun j z hj hz=>?_,?_⟩
          · rcases(by omega:j=m∨j<m)with e|e
            · subst e;rw[HY.out]at hz;injection hz with hz
              rw[<-hz,<-tl,<-tl];exact hq2
            · exact hq.out j z e hz
          · exact hbi.out.alloc hbi.out.size _
       · go_wp2;go_ret;refine⟨?_,hbi.out.alloc hbi.out.size _⟩;rw[ziK ls (L nm) k x y.val HX.out hp.out (zck x.l (L nm) m y HY.out hq.out (by rw[<-tl,<-tl];exact hq2))];rfl
     · go_wp2;have hk:=HK.out;go_roundg (M - (k+1))
       case measure=>omega
       case rel=>
        refine⟨k+1,zb,zU,fun j z hj hz=>?_,hbi⟩;rcases(by omega:j=k∨j<k)with e|e
        · subst e;rw[HX.out]at hz;injection hz with hz
          rw[<-hz];exact zkO x.l (L nm) fun j' y' hy'=>hq.out j' y' (by have:=(List.getElem?_eq_some_iff.1 hy').1;rw[HN.out]at this;omega) hy'
        · exact hp.out j z e hz
  · go_wp2;go_ret;refine⟨?_,hb.out⟩;rw[zhe ls (L nm) (fun j y hy=>hp.out j y (by have:=(List.getElem?_eq_some_iff.1 hy).1;rw[HM.out]at this;omega) hy)];rfl
end
section
open Go.RowKit
def sv(l:ze):Value:=.string ⟨l.toArray⟩
def fv(n:Nat):Value:=.func (.func n) #[] #[]
def J1:Array Value:=(List.replicate 12 [sv [],sv [],.nilFunc,.nilFunc]).flatten.toArray
def k8:Nat->ze
 |2=>[107,101,114,110,101,108]
 |3=>[110,117,109,98,101,114]
 |4=>[100,101,118,112,97,116,104]
 |5=>[105,100]
 |6=>[100,114,105,118,101,114]
 |7=>[97,116,116,114]
 |8=>[101,110,118]
 |9=>[114,101,115,117,108,116]
 |10=>[112,97,114,101,110,116]
 |11=>[110,97,109,101]
 |_=>[]
def Kh:Nat->ze
 |2=>[107]
 |3=>[110]
 |4=>[112]
 |5=>[98]
 |6=>[100]
 |7=>[115]
 |8=>[69]
 |9=>[99]
 |10=>[80]
 |_=>[]
def kX:Nat->Value
 |7=>fv 169
 |8=>fv 155
 |_=>.nilFunc
def Q2:Nat->Value
 |1=>fv 200
 |2=>fv 201
 |3=>fv 202
 |4=>fv 204
 |5=>fv 205
 |6=>fv 206
 |7=>fv 207
 |8=>fv 209
 |9=>fv 210
 |10=>fv 211
 |11=>fv 212
 |_=>.nilFunc
def zc6(k:Nat):List Value:=[sv (k8 k),sv (Kh k),kX k,Q2 k]
def XF:Array Value:=((List.range 12).map zc6).flatten.toArray
theorem NO:(prog.info? 240).map (fun i=>(i.zero,i.size))=some (some (.agg J1),48):=zg
theorem zaN:(prog.info? 239).map (·.size)=some 4:=zg
theorem Ey:XF.size=48:=zg
theorem Lw:XF.all (·.oneCell')=true:=zg
theorem MQ(w:World):
 Calls prog 164 #[] w fun e w'=>e=.returned (.agg XF)/\Below w.heap.size w w':=by
 have hz:=(zero_of_info NO).1;have Hi:=za (zero_of_info NO).2;have Hz:=za hz;clear hz;go_enter func164,ntmps164;have Hs:=za Ey;have Ho:=za Lw;go_wp2_with (first|(refine G1 rfl 240 rfl (.agg J1) (Hz.out _) ?_)|(refine CL rfl 239 _ _ rfl _ _ _ _ _ (World.size_alloc _ _) rfl rfl (by(try simp only[KD]);decide) MH qP ?_)|(refine wpList_load_row rfl 240 _ rfl (w.heap.size+1) rfl 240 XF (0,0) _ ((heap_alloc2_new w _ _).trans (congrArg (fun c=>some (Obj.cells c 240 (0,0))) zg)) underlying240 rfl Oj ?_)|(refine wpList_store_row rfl 240 _ _ rfl w.heap.size XF rfl rfl 240 J1 (heap_alloc2_old w _ _) Oj (by rw[Hs.out];decide) Ho.out ?_))
 refine bodyPost_ret (v:=.agg XF) (results_cell_row rfl _ _ w.heap.size 240 XF (0,0) _ rfl (setRow_heap _ _ _ _ _ _ (heap_alloc2_old w _ _)) underlying240 rfl Oj) rfl ⟨rfl,?_⟩;exact MF ((zj.alloc zo _).alloc zl _) zo _
theorem GL(k:Nat)(hk:k<12)(w:World):(Instr.index 240 (.agg XF) (.int .i64 k)).run prog w=.ok (.agg #[.string ⟨(k8 k).toArray⟩,.string ⟨(Kh k).toArray⟩,kX k,Q2 k]) w:=Fk
attribute [irreducible] XF
end
section
open Go.RowKit
structure Pc where
 kind:Int
 text:ByteArray
 word:Int
 more:Bool
def ZY(p:Pc):List Value:=[.int .i64 p.kind,.string p.text,.int .i64 p.word,.bool p.more]
theorem J0(p:Pc):(ZY p).length=4:=rfl
def Zd(t:ByteArray):Pc:=⟨1,t,0,false⟩
def KH(l:List Pc)(f:Pc->Pc):List Pc:=l.modify (l.length - 1) f
def Zq(l:List Pc)(p:Pc):List Pc:=
 if p.kind=1/\(l.getLast?.map (·.kind))=some 1 then KH l fun q=>{q with text:=q.text++p.text}else l++[p]
def V9:ze:=[97,98,99,100,101,102,103,104,105,106,107,108,109,110,111,112,113,114,115,116,117,118,119,120,121,122]
def XQ(long:Bool)(r:ze):Nat:=if long then r.length - (Lib.trimLeftS r V9).length else min 1 r.length
def Yf(long:Bool)(w:ze)(k:Nat):Bool:= !w.isEmpty&&((long&&k8 k==w)||(!long&&Kh k==w))
def U4(long:Bool)(w:ze):Nat:=((List.range 12).find? (Yf long w)).getD 0
theorem DQ(p:Nat->Bool)(n k:Nat)(hk:k<n)(h1:p k=true)(h0:∀j,j<k->p j=false):(List.range n).find? p=some k:=by
 rw[List.find?_eq_some_iff_append];refine⟨h1,List.range k,(List.range n).drop (k+1),?_,fun a ha=>by rw[h0 a (List.mem_range.1 ha)];rfl⟩;have e1:List.range k=(List.range n).take k:=by rw[List.take_range];congr 1;omega
 have e2:k::(List.range n).drop (k+1)=(List.range n).drop k:=by
  rw[zd7 (i:=k) (by simpa using hk)];simp
 rw[e1,e2,List.take_append_drop]
theorem zfj(long:Bool)(w:ze)(k:Nat)(hk:k<12)(h1:Yf long w k=true)(h0:∀j,j<k->Yf long w j=false):U4 long w=k:=by
 rw[U4,DQ _ 12 k hk h1 h0];rfl
theorem za6(long:Bool)(w:ze)(h0:∀j,j<12->Yf long w j=false):U4 long w=0:=by
 rw[U4,List.find?_eq_none.2 (fun x hx=>by rw[h0 x (List.mem_range.1 hx)];simp)];rfl
theorem SX(long:Bool)(w:ze):U4 long w<12:=by
 unfold U4;cases h:(List.range 12).find? (Yf long w)with
 |none=>simp
 |some k=>exact List.mem_range.1 (List.mem_of_find?_eq_some h)
def ZW(r:ze):Option (ze×ze):=
 match r with
 | []=>none
 |b::t=>if b=123 then(if(Lib.cut t [125]).2.2 then some ((Lib.cut t [125]).1,(Lib.cut t [125]).2.1)else none)else none
def Xk(t:ze):Option (Int×Bool):=
 match(List.range 100).find? (fun n=>decide (1<=n)&&Lib.decDigits n==Lib.trimSuffix t [43])with
 |some n=>some (n,Lib.hasSuffix t [43])
 |none=>none
def Va(k:Nat)(r:ze):Option (Pc×ze):=
 if k=0 then none
 else if k=7 then(ZW r).bind fun(t,r')=>if Z4 t then some (⟨7,bs t,0,false⟩,r')else none
 else if k=8 then(ZW r).bind fun(t,r')=>if UA t then some (⟨8,bs t,0,false⟩,r')else none
 else if k=9/\r.head? =some 123 then(ZW r).bind fun(t,r')=>(Xk t).map fun(n,m)=>(⟨9,bs [],n,m⟩,r')
 else some (⟨k,bs [],0,false⟩,r)
def Z6(c:UInt8)(r:ze):Option (Pc×ze):=
 if r.head? =some c then some (Zd (bs [c]),r.tail)else Va (U4 (c==36) (r.take (XQ (c==36) r))) (r.drop (XQ (c==36) r))
def VP(c:UInt8):Bool:=c==36||c==37
def Ya:Nat->ze->List Pc->Option (List Pc)
 |_,[],acc=>some acc
 |0,_::_,_=>none
 |n+1,c::r,acc=>if VP c then match Z6 c r with
  |some (p,r')=>Ya n r' (Zq acc p)
  |none=>none
  else Ya n r (Zq acc (Zd (bs [c])))
def kD(s:ze):Option (List Pc):=Ya s.length s []
theorem yh(a b:ze):bs a++bs b=bs (a++b):=Gg (by rw[TD,qz,qz,qz])
theorem Jt(l:List Pc)(q:Pc)(f:Pc->Pc):KH (l++[q]) f=l++[f q]:=by
 unfold KH;rw[r7,List.length_singleton,Nat.add_sub_cancel,List.modify_eq_take_drop];simp[]
theorem zbJ(l:List Pc)(a b:ze):Zq (Zq l (Zd (bs a))) (Zd (bs b))=Zq l (Zd (bs (a++b))):=by
 rcases List.eq_nil_or_concat l with h|⟨m,q,h⟩
 · subst h;have e:Zq [] (Zd (bs a))=[]++[Zd (bs a)]:=by simp[Zq]
   rw[e];simp only[Zq,List.getLast?_append,List.getLast?_singleton,Option.some_or,zd6];simp[Zd,yh,KH]
 · rw [List.concat_eq_append]at h;subst h;by_cases hq:q.kind=1
   · have e:∀t,Zq (m++[q]) (Zd t)=m++[{q with text:=q.text++t}]:=fun t=>by
      rw[Zq,if_pos ⟨rfl,MY⟩,Jt];rfl
     rw[e,e,Zq,if_pos ⟨rfl,MY⟩,Jt];simp[Zd,ByteArray.append_assoc,yh]
   · have e:∀t,Zq (m++[q]) (Zd t)=(m++[q])++[Zd t]:=fun t=>by
      rw[Zq,if_neg MY]
     rw[e,e,Zq,if_pos ⟨rfl,by simp[Zd]⟩,Jt];simp[Zd,yh]
theorem zbg(run rest:ze)(h:∀c∈run,VP c=false)(hr:run≠[])(n:Nat)(acc:List Pc):Ya (n+run.length) (run++rest) acc=Ya n rest (Zq acc (Zd (bs run))):=by
 induction run generalizing acc with
 |nil=>exact absurd rfl hr
 | cons c run ih=>
   have hc:=h c zl;rw[u0,show n+(run.length+1)=(n+run.length)+1 from by omega,List.cons_append];rw[Ya,hc];simp only[zd3,if_false];by_cases h0:run=[]
   · subst h0;rfl
   · rw[ih (fun d hd=>h d (by simp[hd])) h0,zbJ];rfl
end
section
structure Cs where
 kd:Int
 id:ByteArray
 lab:ByteArray
 dep:Int
 ok:Bool
structure Fq where
 kd:Int
 id:ByteArray
 lab:ByteArray
 s:Int
 t:Int
 e:Int
 n:Nat
def VL(b:UInt8):Bool:=(65<=b&&b<=90)||(97<=b&&b<=122)||(48<=b&&b<=57)||b==95||b==46||b==45
def Kv(s:ze):Bool:=s.all VL&&(!s.isEmpty&&decide (s.length<=16))
def Vy(n h:Int):Bool:=decide (1<=n)&&decide (n<=h)
def Gv(x:Fq):Bool:=Vy x.t 16&&Vy x.s x.t
def Gc(x y:Fq):Bool:=x.kd==y.kd&&(L x.id==L y.id&&(L x.lab==L y.lab&&(x.s==y.s&&(x.t==y.t&&(x.e==y.e&&x.n==0)))))
def MI(x:Fq):Fq:=⟨x.kd,x.id,if x.kd=1 then x.lab else⟨#[]⟩,if x.kd=2∨x.kd=4 then x.s else 0,if x.kd=2∨x.kd=4 then x.t else 0,if x.kd=2 then x.e else 0,0⟩
def Re(x:Fq):Bool:=
 if x.kd=1 then x.n==0&&((L x.lab).isEmpty||Kv (L x.lab))
 else if x.kd=2 then x.n==1&&(Gv x&&Vy x.e x.t)
 else if x.kd=3 then x.n==1
 else if x.kd=4 then Vy x.n 16&&Gv x
 else if x.kd=5 then Vy x.n 16
 else false
def QK(x:Fq):Bool:=if x.kd=0 then Gc x ⟨0,⟨#[]⟩,⟨#[]⟩,0,0,0,0⟩else Re x&&(Kv (L x.id)&&Gc {x with n:=0} (MI x))
structure zZ where
 a:Nat
 b:Bool
section
variable(s:ze)
def qX(ends:ze)(a:Nat):ze:=(s.drop a).takeWhile fun b=> !ends.contains b
def XX(ends:ze)(p:zZ):zZ:={p with a:=p.a+(qX s ends p.a).length}
def Vq(t:ze)(p:zZ):Bool:=t.isPrefixOf (s.drop p.a)
def Uf(t:ze)(p:zZ):zZ:=if Vq s t p then{p with a:=p.a+t.length}else p
def Za(t:ze)(p:zZ):zZ:={Uf s t p with b:= !Vq s t p||p.b}
def JN(r:ze):Bool:=match Lib.atoiAll r with
 | .ok _=>true
 |_=>false
def kj(r:ze):Int:=match Lib.atoiAll r with
 | .ok v=>v
 | .range=>Lib.atoiSat r
 |_=>0
def UH(p:zZ):Int×zZ:=(kj (qX s [47,40,44,41,58] p.a),{a:=p.a+(qX s [47,40,44,41,58] p.a).length,b:=p.b|| !(JN (qX s [47,40,44,41,58] p.a)&&Lib.itoa (kj (qX s [47,40,44,41,58] p.a))==qX s [47,40,44,41,58] p.a)})
def UN(k:ze)(p:zZ):(Int×Int×Int×Int)×zZ:=
 if k=[114,97,105,100]then
  let x:=UH s (Za s [58] p);let y:=UH s (Za s [47] x.2);let z:=UH s (Za s [47] y.2)
  ((2,x.1,y.1,z.1),z.2)
 else if k=[99,114,121,112,116]then((3,0,0,0),p)
 else if k=[112,118]then
  let x:=UH s (Za s [58] p);let y:=UH s (Za s [47] x.2)
  ((4,x.1,y.1,0),y.2)
 else if k=[116,97,98,108,101]then((5,0,0,0),p)
 else((0,0,0,0),{p with b:=true})
structure Ir where
 n:Nat
 dep:Int
 ok:Bool
mutual
def Yc:Nat->zZ->Cs×zZ
 |0,p=>(⟨0,⟨#[]⟩,⟨#[]⟩,0,true⟩,p)
 | f+1,p=>
   let k:=qX s [58,44,41] p.a
   if k=[]then(⟨0,⟨#[]⟩,⟨#[]⟩,0,true⟩,XX s [58,44,41] p)else
   let p2:=Za s [58] (XX s [58,44,41] p);let i:=bs (qX s [58,40,44,41] p2.a);let p3:=XX s [58,40,44,41] p2
   if k=[102,115]then
    let p4:=Za s [58] p3;let b:=bs (qX s [44,41] p4.a)
    (⟨1,i,b,1,QK ⟨1,i,b,0,0,0,0⟩⟩,XX s [44,41] p4)
   else
    let q:=UN s k p3;let r:=YH f q.2
    (⟨q.1.1,i,⟨#[]⟩,if q.1.1=0 then r.1.dep else r.1.dep+1,QK ⟨q.1.1,i,⟨#[]⟩,q.1.2.1,q.1.2.2.1,q.1.2.2.2,r.1.n⟩&&r.1.ok⟩,r.2)
def YH:Nat->zZ->Ir×zZ
 |0,p=>(⟨0,0,true⟩,p)
 |f+1,p=>if(Za s [40] p).b then(⟨0,0,true⟩,Za s [40] p)else kM f ⟨0,0,true⟩ (Za s [40] p)
def kM:Nat->Ir->zZ->Ir×zZ
 |0,_,p=>(⟨0,0,true⟩,p)
 | f+1,x,p=>
   let c:=Yc f p;let y:Ir:=⟨x.n+1,max x.dep c.1.dep,x.ok&&c.1.ok⟩;let p2:=Uf s [41] c.2
   if Vq s [41] c.2 then(y,p2)else
   let p3:=Za s [44] p2
   if p3.b then(⟨0,0,true⟩,p3)else kM f y p3
end
end
def V7(s:ze):Option (Int×ByteArray×ByteArray):=
 let c:=Yc s 800 ⟨0,false⟩
 if s.length<=256/\c.2.b=false/\c.2.a=s.length/\c.1.dep<=6/\c.1.ok=true then some (c.1.kd,c.1.id,c.1.lab)else none
end
section
def QH(d:Dd):Option ByteArray:=if d.kd=2∨d.kd=3 then some (bs (Lib.replaceAll (L d.og) [33] [47]))else none
def zO(l:List At)(k v:ByteArray):List At:=if(L v).isEmpty then l else XK l ⟨k,v⟩
abbrev Jq:ByteArray:=⟨#[68,69,86,80,65,84,72]⟩
abbrev Jb:ByteArray:=⟨#[83,85,66,83,89,83,84,69,77]⟩
abbrev Jk:ByteArray:=⟨#[68,82,73,86,69,82]⟩
abbrev JH:ByteArray:=⟨#[77,79,68,65,76,73,65,83]⟩
abbrev UY:ByteArray:=⟨#[68,69,86,78,65,77,69]⟩
abbrev Vz:ByteArray:=⟨#[78,85,77,66,69,82]⟩
abbrev kn:ByteArray:=⟨#[73,78,84,69,82,70,65,67,69]⟩
abbrev I0:ByteArray:=⟨#[73,68,95,80,65,84,72]⟩
abbrev I1:ByteArray:=⟨#[73,68,95,80,65,84,72,95,84,65,71]⟩
abbrev C1:ByteArray:=⟨#[73,68,95,70,83,95,85,83,65,71,69]⟩
abbrev Hg:ByteArray:=⟨#[73,68,95,70,83,95,85,85,73,68]⟩
abbrev S7:ByteArray:=⟨#[73,68,95,70,83,95,76,65,66,69,76]⟩
abbrev Vn:ByteArray:=⟨#[73,68,95,78,69,84,95,78,65,77,69,95,79,78,66,79,65,82,68]⟩
abbrev VZ:ByteArray:=⟨#[73,68,95,78,69,84,95,78,65,77,69,95,83,76,79,84]⟩
abbrev kC:ByteArray:=⟨#[73,68,95,78,69,84,95,78,65,77,69,95,77,65,67]⟩
abbrev Xj:ByteArray:=⟨#[101,110,111]⟩
abbrev XO:ByteArray:=⟨#[101,110,115]⟩
abbrev Uh:ByteArray:=⟨#[101,110,120]⟩
abbrev Uw:ByteArray:=⟨#[105,110,100,101,120]⟩
abbrev UP:ByteArray:=⟨#[115,108,111,116]⟩
abbrev Uz:ByteArray:=⟨#[97,100,100,114,101,115,115]⟩
abbrev U5:ByteArray:=⟨#[99,111,110,116,101,110,116]⟩
abbrev T3:ByteArray:=⟨#[58]⟩
abbrev JF:ByteArray:=⟨#[45]⟩
def kK(d:Dd)(o:ByteArray):List At:=
 let a:=zO (zO (zO (zO [] Jq o) Jb d.sb) Jk d.dr) JH d.al;let b:=match QH d with
  |some v=>zO (zO a UY v) Vz (bs (Lib.itoa d.nb))
  |none=>a
 if d.kd=4 then zO b kn d.og else b
def YG(l:List Dd)(n:Int):List At:=match zC l n with
 |some d=>kK d (qK l n)
 |none=>[]
def Ue(d:Dd):ByteArray:=d.sb++T3++d.og
def Xp:List Dd->ByteArray
 | []=>⟨#[]⟩
 |d::r=>(r.foldl (fun p a=>Ue a++JF++p) (Ue d)).extract 0 256
def YZ(z:Int):Int:=if(65<=z/\z<=90)∨(97<=z/\z<=122)∨(48<=z/\z<=57)then z else 95
def Uv(l:List Dd)(n:Int):List At:=match zC l n with
 |some _=>[⟨I0,Xp (zW l n)⟩,⟨I1,bs (Lib.mapD YZ (L (Xp (zW l n))))⟩]
 |none=>[]
def Yb(k:Int):ByteArray:=if k=1 then⟨#[102,105,108,101,115,121,115,116,101,109]⟩else if k=2 then⟨#[114,97,105,100]⟩else if k=3 then⟨#[99,114,121,112,116,111]⟩else if k=4 then⟨#[109,101,109,98,101,114]⟩else if k=5 then⟨#[116,97,98,108,101]⟩else⟨#[]⟩
def IK(s:ByteArray):Option (ByteArray×ByteArray×ByteArray):=match V7 (L s)with
 |some (k,i,l)=>if k=0 then none else some (Yb k,i,l)
 |none=>none
def UQ(d:Dd):List At:=if d.kd=2 then(match IK (qQ d.ats (L U5))with
 |some (u,i,l)=>zO (zO (zO [] C1 u) Hg i) S7 l
 |none=>[])else []
def YX(l:List At)(k h:ByteArray)(v:Option ByteArray):List At:=match v with
 |some v=>if X0 (L (h++v))then zO l k (h++v)else l
 |none=>l
def Vw(d:Dd):List At:=if d.kd=4 then YX (YX (YX [] Vn Xj ((zX d.ats (L Uw)).map (·.val))) VZ XO ((zX d.ats (L UP)).map (·.val))) kC Uh ((zX d.ats (L Uz)).map fun x=>bs (Lib.replaceAll (L x.val) [58] []))else []
def QM(name:ByteArray)(l:List Dd)(n:Int):List At:=
 if L name=[112,97,116,104]then Uv l n else if L name=[99,111,110,116,101,110,116]then(match zC l n with|some d=>UQ d|none=>[])else if L name=[110,101,116]then(match zC l n with|some d=>Vw d|none=>[])else []
end
end Go.Proofs.YtecbmndgpepkcaaGreatDoor

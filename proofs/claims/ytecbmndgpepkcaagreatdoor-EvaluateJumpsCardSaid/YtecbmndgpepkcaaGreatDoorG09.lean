/- Contracts of functions that the law reaches, and what they rest on; each under the premises that it names. Shortened by a program. -/
import Derived.Test.YtecbmndgpepkcaaGreatDoorG07
import Derived.Shelf.Strings.SlTrimAscii
import Derived.Lib.IndexAny
import Derived.Lib.MapU
namespace Go.Proofs.YtecbmndgpepkcaaGreatDoor
open Tryz
set_option maxHeartbeats 8000000
set_option maxRecDepth 100000
section
open Go.RowKit
theorem zdS(j:Nat)(b:UInt8)(h:Xa[j]? =some b):b.toNat<128:=by
 have hm:b∈Xa:=List.mem_of_getElem? h;simp only[Xa,List.mem_cons,List.not_mem_nil,or_false]at hm;rcases hm with h|h|h|h|h|h|h|h|h|h<;>subst h<;>decide
def Kx(l:ze):ze:=l.drop (Lib.trimRightS l Xa).length
theorem zaf(s:ByteArray)(w:World)(hs:s.size<=9223372036854775807):
 Calls prog 203 #[.string s] w fun e w'=>e=.returned (.string (bs (Kx (L s))))/\Below w.heap.size w w':=by
 have HT:=Any.strings_TrimRight_laid lays162 zg s ⟨#[48,49,50,51,52,53,54,55,56,57]⟩ w hs zi zdS;have hl:(Lib.trimRightS s.data.toList Xa).length<=s.size:=by
  rw[Lib.trimRightS,List.length_reverse];have:=(List.dropWhile_sublist (Xa.contains ·) (l:=s.data.toList.reverse)).length_le;rw[List.length_reverse]at this;rw[<-zC];exact this
 have HN:Hid (∀q,q=(Lib.trimRightS s.data.toList Xa).length->L (s.extract q s.size)=Kx (L s)):=fun q hq=>by
  rw[hq,Q8,Kx,List.take_of_length_le Vx]
 have HZ:=za (qY (Lib.trimRightS s.data.toList Xa));change Calls prog 241 #[.string s,.string ⟨#[48,49,50,51,52,53,54,55,56,57]⟩] w (fun e w'=>e=.returned (.string (bs (Lib.trimRightS s.data.toList Xa)))/\Below w.heap.size w w')at HT;generalize bs (Lib.trimRightS s.data.toList Xa)=r at*;generalize (Lib.trimRightS s.data.toList Xa).length=q at*;have hr:r.size<=s.size:=by rw[HZ.out];exact hl
 clear hl;go_enter func203,ntmps203;go_wp2_with (go_at_call 241;refine HT.mono ?_;rintro e w' ⟨rfl,hb⟩)
 go_ret;exact⟨zbQ (Kd (HN.out _ HZ.out)),hb⟩
theorem zeG(l:List At)(nm:ze)(k:Nat)(x:At)(hx:l[k]? =some x)(hno:∀j y,j<k->l[j]? =some y->(L y.name==nm)=false)(hyes:(L x.name==nm)=true):X9 l nm=some x.val:=by
 induction l generalizing k with
 |nil=>simp at hx
 | cons y l ih=>
   cases k with
   | zero=>
     simp at hx;subst hx;simp[X9,hyes]
   | succ k=>
     have h0:=hno 0 y zb zl;have:=ih k kY (fun j z hj hz=>hno (j+1) z zb MM);simp only[X9,List.find?_cons,h0]at this⊢;exact this
theorem Su(l:List At)(nm:ze)(hno:∀(j:Nat) (y:At),l[j]? =some y->(L y.name==nm)=false):X9 l nm=none:=by
 unfold X9;rw[List.find?_eq_none.2 (fun x hx=>by
  obtain⟨j,hj⟩:=List.getElem?_of_mem hx;rw[hno j x hj];simp)]
 rfl
structure Zv where
 A:Option Addr
 c:Nat
 l:List At
def Xk:List Zv->ze->ByteArray
 | [],_=>⟨#[]⟩
 | x::ls,nm=>match X9 x.l nm with
   |some v=>v
   |none=>Xk ls nm
theorem zhk(ls:List Zv)(nm:ze)(k:Nat)(x:Zv)(v:ByteArray)(hx:ls[k]? =some x)(hno:∀(j:Nat) (y:Zv),j<k->ls[j]? =some y->X9 y.l nm=none)(hv:X9 x.l nm=some v):Xk ls nm=v:=by
 induction ls generalizing k with
 |nil=>simp at hx
 | cons y ls ih=>
   cases k with
   | zero=>
     simp at hx;subst hx;simp[Xk,hv]
   | succ k=>
     have h0:=hno 0 y zb zl;simp only[Xk,h0];exact ih k kY (fun j z hj hz=>hno (j+1) z zb MM)
theorem zbL(ls:List Zv)(nm:ze)(hno:∀(j:Nat) (y:Zv),ls[j]? =some y->X9 y.l nm=none):Xk ls nm=⟨#[]⟩:=by
 induction ls with
 |nil=>rfl
 | cons y ls ih=>
   simp only[Xk,hno 0 y zl];exact ih (fun j z hz=>hno (j+1) z MM)
theorem yK (g off c:Nat)(ls:List Zv)(nm:ByteArray)(w:World)(hg:g<w.heap.size)(ho:∀(i:Nat) (x:Zv),ls[i]? =some x->w.cell? ⟨g,off+i,none⟩=some (.slice x.A x.l.length x.c))
 (hi:∀x∈ls,zr w w.heap.size x.A 2 x.l.length (cellsOf zu x.l)/\x.l.length<=4611686018427387904)(h0:ls.length<=1000):
 Calls prog 208 #[.string nm,.slice (some ⟨g,off,none⟩) ls.length c] w fun e w'=>e=.returned (.string (Xk ls (L nm)))/\Below w.heap.size w w':=by
 have HO:=za ho;have HI:=za hi;clear ho hi;generalize hM:ls.length=M at h0⊢;have HM:=za hM;clear hM;go_enter func208,ntmps208;go_wp2;go_loopg [11] M (fun gk i wr=>∃k:Nat,k+gk=M/\i=.int .i64 k/\Hid (∀(j:Nat) (y:Zv),j<k->ls[j]? =some y->X9 y.l (L nm)=none)/\Hid (Below w.heap.size w wr))
 case atStart=>exact⟨0,zb,rfl,fun j y hj=>absurd hj zb,zk⟩
 case round =>
  obtain⟨k,hk,rfl,hp,hb⟩:=hrel;have hk':k<=M:=zb;have HK:=za hk;clear hk;by_cases hlt:k<M
  · have hlt' :k<ls.length:=by rw[HM.out];exact hlt
    obtain⟨x,hx⟩:∃x,ls[k]? =some x:=⟨_,List.getElem?_eq_getElem hlt'⟩;have hc:wr.cell? ⟨g,off+k,none⟩=some (.slice x.A x.l.length x.c):=by
     rw[hb.out.cell (p:=⟨g,off+k,none⟩) hg];exact HO.out k x hx
    have hx2:=HI.out x (List.mem_of_getElem? hx);have HX:=za hx;have HR:=za hx2.1;have hN:=hx2.2;clear hx hx2 hlt';generalize hNN:x.l.length=N at*;have HN:=za hNN;clear hNN;go_wp2;obtain⟨wo,rfl⟩:∃wo:World,wo=wr:=⟨_,rfl⟩;go_loopg [17] N (fun gi i wi=>∃m:Nat,m+gi=N/\i=.int .i64 m/\Hid (∀(j:Nat) (y:At),j<m->x.l[j]? =some y->(L y.name==L nm)=false)/\Hid (Below w.heap.size w wi))
    case atStart=>exact⟨0,zb,rfl,fun j y hj=>absurd hj zb,hb⟩
    case round=>
     obtain⟨m,hm,rfl,hq,hbi⟩:=hrel;have hm':m<=N:=zb;have HMm:=za hm;clear hm;by_cases hlm:m<N
     · have hlm':m<x.l.length:=by rw[HN.out];exact hlm
       have hrow:=HR.out;rw[<-HN.out]at hrow;obtain⟨ba,off',hA,hB,hcc⟩:=hrow.cell MK hlm';obtain⟨y,hy⟩:∃y,x.l[m]? =some y:=⟨_,List.getElem?_eq_getElem hlm'⟩;have c0:wr.cell? ⟨ba,off'+m*2,none⟩=some (.string y.name):=by
        rw[hbi.out.cell (p:=⟨ba,off'+m*2,none⟩) hB];exact hcc m y hy 0 _ rfl
       have c1:wr.cell? ⟨ba,off'+m*2+1,none⟩=some (.string y.val):=by
        rw[hbi.out.cell (p:=⟨ba,off'+m*2+1,none⟩) hB];exact hcc m y hy 1 _ rfl
       have HY:=za hy;clear hy hcc hB hlm' hrow;rw[hA];have HA:=za hA;clear hA;cases hq2:(y.name.toList==nm.toList)
       · go_wp2;have hm:=HMm.out;rw[<-HA.out];go_roundg (gk - 1)
         case measure=>omega
         case rel=>
          refine⟨m+1,zb,zP,fun j z hj hz=>?_,?_⟩
          · rcases(by omega:j=m∨j<m)with e|e
            · subst e;rw[HY.out]at hz;injection hz with hz
              rw[<-hz,<-tl,<-tl];exact hq2
            · exact hq.out j z e hz
          · exact hbi.out.alloc hbi.out.size _
       · go_wp2;go_ret;refine⟨?_,hbi.out.alloc hbi.out.size _⟩;rw[zhk ls (L nm) k x y.val HX.out hp.out (zeG x.l (L nm) m y HY.out hq.out (by rw[<-tl,<-tl];exact hq2))];rfl
     · go_wp2;have hk:=HK.out;go_roundg (M - (k+1))
       case measure=>omega
       case rel=>
        refine⟨k+1,zb,zP,fun j z hj hz=>?_,hbi⟩;rcases(by omega:j=k∨j<k)with e|e
        · subst e;rw[HX.out]at hz;injection hz with hz
          rw[<-hz];exact Su x.l (L nm) fun j' y' hy'=>hq.out j' y' (by have:=(List.getElem?_eq_some_iff.1 hy').1;rw[HN.out]at this;omega) hy'
        · exact hp.out j z e hz
  · go_wp2;go_ret;refine⟨?_,hb.out⟩;rw[zbL ls (L nm) (fun j y hy=>hp.out j y (by have:=(List.getElem?_eq_some_iff.1 hy).1;rw[HM.out]at this;omega) hy)];rfl
end
section
open Go.RowKit
def sv(l:ze):Value:=.string ⟨l.toArray⟩
def fv(n:Nat):Value:=.func (.func n) #[] #[]
def Jp:Array Value:=(List.replicate 12 [sv [],sv [],.nilFunc,.nilFunc]).flatten.toArray
def ku:Nat->ze
 |2=>[107,101,114,110,101,108]
 |3=>[110,117,109,98,101,114]
 |4=>[100,101,118,112,97,116,104]
 |5=>[105,100]
 |6=>[100,114,105,118,101,114]
 |7=>[97,116,116,114]
 |8=>[101,110,118]
 |9=>[114,101,115,117,108,116]
 |10=>[112,97,114,101,110,116]
 |11=>[110,97,109,101]
 |_=>[]
def kw:Nat->ze
 |2=>[107]
 |3=>[110]
 |4=>[112]
 |5=>[98]
 |6=>[100]
 |7=>[115]
 |8=>[69]
 |9=>[99]
 |10=>[80]
 |_=>[]
def kK:Nat->Value
 |7=>fv 169
 |8=>fv 155
 |_=>.nilFunc
def QZ:Nat->Value
 |1=>fv 200
 |2=>fv 201
 |3=>fv 202
 |4=>fv 204
 |5=>fv 205
 |6=>fv 206
 |7=>fv 207
 |8=>fv 209
 |9=>fv 210
 |10=>fv 211
 |11=>fv 212
 |_=>.nilFunc
def zbF(k:Nat):List Value:=[sv (ku k),sv (kw k),kK k,QZ k]
def XJ:Array Value:=((List.range 12).map zbF).flatten.toArray
theorem Ot:(prog.info? 240).map (fun i=>(i.zero,i.size))=some (some (.agg Jp),48):=zg
theorem ziG:(prog.info? 239).map (·.size)=some 4:=zg
theorem L7:XJ.size=48:=zg
theorem D0:XJ.all (·.oneCell')=true:=zg
theorem M9(w:World):
 Calls prog 164 #[] w fun e w'=>e=.returned (.agg XJ)/\Below w.heap.size w w':=by
 have hz:=(zero_of_info Ot).1;have Hi:=za (zero_of_info Ot).2;have Hz:=za hz;clear hz;go_enter func164,ntmps164;have Hs:=za L7;have Ho:=za D0;go_wp2_with (first|(refine Gp rfl 240 rfl (.agg Jp) (Hz.out _) ?_)|(refine He rfl 239 _ _ rfl _ _ _ _ _ (World.size_alloc _ _) rfl rfl (by(try simp only[Ka]);decide) Nw qJ ?_)|(refine wpList_load_row rfl 240 _ rfl (w.heap.size+1) rfl 240 XJ (0,0) _ ((heap_alloc2_new w _ _).trans (congrArg (fun c=>some (Obj.cells c 240 (0,0))) zg)) underlying240 rfl Na ?_)|(refine wpList_store_row rfl 240 _ _ rfl w.heap.size XJ rfl rfl 240 Jp (heap_alloc2_old w _ _) Na (by rw[Hs.out];decide) Ho.out ?_))
 refine bodyPost_ret (v:=.agg XJ) (results_cell_row rfl _ _ w.heap.size 240 XJ (0,0) _ rfl (setRow_heap _ _ _ _ _ _ (heap_alloc2_old w _ _)) underlying240 rfl Na) rfl ⟨rfl,?_⟩;exact NW ((zk.alloc zo _).alloc zl _) zo _
theorem Gi(k:Nat)(hk:k<12)(w:World):(Instr.index 240 (.agg XJ) (.int .i64 k)).run prog w=.ok (.agg #[.string ⟨(ku k).toArray⟩,.string ⟨(kw k).toArray⟩,kK k,QZ k]) w:=FP
attribute [irreducible] XJ
end
section
open Go.RowKit
structure Pc where
 kind:Int
 text:ByteArray
 word:Int
 more:Bool
def ZG(p:Pc):List Value:=[.int .i64 p.kind,.string p.text,.int .i64 p.word,.bool p.more]
theorem JL(p:Pc):(ZG p).length=4:=rfl
def qV(t:ByteArray):Pc:=⟨1,t,0,false⟩
def KO(l:List Pc)(f:Pc->Pc):List Pc:=l.modify (l.length - 1) f
def Zk(l:List Pc)(p:Pc):List Pc:=
 if p.kind=1/\(l.getLast?.map (·.kind))=some 1 then KO l fun q=>{q with text:=q.text++p.text}else l++[p]
def Vr:ze:=[97,98,99,100,101,102,103,104,105,106,107,108,109,110,111,112,113,114,115,116,117,118,119,120,121,122]
def Xp(long:Bool)(r:ze):Nat:=if long then r.length - (Lib.trimLeftS r Vr).length else min 1 r.length
def Yd(long:Bool)(w:ze)(k:Nat):Bool:= !w.isEmpty&&((long&&ku k==w)||(!long&&kw k==w))
def UL(long:Bool)(w:ze):Nat:=((List.range 12).find? (Yd long w)).getD 0
theorem vg(p:Nat->Bool)(n k:Nat)(hk:k<n)(h1:p k=true)(h0:∀j,j<k->p j=false):(List.range n).find? p=some k:=by
 rw[List.find?_eq_some_iff_append];refine⟨h1,List.range k,(List.range n).drop (k+1),?_,fun a ha=>by rw[h0 a (List.mem_range.1 ha)];rfl⟩;have e1:List.range k=(List.range n).take k:=by rw[List.take_range];congr 1;omega
 have e2:k::(List.range n).drop (k+1)=(List.range n).drop k:=by
  rw[List.drop_eq_getElem_cons (i:=k) (by simpa using hk)];simp
 rw[e1,e2,List.take_append_drop]
theorem zg3(long:Bool)(w:ze)(k:Nat)(hk:k<12)(h1:Yd long w k=true)(h0:∀j,j<k->Yd long w j=false):UL long w=k:=by
 rw[UL,vg _ 12 k hk h1 h0];rfl
theorem zdx(long:Bool)(w:ze)(h0:∀j,j<12->Yd long w j=false):UL long w=0:=by
 rw[UL,List.find?_eq_none.2 (fun x hx=>by rw[h0 x (List.mem_range.1 hx)];simp)];rfl
theorem E0(long:Bool)(w:ze):UL long w<12:=by
 unfold UL;cases h:(List.range 12).find? (Yd long w)with
 |none=>simp
 |some k=>exact List.mem_range.1 (List.mem_of_find?_eq_some h)
def ZL(r:ze):Option (ze×ze):=
 match r with
 | []=>none
 |b::t=>if b=123 then(if(Lib.cut t [125]).2.2 then some ((Lib.cut t [125]).1,(Lib.cut t [125]).2.1)else none)else none
def Xh(t:ze):Option (Int×Bool):=
 match(List.range 100).find? (fun n=>decide (1<=n)&&Lib.decDigits n==Lib.trimSuffix t [43])with
 |some n=>some (n,Lib.hasSuffix t [43])
 |none=>none
def UX(k:Nat)(r:ze):Option (Pc×ze):=
 if k=0 then none
 else if k=7 then(ZL r).bind fun(t,r')=>if ZT t then some (⟨7,bs t,0,false⟩,r')else none
 else if k=8 then(ZL r).bind fun(t,r')=>if Uu t then some (⟨8,bs t,0,false⟩,r')else none
 else if k=9/\r.head? =some 123 then(ZL r).bind fun(t,r')=>(Xh t).map fun(n,m)=>(⟨9,bs [],n,m⟩,r')
 else some (⟨k,bs [],0,false⟩,r)
def ZW(c:UInt8)(r:ze):Option (Pc×ze):=
 if r.head? =some c then some (qV (bs [c]),r.tail)else UX (UL (c==36) (r.take (Xp (c==36) r))) (r.drop (Xp (c==36) r))
def VB(c:UInt8):Bool:=c==36||c==37
def QS:Nat->ze->List Pc->Option (List Pc)
 |_,[],acc=>some acc
 |0,_::_,_=>none
 |n+1,c::r,acc=>if VB c then match ZW c r with
  |some (p,r')=>QS n r' (Zk acc p)
  |none=>none
  else QS n r (Zk acc (qV (bs [c])))
def V7(s:ze):Option (List Pc):=QS s.length s []
theorem RP(a b:ze):bs a++bs b=bs (a++b):=Kh (by rw[Rw,qr,qr,qr])
theorem JD(l:List Pc)(q:Pc)(f:Pc->Pc):KO (l++[q]) f=l++[f q]:=by
 unfold KO;rw[List.length_append,List.length_singleton,Nat.add_sub_cancel,List.modify_eq_take_drop];simp[]
theorem zaI(l:List Pc)(a b:ze):Zk (Zk l (qV (bs a))) (qV (bs b))=Zk l (qV (bs (a++b))):=by
 rcases List.eq_nil_or_concat l with h|⟨m,q,h⟩
 · subst h;have e:Zk [] (qV (bs a))=[]++[qV (bs a)]:=by simp[Zk]
   rw[e];simp only[Zk,List.getLast?_append,List.getLast?_singleton,Option.some_or,Option.map_some];simp[qV,RP,KO]
 · rw [List.concat_eq_append]at h;subst h;by_cases hq:q.kind=1
   · have e:∀t,Zk (m++[q]) (qV t)=m++[{q with text:=q.text++t}]:=fun t=>by
      rw[Zk,if_pos ⟨rfl,Oh⟩,JD];rfl
     rw[e,e,Zk,if_pos ⟨rfl,Oh⟩,JD];simp[qV,ByteArray.append_assoc,RP]
   · have e:∀t,Zk (m++[q]) (qV t)=(m++[q])++[qV t]:=fun t=>by
      rw[Zk,if_neg Oh]
     rw[e,e,Zk,if_pos ⟨rfl,by simp[qV]⟩,JD];simp[qV,RP]
theorem zdb(run rest:ze)(h:∀c∈run,VB c=false)(hr:run≠[])(n:Nat)(acc:List Pc):QS (n+run.length) (run++rest) acc=QS n rest (Zk acc (qV (bs run))):=by
 induction run generalizing acc with
 |nil=>exact absurd rfl hr
 | cons c run ih=>
   have hc:=h c zl;rw[List.length_cons,show n+(run.length+1)=(n+run.length)+1 from by omega,List.cons_append];rw[QS,hc];simp only[Bool.false_eq_true,if_false];by_cases h0:run=[]
   · subst h0;rfl
   · rw[ih (fun d hd=>h d (by simp[hd])) h0,zaI];rfl
end
section
structure Cs where
 kd:Int
 id:ByteArray
 lab:ByteArray
 dep:Int
 ok:Bool
structure Fq where
 kd:Int
 id:ByteArray
 lab:ByteArray
 s:Int
 t:Int
 e:Int
 n:Nat
def Va(b:UInt8):Bool:=(65<=b&&b<=90)||(97<=b&&b<=122)||(48<=b&&b<=57)||b==95||b==46||b==45
def Kf(s:ze):Bool:=s.all Va&&(!s.isEmpty&&decide (s.length<=16))
def VI(n h:Int):Bool:=decide (1<=n)&&decide (n<=h)
def G8(x:Fq):Bool:=VI x.t 16&&VI x.s x.t
def JR(x y:Fq):Bool:=x.kd==y.kd&&(L x.id==L y.id&&(L x.lab==L y.lab&&(x.s==y.s&&(x.t==y.t&&(x.e==y.e&&x.n==0)))))
def NF(x:Fq):Fq:=⟨x.kd,x.id,if x.kd=1 then x.lab else⟨#[]⟩,if x.kd=2∨x.kd=4 then x.s else 0,if x.kd=2∨x.kd=4 then x.t else 0,if x.kd=2 then x.e else 0,0⟩
def Ph(x:Fq):Bool:=
 if x.kd=1 then x.n==0&&((L x.lab).isEmpty||Kf (L x.lab))
 else if x.kd=2 then x.n==1&&(G8 x&&VI x.e x.t)
 else if x.kd=3 then x.n==1
 else if x.kd=4 then VI x.n 16&&G8 x
 else if x.kd=5 then VI x.n 16
 else false
def Qz(x:Fq):Bool:=if x.kd=0 then JR x ⟨0,⟨#[]⟩,⟨#[]⟩,0,0,0,0⟩else Ph x&&(Kf (L x.id)&&JR {x with n:=0} (NF x))
structure zW where
 a:Nat
 b:Bool
section
variable(s:ze)
def qS(ends:ze)(a:Nat):ze:=(s.drop a).takeWhile fun b=> !ends.contains b
def XO(ends:ze)(p:zW):zW:={p with a:=p.a+(qS s ends p.a).length}
def UJ(t:ze)(p:zW):Bool:=t.isPrefixOf (s.drop p.a)
def XW(t:ze)(p:zW):zW:=if UJ s t p then{p with a:=p.a+t.length}else p
def qT(t:ze)(p:zW):zW:={XW s t p with b:= !UJ s t p||p.b}
def Jd(r:ze):Bool:=match Lib.atoiAll r with
 | .ok _=>true
 |_=>false
def VY(r:ze):Int:=match Lib.atoiAll r with
 | .ok v=>v
 | .range=>Lib.atoiSat r
 |_=>0
def Uq(p:zW):Int×zW:=(VY (qS s [47,40,44,41,58] p.a),{a:=p.a+(qS s [47,40,44,41,58] p.a).length,b:=p.b|| !(Jd (qS s [47,40,44,41,58] p.a)&&Lib.itoa (VY (qS s [47,40,44,41,58] p.a))==qS s [47,40,44,41,58] p.a)})
def Uv(k:ze)(p:zW):(Int×Int×Int×Int)×zW:=
 if k=[114,97,105,100]then
  let x:=Uq s (qT s [58] p);let y:=Uq s (qT s [47] x.2);let z:=Uq s (qT s [47] y.2)
  ((2,x.1,y.1,z.1),z.2)
 else if k=[99,114,121,112,116]then((3,0,0,0),p)
 else if k=[112,118]then
  let x:=Uq s (qT s [58] p);let y:=Uq s (qT s [47] x.2)
  ((4,x.1,y.1,0),y.2)
 else if k=[116,97,98,108,101]then((5,0,0,0),p)
 else((0,0,0,0),{p with b:=true})
structure Ir where
 n:Nat
 dep:Int
 ok:Bool
mutual
def Yb:Nat->zW->Cs×zW
 |0,p=>(⟨0,⟨#[]⟩,⟨#[]⟩,0,true⟩,p)
 | f+1,p=>
   let k:=qS s [58,44,41] p.a
   if k=[]then(⟨0,⟨#[]⟩,⟨#[]⟩,0,true⟩,XO s [58,44,41] p)else
   let p2:=qT s [58] (XO s [58,44,41] p);let i:=bs (qS s [58,40,44,41] p2.a);let p3:=XO s [58,40,44,41] p2
   if k=[102,115]then
    let p4:=qT s [58] p3;let b:=bs (qS s [44,41] p4.a)
    (⟨1,i,b,1,Qz ⟨1,i,b,0,0,0,0⟩⟩,XO s [44,41] p4)
   else
    let q:=Uv s k p3;let r:=Yy f q.2
    (⟨q.1.1,i,⟨#[]⟩,if q.1.1=0 then r.1.dep else r.1.dep+1,Qz ⟨q.1.1,i,⟨#[]⟩,q.1.2.1,q.1.2.2.1,q.1.2.2.2,r.1.n⟩&&r.1.ok⟩,r.2)
def Yy:Nat->zW->Ir×zW
 |0,p=>(⟨0,0,true⟩,p)
 |f+1,p=>if(qT s [40] p).b then(⟨0,0,true⟩,qT s [40] p)else kZ f ⟨0,0,true⟩ (qT s [40] p)
def kZ:Nat->Ir->zW->Ir×zW
 |0,_,p=>(⟨0,0,true⟩,p)
 | f+1,x,p=>
   let c:=Yb f p;let y:Ir:=⟨x.n+1,max x.dep c.1.dep,x.ok&&c.1.ok⟩;let p2:=XW s [41] c.2
   if UJ s [41] c.2 then(y,p2)else
   let p3:=qT s [44] p2
   if p3.b then(⟨0,0,true⟩,p3)else kZ f y p3
end
end
def U4(s:ze):Option (Int×ByteArray×ByteArray):=
 let c:=Yb s 800 ⟨0,false⟩
 if s.length<=256/\c.2.b=false/\c.2.a=s.length/\c.1.dep<=6/\c.1.ok=true then some (c.1.kd,c.1.id,c.1.lab)else none
end
section
def Yh(d:Dd):Option ByteArray:=if d.kd=2∨d.kd=3 then some (bs (Lib.replaceAll (L d.og) [33] [47]))else none
def zL(l:List At)(k v:ByteArray):List At:=if(L v).isEmpty then l else Xx l ⟨k,v⟩
abbrev Jv:ByteArray:=⟨#[68,69,86,80,65,84,72]⟩
abbrev Jr:ByteArray:=⟨#[83,85,66,83,89,83,84,69,77]⟩
abbrev Jn:ByteArray:=⟨#[68,82,73,86,69,82]⟩
abbrev JT:ByteArray:=⟨#[77,79,68,65,76,73,65,83]⟩
abbrev U0:ByteArray:=⟨#[68,69,86,78,65,77,69]⟩
abbrev Vn:ByteArray:=⟨#[78,85,77,66,69,82]⟩
abbrev V5:ByteArray:=⟨#[73,78,84,69,82,70,65,67,69]⟩
abbrev GV:ByteArray:=⟨#[73,68,95,80,65,84,72]⟩
abbrev Iq:ByteArray:=⟨#[73,68,95,80,65,84,72,95,84,65,71]⟩
abbrev LX:ByteArray:=⟨#[73,68,95,70,83,95,85,83,65,71,69]⟩
abbrev Dn:ByteArray:=⟨#[73,68,95,70,83,95,85,85,73,68]⟩
abbrev AG:ByteArray:=⟨#[73,68,95,70,83,95,76,65,66,69,76]⟩
abbrev UH:ByteArray:=⟨#[73,68,95,78,69,84,95,78,65,77,69,95,79,78,66,79,65,82,68]⟩
abbrev VJ:ByteArray:=⟨#[73,68,95,78,69,84,95,78,65,77,69,95,83,76,79,84]⟩
abbrev VZ:ByteArray:=⟨#[73,68,95,78,69,84,95,78,65,77,69,95,77,65,67]⟩
abbrev Y5:ByteArray:=⟨#[101,110,111]⟩
abbrev Xu:ByteArray:=⟨#[101,110,115]⟩
abbrev XZ:ByteArray:=⟨#[101,110,120]⟩
abbrev UA:ByteArray:=⟨#[105,110,100,101,120]⟩
abbrev Uw:ByteArray:=⟨#[115,108,111,116]⟩
abbrev Ui:ByteArray:=⟨#[97,100,100,114,101,115,115]⟩
abbrev UW:ByteArray:=⟨#[99,111,110,116,101,110,116]⟩
abbrev jm:ByteArray:=⟨#[58]⟩
abbrev Oe:ByteArray:=⟨#[45]⟩
def kp(d:Dd)(o:ByteArray):List At:=
 let a:=zL (zL (zL (zL [] Jv o) Jr d.sb) Jn d.dr) JT d.al;let b:=match Yh d with
  |some v=>zL (zL a U0 v) Vn (bs (Lib.itoa d.nb))
  |none=>a
 if d.kd=4 then zL b V5 d.og else b
def XA(l:List Dd)(n:Int):List At:=match qa l n with
 |some d=>kp d (ZP l n)
 |none=>[]
def UQ(d:Dd):ByteArray:=d.sb++jm++d.og
def Vl:List Dd->ByteArray
 | []=>⟨#[]⟩
 |d::r=>(r.foldl (fun p a=>UQ a++Oe++p) (UQ d)).extract 0 256
def YU(z:Int):Int:=if(65<=z/\z<=90)∨(97<=z/\z<=122)∨(48<=z/\z<=57)then z else 95
def kb(l:List Dd)(n:Int):List At:=match qa l n with
 |some _=>[⟨GV,Vl (qI l n)⟩,⟨Iq,bs (Lib.mapD YU (L (Vl (qI l n))))⟩]
 |none=>[]
def QR(k:Int):ByteArray:=if k=1 then⟨#[102,105,108,101,115,121,115,116,101,109]⟩else if k=2 then⟨#[114,97,105,100]⟩else if k=3 then⟨#[99,114,121,112,116,111]⟩else if k=4 then⟨#[109,101,109,98,101,114]⟩else if k=5 then⟨#[116,97,98,108,101]⟩else⟨#[]⟩
def GS(s:ByteArray):Option (ByteArray×ByteArray×ByteArray):=match U4 (L s)with
 |some (k,i,l)=>if k=0 then none else some (QR k,i,l)
 |none=>none
def VU(d:Dd):List At:=if d.kd=2 then(match GS (qF d.ats (L UW))with
 |some (u,i,l)=>zL (zL (zL [] LX u) Dn i) AG l
 |none=>[])else []
def YI(l:List At)(k h:ByteArray)(v:Option ByteArray):List At:=match v with
 |some v=>if XY (L (h++v))then zL l k (h++v)else l
 |none=>l
def KB(d:Dd):List At:=if d.kd=4 then YI (YI (YI [] UH Y5 ((zR d.ats (L UA)).map (·.val))) VJ Xu ((zR d.ats (L Uw)).map (·.val))) VZ XZ ((zR d.ats (L Ui)).map fun x=>bs (Lib.replaceAll (L x.val) [58] []))else []
def Yg(name:ByteArray)(l:List Dd)(n:Int):List At:=
 if L name=[112,97,116,104]then kb l n else if L name=[99,111,110,116,101,110,116]then(match qa l n with|some d=>VU d|none=>[])else if L name=[110,101,116]then(match qa l n with|some d=>KB d|none=>[])else []
end
end Go.Proofs.YtecbmndgpepkcaaGreatDoor

/- Contracts that the law rests on, each under the premises that it names. -/
import Derived.Test.YtecbmndgpepkcaaGreatDoorG00
import Derived.Deep.Cut
import Derived.Deep.CutRange
import Derived.Deep.CutBlock
import Derived.Shelf.SlicesE.Clone
import Derived.Shelf.SlicesQ.IndexFunc
import Derived.Shelf.Spec.SearchS
import Derived.Shelf.Spec.SlicesInsert
import Derived.Shelf.Spec.SlicesInsertGrow
import Derived.Deep.Onto
namespace Go.Proofs.YtecbmndgpepkcaaGreatDoor
open Tryz
set_option maxHeartbeats 8000000
set_option maxRecDepth 100000
section
open Go.RowKit
structure Tm where
 key:Int
 name:ByteArray
 op:Int
 value:ByteArray
def zQ(t:Tm):List Value:=[.int .i64 t.key,.string t.name,.int .i64 t.op,.string t.value]
def qk(t:Tm):Value:=.agg #[.int .i64 t.key,.string t.name,.int .i64 t.op,.string t.value]
theorem TW(t:Tm):(zQ t).length=4:=rfl
structure Yz(m:Nat)(t:Tm):Prop where
 name:t.name.size<=m
 value:t.value.size<=m
 k0: -10<=t.key
 k1:t.key<=100
 o0: -10<=t.op
 o1:t.op<=100
def zcM(m:Nat)(P:World->Prop)(e:Ending)(w':World):Prop:=∃t:Tm,Yz m t/\e=.returned (qk t)/\P w'
def Oe(m:Nat)(P:World->Prop)(e:Ending)(w':World):Prop:=∃t:Tm,Yz m t/\t.key≠23/\e=.returned (qk t)/\P w'
theorem zdp:(prog.info? 52).map (·.size)=some 4:=zg
theorem zA.trans{w0 W W1 W2:World}{b n p d d':Nat}(h:zA w0 b n p d W W1)(k:zA w0 b n p d' W1 W2):zA w0 b n p d' W W2:=⟨k.st,qY h.gr k.gr⟩
theorem zA.alloc{w0 W W1:World}{b n p d:Nat}{o:Obj}(h:zA w0 b n p d (W.alloc o) W1):zA w0 b n p d W W1:=⟨h.st,qY (World.grownBy_alloc _ _ _) h.gr⟩
theorem zA.more{w0 W W1:World}{b n p d d':Nat}(h:zA w0 b n p d W W1)(hd:d<=d'):zA w0 b n p d' W W1:=⟨h.st.more hd,h.gr⟩
theorem zA.blk{w0 W W1:World}{b n p d g:Nat}{o:Obj}(h:zA w0 b n p d W W1)(hg:W.heap[g]? =some o)(hne:g≠b):W1.heap[g]? =some o:=(h.gr.block g (zh hg) (fun e=>hne (zx e))).trans hg
theorem zA.setRow{w0 W W1:World}{b n p d g:Nat}(h:zA w0 b n p d W W1)(hg:W.heap.size<=g)(hw:w0.heap.size<=W.heap.size)(c:Array Value):zA w0 b n p d W (W1.setRow g c):=
 ⟨h.st.grown (qR W1 g c) (fun j e=>Im),YL h.gr (qR W1 g c) (fun j e=>by cases e;exact Or.inl hg)⟩
theorem zA.of_below{w0 W W' W1:World}{b n p d:Nat}(h:zA w0 b n p d W' W1)(hb:Below W.heap.size W W'):zA w0 b n p d W W1:=⟨h.st,qY (zG hb _) h.gr⟩
theorem zA.grownR{w0 W W1 W2:World}{b n p d:Nat}{row:Option Nat}(h:zA w0 b n p d W W1)(hg:W1.grownBy W2 row)(hr:∀j,row=some j->w0.heap.size<=j/\W.heap.size<=j):zA w0 b n p d W W2:=
 ⟨h.st.grown hg (fun j e=>(hr j e).1),YL h.gr hg (fun j e=>Or.inl (hr j e).2)⟩
theorem zA.setCellR{w0 W W1:World}{b n p d g i:Nat}{u:Value}(h:zA w0 b n p d W W1)(hg:W.heap.size<=g)(hw:w0.heap.size<=W.heap.size):zA w0 b n p d W (W1.setCell ⟨g,i,none⟩ u):=h.grownR (qE W1 g i u) (fun j e=>by cases e;exact⟨zb,hg⟩)
theorem zA.allocR{w0 W W1:World}{b n p d:Nat}{o:Obj}(h:zA w0 b n p d W W1):zA w0 b n p d W (W1.alloc o):=h.grownR (World.grownBy_alloc W1 o none) (fun _ e=>ZK)
theorem zA.drewR{w0 W W1:World}{b n p d:Nat}(h:zA w0 b n p d W W1):zA w0 b n p d W W1.drew:=h.grownR (row:=none) ⟨rfl,rfl,rfl,zo,fun _ _ _=>rfl⟩ (fun _ e=>ZK)
def zeS(b:Nat)(W W1:World):Prop:=∀g o,W.heap[g]? =some o->g≠b->W1.heap[g]? =some o
theorem zA.stay{w0 W W1:World}{b n p d:Nat}(h:zA w0 b n p d W W1):zeS b W W1:=fun _ _ hg hne=>h.blk hg hne
theorem zA.cell{w0 W W1:World}{b n p d:Nat}(h:zA w0 b n p d W W1):∀g i,g<W.heap.size->g≠b->W1.cell? ⟨g,i,none⟩=W.cell? ⟨g,i,none⟩:=fun g i hg hne=>h.gr.cell_far ⟨g,i,none⟩ hg (fun e=>hne (zx e))
theorem IU{w0 W:World}{b n p d:Nat}(m:Nat)(A:Array Value)(T:TypeId)(g k c:Nat)(h:qr w0 b n p d W)(hrow:W.heap[g]? =some (.cells A T (0,0)))(hA:MR m A=true)(hk:A.size=k)(hk0:0<k)(hk1:k<=1000)(hg:g≠b)(h3:p+d<=1000000):
 Calls prog 18 #[.pointer (some ⟨b,0,none⟩),.slice (some ⟨g,0,none⟩) k c] W (GT (·.size<=m) (zA w0 b n p (d+1) W)):=by
 obtain⟨ss,e,hs⟩:=jZ hA;exact Hv
theorem JP{W:World}{g:Nat}{T:TypeId}{x0 x1 x2 x3:Value}(h:W.heap[g]? =some (.cells #[x0,x1,x2,x3] T (0,0))):
 (W.cell? ⟨g,0,none⟩=some x0/\W.cell? ⟨g,1,none⟩=some x1/\W.cell? ⟨g,2,none⟩=some x2/\W.cell? ⟨g,3,none⟩=some x3)/\W.frozen? ⟨g,0,none⟩=false/\W.frozen? ⟨g,1,none⟩=false/\W.frozen? ⟨g,2,none⟩=false/\W.frozen? ⟨g,3,none⟩=false:=
 ⟨⟨zd h rfl,zd h rfl,zd h rfl,zd h rfl⟩,frozen_of_row _ _ _ _ _ h,frozen_of_row _ _ _ _ _ h,frozen_of_row _ _ _ _ _ h,frozen_of_row _ _ _ _ _ h⟩
def zbW(lo hi:Int)(A:Array Value):Bool:=A.toList.all fun
 | .int .i64 v=>decide (lo<=v)&&decide (v<=hi)
 |_=>false
theorem jW{lo hi:Int}{A:Array Value}{j:Nat}(hA:zbW lo hi A=true)(hj:j<A.size):∃v,lo<=v/\v<=hi/\A[j]? =some (.int .i64 v):=by
 have h1:=List.all_eq_true.1 hA A[j] zl;rw[Array.getElem?_eq_getElem hj];generalize A[j]=u at h1;cases u with
 | int k v=>
   cases k<;>first|(simp at h1;exact⟨v,h1.1,h1.2,rfl⟩)|simp at h1
 |_=>simp at h1
theorem Yx{P:Program}{fn:Func}{R:Ending->World->Prop}{a:Act}{W:World}{g:Nat}{p:Tmp}{ty t:TypeId}{old cs:Array Value}{fr:Nat×Nat}{d:TypeDesc}(h:fn.results=#[.cell p ty])(hp:a.tmps.getD p undef=.pointer (some ⟨g,0,none⟩))
 (hg:W.heap[g]? =some (.cells old t fr))(hu:P.underlying ty=some d)(hd:(match d with| .struct _| .array _ _=>true|_=>false)=true)(hi:(P.info? ty).map (·.size)=some cs.size)(hdef:a.defers=[])
 (hR:R (.returned (.agg cs)) (W.setRow g cs)):bodyPost P fn R .ret a (W.setRow g cs):=
 bodyPost_ret (results_cell_row h _ _ g t cs fr d hp (setRow_heap _ _ _ _ _ _ hg) hu hd hi) hdef hR
end
section
open Go.RowKit
section
variable{α:Type}(TO TI:TypeId)(k:Nat)(enc:α->List Value)
structure ZZ(w:World)(base:Nat)(v:Value)(vs:List Value)(ls:List (List α)):Prop where
 len:vs.length=ls.length
 outer:w.ownsRow base TO 1 v vs.length vs
 inner:∀(i:Nat) (x:Value) (l:List α),vs[i]? =some x->ls[i]? =some l->w.ownsRow base TI k x l.length (cellsOf enc l)
 off:∀(i:Nat) (x:Value) (g:Nat),vs[i]? =some x->x.ownBlock=some g->v.ownBlock≠some g
 apart:∀(i j:Nat) (x y:Value) (g:Nat),i≠j->vs[i]? =some x->vs[j]? =some y->x.ownBlock=some g->y.ownBlock≠some g
def Js(w:World)(base:Nat)(v:Value)(ls:List (List α)):Prop:=∃vs,ZZ TO TI k enc w base v vs ls
variable{TO TI k enc}{w w':World}{base:Nat}{v:Value}{vs:List Value}{ls:List (List α)}
theorem ZZ.lt(h:ZZ TO TI k enc w base v vs ls){i:Nat}{x:Value}{g:Nat}(hx:vs[i]? =some x)(hg:x.ownBlock=some g):base<=g/\g<w.heap.size:=by
 have hi:i<ls.length:=by rw[<-h.len];exact(List.getElem?_eq_some_iff.1 hx).1
 exact(h.inner i x ls[i] hx (l0 hi)).lt g hg
theorem OI{e:TypeId}{kk n:Nat}{xs:List Value}(h:w.ownsRow base e kk v n xs)(hb:Below w.heap.size w w'):w'.ownsRow base e kk v n xs:=
 h.kept (zG hb none) (by cases hv:v.ownBlock<;>simp)
theorem ZZ.below(h:ZZ TO TI k enc w base v vs ls)(hb:Below w.heap.size w w'):ZZ TO TI k enc w' base v vs ls:=
 ⟨h.len,OI h.outer hb,fun i x l hx hl=>OI (h.inner i x l hx hl) hb,h.off,h.apart⟩
theorem ZZ.other(h:ZZ TO TI k enc w base v vs ls){row:Option Nat}(hg:w.grownBy w' row)(hr:∀g,row=some g->g<base∨w.heap.size<=g):ZZ TO TI k enc w' base v vs ls:=
 ⟨h.len,h.outer.kept hg (by
  cases hv:v.ownBlock with
  |none=>exact Or.inl rfl
  | some g=>
    right;intro e;have:=h.outer.lt g hv;have:=hr g (by rw[<-e]);omega),
  fun i x l hx hl=>(h.inner i x l hx hl).kept hg (by
   cases hv:x.ownBlock with
   |none=>exact Or.inl rfl
   | some g=>
     right;intro e;have:=h.lt hx hv;have:=hr g (by rw[<-e]);omega),h.off,h.apart⟩
theorem ZZ.fresh(h:ZZ TO TI k enc w base v vs ls){g:Nat}(hg:w.heap.size<=g):v.ownBlock≠some g/\∀x∈vs,x.ownBlock≠some g:=by
 refine⟨fun e=>by have:=(h.outer.lt g e).2;omega,fun x hx e=>?_⟩;obtain⟨i,hi,rfl⟩:=List.getElem_of_mem hx;have:=(h.lt (l0 hi) e).2;omega
theorem ZZ.beside(h:ZZ TO TI k enc w base v vs ls){g:Nat}(hg:w.grownBy w' (some g))(hr:v.ownBlock≠some g/\∀x∈vs,x.ownBlock≠some g):ZZ TO TI k enc w' base v vs ls:=
 ⟨h.len,h.outer.kept hg (Or.inr hr.1),fun i x l hx hl=>(h.inner i x l hx hl).kept hg (Or.inr (hr.2 x (X7 hx))),h.off,h.apart⟩
theorem ZZ.pushNil(h:ZZ TO TI k enc w base v vs ls){A:Option Addr}{c:Nat}{g2:Nat}(hv2:A=some ⟨g2,0,none⟩)(hown:w'.ownsRow base TO 1 (.slice A (vs.length+1) c) (vs.length+1) (vs++[.slice none 0 0]))(hg:w.grownBy w' v.ownBlock)(hat:v.ownBlock=some g2∨g2=w.heap.size):
 ZZ TO TI k enc w' base (.slice A (vs.length+1) c) (vs++[.slice none 0 0]) (ls++[[]]):=by
 subst hv2;have hold:∀(i:Nat) (x:Value),(vs++[Value.slice none 0 0])[i]? =some x->(vs[i]? =some x)∨(i=vs.length/\x=.slice none 0 0):=fun i x hx=>by
  rcases Nat.lt_or_ge i vs.length with hi|hi
  · left;rw[zd9 hi]at hx;exact hx
  · right;rw[ze3 hi]at hx;have:i - vs.length=0:=by
     have:=(List.getElem?_eq_some_iff.1 hx).1;exact QN
    rw[this]at hx;exact⟨zb,by simpa using hx.symm⟩
 refine⟨by simp[h.len],Li,fun i x l hx hl=>?_,fun i x g hx hg'=>?_,fun i j x y g hij hx hy hgx=>?_⟩
 · rcases hold i x hx with hx|⟨hi,rfl⟩
   · have hi:i<ls.length:=by rw[<-h.len];exact(List.getElem?_eq_some_iff.1 hx).1
     rw[zd9 hi]at hl;refine(h.inner i x l hx hl).kept hg ?_;cases hv:x.ownBlock with
     |none=>exact Or.inl rfl
     |some g=>right;intro e;exact h.off i x g hx hv e.symm
   · rw[hi,h.len,ze3 zo,zj2]at hl;exact An
 · rcases hold i x hx with hx|⟨hi,rfl⟩
   · intro e;have e:g2=g:=IM;subst e;rcases hat with hat|hat
     · exact h.off i x g2 hx hg' hat
     · have:=(h.lt hx hg').2;omega
   · simp[Value.ownBlock]at hg'
 · rcases hold i x hx with hx|⟨_,rfl⟩
   · rcases hold j y hy with hy|⟨_,rfl⟩
     · exact h.apart i j x y g hij hx hy hgx
     · simp[Value.ownBlock]
   · simp[Value.ownBlock]at hgx
theorem ZZ.appendLast{ms:List (List α)}{cur:List α}{t:α}{go c:Nat}{x:Value}{us:List Value}(h:ZZ TO TI k enc w base (.slice (some ⟨go,0,none⟩) (us.length+1) c) (us++[x]) (ms++[cur]))
 {g2 cap:Nat}{w1:World}(hown:w1.ownsRow base TI k (.slice (some ⟨g2,0,none⟩) (cur.length+1) cap) (cur.length+1) (cellsOf enc cur++enc t))(hg:w.grownBy w1 x.ownBlock)(hat:x.ownBlock=some g2∨g2=w.heap.size):
 ZZ TO TI k enc (w1.setCell ⟨go,us.length,none⟩ (.slice (some ⟨g2,0,none⟩) (cur.length+1) cap)) base (.slice (some ⟨go,0,none⟩) (us.length+1) c) (us++[.slice (some ⟨g2,0,none⟩) (cur.length+1) cap]) (ms++[cur++[t]]):=by
 have hl:us.length=ms.length:=by have:=h.len;simp at this;exact this
 have hlast:(us++[x])[us.length]? =some x:=zl;have ho:=h.outer;simp only[r7,List.length_singleton]at ho;have hgo:=ho.lt go rfl;have hout:w1.ownsRow base TO 1 (.slice (some ⟨go,0,none⟩) (us.length+1) c) (us.length+1) (us++[x]):=ho.kept hg (by
  right;intro e;exact h.off us.length x go hlast e.symm rfl)
 have hs:=hout.stored us.length (.slice (some ⟨g2,0,none⟩) (cur.length+1) cap);have hset:(us++[x]).set us.length (.slice (some ⟨g2,0,none⟩) (cur.length+1) cap)=us++[.slice (some ⟨g2,0,none⟩) (cur.length+1) cap]:=by
  rw[List.set_append_right _ _ zo,zj2];rfl
 rw[hset]at hs;have hne:g2≠go:=by
  intro e;subst e;rcases hat with hat|hat
  · exact h.off us.length x g2 hlast hat rfl
  · omega
 have hold:∀(i:Nat) (y:Value),(us++[Value.slice (some ⟨g2,0,none⟩) (cur.length+1) cap])[i]? =some y->(i<us.length/\(us++[x])[i]? =some y)∨(i=us.length/\y=.slice (some ⟨g2,0,none⟩) (cur.length+1) cap):=fun i y hy=>by
  rcases Nat.lt_or_ge i us.length with hi|hi
  · left;rw[zd9 hi]at hy;exact⟨hi,by rw[zd9 hi];exact hy⟩
  · right;rw[ze3 hi]at hy;have:i - us.length=0:=by
     have:=(List.getElem?_eq_some_iff.1 hy).1;exact QN
    rw[this]at hy;exact⟨zb,by simpa using hy.symm⟩
 have hoth:∀(i:Nat) (y:Value) (g:Nat),i<us.length->(us++[x])[i]? =some y->y.ownBlock=some g->g≠g2/\g≠go/\x.ownBlock≠some g:=fun i y g hi hy hyg=>by
  have h1:=h.lt hy hyg;have h2:=h.off i y g hy hyg;have h3:=h.apart i us.length y x g zb hy hlast hyg;refine⟨fun e=>?_,fun e=>h2 GY,h3⟩;subst e;rcases hat with hat|hat
  · exact h3 hat
  · omega
 refine⟨by simp[hl],by rw[r7,List.length_singleton];exact hs.1,fun i y l hy hyl=>?_,fun i y g hy hyg=>?_,fun i j y z g hij hy hz hyg=>?_⟩
 · rcases hold i y hy with⟨hi,hy⟩|⟨hi,rfl⟩
   · rw[zd9 zb]at hyl;have h1:=h.inner i y l hy (by rw[zd9 zb];exact hyl);have h2:w1.ownsRow base TI k y l.length (cellsOf enc l):=h1.kept hg (by
      cases hv:y.ownBlock with
      |none=>exact Or.inl rfl
      |some g=>right;intro e;exact(hoth i y g hi hy hv).2.2 e.symm)
     refine h2.kept hs.2 ?_;cases hv:y.ownBlock with
     |none=>exact Or.inl rfl
     |some g=>right;intro e;exact(hoth i y g hi hy hv).2.1 (zx e)
   · rw[hi,hl,ze3 zo,zj2]at hyl;obtain rfl:cur++[t]=l:=by simpa using hyl
     rw[r7,List.length_singleton,Xf];have e:cellsOf enc [t]=enc t:=XP;rw[e];exact hown.kept hs.2 (Or.inr (fun e=>hne IM))
 · rcases hold i y hy with⟨hi,hy⟩|⟨_,rfl⟩
   · intro e;have e:go=g:=IM;exact(hoth i y g hi hy hyg).2.1 e.symm
   · intro e;have e:go=g:=IM;have e2:g2=g:=Sb;exact hne (by rw[e2,e])
 · rcases hold i y hy with⟨hi,hy⟩|⟨hi,rfl⟩
   · rcases hold j z hz with⟨hj,hz⟩|⟨hj,rfl⟩
     · exact h.apart i j y z g hij hy hz hyg
     · intro e;have e:g2=g:=IM;exact(hoth i y g hi hy hyg).1 e.symm
   · rcases hold j z hz with⟨hj,hz⟩|⟨hj,rfl⟩
     · intro e;have e2:g2=g:=Sb;exact(hoth j z g hj hz e).1 e2.symm
     · omega
theorem ZZ.first(hb:base<=w.heap.size):ZZ TO TI k enc (w.alloc (.cells #[.slice none 0 0] TO)) base (.slice (some ⟨w.heap.size,0,none⟩) 1 1) [.slice none 0 0] [[]]:=by
 refine⟨rfl,World.ownsRow_lit w #[.slice none 0 0] 1 hb ql rfl,fun i x l hx hl=>?_,fun i x g hx hg=>?_,fun i j x y g hij hx hy hg=>?_⟩
 · cases i with
   | zero=>
     obtain rfl:Value.slice none 0 0=x:=Ki;exact An
   |succ i=>simp at hx
 · exact va
 · exact va
end
end
section
open Go.RowKit
def qH(op:Int):Bool:=op==1||op==2
theorem zcu{W w1:World}{x0 x1 x2 x3:Value}{T:TypeId}(hb:Below (W.alloc (.cells #[x0,x1,x2,x3] T)).heap.size (W.alloc (.cells #[x0,x1,x2,x3] T)) w1):
 w1.cell? ⟨W.heap.size,0,none⟩=some x0/\w1.cell? ⟨W.heap.size,1,none⟩=some x1/\w1.cell? ⟨W.heap.size,2,none⟩=some x2/\w1.cell? ⟨W.heap.size,3,none⟩=some x3:=
 (JP ((hb.block _ zl).trans (i5 W _))).1
theorem T4(t:Tm)(w:World):Calls prog 90 #[qk t] w fun e w'=>e=.returned (.bool (qH t.op))/\Below w.heap.size w w':=by
 unfold qk;by_cases h1:t.op=1
 · have e1:(t.op==1)=true:=by simpa using h1
   have HM:Hid (qH t.op=true):=za (by simp[qH,h1]);exact Aj
 · have e1:(t.op==1)=false:=by simpa using h1
   have HM:Hid (qH t.op=(t.op==2)):=za (by simp[qH,e1]);exact Aj
theorem zr.tm{w wr:World}{B:Nat}{A:Option Addr}{l:List Tm}(h:zr w B A 4 l.length (cellsOf zQ l))(hb:Below B w wr){k:Nat}(hk:k<l.length):∃ba off,A=some ⟨ba,off,none⟩ /\
 wr.cell? ⟨ba,off+k*4,none⟩=some (.int .i64 l[k].key)/\wr.cell? ⟨ba,off+k*4+1,none⟩=some (.string l[k].name)/\wr.cell? ⟨ba,off+k*4+2,none⟩=some (.int .i64 l[k].op)/\wr.cell? ⟨ba,off+k*4+3,none⟩=some (.string l[k].value):=by
 obtain⟨ba,off,hA,hba,hc⟩:=h.cell TW hk;have hx:l[k]? =some l[k]:=l0 hk;refine⟨ba,off,hA,?_,?_,?_,?_⟩
 · rw[hb.cell (p:=⟨ba,off+k*4,none⟩) hba];exact hc k _ hx 0 _ rfl
 · rw[hb.cell (p:=⟨ba,off+k*4+1,none⟩) hba];exact hc k _ hx 1 _ rfl
 · rw[hb.cell (p:=⟨ba,off+k*4+2,none⟩) hba];exact hc k _ hx 2 _ rfl
 · rw[hb.cell (p:=⟨ba,off+k*4+3,none⟩) hba];exact hc k _ hx 3 _ rfl
theorem zr.three{α:Type}{enc:α->List Value}(hk:∀x,(enc x).length=3){w wr:World}{B:Nat}{A:Option Addr}{l:List α}(h:zr w B A 3 l.length (cellsOf enc l))(hb:Below B w wr){k:Nat}(hlt:k<l.length)(x0 x1 x2:Value)(he:enc l[k]=[x0,x1,x2]):∃ba off,A=some ⟨ba,off,none⟩ /\
 wr.cell? ⟨ba,off+k*3,none⟩=some x0/\wr.cell? ⟨ba,off+k*3+1,none⟩=some x1/\wr.cell? ⟨ba,off+k*3+2,none⟩=some x2:=by
 obtain⟨ba,off,hA,hba,hc⟩:=h.cell hk hlt;have hx:l[k]? =some l[k]:=l0 hlt;refine⟨ba,off,hA,?_,?_,?_⟩
 · rw[hb.cell (p:=⟨ba,off+k*3,none⟩) hba];exact hc k _ hx 0 _ Gk
 · rw[hb.cell (p:=⟨ba,off+k*3+1,none⟩) hba];exact hc k _ hx 1 _ Gk
 · rw[hb.cell (p:=⟨ba,off+k*3+2,none⟩) hba];exact hc k _ hx 2 _ Gk
end
section
open Go.Shelf Go.RowKit Go.Lib
def D6:Go.Shelf.Ren:=⟨fun|41=>55|n=>n,fun|22=>31|23=>114|n=>n,fun|n=>n⟩
theorem zbG:Go.Proofs.SlLaysE0.n41 prog D6:={
 mixed:=zg
 f41:=⟨Tryz.f55.name,zi,func55.trans (congrArg some zg)⟩
 t4:=underlying4
 a4:=isAgg4
 z4:=sizeOf4
 v4:=zeroValue4
 t22:=underlying31
 a22:=isAgg31
 z22:=sizeOf31
 v22:=zeroValue31}
def EF:Go.Shelf.Ren:=⟨fun|41=>69|n=>n,fun|22=>32|23=>9|n=>n,fun|n=>n⟩
theorem zkb:Go.Proofs.SlLaysE0.n41 prog EF:={
 mixed:=zg
 f41:=⟨Tryz.f69.name,zi,func69.trans (congrArg some zg)⟩
 t4:=underlying4
 a4:=isAgg4
 z4:=sizeOf4
 v4:=zeroValue4
 t22:=underlying32
 a22:=isAgg32
 z22:=sizeOf32
 v22:=zeroValue32}
def vC:Go.Shelf.Ren:=⟨fun|41=>68|n=>n,fun|22=>54|23=>52|n=>n,fun|n=>n⟩
theorem zfx:Go.Proofs.SlLaysE0.n41 prog vC:={
 mixed:=zg
 f41:=⟨Tryz.f68.name,zi,func68.trans (congrArg some zg)⟩
 t4:=underlying4
 a4:=isAgg4
 z4:=sizeOf4
 v4:=zeroValue4
 t22:=underlying54
 a22:=isAgg54
 z22:=sizeOf54
 v22:=zeroValue54}
def zhA:Go.Shelf.Ren:=⟨fun|6=>52|n=>n,fun|22=>28|23=>43|25=>82|n=>n,fun|n=>n⟩
theorem zjn:Go.Proofs.SlLaysH0.n6 prog zhA:={
 mixed:=zg
 f6:=⟨Tryz.f52.name,zi,func52.trans (congrArg some zg)⟩
 t0:=underlying0
 a0:=isAgg0
 z0:=sizeOf0
 v0:=zeroValue0
 t3:=underlying3
 a3:=isAgg3
 z3:=sizeOf3
 v3:=zeroValue3
 t4:=underlying4
 a4:=isAgg4
 z4:=sizeOf4
 v4:=zeroValue4
 t22:=underlying28
 a22:=isAgg28
 z22:=sizeOf28
 v22:=zeroValue28
 t25:=underlying82
 a25:=isAgg82
 z25:=sizeOf82
 v25:=zeroValue82}
def CE:Go.Shelf.Ren:=⟨fun|6=>152|n=>n,fun|22=>35|23=>107|25=>218|n=>n,fun|n=>n⟩
theorem zjF:Go.Proofs.SlLaysH0.n6 prog CE:={
 mixed:=zg
 f6:=⟨Tryz.f152.name,zi,func152.trans (congrArg some zg)⟩
 t0:=underlying0
 a0:=isAgg0
 z0:=sizeOf0
 v0:=zeroValue0
 t3:=underlying3
 a3:=isAgg3
 z3:=sizeOf3
 v3:=zeroValue3
 t4:=underlying4
 a4:=isAgg4
 z4:=sizeOf4
 v4:=zeroValue4
 t22:=underlying35
 a22:=isAgg35
 z22:=sizeOf35
 v22:=zeroValue35
 t25:=underlying218
 a25:=isAgg218
 z25:=sizeOf218
 v25:=zeroValue218}
def RT:Go.Shelf.Ren:=⟨fun|6=>150|8=>118|n=>n,fun|22=>54|23=>52|25=>165|n=>n,fun|n=>n⟩
theorem Cy:Go.Proofs.SlLaysH0.n8 prog RT:={
 mixed:=zg
 f6:=⟨Tryz.f150.name,zi,func150.trans (congrArg some zg)⟩
 f8:=⟨Tryz.f118.name,zi,func118.trans (congrArg some zg)⟩
 t0:=underlying0
 a0:=isAgg0
 z0:=sizeOf0
 v0:=zeroValue0
 t3:=underlying3
 a3:=isAgg3
 z3:=sizeOf3
 v3:=zeroValue3
 t4:=underlying4
 a4:=isAgg4
 z4:=sizeOf4
 v4:=zeroValue4
 t22:=underlying54
 a22:=isAgg54
 z22:=sizeOf54
 v22:=zeroValue54
 t25:=underlying165
 a25:=isAgg165
 z25:=sizeOf165
 v25:=zeroValue165}
def Mr{α:Type}(T:TypeId)(k:Nat)(enc:α->List Value)(l:List α)(w:World)(e:Ending)(w':World):Prop:=∃A c,e=.returned (.slice A l.length c)/\w'.ownsRow w.heap.size T k (.slice A l.length c) l.length (cellsOf enc l)/\Below w.heap.size w w'
theorem jP{ρ:Ren}{α:Type}{enc:α->List Value}{k bytes:Nat}{z:Value}(L:Go.Proofs.SlLaysE0.n41 prog ρ)(_hk:∀x,(enc x).length=k)(h1:∀x,∀u∈enc x,u.oneCell'=true)(h0:0<k)
 (hi:(prog.info? (ρ.t 23)).map (fun i=>(i.zero,i.size,i.bytes))=some (some z,k,bytes))(hzs:z.cells.size=k)(zs:∀w,(Go.sizeOf (ρ.t 23)).run prog w=.ok k w)(hb:bytes<=1000)
 (A:Option Addr)(c:Nat)(l:List α)(w:World)(hn:l.length<=1000000)(h:zE w A k l.length (cellsOf enc l)):
 Calls prog (ρ.f 41) #[.slice A l.length c] w (Mr (ρ.t 23) k enc l w):=by
 obtain⟨i0,hi0,hz0,hz1,hz2⟩:=info_parts hi;have hc1:∀u∈cellsOf enc l,u.oneCell'=true:=fun u hu=>by
  obtain⟨x,_,hx⟩:=List.mem_flatMap.1 hu;exact h1 x u hx
 have hmul:l.length*bytes<=140737488355328:=i3 (Nat.mul_le_mul hn hb) zi;cases A with
 | none=>
   have hl:l=[]:=by
    rcases Nat.eq_zero_or_pos l.length with e|e
    · exact List.length_eq_zero_iff.1 e
    · obtain⟨_,_,e2,_⟩:=h.row.at_ e;cases e2
   subst hl;refine(AnyE.slices_Clone_nil L _ c w).mono ?_;rintro e w' ⟨rfl,rfl⟩;exact⟨none,0,rfl,World.ownsRow_nil _ _ _ _,zj⟩
 | some a=>
   obtain⟨ea,_⟩:=h.pl a rfl;rw[ea]at h⊢;refine(AnyE.slices_Clone L i0 z k bytes hi0 hz0 hz1 hz2 hzs h0 zs a.block a.off l.length c (cellsOf enc l) w h.row.len ql hmul (fun j u hu=>?_) hc1).mono ?_
   · have hj:=(List.getElem?_eq_some_iff.1 hu).1;rw[h.row.len]at hj;have hp:0<l.length:=by
      rcases Nat.eq_zero_or_pos l.length with e|e
      · rw[e]at hj;simp at hj
      · exact e
     obtain⟨ba,off,e2,_,hcell⟩:=h.row.at_ hp;injection e2 with e2
     injection e2 with e3 e4
     rw[e3,e4];exact hcell j u hu
   · rintro e w' ⟨v',rfl,hown,_,hB⟩;rcases hown.2 with⟨h2,h3⟩|⟨g,cap,cur,h2,_⟩
     · exact⟨none,0,by rw[h2,h3],by rw[h3,<-h2];rw[h3]at hown;exact hown,hB⟩
     · exact⟨_,cap,by rw[h2],by rw[<-h2];exact hown,hB⟩
theorem V0:(prog.info? 114).map (fun i=>(i.zero,i.size,i.bytes))=some (some (.agg #[.string ⟨#[]⟩,.string ⟨#[]⟩]),2,32):=zg
theorem FG:(prog.info? 52).map (fun i=>(i.zero,i.size,i.bytes))=some (some (.agg #[.int .i64 0,.string ⟨#[]⟩,.int .i64 0,.string ⟨#[]⟩]),4,48):=zg
def zD(s:ze):List Value:=[.string (bs s)]
theorem yn(x:At):∀u∈zw x,u.oneCell'=true:=T8
theorem ziM(x:Tm):∀u∈zQ x,u.oneCell'=true:=OH
theorem zbz(x:ze):∀u∈zD x,u.oneCell'=true:=by simp[zD,Value.oneCell']
theorem Rb:(prog.info? 9).map (fun i=>(i.zero,i.size,i.bytes))=some (some (.string ⟨#[]⟩),1,16):=zg
theorem PV(A:Option Addr)(c:Nat)(l:List At)(w:World)(hn:l.length<=1000000)(h:zE w A 2 l.length (cellsOf zw l)):Calls prog 55 #[.slice A l.length c] w (Mr 114 2 zw l w):=
 jP (ρ:=D6) (enc:=zw) (k:=2) (bytes:=32) (z:=.agg #[.string ⟨#[]⟩,.string ⟨#[]⟩]) zbG (fun _=>rfl) yn zi (by exact V0) rfl sizeOf114 zi A c l w hn h
theorem Nd(A:Option Addr)(c:Nat)(l:List ze)(w:World)(hn:l.length<=1000000)(h:zE w A 1 l.length (cellsOf zD l)):Calls prog 69 #[.slice A l.length c] w (Mr 9 1 zD l w):=
 jP (ρ:=EF) (enc:=zD) (k:=1) (bytes:=16) (z:=.string ⟨#[]⟩) zkb (fun _=>rfl) zbz zi (by exact Rb) rfl sizeOf9 zi A c l w hn h
theorem zh4(A:Option Addr)(c:Nat)(l:List Tm)(w:World)(hn:l.length<=1000000)(h:zE w A 4 l.length (cellsOf zQ l)):Calls prog 68 #[.slice A l.length c] w (Mr 52 4 zQ l w):=
 jP (ρ:=vC) (enc:=zQ) (k:=4) (bytes:=48) (z:=.agg #[.int .i64 0,.string ⟨#[]⟩,.int .i64 0,.string ⟨#[]⟩]) zfx (fun _=>rfl) ziM zi (by exact FG) rfl sizeOf52 zi A c l w hn h
theorem Sc{α:Type} [Inhabited α](q:α->Bool)(l:List α):(∃(k:Nat) (x:α),l[k]? =some x/\Lib.idxBy (fun _ y=>q y) l default=(k:Int)/\l.find? q=some x)∨(Lib.idxBy (fun _ y=>q y) l default= -1/\l.find? q=none):=by
 cases h:l.find? q with
 | none=>
   right;rw[List.find?_eq_none]at h;refine⟨?_,rfl⟩;have:=Lib.idxBy_miss (fun _ y=>q y) l l.length default (fun j hj=>by
    show q l[j]! =false;rw[getElem!_pos l j hj];simpa using h l[j] (X8 _))
   rwa [List.take_length]at this
 | some x=>
   left;rw[List.find?_eq_some_iff_getElem]at h;obtain⟨hx,k,hk,rfl,hj⟩:=h;refine⟨k,l[k],l0 hk,?_,rfl⟩;have:=Lib.idxBy_hit (fun _ y=>q y) l l.length k default hk zo (by show q l[k]! =true;rw[getElem!_pos l k hk];exact hx) (fun j h2=>by
    show q l[j]! =false;rw[getElem!_pos l j zb];simpa using hj j h2)
   rwa [List.take_length]at this
end
section
open Go.RowKit
theorem qi{w w':World}{base kk n:Nat}{e:TypeId}{v:Value}{xs:List Value}(h:w.ownsRow base e kk v n xs)(hb:Below w.heap.size w w'):w'.ownsRow base e kk v n xs:=
 h.kept (zG hb none) (by cases hv:v.ownBlock<;>simp)
def It(w:World)(A:Option Addr)(n:Nat):Prop:=n<=9223372036854775807/\∃ba off,(0<n->A=some ⟨ba,off,none⟩)/\ba<w.heap.size/\∀i,i<n->∃z:Int,w.cell? ⟨ba,off+i,none⟩=some (.int .i64 z) /\ -9223372036854775808<=z/\z<=9223372036854775807
theorem It.tape{w:World}{A:Option Addr}{n:Nat}(h:It w A n)(c:Nat)(t:TypeId):kT (w.alloc (.cells #[.slice A n c,.int .i64 0] t)) w.heap.size n 0:=by
 obtain⟨h0,ba,off,hA,hlt,hz⟩:=h;refine⟨⟨A,c,t,qt,ba,off,hA,zb,fun i hi=>?_⟩,h0⟩;obtain⟨z,hc,z1,z2⟩:=hz i hi;exact⟨z,by rw[World.cell?_of_block (Below.heap_alloc w _ ba hlt)];exact hc,z1,z2⟩
theorem zhl{w W0 W:World}{b:Nat}(h:Below w.heap.size w W0)(hg:W0.grownBy W (some b))(hb:w.heap.size<=b):Below w.heap.size w W:=
 ⟨hg.os.trans h.os,hg.tape.trans h.tape,hg.output.trans h.output,i3 h.size hg.size,fun k hk=>(hg.block k (i4 hk h.size) yD).trans (h.block k hk)⟩
end
section
open Go.Shelf Go.RowKit Go.Lib
def ON:Go.Shelf.Ren:=⟨fun|17=>302|22=>222|29=>252|30=>253|36=>280|n=>n,fun|9=>9|24=>32|n=>n,fun|n=>n⟩
theorem Md:Go.Proofs.Lays2.n22 prog ON:={
 mixed:=zg
 f17:=func302.trans (congrArg some zg)
 f22:=func222.trans (congrArg some zg)
 f29:=func252.trans (congrArg some zg)
 f30:=func253.trans (congrArg some zg)
 f36:=func280.trans (congrArg some zg)
 t0:=underlying0
 a0:=isAgg0
 z0:=sizeOf0
 v0:=zeroValue0
 t3:=underlying3
 a3:=isAgg3
 z3:=sizeOf3
 v3:=zeroValue3
 t4:=underlying4
 a4:=isAgg4
 z4:=sizeOf4
 v4:=zeroValue4
 t9:=underlying9
 a9:=isAgg9
 z9:=sizeOf9
 v9:=zeroValue9
 t24:=underlying32
 a24:=isAgg32
 z24:=sizeOf32
 v24:=zeroValue32
 i9:=Rb}
def zeu:Go.Shelf.Ren:=⟨fun|26=>221|33=>250|34=>251|38=>279|n=>n,fun|9=>9|24=>32|40=>209|n=>n,fun|n=>n⟩
theorem Do:Go.Proofs.Lays2.n26 prog zeu:={
 mixed:=zg
 f26:=func221.trans (congrArg some zg)
 f33:=func250.trans (congrArg some zg)
 f34:=func251.trans (congrArg some zg)
 f38:=func279.trans (congrArg some zg)
 t0:=underlying0
 a0:=isAgg0
 z0:=sizeOf0
 v0:=zeroValue0
 t3:=underlying3
 a3:=isAgg3
 z3:=sizeOf3
 v3:=zeroValue3
 t4:=underlying4
 a4:=isAgg4
 z4:=sizeOf4
 v4:=zeroValue4
 t9:=underlying9
 a9:=isAgg9
 z9:=sizeOf9
 v9:=zeroValue9
 t24:=underlying32
 a24:=isAgg32
 z24:=sizeOf32
 v24:=zeroValue32
 t40:=underlying209
 a40:=isAgg209
 z40:=sizeOf209
 v40:=zeroValue209}
end
section
open Go.RowKit
theorem BH:(prog.info? 52).map (fun i=>(i.zero,i.size,i.bytes))=some (some (.agg #[.int .i64 0,.string ⟨#[]⟩,.int .i64 0,.string ⟨#[]⟩]),4,48):=zg
theorem Iz(t:Tm):∀u∈zQ t,u.oneCell'=true:=OH
theorem vK{α:Type}{enc:α->List Value}{W:World}{base k c:Nat}{e:TypeId}{A:Option Addr}{l:List α}{t:α}(h:W.ownsRow base e k (.slice A (l.length+1) c) (l.length+1) (cellsOf enc l++enc t)):
 W.ownsRow base e k (.slice A (l.length+1) c) (l++[t]).length (cellsOf enc (l++[t])):=by
 rw[r7,List.length_singleton,Xf];have:cellsOf enc [t]=enc t:=XP;rw[this];exact h
structure ZH{α:Type}(T:TypeId)(kk:Nat)(enc:α->List Value)(w0:World)(b n p d:Nat)(w:World)(v:Value)(l:List α)(W:World):Prop where
 nx:zA w0 b n p d w W
 own:W.ownsRow w.heap.size T kk v l.length (cellsOf enc l)
 lo:w0.heap.size<=w.heap.size
section
variable{α:Type}{T:TypeId}{kk:Nat}{enc:α->List Value}{w0 w W W1 W2:World}{b n p d d':Nat}{v:Value}{l:List α}
theorem ZH.far(h:ZH T kk enc w0 b n p d w v l W):v.ownBlock≠some b:=fun e=>SF
theorem ZH.go(h:ZH T kk enc w0 b n p d w v l W)(hT:zA w0 b n p d' W W1):ZH T kk enc w0 b n p d' w v l W1:=⟨h.nx.trans hT,h.own.kept hT.gr (Or.inr h.far),h.lo⟩
theorem ZH.below(h:ZH T kk enc w0 b n p d w v l W)(hb:Below W.heap.size W W1):ZH T kk enc w0 b n p d w v l W1:=
 ⟨h.nx.grownR (zG hb none) (fun _ e=>ZK),h.own.kept (zG hb none) (by cases hv:v.ownBlock<;>simp),h.lo⟩
theorem ZH.alloc(h:ZH T kk enc w0 b n p d w v l W)(o:Obj):ZH T kk enc w0 b n p d w v l (W.alloc o):=h.below (zj.alloc zo _)
theorem ZH.more(h:ZH T kk enc w0 b n p d w v l W)(hd:d<=d'):ZH T kk enc w0 b n p d' w v l W:=⟨h.nx.more hd,h.own,h.lo⟩
theorem ZH.snoc{A:Option Addr}{c:Nat}{t:α}(h:ZH T kk enc w0 b n p d w v l W)(hown:W2.ownsRow w.heap.size T kk (.slice A (l.length+1) c) (l.length+1) (cellsOf enc l++enc t))(hg:W.grownBy W2 v.ownBlock):ZH T kk enc w0 b n p d w (.slice A (l.length+1) c) (l++[t]) W2:=
 ⟨h.nx.grownR hg (fun j e=>yY),vK hown,h.lo⟩
theorem zA.refl(h:qr w0 b n p d w):zA w0 b n p d w w:=⟨h,Ga _ _⟩
theorem ZH.start(h:qr w0 b n p d w):ZH T kk enc w0 b n p d w (.slice none 0 0) [] w:=⟨zA.refl h,World.ownsRow_nil _ _ _ _,h.size⟩
end
end
section
open Go.RowKit
structure Rl where
 file:ByteArray
 line:Int
 tms:Ls Tm
structure Rp where
 file:ByteArray
 line:Int
 tms:List Tm
def Rl.p(x:Rl):Rp:=⟨x.file,x.line,x.tms.l⟩
structure Fl where
 file:ByteArray
 line:Int
 errno:Int
def Zi(x:Rl):List Value:=[.string x.file,.int .i64 x.line,.slice x.tms.A x.tms.l.length x.tms.c]
def V8(x:Fl):List Value:=[.string x.file,.int .i64 x.line,.int .i64 x.errno]
theorem I4(x:Rl):(Zi x).length=3:=rfl
theorem Rq(x:Rl):∀u∈Zi x,u.oneCell'=true:=by simp[Zi,Value.oneCell']
theorem zcs(x:Fl):∀u∈V8 x,u.oneCell'=true:=by simp[V8,Value.oneCell']
theorem jY:(prog.info? 56).map (fun i=>(i.zero,i.size,i.bytes))=some (some (.agg #[.string ⟨#[]⟩,.int .i64 0,.slice none 0 0]),3,48):=zg
theorem zio:(prog.info? 102).map (fun i=>(i.zero,i.size,i.bytes))=some (some (.agg #[.string ⟨#[]⟩,.int .i64 0,.int .i64 0]),3,32):=zg
theorem Zl.with{W W':World}{B B':Nat}{row row':Option Nat}{ls:List Rl}(h:Zl 4 zQ Rl.tms W B row ls)(k:Zl 4 zQ Rl.tms W' B' row' ls)(hB:B'<=B):Zl 4 zQ Rl.tms W' B row ls:=fun y hy=>⟨((k y hy).at_).up hB,(h y hy).off⟩
end
section
open Go.RowKit
def UE(l:List Tm)(key:Int):Option ByteArray:=(l.find? fun t=>t.key==key).map Tm.value
def OF(o:Option ByteArray):Value:=.tuple #[.string (o.getD ⟨#[]⟩),.bool o.isSome]
theorem Lm{l:List Tm}{key:Int}{k:Nat}(hno:∀j (h:j<l.length),j<k->l[j].key≠key)(hk:k<l.length)(h:l[k].key=key):UE l key=some l[k].value:=by
 unfold UE;have:l.find? (fun t=>t.key==key)=some l[k]:=by
  rw[List.find?_eq_some_iff_getElem];exact⟨XI,k,hk,rfl,fun j hj=>by simpa using hno j zb hj⟩
 rw[this];rfl
theorem vq{l:List Tm}{key:Int}(hno:∀j (h:j<l.length),l[j].key≠key):UE l key=none:=by
 unfold UE;have:l.find? (fun t=>t.key==key)=none:=by
  rw[List.find?_eq_none];intro t ht;obtain⟨j,hj,rfl⟩:=List.getElem_of_mem ht;simpa using hno j hj
 rw[this];rfl
theorem EV(A:Option Addr)(c:Nat)(l:List Tm)(key:Int)(w:World)(hn:l.length<=1000000)(h:zr w w.heap.size A 4 l.length (cellsOf zQ l)):
 Calls prog 16 #[.slice A l.length c,.int .i64 key] w fun e w'=>e=.returned (OF (UE l key))/\w=w':=by
 have H:=za h;clear h;generalize hN:l.length=N at*;have HN:=za hN;clear hN;go_enter func16,ntmps16;go_wp2;go_loopg [6] (N+1) (fun gk s6 wr=>∃k:Nat,s6=.int .i64 k/\k+gk=N+1/\k<=N/\w=wr/\Hid (∀j (h:j<l.length),j<k->l[j].key≠key))
 case atStart=>exact⟨0,rfl,zb,X1 _,rfl,fun j _ h=>absurd h (Nat.not_lt_zero _)⟩
 case round=>
  obtain⟨k,rfl,hkg,hkN,rfl,hno⟩:=hrel;by_cases hlt:k<N
  · have hk':k<l.length:=by rw[HN.out];exact hlt
    have hr:=H.out;rw[<-HN.out]at hr;obtain⟨ba,off,rfl,c0,c1,c2,c3⟩:=hr.tm zj hk';have hltI:(k:Int)<(N:Int):=zb;clear hr;cases hq:(l[k].key==key)
    · have hne:l[k].key≠key:=by simpa using hq
      have HA:Hid (∀j (h:j<l.length),j<k+1->l[j].key≠key):=za fun j h hj=>TK;generalize l[k].key=ky at*;generalize l[k].value=vl at*;clear hne;go_wp2;go_roundg (gk - 1)
      case measure=>omega
      case rel=>exact⟨k+1,zU,zb,zb,rfl,HA.out⟩
    · have hke:l[k].key=key:=by simpa using hq
      have HV:=za (Lm hno.out hk' hke);generalize l[k].key=ky at*;generalize l[k].value=vl at*;subst hke;go_wp2;go_ret2;rw[HV.out];exact kS
  · obtain rfl:k=N:=by omega
    have HV:=za (vq (l:=l) (key:=key) fun j h=>hno.out j h GG);go_wp2;go_ret2;rw[HV.out];exact kS
end
section
open Go.RowKit
end
section
open Go.RowKit
theorem zfO{w0 w:World}{b n p d:Nat}(h:qr w0 b n p d w)(h3:p+d<=100000)
 (hF0:∀W1,Below w.heap.size w W1->Calls prog 17 #[.pointer (some ⟨b,0,none⟩),.int .i64 14] W1 fun e w'=>e=.returned (.int .i64 10)/\zA w0 b n p (d+1) W1 w'):
 Calls prog 14 #[.pointer (some ⟨b,0,none⟩)] w (Oe 60 (zA w0 b n p (d+10) w)):=by
 have hwb:w.heap.size≠b:=IG;have hws:=h.size;have HF0:=za hF0;clear h hF0;go_enter func14,ntmps14;go_wp2_with fail
 with_reducible refine(HF0.out _ Zc).mono ?_
 rintro e w2 ⟨rfl,hT2⟩;have HT:=za hT2;clear hT2;have hb2:b<w2.heap.size:=yb;have hw2c:w2.heap.size+1≠b:=zb;have hw2b:w2.heap.size≠b:=zb;obtain⟨q,q0,q1,hF⟩:=J9 3 HT.out.st zb zb zb;obtain⟨j,rfl⟩:=Int.eq_ofNat_of_zero_le q0;have hj:j<3:=zb;obtain⟨v,v0,v1,hA⟩:=jW (lo:=3) (hi:=6) (A:=#[.int .i64 3,.int .i64 4,.int .i64 6]) (j:=j) zi hj;have hA3:([.int .i64 3,.int .i64 4,.int .i64 6]:List Value)[j]'hj=.int .i64 v:=jc;have HF:=za hF;clear hF q0;go_wp2
 go_region_with (first
  |(go_at_call 17;(with_reducible refine(HF.out _ Zc).mono ?_);rintro e wN ⟨rfl,hT⟩;have hzN:=hT.gr.size;have hzn:w2.heap.size<=wN.heap.size:=(by(try simp at hzN);omega);(first
      |(have hv:=zd (j:=j) (u:=.int .i64 v) (hT.stay _ _ (i5 w2 _) hw2b) hA;have hz:=zh (hT.stay _ _ (i5 w2 _) hw2b))
      |(have hv:=zd (j:=j) (u:=.int .i64 v) (hT.stay _ _ (heap_alloc2_old w2 _ _) hw2b) hA;have hz:=zh (hT.stay _ _ (heap_alloc2_old w2 _ _) hw2b);have HR:=za (hT.stay _ _ (heap_alloc2_new w2 _ _) hw2c))
      |(have hv:=zd (j:=j) (u:=.int .i64 v) (hT.stay _ _ (heap_alloc2_new w2 _ _) hw2c) hA;have hz:=zh (hT.stay _ _ (heap_alloc2_new w2 _ _) hw2c);have HR:=za (hT.stay _ _ (heap_alloc2_old w2 _ _) hw2b))
      |(have HR:=za (hT.stay _ _ (i5 w2 _) hw2b))
      |skip);have HT:=za (HT.out.trans (hT.of_below Zc));clear hT)
  |(go_at_call 18;(with_reducible refine(IU (n:=n) (p:=p) 60 _ _ _ _ _ (HT.out.st.below Zc) Tw zi zl zi zi yj zb).mono ?_);rintro e wM ⟨s,hs,rfl,hT⟩;(first
      |have hv:=(hT.of_below (W:=wN) Zc).gr.cell hv (fun e=>P2)
      |have hv:=zd (j:=j) (u:=.int .i64 v) (hT.stay _ _ (i5 wN _) zb) hA
      |have hv:=zd (j:=j) (u:=.int .i64 v) (hT.stay _ _ (heap_alloc2_old wN _ _) zb) hA
      |have hv:=zd (j:=j) (u:=.int .i64 v) (hT.stay _ _ (heap_alloc2_new wN _ _) zb) hA
      |skip);have HT:=za (HT.out.trans (hT.of_below Zc));clear hT;have hzw:=zh (HT.out.blk (i5 w _) hwb);obtain⟨⟨c0,c1,c2,c3⟩,f0,f1,f2,f3⟩:=JP (HT.out.blk (i5 w _) hwb)))
 all_goals
  go_wp2;refine bodyPost_ret (v:=.agg #[.int .i64 20,.string ⟨#[]⟩,.int .i64 v,.string s]) yJ rfl ?_;exact⟨⟨_,_,_,_⟩,⟨Xb,P3,zl,zl,QW,QW⟩,Xb,rfl,by
   repeat (first|exact(zA.alloc HT.out).more zb|refine zA.setCellR ?_ zo hws|refine zA.allocR ?_|refine zA.drewR ?_)⟩
end
section
open Go.RowKit
def O9(o:Option ByteArray)(tg:ByteArray):Bool:=match o with
 |some v=>v.toList==tg.toList
 |none=>false
def XZ(rs:List Rp)(tg:ByteArray):Bool:=rs.any fun y=>O9 (UE y.tms 23) tg
def Jg(rs:List Rp)(x:Rp):Bool:=match UE x.tms 24 with
 |some tg=>XZ rs tg
 |none=>true
def Zb:List Rp->List Rp×List Fl
 | []=>([],[])
 |x::r=>if Jg (Zb r).1 x then(x::(Zb r).1,(Zb r).2)else((Zb r).1,⟨x.file,x.line,107⟩::(Zb r).2)
theorem zgU{l:List Rp}{j:Nat}(h:j<l.length):Zb (l.drop j)=if Jg (Zb (l.drop (j+1))).1 l[j]then(l[j]::(Zb (l.drop (j+1))).1,(Zb (l.drop (j+1))).2)else((Zb (l.drop (j+1))).1,⟨l[j].file,l[j].line,107⟩::(Zb (l.drop (j+1))).2):=by
 rw[zd7 h,Zb]
theorem ziW(l:List Rp):(Zb l).1.length+(Zb l).2.length=l.length:=by
 induction l with
 |nil=>rfl
 | cons x r ih=>
   rw[Zb]
   split<;>simp<;>omega
theorem BB(l:List Rp):∀x∈(Zb l).1,x∈l:=by
 induction l with
 |nil=>intro x hx;cases hx
 | cons y r ih=>
   intro x hx;rw[Zb]at hx
   split at hx
   · rcases List.mem_cons.1 hx with rfl|hx
     · simp
     · exact X6 _ (ih x hx)
   · exact X6 _ (ih x hx)
def PP(T:Addr->Prop)(l:List Rp)(w:World)(e:Ending)(w':World):Prop:=∃Ar cr Af cf rl fl,e=.returned (.tuple #[.slice Ar rl.length cr,.slice Af fl.length cf])/\rl.map Rl.p=(Zb l).1/\fl=(Zb l).2/\zr w' w'.heap.size Ar 3 rl.length (cellsOf Zi rl)/\zr w' w'.heap.size Af 3 fl.length (cellsOf V8 fl)/\Yw 4 zQ Rl.tms w' w'.heap.size rl/\Below w.heap.size w w'/\rl.length<=cr/\(∀a,Ar=some a->w.heap.size<=a.block)/\∀y∈rl,∀a,y.tms.A=some a->T a
theorem zac{w:World}{base k n:Nat}{e:TypeId}{A:Option Addr}{c:Nat}{xs:List Value}(h:w.ownsRow base e k (.slice A n c) n xs):n<=c:=by
 rcases h.2 with⟨_,h2⟩|⟨g,cap,cur,e,_,_,hroom,_⟩
 · rw[h2];exact X1 _
 · injection e with _ _ e;rw[e];exact hroom
end
section
open Go.RowKit
theorem zjx(l:List Fl):∀u∈cellsOf V8 l,u.oneCell'=true:=fun u hu=>by
 unfold cellsOf at hu;obtain⟨t,_,hu⟩:=List.mem_flatMap.1 hu;exact zcs t u hu
theorem zgb(l:List Rl):∀u∈cellsOf Zi l,u.oneCell'=true:=fun u hu=>by
 unfold cellsOf at hu;obtain⟨t,_,hu⟩:=List.mem_flatMap.1 hu;exact Rq t u hu
theorem zh1{w:World}{base n c:Nat}{A:Option Addr}{y:Fl}{l:List Fl}(h:w.ownsRow base 102 3 (.slice A n c) n (V8 y++cellsOf V8 l)):w.ownsRow base 102 3 (.slice A n c) n (cellsOf V8 (y::l)):=h
theorem zdM{w:World}{base n c:Nat}{A:Option Addr}{y:Rl}{l:List Rl}(h:w.ownsRow base 56 3 (.slice A n c) n (Zi y++cellsOf Zi l)):w.ownsRow base 56 3 (.slice A n c) n (cellsOf Zi (y::l)):=h
theorem vx{w W W':World}{row:Option Nat}(h:Below w.heap.size w W)(hg:W.grownBy W' row)(hr:∀g,row=some g->w.heap.size<=g):Below w.heap.size w W':=h.grown hg h.size hr
theorem ziG (A:Option Addr)(c:Nat)(l:List Rl)(w:World)(hl:l.length<=1000)(hz:∀x∈l,x.tms.l.length<=1000)(h:zr w w.heap.size A 3 l.length (cellsOf Zi l))(hi:Yw 4 zQ Rl.tms w w.heap.size l):
 Calls prog 20 #[.slice A l.length c] w (PP (fun a=>∃x∈l,x.tms.A=some a) (l.map Rl.p) w):=by
 have H:=za h;have HI:=za hi;have HZ:=za hz;clear h hi hz;unfold PP;have HD:Hid (∀j,(h:j<l.length)->Zb ((l.map Rl.p).drop j)=if Jg (Zb ((l.map Rl.p).drop (j+1))).1 (Rl.p l[j])then(Rl.p l[j]::(Zb ((l.map Rl.p).drop (j+1))).1,(Zb ((l.map Rl.p).drop (j+1))).2)else((Zb ((l.map Rl.p).drop (j+1))).1,⟨l[j].file,l[j].line,107⟩::(Zb ((l.map Rl.p).drop (j+1))).2)):=za fun j h=>by
  rw[zgU XI];simp only[List.getElem_map];rfl
 obtain⟨N,hN⟩:∃N,l.length=N:=⟨_,rfl⟩;have HN:=za hN;rw[hN]at hl⊢;have HDe:Hid (Zb ((l.map Rl.p).drop N)=([],[])):=za (by rw[List.drop_of_length_le (by rw[W7,hN];exact zo)];rfl);clear hN;obtain⟨i0,hi0,hz0,hz1,hz2⟩:=info_parts jY;have Hi0:=za hi0;have Hz0:=za hz0;have Hz1:=za hz1;have Hz2:=za hz2;obtain⟨j0,hj0,hy0,hy1,hy2⟩:=info_parts zio;have Hj0:=za hj0;have Hy0:=za hy0;have Hy1:=za hy1;have Hy2:=za hy2;clear hi0 hz0 hz1 hz2 hj0 hy0 hy1 hy2;go_enter func20,ntmps20;go_wp2;go_loopg [4,5,6] (N+1) (fun gk s4 s5 s6 wr=>∃(k:Nat) (rl:List Rl) (fl:List Fl) (Ar:Option Addr) (cr:Nat) (Af:Option Addr) (cf:Nat),s4=.slice Ar rl.length cr/\s5=.slice Af fl.length cf/\s6=.int .i64 ((k:Int) - 1)/\k<gk/\k<=N/\rl.length+k<=N/\fl.length+k<=N/\Hid (wr.ownsRow w.heap.size 56 3 (.slice Ar rl.length cr) rl.length (cellsOf Zi rl))/\Hid (wr.ownsRow w.heap.size 102 3 (.slice Af fl.length cf) fl.length (cellsOf V8 fl))/\Hid (Below w.heap.size w wr)/\Hid (∀x∈rl,x∈l)/\Hid (rl.map Rl.p=(Zb ((l.map Rl.p).drop k)).1)/\Hid (fl=(Zb ((l.map Rl.p).drop k)).2))
 case atStart=>exact⟨N,[],[],none,0,none,0,rfl,rfl,rfl,zb,zo,zl,zl,World.ownsRow_nil _ _ _ _,World.ownsRow_nil _ _ _ _,zj,(fun x hx=>YT),(by show _=_;rw[HDe.out];rfl),(by show _=_;rw[HDe.out])⟩
 case round =>
  obtain⟨k,rl,fl,Ar,cr,Af,cf,rfl,rfl,rfl,hkg,hkN,hrl,hfl,hOr,hOf,hB,hIn,hLr,hLf⟩:=hrel;obtain⟨wo,rfl⟩:∃wo:World,wo=wr:=⟨_,rfl⟩;obtain⟨gko,rfl⟩:∃gko:Nat,gko=gk:=⟨_,rfl⟩;have hwz:=hB.out.size;by_cases hk0:0<k
  · obtain ⟨j,rfl⟩:∃j,k=j+1:=⟨k - 1,zb⟩;have hji:((j+1:Nat):Int) - 1=(j:Int):=zb;rw[hji];have hjI:(0:Int)<=(j:Int):=zb;have hjN:(j:Int)<(N:Int):=zb;have hj:j<l.length:=VK;have HQ0:Hid (∀W',Below w.heap.size w W'->∃ba off,A=some ⟨ba,off,none⟩/\W'.cell? ⟨ba,off+j*3,none⟩=some (.string l[j].file)/\W'.cell? ⟨ba,off+j*3+1,none⟩=some (.int .i64 l[j].line)/\W'.cell? ⟨ba,off+j*3+2,none⟩=some (.slice l[j].tms.A l[j].tms.l.length l[j].tms.c)):=za fun W' hb=>H.out.three I4 hb hj _ _ _ rfl;have hdj:=HD.out j hj;have hmem:l[j]∈l:=X8 _;have hin:=HI.out l[j] hmem;have hzj:=HZ.out l[j] hmem;obtain⟨x,hx⟩:∃x,l[j]=x:=⟨_,rfl⟩;rw[hx]at HQ0 hdj hmem hin hzj;rw[<-hLr.out,<-hLf.out]at hdj;have HMem:=za hmem;clear hx hj hmem hLr hLf;obtain⟨xf,xl,xA,xc,xt⟩:=x;obtain⟨ba,off,rfl,_⟩:=HQ0.out w zj;dsimp only at HQ0 hin hzj hdj;have HQ1:Hid (∀W',Below w.heap.size w W'->W'.cell? ⟨ba,off+j*3,none⟩=some (.string xf)/\W'.cell? ⟨ba,off+j*3+1,none⟩=some (.int .i64 xl)/\W'.cell? ⟨ba,off+j*3+2,none⟩=some (.slice xA xt.length xc)):=za fun W' hb=>by
     obtain⟨ba',off',e,h⟩:=HQ0.out W' hb;obtain⟨rfl,rfl⟩:ba=ba'/\off=off':=by injection e with e;injection e with e1 e2;exact⟨e1,e2⟩
     exact h
    have HVal:=za (EV xA xc xt 24 wo zb ((hin.keep hB.out).up hB.out.size));have HKp:Hid (Jg (rl.map Rl.p) (Rl.p ⟨xf,xl,⟨xA,xc,xt⟩⟩)=(match UE xt 24 with|some tg=>XZ (rl.map Rl.p) tg|none=>true)):=za rfl;have HDj:=za hdj;obtain⟨c0,c1,c2⟩:=HQ1.out wo hB.out;obtain⟨o,ho⟩:∃o,UE xt 24=o:=⟨_,rfl⟩;rw[ho]at HVal HKp;clear HQ0 hdj hin ho;unfold OF at HVal;obtain⟨tg,htg⟩:∃tg:ByteArray,o.getD ⟨#[]⟩=tg:=⟨_,rfl⟩;obtain⟨ob,hob⟩:∃ob:Bool,o.isSome=ob:=⟨_,rfl⟩;rw[htg,hob]at HVal;have HKq:Hid (Jg (rl.map Rl.p) (Rl.p ⟨xf,xl,⟨xA,xc,xt⟩⟩)=(!ob||XZ (rl.map Rl.p) tg)):=za (by rw[HKp.out,<-htg,<-hob];cases o<;>rfl);clear HKp htg hob
    go_upto_block 2 with(go_at_call 16;refine HVal.out.mono ?_;rintro e wv ⟨rfl,hv⟩;obtain rfl:wo=wv:=hv)
    go_cut [9]from 31 to 54 (fun s9 wx=>s9=.bool (!ob||XZ (rl.map Rl.p) tg)/\wo=wx)
    case first=>
     go_wp2_with fail
     go_loopg [9,10] (rl.length+1) (fun gk s9 s10 wx=>∃m:Nat,s9=.bool (!ob||XZ ((rl.take m).map Rl.p) tg)/\s10=.int .i64 m/\m+gk=rl.length+1/\m<=rl.length/\wo=wx)
     case atStart=>exact⟨0,by simp[XZ],rfl,zb,X1 _,rfl⟩
     case round=>
      obtain⟨m,rfl,rfl,hmg,hmM,rfl⟩:=hrel;by_cases hlt:m<rl.length
      · have hltI:(m:Int)<(rl.length:Int):=by omega
        have hm:=hlt;obtain⟨ra,ro,rfl,d0,d1,d2⟩:=(zr.of_own hOr.out).three I4 zj hm _ _ _ rfl;have hmem:=hIn.out rl[m] (X8 _);have hin:=HI.out rl[m] hmem;have hzm:=HZ.out rl[m] hmem;have hts:XZ ((rl.take (m+1)).map Rl.p) tg=(XZ ((rl.take m).map Rl.p) tg||O9 (UE rl[m].tms.l 23) tg):=by
         rw[List.take_succ_eq_append_getElem hm,List.map_append,XZ,List.any_append];simp[XZ,Rl.p]
        generalize rl[m]=y at*;obtain⟨yf,yl,yA,yc,yt⟩:=y;dsimp only at d0 d1 d2 hin hzm hts;have HVy:=za (EV yA yc yt 23 wo zb ((hin.keep hB.out).up hB.out.size));obtain⟨o2,ho2⟩:∃o2,UE yt 23=o2:=⟨_,rfl⟩;rw[ho2]at HVy hts;obtain⟨fb,hfb⟩:∃fb,(!ob||XZ ((rl.take m).map Rl.p) tg)=fb:=⟨_,rfl⟩;have HNw:Hid ((!ob||XZ ((rl.take (m+1)).map Rl.p) tg)=(fb||O9 o2 tg)):=za (by rw[hts,<-hfb,Bool.or_assoc]);rw[hfb];unfold OF at HVy;generalize yt.length=qy at*;clear hts hfb ho2 hin hzm hmem hm;cases fb
        · cases o2 with
          | none=>
            exact Ps
          | some vv=>
            exact Ps
        · exact Ps
      · obtain rfl:m=rl.length:=by omega
        have HTa:Hid ((rl.take rl.length).map Rl.p=rl.map Rl.p):=za (by rw[List.take_length]);go_wp2;go_meet;exact⟨by rw[HTa.out],rfl⟩
    case rest=>
    obtain⟨rfl,rfl⟩:=hcut;cases hkp:(!ob||XZ (rl.map Rl.p) tg)
    · have hk2:=HKq.out;rw[hkp]at hk2;have hd:=HDj.out;rw[hk2,if_neg zl]at hd;have HLr:Hid (rl.map Rl.p=(Zb ((l.map Rl.p).drop j)).1):=za (by rw[hd]);have HLf:Hid ((⟨xf,xl,107⟩:Fl)::fl=(Zb ((l.map Rl.p).drop j)).2):=za (by rw[hd]);have HInn:=hIn;have HQ:Hid (∀W',Below wo.heap.size wo W'->W'.cell? ⟨ba,off+j*3,none⟩=some (.string xf)/\W'.cell? ⟨ba,off+j*3+1,none⟩=some (.int .i64 xl)):=za fun W' hb=>by
       obtain⟨h0,h1,_⟩:=HQ1.out W' (bt hB.out hb);exact⟨h0,h1⟩
      clear hk2 hd hkp c0 c1 c2;go_wp2_with fail
      refine wp_region_held_drew (S:=fun W'=>W'.cell? ⟨ba,off+j*3,none⟩=some (.string xf)/\W'.cell? ⟨ba,off+j*3+1,none⟩=some (.int .i64 xl)) zg ?_ (fun hHeld=>?_)
      · exact HQ.out _ Zc
      refine wpAnyH_take (i:=0) (v:=?_) OY zg zg zg qm (Or.inl ⟨zk,?_⟩) qq ?_
      rotate_left
      · exact qA
      try simp only[Act.put,i6,i7,i8]
      refine wpAnyH_take (i:=1) (v:=?_) qa zg zg zg qm (Or.inl ⟨zk,?_⟩) qq ?_
      rotate_left
      · exact qA
      try simp only[Act.put,i6,i7,i8]
      refine wpAnyH_take (i:=2) (v:=?_) qa zg zg zg qm (Or.inl ⟨zk,?_⟩) qq ?_
      rotate_left
      · exact qA
      try simp only[Act.put,i6,i7,i8]
      refine wpAnyH_take (i:=3) (v:=?_) qa zg zg zg qm (Or.inl ⟨zk,?_⟩) qq ?_
      rotate_left
      · exact qA
      try simp only[Act.put,i6,i7,i8]
      refine wpAnyH_take (i:=4) (v:=?_) qa zg zg zg qm (Or.inl ⟨zk,?_⟩) qq ?_
      rotate_left
      · exact qA
      try simp only[Act.put,i6,i7,i8]
      refine wpAnyH_take (i:=5) (v:=?_) qa zg zg zg qm (Or.inl ⟨zk,?_⟩) qq ?_
      rotate_left
      · exact qA
      try simp only[Act.put,i6,i7,i8]
      refine wpAnyH_take (i:=6) (v:=?_) qa zg zg zg qm (Or.inl ⟨zk,?_⟩) qq ?_
      rotate_left
      · exact qA
      try simp only[Act.put,i6,i7,i8]
      refine wpAnyH_take (i:=7) (v:=?_) qa zg zg zg qm (Or.inl ⟨zk,?_⟩) qq ?_
      rotate_left
      · exact qA
      try simp only[Act.put,i6,i7,i8]
      refine wpAnyH_take (i:=8) (v:=?_) qa zg zg zg qm (Or.inl ⟨zk,?_⟩) qq ?_
      rotate_left
      · exact qA
      try simp only[Act.put,i6,i7,i8]
      refine wpAnyH_take (i:=9) (v:=?_) qa zg zg zg qm (Or.inl ⟨zk,?_⟩) qq ?_
      rotate_left
      · exact qA
      try simp only[Act.put,i6,i7,i8]
      refine wpAnyH_take (i:=10) (v:=?_) qa zg zg zg qm (Or.inl ⟨zk,?_⟩) qq ?_
      rotate_left
      · exact qA
      try simp only[Act.put,i6,i7,i8]
      refine wpAnyH_take (i:=12) (v:=?_) qa zg zg zg qm (Or.inl ⟨zk,?_⟩) qq ?_
      rotate_left
      · exact qA
      try simp only[Act.put,i6,i7,i8]
      refine wpAnyH_ready (rs:=[11]) zg zl ?_;refine AllReadyH.cons qa (fun K hK=>?_) AllReadyH.nil
      go_simp
      refine hK.out _ _ Hn (fun hHeld=>?_);clear hK K
      try simp only[Act.put,i6,i7,i8]
      refine wpAnyH_ready (rs:=[13]) zg zl ?_;refine AllReadyH.cons qa (fun K hK=>?_) AllReadyH.nil;refine zb3 zk _ _ _ zk w.heap.size 102 j0 _ 3 32 underlying65 Hj0.out Hy0.out Hy1.out Hy2.out rfl zb (.slice (some ⟨wo.heap.size,0,none⟩) 1 1) 1 (V8 (⟨xf,xl,107⟩:Fl)) zk (by first|exact World.ownsRow_lit wo _ 1 zb ql zk|exact qi (World.ownsRow_lit wo _ 1 zb ql zk) zj.drew|exact World.ownsRow_lit wo.drew _ 1 (by simpa using hwz) ql zk) Af fl.length cf wo.heap.size (cellsOf V8 fl) zk ((zr.of_own hOf.out).keep Zc) (zjx fl) ql zb zK ?_;intro v9 w9 hown2 hgrow2 hat2 _;obtain⟨A9,c9,rfl⟩:=Qf hown2;have HO9:=za (zh1 hown2);have HG9:Hid (Below wo.heap.size wo w9):=za (vx Zc hgrow2 (fun g e=>DU));have HQ9:=za (HQ.out w9 HG9.out);clear hown2 hgrow2 hat2;refine hK.out _ _ Hn (fun hHeld=>?_);clear hK K
      try simp only[Act.put,i6,i7,i8]
      refine wpAnyH_take (i:=14) (v:=?_) qa zg zg zg qm (Or.inl ⟨zk,?_⟩) qq ?_
      rotate_left
      · exact qA
      try simp only[Act.put,i6,i7,i8]
      refine wpAnyH_done zg ?_ _;go_wp2;go_roundg (gko - 1)
      case measure=>omega
      case rel=>exact⟨j,rl,(⟨xf,xl,107⟩:Fl)::fl,_,_,_,_,rfl,by rw[u0,zk6 fl.length 1],rfl,zb,zb,zb,GX,qi hOr.out HG9.out,by rw[u0,zk6 fl.length 1];exact HO9.out,bt hB.out HG9.out,HInn.out,HLr.out,HLf.out⟩
    · have hk2:=HKq.out;rw[hkp]at hk2;have hd:=HDj.out;rw[hk2,if_pos rfl]at hd;have HLr:Hid (((⟨xf,xl,⟨xA,xc,xt⟩⟩:Rl)::rl).map Rl.p=(Zb ((l.map Rl.p).drop j)).1):=za (by rw[hd];rfl);have HLf:Hid (fl=(Zb ((l.map Rl.p).drop j)).2):=za (by rw[hd]);have HInn:Hid (∀x∈(⟨xf,xl,⟨xA,xc,xt⟩⟩:Rl)::rl,x∈l):=za fun y hy=>by
       rcases List.mem_cons.1 hy with rfl|hy
       · exact HMem.out
       · exact hIn.out y hy
      clear hk2 hd hkp;go_wp2_with (at_builtin;go_loud (refine yz rfl _ _ _ zk w.heap.size 56 i0 _ 3 48 underlying26 Hi0.out Hz0.out Hz1.out Hz2.out rfl zb (.slice (some ⟨wo.heap.size,0,none⟩) 1 1) 1 (Zi (⟨xf,xl,⟨xA,xc,xt⟩⟩:Rl)) zk (by exact World.ownsRow_lit wo _ 1 zb ql zk) Ar rl.length cr wo.heap.size (cellsOf Zi rl) zk ((zr.of_own hOr.out).keep zu) (zgb rl) ql zb zK ?_;intro v9 w9 hown2 hgrow2 hat2 _;obtain⟨A9,c9,rfl⟩:=Qf hown2;have HO9:=za (zdM hown2);have HG9:Hid (Below wo.heap.size wo w9):=za (vx (zL wo _) hgrow2 (fun g e=>DU));clear hown2 hgrow2 hat2))
      go_roundg (gko - 1)
      case measure=>omega
      case rel=>exact⟨j,(⟨xf,xl,⟨xA,xc,xt⟩⟩:Rl)::rl,fl,_,_,_,_,by rw[u0,zk6 rl.length 1],rfl,rfl,zb,zb,GX,zb,by rw[u0,zk6 rl.length 1];exact HO9.out,qi hOf.out HG9.out,bt hB.out HG9.out,HInn.out,HLr.out,HLf.out⟩
  · obtain rfl:k=0:=by omega
    rw[zl4]at hLr hLf;have HIr:Hid (Yw 4 zQ Rl.tms wo wo.heap.size rl):=za ((Yw.sub (HI.out.keep hB.out) hIn.out).up hB.out.size);go_wp2;go_ret2;exact⟨_,_,_,_,rl,fl,rfl,hLr.out,hLf.out,zr.of_own hOr.out,zr.of_own hOf.out,HIr.out,hB.out,zac hOr.out,fun a e=>(hOr.out.lt a.block GY).1,fun y hy a e=>⟨y,hIn.out y hy,e⟩⟩
end
section
def NS:List Rp->Prop
 | []=>True
 |x::r=>Jg r x=true/\NS r
theorem zgO(l:List Rp):NS (Zb l).1:=by
 induction l with
 |nil=>exact trivial
 | cons x r ih=>
   rw[Zb]
   split
   · rename_i h;exact⟨h,ih⟩
   · exact ih
end
end Go.Proofs.YtecbmndgpepkcaaGreatDoor

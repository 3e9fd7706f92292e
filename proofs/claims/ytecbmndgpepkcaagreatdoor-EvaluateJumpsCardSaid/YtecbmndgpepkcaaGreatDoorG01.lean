/- Contracts of functions that the law reaches, and what they rest on; each under the premises that it names. Shortened by a program. -/
import Derived.Test.YtecbmndgpepkcaaGreatDoorG00
import Derived.Deep.Cut
import Derived.Deep.CutRange
import Derived.Deep.CutBlock
import Derived.Shelf.SlicesE.Clone
import Derived.Shelf.SlicesQ.IndexFunc
import Derived.Shelf.Spec.SearchS
import Derived.Shelf.Spec.SlicesInsert
import Derived.Shelf.Spec.SlicesInsertGrow
namespace Go.Proofs.YtecbmndgpepkcaaGreatDoor
open Tryz
set_option maxHeartbeats 8000000
set_option maxRecDepth 100000
section
open Go.RowKit
structure Tm where
 key:Int
 name:ByteArray
 op:Int
 value:ByteArray
def zN(t:Tm):List Value:=[.int .i64 t.key,.string t.name,.int .i64 t.op,.string t.value]
def qe(t:Tm):Value:=.agg #[.int .i64 t.key,.string t.name,.int .i64 t.op,.string t.value]
theorem Pm(t:Tm):(zN t).length=4:=rfl
structure YG(m:Nat)(t:Tm):Prop where
 name:t.name.size<=m
 value:t.value.size<=m
 k0: -10<=t.key
 k1:t.key<=100
 o0: -10<=t.op
 o1:t.op<=100
def zh1(m:Nat)(P:World->Prop)(e:Ending)(w':World):Prop:=∃t:Tm,YG m t/\e=.returned (qe t)/\P w'
def Mf(m:Nat)(P:World->Prop)(e:Ending)(w':World):Prop:=∃t:Tm,YG m t/\t.key≠23/\e=.returned (qe t)/\P w'
theorem ziS:(prog.info? 52).map (·.size)=some 4:=zg
theorem zA.trans{w0 W W1 W2:World}{b n p d d':Nat}(h:zA w0 b n p d W W1)(k:zA w0 b n p d' W1 W2):zA w0 b n p d' W W2:=⟨k.st,qQ h.gr k.gr⟩
theorem zA.alloc{w0 W W1:World}{b n p d:Nat}{o:Obj}(h:zA w0 b n p d (W.alloc o) W1):zA w0 b n p d W W1:=⟨h.st,qQ (World.grownBy_alloc _ _ _) h.gr⟩
theorem zA.more{w0 W W1:World}{b n p d d':Nat}(h:zA w0 b n p d W W1)(hd:d<=d'):zA w0 b n p d' W W1:=⟨h.st.more hd,h.gr⟩
theorem zA.blk{w0 W W1:World}{b n p d g:Nat}{o:Obj}(h:zA w0 b n p d W W1)(hg:W.heap[g]? =some o)(hne:g≠b):W1.heap[g]? =some o:=(h.gr.block g (zh hg) (fun e=>hne (zx e))).trans hg
theorem zA.setRow{w0 W W1:World}{b n p d g:Nat}(h:zA w0 b n p d W W1)(hg:W.heap.size<=g)(hw:w0.heap.size<=W.heap.size)(c:Array Value):zA w0 b n p d W (W1.setRow g c):=
 ⟨h.st.grown (qK W1 g c) (fun j e=>JZ),Yz h.gr (qK W1 g c) (fun j e=>by cases e;exact Or.inl hg)⟩
theorem zA.of_below{w0 W W' W1:World}{b n p d:Nat}(h:zA w0 b n p d W' W1)(hb:Below W.heap.size W W'):zA w0 b n p d W W1:=⟨h.st,qQ (zG hb _) h.gr⟩
theorem zA.grownR{w0 W W1 W2:World}{b n p d:Nat}{row:Option Nat}(h:zA w0 b n p d W W1)(hg:W1.grownBy W2 row)(hr:∀j,row=some j->w0.heap.size<=j/\W.heap.size<=j):zA w0 b n p d W W2:=
 ⟨h.st.grown hg (fun j e=>(hr j e).1),Yz h.gr hg (fun j e=>Or.inl (hr j e).2)⟩
theorem zA.setCellR{w0 W W1:World}{b n p d g i:Nat}{u:Value}(h:zA w0 b n p d W W1)(hg:W.heap.size<=g)(hw:w0.heap.size<=W.heap.size):zA w0 b n p d W (W1.setCell ⟨g,i,none⟩ u):=h.grownR (qu W1 g i u) (fun j e=>by cases e;exact⟨zb,hg⟩)
theorem zA.allocR{w0 W W1:World}{b n p d:Nat}{o:Obj}(h:zA w0 b n p d W W1):zA w0 b n p d W (W1.alloc o):=h.grownR (World.grownBy_alloc W1 o none) (fun _ e=>Zp)
theorem zA.drewR{w0 W W1:World}{b n p d:Nat}(h:zA w0 b n p d W W1):zA w0 b n p d W W1.drew:=h.grownR (row:=none) ⟨rfl,rfl,rfl,zo,fun _ _ _=>rfl⟩ (fun _ e=>Zp)
def zgt(b:Nat)(W W1:World):Prop:=∀g o,W.heap[g]? =some o->g≠b->W1.heap[g]? =some o
theorem zA.stay{w0 W W1:World}{b n p d:Nat}(h:zA w0 b n p d W W1):zgt b W W1:=fun _ _ hg hne=>h.blk hg hne
theorem zA.cell{w0 W W1:World}{b n p d:Nat}(h:zA w0 b n p d W W1):∀g i,g<W.heap.size->g≠b->W1.cell? ⟨g,i,none⟩=W.cell? ⟨g,i,none⟩:=fun g i hg hne=>h.gr.cell_far ⟨g,i,none⟩ hg (fun e=>hne (zx e))
theorem GG{w0 W:World}{b n p d:Nat}(m:Nat)(A:Array Value)(T:TypeId)(g k c:Nat)(h:qp w0 b n p d W)(hrow:W.heap[g]? =some (.cells A T (0,0)))(hA:MY m A=true)(hk:A.size=k)(hk0:0<k)(hk1:k<=1000)(hg:g≠b)(h3:p+d<=1000000):
 Calls prog 18 #[.pointer (some ⟨b,0,none⟩),.slice (some ⟨g,0,none⟩) k c] W (Iy (·.size<=m) (zA w0 b n p (d+1) W)):=by
 obtain⟨ss,e,hs⟩:=Rn hA;exact AL
theorem KV{W:World}{g:Nat}{T:TypeId}{x0 x1 x2 x3:Value}(h:W.heap[g]? =some (.cells #[x0,x1,x2,x3] T (0,0))):
 (W.cell? ⟨g,0,none⟩=some x0/\W.cell? ⟨g,1,none⟩=some x1/\W.cell? ⟨g,2,none⟩=some x2/\W.cell? ⟨g,3,none⟩=some x3)/\W.frozen? ⟨g,0,none⟩=false/\W.frozen? ⟨g,1,none⟩=false/\W.frozen? ⟨g,2,none⟩=false/\W.frozen? ⟨g,3,none⟩=false:=
 ⟨⟨zd h rfl,zd h rfl,zd h rfl,zd h rfl⟩,frozen_of_row _ _ _ _ _ h,frozen_of_row _ _ _ _ _ h,frozen_of_row _ _ _ _ _ h,frozen_of_row _ _ _ _ _ h⟩
def zc8(lo hi:Int)(A:Array Value):Bool:=A.toList.all fun
 | .int .i64 v=>decide (lo<=v)&&decide (v<=hi)
 |_=>false
theorem RO{lo hi:Int}{A:Array Value}{j:Nat}(hA:zc8 lo hi A=true)(hj:j<A.size):∃v,lo<=v/\v<=hi/\A[j]? =some (.int .i64 v):=by
 have h1:=List.all_eq_true.1 hA A[j] zl;rw[Array.getElem?_eq_getElem hj];generalize A[j]=u at h1;cases u with
 | int k v=>
   cases k<;>first|(simp at h1;exact⟨v,h1.1,h1.2,rfl⟩)|simp at h1
 |_=>simp at h1
theorem Yx{P:Program}{fn:Func}{R:Ending->World->Prop}{a:Act}{W:World}{g:Nat}{p:Tmp}{ty t:TypeId}{old cs:Array Value}{fr:Nat×Nat}{d:TypeDesc}(h:fn.results=#[.cell p ty])(hp:a.tmps.getD p undef=.pointer (some ⟨g,0,none⟩))
 (hg:W.heap[g]? =some (.cells old t fr))(hu:P.underlying ty=some d)(hd:(match d with| .struct _| .array _ _=>true|_=>false)=true)(hi:(P.info? ty).map (·.size)=some cs.size)(hdef:a.defers=[])
 (hR:R (.returned (.agg cs)) (W.setRow g cs)):bodyPost P fn R .ret a (W.setRow g cs):=
 bodyPost_ret (results_cell_row h _ _ g t cs fr d hp (setRow_heap _ _ _ _ _ _ hg) hu hd hi) hdef hR
end
section
open Go.RowKit
section
variable{α:Type}(TO TI:TypeId)(k:Nat)(enc:α->List Value)
structure ZU(w:World)(base:Nat)(v:Value)(vs:List Value)(ls:List (List α)):Prop where
 len:vs.length=ls.length
 outer:w.ownsRow base TO 1 v vs.length vs
 inner:∀(i:Nat) (x:Value) (l:List α),vs[i]? =some x->ls[i]? =some l->w.ownsRow base TI k x l.length (cellsOf enc l)
 off:∀(i:Nat) (x:Value) (g:Nat),vs[i]? =some x->x.ownBlock=some g->v.ownBlock≠some g
 apart:∀(i j:Nat) (x y:Value) (g:Nat),i≠j->vs[i]? =some x->vs[j]? =some y->x.ownBlock=some g->y.ownBlock≠some g
def JP(w:World)(base:Nat)(v:Value)(ls:List (List α)):Prop:=∃vs,ZU TO TI k enc w base v vs ls
variable{TO TI k enc}{w w':World}{base:Nat}{v:Value}{vs:List Value}{ls:List (List α)}
theorem ZU.lt(h:ZU TO TI k enc w base v vs ls){i:Nat}{x:Value}{g:Nat}(hx:vs[i]? =some x)(hg:x.ownBlock=some g):base<=g/\g<w.heap.size:=by
 have hi:i<ls.length:=by rw[<-h.len];exact(List.getElem?_eq_some_iff.1 hx).1
 exact(h.inner i x ls[i] hx (List.getElem?_eq_getElem hi)).lt g hg
theorem IG{e:TypeId}{kk n:Nat}{xs:List Value}(h:w.ownsRow base e kk v n xs)(hb:Below w.heap.size w w'):w'.ownsRow base e kk v n xs:=
 h.kept (zG hb none) (by cases hv:v.ownBlock<;>simp)
theorem ZU.below(h:ZU TO TI k enc w base v vs ls)(hb:Below w.heap.size w w'):ZU TO TI k enc w' base v vs ls:=
 ⟨h.len,IG h.outer hb,fun i x l hx hl=>IG (h.inner i x l hx hl) hb,h.off,h.apart⟩
theorem ZU.other(h:ZU TO TI k enc w base v vs ls){row:Option Nat}(hg:w.grownBy w' row)(hr:∀g,row=some g->g<base∨w.heap.size<=g):ZU TO TI k enc w' base v vs ls:=
 ⟨h.len,h.outer.kept hg (by
  cases hv:v.ownBlock with
  |none=>exact Or.inl rfl
  | some g=>
    right;intro e;have:=h.outer.lt g hv;have:=hr g (by rw[<-e]);omega),
  fun i x l hx hl=>(h.inner i x l hx hl).kept hg (by
   cases hv:x.ownBlock with
   |none=>exact Or.inl rfl
   | some g=>
     right;intro e;have:=h.lt hx hv;have:=hr g (by rw[<-e]);omega),h.off,h.apart⟩
theorem ZU.fresh(h:ZU TO TI k enc w base v vs ls){g:Nat}(hg:w.heap.size<=g):v.ownBlock≠some g/\∀x∈vs,x.ownBlock≠some g:=by
 refine⟨fun e=>by have:=(h.outer.lt g e).2;omega,fun x hx e=>?_⟩;obtain⟨i,hi,rfl⟩:=List.getElem_of_mem hx;have:=(h.lt (List.getElem?_eq_getElem hi) e).2;omega
theorem ZU.beside(h:ZU TO TI k enc w base v vs ls){g:Nat}(hg:w.grownBy w' (some g))(hr:v.ownBlock≠some g/\∀x∈vs,x.ownBlock≠some g):ZU TO TI k enc w' base v vs ls:=
 ⟨h.len,h.outer.kept hg (Or.inr hr.1),fun i x l hx hl=>(h.inner i x l hx hl).kept hg (Or.inr (hr.2 x (List.mem_of_getElem? hx))),h.off,h.apart⟩
theorem ZU.pushNil(h:ZU TO TI k enc w base v vs ls){A:Option Addr}{c:Nat}{g2:Nat}(hv2:A=some ⟨g2,0,none⟩)(hown:w'.ownsRow base TO 1 (.slice A (vs.length+1) c) (vs.length+1) (vs++[.slice none 0 0]))(hg:w.grownBy w' v.ownBlock)(hat:v.ownBlock=some g2∨g2=w.heap.size):
 ZU TO TI k enc w' base (.slice A (vs.length+1) c) (vs++[.slice none 0 0]) (ls++[[]]):=by
 subst hv2;have hold:∀(i:Nat) (x:Value),(vs++[Value.slice none 0 0])[i]? =some x->(vs[i]? =some x)∨(i=vs.length/\x=.slice none 0 0):=fun i x hx=>by
  rcases Nat.lt_or_ge i vs.length with hi|hi
  · left;rw[List.getElem?_append_left hi]at hx;exact hx
  · right;rw[List.getElem?_append_right hi]at hx;have:i - vs.length=0:=by
     have:=(List.getElem?_eq_some_iff.1 hx).1;exact Q2
    rw[this]at hx;exact⟨zb,by simpa using hx.symm⟩
 refine⟨by simp[h.len],Lv,fun i x l hx hl=>?_,fun i x g hx hg'=>?_,fun i j x y g hij hx hy hgx=>?_⟩
 · rcases hold i x hx with hx|⟨hi,rfl⟩
   · have hi:i<ls.length:=by rw[<-h.len];exact(List.getElem?_eq_some_iff.1 hx).1
     rw[List.getElem?_append_left hi]at hl;refine(h.inner i x l hx hl).kept hg ?_;cases hv:x.ownBlock with
     |none=>exact Or.inl rfl
     |some g=>right;intro e;exact h.off i x g hx hv e.symm
   · rw[hi,h.len,List.getElem?_append_right zo,Nat.sub_self]at hl;exact va
 · rcases hold i x hx with hx|⟨hi,rfl⟩
   · intro e;have e:g2=g:=Ic;subst e;rcases hat with hat|hat
     · exact h.off i x g2 hx hg' hat
     · have:=(h.lt hx hg').2;omega
   · simp[Value.ownBlock]at hg'
 · rcases hold i x hx with hx|⟨_,rfl⟩
   · rcases hold j y hy with hy|⟨_,rfl⟩
     · exact h.apart i j x y g hij hx hy hgx
     · simp[Value.ownBlock]
   · simp[Value.ownBlock]at hgx
theorem ZU.appendLast{ms:List (List α)}{cur:List α}{t:α}{go c:Nat}{x:Value}{us:List Value}(h:ZU TO TI k enc w base (.slice (some ⟨go,0,none⟩) (us.length+1) c) (us++[x]) (ms++[cur]))
 {g2 cap:Nat}{w1:World}(hown:w1.ownsRow base TI k (.slice (some ⟨g2,0,none⟩) (cur.length+1) cap) (cur.length+1) (cellsOf enc cur++enc t))(hg:w.grownBy w1 x.ownBlock)(hat:x.ownBlock=some g2∨g2=w.heap.size):
 ZU TO TI k enc (w1.setCell ⟨go,us.length,none⟩ (.slice (some ⟨g2,0,none⟩) (cur.length+1) cap)) base (.slice (some ⟨go,0,none⟩) (us.length+1) c) (us++[.slice (some ⟨g2,0,none⟩) (cur.length+1) cap]) (ms++[cur++[t]]):=by
 have hl:us.length=ms.length:=by have:=h.len;simp at this;exact this
 have hlast:(us++[x])[us.length]? =some x:=zl;have ho:=h.outer;simp only[List.length_append,List.length_singleton]at ho;have hgo:=ho.lt go rfl;have hout:w1.ownsRow base TO 1 (.slice (some ⟨go,0,none⟩) (us.length+1) c) (us.length+1) (us++[x]):=ho.kept hg (by
  right;intro e;exact h.off us.length x go hlast e.symm rfl)
 have hs:=hout.stored us.length (.slice (some ⟨g2,0,none⟩) (cur.length+1) cap);have hset:(us++[x]).set us.length (.slice (some ⟨g2,0,none⟩) (cur.length+1) cap)=us++[.slice (some ⟨g2,0,none⟩) (cur.length+1) cap]:=by
  rw[List.set_append_right _ _ zo,Nat.sub_self];rfl
 rw[hset]at hs;have hne:g2≠go:=by
  intro e;subst e;rcases hat with hat|hat
  · exact h.off us.length x g2 hlast hat rfl
  · omega
 have hold:∀(i:Nat) (y:Value),(us++[Value.slice (some ⟨g2,0,none⟩) (cur.length+1) cap])[i]? =some y->(i<us.length/\(us++[x])[i]? =some y)∨(i=us.length/\y=.slice (some ⟨g2,0,none⟩) (cur.length+1) cap):=fun i y hy=>by
  rcases Nat.lt_or_ge i us.length with hi|hi
  · left;rw[List.getElem?_append_left hi]at hy;exact⟨hi,by rw[List.getElem?_append_left hi];exact hy⟩
  · right;rw[List.getElem?_append_right hi]at hy;have:i - us.length=0:=by
     have:=(List.getElem?_eq_some_iff.1 hy).1;exact Q2
    rw[this]at hy;exact⟨zb,by simpa using hy.symm⟩
 have hoth:∀(i:Nat) (y:Value) (g:Nat),i<us.length->(us++[x])[i]? =some y->y.ownBlock=some g->g≠g2/\g≠go/\x.ownBlock≠some g:=fun i y g hi hy hyg=>by
  have h1:=h.lt hy hyg;have h2:=h.off i y g hy hyg;have h3:=h.apart i us.length y x g zb hy hlast hyg;refine⟨fun e=>?_,fun e=>h2 Gb,h3⟩;subst e;rcases hat with hat|hat
  · exact h3 hat
  · omega
 refine⟨by simp[hl],by rw[List.length_append,List.length_singleton];exact hs.1,fun i y l hy hyl=>?_,fun i y g hy hyg=>?_,fun i j y z g hij hy hz hyg=>?_⟩
 · rcases hold i y hy with⟨hi,hy⟩|⟨hi,rfl⟩
   · rw[List.getElem?_append_left zb]at hyl;have h1:=h.inner i y l hy (by rw[List.getElem?_append_left zb];exact hyl);have h2:w1.ownsRow base TI k y l.length (cellsOf enc l):=h1.kept hg (by
      cases hv:y.ownBlock with
      |none=>exact Or.inl rfl
      |some g=>right;intro e;exact(hoth i y g hi hy hv).2.2 e.symm)
     refine h2.kept hs.2 ?_;cases hv:y.ownBlock with
     |none=>exact Or.inl rfl
     |some g=>right;intro e;exact(hoth i y g hi hy hv).2.1 (zx e)
   · rw[hi,hl,List.getElem?_append_right zo,Nat.sub_self]at hyl;obtain rfl:cur++[t]=l:=by simpa using hyl
     rw[List.length_append,List.length_singleton,XF];have e:cellsOf enc [t]=enc t:=Xv;rw[e];exact hown.kept hs.2 (Or.inr (fun e=>hne Ic))
 · rcases hold i y hy with⟨hi,hy⟩|⟨_,rfl⟩
   · intro e;have e:go=g:=Ic;exact(hoth i y g hi hy hyg).2.1 e.symm
   · intro e;have e:go=g:=Ic;have e2:g2=g:=E7;exact hne (by rw[e2,e])
 · rcases hold i y hy with⟨hi,hy⟩|⟨hi,rfl⟩
   · rcases hold j z hz with⟨hj,hz⟩|⟨hj,rfl⟩
     · exact h.apart i j y z g hij hy hz hyg
     · intro e;have e:g2=g:=Ic;exact(hoth i y g hi hy hyg).1 e.symm
   · rcases hold j z hz with⟨hj,hz⟩|⟨hj,rfl⟩
     · intro e;have e2:g2=g:=E7;exact(hoth j z g hj hz e).1 e2.symm
     · omega
theorem ZU.first(hb:base<=w.heap.size):ZU TO TI k enc (w.alloc (.cells #[.slice none 0 0] TO)) base (.slice (some ⟨w.heap.size,0,none⟩) 1 1) [.slice none 0 0] [[]]:=by
 refine⟨rfl,World.ownsRow_lit w #[.slice none 0 0] 1 hb qi rfl,fun i x l hx hl=>?_,fun i x g hx hg=>?_,fun i j x y g hij hx hy hg=>?_⟩
 · cases i with
   | zero=>
     obtain rfl:Value.slice none 0 0=x:=kY;exact va
   |succ i=>simp at hx
 · exact Ec
 · exact Ec
end
end
section
open Go.RowKit
def qA(op:Int):Bool:=op==1||op==2
theorem zca{W w1:World}{x0 x1 x2 x3:Value}{T:TypeId}(hb:Below (W.alloc (.cells #[x0,x1,x2,x3] T)).heap.size (W.alloc (.cells #[x0,x1,x2,x3] T)) w1):
 w1.cell? ⟨W.heap.size,0,none⟩=some x0/\w1.cell? ⟨W.heap.size,1,none⟩=some x1/\w1.cell? ⟨W.heap.size,2,none⟩=some x2/\w1.cell? ⟨W.heap.size,3,none⟩=some x3:=
 (KV ((hb.block _ zl).trans (heap_alloc_new W _))).1
theorem TW(t:Tm)(w:World):Calls prog 90 #[qe t] w fun e w'=>e=.returned (.bool (qA t.op))/\Below w.heap.size w w':=by
 unfold qe;by_cases h1:t.op=1
 · have e1:(t.op==1)=true:=by simpa using h1
   have HM:Hid (qA t.op=true):=za (by simp[qA,h1]);exact Ed
 · have e1:(t.op==1)=false:=by simpa using h1
   have HM:Hid (qA t.op=(t.op==2)):=za (by simp[qA,e1]);exact Ed
theorem zr.tm{w wr:World}{B:Nat}{A:Option Addr}{l:List Tm}(h:zr w B A 4 l.length (cellsOf zN l))(hb:Below B w wr){k:Nat}(hk:k<l.length):∃ba off,A=some ⟨ba,off,none⟩ /\
 wr.cell? ⟨ba,off+k*4,none⟩=some (.int .i64 l[k].key)/\wr.cell? ⟨ba,off+k*4+1,none⟩=some (.string l[k].name)/\wr.cell? ⟨ba,off+k*4+2,none⟩=some (.int .i64 l[k].op)/\wr.cell? ⟨ba,off+k*4+3,none⟩=some (.string l[k].value):=by
 obtain⟨ba,off,hA,hba,hc⟩:=h.cell Pm hk;have hx:l[k]? =some l[k]:=List.getElem?_eq_getElem hk;refine⟨ba,off,hA,?_,?_,?_,?_⟩
 · rw[hb.cell (p:=⟨ba,off+k*4,none⟩) hba];exact hc k _ hx 0 _ rfl
 · rw[hb.cell (p:=⟨ba,off+k*4+1,none⟩) hba];exact hc k _ hx 1 _ rfl
 · rw[hb.cell (p:=⟨ba,off+k*4+2,none⟩) hba];exact hc k _ hx 2 _ rfl
 · rw[hb.cell (p:=⟨ba,off+k*4+3,none⟩) hba];exact hc k _ hx 3 _ rfl
theorem zr.three{α:Type}{enc:α->List Value}(hk:∀x,(enc x).length=3){w wr:World}{B:Nat}{A:Option Addr}{l:List α}(h:zr w B A 3 l.length (cellsOf enc l))(hb:Below B w wr){k:Nat}(hlt:k<l.length)(x0 x1 x2:Value)(he:enc l[k]=[x0,x1,x2]):∃ba off,A=some ⟨ba,off,none⟩ /\
 wr.cell? ⟨ba,off+k*3,none⟩=some x0/\wr.cell? ⟨ba,off+k*3+1,none⟩=some x1/\wr.cell? ⟨ba,off+k*3+2,none⟩=some x2:=by
 obtain⟨ba,off,hA,hba,hc⟩:=h.cell hk hlt;have hx:l[k]? =some l[k]:=List.getElem?_eq_getElem hlt;refine⟨ba,off,hA,?_,?_,?_⟩
 · rw[hb.cell (p:=⟨ba,off+k*3,none⟩) hba];exact hc k _ hx 0 _ GK
 · rw[hb.cell (p:=⟨ba,off+k*3+1,none⟩) hba];exact hc k _ hx 1 _ GK
 · rw[hb.cell (p:=⟨ba,off+k*3+2,none⟩) hba];exact hc k _ hx 2 _ GK
end
section
open Go.Shelf Go.RowKit Go.Lib
def vO:Go.Shelf.Ren:=⟨fun|41=>55|n=>n,fun|22=>31|23=>114|n=>n,fun|n=>n⟩
theorem zeC:Go.Proofs.SlLaysE0.n41 prog vO:={
 mixed:=zg
 f41:=⟨Tryz.f55.name,zi,func55.trans (congrArg some zg)⟩
 t4:=underlying4
 a4:=isAgg4
 z4:=sizeOf4
 v4:=zeroValue4
 t22:=underlying31
 a22:=isAgg31
 z22:=sizeOf31
 v22:=zeroValue31}
def Lj:Go.Shelf.Ren:=⟨fun|41=>69|n=>n,fun|22=>32|23=>9|n=>n,fun|n=>n⟩
theorem zef:Go.Proofs.SlLaysE0.n41 prog Lj:={
 mixed:=zg
 f41:=⟨Tryz.f69.name,zi,func69.trans (congrArg some zg)⟩
 t4:=underlying4
 a4:=isAgg4
 z4:=sizeOf4
 v4:=zeroValue4
 t22:=underlying32
 a22:=isAgg32
 z22:=sizeOf32
 v22:=zeroValue32}
def jY:Go.Shelf.Ren:=⟨fun|41=>68|n=>n,fun|22=>54|23=>52|n=>n,fun|n=>n⟩
theorem zgp:Go.Proofs.SlLaysE0.n41 prog jY:={
 mixed:=zg
 f41:=⟨Tryz.f68.name,zi,func68.trans (congrArg some zg)⟩
 t4:=underlying4
 a4:=isAgg4
 z4:=sizeOf4
 v4:=zeroValue4
 t22:=underlying54
 a22:=isAgg54
 z22:=sizeOf54
 v22:=zeroValue54}
def zfN:Go.Shelf.Ren:=⟨fun|6=>52|n=>n,fun|22=>28|23=>43|25=>82|n=>n,fun|n=>n⟩
theorem zdF:Go.Proofs.SlLaysH0.n6 prog zfN:={
 mixed:=zg
 f6:=⟨Tryz.f52.name,zi,func52.trans (congrArg some zg)⟩
 t0:=underlying0
 a0:=isAgg0
 z0:=sizeOf0
 v0:=zeroValue0
 t3:=underlying3
 a3:=isAgg3
 z3:=sizeOf3
 v3:=zeroValue3
 t4:=underlying4
 a4:=isAgg4
 z4:=sizeOf4
 v4:=zeroValue4
 t22:=underlying28
 a22:=isAgg28
 z22:=sizeOf28
 v22:=zeroValue28
 t25:=underlying82
 a25:=isAgg82
 z25:=sizeOf82
 v25:=zeroValue82}
def AB:Go.Shelf.Ren:=⟨fun|6=>152|n=>n,fun|22=>35|23=>107|25=>218|n=>n,fun|n=>n⟩
theorem zho:Go.Proofs.SlLaysH0.n6 prog AB:={
 mixed:=zg
 f6:=⟨Tryz.f152.name,zi,func152.trans (congrArg some zg)⟩
 t0:=underlying0
 a0:=isAgg0
 z0:=sizeOf0
 v0:=zeroValue0
 t3:=underlying3
 a3:=isAgg3
 z3:=sizeOf3
 v3:=zeroValue3
 t4:=underlying4
 a4:=isAgg4
 z4:=sizeOf4
 v4:=zeroValue4
 t22:=underlying35
 a22:=isAgg35
 z22:=sizeOf35
 v22:=zeroValue35
 t25:=underlying218
 a25:=isAgg218
 z25:=sizeOf218
 v25:=zeroValue218}
def jk:Go.Shelf.Ren:=⟨fun|6=>150|8=>118|n=>n,fun|22=>54|23=>52|25=>165|n=>n,fun|n=>n⟩
theorem jS:Go.Proofs.SlLaysH0.n8 prog jk:={
 mixed:=zg
 f6:=⟨Tryz.f150.name,zi,func150.trans (congrArg some zg)⟩
 f8:=⟨Tryz.f118.name,zi,func118.trans (congrArg some zg)⟩
 t0:=underlying0
 a0:=isAgg0
 z0:=sizeOf0
 v0:=zeroValue0
 t3:=underlying3
 a3:=isAgg3
 z3:=sizeOf3
 v3:=zeroValue3
 t4:=underlying4
 a4:=isAgg4
 z4:=sizeOf4
 v4:=zeroValue4
 t22:=underlying54
 a22:=isAgg54
 z22:=sizeOf54
 v22:=zeroValue54
 t25:=underlying165
 a25:=isAgg165
 z25:=sizeOf165
 v25:=zeroValue165}
def NB{α:Type}(T:TypeId)(k:Nat)(enc:α->List Value)(l:List α)(w:World)(e:Ending)(w':World):Prop:=∃A c,e=.returned (.slice A l.length c)/\w'.ownsRow w.heap.size T k (.slice A l.length c) l.length (cellsOf enc l)/\Below w.heap.size w w'
theorem OM{ρ:Ren}{α:Type}{enc:α->List Value}{k bytes:Nat}{z:Value}(L:Go.Proofs.SlLaysE0.n41 prog ρ)(_hk:∀x,(enc x).length=k)(h1:∀x,∀u∈enc x,u.oneCell'=true)(h0:0<k)
 (hi:(prog.info? (ρ.t 23)).map (fun i=>(i.zero,i.size,i.bytes))=some (some z,k,bytes))(hzs:z.cells.size=k)(zs:∀w,(Go.sizeOf (ρ.t 23)).run prog w=.ok k w)(hb:bytes<=1000)
 (A:Option Addr)(c:Nat)(l:List α)(w:World)(hn:l.length<=1000000)(h:zD w A k l.length (cellsOf enc l)):
 Calls prog (ρ.f 41) #[.slice A l.length c] w (NB (ρ.t 23) k enc l w):=by
 obtain⟨i0,hi0,hz0,hz1,hz2⟩:=info_parts hi;have hc1:∀u∈cellsOf enc l,u.oneCell'=true:=fun u hu=>by
  obtain⟨x,_,hx⟩:=List.mem_flatMap.1 hu;exact h1 x u hx
 have hmul:l.length*bytes<=140737488355328:=Nat.le_trans (Nat.mul_le_mul hn hb) zi;cases A with
 | none=>
   have hl:l=[]:=by
    rcases Nat.eq_zero_or_pos l.length with e|e
    · exact List.length_eq_zero_iff.1 e
    · obtain⟨_,_,e2,_⟩:=h.row.at_ e;cases e2
   subst hl;refine(AnyE.slices_Clone_nil L _ c w).mono ?_;rintro e w' ⟨rfl,rfl⟩;exact⟨none,0,rfl,World.ownsRow_nil _ _ _ _,zk⟩
 | some a=>
   obtain⟨ea,_⟩:=h.pl a rfl;rw[ea]at h⊢;refine(AnyE.slices_Clone L i0 z k bytes hi0 hz0 hz1 hz2 hzs h0 zs a.block a.off l.length c (cellsOf enc l) w h.row.len qi hmul (fun j u hu=>?_) hc1).mono ?_
   · have hj:=(List.getElem?_eq_some_iff.1 hu).1;rw[h.row.len]at hj;have hp:0<l.length:=by
      rcases Nat.eq_zero_or_pos l.length with e|e
      · rw[e]at hj;simp at hj
      · exact e
     obtain⟨ba,off,e2,_,hcell⟩:=h.row.at_ hp;injection e2 with e2
     injection e2 with e3 e4
     rw[e3,e4];exact hcell j u hu
   · rintro e w' ⟨v',rfl,hown,_,hB⟩;rcases hown.2 with⟨h2,h3⟩|⟨g,cap,cur,h2,_⟩
     · exact⟨none,0,by rw[h2,h3],by rw[h3,<-h2];rw[h3]at hown;exact hown,hB⟩
     · exact⟨_,cap,by rw[h2],by rw[<-h2];exact hown,hB⟩
theorem Vy:(prog.info? 114).map (fun i=>(i.zero,i.size,i.bytes))=some (some (.agg #[.string ⟨#[]⟩,.string ⟨#[]⟩]),2,32):=zg
theorem E3:(prog.info? 52).map (fun i=>(i.zero,i.size,i.bytes))=some (some (.agg #[.int .i64 0,.string ⟨#[]⟩,.int .i64 0,.string ⟨#[]⟩]),4,48):=zg
def zF(s:ze):List Value:=[.string (bs s)]
theorem Tf(x:At):∀u∈zu x,u.oneCell'=true:=P8
theorem ziT(x:Tm):∀u∈zN x,u.oneCell'=true:=Nu
theorem Sw(x:ze):∀u∈zF x,u.oneCell'=true:=by simp[zF,Value.oneCell']
theorem PS:(prog.info? 9).map (fun i=>(i.zero,i.size,i.bytes))=some (some (.string ⟨#[]⟩),1,16):=zg
theorem O9(A:Option Addr)(c:Nat)(l:List At)(w:World)(hn:l.length<=1000000)(h:zD w A 2 l.length (cellsOf zu l)):Calls prog 55 #[.slice A l.length c] w (NB 114 2 zu l w):=
 OM (ρ:=vO) (enc:=zu) (k:=2) (bytes:=32) (z:=.agg #[.string ⟨#[]⟩,.string ⟨#[]⟩]) zeC (fun _=>rfl) Tf zi (by exact Vy) rfl sizeOf114 zi A c l w hn h
theorem I3(A:Option Addr)(c:Nat)(l:List ze)(w:World)(hn:l.length<=1000000)(h:zD w A 1 l.length (cellsOf zF l)):Calls prog 69 #[.slice A l.length c] w (NB 9 1 zF l w):=
 OM (ρ:=Lj) (enc:=zF) (k:=1) (bytes:=16) (z:=.string ⟨#[]⟩) zef (fun _=>rfl) Sw zi (by exact PS) rfl sizeOf9 zi A c l w hn h
theorem zbC(A:Option Addr)(c:Nat)(l:List Tm)(w:World)(hn:l.length<=1000000)(h:zD w A 4 l.length (cellsOf zN l)):Calls prog 68 #[.slice A l.length c] w (NB 52 4 zN l w):=
 OM (ρ:=jY) (enc:=zN) (k:=4) (bytes:=48) (z:=.agg #[.int .i64 0,.string ⟨#[]⟩,.int .i64 0,.string ⟨#[]⟩]) zgp (fun _=>rfl) ziT zi (by exact E3) rfl sizeOf52 zi A c l w hn h
theorem yZ{α:Type} [Inhabited α](q:α->Bool)(l:List α):(∃(k:Nat) (x:α),l[k]? =some x/\Lib.idxBy (fun _ y=>q y) l default=(k:Int)/\l.find? q=some x)∨(Lib.idxBy (fun _ y=>q y) l default= -1/\l.find? q=none):=by
 cases h:l.find? q with
 | none=>
   right;rw[List.find?_eq_none]at h;refine⟨?_,rfl⟩;have:=Lib.idxBy_miss (fun _ y=>q y) l l.length default (fun j hj=>by
    show q l[j]! =false;rw[getElem!_pos l j hj];simpa using h l[j] (List.getElem_mem _))
   rwa [List.take_length]at this
 | some x=>
   left;rw[List.find?_eq_some_iff_getElem]at h;obtain⟨hx,k,hk,rfl,hj⟩:=h;refine⟨k,l[k],List.getElem?_eq_getElem hk,?_,rfl⟩;have:=Lib.idxBy_hit (fun _ y=>q y) l l.length k default hk zo (by show q l[k]! =true;rw[getElem!_pos l k hk];exact hx) (fun j h2=>by
    show q l[j]! =false;rw[getElem!_pos l j zb];simpa using hj j h2)
   rwa [List.take_length]at this
end
section
open Go.Shelf Go.RowKit Go.Lib
def MO:Go.Shelf.Ren:=⟨fun|17=>302|22=>222|29=>252|30=>253|36=>280|n=>n,fun|9=>9|24=>32|n=>n,fun|n=>n⟩
theorem Ob:Go.Proofs.Lays2.n22 prog MO:={
 mixed:=zg
 f17:=func302.trans (congrArg some zg)
 f22:=func222.trans (congrArg some zg)
 f29:=func252.trans (congrArg some zg)
 f30:=func253.trans (congrArg some zg)
 f36:=func280.trans (congrArg some zg)
 t0:=underlying0
 a0:=isAgg0
 z0:=sizeOf0
 v0:=zeroValue0
 t3:=underlying3
 a3:=isAgg3
 z3:=sizeOf3
 v3:=zeroValue3
 t4:=underlying4
 a4:=isAgg4
 z4:=sizeOf4
 v4:=zeroValue4
 t9:=underlying9
 a9:=isAgg9
 z9:=sizeOf9
 v9:=zeroValue9
 t24:=underlying32
 a24:=isAgg32
 z24:=sizeOf32
 v24:=zeroValue32
 i9:=PS}
def zgO:Go.Shelf.Ren:=⟨fun|26=>221|33=>250|34=>251|38=>279|n=>n,fun|9=>9|24=>32|40=>209|n=>n,fun|n=>n⟩
theorem vU:Go.Proofs.Lays2.n26 prog zgO:={
 mixed:=zg
 f26:=func221.trans (congrArg some zg)
 f33:=func250.trans (congrArg some zg)
 f34:=func251.trans (congrArg some zg)
 f38:=func279.trans (congrArg some zg)
 t0:=underlying0
 a0:=isAgg0
 z0:=sizeOf0
 v0:=zeroValue0
 t3:=underlying3
 a3:=isAgg3
 z3:=sizeOf3
 v3:=zeroValue3
 t4:=underlying4
 a4:=isAgg4
 z4:=sizeOf4
 v4:=zeroValue4
 t9:=underlying9
 a9:=isAgg9
 z9:=sizeOf9
 v9:=zeroValue9
 t24:=underlying32
 a24:=isAgg32
 z24:=sizeOf32
 v24:=zeroValue32
 t40:=underlying209
 a40:=isAgg209
 z40:=sizeOf209
 v40:=zeroValue209}
end
section
open Go.RowKit
theorem ziY:(prog.info? 52).map (fun i=>(i.zero,i.size,i.bytes))=some (some (.agg #[.int .i64 0,.string ⟨#[]⟩,.int .i64 0,.string ⟨#[]⟩]),4,48):=zg
theorem Gq(t:Tm):∀u∈zN t,u.oneCell'=true:=Nu
theorem AD{α:Type}{enc:α->List Value}{W:World}{base k c:Nat}{e:TypeId}{A:Option Addr}{l:List α}{t:α}(h:W.ownsRow base e k (.slice A (l.length+1) c) (l.length+1) (cellsOf enc l++enc t)):
 W.ownsRow base e k (.slice A (l.length+1) c) (l++[t]).length (cellsOf enc (l++[t])):=by
 rw[List.length_append,List.length_singleton,XF];have:cellsOf enc [t]=enc t:=Xv;rw[this];exact h
structure Zs{α:Type}(T:TypeId)(kk:Nat)(enc:α->List Value)(w0:World)(b n p d:Nat)(w:World)(v:Value)(l:List α)(W:World):Prop where
 nx:zA w0 b n p d w W
 own:W.ownsRow w.heap.size T kk v l.length (cellsOf enc l)
 lo:w0.heap.size<=w.heap.size
section
variable{α:Type}{T:TypeId}{kk:Nat}{enc:α->List Value}{w0 w W W1 W2:World}{b n p d d':Nat}{v:Value}{l:List α}
theorem Zs.far(h:Zs T kk enc w0 b n p d w v l W):v.ownBlock≠some b:=fun e=>CN
theorem Zs.go(h:Zs T kk enc w0 b n p d w v l W)(hT:zA w0 b n p d' W W1):Zs T kk enc w0 b n p d' w v l W1:=⟨h.nx.trans hT,h.own.kept hT.gr (Or.inr h.far),h.lo⟩
theorem Zs.below(h:Zs T kk enc w0 b n p d w v l W)(hb:Below W.heap.size W W1):Zs T kk enc w0 b n p d w v l W1:=
 ⟨h.nx.grownR (zG hb none) (fun _ e=>Zp),h.own.kept (zG hb none) (by cases hv:v.ownBlock<;>simp),h.lo⟩
theorem Zs.alloc(h:Zs T kk enc w0 b n p d w v l W)(o:Obj):Zs T kk enc w0 b n p d w v l (W.alloc o):=h.below (zk.alloc zo _)
theorem Zs.more(h:Zs T kk enc w0 b n p d w v l W)(hd:d<=d'):Zs T kk enc w0 b n p d' w v l W:=⟨h.nx.more hd,h.own,h.lo⟩
theorem Zs.snoc{A:Option Addr}{c:Nat}{t:α}(h:Zs T kk enc w0 b n p d w v l W)(hown:W2.ownsRow w.heap.size T kk (.slice A (l.length+1) c) (l.length+1) (cellsOf enc l++enc t))(hg:W.grownBy W2 v.ownBlock):Zs T kk enc w0 b n p d w (.slice A (l.length+1) c) (l++[t]) W2:=
 ⟨h.nx.grownR hg (fun j e=>DH),AD hown,h.lo⟩
theorem zA.refl(h:qp w0 b n p d w):zA w0 b n p d w w:=⟨h,Jq _ _⟩
theorem Zs.start(h:qp w0 b n p d w):Zs T kk enc w0 b n p d w (.slice none 0 0) [] w:=⟨zA.refl h,World.ownsRow_nil _ _ _ _,h.size⟩
end
end
section
open Go.RowKit
theorem zgr{w0 w:World}{b n p d:Nat}(h:qp w0 b n p d w)(h3:p+d<=100000)
 (hF0:∀W1,Below w.heap.size w W1->Calls prog 17 #[.pointer (some ⟨b,0,none⟩),.int .i64 14] W1 fun e w'=>e=.returned (.int .i64 10)/\zA w0 b n p (d+1) W1 w'):
 Calls prog 14 #[.pointer (some ⟨b,0,none⟩)] w (Mf 60 (zA w0 b n p (d+10) w)):=by
 have hwb:w.heap.size≠b:=Gc;have hws:=h.size;have HF0:=za hF0;clear h hF0;go_enter func14,ntmps14;go_wp2_with fail
 with_reducible refine(HF0.out _ qW).mono ?_
 rintro e w2 ⟨rfl,hT2⟩;have HT:=za hT2;clear hT2;have hb2:b<w2.heap.size:=PG;have hw2c:w2.heap.size+1≠b:=zb;have hw2b:w2.heap.size≠b:=zb;obtain⟨q,q0,q1,hF⟩:=K8 3 HT.out.st zb zb zb;obtain⟨j,rfl⟩:=Int.eq_ofNat_of_zero_le q0;have hj:j<3:=zb;obtain⟨v,v0,v1,hA⟩:=RO (lo:=3) (hi:=6) (A:=#[.int .i64 3,.int .i64 4,.int .i64 6]) (j:=j) zi hj;have hA3:([.int .i64 3,.int .i64 4,.int .i64 6]:List Value)[j]'hj=.int .i64 v:=Pg;have HF:=za hF;clear hF q0;go_wp2
 go_region_with (first
  |(go_at_call 17;(with_reducible refine(HF.out _ qW).mono ?_);rintro e wN ⟨rfl,hT⟩;have hzN:=hT.gr.size;have hzn:w2.heap.size<=wN.heap.size:=(by(try simp at hzN);omega);(first
      |(have hv:=zd (j:=j) (u:=.int .i64 v) (hT.stay _ _ (heap_alloc_new w2 _) hw2b) hA;have hz:=zh (hT.stay _ _ (heap_alloc_new w2 _) hw2b))
      |(have hv:=zd (j:=j) (u:=.int .i64 v) (hT.stay _ _ (heap_alloc2_old w2 _ _) hw2b) hA;have hz:=zh (hT.stay _ _ (heap_alloc2_old w2 _ _) hw2b);have HR:=za (hT.stay _ _ (heap_alloc2_new w2 _ _) hw2c))
      |(have hv:=zd (j:=j) (u:=.int .i64 v) (hT.stay _ _ (heap_alloc2_new w2 _ _) hw2c) hA;have hz:=zh (hT.stay _ _ (heap_alloc2_new w2 _ _) hw2c);have HR:=za (hT.stay _ _ (heap_alloc2_old w2 _ _) hw2b))
      |(have HR:=za (hT.stay _ _ (heap_alloc_new w2 _) hw2b))
      |skip);have HT:=za (HT.out.trans (hT.of_below qW));clear hT)
  |(go_at_call 18;(with_reducible refine(GG (n:=n) (p:=p) 60 _ _ _ _ _ (HT.out.st.below qW) Pq zi zl zi zi PD zb).mono ?_);rintro e wM ⟨s,hs,rfl,hT⟩;(first
      |have hv:=(hT.of_below (W:=wN) qW).gr.cell hv (fun e=>Pj)
      |have hv:=zd (j:=j) (u:=.int .i64 v) (hT.stay _ _ (heap_alloc_new wN _) zb) hA
      |have hv:=zd (j:=j) (u:=.int .i64 v) (hT.stay _ _ (heap_alloc2_old wN _ _) zb) hA
      |have hv:=zd (j:=j) (u:=.int .i64 v) (hT.stay _ _ (heap_alloc2_new wN _ _) zb) hA
      |skip);have HT:=za (HT.out.trans (hT.of_below qW));clear hT;have hzw:=zh (HT.out.blk (heap_alloc_new w _) hwb);obtain⟨⟨c0,c1,c2,c3⟩,f0,f1,f2,f3⟩:=KV (HT.out.blk (heap_alloc_new w _) hwb)))
 all_goals
  go_wp2;refine bodyPost_ret (v:=.agg #[.int .i64 20,.string ⟨#[]⟩,.int .i64 v,.string s]) RK rfl ?_;exact⟨⟨_,_,_,_⟩,⟨YO,TG,zl,zl,QX,QX⟩,YO,rfl,by
   repeat (first|exact(zA.alloc HT.out).more zb|refine zA.setCellR ?_ zo hws|refine zA.allocR ?_|refine zA.drewR ?_)⟩
end
end Go.Proofs.YtecbmndgpepkcaaGreatDoor

/- Contracts of functions that the law reaches, and what they rest on; each under the premises that it names. Shortened by a program. -/
import Derived.Deep.RegionLaw
import Derived.Test.YtecbmndgpepkcaaGreatDoorG02
import Derived.OwnWalk
namespace Go.Proofs.YtecbmndgpepkcaaGreatDoor
open Tryz
set_option maxHeartbeats 8000000
set_option maxRecDepth 100000
section
inductive El where
 |lit (c:UInt8)
 |star
 |any
 |set (no:Bool) (rs:List (UInt8×UInt8))
def Q7(r:ze):Option UInt8:=if r.head? =some 45 then(match r[1]? with|some b=>if b=93 then none else some b|none=>none)else none
def QQ:Nat->ze->Option (List (UInt8×UInt8)×ze)
 |0,_=>none
 |_+1,[]=>none
 | n+1,c::r=>
   if c=93 then some ([],r)
   else match Q7 r with
    |some b=>if c<=b then(QQ n (r.drop 2)).map fun x=>((c,b)::x.1,x.2)else none
    |none=>(QQ n r).map fun x=>((c,c)::x.1,x.2)
theorem Tl:∀(n:Nat) (r:ze),r.length<=n->∀m,r.length<=m->QQ n r=QQ m r
 | 0,r,h,m,_=>by
   have:r=[]:=List.eq_nil_of_length_eq_zero zb;subst this;cases m<;>rfl
 |n+1,[],_,m,_=>by cases m<;>rfl
 |n+1,c::r,h,0,h2=>by simp at h2
 | n+1,c::r,h,m+1,h2=>by
   simp only[List.length_cons,Nat.add_le_add_iff_right]at h h2;rw[QQ,QQ,Tl n r h m h2,Tl n (r.drop 2) Y4 m Y4]
theorem Db:∀(n:Nat) (r:ze) (x),QQ n r=some x->x.2.length<r.length
 |0,_,_,h=>qD
 |n+1,[],_,h=>qD
 | n +1,c::r,x,h=>by
   rw[QQ]at h;by_cases hc:c=93
   · rw[if_pos hc]at h;obtain rfl:=zx h;simp
   rw[if_neg hc]at h;have one:∀(q:ze) (a:UInt8×UInt8),q.length<=r.length->((QQ n q).map fun x=>(a::x.1,x.2))=some x->x.2.length<(c::r).length:=fun q a hq h=>by
    cases hm:QQ n q with
    |none=>rw[hm]at h;cases h
    | some y=>
      rw[hm]at h;obtain rfl:=zx h;have:=Db n q y hm;simp only[List.length_cons];omega
   cases hr:Q7 r with
   |none=>rw[hr]at h;exact one _ _ zo h
   | some b=>
     rw[hr]at h;dsimp only at h
     split at h
     · exact one _ _ Y4 h
     · cases h
def Y1(no:Bool)(q:ze):Option (El×ze):=if q.head? =some 93 then none else(QQ q.length q).map fun x=>(.set no x.1,x.2)
theorem Fi(no:Bool)(q:ze)(x)(h:Y1 no q=some x):x.2.length<q.length+1:=by
 unfold Y1 at h
 split at h
 · cases h
 · cases hm:QQ q.length q with
   |none=>rw[hm]at h;cases h
   | some y=>
     rw[hm]at h;obtain rfl:=zx h;have h1:=Db _ _ _ hm;dsimp only;omega
def UP(r:ze):Option (El×ze):=if r.head? =some 33 then Y1 true (r.drop 1)else Y1 false r
theorem zaz(r:ze)(x)(h:UP r=some x):x.2.length<r.length+1:=by
 unfold UP at h
 split at h
 · have:=Fi _ _ _ h;exact Gh
 · exact Fi _ _ _ h
def XT(c:UInt8)(r:ze):Option (El×ze):=
 if c=42 then some (.star,r)else if c=63 then some (.any,r)else if c=91 then UP r else some (.lit c,r)
def Uf:Nat->ze->List (List El)->List El->Option (List (List El))
 |0,_,_,_=>none
 |_+1,[],acc,cur=>some (acc++[cur])
 | n+1,c::r,acc,cur=>if c=124 then Uf n r (acc++[cur]) []else match XT c r with
   |none=>none
   |some (e,r')=>Uf n r' acc (cur++[e])
def KM(p:ze):Option (List (List El)):=Uf (p.length+1) p [] []
def Qi(p:ze):Option (List (List El)):=if p.length<=256/\qR p=true then KM p else none
theorem R6(c:UInt8)(r:ze)(x)(h:XT c r=some x):x.2.length<r.length+1:=by
 unfold XT at h
 split at h
 · exact P3
 split at h
 · exact P3
 split at h
 · exact zaz r x h
 · exact P3
theorem Tv:∀(n:Nat) (r:ze) (acc:List (List El)) (cur:List El),r.length<n->∀m,r.length<m->Uf n r acc cur=Uf m r acc cur
 |0,r,_,_,h,_,_=>zb
 |n+1,_,_,_,_,0,h2=>zb
 |n+1,[],_,_,_,m+1,_=>rfl
 | n +1,c::r,acc,cur,h,m+1,h2=>by
   simp only[List.length_cons,Nat.add_lt_add_iff_right]at h h2;rw[Uf,Uf];by_cases hc:c=124
   · rw[if_pos hc,if_pos hc];exact Tv n r _ _ h m h2
   rw[if_neg hc,if_neg hc];cases he:XT c r with
   |none=>rfl
   | some x=>
     have:=R6 c r x he;obtain⟨e,r'⟩:=x;dsimp only at this⊢;exact Tv n r' _ _ zb m zb
def Uo(r:ze)(acc:List (List El))(cur:List El):Option (List (List El)):=Uf (r.length+1) r acc cur
theorem zdr(acc:List (List El))(cur:List El):Uo [] acc cur=some (acc++[cur]):=rfl
theorem zhT(r:ze)(acc:List (List El))(cur:List El):Uo (124::r) acc cur=Uo r (acc++[cur]) []:=by
 unfold Uo;rw[List.length_cons,Uf,if_pos rfl]
theorem zev(c:UInt8)(r:ze)(acc:List (List El))(cur:List El)(hc:c≠124)(e:El)(r':ze)(he:XT c r=some (e,r')):Uo (c::r) acc cur=Uo r' acc (cur++[e]):=by
 unfold Uo;rw[List.length_cons,Uf,if_neg hc,he];have:=R6 c r _ he;dsimp only at this⊢;exact Tv _ _ _ _ zb _ zb
theorem zhR(c:UInt8)(r:ze)(acc:List (List El))(cur:List El)(hc:c≠124)(he:XT c r=none):Uo (c::r) acc cur=none:=by
 unfold Uo;rw[List.length_cons,Uf,if_neg hc,he]
def qn(rs:List (UInt8×UInt8))(c:Nat):Bool:=rs.any fun x=>decide (x.1.toNat<=c)&&decide (c<=x.2.toNat)
def El.has:El->Nat->Bool
 | .lit b,c=>b.toNat==c
 | .star,c=>decide (32<=c)&&decide (c<=126)
 | .any,c=>decide (32<=c)&&decide (c<=126)
 | .set no rs,c=>if no then decide (32<=c)&&decide (c<=126)&& !qn rs c else qn rs c
def El.isStar:El->Bool
 | .star=>true
 |_=>false
def El.litN:El->Nat
 | .lit b=>b.toNat
 |_=>0
theorem FJ:∀(n:Nat) (r:ze) (x),QQ n r=some x->∃m,1<=m/\m<=r.length/\x.2=r.drop m
 |0,_,_,h=>qD
 |n+1,[],_,h=>qD
 | n +1,c::r,x,h=>by
   rw[QQ]at h;by_cases hc:c=93
   · rw[if_pos hc]at h;obtain rfl:=zx h;exact⟨1,zo,zl,rfl⟩
   rw[if_neg hc]at h;have one:∀(k:Nat) (a:UInt8×UInt8),((QQ n (r.drop k)).map fun x=>(a::x.1,x.2))=some x->∃m,1<=m/\m<=(c::r).length/\x.2=(c::r).drop m:=fun k a h=>by
    cases hm:QQ n (r.drop k)with
    |none=>rw[hm]at h;cases h
    | some y=>
      rw[hm]at h;obtain rfl:=zx h;obtain⟨m,m1,m2,e⟩:=FJ n _ y hm;rw[List.length_drop]at m2;refine⟨k+m+1,zb,by simp only[List.length_cons];omega,?_⟩;rw[List.drop_succ_cons,<-List.drop_drop];exact e
   cases hr:Q7 r with
   |none=>rw[hr]at h;exact one 0 _ h
   | some b=>
     rw[hr]at h;dsimp only at h
     split at h
     · exact one 2 _ h
     · cases h
theorem Ad(no:Bool)(q:ze)(x)(h:Y1 no q=some x):(∃rs,x.1=.set no rs)/\∃m,1<=m/\m<=q.length/\x.2=q.drop m:=by
 unfold Y1 at h
 split at h
 · cases h
 · cases hm:QQ q.length q with
   |none=>rw[hm]at h;cases h
   | some y=>
     rw[hm]at h;obtain rfl:=zx h;exact⟨⟨_,rfl⟩,FJ _ _ _ hm⟩
theorem zi2(r:ze)(x)(h:UP r=some x):(∃no rs,x.1=.set no rs)/\∃m,1<=m/\m<=r.length/\x.2=r.drop m:=by
 unfold UP at h
 split at h
 · obtain⟨⟨rs,e⟩,m,m1,m2,e2⟩:=Ad _ _ _ h;rw[List.length_drop]at m2;refine⟨⟨_,_,e⟩,1+m,zb,?_,?_⟩
   · omega
   · rw[e2,List.drop_drop]
 · obtain⟨⟨rs,e⟩,h2⟩:=Ad _ _ _ h;exact⟨⟨_,_,e⟩,h2⟩
def Vw(s:ze):Int:=if 256<s.length then 21 else if(Qi s).isSome then 0 else 20
end
section
section
variable{α:Type}(star:α->Bool)(has:α->UInt8->Bool)
def qG:List α->ze->Bool
 | [],s=>s.isEmpty
 |e::l,[]=>star e&&qG l []
 |e::l,c::s=>if star e then qG l (c::s)||qG (e::l) s else has e c&&qG l s
 termination_by l s=>(l.length,s.length)
theorem VO{e:α}{l:List α}{s:ze}(h:star e=true):qG star has (e::l) s=true↔∃j,j<=s.length/\qG star has l (s.drop j)=true:=by
 induction s with
 | nil=>
   rw[qG,h,Bool.true_and];exact⟨fun h=>⟨0,zo,h⟩,fun⟨j,hj,h⟩=>by obtain rfl:j=0:=Nat.le_zero.1 hj;exact h⟩
 | cons c s ih=>
   rw[qG,if_pos h,Bool.or_eq_true,ih];constructor
   · rintro(h|⟨j,hj,h⟩)
     · exact⟨0,Nat.zero_le _,h⟩
     · exact⟨j+1,KT,h⟩
   · rintro⟨j,hj,h⟩;cases j with
     |zero=>exact Or.inl h
     |succ j=>exact Or.inr ⟨j,KT,h⟩
theorem Ow{e:α}{l:List α}{c:UInt8}{s:ze}(h:star e=false):qG star has (e::l) (c::s)=(has e c&&qG star has l s):=by
 rw[qG,if_neg G9]
theorem yT{e:α}{l:List α}(h:star e=false):qG star has (e::l) []=false:=by
 rw[qG,h];rfl
theorem Fp{e:α}{l:List α}{s:ze}(h:star e=true)(hm:qG star has l s=true):qG star has (e::l) s=true:=
 (VO star has h).2 ⟨0,Nat.zero_le _,hm⟩
theorem Pu{e:α}{l:List α}{s:ze}(h:star e=true):∀j,j<=s.length->qG star has (e::l) (s.drop j)=true->qG star has (e::l) s=true:=by
 intro j hj hm;obtain⟨k,hk,hm⟩:=(VO star has h).1 hm;rw[List.drop_drop]at hm;rw[List.length_drop]at hk;exact(VO star has h).2 ⟨j+k,zb,hm⟩
theorem Ei{l:List α}:∀(m:Nat) (s:ze),m<=l.length->(∀x∈l.take m,star x=false)->qG star has l s=true->m<=s.length/\qG star has (l.drop m) (s.drop m)=true:=by
 induction l with
 |nil=>intro m s hm _ h;obtain rfl:m=0:=Nat.le_zero.1 hm;exact⟨Nat.zero_le _,h⟩
 | cons e l ih=>
   intro m s hm hno h;cases m with
   |zero=>exact⟨Nat.zero_le _,h⟩
   | succ m=>
     have he:=hno e zl;cases s with
     |nil=>rw[yT star has he]at h;cases h
     | cons c s=>
       rw[Ow star has he,Bool.and_eq_true]at h;obtain⟨h1,h2⟩:=ih m s (by simpa using hm) (fun x hx=>hno x Jy) h.2;exact⟨KP,h2⟩
structure Yt(l:List α)(s:ze)(at_ i:Nat)(st:Option (Nat×Nat)):Prop where
 le_at:at_<=l.length
 le_i:i<=s.length
 eq:qG star has l s=true↔qG star has (l.drop at_) (s.drop i)=true∨∃k f,st=some (k,f)/\f<s.length/\qG star has (l.drop k) (s.drop (f+1))=true
 last:∀k f,st=some (k,f)->k<at_/\(∃h:k<l.length,star l[k]=true)/\f<=i/\i=f+(at_ - (k+1))/\∀x∈(l.drop (k+1)).take (at_ - (k+1)),star x=false
theorem Yt.start(l:List α)(s:ze):Yt star has l s 0 0 none:=
 ⟨Nat.zero_le _,Nat.zero_le _,⟨fun h=>Or.inl h,fun h=>by rcases h with h|⟨_,_,h,_⟩;exact h;cases h⟩,fun _ _ h=>qD⟩
variable{star has}
theorem Yt.atStar{l:List α}{s:ze}{at_ i:Nat}{st:Option (Nat×Nat)}(h:Yt star has l s at_ i st)(ha:at_<l.length)(hs:star l[at_]=true):Yt star has l s (at_+1) i (some (at_,i)):=by
 have hd:l.drop at_=l[at_]::l.drop (at_+1):=List.drop_eq_getElem_cons ha;refine⟨ha,h.le_i,h.eq.trans ?_,fun k f e=>?_⟩
 · constructor
   · intro h1;have h2:qG star has (l.drop at_) (s.drop i)=true:=by
      rcases h1 with h1|⟨k,f,e,hf,h1⟩
      · exact h1
      · obtain⟨hk,⟨hkl,hks⟩,hfi,hi,hno⟩:=h.last k f e;rw[List.drop_eq_getElem_cons hkl]at h1;obtain⟨j,hj,h1⟩:=(VO star has hks).1 h1;rw[List.drop_drop]at h1;rw[List.length_drop]at hj;obtain⟨h2,h3⟩:=Ei star has (at_ - (k+1)) _ Y4 hno h1;rw[List.drop_drop,List.drop_drop,show k+1+(at_ - (k+1))=at_ by omega,hd]at h3;rw[List.length_drop]at h2;rw[hd];refine Pu star has hs (j+1) Y4 ?_;rw[List.drop_drop,show i+(j+1)=f+1+j+(at_ - (k+1)) by omega];exact h3
     rw[hd]at h2;obtain⟨j,hj,h2⟩:=(VO star has hs).1 h2;cases j with
     |zero=>exact Or.inl h2
     | succ j=>
       rw[List.length_drop]at hj;refine Or.inr ⟨at_,i,rfl,zb,?_⟩;rw[hd];refine(VO star has hs).2 ⟨j,Y4,?_⟩;rw[List.drop_drop]at h2⊢;rw[show i+1+j=i+(j+1) by omega];exact h2
   · rintro(h1|⟨k,f,e,hf,h1⟩)
     · left;rw[hd];exact Fp star has hs h1
     · obtain⟨rfl,rfl⟩:at_=k/\i=f:=by injection e with e;injection e with e1 e2;exact⟨e1,e2⟩
       left;rw[hd]at h1⊢;refine Pu star has hs 1 Y4 ?_;rw[List.drop_drop];exact h1
 · obtain⟨rfl,rfl⟩:at_=k/\i=f:=by injection e with e;injection e with e1 e2;exact⟨e1,e2⟩
   exact⟨zb,⟨ha,hs⟩,zo,zb,fun x hx=>by simp at hx⟩
theorem Yt.atByte{l:List α}{s:ze}{at_ i:Nat}{st:Option (Nat×Nat)}(h:Yt star has l s at_ i st)(ha:at_<l.length)(hi:i<s.length)(hs:star l[at_]=false)(hb:has l[at_] s[i]=true):Yt star has l s (at_+1) (i+1) st:=by
 have hd:l.drop at_=l[at_]::l.drop (at_+1):=List.drop_eq_getElem_cons ha;have hd2:s.drop i=s[i]::s.drop (i+1):=List.drop_eq_getElem_cons hi;refine⟨ha,hi,h.eq.trans ?_,fun k f e=>?_⟩
 · rw[hd,hd2,Ow star has hs,hb,Bool.true_and]
 · obtain⟨hk,hks,hfi,hi2,hno⟩:=h.last k f e;refine⟨zb,hks,zb,zb,fun x hx=>?_⟩;rw[show at_+1 - (k+1)=(at_ - (k+1))+1 by omega,List.take_add_one]at hx;rcases List.mem_append.1 hx with hx|hx
   · exact hno x hx
   · rw[List.getElem?_drop,show k+1+(at_ - (k+1))=at_ by omega,List.getElem?_eq_getElem ha]at hx;obtain rfl:=List.mem_singleton.1 hx;exact hs
theorem D9{l:List α}{s:ze}{at_ i:Nat}(hi:i<s.length)(hs:∀h:at_<l.length,star l[at_]=false/\has l[at_] s[i]=false):qG star has (l.drop at_) (s.drop i)=false:=by
 have hd2:s.drop i=s[i]::s.drop (i+1):=List.drop_eq_getElem_cons hi;rcases Nat.lt_or_ge at_ l.length with ha|ha
 · obtain⟨h1,h2⟩:=hs ha;rw[List.drop_eq_getElem_cons ha,hd2,Ow star has h1,h2];rfl
 · rw[List.drop_of_length_le ha,hd2,qG];rfl
theorem Yt.goBack{l:List α}{s:ze}{at_ i k f:Nat}(h:Yt star has l s at_ i (some (k,f)))(hi:i<s.length)(hs:∀h:at_<l.length,star l[at_]=false/\has l[at_] s[i]=false):Yt star has l s (k+1) (f+1) (some (k,f+1)):=by
 obtain⟨hk,⟨hkl,hks⟩,hfi,hi2,hno⟩:=h.last k f rfl;have hd:l.drop k=l[k]::l.drop (k+1):=List.drop_eq_getElem_cons hkl;refine⟨hkl,zb,h.eq.trans ?_,fun k2 f2 e=>?_⟩
 · rw[D9 hi hs];constructor
   · rintro(h1|⟨k2,f2,e,hf,h1⟩)
     · cases h1
     · obtain⟨rfl,rfl⟩:k=k2/\f=f2:=by injection e with e;injection e with e1 e2;exact⟨e1,e2⟩
       rw[hd]at h1;obtain⟨j,hj,h1⟩:=(VO star has hks).1 h1;rw[List.drop_drop]at h1;rw[List.length_drop]at hj;cases j with
       |zero=>exact Or.inl h1
       | succ j=>
         refine Or.inr ⟨k,f+1,rfl,zb,?_⟩;rw[hd];refine(VO star has hks).2 ⟨j,Y4,?_⟩;rw[List.drop_drop,show f+1+1+j=f+1+(j+1) by omega];exact h1
   · rintro(h1|⟨k2,f2,e,hf,h1⟩)
     · refine Or.inr ⟨k,f,rfl,zb,?_⟩;rw[hd];exact Fp star has hks h1
     · obtain⟨rfl,rfl⟩:k=k2/\f+1=f2:=by injection e with e;injection e with e1 e2;exact⟨e1,e2⟩
       refine Or.inr ⟨k,f,rfl,zb,?_⟩;rw[hd]at h1⊢;refine Pu star has hks 1 Y4 ?_;rw[List.drop_drop];exact h1
 · obtain⟨rfl,rfl⟩:k=k2/\f+1=f2:=by injection e with e;injection e with e1 e2;exact⟨e1,e2⟩
   exact⟨zb,⟨hkl,hks⟩,zo,zb,fun x hx=>by simp at hx⟩
theorem Yt.fails{l:List α}{s:ze}{at_ i:Nat}(h:Yt star has l s at_ i none)(hi:i<s.length)(hs:∀h:at_<l.length,star l[at_]=false/\has l[at_] s[i]=false):qG star has l s=false:=by
 rw[Bool.eq_false_iff];intro h1;rcases h.eq.1 h1 with h2|⟨_,_,e,_⟩
 · rw[D9 hi hs]at h2;cases h2
 · cases e
theorem Yt.done{l:List α}{s:ze}{at_:Nat}{st:Option (Nat×Nat)}(h:Yt star has l s at_ s.length st):qG star has l s=qG star has (l.drop at_) []:=by
 rw[Bool.eq_iff_iff,h.eq,List.drop_length];constructor
 · rintro(h1|⟨k,f,e,hf,h1⟩)
   · exact h1
   · obtain⟨hk,⟨hkl,hks⟩,hfi,hi2,hno⟩:=h.last k f e;rw[List.drop_eq_getElem_cons hkl]at h1;obtain⟨j,hj,h1⟩:=(VO star has hks).1 h1;rw[List.drop_drop]at h1;rw[List.length_drop]at hj;obtain⟨h2,_⟩:=Ei star has (at_ - (k+1)) _ (by rw[List.length_drop];have:=h.le_at;omega) hno h1;rw[List.length_drop]at h2;omega
 · exact Or.inl
theorem zeF{l:List α}{k:Nat}(hk:k<l.length)(hs:star l[k]=true):qG star has (l.drop k) []=qG star has (l.drop (k+1)) []:=by
 rw[List.drop_eq_getElem_cons hk,qG,hs,Bool.true_and]
theorem Eg{l:List α}{k:Nat}(hs:∀h:k<l.length,star l[k]=false)(hk:k<=l.length):qG star has (l.drop k) []=decide (k=l.length):=by
 rcases Nat.lt_or_ge k l.length with h|h
 · rw[List.drop_eq_getElem_cons h,yT star has (hs h)];simp;omega
 · rw[List.drop_of_length_le h,qG];simp;omega
end
end
section
section
variable{α:Type}(star:α->Bool)(has:α->UInt8->Bool)
variable{star has}
end
end
section
open Go.RowKit
def zZ(n:Nat)(f:Nat->Bool):Array Value:=Array.ofFn (n:=n) fun i=>.bool (f i)
theorem Yk(n:Nat)(f:Nat->Bool):(zZ n f).size=n:=by simp[zZ]
theorem VH(n:Nat)(f:Nat->Bool)(c:Nat)(h:c<n):(zZ n f)[c]? =some (.bool (f c)):=by simp[zZ,h]
theorem II(n:Nat)(f:Nat->Bool)(c:Nat)(b:Bool):(zZ n f).setIfInBounds c (.bool b)=zZ n (fun d=>if d=c then b else f d):=by
 apply Array.ext_getElem?;intro i;rw[Array.getElem?_setIfInBounds,Yk];by_cases hi:i<n
 · rw[VH _ _ _ hi,VH _ _ _ hi];by_cases e:c=i
   · subst e;rw[if_pos rfl,if_pos hi,if_pos rfl]
   · rw[if_neg e,if_neg (fun x=>e x.symm)]
 · rw[Array.getElem?_eq_none ML,Array.getElem?_eq_none ML];by_cases e:c=i
   · rw[if_pos e,if_neg zb]
   · rw[if_neg e]
theorem Gw(n:Nat)(f:Nat->Bool):(zZ n f).all (·.oneCell')=true:=by
 rw[Array.all_eq_true];intro i hi;have h:=VH n f i (by rw[Yk]at hi;exact hi);exact yM
theorem P9{n:Nat}{f g:Nat->Bool}(h:∀c,c<n->f c=g c):zZ n f=zZ n g:=by
 apply Array.ext_getElem?;intro i;by_cases hi:i<n
 · rw[VH _ _ _ hi,VH _ _ _ hi,h i hi]
 · rw[Array.getElem?_eq_none ML,Array.getElem?_eq_none ML]
attribute [irreducible] zZ
end
section
open Go.RowKit
def Ql(r:ze):Option (List (UInt8×UInt8)×ze):=QQ r.length r
theorem zdU:Ql []=none:=rfl
theorem zhM(r:ze):Ql (93::r)=some ([],r):=rfl
theorem Es(c b:UInt8)(r:ze)(hc:c≠93)(hr:Q7 r=some b):Ql (c::r)=if c<=b then(Ql (r.drop 2)).map fun x=>((c,b)::x.1,x.2)else none:=by
 unfold Ql;rw[List.length_cons,QQ,if_neg hc,hr];dsimp only;rw[Tl r.length (r.drop 2) Y4 (r.drop 2).length zo]
theorem BC(c:UInt8)(r:ze)(hc:c≠93)(hr:Q7 r=none):Ql (c::r)=(Ql r).map fun x=>((c,c)::x.1,x.2):=by
 unfold Ql;rw[List.length_cons,QQ,if_neg hc,hr]
theorem zeS(rs:List (UInt8×UInt8))(a b:UInt8)(c:Nat):qn (rs++[(a,b)]) c=(qn rs c||(decide (a.toNat<=c)&&decide (c<=b.toNat))):=by simp[qn]
theorem ID{W:World}{g i:Nat}{A B:Array Value}{T:TypeId}{u:Value}(h:W.heap[g]? =some (.cells A T (0,0)))(hs:A.setIfInBounds i u=B):(W.setCell ⟨g,i,none⟩ u).heap[g]? =some (.cells B T (0,0)):=by
 rw[heap_setCell_same _ _ _ _ _ _ h,hs]
theorem NP{p:ByteArray}(h:qR (L p)=true)(j:Nat)(hj:j<p.size):32<=(p[j].toNat:Int)/\(p[j].toNat:Int)<=126:=by
 have:=List.all_eq_true.1 h p[j] (by rw[<-jx p j hj];exact List.getElem_mem _);simpa [pr]using this
theorem FQ{p:ByteArray}{j:Nat}{b:UInt8}(h:Q7 ((L p).drop (j+1))=some b):∃h1:j+1<p.size,∃h2:j+2<p.size,p[j+1]=45/\p[j+2]=b/\b≠93:=by
 unfold Q7 at h
 split at h
 · rename_i h45;have h1:j+1<p.size:=by
    rcases Nat.lt_or_ge (j+1) p.size with h1|h1
    · exact h1
    · rw[List.drop_eq_nil_of_le (by rw[zC];exact h1)]at h45;simp at h45
   rw[UE p (j+1) h1]at h45 h;have e45:p[j+1]=45:=by simpa using h45
   split at h
   · rename_i b' hb';have h2:j+2<p.size:=by
      rcases Nat.lt_or_ge (j+2) p.size with h2|h2
      · exact h2
      · rw[List.drop_eq_nil_of_le (by rw[zC];exact h2)]at hb';simp at hb'
     rw[UE p (j+1+1) h2]at hb';have eb:p[j+2]=b':=by simpa using hb'
     split at h
     · cases h
     · rename_i hne;obtain rfl:=zx h;exact⟨h1,h2,e45,eb,hne⟩
   · cases h
 · cases h
theorem zhB{p:ByteArray}{j:Nat}(h:Q7 ((L p).drop (j+1))=none)(h2:j+2<p.size):¬(p[j+1]' zb=45/\p[j+2]≠93):=by
 rintro⟨a,b⟩;unfold Q7 at h;rw[UE p (j+1) zb,UE p (j+1+1) h2]at h;simp only[List.head?_cons,List.getElem?_cons_succ,List.getElem?_cons_zero,a,if_true]at h;rw[if_neg b]at h;cases h
end
section
open Go.RowKit
theorem vL:∀(l:List Value) (k:Nat) (c:Array Value),(l.zipIdx k).foldl (fun acc x=>acc.setIfInBounds (0+x.2) x.1) c=ZS c k l
 | [],_,_=>rfl
 | v::r,k,c=>by
   rw[List.zipIdx_cons,List.foldl_cons,ZS];show List.foldl _ (c.setIfInBounds (0+k) v) _=_;rw[Nat.zero_add];exact vL r (k+1) _
theorem zjj(cs cells:Array Value)(n:Nat)(h1:cs.size=n)(h2:cells.size=n):Instr.fill (fun i=>some (i*n,n)) cells [(0,.agg cs)]=some cs:=by
 have e:(Value.agg cs).cells=cs:=rfl;simp only[Instr.fill,e,Nat.zero_mul];rw[if_neg IX]
 congr 1
 rw[<-Array.foldl_toList,Array.toList_zipIdx];have:=vL cs.toList 0 cells;exact Ci
theorem zfe(a:Int):(a<a+1)=True:=eq_true zb
attribute [local go_sem] zfe
theorem zgJ{p:ByteArray}(h:qR (L p)=true)(j:Nat)(hj:j<p.size):(p[j].toNat:Int)<127:=by have:=NP h j hj;omega
end
section
def US(e:El)(c:UInt8):Bool:=e.has c.toNat
def Ye(l:List El)(s:ze):Bool:=qG El.isStar US l s
theorem jr{M:Nat}:∀(n:Nat) (r:ze) (acc:List (List El)) (cur:List El) (alts:List (List El)),Uf n r acc cur=some alts->(∀l∈acc,l.length<=M)->cur.length+r.length<=M->(∀l∈alts,l.length<=M)/\alts.length<=acc.length+1+r.length
 |0,_,_,_,_,h,_,_=>qD
 | n +1,[],acc,cur,alts,h,h1,h2=>by
   obtain rfl:=zx h;refine⟨fun l hl=>?_,zl⟩;rcases List.mem_append.1 hl with hl|hl
   · exact h1 l hl
   · obtain rfl:=List.mem_singleton.1 hl;simpa using h2
 | n + 1,c::r,acc,cur,alts,h,h1,h2=>by
   rw[List.length_cons]at h2;rw[Uf]at h
   split at h
   · obtain⟨i1,i2⟩:=jr n r _ _ alts h (fun l hl=>by
      rcases List.mem_append.1 hl with hl|hl
      · exact h1 l hl
      · obtain rfl:=List.mem_singleton.1 hl;omega) zH
     refine⟨i1,?_⟩;rw[List.length_append,List.length_singleton]at i2;rw[List.length_cons];omega
   · cases he:XT c r with
     |none=>rw[he]at h;cases h
     | some x=>
       rw[he]at h;obtain⟨e,r'⟩:=x;have hl:=R6 c r _ he;dsimp only at h hl;obtain⟨i1,i2⟩:=jr n r' _ _ alts h h1 CQ;refine⟨i1,?_⟩;rw[List.length_cons];omega
theorem zf7{p:ze}{alts:List (List El)}(h:Qi p=some alts):(∀l∈alts,l.length<=256)/\alts.length<=257:=by
 unfold Qi at h
 split at h
 · rename_i hp;obtain⟨h1,h2⟩:=jr (M:=256) _ _ _ _ _ h (fun l hl=>by cases hl) (by have:=hp.1;simpa using this);exact⟨h1,by have:=hp.1;simp at h2;omega⟩
 · cases h
def zS(p s:ze):Bool:=match Qi p with
 |none=>false
 |some alts=>qR s&&alts.any fun l=>Ye l s
end
section
open Go.RowKit
def qw(n:Nat)(st:Bool)(f:Nat->Bool):Array Value:=#[.int .u8 n,.bool st]++zZ 127 f
theorem U1(n:Nat)(st:Bool)(f:Nat->Bool):(qw n st f).size=129:=by rw[qw,Array.size_append,Yk];rfl
theorem Cc(n:Nat)(st:Bool)(f:Nat->Bool)(c:Nat)(h:c<127):(qw n st f)[2+c]? =some (.bool (f c)):=by
 rw[qw,Array.getElem?_append_right zl,<-VH 127 f c h]
 congr 1
 simp
theorem Di(n:Nat)(st:Bool)(f:Nat->Bool)(i:Nat)(h:2<=i):(qw n st f)[i]? =(zZ 127 f)[i - 2]?:=by
 rw[qw,Array.getElem?_append_right Xz];rfl
theorem zeM(n:Nat)(st:Bool)(f g:Nat->Bool)(i:Nat)(h:i<2):(qw n st f)[i]? =(qw n st g)[i]?:=by
 rw[qw,qw,Array.getElem?_append_left Xz,Array.getElem?_append_left Xz]
theorem zbc(n:Nat)(st:Bool)(f:Nat->Bool)(c:Nat)(b:Bool):(qw n st f).setIfInBounds (2+c) (.bool b)=qw n st (fun d=>if d=c then b else f d):=by
 apply Array.ext_getElem?;intro i;rw[Array.getElem?_setIfInBounds,U1];by_cases h2:i<2
 · rw[if_neg zb];exact zeM _ _ _ _ i h2
 · rw[Di _ _ _ i zb,Di _ _ _ i zb,<-II,Array.getElem?_setIfInBounds,Yk];by_cases e:2+c=i
   · rw[if_pos e,if_pos (show c=i - 2 by omega)];by_cases hc:c<127
     · rw[if_pos zb,if_pos zb]
     · rw[if_neg zb,if_neg zb]
   · rw[if_neg e,if_neg zb]
theorem Ij(n:Nat)(st:Bool)(f:Nat->Bool):(qw n st f).all (·.oneCell')=true:=by
 have h:=Gw 127 f;unfold qw;rw[Array.all_append,h];simp[Value.oneCell']
theorem zcU{n:Nat}{st:Bool}{f g:Nat->Bool}(h:∀c,c<127->f c=g c):qw n st f=qw n st g:=by rw[qw,qw,P9 h]
theorem PO:zeroCells265=zZ 127 (fun _=>false):=by
 unfold zZ
 kernel_rfl
theorem zbo:zeroCells267=qw 0 false (fun _=>false):=MF
theorem Ba(n:Nat):prog.built 267 [(0,.int .u8 n)]=some (qw n false (fun _=>false)):=MF
theorem Bi(f:Nat->Bool):prog.built 267 [(2,.agg (zZ 127 f))]=some (qw 0 false f):=MF
theorem zat(f:Nat->Bool):prog.built 267 [(1,.bool true),(2,.agg (zZ 127 f))]=some (qw 0 true f):=MF
theorem zav:prog.built 265 []=some (zZ 127 (fun _=>false)):=by
 unfold zZ
 kernel_rfl
attribute [irreducible] qw
end
section
open Go.RowKit
theorem PH:(prog.info? 265).map (·.size)=some 127:=zg
theorem Cq:(prog.info? 267).map (·.size)=some 129:=zg
noncomputable def MZ(v:Value):Sem Value:=Instr.loadAt 265 v
theorem Tk(v:Value):Instr.loadAt 265 v=MZ v:=rfl
theorem IP{w:World}{g:Nat}{cs:Array Value}{t:TypeId}{fr:Nat×Nat}(h:w.heap[g]? =some (.cells cs t fr))(hs:cs.size=127):(MZ (.pointer (some ⟨g,0,none⟩))).run prog w=.ok (.agg cs) w:=by
 unfold MZ;simp only[Instr.loadAt,Instr.sureAddr,Sem.run_bind,Sem.run_pure,Result.andThen_ok];exact run_loadVar_row w g t 265 cs fr _ h underlying265 rfl (by rw[hs];exact PH)
attribute [irreducible] MZ
noncomputable def Gg(v u:Value):Sem Unit:=Instr.storeAt 265 v u
theorem PW(v u:Value):Instr.storeAt 265 v u=Gg v u:=rfl
theorem M8{w:World}{g:Nat}{old cs:Array Value}{t:TypeId}(h:w.heap[g]? =some (.cells old t (0,0)))(ho:old.size=127)(hs:cs.size=127)(h1:cs.all (·.oneCell')=true):(Gg (.pointer (some ⟨g,0,none⟩)) (.agg cs)).run prog w=.ok () (w.setRow g cs):=by
 unfold Gg;simp only[Instr.storeAt,Instr.sureAddr,Sem.run_bind,Sem.run_pure,Result.andThen_ok];exact run_storeVar_row w g t 265 old cs h (by rw[hs];exact PH) IZ h1
attribute [irreducible] Gg
noncomputable def I9(parts:Array (Nat×Value)):Sem Value:=Instr.build 265 parts
theorem vX(parts:Array (Nat×Value)):Instr.build 265 parts=I9 parts:=rfl
theorem zaJ(w:World):(I9 #[]).run prog w=.ok (.agg (zZ 127 (fun _=>false))) w:=by
 unfold I9;exact run_build w _ _ _ zav
attribute [irreducible] I9
noncomputable def Nc(v:Value):Sem Value:=Instr.loadAt 267 v
theorem ziH(v:Value):Instr.loadAt 267 v=Nc v:=rfl
theorem zap{w:World}{g:Nat}{cs:Array Value}{t:TypeId}{fr:Nat×Nat}(h:w.heap[g]? =some (.cells cs t fr))(hs:cs.size=129):(Nc (.pointer (some ⟨g,0,none⟩))).run prog w=.ok (.agg cs) w:=by
 unfold Nc;simp only[Instr.loadAt,Instr.sureAddr,Sem.run_bind,Sem.run_pure,Result.andThen_ok];exact run_loadVar_row w g t 267 cs fr _ h underlying267 rfl (by rw[hs];exact Cq)
attribute [irreducible] Nc
noncomputable def GN(v u:Value):Sem Unit:=Instr.storeAt 267 v u
theorem C3(v u:Value):Instr.storeAt 267 v u=GN v u:=rfl
theorem MP{w:World}{g:Nat}{old cs:Array Value}{t:TypeId}(h:w.heap[g]? =some (.cells old t (0,0)))(ho:old.size=129)(hs:cs.size=129)(h1:cs.all (·.oneCell')=true):(GN (.pointer (some ⟨g,0,none⟩)) (.agg cs)).run prog w=.ok () (w.setRow g cs):=by
 unfold GN;simp only[Instr.storeAt,Instr.sureAddr,Sem.run_bind,Sem.run_pure,Result.andThen_ok];exact run_storeVar_row w g t 267 old cs h (by rw[hs];exact Cq) IZ h1
attribute [irreducible] GN
noncomputable def k8(parts:Array (Nat×Value)):Sem Value:=Instr.build 267 parts
theorem zh0(parts:Array (Nat×Value)):Instr.build 267 parts=k8 parts:=rfl
theorem zjr(n:Nat)(w:World):(k8 #[(0,.int .u8 n)]).run prog w=.ok (.agg (qw n false (fun _=>false))) w:=by
 unfold k8;exact run_build w _ _ _ (Ba n)
theorem Ew(f:Nat->Bool)(w:World):(k8 #[(2,.agg (zZ 127 f))]).run prog w=.ok (.agg (qw 0 false f)) w:=by
 unfold k8;exact run_build w _ _ _ (Bi f)
theorem zfH(f:Nat->Bool)(w:World):(k8 #[(1,.bool true),(2,.agg (zZ 127 f))]).run prog w=.ok (.agg (qw 0 true f)) w:=by
 unfold k8;exact run_build w _ _ _ (zat f)
attribute [irreducible] k8
noncomputable def MD(n:Nat)(parts:Array (Nat×Value)):Sem Value:=Instr.buildSlice 232 n parts
theorem zfi(n:Nat)(parts:Array (Nat×Value)):Instr.buildSlice 232 n parts=MD n parts:=rfl
theorem zix:(prog.info? 267).map (fun i=>(i.zero.map (·.cells.size),i.size,i.bytes))=some (some 129,129,129):=zg
theorem yU:∃i z,prog.info? 267=some i/\i.zero=some z/\i.size=129/\i.bytes=129/\z.cells.size=129:=by
 have h:=zix;cases hq:prog.info? 267 with
 |none=>rw[hq]at h;simp at h
 | some i=>
   rw[hq]at h;simp only[Option.map_some,Option.some.injEq,Prod.mk.injEq]at h;obtain⟨h1,h2,h3⟩:=h;cases hz:i.zero with
   |none=>rw[hz]at h1;simp at h1
   |some z=>rw[hz]at h1;exact⟨i,z,rfl,hz,h2,h3,KP⟩
theorem Bh:(prog.info? 232).map (fun i=>(i.zero,i.size,i.bytes))=some (some (.slice none 0 0),1,24):=zg
theorem zbi(cs:Array Value)(hs:cs.size=129)(w:World):(MD 1 #[(0,.agg cs)]).run prog w=.ok (.slice (some ⟨w.heap.size,0,none⟩) 1 1) (w.alloc (.cells cs 267)):=by
 obtain⟨i0,z,hi0,hz0,hz1,hz2,hz3⟩:=yU;unfold MD;refine run_buildSlice w _ _ 1 _ cs i0 z underlying232 hi0 hz0 (by rw[hz1];decide) (by rw[hz1];decide) ?_;rw[hz1];exact zjj cs _ 129 hs zl
attribute [irreducible] MD
def Qo:Nat->Bool:=fun c=>decide (32<=c)&&decide (c<=126)
attribute [local go_sem ↓] Tk PW
theorem Rg(w:World):Calls prog 232 #[] w fun e w'=>e=.returned (.agg (zZ 127 Qo))/\Below w.heap.size w w':=by
 go_enter func232,ntmps232;go_wp2;rw[PO];obtain⟨W1,hW1⟩:∃W1,(w.alloc (.cells (zZ 127 (fun _=>false)) 265)).alloc (.cells (zZ 127 (fun _=>false)) 265)=W1:=⟨_,rfl⟩;have h0:W1.heap[w.heap.size]? =some (.cells (zZ 127 (fun _=>false)) 265 (0,0)):=by rw[<-hW1];exact heap_alloc2_old w _ _
 have h1:W1.heap[w.heap.size+1]? =some (.cells (zZ 127 (fun _=>false)) 265 (0,0)):=by rw[<-hW1];exact heap_alloc2_new w _ _
 have hb:Below w.heap.size w W1:=by rw[<-hW1];exact(zk.alloc zo _).alloc zl _
 rw[hW1];have HB:=za hb;have H0:=za h0;have H1:=za h1;clear hW1 hb h0 h1;go_loopg [2] 97 (fun gk s2 wr=>∃k:Nat,s2=.int .i64 k/\32<=k/\k<=127/\k+gk=129/\Hid (wr.heap[w.heap.size]? =some (.cells (zZ 127 (fun _=>false)) 265 (0,0)))/\Hid (wr.heap[w.heap.size+1]? =some (.cells (zZ 127 (fun d=>decide (32<=d)&&decide (d<k))) 265 (0,0)))/\Hid (Below w.heap.size w wr))
 case atStart=>
  refine⟨32,rfl,zb,zb,rfl,H0.out,?_,HB.out⟩;have e:(fun d=>decide (32<=d)&&decide (d<32))=(fun _=>false):=by
   funext d
   exact Dc
  show _=_;rw[e];exact H1.out
 case round=>
  obtain⟨k,rfl,hk1,hk2,hk3,h0,hE,hB⟩:=hrel;by_cases hk:k<=126
  · have hkI:(k:Int)<=126:=by omega
    have cG:=zd hE.out (VH 127 _ k zb);have fG:=frozen_of_row _ _ k _ _ hE.out;have hset:=II 127 (fun d=>decide (32<=d)&&decide (d<k)) k true;have ef:(fun d=>if d=k then true else(decide (32<=d)&&decide (d<k)))=(fun d=>decide (32<=d)&&decide (d<k+1)):=by
     funext d
     by_cases hd:d=k
     · rw[if_pos hd,hd];simp;omega
     · rw[if_neg hd];have:decide (d<k)=decide (d<k+1):=NQ;rw[this]
    rw[ef]at hset;have HS1:=za (ID hE.out hset);have HO:=za ((show(wr.setCell ⟨w.heap.size+1,k,none⟩ (.bool true)).heap[w.heap.size]? =wr.heap[w.heap.size]? from heap_setCell_other _ _ _ _ QX).trans h0.out);have HB2:=za (hB.out.setCell (p:=⟨w.heap.size+1,k,none⟩) QX (.bool true));clear hset ef hE hB h0;go_wp2;go_roundg (gk - 1)
    case measure=>omega
    case rel=>exact⟨k+1,zP,zb,zb,zb,HO.out,HS1.out,HB2.out⟩
  · obtain rfl:k=127:=by omega
    have e:(fun d=>decide (32<=d)&&decide (d<127))=Qo:=by
     funext d
     show _=(decide (32<=d)&&decide (d<=126));have:decide (d<127)=decide (d<=126):=NQ;rw[this]
    rw[e]at hE;have hl:=IP hE.out (Yk _ _);have hs:=M8 h0.out (Yk _ _) (Yk 127 Qo) (Gw 127 Qo);have HB2:=za (hB.out);have h0':=h0.out;clear hE h0 hB e;go_wp2;refine Yx rfl zj h0' underlying265 rfl OT zj ?_;exact⟨rfl,HB2.out.grown (qK wr w.heap.size _) HB2.out.size (fun j e=>km)⟩
end
section
open Go.RowKit
theorem ze4{s:ze}(h:¬256<s.length):Qi s=if qR s then KM s else none:=by
 unfold Qi;by_cases hp:qR s=true
 · rw[if_pos ⟨zb,hp⟩,if_pos hp]
 · rw[if_neg (fun x=>hp x.2),if_neg hp]
theorem zdV{s:ze}(h:¬256<s.length):Vw s=if(if qR s then KM s else none).isSome then 0 else 20:=by
 unfold Vw;rw[if_neg h,ze4 h]
end
section
open Go.RowKit
end
end Go.Proofs.YtecbmndgpepkcaaGreatDoor

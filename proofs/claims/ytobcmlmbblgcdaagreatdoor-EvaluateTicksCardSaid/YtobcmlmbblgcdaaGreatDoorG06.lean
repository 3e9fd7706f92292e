/- Contracts of functions that the law reaches, and what they rest on; each under the premises that it names. Shortened by a program. -/
import Derived.Deep.RegionLaw
import Derived.Test.YtobcmlmbblgcdaaGreatDoorG02
import Derived.OwnWalk
namespace Go.Proofs.YtobcmlmbblgcdaaGreatDoor
open Tryz
set_option maxHeartbeats 8000000
set_option maxRecDepth 100000
section
inductive El where
 |lit (c:UInt8)
 |star
 |any
 |set (no:Bool) (rs:List (UInt8×UInt8))
def Q4(r:ze):Option UInt8:=if r.head? =some 45 then(match r[1]? with|some b=>if b=93 then none else some b|none=>none)else none
def QQ:Nat->ze->Option (List (UInt8×UInt8)×ze)
 |0,_=>none
 |_+1,[]=>none
 | n+1,c::r=>
   if c=93 then some ([],r)
   else match Q4 r with
    |some b=>if c<=b then(QQ n (r.drop 2)).map fun x=>((c,b)::x.1,x.2)else none
    |none=>(QQ n r).map fun x=>((c,c)::x.1,x.2)
theorem Pf:∀(n:Nat) (r:ze),r.length<=n->∀m,r.length<=m->QQ n r=QQ m r
 | 0,r,h,m,_=>by
   have:r=[]:=List.eq_nil_of_length_eq_zero zb;subst this;cases m<;>rfl
 |n+1,[],_,m,_=>by cases m<;>rfl
 |n+1,c::r,h,0,h2=>by simp at h2
 | n+1,c::r,h,m+1,h2=>by
   simp only[List.length_cons,Nat.add_le_add_iff_right]at h h2;rw[QQ,QQ,Pf n r h m h2,Pf n (r.drop 2) Xi m Xi]
theorem EX:∀(n:Nat) (r:ze) (x),QQ n r=some x->x.2.length<r.length
 |0,_,_,h=>qG
 |n+1,[],_,h=>qG
 | n +1,c::r,x,h=>by
   rw[QQ]at h;by_cases hc:c=93
   · rw[if_pos hc]at h;obtain rfl:=zx h;simp
   rw[if_neg hc]at h;have one:∀(q:ze) (a:UInt8×UInt8),q.length<=r.length->((QQ n q).map fun x=>(a::x.1,x.2))=some x->x.2.length<(c::r).length:=fun q a hq h=>by
    cases hm:QQ n q with
    |none=>rw[hm]at h;cases h
    | some y=>
      rw[hm]at h;obtain rfl:=zx h;have:=EX n q y hm;simp only[List.length_cons];omega
   cases hr:Q4 r with
   |none=>rw[hr]at h;exact one _ _ zo h
   | some b=>
     rw[hr]at h;dsimp only at h
     split at h
     · exact one _ _ Xi h
     · cases h
def YF(no:Bool)(q:ze):Option (El×ze):=if q.head? =some 93 then none else(QQ q.length q).map fun x=>(.set no x.1,x.2)
theorem Ds(no:Bool)(q:ze)(x)(h:YF no q=some x):x.2.length<q.length+1:=by
 unfold YF at h
 split at h
 · cases h
 · cases hm:QQ q.length q with
   |none=>rw[hm]at h;cases h
   | some y=>
     rw[hm]at h;obtain rfl:=zx h;have h1:=EX _ _ _ hm;dsimp only;omega
def UV(r:ze):Option (El×ze):=if r.head? =some 33 then YF true (r.drop 1)else YF false r
theorem zgn(r:ze)(x)(h:UV r=some x):x.2.length<r.length+1:=by
 unfold UV at h
 split at h
 · have:=Ds _ _ _ h;exact GV
 · exact Ds _ _ _ h
def X5(c:UInt8)(r:ze):Option (El×ze):=
 if c=42 then some (.star,r)else if c=63 then some (.any,r)else if c=91 then UV r else some (.lit c,r)
def Uk:Nat->ze->List (List El)->List El->Option (List (List El))
 |0,_,_,_=>none
 |_+1,[],acc,cur=>some (acc++[cur])
 | n+1,c::r,acc,cur=>if c=124 then Uk n r (acc++[cur]) []else match X5 c r with
   |none=>none
   |some (e,r')=>Uk n r' acc (cur++[e])
def Ko(p:ze):Option (List (List El)):=Uk (p.length+1) p [] []
def Qb(p:ze):Option (List (List El)):=if p.length<=256/\qT p=true then Ko p else none
theorem jp(c:UInt8)(r:ze)(x)(h:X5 c r=some x):x.2.length<r.length+1:=by
 unfold X5 at h
 split at h
 · exact R7
 split at h
 · exact R7
 split at h
 · exact zgn r x h
 · exact R7
theorem TX:∀(n:Nat) (r:ze) (acc:List (List El)) (cur:List El),r.length<n->∀m,r.length<m->Uk n r acc cur=Uk m r acc cur
 |0,r,_,_,h,_,_=>zb
 |n+1,_,_,_,_,0,h2=>zb
 |n+1,[],_,_,_,m+1,_=>rfl
 | n +1,c::r,acc,cur,h,m+1,h2=>by
   simp only[List.length_cons,Nat.add_lt_add_iff_right]at h h2;rw[Uk,Uk];by_cases hc:c=124
   · rw[if_pos hc,if_pos hc];exact TX n r _ _ h m h2
   rw[if_neg hc,if_neg hc];cases he:X5 c r with
   |none=>rfl
   | some x=>
     have:=jp c r x he;obtain⟨e,r'⟩:=x;dsimp only at this⊢;exact TX n r' _ _ zb m zb
def UA(r:ze)(acc:List (List El))(cur:List El):Option (List (List El)):=Uk (r.length+1) r acc cur
theorem zeq(acc:List (List El))(cur:List El):UA [] acc cur=some (acc++[cur]):=rfl
theorem zf2(r:ze)(acc:List (List El))(cur:List El):UA (124::r) acc cur=UA r (acc++[cur]) []:=by
 unfold UA;rw[List.length_cons,Uk,if_pos rfl]
theorem zih(c:UInt8)(r:ze)(acc:List (List El))(cur:List El)(hc:c≠124)(e:El)(r':ze)(he:X5 c r=some (e,r')):UA (c::r) acc cur=UA r' acc (cur++[e]):=by
 unfold UA;rw[List.length_cons,Uk,if_neg hc,he];have:=jp c r _ he;dsimp only at this⊢;exact TX _ _ _ _ zb _ zb
theorem zhK(c:UInt8)(r:ze)(acc:List (List El))(cur:List El)(hc:c≠124)(he:X5 c r=none):UA (c::r) acc cur=none:=by
 unfold UA;rw[List.length_cons,Uk,if_neg hc,he]
def qo(rs:List (UInt8×UInt8))(c:Nat):Bool:=rs.any fun x=>decide (x.1.toNat<=c)&&decide (c<=x.2.toNat)
def El.has:El->Nat->Bool
 | .lit b,c=>b.toNat==c
 | .star,c=>decide (32<=c)&&decide (c<=126)
 | .any,c=>decide (32<=c)&&decide (c<=126)
 | .set no rs,c=>if no then decide (32<=c)&&decide (c<=126)&& !qo rs c else qo rs c
def El.isStar:El->Bool
 | .star=>true
 |_=>false
def El.litN:El->Nat
 | .lit b=>b.toNat
 |_=>0
theorem vh:∀(n:Nat) (r:ze) (x),QQ n r=some x->∃m,1<=m/\m<=r.length/\x.2=r.drop m
 |0,_,_,h=>qG
 |n+1,[],_,h=>qG
 | n +1,c::r,x,h=>by
   rw[QQ]at h;by_cases hc:c=93
   · rw[if_pos hc]at h;obtain rfl:=zx h;exact⟨1,zo,zl,rfl⟩
   rw[if_neg hc]at h;have one:∀(k:Nat) (a:UInt8×UInt8),((QQ n (r.drop k)).map fun x=>(a::x.1,x.2))=some x->∃m,1<=m/\m<=(c::r).length/\x.2=(c::r).drop m:=fun k a h=>by
    cases hm:QQ n (r.drop k)with
    |none=>rw[hm]at h;cases h
    | some y=>
      rw[hm]at h;obtain rfl:=zx h;obtain⟨m,m1,m2,e⟩:=vh n _ y hm;rw[List.length_drop]at m2;refine⟨k+m+1,zb,by simp only[List.length_cons];omega,?_⟩;rw[List.drop_succ_cons,<-List.drop_drop];exact e
   cases hr:Q4 r with
   |none=>rw[hr]at h;exact one 0 _ h
   | some b=>
     rw[hr]at h;dsimp only at h
     split at h
     · exact one 2 _ h
     · cases h
theorem yQ(no:Bool)(q:ze)(x)(h:YF no q=some x):(∃rs,x.1=.set no rs)/\∃m,1<=m/\m<=q.length/\x.2=q.drop m:=by
 unfold YF at h
 split at h
 · cases h
 · cases hm:QQ q.length q with
   |none=>rw[hm]at h;cases h
   | some y=>
     rw[hm]at h;obtain rfl:=zx h;exact⟨⟨_,rfl⟩,vh _ _ _ hm⟩
theorem zg7(r:ze)(x)(h:UV r=some x):(∃no rs,x.1=.set no rs)/\∃m,1<=m/\m<=r.length/\x.2=r.drop m:=by
 unfold UV at h
 split at h
 · obtain⟨⟨rs,e⟩,m,m1,m2,e2⟩:=yQ _ _ _ h;rw[List.length_drop]at m2;refine⟨⟨_,_,e⟩,1+m,zb,?_,?_⟩
   · omega
   · rw[e2,List.drop_drop]
 · obtain⟨⟨rs,e⟩,h2⟩:=yQ _ _ _ h;exact⟨⟨_,_,e⟩,h2⟩
def Vb(s:ze):Int:=if 256<s.length then 21 else if(Qb s).isSome then 0 else 20
end
section
section
variable{α:Type}(star:α->Bool)(has:α->UInt8->Bool)
def qJ:List α->ze->Bool
 | [],s=>s.isEmpty
 |e::l,[]=>star e&&qJ l []
 |e::l,c::s=>if star e then qJ l (c::s)||qJ (e::l) s else has e c&&qJ l s
 termination_by l s=>(l.length,s.length)
theorem kp{e:α}{l:List α}{s:ze}(h:star e=true):qJ star has (e::l) s=true↔∃j,j<=s.length/\qJ star has l (s.drop j)=true:=by
 induction s with
 | nil=>
   rw[qJ,h,Bool.true_and];exact⟨fun h=>⟨0,zo,h⟩,fun⟨j,hj,h⟩=>by obtain rfl:j=0:=Nat.le_zero.1 hj;exact h⟩
 | cons c s ih=>
   rw[qJ,if_pos h,Bool.or_eq_true,ih];constructor
   · rintro(h|⟨j,hj,h⟩)
     · exact⟨0,Nat.zero_le _,h⟩
     · exact⟨j+1,J9,h⟩
   · rintro⟨j,hj,h⟩;cases j with
     |zero=>exact Or.inl h
     |succ j=>exact Or.inr ⟨j,J9,h⟩
theorem Pj{e:α}{l:List α}{c:UInt8}{s:ze}(h:star e=false):qJ star has (e::l) (c::s)=(has e c&&qJ star has l s):=by
 rw[qJ,if_neg Iy]
theorem Aw{e:α}{l:List α}(h:star e=false):qJ star has (e::l) []=false:=by
 rw[qJ,h];rfl
theorem F1{e:α}{l:List α}{s:ze}(h:star e=true)(hm:qJ star has l s=true):qJ star has (e::l) s=true:=
 (kp star has h).2 ⟨0,Nat.zero_le _,hm⟩
theorem T7{e:α}{l:List α}{s:ze}(h:star e=true):∀j,j<=s.length->qJ star has (e::l) (s.drop j)=true->qJ star has (e::l) s=true:=by
 intro j hj hm;obtain⟨k,hk,hm⟩:=(kp star has h).1 hm;rw[List.drop_drop]at hm;rw[List.length_drop]at hk;exact(kp star has h).2 ⟨j+k,zb,hm⟩
theorem vS{l:List α}:∀(m:Nat) (s:ze),m<=l.length->(∀x∈l.take m,star x=false)->qJ star has l s=true->m<=s.length/\qJ star has (l.drop m) (s.drop m)=true:=by
 induction l with
 |nil=>intro m s hm _ h;obtain rfl:m=0:=Nat.le_zero.1 hm;exact⟨Nat.zero_le _,h⟩
 | cons e l ih=>
   intro m s hm hno h;cases m with
   |zero=>exact⟨Nat.zero_le _,h⟩
   | succ m=>
     have he:=hno e zl;cases s with
     |nil=>rw[Aw star has he]at h;cases h
     | cons c s=>
       rw[Pj star has he,Bool.and_eq_true]at h;obtain⟨h1,h2⟩:=ih m s (by simpa using hm) (fun x hx=>hno x Jg) h.2;exact⟨Jz,h2⟩
structure Yq(l:List α)(s:ze)(at_ i:Nat)(st:Option (Nat×Nat)):Prop where
 le_at:at_<=l.length
 le_i:i<=s.length
 eq:qJ star has l s=true↔qJ star has (l.drop at_) (s.drop i)=true∨∃k f,st=some (k,f)/\f<s.length/\qJ star has (l.drop k) (s.drop (f+1))=true
 last:∀k f,st=some (k,f)->k<at_/\(∃h:k<l.length,star l[k]=true)/\f<=i/\i=f+(at_ - (k+1))/\∀x∈(l.drop (k+1)).take (at_ - (k+1)),star x=false
theorem Yq.start(l:List α)(s:ze):Yq star has l s 0 0 none:=
 ⟨Nat.zero_le _,Nat.zero_le _,⟨fun h=>Or.inl h,fun h=>by rcases h with h|⟨_,_,h,_⟩;exact h;cases h⟩,fun _ _ h=>qG⟩
variable{star has}
theorem Yq.atStar{l:List α}{s:ze}{at_ i:Nat}{st:Option (Nat×Nat)}(h:Yq star has l s at_ i st)(ha:at_<l.length)(hs:star l[at_]=true):Yq star has l s (at_+1) i (some (at_,i)):=by
 have hd:l.drop at_=l[at_]::l.drop (at_+1):=List.drop_eq_getElem_cons ha;refine⟨ha,h.le_i,h.eq.trans ?_,fun k f e=>?_⟩
 · constructor
   · intro h1;have h2:qJ star has (l.drop at_) (s.drop i)=true:=by
      rcases h1 with h1|⟨k,f,e,hf,h1⟩
      · exact h1
      · obtain⟨hk,⟨hkl,hks⟩,hfi,hi,hno⟩:=h.last k f e;rw[List.drop_eq_getElem_cons hkl]at h1;obtain⟨j,hj,h1⟩:=(kp star has hks).1 h1;rw[List.drop_drop]at h1;rw[List.length_drop]at hj;obtain⟨h2,h3⟩:=vS star has (at_ - (k+1)) _ Xi hno h1;rw[List.drop_drop,List.drop_drop,show k+1+(at_ - (k+1))=at_ by omega,hd]at h3;rw[List.length_drop]at h2;rw[hd];refine T7 star has hs (j+1) Xi ?_;rw[List.drop_drop,show i+(j+1)=f+1+j+(at_ - (k+1)) by omega];exact h3
     rw[hd]at h2;obtain⟨j,hj,h2⟩:=(kp star has hs).1 h2;cases j with
     |zero=>exact Or.inl h2
     | succ j=>
       rw[List.length_drop]at hj;refine Or.inr ⟨at_,i,rfl,zb,?_⟩;rw[hd];refine(kp star has hs).2 ⟨j,Xi,?_⟩;rw[List.drop_drop]at h2⊢;rw[show i+1+j=i+(j+1) by omega];exact h2
   · rintro(h1|⟨k,f,e,hf,h1⟩)
     · left;rw[hd];exact F1 star has hs h1
     · obtain⟨rfl,rfl⟩:at_=k/\i=f:=by injection e with e;injection e with e1 e2;exact⟨e1,e2⟩
       left;rw[hd]at h1⊢;refine T7 star has hs 1 Xi ?_;rw[List.drop_drop];exact h1
 · obtain⟨rfl,rfl⟩:at_=k/\i=f:=by injection e with e;injection e with e1 e2;exact⟨e1,e2⟩
   exact⟨zb,⟨ha,hs⟩,zo,zb,fun x hx=>by simp at hx⟩
theorem Yq.atByte{l:List α}{s:ze}{at_ i:Nat}{st:Option (Nat×Nat)}(h:Yq star has l s at_ i st)(ha:at_<l.length)(hi:i<s.length)(hs:star l[at_]=false)(hb:has l[at_] s[i]=true):Yq star has l s (at_+1) (i+1) st:=by
 have hd:l.drop at_=l[at_]::l.drop (at_+1):=List.drop_eq_getElem_cons ha;have hd2:s.drop i=s[i]::s.drop (i+1):=List.drop_eq_getElem_cons hi;refine⟨ha,hi,h.eq.trans ?_,fun k f e=>?_⟩
 · rw[hd,hd2,Pj star has hs,hb,Bool.true_and]
 · obtain⟨hk,hks,hfi,hi2,hno⟩:=h.last k f e;refine⟨zb,hks,zb,zb,fun x hx=>?_⟩;rw[show at_+1 - (k+1)=(at_ - (k+1))+1 by omega,List.take_add_one]at hx;rcases List.mem_append.1 hx with hx|hx
   · exact hno x hx
   · rw[List.getElem?_drop,show k+1+(at_ - (k+1))=at_ by omega,List.getElem?_eq_getElem ha]at hx;obtain rfl:=List.mem_singleton.1 hx;exact hs
theorem Fg{l:List α}{s:ze}{at_ i:Nat}(hi:i<s.length)(hs:∀h:at_<l.length,star l[at_]=false/\has l[at_] s[i]=false):qJ star has (l.drop at_) (s.drop i)=false:=by
 have hd2:s.drop i=s[i]::s.drop (i+1):=List.drop_eq_getElem_cons hi;rcases Nat.lt_or_ge at_ l.length with ha|ha
 · obtain⟨h1,h2⟩:=hs ha;rw[List.drop_eq_getElem_cons ha,hd2,Pj star has h1,h2];rfl
 · rw[List.drop_of_length_le ha,hd2,qJ];rfl
theorem Yq.goBack{l:List α}{s:ze}{at_ i k f:Nat}(h:Yq star has l s at_ i (some (k,f)))(hi:i<s.length)(hs:∀h:at_<l.length,star l[at_]=false/\has l[at_] s[i]=false):Yq star has l s (k+1) (f+1) (some (k,f+1)):=by
 obtain⟨hk,⟨hkl,hks⟩,hfi,hi2,hno⟩:=h.last k f rfl;have hd:l.drop k=l[k]::l.drop (k+1):=List.drop_eq_getElem_cons hkl;refine⟨hkl,zb,h.eq.trans ?_,fun k2 f2 e=>?_⟩
 · rw[Fg hi hs];constructor
   · rintro(h1|⟨k2,f2,e,hf,h1⟩)
     · cases h1
     · obtain⟨rfl,rfl⟩:k=k2/\f=f2:=by injection e with e;injection e with e1 e2;exact⟨e1,e2⟩
       rw[hd]at h1;obtain⟨j,hj,h1⟩:=(kp star has hks).1 h1;rw[List.drop_drop]at h1;rw[List.length_drop]at hj;cases j with
       |zero=>exact Or.inl h1
       | succ j=>
         refine Or.inr ⟨k,f+1,rfl,zb,?_⟩;rw[hd];refine(kp star has hks).2 ⟨j,Xi,?_⟩;rw[List.drop_drop,show f+1+1+j=f+1+(j+1) by omega];exact h1
   · rintro(h1|⟨k2,f2,e,hf,h1⟩)
     · refine Or.inr ⟨k,f,rfl,zb,?_⟩;rw[hd];exact F1 star has hks h1
     · obtain⟨rfl,rfl⟩:k=k2/\f+1=f2:=by injection e with e;injection e with e1 e2;exact⟨e1,e2⟩
       refine Or.inr ⟨k,f,rfl,zb,?_⟩;rw[hd]at h1⊢;refine T7 star has hks 1 Xi ?_;rw[List.drop_drop];exact h1
 · obtain⟨rfl,rfl⟩:k=k2/\f+1=f2:=by injection e with e;injection e with e1 e2;exact⟨e1,e2⟩
   exact⟨zb,⟨hkl,hks⟩,zo,zb,fun x hx=>by simp at hx⟩
theorem Yq.fails{l:List α}{s:ze}{at_ i:Nat}(h:Yq star has l s at_ i none)(hi:i<s.length)(hs:∀h:at_<l.length,star l[at_]=false/\has l[at_] s[i]=false):qJ star has l s=false:=by
 rw[Bool.eq_false_iff];intro h1;rcases h.eq.1 h1 with h2|⟨_,_,e,_⟩
 · rw[Fg hi hs]at h2;cases h2
 · cases e
theorem Yq.done{l:List α}{s:ze}{at_:Nat}{st:Option (Nat×Nat)}(h:Yq star has l s at_ s.length st):qJ star has l s=qJ star has (l.drop at_) []:=by
 rw[Bool.eq_iff_iff,h.eq,List.drop_length];constructor
 · rintro(h1|⟨k,f,e,hf,h1⟩)
   · exact h1
   · obtain⟨hk,⟨hkl,hks⟩,hfi,hi2,hno⟩:=h.last k f e;rw[List.drop_eq_getElem_cons hkl]at h1;obtain⟨j,hj,h1⟩:=(kp star has hks).1 h1;rw[List.drop_drop]at h1;rw[List.length_drop]at hj;obtain⟨h2,_⟩:=vS star has (at_ - (k+1)) _ (by rw[List.length_drop];have:=h.le_at;omega) hno h1;rw[List.length_drop]at h2;omega
 · exact Or.inl
theorem zie{l:List α}{k:Nat}(hk:k<l.length)(hs:star l[k]=true):qJ star has (l.drop k) []=qJ star has (l.drop (k+1)) []:=by
 rw[List.drop_eq_getElem_cons hk,qJ,hs,Bool.true_and]
theorem Df{l:List α}{k:Nat}(hs:∀h:k<l.length,star l[k]=false)(hk:k<=l.length):qJ star has (l.drop k) []=decide (k=l.length):=by
 rcases Nat.lt_or_ge k l.length with h|h
 · rw[List.drop_eq_getElem_cons h,Aw star has (hs h)];simp;omega
 · rw[List.drop_of_length_le h,qJ];simp;omega
end
end
section
section
variable{α:Type}(star:α->Bool)(has:α->UInt8->Bool)
variable{star has}
end
end
section
open Go.RowKit
def qa(n:Nat)(f:Nat->Bool):Array Value:=Array.ofFn (n:=n) fun i=>.bool (f i)
theorem Yc(n:Nat)(f:Nat->Bool):(qa n f).size=n:=by simp[qa]
theorem Vr(n:Nat)(f:Nat->Bool)(c:Nat)(h:c<n):(qa n f)[c]? =some (.bool (f c)):=by simp[qa,h]
theorem MM(n:Nat)(f:Nat->Bool)(c:Nat)(b:Bool):(qa n f).setIfInBounds c (.bool b)=qa n (fun d=>if d=c then b else f d):=by
 apply Array.ext_getElem?;intro i;rw[Array.getElem?_setIfInBounds,Yc];by_cases hi:i<n
 · rw[Vr _ _ _ hi,Vr _ _ _ hi];by_cases e:c=i
   · subst e;rw[if_pos rfl,if_pos hi,if_pos rfl]
   · rw[if_neg e,if_neg (fun x=>e x.symm)]
 · rw[Array.getElem?_eq_none I3,Array.getElem?_eq_none I3];by_cases e:c=i
   · rw[if_pos e,if_neg zb]
   · rw[if_neg e]
theorem G9(n:Nat)(f:Nat->Bool):(qa n f).all (·.oneCell')=true:=by
 rw[Array.all_eq_true];intro i hi;have h:=Vr n f i (by rw[Yc]at hi;exact hi);exact AR
theorem Pl{n:Nat}{f g:Nat->Bool}(h:∀c,c<n->f c=g c):qa n f=qa n g:=by
 apply Array.ext_getElem?;intro i;by_cases hi:i<n
 · rw[Vr _ _ _ hi,Vr _ _ _ hi,h i hi]
 · rw[Array.getElem?_eq_none I3,Array.getElem?_eq_none I3]
attribute [irreducible] qa
end
section
open Go.RowKit
def Ql(r:ze):Option (List (UInt8×UInt8)×ze):=QQ r.length r
theorem zhL:Ql []=none:=rfl
theorem zhl(r:ze):Ql (93::r)=some ([],r):=rfl
theorem Lq(c b:UInt8)(r:ze)(hc:c≠93)(hr:Q4 r=some b):Ql (c::r)=if c<=b then(Ql (r.drop 2)).map fun x=>((c,b)::x.1,x.2)else none:=by
 unfold Ql;rw[List.length_cons,QQ,if_neg hc,hr];dsimp only;rw[Pf r.length (r.drop 2) Xi (r.drop 2).length zo]
theorem zcD(c:UInt8)(r:ze)(hc:c≠93)(hr:Q4 r=none):Ql (c::r)=(Ql r).map fun x=>((c,c)::x.1,x.2):=by
 unfold Ql;rw[List.length_cons,QQ,if_neg hc,hr]
theorem zdR(rs:List (UInt8×UInt8))(a b:UInt8)(c:Nat):qo (rs++[(a,b)]) c=(qo rs c||(decide (a.toNat<=c)&&decide (c<=b.toNat))):=by simp[qo]
theorem Gn{W:World}{g i:Nat}{A B:Array Value}{T:TypeId}{u:Value}(h:W.heap[g]? =some (.cells A T (0,0)))(hs:A.setIfInBounds i u=B):(W.setCell ⟨g,i,none⟩ u).heap[g]? =some (.cells B T (0,0)):=by
 rw[heap_setCell_same _ _ _ _ _ _ h,hs]
theorem NF{p:ByteArray}(h:qT (L p)=true)(j:Nat)(hj:j<p.size):32<=(p[j].toNat:Int)/\(p[j].toNat:Int)<=126:=by
 have:=List.all_eq_true.1 h p[j] (by rw[<-je p j hj];exact List.getElem_mem _);simpa [pr]using this
theorem Cx{p:ByteArray}{j:Nat}{b:UInt8}(h:Q4 ((L p).drop (j+1))=some b):∃h1:j+1<p.size,∃h2:j+2<p.size,p[j+1]=45/\p[j+2]=b/\b≠93:=by
 unfold Q4 at h
 split at h
 · rename_i h45;have h1:j+1<p.size:=by
    rcases Nat.lt_or_ge (j+1) p.size with h1|h1
    · exact h1
    · rw[List.drop_eq_nil_of_le (by rw[zC];exact h1)]at h45;simp at h45
   rw[Un p (j+1) h1]at h45 h;have e45:p[j+1]=45:=by simpa using h45
   split at h
   · rename_i b' hb';have h2:j+2<p.size:=by
      rcases Nat.lt_or_ge (j+2) p.size with h2|h2
      · exact h2
      · rw[List.drop_eq_nil_of_le (by rw[zC];exact h2)]at hb';simp at hb'
     rw[Un p (j+1+1) h2]at hb';have eb:p[j+2]=b':=by simpa using hb'
     split at h
     · cases h
     · rename_i hne;obtain rfl:=zx h;exact⟨h1,h2,e45,eb,hne⟩
   · cases h
 · cases h
theorem zfu{p:ByteArray}{j:Nat}(h:Q4 ((L p).drop (j+1))=none)(h2:j+2<p.size):¬(p[j+1]' zb=45/\p[j+2]≠93):=by
 rintro⟨a,b⟩;unfold Q4 at h;rw[Un p (j+1) zb,Un p (j+1+1) h2]at h;simp only[List.head?_cons,List.getElem?_cons_succ,List.getElem?_cons_zero,a,if_true]at h;rw[if_neg b]at h;cases h
end
section
open Go.RowKit
theorem Ac:∀(l:List Value) (k:Nat) (c:Array Value),(l.zipIdx k).foldl (fun acc x=>acc.setIfInBounds (0+x.2) x.1) c=ZR c k l
 | [],_,_=>rfl
 | v::r,k,c=>by
   rw[List.zipIdx_cons,List.foldl_cons,ZR];show List.foldl _ (c.setIfInBounds (0+k) v) _=_;rw[Nat.zero_add];exact Ac r (k+1) _
theorem BQ(cs cells:Array Value)(n:Nat)(h1:cs.size=n)(h2:cells.size=n):Instr.fill (fun i=>some (i*n,n)) cells [(0,.agg cs)]=some cs:=by
 have e:(Value.agg cs).cells=cs:=rfl;simp only[Instr.fill,e,Nat.zero_mul];rw[if_neg MO]
 congr 1
 rw[<-Array.foldl_toList,Array.toList_zipIdx];have:=Ac cs.toList 0 cells;exact CT
theorem zeB(a:Int):(a<a+1)=True:=eq_true zb
attribute [local go_sem] zeB
theorem zaw{p:ByteArray}(h:qT (L p)=true)(j:Nat)(hj:j<p.size):(p[j].toNat:Int)<127:=by have:=NF h j hj;omega
end
section
def Va(e:El)(c:UInt8):Bool:=e.has c.toNat
def Yd(l:List El)(s:ze):Bool:=qJ El.isStar Va l s
theorem O5{M:Nat}:∀(n:Nat) (r:ze) (acc:List (List El)) (cur:List El) (alts:List (List El)),Uk n r acc cur=some alts->(∀l∈acc,l.length<=M)->cur.length+r.length<=M->(∀l∈alts,l.length<=M)/\alts.length<=acc.length+1+r.length
 |0,_,_,_,_,h,_,_=>qG
 | n +1,[],acc,cur,alts,h,h1,h2=>by
   obtain rfl:=zx h;refine⟨fun l hl=>?_,zl⟩;rcases List.mem_append.1 hl with hl|hl
   · exact h1 l hl
   · obtain rfl:=List.mem_singleton.1 hl;simpa using h2
 | n + 1,c::r,acc,cur,alts,h,h1,h2=>by
   rw[List.length_cons]at h2;rw[Uk]at h
   split at h
   · obtain⟨i1,i2⟩:=O5 n r _ _ alts h (fun l hl=>by
      rcases List.mem_append.1 hl with hl|hl
      · exact h1 l hl
      · obtain rfl:=List.mem_singleton.1 hl;omega) zG
     refine⟨i1,?_⟩;rw[List.length_append,List.length_singleton]at i2;rw[List.length_cons];omega
   · cases he:X5 c r with
     |none=>rw[he]at h;cases h
     | some x=>
       rw[he]at h;obtain⟨e,r'⟩:=x;have hl:=jp c r _ he;dsimp only at h hl;obtain⟨i1,i2⟩:=O5 n r' _ _ alts h h1 jJ;refine⟨i1,?_⟩;rw[List.length_cons];omega
theorem zg4{p:ze}{alts:List (List El)}(h:Qb p=some alts):(∀l∈alts,l.length<=256)/\alts.length<=257:=by
 unfold Qb at h
 split at h
 · rename_i hp;obtain⟨h1,h2⟩:=O5 (M:=256) _ _ _ _ _ h (fun l hl=>by cases hl) (by have:=hp.1;simpa using this);exact⟨h1,by have:=hp.1;simp at h2;omega⟩
 · cases h
def zS(p s:ze):Bool:=match Qb p with
 |none=>false
 |some alts=>qT s&&alts.any fun l=>Yd l s
end
section
open Go.RowKit
def qx(n:Nat)(st:Bool)(f:Nat->Bool):Array Value:=#[.int .u8 n,.bool st]++qa 127 f
theorem UO(n:Nat)(st:Bool)(f:Nat->Bool):(qx n st f).size=129:=by rw[qx,Array.size_append,Yc];rfl
theorem Hf(n:Nat)(st:Bool)(f:Nat->Bool)(c:Nat)(h:c<127):(qx n st f)[2+c]? =some (.bool (f c)):=by
 rw[qx,Array.getElem?_append_right zl,<-Vr 127 f c h]
 congr 1
 simp
theorem CL(n:Nat)(st:Bool)(f:Nat->Bool)(i:Nat)(h:2<=i):(qx n st f)[i]? =(qa 127 f)[i - 2]?:=by
 rw[qx,Array.getElem?_append_right XD];rfl
theorem za6(n:Nat)(st:Bool)(f g:Nat->Bool)(i:Nat)(h:i<2):(qx n st f)[i]? =(qx n st g)[i]?:=by
 rw[qx,qx,Array.getElem?_append_left XD,Array.getElem?_append_left XD]
theorem zii(n:Nat)(st:Bool)(f:Nat->Bool)(c:Nat)(b:Bool):(qx n st f).setIfInBounds (2+c) (.bool b)=qx n st (fun d=>if d=c then b else f d):=by
 apply Array.ext_getElem?;intro i;rw[Array.getElem?_setIfInBounds,UO];by_cases h2:i<2
 · rw[if_neg zb];exact za6 _ _ _ _ i h2
 · rw[CL _ _ _ i zb,CL _ _ _ i zb,<-MM,Array.getElem?_setIfInBounds,Yc];by_cases e:2+c=i
   · rw[if_pos e,if_pos (show c=i - 2 by omega)];by_cases hc:c<127
     · rw[if_pos zb,if_pos zb]
     · rw[if_neg zb,if_neg zb]
   · rw[if_neg e,if_neg zb]
theorem Ie(n:Nat)(st:Bool)(f:Nat->Bool):(qx n st f).all (·.oneCell')=true:=by
 have h:=G9 127 f;unfold qx;rw[Array.all_append,h];simp[Value.oneCell']
theorem zfU{n:Nat}{st:Bool}{f g:Nat->Bool}(h:∀c,c<127->f c=g c):qx n st f=qx n st g:=by rw[qx,qx,Pl h]
theorem P6:zeroCells268=qa 127 (fun _=>false):=by
 unfold qa
 kernel_rfl
theorem zhJ:zeroCells270=qx 0 false (fun _=>false):=MC
theorem zgt(n:Nat):prog.built 270 [(0,.int .u8 n)]=some (qx n false (fun _=>false)):=MC
theorem zdP(f:Nat->Bool):prog.built 270 [(2,.agg (qa 127 f))]=some (qx 0 false f):=MC
theorem zcb(f:Nat->Bool):prog.built 270 [(1,.bool true),(2,.agg (qa 127 f))]=some (qx 0 true f):=MC
theorem zaL:prog.built 268 []=some (qa 127 (fun _=>false)):=by
 unfold qa
 kernel_rfl
attribute [irreducible] qx
end
section
open Go.RowKit
theorem PR:(prog.info? 268).map (·.size)=some 127:=zg
theorem Dq:(prog.info? 270).map (·.size)=some 129:=zg
noncomputable def Nk(v:Value):Sem Value:=Instr.loadAt 268 v
theorem TJ(v:Value):Instr.loadAt 268 v=Nk v:=rfl
theorem NK{w:World}{g:Nat}{cs:Array Value}{t:TypeId}{fr:Nat×Nat}(h:w.heap[g]? =some (.cells cs t fr))(hs:cs.size=127):(Nk (.pointer (some ⟨g,0,none⟩))).run prog w=.ok (.agg cs) w:=by
 unfold Nk;simp only[Instr.loadAt,Instr.sureAddr,Sem.run_bind,Sem.run_pure,Result.andThen_ok];exact run_loadVar_row w g t 268 cs fr _ h underlying268 rfl (by rw[hs];exact PR)
attribute [irreducible] Nk
noncomputable def J2(v u:Value):Sem Unit:=Instr.storeAt 268 v u
theorem jk(v u:Value):Instr.storeAt 268 v u=J2 v u:=rfl
theorem NO{w:World}{g:Nat}{old cs:Array Value}{t:TypeId}(h:w.heap[g]? =some (.cells old t (0,0)))(ho:old.size=127)(hs:cs.size=127)(h1:cs.all (·.oneCell')=true):(J2 (.pointer (some ⟨g,0,none⟩)) (.agg cs)).run prog w=.ok () (w.setRow g cs):=by
 unfold J2;simp only[Instr.storeAt,Instr.sureAddr,Sem.run_bind,Sem.run_pure,Result.andThen_ok];exact run_storeVar_row w g t 268 old cs h (by rw[hs];exact PR) Mv h1
attribute [irreducible] J2
noncomputable def ME(parts:Array (Nat×Value)):Sem Value:=Instr.build 268 parts
theorem yN(parts:Array (Nat×Value)):Instr.build 268 parts=ME parts:=rfl
theorem zeI(w:World):(ME #[]).run prog w=.ok (.agg (qa 127 (fun _=>false))) w:=by
 unfold ME;exact run_build w _ _ _ zaL
attribute [irreducible] ME
noncomputable def Mp(v:Value):Sem Value:=Instr.loadAt 270 v
theorem zaD(v:Value):Instr.loadAt 270 v=Mp v:=rfl
theorem zfG{w:World}{g:Nat}{cs:Array Value}{t:TypeId}{fr:Nat×Nat}(h:w.heap[g]? =some (.cells cs t fr))(hs:cs.size=129):(Mp (.pointer (some ⟨g,0,none⟩))).run prog w=.ok (.agg cs) w:=by
 unfold Mp;simp only[Instr.loadAt,Instr.sureAddr,Sem.run_bind,Sem.run_pure,Result.andThen_ok];exact run_loadVar_row w g t 270 cs fr _ h underlying270 rfl (by rw[hs];exact Dq)
attribute [irreducible] Mp
noncomputable def Gs(v u:Value):Sem Unit:=Instr.storeAt 270 v u
theorem zc2(v u:Value):Instr.storeAt 270 v u=Gs v u:=rfl
theorem IU{w:World}{g:Nat}{old cs:Array Value}{t:TypeId}(h:w.heap[g]? =some (.cells old t (0,0)))(ho:old.size=129)(hs:cs.size=129)(h1:cs.all (·.oneCell')=true):(Gs (.pointer (some ⟨g,0,none⟩)) (.agg cs)).run prog w=.ok () (w.setRow g cs):=by
 unfold Gs;simp only[Instr.storeAt,Instr.sureAddr,Sem.run_bind,Sem.run_pure,Result.andThen_ok];exact run_storeVar_row w g t 270 old cs h (by rw[hs];exact Dq) Mv h1
attribute [irreducible] Gs
noncomputable def kQ(parts:Array (Nat×Value)):Sem Value:=Instr.build 270 parts
theorem zjl(parts:Array (Nat×Value)):Instr.build 270 parts=kQ parts:=rfl
theorem za1(n:Nat)(w:World):(kQ #[(0,.int .u8 n)]).run prog w=.ok (.agg (qx n false (fun _=>false))) w:=by
 unfold kQ;exact run_build w _ _ _ (zgt n)
theorem j1(f:Nat->Bool)(w:World):(kQ #[(2,.agg (qa 127 f))]).run prog w=.ok (.agg (qx 0 false f)) w:=by
 unfold kQ;exact run_build w _ _ _ (zdP f)
theorem zhG(f:Nat->Bool)(w:World):(kQ #[(1,.bool true),(2,.agg (qa 127 f))]).run prog w=.ok (.agg (qx 0 true f)) w:=by
 unfold kQ;exact run_build w _ _ _ (zcb f)
attribute [irreducible] kQ
noncomputable def M4(n:Nat)(parts:Array (Nat×Value)):Sem Value:=Instr.buildSlice 238 n parts
theorem zaW(n:Nat)(parts:Array (Nat×Value)):Instr.buildSlice 238 n parts=M4 n parts:=rfl
theorem zg3:(prog.info? 270).map (fun i=>(i.zero.map (·.cells.size),i.size,i.bytes))=some (some 129,129,129):=zg
theorem Lj:∃i z,prog.info? 270=some i/\i.zero=some z/\i.size=129/\i.bytes=129/\z.cells.size=129:=by
 have h:=zg3;cases hq:prog.info? 270 with
 |none=>rw[hq]at h;simp at h
 | some i=>
   rw[hq]at h;simp only[Option.map_some,Option.some.injEq,Prod.mk.injEq]at h;obtain⟨h1,h2,h3⟩:=h;cases hz:i.zero with
   |none=>rw[hz]at h1;simp at h1
   |some z=>rw[hz]at h1;exact⟨i,z,rfl,hz,h2,h3,Jz⟩
theorem BH:(prog.info? 238).map (fun i=>(i.zero,i.size,i.bytes))=some (some (.slice none 0 0),1,24):=zg
theorem zjb(cs:Array Value)(hs:cs.size=129)(w:World):(M4 1 #[(0,.agg cs)]).run prog w=.ok (.slice (some ⟨w.heap.size,0,none⟩) 1 1) (w.alloc (.cells cs 270)):=by
 obtain⟨i0,z,hi0,hz0,hz1,hz2,hz3⟩:=Lj;unfold M4;refine run_buildSlice w _ _ 1 _ cs i0 z underlying238 hi0 hz0 (by rw[hz1];decide) (by rw[hz1];decide) ?_;rw[hz1];exact BQ cs _ 129 hs zl
attribute [irreducible] M4
def Qk:Nat->Bool:=fun c=>decide (32<=c)&&decide (c<=126)
attribute [local go_sem ↓] TJ jk
theorem TU(w:World):Calls prog 231 #[] w fun e w'=>e=.returned (.agg (qa 127 Qk))/\Below w.heap.size w w':=by
 go_enter func231,ntmps231;go_wp2;rw[P6];obtain⟨W1,hW1⟩:∃W1,(w.alloc (.cells (qa 127 (fun _=>false)) 268)).alloc (.cells (qa 127 (fun _=>false)) 268)=W1:=⟨_,rfl⟩;have h0:W1.heap[w.heap.size]? =some (.cells (qa 127 (fun _=>false)) 268 (0,0)):=by rw[<-hW1];exact heap_alloc2_old w _ _
 have h1:W1.heap[w.heap.size+1]? =some (.cells (qa 127 (fun _=>false)) 268 (0,0)):=by rw[<-hW1];exact heap_alloc2_new w _ _
 have hb:Below w.heap.size w W1:=by rw[<-hW1];exact(zk.alloc zo _).alloc zl _
 rw[hW1];have HB:=za hb;have H0:=za h0;have H1:=za h1;clear hW1 hb h0 h1;go_loopg [2] 97 (fun gk s2 wr=>∃k:Nat,s2=.int .i64 k/\32<=k/\k<=127/\k+gk=129/\Hid (wr.heap[w.heap.size]? =some (.cells (qa 127 (fun _=>false)) 268 (0,0)))/\Hid (wr.heap[w.heap.size+1]? =some (.cells (qa 127 (fun d=>decide (32<=d)&&decide (d<k))) 268 (0,0)))/\Hid (Below w.heap.size w wr))
 case atStart=>
  refine⟨32,rfl,zb,zb,rfl,H0.out,?_,HB.out⟩;have e:(fun d=>decide (32<=d)&&decide (d<32))=(fun _=>false):=by
   funext d
   exact Eh
  show _=_;rw[e];exact H1.out
 case round=>
  obtain⟨k,rfl,hk1,hk2,hk3,h0,hE,hB⟩:=hrel;by_cases hk:k<=126
  · have hkI:(k:Int)<=126:=by omega
    have cG:=zd hE.out (Vr 127 _ k zb);have fG:=frozen_of_row _ _ k _ _ hE.out;have hset:=MM 127 (fun d=>decide (32<=d)&&decide (d<k)) k true;have ef:(fun d=>if d=k then true else(decide (32<=d)&&decide (d<k)))=(fun d=>decide (32<=d)&&decide (d<k+1)):=by
     funext d
     by_cases hd:d=k
     · rw[if_pos hd,hd];simp;omega
     · rw[if_neg hd];have:decide (d<k)=decide (d<k+1):=Nh;rw[this]
    rw[ef]at hset;have HS1:=za (Gn hE.out hset);have HO:=za ((show(wr.setCell ⟨w.heap.size+1,k,none⟩ (.bool true)).heap[w.heap.size]? =wr.heap[w.heap.size]? from heap_setCell_other _ _ _ _ Xs).trans h0.out);have HB2:=za (hB.out.setCell (p:=⟨w.heap.size+1,k,none⟩) Xs (.bool true));clear hset ef hE hB h0;go_wp2;go_roundg (gk - 1)
    case measure=>omega
    case rel=>exact⟨k+1,zP,zb,zb,zb,HO.out,HS1.out,HB2.out⟩
  · obtain rfl:k=127:=by omega
    have e:(fun d=>decide (32<=d)&&decide (d<127))=Qk:=by
     funext d
     show _=(decide (32<=d)&&decide (d<=126));have:decide (d<127)=decide (d<=126):=Nh;rw[this]
    rw[e]at hE;have hl:=NK hE.out (Yc _ _);have hs:=NO h0.out (Yc _ _) (Yc 127 Qk) (G9 127 Qk);have HB2:=za (hB.out);have h0':=h0.out;clear hE h0 hB e;go_wp2;refine Yx rfl zj h0' underlying268 rfl O8 zj ?_;exact⟨rfl,HB2.out.grown (qM wr w.heap.size _) HB2.out.size (fun j e=>kY)⟩
end
section
open Go.RowKit
theorem zao{s:ze}(h:¬256<s.length):Qb s=if qT s then Ko s else none:=by
 unfold Qb;by_cases hp:qT s=true
 · rw[if_pos ⟨zb,hp⟩,if_pos hp]
 · rw[if_neg (fun x=>hp x.2),if_neg hp]
theorem zds{s:ze}(h:¬256<s.length):Vb s=if(if qT s then Ko s else none).isSome then 0 else 20:=by
 unfold Vb;rw[if_neg h,zao h]
end
section
open Go.RowKit
end
end Go.Proofs.YtobcmlmbblgcdaaGreatDoor

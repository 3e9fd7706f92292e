/- Contracts that the law rests on, each under the premises that it names. -/
import Derived.Test.YtecbmndgpepkcaaGreatDoorG01
import Derived.Deep.RegionLaw
import Derived.OwnWalk
namespace Go.Proofs.YtecbmndgpepkcaaGreatDoor
open Tryz
set_option maxHeartbeats 8000000
set_option maxRecDepth 100000
section
inductive El where
 |lit (c:UInt8)
 |star
 |any
 |set (no:Bool) (rs:List (UInt8×UInt8))
def Yj(r:ze):Option UInt8:=if r.head? =some 45 then(match r[1]? with|some b=>if b=93 then none else some b|none=>none)else none
def QZ:Nat->ze->Option (List (UInt8×UInt8)×ze)
 |0,_=>none
 |_+1,[]=>none
 | n+1,c::r=>
   if c=93 then some ([],r)
   else match Yj r with
    |some b=>if c<=b then(QZ n (r.drop 2)).map fun x=>((c,b)::x.1,x.2)else none
    |none=>(QZ n r).map fun x=>((c,c)::x.1,x.2)
theorem O8:∀(n:Nat) (r:ze),r.length<=n->∀m,r.length<=m->QZ n r=QZ m r
 | 0,r,h,m,_=>by
   have:r=[]:=List.eq_nil_of_length_eq_zero zb;subst this;cases m<;>rfl
 |n+1,[],_,m,_=>by cases m<;>rfl
 |n+1,c::r,h,0,h2=>by simp at h2
 | n+1,c::r,h,m+1,h2=>by
   simp only[u0,Nat.add_le_add_iff_right]at h h2;rw[QZ,QZ,O8 n r h m h2,O8 n (r.drop 2) XB m XB]
theorem F8:∀(n:Nat) (r:ze) (x),QZ n r=some x->x.2.length<r.length
 |0,_,_,h=>qI
 |n+1,[],_,h=>qI
 | n +1,c::r,x,h=>by
   rw[QZ]at h;by_cases hc:c=93
   · rw[if_pos hc]at h;obtain rfl:=zx h;simp
   rw[if_neg hc]at h;have one:∀(q:ze) (a:UInt8×UInt8),q.length<=r.length->((QZ n q).map fun x=>(a::x.1,x.2))=some x->x.2.length<(c::r).length:=fun q a hq h=>by
    cases hm:QZ n q with
    |none=>rw[hm]at h;cases h
    | some y=>
      rw[hm]at h;obtain rfl:=zx h;have:=F8 n q y hm;simp only[u0];omega
   cases hr:Yj r with
   |none=>rw[hr]at h;exact one _ _ zo h
   | some b=>
     rw[hr]at h;dsimp only at h
     split at h
     · exact one _ _ XB h
     · cases h
def YQ(no:Bool)(q:ze):Option (El×ze):=if q.head? =some 93 then none else(QZ q.length q).map fun x=>(.set no x.1,x.2)
theorem Dz(no:Bool)(q:ze)(x)(h:YQ no q=some x):x.2.length<q.length+1:=by
 unfold YQ at h
 split at h
 · cases h
 · cases hm:QZ q.length q with
   |none=>rw[hm]at h;cases h
   | some y=>
     rw[hm]at h;obtain rfl:=zx h;have h1:=F8 _ _ _ hm;dsimp only;omega
def Vj(r:ze):Option (El×ze):=if r.head? =some 33 then YQ true (r.drop 1)else YQ false r
theorem zb1(r:ze)(x)(h:Vj r=some x):x.2.length<r.length+1:=by
 unfold Vj at h
 split at h
 · have:=Dz _ _ _ h;exact G0
 · exact Dz _ _ _ h
def Ui(c:UInt8)(r:ze):Option (El×ze):=
 if c=42 then some (.star,r)else if c=63 then some (.any,r)else if c=91 then Vj r else some (.lit c,r)
def X9:Nat->ze->List (List El)->List El->Option (List (List El))
 |0,_,_,_=>none
 |_+1,[],acc,cur=>some (acc++[cur])
 | n+1,c::r,acc,cur=>if c=124 then X9 n r (acc++[cur]) []else match Ui c r with
   |none=>none
   |some (e,r')=>X9 n r' acc (cur++[e])
def Kz(p:ze):Option (List (List El)):=X9 (p.length+1) p [] []
def Qe(p:ze):Option (List (List El)):=if p.length<=256/\qZ p=true then Kz p else none
theorem ja(c:UInt8)(r:ze)(x)(h:Ui c r=some x):x.2.length<r.length+1:=by
 unfold Ui at h
 split at h
 · exact yu
 split at h
 · exact yu
 split at h
 · exact zb1 r x h
 · exact yu
theorem yy:∀(n:Nat) (r:ze) (acc:List (List El)) (cur:List El),r.length<n->∀m,r.length<m->X9 n r acc cur=X9 m r acc cur
 |0,r,_,_,h,_,_=>zb
 |n+1,_,_,_,_,0,h2=>zb
 |n+1,[],_,_,_,m+1,_=>rfl
 | n +1,c::r,acc,cur,h,m+1,h2=>by
   simp only[u0,Nat.add_lt_add_iff_right]at h h2;rw[X9,X9];by_cases hc:c=124
   · rw[if_pos hc,if_pos hc];exact yy n r _ _ h m h2
   rw[if_neg hc,if_neg hc];cases he:Ui c r with
   |none=>rfl
   | some x=>
     have:=ja c r x he;obtain⟨e,r'⟩:=x;dsimp only at this⊢;exact yy n r' _ _ zb m zb
def UR(r:ze)(acc:List (List El))(cur:List El):Option (List (List El)):=X9 (r.length+1) r acc cur
theorem zj7(acc:List (List El))(cur:List El):UR [] acc cur=some (acc++[cur]):=rfl
theorem ziS(r:ze)(acc:List (List El))(cur:List El):UR (124::r) acc cur=UR r (acc++[cur]) []:=by
 unfold UR;rw[u0,X9,if_pos rfl]
theorem zix(c:UInt8)(r:ze)(acc:List (List El))(cur:List El)(hc:c≠124)(e:El)(r':ze)(he:Ui c r=some (e,r')):UR (c::r) acc cur=UR r' acc (cur++[e]):=by
 unfold UR;rw[u0,X9,if_neg hc,he];have:=ja c r _ he;dsimp only at this⊢;exact yy _ _ _ _ zb _ zb
theorem ze4(c:UInt8)(r:ze)(acc:List (List El))(cur:List El)(hc:c≠124)(he:Ui c r=none):UR (c::r) acc cur=none:=by
 unfold UR;rw[u0,X9,if_neg hc,he]
def qs(rs:List (UInt8×UInt8))(c:Nat):Bool:=rs.any fun x=>decide (x.1.toNat<=c)&&decide (c<=x.2.toNat)
def El.has:El->Nat->Bool
 | .lit b,c=>b.toNat==c
 | .star,c=>decide (32<=c)&&decide (c<=126)
 | .any,c=>decide (32<=c)&&decide (c<=126)
 | .set no rs,c=>if no then decide (32<=c)&&decide (c<=126)&& !qs rs c else qs rs c
def El.isStar:El->Bool
 | .star=>true
 |_=>false
def El.litN:El->Nat
 | .lit b=>b.toNat
 |_=>0
theorem Cj:∀(n:Nat) (r:ze) (x),QZ n r=some x->∃m,1<=m/\m<=r.length/\x.2=r.drop m
 |0,_,_,h=>qI
 |n+1,[],_,h=>qI
 | n +1,c::r,x,h=>by
   rw[QZ]at h;by_cases hc:c=93
   · rw[if_pos hc]at h;obtain rfl:=zx h;exact⟨1,zo,zl,rfl⟩
   rw[if_neg hc]at h;have one:∀(k:Nat) (a:UInt8×UInt8),((QZ n (r.drop k)).map fun x=>(a::x.1,x.2))=some x->∃m,1<=m/\m<=(c::r).length/\x.2=(c::r).drop m:=fun k a h=>by
    cases hm:QZ n (r.drop k)with
    |none=>rw[hm]at h;cases h
    | some y=>
      rw[hm]at h;obtain rfl:=zx h;obtain⟨m,m1,m2,e⟩:=Cj n _ y hm;rw[W8]at m2;refine⟨k+m+1,zb,by simp only[u0];omega,?_⟩;rw[List.drop_succ_cons,<-zl8];exact e
   cases hr:Yj r with
   |none=>rw[hr]at h;exact one 0 _ h
   | some b=>
     rw[hr]at h;dsimp only at h
     split at h
     · exact one 2 _ h
     · cases h
theorem F4(no:Bool)(q:ze)(x)(h:YQ no q=some x):(∃rs,x.1=.set no rs)/\∃m,1<=m/\m<=q.length/\x.2=q.drop m:=by
 unfold YQ at h
 split at h
 · cases h
 · cases hm:QZ q.length q with
   |none=>rw[hm]at h;cases h
   | some y=>
     rw[hm]at h;obtain rfl:=zx h;exact⟨⟨_,rfl⟩,Cj _ _ _ hm⟩
theorem zfE(r:ze)(x)(h:Vj r=some x):(∃no rs,x.1=.set no rs)/\∃m,1<=m/\m<=r.length/\x.2=r.drop m:=by
 unfold Vj at h
 split at h
 · obtain⟨⟨rs,e⟩,m,m1,m2,e2⟩:=F4 _ _ _ h;rw[W8]at m2;refine⟨⟨_,_,e⟩,1+m,zb,?_,?_⟩
   · omega
   · rw[e2,zl8]
 · obtain⟨⟨rs,e⟩,h2⟩:=F4 _ _ _ h;exact⟨⟨_,_,e⟩,h2⟩
def VC(s:ze):Int:=if 256<s.length then 21 else if(Qe s).isSome then 0 else 20
end
section
section
variable{α:Type}(star:α->Bool)(has:α->UInt8->Bool)
def qM:List α->ze->Bool
 | [],s=>s.isEmpty
 |e::l,[]=>star e&&qM l []
 |e::l,c::s=>if star e then qM l (c::s)||qM (e::l) s else has e c&&qM l s
 termination_by l s=>(l.length,s.length)
theorem kJ{e:α}{l:List α}{s:ze}(h:star e=true):qM star has (e::l) s=true↔∃j,j<=s.length/\qM star has l (s.drop j)=true:=by
 induction s with
 | nil=>
   rw[qM,h,Bool.true_and];exact⟨fun h=>⟨0,zo,h⟩,fun⟨j,hj,h⟩=>by obtain rfl:j=0:=Nat.le_zero.1 hj;exact h⟩
 | cons c s ih=>
   rw[qM,if_pos h,Bool.or_eq_true,ih];constructor
   · rintro(h|⟨j,hj,h⟩)
     · exact⟨0,X1 _,h⟩
     · exact⟨j+1,GK,h⟩
   · rintro⟨j,hj,h⟩;cases j with
     |zero=>exact Or.inl h
     |succ j=>exact Or.inr ⟨j,GK,h⟩
theorem PR{e:α}{l:List α}{c:UInt8}{s:ze}(h:star e=false):qM star has (e::l) (c::s)=(has e c&&qM star has l s):=by
 rw[qM,if_neg GN]
theorem SH{e:α}{l:List α}(h:star e=false):qM star has (e::l) []=false:=by
 rw[qM,h];rfl
theorem Fp{e:α}{l:List α}{s:ze}(h:star e=true)(hm:qM star has l s=true):qM star has (e::l) s=true:=
 (kJ star has h).2 ⟨0,X1 _,hm⟩
theorem R9{e:α}{l:List α}{s:ze}(h:star e=true):∀j,j<=s.length->qM star has (e::l) (s.drop j)=true->qM star has (e::l) s=true:=by
 intro j hj hm;obtain⟨k,hk,hm⟩:=(kJ star has h).1 hm;rw[zl8]at hm;rw[W8]at hk;exact(kJ star has h).2 ⟨j+k,zb,hm⟩
theorem vO{l:List α}:∀(m:Nat) (s:ze),m<=l.length->(∀x∈l.take m,star x=false)->qM star has l s=true->m<=s.length/\qM star has (l.drop m) (s.drop m)=true:=by
 induction l with
 |nil=>intro m s hm _ h;obtain rfl:m=0:=Nat.le_zero.1 hm;exact⟨X1 _,h⟩
 | cons e l ih=>
   intro m s hm hno h;cases m with
   |zero=>exact⟨X1 _,h⟩
   | succ m=>
     have he:=hno e zl;cases s with
     |nil=>rw[SH star has he]at h;cases h
     | cons c s=>
       rw[PR star has he,zm3]at h;obtain⟨h1,h2⟩:=ih m s (by simpa using hm) (fun x hx=>hno x J5) h.2;exact⟨Gi,h2⟩
structure YM(l:List α)(s:ze)(at_ i:Nat)(st:Option (Nat×Nat)):Prop where
 le_at:at_<=l.length
 le_i:i<=s.length
 eq:qM star has l s=true↔qM star has (l.drop at_) (s.drop i)=true∨∃k f,st=some (k,f)/\f<s.length/\qM star has (l.drop k) (s.drop (f+1))=true
 last:∀k f,st=some (k,f)->k<at_/\(∃h:k<l.length,star l[k]=true)/\f<=i/\i=f+(at_ - (k+1))/\∀x∈(l.drop (k+1)).take (at_ - (k+1)),star x=false
theorem YM.start(l:List α)(s:ze):YM star has l s 0 0 none:=
 ⟨X1 _,X1 _,⟨fun h=>Or.inl h,fun h=>by rcases h with h|⟨_,_,h,_⟩;exact h;cases h⟩,fun _ _ h=>qI⟩
variable{star has}
theorem YM.atStar{l:List α}{s:ze}{at_ i:Nat}{st:Option (Nat×Nat)}(h:YM star has l s at_ i st)(ha:at_<l.length)(hs:star l[at_]=true):YM star has l s (at_+1) i (some (at_,i)):=by
 have hd:l.drop at_=l[at_]::l.drop (at_+1):=zd7 ha;refine⟨ha,h.le_i,h.eq.trans ?_,fun k f e=>?_⟩
 · constructor
   · intro h1;have h2:qM star has (l.drop at_) (s.drop i)=true:=by
      rcases h1 with h1|⟨k,f,e,hf,h1⟩
      · exact h1
      · obtain⟨hk,⟨hkl,hks⟩,hfi,hi,hno⟩:=h.last k f e;rw[zd7 hkl]at h1;obtain⟨j,hj,h1⟩:=(kJ star has hks).1 h1;rw[zl8]at h1;rw[W8]at hj;obtain⟨h2,h3⟩:=vO star has (at_ - (k+1)) _ XB hno h1;rw[zl8,zl8,show k+1+(at_ - (k+1))=at_ by omega,hd]at h3;rw[W8]at h2;rw[hd];refine R9 star has hs (j+1) XB ?_;rw[zl8,show i+(j+1)=f+1+j+(at_ - (k+1)) by omega];exact h3
     rw[hd]at h2;obtain⟨j,hj,h2⟩:=(kJ star has hs).1 h2;cases j with
     |zero=>exact Or.inl h2
     | succ j=>
       rw[W8]at hj;refine Or.inr ⟨at_,i,rfl,zb,?_⟩;rw[hd];refine(kJ star has hs).2 ⟨j,XB,?_⟩;rw[zl8]at h2⊢;rw[show i+1+j=i+(j+1) by omega];exact h2
   · rintro(h1|⟨k,f,e,hf,h1⟩)
     · left;rw[hd];exact Fp star has hs h1
     · obtain⟨rfl,rfl⟩:at_=k/\i=f:=by injection e with e;injection e with e1 e2;exact⟨e1,e2⟩
       left;rw[hd]at h1⊢;refine R9 star has hs 1 XB ?_;rw[zl8];exact h1
 · obtain⟨rfl,rfl⟩:at_=k/\i=f:=by injection e with e;injection e with e1 e2;exact⟨e1,e2⟩
   exact⟨zb,⟨ha,hs⟩,zo,zb,fun x hx=>by simp at hx⟩
theorem YM.atByte{l:List α}{s:ze}{at_ i:Nat}{st:Option (Nat×Nat)}(h:YM star has l s at_ i st)(ha:at_<l.length)(hi:i<s.length)(hs:star l[at_]=false)(hb:has l[at_] s[i]=true):YM star has l s (at_+1) (i+1) st:=by
 have hd:l.drop at_=l[at_]::l.drop (at_+1):=zd7 ha;have hd2:s.drop i=s[i]::s.drop (i+1):=zd7 hi;refine⟨ha,hi,h.eq.trans ?_,fun k f e=>?_⟩
 · rw[hd,hd2,PR star has hs,hb,Bool.true_and]
 · obtain⟨hk,hks,hfi,hi2,hno⟩:=h.last k f e;refine⟨zb,hks,zb,zb,fun x hx=>?_⟩;rw[show at_+1 - (k+1)=(at_ - (k+1))+1 by omega,List.take_add_one]at hx;rcases List.mem_append.1 hx with hx|hx
   · exact hno x hx
   · rw[zd5,show k+1+(at_ - (k+1))=at_ by omega,l0 ha]at hx;obtain rfl:=List.mem_singleton.1 hx;exact hs
theorem DA{l:List α}{s:ze}{at_ i:Nat}(hi:i<s.length)(hs:∀h:at_<l.length,star l[at_]=false/\has l[at_] s[i]=false):qM star has (l.drop at_) (s.drop i)=false:=by
 have hd2:s.drop i=s[i]::s.drop (i+1):=zd7 hi;rcases Nat.lt_or_ge at_ l.length with ha|ha
 · obtain⟨h1,h2⟩:=hs ha;rw[zd7 ha,hd2,PR star has h1,h2];rfl
 · rw[List.drop_of_length_le ha,hd2,qM];rfl
theorem YM.goBack{l:List α}{s:ze}{at_ i k f:Nat}(h:YM star has l s at_ i (some (k,f)))(hi:i<s.length)(hs:∀h:at_<l.length,star l[at_]=false/\has l[at_] s[i]=false):YM star has l s (k+1) (f+1) (some (k,f+1)):=by
 obtain⟨hk,⟨hkl,hks⟩,hfi,hi2,hno⟩:=h.last k f rfl;have hd:l.drop k=l[k]::l.drop (k+1):=zd7 hkl;refine⟨hkl,zb,h.eq.trans ?_,fun k2 f2 e=>?_⟩
 · rw[DA hi hs];constructor
   · rintro(h1|⟨k2,f2,e,hf,h1⟩)
     · cases h1
     · obtain⟨rfl,rfl⟩:k=k2/\f=f2:=by injection e with e;injection e with e1 e2;exact⟨e1,e2⟩
       rw[hd]at h1;obtain⟨j,hj,h1⟩:=(kJ star has hks).1 h1;rw[zl8]at h1;rw[W8]at hj;cases j with
       |zero=>exact Or.inl h1
       | succ j=>
         refine Or.inr ⟨k,f+1,rfl,zb,?_⟩;rw[hd];refine(kJ star has hks).2 ⟨j,XB,?_⟩;rw[zl8,show f+1+1+j=f+1+(j+1) by omega];exact h1
   · rintro(h1|⟨k2,f2,e,hf,h1⟩)
     · refine Or.inr ⟨k,f,rfl,zb,?_⟩;rw[hd];exact Fp star has hks h1
     · obtain⟨rfl,rfl⟩:k=k2/\f+1=f2:=by injection e with e;injection e with e1 e2;exact⟨e1,e2⟩
       refine Or.inr ⟨k,f,rfl,zb,?_⟩;rw[hd]at h1⊢;refine R9 star has hks 1 XB ?_;rw[zl8];exact h1
 · obtain⟨rfl,rfl⟩:k=k2/\f+1=f2:=by injection e with e;injection e with e1 e2;exact⟨e1,e2⟩
   exact⟨zb,⟨hkl,hks⟩,zo,zb,fun x hx=>by simp at hx⟩
theorem YM.fails{l:List α}{s:ze}{at_ i:Nat}(h:YM star has l s at_ i none)(hi:i<s.length)(hs:∀h:at_<l.length,star l[at_]=false/\has l[at_] s[i]=false):qM star has l s=false:=by
 rw[Bool.eq_false_iff];intro h1;rcases h.eq.1 h1 with h2|⟨_,_,e,_⟩
 · rw[DA hi hs]at h2;cases h2
 · cases e
theorem YM.done{l:List α}{s:ze}{at_:Nat}{st:Option (Nat×Nat)}(h:YM star has l s at_ s.length st):qM star has l s=qM star has (l.drop at_) []:=by
 rw[Bool.eq_iff_iff,h.eq,List.drop_length];constructor
 · rintro(h1|⟨k,f,e,hf,h1⟩)
   · exact h1
   · obtain⟨hk,⟨hkl,hks⟩,hfi,hi2,hno⟩:=h.last k f e;rw[zd7 hkl]at h1;obtain⟨j,hj,h1⟩:=(kJ star has hks).1 h1;rw[zl8]at h1;rw[W8]at hj;obtain⟨h2,_⟩:=vO star has (at_ - (k+1)) _ (by rw[W8];have:=h.le_at;omega) hno h1;rw[W8]at h2;omega
 · exact Or.inl
theorem zcG{l:List α}{k:Nat}(hk:k<l.length)(hs:star l[k]=true):qM star has (l.drop k) []=qM star has (l.drop (k+1)) []:=by
 rw[zd7 hk,qM,hs,Bool.true_and]
theorem LQ{l:List α}{k:Nat}(hs:∀h:k<l.length,star l[k]=false)(hk:k<=l.length):qM star has (l.drop k) []=decide (k=l.length):=by
 rcases Nat.lt_or_ge k l.length with h|h
 · rw[zd7 h,SH star has (hs h)];simp;omega
 · rw[List.drop_of_length_le h,qM];simp;omega
end
end
section
section
variable{α:Type}(star:α->Bool)(has:α->UInt8->Bool)
variable{star has}
end
end
section
open Go.RowKit
def qc(n:Nat)(f:Nat->Bool):Array Value:=Array.ofFn (n:=n) fun i=>.bool (f i)
theorem Yo(n:Nat)(f:Nat->Bool):(qc n f).size=n:=by simp[qc]
theorem Vv(n:Nat)(f:Nat->Bool)(c:Nat)(h:c<n):(qc n f)[c]? =some (.bool (f c)):=by simp[qc,h]
theorem Nk(n:Nat)(f:Nat->Bool)(c:Nat)(b:Bool):(qc n f).setIfInBounds c (.bool b)=qc n (fun d=>if d=c then b else f d):=by
 apply Array.ext_getElem?;intro i;rw[Array.getElem?_setIfInBounds,Yo];by_cases hi:i<n
 · rw[Vv _ _ _ hi,Vv _ _ _ hi];by_cases e:c=i
   · subst e;rw[if_pos rfl,if_pos hi,if_pos rfl]
   · rw[if_neg e,if_neg (fun x=>e x.symm)]
 · rw[Array.getElem?_eq_none MU,Array.getElem?_eq_none MU];by_cases e:c=i
   · rw[if_pos e,if_neg zb]
   · rw[if_neg e]
theorem GQ(n:Nat)(f:Nat->Bool):(qc n f).all (·.oneCell')=true:=by
 rw[Array.all_eq_true];intro i hi;have h:=Vv n f i (by rw[Yo]at hi;exact hi);exact SZ
theorem Ph{n:Nat}{f g:Nat->Bool}(h:∀c,c<n->f c=g c):qc n f=qc n g:=by
 apply Array.ext_getElem?;intro i;by_cases hi:i<n
 · rw[Vv _ _ _ hi,Vv _ _ _ hi,h i hi]
 · rw[Array.getElem?_eq_none MU,Array.getElem?_eq_none MU]
attribute [irreducible] qc
end
section
open Go.RowKit
def Qv(r:ze):Option (List (UInt8×UInt8)×ze):=QZ r.length r
theorem BS:Qv []=none:=rfl
theorem zf5(r:ze):Qv (93::r)=some ([],r):=rfl
theorem E8(c b:UInt8)(r:ze)(hc:c≠93)(hr:Yj r=some b):Qv (c::r)=if c<=b then(Qv (r.drop 2)).map fun x=>((c,b)::x.1,x.2)else none:=by
 unfold Qv;rw[u0,QZ,if_neg hc,hr];dsimp only;rw[O8 r.length (r.drop 2) XB (r.drop 2).length zo]
theorem ziQ(c:UInt8)(r:ze)(hc:c≠93)(hr:Yj r=none):Qv (c::r)=(Qv r).map fun x=>((c,c)::x.1,x.2):=by
 unfold Qv;rw[u0,QZ,if_neg hc,hr]
theorem ze5(rs:List (UInt8×UInt8))(a b:UInt8)(c:Nat):qs (rs++[(a,b)]) c=(qs rs c||(decide (a.toNat<=c)&&decide (c<=b.toNat))):=by simp[qs]
theorem Ix{W:World}{g i:Nat}{A B:Array Value}{T:TypeId}{u:Value}(h:W.heap[g]? =some (.cells A T (0,0)))(hs:A.setIfInBounds i u=B):(W.setCell ⟨g,i,none⟩ u).heap[g]? =some (.cells B T (0,0)):=by
 rw[heap_setCell_same _ _ _ _ _ _ h,hs]
theorem Ny{p:ByteArray}(h:qZ (L p)=true)(j:Nat)(hj:j<p.size):32<=(p[j].toNat:Int)/\(p[j].toNat:Int)<=126:=by
 have:=List.all_eq_true.1 h p[j] (by rw[<-RK p j hj];exact X8 _);simpa [pr]using this
theorem D9{p:ByteArray}{j:Nat}{b:UInt8}(h:Yj ((L p).drop (j+1))=some b):∃h1:j+1<p.size,∃h2:j+2<p.size,p[j+1]=45/\p[j+2]=b/\b≠93:=by
 unfold Yj at h
 split at h
 · rename_i h45;have h1:j+1<p.size:=by
    rcases Nat.lt_or_ge (j+1) p.size with h1|h1
    · exact h1
    · rw[List.drop_eq_nil_of_le (by rw[zF];exact h1)]at h45;simp at h45
   rw[Us p (j+1) h1]at h45 h;have e45:p[j+1]=45:=by simpa using h45
   split at h
   · rename_i b' hb';have h2:j+2<p.size:=by
      rcases Nat.lt_or_ge (j+2) p.size with h2|h2
      · exact h2
      · rw[List.drop_eq_nil_of_le (by rw[zF];exact h2)]at hb';simp at hb'
     rw[Us p (j+1+1) h2]at hb';have eb:p[j+2]=b':=by simpa using hb'
     split at h
     · cases h
     · rename_i hne;obtain rfl:=zx h;exact⟨h1,h2,e45,eb,hne⟩
   · cases h
 · cases h
theorem zka{p:ByteArray}{j:Nat}(h:Yj ((L p).drop (j+1))=none)(h2:j+2<p.size):¬(p[j+1]' zb=45/\p[j+2]≠93):=by
 rintro⟨a,b⟩;unfold Yj at h;rw[Us p (j+1) zb,Us p (j+1+1) h2]at h;simp only[List.head?_cons,zl6,zl7,a,if_true]at h;rw[if_neg b]at h;cases h
end
section
open Go.RowKit
theorem Fa:∀(l:List Value) (k:Nat) (c:Array Value),(l.zipIdx k).foldl (fun acc x=>acc.setIfInBounds (0+x.2) x.1) c=Z5 c k l
 | [],_,_=>rfl
 | v::r,k,c=>by
   rw[List.zipIdx_cons,zl2,Z5];show List.foldl _ (c.setIfInBounds (0+k) v) _=_;rw[zk4];exact Fa r (k+1) _
theorem zkZ(cs cells:Array Value)(n:Nat)(h1:cs.size=n)(h2:cells.size=n):Instr.fill (fun i=>some (i*n,n)) cells [(0,.agg cs)]=some cs:=by
 have e:(Value.agg cs).cells=cs:=rfl;simp only[Instr.fill,e,Nat.zero_mul];rw[if_neg M6]
 congr 1
 rw[<-Array.foldl_toList,Array.toList_zipIdx];have:=Fa cs.toList 0 cells;exact Ei
theorem zbP(a:Int):(a<a+1)=True:=eq_true zb
attribute [local go_sem] zbP
theorem zfL{p:ByteArray}(h:qZ (L p)=true)(j:Nat)(hj:j<p.size):(p[j].toNat:Int)<127:=by have:=Ny h j hj;omega
end
section
def Vm(e:El)(c:UInt8):Bool:=e.has c.toNat
def Yk(l:List El)(s:ze):Bool:=qM El.isStar Vm l s
theorem yx{M:Nat}:∀(n:Nat) (r:ze) (acc:List (List El)) (cur:List El) (alts:List (List El)),X9 n r acc cur=some alts->(∀l∈acc,l.length<=M)->cur.length+r.length<=M->(∀l∈alts,l.length<=M)/\alts.length<=acc.length+1+r.length
 |0,_,_,_,_,h,_,_=>qI
 | n +1,[],acc,cur,alts,h,h1,h2=>by
   obtain rfl:=zx h;refine⟨fun l hl=>?_,zl⟩;rcases List.mem_append.1 hl with hl|hl
   · exact h1 l hl
   · obtain rfl:=List.mem_singleton.1 hl;simpa using h2
 | n + 1,c::r,acc,cur,alts,h,h1,h2=>by
   rw[u0]at h2;rw[X9]at h
   split at h
   · obtain⟨i1,i2⟩:=yx n r _ _ alts h (fun l hl=>by
      rcases List.mem_append.1 hl with hl|hl
      · exact h1 l hl
      · obtain rfl:=List.mem_singleton.1 hl;omega) zK
     refine⟨i1,?_⟩;rw[r7,List.length_singleton]at i2;rw[u0];omega
   · cases he:Ui c r with
     |none=>rw[he]at h;cases h
     | some x=>
       rw[he]at h;obtain⟨e,r'⟩:=x;have hl:=ja c r _ he;dsimp only at h hl;obtain⟨i1,i2⟩:=yx n r' _ _ alts h h1 CN;refine⟨i1,?_⟩;rw[u0];omega
theorem zdC{p:ze}{alts:List (List El)}(h:Qe p=some alts):(∀l∈alts,l.length<=256)/\alts.length<=257:=by
 unfold Qe at h
 split at h
 · rename_i hp;obtain⟨h1,h2⟩:=yx (M:=256) _ _ _ _ _ h (fun l hl=>by cases hl) (by have:=hp.1;simpa using this);exact⟨h1,by have:=hp.1;simp at h2;omega⟩
 · cases h
def zS(p s:ze):Bool:=match Qe p with
 |none=>false
 |some alts=>qZ s&&alts.any fun l=>Yk l s
end
section
open Go.RowKit
def qF(n:Nat)(st:Bool)(f:Nat->Bool):Array Value:=#[.int .u8 n,.bool st]++qc 127 f
theorem U9(n:Nat)(st:Bool)(f:Nat->Bool):(qF n st f).size=129:=by rw[qF,Array.size_append,Yo];rfl
theorem LZ(n:Nat)(st:Bool)(f:Nat->Bool)(c:Nat)(h:c<127):(qF n st f)[2+c]? =some (.bool (f c)):=by
 rw[qF,Array.getElem?_append_right zl,<-Vv 127 f c h]
 congr 1
 simp
theorem Su(n:Nat)(st:Bool)(f:Nat->Bool)(i:Nat)(h:2<=i):(qF n st f)[i]? =(qc 127 f)[i - 2]?:=by
 rw[qF,Array.getElem?_append_right XI];rfl
theorem zdr(n:Nat)(st:Bool)(f g:Nat->Bool)(i:Nat)(h:i<2):(qF n st f)[i]? =(qF n st g)[i]?:=by
 rw[qF,qF,Array.getElem?_append_left XI,Array.getElem?_append_left XI]
theorem zcm(n:Nat)(st:Bool)(f:Nat->Bool)(c:Nat)(b:Bool):(qF n st f).setIfInBounds (2+c) (.bool b)=qF n st (fun d=>if d=c then b else f d):=by
 apply Array.ext_getElem?;intro i;rw[Array.getElem?_setIfInBounds,U9];by_cases h2:i<2
 · rw[if_neg zb];exact zdr _ _ _ _ i h2
 · rw[Su _ _ _ i zb,Su _ _ _ i zb,<-Nk,Array.getElem?_setIfInBounds,Yo];by_cases e:2+c=i
   · rw[if_pos e,if_pos (show c=i - 2 by omega)];by_cases hc:c<127
     · rw[if_pos zb,if_pos zb]
     · rw[if_neg zb,if_neg zb]
   · rw[if_neg e,if_neg zb]
theorem GM(n:Nat)(st:Bool)(f:Nat->Bool):(qF n st f).all (·.oneCell')=true:=by
 have h:=GQ 127 f;unfold qF;rw[Array.all_append,h];simp[Value.oneCell']
theorem zkT{n:Nat}{st:Bool}{f g:Nat->Bool}(h:∀c,c<127->f c=g c):qF n st f=qF n st g:=by rw[qF,qF,Ph h]
theorem Pm:zeroCells265=qc 127 (fun _=>false):=by
 unfold qc
 kernel_rfl
theorem zga:zeroCells267=qF 0 false (fun _=>false):=NY
theorem zdi(n:Nat):prog.built 267 [(0,.int .u8 n)]=some (qF n false (fun _=>false)):=NY
theorem zgm(f:Nat->Bool):prog.built 267 [(2,.agg (qc 127 f))]=some (qF 0 false f):=NY
theorem zen(f:Nat->Bool):prog.built 267 [(1,.bool true),(2,.agg (qc 127 f))]=some (qF 0 true f):=NY
theorem zgM:prog.built 265 []=some (qc 127 (fun _=>false)):=by
 unfold qc
 kernel_rfl
attribute [irreducible] qF
end
section
open Go.RowKit
theorem TZ:(prog.info? 265).map (·.size)=some 127:=zg
theorem EW:(prog.info? 267).map (·.size)=some 129:=zg
noncomputable def O3(v:Value):Sem Value:=Instr.loadAt 265 v
theorem Th(v:Value):Instr.loadAt 265 v=O3 v:=rfl
theorem MP{w:World}{g:Nat}{cs:Array Value}{t:TypeId}{fr:Nat×Nat}(h:w.heap[g]? =some (.cells cs t fr))(hs:cs.size=127):(O3 (.pointer (some ⟨g,0,none⟩))).run prog w=.ok (.agg cs) w:=by
 unfold O3;simp only[Instr.loadAt,Instr.sureAddr,Sem.run_bind,Sem.run_pure,Result.andThen_ok];exact run_loadVar_row w g t 265 cs fr _ h underlying265 rfl (by rw[hs];exact TZ)
attribute [irreducible] O3
noncomputable def Gw(v u:Value):Sem Unit:=Instr.storeAt 265 v u
theorem Rr(v u:Value):Instr.storeAt 265 v u=Gw v u:=rfl
theorem OE{w:World}{g:Nat}{old cs:Array Value}{t:TypeId}(h:w.heap[g]? =some (.cells old t (0,0)))(ho:old.size=127)(hs:cs.size=127)(h1:cs.all (·.oneCell')=true):(Gw (.pointer (some ⟨g,0,none⟩)) (.agg cs)).run prog w=.ok () (w.setRow g cs):=by
 unfold Gw;simp only[Instr.storeAt,Instr.sureAddr,Sem.run_bind,Sem.run_pure,Result.andThen_ok];exact run_storeVar_row w g t 265 old cs h (by rw[hs];exact TZ) Mi h1
attribute [irreducible] Gw
noncomputable def ME(parts:Array (Nat×Value)):Sem Value:=Instr.build 265 parts
theorem vj(parts:Array (Nat×Value)):Instr.build 265 parts=ME parts:=rfl
theorem zj6(w:World):(ME #[]).run prog w=.ok (.agg (qc 127 (fun _=>false))) w:=by
 unfold ME;exact run_build w _ _ _ zgM
attribute [irreducible] ME
noncomputable def M3(v:Value):Sem Value:=Instr.loadAt 267 v
theorem zdk(v:Value):Instr.loadAt 267 v=M3 v:=rfl
theorem zif{w:World}{g:Nat}{cs:Array Value}{t:TypeId}{fr:Nat×Nat}(h:w.heap[g]? =some (.cells cs t fr))(hs:cs.size=129):(M3 (.pointer (some ⟨g,0,none⟩))).run prog w=.ok (.agg cs) w:=by
 unfold M3;simp only[Instr.loadAt,Instr.sureAddr,Sem.run_bind,Sem.run_pure,Result.andThen_ok];exact run_loadVar_row w g t 267 cs fr _ h underlying267 rfl (by rw[hs];exact EW)
attribute [irreducible] M3
noncomputable def IQ(v u:Value):Sem Unit:=Instr.storeAt 267 v u
theorem zir(v u:Value):Instr.storeAt 267 v u=IQ v u:=rfl
theorem Mo{w:World}{g:Nat}{old cs:Array Value}{t:TypeId}(h:w.heap[g]? =some (.cells old t (0,0)))(ho:old.size=129)(hs:cs.size=129)(h1:cs.all (·.oneCell')=true):(IQ (.pointer (some ⟨g,0,none⟩)) (.agg cs)).run prog w=.ok () (w.setRow g cs):=by
 unfold IQ;simp only[Instr.storeAt,Instr.sureAddr,Sem.run_bind,Sem.run_pure,Result.andThen_ok];exact run_storeVar_row w g t 267 old cs h (by rw[hs];exact EW) Mi h1
attribute [irreducible] IQ
noncomputable def kY(parts:Array (Nat×Value)):Sem Value:=Instr.build 267 parts
theorem zko(parts:Array (Nat×Value)):Instr.build 267 parts=kY parts:=rfl
theorem zaG(n:Nat)(w:World):(kY #[(0,.int .u8 n)]).run prog w=.ok (.agg (qF n false (fun _=>false))) w:=by
 unfold kY;exact run_build w _ _ _ (zdi n)
theorem FJ(f:Nat->Bool)(w:World):(kY #[(2,.agg (qc 127 f))]).run prog w=.ok (.agg (qF 0 false f)) w:=by
 unfold kY;exact run_build w _ _ _ (zgm f)
theorem zbY(f:Nat->Bool)(w:World):(kY #[(1,.bool true),(2,.agg (qc 127 f))]).run prog w=.ok (.agg (qF 0 true f)) w:=by
 unfold kY;exact run_build w _ _ _ (zen f)
attribute [irreducible] kY
noncomputable def Mh(n:Nat)(parts:Array (Nat×Value)):Sem Value:=Instr.buildSlice 232 n parts
theorem zaK(n:Nat)(parts:Array (Nat×Value)):Instr.buildSlice 232 n parts=Mh n parts:=rfl
theorem zkQ:(prog.info? 267).map (fun i=>(i.zero.map (·.cells.size),i.size,i.bytes))=some (some 129,129,129):=zg
theorem EA:∃i z,prog.info? 267=some i/\i.zero=some z/\i.size=129/\i.bytes=129/\z.cells.size=129:=by
 have h:=zkQ;cases hq:prog.info? 267 with
 |none=>rw[hq]at h;simp at h
 | some i=>
   rw[hq]at h;simp only[zd6,Option.some.injEq,Prod.mk.injEq]at h;obtain⟨h1,h2,h3⟩:=h;cases hz:i.zero with
   |none=>rw[hz]at h1;simp at h1
   |some z=>rw[hz]at h1;exact⟨i,z,rfl,hz,h2,h3,Gi⟩
theorem zhv:(prog.info? 232).map (fun i=>(i.zero,i.size,i.bytes))=some (some (.slice none 0 0),1,24):=zg
theorem zju(cs:Array Value)(hs:cs.size=129)(w:World):(Mh 1 #[(0,.agg cs)]).run prog w=.ok (.slice (some ⟨w.heap.size,0,none⟩) 1 1) (w.alloc (.cells cs 267)):=by
 obtain⟨i0,z,hi0,hz0,hz1,hz2,hz3⟩:=EA;unfold Mh;refine run_buildSlice w _ _ 1 _ cs i0 z underlying232 hi0 hz0 (by rw[hz1];decide) (by rw[hz1];decide) ?_;rw[hz1];exact zkZ cs _ 129 hs zl
attribute [irreducible] Mh
def Qu:Nat->Bool:=fun c=>decide (32<=c)&&decide (c<=126)
attribute [local go_sem ↓] Th Rr
theorem yF(w:World):Calls prog 232 #[] w fun e w'=>e=.returned (.agg (qc 127 Qu))/\Below w.heap.size w w':=by
 go_enter func232,ntmps232;go_wp2;rw[Pm];obtain⟨W1,hW1⟩:∃W1,(w.alloc (.cells (qc 127 (fun _=>false)) 265)).alloc (.cells (qc 127 (fun _=>false)) 265)=W1:=⟨_,rfl⟩;have h0:W1.heap[w.heap.size]? =some (.cells (qc 127 (fun _=>false)) 265 (0,0)):=by rw[<-hW1];exact heap_alloc2_old w _ _
 have h1:W1.heap[w.heap.size+1]? =some (.cells (qc 127 (fun _=>false)) 265 (0,0)):=by rw[<-hW1];exact heap_alloc2_new w _ _
 have hb:Below w.heap.size w W1:=by rw[<-hW1];exact(zj.alloc zo _).alloc zl _
 rw[hW1];have HB:=za hb;have H0:=za h0;have H1:=za h1;clear hW1 hb h0 h1;go_loopg [2] 97 (fun gk s2 wr=>∃k:Nat,s2=.int .i64 k/\32<=k/\k<=127/\k+gk=129/\Hid (wr.heap[w.heap.size]? =some (.cells (qc 127 (fun _=>false)) 265 (0,0)))/\Hid (wr.heap[w.heap.size+1]? =some (.cells (qc 127 (fun d=>decide (32<=d)&&decide (d<k))) 265 (0,0)))/\Hid (Below w.heap.size w wr))
 case atStart=>
  refine⟨32,rfl,zb,zb,rfl,H0.out,?_,HB.out⟩;have e:(fun d=>decide (32<=d)&&decide (d<32))=(fun _=>false):=by
   funext d
   exact Ct
  show _=_;rw[e];exact H1.out
 case round=>
  obtain⟨k,rfl,hk1,hk2,hk3,h0,hE,hB⟩:=hrel;by_cases hk:k<=126
  · have hkI:(k:Int)<=126:=by omega
    have cG:=zd hE.out (Vv 127 _ k zb);have fG:=frozen_of_row _ _ k _ _ hE.out;have hset:=Nk 127 (fun d=>decide (32<=d)&&decide (d<k)) k true;have ef:(fun d=>if d=k then true else(decide (32<=d)&&decide (d<k)))=(fun d=>decide (32<=d)&&decide (d<k+1)):=by
     funext d
     by_cases hd:d=k
     · rw[if_pos hd,hd];simp;omega
     · rw[if_neg hd];have:decide (d<k)=decide (d<k+1):=MN;rw[this]
    rw[ef]at hset;have HS1:=za (Ix hE.out hset);have HO:=za ((show(wr.setCell ⟨w.heap.size+1,k,none⟩ (.bool true)).heap[w.heap.size]? =wr.heap[w.heap.size]? from heap_setCell_other _ _ _ _ QW).trans h0.out);have HB2:=za (hB.out.setCell (p:=⟨w.heap.size+1,k,none⟩) QW (.bool true));clear hset ef hE hB h0;go_wp2;go_roundg (gk - 1)
    case measure=>omega
    case rel=>exact⟨k+1,zU,zb,zb,zb,HO.out,HS1.out,HB2.out⟩
  · obtain rfl:k=127:=by omega
    have e:(fun d=>decide (32<=d)&&decide (d<127))=Qu:=by
     funext d
     show _=(decide (32<=d)&&decide (d<=126));have:decide (d<127)=decide (d<=126):=MN;rw[this]
    rw[e]at hE;have hl:=MP hE.out (Yo _ _);have hs:=OE h0.out (Yo _ _) (Yo 127 Qu) (GQ 127 Qu);have HB2:=za (hB.out);have h0':=h0.out;clear hE h0 hB e;go_wp2;refine Yx rfl zk h0' underlying265 rfl Tx zk ?_;exact⟨rfl,HB2.out.grown (qR wr w.heap.size _) HB2.out.size (fun j e=>Vb)⟩
end
section
open Go.RowKit
theorem zjL{s:ze}(h:¬256<s.length):Qe s=if qZ s then Kz s else none:=by
 unfold Qe;by_cases hp:qZ s=true
 · rw[if_pos ⟨zb,hp⟩,if_pos hp]
 · rw[if_neg (fun x=>hp x.2),if_neg hp]
theorem zbF{s:ze}(h:¬256<s.length):VC s=if(if qZ s then Kz s else none).isSome then 0 else 20:=by
 unfold VC;rw[if_neg h,zjL h]
end
section
open Go.RowKit
end
end Go.Proofs.YtecbmndgpepkcaaGreatDoor

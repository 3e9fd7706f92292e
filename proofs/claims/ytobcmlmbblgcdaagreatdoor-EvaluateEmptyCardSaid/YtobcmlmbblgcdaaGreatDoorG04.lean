/-
  Patterns: what a pattern's alternatives are, in plain words; no program in sight.
  What it is that a list of elements matches a text, in plain words; no program in sight. Both ways to find it out: the greedy one, and that by sets of places.
  Matching by sets of places, in plain words; no program in sight.
  Contracts of the reference's package for patterns: byteOK, Printable, set.
  Contract of the reference's set: the members of a set of a pattern.
  Contracts of the reference's Parse of a pattern, and of its Check.
  Both sides' sets of bytes give the same matches at a printable text, in plain words.
  The program's package for patterns: elements and sets as they lie; every.
  Loads, stores and makings of sets and elements, behind names; contract of the program's every.
  Contract of the reference's Check of a pattern.
  Contracts of the reference's places and one: an alternative at a text by sets of places.
-/
import Derived.Test.YtobcmlmbblgcdaaGreatDoorG00
import Derived.Test.YtobcmlmbblgcdaaGreatDoorG01
import Derived.Deep.Cut
import Derived.Deep.CutRange
import Derived.Deep.CutBlock
import Derived.Test.YtobcmlmbblgcdaaGreatDoorNst
import Derived.Deep.AppendLies
import Derived.Deep.RegionLaw
import Derived.Great.BuildSlice
import Derived.Deep.WholeRow
import Derived.Test.YtobcmlmbblgcdaaGreatDoorG03
import Derived.Laws.OwnMore
import Derived.BigQuiet
import Derived.OwnWalk
namespace Go.Proofs.YtobcmlmbblgcdaaGreatDoor
set_option maxRecDepth 100000
section
inductive El where
 | lit (c:UInt8)
 | star
 | any
 | set (no:Bool) (rs:List (UInt8 × UInt8))
def rngS (r:Str):Option UInt8:=if r.head? = some 45 then (match r[1]? with | some b=>if b=93 then none else some b | none=>none) else none
def membersS:Nat→Str→Option (List (UInt8 × UInt8) × Str)
 | 0,_=>none
 | _+1,[]=>none
 | n+1,c :: r =>
   if c=93 then some ([],r)
   else match rngS r with
    | some b=>if c≤b then (membersS n (r.drop 2)).map fun x=>((c,b) :: x.1,x.2) else none
    | none=>(membersS n r).map fun x=>((c,c) :: x.1,x.2)
theorem membersS_fuel:∀ (n:Nat) (r:Str),r.length≤n→∀ m,r.length≤m→membersS n r=membersS m r
 | 0,r,h,m,_=>by
   have:r=[]:=List.eq_nil_of_length_eq_zero (by omega)
   subst this
   cases m <;> rfl
 | n+1,[],_,m,_=>by cases m <;> rfl
 | n+1,c :: r,h,0,h2=>by simp at h2
 | n+1,c :: r,h,m+1,h2=>by
   simp only [List.length_cons,Nat.add_le_add_iff_right] at h h2
   rw [membersS,membersS,membersS_fuel n r h m h2,membersS_fuel n (r.drop 2) (by rw [List.length_drop];omega) m (by rw [List.length_drop];omega)]
theorem membersS_len:∀ (n:Nat) (r:Str) (x),membersS n r=some x→x.2.length<r.length
 | 0,_,_,h=>by cases h
 | n+1,[],_,h=>by cases h
 | n + 1,c :: r,x,h=>by
   rw [membersS] at h
   by_cases hc:c=93
   · rw [if_pos hc] at h
     obtain rfl:=Option.some.inj h
     simp
   rw [if_neg hc] at h
   have one:∀ (q:Str) (a:UInt8 × UInt8),q.length≤r.length→((membersS n q).map fun x=>(a :: x.1,x.2))=some x→x.2.length<(c :: r).length:=fun q a hq h=>by
    cases hm:membersS n q with
    | none=>rw [hm] at h;cases h
    | some y =>
      rw [hm] at h
      obtain rfl:=Option.some.inj h
      have:=membersS_len n q y hm
      simp only [List.length_cons]
      omega
   cases hr:rngS r with
   | none=>rw [hr] at h;exact one _ _ (Nat.le_refl _) h
   | some b =>
     rw [hr] at h
     dsimp only at h
     split at h
     · exact one _ _ (by rw [List.length_drop];omega) h
     · cases h
def setQ (no:Bool) (q:Str):Option (El × Str):=if q.head? = some 93 then none else (membersS q.length q).map fun x=>(.set no x.1,x.2)
theorem setQ_len (no:Bool) (q:Str) (x) (h:setQ no q=some x):x.2.length<q.length+1:=by
 unfold setQ at h
 split at h
 · cases h
 · cases hm:membersS q.length q with
   | none=>rw [hm] at h;cases h
   | some y =>
     rw [hm] at h
     obtain rfl:=Option.some.inj h
     have h1:=membersS_len _ _ _ hm
     dsimp only
     omega
def setS (r:Str):Option (El × Str):=if r.head? = some 33 then setQ true (r.drop 1) else setQ false r
theorem setS_len (r:Str) (x) (h:setS r=some x):x.2.length<r.length+1:=by
 unfold setS at h
 split at h
 · have:=setQ_len _ _ _ h
   rw [List.length_drop] at this
   omega
 · exact setQ_len _ _ _ h
def elS (c:UInt8) (r:Str):Option (El × Str) :=
 if c=42 then some (.star,r) else if c=63 then some (.any,r) else if c=91 then setS r else some (.lit c,r)
def globF:Nat→Str→List (List El)→List El→Option (List (List El))
 | 0,_,_,_=>none
 | _+1,[],acc,cur=>some (acc++[cur])
 | n+1,c :: r,acc,cur=>if c=124 then globF n r (acc++[cur]) [] else match elS c r with
   | none=>none
   | some (e,r')=>globF n r' acc (cur++[e])
def globP (p:Str):Option (List (List El)):=globF (p.length+1) p [] []
def globS (p:Str):Option (List (List El)):=if p.length≤256∧printS p=true then globP p else none
theorem elS_len (c:UInt8) (r:Str) (x) (h:elS c r=some x):x.2.length<r.length+1:=by
 unfold elS at h
 split at h
 · obtain rfl:=Option.some.inj h;dsimp only;omega
 split at h
 · obtain rfl:=Option.some.inj h;dsimp only;omega
 split at h
 · exact setS_len r x h
 · obtain rfl:=Option.some.inj h;dsimp only;omega
theorem globF_fuel:∀ (n:Nat) (r:Str) (acc:List (List El)) (cur:List El),r.length<n→∀ m,r.length<m→globF n r acc cur=globF m r acc cur
 | 0,r,_,_,h,_,_=>by omega
 | n+1,_,_,_,_,0,h2=>by omega
 | n+1,[],_,_,_,m+1,_=>rfl
 | n + 1,c :: r,acc,cur,h,m+1,h2=>by
   simp only [List.length_cons,Nat.add_lt_add_iff_right] at h h2
   rw [globF,globF]
   by_cases hc:c=124
   · rw [if_pos hc,if_pos hc];exact globF_fuel n r _ _ h m h2
   rw [if_neg hc,if_neg hc]
   cases he:elS c r with
   | none=>rfl
   | some x =>
     have:=elS_len c r x he
     obtain ⟨e,r'⟩:=x
     dsimp only at this ⊢
     exact globF_fuel n r' _ _ (by omega) m (by omega)
def globK (r:Str) (acc:List (List El)) (cur:List El):Option (List (List El)):=globF (r.length+1) r acc cur
theorem globK_nil (acc:List (List El)) (cur:List El):globK [] acc cur=some (acc++[cur]):=rfl
theorem globK_bar (r:Str) (acc:List (List El)) (cur:List El):globK (124 :: r) acc cur=globK r (acc++[cur]) []:=by
 unfold globK;rw [List.length_cons,globF,if_pos rfl]
theorem globK_el (c:UInt8) (r:Str) (acc:List (List El)) (cur:List El) (hc:c≠124) (e:El) (r':Str) (he:elS c r=some (e,r')):globK (c :: r) acc cur=globK r' acc (cur++[e]):=by
 unfold globK
 rw [List.length_cons,globF,if_neg hc,he]
 have:=elS_len c r _ he
 dsimp only at this ⊢
 exact globF_fuel _ _ _ _ (by omega) _ (by omega)
theorem globK_no (c:UInt8) (r:Str) (acc:List (List El)) (cur:List El) (hc:c≠124) (he:elS c r=none):globK (c :: r) acc cur=none:=by
 unfold globK;rw [List.length_cons,globF,if_neg hc,he]
def inRs (rs:List (UInt8 × UInt8)) (c:Nat):Bool:=rs.any fun x=>decide (x.1.toNat≤c) && decide (c≤x.2.toNat)
def El.has:El→Nat→Bool
 | .lit b,c=>b.toNat == c
 | .star,c=>decide (32≤c) && decide (c≤126)
 | .any,c=>decide (32≤c) && decide (c≤126)
 | .set no rs,c=>if no then decide (32≤c) && decide (c≤126) && !inRs rs c else inRs rs c
def El.isStar:El→Bool
 | .star=>true
 | _=>false
def El.litN:El→Nat
 | .lit b=>b.toNat
 | _=>0
theorem membersS_suf:∀ (n:Nat) (r:Str) (x),membersS n r=some x→∃ m,1≤m∧m≤r.length∧x.2=r.drop m
 | 0,_,_,h=>by cases h
 | n+1,[],_,h=>by cases h
 | n + 1,c :: r,x,h=>by
   rw [membersS] at h
   by_cases hc:c=93
   · rw [if_pos hc] at h
     obtain rfl:=Option.some.inj h
     exact ⟨1,Nat.le_refl _,by simp,rfl⟩
   rw [if_neg hc] at h
   have one:∀ (k:Nat) (a:UInt8 × UInt8),((membersS n (r.drop k)).map fun x=>(a :: x.1,x.2))=some x→∃ m,1≤m∧m≤(c :: r).length∧x.2=(c :: r).drop m:=fun k a h=>by
    cases hm:membersS n (r.drop k) with
    | none=>rw [hm] at h;cases h
    | some y =>
      rw [hm] at h
      obtain rfl:=Option.some.inj h
      obtain ⟨m,m1,m2,e⟩:=membersS_suf n _ y hm
      rw [List.length_drop] at m2
      refine ⟨k+m+1,by omega,by simp only [List.length_cons];omega,?_⟩
      rw [List.drop_succ_cons,←List.drop_drop]
      exact e
   cases hr:rngS r with
   | none=>rw [hr] at h;exact one 0 _ h
   | some b =>
     rw [hr] at h
     dsimp only at h
     split at h
     · exact one 2 _ h
     · cases h
theorem setQ_suf (no:Bool) (q:Str) (x) (h:setQ no q=some x):(∃ rs,x.1=.set no rs)∧∃ m,1≤m∧m≤q.length∧x.2=q.drop m:=by
 unfold setQ at h
 split at h
 · cases h
 · cases hm:membersS q.length q with
   | none=>rw [hm] at h;cases h
   | some y =>
     rw [hm] at h
     obtain rfl:=Option.some.inj h
     exact ⟨⟨_,rfl⟩,membersS_suf _ _ _ hm⟩
theorem setS_suf (r:Str) (x) (h:setS r=some x):(∃ no rs,x.1=.set no rs)∧∃ m,1≤m∧m≤r.length∧x.2=r.drop m:=by
 unfold setS at h
 split at h
 · obtain ⟨⟨rs,e⟩,m,m1,m2,e2⟩:=setQ_suf _ _ _ h
   rw [List.length_drop] at m2
   refine ⟨⟨_,_,e⟩,1+m,by omega,?_,?_⟩
   · omega
   · rw [e2,List.drop_drop]
 · obtain ⟨⟨rs,e⟩,h2⟩:=setQ_suf _ _ _ h
   exact ⟨⟨_,_,e⟩,h2⟩
def globE (s:Str):Int:=if 256<s.length then 21 else if (globS s).isSome then 0 else 20
end
section
section
variable {α:Type} (star:α→Bool) (has:α→UInt8→Bool)
def matchS:List α→Str→Bool
 | [],s=>s.isEmpty
 | e :: l,[]=>star e && matchS l []
 | e :: l,c :: s=>if star e then matchS l (c :: s) || matchS (e :: l) s else has e c && matchS l s
termination_by l s=>(l.length,s.length)
theorem match_star {e:α} {l:List α} {s:Str} (h:star e=true):matchS star has (e :: l) s=true↔∃ j,j≤s.length∧matchS star has l (s.drop j)=true:=by
 induction s with
 | nil =>
   rw [matchS,h,Bool.true_and]
   exact ⟨fun h=>⟨0,Nat.le_refl _,h⟩,fun ⟨j,hj,h⟩=>by obtain rfl:j=0:=Nat.le_zero.1 hj;exact h⟩
 | cons c s ih =>
   rw [matchS,if_pos h,Bool.or_eq_true,ih]
   constructor
   · rintro (h | ⟨j,hj,h⟩)
     · exact ⟨0,Nat.zero_le _,h⟩
     · exact ⟨j+1,by simpa using hj,h⟩
   · rintro ⟨j,hj,h⟩
     cases j with
     | zero=>exact Or.inl h
     | succ j=>exact Or.inr ⟨j,by simpa using hj,h⟩
theorem match_lit {e:α} {l:List α} {c:UInt8} {s:Str} (h:star e=false):matchS star has (e :: l) (c :: s)=(has e c && matchS star has l s):=by
 rw [matchS,if_neg (by rw [h];simp)]
theorem match_lit_nil {e:α} {l:List α} (h:star e=false):matchS star has (e :: l) []=false:=by
 rw [matchS,h];rfl
theorem match_skip {e:α} {l:List α} {s:Str} (h:star e=true) (hm:matchS star has l s=true):matchS star has (e :: l) s=true :=
 (match_star star has h).2 ⟨0,Nat.zero_le _,hm⟩
theorem match_take {e:α} {l:List α} {s:Str} (h:star e=true):∀ j,j≤s.length→matchS star has (e :: l) (s.drop j)=true→matchS star has (e :: l) s=true:=by
 intro j hj hm
 obtain ⟨k,hk,hm⟩:=(match_star star has h).1 hm
 rw [List.drop_drop] at hm
 rw [List.length_drop] at hk
 exact (match_star star has h).2 ⟨j+k,by omega,hm⟩
theorem match_run {l:List α}:∀ (m:Nat) (s:Str),m≤l.length→(∀ x∈l.take m,star x=false)→matchS star has l s=true→m≤s.length∧matchS star has (l.drop m) (s.drop m)=true:=by
 induction l with
 | nil=>intro m s hm _ h;obtain rfl:m=0:=Nat.le_zero.1 hm;exact ⟨Nat.zero_le _,h⟩
 | cons e l ih =>
   intro m s hm hno h
   cases m with
   | zero=>exact ⟨Nat.zero_le _,h⟩
   | succ m =>
     have he:=hno e (by simp)
     cases s with
     | nil=>rw [match_lit_nil star has he] at h;cases h
     | cons c s =>
       rw [match_lit star has he,Bool.and_eq_true] at h
       obtain ⟨h1,h2⟩:=ih m s (by simpa using hm) (fun x hx=>hno x (by simp [hx])) h.2
       exact ⟨by simpa using h1,h2⟩
structure Greedy (l:List α) (s:Str) (at_ i:Nat) (st:Option (Nat × Nat)):Prop where
 le_at:at_≤l.length
 le_i:i≤s.length
 eq:matchS star has l s=true↔matchS star has (l.drop at_) (s.drop i)=true∨∃ k f,st=some (k,f)∧f<s.length∧matchS star has (l.drop k) (s.drop (f+1))=true
 last:∀ k f,st=some (k,f)→k<at_∧(∃ h:k<l.length,star l[k]=true)∧f≤i∧i=f+(at_ - (k+1))∧∀ x∈(l.drop (k+1)).take (at_ - (k+1)),star x=false
theorem Greedy.start (l:List α) (s:Str):Greedy star has l s 0 0 none :=
 ⟨Nat.zero_le _,Nat.zero_le _,⟨fun h=>Or.inl h,fun h=>by rcases h with h | ⟨_,_,h,_⟩;exact h;cases h⟩,fun _ _ h=>by cases h⟩
variable {star has}
theorem Greedy.atStar {l:List α} {s:Str} {at_ i:Nat} {st:Option (Nat × Nat)} (h:Greedy star has l s at_ i st) (ha:at_<l.length) (hs:star l[at_]=true):Greedy star has l s (at_+1) i (some (at_,i)):=by
 have hd:l.drop at_=l[at_] :: l.drop (at_+1):=List.drop_eq_getElem_cons ha
 refine ⟨ha,h.le_i,h.eq.trans ?_,fun k f e=>?_⟩
 · constructor
   · intro h1
     have h2:matchS star has (l.drop at_) (s.drop i)=true:=by
      rcases h1 with h1 | ⟨k,f,e,hf,h1⟩
      · exact h1
      · obtain ⟨hk,⟨hkl,hks⟩,hfi,hi,hno⟩:=h.last k f e
        rw [List.drop_eq_getElem_cons hkl] at h1
        obtain ⟨j,hj,h1⟩:=(match_star star has hks).1 h1
        rw [List.drop_drop] at h1
        rw [List.length_drop] at hj
        obtain ⟨h2,h3⟩:=match_run star has (at_ - (k+1)) _ (by rw [List.length_drop];omega) hno h1
        rw [List.drop_drop,List.drop_drop,show k+1+(at_ - (k+1))=at_ by omega,hd] at h3
        rw [List.length_drop] at h2
        rw [hd]
        refine match_take star has hs (j+1) (by rw [List.length_drop];omega) ?_
        rw [List.drop_drop,show i+(j+1)=f+1+j+(at_ - (k+1)) by omega]
        exact h3
     rw [hd] at h2
     obtain ⟨j,hj,h2⟩:=(match_star star has hs).1 h2
     cases j with
     | zero=>exact Or.inl h2
     | succ j =>
       rw [List.length_drop] at hj
       refine Or.inr ⟨at_,i,rfl,by omega,?_⟩
       rw [hd]
       refine (match_star star has hs).2 ⟨j,by rw [List.length_drop];omega,?_⟩
       rw [List.drop_drop] at h2 ⊢
       rw [show i+1+j=i+(j+1) by omega]
       exact h2
   · rintro (h1 | ⟨k,f,e,hf,h1⟩)
     · left;rw [hd];exact match_skip star has hs h1
     · obtain ⟨rfl,rfl⟩:at_=k∧i=f:=by injection e with e;injection e with e1 e2;exact ⟨e1,e2⟩
       left
       rw [hd] at h1 ⊢
       refine match_take star has hs 1 (by rw [List.length_drop];omega) ?_
       rw [List.drop_drop];exact h1
 · obtain ⟨rfl,rfl⟩:at_=k∧i=f:=by injection e with e;injection e with e1 e2;exact ⟨e1,e2⟩
   exact ⟨by omega,⟨ha,hs⟩,Nat.le_refl _,by omega,fun x hx=>by simp at hx⟩
theorem Greedy.atByte {l:List α} {s:Str} {at_ i:Nat} {st:Option (Nat × Nat)} (h:Greedy star has l s at_ i st) (ha:at_<l.length) (hi:i<s.length) (hs:star l[at_]=false) (hb:has l[at_] s[i]=true):Greedy star has l s (at_+1) (i+1) st:=by
 have hd:l.drop at_=l[at_] :: l.drop (at_+1):=List.drop_eq_getElem_cons ha
 have hd2:s.drop i=s[i] :: s.drop (i+1):=List.drop_eq_getElem_cons hi
 refine ⟨ha,hi,h.eq.trans ?_,fun k f e=>?_⟩
 · rw [hd,hd2,match_lit star has hs,hb,Bool.true_and]
 · obtain ⟨hk,hks,hfi,hi2,hno⟩:=h.last k f e
   refine ⟨by omega,hks,by omega,by omega,fun x hx=>?_⟩
   rw [show at_+1 - (k+1)=(at_ - (k+1))+1 by omega,List.take_add_one] at hx
   rcases List.mem_append.1 hx with hx | hx
   · exact hno x hx
   · rw [List.getElem?_drop,show k+1+(at_ - (k+1))=at_ by omega,List.getElem?_eq_getElem ha] at hx
     obtain rfl:=List.mem_singleton.1 hx
     exact hs
theorem greedy_dead {l:List α} {s:Str} {at_ i:Nat} (hi:i<s.length) (hs:∀ h:at_<l.length,star l[at_]=false∧has l[at_] s[i]=false):matchS star has (l.drop at_) (s.drop i)=false:=by
 have hd2:s.drop i=s[i] :: s.drop (i+1):=List.drop_eq_getElem_cons hi
 rcases Nat.lt_or_ge at_ l.length with ha | ha
 · obtain ⟨h1,h2⟩:=hs ha
   rw [List.drop_eq_getElem_cons ha,hd2,match_lit star has h1,h2];rfl
 · rw [List.drop_of_length_le ha,hd2,matchS];rfl
theorem Greedy.goBack {l:List α} {s:Str} {at_ i k f:Nat} (h:Greedy star has l s at_ i (some (k,f))) (hi:i<s.length) (hs:∀ h:at_<l.length,star l[at_]=false∧has l[at_] s[i]=false):Greedy star has l s (k+1) (f+1) (some (k,f+1)):=by
 obtain ⟨hk,⟨hkl,hks⟩,hfi,hi2,hno⟩:=h.last k f rfl
 have hd:l.drop k=l[k] :: l.drop (k+1):=List.drop_eq_getElem_cons hkl
 refine ⟨hkl,by omega,h.eq.trans ?_,fun k2 f2 e=>?_⟩
 · rw [greedy_dead hi hs]
   constructor
   · rintro (h1 | ⟨k2,f2,e,hf,h1⟩)
     · cases h1
     · obtain ⟨rfl,rfl⟩:k=k2∧f=f2:=by injection e with e;injection e with e1 e2;exact ⟨e1,e2⟩
       rw [hd] at h1
       obtain ⟨j,hj,h1⟩:=(match_star star has hks).1 h1
       rw [List.drop_drop] at h1
       rw [List.length_drop] at hj
       cases j with
       | zero=>exact Or.inl h1
       | succ j =>
         refine Or.inr ⟨k,f+1,rfl,by omega,?_⟩
         rw [hd]
         refine (match_star star has hks).2 ⟨j,by rw [List.length_drop];omega,?_⟩
         rw [List.drop_drop,show f+1+1+j=f+1+(j+1) by omega]
         exact h1
   · rintro (h1 | ⟨k2,f2,e,hf,h1⟩)
     · refine Or.inr ⟨k,f,rfl,by omega,?_⟩
       rw [hd];exact match_skip star has hks h1
     · obtain ⟨rfl,rfl⟩:k=k2∧f+1=f2:=by injection e with e;injection e with e1 e2;exact ⟨e1,e2⟩
       refine Or.inr ⟨k,f,rfl,by omega,?_⟩
       rw [hd] at h1 ⊢
       refine match_take star has hks 1 (by rw [List.length_drop];omega) ?_
       rw [List.drop_drop];exact h1
 · obtain ⟨rfl,rfl⟩:k=k2∧f+1=f2:=by injection e with e;injection e with e1 e2;exact ⟨e1,e2⟩
   exact ⟨by omega,⟨hkl,hks⟩,Nat.le_refl _,by omega,fun x hx=>by simp at hx⟩
theorem Greedy.fails {l:List α} {s:Str} {at_ i:Nat} (h:Greedy star has l s at_ i none) (hi:i<s.length) (hs:∀ h:at_<l.length,star l[at_]=false∧has l[at_] s[i]=false):matchS star has l s=false:=by
 rw [Bool.eq_false_iff]
 intro h1
 rcases h.eq.1 h1 with h2 | ⟨_,_,e,_⟩
 · rw [greedy_dead hi hs] at h2;cases h2
 · cases e
theorem Greedy.done {l:List α} {s:Str} {at_:Nat} {st:Option (Nat × Nat)} (h:Greedy star has l s at_ s.length st):matchS star has l s=matchS star has (l.drop at_) []:=by
 rw [Bool.eq_iff_iff,h.eq,List.drop_length]
 constructor
 · rintro (h1 | ⟨k,f,e,hf,h1⟩)
   · exact h1
   · obtain ⟨hk,⟨hkl,hks⟩,hfi,hi2,hno⟩:=h.last k f e
     rw [List.drop_eq_getElem_cons hkl] at h1
     obtain ⟨j,hj,h1⟩:=(match_star star has hks).1 h1
     rw [List.drop_drop] at h1
     rw [List.length_drop] at hj
     obtain ⟨h2,_⟩:=match_run star has (at_ - (k+1)) _ (by rw [List.length_drop];have:=h.le_at;omega) hno h1
     rw [List.length_drop] at h2
     omega
 · exact Or.inl
theorem match_nil_star {l:List α} {k:Nat} (hk:k<l.length) (hs:star l[k]=true):matchS star has (l.drop k) []=matchS star has (l.drop (k+1)) []:=by
 rw [List.drop_eq_getElem_cons hk,matchS,hs,Bool.true_and]
theorem match_nil_end {l:List α} {k:Nat} (hs:∀ h:k<l.length,star l[k]=false) (hk:k≤l.length):matchS star has (l.drop k) []=decide (k=l.length):=by
 rcases Nat.lt_or_ge k l.length with h | h
 · rw [List.drop_eq_getElem_cons h,match_lit_nil star has (hs h)]
   simp;omega
 · rw [List.drop_of_length_le h,matchS]
   simp;omega
end
end
section
section
variable {α:Type} (star:α→Bool) (has:α→UInt8→Bool)
variable {star has}
end
end
section
open Go.RowKit
def boolA (n:Nat) (f:Nat→Bool):Array Value:=Array.ofFn (n:=n) fun i=>.bool (f i)
theorem size_boolA (n:Nat) (f:Nat→Bool):(boolA n f).size=n:=by simp [boolA]
theorem boolA_get (n:Nat) (f:Nat→Bool) (c:Nat) (h:c<n):(boolA n f)[c]? = some (.bool (f c)):=by simp [boolA,h]
theorem boolA_set (n:Nat) (f:Nat→Bool) (c:Nat) (b:Bool):(boolA n f).setIfInBounds c (.bool b)=boolA n (fun d=>if d=c then b else f d):=by
 apply Array.ext_getElem?
 intro i
 rw [Array.getElem?_setIfInBounds,size_boolA]
 by_cases hi:i<n
 · rw [boolA_get _ _ _ hi,boolA_get _ _ _ hi]
   by_cases e:c=i
   · subst e;rw [if_pos rfl,if_pos hi,if_pos rfl]
   · rw [if_neg e,if_neg (fun x=>e x.symm)]
 · rw [Array.getElem?_eq_none (by rw [size_boolA];omega),Array.getElem?_eq_none (by rw [size_boolA];omega)]
   by_cases e:c=i
   · rw [if_pos e,if_neg (by omega)]
   · rw [if_neg e]
theorem boolA_one (n:Nat) (f:Nat→Bool):(boolA n f).all (·.oneCell')=true:=by
 rw [Array.all_eq_true]
 intro i hi
 have h:=boolA_get n f i (by rw [size_boolA] at hi;exact hi)
 rw [Array.getElem?_eq_getElem hi] at h
 have h':=Option.some.inj h
 rw [h']
 simp [Value.oneCell']
theorem boolA_congr {n:Nat} {f g:Nat→Bool} (h:∀ c,c<n→f c=g c):boolA n f=boolA n g:=by
 apply Array.ext_getElem?
 intro i
 by_cases hi:i<n
 · rw [boolA_get _ _ _ hi,boolA_get _ _ _ hi,h i hi]
 · rw [Array.getElem?_eq_none (by rw [size_boolA];omega),Array.getElem?_eq_none (by rw [size_boolA];omega)]
attribute [irreducible] boolA
end
section
open Go.RowKit
def membersK (r:Str):Option (List (UInt8 × UInt8) × Str):=membersS r.length r
theorem membersK_nil:membersK []=none:=rfl
theorem membersK_end (r:Str):membersK (93 :: r)=some ([],r):=rfl
theorem membersK_rng (c b:UInt8) (r:Str) (hc:c≠93) (hr:rngS r=some b):membersK (c :: r)=if c≤b then (membersK (r.drop 2)).map fun x=>((c,b) :: x.1,x.2) else none:=by
 unfold membersK
 rw [List.length_cons,membersS,if_neg hc,hr]
 dsimp only
 rw [membersS_fuel r.length (r.drop 2) (by rw [List.length_drop];omega) (r.drop 2).length (Nat.le_refl _)]
theorem membersK_one (c:UInt8) (r:Str) (hc:c≠93) (hr:rngS r=none):membersK (c :: r)=(membersK r).map fun x=>((c,c) :: x.1,x.2):=by
 unfold membersK
 rw [List.length_cons,membersS,if_neg hc,hr]
theorem inRs_snoc (rs:List (UInt8 × UInt8)) (a b:UInt8) (c:Nat):inRs (rs++[(a,b)]) c=(inRs rs c || (decide (a.toNat≤c) && decide (c≤b.toNat))):=by simp [inRs]
theorem setCell_known {W:World} {g i:Nat} {A B:Array Value} {T:TypeId} {u:Value} (h:W.heap[g]? = some (.cells A T (0,0))) (hs:A.setIfInBounds i u=B):(W.setCell ⟨g,i,none⟩ u).heap[g]? = some (.cells B T (0,0)):=by
 rw [heap_setCell_same _ _ _ _ _ _ h,hs]
theorem pr_of {p:ByteArray} (h:printS (L p)=true) (j:Nat) (hj:j<p.size):32≤(p[j].toNat:Int)∧(p[j].toNat:Int)≤126:=by
 have:=List.all_eq_true.1 h p[j] (by rw [←L_get p j hj];exact List.getElem_mem _)
 simpa [pr] using this
theorem rng_some {p:ByteArray} {j:Nat} {b:UInt8} (h:rngS ((L p).drop (j+1))=some b):∃ h1:j+1<p.size,∃ h2:j+2<p.size,p[j+1]=45∧p[j+2]=b∧b≠93:=by
 unfold rngS at h
 split at h
 · rename_i h45
   have h1:j+1<p.size:=by
    rcases Nat.lt_or_ge (j+1) p.size with h1 | h1
    · exact h1
    · rw [List.drop_eq_nil_of_le (by rw [len_L];exact h1)] at h45;simp at h45
   rw [drop_cons p (j+1) h1] at h45 h
   have e45:p[j+1]=45:=by simpa using h45
   split at h
   · rename_i b' hb'
     have h2:j+2<p.size:=by
      rcases Nat.lt_or_ge (j+2) p.size with h2 | h2
      · exact h2
      · rw [List.drop_eq_nil_of_le (by rw [len_L];exact h2)] at hb';simp at hb'
     rw [drop_cons p (j+1+1) h2] at hb'
     have eb:p[j+2]=b':=by simpa using hb'
     split at h
     · cases h
     · rename_i hne
       obtain rfl:=Option.some.inj h
       exact ⟨h1,h2,e45,eb,hne⟩
   · cases h
 · cases h
theorem rng_none {p:ByteArray} {j:Nat} (h:rngS ((L p).drop (j+1))=none) (h2:j+2<p.size):¬ (p[j+1]'(by omega)=45∧p[j+2]≠93):=by
 rintro ⟨a,b⟩
 unfold rngS at h
 rw [drop_cons p (j+1) (by omega),drop_cons p (j+1+1) h2] at h
 simp only [List.head?_cons,List.getElem?_cons_succ,List.getElem?_cons_zero,a,if_true] at h
 rw [if_neg b] at h
 cases h
end
section
open Go.RowKit
theorem foldl_setAll:∀ (l:List Value) (k:Nat) (c:Array Value),(l.zipIdx k).foldl (fun acc x=>acc.setIfInBounds (0+x.2) x.1) c=setAll c k l
 | [],_,_=>rfl
 | v :: r,k,c=>by
   rw [List.zipIdx_cons,List.foldl_cons,setAll]
   show List.foldl _ (c.setIfInBounds (0+k) v) _=_
   rw [Nat.zero_add]
   exact foldl_setAll r (k+1) _
theorem fill_one (cs cells:Array Value) (n:Nat) (h1:cs.size=n) (h2:cells.size=n):Instr.fill (fun i=>some (i*n,n)) cells [(0,.agg cs)]=some cs:=by
 have e:(Value.agg cs).cells=cs:=rfl
 simp only [Instr.fill,e,Nat.zero_mul]
 rw [if_neg (by simp [h1,h2])]
 congr 1
 rw [←Array.foldl_toList,Array.toList_zipIdx]
 have:=foldl_setAll cs.toList 0 cells
 rw [setAll_whole cells cs (by rw [h1,h2])] at this
 exact this
theorem lt_self1 (a:Int):(a<a+1)=True:=eq_true (by omega)
attribute [local go_sem] lt_self1
theorem printS_drop {p:ByteArray} (h:printS (L p)=true) (j:Nat) (hj:j<p.size):(p[j].toNat:Int)<127:=by have:=pr_of h j hj;omega
end
section
def hasB (e:El) (c:UInt8):Bool:=e.has c.toNat
def altB (l:List El) (s:Str):Bool:=matchS El.isStar hasB l s
theorem globF_sizes {M:Nat}:∀ (n:Nat) (r:Str) (acc:List (List El)) (cur:List El) (alts:List (List El)),globF n r acc cur=some alts→(∀ l∈acc,l.length≤M)→cur.length+r.length≤M→(∀ l∈alts,l.length≤M)∧alts.length≤acc.length+1+r.length
 | 0,_,_,_,_,h,_,_=>by cases h
 | n + 1,[],acc,cur,alts,h,h1,h2=>by
   obtain rfl:=Option.some.inj h
   refine ⟨fun l hl=>?_,by simp⟩
   rcases List.mem_append.1 hl with hl | hl
   · exact h1 l hl
   · obtain rfl:=List.mem_singleton.1 hl
     simpa using h2
 | n + 1,c :: r,acc,cur,alts,h,h1,h2=>by
   rw [List.length_cons] at h2
   rw [globF] at h
   split at h
   · obtain ⟨i1,i2⟩:=globF_sizes n r _ _ alts h (fun l hl=>by
      rcases List.mem_append.1 hl with hl | hl
      · exact h1 l hl
      · obtain rfl:=List.mem_singleton.1 hl
        omega) (by simp;omega)
     refine ⟨i1,?_⟩
     rw [List.length_append,List.length_singleton] at i2
     rw [List.length_cons]
     omega
   · cases he:elS c r with
     | none=>rw [he] at h;cases h
     | some x =>
       rw [he] at h
       obtain ⟨e,r'⟩:=x
       have hl:=elS_len c r _ he
       dsimp only at h hl
       obtain ⟨i1,i2⟩:=globF_sizes n r' _ _ alts h h1 (by rw [List.length_append,List.length_singleton];omega)
       refine ⟨i1,?_⟩
       rw [List.length_cons]
       omega
theorem globS_sizes {p:Str} {alts:List (List El)} (h:globS p=some alts):(∀ l∈alts,l.length≤256)∧alts.length≤257:=by
 unfold globS at h
 split at h
 · rename_i hp
   obtain ⟨h1,h2⟩:=globF_sizes (M:=256) _ _ _ _ _ h (fun l hl=>by cases hl) (by have:=hp.1;simpa using this)
   exact ⟨h1,by have:=hp.1;simp at h2;omega⟩
 · cases h
def globM (p s:Str):Bool:=match globS p with
 | none=>false
 | some alts=>printS s && alts.any fun l=>altB l s
end
section
open Go.RowKit
def elP (n:Nat) (st:Bool) (f:Nat→Bool):Array Value:=#[.int .u8 n,.bool st]++boolA 127 f
theorem size_elP (n:Nat) (st:Bool) (f:Nat→Bool):(elP n st f).size=129:=by rw [elP,Array.size_append,size_boolA];rfl
theorem elP_get (n:Nat) (st:Bool) (f:Nat→Bool) (c:Nat) (h:c<127):(elP n st f)[2+c]? = some (.bool (f c)):=by
 rw [elP,Array.getElem?_append_right (by simp),←boolA_get 127 f c h]
 congr 1
 simp
theorem elP_at (n:Nat) (st:Bool) (f:Nat→Bool) (i:Nat) (h:2≤i):(elP n st f)[i]? = (boolA 127 f)[i - 2]?:=by
 rw [elP,Array.getElem?_append_right (by simpa using h)]
 rfl
theorem elP_lo (n:Nat) (st:Bool) (f g:Nat→Bool) (i:Nat) (h:i<2):(elP n st f)[i]? = (elP n st g)[i]?:=by
 rw [elP,elP,Array.getElem?_append_left (by simpa using h),Array.getElem?_append_left (by simpa using h)]
theorem elP_set (n:Nat) (st:Bool) (f:Nat→Bool) (c:Nat) (b:Bool):(elP n st f).setIfInBounds (2+c) (.bool b)=elP n st (fun d=>if d=c then b else f d):=by
 apply Array.ext_getElem?
 intro i
 rw [Array.getElem?_setIfInBounds,size_elP]
 by_cases h2:i<2
 · rw [if_neg (by omega)]
   exact elP_lo _ _ _ _ i h2
 · rw [elP_at _ _ _ i (by omega),elP_at _ _ _ i (by omega),←boolA_set,Array.getElem?_setIfInBounds,size_boolA]
   by_cases e:2+c=i
   · rw [if_pos e,if_pos (show c=i - 2 by omega)]
     by_cases hc:c<127
     · rw [if_pos (by omega),if_pos (by omega)]
     · rw [if_neg (by omega),if_neg (by omega)]
   · rw [if_neg e,if_neg (by omega)]
theorem elP_one (n:Nat) (st:Bool) (f:Nat→Bool):(elP n st f).all (·.oneCell')=true:=by
 have h:=boolA_one 127 f
 unfold elP
 rw [Array.all_append,h]
 simp [Value.oneCell']
theorem elP_congr {n:Nat} {st:Bool} {f g:Nat→Bool} (h:∀ c,c<127→f c=g c):elP n st f=elP n st g:=by rw [elP,elP,boolA_congr h]
theorem zeroSet:Tryz.zeroCells268=boolA 127 (fun _=>false):=by
 unfold boolA
 kernel_rfl
theorem zeroElP:Tryz.zeroCells270=elP 0 false (fun _=>false):=by
 unfold elP boolA
 kernel_rfl
theorem bd_lit (n:Nat):Tryz.prog.built 270 [(0,.int .u8 n)]=some (elP n false (fun _=>false)):=by
 unfold elP boolA
 kernel_rfl
theorem bd_set (f:Nat→Bool):Tryz.prog.built 270 [(2,.agg (boolA 127 f))]=some (elP 0 false f):=by
 unfold elP boolA
 kernel_rfl
theorem bd_star (f:Nat→Bool):Tryz.prog.built 270 [(1,.bool true),(2,.agg (boolA 127 f))]=some (elP 0 true f):=by
 unfold elP boolA
 kernel_rfl
theorem bd_none:Tryz.prog.built 268 []=some (boolA 127 (fun _=>false)):=by
 unfold boolA
 kernel_rfl
attribute [irreducible] elP
end
section
open Go.RowKit
theorem setSize:(Tryz.prog.info? 268).map (·.size)=some 127:=by kernel_rfl
theorem elPSize:(Tryz.prog.info? 270).map (·.size)=some 129:=by kernel_rfl
noncomputable def ldSet (v:Value):Sem Value:=Instr.loadAt 268 v
theorem ld_set (v:Value):Instr.loadAt 268 v=ldSet v:=rfl
theorem ldGs_at {w:World} {g:Nat} {cs:Array Value} {t:TypeId} {fr:Nat × Nat} (h:w.heap[g]? = some (.cells cs t fr)) (hs:cs.size=127):(ldSet (.pointer (some ⟨g,0,none⟩))).run Tryz.prog w=.ok (.agg cs) w:=by
 unfold ldSet
 simp only [Instr.loadAt,Instr.sureAddr,Sem.run_bind,Sem.run_pure,Result.andThen_ok]
 exact run_loadVar_row w g t 268 cs fr _ h Tryz.underlying268 rfl (by rw [hs];exact setSize)
attribute [irreducible] ldSet
noncomputable def stSet (v u:Value):Sem Unit:=Instr.storeAt 268 v u
theorem st_set (v u:Value):Instr.storeAt 268 v u=stSet v u:=rfl
theorem stSet_at {w:World} {g:Nat} {old cs:Array Value} {t:TypeId} (h:w.heap[g]? = some (.cells old t (0,0))) (ho:old.size=127) (hs:cs.size=127) (h1:cs.all (·.oneCell')=true):(stSet (.pointer (some ⟨g,0,none⟩)) (.agg cs)).run Tryz.prog w=.ok () (w.setRow g cs):=by
 unfold stSet
 simp only [Instr.storeAt,Instr.sureAddr,Sem.run_bind,Sem.run_pure,Result.andThen_ok]
 exact run_storeVar_row w g t 268 old cs h (by rw [hs];exact setSize) (by rw [ho,hs]) h1
attribute [irreducible] stSet
noncomputable def bdSet (parts:Array (Nat × Value)):Sem Value:=Instr.build 268 parts
theorem bd_set' (parts:Array (Nat × Value)):Instr.build 268 parts=bdSet parts:=rfl
theorem bdSet_none (w:World):(bdSet #[]).run Tryz.prog w=.ok (.agg (boolA 127 (fun _=>false))) w:=by
 unfold bdSet
 exact run_build w _ _ _ bd_none
attribute [irreducible] bdSet
noncomputable def ldElP (v:Value):Sem Value:=Instr.loadAt 270 v
theorem ld_elP (v:Value):Instr.loadAt 270 v=ldElP v:=rfl
theorem ldElP_at {w:World} {g:Nat} {cs:Array Value} {t:TypeId} {fr:Nat × Nat} (h:w.heap[g]? = some (.cells cs t fr)) (hs:cs.size=129):(ldElP (.pointer (some ⟨g,0,none⟩))).run Tryz.prog w=.ok (.agg cs) w:=by
 unfold ldElP
 simp only [Instr.loadAt,Instr.sureAddr,Sem.run_bind,Sem.run_pure,Result.andThen_ok]
 exact run_loadVar_row w g t 270 cs fr _ h Tryz.underlying270 rfl (by rw [hs];exact elPSize)
attribute [irreducible] ldElP
noncomputable def stElP (v u:Value):Sem Unit:=Instr.storeAt 270 v u
theorem st_elP (v u:Value):Instr.storeAt 270 v u=stElP v u:=rfl
theorem stElP_at {w:World} {g:Nat} {old cs:Array Value} {t:TypeId} (h:w.heap[g]? = some (.cells old t (0,0))) (ho:old.size=129) (hs:cs.size=129) (h1:cs.all (·.oneCell')=true):(stElP (.pointer (some ⟨g,0,none⟩)) (.agg cs)).run Tryz.prog w=.ok () (w.setRow g cs):=by
 unfold stElP
 simp only [Instr.storeAt,Instr.sureAddr,Sem.run_bind,Sem.run_pure,Result.andThen_ok]
 exact run_storeVar_row w g t 270 old cs h (by rw [hs];exact elPSize) (by rw [ho,hs]) h1
attribute [irreducible] stElP
noncomputable def bdElP (parts:Array (Nat × Value)):Sem Value:=Instr.build 270 parts
theorem bd_elP (parts:Array (Nat × Value)):Instr.build 270 parts=bdElP parts:=rfl
theorem bdElP_lit (n:Nat) (w:World):(bdElP #[(0,.int .u8 n)]).run Tryz.prog w=.ok (.agg (elP n false (fun _=>false))) w:=by
 unfold bdElP
 exact run_build w _ _ _ (bd_lit n)
theorem bdElP_set (f:Nat→Bool) (w:World):(bdElP #[(2,.agg (boolA 127 f))]).run Tryz.prog w=.ok (.agg (elP 0 false f)) w:=by
 unfold bdElP
 exact run_build w _ _ _ (bd_set f)
theorem bdElP_star (f:Nat→Bool) (w:World):(bdElP #[(1,.bool true),(2,.agg (boolA 127 f))]).run Tryz.prog w=.ok (.agg (elP 0 true f)) w:=by
 unfold bdElP
 exact run_build w _ _ _ (bd_star f)
attribute [irreducible] bdElP
noncomputable def bsElP (n:Nat) (parts:Array (Nat × Value)):Sem Value:=Instr.buildSlice 238 n parts
theorem bs_elP (n:Nat) (parts:Array (Nat × Value)):Instr.buildSlice 238 n parts=bsElP n parts:=rfl
theorem elPInfo:(Tryz.prog.info? 270).map (fun i=>(i.zero.map (·.cells.size),i.size,i.bytes))=some (some 129,129,129):=by kernel_rfl
theorem elPParts:∃ i z,Tryz.prog.info? 270=some i∧i.zero=some z∧i.size=129∧i.bytes=129∧z.cells.size=129:=by
 have h:=elPInfo
 cases hq:Tryz.prog.info? 270 with
 | none=>rw [hq] at h;simp at h
 | some i =>
   rw [hq] at h
   simp only [Option.map_some,Option.some.injEq,Prod.mk.injEq] at h
   obtain ⟨h1,h2,h3⟩:=h
   cases hz:i.zero with
   | none=>rw [hz] at h1;simp at h1
   | some z=>rw [hz] at h1;exact ⟨i,z,rfl,hz,h2,h3,by simpa using h1⟩
theorem slPInfo:(Tryz.prog.info? 238).map (fun i=>(i.zero,i.size,i.bytes))=some (some (.slice none 0 0),1,24):=by kernel_rfl
theorem bsElP_at (cs:Array Value) (hs:cs.size=129) (w:World):(bsElP 1 #[(0,.agg cs)]).run Tryz.prog w=.ok (.slice (some ⟨w.heap.size,0,none⟩) 1 1) (w.alloc (.cells cs 270)):=by
 obtain ⟨i0,z,hi0,hz0,hz1,hz2,hz3⟩:=elPParts
 unfold bsElP
 refine run_buildSlice w _ _ 1 _ cs i0 z Tryz.underlying238 hi0 hz0 (by rw [hz1];decide) (by rw [hz1];decide) ?_
 rw [hz1]
 exact fill_one cs _ 129 hs (by simp)
attribute [irreducible] bsElP
def allB:Nat→Bool:=fun c=>decide (32≤c) && decide (c≤126)
attribute [local go_sem ↓] ld_set st_set
set_option maxHeartbeats 1000000 in
theorem every_any (w:World):Calls Tryz.prog 231 #[] w fun e w'=>e=.returned (.agg (boolA 127 allB))∧Below w.heap.size w w':=by
 go_enter Tryz.func231,Tryz.ntmps231
 go_wp2
 rw [zeroSet]
 obtain ⟨W1,hW1⟩:∃ W1,(w.alloc (.cells (boolA 127 (fun _=>false)) 268)).alloc (.cells (boolA 127 (fun _=>false)) 268)=W1:=⟨_,rfl⟩
 have h0:W1.heap[w.heap.size]? = some (.cells (boolA 127 (fun _=>false)) 268 (0,0)):=by rw [←hW1];exact heap_alloc2_old w _ _
 have h1:W1.heap[w.heap.size+1]? = some (.cells (boolA 127 (fun _=>false)) 268 (0,0)):=by rw [←hW1];exact heap_alloc2_new w _ _
 have hb:Below w.heap.size w W1:=by rw [←hW1];exact ((Below.refl _ _).alloc (Nat.le_refl _) _).alloc (by simp) _
 rw [hW1]
 have HB:=Lib.hid hb
 have H0:=Lib.hid h0
 have H1:=Lib.hid h1
 clear hW1 hb h0 h1
 go_loopg [2] 97 (fun gk s2 wr=>∃ k:Nat,s2=.int .i64 k∧32≤k∧k≤127∧k+gk=129∧Hid (wr.heap[w.heap.size]? = some (.cells (boolA 127 (fun _=>false)) 268 (0,0)))∧Hid (wr.heap[w.heap.size+1]? = some (.cells (boolA 127 (fun d=>decide (32≤d) && decide (d<k))) 268 (0,0)))∧Hid (Below w.heap.size w wr))
 case atStart =>
  refine ⟨32,rfl,by omega,by omega,rfl,H0.out,?_,HB.out⟩
  have e:(fun d=>decide (32≤d) && decide (d<32))=(fun _=>false):=by
   funext d
   simp only [Bool.and_eq_false_iff,decide_eq_false_iff_not]
   omega
  show _=_
  rw [e]
  exact H1.out
 case round =>
  obtain ⟨k,rfl,hk1,hk2,hk3,h0,hE,hB⟩:=hrel
  by_cases hk:k≤126
  · have hkI:(k:Int)≤126:=by omega
    have cG:=cellOf hE.out (boolA_get 127 _ k (by omega))
    have fG:=frozen_of_row _ _ k _ _ hE.out
    have hset:=boolA_set 127 (fun d=>decide (32≤d) && decide (d<k)) k true
    have ef:(fun d=>if d=k then true else (decide (32≤d) && decide (d<k)))=(fun d=>decide (32≤d) && decide (d<k+1)):=by
     funext d
     by_cases hd:d=k
     · rw [if_pos hd,hd];simp;omega
     · rw [if_neg hd]
       have:decide (d<k)=decide (d<k+1):=by rw [decide_eq_decide];omega
       rw [this]
    rw [ef] at hset
    have HS1:=Lib.hid (setCell_known hE.out hset)
    have HO:=Lib.hid ((show (wr.setCell ⟨w.heap.size+1,k,none⟩ (.bool true)).heap[w.heap.size]? = wr.heap[w.heap.size]? from heap_setCell_other _ _ _ _ (by dsimp only;omega)).trans h0.out)
    have HB2:=Lib.hid (hB.out.setCell (p:=⟨w.heap.size+1,k,none⟩) (by dsimp only;omega) (.bool true))
    clear hset ef hE hB h0
    go_wp2
    go_roundg (gk - 1)
    case measure=>omega
    case rel=>exact ⟨k+1,by go_num,by omega,by omega,by omega,HO.out,HS1.out,HB2.out⟩
  · obtain rfl:k=127:=by omega
    have e:(fun d=>decide (32≤d) && decide (d<127))=allB:=by
     funext d
     show _=(decide (32≤d) && decide (d≤126))
     have:decide (d<127)=decide (d≤126):=by rw [decide_eq_decide];omega
     rw [this]
    rw [e] at hE
    have hl:=ldGs_at hE.out (size_boolA _ _)
    have hs:=stSet_at h0.out (size_boolA _ _) (size_boolA 127 allB) (boolA_one 127 allB)
    have HB2:=Lib.hid (hB.out)
    have h0':=h0.out
    clear hE h0 hB e
    go_wp2
    refine post_cellrow rfl (by rfl) h0' Tryz.underlying268 rfl (by rw [size_boolA];exact setSize) (by rfl) ?_
    exact ⟨rfl,HB2.out.grown (grown_setRow wr w.heap.size _) HB2.out.size (fun j e=>by cases e;exact Nat.le_refl _)⟩
end
section
open Go.RowKit
theorem globS_le {s:Str} (h:¬ 256<s.length):globS s=if printS s then globP s else none:=by
 unfold globS
 by_cases hp:printS s=true
 · rw [if_pos ⟨by omega,hp⟩,if_pos hp]
 · rw [if_neg (fun x=>hp x.2),if_neg hp]
theorem globE_le {s:Str} (h:¬ 256<s.length):globE s=if (if printS s then globP s else none).isSome then 0 else 20:=by
 unfold globE
 rw [if_neg h,globS_le h]
end
section
open Go.RowKit
end
end Go.Proofs.YtobcmlmbblgcdaaGreatDoor
